/- Records: what Read of the program tells. -/
import Derived.Test.YtmafolojopjenaaJouC
import Derived.Test.YtmafolojopjenaaSl
import Derived.Test.YtmafolojopjenaaStep
namespace Go.Proofs.Ytmafolojopjenaa.G
open Go.RowKit Go.Shelf Go.Proofs.YtmafolojopjenaaW.PrintWords Go.Proofs.Ytmafolojopjenaa.Cr Go.Proofs.Ytmafolojopjenaa.Jo
attribute [local go_sem] Oper.semAt_some

theorem info_str : (Try.prog.info? 9).map (fun i => (i.zero, i.size, i.bytes)) = some (some (.string ⟨#[]⟩), 1, 16) := by kernel_rfl
theorem und_strs : Try.prog.underlying 22 = some (.slice 9) := by kernel_rfl
/-- The data of what came, and where the last one ended. -/
def datas (pre : List (Nat × Jo.Bs)) : List ByteArray := pre.map fun x => mk x.2
def lastEnd (pre : List (Nat × Jo.Bs)) : Int := match pre.getLast? with | some x => (x.1 : Int) | none => 0
theorem lastEnd_snoc (pre : List (Nat × Jo.Bs)) (x : Nat × Jo.Bs) : lastEnd (pre ++ [x]) = (x.1 : Int) := by simp [lastEnd]
theorem datas_snoc (pre : List (Nat × Jo.Bs)) (x : Nat × Jo.Bs) : datas (pre ++ [x]) = datas pre ++ [mk x.2] := by simp [datas]
/-- What Read has beside. -/
structure ReadI (w0 w : World) (pre : List (Nat × Jo.Bs)) (W : World) : Prop where
  ex : ∃ v, Boxed W w0.heap.size 22 v ∧ Kd.R Kd.string 9 W w0.heap.size (fun _ => True) v (datas pre)
  good : Boxed W (w0.heap.size + 1) 3 (.int .i64 (lastEnd pre))
  below : Below w0.heap.size w0 W
  size : w.heap.size ≤ W.heap.size
theorem box_kept {X Y : World} {B : Nat} {t : TypeId} {v : Value} {row : Option Nat} (h : Boxed X B t v) (hg : X.grownBy Y row) (hr : ∀ r, row = some r → ∃ o : Obj, X.heap[r]? = some o ∧ o.isCells = false) : Boxed Y B t v := by
  refine (hg.block B h.lt ?_).trans h
  rintro rfl
  obtain ⟨o, ho, hc⟩ := hr B rfl
  rw [show X.heap[B]? = _ from h] at ho
  cases ho
  cases hc
theorem R_kept_cells {α : Type} {d : Kd α} {e : Nat} {X Y : World} {base : Nat} {ok : Nat → Prop} {v : Value} {xs : List α} {row : Option Nat} (h : d.R e X base ok v xs) (hg : X.grownBy Y row) (hr : ∀ r, row = some r → ∃ o : Obj, X.heap[r]? = some o ∧ o.isCells = false) : d.R e Y base ok v xs := by
  refine Kd.R_mono (Kd.R_grown (Kd.R_bound h) hg ?_) (fun k hk => hk.1)
  rintro k ⟨_, _, _, q, _, cells, hc⟩ rfl
  obtain ⟨o, ho, hoc⟩ := hr k rfl
  rw [hc] at ho
  cases ho
  cases hoc
theorem ReadI.own (w0 w : World) (B : Nat) (hB : w0.heap.size ≤ B) : OwnFrom B (ReadI w0 w) := by
  rintro s X Y row ⟨⟨v, h1, h2⟩, h3, h4, h5⟩ hg hr
  have hr' : ∀ r, row = some r → ∃ o : Obj, X.heap[r]? = some o ∧ o.isCells = false := fun r e => (hr r e).2
  refine ⟨⟨v, box_kept h1 hg hr', R_kept_cells h2 hg hr'⟩, box_kept h3 hg hr', h4.grown hg h4.size (fun k e => ?_), Nat.le_trans h5 hg.size⟩
  exact Nat.le_trans hB (hr k e).1
theorem drop_datas (l : Jo.Bs) (a : Nat) : datas (ends a (readL l)) = (readL l).map mk := by
  have : ∀ (ds : List Jo.Bs) (a : Nat), datas (ends a ds) = ds.map mk := by
    intro ds
    induction ds with
    | nil => intro a; rfl
    | cons d ds ih => intro a; show mk d :: datas (ends _ ds) = _; rw [ih]; rfl
  exact this _ _
theorem lastEnd_ends (ds : List Jo.Bs) : lastEnd (ends 0 ds) = ((recsL ds).length : Int) := by
  rcases List.eq_nil_or_concat ds with rfl | ⟨es, d, rfl⟩
  · rfl
  · rw [List.concat_eq_append, ends_snoc, lastEnd_snoc, recsL_append, recsL_one, List.length_append, recL_length, Nat.zero_add]
def readS (s : ByteArray) : List ByteArray × Int := ((readL s.data.toList).map mk, (goodL s.data.toList : Int))
theorem ret_vi {v : Value} {a b : Int} (h : a = b) : Ending.returned (.tuple #[v, .int .i64 a]) = .returned (.tuple #[v, .int .i64 b]) := by rw [h]
set_option maxRecDepth 100000 in
set_option maxHeartbeats 4000000 in
theorem Read.below (s : ByteArray) (hs : s.size ≤ 1000000000) (w : World) :
    Calls Try.prog 25 #[.string s] w fun e w' => ∃ v0_ : Value, e = .returned (.tuple #[v0_, .int .i64 (readS s).2]) ∧ Kd.R Kd.string 9 w' w.heap.size (fun _ => True) v0_ (readS s).1 ∧ Below w.heap.size w w' := by
  refine (callsIn_wide (n := 6)).1 ?_
  refine callsIn_of_wp_marks Try.func25 rfl trivial ?_ rfl
  simp only [Try.ntmps25, List.size_toArray, List.length_cons, List.length_nil, Nat.reduceAdd, Nat.reduceSub, Array.replicate_succ, Array.replicate_zero, List.push_toArray, List.append_toArray, List.nil_append, List.cons_append]
  refine wpIn_wide.2 ?_
  go_wp2_with (go_at_call 43; refine ((callsIn_wide (n := 6)).1 (records_in 6 _ _)).mono ?_; rintro e w' ⟨rfl, rfl⟩)
  have hz := Boxed.new ((w.alloc (.cells #[.slice none 0 0] 22)).alloc (.cells #[.int .i64 0] 3)) 9 (.string s)
  have hx0 := ((Boxed.new w 22 (.slice none 0 0)).alloc (.cells #[.int .i64 0] 3)).alloc (.cells #[.string s] 9)
  have hx1 := (Boxed.new (w.alloc (.cells #[.slice none 0 0] 22)) 3 (.int .i64 0)).alloc (.cells #[.string s] 9)
  have hB0 : Below w.heap.size w (((w.alloc (.cells #[.slice none 0 0] 22)).alloc (.cells #[.int .i64 0] 3)).alloc (.cells #[.string s] 9)) := (((Below.refl _ w).alloc (Nat.le_refl _) _).alloc (by simp) _).alloc (by simp; omega) _
  simp only [World.size_alloc] at hz hx1
  obtain ⟨W0, hW0⟩ : ∃ W0, ((w.alloc (.cells #[.slice none 0 0] 22)).alloc (.cells #[.int .i64 0] 3)).alloc (.cells #[.string s] 9) = W0 := ⟨_, rfl⟩
  have hs0 : W0.heap.size = w.heap.size + 3 := by rw [← hW0]; simp
  rw [hW0] at hz hx0 hx1 hB0 ⊢
  clear hW0
  refine wpIn_wide.1 (?_ : Code.wpIn Fence.wide 6 Try.prog _ _ _ _)
  refine wpIn_rangeFunc_ownF rfl (by omega) (gf := 52) (lb := #[.pointer (some ⟨w.heap.size + 1 + 1, 0, none⟩)]) rfl trivial (enters_of Try.func52 (by kernel_rfl) rfl)
    (records_stops (6 - 1) (by omega) (w.heap.size + 1 + 1) s (by omega) W0 (by omega) hz.cell) Keeps.trans (keeps_b (by rintro k rfl; omega)) (Below.refl _ _) (fun _ => rfl)
    (fun pre W => ReadI w W0 pre W)
    (fun _ _ _ => False)
    (ReadI.own w W0 _ (by omega))
    (fun _ _ _ _ _ hs _ _ => hs)
    ⟨⟨_, hx0, Kd.R_nil _ _ _ _ _⟩, hx1, hB0, Nat.le_refl _⟩
    (fun x => { tmps := #[Value.string s, undef, Value.slice none 0 0, Value.int IntKind.i64 0, Value.pointer (some { block := w.heap.size, off := 0 }), Value.pointer (some { block := w.heap.size + 1, off := 0 }), .int .i64 (x.1 : Int), .string (mk x.2), Value.string s, Value.func (Fn.func 52) #[] #[Value.pointer (some { block := w.heap.size + 1 + 1, off := 0 })], .int .i64 (x.1 : Int), .string (mk x.2), undef, undef, undef, undef, undef, undef, undef, undef, undef, undef, undef, undef], defers := [] }) ?assign ?body ?done ?stop
  case assign =>
    intro l x W K hK
    unfold recE
    gi_wp2
    exact hK
  case body =>
    rintro l pre x W ⟨⟨v, hv, hR⟩, hg, hB, hsW⟩ hlen
    obtain ⟨A, c, rfl, hlc, hC⟩ := Kd.R_reads hR
    have hc0 := hv.cell
    have hf0 := hv.frozen
    have hc1 := hg.cell
    have hf1 := hg.frozen
    have hl9 : (datas pre).length ≤ 1000000000 := by unfold datas; rw [List.length_map]; omega
    obtain ⟨v2, W2, hr, hR2, hb2⟩ := append_full_R (P := Try.prog) (d := Kd.string) (W := W.alloc (.cells #[.string (mk x.2)] 9)) 22 22 9 _ 16 und_strs info_str rfl (fun _ _ _ _ _ h => h) (Kd.C_alloc hC _) (C_one (d := Kd.string) (x := mk x.2) (cs := [.string (mk x.2)]) rfl 9) (c := 1) (by simp) (by simp; omega) (by omega)
    obtain ⟨A2, c2, rfl⟩ := Kd.R_slice hR2
    obtain ⟨n2, hn2⟩ : ∃ n2, (datas pre ++ [mk x.2]).length = n2 := ⟨_, rfl⟩
    rw [hn2] at hr hR2
    have hr' : ∀ ty, (Builtin.append_ #[22, 22] ty #[.slice A (datas pre).length (datas pre).length, .slice (some ⟨W.heap.size, 0, none⟩) 1 1]).run Try.prog (W.alloc (.cells #[.string (mk x.2)] 9)) = .ok (.slice A2 n2 c2) W2 := fun ty => hr
    have k0 : Boxed W2 w.heap.size 22 _ := boxed_callee (hv.alloc (.cells #[.string (mk x.2)] 9)) hb2
    have k1 : Boxed W2 (w.heap.size + 1) 3 _ := boxed_callee (hg.alloc (.cells #[.string (mk x.2)] 9)) hb2
    have hk0 := k0.cell
    have hkf0 := k0.frozen
    have hk1 := k1.cell
    have hkf1 := k1.frozen
    have hB2 : Below w.heap.size w W2 := (hB.alloc hB.size _).trans (hb2.mono (by have := hB.size; simp; omega))
    have hs2 : W.heap.size + 1 ≤ W2.heap.size := by have := hb2.size; simpa using this
    gi_wp2_with (gi_at_builtin; refine wpListIn_append_run rfl rfl rfl rfl hr' ?_)
    have hbW : Below W.heap.size W W2 := ((Below.refl _ W).alloc (Nat.le_refl _) _).trans (hb2.mono (by simp))
    refine ⟨((others_below hbW).trans (KeepsOthers.setCell _ ⟨w.heap.size, 0, none⟩ _)).trans (KeepsOthers.setCell _ ⟨w.heap.size + 1, 0, none⟩ _), (((Keeps.refl _ W).below hbW (by rintro k rfl; omega)).setCell (p := ⟨w.heap.size, 0, none⟩) (by show ¬ w.heap.size = _; omega) _).setCell (p := ⟨w.heap.size + 1, 0, none⟩) (by show ¬ w.heap.size + 1 = _; omega) _, ⟨⟨_, (k0.set _).other (by omega) _, ?_⟩, ?_, ?_, ?_⟩⟩
    · rw [datas_snoc]
      have hR3 := Kd.R_lower hR2 (show w.heap.size ≤ (W.alloc (.cells #[.string (mk x.2)] 9)).heap.size by have := hB.size; simp; omega)
      exact Kd.R_set (Kd.R_set hR3 k0 (by decide) 0 _) (((k1.other (B' := w.heap.size) (by omega) _))) (by decide) 0 _
    · rw [lastEnd_snoc]
      exact (k1.other (B' := w.heap.size) (by omega) _).set _
    · exact (hB2.setCell (p := ⟨w.heap.size, 0, none⟩) (Nat.le_refl _) _).setCell (p := ⟨w.heap.size + 1, 0, none⟩) (by show _ ≤ w.heap.size + 1; omega) _
    · simp [World.setCell]; omega
  case done =>
    rintro D ys W hD rfl ⟨⟨v, hv, hR⟩, hg, hB, hsW⟩ hK
    have hc0 := hv.cell
    have hc1 := hg.cell
    go_wp2
    go_quiet (fail)
    go_wp2
    refine ⟨by simp, .inl ⟨_, _, rfl, run_takeDeferred hK, ?_⟩⟩
    refine ⟨_, results_tmp2 rfl _ _ _, ?_⟩
    have hKq : (W.drewN nq).heap[D]? = some (.deferred (some [])) := hK
    refine ⟨v, ret_vi (by rw [lastEnd_ends]; rfl), ?_, ?_⟩
    · have h1 := R_kept_cells (Kd.R_drewN hR nq) (grownBy_putObj' (W.drewN nq) D (.deferred none)) (fun r e => by cases e; exact ⟨_, hKq, rfl⟩)
      rw [drop_datas] at h1
      exact h1
    · exact hB.trans ((below_drewN (Below.refl _ W) nq).trans (belowK_b (w := W0) (by omega) (W.drewN nq) D _ _ hD hKq rfl rfl))
  case stop =>
    rintro D c pre W _ _ h _
    exact h.elim
end Go.Proofs.Ytmafolojopjenaa.G
