/- Who seems to be down: Leader, Suspects. -/
import Derived.Test.YtkifmdfmbmbdaaaDetC
import Derived.Test.YtkifmdfmbmbdaaaSl
import Derived.Test.YtkifmdfmbmbdaaaStep
namespace Go.Proofs.Ytkifmdfmbmbdaaa.G
open Go.RowKit Go.Shelf Go.Proofs.YtkifmdfmbmbdaaaW.PrintWords Go.Proofs.YtkifmdfmbmbdaaaW.PrintMore
set_option linter.unusedVariables false
set_option linter.unusedSimpArgs false
attribute [local go_sem] Oper.semAt_some

theorem results_cell1 {P : Program} {fn : Func} {p : Tmp} {ta : TypeId} (h : fn.results = #[.cell p ta]) (tmps : Array Value) (w : World) {A : Nat} {u : Value}
    (hp : tmps[p]?.getD undef = .pointer (some ⟨A, 0, none⟩)) (hu : Boxed w A ta u) (l1 : ∀ W : World, Boxed W A ta u → (loadVar ta ⟨A, 0, none⟩).run P W = .ok u W) :
    (results fn tmps).run P w = .ok u w := by
  simp [results, h, hp, asAddr, l1 w hu]
theorem load_int {W : World} {B : Nat} {v : Int} (h : Boxed W B 3 (.int .i64 v)) : (loadVar 3 ⟨B, 0, none⟩).run Try.prog W = .ok (.int .i64 v) W := by
  have := h.cell
  simp [go_sem, this]
def leaderF (s : Det) : Int := match whoL leaderP s.ps s.ps.length with | [] => -1 | i :: _ => i
/-- What an iterator over the nodes reads. -/
def RdD (n g M k : Nat) : Prop := k = n + 1 ∨ k = n + 1 + 1 ∨ k = g ∨ k = M
set_option maxRecDepth 100000 in
set_option maxHeartbeats 4000000 in
theorem Leader.is (g M : Nat) (s : Det) (w : World) (h : DetS w g M s) (hl : s.ps.length ≤ 1000000) :
    Calls Try.prog 11 #[.pointer (some ⟨g, 0, none⟩)] w fun e w' => e = .returned (.int .i64 (leaderF s)) ∧ Below w.heap.size w w' := by
  refine (callsIn_wide (n := 6)).1 ?_
  refine callsIn_of_wp_marks Try.func11 rfl trivial ?_ rfl
  simp only [Try.ntmps11, List.size_toArray, List.length_cons, List.length_nil, Nat.reduceAdd, Nat.reduceSub, Array.replicate_succ, Array.replicate_zero, List.push_toArray, List.append_toArray, List.nil_append, List.cons_append]
  refine wpIn_wide.2 ?_
  go_wp2_with (go_at_call 18; refine ((callsIn_wide (n := 6)).1 (those_in 6 _ _ _ _)).mono ?_; rintro e w2 ⟨rfl, rfl⟩)
  have zr := ((Boxed.new w 3 (.int .i64 0)).alloc (.cells #[.pointer (some ⟨g, 0, none⟩)] 24)).alloc (.cells #[.func (.func 19) #[] #[]] 51)
  have zf := (Boxed.new (w.alloc (.cells #[.int .i64 0] 3)) 24 (.pointer (some ⟨g, 0, none⟩))).alloc (.cells #[.func (.func 19) #[] #[]] 51)
  have zn := Boxed.new ((w.alloc (.cells #[.int .i64 0] 3)).alloc (.cells #[.pointer (some ⟨g, 0, none⟩)] 24)) 51 (.func (.func 19) #[] #[])
  have zB : Below w.heap.size w (((w.alloc (.cells #[.int .i64 0] 3)).alloc (.cells #[.pointer (some ⟨g, 0, none⟩)] 24)).alloc (.cells #[.func (.func 19) #[] #[]] 51)) := by go_grown
  simp only [World.size_alloc] at zr zf zn
  obtain ⟨W0, hW0⟩ : ∃ W0, ((w.alloc (.cells #[.int .i64 0] 3)).alloc (.cells #[.pointer (some ⟨g, 0, none⟩)] 24)).alloc (.cells #[.func (.func 19) #[] #[]] 51) = W0 := ⟨_, rfl⟩
  have hs0 : W0.heap.size = w.heap.size + 3 := by rw [← hW0]; simp
  rw [hW0] at zr zf zn zB ⊢
  have hlt := h.lt
  have hS0 := h.below zB
  have hrd : ∀ k, RdD w.heap.size g M k → k < W0.heap.size := by rintro k (rfl | rfl | rfl | rfl) <;> omega
  clear hW0
  refine wpIn_wide.1 (?_ : Code.wpIn Fence.wide 6 Try.prog _ _ _ _)
  refine wpIn_rangeFunc_ownG (F := Fence.wide) rfl (by omega) (gf := 22) (lb := #[.pointer (some ⟨w.heap.size + 1, 0, none⟩), .pointer (some ⟨w.heap.size + 1 + 1, 0, none⟩)]) rfl trivial (enters_of Try.func22 (by kernel_rfl) rfl)
    (thoseL_stops (6 - 1) (by omega) (w.heap.size + 1) (w.heap.size + 1 + 1) g M s (RdD w.heap.size g M) (.inl rfl) (.inr (.inl rfl)) (.inr (.inr (.inl rfl))) (.inr (.inr (.inr rfl))) hl W0 hrd zf.cell zn.cell hS0) Keeps.trans (keeps_b hrd) (Below.refl _ _) (fun _ => rfl)
    (fun pre W => pre = [] ∧ Boxed W w.heap.size 3 (.int .i64 0) ∧ Below w.heap.size w W)
    (fun cd pre W => cd = .ret ∧ (∃ x : Nat, pre = [x] ∧ Boxed W w.heap.size 3 (.int .i64 x)) ∧ Below w.heap.size w W)
    ?own ?ownx ⟨rfl, zr, zB⟩
    (fun x => { tmps := #[.pointer (some ⟨g, 0, none⟩), undef, .pointer (some ⟨w.heap.size, 0, none⟩), .int .i64 x, .pointer (some ⟨g, 0, none⟩), .bool true, .pointer (some ⟨g, 0, none⟩), .func (.func 22) #[] #[.pointer (some ⟨w.heap.size + 1, 0, none⟩), .pointer (some ⟨w.heap.size + 1 + 1, 0, none⟩)], .int .i64 x, undef], defers := [] }) ?assign ?body ?done ?stop
  case own =>
    rintro s' X Y row ⟨hp, hb, hB⟩ hg hr
    exact ⟨hp, hb.kept hg (fun e => by have := (hr _ e.symm).1; omega), hB.grown hg hB.size (fun k e => by have := (hr k e).1; omega)⟩
  case ownx =>
    rintro cd s' X Y row ⟨hc, ⟨x, hp, hb⟩, hB⟩ hg hr
    exact ⟨hc, ⟨x, hp, hb.kept hg (fun e => by have := (hr _ e.symm).1; omega)⟩, hB.grown hg hB.size (fun k e => by have := (hr k e).1; omega)⟩
  case assign =>
    intro l x W K hK
    gi_wp2
    exact hK
  case body =>
    rintro l pre x W ⟨rfl, hb, hB⟩ _
    have c0 := hb.cell
    have f0 := hb.frozen
    gi_wp2
    exact ⟨(KeepsOthers.setCell _ _ _).from _, rfl, ⟨x, by simp, hb.set (.int .i64 x)⟩, hB.setCell (p := ⟨w.heap.size, 0, none⟩) (Nat.le_refl _) _⟩
  case done =>
    rintro D ys W hD hys ⟨rfl, hb, hB⟩ hK
    have c0 := hb.cell
    have f0 := hb.frozen
    have ho : leaderF s = -1 := by unfold leaderF; rw [← hys]
    have hKD := (Below.heap_setCell W ⟨w.heap.size, 0, none⟩ (.int .i64 (-1)) D (by show D ≠ w.heap.size; omega)).trans hK
    have hb1 := hb.set (.int .i64 (-1))
    have hB1 := hB.setCell (p := ⟨w.heap.size, 0, none⟩) (Nat.le_refl _) (.int .i64 (-1))
    go_wp2
    refine ⟨by simp, .inl ⟨_, _, rfl, run_takeDeferred hKD, ?_⟩⟩
    refine ⟨_, results_cell1 rfl _ _ rfl ((World.putObj_heap_other (by omega)).trans hb1) (fun _ h => load_int h), ?_⟩
    exact ⟨by rw [ho], hB1.trans (belowK_b (w := W0) (by omega) _ D _ _ hD hKD rfl rfl)⟩
  case stop =>
    rintro D c pre W hD hpre ⟨rfl, ⟨x, rfl, hb⟩, hB⟩ hK
    have ho : leaderF s = x := by
      obtain ⟨r, hr⟩ := hpre
      unfold leaderF
      rw [← hr]
      rfl
    refine wpIn_wide.2 ?_
    go_wp2
    refine ⟨by simp, .inl ⟨_, _, rfl, run_takeDeferred hK, ?_⟩⟩
    refine ⟨_, results_cell1 rfl _ _ rfl ((World.putObj_heap_other (by omega)).trans hb) (fun _ h => load_int h), ?_⟩
    exact ⟨by rw [ho], hB.trans (belowK_b (w := W0) (by omega) _ D _ _ hD hK rfl rfl)⟩
/-! ### collecting -/
/-- A row of numbers of the call's own. -/
def RowI (W : World) (base : Nat) (v : Value) (l : List Int) : Prop := Kd.R (Kd.int .i64) 3 W base (fun _ => True) v l
theorem RowI.nil (W : World) (base : Nat) : RowI W base (.slice none 0 0) [] := Kd.R_nil _ _ _ _ _
theorem RowI.below {W W' : World} {base : Nat} {v : Value} {l : List Int} (h : RowI W base v l) (hb : Below W.heap.size W W') : RowI W' base v l := Kd.R_below h hb
theorem und_ints : Try.prog.underlying 25 = some (.slice 3) := by kernel_rfl
theorem info_int : (Try.prog.info? 3).map (fun i => (i.zero, i.size, i.bytes)) = some (some (.int .i64 0), 1, 8) := by kernel_rfl
theorem plain_i64 : PlainK (Kd.int .i64) := ⟨fun h => h⟩
theorem rowOneI (W : World) (x : Int) : Kd.C (Kd.int .i64) (W.alloc (.cells #[.int .i64 x] 3)) (some ⟨W.heap.size, 0, none⟩) ([x] : List Int).length [x] := C_one (d := Kd.int .i64) (W := W) (x := x) (cs := [.int .i64 x]) rfl 3
theorem RowI.blk {W : World} {base : Nat} {v : Value} {l : List Int} (h : RowI W base v l) : ∀ k, v.ownBlock = some k → base ≤ k ∧ ∃ cs, W.heap[k]? = some (.cells cs 3 (0, 0)) := by
  intro k hk
  obtain ⟨inner, ho⟩ := Kd.R_own h
  rcases ho with ⟨_, hv | ⟨b, cap, cells, rfl, hge, hb, _⟩⟩
  · rw [hv.1] at hk; cases hk
  · cases hk
    exact ⟨hge, _, hb⟩
theorem RowI.abides {X Y : World} {base : Nat} {v : Value} {l : List Int} {row : Option Nat} (h : RowI X base v l) (hg : X.grownBy Y row) (hr : ∀ r, row = some r → ∃ o : Obj, X.heap[r]? = some o ∧ o.isCells = false) : RowI Y base v l := by
  refine Kd.R_grown2 h rfl hg (fun k hk e => ?_)
  obtain ⟨o, ho, hc⟩ := hr k hk
  obtain ⟨_, cs, hb⟩ := h.blk k e.symm
  rw [hb] at ho
  cases ho
  cases hc
/-- 'out = append(out, x)': all that a loop that collects owes. -/
theorem coll {W : World} {Bo base : Nat} {v : Value} {l : List Int} (hb : Boxed W Bo 25 v) (hR : RowI W base v l) (hl : l.length ≤ 1000000) (hbase : base ≤ W.heap.size) (hBo : base ≤ Bo) (x : Int) :
    ∃ v' W1, (∀ ty, (Builtin.append_ #[25, 25] ty #[v, .slice (some ⟨W.heap.size, 0, none⟩) 1 1]).run Try.prog (W.alloc (.cells #[.int .i64 x] 3)) = .ok v' W1) ∧ Boxed W1 Bo 25 v ∧
      Boxed (W1.setCell ⟨Bo, 0, none⟩ v') Bo 25 v' ∧ RowI (W1.setCell ⟨Bo, 0, none⟩ v') base v' (l ++ [x]) ∧ KeepsOthers W (W1.setCell ⟨Bo, 0, none⟩ v') ∧ Below base W (W1.setCell ⟨Bo, 0, none⟩ v') ∧
      (∀ k o, W.heap[k]? = some o → k ≠ Bo → (∀ cs, o ≠ .cells cs 3 (0, 0)) → (W1.setCell ⟨Bo, 0, none⟩ v').heap[k]? = some o) := by
  obtain ⟨v', W1, hr, hR', hg⟩ := append_own_R (P := Try.prog) (d := Kd.int .i64) (W := W.alloc (.cells #[.int .i64 x] 3)) 25 25 3 _ 8 und_ints info_int rfl (by decide) plain_i64 (Kd.R_alloc hR _) (rowOneI W x) (fun e => by cases e) (by simp; omega) (by omega) (by simp; omega)
  obtain ⟨in1, ho1⟩ := Kd.R_own hR
  obtain ⟨in2, ho2⟩ := Kd.R_own hR'
  obtain ⟨b1, b2, _, b4, b5⟩ := Boxed.appended hb (by decide) ho1 hbase hBo ho2 hg
  have hR1 : RowI W1 base v' (l ++ [x]) := hR'
  refine ⟨v', W1, fun ty => hr, b1, b2, Kd.R_grown2 hR1 rfl (grown_set W1 ⟨Bo, 0, none⟩ v') (fun k hk e => ?_), b4, b5, fun k o hk hne hc => ?_⟩
  · cases hk
    exact Kd.R_ne hR1 b1 (by decide) e
  · have hklt : k < W.heap.size := (Array.getElem?_eq_some_iff.1 hk).1
    have h1 : (W.alloc (.cells #[.int .i64 x] 3)).heap[k]? = some o := (Below.heap_alloc _ _ _ hklt).trans hk
    refine (Below.heap_setCell W1 ⟨Bo, 0, none⟩ v' k hne).trans ((hg.block k (by simp; omega) (fun e => ?_)).trans h1)
    obtain ⟨_, cs, hb'⟩ := hR.blk k e.symm
    rw [hk] at hb'
    exact hc cs (Option.some.inj hb')
end Go.Proofs.Ytkifmdfmbmbdaaa.G
