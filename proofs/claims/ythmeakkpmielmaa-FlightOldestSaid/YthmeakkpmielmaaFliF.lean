/- What is on its way: Oldest, by the iterator over the places of a node's notes. -/
import Derived.RangeFuncNested
import Derived.RangeFuncBound
import Derived.RangeFuncCalls
import Derived.RangeFuncLeaves
import Derived.Shelf.Abstract
import Derived.Shelf.RegionOpen
import Derived.OwnWalkIn
import Derived.TacticsInMore
import Derived.LoopNIn
import Derived.LoopIn
import Derived.WalkMore
import Derived.Test.YthmeakkpmielmaaFliB
namespace Go.Proofs.Ythmeakkpmielmaa.G
open Go.RowKit Go.Shelf Go.Proofs.YthmeakkpmielmaaW.PrintWords Go.Proofs.Ythmeakkpmielmaa.P
set_option linter.unusedVariables false
set_option linter.unusedSimpArgs false
attribute [local go_sem] Oper.semAt_some

/-- The places, of the first k, of notes to a node. -/
def plc (t : Int) (l : List S35) (k : Nat) : List Nat := (List.range k).filter fun i => decide ((l[i]?.map (·.f1)) = some t)
theorem plc_no (t : Int) (l : List S35) (k : Nat) (h : k < l.length) (h0 : l[k].f1 ≠ t) : plc t l (k + 1) = plc t l k := by
  unfold plc
  rw [List.range_succ, List.filter_append]
  simp [h, h0]
theorem plc_yes (t : Int) (l : List S35) (k : Nat) (h : k < l.length) (h0 : l[k].f1 = t) : plc t l (k + 1) = plc t l k ++ [k] := by
  unfold plc
  rw [List.range_succ, List.filter_append]
  simp [h, h0]
theorem plc_len (t : Int) (l : List S35) (k : Nat) : (plc t l k).length ≤ k := by
  have := List.length_filter_le (fun i => decide ((l[i]?.map (·.f1)) = some t)) (List.range k)
  rw [List.length_range] at this
  exact this
theorem plc_prefix (t : Int) (l : List S35) {k n : Nat} (h : k ≤ n) : plc t l k <+: plc t l n := by
  obtain ⟨d, rfl⟩ := Nat.exists_eq_add_of_le h
  induction d with
  | zero => exact List.prefix_rfl
  | succ d ih =>
    refine (ih (by omega)).trans ?_
    unfold plc
    rw [← Nat.add_assoc, List.range_succ, List.filter_append]
    exact List.prefix_append _ _
def oldestF (l : List S35) (t : Int) : Int := match plc t l l.length with | [] => -1 | i :: _ => i
/-- The blocks that the iterator reads. -/
def RdO (Bf Bn g : Nat) (A : Option Addr) (n : Nat) (k : Nat) : Prop := k = Bf ∨ k = Bn ∨ k = g ∨ (0 < n ∧ ∃ ad, A = some ad ∧ k = ad.block)
set_option maxRecDepth 100000 in
set_option maxHeartbeats 4000000 in
theorem to1_in (n : Nat) (hn : 1 ≤ n) (l Bf Bn g : Nat) (t sn : Int) (A : Option Addr) (c : Nat) (ls : List S35) (hl : ls.length ≤ 1000000) (J Jx : List Nat → World → Prop)
    (W : World) (hJ : AbidesFrom W.heap.size J) (hA : ∀ k, RdO Bf Bn g A ls.length k → k < W.heap.size)
    (hY : ∀ pre x W1, J pre W1 → pre.length < ls.length → YieldAt Fence.wide (n - 1) Try.prog l #[.int .i64 (x : Nat)] W1 fun e W' =>
      (e = .returned (.bool true) ∧ J (pre ++ [x]) W' ∧ Keeps (RdO Bf Bn g A ls.length) W1 W') ∨ (e = .returned (.bool false) ∧ Jx (pre ++ [x]) W'))
    (hBf : W.cell? ⟨Bf, 0, none⟩ = some (.pointer (some ⟨g, 0, none⟩))) (hBn : W.cell? ⟨Bn, 0, none⟩ = some (.int .i64 t)) (hg : Blk W g 61 #[.int .u32 sn, .slice A ls.length c]) (hC : Kd.C k35 W A ls.length ls) (h0 : J [] W) :
    CallsIn Fence.wide n Try.prog 35 #[.func (.yield l) #[] #[], .pointer (some ⟨Bf, 0, none⟩), .pointer (some ⟨Bn, 0, none⟩)] W fun e W' => (∃ v, e = .returned v) ∧
      ((∃ ys, ys = plc t ls ls.length ∧ J ys W') ∨ (∃ pre, pre <+: plc t ls ls.length ∧ Jx pre W')) := by
  have g1 : W.cell? ⟨g, 1, none⟩ = some (.slice A ls.length c) := hg.cell 1
  refine callsIn_of_wp Try.func35 rfl trivial ?_ rfl
  simp only [Try.ntmps35, List.size_toArray, List.length_cons, List.length_nil, Nat.reduceAdd, Nat.reduceSub, Array.replicate_succ, Array.replicate_zero, List.push_toArray, List.append_toArray, List.nil_append, List.cons_append]
  refine wpIn_wide.2 (wp_scope_straight ((wpIn_wide (n := n)).1 ?_))
  gi_wp2
  refine wpIn_label ?_
  gi_wp2
  gi_loopw [11] (fun i wr => ∃ k : Nat, k ≤ ls.length ∧ i = .int .i64 k ∧ J (plc t ls k) wr ∧ Keeps (RdO Bf Bn g A ls.length) W wr ) (fun i _ => ls.length - (intOf i).toNat)
  case atStart => exact ⟨0, Nat.zero_le _, rfl, h0, Keeps.refl _ _⟩
  case round =>
    obtain ⟨k, hk, rfl, hJs, hnx⟩ := hrel
    by_cases hlt : k < ls.length
    · obtain ⟨ad, hAd, c0, c1, c2⟩ := at_T35 hC (k : Int) (by omega) (by omega)
      rw [rd_get_35 ls k hlt] at c0 c1 c2
      subst hAd
      have hS : RdO Bf Bn g (some ad) ls.length ad.block := .inr (.inr (.inr ⟨by omega, ad, rfl, rfl⟩))
      have hSB : ∀ j, RdO Bf Bn g (some ad) ls.length j → j < wr.heap.size := fun j hj => hnx.lt hj (hA j hj)
      have d0 := (hnx.cell (p := ad.add ((k : Int).toNat * 3)) (by rw [show (ad.add ((k : Int).toNat * 3)).block = ad.block by unfold Addr.add; split <;> rfl]; exact hS)).trans c0
      have d1 := (hnx.cell (p := ⟨(ad.add ((k : Int).toNat * 3)).block, (ad.add ((k : Int).toNat * 3)).off + 1, none⟩) (by rw [show (ad.add ((k : Int).toNat * 3)).block = ad.block by unfold Addr.add; split <;> rfl]; exact hS)).trans c1
      have d2 := (hnx.cell (p := ⟨(ad.add ((k : Int).toNat * 3)).block, (ad.add ((k : Int).toNat * 3)).off + 2, none⟩) (by rw [show (ad.add ((k : Int).toNat * 3)).block = ad.block by unfold Addr.add; split <;> rfl]; exact hS)).trans c2
      have dn := (hnx.cell (p := ⟨Bn, 0, none⟩) (.inr (.inl rfl))).trans hBn
      have dnlt : Bn < wr.heap.size := hSB _ (.inr (.inl rfl))
      obtain ⟨W2, hW2⟩ : ∃ W2, wr.alloc (.cells #[.int .u32 ls[k].f0, .int .i64 ls[k].f1, .string ls[k].f2] 35) = W2 := ⟨_, rfl⟩
      have hJ2 : J (plc t ls k) W2 := by rw [← hW2]; exact hJ _ _ _ none hJs (World.grownBy_alloc _ _ none) (fun r e => by cases e)
      have hk2 : Keeps (RdO Bf Bn g (some ad) ls.length) W W2 := by rw [← hW2]; exact hnx.alloc hSB _
      have HW2 := Lib.hid hW2; clear hW2
      clear c0 c1 c2
      simp only [Int.toNat_natCast] at d0 d1 d2
      by_cases hb : ls[k].f1 = t
      · have hbe : (ls[k].f1 == t) = true := by simpa using hb
        have hy' := Lib.hid (plc_yes t ls k hlt hb)
        have HB := Lib.hid hb; clear hb
        obtain ⟨fn, tmps, assign, body, hy, hR⟩ := hY _ k W2 hJ2 (by have := plc_len t ls k; omega)
        rw [← HW2.out] at hy
        gi_wp2
        rw [HW2.out]
        refine hR.mono ?_
        rintro e W3 (⟨rfl, hJ3, hk3⟩ | ⟨rfl, hJx3⟩)
        · gi_wp2
          go_roundw
          case rel => exact ⟨k + 1, by omega, by simp, by rw [hy'.out]; exact hJ3, hk2.trans hk3⟩
          case measure => simp [intOf]; omega
        · gi_wp2
          rw [Exit.noGoto_ret]
          refine bodyPost_ret (results_none rfl _ _ _) rfl ?_
          exact ⟨⟨_, rfl⟩, .inr ⟨_, by rw [← hy'.out]; exact plc_prefix t ls (by omega), hJx3⟩⟩
      · have hbe : (ls[k].f1 == t) = false := by simpa using hb
        have hn := Lib.hid (plc_no t ls k hlt hb)
        have HB := Lib.hid hb; clear hb
        gi_wp2
        rw [HW2.out]
        go_roundw
        case rel => exact ⟨k + 1, by omega, by simp, by rw [hn.out]; exact hJ2, hk2⟩
        case measure => simp [intOf]; omega
    · obtain rfl : k = ls.length := by omega
      gi_wp2
      rw [Exit.noGoto_normal]
      go_end0
      exact ⟨⟨_, rfl⟩, .inl ⟨_, rfl, hJs⟩⟩
theorem rdo_lt {W : World} {Bf Bn g : Nat} {A : Option Addr} {ls : List S35} (h1 : Bf < W.heap.size) (h2 : Bn < W.heap.size) (h3 : g < W.heap.size) (hC : Kd.C k35 W A ls.length ls) : ∀ k, RdO Bf Bn g A ls.length k → k < W.heap.size := by
  rintro k (rfl | rfl | rfl | ⟨hn, ad, hA, rfl⟩)
  · exact h1
  · exact h2
  · exact h3
  · obtain ⟨ad', e, c0, _⟩ := at_T35 hC 0 (by omega) (by omega)
    rw [hA] at e
    cases e
    have := World.block_lt_of_cell? W _ c0
    rwa [show (ad.add ((0 : Int).toNat * 3)).block = ad.block by unfold Addr.add; split <;> rfl] at this
theorem to_in (n : Nat) (p : Option Addr) (t : Int) (w : World) :
    CallsIn Fence.wide n Try.prog 28 #[.pointer p, .int .i64 t] w fun e w' => e = .returned (.func (.func 35) #[] #[.pointer (some ⟨w.heap.size, 0, none⟩), .pointer (some ⟨w.heap.size + 1, 0, none⟩)]) ∧ w' = (w.alloc (.cells #[.pointer p] 23)).alloc (.cells #[.int .i64 t] 3) := by
  refine callsIn_of_wp Try.func28 rfl trivial ?_ rfl
  simp only [Try.ntmps28, List.size_toArray, List.length_cons, List.length_nil, Nat.reduceAdd, Nat.reduceSub, Array.replicate_succ, Array.replicate_zero, List.push_toArray, List.append_toArray, List.nil_append, List.cons_append]
  gi_wp2
  go_ret
  exact ⟨rfl, rfl⟩
theorem to_stops (n : Nat) (hn : 1 ≤ n) (Bf Bn g : Nat) (t sn : Int) (A : Option Addr) (c : Nat) (ls : List S35) (hl : ls.length ≤ 1000000) (w : World) (hA : ∀ k, RdO Bf Bn g A ls.length k → k < w.heap.size)
    (hBf : w.cell? ⟨Bf, 0, none⟩ = some (.pointer (some ⟨g, 0, none⟩))) (hBn : w.cell? ⟨Bn, 0, none⟩ = some (.int .i64 t)) (hg : Blk w g 61 #[.int .u32 sn, .slice A ls.length c]) (hC : Kd.C k35 w A ls.length ls) :
    SeqStopsK Fence.wide n Try.prog 35 #[.pointer (some ⟨Bf, 0, none⟩), .pointer (some ⟨Bn, 0, none⟩)] (fun (x : Nat) => #[.int .i64 x]) (Keeps (RdO Bf Bn g A ls.length)) (fun ys => ys = plc t ls ls.length) (fun pre => pre <+: plc t ls ls.length) ls.length w := fun l J Jx W hW hJ _ hY h0 =>
  to1_in n hn l Bf Bn g t sn A c ls hl J Jx W hJ (fun k hk => Nat.lt_of_lt_of_le (hA k hk) hW.size) hY ((hW.cell (p := ⟨Bf, 0, none⟩) (hA Bf (.inl rfl))).trans hBf) ((hW.cell (p := ⟨Bn, 0, none⟩) (hA Bn (.inr (.inl rfl)))).trans hBn) (hg.below hW (hA g (.inr (.inr (.inl rfl))))) (Kd.C_below hC hW) h0
theorem results_cell1 {P : Program} {fn : Func} {p : Tmp} {ta : TypeId} (h : fn.results = #[.cell p ta]) (tmps : Array Value) (w : World) {A : Nat} {u : Value}
    (hp : tmps[p]?.getD undef = .pointer (some ⟨A, 0, none⟩)) (hu : Boxed w A ta u) (l1 : ∀ W : World, Boxed W A ta u → (loadVar ta ⟨A, 0, none⟩).run P W = .ok u W) :
    (results fn tmps).run P w = .ok u w := by
  simp [results, h, hp, asAddr, l1 w hu]
theorem load_int {W : World} {B : Nat} {v : Int} (h : Boxed W B 3 (.int .i64 v)) : (loadVar 3 ⟨B, 0, none⟩).run Try.prog W = .ok (.int .i64 v) W := by
  have := h.cell
  simp [go_sem, this]
set_option maxRecDepth 100000 in
set_option maxHeartbeats 4000000 in
theorem Oldest.is (g : Nat) (s : Fl) (t : Int) (w : World) (h : FlS w g s) (hl : s.l.length ≤ 1000000) :
    Calls Try.prog 19 #[.pointer (some ⟨g, 0, none⟩), .int .i64 t] w fun e w' => e = .returned (.int .i64 (oldestF s.l t)) ∧ Below w.heap.size w w' := by
  obtain ⟨v, h1, hR⟩ := h
  obtain ⟨A, c, rfl, h2, h4⟩ := Kd.R_reads hR
  refine (callsIn_wide (n := 6)).1 ?_
  refine callsIn_of_wp_marks Try.func19 rfl trivial ?_ rfl
  simp only [Try.ntmps19, List.size_toArray, List.length_cons, List.length_nil, Nat.reduceAdd, Nat.reduceSub, Array.replicate_succ, Array.replicate_zero, List.push_toArray, List.append_toArray, List.nil_append, List.cons_append]
  refine wpIn_wide.2 ?_
  go_wp2_with (go_at_call 28; refine ((callsIn_wide (n := 6)).1 (to_in 6 _ _ _)).mono ?_; rintro e w2 ⟨rfl, rfl⟩)
  have zr := ((Boxed.new w 3 (.int .i64 0)).alloc (.cells #[.pointer (some ⟨g, 0, none⟩)] 23)).alloc (.cells #[.int .i64 t] 3)
  have zf := (Boxed.new (w.alloc (.cells #[.int .i64 0] 3)) 23 (.pointer (some ⟨g, 0, none⟩))).alloc (.cells #[.int .i64 t] 3)
  have zn := Boxed.new ((w.alloc (.cells #[.int .i64 0] 3)).alloc (.cells #[.pointer (some ⟨g, 0, none⟩)] 23)) 3 (.int .i64 t)
  have zB : Below w.heap.size w (((w.alloc (.cells #[.int .i64 0] 3)).alloc (.cells #[.pointer (some ⟨g, 0, none⟩)] 23)).alloc (.cells #[.int .i64 t] 3)) := by go_grown
  simp only [World.size_alloc] at zr zf zn
  obtain ⟨W0, hW0⟩ : ∃ W0, ((w.alloc (.cells #[.int .i64 0] 3)).alloc (.cells #[.pointer (some ⟨g, 0, none⟩)] 23)).alloc (.cells #[.int .i64 t] 3) = W0 := ⟨_, rfl⟩
  have hs0 : W0.heap.size = w.heap.size + 3 := by rw [← hW0]; simp
  rw [hW0] at zr zf zn zB ⊢
  have hg0 := h1.lt
  have g0 := h1.below zB hg0
  have hC0 : Kd.C k35 W0 A s.l.length s.l := Kd.C_below h4 zB
  have hrd := rdo_lt (Bf := w.heap.size + 1) (Bn := w.heap.size + 1 + 1) (g := g) (ls := s.l) (by omega) (by omega) (by omega) hC0
  have hNb : ¬ RdO (w.heap.size + 1) (w.heap.size + 1 + 1) g A s.l.length w.heap.size := by
    rintro (h | h | h | ⟨hn, ad, rfl, h⟩)
    · omega
    · omega
    · omega
    · obtain ⟨ad', e, c0, _⟩ := at_T35 h4 0 (by omega) (by omega)
      cases e
      have := World.block_lt_of_cell? w _ c0
      rw [show (ad.add ((0 : Int).toNat * 3)).block = ad.block by unfold Addr.add; split <;> rfl] at this
      omega
  clear hW0
  refine wpIn_wide.1 (?_ : Code.wpIn Fence.wide 6 Try.prog _ _ _ _)
  refine wpIn_rangeFunc_ownG (F := Fence.wide) rfl (by omega) (gf := 35) (lb := #[.pointer (some ⟨w.heap.size + 1, 0, none⟩), .pointer (some ⟨w.heap.size + 1 + 1, 0, none⟩)]) rfl trivial (enters_of Try.func35 (by kernel_rfl) rfl)
    (to_stops (6 - 1) (by omega) (w.heap.size + 1) (w.heap.size + 1 + 1) g t s.n A c s.l hl W0 hrd zf.cell zn.cell g0 hC0) Keeps.trans (keeps_b hrd) (Below.refl _ _) (fun _ => rfl)
    (fun pre W => pre = [] ∧ Boxed W w.heap.size 3 (.int .i64 0) ∧ Below w.heap.size w W)
    (fun cd pre W => cd = .ret ∧ (∃ x : Nat, pre = [x] ∧ Boxed W w.heap.size 3 (.int .i64 x)) ∧ Below w.heap.size w W)
    ?own ?ownx ⟨rfl, zr, zB⟩
    (fun x => { tmps := #[.pointer (some ⟨g, 0, none⟩), .int .i64 t, undef, undef, .pointer (some ⟨w.heap.size, 0, none⟩), .int .i64 x, .pointer (some ⟨g, 0, none⟩), .bool true, .pointer (some ⟨g, 0, none⟩), .int .i64 t, .func (.func 35) #[] #[.pointer (some ⟨w.heap.size + 1, 0, none⟩), .pointer (some ⟨w.heap.size + 1 + 1, 0, none⟩)], .int .i64 x, undef], defers := [] }) ?assign ?body ?done ?stop
  case own =>
    rintro s' X Y row ⟨hp, hb, hB⟩ hg hr
    exact ⟨hp, hb.kept hg (fun e => by have := (hr _ e.symm).1; omega), hB.grown hg hB.size (fun k e => by have := (hr k e).1; omega)⟩
  case ownx =>
    rintro cd s' X Y row ⟨hc, ⟨x, hp, hb⟩, hB⟩ hg hr
    exact ⟨hc, ⟨x, hp, hb.kept hg (fun e => by have := (hr _ e.symm).1; omega)⟩, hB.grown hg hB.size (fun k e => by have := (hr k e).1; omega)⟩
  case assign =>
    intro l x W K hK
    gi_wp2
    exact hK
  case body =>
    rintro l pre x W ⟨rfl, hb, hB⟩ _
    have c0 := hb.cell
    have f0 := hb.frozen
    gi_wp2
    exact ⟨(KeepsOthers.setCell _ _ _).from _, rfl, ⟨x, by simp, hb.set (.int .i64 x)⟩, hB.setCell (p := ⟨w.heap.size, 0, none⟩) (Nat.le_refl _) _⟩
  case done =>
    rintro D ys W hD hys ⟨rfl, hb, hB⟩ hK
    have c0 := hb.cell
    have f0 := hb.frozen
    have ho : oldestF s.l t = -1 := by unfold oldestF; rw [← hys]
    have hKD := (Below.heap_setCell W ⟨w.heap.size, 0, none⟩ (.int .i64 (-1)) D (by show D ≠ w.heap.size; omega)).trans hK
    have hb1 := hb.set (.int .i64 (-1))
    have hB1 := hB.setCell (p := ⟨w.heap.size, 0, none⟩) (Nat.le_refl _) (.int .i64 (-1))
    go_wp2
    refine ⟨by simp, .inl ⟨_, _, rfl, run_takeDeferred hKD, ?_⟩⟩
    refine ⟨_, results_cell1 rfl _ _ rfl ((World.putObj_heap_other (by omega)).trans hb1) (fun _ h => load_int h), ?_⟩
    exact ⟨by rw [ho], hB1.trans (belowK_b (w := W0) (by omega) _ D _ _ hD hKD rfl rfl)⟩
  case stop =>
    rintro D c pre W hD hpre ⟨rfl, ⟨x, rfl, hb⟩, hB⟩ hK
    have ho : oldestF s.l t = x := by
      obtain ⟨r, hr⟩ := hpre
      unfold oldestF
      rw [← hr]
      rfl
    refine wpIn_wide.2 ?_
    go_wp2
    refine ⟨by simp, .inl ⟨_, _, rfl, run_takeDeferred hK, ?_⟩⟩
    refine ⟨_, results_cell1 rfl _ _ rfl ((World.putObj_heap_other (by omega)).trans hb) (fun _ h => load_int h), ?_⟩
    exact ⟨by rw [ho], hB.trans (belowK_b (w := W0) (by omega) _ D _ _ hD hK rfl rfl)⟩
end Go.Proofs.Ythmeakkpmielmaa.G
