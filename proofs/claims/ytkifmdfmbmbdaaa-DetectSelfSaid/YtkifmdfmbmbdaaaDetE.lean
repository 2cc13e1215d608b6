/- Who seems to be down: Suspects. -/
import Derived.Test.YtkifmdfmbmbdaaaDetD
namespace Go.Proofs.Ytkifmdfmbmbdaaa.G
open Go.RowKit Go.Shelf Go.Proofs.YtkifmdfmbmbdaaaW.PrintWords Go.Proofs.YtkifmdfmbmbdaaaW.PrintMore
set_option linter.unusedVariables false
set_option linter.unusedSimpArgs false
attribute [local go_sem] Oper.semAt_some

def ints (l : List Nat) : List Int := l.map fun (i : Nat) => (i : Int)
theorem ints_snoc (l : List Nat) (x : Nat) : ints (l ++ [x]) = ints l ++ [(x : Int)] := by simp [ints]
/-- What holds while nodes are collected: Bo is the box of the row; R are the blocks that the iterator reads. -/
structure ColS (base Bo : Nat) (R : Nat → Prop) (w W0 : World) (pre : List Nat) (W : World) : Prop where
  row : ∃ v, Boxed W Bo 25 v ∧ RowI W base v (ints pre)
  bel : Below base w W
  kp : Keeps R W0 W
  sz : W0.heap.size ≤ W.heap.size
theorem ColS.own {base Bo : Nat} {R : Nat → Prop} {w W0 : World} (hbase : base ≤ W0.heap.size) (hRlt : ∀ k, R k → k < W0.heap.size) : OwnFrom W0.heap.size (ColS base Bo R w W0) := by
  rintro pre X Y row ⟨⟨v, hb, hR⟩, hB, hK, hs⟩ hg hr
  refine ⟨⟨v, hb.kept hg (fun e => ?_), hR.abides hg (fun r e => (hr r e).2)⟩, hB.grown hg (Nat.le_trans hbase hs) (fun k e => Nat.le_trans hbase (hr k e).1), fun k hk => (hg.block k (Nat.lt_of_lt_of_le (hRlt k hk) hs) (fun e => ?_)).trans (hK k hk), Nat.le_trans hs hg.size⟩
  · obtain ⟨o, ho, hc⟩ := (hr Bo e.symm).2
    rw [show X.heap[Bo]? = _ from hb] at ho
    cases ho
    cases hc
  · have := (hr k e.symm).1
    have := hRlt k hk
    omega
/-- One node more. -/
theorem ColS.add {base Bo : Nat} {R : Nat → Prop} {w W0 W W' : World} {pre : List Nat} {x : Nat} {v' : Value} (h : ColS base Bo R w W0 pre W) (hbase : base ≤ W0.heap.size)
    (b2 : Boxed W' Bo 25 v') (b3 : RowI W' base v' (ints pre ++ [(x : Int)])) (b5 : Below base W W') (hR : ∀ k, R k → k ≠ Bo ∧ ∃ o, W0.heap[k]? = some o ∧ ∀ cs, o ≠ .cells cs 3 (0, 0))
    (b6 : ∀ k o, W.heap[k]? = some o → k ≠ Bo → (∀ cs, o ≠ .cells cs 3 (0, 0)) → W'.heap[k]? = some o) : ColS base Bo R w W0 (pre ++ [x]) W' ∧ Keeps R W W' := by
  have hk : Keeps R W W' := by
    intro k hk
    obtain ⟨hne, o, ho, hc⟩ := hR k hk
    have h1 := (h.kp k hk).trans ho
    rw [b6 k o h1 hne hc, h1]
  exact ⟨⟨⟨v', b2, by rw [ints_snoc]; exact b3⟩, h.bel.trans b5, h.kp.trans hk, Nat.le_trans h.sz b5.size⟩, hk⟩
set_option maxRecDepth 100000 in
set_option maxHeartbeats 4000000 in
theorem Suspects.is (g M : Nat) (s : Det) (w : World) (h : DetS w g M s) (hl : s.ps.length ≤ 1000) :
    Calls Try.prog 12 #[.pointer (some ⟨g, 0, none⟩)] w fun e w' => ∃ v, e = .returned v ∧ RowI w' w.heap.size v (ints (whoL suspectP s.ps s.ps.length)) ∧ Below w.heap.size w w' := by
  refine (callsIn_wide (n := 6)).1 ?_
  refine callsIn_of_wp_marks Try.func12 rfl trivial ?_ rfl
  simp only [Try.ntmps12, List.size_toArray, List.length_cons, List.length_nil, Nat.reduceAdd, Nat.reduceSub, Array.replicate_succ, Array.replicate_zero, List.push_toArray, List.append_toArray, List.nil_append, List.cons_append]
  refine wpIn_wide.2 ?_
  go_wp2_with (go_at_call 18; refine ((callsIn_wide (n := 6)).1 (those_in 6 _ _ _ _)).mono ?_; rintro e w2 ⟨rfl, rfl⟩)
  have zr := ((Boxed.new w 25 (.slice none 0 0)).alloc (.cells #[.pointer (some ⟨g, 0, none⟩)] 24)).alloc (.cells #[.func (.func 20) #[] #[]] 51)
  have zf := (Boxed.new (w.alloc (.cells #[.slice none 0 0] 25)) 24 (.pointer (some ⟨g, 0, none⟩))).alloc (.cells #[.func (.func 20) #[] #[]] 51)
  have zn := Boxed.new ((w.alloc (.cells #[.slice none 0 0] 25)).alloc (.cells #[.pointer (some ⟨g, 0, none⟩)] 24)) 51 (.func (.func 20) #[] #[])
  have zB : Below w.heap.size w (((w.alloc (.cells #[.slice none 0 0] 25)).alloc (.cells #[.pointer (some ⟨g, 0, none⟩)] 24)).alloc (.cells #[.func (.func 20) #[] #[]] 51)) := by go_grown
  simp only [World.size_alloc] at zr zf zn
  obtain ⟨W0, hW0⟩ : ∃ W0, ((w.alloc (.cells #[.slice none 0 0] 25)).alloc (.cells #[.pointer (some ⟨g, 0, none⟩)] 24)).alloc (.cells #[.func (.func 20) #[] #[]] 51) = W0 := ⟨_, rfl⟩
  have hs0 : W0.heap.size = w.heap.size + 3 := by rw [← hW0]; simp
  rw [hW0] at zr zf zn zB ⊢
  have hlt := h.lt
  have hS0 := h.below zB
  have hrd : ∀ k, RdD w.heap.size g M k → k < W0.heap.size := by rintro k (rfl | rfl | rfl | rfl) <;> omega
  have hro : ∀ k, RdD w.heap.size g M k → k ≠ w.heap.size ∧ ∃ o, W0.heap[k]? = some o ∧ ∀ cs, o ≠ .cells cs 3 (0, 0) := by
    rintro k (rfl | rfl | rfl | rfl)
    · exact ⟨by omega, _, zf, fun cs e => by cases e⟩
    · exact ⟨by omega, _, zn, fun cs e => by cases e⟩
    · exact ⟨by omega, _, hS0.1, fun cs e => by cases e⟩
    · obtain ⟨_, m, ⟨es, c, hb, _⟩, _⟩ := hS0
      exact ⟨by omega, _, hb, fun cs e => by cases e⟩
  have hbase : w.heap.size ≤ W0.heap.size := by omega
  have hI0 : ColS w.heap.size w.heap.size (RdD w.heap.size g M) w W0 [] W0 := ⟨⟨_, zr, RowI.nil _ _⟩, zB, Keeps.refl _ _, Nat.le_refl _⟩
  clear hW0
  refine wpIn_wide.1 (?_ : Code.wpIn Fence.wide 6 Try.prog _ _ _ _)
  refine wpIn_rangeFunc_ownG (F := Fence.wide) rfl (by omega) (gf := 22) (lb := #[.pointer (some ⟨w.heap.size + 1, 0, none⟩), .pointer (some ⟨w.heap.size + 1 + 1, 0, none⟩)]) rfl trivial (enters_of Try.func22 (by kernel_rfl) rfl)
    (thoseS_stops (6 - 1) (by omega) (w.heap.size + 1) (w.heap.size + 1 + 1) g M s (RdD w.heap.size g M) (.inl rfl) (.inr (.inl rfl)) (.inr (.inr (.inl rfl))) (.inr (.inr (.inr rfl))) (by omega) W0 hrd zf.cell zn.cell hS0) Keeps.trans (keeps_b hrd) (Below.refl _ _) (fun _ => rfl)
    (ColS w.heap.size w.heap.size (RdD w.heap.size g M) w W0)
    (fun _ _ _ => False)
    (ColS.own hbase hrd) (fun _ _ _ _ _ hs _ _ => hs) hI0
    (fun x => { tmps := #[.pointer (some ⟨g, 0, none⟩), undef, .slice none 0 0, .pointer (some ⟨w.heap.size, 0, none⟩), .int .i64 x, .pointer (some ⟨g, 0, none⟩), .bool false, .pointer (some ⟨g, 0, none⟩), .func (.func 22) #[] #[.pointer (some ⟨w.heap.size + 1, 0, none⟩), .pointer (some ⟨w.heap.size + 1 + 1, 0, none⟩)], .int .i64 x, undef, undef, undef, undef, undef], defers := [] }) ?assign ?body ?done ?stop
  case assign =>
    intro l x W K hK
    gi_wp2
    exact hK
  case body =>
    rintro l pre x W hI hlen
    have hI' := hI
    obtain ⟨⟨v, hb, hR⟩, hB, hK, hs⟩ := hI
    obtain ⟨v', W1, hrun, b1, b2, b3, b4, b5, b6⟩ := coll hb hR (by simp [ints]; omega) (by omega) (Nat.le_refl _) (x : Int)
    obtain ⟨A3, c3, rfl, _, _⟩ := Kd.R_reads b3
    obtain ⟨N, hN⟩ : ∃ N, (ints pre ++ [(x : Int)]).length = N := ⟨_, rfl⟩
    rw [hN] at hrun b2 b3 b4 b5 b6
    clear hN
    have HRUN := Lib.hid hrun; clear hrun
    obtain ⟨hI2, hK2⟩ := hI'.add hbase b2 b3 b5 hro b6
    have c0 := hb.cell
    have c1 := b1.cell
    have f1 := b1.frozen
    have B2 := Lib.hid b3; clear b3
    have B6 := Lib.hid b6; clear b6
    gi_wp2_with (gi_at_builtin; refine wpListIn_append_run rfl rfl rfl rfl HRUN.out ?_)
    exact ⟨b4.from _, hK2, hI2⟩
  case done =>
    rintro D ys W hD rfl ⟨⟨v, hb, hR⟩, hB, hK', hs⟩ hK
    have c0 := hb.cell
    go_wp2
    refine ⟨by simp, .inl ⟨_, _, rfl, run_takeDeferred hK, ?_⟩⟩
    refine ⟨_, results_tmp rfl _ _ _, ?_⟩
    exact ⟨_, rfl, hR.abides (grownBy_putObj' _ D _) (fun r e => by cases e; exact ⟨_, hK, rfl⟩), hB.trans (belowK_b (w := W0) (by omega) _ D _ _ hD hK rfl rfl)⟩
  case stop =>
    rintro D c pre W _ _ h _
    exact h.elim
end Go.Proofs.Ytkifmdfmbmbdaaa.G
