/- slices.Grow at nil, slices.Concat of two: what they tell. -/
import Derived.WalkKit
import Derived.Handy
import Derived.Lib.Hide
import Derived.IntWalk
import Derived.Test.YthmeakkpmielmaaProg
import Derived.Test.YthmeakkpmielmaaSl
import Derived.Test.YthmeakkpmielmaaStep
import Derived.Test.YthmeakkpmielmaaNote
namespace Go.Proofs.Ythmeakkpmielmaa.G
open Go.RowKit Go.Proofs.YthmeakkpmielmaaW.PrintWords Go.Proofs.Ythmeakkpmielmaa.P
set_option linter.unusedVariables false
set_option linter.unusedSimpArgs false

theorem cat_info : (Try.prog.info? 35).map (fun i => (i.zero, i.size, i.bytes)) = some (some (.agg #[.int .u32 0, .int .i64 0, .string ⟨#[]⟩]), 3, 32) := by kernel_rfl
theorem cat_und : Try.prog.underlying 29 = some (.slice 35) := by kernel_rfl
theorem und_int : Try.prog.underlying 3 = some (.int .i64) := by kernel_rfl
set_option maxRecDepth 100000 in
set_option maxHeartbeats 4000000 in
theorem Grow.nil (n : Nat) (w : World) (hn : n ≤ 1000000000000) :
    Calls Try.prog 34 #[.slice none 0 0, .int .i64 n] w fun e w' => ∃ v, e = .returned v ∧ Kd.R k35 35 w' w.heap.size (fun _ => True) v [] ∧ Below w.heap.size w w' := by
  by_cases h0 : n = 0
  · subst h0
    go_enter Try.func34, Try.ntmps34
    go_wp2
    go_ret
    exact ⟨_, rfl, Kd.R_nil _ _ _ _ _, Below.refl _ _⟩
  · obtain ⟨i0, hi, hzz⟩ := Option.map_eq_some_iff.1 cat_info
    simp only [Prod.mk.injEq] at hzz
    obtain ⟨hz0, hz1, hz2⟩ := hzz
    have hcap := nextslicecap_le_wide (need := 0 + n) (old := 0) (by omega)
    have hrun := fun ty => Lib.run_append_grow_zeros (P := Try.prog) w 29 3 ty 35 i0 (.agg #[.int .u32 0, .int .i64 0, .string ⟨#[]⟩]) .i64 .i64 cat_und und_int hi hz0 none 0 0 [] (run_firstCells_none _ _ _ _ _) n (by omega) (by rw [hz1]; decide) (by omega) (by omega)
      (by rw [hz2]; omega) (by rw [hz2]; exact Nat.le_trans (Nat.mul_le_mul_right _ hcap) (by omega))
    have hge := grownCap_ge w (0 + n) 0 35
    have hle := grownCap_le_maxLen w (0 + n) 0 35 (by unfold maxLen; omega)
    obtain ⟨G, hG⟩ : ∃ G, grownCap w (0 + n) 0 35 = G := ⟨_, rfl⟩
    rw [hG] at hrun hge hle
    rw [Nat.zero_add] at hrun hge
    obtain ⟨W', hW'⟩ : ∃ W', w.drew.alloc (.cells ((([] : List Value).toArray) ++ Builtin.zeroCells (.agg #[.int .u32 0, .int .i64 0, .string ⟨#[]⟩] : Value).cells n ++ Builtin.zeroCells (.agg #[.int .u32 0, .int .i64 0, .string ⟨#[]⟩] : Value).cells (G - n)) 35) = W' := ⟨_, rfl⟩
    have hb : Below w.heap.size w W' := by rw [← hW']; exact ((Below.refl _ w).drew).alloc (Nat.le_refl _) _
    have hnew : W'.heap[w.heap.size]? = some (.cells ((([] : List Value).toArray) ++ Builtin.zeroCells (.agg #[.int .u32 0, .int .i64 0, .string ⟨#[]⟩] : Value).cells n ++ Builtin.zeroCells (.agg #[.int .u32 0, .int .i64 0, .string ⟨#[]⟩] : Value).cells (G - n)) 35 (0, 0)) := by rw [← hW']; exact World.alloc_heap_new w.drew _
    have hzsz : (.agg #[.int .u32 0, .int .i64 0, .string ⟨#[]⟩] : Value).cells.size = 3 := rfl
    have hR : Kd.R k35 35 W' w.heap.size (fun _ => True) (.slice (some ⟨w.heap.size, 0, none⟩) 0 G) [] := by
      refine ⟨fun _ _ => trivial, [], ⟨by simp, .inr ⟨w.heap.size, G, _, rfl, Nat.le_refl _, hnew, Nat.zero_le _, hle, ?_, by simp⟩⟩, Reps.none _ _⟩
      show _ = G * 3
      rw [Array.size_append, Array.size_append, size_zeroCells, size_zeroCells, hzsz]
      show 0 + n * 3 + (G - n) * 3 = G * 3
      rw [Nat.zero_add, ← Nat.add_mul]
      congr 1
      omega
    rw [hW'] at hrun
    have hd : decide (0 < n) = true := by simp; omega
    have hG63 : G ≤ 9223372036854775807 := by unfold maxLen at hle; exact hle
    have HRUN := Lib.hid hrun; clear hrun
    have H0 := Lib.hid h0; clear h0
    have HW := Lib.hid hW'; clear hW'
    have HR := Lib.hid hR; clear hR
    have HN := Lib.hid hnew; clear hnew
    clear hi hz0 hz1 hz2 hcap hG hle hzsz
    go_enter Try.func34, Try.ntmps34
    go_wp2_with (at_builtin; refine wpList_append_run rfl rfl rfl rfl HRUN.out ?_)
    go_ret
    exact ⟨_, rfl, HR.out, hb⟩
theorem own_block_ge {α : Type} {d : Kd α} {e : Nat} {W : World} {base : Nat} {ok : Nat → Prop} {v : Value} {xs : List α} (h : d.R e W base ok v xs) : ∀ b, v.ownBlock = some b → base ≤ b := by
  obtain ⟨_, inner, ho, _⟩ := h
  exact fun b hb => (World.ownsRow.lt ho b hb).1
set_option maxRecDepth 100000 in
set_option maxHeartbeats 4000000 in
theorem Concat.two (A1 A2 : Option Addr) (c1 c2 : Nat) (l1 l2 : List S35) (B c : Nat) (w : World) (h1 : Kd.C k35 w A1 l1.length l1) (h2 : Kd.C k35 w A2 l2.length l2) (n1 : A1 = none → c1 = 0) (n2 : A2 = none → c2 = 0)
    (hB1 : w.cell? ⟨B, 0, none⟩ = some (.slice A1 l1.length c1)) (hB2 : w.cell? ⟨B, 1, none⟩ = some (.slice A2 l2.length c2)) (hl1 : l1.length ≤ 100000000000) (hl2 : l2.length ≤ 100000000000) :
    Calls Try.prog 27 #[.slice (some ⟨B, 0, none⟩) 2 c] w fun e w' => ∃ v, e = .returned v ∧ Kd.R k35 35 w' w.heap.size (fun _ => True) v (l1 ++ l2) ∧ Below w.heap.size w w' := by
  have hBw : B < w.heap.size := World.block_lt_of_cell? w _ hB1
  have hG : ∀ w1, Calls Try.prog 34 #[.slice none 0 0, .int .i64 ((l1.length : Int) + (l2.length : Int))] w1 fun e w' => ∃ v, e = .returned v ∧ Kd.R k35 35 w' w1.heap.size (fun _ => True) v [] ∧ Below w1.heap.size w1 w' := by
    intro w1
    have := Grow.nil (l1.length + l2.length) w1 (by omega)
    rwa [Int.natCast_add] at this
  have hne : ((l1.length : Int) + (l2.length : Int) < 0) = False := eq_false (by omega)
  have HG := Lib.hid hG; clear hG
  have H1 := Lib.hid h1; clear h1
  have H2 := Lib.hid h2; clear h2
  have N1 := Lib.hid n1; clear n1
  have N2 := Lib.hid n2; clear n2
  go_enter Try.func27, Try.ntmps27
  go_wp2
  refine wp_loop_rounds 3 ?_
  rw [rounds_succ]
  go_wp2
  rw [rounds_succ]
  go_wp2
  rw [rounds_succ]
  go_wp2_with (go_at_call 34; (with_reducible refine (HG.out _).mono ?_); rintro e w1 ⟨v0, rfl, hR0, hb0⟩)
  have b1 : w1.cell? ⟨B, 0, none⟩ = some (.slice A1 l1.length c1) := (hb0.cell (p := ⟨B, 0, none⟩) hBw).trans hB1
  have b2 : w1.cell? ⟨B, 1, none⟩ = some (.slice A2 l2.length c2) := (hb0.cell (p := ⟨B, 1, none⟩) hBw).trans hB2
  obtain ⟨v1, W1, hr1, hR1, hg1⟩ := append_own_R (P := Try.prog) (d := k35) 29 29 35 _ 32 cat_und cat_info rfl (by decide) plain_note hR0 (Kd.C_below H1.out hb0) N1.out (by simp; omega) (by omega) hb0.size
  have hB1' : Below w.heap.size w W1 := below_grown' hb0 hb0.size hg1 (own_block_ge hR0)
  have d2 : W1.cell? ⟨B, 1, none⟩ = some (.slice A2 l2.length c2) := (hB1'.cell (p := ⟨B, 1, none⟩) hBw).trans hB2
  obtain ⟨v2, W2, hr2, hR2, hg2⟩ := append_own_R (P := Try.prog) (d := k35) 29 29 35 _ 32 cat_und cat_info rfl (by decide) plain_note hR1 (Kd.C_below H2.out hB1') N2.out (by simp; omega) (by omega) hB1'.size
  have hB2' : Below w.heap.size w W2 := below_grown' hB1' hB1'.size hg2 (own_block_ge hR1)
  have hr1' : ∀ ty, (Builtin.append_ #[29, 29] ty #[v0, .slice A1 l1.length c1]).run Try.prog w1 = .ok v1 W1 := fun ty => hr1
  have hr2' : ∀ ty, (Builtin.append_ #[29, 29] ty #[v1, .slice A2 l2.length c2]).run Try.prog W1 = .ok v2 W2 := fun ty => hr2
  have HR1 := Lib.hid hr1'
  have HR2 := Lib.hid hr2'
  clear hr1 hr2 hr1' hr2'
  refine wp_loop_rounds 3 ?_
  rw [rounds_succ]
  go_wp2_with (at_builtin; refine wpList_append_run rfl rfl rfl rfl HR1.out ?_)
  rw [rounds_succ]
  go_wp2_with (at_builtin; refine wpList_append_run rfl rfl rfl rfl HR2.out ?_)
  rw [rounds_succ]
  go_wp2
  go_ret
  exact ⟨_, rfl, hR2, hB2'⟩
end Go.Proofs.Ythmeakkpmielmaa.G
