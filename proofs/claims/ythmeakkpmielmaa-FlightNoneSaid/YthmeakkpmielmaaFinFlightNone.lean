/- A nil flight has nothing. -/
import Derived.Test.YthmeakkpmielmaaFliC
namespace Go.Proofs.Ythmeakkpmielmaa.R
open Go.RowKit Go.Proofs.YthmeakkpmielmaaW.PrintWords Go.Proofs.YthmeakkpmielmaaW.PrintMore Go.Proofs.Ythmeakkpmielmaa.P Go.Proofs.Ythmeakkpmielmaa.G
set_option linter.unusedVariables false
set_option linter.unusedSimpArgs false
attribute [local go_sem] Oper.semAt_some max2_int min2_int max_two min_two

theorem Send.nil (t : Int) (s : ByteArray) (w : World) : Calls Try.prog 12 #[.pointer none, .int .i64 t, .string s] w fun e w' => e = .returned (.tuple #[.int .u32 0, .int .i64 1]) ∧ w = w' := by
  go_enter Try.func12, Try.ntmps12
  go_wp2
  go_ret2
  exact ⟨rfl, rfl⟩
theorem check.nil (t : Int) (w : World) : Calls Try.prog 26 #[.pointer none, .int .i64 t] w fun e w' => e = .returned (.int .i64 1) ∧ w = w' := by
  go_enter Try.func26, Try.ntmps26
  go_wp2
  go_ret
  exact ⟨rfl, rfl⟩
theorem Take.nil (t : Int) (w : World) : Calls Try.prog 17 #[.pointer none, .int .i64 t] w fun e w' => e = .returned (.tuple #[.agg #[.int .u32 0, .int .i64 0, .string ⟨#[]⟩], .int .i64 1]) ∧ Below w.heap.size w w' := by
  go_enter Try.func17, Try.ntmps17
  go_wp2_with (go_at_call 26; (with_reducible refine (check.nil _ _).mono ?_); rintro e w1 ⟨rfl, rfl⟩)
  refine bodyPost_ret (v := .tuple #[.agg #[.int .u32 0, .int .i64 0, .string ⟨#[]⟩], .int .i64 1]) (by simp [results, Try.results17, go_sem]) rfl ⟨rfl, (Below.refl _ w).alloc (Nat.le_refl _) _⟩
theorem Drop.nil (t : Int) (w : World) : Calls Try.prog 16 #[.pointer none, .int .i64 t] w fun e w' => e = .returned (.int .i64 1) ∧ Below w.heap.size w w' := by
  go_enter Try.func16, Try.ntmps16
  go_wp2_with (go_at_call 17; (with_reducible refine (Take.nil _ _).mono ?_); rintro e w1 ⟨rfl, hb1⟩)
  go_ret
  exact ⟨rfl, hb1.alloc hb1.size _⟩
theorem Copy.nil (t : Int) (w : World) : Calls Try.prog 14 #[.pointer none, .int .i64 t] w fun e w' => e = .returned (.tuple #[.int .u32 0, .int .i64 1]) ∧ w = w' := by
  go_enter Try.func14, Try.ntmps14
  go_wp2_with (go_at_call 26; (with_reducible refine (check.nil _ _).mono ?_); rintro e w1 ⟨rfl, rfl⟩)
  go_ret2
  exact ⟨rfl, rfl⟩
theorem Hurt.nil (t b m : Int) (w : World) : Calls Try.prog 20 #[.pointer none, .int .i64 t, .int .i64 b, .int .u32 m] w fun e w' => e = .returned (.int .i64 1) ∧ w = w' := by
  go_enter Try.func20, Try.ntmps20
  go_wp2_with (go_at_call 26; (with_reducible refine (check.nil _ _).mono ?_); rintro e w1 ⟨rfl, rfl⟩)
  go_ret
  exact ⟨rfl, rfl⟩
theorem Oldest.nil (t : Int) (w : World) : Calls Try.prog 19 #[.pointer none, .int .i64 t] w fun e w' => e = .returned (.int .i64 (-1)) ∧ Below w.heap.size w w' := by
  refine (callsIn_wide (n := 6)).1 ?_
  refine callsIn_of_wp_marks Try.func19 rfl trivial ?_ rfl
  simp only [Try.ntmps19, List.size_toArray, List.length_cons, List.length_nil, Nat.reduceAdd, Nat.reduceSub, Array.replicate_succ, Array.replicate_zero, List.push_toArray, List.append_toArray, List.nil_append, List.cons_append]
  refine wpIn_wide.2 ?_
  go_wp2
  exact ⟨.int .i64 (-1), by simp [results, Try.results19, go_sem], rfl, (Below.refl _ w).alloc (Nat.le_refl _) _⟩
theorem All.nil (w : World) : Calls Try.prog 13 #[.pointer none] w fun e w' => e = .returned (.slice none 0 0) ∧ w = w' := by
  go_enter Try.func13, Try.ntmps13
  go_wp2
  go_ret
  exact ⟨rfl, rfl⟩
set_option maxRecDepth 100000 in
set_option maxHeartbeats 4000000 in
theorem FlightNone_fin (a0_0 a0_1 a0_2 a0_3 : Int) (a0_4 : ByteArray) (w : World) (_w0 : (Lit.int .i64 a0_0).wf = true) (_w1 : (Lit.int .i64 a0_1).wf = true) (_w2 : (Lit.int .i64 a0_2).wf = true) (_w3 : (Lit.int .u32 a0_3).wf = true) (_w4 : a0_4.size ≤ maxLen) :
    Calls Try.prog 9 #[.agg #[.int .i64 a0_0, .int .i64 a0_1, .int .i64 a0_2, .int .u32 a0_3, .string a0_4]] w fun e w' => e = .returned (.bool true) ∧ Below w.heap.size w w' := by
  obtain ⟨W0, hW0⟩ : ∃ W0, w.alloc (.cells #[.int .i64 a0_0, .int .i64 a0_1, .int .i64 a0_2, .int .u32 a0_3, .string a0_4] 38) = W0 := ⟨_, rfl⟩
  have hB0 : Below w.heap.size w W0 := by rw [← hW0]; exact (Below.refl _ w).alloc (Nat.le_refl _) _
  have hK0 : Blk W0 w.heap.size 38 #[.int .i64 a0_0, .int .i64 a0_1, .int .i64 a0_2, .int .u32 a0_3, .string a0_4] := by rw [← hW0]; exact Blk.new _ _ _
  go_enter Try.func9, Try.ntmps9
  go_wp2_with (fail)
  refine (shown.is _).mono ?_
  rintro e w1 ⟨rfl, hb1⟩
  have hB1 := G.below_then hB0 hB0.size hb1
  have k1 := hK0.callee hb1
  have x1 : w1.cell? ⟨w.heap.size, 1, none⟩ = some (.int .i64 a0_1) := k1.cell 1
  have x4 : w1.cell? ⟨w.heap.size, 4, none⟩ = some (.string a0_4) := k1.cell 4
  go_wp2_with (first
    | (go_at_call 12; (with_reducible refine (Send.nil _ _ _).mono ?_); rintro e w2 ⟨rfl, rfl⟩)
    | (go_at_call 17; (with_reducible refine (Take.nil _ _).mono ?_); rintro e w2 ⟨rfl, hb2⟩; have hB2 := G.below_then hB1 hB1.size hb2; have k2 := (k1.callee hb2).alloc (.cells #[.int .u32 0, .int .i64 0, .string ⟨#[]⟩] 35); have y1 : (w2.alloc (.cells #[.int .u32 0, .int .i64 0, .string ⟨#[]⟩] 35)).cell? ⟨w.heap.size, 1, none⟩ = some (.int .i64 a0_1) := k2.cell 1; have y2 : (w2.alloc (.cells #[.int .u32 0, .int .i64 0, .string ⟨#[]⟩] 35)).cell? ⟨w.heap.size, 2, none⟩ = some (.int .i64 a0_2) := k2.cell 2)
    | (go_at_call 14; (with_reducible refine (Copy.nil _ _).mono ?_); rintro e w3 ⟨rfl, rfl⟩)
    | (go_at_call 16; (with_reducible refine (Drop.nil _ _).mono ?_); rintro e w3 ⟨rfl, hb3⟩; have hB3 := G.below_then (hB2.alloc hB2.size _) (hB2.alloc hB2.size _).size hb3; have k3 := k2.callee hb3; have z1 : w3.cell? ⟨w.heap.size, 1, none⟩ = some (.int .i64 a0_1) := k3.cell 1; have z2 : w3.cell? ⟨w.heap.size, 2, none⟩ = some (.int .i64 a0_2) := k3.cell 2; have z3 : w3.cell? ⟨w.heap.size, 3, none⟩ = some (.int .u32 a0_3) := k3.cell 3)
    | (go_at_call 20; (with_reducible refine (Hurt.nil _ _ _ _).mono ?_); rintro e w4 ⟨rfl, rfl⟩)
    | (go_at_call 19; (with_reducible refine (Oldest.nil _ _).mono ?_); rintro e w5 ⟨rfl, hb5⟩; have hB5 := G.below_then hB3 hB3.size hb5)
    | (go_at_call 13; (with_reducible refine (All.nil _).mono ?_); rintro e w6 ⟨rfl, rfl⟩))
  go_ret
  exact ⟨rfl, hB5⟩
end Go.Proofs.Ythmeakkpmielmaa.R
