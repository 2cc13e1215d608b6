/- A nil detector tells of nobody. -/
import Derived.Test.YtkifmdfmbmbdaaaDetG
import Derived.Test.YtkifmdfmbmbdaaaKinds
namespace Go.Proofs.Ytkifmdfmbmbdaaa.R
open Go.RowKit Go.Proofs.YtkifmdfmbmbdaaaW.PrintWords Go.Proofs.YtkifmdfmbmbdaaaW.PrintMore Go.Proofs.Ytkifmdfmbmbdaaa.G
set_option linter.unusedVariables false
set_option linter.unusedSimpArgs false

theorem Tick.nil (t : Int) (w : World) : Calls Try.prog 9 #[.pointer none, .int .u64 t] w fun e w' => e = .returned (.tuple #[.slice none 0 0, .int .i64 1]) ∧ Below w.heap.size w w' := by
  go_enter Try.func9, Try.ntmps9
  go_wp2
  go_ret2
  exact ⟨rfl, by go_grown⟩
theorem Hear.nil (i t : Int) (w : World) : Calls Try.prog 10 #[.pointer none, .int .i64 i, .int .u64 t] w fun e w' => e = .returned (.int .i64 1) ∧ w = w' := by
  go_enter Try.func10, Try.ntmps10
  go_wp2
  go_ret
  exact ⟨rfl, rfl⟩
theorem Leader.nil (w : World) : Calls Try.prog 11 #[.pointer none] w fun e w' => e = .returned (.int .i64 (-1)) ∧ Below w.heap.size w w' := by
  go_enter Try.func11, Try.ntmps11
  go_wp2
  refine bodyPost_ret (v := .int .i64 (-1)) (by simp [results, Try.results11, go_sem]) rfl ⟨rfl, by go_grown⟩
theorem Suspects.nil (w : World) : Calls Try.prog 12 #[.pointer none] w fun e w' => e = .returned (.slice none 0 0) ∧ w = w' := by
  go_enter Try.func12, Try.ntmps12
  go_wp2
  go_ret
  exact ⟨rfl, rfl⟩
theorem Timeout.nil (i : Int) (w : World) : Calls Try.prog 13 #[.pointer none, .int .i64 i] w fun e w' => e = .returned (.int .u64 0) ∧ w = w' := by
  go_enter Try.func13, Try.ntmps13
  go_wp2
  go_ret
  exact ⟨rfl, rfl⟩
set_option maxRecDepth 100000 in
set_option maxHeartbeats 4000000 in
theorem DetectNone_fin (a0 a1 : Int) (w : World) (w0 : (Lit.int .i64 a0).wf = true) (w1 : (Lit.int .u64 a1).wf = true) :
    Calls Try.prog 3 #[.int .i64 a0, .int .u64 a1] w fun e w' => e = .returned (.bool true) ∧ Below w.heap.size w w' := by
  go_enter Try.func3, Try.ntmps3
  go_wp2_with (fail)
  refine (shown.is _).mono ?_
  rintro e w2 ⟨rfl, hb2⟩
  go_wp2_with (fail)
  refine (Tick.nil _ _).mono ?_
  rintro e w3 ⟨rfl, hb3⟩
  have hB3 := G.below_then hb2 hb2.size hb3
  go_wp2_with (fail)
  refine (Hear.nil _ _ _).mono ?_
  rintro e w4 ⟨rfl, rfl⟩
  go_wp2_with (fail)
  refine (Leader.nil _).mono ?_
  rintro e w5 ⟨rfl, hb5⟩
  have hB5 := G.below_then hB3 hB3.size hb5
  go_wp2_with (fail)
  refine (Suspects.nil _).mono ?_
  rintro e w6 ⟨rfl, rfl⟩
  go_wp2_with (fail)
  refine (Timeout.nil _ _).mono ?_
  rintro e w7 ⟨rfl, rfl⟩
  go_wp2
  go_ret
  exact ⟨rfl, hB5⟩
end Go.Proofs.Ytkifmdfmbmbdaaa.R
