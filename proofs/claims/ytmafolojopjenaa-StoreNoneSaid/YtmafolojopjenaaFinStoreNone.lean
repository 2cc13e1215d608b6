/- A nil store has nothing. -/
import Derived.Test.YtmafolojopjenaaStoF
namespace Go.Proofs.Ytmafolojopjenaa.R
open Go.RowKit Go.Shelf Go.Proofs.YtmafolojopjenaaW.PrintWords Go.Proofs.Ytmafolojopjenaa.Cr Go.Proofs.Ytmafolojopjenaa.Jo Go.Proofs.Ytmafolojopjenaa.P Go.Proofs.Ytmafolojopjenaa.G
set_option linter.unusedVariables false
set_option linter.unusedSimpArgs false
attribute [local go_sem] Oper.semAt_some

theorem Recover.nil (w : World) :
    Calls Try.prog 19 #[.pointer none] w fun e w' => e = .returned (.tuple #[.string ⟨#[]⟩, .slice none 0 0, .int .i64 1]) ∧ w = w' := by
  go_enter Try.func19, Try.ntmps19
  go_wp2
  refine bodyPost_ret (v := .tuple #[.string ⟨#[]⟩, .slice none 0 0, .int .i64 1]) (by simp [results, Try.results19, go_sem]) rfl ⟨rfl, rfl⟩
set_option maxRecDepth 100000 in
set_option maxHeartbeats 4000000 in
theorem StoreNone_fin (a0 : ByteArray) (a1 : Int) (w : World) (_w0 : a0.size ≤ 140737488351232) (_w1 : (Lit.int .i64 a1).wf = true) :
    Calls Try.prog 4 #[.string a0, .int .i64 a1] w fun e w' => e = .returned (.bool true) ∧ Below w.heap.size w w' := by
  go_enter Try.func4, Try.ntmps4
  go_wp2_with (first
    | (go_at_call 14; (with_reducible refine (shown4.is _).mono ?_); rintro e w1 ⟨rfl, hb1⟩)
    | (go_at_call 19; (with_reducible refine (Recover.nil _).mono ?_); rintro e w2 ⟨rfl, rfl⟩)
    | (go_at_call 16; (with_reducible refine (Write.nil _ _).mono ?_); rintro e w2 ⟨rfl, rfl⟩)
    | (go_at_call 18; (with_reducible refine (Snapshot.nil _ _).mono ?_); rintro e w2 ⟨rfl, rfl⟩)
    | (go_at_call 17; (with_reducible refine (Cut.nil _ _).mono ?_); rintro e w2 ⟨rfl, rfl⟩)
    | (go_at_call 21; (with_reducible refine (Holds.nil _).mono ?_); rintro e w2 ⟨rfl, rfl⟩)
    | (go_at_call 22; (with_reducible refine (Records.nil _).mono ?_); rintro e w2 ⟨rfl, rfl⟩))
  go_ret
  exact ⟨rfl, hb1⟩
end Go.Proofs.Ytmafolojopjenaa.R
