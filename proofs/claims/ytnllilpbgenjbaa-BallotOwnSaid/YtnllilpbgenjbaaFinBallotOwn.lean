/- The law's walk: where nobody has voted one's own value may be proposed. -/
import Derived.Test.YtnllilpbgenjbaaPureBallotOwn
namespace Go.Proofs.Ytnllilpbgenjbaa.R
open Go.RowKit Go.Proofs.Ytnllilpbgenjbaa.P Go.Proofs.YtnllilpbgenjbaaW.PrintWords

theorem BallotOwn_fin (a0 : Int) (A1 : Option Addr) (c1 : Nat) (l1 : List Int) (a2 : ByteArray) (w : World) (w0 : (Lit.int .i64 a0).wf = true) (hr1 : Kd.C (Kd.int .u64) w A1 l1.length l1) (hc1 : l1.length ≤ c1) (_hm1 : l1.length ≤ maxLen)
    (hw1 : ∀ z ∈ l1, (Lit.int .u64 z).wf = true) (_w2 : a2.size ≤ 140737488351232) :
    Calls Try.prog 9 #[.int .i64 a0, .slice A1 l1.length c1, .string a2] w fun e w' => e = .returned (.bool true) ∧ Below w.heap.size w w' := by
  have h : rostrumlaw08_BallotOwn.f 18 a0 l1 a2 = some true := by
    unfold rostrumlaw08_BallotOwn.f
    rw [Pure.shown_true]
    simp only [Option.bind_some]
    exact Pure.own_loop a0 l1 a2 (fun x hx => (Pure.wf_u64 (hw1 x hx)).1) (Pure.wf_i64 w0) 18 0 (by omega) (by omega) (by omega)
  exact rostrumlaw08_BallotOwn.calls 18 a0 A1 c1 l1 a2 true w hr1 hc1 h
end Go.Proofs.Ytnllilpbgenjbaa.R
