/- The law's walk: which acceptors are right, promising, voting. -/
import Derived.Test.YtnllilpbgenjbaaXVotes
import Derived.Test.YtnllilpbgenjbaaBalS
namespace Go.Proofs.Ytnllilpbgenjbaa.R
open Go.RowKit Go.Proofs.Ytnllilpbgenjbaa.P Go.Proofs.YtnllilpbgenjbaaW.PrintWords

theorem BallotVotes_fin (p b : Int) (v : ByteArray) (x : Int) (s : ByteArray) (w : World) (_w0 : (Lit.int .u64 p).wf = true) (w1 : (Lit.int .u64 b).wf = true) (_w2 : v.size ≤ maxLen) (w3 : (Lit.int .u64 x).wf = true) (_w4 : s.size ≤ 140737488351232) :
    Calls Try.prog 3 #[.agg #[.int .u64 p, .int .u64 b, .string v], .int .u64 x, .string s] w fun e w' => e = .returned (.bool true) ∧ Below w.heap.size w w' := by
  have hb := (Pure.wf_u64 w1).1
  have hx := (Pure.wf_u64 w3).1
  obtain ⟨v', ev, _, _⟩ := Pure.cut_is v
  obtain ⟨s', es, _, _⟩ := Pure.cut_is s
  have h : rostrumlaw08_BallotVotes.f 1 p b v x s = some true := by
    unfold rostrumlaw08_BallotVotes.f
    rw [Pure.shown_true, ev]
    simp only [Option.bind_some]
    rw [Pure.ref_promise_f p b v' x hb hx, es]
    simp only [Option.bind_some]
    rw [Pure.ref_cast_f p b v' x s' hb hx, show G.ballot_Promise.f p b v' x = some (G.promiseS p b v' x) from rfl, show G.ballot_Cast.f p b v' x s' = some (G.castS p b v' x s') from rfl,
      Pure.ref_right p b v' hb, show G.ballot_Right.f p b v' = some (G.rightS p b v') from rfl]
    simp
  exact rostrumlaw08_BallotVotes.calls_true 1 p b v x s true w h rfl
end Go.Proofs.Ytnllilpbgenjbaa.R
