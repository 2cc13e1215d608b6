/- The law's walk: what may be proposed, what is decided. -/
import Derived.Test.YtnllilpbgenjbaaPx7
import Derived.Test.YtnllilpbgenjbaaBalT
namespace Go.Proofs.Ytnllilpbgenjbaa.R
open Go.RowKit Go.Proofs.Ytnllilpbgenjbaa.P Go.Proofs.YtnllilpbgenjbaaW.PrintWords Go.Proofs.YtnllilpbgenjbaaW.PrintLast Go.Proofs.YtnllilpbgenjbaaW.PrintMore

theorem Proposals_pure (n : Int) (l : List S24) (own : ByteArray) (hw : ∀ z ∈ l, 0 ≤ z.f1) : ∃ k, rostrumlaw08_BallotProposals.f k n l own = some true := by
  have hl : ((l.take 20).map Pure.cutV).length ≤ 20 := by simp; omega
  have hb : ∀ x ∈ (l.take 20).map Pure.cutV, 0 ≤ x.f1 := by
    intro x hx
    obtain ⟨y, hy, rfl⟩ := List.mem_map.1 hx
    exact hw y (List.mem_of_mem_take hy)
  obtain ⟨t, ht, _⟩ := Pure.cut_is own
  obtain ⟨K1, k1⟩ := Pure.some_ev l
  obtain ⟨K2, k2⟩ := Pure.refP_ev n _ t hl hb
  obtain ⟨K3, k3⟩ := Pure.refD_ev _ hl hb
  refine ⟨K1 + K2 + K3, ?_⟩
  have e1 := k1 (K1 + K2 + K3) (by omega)
  have e2 := k2 (K1 + K2 + K3) (by omega)
  have e3 := k3 (K1 + K2 + K3) (by omega)
  simp only at e1 e2 e3
  unfold rostrumlaw08_BallotProposals.f
  rw [Pure.shown_true, e1, ht]
  simp only [Option.bind_some]
  rw [show G.ballot_Proposal.f n ((l.take 20).map Pure.cutV) t = some (G.proposalS n ((l.take 20).map Pure.cutV) t) by unfold G.ballot_Proposal.f; rw [if_pos (by omega)],
    show G.ballot_Decided.f ((l.take 20).map Pure.cutV) = some (G.decidedS ((l.take 20).map Pure.cutV)) by unfold G.ballot_Decided.f; rw [if_pos (by omega)], e2, e3]
  simp
theorem BallotProposals_fin (a0 : Int) (A1 : Option Addr) (c1 : Nat) (l1 : List S24) (a2 : ByteArray) (w : World) (_w0 : (Lit.int .i64 a0).wf = true) (hr1 : Kd.C k24 w A1 l1.length l1) (hc1 : l1.length ≤ c1) (_hm1 : l1.length ≤ maxLen)
    (hw1 : ∀ z ∈ l1, (Lit.int .u64 z.f0).wf = true ∧ (Lit.int .u64 z.f1).wf = true ∧ z.f2.size ≤ maxLen) (_w2 : a2.size ≤ 140737488351232) :
    Calls Try.prog 7 #[.int .i64 a0, .slice A1 l1.length c1, .string a2] w fun e w' => e = .returned (.bool true) ∧ Below w.heap.size w w' := by
  obtain ⟨k, h⟩ := Proposals_pure a0 l1 a2 (fun z hz => (Pure.wf_u64 (hw1 z hz).2.1).1)
  exact rostrumlaw08_BallotProposals.calls k a0 A1 c1 l1 a2 true w hr1 hc1 h
end Go.Proofs.Ytnllilpbgenjbaa.R
