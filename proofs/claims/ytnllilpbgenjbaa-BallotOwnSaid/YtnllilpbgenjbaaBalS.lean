/- Ballots: plain facts that several laws use. -/
import Derived.Test.YtnllilpbgenjbaaPx2
import Derived.IntWalk
namespace Go.Proofs.Ytnllilpbgenjbaa.Pure
open Go.RowKit Go.Proofs.Ytnllilpbgenjbaa.P Go.Proofs.YtnllilpbgenjbaaW.PrintWords Go.Proofs.YtnllilpbgenjbaaW.PrintLast Go.Proofs.YtnllilpbgenjbaaW.PrintMore

theorem shown_true : rostrumlaw08_shown.f = some true := by
  have e1 : G.ballot_Promise.f 0 0 (⟨#[]⟩ : ByteArray) 17 = some (17, 0, ⟨#[]⟩, 0) := by decide +kernel
  have e2 : G.ballot_Cast.f 17 0 (⟨#[]⟩ : ByteArray) 16 ⟨#[120]⟩ = some (0, 0, ⟨#[]⟩, 80) := by decide +kernel
  have e3 : G.ballot_Cast.f 17 0 (⟨#[]⟩ : ByteArray) 17 ⟨#[121]⟩ = some (17, 17, ⟨#[121]⟩, 0) := by decide +kernel
  have e4 : G.ballot_Decided.f [⟨17, 17, ⟨#[121]⟩⟩, ⟨17, 17, ⟨#[121]⟩⟩, ⟨0, 0, ⟨#[]⟩⟩] = some (⟨#[121]⟩, true, 0) := by decide +kernel
  unfold rostrumlaw08_shown.f
  rw [e1]
  simp only [Option.bind_some]
  rw [e2, e3]
  simp only [Option.bind_some]
  rw [e4]
  have t1 : (⟨#[121]⟩ : ByteArray).toList = [121] := by rw [ByteArray.toList_eq]
  have t2 : (⟨#[]⟩ : ByteArray).toList = [] := by rw [ByteArray.toList_eq]
  simp [t1, t2]
theorem wrap_in {x : Int} (h0 : 0 ≤ x) (h1 : x < 18446744073709551616) : IntKind.u64.wrap x = x := IntWalk.u64_in x ⟨h0, by omega⟩
theorem wf_u64 {n : Int} (h : (Lit.int .u64 n).wf = true) : 0 ≤ n ∧ n < 18446744073709551616 := by
  simp [Lit.wf, IntKind.min, IntKind.max, IntKind.bits, IntKind.signed] at h
  omega
theorem wf_i64 {n : Int} (h : (Lit.int .i64 n).wf = true) : -9223372036854775808 ≤ n ∧ n < 9223372036854775808 := by
  simp [Lit.wf, IntKind.min, IntKind.max, IntKind.bits, IntKind.signed] at h
  omega
theorem cut_is (s : ByteArray) : ∃ t, rostrumlaw08_cut.f s = some t ∧ t.size ≤ 4100 ∧ (s.size ≤ 4100 → t = s) := by
  unfold rostrumlaw08_cut.f
  have h1 : 0 ≤ mn (s.size : Int) 4100 := by unfold mn; split <;> omega
  have h2 : mn (s.size : Int) 4100 ≤ (s.size : Int) := by unfold mn; split <;> omega
  have h3 : mn (s.size : Int) 4100 ≤ 4100 := by unfold mn; split <;> omega
  rw [if_pos h1, if_pos h2]
  refine ⟨_, rfl, by rw [ByteArray.size_extract]; omega, fun h => ?_⟩
  have : mn (s.size : Int) 4100 = s.size := by unfold mn; split <;> omega
  rw [this]
  exact ByteArray.extract_zero_size
end Go.Proofs.Ytnllilpbgenjbaa.Pure
