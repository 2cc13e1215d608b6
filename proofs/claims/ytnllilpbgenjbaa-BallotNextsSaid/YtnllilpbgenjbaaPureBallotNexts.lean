/- A node's next ballot: the next number with its remainder. -/
import Derived.Test.YtnllilpbgenjbaaPx4
import Derived.Test.YtnllilpbgenjbaaBalS
namespace Go.Proofs.Ytnllilpbgenjbaa.Pure
open Go.RowKit Go.Proofs.Ytnllilpbgenjbaa.P Go.Proofs.YtnllilpbgenjbaaW.PrintWords Go.Proofs.YtnllilpbgenjbaaW.PrintLast Go.Proofs.YtnllilpbgenjbaaW.PrintMore

theorem next_loop (a r : Int) (ha : 0 ≤ a) (ha' : a < 16) (hr : r % 16 = a) (hr' : r < 1152921504606846976 + 17) :
    ∀ (k d : Nat) (x : Int), d < k → d ≤ 15 → 0 ≤ x → x + d = r → rostrumref08_Next.l0 k a x = some (r, 0)
  | 0, d, x, hk, _, _, _ => by omega
  | k + 1, 0, x, _, _, h0, hx => by
    unfold rostrumref08_Next.l0
    rw [Int.tmod_eq_emod_of_nonneg h0, wrap_in ha (by omega), if_pos (by omega), show x = r by omega]
  | k + 1, d + 1, x, hk, hd, h0, hx => by
    unfold rostrumref08_Next.l0
    rw [Int.tmod_eq_emod_of_nonneg h0, wrap_in ha (by omega), if_neg (by omega), wrap_in (by omega) (by omega)]
    exact next_loop a r ha ha' hr hr' k d (x + 1) (by omega) (by omega) (by omega) (by omega)
theorem BallotNexts : rostrumlaw08_BallotNexts.Pure := by
  intro b n hb hn
  have hb0 := wf_u64 hb
  refine ⟨19, ?_⟩
  unfold rostrumlaw08_BallotNexts.f
  rw [shown_true]
  simp only [Option.bind_some]
  by_cases h : n < 0 ∨ n ≥ 16 ∨ b > 1152921504606846976
  · have e1 : ballot_Next.f b n = some (0, 2) := by
      unfold ballot_Next.f
      by_cases h1 : n < 0
      · rw [if_pos h1]
      · rw [if_neg h1]
        by_cases h2 : n ≥ 16
        · rw [if_pos h2]
        · rw [if_neg h2, if_pos (by omega)]
    have e2 : rostrumref08_Next.f 19 b n = some (0, 2) := by
      unfold rostrumref08_Next.f
      by_cases h1 : n < 0
      · rw [if_pos h1]; rfl
      · rw [if_neg h1]
        by_cases h2 : n ≥ 16
        · rw [if_pos h2]; rfl
        · rw [if_neg h2, decide_eq_true (by omega : b > 1152921504606846976)]; rfl
    rw [e1, e2]
    rfl
  · obtain ⟨r, hr⟩ : ∃ r, r = (b + 16 - n) / 16 * 16 + n := ⟨_, rfl⟩
    have e1 : ballot_Next.f b n = some (r, 0) := by
      unfold ballot_Next.f
      rw [if_neg (by omega), if_neg (by omega), if_neg (by omega)]
      rw [wrap_in (x := b + 16) (by omega) (by omega), wrap_in (x := n) (by omega) (by omega), wrap_in (x := b + 16 - n) (by omega) (by omega), wrap_in (x := (b + 16 - n) / 16 * 16) (by omega) (by omega), wrap_in (by omega) (by omega), ← hr]
    have e2 : rostrumref08_Next.f 19 b n = some (r, 0) := by
      unfold rostrumref08_Next.f
      rw [if_neg (by omega), if_neg (by omega), decide_eq_false (by omega : ¬ b > 1152921504606846976)]
      rw [show rostrumref08_Next.j0 19 b n false = rostrumref08_Next.l0 18 n (IntKind.u64.wrap (b + 1)) from rfl, wrap_in (by omega) (by omega)]
      exact next_loop n r (by omega) (by omega) (by omega) (by omega) 18 (r - (b + 1)).toNat (b + 1) (by omega) (by omega) (by omega) (by omega)
    rw [e1, e2]
    simp only [Option.bind_some, if_true]
    rw [if_pos (by omega), Int.tmod_eq_emod_of_nonneg (by omega), wrap_in (x := n) (by omega) (by omega), if_pos (by omega), wrap_in (by omega) (by omega), decide_eq_true (by omega)]
end Go.Proofs.Ytnllilpbgenjbaa.Pure
