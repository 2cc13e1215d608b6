/- How much data a record may have. -/
import Derived.Test.YtmafolojopjenaaPx7
import Derived.Test.YtmafolojopjenaaJouS
namespace Go.Proofs.Ytmafolojopjenaa.Pure
open Go.RowKit Go.Proofs.Ytmafolojopjenaa.P Go.Proofs.Ytmafolojopjenaa.G Go.Proofs.Ytmafolojopjenaa.Jo Go.Proofs.YtmafolojopjenaaW.PrintWords Go.Proofs.YtmafolojopjenaaW.PrintLast Go.Proofs.YtmafolojopjenaaW.PrintMore

theorem zeros_mk (n : Nat) : strOfNums (List.replicate n 0) = mk (List.replicate n 0) := by
  unfold strOfNums mk
  congr 2
  rw [List.map_replicate]
  rfl
theorem JournalFull : rostrumlaw03_JournalFull.Pure := by
  intro n _
  refine ⟨1, ?_⟩
  unfold rostrumlaw03_JournalFull.f
  rw [shown_true]
  simp only [Option.bind_some, rostrumlaw03_JournalFull.j0]
  by_cases h1 : n < 4090
  · rw [if_pos h1, if_pos trivial]
  · rw [if_neg h1]
    by_cases h2 : n > 4100
    · rw [if_pos (by simpa using h2)]
    · rw [if_neg (by simpa using h2)]
      obtain ⟨m, rfl⟩ := Int.eq_ofNat_of_zero_le (show 0 ≤ n by omega)
      have h0 : (⟨#[]⟩ : ByteArray) = mk [] := rfl
      have hg : goodL ([] : Jo.Bs) = ([] : Jo.Bs).length := by
        have := goodL_le []
        simp at this
        simpa using this
      rw [if_pos (by omega), if_pos (by rw [Int.toNat_natCast]; omega), Int.toNat_natCast, zeros_mk, record_mk _ (by simp; omega), h0, append_mk _ _ _ (by simp) (by simp; omega)]
      simp only [Option.bind_some, List.length_replicate, List.length_nil]
      rw [if_neg (show ¬ goodL ([] : Jo.Bs) ≠ 0 by simpa using hg)]
      by_cases h3 : 4096 < m
      · rw [if_pos h3, if_pos (show 4096 < m ∨ _ from .inl h3)]
        simp
        omega
      · rw [if_neg h3, if_neg (show ¬ (4096 < m ∨ 1048576 < 0 + (m + 9)) by omega)]
        simp only
        rw [if_pos trivial, if_pos, if_pos trivial, if_pos trivial, mk_size, recL_length, List.length_replicate, IntWalk.wrap64_in _ (by omega)]
        · simp
        · simp; omega
end Go.Proofs.Ytmafolojopjenaa.Pure
