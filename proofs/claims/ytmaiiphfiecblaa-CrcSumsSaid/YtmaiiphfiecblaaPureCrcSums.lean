/- The program's steps and sums are the document's: for every sum, every byte, and the first three thousand bytes of every text. -/
import Derived.Test.YtmaiiphfiecblaaPCrcSumsx1
import Derived.Test.YtmaiiphfiecblaaCrcP
namespace Go.Proofs.Ytmaiiphfiecblaa.Pure
open Go.RowKit Go.Proofs.Ytmaiiphfiecblaa.PCrcSums Go.Proofs.YtmaiiphfiecblaaW.PrintWords Go.Proofs.YtmaiiphfiecblaaW.PrintLast Go.Proofs.YtmaiiphfiecblaaW.PrintMore Go.Proofs.Ytmaiiphfiecblaa.Cr

theorem CrcSums_shown : rostrumlaw01_shown.f = some true := by
  unfold rostrumlaw01_shown.f
  rw [show G.crc_Get.f (⟨#[]⟩ : ByteArray) = some (0, 2) from rfl, show G.crc_Sum.f (⟨#[49, 50, 51, 52, 53, 54, 55, 56, 57]⟩ : ByteArray) = some 3421780262 from by unfold G.crc_Sum.f; rw [if_pos (by decide), G.sumS_shown]]
  simp only [Option.bind_some, if_true]
  rw [show G.crc_Seal.f (⟨#[]⟩ : ByteArray) = some (G.sealS ⟨#[]⟩) from by unfold G.crc_Seal.f; rw [if_pos (by decide)]]
  simp only [Option.bind_some]
  rw [if_pos G.sealS_shown]
  rfl

theorem CrcSums_cut (s : ByteArray) : ∃ t, rostrumlaw01_cut.f s = some t ∧ t.size ≤ 3000 := by
  unfold rostrumlaw01_cut.f
  have h1 : 0 ≤ mn (s.size : Int) 3000 := by unfold mn; split <;> omega
  have h2 : mn (s.size : Int) 3000 ≤ (s.size : Int) := by unfold mn; split <;> omega
  have h3 : mn (s.size : Int) 3000 ≤ 3000 := by unfold mn; split <;> omega
  rw [if_pos h1, if_pos h2]
  exact ⟨_, rfl, by rw [ByteArray.size_extract]; omega⟩

theorem CrcSums : rostrumlaw01_CrcSums.Pure := by
  intro n b s hn hb hs
  obtain ⟨t, ht, hl⟩ := CrcSums_cut s
  unfold rostrumlaw01_CrcSums.f
  rw [CrcSums_shown, ht, show G.crc_Step.f n b = some (G.stepS n b) from rfl, show G.ref_Step.f n b = some (G.stepS n b) from rfl]
  simp only [Option.bind_some, if_true]
  rw [show G.crc_Sum.f t = some (ofB (G.sumS t)) from by unfold G.crc_Sum.f; rw [if_pos (by omega)],
    show G.ref_Sum.f t = some (ofB (G.sumS t)) from by unfold G.ref_Sum.f; rw [if_pos (by omega)], show G.crc_More.f n t = some (G.moreS n t) from by unfold G.crc_More.f; rw [if_pos (by omega)],
    show G.ref_More.f n t = some (G.moreS n t) from by unfold G.ref_More.f; rw [if_pos (by omega)]]
  simp

end Go.Proofs.Ytmaiiphfiecblaa.Pure
