/- Bytes, changed, are the document's: for the first three thousand bytes of every text, every bit, every mask. -/
import Derived.Test.YtmaiiphfiecblaaPCrcChangesx1
import Derived.Test.YtmaiiphfiecblaaCrcP
namespace Go.Proofs.Ytmaiiphfiecblaa.Pure
open Go.RowKit Go.Proofs.Ytmaiiphfiecblaa.PCrcChanges Go.Proofs.YtmaiiphfiecblaaW.PrintWords Go.Proofs.YtmaiiphfiecblaaW.PrintLast Go.Proofs.YtmaiiphfiecblaaW.PrintMore Go.Proofs.Ytmaiiphfiecblaa.Cr

theorem CrcChanges_shown : rostrumlaw01_shown.f = some true := by
  unfold rostrumlaw01_shown.f
  rw [show G.crc_Get.f (⟨#[]⟩ : ByteArray) = some (0, 2) from rfl, show G.crc_Sum.f (⟨#[49, 50, 51, 52, 53, 54, 55, 56, 57]⟩ : ByteArray) = some 3421780262 from by unfold G.crc_Sum.f; rw [if_pos (by decide), G.sumS_shown]]
  simp only [Option.bind_some, if_true]
  rw [show G.crc_Seal.f (⟨#[]⟩ : ByteArray) = some (G.sealS ⟨#[]⟩) from by unfold G.crc_Seal.f; rw [if_pos (by decide)]]
  simp only [Option.bind_some]
  rw [if_pos G.sealS_shown]
  rfl

theorem CrcChanges_cut (s : ByteArray) : ∃ t, rostrumlaw01_cut.f s = some t ∧ t.size ≤ 3000 := by
  unfold rostrumlaw01_cut.f
  have h1 : 0 ≤ mn (s.size : Int) 3000 := by unfold mn; split <;> omega
  have h2 : mn (s.size : Int) 3000 ≤ (s.size : Int) := by unfold mn; split <;> omega
  have h3 : mn (s.size : Int) 3000 ≤ 3000 := by unfold mn; split <;> omega
  rw [if_pos h1, if_pos h2]
  exact ⟨_, rfl, by rw [ByteArray.size_extract]; omega⟩

theorem CrcChanges : rostrumlaw01_CrcChanges.Pure := by
  intro s bit m hs hb hm
  obtain ⟨h0, h1⟩ := G.wf_u32 hm
  obtain ⟨t, ht, hl⟩ := CrcChanges_cut s
  unfold rostrumlaw01_CrcChanges.f
  rw [CrcChanges_shown, ht]
  simp only [Option.bind_some, if_true]
  rw [show G.crc_Change.f t bit m = some (G.changeS t bit m) from by unfold G.crc_Change.f; rw [if_pos ⟨by omega, h0, h1⟩], show G.ref_Change.f t bit m = some (G.changeS t bit m) from by unfold G.ref_Change.f; rw [if_pos ⟨by omega, h0, h1⟩]]
  simp

end Go.Proofs.Ytmaiiphfiecblaa.Pure
