/- Numbers as bytes, bytes sealed and opened, are the document's: for the first three thousand bytes of every text, every number. -/
import Derived.Test.YtmaiiphfiecblaaPCrcSealsx1
import Derived.Test.YtmaiiphfiecblaaCrcP
namespace Go.Proofs.Ytmaiiphfiecblaa.Pure
open Go.RowKit Go.Proofs.Ytmaiiphfiecblaa.PCrcSeals Go.Proofs.YtmaiiphfiecblaaW.PrintWords Go.Proofs.YtmaiiphfiecblaaW.PrintLast Go.Proofs.YtmaiiphfiecblaaW.PrintMore Go.Proofs.Ytmaiiphfiecblaa.Cr

theorem CrcSeals_shown : rostrumlaw01_shown.f = some true := by
  unfold rostrumlaw01_shown.f
  rw [show G.crc_Get.f (⟨#[]⟩ : ByteArray) = some (0, 2) from rfl, show G.crc_Sum.f (⟨#[49, 50, 51, 52, 53, 54, 55, 56, 57]⟩ : ByteArray) = some 3421780262 from by unfold G.crc_Sum.f; rw [if_pos (by decide), G.sumS_shown]]
  simp only [Option.bind_some, if_true]
  rw [show G.crc_Seal.f (⟨#[]⟩ : ByteArray) = some (G.sealS ⟨#[]⟩) from by unfold G.crc_Seal.f; rw [if_pos (by decide)]]
  simp only [Option.bind_some]
  rw [if_pos G.sealS_shown]
  rfl

theorem CrcSeals_cut (s : ByteArray) : ∃ t, rostrumlaw01_cut.f s = some t ∧ t.size ≤ 3000 := by
  unfold rostrumlaw01_cut.f
  have h1 : 0 ≤ mn (s.size : Int) 3000 := by unfold mn; split <;> omega
  have h2 : mn (s.size : Int) 3000 ≤ (s.size : Int) := by unfold mn; split <;> omega
  have h3 : mn (s.size : Int) 3000 ≤ 3000 := by unfold mn; split <;> omega
  rw [if_pos h1, if_pos h2]
  exact ⟨_, rfl, by rw [ByteArray.size_extract]; omega⟩

theorem CrcSeals : rostrumlaw01_CrcSeals.Pure := by
  intro s n hs hn
  obtain ⟨h0, h1⟩ := G.wf_u32 hn
  obtain ⟨t, ht, hl⟩ := CrcSeals_cut s
  unfold rostrumlaw01_CrcSeals.f
  rw [CrcSeals_shown, ht]
  simp only [Option.bind_some, if_true]
  rw [show G.crc_Get.f t = some (G.getS t) from rfl, show G.ref_Get.f t = some (G.getS t) from rfl, show G.crc_Open.f t = some (G.openS t) from by unfold G.crc_Open.f; rw [if_pos (by omega)],
    show G.ref_Open.f t = some (G.openS t) from by unfold G.ref_Open.f; rw [if_pos (by omega)], show G.crc_Put.f n = some (G.putS (toB n)) from by unfold G.crc_Put.f; rw [if_pos ⟨h0, h1⟩],
    show G.ref_Put.f n = some (G.putS (toB n)) from by unfold G.ref_Put.f; rw [if_pos ⟨h0, h1⟩], show G.crc_Seal.f t = some (G.sealS t) from by unfold G.crc_Seal.f; rw [if_pos (by omega)],
    show G.ref_Seal.f t = some (G.sealS t) from by unfold G.ref_Seal.f; rw [if_pos (by omega)]]
  simp

end Go.Proofs.Ytmaiiphfiecblaa.Pure
