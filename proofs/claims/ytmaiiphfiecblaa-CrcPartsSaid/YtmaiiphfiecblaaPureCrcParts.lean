/- The sum of bytes in two parts is that of all: for the first fifteen hundred bytes of every two texts. -/
import Derived.Test.YtmaiiphfiecblaaPCrcPartsx1
import Derived.Test.YtmaiiphfiecblaaCrcP
namespace Go.Proofs.Ytmaiiphfiecblaa.Pure
open Go.RowKit Go.Proofs.Ytmaiiphfiecblaa.PCrcParts Go.Proofs.YtmaiiphfiecblaaW.PrintWords Go.Proofs.YtmaiiphfiecblaaW.PrintLast Go.Proofs.YtmaiiphfiecblaaW.PrintMore Go.Proofs.Ytmaiiphfiecblaa.Cr

theorem CrcParts_shown : rostrumlaw01_shown.f = some true := by
  unfold rostrumlaw01_shown.f
  rw [show G.crc_Get.f (⟨#[]⟩ : ByteArray) = some (0, 2) from rfl, show G.crc_Sum.f (⟨#[49, 50, 51, 52, 53, 54, 55, 56, 57]⟩ : ByteArray) = some 3421780262 from by unfold G.crc_Sum.f; rw [if_pos (by decide), G.sumS_shown]]
  simp only [Option.bind_some, if_true]
  rw [show G.crc_Seal.f (⟨#[]⟩ : ByteArray) = some (G.sealS ⟨#[]⟩) from by unfold G.crc_Seal.f; rw [if_pos (by decide)]]
  simp only [Option.bind_some]
  rw [if_pos G.sealS_shown]
  rfl

theorem CrcParts : rostrumlaw01_CrcParts.Pure := by
  intro s t hs ht
  unfold rostrumlaw01_CrcParts.f
  have h1 : 0 ≤ mn (s.size : Int) 1500 := by unfold mn; split <;> omega
  have h2 : mn (s.size : Int) 1500 ≤ (s.size : Int) := by unfold mn; split <;> omega
  have h3 : 0 ≤ mn (t.size : Int) 1500 := by unfold mn; split <;> omega
  have h4 : mn (t.size : Int) 1500 ≤ (t.size : Int) := by unfold mn; split <;> omega
  have h5 : mn (s.size : Int) 1500 ≤ 1500 := by unfold mn; split <;> omega
  have h6 : mn (t.size : Int) 1500 ≤ 1500 := by unfold mn; split <;> omega
  obtain ⟨a, ha⟩ : ∃ a, s.extract 0 (mn (s.size : Int) 1500).toNat = a := ⟨_, rfl⟩
  obtain ⟨b, hb⟩ : ∃ b, t.extract 0 (mn (t.size : Int) 1500).toNat = b := ⟨_, rfl⟩
  have hsa : a.size ≤ 1500 := by rw [← ha, ByteArray.size_extract]; omega
  have hsb : b.size ≤ 1500 := by rw [← hb, ByteArray.size_extract]; omega
  rw [CrcParts_shown]
  simp only [Option.bind_some, if_true]
  rw [if_pos h1, if_pos h2, if_pos h3, if_pos h4, ha, hb]
  have e1 : G.crc_Sum.f a = some (ofB (G.sumS a)) := by unfold G.crc_Sum.f; rw [if_pos (by omega)]
  have e2 : G.crc_More.f (ofB (G.sumS a)) b = some (G.moreS (ofB (G.sumS a)) b) := by unfold G.crc_More.f; rw [if_pos (by omega)]
  have e3 : G.crc_Sum.f (a ++ b) = some (ofB (G.sumS (a ++ b))) := by unfold G.crc_Sum.f; rw [if_pos (by rw [ByteArray.size_append]; omega)]
  have e4 : G.crc_More.f (ofB (G.sumS a)) (⟨#[]⟩ : ByteArray) = some (G.moreS (ofB (G.sumS a)) ⟨#[]⟩) := by unfold G.crc_More.f; rw [if_pos (by decide)]
  have k1 : G.moreS (ofB (G.sumS a)) b = ofB (G.sumS (a ++ b)) := by
    unfold G.moreS G.sumS
    rw [toB_ofB]
    unfold sumB moreB
    rw [ByteArray.data_append, Array.toList_append, stepsB_append, BitVec.not_not]
  have k2 : G.moreS (ofB (G.sumS a)) ⟨#[]⟩ = ofB (G.sumS a) := by
    unfold G.moreS
    rw [toB_ofB]
    simp [moreB, stepsB]
  rw [e1, e3]
  simp only [Option.bind_some]
  rw [e2]
  simp only [Option.bind_some]
  rw [if_pos (by omega), if_pos k1, e4, k2]
  simp

end Go.Proofs.Ytmaiiphfiecblaa.Pure
