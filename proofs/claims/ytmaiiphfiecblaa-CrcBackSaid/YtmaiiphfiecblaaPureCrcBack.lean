/- What is sealed is opened to itself, and numbers and their bytes are one to one: for the first three thousand bytes of every text, every number. -/
import Derived.Test.YtmaiiphfiecblaaPCrcBackx1
import Derived.Test.YtmaiiphfiecblaaCrcP
namespace Go.Proofs.Ytmaiiphfiecblaa.Pure
open Go.RowKit Go.Proofs.Ytmaiiphfiecblaa.PCrcBack Go.Proofs.YtmaiiphfiecblaaW.PrintWords Go.Proofs.YtmaiiphfiecblaaW.PrintLast Go.Proofs.YtmaiiphfiecblaaW.PrintMore Go.Proofs.Ytmaiiphfiecblaa.Cr

theorem CrcBack_shown : rostrumlaw01_shown.f = some true := by
  unfold rostrumlaw01_shown.f
  rw [show G.crc_Get.f (⟨#[]⟩ : ByteArray) = some (0, 2) from rfl, show G.crc_Sum.f (⟨#[49, 50, 51, 52, 53, 54, 55, 56, 57]⟩ : ByteArray) = some 3421780262 from by unfold G.crc_Sum.f; rw [if_pos (by decide), G.sumS_shown]]
  simp only [Option.bind_some, if_true]
  rw [show G.crc_Seal.f (⟨#[]⟩ : ByteArray) = some (G.sealS ⟨#[]⟩) from by unfold G.crc_Seal.f; rw [if_pos (by decide)]]
  simp only [Option.bind_some]
  rw [if_pos G.sealS_shown]
  rfl

theorem CrcBack_cut (s : ByteArray) : ∃ t, rostrumlaw01_cut.f s = some t ∧ t.size ≤ 3000 := by
  unfold rostrumlaw01_cut.f
  have h1 : 0 ≤ mn (s.size : Int) 3000 := by unfold mn; split <;> omega
  have h2 : mn (s.size : Int) 3000 ≤ (s.size : Int) := by unfold mn; split <;> omega
  have h3 : mn (s.size : Int) 3000 ≤ 3000 := by unfold mn; split <;> omega
  rw [if_pos h1, if_pos h2]
  exact ⟨_, rfl, by rw [ByteArray.size_extract]; omega⟩

theorem CrcBack : rostrumlaw01_CrcBack.Pure := by
  intro s n hs hn
  obtain ⟨h0, h1⟩ := G.wf_u32 hn
  obtain ⟨t, ht, hl⟩ := CrcBack_cut s
  unfold rostrumlaw01_CrcBack.f
  rw [CrcBack_shown, ht]
  simp only [Option.bind_some, if_true]
  have hz := G.size_seal t
  have e1 : G.crc_Seal.f t = some (G.sealS t) := by unfold G.crc_Seal.f; rw [if_pos (by omega)]
  have e2 : G.crc_Open.f (G.sealS t) = some (t, true) := by unfold G.crc_Open.f; rw [if_pos (by omega), G.open_seal]
  have e3 : G.crc_Put.f n = some (G.putS (toB n)) := by unfold G.crc_Put.f; rw [if_pos ⟨h0, h1⟩]
  have e4 : G.crc_Get.f (G.putS (toB n)) = some (n, 0) := by unfold G.crc_Get.f; rw [G.get_putS, ofB_toB h0 h1]
  rw [e1]
  simp only [Option.bind_some]
  rw [e2, e3]
  simp only [Option.bind_some, if_true]
  rw [e4]
  simp only [Option.bind_some, if_true]
  rw [hz, show wrap64 ((t.size : Int) + 4) = ((t.size + 4 : Nat) : Int) by unfold wrap64; omega]
  simp

end Go.Proofs.Ytmaiiphfiecblaa.Pure
