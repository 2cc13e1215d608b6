/- A change that is made twice is none: for the first three thousand bytes of every text, every bit, every mask. -/
import Derived.Test.YtmaiiphfiecblaaPCrcTwicex1
import Derived.Test.YtmaiiphfiecblaaCrcP
namespace Go.Proofs.Ytmaiiphfiecblaa.Pure
open Go.RowKit Go.Proofs.Ytmaiiphfiecblaa.PCrcTwice Go.Proofs.YtmaiiphfiecblaaW.PrintWords Go.Proofs.YtmaiiphfiecblaaW.PrintLast Go.Proofs.YtmaiiphfiecblaaW.PrintMore Go.Proofs.Ytmaiiphfiecblaa.Cr

theorem CrcTwice_shown : rostrumlaw01_shown.f = some true := by
  unfold rostrumlaw01_shown.f
  rw [show G.crc_Get.f (⟨#[]⟩ : ByteArray) = some (0, 2) from rfl, show G.crc_Sum.f (⟨#[49, 50, 51, 52, 53, 54, 55, 56, 57]⟩ : ByteArray) = some 3421780262 from by unfold G.crc_Sum.f; rw [if_pos (by decide), G.sumS_shown]]
  simp only [Option.bind_some, if_true]
  rw [show G.crc_Seal.f (⟨#[]⟩ : ByteArray) = some (G.sealS ⟨#[]⟩) from by unfold G.crc_Seal.f; rw [if_pos (by decide)]]
  simp only [Option.bind_some]
  rw [if_pos G.sealS_shown]
  rfl

theorem CrcTwice_cut (s : ByteArray) : ∃ t, rostrumlaw01_cut.f s = some t ∧ t.size ≤ 3000 := by
  unfold rostrumlaw01_cut.f
  have h1 : 0 ≤ mn (s.size : Int) 3000 := by unfold mn; split <;> omega
  have h2 : mn (s.size : Int) 3000 ≤ (s.size : Int) := by unfold mn; split <;> omega
  have h3 : mn (s.size : Int) 3000 ≤ 3000 := by unfold mn; split <;> omega
  rw [if_pos h1, if_pos h2]
  exact ⟨_, rfl, by rw [ByteArray.size_extract]; omega⟩

theorem CrcTwice : rostrumlaw01_CrcTwice.Pure := by
  intro s bit m hs hb hm
  obtain ⟨h0, h1⟩ := G.wf_u32 hm
  obtain ⟨t, ht, hl⟩ := CrcTwice_cut s
  unfold rostrumlaw01_CrcTwice.f
  rw [CrcTwice_shown, ht]
  simp only [Option.bind_some, if_true]
  rw [show G.crc_Change.f t bit m = some (G.changeS t bit m) from by unfold G.crc_Change.f; rw [if_pos ⟨by omega, h0, h1⟩]]
  simp only [Option.bind_some]
  by_cases hbit : bit < 0 ∨ 8 * (t.size : Int) ≤ bit
  · rw [G.changeS_out hbit]
    simp
  · have hb0 : 0 ≤ bit := by omega
    have hb1 : bit < 8 * (t.size : Int) := by omega
    rw [G.changeS_in hb0 hb1]
    have hz : (⟨(chg t.data.toList bit.toNat (toB m) 32).toArray⟩ : ByteArray).size = t.size := by
      rw [← G.size_data, ← G.size_data]; simp [chg_length]
    have e2 : G.crc_Change.f ⟨(chg t.data.toList bit.toNat (toB m) 32).toArray⟩ bit m = some (t, 0) := by
      unfold G.crc_Change.f
      rw [if_pos ⟨by omega, h0, h1⟩, G.changeS_in hb0 (by rw [hz]; exact hb1)]
      rw [chg_twice]
    simp only [if_true]
    rw [e2]
    simp [hz]

end Go.Proofs.Ytmaiiphfiecblaa.Pure
