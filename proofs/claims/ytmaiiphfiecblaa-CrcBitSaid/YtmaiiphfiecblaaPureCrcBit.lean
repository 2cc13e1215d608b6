/- Another bit makes another sum: for the first three thousand bytes of every text, every bit. -/
import Derived.Test.YtmaiiphfiecblaaPCrcBitx1
import Derived.Test.YtmaiiphfiecblaaCrcP
namespace Go.Proofs.Ytmaiiphfiecblaa.Pure
open Go.RowKit Go.Proofs.Ytmaiiphfiecblaa.PCrcBit Go.Proofs.YtmaiiphfiecblaaW.PrintWords Go.Proofs.YtmaiiphfiecblaaW.PrintLast Go.Proofs.YtmaiiphfiecblaaW.PrintMore Go.Proofs.Ytmaiiphfiecblaa.Cr

theorem CrcBit_shown : rostrumlaw01_shown.f = some true := by
  unfold rostrumlaw01_shown.f
  rw [show G.crc_Get.f (⟨#[]⟩ : ByteArray) = some (0, 2) from rfl, show G.crc_Sum.f (⟨#[49, 50, 51, 52, 53, 54, 55, 56, 57]⟩ : ByteArray) = some 3421780262 from by unfold G.crc_Sum.f; rw [if_pos (by decide), G.sumS_shown]]
  simp only [Option.bind_some, if_true]
  rw [show G.crc_Seal.f (⟨#[]⟩ : ByteArray) = some (G.sealS ⟨#[]⟩) from by unfold G.crc_Seal.f; rw [if_pos (by decide)]]
  simp only [Option.bind_some]
  rw [if_pos G.sealS_shown]
  rfl

theorem CrcBit_cut (s : ByteArray) : ∃ t, rostrumlaw01_cut.f s = some t ∧ t.size ≤ 3000 := by
  unfold rostrumlaw01_cut.f
  have h1 : 0 ≤ mn (s.size : Int) 3000 := by unfold mn; split <;> omega
  have h2 : mn (s.size : Int) 3000 ≤ (s.size : Int) := by unfold mn; split <;> omega
  have h3 : mn (s.size : Int) 3000 ≤ 3000 := by unfold mn; split <;> omega
  rw [if_pos h1, if_pos h2]
  exact ⟨_, rfl, by rw [ByteArray.size_extract]; omega⟩

theorem CrcBit : rostrumlaw01_CrcBit.Pure := by
  intro s bit hs hb
  obtain ⟨t, ht, hl⟩ := CrcBit_cut s
  unfold rostrumlaw01_CrcBit.f
  rw [CrcBit_shown, ht]
  simp only [Option.bind_some, if_true]
  rw [show G.crc_Change.f t bit 1 = some (G.changeS t bit 1) from by unfold G.crc_Change.f; rw [if_pos ⟨by omega, by omega, by omega⟩]]
  simp only [Option.bind_some]
  by_cases hbit : bit < 0 ∨ 8 * (t.size : Int) ≤ bit
  · rw [G.changeS_out hbit]
    simp
  · have hb0 : 0 ≤ bit := by omega
    have hb1 : bit < 8 * (t.size : Int) := by omega
    rw [G.changeS_in hb0 hb1]
    have hz : (⟨(chg t.data.toList bit.toNat (toB 1) 32).toArray⟩ : ByteArray).size = t.size := by
      rw [← G.size_data, ← G.size_data]; simp [chg_length]
    have hd : bit.toNat < 8 * t.data.toList.length := by rw [G.size_data]; omega
    have hne : chg t.data.toList bit.toNat (toB 1) 32 ≠ t.data.toList := by
      intro e
      have e1 := bitAt_chg t.data.toList bit.toNat (toB 1) 32 bit.toNat hd
      rw [e, show toB 1 = 1#32 by decide] at e1
      simp at e1
    simp only [if_true]
    rw [if_neg (by rw [ByteArray.toList_eq, ByteArray.toList_eq]; exact hne), show G.crc_Sum.f ⟨(chg t.data.toList bit.toNat (toB 1) 32).toArray⟩ = some (ofB (sumB (chg t.data.toList bit.toNat (toB 1) 32))) from by unfold G.crc_Sum.f; rw [if_pos (by omega)]; rfl,
      show G.crc_Sum.f t = some (ofB (sumB t.data.toList)) from by unfold G.crc_Sum.f; rw [if_pos (by omega)]; rfl]
    simp only [Option.bind_some, Option.some.injEq]
    have := sum_chg hd hne
    simpa using fun e => this (ofB_inj e)

end Go.Proofs.Ytmaiiphfiecblaa.Pure
