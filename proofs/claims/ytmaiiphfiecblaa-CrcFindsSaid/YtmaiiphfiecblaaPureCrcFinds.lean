/- What is sealed and then changed by at most 32 bits in a row is not opened, if a bit was turned over: for the first three thousand bytes of every text, every bit, every mask. -/
import Derived.Test.YtmaiiphfiecblaaPCrcFindsx1
import Derived.Test.YtmaiiphfiecblaaCrcP
namespace Go.Proofs.Ytmaiiphfiecblaa.Pure
open Go.RowKit Go.Proofs.Ytmaiiphfiecblaa.PCrcFinds Go.Proofs.YtmaiiphfiecblaaW.PrintWords Go.Proofs.YtmaiiphfiecblaaW.PrintLast Go.Proofs.YtmaiiphfiecblaaW.PrintMore Go.Proofs.Ytmaiiphfiecblaa.Cr

theorem CrcFinds_shown : rostrumlaw01_shown.f = some true := by
  unfold rostrumlaw01_shown.f
  rw [show G.crc_Get.f (⟨#[]⟩ : ByteArray) = some (0, 2) from rfl, show G.crc_Sum.f (⟨#[49, 50, 51, 52, 53, 54, 55, 56, 57]⟩ : ByteArray) = some 3421780262 from by unfold G.crc_Sum.f; rw [if_pos (by decide), G.sumS_shown]]
  simp only [Option.bind_some, if_true]
  rw [show G.crc_Seal.f (⟨#[]⟩ : ByteArray) = some (G.sealS ⟨#[]⟩) from by unfold G.crc_Seal.f; rw [if_pos (by decide)]]
  simp only [Option.bind_some]
  rw [if_pos G.sealS_shown]
  rfl

theorem CrcFinds_cut (s : ByteArray) : ∃ t, rostrumlaw01_cut.f s = some t ∧ t.size ≤ 3000 := by
  unfold rostrumlaw01_cut.f
  have h1 : 0 ≤ mn (s.size : Int) 3000 := by unfold mn; split <;> omega
  have h2 : mn (s.size : Int) 3000 ≤ (s.size : Int) := by unfold mn; split <;> omega
  have h3 : mn (s.size : Int) 3000 ≤ 3000 := by unfold mn; split <;> omega
  rw [if_pos h1, if_pos h2]
  exact ⟨_, rfl, by rw [ByteArray.size_extract]; omega⟩

theorem CrcFinds : rostrumlaw01_CrcFinds.Pure := by
  intro s0 bit m hs hb hm
  obtain ⟨h0, h1⟩ := G.wf_u32 hm
  obtain ⟨t, ht, hl⟩ := CrcFinds_cut s0
  unfold rostrumlaw01_CrcFinds.f
  rw [CrcFinds_shown, ht]
  simp only [Option.bind_some, if_true]
  have hz := G.size_seal t
  rw [show G.crc_Seal.f t = some (G.sealS t) from by unfold G.crc_Seal.f; rw [if_pos (by omega)]]
  simp only [Option.bind_some]
  have hsd := G.sealed_data t
  obtain ⟨s, hsl⟩ : ∃ s, G.sealS t = s := ⟨_, rfl⟩
  rw [hsl] at hz hsd ⊢
  rw [show G.crc_Change.f s bit m = some (G.changeS s bit m) from by unfold G.crc_Change.f; rw [if_pos ⟨by omega, h0, h1⟩]]
  simp only [Option.bind_some]
  by_cases hbit : bit < 0 ∨ 8 * (s.size : Int) ≤ bit
  · rw [G.changeS_out hbit]
    rw [if_neg (show ¬ ((2 : Int) = 0) by decide)]
    by_cases hn : bit < 0
    · rw [if_pos hn]
    · rw [if_neg hn, show wrap64 (8 * (s.size : Int)) = 8 * (s.size : Int) by unfold wrap64; omega]
      simp; omega
  · have hb0 : 0 ≤ bit := by omega
    have hb1 : bit < 8 * (s.size : Int) := by omega
    rw [G.changeS_in hb0 hb1]
    have hzc : (⟨(chg s.data.toList bit.toNat (toB m) 32).toArray⟩ : ByteArray).size = s.size := by
      rw [← G.size_data, ← G.size_data]; simp [chg_length]
    have hd : bit.toNat < 8 * s.data.toList.length := by rw [G.size_data]; omega
    simp only [if_true]
    rw [show G.crc_Open.f ⟨(chg s.data.toList bit.toNat (toB m) 32).toArray⟩ = some (G.openS ⟨(chg s.data.toList bit.toNat (toB m) 32).toArray⟩) from by unfold G.crc_Open.f; rw [if_pos (by omega)]]
    simp only [Option.bind_some]
    by_cases he : chg s.data.toList bit.toNat (toB m) 32 = s.data.toList
    · rw [he]
      have hss : (⟨s.data.toList.toArray⟩ : ByteArray) = s := rfl
      rw [hss, if_pos rfl, G.openS_yes (by omega) hsd]
    · rw [if_neg (by rw [ByteArray.toList_eq, ByteArray.toList_eq]; exact he)]
      have hno : G.openS ⟨(chg s.data.toList bit.toNat (toB m) 32).toArray⟩ = (⟨#[]⟩, false) := by
        refine G.openS_no (fun _ => ?_)
        rw [hzc]
        have := seal_chg (l := s.data.toList) (bit := bit.toNat) (m := toB m) (by rw [G.size_data]; omega) (by rw [G.size_data]; exact hsd) hd he
        rw [G.size_data] at this
        exact this
      rw [hno]
      simp

end Go.Proofs.Ytmaiiphfiecblaa.Pure
