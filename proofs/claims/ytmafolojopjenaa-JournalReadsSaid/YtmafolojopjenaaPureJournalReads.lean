/- A record's bytes, what is read, what is good: the program tells what the document tells. -/
import Derived.Test.YtmafolojopjenaaPx5
import Derived.Test.YtmafolojopjenaaJouT
namespace Go.Proofs.Ytmafolojopjenaa.Pure
open Go.RowKit Go.Proofs.Ytmafolojopjenaa.P Go.Proofs.Ytmafolojopjenaa.G Go.Proofs.Ytmafolojopjenaa.Jo Go.Proofs.YtmafolojopjenaaW.PrintWords Go.Proofs.YtmafolojopjenaaW.PrintLast Go.Proofs.YtmafolojopjenaaW.PrintMore

theorem cut_is (a : ByteArray) : rostrumlaw03_cut.f a = some (mk (a.data.toList.take 6000)) := by
  unfold rostrumlaw03_cut.f
  rw [mn_lit _ _ (by decide), if_pos (by omega), if_pos (by omega), Int.toNat_natCast, show (6000 : Int).toNat = 6000 from rfl, extract_cut]
theorem JournalReads : rostrumlaw03_JournalReads.Pure := by
  intro a0 _
  obtain ⟨s, hs⟩ : ∃ s, a0.data.toList.take 6000 = s := ⟨_, rfl⟩
  have hl : s.length ≤ 6000 := by rw [← hs]; exact List.length_take_le _ _
  refine ⟨7000, ?_⟩
  unfold rostrumlaw03_JournalReads.f
  rw [shown_true, cut_is, hs]
  simp only [Option.bind_some]
  rw [record_mk _ (by omega), refRecord_mk _ (by omega), read_mk _ (by omega), refRead_mk _ (by omega) _ (by omega)]
  simp only [Option.bind_some]
  have hr : (readL s).length ≤ 6000 := by
    have := recs_count (readL s)
    have h2 := goodL_le s
    unfold goodL at h2
    omega
  rw [if_pos trivial, if_pos trivial, if_pos trivial, same_self _ (by rw [List.length_map]; omega) _ (by rw [List.length_map]; omega)]
  simp only [Option.bind_some]
  rw [if_pos trivial, if_pos trivial, whole_mk _ (by omega), refWhole_mk _ (by omega) _ (by omega)]
  simp only [Option.bind_some]
  rw [if_pos (by simp), repair_mk _ (by omega), refRepair_mk _ (by omega) _ (by omega)]
  simp
end Go.Proofs.Ytmafolojopjenaa.Pure
