/- A record behind bytes, of which some are kept: the program tells what the document tells. -/
import Derived.Test.YtmafolojopjenaaPx5
import Derived.Test.YtmafolojopjenaaJouT
namespace Go.Proofs.Ytmafolojopjenaa.Pure
open Go.RowKit Go.Proofs.Ytmafolojopjenaa.P Go.Proofs.Ytmafolojopjenaa.G Go.Proofs.Ytmafolojopjenaa.Jo Go.Proofs.YtmafolojopjenaaW.PrintWords Go.Proofs.YtmafolojopjenaaW.PrintLast Go.Proofs.YtmafolojopjenaaW.PrintMore

theorem cut_is' (a : ByteArray) : rostrumlaw03_cut.f a = some (mk (a.data.toList.take 6000)) := by
  unfold rostrumlaw03_cut.f
  rw [mn_lit _ _ (by decide), if_pos (by omega), if_pos (by omega), Int.toNat_natCast, show (6000 : Int).toNat = 6000 from rfl, extract_cut]
theorem JournalAppends : rostrumlaw03_JournalAppends.Pure := by
  intro a0 a1 a2 _ _ hw
  have hl : (a0.data.toList.take 6000).length ≤ 6000 := List.length_take_le _ _
  have hd : (a1.data.toList.take 6000).length ≤ 6000 := List.length_take_le _ _
  refine ⟨7000, ?_⟩
  unfold rostrumlaw03_JournalAppends.f
  rw [shown_true, cut_is', cut_is']
  simp only [Option.bind_some]
  rw [append_mk _ _ _ (by omega) (by omega), refAppend_mk _ _ _ (by omega) (by omega) (wf_i64 hw) _ (by omega)]
  simp
end Go.Proofs.Ytmafolojopjenaa.Pure
