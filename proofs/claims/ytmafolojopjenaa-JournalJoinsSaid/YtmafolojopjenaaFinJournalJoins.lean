/- What is read of whole bytes and others behind them is what is read of both. -/
import Derived.Test.YtmafolojopjenaaJouS
namespace Go.Proofs.Ytmafolojopjenaa.R
open Go.RowKit Go.Proofs.Ytmafolojopjenaa.P Go.Proofs.Ytmafolojopjenaa.G Go.Proofs.Ytmafolojopjenaa.Jo Go.Proofs.Ytmafolojopjenaa.Pure Go.Proofs.YtmafolojopjenaaW.PrintWords Go.Proofs.YtmafolojopjenaaW.PrintLast Go.Proofs.YtmafolojopjenaaW.PrintMore

theorem reads_length (l : Jo.Bs) : (readL l).length ≤ l.length := by
  have := recs_count (readL l)
  have h2 := goodL_le l
  unfold goodL at h2
  omega
theorem Joins_pure (l : List ByteArray) (t : ByteArray) (k : Nat) (hk : 8000 ≤ k) : rostrumlaw03_JournalJoins.f k l t = some true := by
  have hz := datas_size l
  have hsm := datasL_small' l
  have hcnt := datasL_length l
  have ht : (t.data.toList.take 3000).length ≤ 3000 := List.length_take_le _ _
  have htr := reads_length (t.data.toList.take 3000)
  unfold rostrumlaw03_JournalJoins.f
  rw [shown_true, bytes_is _ _ (by omega)]
  simp only [Option.bind_some]
  have hg := goodL_le (t.data.toList.take 3000)
  obtain ⟨T, hT⟩ : ∃ T, t.data.toList.take 3000 = T := ⟨_, rfl⟩
  obtain ⟨ds, hds⟩ : ∃ ds, datasL l = ds := ⟨_, rfl⟩
  rw [hT] at ht htr hg
  rw [hds] at hz hsm hcnt
  have e1 : wrap64 (((recsL ds).length : Int) + (goodL T : Int)) = (((recsL ds).length + goodL T : Nat) : Int) := by
    rw [IntWalk.wrap64_in _ (by omega)]; omega
  have e2 : wrap64 ((ds.length : Int) + ((readL T).length : Int)) = ((ds.length + (readL T).length : Nat) : Int) := by
    rw [IntWalk.wrap64_in _ (by omega)]; omega
  have l1 : (ds.map mk).length = ds.length := by simp
  have l2 : ((readL T).map mk).length = (readL T).length := by simp
  have l3 : ((ds ++ readL T).map mk).length = ds.length + (readL T).length := by simp
  rw [mn_lit _ _ (by decide), if_pos (by omega), if_pos (by omega), Int.toNat_natCast, show (3000 : Int).toNat = 3000 from rfl, extract_cut, hT, hds, read_mk _ (by omega), read_mk _ (by omega), Option.bind_some, Option.bind_some]
  dsimp only
  rw [if_pos (by rw [mk_size, mk_size]; omega), mk_append, read_mk _ (by rw [List.length_append]; omega), reads_all hsm, good_all hsm, reads_join hsm, good_join hsm, Option.bind_some]
  dsimp only
  rw [if_pos trivial, mk_size, if_pos rfl, e1, if_pos rfl, l1, l2, l3, e2, if_pos rfl, if_pos (by omega), if_pos (by omega), Int.toNat_natCast, List.map_append, List.take_left' l1, List.drop_left' l1,
    same_self _ (by omega) _ (by omega), Option.bind_some, if_pos rfl, same_self _ (by omega) _ (by omega), Option.bind_some]
theorem JournalJoins_fin (A0 : Option Addr) (c0 : Nat) (l0 : List ByteArray) (a1 : ByteArray) (w : World) (hr0 : Kd.C Kd.string w A0 l0.length l0) (hc0 : l0.length ≤ c0) (_hm0 : l0.length ≤ maxLen) (_hw0 : ∀ z ∈ l0, z.size ≤ maxLen) (_w1 : a1.size ≤ 140737488351232) :
    Calls Try.prog 5 #[.slice A0 l0.length c0, .string a1] w fun e w' => e = .returned (.bool true) ∧ Below w.heap.size w w' :=
  rostrumlaw03_JournalJoins.calls 8000 A0 c0 l0 a1 true w hr0 hc0 (Joins_pure l0 a1 8000 (Nat.le_refl _))
end Go.Proofs.Ytmafolojopjenaa.R
