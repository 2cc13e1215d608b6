/- A record of which not all bytes were kept is not read; with all of them it is; the others are, either way. -/
import Derived.Test.YtmafolojopjenaaJouS
import Derived.Test.YtmafolojopjenaaPx7
namespace Go.Proofs.Ytmafolojopjenaa.R
open Go.RowKit Go.Proofs.Ytmafolojopjenaa.P Go.Proofs.Ytmafolojopjenaa.G Go.Proofs.Ytmafolojopjenaa.Jo Go.Proofs.Ytmafolojopjenaa.Pure Go.Proofs.YtmafolojopjenaaW.PrintWords Go.Proofs.YtmafolojopjenaaW.PrintLast Go.Proofs.YtmafolojopjenaaW.PrintMore

theorem Keeps_pure (l : List ByteArray) (x : ByteArray) (keep : Int) (k : Nat) (hk9 : 100 ≤ k) : rostrumlaw03_JournalKeeps.f k l x keep = some true := by
  have hz := datas_size l
  have hsm := datasL_small' l
  have hcnt := datasL_length l
  obtain ⟨d, hd⟩ : ∃ d, x.data.toList.take 100 = d := ⟨_, rfl⟩
  have hdl : d.length ≤ 100 := by rw [← hd]; exact List.length_take_le _ _
  obtain ⟨ds, hds⟩ : ∃ ds, datasL l = ds := ⟨_, rfl⟩
  rw [hds] at hz hsm hcnt
  unfold rostrumlaw03_JournalKeeps.f
  rw [shown_true, bytes_is _ _ (by omega), hds]
  simp only [Option.bind_some]
  rw [mn_lit _ _ (by decide), if_pos (by omega), if_pos (by omega), Int.toNat_natCast, show (100 : Int).toNat = 100 from rfl, extract_cut, hd, read_mk _ (by omega), append_mk _ _ _ (by omega) (by omega), reads_all hsm, good_all hsm,
    if_neg (by simp), if_neg (by omega), Option.bind_some, Option.bind_some]
  dsimp only
  have hsz : (recsL ds ++ (recL d).take (max keep 0).toNat).length ≤ 10000 := by
    rw [List.length_append, List.length_take, recL_length]; omega
  rw [read_mk _ (by omega), Option.bind_some]
  dsimp only
  rw [if_pos rfl, repair_mk _ (by omega), mk_size, IntWalk.wrap64_in ((d.length : Int) + 9) (by omega)]
  by_cases hk : keep < (d.length : Int) + 9
  · have hp := oneL_part (d := d) (by omega) (k := (max keep 0).toNat) (by omega)
    have hr := reads_recs hsm _ hp
    rw [if_pos hk, if_pos trivial, hr, same_self _ (by rw [List.length_map]; omega) _ (by rw [List.length_map]; omega), Option.bind_some, if_pos rfl, Option.bind_some]
    simp
  · have ha : recsL ds ++ (recL d).take (max keep 0).toNat = recsL (ds ++ [d]) := by
      rw [List.take_of_length_le (by rw [recL_length]; omega), recsL_append, recsL_one]
    have hsm' : ∀ y ∈ ds ++ [d], y.length ≤ 4096 := by
      intro y hy
      rcases List.mem_append.1 hy with hy | hy
      · exact hsm y hy
      · rw [List.mem_singleton] at hy; rw [hy]; omega
    rw [if_neg hk, ha, reads_all hsm']
    have e1 : wrap64 ((ds.length : Int) + 1) = ((ds.length + 1 : Nat) : Int) := by rw [IntWalk.wrap64_in _ (by omega)]; omega
    have e3 : ((ds ++ [d]).map mk).length = ds.length + 1 := by simp
    have e4 : (ds.map mk).length = ds.length := by simp
    rw [if_pos trivial, e3, e4, e1, if_pos rfl, if_pos (by omega), if_pos (by omega), Int.toNat_natCast, List.map_append, List.take_left' (by rw [List.length_map]), same_self _ (by rw [List.length_map]; omega) _ (by rw [List.length_map]; omega)]
    rw [Option.bind_some, if_pos rfl, if_pos (by omega)]
    have e2 : rdOf ByteArray.empty (ds.map mk ++ [d].map mk) (ds.length : Int) = mk d := by
      rw [rd_at _ ds.length (by simp)]
      rw [List.getElem_append_right (by simp)]
      simp
    rw [e2]
    simp
theorem JournalKeeps_fin (A0 : Option Addr) (c0 : Nat) (l0 : List ByteArray) (a1 : ByteArray) (a2 : Int) (w : World) (hr0 : Kd.C Kd.string w A0 l0.length l0) (hc0 : l0.length ≤ c0) (_hm0 : l0.length ≤ maxLen) (_hw0 : ∀ z ∈ l0, z.size ≤ maxLen) (_w1 : a1.size ≤ 140737488351232) (_w2 : (Lit.int .i64 a2).wf = true) :
    Calls Try.prog 10 #[.slice A0 l0.length c0, .string a1, .int .i64 a2] w fun e w' => e = .returned (.bool true) ∧ Below w.heap.size w w' :=
  rostrumlaw03_JournalKeeps.calls 100 A0 c0 l0 a1 a2 true w hr0 hc0 (Keeps_pure l0 a1 a2 100 (Nat.le_refl _))
end Go.Proofs.Ytmafolojopjenaa.R
