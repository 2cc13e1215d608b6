/- Records: what the document's functions tell. -/
import Derived.Test.YtmafolojopjenaaJouS
import Derived.Test.YtmafolojopjenaaPx5
namespace Go.Proofs.Ytmafolojopjenaa.Pure
open Go.RowKit Go.Proofs.Ytmafolojopjenaa.P Go.Proofs.Ytmafolojopjenaa.G Go.Proofs.Ytmafolojopjenaa.Cr Go.Proofs.Ytmafolojopjenaa.Jo Go.Proofs.YtmafolojopjenaaW.PrintWords Go.Proofs.YtmafolojopjenaaW.PrintLast Go.Proofs.YtmafolojopjenaaW.PrintMore

/-- The document's first record of bytes. -/
def oneR (l : Jo.Bs) : ByteArray × Int := match oneL l with | none => (⟨#[]⟩, 0) | some d => (mk d, ((d.length + 9 : Nat) : Int))
theorem bits_get {s : ByteArray} (h : 9 ≤ s.size) : ref_Get.f (s.extract 1 5) = some (numS s, 0) := by
  unfold ref_Get.f numS getS
  have h4 : (s.extract 1 5).data.toList.length = 4 := by rw [size_data, extract_size _ _ _ (by omega)]
  obtain ⟨a, b, c, d, e⟩ := four h4
  rw [e]
  rfl
theorem refOne_mk (l : Jo.Bs) (hl : l.length ≤ 140737488351232) (k : Nat) : rostrumref03_one.f (k + 2) (mk l) = some (oneR l) := by
  unfold rostrumref03_one.f
  by_cases h9 : l.length < 9
  · rw [mk_size, if_pos (by omega)]
    simp only [rostrumref03_one.j0]
    rw [if_pos trivial]
    unfold oneR
    rw [oneL_short h9]
  · rw [mk_size, if_neg (by omega), if_pos (by omega)]
    simp only [rostrumref03_one.j0]
    have hz : 9 ≤ (mk l).size := by rw [mk_size]; omega
    cases ho : oneL l with
    | some d =>
      obtain ⟨h1, h2, h3⟩ := lenS_some (t := mk l) (d := d) (by rw [data_mk]; exact ho)
      have hr : oneR l = (mk d, ((d.length + 9 : Nat) : Int)) := by unfold oneR; rw [ho]
      rw [hr]
      unfold lenS at h1
      rw [if_neg (by omega)] at h1
      by_cases hm : bt (mk l) 0 ≠ 52
      · rw [if_pos hm] at h1; cases h1
      · rw [if_neg hm] at h1
        by_cases h4 : 4096 < numS (mk l)
        · rw [if_pos h4] at h1; cases h1
        · rw [if_neg h4] at h1
          have hn : 5 + numS (mk l) + 4 = ((d.length + 9 : Nat) : Int) := (Prod.mk.inj h1).1
          have hs : ((mk l).size : Int) = (l.length : Int) := by rw [mk_size]
          rw [if_neg (by simpa using hm), if_pos (by decide), if_pos (by rw [mk_size]; omega), bits_get hz]
          simp only [Option.bind_some]
          have hw : wrap64 (wrap64 (numS (mk l)) + 9) = ((d.length + 9 : Nat) : Int) := by
            have := numS_range (mk l)
            rw [IntWalk.wrap64_in (numS (mk l)) (by omega), IntWalk.wrap64_in _ (by omega)]
            omega
          rw [if_neg (by omega), hw]
          simp only [rostrumref03_one.j1]
          rw [if_neg (by simp; omega), hw, if_pos (by omega), if_pos (by omega), Int.toNat_natCast]
          unfold ref_Open.f
          rw [if_pos (by rw [extract_size _ _ _ h2]; rw [mk_size] at h2; omega), h3]
          simp only [Option.bind_some]
          rw [if_pos trivial, if_pos (by rw [mk_size, bodyL_length]; omega), body_tail]
    | none =>
      have hr : oneR l = (⟨#[]⟩, 0) := by unfold oneR; rw [ho]
      rw [hr]
      have h1 := lenS_none (t := mk l) (by rw [data_mk]; exact ho)
      unfold lenS at h1
      rw [if_neg (by omega)] at h1
      by_cases hm : bt (mk l) 0 ≠ 52
      · rw [if_pos (by simpa using hm)]
      · rw [if_neg hm] at h1
        have hs : ((mk l).size : Int) = (l.length : Int) := by rw [mk_size]
        rw [if_neg (by simpa using hm), if_pos (by decide), if_pos (by rw [mk_size]; omega), bits_get hz]
        simp only [Option.bind_some]
        by_cases h4 : 4096 < numS (mk l)
        · rw [if_pos h4]
          simp only [rostrumref03_one.j1]
          rw [if_pos trivial]
        · rw [if_neg h4] at h1
          have hw : wrap64 (wrap64 (numS (mk l)) + 9) = numS (mk l) + 9 := by
            have := numS_range (mk l)
            rw [IntWalk.wrap64_in (numS (mk l)) (by omega), IntWalk.wrap64_in _ (by omega)]
          rw [if_neg (by omega), hw]
          simp only [rostrumref03_one.j1]
          by_cases hlt : (l.length : Int) < numS (mk l) + 9
          · rw [if_pos (by simpa [mk_size] using hlt)]
          · rw [if_neg (by simpa [mk_size] using hlt), hw]
            have n0 := (numS_range (mk l)).1
            rw [if_pos (by omega), if_pos (by omega)]
            rcases h1 with h1 | ⟨n, h1, h2, _, h3⟩
            · simp at h1; omega
            · have hn : 5 + numS (mk l) + 4 = (n : Int) := (Prod.mk.inj h1).1
              rw [show (numS (mk l) + 9).toNat = n by omega]
              unfold ref_Open.f
              rw [if_pos (by rw [extract_size _ _ _ h2]; rw [mk_size] at h2; omega), h3]
              simp only [Option.bind_some]
              rw [if_neg (by decide)]
theorem refRead_loop (l : Jo.Bs) (hl : l.length ≤ 1000000000) : ∀ (k : Nat) (ds : List Jo.Bs) (r : Jo.Bs), l = recsL ds ++ r → (∀ d ∈ ds, d.length ≤ 4096) → r.length + 3 ≤ k →
    rostrumref03_Read.l0 k (mk l) (ds.map mk) ((recsL ds).length : Int) = some ((readL l).map mk, (goodL l : Int)) := by
  intro k
  induction k with
  | zero => intro ds r _ _ h; omega
  | succ k ih =>
    intro ds r hr hds hk
    have hll : l.length = (recsL ds).length + r.length := by rw [hr, List.length_append]
    obtain ⟨j, rfl⟩ : ∃ j, k = j + 2 := ⟨k - 2, by omega⟩
    simp only [rostrumref03_Read.l0]
    have hx : (mk l).extract (recsL ds).length (mk l).size = mk r := by
      rw [extract_mk, mk_size]
      congr 1
      rw [hr, List.drop_left, List.take_of_length_le (by rw [List.length_append]; omega)]
    rw [if_pos (by omega), if_pos (by rw [mk_size]; omega), Int.toNat_natCast, hx, refOne_mk r (by omega)]
    simp only [Option.bind_some]
    unfold oneR
    cases ho : oneL r with
    | none =>
      have hread : readL l = ds := readL_eq ⟨hds, r, hr, ho⟩
      simp only
      rw [if_pos trivial]
      unfold goodL
      rw [hread]
    | some d =>
      obtain ⟨hd, r2, rfl⟩ := oneL_some ho
      rw [List.length_append, recL_length] at hk hll
      have hdl : ds.length ≤ (recsL ds).length := recs_count ds
      simp only
      rw [if_neg (by omega), if_pos (by rw [List.length_map]; omega)]
      have e1 : ds.map mk ++ [mk d] = (ds ++ [d]).map mk := by simp
      have e2 : wrap64 (((recsL ds).length : Int) + ((d.length + 9 : Nat) : Int)) = ((recsL (ds ++ [d])).length : Int) := by
        rw [IntWalk.wrap64_in _ (by omega), recsL_append, recsL_one, List.length_append, recL_length]; rfl
      rw [e1, e2]
      refine ih (ds ++ [d]) r2 (by rw [recsL_append, recsL_one, List.append_assoc]; exact hr) ?_ (by omega)
      intro x hx
      rcases List.mem_append.1 hx with hx | hx
      · exact hds x hx
      · rw [List.mem_singleton] at hx; rw [hx]; exact hd
theorem refRead_mk (l : Jo.Bs) (hl : l.length ≤ 1000000000) (k : Nat) (hk : l.length + 3 ≤ k) : rostrumref03_Read.f k (mk l) = some ((readL l).map mk, (goodL l : Int)) := by
  unfold rostrumref03_Read.f
  exact refRead_loop l hl k [] l rfl (by simp) hk
theorem refWhole_mk (l : Jo.Bs) (hl : l.length ≤ 1000000000) (k : Nat) (hk : l.length + 3 ≤ k) : rostrumref03_Whole.f k (mk l) = some (decide (goodL l = l.length)) := by
  unfold rostrumref03_Whole.f
  rw [refRead_mk l hl k hk]
  simp only [Option.bind_some, mk_size, Option.some.injEq]
  rw [Bool.eq_iff_iff]; simp; omega
theorem refRepair_mk (l : Jo.Bs) (hl : l.length ≤ 1000000000) (k : Nat) (hk : l.length + 3 ≤ k) : rostrumref03_Repair.f k (mk l) = some (mk (recsL (readL l))) := by
  unfold rostrumref03_Repair.f
  rw [refRead_mk l hl k hk]
  have := goodL_le l
  simp only [Option.bind_some, mk_size]
  rw [if_pos (by omega), if_pos (by omega), Int.toNat_natCast, extract_mk, List.drop_zero, Nat.sub_zero, take_good]
theorem refAppend_mk (l d : Jo.Bs) (n : Int) (hl : l.length ≤ 1000000000) (hd : d.length ≤ 140737488351232) (hn : -9223372036854775808 ≤ n ∧ n < 9223372036854775808) (k : Nat) (hk : l.length + 3 ≤ k) :
    rostrumref03_Append.f k (mk l) (mk d) n = some (if goodL l ≠ l.length then (⟨#[]⟩, 31) else if 4096 < d.length ∨ 1048576 < l.length + (d.length + 9) then (⟨#[]⟩, 30) else (mk (l ++ (recL d).take (max n 0).toNat), 0)) := by
  unfold rostrumref03_Append.f
  rw [refWhole_mk l hl k hk]
  simp only [Option.bind_some]
  by_cases hg : goodL l = l.length
  · rw [if_pos (by simpa using hg), if_neg (by simpa using hg), refRecord_mk d hd]
    simp only [Option.bind_some]
    by_cases h4 : 4096 < d.length
    · rw [if_pos h4, if_pos (show 4096 < d.length ∨ _ from .inl h4)]
      rfl
    · rw [if_neg h4]
      simp only
      rw [if_pos trivial, mk_size, mk_size, recL_length]
      rw [IntWalk.wrap64_in _ (by omega)]
      by_cases h5 : 1048576 < l.length + (d.length + 9)
      · rw [if_pos (by omega), if_pos (show 4096 < d.length ∨ _ from .inr h5)]
      · rw [if_neg (by omega), if_neg (show ¬ (4096 < d.length ∨ 1048576 < l.length + (d.length + 9)) by omega)]
        have h1 : 0 ≤ mx 0 (mn n ((d.length + 9 : Nat) : Int)) := by unfold mx mn; split <;> split <;> omega
        have h2 : mx 0 (mn n ((d.length + 9 : Nat) : Int)) ≤ ((d.length + 9 : Nat) : Int) := by unfold mx mn; split <;> split <;> omega
        rw [if_pos h1, if_pos h2, extract_mk, List.drop_zero, Nat.sub_zero, if_pos, mk_append]
        · congr 4
          rw [List.take_eq_take_iff, recL_length]
          unfold mx mn
          split <;> split <;> omega
        · rw [mk_size, List.length_take, recL_length]; omega
  · rw [if_neg (by simpa using hg), if_pos hg]
end Go.Proofs.Ytmafolojopjenaa.Pure
