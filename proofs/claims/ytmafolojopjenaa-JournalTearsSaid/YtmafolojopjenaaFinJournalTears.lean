/- Of a beginning of records' bytes the records that are wholly in it are read, and what is good is theirs. -/
import Derived.Test.YtmafolojopjenaaJouS
import Derived.Test.YtmafolojopjenaaPx3
namespace Go.Proofs.Ytmafolojopjenaa.R
open Go.RowKit Go.Proofs.Ytmafolojopjenaa.P Go.Proofs.Ytmafolojopjenaa.G Go.Proofs.Ytmafolojopjenaa.Jo Go.Proofs.Ytmafolojopjenaa.Pure Go.Proofs.YtmafolojopjenaaW.PrintWords Go.Proofs.YtmafolojopjenaaW.PrintLast Go.Proofs.YtmafolojopjenaaW.PrintMore

/-- Of a beginning of records' bytes: the first records that lie in it, and a part of the next one. -/
theorem tear (ds : List Jo.Bs) (h : ∀ d ∈ ds, d.length ≤ 4096) (n : Nat) : ∃ i, i ≤ ds.length ∧ readL ((recsL ds).take n) = ds.take i ∧ (recsL (ds.take i)).length ≤ max n 0 ∧ (∀ (hi : i < ds.length), n < (recsL (ds.take i)).length + (ds[i].length + 9)) := by
  induction ds generalizing n with
  | nil => exact ⟨0, Nat.le_refl _, by rw [show (recsL ([] : List Jo.Bs)).take n = [] by simp [recsL]]; exact readL_none rfl, by simp [recsL], fun hi => by simp at hi⟩
  | cons d ds ih =>
    have hd := h d List.mem_cons_self
    by_cases hn : n < d.length + 9
    · refine ⟨0, Nat.zero_le _, ?_, by simp [recsL], fun _ => by simpa [recsL] using hn⟩
      rw [recsL_cons, List.take_append_of_le_length (by rw [recL_length]; omega)]
      exact readL_none (oneL_part hd hn)
    · obtain ⟨i, h1, h2, h3, h4⟩ := ih (fun x hx => h x (List.mem_cons_of_mem _ hx)) (n - (d.length + 9))
      refine ⟨i + 1, by simp; omega, ?_, ?_, fun hi => ?_⟩
      · rw [recsL_cons, List.take_append, recL_length, List.take_of_length_le (by rw [recL_length]; omega)]
        have := reads_join (ds := [d]) (by simpa using hd) ((recsL ds).take (n - (d.length + 9)))
        rw [recsL_one] at this
        rw [this, h2]
        rfl
      · rw [List.take_succ_cons, recsL_cons, List.length_append, recL_length]; omega
      · have := h4 (by simp at hi; omega)
        rw [List.take_succ_cons, recsL_cons, List.length_append, recL_length]
        simp only [List.getElem_cons_succ]
        omega
theorem Tears_pure (l : List ByteArray) (n : Int) : rostrumlaw03_JournalTears.f 100 l n = some true := by
  have hz := datas_size l
  have hsm := datasL_small' l
  have hsm1 := datasL_small l
  have hcnt := datasL_length l
  obtain ⟨ds, hds⟩ : ∃ ds, datasL l = ds := ⟨_, rfl⟩
  rw [hds] at hz hsm hcnt hsm1
  unfold rostrumlaw03_JournalTears.f
  rw [shown_true, bytes_is _ _ (by decide), hds]
  simp only [Option.bind_some]
  by_cases h0 : n < 0
  · rw [if_pos h0]
    simp only [rostrumlaw03_JournalTears.j0]
    rfl
  · rw [if_neg h0, mk_size]
    by_cases h1 : n > ((recsL ds).length : Int)
    · rw [show decide (n > ((recsL ds).length : Int)) = true by simpa using h1]
      simp only [rostrumlaw03_JournalTears.j0]
      rfl
    · rw [show decide (n > ((recsL ds).length : Int)) = false by simpa using h1]
      obtain ⟨m, rfl⟩ := Int.eq_ofNat_of_zero_le (show 0 ≤ n by omega)
      obtain ⟨i, hi, hr, hg, hnext⟩ := tear ds hsm m
      have hgood : goodL ((recsL ds).take m) = (recsL (ds.take i)).length := by unfold goodL; rw [hr]
      have hil : (ds.take i).length = i := by rw [List.length_take]; omega
      have hsz : (recsL (ds.take i)).length ≤ 4360 := by omega
      have hpre : (recsL ds).take (recsL (ds.take i)).length = recsL (ds.take i) := by
        conv => lhs; arg 2; rw [← List.take_append_drop i ds, recsL_append]
        exact List.take_left' rfl
      have hsmi : ∀ d ∈ ds.take i, d.length ≤ 4096 := fun d hd => hsm d (List.mem_of_mem_take hd)
      have hml : ((recsL ds).take m).length ≤ 4360 := by rw [List.length_take]; omega
      show rostrumlaw03_JournalTears.j0 (99 + 1) _ _ _ _ = _
      simp only [rostrumlaw03_JournalTears.j0]
      rw [if_neg (by decide), if_pos (by omega), if_pos (by rw [mk_size]; omega), Int.toNat_natCast, extract_mk, List.drop_zero, Nat.sub_zero, read_mk _ (by omega), read_mk _ (by omega), hr, hgood, reads_all hsm, good_all hsm]
      simp only [Option.bind_some, List.length_map, mk_size, hil]
      rw [if_pos trivial, if_neg (by omega), if_neg (by omega), if_pos (by omega), if_pos (by omega), Int.toNat_natCast, ← List.map_take, same_self _ (by rw [List.length_map, hil]; omega) _ (by rw [List.length_map, hil]; omega)]
      simp only [Option.bind_some]
      show rostrumlaw03_JournalTears.j1 (98 + 1) _ _ _ _ _ _ _ = _
      simp only [rostrumlaw03_JournalTears.j1]
      rw [if_neg (by decide), if_pos (by omega), if_pos (by rw [mk_size]; omega), Int.toNat_natCast, extract_mk, List.drop_zero, Nat.sub_zero, hpre, read_mk _ (by omega), reads_all hsmi]
      simp only [Option.bind_some, List.length_map, mk_size, hil]
      rw [if_pos trivial, same_self _ (by rw [List.length_map, hil]; omega) _ (by rw [List.length_map, hil]; omega)]
      simp only [Option.bind_some]
      rw [if_pos trivial, if_pos (by omega), if_pos (by omega), Int.toNat_natCast, extract_mk, List.drop_zero, Nat.sub_zero, repair_mk _ (by omega), hr]
      simp only [Option.bind_some]
      rw [if_pos trivial]
      by_cases hlt : i = ds.length
      · rw [if_pos (by omega)]
      · rw [if_neg (by omega), if_pos (by omega), if_pos (by omega), rd_at _ i (by rw [List.length_map]; omega), List.getElem_map, mk_size]
        have hdi := hsm1 ds[i] (List.getElem_mem _)
        have := hnext (by omega)
        rw [IntWalk.wrap64_in (((recsL (ds.take i)).length : Int) + (ds[i].length : Int)) (by omega), IntWalk.wrap64_in _ (by omega)]
        simp
        omega
theorem JournalTears_fin (A0 : Option Addr) (c0 : Nat) (l0 : List ByteArray) (a1 : Int) (w : World) (hr0 : Kd.C Kd.string w A0 l0.length l0) (hc0 : l0.length ≤ c0) (_hm0 : l0.length ≤ maxLen) (_hw0 : ∀ z ∈ l0, z.size ≤ maxLen) (_w1 : (Lit.int .i64 a1).wf = true) :
    Calls Try.prog 6 #[.slice A0 l0.length c0, .int .i64 a1] w fun e w' => e = .returned (.bool true) ∧ Below w.heap.size w w' :=
  rostrumlaw03_JournalTears.calls 100 A0 c0 l0 a1 true w hr0 hc0 (Tears_pure l0 a1)
end Go.Proofs.Ytmafolojopjenaa.R
