/- Records: plain facts that several laws use. -/
import Derived.Test.YtmafolojopjenaaPx1
import Derived.Test.YtmafolojopjenaaPx2
import Derived.Test.YtmafolojopjenaaPx4
import Derived.IntWalk
namespace Go.Proofs.Ytmafolojopjenaa.Pure
open Go.RowKit Go.Proofs.Ytmafolojopjenaa.P Go.Proofs.Ytmafolojopjenaa.G Go.Proofs.Ytmafolojopjenaa.Cr Go.Proofs.Ytmafolojopjenaa.Jo Go.Proofs.YtmafolojopjenaaW.PrintWords Go.Proofs.YtmafolojopjenaaW.PrintLast Go.Proofs.YtmafolojopjenaaW.PrintMore

theorem wf_i64 {n : Int} (h : (Lit.int .i64 n).wf = true) : -9223372036854775808 ≤ n ∧ n < 9223372036854775808 := by
  simp [Lit.wf, IntKind.min, IntKind.max, IntKind.bits, IntKind.signed] at h
  omega
theorem mn_lit (a : Nat) (n : Int) (h : 0 ≤ n) : mn (a : Int) n = ((min a n.toNat : Nat) : Int) := by unfold mn; split <;> omega
theorem rd_at (l : List ByteArray) (i : Nat) (h : i < l.length) : rdOf ByteArray.empty l (i : Int) = l[i] := by
  unfold rdOf; simp [List.getD_eq_getElem?_getD, h]
theorem wrap_succ (i : Nat) (h : i < 1000000000000000000) : wrap64 ((i : Int) + 1) = ((i + 1 : Nat) : Int) := by
  rw [IntWalk.wrap64_in _ (by omega)]; rfl
theorem toList_mk (l : Jo.Bs) : (mk l).toList = l := by rw [ByteArray.toList_eq, data_mk]
theorem toList_inj {a b : ByteArray} (h : a.toList = b.toList) : a = b := byteArray_ext h
theorem extract_mk (l : Jo.Bs) (a b : Nat) : (mk l).extract a b = mk ((l.drop a).take (b - a)) := by
  apply ext_data; rw [data_extract, data_mk, data_mk]
theorem extract_cut (s : ByteArray) (n : Nat) : s.extract 0 (min s.size n) = mk (s.data.toList.take n) := by
  apply ext_data
  rw [data_extract, data_mk, List.drop_zero, Nat.sub_zero, ← size_data, List.take_eq_take_iff]
  omega
theorem mk_append (a b : Jo.Bs) : mk a ++ mk b = mk (a ++ b) := by
  apply ext_data
  rw [data_mk]
  simp [mk]
/-! ### Same -/
theorem same_l (l : List ByteArray) (hl : l.length < 1000000000000) : ∀ (k i : Nat), i ≤ l.length → l.length - i < k → rostrumref03_Same.l0 k l l (i : Int) = some true := by
  intro k
  induction k with
  | zero => intro i _ h; omega
  | succ k ih =>
    intro i hi hk
    simp only [rostrumref03_Same.l0]
    by_cases h : i < l.length
    · rw [if_pos (by omega), if_pos (by omega), if_pos (by omega), if_pos trivial, wrap_succ i (by omega)]
      exact ih (i + 1) (by omega) (by omega)
    · rw [if_neg (by omega)]
theorem same_self (l : List ByteArray) (hl : l.length < 1000000000000) (k : Nat) (hk : l.length < k) : rostrumref03_Same.f k l l = some true := by
  unfold rostrumref03_Same.f
  rw [if_pos rfl]
  exact same_l l hl k 0 (by omega) (by omega)
/-! ### a record -/
theorem read_mk (l : Jo.Bs) (h : l.length ≤ 1000000000) : journal_Read.f (mk l) = some ((readL l).map mk, (goodL l : Int)) := by
  unfold journal_Read.f
  rw [if_pos (by rw [mk_size]; exact h)]
  unfold readS
  rw [data_mk]
theorem repair_mk (l : Jo.Bs) (h : l.length ≤ 1000000000) : journal_Repair.f (mk l) = some (mk (recsL (readL l))) := by
  unfold journal_Repair.f
  rw [if_pos (by rw [mk_size]; exact h)]
  unfold repairS
  rw [extract_mk, data_mk, List.drop_zero, Nat.sub_zero, take_good]
theorem whole_mk (l : Jo.Bs) (h : l.length ≤ 1000000000) : journal_Whole.f (mk l) = some (decide (goodL l = l.length)) := by
  unfold journal_Whole.f
  rw [if_pos (by rw [mk_size]; exact h)]
  unfold wholeS
  rw [data_mk, mk_size]
theorem record_mk (d : Jo.Bs) (h : d.length ≤ 140737488351232) : journal_Record.f (mk d) = some (if 4096 < d.length then (⟨#[]⟩, 30) else (mk (recL d), 0)) := by
  unfold journal_Record.f
  rw [if_pos (by rw [mk_size]; exact h)]
  unfold recordS
  rw [data_mk, mk_size]
theorem append_mk (l d : Jo.Bs) (k : Int) (h : l.length ≤ 1000000000) (hd : d.length ≤ 140737488351232) :
    journal_Append.f (mk l) (mk d) k = some (if goodL l ≠ l.length then (⟨#[]⟩, 31) else if 4096 < d.length ∨ 1048576 < l.length + (d.length + 9) then (⟨#[]⟩, 30) else (mk (l ++ (recL d).take (max k 0).toNat), 0)) := by
  unfold journal_Append.f
  rw [if_pos ⟨by rw [mk_size]; exact h, by rw [mk_size]; exact hd⟩]
  unfold appendS wholeS
  rw [data_mk, data_mk, mk_size, mk_size]
  by_cases hg : goodL l = l.length
  · rw [if_neg (show ¬ decide (goodL l = l.length) = false by simp [hg]), if_neg (show ¬ goodL l ≠ l.length by simp [hg])]
  · rw [if_pos (show decide (goodL l = l.length) = false by simp [hg]), if_pos hg]
theorem mk_one : (⟨#[97]⟩ : ByteArray) = mk [97] := rfl
theorem shown_true : rostrumlaw03_shown.f = some true := by
  unfold rostrumlaw03_shown.f
  rw [mk_one, record_mk _ (by decide), if_neg (by decide)]
  simp only [Option.bind_some]
  have hr : readL (recL [97]) = [[97]] := by
    have := reads_all (ds := [[97]]) (by simp)
    rwa [recsL_one] at this
  have hg : goodL (recL [97]) = 10 := by unfold goodL; rw [hr, recsL_one, recL_length]; rfl
  rw [read_mk _ (by rw [recL_length]; decide), hr, hg]
  have h6 : ((mk (recL [97])).extract 0 6).toList = [52, 1, 0, 0, 0, 97] := by
    rw [extract_mk, toList_mk, List.drop_zero]
    unfold recL
    rw [List.take_left' (by rw [bodyL_length]; rfl)]
    decide
  simp only [Option.bind_some, List.map_cons, List.map_nil, List.length_cons, List.length_nil]
  rw [if_pos trivial, mk_size, recL_length, if_pos (by decide), if_pos (by decide), if_pos (by decide), if_pos h6, if_pos (by decide), if_pos (by decide), if_pos (by decide)]
  have : rdOf ByteArray.empty [mk [97]] 0 = mk [97] := rfl
  rw [this, toList_mk]
  rfl
/-! ### the document's records -/
theorem refRecord_mk (d : Jo.Bs) (h : d.length ≤ 140737488351232) : rostrumref03_Record.f (mk d) = some (if 4096 < d.length then (⟨#[]⟩, 30) else (mk (recL d), 0)) := by
  unfold rostrumref03_Record.f
  rw [mk_size]
  by_cases h4 : 4096 < d.length
  · rw [if_pos (by omega), if_pos h4]
  · rw [if_neg (by omega), if_neg h4]
    unfold ref_Put.f
    rw [show (d.length : Int) % 4294967296 = (d.length : Int) by omega, if_pos (by omega)]
    simp only [Option.bind_some]
    have hb : ((⟨#[52]⟩ : ByteArray) ++ putS (toB (d.length : Int))) ++ mk d = mk (bodyL d) := by
      have h1 : (⟨#[52]⟩ : ByteArray) = mk [52] := rfl
      have h2 : putS (toB (d.length : Int)) = mk (putL (BitVec.ofNat 32 d.length)) := by
        unfold putS mk
        rw [show toB (d.length : Int) = BitVec.ofNat 32 d.length by unfold toB; simp]
      rw [h1, h2, mk_append, mk_append]
      rfl
    have hs : ((⟨#[52]⟩ : ByteArray) ++ putS (toB (d.length : Int))).size = 5 := by rw [ByteArray.size_append, putS_size]; rfl
    rw [if_pos (by rw [putS_size]; decide), if_pos (by rw [hs]; omega), hb]
    unfold ref_Seal.f
    rw [if_pos (by rw [mk_size, bodyL_length]; omega)]
    simp only [Option.bind_some]
    rw [seal_mk]
    rfl
/-- What bytes makes of texts. -/
def datasL (l : List ByteArray) : List Jo.Bs := (l.take 40).map fun s => s.data.toList.take 100
theorem datasL_small (l : List ByteArray) : ∀ d ∈ datasL l, d.length ≤ 100 := by
  intro d hd
  obtain ⟨s, _, rfl⟩ := List.mem_map.1 hd
  exact List.length_take_le _ _
theorem datasL_small' (l : List ByteArray) : ∀ d ∈ datasL l, d.length ≤ 4096 := fun d hd => Nat.le_trans (datasL_small l d hd) (by decide)
theorem recs_short (ds : List Jo.Bs) (h : ∀ d ∈ ds, d.length ≤ 100) : (recsL ds).length ≤ 109 * ds.length := by
  induction ds with
  | nil => simp [recsL]
  | cons d ds ih =>
    rw [recsL_cons, List.length_append, recL_length, List.length_cons]
    have := h d List.mem_cons_self
    have := ih (fun x hx => h x (List.mem_cons_of_mem _ hx))
    omega
theorem datasL_length (l : List ByteArray) : (datasL l).length ≤ 40 := by unfold datasL; rw [List.length_map]; exact List.length_take_le _ _
theorem datas_size (l : List ByteArray) : (recsL (datasL l)).length ≤ 4360 := by
  have h1 := recs_short _ (datasL_small l)
  have h2 := datasL_length l
  omega
theorem datas_at (l : List ByteArray) (i : Nat) (h : i < l.length) : (l.take (i + 1)).map (fun s => s.data.toList.take 100) = (l.take i).map (fun s => s.data.toList.take 100) ++ [l[i].data.toList.take 100] := by
  rw [List.take_succ_eq_append_getElem h, List.map_append]; rfl
theorem bytes_loop (l : List ByteArray) : ∀ (k i : Nat), i ≤ 40 → i ≤ l.length → 40 - i < k →
    rostrumlaw03_bytes.l0 k l (mk (recsL ((l.take i).map fun s => s.data.toList.take 100))) (i : Int) = some (mk (recsL (datasL l))) := by
  intro k
  induction k with
  | zero => intro i _ _ h; omega
  | succ k ih =>
    intro i hi hil hk
    simp only [rostrumlaw03_bytes.l0]
    by_cases h : i < l.length
    · rw [if_pos (by omega)]
      by_cases h4 : i < 40
      · rw [if_pos (by omega), if_pos (by omega), rd_at l i h, mn_lit _ _ (by decide), if_pos (by omega), if_pos (by omega), Int.toNat_natCast, show (100 : Int).toNat = 100 from rfl, extract_cut]
        have hd : (l[i].data.toList.take 100).length ≤ 100 := List.length_take_le _ _
        have hz : (recsL ((l.take i).map fun s => s.data.toList.take 100)).length ≤ 4360 := by
          have := recs_short ((l.take i).map fun s => s.data.toList.take 100) (by
            intro d hd
            obtain ⟨s, _, rfl⟩ := List.mem_map.1 hd
            exact List.length_take_le _ _)
          rw [List.length_map, List.length_take] at this
          omega
        rw [refRecord_mk _ (by omega), if_neg (by omega)]
        simp only [Option.bind_some]
        rw [if_pos (by rw [mk_size, mk_size, recL_length]; omega), mk_append, wrap_succ i (by omega), ← recsL_one, ← recsL_append, ← datas_at l i h]
        exact ih (i + 1) (by omega) (by omega) (by omega)
      · rw [if_neg (by omega)]
        obtain rfl : i = 40 := by omega
        rfl
    · rw [if_neg (by omega)]
      obtain rfl : i = l.length := by omega
      unfold datasL
      rw [List.take_of_length_le (Nat.le_refl _), List.take_of_length_le hi]
theorem bytes_is (l : List ByteArray) (k : Nat) (hk : 41 ≤ k) : rostrumlaw03_bytes.f k l = some (mk (recsL (datasL l))) := by
  unfold rostrumlaw03_bytes.f
  exact bytes_loop l k 0 (by omega) (by omega) (by omega)
end Go.Proofs.Ytmafolojopjenaa.Pure
