/- What is read of records is these. -/
import Derived.Test.YtmafolojopjenaaJouS
import Derived.Test.YtmafolojopjenaaPx6
namespace Go.Proofs.Ytmafolojopjenaa.R
open Go.RowKit Go.Proofs.Ytmafolojopjenaa.P Go.Proofs.Ytmafolojopjenaa.G Go.Proofs.Ytmafolojopjenaa.Jo Go.Proofs.Ytmafolojopjenaa.Pure Go.Proofs.YtmafolojopjenaaW.PrintWords Go.Proofs.YtmafolojopjenaaW.PrintLast Go.Proofs.YtmafolojopjenaaW.PrintMore

def upto (l : List ByteArray) (i : Nat) : List Jo.Bs := (l.take i).map fun s => s.data.toList.take 100
theorem upto_small (l : List ByteArray) (i : Nat) : ∀ d ∈ upto l i, d.length ≤ 100 := by
  intro d hd
  obtain ⟨s, _, rfl⟩ := List.mem_map.1 hd
  exact List.length_take_le _ _
theorem upto_small' (l : List ByteArray) (i : Nat) : ∀ d ∈ upto l i, d.length ≤ 4096 := fun d hd => Nat.le_trans (upto_small l i d hd) (by decide)
theorem upto_length (l : List ByteArray) (i : Nat) : (upto l i).length ≤ i := by unfold upto; rw [List.length_map]; exact List.length_take_le _ _
theorem upto_size (l : List ByteArray) (i : Nat) (h : i ≤ 40) : (recsL (upto l i)).length ≤ 4360 := by
  have h1 := recs_short _ (upto_small l i)
  have h2 := upto_length l i
  omega
theorem upto_succ (l : List ByteArray) (i : Nat) (h : i < l.length) : upto l (i + 1) = upto l i ++ [l[i].data.toList.take 100] := datas_at l i h
theorem append_all {ds : List Jo.Bs} (h : ∀ d ∈ ds, d.length ≤ 4096) (hz : (recsL ds).length ≤ 10000) (d : Jo.Bs) (hd : d.length ≤ 100) (k : Int) (hk : 109 ≤ k) : journal_Append.f (mk (recsL ds)) (mk d) k = some (mk (recsL (ds ++ [d])), 0) := by
  rw [append_mk _ _ _ (by omega) (by omega), good_all h, if_neg (by simp), if_neg (by omega), recsL_append, recsL_one, List.take_of_length_le (by rw [recL_length]; omega)]
theorem Back_loop (l : List ByteArray) : ∀ (k i : Nat), i ≤ 40 → i ≤ l.length → 200 ≤ k + i → 50 ≤ k →
    (rostrumlaw03_JournalBack.l0 (2 * k) l true (mk (recsL (upto l i))) ((upto l i).map mk) (i : Int) = some true) := by
  intro k
  induction k with
  | zero => intro i _ _ _ h; omega
  | succ k ih =>
    intro i hi hil hk h50
    have hz := upto_size l i hi
    have hn := upto_length l i
    have hend : ∀ j, 41 ≤ j → ((G.journal_Read.f (mk (recsL (upto l i)))).bind fun bt219 => (if true = true then (if bt219.2 = ((mk (recsL (upto l i))).size : Int) then ((G.journal_Whole.f (mk (recsL (upto l i)))).bind fun t223 => (if t223 = true then ((G.journal_Repair.f (mk (recsL (upto l i)))).bind fun t224 => (if t224.toList = (mk (recsL (upto l i))).toList then ((rostrumref03_Same.f j bt219.1 ((upto l i).map mk)).bind fun t225 => (some t225)) else (some false))) else (some false))) else (some false)) else (some false))) = some true := by
      intro j hj
      rw [read_mk _ (by omega), whole_mk _ (by omega), repair_mk _ (by omega), reads_all (upto_small' l i), good_all (upto_small' l i)]
      simp only [Option.bind_some, mk_size]
      rw [if_pos trivial, if_pos trivial, if_pos (by simp), if_pos trivial, same_self _ (by rw [List.length_map]; omega) _ (by rw [List.length_map]; omega)]
      rfl
    rw [show 2 * (k + 1) = (2 * k + 1) + 1 by omega]
    simp only [rostrumlaw03_JournalBack.l0]
    by_cases h : i < l.length
    · rw [if_pos (by omega)]
      by_cases h4 : i < 40
      · rw [show decide ((i : Int) < 40) = true by simp; omega]
        simp only [rostrumlaw03_JournalBack.j1]
        rw [if_pos trivial, if_pos (by omega), if_pos (by omega), rd_at l i h, mn_lit _ _ (by decide), if_pos (by omega), if_pos (by omega), Int.toNat_natCast, show (100 : Int).toNat = 100 from rfl, extract_cut,
          append_all (upto_small' l i) (by omega) _ (List.length_take_le _ _) _ (by decide)]
        simp only [Option.bind_some]
        rw [if_pos trivial, if_pos (by rw [List.length_map]; omega), wrap_succ i (by omega), ← upto_succ l i h,
          show (upto l i).map mk ++ [mk (l[i].data.toList.take 100)] = (upto l (i + 1)).map mk by rw [upto_succ l i h, List.map_append]; rfl]
        exact ih (i + 1) (by omega) (by omega) (by omega) (by omega)
      · rw [show decide ((i : Int) < 40) = false by simp; omega]
        simp only [rostrumlaw03_JournalBack.j1]
        rw [if_neg (by decide)]
        exact hend _ (by omega)
    · rw [if_neg (by omega)]
      simp only [rostrumlaw03_JournalBack.j1]
      rw [if_neg (by decide)]
      exact hend _ (by omega)
theorem JournalBack_fin (A0 : Option Addr) (c0 : Nat) (l0 : List ByteArray) (w : World) (hr0 : Kd.C Kd.string w A0 l0.length l0) (hc0 : l0.length ≤ c0) (_hm0 : l0.length ≤ maxLen) (_hw0 : ∀ z ∈ l0, z.size ≤ maxLen) :
    Calls Try.prog 9 #[.slice A0 l0.length c0] w fun e w' => e = .returned (.bool true) ∧ Below w.heap.size w w' := by
  refine rostrumlaw03_JournalBack.calls 400 A0 c0 l0 true w hr0 hc0 ?_
  unfold rostrumlaw03_JournalBack.f
  rw [shown_true]
  simp only [Option.bind_some]
  exact Back_loop l0 200 0 (by omega) (by omega) (by omega) (by omega)
end Go.Proofs.Ytmafolojopjenaa.R
