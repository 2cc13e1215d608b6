/- Ballots: the iterator over votes that were cast. -/
import Derived.RangeFuncNested
import Derived.RangeFuncBound
import Derived.RangeFuncCalls
import Derived.RangeFuncLeaves
import Derived.Shelf.Abstract
import Derived.Shelf.RegionOpen
import Derived.OwnWalkIn
import Derived.TacticsInMore
import Derived.LoopNIn
import Derived.LoopIn
import Derived.WalkMore
import Derived.Test.YtnllilpbgenjbaaBalA
import Derived.Test.YtnllilpbgenjbaaPx0
namespace Go.Proofs.Ytnllilpbgenjbaa.G
open Go.RowKit Go.Shelf Go.Proofs.YtnllilpbgenjbaaW.PrintWords Go.Proofs.Ytnllilpbgenjbaa.P
attribute [local go_sem] Oper.semAt_some

def voteE (x : S24) : Value := .agg #[.int .u64 x.f0, .int .u64 x.f1, .string x.f2]
/-- The votes that were cast, of the first k. -/
def castL (l : List S24) : List S24 := l.filter fun x => decide (x.f1 ≠ 0)
/-- The blocks that an iterator over these votes reads. -/
def RdB (Bs : Nat) (A : Option Addr) (n : Nat) (k : Nat) : Prop := k = Bs ∨ (0 < n ∧ ∃ ad, A = some ad ∧ k = ad.block)
theorem rd_get (l : List S24) (k : Nat) (h : k < l.length) : rd_T24 l (k : Int) = l[k] := by
  unfold rd_T24
  simp [List.getD_eq_getElem?_getD, h]
theorem castL_snoc_no (l : List S24) (k : Nat) (h : k < l.length) (h0 : l[k].f1 = 0) : castL (l.take (k + 1)) = castL (l.take k) := by
  unfold castL
  rw [List.take_succ_eq_append_getElem h, List.filter_append]
  simp [h0]
theorem castL_snoc_yes (l : List S24) (k : Nat) (h : k < l.length) (h0 : l[k].f1 ≠ 0) : castL (l.take (k + 1)) = castL (l.take k) ++ [l[k]] := by
  unfold castL
  rw [List.take_succ_eq_append_getElem h, List.filter_append]
  simp [h0]
theorem castL_le (l : List S24) : (castL l).length ≤ l.length := List.length_filter_le _ _
theorem castL_prefix (l : List S24) (k : Nat) : castL (l.take k) <+: castL l := by
  refine ⟨castL (l.drop k), ?_⟩
  unfold castL
  rw [← List.filter_append, List.take_append_drop]
set_option maxRecDepth 100000 in
set_option maxHeartbeats 4000000 in
theorem cast1_in (n : Nat) (hn : 1 ≤ n) (l Bs : Nat) (A : Option Addr) (c : Nat) (ls : List S24) (hl : ls.length ≤ 140737488351232) (J Jx : List S24 → World → Prop)
    (W : World) (hJ : AbidesFrom W.heap.size J) (hA : ∀ k, RdB Bs A ls.length k → k < W.heap.size)
    (hY : ∀ pre x W1, J pre W1 → pre.length < ls.length → YieldAt Fence.wide (n - 1) Try.prog l #[voteE x] W1 fun e W' =>
      (e = .returned (.bool true) ∧ J (pre ++ [x]) W' ∧ Keeps (RdB Bs A ls.length) W1 W') ∨ (e = .returned (.bool false) ∧ Jx (pre ++ [x]) W'))
    (hBs : W.cell? ⟨Bs, 0, none⟩ = some (.slice A ls.length c)) (hC : Kd.C k24 W A ls.length ls) (h0 : J [] W) :
    CallsIn Fence.wide n Try.prog 32 #[.func (.yield l) #[] #[], .pointer (some ⟨Bs, 0, none⟩)] W fun e W' => (∃ v, e = .returned v) ∧
      ((∃ ys, ys = castL ls ∧ J ys W') ∨ (∃ pre, pre <+: castL ls ∧ Jx pre W')) := by
  refine callsIn_of_wp Try.func32 rfl trivial ?_ rfl
  simp only [Try.ntmps32, List.size_toArray, List.length_cons, List.length_nil, Nat.reduceAdd, Nat.reduceSub, Array.replicate_succ, Array.replicate_zero, List.push_toArray, List.append_toArray, List.nil_append, List.cons_append]
  refine wpIn_wide.2 (wp_scope_straight ((wpIn_wide (n := n)).1 ?_))
  gi_wp2
  refine wpIn_label ?_
  gi_wp2
  gi_loopw [7] (fun i wr => ∃ k : Nat, k ≤ ls.length ∧ i = .int .i64 k ∧ J (castL (ls.take k)) wr ∧ Keeps (RdB Bs A ls.length) W wr ) (fun i _ => ls.length - (intOf i).toNat)
  case atStart => exact ⟨0, Nat.zero_le _, rfl, h0, Keeps.refl _ _⟩
  case round =>
    obtain ⟨k, hk, rfl, hJs, hnx⟩ := hrel
    by_cases hlt : k < ls.length
    · obtain ⟨ad, hAd, c0, c1, c2⟩ := at_T24 hC (k : Int) (by omega) (by omega)
      rw [rd_get ls k hlt] at c0 c1 c2
      subst hAd
      have hS : RdB Bs (some ad) ls.length ad.block := .inr ⟨by omega, ad, rfl, rfl⟩
      have hSB : ∀ j, RdB Bs (some ad) ls.length j → j < wr.heap.size := fun j hj => hnx.lt hj (hA j hj)
      have d0 := (hnx.cell (p := ad.add ((k : Int).toNat * 3)) (by rw [show (ad.add ((k : Int).toNat * 3)).block = ad.block by unfold Addr.add; split <;> rfl]; exact hS)).trans c0
      have d1 := (hnx.cell (p := ⟨(ad.add ((k : Int).toNat * 3)).block, (ad.add ((k : Int).toNat * 3)).off + 1, none⟩) (by rw [show (ad.add ((k : Int).toNat * 3)).block = ad.block by unfold Addr.add; split <;> rfl]; exact hS)).trans c1
      have d2 := (hnx.cell (p := ⟨(ad.add ((k : Int).toNat * 3)).block, (ad.add ((k : Int).toNat * 3)).off + 2, none⟩) (by rw [show (ad.add ((k : Int).toNat * 3)).block = ad.block by unfold Addr.add; split <;> rfl]; exact hS)).trans c2
      obtain ⟨W2, hW2⟩ : ∃ W2, wr.alloc (.cells #[.int .u64 ls[k].f0, .int .u64 ls[k].f1, .string ls[k].f2] 24) = W2 := ⟨_, rfl⟩
      have hJ2 : J (castL (ls.take k)) W2 := by rw [← hW2]; exact hJ _ _ _ none hJs (World.grownBy_alloc _ _ none) (fun r e => by cases e)
      have hk2 : Keeps (RdB Bs (some ad) ls.length) W W2 := by rw [← hW2]; exact hnx.alloc hSB _
      have HW2 := Lib.hid hW2; clear hW2
      clear c0 c1 c2
      simp only [Int.toNat_natCast] at d0 d1 d2
      by_cases hb : ls[k].f1 = 0
      · have hbe : (ls[k].f1 == 0) = true := by simpa using hb
        have hn := Lib.hid (castL_snoc_no ls k hlt hb)
        have HB := Lib.hid hb; clear hb
        gi_wp2
        rw [HW2.out]
        go_roundw
        case rel => exact ⟨k + 1, by omega, by simp, by rw [hn.out]; exact hJ2, hk2⟩
        case measure => simp [intOf]; omega
      · have hbe : (ls[k].f1 == 0) = false := by simpa using hb
        have hy' := Lib.hid (castL_snoc_yes ls k hlt hb)
        have HB := Lib.hid hb; clear hb
        obtain ⟨fn, tmps, assign, body, hy, hR⟩ := hY _ ls[k] W2 hJ2 (by have := castL_le (ls.take k); simp at this; omega)
        unfold voteE at hy
        rw [← HW2.out] at hy
        gi_wp2
        rw [HW2.out]
        refine hR.mono ?_
        rintro e W3 (⟨rfl, hJ3, hk3⟩ | ⟨rfl, hJx3⟩)
        · gi_wp2
          go_roundw
          case rel => exact ⟨k + 1, by omega, by simp, by rw [hy'.out]; exact hJ3, hk2.trans hk3⟩
          case measure => simp [intOf]; omega
        · gi_wp2
          rw [Exit.noGoto_ret]
          refine bodyPost_ret (results_none rfl _ _ _) rfl ?_
          exact ⟨⟨_, rfl⟩, .inr ⟨_, by rw [← hy'.out]; exact castL_prefix _ _, hJx3⟩⟩
    · obtain rfl : k = ls.length := by omega
      rw [List.take_length] at hJs
      gi_wp2
      rw [Exit.noGoto_normal]
      go_end0
      exact ⟨⟨_, rfl⟩, .inl ⟨_, rfl, hJs⟩⟩

/-- The blocks that are read lie in memory. -/
theorem rdb_lt {W : World} {Bs : Nat} {A : Option Addr} {ls : List S24} (hB : Bs < W.heap.size) (hC : Kd.C k24 W A ls.length ls) : ∀ k, RdB Bs A ls.length k → k < W.heap.size := by
  rintro k (rfl | ⟨hn, ad, hA, rfl⟩)
  · exact hB
  · obtain ⟨ad', e, c0, _⟩ := at_T24 hC 0 (by omega) (by omega)
    rw [hA] at e
    cases e
    have := World.block_lt_of_cell? W _ c0
    rwa [show (ad.add ((0 : Int).toNat * 3)).block = ad.block by unfold Addr.add; split <;> rfl] at this
theorem cast_in (n : Nat) (A : Option Addr) (m c : Nat) (w : World) :
    CallsIn Fence.wide n Try.prog 27 #[.slice A m c] w fun e w' => e = .returned (.func (.func 32) #[] #[.pointer (some ⟨w.heap.size, 0, none⟩)]) ∧ w' = w.alloc (.cells #[.slice A m c] 36) := by
  refine callsIn_of_wp Try.func27 rfl trivial ?_ rfl
  simp only [Try.ntmps27, List.size_toArray, List.length_cons, List.length_nil, Nat.reduceAdd, Nat.reduceSub, Array.replicate_succ, Array.replicate_zero, List.push_toArray, List.append_toArray, List.nil_append, List.cons_append]
  gi_wp2
  go_ret
  exact ⟨rfl, rfl⟩
theorem cast_stops (n : Nat) (hn : 1 ≤ n) (Bs : Nat) (A : Option Addr) (c : Nat) (ls : List S24) (hl : ls.length ≤ 140737488351232) (w : World) (hA : ∀ k, RdB Bs A ls.length k → k < w.heap.size)
    (hBs : w.cell? ⟨Bs, 0, none⟩ = some (.slice A ls.length c)) (hC : Kd.C k24 w A ls.length ls) :
    SeqStopsK Fence.wide n Try.prog 32 #[.pointer (some ⟨Bs, 0, none⟩)] (fun x => #[voteE x]) (Keeps (RdB Bs A ls.length)) (fun ys => ys = castL ls) (fun pre => pre <+: castL ls) ls.length w := fun l J Jx W hW hJ _ hY h0 =>
  cast1_in n hn l Bs A c ls hl J Jx W hJ (fun k hk => Nat.lt_of_lt_of_le (hA k hk) hW.size) hY ((hW.cell (p := ⟨Bs, 0, none⟩) (hA Bs (.inl rfl))).trans hBs) (Kd.C_below hC hW) h0
end Go.Proofs.Ytnllilpbgenjbaa.G
