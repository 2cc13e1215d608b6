/- Who seems to be down: the iterator over the nodes of which something is so, at its three tests. -/
import Derived.RangeFuncNested
import Derived.RangeFuncBound
import Derived.RangeFuncCalls
import Derived.RangeFuncLeaves
import Derived.Shelf.Abstract
import Derived.Shelf.RegionOpen
import Derived.OwnWalkIn
import Derived.TacticsInMore
import Derived.LoopNIn
import Derived.LoopIn
import Derived.WalkMore
import Derived.Test.YtkifmdfmbmbdaaaDetB
namespace Go.Proofs.Ytkifmdfmbmbdaaa.G
open Go.RowKit Go.Shelf Go.Proofs.YtkifmdfmbmbdaaaW.PrintWords Go.Proofs.YtkifmdfmbmbdaaaW.PrintMore
set_option linter.unusedVariables false
set_option linter.unusedSimpArgs false
attribute [local go_sem] Oper.semAt_some

/-- The nodes, of the first k, of which something is so. -/
def whoL (pr : Nat → Peer → Bool) (ps : List Peer) (k : Nat) : List Nat := (List.range k).filter fun i => decide ((ps[i]?.map (pr i)) = some true)
theorem who_no (pr : Nat → Peer → Bool) (ps : List Peer) (k : Nat) (h : k < ps.length) (h0 : pr k ps[k] = false) : whoL pr ps (k + 1) = whoL pr ps k := by
  unfold whoL
  rw [List.range_succ, List.filter_append]
  simp [h, h0]
theorem who_yes (pr : Nat → Peer → Bool) (ps : List Peer) (k : Nat) (h : k < ps.length) (h0 : pr k ps[k] = true) : whoL pr ps (k + 1) = whoL pr ps k ++ [k] := by
  unfold whoL
  rw [List.range_succ, List.filter_append]
  simp [h, h0]
theorem who_len (pr : Nat → Peer → Bool) (ps : List Peer) (k : Nat) : (whoL pr ps k).length ≤ k := by
  have := List.length_filter_le (fun i => decide ((ps[i]?.map (pr i)) = some true)) (List.range k)
  rw [List.length_range] at this
  exact this
theorem who_prefix (pr : Nat → Peer → Bool) (ps : List Peer) {k n : Nat} (h : k ≤ n) : whoL pr ps k <+: whoL pr ps n := by
  obtain ⟨d, rfl⟩ := Nat.exists_eq_add_of_le h
  induction d with
  | zero => exact List.prefix_rfl
  | succ d ih =>
    refine (ih (by omega)).trans ?_
    unfold whoL
    rw [← Nat.add_assoc, List.range_succ, List.filter_append]
    exact List.prefix_append _ _
theorem those_in (n : Nat) (g fid : Nat) (lb : Array Value) (w : World) :
    CallsIn Fence.wide n Try.prog 18 #[.pointer (some ⟨g, 0, none⟩), .func (.func fid) #[] lb] w fun e w' => e = .returned (.func (.func 22) #[] #[.pointer (some ⟨w.heap.size, 0, none⟩), .pointer (some ⟨w.heap.size + 1, 0, none⟩)]) ∧ w' = (w.alloc (.cells #[.pointer (some ⟨g, 0, none⟩)] 24)).alloc (.cells #[.func (.func fid) #[] lb] 51) := by
  refine callsIn_of_wp Try.func18 rfl trivial ?_ rfl
  simp only [Try.ntmps18, List.size_toArray, List.length_cons, List.length_nil, Nat.reduceAdd, Nat.reduceSub, Array.replicate_succ, Array.replicate_zero, List.push_toArray, List.append_toArray, List.nil_append, List.cons_append]
  gi_wp2
  go_ret
  exact ⟨rfl, rfl⟩
def leaderP (i : Nat) (p : Peer) : Bool := !p.sus
def suspectP (i : Nat) (p : Peer) : Bool := p.sus
def lateP (self now : Int) (i : Nat) (p : Peer) : Bool := decide ((i : Int) ≠ self) && (!p.sus) && decide (p.tmo < now - p.last)
theorem leader1.is (i : Nat) (p : Peer) (w : World) : Calls Try.prog 19 #[.int .i64 i, .agg #[.int .u64 p.last, .int .u64 p.tmo, .bool p.sus]] w fun e w' => e = .returned (.bool (leaderP i p)) ∧ w.alloc (.cells #[.int .u64 p.last, .int .u64 p.tmo, .bool p.sus] 47) = w' := by
  go_enter Try.func19, Try.ntmps19
  go_wp2
  go_ret
  exact ⟨rfl, rfl⟩
theorem suspect1.is (i : Nat) (p : Peer) (w : World) : Calls Try.prog 20 #[.int .i64 i, .agg #[.int .u64 p.last, .int .u64 p.tmo, .bool p.sus]] w fun e w' => e = .returned (.bool (suspectP i p)) ∧ w.alloc (.cells #[.int .u64 p.last, .int .u64 p.tmo, .bool p.sus] 47) = w' := by
  go_enter Try.func20, Try.ntmps20
  go_wp2
  go_ret
  exact ⟨rfl, rfl⟩
set_option maxRecDepth 100000 in
set_option maxHeartbeats 2000000 in
theorem late1.is (Bd Bt g M : Nat) (s : Det) (now : Int) (i : Nat) (p : Peer) (w : World) (h1 : w.cell? ⟨Bd, 0, none⟩ = some (.pointer (some ⟨g, 0, none⟩))) (h2 : w.cell? ⟨Bt, 0, none⟩ = some (.int .u64 now)) (hS : DetS w g M s) (hp : 0 ≤ p.last ∧ p.last ≤ now ∧ now ≤ 1152921504606846976) :
    Calls Try.prog 17 #[.int .i64 i, .agg #[.int .u64 p.last, .int .u64 p.tmo, .bool p.sus], .pointer (some ⟨Bd, 0, none⟩), .pointer (some ⟨Bt, 0, none⟩)] w fun e w' => e = .returned (.bool (lateP s.self now i p)) ∧ w.alloc (.cells #[.int .u64 p.last, .int .u64 p.tmo, .bool p.sus] 47) = w' := by
  obtain ⟨pl, pt, ps⟩ := p
  have hb1 : Below w.heap.size w (w.alloc (.cells #[.int .u64 pl, .int .u64 pt, .bool ps] 47)) := (Below.refl _ w).alloc (Nat.le_refl _) _
  have y1 := (hb1.cell (p := ⟨Bd, 0, none⟩) (World.block_lt_of_cell? w _ h1)).trans h1
  have y2 := (hb1.cell (p := ⟨Bt, 0, none⟩) (World.block_lt_of_cell? w _ h2)).trans h2
  have g1 : (w.alloc (.cells #[.int .u64 pl, .int .u64 pt, .bool ps] 47)).cell? ⟨g, 1, none⟩ = some (.int .i64 s.self) := (hS.below hb1).1.cell 1
  simp only at hp
  have hmw : IntKind.u64.wrap (now - pl) = now - pl := IntWalk.u64_in _ (by omega)
  have hmx : 0 ≤ now - pl := by omega
  unfold lateP
  simp only
  by_cases hi : (i : Int) = s.self
  · have hd : ((i : Int) == s.self) = true := by simpa using hi
    have e : (decide ((i : Int) ≠ s.self) && (!ps) && decide (pt < now - pl)) = false := by simp [hi]
    rw [e]
    have HI := Lib.hid hi; clear hi e
    go_enter Try.func17, Try.ntmps17
    go_wp2
    go_ret
    exact ⟨rfl, rfl⟩
  · have hd : ((i : Int) == s.self) = false := by simpa using hi
    have e : (decide ((i : Int) ≠ s.self) && (!ps) && decide (pt < now - pl)) = ((!ps) && decide (pt < now - pl)) := by simp [hi]
    rw [e]
    have HI := Lib.hid hi; clear hi e
    cases ps with
    | true =>
      go_enter Try.func17, Try.ntmps17
      go_wp2
      go_ret
      exact ⟨rfl, rfl⟩
    | false =>
      go_enter Try.func17, Try.ntmps17
      go_wp2
      go_ret
      exact ⟨by have := HI.out; simp [this], rfl⟩
set_option maxRecDepth 100000 in
set_option maxHeartbeats 4000000 in
theorem thoseL_in (n : Nat) (hn : 1 ≤ n) (l Bd Bi g M : Nat) (s : Det) (R : Nat → Prop) (rd : R Bd) (ri : R Bi) (rg : R g) (rM : R M) (hl : s.ps.length ≤ 1000000) (J Jx : List Nat → World → Prop)
    (W : World) (hJ : AbidesFrom W.heap.size J) (hA : ∀ k, R k → k < W.heap.size)
    (hY : ∀ pre x W1, J pre W1 → pre.length < s.ps.length → YieldAt Fence.wide (n - 1) Try.prog l #[.int .i64 (x : Nat)] W1 fun e W' =>
      (e = .returned (.bool true) ∧ J (pre ++ [x]) W' ∧ Keeps R W1 W') ∨ (e = .returned (.bool false) ∧ Jx (pre ++ [x]) W'))
    (hBd : W.cell? ⟨Bd, 0, none⟩ = some (.pointer (some ⟨g, 0, none⟩))) (hBi : W.cell? ⟨Bi, 0, none⟩ = some (.func (.func 19) #[] #[])) (hS : DetS W g M s) (h0 : J [] W) :
    CallsIn Fence.wide n Try.prog 22 #[.func (.yield l) #[] #[], .pointer (some ⟨Bd, 0, none⟩), .pointer (some ⟨Bi, 0, none⟩)] W fun e W' => (∃ v, e = .returned v) ∧
      ((∃ ys, ys = whoL leaderP s.ps s.ps.length ∧ J ys W') ∨ (∃ pre, pre <+: whoL leaderP s.ps s.ps.length ∧ Jx pre W')) := by
  have c0 : W.cell? ⟨g, 0, none⟩ = some (.map (some M)) := hS.1.cell 0
  have hlen := fun ty => hS.len ty
  refine callsIn_of_wp Try.func22 rfl trivial ?_ rfl
  simp only [Try.ntmps22, List.size_toArray, List.length_cons, List.length_nil, Nat.reduceAdd, Nat.reduceSub, Array.replicate_succ, Array.replicate_zero, List.push_toArray, List.append_toArray, List.nil_append, List.cons_append]
  refine wpIn_wide.2 (wp_scope_straight ((wpIn_wide (n := n)).1 ?_))
  gi_wp2
  refine wpIn_label ?_
  gi_wp2
  gi_loopw [10] (fun i wr => ∃ k : Nat, k ≤ s.ps.length ∧ i = .int .i64 k ∧ J (whoL leaderP s.ps k) wr ∧ Keeps R W wr) (fun i _ => s.ps.length - (intOf i).toNat)
  case atStart => exact ⟨0, Nat.zero_le _, rfl, h0, Keeps.refl _ _⟩
  case round =>
    obtain ⟨k, hk, rfl, hJs, hnx⟩ := hrel
    by_cases hlt : k < s.ps.length
    · have hSB : ∀ j, R j → j < wr.heap.size := fun j hj => hnx.lt hj (hA j hj)
      have hSr : DetS wr.drew g M s := by
        obtain ⟨q1, m, q2, q3⟩ := hS
        exact ⟨(hnx g rg).trans q1, m, q2.of_eq (hnx M rM), q3⟩
      have dd := (hnx.cell (p := ⟨Bd, 0, none⟩) rd).trans hBd
      have di := (hnx.cell (p := ⟨Bi, 0, none⟩) ri).trans hBi
      have dg : wr.cell? ⟨g, 0, none⟩ = some (.map (some M)) := (hnx.cell (p := ⟨g, 0, none⟩) rg).trans c0
      have lk := hSr.look (k : Int) false
      rw [atP_nat s k hlt] at lk
      simp only [Option.getD_some, Bool.false_eq_true, if_false, peerV] at lk
      have hyes := who_yes leaderP s.ps k hlt
      have hno := who_no leaderP s.ps k hlt
      obtain ⟨p, hp⟩ : ∃ p, s.ps[k] = p := ⟨_, rfl⟩
      rw [hp] at lk hyes hno
      have HY := Lib.hid hyes; clear hyes
      have HN := Lib.hid hno; clear hno
      have HP := Lib.hid hp; clear hp
      obtain ⟨W2, hW2⟩ : ∃ W2, (wr.alloc (.cells #[.int .u64 p.last, .int .u64 p.tmo, .bool p.sus] 47)).drew = W2 := ⟨_, rfl⟩
      have hJ2 : J (whoL leaderP s.ps k) W2 := by rw [← hW2]; exact hJ _ _ _ none hJs (grown_of (A := wr) (((Below.refl _ wr).alloc (Nat.le_refl _) _).drew) none) (fun r e => by cases e)
      have hk2 : Keeps R W W2 := by rw [← hW2]; exact (hnx.alloc hSB _).drew
      obtain ⟨b, hb⟩ : ∃ b, leaderP k p = b := ⟨_, rfl⟩
      have his := fun (w0 : World) (hw0 : wr.drew = w0) => (leader1.is k p w0)
      have HIS := Lib.hid his; clear his
      rw [hb] at HIS
      have HW2 := Lib.hid hW2; clear hW2
      cases b with
      | false =>
        have hn' := HN.out hb
        have HN' := Lib.hid hn'; clear hn'
        have HB := Lib.hid hb; clear hb
        gi_wp2_with (fail)
        refine wpIn_wide.2 ?_
        refine (fun (key : Same_ ?X1) => ?main1) ?pf1
        case main1 =>
          go_region_with (go_at_call 19; refine (HIS.out _ rfl).mono ?_; rintro e w5 ⟨rfl, rfl⟩)
          all_goals
            go_wp2_with (fail)
            exact key.val
        refine Same_.mk ?_
        gi_wp2
        rw [HW2.out]
        go_roundw
        case rel => exact ⟨k + 1, by omega, by simp, by rw [HN'.out]; exact hJ2, hk2⟩
        case measure => simp [intOf]; omega
      | true =>
        have hy' := HY.out hb
        have HY' := Lib.hid hy'; clear hy'
        have HB := Lib.hid hb; clear hb
        obtain ⟨fn, tmps, assign, body, hy, hR⟩ := hY _ k W2 hJ2 (by have := who_len leaderP s.ps k; omega)
        rw [← HW2.out] at hy
        gi_wp2_with (fail)
        refine wpIn_wide.2 ?_
        refine (fun (key : Same_ ?X2) => ?main2) ?pf2
        case main2 =>
          go_region_with (go_at_call 19; refine (HIS.out _ rfl).mono ?_; rintro e w5 ⟨rfl, rfl⟩)
          all_goals
            go_wp2_with (fail)
            exact key.val
        refine Same_.mk ?_
        gi_wp2
        rw [HW2.out]
        refine hR.mono ?_
        rintro e W3 (⟨rfl, hJ3, hk3⟩ | ⟨rfl, hJx3⟩)
        · gi_wp2
          go_roundw
          case rel => exact ⟨k + 1, by omega, by simp, by rw [HY'.out]; exact hJ3, hk2.trans hk3⟩
          case measure => simp [intOf]; omega
        · gi_wp2
          rw [Exit.noGoto_ret]
          refine bodyPost_ret (results_none rfl _ _ _) rfl ?_
          exact ⟨⟨_, rfl⟩, .inr ⟨_, by rw [← HY'.out]; exact who_prefix leaderP s.ps (by omega), hJx3⟩⟩
    · obtain rfl : k = s.ps.length := by omega
      gi_wp2
      rw [Exit.noGoto_normal]
      go_end0
      exact ⟨⟨_, rfl⟩, .inl ⟨_, rfl, hJs⟩⟩
theorem thoseL_stops (n : Nat) (hn : 1 ≤ n) (Bd Bi g M : Nat) (s : Det) (R : Nat → Prop) (rd : R Bd) (ri : R Bi) (rg : R g) (rM : R M) (hl : s.ps.length ≤ 1000000) (w : World) (hA : ∀ k, R k → k < w.heap.size)
    (hBd : w.cell? ⟨Bd, 0, none⟩ = some (.pointer (some ⟨g, 0, none⟩))) (hBi : w.cell? ⟨Bi, 0, none⟩ = some (.func (.func 19) #[] #[])) (hS : DetS w g M s) :
    SeqStopsK Fence.wide n Try.prog 22 #[.pointer (some ⟨Bd, 0, none⟩), .pointer (some ⟨Bi, 0, none⟩)] (fun (x : Nat) => #[.int .i64 x]) (Keeps R) (fun ys => ys = whoL leaderP s.ps s.ps.length) (fun pre => pre <+: whoL leaderP s.ps s.ps.length) s.ps.length w := fun l J Jx W hW hJ _ hY h0 =>
  thoseL_in n hn l Bd Bi g M s R rd ri rg rM hl J Jx W hJ (fun k hk => Nat.lt_of_lt_of_le (hA k hk) hW.size) hY ((hW.cell (p := ⟨Bd, 0, none⟩) (hA Bd rd)).trans hBd) ((hW.cell (p := ⟨Bi, 0, none⟩) (hA Bi ri)).trans hBi) (hS.below hW) h0
set_option maxRecDepth 100000 in
set_option maxHeartbeats 4000000 in
theorem thoseS_in (n : Nat) (hn : 1 ≤ n) (l Bd Bi g M : Nat) (s : Det) (R : Nat → Prop) (rd : R Bd) (ri : R Bi) (rg : R g) (rM : R M) (hl : s.ps.length ≤ 1000000) (J Jx : List Nat → World → Prop)
    (W : World) (hJ : AbidesFrom W.heap.size J) (hA : ∀ k, R k → k < W.heap.size)
    (hY : ∀ pre x W1, J pre W1 → pre.length < s.ps.length → YieldAt Fence.wide (n - 1) Try.prog l #[.int .i64 (x : Nat)] W1 fun e W' =>
      (e = .returned (.bool true) ∧ J (pre ++ [x]) W' ∧ Keeps R W1 W') ∨ (e = .returned (.bool false) ∧ Jx (pre ++ [x]) W'))
    (hBd : W.cell? ⟨Bd, 0, none⟩ = some (.pointer (some ⟨g, 0, none⟩))) (hBi : W.cell? ⟨Bi, 0, none⟩ = some (.func (.func 20) #[] #[])) (hS : DetS W g M s) (h0 : J [] W) :
    CallsIn Fence.wide n Try.prog 22 #[.func (.yield l) #[] #[], .pointer (some ⟨Bd, 0, none⟩), .pointer (some ⟨Bi, 0, none⟩)] W fun e W' => (∃ v, e = .returned v) ∧
      ((∃ ys, ys = whoL suspectP s.ps s.ps.length ∧ J ys W') ∨ (∃ pre, pre <+: whoL suspectP s.ps s.ps.length ∧ Jx pre W')) := by
  have c0 : W.cell? ⟨g, 0, none⟩ = some (.map (some M)) := hS.1.cell 0
  have hlen := fun ty => hS.len ty
  refine callsIn_of_wp Try.func22 rfl trivial ?_ rfl
  simp only [Try.ntmps22, List.size_toArray, List.length_cons, List.length_nil, Nat.reduceAdd, Nat.reduceSub, Array.replicate_succ, Array.replicate_zero, List.push_toArray, List.append_toArray, List.nil_append, List.cons_append]
  refine wpIn_wide.2 (wp_scope_straight ((wpIn_wide (n := n)).1 ?_))
  gi_wp2
  refine wpIn_label ?_
  gi_wp2
  gi_loopw [10] (fun i wr => ∃ k : Nat, k ≤ s.ps.length ∧ i = .int .i64 k ∧ J (whoL suspectP s.ps k) wr ∧ Keeps R W wr) (fun i _ => s.ps.length - (intOf i).toNat)
  case atStart => exact ⟨0, Nat.zero_le _, rfl, h0, Keeps.refl _ _⟩
  case round =>
    obtain ⟨k, hk, rfl, hJs, hnx⟩ := hrel
    by_cases hlt : k < s.ps.length
    · have hSB : ∀ j, R j → j < wr.heap.size := fun j hj => hnx.lt hj (hA j hj)
      have hSr : DetS wr.drew g M s := by
        obtain ⟨q1, m, q2, q3⟩ := hS
        exact ⟨(hnx g rg).trans q1, m, q2.of_eq (hnx M rM), q3⟩
      have dd := (hnx.cell (p := ⟨Bd, 0, none⟩) rd).trans hBd
      have di := (hnx.cell (p := ⟨Bi, 0, none⟩) ri).trans hBi
      have dg : wr.cell? ⟨g, 0, none⟩ = some (.map (some M)) := (hnx.cell (p := ⟨g, 0, none⟩) rg).trans c0
      have lk := hSr.look (k : Int) false
      rw [atP_nat s k hlt] at lk
      simp only [Option.getD_some, Bool.false_eq_true, if_false, peerV] at lk
      have hyes := who_yes suspectP s.ps k hlt
      have hno := who_no suspectP s.ps k hlt
      obtain ⟨p, hp⟩ : ∃ p, s.ps[k] = p := ⟨_, rfl⟩
      rw [hp] at lk hyes hno
      have HY := Lib.hid hyes; clear hyes
      have HN := Lib.hid hno; clear hno
      have HP := Lib.hid hp; clear hp
      obtain ⟨W2, hW2⟩ : ∃ W2, (wr.alloc (.cells #[.int .u64 p.last, .int .u64 p.tmo, .bool p.sus] 47)).drew = W2 := ⟨_, rfl⟩
      have hJ2 : J (whoL suspectP s.ps k) W2 := by rw [← hW2]; exact hJ _ _ _ none hJs (grown_of (A := wr) (((Below.refl _ wr).alloc (Nat.le_refl _) _).drew) none) (fun r e => by cases e)
      have hk2 : Keeps R W W2 := by rw [← hW2]; exact (hnx.alloc hSB _).drew
      obtain ⟨b, hb⟩ : ∃ b, suspectP k p = b := ⟨_, rfl⟩
      have his := fun (w0 : World) (hw0 : wr.drew = w0) => (suspect1.is k p w0)
      have HIS := Lib.hid his; clear his
      rw [hb] at HIS
      have HW2 := Lib.hid hW2; clear hW2
      cases b with
      | false =>
        have hn' := HN.out hb
        have HN' := Lib.hid hn'; clear hn'
        have HB := Lib.hid hb; clear hb
        gi_wp2_with (fail)
        refine wpIn_wide.2 ?_
        refine (fun (key : Same_ ?X1) => ?main1) ?pf1
        case main1 =>
          go_region_with (go_at_call 20; refine (HIS.out _ rfl).mono ?_; rintro e w5 ⟨rfl, rfl⟩)
          all_goals
            go_wp2_with (fail)
            exact key.val
        refine Same_.mk ?_
        gi_wp2
        rw [HW2.out]
        go_roundw
        case rel => exact ⟨k + 1, by omega, by simp, by rw [HN'.out]; exact hJ2, hk2⟩
        case measure => simp [intOf]; omega
      | true =>
        have hy' := HY.out hb
        have HY' := Lib.hid hy'; clear hy'
        have HB := Lib.hid hb; clear hb
        obtain ⟨fn, tmps, assign, body, hy, hR⟩ := hY _ k W2 hJ2 (by have := who_len suspectP s.ps k; omega)
        rw [← HW2.out] at hy
        gi_wp2_with (fail)
        refine wpIn_wide.2 ?_
        refine (fun (key : Same_ ?X2) => ?main2) ?pf2
        case main2 =>
          go_region_with (go_at_call 20; refine (HIS.out _ rfl).mono ?_; rintro e w5 ⟨rfl, rfl⟩)
          all_goals
            go_wp2_with (fail)
            exact key.val
        refine Same_.mk ?_
        gi_wp2
        rw [HW2.out]
        refine hR.mono ?_
        rintro e W3 (⟨rfl, hJ3, hk3⟩ | ⟨rfl, hJx3⟩)
        · gi_wp2
          go_roundw
          case rel => exact ⟨k + 1, by omega, by simp, by rw [HY'.out]; exact hJ3, hk2.trans hk3⟩
          case measure => simp [intOf]; omega
        · gi_wp2
          rw [Exit.noGoto_ret]
          refine bodyPost_ret (results_none rfl _ _ _) rfl ?_
          exact ⟨⟨_, rfl⟩, .inr ⟨_, by rw [← HY'.out]; exact who_prefix suspectP s.ps (by omega), hJx3⟩⟩
    · obtain rfl : k = s.ps.length := by omega
      gi_wp2
      rw [Exit.noGoto_normal]
      go_end0
      exact ⟨⟨_, rfl⟩, .inl ⟨_, rfl, hJs⟩⟩
theorem thoseS_stops (n : Nat) (hn : 1 ≤ n) (Bd Bi g M : Nat) (s : Det) (R : Nat → Prop) (rd : R Bd) (ri : R Bi) (rg : R g) (rM : R M) (hl : s.ps.length ≤ 1000000) (w : World) (hA : ∀ k, R k → k < w.heap.size)
    (hBd : w.cell? ⟨Bd, 0, none⟩ = some (.pointer (some ⟨g, 0, none⟩))) (hBi : w.cell? ⟨Bi, 0, none⟩ = some (.func (.func 20) #[] #[])) (hS : DetS w g M s) :
    SeqStopsK Fence.wide n Try.prog 22 #[.pointer (some ⟨Bd, 0, none⟩), .pointer (some ⟨Bi, 0, none⟩)] (fun (x : Nat) => #[.int .i64 x]) (Keeps R) (fun ys => ys = whoL suspectP s.ps s.ps.length) (fun pre => pre <+: whoL suspectP s.ps s.ps.length) s.ps.length w := fun l J Jx W hW hJ _ hY h0 =>
  thoseS_in n hn l Bd Bi g M s R rd ri rg rM hl J Jx W hJ (fun k hk => Nat.lt_of_lt_of_le (hA k hk) hW.size) hY ((hW.cell (p := ⟨Bd, 0, none⟩) (hA Bd rd)).trans hBd) ((hW.cell (p := ⟨Bi, 0, none⟩) (hA Bi ri)).trans hBi) (hS.below hW) h0
set_option maxRecDepth 100000 in
set_option maxHeartbeats 4000000 in
theorem thoseT_in (n : Nat) (hn : 1 ≤ n) (l Bd Bi g M : Nat) (Bd2 Bt : Nat) (now : Int) (s : Det) (R : Nat → Prop) (rd : R Bd) (ri : R Bi) (rg : R g) (rM : R M) (r2 : R Bd2) (rt : R Bt) (hl : s.ps.length ≤ 1000000) (J Jx : List Nat → World → Prop)
    (W : World) (hJ : AbidesFrom W.heap.size J) (hA : ∀ k, R k → k < W.heap.size)
    (hY : ∀ pre x W1, J pre W1 → pre.length < s.ps.length → YieldAt Fence.wide (n - 1) Try.prog l #[.int .i64 (x : Nat)] W1 fun e W' =>
      (e = .returned (.bool true) ∧ J (pre ++ [x]) W' ∧ Keeps R W1 W') ∨ (e = .returned (.bool false) ∧ Jx (pre ++ [x]) W'))
    (hBd : W.cell? ⟨Bd, 0, none⟩ = some (.pointer (some ⟨g, 0, none⟩))) (hBi : W.cell? ⟨Bi, 0, none⟩ = some (.func (.func 17) #[] #[.pointer (some ⟨Bd2, 0, none⟩), .pointer (some ⟨Bt, 0, none⟩)])) (hS : DetS W g M s) (hB2 : W.cell? ⟨Bd2, 0, none⟩ = some (.pointer (some ⟨g, 0, none⟩))) (hBt : W.cell? ⟨Bt, 0, none⟩ = some (.int .u64 now)) (hT : now ≤ 1152921504606846976 ∧ ∀ p ∈ s.ps, 0 ≤ p.last ∧ p.last ≤ now) (h0 : J [] W) :
    CallsIn Fence.wide n Try.prog 22 #[.func (.yield l) #[] #[], .pointer (some ⟨Bd, 0, none⟩), .pointer (some ⟨Bi, 0, none⟩)] W fun e W' => (∃ v, e = .returned v) ∧
      ((∃ ys, ys = whoL (lateP s.self now) s.ps s.ps.length ∧ J ys W') ∨ (∃ pre, pre <+: whoL (lateP s.self now) s.ps s.ps.length ∧ Jx pre W')) := by
  have c0 : W.cell? ⟨g, 0, none⟩ = some (.map (some M)) := hS.1.cell 0
  have hlen := fun ty => hS.len ty
  refine callsIn_of_wp Try.func22 rfl trivial ?_ rfl
  simp only [Try.ntmps22, List.size_toArray, List.length_cons, List.length_nil, Nat.reduceAdd, Nat.reduceSub, Array.replicate_succ, Array.replicate_zero, List.push_toArray, List.append_toArray, List.nil_append, List.cons_append]
  refine wpIn_wide.2 (wp_scope_straight ((wpIn_wide (n := n)).1 ?_))
  gi_wp2
  refine wpIn_label ?_
  gi_wp2
  gi_loopw [10] (fun i wr => ∃ k : Nat, k ≤ s.ps.length ∧ i = .int .i64 k ∧ J (whoL (lateP s.self now) s.ps k) wr ∧ Keeps R W wr) (fun i _ => s.ps.length - (intOf i).toNat)
  case atStart => exact ⟨0, Nat.zero_le _, rfl, h0, Keeps.refl _ _⟩
  case round =>
    obtain ⟨k, hk, rfl, hJs, hnx⟩ := hrel
    by_cases hlt : k < s.ps.length
    · have hSB : ∀ j, R j → j < wr.heap.size := fun j hj => hnx.lt hj (hA j hj)
      have hSr : DetS wr.drew g M s := by
        obtain ⟨q1, m, q2, q3⟩ := hS
        exact ⟨(hnx g rg).trans q1, m, q2.of_eq (hnx M rM), q3⟩
      have dd := (hnx.cell (p := ⟨Bd, 0, none⟩) rd).trans hBd
      have di := (hnx.cell (p := ⟨Bi, 0, none⟩) ri).trans hBi
      have dg : wr.cell? ⟨g, 0, none⟩ = some (.map (some M)) := (hnx.cell (p := ⟨g, 0, none⟩) rg).trans c0
      have lk := hSr.look (k : Int) false
      rw [atP_nat s k hlt] at lk
      simp only [Option.getD_some, Bool.false_eq_true, if_false, peerV] at lk
      have q2 : wr.drew.cell? ⟨Bd2, 0, none⟩ = some (.pointer (some ⟨g, 0, none⟩)) := (hnx.cell (p := ⟨Bd2, 0, none⟩) r2).trans hB2
      have qt : wr.drew.cell? ⟨Bt, 0, none⟩ = some (.int .u64 now) := (hnx.cell (p := ⟨Bt, 0, none⟩) rt).trans hBt
      have hpt := hT.2 _ (List.getElem_mem hlt)
      have hyes := who_yes (lateP s.self now) s.ps k hlt
      have hno := who_no (lateP s.self now) s.ps k hlt
      obtain ⟨p, hp⟩ : ∃ p, s.ps[k] = p := ⟨_, rfl⟩
      rw [hp] at lk hyes hno hpt
      have HY := Lib.hid hyes; clear hyes
      have HN := Lib.hid hno; clear hno
      have HP := Lib.hid hp; clear hp
      obtain ⟨W2, hW2⟩ : ∃ W2, (wr.alloc (.cells #[.int .u64 p.last, .int .u64 p.tmo, .bool p.sus] 47)).drew = W2 := ⟨_, rfl⟩
      have hJ2 : J (whoL (lateP s.self now) s.ps k) W2 := by rw [← hW2]; exact hJ _ _ _ none hJs (grown_of (A := wr) (((Below.refl _ wr).alloc (Nat.le_refl _) _).drew) none) (fun r e => by cases e)
      have hk2 : Keeps R W W2 := by rw [← hW2]; exact (hnx.alloc hSB _).drew
      obtain ⟨b, hb⟩ : ∃ b, lateP s.self now k p = b := ⟨_, rfl⟩
      have his := fun (w0 : World) (hw0 : wr.drew = w0) => (late1.is Bd2 Bt g M s now k p w0 (by rw [← hw0]; exact q2) (by rw [← hw0]; exact qt) (by rw [← hw0]; exact hSr) ⟨hpt.1, hpt.2, hT.1⟩)
      have HIS := Lib.hid his; clear his
      rw [hb] at HIS
      have HW2 := Lib.hid hW2; clear hW2
      cases b with
      | false =>
        have hn' := HN.out hb
        have HN' := Lib.hid hn'; clear hn'
        have HB := Lib.hid hb; clear hb
        gi_wp2_with (fail)
        refine wpIn_wide.2 ?_
        refine (fun (key : Same_ ?X1) => ?main1) ?pf1
        case main1 =>
          go_region_with (go_at_call 17; refine (HIS.out _ rfl).mono ?_; rintro e w5 ⟨rfl, rfl⟩)
          all_goals
            go_wp2_with (fail)
            exact key.val
        refine Same_.mk ?_
        gi_wp2
        rw [HW2.out]
        go_roundw
        case rel => exact ⟨k + 1, by omega, by simp, by rw [HN'.out]; exact hJ2, hk2⟩
        case measure => simp [intOf]; omega
      | true =>
        have hy' := HY.out hb
        have HY' := Lib.hid hy'; clear hy'
        have HB := Lib.hid hb; clear hb
        obtain ⟨fn, tmps, assign, body, hy, hR⟩ := hY _ k W2 hJ2 (by have := who_len (lateP s.self now) s.ps k; omega)
        rw [← HW2.out] at hy
        gi_wp2_with (fail)
        refine wpIn_wide.2 ?_
        refine (fun (key : Same_ ?X2) => ?main2) ?pf2
        case main2 =>
          go_region_with (go_at_call 17; refine (HIS.out _ rfl).mono ?_; rintro e w5 ⟨rfl, rfl⟩)
          all_goals
            go_wp2_with (fail)
            exact key.val
        refine Same_.mk ?_
        gi_wp2
        rw [HW2.out]
        refine hR.mono ?_
        rintro e W3 (⟨rfl, hJ3, hk3⟩ | ⟨rfl, hJx3⟩)
        · gi_wp2
          go_roundw
          case rel => exact ⟨k + 1, by omega, by simp, by rw [HY'.out]; exact hJ3, hk2.trans hk3⟩
          case measure => simp [intOf]; omega
        · gi_wp2
          rw [Exit.noGoto_ret]
          refine bodyPost_ret (results_none rfl _ _ _) rfl ?_
          exact ⟨⟨_, rfl⟩, .inr ⟨_, by rw [← HY'.out]; exact who_prefix (lateP s.self now) s.ps (by omega), hJx3⟩⟩
    · obtain rfl : k = s.ps.length := by omega
      gi_wp2
      rw [Exit.noGoto_normal]
      go_end0
      exact ⟨⟨_, rfl⟩, .inl ⟨_, rfl, hJs⟩⟩
theorem thoseT_stops (n : Nat) (hn : 1 ≤ n) (Bd Bi g M : Nat) (Bd2 Bt : Nat) (now : Int) (s : Det) (R : Nat → Prop) (rd : R Bd) (ri : R Bi) (rg : R g) (rM : R M) (r2 : R Bd2) (rt : R Bt) (hl : s.ps.length ≤ 1000000) (w : World) (hA : ∀ k, R k → k < w.heap.size)
    (hBd : w.cell? ⟨Bd, 0, none⟩ = some (.pointer (some ⟨g, 0, none⟩))) (hBi : w.cell? ⟨Bi, 0, none⟩ = some (.func (.func 17) #[] #[.pointer (some ⟨Bd2, 0, none⟩), .pointer (some ⟨Bt, 0, none⟩)])) (hS : DetS w g M s) (hB2 : w.cell? ⟨Bd2, 0, none⟩ = some (.pointer (some ⟨g, 0, none⟩))) (hBt : w.cell? ⟨Bt, 0, none⟩ = some (.int .u64 now)) (hT : now ≤ 1152921504606846976 ∧ ∀ p ∈ s.ps, 0 ≤ p.last ∧ p.last ≤ now) :
    SeqStopsK Fence.wide n Try.prog 22 #[.pointer (some ⟨Bd, 0, none⟩), .pointer (some ⟨Bi, 0, none⟩)] (fun (x : Nat) => #[.int .i64 x]) (Keeps R) (fun ys => ys = whoL (lateP s.self now) s.ps s.ps.length) (fun pre => pre <+: whoL (lateP s.self now) s.ps s.ps.length) s.ps.length w := fun l J Jx W hW hJ _ hY h0 =>
  thoseT_in n hn l Bd Bi g M Bd2 Bt now s R rd ri rg rM r2 rt hl J Jx W hJ (fun k hk => Nat.lt_of_lt_of_le (hA k hk) hW.size) hY ((hW.cell (p := ⟨Bd, 0, none⟩) (hA Bd rd)).trans hBd) ((hW.cell (p := ⟨Bi, 0, none⟩) (hA Bi ri)).trans hBi) (hS.below hW) ((hW.cell (p := ⟨Bd2, 0, none⟩) (hA Bd2 r2)).trans hB2) ((hW.cell (p := ⟨Bt, 0, none⟩) (hA Bt rt)).trans hBt) hT h0
end Go.Proofs.Ytkifmdfmbmbdaaa.G
