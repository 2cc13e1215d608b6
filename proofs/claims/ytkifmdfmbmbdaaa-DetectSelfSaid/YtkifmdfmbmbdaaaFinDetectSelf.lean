/- The node itself is never suspected; the leader is not suspected, all ahead of it are. -/
import Derived.Test.YtkifmdfmbmbdaaaFinDetectGrows
namespace Go.Proofs.Ytkifmdfmbmbdaaa.R
open Go.RowKit Go.Proofs.YtkifmdfmbmbdaaaW.PrintWords Go.Proofs.YtkifmdfmbmbdaaaW.PrintMore Go.Proofs.Ytkifmdfmbmbdaaa.P Go.Proofs.Ytkifmdfmbmbdaaa.G
set_option linter.unusedVariables false
set_option linter.unusedSimpArgs false

/-- .. and the node itself is not suspected. -/
structure SfI (sl : Nat) (b0 b1 b2 : Int) (n : Nat) (s : Det) : Prop where
  gr : GrI sl b0 b1 b2 n s
  lt : sl < n
  me : (s.ps[sl]?.map (·.sus)) = some false
theorem susAt_other {ps : List Peer} {i k : Nat} (h : i ≠ k) : (susAt ps i)[k]? = ps[k]? := by
  unfold susAt
  rw [List.getElem?_set, if_neg h]
theorem markL_other {l : List Nat} {k : Nat} (h : k ∉ l) : ∀ ps : List Peer, (markL ps l)[k]? = ps[k]? := by
  induction l with
  | nil => intro ps; rfl
  | cons i l ih =>
    intro ps
    rw [List.mem_cons, not_or] at h
    rw [show markL ps (i :: l) = markL (susAt ps i) l from rfl, ih h.2, susAt_other (fun e => h.1 e.symm)]
theorem self_not_late (sl : Nat) (t : Int) (ps : List Peer) (n : Nat) : sl ∉ whoL (lateP (sl : Int) t) ps n := by
  intro h
  unfold whoL at h
  have := (List.mem_filter.1 h).2
  simp only [decide_eq_true_eq] at this
  cases hp : ps[sl]? with
  | none => rw [hp] at this; cases this
  | some p =>
    rw [hp] at this
    simp [lateP] at this
theorem SfI.tick {sl : Nat} {b0 b1 b2 : Int} {n : Nat} {s : Det} (h : SfI sl b0 b1 b2 n s) (t : Int) : SfI sl b0 b1 b2 n (tickF s t).1 := by
  refine ⟨(h.gr.tick t).1, h.lt, ?_⟩
  unfold tickF
  split
  · exact h.me
  · show ((markL s.ps (whoL (lateP s.self t) s.ps s.ps.length))[sl]?.map (·.sus)) = some false
    rw [h.gr.sf, markL_other (self_not_late sl t _ _)]
    exact h.me
theorem SfI.hear {sl : Nat} {b0 b1 b2 : Int} {n : Nat} {s : Det} (h : SfI sl b0 b1 b2 n s) (hb2 : 0 ≤ b2) (j t : Int) : SfI sl b0 b1 b2 n (hearF s j t).1 := by
  refine ⟨(h.gr.hear hb2 j t).1, h.lt, ?_⟩
  unfold hearF
  split
  · exact h.me
  · split
    · exact h.me
    · show ((s.ps.set j.toNat _)[sl]?.map (·.sus)) = some false
      rw [List.getElem?_set]
      split
      · split
        · rfl
        · rename_i p hp _ e hl
          have := h.gr.ln
          have := h.lt
          omega
      · exact h.me
theorem SfI.new {sl n : Nat} {b0 b1 b2 : Int} (h : NewOk sl n b0 b1 b2 0) : SfI sl b0 b1 b2 n ⟨sl, b0, b1, b2, 0, List.replicate n ⟨0, b0, false⟩⟩ := by
  refine ⟨GrI.new h, ?_, ?_⟩
  · unfold NewOk at h; omega
  · unfold NewOk at h
    show ((List.replicate n (⟨0, b0, false⟩ : Peer))[sl]?.map (·.sus)) = some false
    rw [List.getElem?_replicate, if_pos (by omega)]
    rfl
/-- The leader, and who is suspected. -/
theorem lead {s : Det} {ps : List Peer} (hps : s.ps = ps) {sl : Nat} (hl : sl < ps.length) (hme : (ps[sl]?.map (·.sus)) = some false) :
    ∃ k : Nat, k ≤ sl ∧ leaderF s = k ∧ ∃ r, whoL suspectP ps ps.length = List.range k ++ r ∧ (∀ x ∈ r, k < x ∧ x ≠ sl) := by
  have hsl : sl ∈ whoL leaderP ps ps.length := by
    unfold whoL
    rw [List.mem_filter]
    refine ⟨by simpa using hl, ?_⟩
    rw [List.getElem?_eq_getElem hl] at hme ⊢
    simp at hme
    simp [leaderP, hme]
  cases hw : whoL leaderP ps ps.length with
  | nil => rw [hw] at hsl; cases hsl
  | cons k rest =>
    have hw' := hw
    unfold whoL at hw'
    rw [List.filter_eq_cons_iff] at hw'
    obtain ⟨l1, l2, hr, h1, h2, _⟩ := hw'
    have hk : k = l1.length := by
      have := congrArg (fun l => l[l1.length]?) hr
      simp only [List.getElem?_append_right (Nat.le_refl _), Nat.sub_self, List.getElem?_cons_zero] at this
      have hlt : l1.length < ps.length := by
        have := congrArg List.length hr
        simp at this
        omega
      rw [List.getElem?_range hlt] at this
      simpa using this.symm
    have hkn : k < ps.length := by
      have := congrArg List.length hr
      simp at this
      omega
    have hl1 : ∀ j, j < k → j ∈ l1 := by
      intro j hj
      have := congrArg (fun l => l[j]?) hr
      simp only [List.getElem?_append_left (show j < l1.length by omega)] at this
      rw [List.getElem?_range (by omega)] at this
      exact List.mem_of_getElem? this.symm
    have hsus : ∀ j, j < k → ∃ h : j < ps.length, ps[j].sus = true := by
      intro j hj
      have hjn : j < ps.length := by omega
      have := h1 j (hl1 j hj)
      rw [List.getElem?_eq_getElem hjn] at this
      simp [leaderP] at this
      exact ⟨hjn, this⟩
    have hks : ps[k].sus = false := by
      rw [List.getElem?_eq_getElem hkn] at h2
      simpa [leaderP] using h2
    have hle : k ≤ sl := by
      rcases Nat.lt_or_ge sl k with h | h
      · obtain ⟨hj, hs⟩ := hsus sl h
        rw [List.getElem?_eq_getElem hj] at hme
        simp at hme
        rw [hme] at hs
        cases hs
      · exact h
    refine ⟨k, hle, by unfold leaderF; rw [hps, hw], ?_⟩
    obtain ⟨d, hd⟩ := Nat.exists_eq_add_of_le (Nat.le_of_lt hkn)
    unfold whoL
    rw [hd, List.range_add, List.filter_append]
    refine ⟨_, by
      congr 1
      rw [List.filter_eq_self]
      intro j hj
      obtain ⟨hjn, hs⟩ := hsus j (by simpa using hj)
      rw [List.getElem?_eq_getElem hjn]
      simp [suspectP, hs], ?_⟩
    intro x hx
    rw [List.mem_filter] at hx
    obtain ⟨hx1, hx2⟩ := hx
    obtain ⟨y, _, rfl⟩ := List.mem_map.1 hx1
    simp only [decide_eq_true_eq] at hx2
    refine ⟨?_, ?_⟩
    · rcases Nat.eq_zero_or_pos y with rfl | h
      · rw [Nat.add_zero, List.getElem?_eq_getElem hkn] at hx2
        simp [suspectP, hks] at hx2
      · omega
    · rintro e
      rw [e] at hx2
      rw [List.getElem?_eq_getElem hl] at hx2 hme
      simp at hme
      simp [suspectP, hme] at hx2
/-- Each that is suspected. -/
theorem lead_at {S r : List Nat} {k sl : Nat} (hS : S = List.range k ++ r) (hk : k ≤ sl) (hr : ∀ x ∈ r, k < x ∧ x ≠ sl) (j : Nat) (h : j < S.length) : S[j] ≠ sl ∧ S[j] ≠ k ∧ (j < k → S[j] = j) := by
  subst hS
  by_cases hj : j < k
  · rw [List.getElem_append_left (by simpa using hj), List.getElem_range]
    omega
  · rw [List.getElem_append_right (by simpa using hj)]
    have := hr _ (List.getElem_mem (l := r) (n := j - (List.range k).length) (by simp at h ⊢; omega))
    omega
set_option maxRecDepth 100000 in
set_option maxHeartbeats 8000000 in
theorem DetectSelf_fin (a0 a1 a2_0 a2_1 a2_2 : Int) (A3 : Option Addr) (c3 : Nat) (l3 : List S40) (w : World) (w0 : (Lit.int .i64 a0).wf = true) (w1 : (Lit.int .i64 a1).wf = true) (w2_0 : (Lit.int .u64 a2_0).wf = true) (w2_1 : (Lit.int .u64 a2_1).wf = true) (w2_2 : (Lit.int .u64 a2_2).wf = true) (hr3 : Kd.C k40 w A3 l3.length l3) (hc3 : l3.length ≤ c3) (_hm3 : l3.length ≤ maxLen) (hw3 : ∀ z ∈ l3, True ∧ (Lit.int .i64 z.f1).wf = true ∧ (Lit.int .u64 z.f2).wf = true ∧ True) :
    Calls Try.prog 4 #[.int .i64 a0, .int .i64 a1, .agg #[.int .u64 a2_0, .int .u64 a2_1, .int .u64 a2_2], .slice A3 l3.length c3] w fun e w' => e = .returned (.bool true) ∧ Below w.heap.size w w' := by
  unfold maxLen at _hm3
  obtain ⟨W1, hW1⟩ : ∃ W1, w.alloc (.cells #[.int .u64 a2_0, .int .u64 a2_1, .int .u64 a2_2] 35) = W1 := ⟨_, rfl⟩
  have hb1 : Below w.heap.size w W1 := by rw [← hW1]; exact (Below.refl _ w).alloc (Nat.le_refl _) _
  have hX1 : Blk W1 w.heap.size 35 #[.int .u64 a2_0, .int .u64 a2_1, .int .u64 a2_2] := by rw [← hW1]; exact Blk.new _ _ _
  have HW1 := Lib.hid hW1; clear hW1
  go_enter Try.func4, Try.ntmps4
  go_wp2_with (fail)
  rw [HW1.out]
  refine (shown.is _).mono ?_
  rintro e w2 ⟨rfl, hb2⟩
  have hX2 := hX1.callee hb2
  have hB2 := G.below_then hb1 hb1.size hb2
  have x0 : w2.cell? ⟨w.heap.size, 0, none⟩ = some (.int .u64 a2_0) := hX2.cell 0
  have x1 : w2.cell? ⟨w.heap.size, 1, none⟩ = some (.int .u64 a2_1) := hX2.cell 1
  have x2 : w2.cell? ⟨w.heap.size, 2, none⟩ = some (.int .u64 a2_2) := hX2.cell 2
  by_cases hok : NewOk a0 a1 a2_0 a2_1 a2_2 0
  · obtain ⟨n, rfl⟩ := Int.eq_ofNat_of_zero_le (show 0 ≤ a1 by unfold NewOk at hok; omega)
    obtain ⟨sl, rfl⟩ := Int.eq_ofNat_of_zero_le (show 0 ≤ a0 by unfold NewOk at hok; omega)
    have hn := New.ok _ a2_0 a2_1 a2_2 0 n w2 hok
    have HN := Lib.hid hn; clear hn
    go_wp2_with (fail)
    refine HN.out.mono ?_
    rintro e w3 ⟨g, M, rfl, hs3, hb3, hg, hM⟩
    have hB3 := G.below_then hB2 hB2.size hb3
    have hg0 : w.heap.size < g := by have := hX2.lt; omega
    have hM0 : w.heap.size < M := by have := hX2.lt; omega
    have hX3 := hX2.callee hb3
    have hI3 : SfI _ a2_0 a2_1 a2_2 n _ := SfI.new hok
    unfold NewOk at hok
    have hf2 := wf_u64 w2_2
    go_wp2_with (fail)
    go_loopw [12, 13] (fun nv i wr => ∃ (k : Nat) (now : Int) (s : Det), k ≤ l3.length ∧ k ≤ 100 ∧ i = .int .i64 k ∧ nv = .int .u64 now ∧ 0 ≤ now ∧ now ≤ 1000 * k ∧ SfI sl a2_0 a2_1 a2_2 n s ∧ DetS wr g M s ∧ Blk wr w.heap.size 35 #[.int .u64 a2_0, .int .u64 a2_1, .int .u64 a2_2] ∧ Below w.heap.size w wr) (fun _ i _ => 100 - (intOf i).toNat)
    case atStart => exact ⟨0, 0, _, Nat.zero_le _, Nat.zero_le _, rfl, rfl, Int.le_refl _, Int.le_refl _, hI3, hs3, hX3, hB3⟩
    case round =>
      obtain ⟨k, now, s, hk, hk100, rfl, rfl, hn0, hnk, hI, hS, hX, hB⟩ := hrel
      by_cases hlt : k < l3.length ∧ k < 100
      · obtain ⟨hl1, hl2⟩ := hlt
        obtain ⟨ad, hAd, y0, y1, y2, y3⟩ := at_T40 (Kd.C_below hr3 hB) (k : Int) (by omega) (by omega)
        rw [rd_get_40 l3 k hl1] at y0 y1 y2 y3
        simp only [Int.toNat_natCast] at y0 y1 y2 y3
        subst hAd
        have hf := wf_u64 (hw3 _ (List.getElem_mem hl1)).2.2.1
        obtain ⟨x, hx⟩ : ∃ x, l3[k] = x := ⟨_, rfl⟩
        rw [hx] at y0 y1 y2 y3 hf
        have HX := Lib.hid hx; clear hx
        obtain ⟨T, hT⟩ : ∃ T, now + x.f2 % 1000 = T := ⟨_, rfl⟩
        have hT1 : now ≤ T := by omega
        have hT2 : T ≤ 1000 * ((k + 1 : Nat) : Int) := by omega
        have hTm : T ≤ 1152921504606846976 := by omega
        have HT := Lib.hid hT; clear hT
        have hln : s.ps.length ≤ 1000 := by rw [hI.gr.ln]; omega
        have hdo := hI.gr.ok (by omega) ⟨hf2.1, by omega⟩
        have hhd := hI.gr.hd
        rcases hh : x.f0 with _ | _
        case' false =>
          rw [hh] at y0
          have HH := Lib.hid hh; clear hh
          have hI4 := hI.tick T
          obtain ⟨s4, L4, e4, hs4⟩ : ∃ s4 L4 e4, tickF s T = (s4, L4, e4) := ⟨_, _, _, rfl⟩
          have htk := Tick.is g M s T wr hS hhd hln
          rw [hs4] at htk hI4
          have HTK := Lib.hid htk; clear htk
          have HS4 := Lib.hid hs4; clear hs4
          have HI := Lib.hid hI; clear hI
          have HI4 := Lib.hid hI4; clear hI4
          go_wp2_with (fail)
          rw [HT.out]
          refine HTK.out.mono ?_
          rintro e w5 ⟨v5, rfl, hR5, hs5, hg5⟩
        case' true =>
          rw [hh] at y0
          have HH := Lib.hid hh; clear hh
          have hI4 := hI.hear hf2.1 x.f1 T
          obtain ⟨s4, e4, hs4⟩ : ∃ s4 e4, hearF s x.f1 T = (s4, e4) := ⟨_, _, rfl⟩
          have htk := Hear.is g M s x.f1 T wr hS hdo
          rw [hs4] at htk hI4
          have HTK := Lib.hid htk; clear htk
          have HS4 := Lib.hid hs4; clear hs4
          have HI := Lib.hid hI; clear hI
          have HI4 := Lib.hid hI4; clear hI4
          go_wp2_with (fail)
          rw [HT.out]
          refine HTK.out.mono ?_
          rintro e w5 ⟨rfl, hs5, hg5⟩
        all_goals
          have hX5 := hg5.blk hX (by omega) (by omega)
          have hB5 := Grow2.below hB hB.size hg5 (by omega) (by omega)
          have hI4 := HI4.out
          have hl4 : s4.ps.length ≤ 1000 := by rw [hI4.gr.ln]; omega
          have hlt4 : sl < s4.ps.length := by rw [hI4.gr.ln]; exact hI4.lt
          obtain ⟨k0, hk0, hlead, r0, hsus, hr0⟩ := lead rfl hlt4 hI4.me
          have hat := lead_at hsus hk0 hr0
          have hsuslen := who_len suspectP s4.ps s4.ps.length
          clear hI4
          have hsp := Suspects.is g M s4 w5 hs5 hl4
          obtain ⟨S, hSS⟩ : ∃ S, whoL suspectP s4.ps s4.ps.length = S := ⟨_, rfl⟩
          rw [hSS] at hsp hat hsus hsuslen
          have hkl : k0 ≤ S.length := by rw [hsus]; simp
          have HSS := Lib.hid hSS; clear hSS
          have HSUS := Lib.hid hsus; clear hsus
          have HAT := Lib.hid hat; clear hat
          have HSP := Lib.hid hsp; clear hsp
          have HLD := Lib.hid hlead; clear hlead
          clear hr0
          go_wp2_with (fail)
          refine HSP.out.mono ?_
          rintro e w6 ⟨v6, rfl, hR6, hb6⟩
          have hs6 := hs5.below hb6
          have hX6 := hX5.callee hb6
          have hB6 := G.below_then hB5 hB5.size hb6
          have hld := Leader.is g M s4 w6 hs6 (by omega)
          rw [HLD.out] at hld
          have HLL := Lib.hid hld; clear hld
          go_wp2_with (fail)
          refine HLL.out.mono ?_
          rintro e w7 ⟨rfl, hb7⟩
          have hs7 := hs6.below hb7
          have hX7 := hX6.callee hb7
          have hB7 := G.below_then hB6 hB6.size hb7
          have hR7 := hR6.below hb7
          obtain ⟨A7, c7, rfl, hlc7, hC7⟩ := Kd.R_reads hR7
          have hil : (ints S).length = S.length := by simp [ints]
          rw [hil] at hC7 ⊢
          have HIL := Lib.hid hil; clear hil
          have e1 : decide ((k0 : Int) < 0) = false := by simp
          have e2 : decide ((sl : Int) < (k0 : Int)) = false := by simp; omega
          have e3 : decide ((S.length : Int) < (k0 : Int)) = false := by simp; omega
          have e2' : decide (sl < k0) = false := by simp; omega
          have e3' : decide (S.length < k0) = false := by simp; omega
          go_wp2_with (fail)
          go_loop [16] (fun i => ∃ j : Nat, j ≤ S.length ∧ i = .int .i64 j) (fun i => S.length - (intOf i).toNat)
          case atStart => exact ⟨0, Nat.zero_le _, rfl⟩
          case round =>
            obtain ⟨j, hj, rfl⟩ := hrel
            by_cases hjl : j < S.length
            · obtain ⟨ae, hAe, z0⟩ := Kd.at_int hC7 (j : Int) (by omega) (by omega)
              rw [show rd (ints S) (j : Int) = (S[j] : Int) by unfold rd ints; simp [List.getD_eq_getElem?_getD, hjl]] at z0
              simp only [Int.toNat_natCast] at z0
              subst hAe
              obtain ⟨a1, a2, a3⟩ := HAT.out j hjl
              obtain ⟨y, hy⟩ : ∃ y, S[j] = y := ⟨_, rfl⟩
              rw [hy] at z0 a1 a2 a3
              clear hy
              have b1 : ((y : Int) == (sl : Int)) = false := by simp; omega
              have b2 : ((y : Int) == (k0 : Int)) = false := by simp; omega
              have b1' : (y == sl) = false := by simp; omega
              have b2' : (y == k0) = false := by simp; omega
              by_cases hjk : j < k0
              · have b3 : decide (j < k0) = true := by simpa using hjk
                have hyj := a3 hjk
                subst hyj
                go_wp2
                go_round
                case rel => exact ⟨y + 1, by omega, by go_num⟩
                case measure => simp [intOf]; omega
              · have b3 : decide (j < k0) = false := by simpa using hjk
                clear a3
                go_wp2
                go_round
                case rel => exact ⟨j + 1, by omega, by go_num⟩
                case measure => simp [intOf]; omega
            · obtain rfl : j = S.length := by omega
              go_wp2
              exact ⟨⟨k + 1, T, s4, by omega, by omega, by go_num, rfl, by omega, hT2, HI4.out, hs7, hX7, hB7⟩, by simp [intOf]; omega⟩
      · have hend : (k < l3.length ∧ k = 100) ∨ k = l3.length := by omega
        clear hlt
        rcases hend with ⟨hl, rfl⟩ | rfl
        all_goals
          go_wp2
          go_ret
          exact ⟨rfl, hB⟩
  · have hn := New.bad a0 a1 a2_0 a2_1 a2_2 0 w2 hok
    have HN := Lib.hid hn; clear hn
    have HO := Lib.hid hok; clear hok
    go_wp2_with (fail)
    refine HN.out.mono ?_
    rintro e w3 ⟨rfl, hb3⟩
    go_wp2
    go_ret
    exact ⟨rfl, G.below_then hB2 hB2.size hb3⟩
end Go.Proofs.Ytkifmdfmbmbdaaa.R
