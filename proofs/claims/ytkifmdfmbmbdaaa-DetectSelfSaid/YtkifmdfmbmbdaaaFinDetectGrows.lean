/- Timeouts never fall, and are at most Most. -/
import Derived.Test.YtkifmdfmbmbdaaaDetG
import Derived.Test.YtkifmdfmbmbdaaaKinds
namespace Go.Proofs.Ytkifmdfmbmbdaaa.R
open Go.RowKit Go.Proofs.YtkifmdfmbmbdaaaW.PrintWords Go.Proofs.YtkifmdfmbmbdaaaW.PrintMore Go.Proofs.Ytkifmdfmbmbdaaa.P Go.Proofs.Ytkifmdfmbmbdaaa.G
set_option linter.unusedVariables false
set_option linter.unusedSimpArgs false

theorem wf_u64 {x : Int} (h : (Lit.int .u64 x).wf = true) : 0 ≤ x ∧ x < 18446744073709551616 := by
  have := bounds_u64 h; omega
/-- What abides: n nodes, made with these beats. -/
structure GrI (sl b0 b1 b2 : Int) (n : Nat) (s : Det) : Prop where
  sf : s.self = sl
  mo : s.most = b1
  st : s.step = b2
  ln : s.ps.length = n
  nw : 0 ≤ s.now
  tm : ∀ p ∈ s.ps, 0 ≤ p.tmo ∧ p.tmo ≤ b1
  hd : Heard s
theorem mem_susAt {ps : List Peer} {i : Nat} {q : Peer} (h : q ∈ susAt ps i) : ∃ p ∈ ps, q.last = p.last ∧ q.tmo = p.tmo := by
  unfold susAt at h
  by_cases hi : i < ps.length
  · rcases List.mem_or_eq_of_mem_set h with h | rfl
    · exact ⟨q, h, rfl, rfl⟩
    · refine ⟨ps[i], List.getElem_mem hi, ?_⟩
      rw [List.getD_eq_getElem?_getD, List.getElem?_eq_getElem hi]
      exact ⟨rfl, rfl⟩
  · rw [List.set_eq_of_length_le (by omega)] at h
    exact ⟨q, h, rfl, rfl⟩
theorem mem_markL {l : List Nat} : ∀ {ps : List Peer} {q : Peer} (_ : q ∈ markL ps l), ∃ p ∈ ps, q.last = p.last ∧ q.tmo = p.tmo := by
  induction l with
  | nil => intro ps q h; exact ⟨q, h, rfl, rfl⟩
  | cons i l ih =>
    intro ps q h
    obtain ⟨p, hp, h1, h2⟩ := ih (show q ∈ markL (susAt ps i) l from h)
    obtain ⟨r, hr, h3, h4⟩ := mem_susAt hp
    exact ⟨r, hr, h1.trans h3, h2.trans h4⟩
theorem susAt_tmo (ps : List Peer) (i k : Nat) : ((susAt ps i)[k]?.getD zP).tmo = (ps[k]?.getD zP).tmo := by
  unfold susAt
  rw [List.getElem?_set]
  split
  · rename_i h
    subst h
    split
    · rename_i hi
      rw [List.getD_eq_getElem?_getD, List.getElem?_eq_getElem hi]
      rfl
    · rename_i hi
      rw [List.getElem?_eq_none (by omega)]
  · rfl
theorem markL_tmo (l : List Nat) : ∀ (ps : List Peer) (k : Nat), ((markL ps l)[k]?.getD zP).tmo = (ps[k]?.getD zP).tmo := by
  induction l with
  | nil => intro ps k; rfl
  | cons i l ih =>
    intro ps k
    rw [show markL ps (i :: l) = markL (susAt ps i) l from rfl, ih, susAt_tmo]
theorem GrI.tick {sl b0 b1 b2 : Int} {n : Nat} {s : Det} (h : GrI sl b0 b1 b2 n s) (t : Int) : GrI sl b0 b1 b2 n (tickF s t).1 ∧ ∀ i, ((atP (tickF s t).1 i).getD zP).tmo = ((atP s i).getD zP).tmo := by
  unfold tickF
  split
  · exact ⟨h, fun _ => rfl⟩
  · rename_i hb
    refine ⟨⟨h.sf, h.mo, h.st, by show (markL _ _).length = _; rw [markL_length]; exact h.ln, by have := h.nw; show 0 ≤ t; omega, ?_, ?_⟩, ?_⟩
    · intro q hq
      obtain ⟨p, hp, _, h2⟩ := mem_markL hq
      rw [h2]
      exact h.tm p hp
    · intro q hq
      obtain ⟨p, hp, h1, _⟩ := mem_markL hq
      rw [h1]
      have := h.hd p hp
      show 0 ≤ p.last ∧ p.last ≤ t
      omega
    · intro i
      unfold atP
      split
      · exact markL_tmo _ _ _
      · rfl
theorem GrI.hear {sl b0 b1 b2 : Int} {n : Nat} {s : Det} (h : GrI sl b0 b1 b2 n s) (hb2 : 0 ≤ b2) (j t : Int) : GrI sl b0 b1 b2 n (hearF s j t).1 ∧ ∀ i, ((atP s i).getD zP).tmo ≤ ((atP (hearF s j t).1 i).getD zP).tmo := by
  unfold hearF
  split
  · exact ⟨h, fun _ => Int.le_refl _⟩
  · rename_i p hp
    split
    · exact ⟨h, fun _ => Int.le_refl _⟩
    · rename_i hbad
      obtain ⟨k, rfl, hk, hkp⟩ := atP_some hp
      have hto := h.tm p (hkp ▸ List.getElem_mem hk)
      have hst := h.st
      have hmo := h.mo
      have hge : p.tmo ≤ (heardP s p t).tmo ∧ (heardP s p t).tmo ≤ b1 := by
        unfold heardP mnI
        simp only
        split
        · split <;> omega
        · omega
      rw [Int.toNat_natCast]
      refine ⟨⟨h.sf, h.mo, h.st, by show (s.ps.set _ _).length = _; rw [List.length_set]; exact h.ln, by have := h.nw; show 0 ≤ t; omega, ?_, ?_⟩, ?_⟩
      · intro q hq
        rcases List.mem_or_eq_of_mem_set hq with hq | rfl
        · exact h.tm q hq
        · omega
      · intro q hq
        rcases List.mem_or_eq_of_mem_set hq with hq | rfl
        · have := h.hd q hq
          show 0 ≤ q.last ∧ q.last ≤ t
          omega
        · have := h.nw
          show 0 ≤ t ∧ t ≤ t
          omega
      · intro i
        unfold atP
        split
        · show _ ≤ (((s.ps.set k (heardP s p t))[i.toNat]?).getD zP).tmo
          rw [List.getElem?_set]
          split
          · rename_i e
            subst e
            rw [List.getElem?_eq_getElem hk, hkp]
            exact hge.1
          · exact Int.le_refl _
        · exact Int.le_refl _
theorem GrI.most {sl b0 b1 b2 : Int} {n : Nat} {s : Det} (h : GrI sl b0 b1 b2 n s) (hb : 0 ≤ b1) (i : Int) : 0 ≤ ((atP s i).getD zP).tmo ∧ ((atP s i).getD zP).tmo ≤ b1 := by
  cases hp : atP s i with
  | none => exact ⟨Int.le_refl _, hb⟩
  | some p =>
    obtain ⟨k, rfl, hk, hkp⟩ := atP_some hp
    exact h.tm p (hkp ▸ List.getElem_mem hk)
theorem GrI.ok {sl b0 b1 b2 : Int} {n : Nat} {s : Det} (h : GrI sl b0 b1 b2 n s) (hb1 : b1 ≤ 1152921504606846976) (hb2 : 0 ≤ b2 ∧ b2 ≤ 1152921504606846976) : DetOk s := by
  refine ⟨by rw [h.st]; exact hb2.1, by rw [h.st]; exact hb2.2, fun p hp => ?_⟩
  have := h.tm p hp
  omega
theorem GrI.new {sl b0 b1 b2 : Int} {n : Nat} (h : NewOk sl n b0 b1 b2 0) : GrI sl b0 b1 b2 n ⟨sl, b0, b1, b2, 0, List.replicate n ⟨0, b0, false⟩⟩ := by
  unfold NewOk at h
  refine ⟨rfl, rfl, rfl, by simp, Int.le_refl _, ?_, ?_⟩
  · intro p hp
    obtain ⟨_, rfl⟩ := List.mem_replicate.1 hp
    show 0 ≤ b0 ∧ b0 ≤ b1
    omega
  · intro p hp
    obtain ⟨_, rfl⟩ := List.mem_replicate.1 hp
    exact ⟨Int.le_refl _, Int.le_refl _⟩
set_option maxRecDepth 100000 in
set_option maxHeartbeats 8000000 in
theorem DetectGrows_fin (a0 a1 a2_0 a2_1 a2_2 : Int) (A3 : Option Addr) (c3 : Nat) (l3 : List S40) (w : World) (w0 : (Lit.int .i64 a0).wf = true) (w1 : (Lit.int .i64 a1).wf = true) (w2_0 : (Lit.int .u64 a2_0).wf = true) (w2_1 : (Lit.int .u64 a2_1).wf = true) (w2_2 : (Lit.int .u64 a2_2).wf = true) (hr3 : Kd.C k40 w A3 l3.length l3) (hc3 : l3.length ≤ c3) (_hm3 : l3.length ≤ maxLen) (hw3 : ∀ z ∈ l3, True ∧ (Lit.int .i64 z.f1).wf = true ∧ (Lit.int .u64 z.f2).wf = true ∧ True) :
    Calls Try.prog 5 #[.int .i64 a0, .int .i64 a1, .agg #[.int .u64 a2_0, .int .u64 a2_1, .int .u64 a2_2], .slice A3 l3.length c3] w fun e w' => e = .returned (.bool true) ∧ Below w.heap.size w w' := by
  unfold maxLen at _hm3
  obtain ⟨W1, hW1⟩ : ∃ W1, w.alloc (.cells #[.int .u64 a2_0, .int .u64 a2_1, .int .u64 a2_2] 35) = W1 := ⟨_, rfl⟩
  have hb1 : Below w.heap.size w W1 := by rw [← hW1]; exact (Below.refl _ w).alloc (Nat.le_refl _) _
  have hX1 : Blk W1 w.heap.size 35 #[.int .u64 a2_0, .int .u64 a2_1, .int .u64 a2_2] := by rw [← hW1]; exact Blk.new _ _ _
  have HW1 := Lib.hid hW1; clear hW1
  go_enter Try.func5, Try.ntmps5
  go_wp2_with (fail)
  rw [HW1.out]
  refine (shown.is _).mono ?_
  rintro e w2 ⟨rfl, hb2⟩
  have hX2 := hX1.callee hb2
  have hB2 := G.below_then hb1 hb1.size hb2
  have x0 : w2.cell? ⟨w.heap.size, 0, none⟩ = some (.int .u64 a2_0) := hX2.cell 0
  have x1 : w2.cell? ⟨w.heap.size, 1, none⟩ = some (.int .u64 a2_1) := hX2.cell 1
  have x2 : w2.cell? ⟨w.heap.size, 2, none⟩ = some (.int .u64 a2_2) := hX2.cell 2
  by_cases hok : NewOk a0 a1 a2_0 a2_1 a2_2 0
  · obtain ⟨n, rfl⟩ := Int.eq_ofNat_of_zero_le (show 0 ≤ a1 by unfold NewOk at hok; omega)
    have hn := New.ok a0 a2_0 a2_1 a2_2 0 n w2 hok
    have HN := Lib.hid hn; clear hn
    go_wp2_with (fail)
    refine HN.out.mono ?_
    rintro e w3 ⟨g, M, rfl, hs3, hb3, hg, hM⟩
    have hB3 := G.below_then hB2 hB2.size hb3
    have hg0 : w.heap.size < g := by have := hX2.lt; omega
    have hM0 : w.heap.size < M := by have := hX2.lt; omega
    have hX3 := hX2.callee hb3
    have hI3 := GrI.new hok
    unfold NewOk at hok
    have hf2 := wf_u64 w2_2
    go_wp2_with (fail)
    go_loopw [12, 13] (fun nv i wr => ∃ (k : Nat) (now : Int) (s : Det), k ≤ l3.length ∧ k ≤ 100 ∧ i = .int .i64 k ∧ nv = .int .u64 now ∧ 0 ≤ now ∧ now ≤ 1000 * k ∧ GrI a0 a2_0 a2_1 a2_2 n s ∧ DetS wr g M s ∧ Blk wr w.heap.size 35 #[.int .u64 a2_0, .int .u64 a2_1, .int .u64 a2_2] ∧ Below w.heap.size w wr) (fun _ i _ => 100 - (intOf i).toNat)
    case atStart => exact ⟨0, 0, _, Nat.zero_le _, Nat.zero_le _, rfl, rfl, Int.le_refl _, Int.le_refl _, hI3, hs3, hX3, hB3⟩
    case round =>
      obtain ⟨k, now, s, hk, hk100, rfl, rfl, hn0, hnk, hI, hS, hX, hB⟩ := hrel
      by_cases hlt : k < l3.length ∧ k < 100
      · obtain ⟨hl1, hl2⟩ := hlt
        obtain ⟨ad, hAd, y0, y1, y2, y3⟩ := at_T40 (Kd.C_below hr3 hB) (k : Int) (by omega) (by omega)
        rw [rd_get_40 l3 k hl1] at y0 y1 y2 y3
        simp only [Int.toNat_natCast] at y0 y1 y2 y3
        subst hAd
        have hf := wf_u64 (hw3 _ (List.getElem_mem hl1)).2.2.1
        obtain ⟨x, hx⟩ : ∃ x, l3[k] = x := ⟨_, rfl⟩
        rw [hx] at y0 y1 y2 y3 hf
        have HX := Lib.hid hx; clear hx
        go_wp2_with (fail)
        obtain ⟨T, hT⟩ : ∃ T, now + x.f2 % 1000 = T := ⟨_, rfl⟩
        have hT1 : now ≤ T := by omega
        have hT2 : T ≤ 1000 * ((k + 1 : Nat) : Int) := by omega
        rw [hT]
        clear hT
        have hTm : T ≤ 1152921504606846976 := by omega
        have hln : s.ps.length ≤ 1000 := by rw [hI.ln]; omega
        have hdo := hI.ok (by omega) ⟨hf2.1, by omega⟩
        have hhd := hI.hd
        obtain ⟨hI4, hT4⟩ := hI.tick T
        obtain ⟨hI5, hT5⟩ := hI.hear hf2.1 x.f1 T
        have hm4 := hI4.most (by omega) x.f1
        have hm5 := hI5.most (by omega) x.f1
        have ht4 := hT4 x.f1
        have ht5 := hT5 x.f1
        have hto := Timeout.is g M s x.f1 wr hS
        have HI := Lib.hid hI; clear hI
        have HI4 := Lib.hid hI4; clear hI4
        have HI5 := Lib.hid hI5; clear hI5
        clear hT4 hT5
        have HTO := Lib.hid hto; clear hto
        refine HTO.out.mono ?_
        rintro e w4 ⟨rfl, rfl⟩
        obtain ⟨wa, hwa⟩ : ∃ wa, ((atP s x.f1).getD zP).tmo = wa := ⟨_, rfl⟩
        rw [hwa] at ht4 ht5 ⊢
        have HWA := Lib.hid hwa; clear hwa
        cases hh : x.f0 with
        | false =>
          rw [hh] at y0
          have HH := Lib.hid hh; clear hh
          obtain ⟨s4, L4, e4, hs4⟩ : ∃ s4 L4 e4, tickF s T = (s4, L4, e4) := ⟨_, _, _, rfl⟩
          have htk := Tick.is g M s T wr hS hhd hln
          rw [hs4] at htk HI4 hm4 ht4
          have HTK := Lib.hid htk; clear htk
          have HS4 := Lib.hid hs4; clear hs4
          go_wp2_with (fail)
          refine HTK.out.mono ?_
          rintro e w5 ⟨v5, rfl, hR5, hs5, hg5⟩
          have hX5 := hg5.blk hX (by omega) (by omega)
          have hB5 := Grow2.below hB hB.size hg5 (by omega) (by omega)
          obtain ⟨ad', hAd', z0, z1, z2, z3⟩ := at_T40 (Kd.C_below hr3 hB5) (k : Int) (by omega) (by omega)
          cases hAd'
          rw [rd_get_40 l3 k hl1, HX.out] at z0 z1 z2 z3
          simp only [Int.toNat_natCast] at z0 z1 z2 z3
          have q1 : w5.cell? ⟨w.heap.size, 1, none⟩ = some (.int .u64 a2_1) := hX5.cell 1
          have hto5 := Timeout.is g M s4 x.f1 w5 hs5
          obtain ⟨wb, hwb⟩ : ∃ wb, ((atP s4 x.f1).getD zP).tmo = wb := ⟨_, rfl⟩
          rw [hwb] at ht4 hm4 hto5
          have HWB := Lib.hid hwb; clear hwb
          have HTO5 := Lib.hid hto5; clear hto5
          have d1 : decide (wb < wa) = false := by simp; omega
          have d2 : decide (a2_1 < wb) = false := by simp; omega
          go_wp2_with (fail)
          refine HTO5.out.mono ?_
          rintro e w6 ⟨rfl, rfl⟩
          go_wp2
          exact ⟨⟨k + 1, T, s4, by omega, by omega, by go_num, rfl, by omega, hT2, HI4.out, hs5, hX5, hB5⟩, by simp [intOf]; omega⟩
        | true =>
          rw [hh] at y0
          have HH := Lib.hid hh; clear hh
          obtain ⟨s4, e4, hs4⟩ : ∃ s4 e4, hearF s x.f1 T = (s4, e4) := ⟨_, _, rfl⟩
          have htk := Hear.is g M s x.f1 T wr hS hdo
          rw [hs4] at htk HI5 hm5 ht5
          have HTK := Lib.hid htk; clear htk
          have HS4 := Lib.hid hs4; clear hs4
          go_wp2_with (fail)
          refine HTK.out.mono ?_
          rintro e w5 ⟨rfl, hs5, hg5⟩
          have hX5 := hg5.blk hX (by omega) (by omega)
          have hB5 := Grow2.below hB hB.size hg5 (by omega) (by omega)
          obtain ⟨ad', hAd', z0, z1, z2, z3⟩ := at_T40 (Kd.C_below hr3 hB5) (k : Int) (by omega) (by omega)
          cases hAd'
          rw [rd_get_40 l3 k hl1, HX.out] at z0 z1 z2 z3
          simp only [Int.toNat_natCast] at z0 z1 z2 z3
          have q1 : w5.cell? ⟨w.heap.size, 1, none⟩ = some (.int .u64 a2_1) := hX5.cell 1
          have hto5 := Timeout.is g M s4 x.f1 w5 hs5
          obtain ⟨wb, hwb⟩ : ∃ wb, ((atP s4 x.f1).getD zP).tmo = wb := ⟨_, rfl⟩
          rw [hwb] at ht5 hm5 hto5
          have HWB := Lib.hid hwb; clear hwb
          have HTO5 := Lib.hid hto5; clear hto5
          have d1 : decide (wb < wa) = false := by simp; omega
          have d2 : decide (a2_1 < wb) = false := by simp; omega
          go_wp2_with (fail)
          refine HTO5.out.mono ?_
          rintro e w6 ⟨rfl, rfl⟩
          go_wp2
          exact ⟨⟨k + 1, T, s4, by omega, by omega, by go_num, rfl, by omega, hT2, HI5.out, hs5, hX5, hB5⟩, by simp [intOf]; omega⟩
      · have hend : (k < l3.length ∧ k = 100) ∨ k = l3.length := by omega
        clear hlt
        rcases hend with ⟨hl, rfl⟩ | rfl
        all_goals
          go_wp2
          go_ret
          exact ⟨rfl, hB⟩
  · have hn := New.bad a0 a1 a2_0 a2_1 a2_2 0 w2 hok
    have HN := Lib.hid hn; clear hn
    have HO := Lib.hid hok; clear hok
    go_wp2_with (fail)
    refine HN.out.mono ?_
    rintro e w3 ⟨rfl, hb3⟩
    go_wp2
    go_ret
    exact ⟨rfl, G.below_then hB2 hB2.size hb3⟩
end Go.Proofs.Ytkifmdfmbmbdaaa.R
