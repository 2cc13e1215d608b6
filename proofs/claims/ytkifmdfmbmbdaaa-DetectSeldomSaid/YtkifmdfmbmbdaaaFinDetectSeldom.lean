/- A node that is heard again and again is suspected seldom. -/
import Derived.Test.YtkifmdfmbmbdaaaDetG
import Derived.Test.YtkifmdfmbmbdaaaKinds
namespace Go.Proofs.Ytkifmdfmbmbdaaa.R
open Go.RowKit Go.Proofs.YtkifmdfmbmbdaaaW.PrintWords Go.Proofs.YtkifmdfmbmbdaaaW.PrintMore Go.Proofs.Ytkifmdfmbmbdaaa.G
set_option linter.unusedVariables false
set_option linter.unusedSimpArgs false

/-- Two nodes, of which the other one was heard now; its timeout. -/
def twoT (b0 b1 b2 now tm : Int) : Det := ⟨0, b0, b1, b2, now, [⟨0, b0, false⟩, ⟨now, tm, false⟩]⟩
/-- .. behind a tick that suspected it. -/
def twoU (b0 b1 b2 last tm now : Int) : Det := ⟨0, b0, b1, b2, now, [⟨0, b0, false⟩, ⟨last, tm, true⟩]⟩
def twoL (b0 b1 b2 last tm now : Int) : Det := ⟨0, b0, b1, b2, now, [⟨0, b0, false⟩, ⟨last, tm, false⟩]⟩
theorem t_late (b0 tm last t : Int) (x : Bool) (hx : decide (tm < t - last) = x) : whoL (lateP 0 t) [⟨0, b0, false⟩, ⟨last, tm, false⟩] 2 = if x then [1] else [] := by
  have h1 : lateP 0 t 1 ⟨last, tm, false⟩ = x := by
    unfold lateP
    simp [hx]
  have h2 : lateP 0 t 0 ⟨0, b0, false⟩ = false := by unfold lateP; simp
  unfold whoL
  rw [show List.range 2 = [0, 1] from rfl]
  cases x <;> simp [h1, h2]
theorem t_tick_no (b0 b1 b2 now tm t : Int) (h1 : now ≤ t) (h2 : t ≤ 1152921504606846976) (hn : ¬ tm < t - now) : tickF (twoT b0 b1 b2 now tm) t = (twoL b0 b1 b2 now tm t, [], 0) := by
  unfold tickF
  rw [if_neg (by show ¬ (t < now ∨ _); omega)]
  have := t_late b0 tm now t false (by simpa using hn)
  rw [show (twoT b0 b1 b2 now tm).self = 0 from rfl, show (twoT b0 b1 b2 now tm).ps = [⟨0, b0, false⟩, ⟨now, tm, false⟩] from rfl, show ([⟨0, b0, false⟩, ⟨now, tm, false⟩] : List Peer).length = 2 from rfl, this]
  rfl
theorem t_tick_yes (b0 b1 b2 now tm t : Int) (h1 : now ≤ t) (h2 : t ≤ 1152921504606846976) (hn : tm < t - now) : tickF (twoT b0 b1 b2 now tm) t = (twoU b0 b1 b2 now tm t, [1], 0) := by
  unfold tickF
  rw [if_neg (by show ¬ (t < now ∨ _); omega)]
  have := t_late b0 tm now t true (by simpa using hn)
  rw [show (twoT b0 b1 b2 now tm).self = 0 from rfl, show (twoT b0 b1 b2 now tm).ps = [⟨0, b0, false⟩, ⟨now, tm, false⟩] from rfl, show ([⟨0, b0, false⟩, ⟨now, tm, false⟩] : List Peer).length = 2 from rfl, this]
  rfl
theorem t_hear_no (b0 b1 b2 last tm t : Int) (h2 : t ≤ 1152921504606846976) : hearF (twoL b0 b1 b2 last tm t) 1 t = (twoT b0 b1 b2 t tm, 0) := by
  unfold hearF
  rw [show atP (twoL b0 b1 b2 last tm t) 1 = some ⟨last, tm, false⟩ from rfl]
  simp only
  rw [if_neg (by show ¬ (t < t ∨ _); omega)]
  rfl
theorem t_hear_yes (b0 b1 b2 last tm t : Int) (h2 : t ≤ 1152921504606846976) : hearF (twoU b0 b1 b2 last tm t) 1 t = (twoT b0 b1 b2 t (mnI (tm + b2) b1), 0) := by
  unfold hearF
  rw [show atP (twoU b0 b1 b2 last tm t) 1 = some ⟨last, tm, true⟩ from rfl]
  simp only
  rw [if_neg (by show ¬ (t < t ∨ _); omega)]
  rfl
theorem t_heard (b0 b1 b2 t tm : Int) (h : 0 ≤ t) : Heard (twoT b0 b1 b2 t tm) := by
  intro p hp
  simp [twoT] at hp
  rcases hp with rfl | rfl
  · exact ⟨Int.le_refl _, h⟩
  · exact ⟨h, Int.le_refl _⟩
theorem t_okU (b0 b1 b2 last tm t : Int) (h0 : 0 ≤ b0) (h1 : b0 ≤ 1152921504606846976) (h2 : 0 ≤ b2 ∧ b2 ≤ 1152921504606846976) (h3 : 0 ≤ tm ∧ tm ≤ 1152921504606846976) : DetOk (twoU b0 b1 b2 last tm t) := by
  refine ⟨h2.1, h2.2, ?_⟩
  intro p hp
  simp [twoU] at hp
  rcases hp with rfl | rfl
  · exact ⟨h0, h1⟩
  · exact h3
theorem t_okL (b0 b1 b2 last tm t : Int) (h0 : 0 ≤ b0) (h1 : b0 ≤ 1152921504606846976) (h2 : 0 ≤ b2 ∧ b2 ≤ 1152921504606846976) (h3 : 0 ≤ tm ∧ tm ≤ 1152921504606846976) : DetOk (twoL b0 b1 b2 last tm t) := by
  refine ⟨h2.1, h2.2, ?_⟩
  intro p hp
  simp [twoL] at hp
  rcases hp with rfl | rfl
  · exact ⟨h0, h1⟩
  · exact h3
/-- How often it was suspected. -/
structure SelI (b0 b1 b2 tm times : Int) (k : Nat) : Prop where
  lo : b0 ≤ tm
  hi : tm ≤ b1
  t0 : 0 ≤ times
  tk : times ≤ k
  ev : tm < b1 → b0 + times * b2 ≤ tm
  en : times * b2 ≤ b1 + b2
theorem SelI.no {b0 b1 b2 tm times : Int} {k : Nat} (h : SelI b0 b1 b2 tm times k) : SelI b0 b1 b2 tm times (k + 1) := ⟨h.lo, h.hi, h.t0, by have := h.tk; omega, h.ev, h.en⟩
theorem SelI.yes {b0 b1 b2 tm times : Int} {k : Nat} (h : SelI b0 b1 b2 tm times k) (h0 : 1 ≤ b0) (h2 : 1 ≤ b2) (hlt : tm < b1) : SelI b0 b1 b2 (mnI (tm + b2) b1) (times + 1) (k + 1) := by
  have := h.lo; have := h.hi; have := h.t0; have := h.tk; have h5 := h.ev hlt
  have e : (times + 1) * b2 = times * b2 + b2 := by rw [Int.add_mul, Int.one_mul]
  unfold mnI
  split
  · exact ⟨by omega, by omega, by omega, by omega, fun h => by omega, by rw [e]; omega⟩
  · exact ⟨by omega, by omega, by omega, by omega, fun h => by rw [e]; omega, by rw [e]; omega⟩
theorem SelI.last {b0 b1 b2 tm times : Int} {k : Nat} (h : SelI b0 b1 b2 tm times k) (h2 : 1 ≤ b2) : times ≤ b1 / b2 + 1 := by
  have h1 : (times - 1) * b2 ≤ b1 := by
    have := h.en
    rw [Int.sub_mul, Int.one_mul]
    omega
  have := Int.le_ediv_of_mul_le (by omega) h1
  omega
theorem wf_u64 {x : Int} (h : (Lit.int .u64 x).wf = true) : 0 ≤ x ∧ x < 18446744073709551616 := by
  have := bounds_u64 h; omega
set_option maxRecDepth 100000 in
set_option maxHeartbeats 8000000 in
theorem DetectSeldom_fin (a0_0 a0_1 a0_2 : Int) (A1 : Option Addr) (c1 : Nat) (l1 : List Int) (w : World) (w0_0 : (Lit.int .u64 a0_0).wf = true) (w0_1 : (Lit.int .u64 a0_1).wf = true) (w0_2 : (Lit.int .u64 a0_2).wf = true) (hr1 : Kd.C (Kd.int .u64) w A1 l1.length l1) (hc1 : l1.length ≤ c1) (_hm1 : l1.length ≤ maxLen) (hw1 : ∀ z ∈ l1, (Lit.int .u64 z).wf = true) :
    Calls Try.prog 6 #[.agg #[.int .u64 a0_0, .int .u64 a0_1, .int .u64 a0_2], .slice A1 l1.length c1] w fun e w' => e = .returned (.bool true) ∧ Below w.heap.size w w' := by
  unfold maxLen at _hm1
  obtain ⟨W1, hW1⟩ : ∃ W1, w.alloc (.cells #[.int .u64 a0_0, .int .u64 a0_1, .int .u64 a0_2] 35) = W1 := ⟨_, rfl⟩
  have hb1 : Below w.heap.size w W1 := by rw [← hW1]; exact (Below.refl _ w).alloc (Nat.le_refl _) _
  have hX1 : Blk W1 w.heap.size 35 #[.int .u64 a0_0, .int .u64 a0_1, .int .u64 a0_2] := by rw [← hW1]; exact Blk.new _ _ _
  have hz1 : W1.heap.size = w.heap.size + 1 := by rw [← hW1]; simp
  have HW1 := Lib.hid hW1; clear hW1
  have HZ1 := Lib.hid hz1; clear hz1
  go_enter Try.func6, Try.ntmps6
  go_wp2_with (fail)
  rw [HW1.out]
  refine (shown.is _).mono ?_
  rintro e w2 ⟨rfl, hb2⟩
  have hX2 := hX1.callee hb2
  have hB2 := G.below_then hb1 hb1.size hb2
  have x0 : w2.cell? ⟨w.heap.size, 0, none⟩ = some (.int .u64 a0_0) := hX2.cell 0
  have x1 : w2.cell? ⟨w.heap.size, 1, none⟩ = some (.int .u64 a0_1) := hX2.cell 1
  have x2 : w2.cell? ⟨w.heap.size, 2, none⟩ = some (.int .u64 a0_2) := hX2.cell 2
  by_cases hok : NewOk 0 2 a0_0 a0_1 a0_2 0
  · have hn := New.ok 0 a0_0 a0_1 a0_2 0 2 w2 hok
    rw [show ((2 : Nat) : Int) = 2 from rfl] at hn
    have HN := Lib.hid hn; clear hn
    go_wp2_with (fail)
    refine HN.out.mono ?_
    rintro e w3 ⟨g, M, rfl, hs3, hb3, hg, hM⟩
    have hB3 := G.below_then hB2 hB2.size hb3
    have hg0 : w.heap.size < g := by have := hX2.lt; omega
    have hM0 : w.heap.size < M := by have := hX2.lt; omega
    have hX3 := hX2.callee hb3
    have z0 : w3.cell? ⟨w.heap.size, 0, none⟩ = some (.int .u64 a0_0) := hX3.cell 0
    have z1 : w3.cell? ⟨w.heap.size, 1, none⟩ = some (.int .u64 a0_1) := hX3.cell 1
    have z2 : w3.cell? ⟨w.heap.size, 2, none⟩ = some (.int .u64 a0_2) := hX3.cell 2
    replace hs3 : DetS w3 g M (twoT a0_0 a0_1 a0_2 0 a0_0) := hs3
    unfold NewOk at hok
    have hf2 := wf_u64 w0_2
    by_cases hst : a0_2 < 1
    · have d1 : decide (a0_2 < 1) = true := by simpa using hst
      clear hst
      go_wp2
      go_ret
      exact ⟨rfl, hB3⟩
    · have d1 : decide (a0_2 < 1) = false := by simpa using hst
      by_cases hmo : 100000 < a0_1
      · have d2 : decide (100000 < a0_1) = true := by simpa using hmo
        clear hmo
        go_wp2
        go_ret
        exact ⟨rfl, hB3⟩
      · have d2 : decide (100000 < a0_1) = false := by simpa using hmo
        have hw1' : IntKind.u64.wrap (a0_1 + 1) = a0_1 + 1 := IntWalk.u64_in _ (by omega)
        go_wp2_with (fail)
        go_loopw [8, 9, 10] (fun nv tv i wr => ∃ (k : Nat) (now tm times : Int), k ≤ l1.length ∧ k ≤ 200 ∧ i = .int .i64 k ∧ nv = .int .u64 now ∧ tv = .int .u64 times ∧ 0 ≤ now ∧ now ≤ 100000 * k ∧ SelI a0_0 a0_1 a0_2 tm times k ∧ DetS wr g M (twoT a0_0 a0_1 a0_2 now tm) ∧ Blk wr w.heap.size 35 #[.int .u64 a0_0, .int .u64 a0_1, .int .u64 a0_2] ∧ Below w.heap.size w wr) (fun _ _ i _ => 200 - (intOf i).toNat)
        case atStart => exact ⟨0, 0, a0_0, 0, Nat.zero_le _, Nat.zero_le _, rfl, rfl, rfl, Int.le_refl _, Int.le_refl _, ⟨Int.le_refl _, hok.2.2.2.2.2.1, Int.le_refl _, Int.le_refl _, fun _ => by omega, by omega⟩, hs3, hX3, hB3⟩
        case round =>
          obtain ⟨k, now, tm, times, hk, hk200, rfl, rfl, rfl, hn0, hnk, hI, hS, hX, hB⟩ := hrel
          have q0 : wr.cell? ⟨w.heap.size, 0, none⟩ = some (.int .u64 a0_0) := hX.cell 0
          have q1 : wr.cell? ⟨w.heap.size, 1, none⟩ = some (.int .u64 a0_1) := hX.cell 1
          have q2 : wr.cell? ⟨w.heap.size, 2, none⟩ = some (.int .u64 a0_2) := hX.cell 2
          by_cases hlt : k < l1.length ∧ k < 200
          · obtain ⟨hl1, hl2⟩ := hlt
            obtain ⟨ad, hAd, y0⟩ := Kd.at_int (Kd.C_below hr1 hB) (k : Int) (by omega) (by omega)
            rw [rd_at l1 k hl1] at y0
            simp only [Int.toNat_natCast] at y0
            subst hAd
            have hf := wf_u64 (hw1 _ (List.getElem_mem hl1))
            obtain ⟨X, hX'⟩ : ∃ X, l1[k] = X := ⟨_, rfl⟩
            rw [hX'] at y0 hf
            have HX := Lib.hid hX'; clear hX'
            go_wp2_with (fail)
            go_quiet (fail)
            go_wp2_with (fail)
            obtain ⟨T, hT⟩ : ∃ T, IntKind.u64.wrap (now + X % (a0_1 + 1)) = T := ⟨_, rfl⟩
            have hr0 := Int.emod_nonneg X (show a0_1 + 1 ≠ 0 by omega)
            have hr1' := Int.emod_lt_of_pos X (show 0 < a0_1 + 1 by omega)
            have hT0 : T = now + X % (a0_1 + 1) := by rw [← hT]; exact IntWalk.u64_in _ (by omega)
            have hT1 : now ≤ T := by omega
            have hT2 : T ≤ 100000 * ((k + 1 : Nat) : Int) := by omega
            have hT3 : T - now ≤ a0_1 := by omega
            rw [hT]
            clear hT hT0
            have hTm : T ≤ 1152921504606846976 := by omega
            have hw2 : IntKind.u64.wrap (times + 1) = times + 1 := IntWalk.u64_in _ (by have := hI.tk; have := hI.t0; omega)
            have hw3 : IntKind.u64.wrap times = times := IntWalk.u64_in _ (by have := hI.tk; have := hI.t0; omega)
            have hSn : DetS (wr.drewN nq) g M (twoT a0_0 a0_1 a0_2 now tm) := hS
            have hXn : Blk (wr.drewN nq) w.heap.size 35 #[.int .u64 a0_0, .int .u64 a0_1, .int .u64 a0_2] := hX
            have hBn := below_drewN hB nq
            have htk := Tick.is g M _ T (wr.drewN nq) hSn (t_heard _ _ _ _ _ hn0) (by show 2 ≤ 1000; decide)
            by_cases hlate : tm < T - now
            · rw [t_tick_yes _ _ _ now tm T hT1 hTm hlate] at htk
              have hI2 := hI.yes hok.2.2.2.2.1 (by omega) (by omega)
              have HTK := Lib.hid htk; clear htk
              refine HTK.out.mono ?_
              rintro e w4 ⟨v, rfl, hR4, hs4, hg4⟩
              have hX4 := hg4.blk hXn (by omega) (by omega)
              have hB4 := Grow2.below hBn hBn.size hg4 (by omega) (by omega)
              replace hR4 : RowI w4 (wr.drewN nq).heap.size v [1] := hR4
              obtain ⟨A4, c4, rfl, _, _⟩ := Kd.R_reads hR4
              go_wp2_with (fail)
              refine (Hear.is g M _ 1 T w4 hs4 (t_okU _ _ _ _ _ _ (by omega) (by omega) ⟨hf2.1, by omega⟩ ⟨by have := hI.lo; omega, by have := hI.hi; omega⟩)).mono ?_
              rw [t_hear_yes _ _ _ now tm T hTm]
              rintro e w5 ⟨rfl, hs5, hg5⟩
              have hX5 := hg5.blk hX4 (by omega) (by omega)
              have hB5 := Grow2.below hB4 hB4.size hg5 (by omega) (by omega)
              go_wp2
              exact ⟨⟨k + 1, T, _, times + 1, by omega, by omega, by go_num, rfl, rfl, by omega, hT2, hI2, hs5, hX5, hB5⟩, by simp [intOf]; omega⟩
            · rw [t_tick_no _ _ _ now tm T hT1 hTm hlate] at htk
              have hI2 := hI.no
              have HTK := Lib.hid htk; clear htk
              have HLT := Lib.hid hlate; clear hlate
              refine HTK.out.mono ?_
              rintro e w4 ⟨v, rfl, hR4, hs4, hg4⟩
              have hX4 := hg4.blk hXn (by omega) (by omega)
              have hB4 := Grow2.below hBn hBn.size hg4 (by omega) (by omega)
              replace hR4 : RowI w4 (wr.drewN nq).heap.size v [] := hR4
              obtain ⟨A4, c4, rfl, _, _⟩ := Kd.R_reads hR4
              go_wp2_with (fail)
              refine (Hear.is g M _ 1 T w4 hs4 (t_okL _ _ _ _ _ _ (by omega) (by omega) ⟨hf2.1, by omega⟩ ⟨by have := hI.lo; omega, by have := hI.hi; omega⟩)).mono ?_
              rw [t_hear_no _ _ _ now tm T hTm]
              rintro e w5 ⟨rfl, hs5, hg5⟩
              have hX5 := hg5.blk hX4 (by omega) (by omega)
              have hB5 := Grow2.below hB4 hB4.size hg5 (by omega) (by omega)
              go_wp2
              exact ⟨⟨k + 1, T, _, times, by omega, by omega, by go_num, rfl, rfl, by omega, hT2, hI2, hs5, hX5, hB5⟩, by simp [intOf]; omega⟩
          · have hend : (k < l1.length ∧ k = 200) ∨ k = l1.length := by omega
            have hlast := hI.last (by omega)
            have hq0 : 0 ≤ a0_1 / a0_2 := Int.ediv_nonneg (by omega) (by omega)
            have hq1 : a0_1 / a0_2 ≤ a0_1 := Int.ediv_le_self _ (by omega)
            have hqe : IntKind.u64.wrap (a0_1 / a0_2 + 1) = a0_1 / a0_2 + 1 := IntWalk.u64_in _ (by omega)
            have hd : decide (times ≤ IntKind.u64.wrap (a0_1 / a0_2 + 1)) = true := by rw [hqe]; simpa using hlast
            have hd2 : decide (times ≤ a0_1 / a0_2 + 1) = true := by simpa using hlast
            clear hlt hqe hlast hq0 hq1
            rcases hend with ⟨hl, rfl⟩ | rfl
            all_goals
              go_wp2
              go_ret
              exact ⟨rfl, hB⟩
  · have hn := New.bad 0 2 a0_0 a0_1 a0_2 0 w2 hok
    have HN := Lib.hid hn; clear hn
    have HO := Lib.hid hok; clear hok
    go_wp2_with (fail)
    refine HN.out.mono ?_
    rintro e w3 ⟨rfl, hb3⟩
    go_wp2
    go_ret
    exact ⟨rfl, G.below_then hB2 hB2.size hb3⟩
end Go.Proofs.Ytkifmdfmbmbdaaa.R
