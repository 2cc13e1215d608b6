/- A node that was heard just now is not suspected. -/
import Derived.Test.YtkifmdfmbmbdaaaDetG
import Derived.Test.YtkifmdfmbmbdaaaKinds
namespace Go.Proofs.Ytkifmdfmbmbdaaa.R
open Go.RowKit Go.Proofs.YtkifmdfmbmbdaaaW.PrintWords Go.Proofs.YtkifmdfmbmbdaaaW.PrintMore Go.Proofs.Ytkifmdfmbmbdaaa.G
set_option linter.unusedVariables false
set_option linter.unusedSimpArgs false

/-- Two nodes, of which the other one was heard now. -/
def twoS (b0 b1 b2 now : Int) : Det := ⟨0, b0, b1, b2, now, [⟨0, b0, false⟩, ⟨now, b0, false⟩]⟩
theorem two_hear (b0 b1 b2 now t : Int) (h1 : now ≤ t) (h2 : t ≤ 1152921504606846976) : hearF (twoS b0 b1 b2 now) 1 t = (twoS b0 b1 b2 t, 0) := by
  unfold hearF
  have : atP (twoS b0 b1 b2 now) 1 = some ⟨now, b0, false⟩ := rfl
  rw [this]
  simp only
  rw [if_neg (by show ¬ (t < now ∨ _); omega)]
  rfl
theorem two_late (b0 b1 b2 t : Int) (h0 : 1 ≤ b0) : whoL (lateP 0 t) (twoS b0 b1 b2 t).ps (twoS b0 b1 b2 t).ps.length = [] := by
  show whoL (lateP 0 t) [⟨0, b0, false⟩, ⟨t, b0, false⟩] 2 = []
  have h1 : lateP 0 t 1 ⟨t, b0, false⟩ = false := by
    unfold lateP
    simp
    omega
  have h2 : lateP 0 t 0 ⟨0, b0, false⟩ = false := by unfold lateP; simp
  unfold whoL
  rw [show List.range 2 = [0, 1] from rfl]
  simp [h1, h2]
theorem two_tick (b0 b1 b2 t : Int) (h0 : 1 ≤ b0) (h2 : t ≤ 1152921504606846976) : tickF (twoS b0 b1 b2 t) t = (twoS b0 b1 b2 t, [], 0) := by
  unfold tickF
  rw [if_neg (by show ¬ (t < t ∨ _); omega)]
  have := two_late b0 b1 b2 t h0
  rw [show (twoS b0 b1 b2 t).self = 0 from rfl, this]
  rfl
theorem two_sus (b0 b1 b2 t : Int) : whoL suspectP (twoS b0 b1 b2 t).ps (twoS b0 b1 b2 t).ps.length = [] := rfl
theorem two_heard (b0 b1 b2 t : Int) (h : 0 ≤ t) : Heard (twoS b0 b1 b2 t) := by
  intro p hp
  simp [twoS] at hp
  rcases hp with rfl | rfl
  · exact ⟨Int.le_refl _, h⟩
  · exact ⟨h, Int.le_refl _⟩
theorem two_ok (b0 b1 b2 t : Int) (h0 : 1 ≤ b0) (h1 : b0 ≤ 1152921504606846976) (h2 : 0 ≤ b2 ∧ b2 ≤ 1152921504606846976) : DetOk (twoS b0 b1 b2 t) := by
  refine ⟨h2.1, h2.2, ?_⟩
  intro p hp
  simp [twoS] at hp
  rcases hp with rfl | rfl
  · exact ⟨by show 0 ≤ b0; omega, h1⟩
  · exact ⟨by show 0 ≤ b0; omega, h1⟩
theorem wf_u64 {x : Int} (h : (Lit.int .u64 x).wf = true) : 0 ≤ x ∧ x < 18446744073709551616 := by
  have := bounds_u64 h; omega
set_option maxRecDepth 100000 in
set_option maxHeartbeats 8000000 in
theorem DetectHeard_fin (a0_0 a0_1 a0_2 : Int) (A1 : Option Addr) (c1 : Nat) (l1 : List Int) (w : World) (w0_0 : (Lit.int .u64 a0_0).wf = true) (w0_1 : (Lit.int .u64 a0_1).wf = true) (w0_2 : (Lit.int .u64 a0_2).wf = true) (hr1 : Kd.C (Kd.int .u64) w A1 l1.length l1) (hc1 : l1.length ≤ c1) (_hm1 : l1.length ≤ maxLen) (hw1 : ∀ z ∈ l1, (Lit.int .u64 z).wf = true) :
    Calls Try.prog 7 #[.agg #[.int .u64 a0_0, .int .u64 a0_1, .int .u64 a0_2], .slice A1 l1.length c1] w fun e w' => e = .returned (.bool true) ∧ Below w.heap.size w w' := by
  unfold maxLen at _hm1
  obtain ⟨W1, hW1⟩ : ∃ W1, w.alloc (.cells #[.int .u64 a0_0, .int .u64 a0_1, .int .u64 a0_2] 35) = W1 := ⟨_, rfl⟩
  have hb1 : Below w.heap.size w W1 := by rw [← hW1]; exact (Below.refl _ w).alloc (Nat.le_refl _) _
  have hX1 : Blk W1 w.heap.size 35 #[.int .u64 a0_0, .int .u64 a0_1, .int .u64 a0_2] := by rw [← hW1]; exact Blk.new _ _ _
  have hz1 : W1.heap.size = w.heap.size + 1 := by rw [← hW1]; simp
  have HW1 := Lib.hid hW1; clear hW1
  have HZ1 := Lib.hid hz1; clear hz1
  go_enter Try.func7, Try.ntmps7
  go_wp2_with (fail)
  rw [HW1.out]
  refine (shown.is _).mono ?_
  rintro e w2 ⟨rfl, hb2⟩
  have hX2 := hX1.callee hb2
  have hB2 := G.below_then hb1 hb1.size hb2
  have x0 : w2.cell? ⟨w.heap.size, 0, none⟩ = some (.int .u64 a0_0) := hX2.cell 0
  have x1 : w2.cell? ⟨w.heap.size, 1, none⟩ = some (.int .u64 a0_1) := hX2.cell 1
  have x2 : w2.cell? ⟨w.heap.size, 2, none⟩ = some (.int .u64 a0_2) := hX2.cell 2
  by_cases hok : NewOk 0 2 a0_0 a0_1 a0_2 0
  · have hn := New.ok 0 a0_0 a0_1 a0_2 0 2 w2 hok
    rw [show ((2 : Nat) : Int) = 2 from rfl] at hn
    have HN := Lib.hid hn; clear hn
    go_wp2_with (fail)
    refine HN.out.mono ?_
    rintro e w3 ⟨g, M, rfl, hs3, hb3, hg, hM⟩
    have hB3 := G.below_then hB2 hB2.size hb3
    have hg0 : w.heap.size ≤ g := Nat.le_trans hB2.size hg
    have hM0 : w.heap.size ≤ M := Nat.le_trans hB2.size hM
    replace hs3 : DetS w3 g M (twoS a0_0 a0_1 a0_2 0) := hs3
    unfold NewOk at hok
    have hf2 := wf_u64 w0_2
    go_wp2_with (fail)
    go_loopw [8, 9] (fun nv i wr => ∃ (k : Nat) (now : Int), k ≤ l1.length ∧ k ≤ 50 ∧ i = .int .i64 k ∧ nv = .int .u64 now ∧ 0 ≤ now ∧ now ≤ 100000 * k ∧ DetS wr g M (twoS a0_0 a0_1 a0_2 now) ∧ Below w.heap.size w wr) (fun _ i _ => 50 - (intOf i).toNat)
    case atStart => exact ⟨0, 0, Nat.zero_le _, Nat.zero_le _, rfl, rfl, Int.le_refl _, Int.le_refl _, hs3, hB3⟩
    case round =>
      obtain ⟨k, now, hk, hk50, rfl, rfl, hn0, hnk, hS, hB⟩ := hrel
      by_cases hlt : k < l1.length ∧ k < 50
      · obtain ⟨hl1, hl2⟩ := hlt
        obtain ⟨ad, hAd, y0⟩ := Kd.at_int (Kd.C_below hr1 hB) (k : Int) (by omega) (by omega)
        rw [rd_at l1 k hl1] at y0
        simp only [Int.toNat_natCast] at y0
        subst hAd
        have hf := wf_u64 (hw1 _ (List.getElem_mem hl1))
        obtain ⟨X, hX⟩ : ∃ X, l1[k] = X := ⟨_, rfl⟩
        rw [hX] at y0 hf
        have HX := Lib.hid hX; clear hX
        go_wp2_with (fail)
        obtain ⟨T, hT⟩ : ∃ T, now + X % 100000 = T := ⟨_, rfl⟩
        have hT1 : now ≤ T := by omega
        have hT2 : T ≤ 100000 * ((k + 1 : Nat) : Int) := by omega
        rw [hT]
        clear hT
        have hTm : T ≤ 1152921504606846976 := by omega
        refine (Hear.is g M _ 1 T wr hS (two_ok _ _ _ _ hok.2.2.2.2.1 (by omega) ⟨hf2.1, by omega⟩)).mono ?_
        rw [two_hear _ _ _ now T hT1 hTm]
        rintro e w4 ⟨rfl, hs4, hg4⟩
        have hB4 := Grow2.below hB hB.size hg4 hg0 hM0
        go_wp2_with (fail)
        refine (Tick.is g M _ T w4 hs4 (two_heard _ _ _ _ (by omega)) (by show 2 ≤ 1000; decide)).mono ?_
        rw [two_tick _ _ _ T hok.2.2.2.2.1 hTm]
        rintro e w5 ⟨v5, rfl, hR5, hs5, hg5⟩
        have hB5 := Grow2.below hB4 hB4.size hg5 hg0 hM0
        replace hR5 : RowI w5 w4.heap.size v5 [] := hR5
        obtain ⟨A5, c5, rfl, _, _⟩ := Kd.R_reads hR5
        go_wp2_with (fail)
        refine (Suspects.is g M _ w5 hs5 (by show 2 ≤ 1000; decide)).mono ?_
        rw [two_sus]
        rintro e w6 ⟨v6, rfl, hR6, hb6⟩
        have hs6 := hs5.below hb6
        have hB6 := G.below_then hB5 hB5.size hb6
        replace hR6 : RowI w6 w5.heap.size v6 [] := hR6
        obtain ⟨A6, c6, rfl, _, _⟩ := Kd.R_reads hR6
        go_wp2
        exact ⟨⟨k + 1, T, by omega, by omega, by go_num, rfl, by omega, hT2, hs6, hB6⟩, by simp [intOf]; omega⟩
      · have hend : (k < l1.length ∧ k = 50) ∨ k = l1.length := by omega
        clear hlt
        rcases hend with ⟨hl, rfl⟩ | rfl
        all_goals
          go_wp2
          go_ret
          exact ⟨rfl, hB⟩
  · have hn := New.bad 0 2 a0_0 a0_1 a0_2 0 w2 hok
    have HN := Lib.hid hn; clear hn
    have HO := Lib.hid hok; clear hok
    go_wp2_with (fail)
    refine HN.out.mono ?_
    rintro e w3 ⟨rfl, hb3⟩
    go_wp2
    go_ret
    exact ⟨rfl, G.below_then hB2 hB2.size hb3⟩
end Go.Proofs.Ytkifmdfmbmbdaaa.R
