/- Who seems to be down: Same, the laws' shown. -/
import Derived.Test.YtkifmdfmbmbdaaaDetF
namespace Go.Proofs.Ytkifmdfmbmbdaaa.G
open Go.RowKit Go.Proofs.YtkifmdfmbmbdaaaW.PrintWords Go.Proofs.YtkifmdfmbmbdaaaW.PrintMore
set_option linter.unusedVariables false
set_option linter.unusedSimpArgs false

theorem reps_ints (W : World) : ∀ l : List Int, Reps ((Kd.int .i64).K W) (Kd.int .i64).sz l (l.map (Value.int .i64)) := by
  intro l
  generalize hn : l.length = n
  induction n generalizing l with
  | zero => obtain rfl := List.length_eq_zero_iff.1 hn; exact Reps.none _ _
  | succ n ih =>
    rcases List.eq_nil_or_concat l with rfl | ⟨m, x, rfl⟩
    · cases hn
    · rw [List.concat_eq_append] at hn ⊢
      rw [List.map_append]
      exact (ih m (by simpa using hn)).snoc rfl rfl
theorem C_lits (W : World) (l : List Int) (hl : l.length ≤ 1000000) : Kd.C (Kd.int .i64) (W.alloc (.cells (l.map (Value.int .i64)).toArray 3)) (some ⟨W.heap.size, 0, none⟩) l.length l :=
  C_new (rest := []) (e := 3) (inner := l.map (Value.int .i64)) (reps_ints _ l) (by rw [List.append_nil]; exact World.alloc_heap_new W _) (by omega)
/-- A row of numbers beside a detector that is written. -/
theorem RowI.over {W W' : World} {base g M : Nat} {v : Value} {l : List Int} {s : Det} (h : RowI W base v l) (hs : DetS W g M s) (hg : Grow2 g M W W') : RowI W' base v l := by
  refine Kd.R_mono (Kd.R_step (Kd.R_tight rfl h) (fun k ho hlt => ?_)) (fun _ _ => trivial)
  obtain ⟨_, cs, hb⟩ := h.blk k ho.symm
  refine hg.block k hlt ?_ ?_
  · rintro rfl
    cases hb.symm.trans hs.1
  · rintro rfl
    obtain ⟨_, m, ⟨es, c, hc, _⟩, _⟩ := hs
    cases hb.symm.trans hc
theorem rd_at (l : List Int) (k : Nat) (h : k < l.length) : rd l (k : Int) = l[k] := by
  unfold rd
  simp [List.getD_eq_getElem?_getD, h]
set_option maxRecDepth 100000 in
set_option maxHeartbeats 4000000 in
theorem Same.yes (A0 A1 : Option Addr) (c0 c1 n0 n1 : Nat) (l : List Int) (w : World) (h0 : Kd.C (Kd.int .i64) w A0 l.length l) (h1 : Kd.C (Kd.int .i64) w A1 l.length l) (hl : l.length ≤ 1000000) (e0 : l.length = n0) (e1 : l.length = n1) :
    Calls Try.prog 15 #[.slice A0 n0 c0, .slice A1 n1 c1] w fun e w' => e = .returned (.bool true) ∧ ∃ n, w.drewN n = w' := by
  subst e0 e1
  go_enter Try.func15, Try.ntmps15
  go_wp2
  go_loopw [5] (fun i wr => ∃ k m : Nat, k ≤ l.length ∧ i = .int .i64 k ∧ w.drewN m = wr) (fun i _ => l.length - (intOf i).toNat)
  case atStart => exact ⟨0, 0, Nat.zero_le _, rfl, rfl⟩
  case round =>
    obtain ⟨k, m, hk, rfl, rfl⟩ := hrel
    by_cases hlt : k < l.length
    · obtain ⟨ad, hAd, x0⟩ := Kd.at_int h0 (k : Int) (by omega) (by omega)
      obtain ⟨ae, hAe, y0⟩ := Kd.at_int h1 (k : Int) (by omega) (by omega)
      rw [rd_at l k hlt] at x0 y0
      simp only [Int.toNat_natCast] at x0 y0
      subst hAd hAe
      obtain ⟨x, hx⟩ : ∃ x, l[k] = x := ⟨_, rfl⟩
      rw [hx] at x0 y0
      clear hx
      go_wp2
      go_quiet (fail)
      go_wp2
      go_roundw
      case rel => exact ⟨k + 1, m + nq, by omega, by go_num, rfl⟩
      case measure => simp [intOf]; omega
    · obtain rfl : k = l.length := by omega
      go_wp2
      go_ret
      exact ⟨rfl, m, rfl⟩
def s0 : Det := ⟨0, 10, 20, 5, 0, [⟨0, 10, false⟩, ⟨0, 10, false⟩, ⟨0, 10, false⟩]⟩
def s1 : Det := ⟨0, 10, 20, 5, 11, [⟨0, 10, false⟩, ⟨0, 10, true⟩, ⟨0, 10, true⟩]⟩
def s2 : Det := ⟨0, 10, 20, 5, 12, [⟨0, 10, false⟩, ⟨0, 10, true⟩, ⟨12, 15, false⟩]⟩
theorem sh1 : tickF s0 11 = (s1, [1, 2], 0) := by rfl
theorem sh2 : hearF s1 2 12 = (s2, 0) := by rfl
theorem sh3 : ((atP s2 2).getD zP).tmo = 15 := by rfl
theorem sh4 : leaderF s2 = 0 := by rfl
theorem sh5 : whoL suspectP s2.ps s2.ps.length = [1] := by rfl
set_option maxRecDepth 100000 in
set_option maxHeartbeats 4000000 in
theorem shown.is (w : World) : Calls Try.prog 8 #[] w fun e w' => e = .returned (.bool true) ∧ Below w.heap.size w w' := by
  have hn := New.ok 0 10 20 5 0 3 w (by unfold NewOk; decide)
  rw [show ((3 : Nat) : Int) = 3 from rfl] at hn
  have HN := Lib.hid hn; clear hn
  go_enter Try.func8, Try.ntmps8
  go_wp2_with (fail)
  refine HN.out.mono ?_
  rintro e w1 ⟨g, M, rfl, hs1, hb1, hg, hM⟩
  replace hs1 : DetS w1 g M s0 := hs1
  go_wp2_with (fail)
  refine (Tick.is g M s0 11 w1 hs1 (by intro p hp; simp [s0] at hp; rcases hp with rfl | rfl | rfl <;> decide) (by decide)).mono ?_
  rw [sh1]
  rintro e w2 ⟨v, rfl, hR2, hs2, hg2⟩
  have hB2 : Below w.heap.size w w2 := Grow2.below hb1 hb1.size hg2 hg hM
  go_wp2_with (fail)
  refine (Hear.is g M s1 2 12 w2 hs2 ⟨by decide, by decide, by intro p hp; simp [s1] at hp; rcases hp with rfl | rfl | rfl <;> decide⟩).mono ?_
  rw [sh2]
  rintro e w3 ⟨rfl, hs3, hg3⟩
  have hB3 : Below w.heap.size w w3 := Grow2.below hB2 hB2.size hg3 hg hM
  have hR3 := hR2.over hs2 hg3
  go_wp2_with (fail)
  refine (New.bad 0 17 1 1 0 0 w3 (by unfold NewOk; decide)).mono ?_
  rintro e w4 ⟨rfl, hb4⟩
  have hs4 := hs3.below hb4
  have hR4 := hR3.below hb4
  have hB4 := below_then hB3 hB3.size hb4
  obtain ⟨A4, c4, rfl, hlc4, hC4⟩ := Kd.R_reads hR4
  have hC5 := C_lits w4 [1, 2] (by decide)
  have hb5 : Below w4.heap.size w4 (w4.alloc (.cells #[.int .i64 1, .int .i64 2] 3)) := (Below.refl _ w4).alloc (Nat.le_refl _) _
  have hC4' := Kd.C_below hC4 hb5
  have hs5 := hs4.below hb5
  have hB5 := below_then hB4 hB4.size hb5
  go_wp2_with (fail)
  refine (Same.yes A4 _ c4 _ _ _ [1, 2] _ hC4' hC5 (by decide) rfl rfl).mono ?_
  rintro e w6 ⟨rfl, n6, rfl⟩
  have hs6 : DetS ((w4.alloc (.cells #[.int .i64 1, .int .i64 2] 3)).drewN n6) g M s2 := hs5
  have hB6 := below_drewN hB5 n6
  obtain ⟨W6, hW6⟩ : ∃ W6, (w4.alloc (.cells #[.int .i64 1, .int .i64 2] 3)).drewN n6 = W6 := ⟨_, rfl⟩
  rw [hW6] at hs6 hB6
  have HW6 := Lib.hid hW6; clear hW6
  go_wp2_with (fail)
  rw [HW6.out]
  refine (Timeout.is g M s2 2 W6 hs6).mono ?_
  rw [sh3]
  rintro e w7 ⟨rfl, rfl⟩
  go_wp2_with (fail)
  refine (Leader.is g M s2 W6 hs6 (by decide)).mono ?_
  rw [sh4]
  rintro e w8 ⟨rfl, hb8⟩
  have hs8 := hs6.below hb8
  have hB8 := below_then hB6 hB6.size hb8
  go_wp2_with (fail)
  refine (Suspects.is g M s2 w8 hs8 (by decide)).mono ?_
  rw [sh5]
  rintro e w9 ⟨v9, rfl, hR9, hb9⟩
  have hB9 := below_then hB8 hB8.size hb9
  obtain ⟨A9, c9, rfl, hlc9, hC9⟩ := Kd.R_reads hR9
  have hC10 := C_lits w9 [1] (by decide)
  have hb10 : Below w9.heap.size w9 (w9.alloc (.cells #[.int .i64 1] 3)) := (Below.refl _ w9).alloc (Nat.le_refl _) _
  have hC9' := Kd.C_below hC9 hb10
  have hB10 := below_then hB9 hB9.size hb10
  go_wp2_with (fail)
  refine (Same.yes A9 _ c9 _ _ _ [1] _ hC9' hC10 (by decide) rfl rfl).mono ?_
  rintro e w11 ⟨rfl, n11, rfl⟩
  have hB11 := below_drewN hB10 n11
  go_wp2
  go_ret
  exact ⟨rfl, hB11⟩
end Go.Proofs.Ytkifmdfmbmbdaaa.G
