/- A copy that is dropped leaves all as it was. -/
import Derived.Test.YthmeakkpmielmaaFliD
namespace Go.Proofs.Ythmeakkpmielmaa.R
open Go.RowKit Go.Proofs.YthmeakkpmielmaaW.PrintWords Go.Proofs.YthmeakkpmielmaaW.PrintMore Go.Proofs.Ythmeakkpmielmaa.P Go.Proofs.Ythmeakkpmielmaa.G
set_option linter.unusedVariables false
set_option linter.unusedSimpArgs false
attribute [local go_sem] Oper.semAt_some max2_int min2_int max_two min_two

def GoodL (l : List S35) : Prop := ∀ x ∈ l, 0 ≤ x.f1 ∧ x.f1 < 16
theorem send_good (s : Fl) (t : Int) (x : ByteArray) (h : GoodL s.l) : GoodL (sendF s t x).1.l ∧ (sendF s t x).1.l.length ≤ s.l.length + 1 := by
  unfold sendF
  split
  · exact ⟨h, by simp⟩
  · split
    · exact ⟨h, by simp⟩
    · refine ⟨?_, by simp⟩
      intro y hy
      rw [List.mem_append, List.mem_singleton] at hy
      rcases hy with hy | rfl
      · exact h y hy
      · simp only; omega
theorem copy_ok (s : Fl) (k : Nat) (h : k < s.l.length) (hg : GoodL s.l) (hl : s.l.length < 1000) : ∃ n y, copyF s k = (⟨n, s.l ++ [y]⟩, n, 0) := by
  rw [copyF_in s k h]
  have h1 := hg _ (List.getElem_mem h)
  unfold sendF
  rw [if_neg (by omega), if_neg (by omega)]
  exact ⟨_, _, rfl⟩
theorem drop_last (n : Int) (l : List S35) (y : S35) : dropF ⟨n, l ++ [y]⟩ (l.length : Int) = (⟨n, l⟩, 0) := by
  unfold dropF
  rw [takeF_in ⟨n, l ++ [y]⟩ l.length (by simp)]
  simp
set_option maxRecDepth 100000 in
set_option maxHeartbeats 8000000 in
theorem FlightCopies_fin (A0 : Option Addr) (c0 : Nat) (l0 : List S38) (a1 : Int) (w : World) (hr0 : Kd.C k38 w A0 l0.length l0) (hc0 : l0.length ≤ c0) (_hm0 : l0.length ≤ maxLen) (_hw0 : ∀ z ∈ l0, (Lit.int .i64 z.f0).wf = true ∧ (Lit.int .i64 z.f1).wf = true ∧ (Lit.int .i64 z.f2).wf = true ∧ (Lit.int .u32 z.f3).wf = true ∧ z.f4.size ≤ maxLen) (_w1 : (Lit.int .i64 a1).wf = true) :
    Calls Try.prog 5 #[.slice A0 l0.length c0, .int .i64 a1] w fun e w' => e = .returned (.bool true) ∧ Below w.heap.size w w' := by
  unfold maxLen at _hm0
  go_enter Try.func5, Try.ntmps5
  go_wp2_with (first
    | (go_at_call 10; (with_reducible refine (shown.is _).mono ?_); rintro e w1 ⟨rfl, hb1⟩)
    | (go_at_call 11; (with_reducible refine (New.is _).mono ?_); rintro e w2 ⟨rfl, hs2, hb2⟩))
  have hb12 := G.below_then hb1 hb1.size hb2
  have hg0 : w.heap.size ≤ w1.heap.size := hb1.size
  obtain ⟨g, hg⟩ : ∃ g, w1.heap.size = g := ⟨_, rfl⟩
  rw [hg] at hs2 hg0 ⊢
  clear hb2 hb1 hg
  have hr : ∀ b, (some g : Option Nat) = some b → w.heap.size ≤ b := fun b e => by cases e; exact hg0
  go_loopw [7] (fun i wr => ∃ (k : Nat) (s : Fl), k ≤ l0.length ∧ k ≤ 60 ∧ i = .int .i64 k ∧ FlS wr g s ∧ s.l.length ≤ k ∧ GoodL s.l ∧ Below w.heap.size w wr) (fun i _ => 60 - (intOf i).toNat)
  case atStart => exact ⟨0, _, Nat.zero_le _, Nat.zero_le _, rfl, hs2, Nat.le_refl _, (by intro x hx; cases hx), hb12⟩
  case round =>
    obtain ⟨k, s, hk, hk60, rfl, hS, hlk, hG, hB⟩ := hrel
    by_cases hlt : k < l0.length ∧ k < 60
    · obtain ⟨hl1, hl2⟩ := hlt
      obtain ⟨ad, hAd, x0, x1, x2, x3, x4⟩ := at_T38 (Kd.C_below hr0 hB) (k : Int) (by omega) (by omega)
      rw [rd_get_38 l0 k hl1] at x0 x1 x2 x3 x4
      simp only [Int.toNat_natCast] at x0 x1 x2 x3 x4
      subst hAd
      have hsz := (_hw0 _ (List.getElem_mem hl1)).2.2.2.2
      obtain ⟨x, hx⟩ : ∃ x, l0[k] = x := ⟨_, rfl⟩
      rw [hx] at x0 x1 x2 x3 x4 hsz
      have HT := Lib.hid (fun W => text.is x W hsz)
      have hb3 : Below wr.heap.size wr (wr.alloc (.cells #[.int .i64 x.f0, .int .i64 x.f1, .int .i64 x.f2, .int .u32 x.f3, .string x.f4] 38)) := (Below.refl _ wr).alloc (Nat.le_refl _) _
      have hB3 := G.below_then hB hB.size hb3
      have hS3 := hS.below hb3
      obtain ⟨ad', hAd', y0, y1, y2, y3, y4⟩ := at_T38 (Kd.C_below hr0 hB3) (k : Int) (by omega) (by omega)
      obtain rfl : ad = ad' := Option.some.inj hAd'
      rw [rd_get_38 l0 k hl1, hx] at y0 y1 y2 y3 y4
      simp only [Int.toNat_natCast] at y0 y1 y2 y3 y4
      have hsnd := Send.is g s x.f1 (cutS x.f4) (wr.alloc (.cells #[.int .i64 x.f0, .int .i64 x.f1, .int .i64 x.f2, .int .u32 x.f3, .string x.f4] 38)).drew (show FlS (wr.alloc (.cells #[.int .i64 x.f0, .int .i64 x.f1, .int .i64 x.f2, .int .u32 x.f3, .string x.f4] 38)).drew g s from hS3) (by omega)
      obtain ⟨hG4, hl4⟩ := send_good s x.f1 (cutS x.f4) hG
      obtain ⟨s4, hs4⟩ : ∃ s4, (sendF s x.f1 (cutS x.f4)).1 = s4 := ⟨_, rfl⟩
      rw [hs4] at hG4 hl4 hsnd
      have HSND := Lib.hid hsnd; clear hsnd
      have HX := Lib.hid hx; clear hx
      have HS4 := Lib.hid hs4; clear hs4
      go_wp2_with (fail)
      · go_region_with (first
          | (go_at_call 15; (with_reducible refine (HT.out _).mono ?_); rintro e w3 ⟨rfl, rfl⟩)
          | (go_at_call 12; (refine HSND.out.mono ?_); rintro e w4 ⟨rfl, hs4, hg4⟩))
        all_goals
          go_wp2
          refine ⟨⟨k + 1, s4, by omega, by omega, by go_num, hs4, by omega, hG4, below_grown' hB3.drew hB3.size hg4 hr⟩, by simp [intOf]; omega⟩
      · refine ⟨⟨k + 1, s, by omega, by omega, by go_num, hS, by omega, hG, hB⟩, by simp [intOf]; omega⟩
    · have hend : (k < l0.length ∧ k = 60) ∨ k = l0.length := by omega
      clear hlt
      have HA := Lib.hid (All.is g s wr hS (by omega))
      by_cases ha : 0 ≤ a1 ∧ a1 < s.l.length
      · obtain ⟨j, rfl⟩ := Int.eq_ofNat_of_zero_le ha.1
        obtain ⟨n2, y, hcp⟩ := copy_ok s j (by omega) hG (by omega)
        have hdl := drop_last n2 s.l y
        have HCP := Lib.hid hcp; clear hcp
        have HDL := Lib.hid hdl; clear hdl
        rcases hend with ⟨hl, rfl⟩ | rfl
        all_goals
          go_wp2_with (fail)
          refine HA.out.mono ?_
          rintro e w3 ⟨v, rfl, hR3, hb3⟩
          have hs3 := hS.below hb3
          obtain ⟨A3, c3, rfl, hlc3, hC3⟩ := Kd.R_reads hR3
          go_wp2_with (fail)
          refine (Copy.is g _ _ _ hs3 (by omega)).mono ?_
          rw [HCP.out]
          rintro e w4 ⟨rfl, hs4, hg4⟩
          have hR4 := (RowN.of hR3).over hs3 hg4
          go_wp2_with (fail)
          refine (Drop.is g _ _ _ hs4 (by simp; omega)).mono ?_
          rw [HDL.out]
          rintro e w5 ⟨rfl, hs5, hg5⟩
          have hR5 := hR4.over hs4 hg5
          go_wp2_with (fail)
          refine (All.is g _ _ hs5 (by show s.l.length ≤ _; omega)).mono ?_
          rintro e w6 ⟨v6, rfl, hR6, hb6⟩
          have hR7 := hR5.below hb6
          obtain ⟨A6, c6, rfl, hlc6, hC6⟩ := Kd.R_reads hR6
          obtain ⟨A7, c7, hv, hlc7, hC7⟩ := Kd.R_reads hR7
          obtain ⟨rfl, rfl⟩ : A3 = A7 ∧ c3 = c7 := by simpa using hv
          have hB6 : Below w.heap.size w w6 := by
            have k3 := G.below_then hB hB.size hb3
            have k4 := below_grown' k3 k3.size hg4 hr
            have k5 := below_grown' k4 k4.size hg5 hr
            exact G.below_then k5 k5.size hb6
          go_wp2_with (fail)
          refine (Same.yes _ _ _ _ _ _ s.l w6 hC6 hC7 (by omega) rfl rfl).mono ?_
          rintro e w7 ⟨rfl, n7, rfl⟩
          go_wp2
          go_ret
          exact ⟨rfl, below_drewN hB6 n7⟩
      · have hcp := copyF_out s a1 ha
        have d1 : (a1 < 0) ∨ (0 ≤ a1 ∧ (s.l.length : Int) ≤ a1) := by omega
        have HCP := Lib.hid hcp; clear hcp
        have HA1 := Lib.hid ha; clear ha
        rcases d1 with d1 | ⟨d1, d2⟩
        all_goals
          rcases hend with ⟨hl, rfl⟩ | rfl
          all_goals
            go_wp2_with (fail)
            refine HA.out.mono ?_
            rintro e w3 ⟨v, rfl, hR3, hb3⟩
            have hs3 := hS.below hb3
            obtain ⟨A3, c3, rfl, hlc3, hC3⟩ := Kd.R_reads hR3
            go_wp2_with (fail)
            refine (Copy.is g _ _ _ hs3 (by omega)).mono ?_
            rw [HCP.out]
            rintro e w4 ⟨rfl, hs4, hg4⟩
            have hB4 : Below w.heap.size w w4 := by
              have k3 := G.below_then hB hB.size hb3
              exact below_grown' k3 k3.size hg4 hr
            go_wp2
            go_ret
            exact ⟨rfl, hB4⟩
end Go.Proofs.Ythmeakkpmielmaa.R
