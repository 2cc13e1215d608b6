-- Printed by a program of this session (the kit's print, with contracts of this session's beside it).
import Derived.Test.YtnllilpbgenjbaaPx0
import Derived.Test.YtnllilpbgenjbaaPx2
namespace Go.Proofs.Ytnllilpbgenjbaa.P
open Go.RowKit Go.Proofs.YtnllilpbgenjbaaW.PrintWords Go.Proofs.YtnllilpbgenjbaaW.PrintLast Go.Proofs.YtnllilpbgenjbaaW.PrintMore
attribute [local go_sem] max2_int min2_int max_two min_two max_three min_three max_four min_four   -- for this text's walks alone
set_option linter.unusedVariables false
set_option linter.unusedSimpArgs false

/-! ### rostrumref08_Decided: function 24 -/
mutual
def rostrumref08_Decided.j0 : Nat → List (S24) → Bool → Option (ByteArray × Bool × Int)
  | 0, _, _ => none
  | k + 1, x0, x17 => if x17 = true then (some ((⟨#[]⟩ : ByteArray), false, 81)) else (rostrumref08_Decided.l0 k x0 0)
def rostrumref08_Decided.l0 : Nat → List (S24) → Int → Option (ByteArray × Bool × Int)
  | 0, _, _ => none
  | k + 1, x0, x5 => if x5 < (x0.length : Int) then (if 0 ≤ x5 then ((rostrumref08_Right.f ((rd_T24 x0 x5).f0) ((rd_T24 x0 x5).f1) ((rd_T24 x0 x5).f2)).bind fun t205 => (if t205 = true then (rostrumref08_Decided.l0 k x0 (wrap64 (x5 + 1))) else (some ((⟨#[]⟩ : ByteArray), false, 2)))) else (none)) else (rostrumref08_Decided.l1 k x0 0)
def rostrumref08_Decided.l1 : Nat → List (S24) → Int → Option (ByteArray × Bool × Int)
  | 0, _, _ => none
  | k + 1, x0, x7 => if x7 < (x0.length : Int) then (rostrumref08_Decided.l2 k x0 x7 0 0) else (some ((⟨#[]⟩ : ByteArray), false, 0))
def rostrumref08_Decided.l2 : Nat → List (S24) → Int → Int → Int → Option (ByteArray × Bool × Int)
  | 0, _, _, _, _ => none
  | k + 1, x0, x7, x8, x9 => if x9 < (x0.length : Int) then (if 0 ≤ x9 then (if ((rd_T24 x0 x9).f1) > 0 then (if 0 ≤ x7 then (if x7 < (x0.length : Int) then (if ((rd_T24 x0 x9).f1) = ((rd_T24 x0 x7).f1) then (if ((rd_T24 x0 x9).f2).toList = ((rd_T24 x0 x7).f2).toList then (rostrumref08_Decided.l2 k x0 x7 (wrap64 (x8 + 1)) (wrap64 (x9 + 1))) else (rostrumref08_Decided.l2 k x0 x7 x8 (wrap64 (x9 + 1)))) else (rostrumref08_Decided.l2 k x0 x7 x8 (wrap64 (x9 + 1)))) else (none)) else (none)) else (rostrumref08_Decided.l2 k x0 x7 x8 (wrap64 (x9 + 1)))) else (none)) else (if (wrap64 (2 * x8)) > (x0.length : Int) then (if 0 ≤ x7 then (if x7 < (x0.length : Int) then (some ((rd_T24 x0 x7).f2, true, 0)) else (none)) else (none)) else (rostrumref08_Decided.l1 k x0 (wrap64 (x7 + 1))))
end
def rostrumref08_Decided.f (k : Nat) (l0 : List (S24)) : Option (ByteArray × Bool × Int) := if (l0.length : Int) < 1 then (rostrumref08_Decided.j0 k l0 true) else (rostrumref08_Decided.j0 k l0 (decide ((l0.length : Int) > 16)))
theorem rostrumref08_Decided.mono_l : ∀ k, (∀ y0 y1, LeO (rostrumref08_Decided.j0 k y0 y1) (rostrumref08_Decided.j0 (k + 1) y0 y1)) ∧ (∀ y0 y1, LeO (rostrumref08_Decided.l0 k y0 y1) (rostrumref08_Decided.l0 (k + 1) y0 y1)) ∧ (∀ y0 y1, LeO (rostrumref08_Decided.l1 k y0 y1) (rostrumref08_Decided.l1 (k + 1) y0 y1)) ∧ (∀ y0 y1 y2 y3, LeO (rostrumref08_Decided.l2 k y0 y1 y2 y3) (rostrumref08_Decided.l2 (k + 1) y0 y1 y2 y3))
  | 0 => ⟨fun _ _ r h => by simp [rostrumref08_Decided.j0] at h, fun _ _ r h => by simp [rostrumref08_Decided.l0] at h, fun _ _ r h => by simp [rostrumref08_Decided.l1] at h, fun _ _ _ _ r h => by simp [rostrumref08_Decided.l2] at h⟩
  | k + 1 => by
    obtain ⟨ih0, ih1, ih2, ih3⟩ := rostrumref08_Decided.mono_l k
    refine ⟨?_, ?_, ?_, ?_⟩
    · intro y0 y1
      unfold rostrumref08_Decided.j0
      repeat' first
      | (with_reducible exact ih0 _ _)
      | (with_reducible exact ih1 _ _)
      | (with_reducible exact ih2 _ _)
      | (with_reducible exact ih3 _ _ _ _)
      | (with_reducible exact LeO.refl _)
      | (with_reducible exact LeO.none _)
      | (with_reducible refine LeO.ite ?_ ?_)
      | (with_reducible refine LeO.bind ?_ (fun _ => ?_))
      | exact ih0 _ _
      | exact ih1 _ _
      | exact ih2 _ _
      | exact ih3 _ _ _ _
      | exact LeO.none _
      | refine LeO.ite ?_ ?_
      | refine LeO.bind ?_ (fun _ => ?_)
    · intro y0 y1
      unfold rostrumref08_Decided.l0
      repeat' first
      | (with_reducible exact ih0 _ _)
      | (with_reducible exact ih1 _ _)
      | (with_reducible exact ih2 _ _)
      | (with_reducible exact ih3 _ _ _ _)
      | (with_reducible exact LeO.refl _)
      | (with_reducible exact LeO.none _)
      | (with_reducible refine LeO.ite ?_ ?_)
      | (with_reducible refine LeO.bind ?_ (fun _ => ?_))
      | exact ih0 _ _
      | exact ih1 _ _
      | exact ih2 _ _
      | exact ih3 _ _ _ _
      | exact LeO.none _
      | refine LeO.ite ?_ ?_
      | refine LeO.bind ?_ (fun _ => ?_)
    · intro y0 y1
      unfold rostrumref08_Decided.l1
      repeat' first
      | (with_reducible exact ih0 _ _)
      | (with_reducible exact ih1 _ _)
      | (with_reducible exact ih2 _ _)
      | (with_reducible exact ih3 _ _ _ _)
      | (with_reducible exact LeO.refl _)
      | (with_reducible exact LeO.none _)
      | (with_reducible refine LeO.ite ?_ ?_)
      | (with_reducible refine LeO.bind ?_ (fun _ => ?_))
      | exact ih0 _ _
      | exact ih1 _ _
      | exact ih2 _ _
      | exact ih3 _ _ _ _
      | exact LeO.none _
      | refine LeO.ite ?_ ?_
      | refine LeO.bind ?_ (fun _ => ?_)
    · intro y0 y1 y2 y3
      unfold rostrumref08_Decided.l2
      repeat' first
      | (with_reducible exact ih0 _ _)
      | (with_reducible exact ih1 _ _)
      | (with_reducible exact ih2 _ _)
      | (with_reducible exact ih3 _ _ _ _)
      | (with_reducible exact LeO.refl _)
      | (with_reducible exact LeO.none _)
      | (with_reducible refine LeO.ite ?_ ?_)
      | (with_reducible refine LeO.bind ?_ (fun _ => ?_))
      | exact ih0 _ _
      | exact ih1 _ _
      | exact ih2 _ _
      | exact ih3 _ _ _ _
      | exact LeO.none _
      | refine LeO.ite ?_ ?_
      | refine LeO.bind ?_ (fun _ => ?_)
theorem rostrumref08_Decided.mono : ∀ a0 k, LeO (rostrumref08_Decided.f k a0) (rostrumref08_Decided.f (k + 1) a0) := by
  intro a0 k
  obtain ⟨ih0, ih1, ih2, ih3⟩ := rostrumref08_Decided.mono_l k
  unfold rostrumref08_Decided.f
  repeat' first
      | (with_reducible exact ih0 _ _)
      | (with_reducible exact ih1 _ _)
      | (with_reducible exact ih2 _ _)
      | (with_reducible exact ih3 _ _ _ _)
      | (with_reducible exact LeO.refl _)
      | (with_reducible exact LeO.none _)
      | (with_reducible refine LeO.ite ?_ ?_)
      | (with_reducible refine LeO.bind ?_ (fun _ => ?_))
      | exact ih0 _ _
      | exact ih1 _ _
      | exact ih2 _ _
      | exact ih3 _ _ _ _
      | exact LeO.none _
      | refine LeO.ite ?_ ?_
      | refine LeO.bind ?_ (fun _ => ?_)
set_option maxHeartbeats 8000000 in
set_option maxRecDepth 100000 in
theorem rostrumref08_Decided.calls (k : Nat) (A0 : Option Addr) (c0 : Nat) (l0 : List (S24)) (r1 : ByteArray) (r2 : Bool) (r3 : Int) (w : World) (hr0 : Kd.C k24 w A0 l0.length l0) (hc0 : l0.length ≤ c0) (h : rostrumref08_Decided.f k l0 = some (r1, r2, r3)) :
    Calls Try.prog 24 #[.slice A0 l0.length c0] w fun e w' => e = .returned (.tuple #[.string r1, .bool r2, .int .i64 r3]) ∧ Below w.heap.size w w' := by
  have hu24 := Try.underlying24
  have HR0 := Aside0.mk hr0
  have HC0 := Aside0.mk hc0
  clear hr0 hc0
  have HB := Aside0.mk (Below.refl w.heap.size w)
  have H : (if (l0.length : Int) < 1 then (rostrumref08_Decided.j0 k l0 true) else (rostrumref08_Decided.j0 k l0 (decide ((l0.length : Int) > 16)))) = some (r1, r2, r3) := h
  clear h
  have HC2 := Aside0.mk H
  clear H
  go_enter Try.func24, Try.ntmps24
  go_upto_region 1 with (fail)
  repeat (go_quiet (fail); go_upto_region 1 with (fail))
  go_cut [17] (fun v17 wc => ∃ (kq : Nat) (x17_1 : Bool), v17 = .bool x17_1 ∧ Aside0 (rostrumref08_Decided.j0 kq l0 x17_1 = some (r1, r2, r3)) ∧ Aside0 (kq ≤ k) ∧ Aside0 (Below w.heap.size w wc))
  case first =>
    have H := HC2.out
    clear HC2
    by_cases c3 : (l0.length : Int) < 1
    · rw [if_pos c3] at H
      have c3b0 : decide ((l0.length : Int) < 1) = true := decide_eq_true c3
      have c3b1 : decide (l0.length < 1) = true := decide_eq_true (by omega)
      clear c3
      (first | rw [c3b0] | (simp only [i64_w, i32_w]; rw [c3b0]) | skip)
      have H' := Aside0.mk H
      clear H
      go_wp2
      repeat (go_quiet (fail); try go_wp2)
      go_meet
      case rel => exact ⟨_, (true), (by first | rfl | (simp; done) | (simp [*]; done)), H', ⟨by first | omega | exact Nat.le_refl _⟩, ⟨by repeat (first | (with_reducible first | exact HB.out | apply below_alloc | apply pw_below_drewN | apply below_drew1) | exact HB.out)⟩⟩
    · rw [if_neg c3] at H
      have c3b0 : decide ((l0.length : Int) < 1) = false := decide_eq_false c3
      have c3b1 : decide (l0.length < 1) = false := decide_eq_false (by omega)
      clear c3
      (first | rw [c3b0] | (simp only [i64_w, i32_w]; rw [c3b0]) | skip)
      have H' := Aside0.mk H
      clear H
      go_wp2
      repeat (go_quiet (fail); try go_wp2)
      go_meet
      case rel => exact ⟨_, (decide ((l0.length : Int) > 16)), (by first | rfl | (simp; done) | (simp [*]; done)), H', ⟨by first | omega | exact Nat.le_refl _⟩, ⟨by repeat (first | (with_reducible first | exact HB.out | apply below_alloc | apply pw_below_drewN | apply below_drew1) | exact HB.out)⟩⟩
  case rest =>
    clear HC2
    try clear c2
    try clear p2
    try clear c3
    try clear c3b0
    try clear c3b1
    obtain ⟨kq, x17_1, rfl, HA, HJ1, HB⟩ := hcut
    cases kq with
    | zero => exact absurd HA.out (by simp [rostrumref08_Decided.j0])
    | succ kj1 =>
      have H := HA.out
      clear HA
      simp only [rostrumref08_Decided.j0] at H
      by_cases c4 : x17_1 = true
      · subst c4
        have H1 : (some ((⟨#[]⟩ : ByteArray), false, 81)) = some (r1, r2, r3) := by rw [if_pos rfl] at H; exact H
        clear H
        have H := H1
        clear H1
        simp only [Option.some.injEq, Prod.mk.injEq] at H
        obtain ⟨rfl, rfl, rfl⟩ := H
        go_wp2
        repeat (go_quiet (fail); try go_wp2)
        go_ret3
        exact ⟨by first | rfl | (simp [errW_none, errW_some] <;> rfl) | (simp [*, errW_none, errW_some] <;> rfl), by repeat (first | (with_reducible first | exact HB.out | apply below_alloc | apply pw_below_drewN | apply below_drew1) | exact HB.out)⟩
      · replace c4 := Bool.eq_false_iff.mpr c4
        subst c4
        have H1 : (rostrumref08_Decided.l0 kj1 l0 0) = some (r1, r2, r3) := by rw [if_neg (show ¬ (false = true) by decide)] at H; exact H
        clear H
        have H := H1
        clear H1
        have H' := Aside0.mk H
        clear H
        go_wp2
        repeat (go_quiet (fail); try go_wp2)
        go_loopg [5] kj1 (fun kq v5 w' => ∃ (x5_2 : Int), v5 = .int .i64 x5_2 ∧ Aside0 (rostrumref08_Decided.l0 kq l0 x5_2 = some (r1, r2, r3)) ∧ Aside0 (kq ≤ kj1) ∧ Aside0 (Below w.heap.size w w'))
        case atStart => exact ⟨(0), (by first | rfl | (simp; done) | (simp [*]; done)), H', ⟨Nat.le_refl _⟩, ⟨by repeat (first | (with_reducible first | exact HB.out | apply below_alloc | apply pw_below_drewN | apply below_drew1) | exact HB.out)⟩⟩
        case round =>
          clear H'
          try clear c2
          try clear p2
          try clear c3
          try clear c3b0
          try clear c3b1
          try clear c4
          try clear p2
          obtain ⟨x5_2, rfl, HA, HK2, HB⟩ := hrel
          cases gk with
          | zero => exact absurd HA.out (by simp [rostrumref08_Decided.l0])
          | succ k2 =>
            have H := HA.out
            clear HA
            simp only [rostrumref08_Decided.l0] at H
            by_cases c5 : x5_2 < (l0.length : Int)
            · rw [if_pos c5] at H
              have c5b0 : decide (x5_2 < (l0.length : Int)) = true := decide_eq_true c5
              clear c5
              by_cases c6 : 0 ≤ x5_2
              · rw [if_pos c6] at H
                have c6b0 : decide (0 ≤ x5_2) = true := decide_eq_true c6
                clear c6
                replace H := Option.bind_eq_some_iff.mp H
                obtain ⟨t205, A70, H⟩ := H
                replace H : (if t205 = true then (rostrumref08_Decided.l0 k2 l0 (wrap64 (x5_2 + 1))) else (some ((⟨#[]⟩ : ByteArray), false, 2))) = some (r1, r2, r3) := H
                have A7 := Aside0.mk A70
                clear A70
                by_cases c8 : t205 = true
                · subst c8
                  have H1 : (rostrumref08_Decided.l0 k2 l0 (wrap64 (x5_2 + 1))) = some (r1, r2, r3) := by rw [if_pos rfl] at H; exact H
                  clear H
                  have H := H1
                  clear H1
                  have H' := Aside0.mk H
                  clear H
                  have p204 : 0 ≤ (x5_2 : Int) := of_decide_eq_true (by first | (with_reducible assumption) | assumption)
                  have q204 : x5_2 < (l0.length : Int) := of_decide_eq_true (by first | (with_reducible assumption) | assumption)
                  obtain ⟨ad204, e204, hx204_0, hx204_1, hx204_2⟩ := at_T24 HR0.out x5_2 p204 q204
                  cases e204
                  replace hx204_0 := (HB.out.cell (World.block_lt_of_cell? w _ hx204_0)).trans hx204_0
                  replace hx204_1 := (HB.out.cell (World.block_lt_of_cell? w _ hx204_1)).trans hx204_1
                  replace hx204_2 := (HB.out.cell (World.block_lt_of_cell? w _ hx204_2)).trans hx204_2
                  replace p204 := eq_true p204
                  replace q204 := eq_true q204
                  go_wp2_with (first | (go_at_call 17; (with_reducible refine (rostrumref08_Right.calls ((rd_T24 l0 x5_2).f0) ((rd_T24 l0 x5_2).f1) ((rd_T24 l0 x5_2).f2) true _ A7.out).mono ?_); rintro e w9 ⟨rfl, hb⟩; have n0_ := Aside0.mk (below_step (by repeat (first | (with_reducible first | exact HB.out | apply below_alloc | apply pw_below_drewN | apply below_drew1) | exact HB.out)) hb); clear HB; have HB := n0_; clear n0_; (try clear hb); (try clear hb2); (try clear hk); (try clear hi)))
                  repeat (go_quiet (first | (go_at_call 17; (with_reducible refine (rostrumref08_Right.calls ((rd_T24 l0 x5_2).f0) ((rd_T24 l0 x5_2).f1) ((rd_T24 l0 x5_2).f2) true _ A7.out).mono ?_); rintro e w9 ⟨rfl, hb⟩; have n0_ := Aside0.mk (below_step (by repeat (first | (with_reducible first | exact HB.out | apply below_alloc | apply pw_below_drewN | apply below_drew1) | exact HB.out)) hb); clear HB; have HB := n0_; clear n0_; (try clear hb); (try clear hb2); (try clear hk); (try clear hi))); try go_wp2_with (first | (go_at_call 17; (with_reducible refine (rostrumref08_Right.calls ((rd_T24 l0 x5_2).f0) ((rd_T24 l0 x5_2).f1) ((rd_T24 l0 x5_2).f2) true _ A7.out).mono ?_); rintro e w9 ⟨rfl, hb⟩; have n0_ := Aside0.mk (below_step (by repeat (first | (with_reducible first | exact HB.out | apply below_alloc | apply pw_below_drewN | apply below_drew1) | exact HB.out)) hb); clear HB; have HB := n0_; clear n0_; (try clear hb); (try clear hb2); (try clear hk); (try clear hi))))
                  go_roundg k2
                  case measure => have := HJ1.out; have := HK2.out; omega
                  case rel => exact ⟨(wrap64 (x5_2 + 1)), (by first | rfl | (simp; done) | (simp [*]; done)), H', ⟨by have := HJ1.out; have := HK2.out; omega⟩, ⟨by repeat (first | (with_reducible first | exact HB.out | apply below_alloc | apply pw_below_drewN | apply below_drew1) | exact HB.out)⟩⟩
                · replace c8 := Bool.eq_false_iff.mpr c8
                  subst c8
                  have H1 : (some ((⟨#[]⟩ : ByteArray), false, 2)) = some (r1, r2, r3) := by rw [if_neg (show ¬ (false = true) by decide)] at H; exact H
                  clear H
                  have H := H1
                  clear H1
                  simp only [Option.some.injEq, Prod.mk.injEq] at H
                  obtain ⟨rfl, rfl, rfl⟩ := H
                  have p204 : 0 ≤ (x5_2 : Int) := of_decide_eq_true (by first | (with_reducible assumption) | assumption)
                  have q204 : x5_2 < (l0.length : Int) := of_decide_eq_true (by first | (with_reducible assumption) | assumption)
                  obtain ⟨ad204, e204, hx204_0, hx204_1, hx204_2⟩ := at_T24 HR0.out x5_2 p204 q204
                  cases e204
                  replace hx204_0 := (HB.out.cell (World.block_lt_of_cell? w _ hx204_0)).trans hx204_0
                  replace hx204_1 := (HB.out.cell (World.block_lt_of_cell? w _ hx204_1)).trans hx204_1
                  replace hx204_2 := (HB.out.cell (World.block_lt_of_cell? w _ hx204_2)).trans hx204_2
                  replace p204 := eq_true p204
                  replace q204 := eq_true q204
                  go_wp2_with (first | (go_at_call 17; (with_reducible refine (rostrumref08_Right.calls ((rd_T24 l0 x5_2).f0) ((rd_T24 l0 x5_2).f1) ((rd_T24 l0 x5_2).f2) false _ A7.out).mono ?_); rintro e w10 ⟨rfl, hb⟩; have n0_ := Aside0.mk (below_step (by repeat (first | (with_reducible first | exact HB.out | apply below_alloc | apply pw_below_drewN | apply below_drew1) | exact HB.out)) hb); clear HB; have HB := n0_; clear n0_; (try clear hb); (try clear hb2); (try clear hk); (try clear hi)))
                  repeat (go_quiet (first | (go_at_call 17; (with_reducible refine (rostrumref08_Right.calls ((rd_T24 l0 x5_2).f0) ((rd_T24 l0 x5_2).f1) ((rd_T24 l0 x5_2).f2) false _ A7.out).mono ?_); rintro e w10 ⟨rfl, hb⟩; have n0_ := Aside0.mk (below_step (by repeat (first | (with_reducible first | exact HB.out | apply below_alloc | apply pw_below_drewN | apply below_drew1) | exact HB.out)) hb); clear HB; have HB := n0_; clear n0_; (try clear hb); (try clear hb2); (try clear hk); (try clear hi))); try go_wp2_with (first | (go_at_call 17; (with_reducible refine (rostrumref08_Right.calls ((rd_T24 l0 x5_2).f0) ((rd_T24 l0 x5_2).f1) ((rd_T24 l0 x5_2).f2) false _ A7.out).mono ?_); rintro e w10 ⟨rfl, hb⟩; have n0_ := Aside0.mk (below_step (by repeat (first | (with_reducible first | exact HB.out | apply below_alloc | apply pw_below_drewN | apply below_drew1) | exact HB.out)) hb); clear HB; have HB := n0_; clear n0_; (try clear hb); (try clear hb2); (try clear hk); (try clear hi))))
                  go_ret3
                  exact ⟨by first | rfl | (simp [errW_none, errW_some] <;> rfl) | (simp [*, errW_none, errW_some] <;> rfl), by repeat (first | (with_reducible first | exact HB.out | apply below_alloc | apply pw_below_drewN | apply below_drew1) | exact HB.out)⟩
              · rw [if_neg c6] at H
                exact absurd H (by simp)
            · rw [if_neg c5] at H
              have c5b0 : decide (x5_2 < (l0.length : Int)) = false := decide_eq_false c5
              clear c5
              have H' := Aside0.mk H
              clear H
              go_wp2
              repeat (go_quiet (fail); try go_wp2)
              go_loopg [7] k2 (fun kq v7 w' => ∃ (x7_3 : Int), v7 = .int .i64 x7_3 ∧ Aside0 (rostrumref08_Decided.l1 kq l0 x7_3 = some (r1, r2, r3)) ∧ Aside0 (kq ≤ k2) ∧ Aside0 (Below w.heap.size w w'))
              case atStart => exact ⟨(0), (by first | rfl | (simp; done) | (simp [*]; done)), H', ⟨Nat.le_refl _⟩, ⟨by repeat (first | (with_reducible first | exact HB.out | apply below_alloc | apply pw_below_drewN | apply below_drew1) | exact HB.out)⟩⟩
              case round =>
                clear H'
                try clear c2
                try clear p2
                try clear q2
                try clear hx2
                try clear c3
                try clear c3b0
                try clear c3b1
                try clear c4
                try clear c5
                try clear c5b0
                try clear c6
                try clear c6b0
                try clear p6
                try clear c8
                try clear hx204_0
                try clear hx204_1
                try clear hx204_2
                try clear p2
                try clear p204
                try clear q204
                obtain ⟨x7_3, rfl, HA, HK3, HB⟩ := hrel
                cases gk with
                | zero => exact absurd HA.out (by simp [rostrumref08_Decided.l1])
                | succ k3 =>
                  have H := HA.out
                  clear HA
                  simp only [rostrumref08_Decided.l1] at H
                  by_cases c11 : x7_3 < (l0.length : Int)
                  · rw [if_pos c11] at H
                    have c11b0 : decide (x7_3 < (l0.length : Int)) = true := decide_eq_true c11
                    clear c11
                    have H' := Aside0.mk H
                    clear H
                    go_wp2
                    repeat (go_quiet (fail); try go_wp2)
                    go_loopg [8, 9] k3 (fun kq v8 v9 w' => ∃ (x8_4 : Int) (x9_4 : Int), v8 = .int .i64 x8_4 ∧ v9 = .int .i64 x9_4 ∧ Aside0 (rostrumref08_Decided.l2 kq l0 x7_3 x8_4 x9_4 = some (r1, r2, r3)) ∧ Aside0 (kq ≤ k3) ∧ Aside0 (Below w.heap.size w w'))
                    case atStart => exact ⟨(0), (0), (by first | rfl | (simp; done) | (simp [*]; done)), (by first | rfl | (simp; done) | (simp [*]; done)), H', ⟨Nat.le_refl _⟩, ⟨by repeat (first | (with_reducible first | exact HB.out | apply below_alloc | apply pw_below_drewN | apply below_drew1) | exact HB.out)⟩⟩
                    case round =>
                      clear H'
                      try clear c1
                      try clear c2
                      try clear p2
                      try clear q2
                      try clear hx2
                      try clear c3
                      try clear c3b0
                      try clear c3b1
                      try clear c4
                      try clear c5
                      try clear c5b0
                      try clear c6
                      try clear c6b0
                      try clear p6
                      try clear c8
                      try clear c11
                      try clear c11b0
                      try clear hx204_0
                      try clear hx204_1
                      try clear hx204_2
                      try clear p2
                      try clear p204
                      try clear p6
                      try clear q2
                      try clear q204
                      obtain ⟨x8_4, x9_4, rfl, rfl, HA, HK4, HB⟩ := hrel
                      cases gk with
                      | zero => exact absurd HA.out (by simp [rostrumref08_Decided.l2])
                      | succ k4 =>
                        have H := HA.out
                        clear HA
                        simp only [rostrumref08_Decided.l2] at H
                        by_cases c12 : x9_4 < (l0.length : Int)
                        · rw [if_pos c12] at H
                          have c12b0 : decide (x9_4 < (l0.length : Int)) = true := decide_eq_true c12
                          clear c12
                          by_cases c13 : 0 ≤ x9_4
                          · rw [if_pos c13] at H
                            have c13b0 : decide (0 ≤ x9_4) = true := decide_eq_true c13
                            clear c13
                            by_cases c14 : ((rd_T24 l0 x9_4).f1) > 0
                            · rw [if_pos c14] at H
                              have c14b0 : decide (0 < ((rd_T24 l0 x9_4).f1)) = true := decide_eq_true c14
                              clear c14
                              by_cases c15 : 0 ≤ x7_3
                              · rw [if_pos c15] at H
                                have c15b0 : decide (0 ≤ x7_3) = true := decide_eq_true c15
                                clear c15
                                by_cases c16 : x7_3 < (l0.length : Int)
                                · rw [if_pos c16] at H
                                  have c16b0 : decide (x7_3 < (l0.length : Int)) = true := decide_eq_true c16
                                  clear c16
                                  by_cases c17 : ((rd_T24 l0 x9_4).f1) = ((rd_T24 l0 x7_3).f1)
                                  · rw [if_pos c17] at H
                                    have c17b0 : (((rd_T24 l0 x9_4).f1) == ((rd_T24 l0 x7_3).f1)) = true := beq_iff_eq.mpr c17
                                    have c17b1 : (((rd_T24 l0 x9_4).f1) != ((rd_T24 l0 x7_3).f1)) = false := bne_eq_false_iff_eq.mpr c17
                                    clear c17
                                    by_cases c18 : ((rd_T24 l0 x9_4).f2).toList = ((rd_T24 l0 x7_3).f2).toList
                                    · rw [if_pos c18] at H
                                      have c18b0 : (((rd_T24 l0 x9_4).f2).toList == ((rd_T24 l0 x7_3).f2).toList) = true := beq_iff_eq.mpr c18
                                      have c18b1 : (((rd_T24 l0 x9_4).f2).toList != ((rd_T24 l0 x7_3).f2).toList) = false := bne_eq_false_iff_eq.mpr c18
                                      clear c18
                                      have H' := Aside0.mk H
                                      clear H
                                      have p206 : 0 ≤ (x9_4 : Int) := of_decide_eq_true (by first | (with_reducible assumption) | assumption)
                                      have q206 : x9_4 < (l0.length : Int) := of_decide_eq_true (by first | (with_reducible assumption) | assumption)
                                      obtain ⟨ad206, e206, hx206_0, hx206_1, hx206_2⟩ := at_T24 HR0.out x9_4 p206 q206
                                      cases e206
                                      replace hx206_0 := (HB.out.cell (World.block_lt_of_cell? w _ hx206_0)).trans hx206_0
                                      replace hx206_1 := (HB.out.cell (World.block_lt_of_cell? w _ hx206_1)).trans hx206_1
                                      replace hx206_2 := (HB.out.cell (World.block_lt_of_cell? w _ hx206_2)).trans hx206_2
                                      replace p206 := eq_true p206
                                      replace q206 := eq_true q206
                                      have p207 : 0 ≤ (x9_4 : Int) := of_decide_eq_true (by first | (with_reducible assumption) | assumption)
                                      have q207 : x9_4 < (l0.length : Int) := of_decide_eq_true (by first | (with_reducible assumption) | assumption)
                                      obtain ⟨ad207, e207, hx207_0, hx207_1, hx207_2⟩ := at_T24 HR0.out x9_4 p207 q207
                                      obtain rfl : ad206 = ad207 := (by injection e207)
                                      replace hx207_0 := (HB.out.cell (World.block_lt_of_cell? w _ hx207_0)).trans hx207_0
                                      replace hx207_1 := (HB.out.cell (World.block_lt_of_cell? w _ hx207_1)).trans hx207_1
                                      replace hx207_2 := (HB.out.cell (World.block_lt_of_cell? w _ hx207_2)).trans hx207_2
                                      replace p207 := eq_true p207
                                      replace q207 := eq_true q207
                                      have p208 : 0 ≤ (x7_3 : Int) := of_decide_eq_true (by first | (with_reducible assumption) | assumption)
                                      have q208 : x7_3 < (l0.length : Int) := of_decide_eq_true (by first | (with_reducible assumption) | assumption)
                                      obtain ⟨ad208, e208, hx208_0, hx208_1, hx208_2⟩ := at_T24 HR0.out x7_3 p208 q208
                                      obtain rfl : ad206 = ad208 := (by injection e208)
                                      replace hx208_0 := (HB.out.cell (World.block_lt_of_cell? w _ hx208_0)).trans hx208_0
                                      replace hx208_1 := (HB.out.cell (World.block_lt_of_cell? w _ hx208_1)).trans hx208_1
                                      replace hx208_2 := (HB.out.cell (World.block_lt_of_cell? w _ hx208_2)).trans hx208_2
                                      replace p208 := eq_true p208
                                      replace q208 := eq_true q208
                                      have p209 : 0 ≤ (x9_4 : Int) := of_decide_eq_true (by first | (with_reducible assumption) | assumption)
                                      have q209 : x9_4 < (l0.length : Int) := of_decide_eq_true (by first | (with_reducible assumption) | assumption)
                                      obtain ⟨ad209, e209, hx209_0, hx209_1, hx209_2⟩ := at_T24 HR0.out x9_4 p209 q209
                                      obtain rfl : ad206 = ad209 := (by injection e209)
                                      replace hx209_0 := (HB.out.cell (World.block_lt_of_cell? w _ hx209_0)).trans hx209_0
                                      replace hx209_1 := (HB.out.cell (World.block_lt_of_cell? w _ hx209_1)).trans hx209_1
                                      replace hx209_2 := (HB.out.cell (World.block_lt_of_cell? w _ hx209_2)).trans hx209_2
                                      replace p209 := eq_true p209
                                      replace q209 := eq_true q209
                                      have p210 : 0 ≤ (x7_3 : Int) := of_decide_eq_true (by first | (with_reducible assumption) | assumption)
                                      have q210 : x7_3 < (l0.length : Int) := of_decide_eq_true (by first | (with_reducible assumption) | assumption)
                                      obtain ⟨ad210, e210, hx210_0, hx210_1, hx210_2⟩ := at_T24 HR0.out x7_3 p210 q210
                                      obtain rfl : ad206 = ad210 := (by injection e210)
                                      replace hx210_0 := (HB.out.cell (World.block_lt_of_cell? w _ hx210_0)).trans hx210_0
                                      replace hx210_1 := (HB.out.cell (World.block_lt_of_cell? w _ hx210_1)).trans hx210_1
                                      replace hx210_2 := (HB.out.cell (World.block_lt_of_cell? w _ hx210_2)).trans hx210_2
                                      replace p210 := eq_true p210
                                      replace q210 := eq_true q210
                                      go_wp2
                                      repeat (go_quiet (fail); try go_wp2)
                                      go_roundg k4
                                      case measure => have := HJ1.out; have := HK2.out; have := HK3.out; have := HK4.out; omega
                                      case rel => exact ⟨(wrap64 (x8_4 + 1)), (wrap64 (x9_4 + 1)), (by first | rfl | (simp; done) | (simp [*]; done)), (by first | rfl | (simp; done) | (simp [*]; done)), H', ⟨by have := HJ1.out; have := HK2.out; have := HK3.out; have := HK4.out; omega⟩, ⟨by repeat (first | (with_reducible first | exact HB.out | apply below_alloc | apply pw_below_drewN | apply below_drew1) | exact HB.out)⟩⟩
                                    · rw [if_neg c18] at H
                                      have c18b0 : (((rd_T24 l0 x9_4).f2).toList == ((rd_T24 l0 x7_3).f2).toList) = false := beq_eq_false_iff_ne.mpr c18
                                      have c18b1 : (((rd_T24 l0 x9_4).f2).toList != ((rd_T24 l0 x7_3).f2).toList) = true := bne_iff_ne.mpr c18
                                      have H' := Aside0.mk H
                                      clear H
                                      have p206 : 0 ≤ (x9_4 : Int) := of_decide_eq_true (by first | (with_reducible assumption) | assumption)
                                      have q206 : x9_4 < (l0.length : Int) := of_decide_eq_true (by first | (with_reducible assumption) | assumption)
                                      obtain ⟨ad206, e206, hx206_0, hx206_1, hx206_2⟩ := at_T24 HR0.out x9_4 p206 q206
                                      cases e206
                                      replace hx206_0 := (HB.out.cell (World.block_lt_of_cell? w _ hx206_0)).trans hx206_0
                                      replace hx206_1 := (HB.out.cell (World.block_lt_of_cell? w _ hx206_1)).trans hx206_1
                                      replace hx206_2 := (HB.out.cell (World.block_lt_of_cell? w _ hx206_2)).trans hx206_2
                                      replace p206 := eq_true p206
                                      replace q206 := eq_true q206
                                      have p207 : 0 ≤ (x9_4 : Int) := of_decide_eq_true (by first | (with_reducible assumption) | assumption)
                                      have q207 : x9_4 < (l0.length : Int) := of_decide_eq_true (by first | (with_reducible assumption) | assumption)
                                      obtain ⟨ad207, e207, hx207_0, hx207_1, hx207_2⟩ := at_T24 HR0.out x9_4 p207 q207
                                      obtain rfl : ad206 = ad207 := (by injection e207)
                                      replace hx207_0 := (HB.out.cell (World.block_lt_of_cell? w _ hx207_0)).trans hx207_0
                                      replace hx207_1 := (HB.out.cell (World.block_lt_of_cell? w _ hx207_1)).trans hx207_1
                                      replace hx207_2 := (HB.out.cell (World.block_lt_of_cell? w _ hx207_2)).trans hx207_2
                                      replace p207 := eq_true p207
                                      replace q207 := eq_true q207
                                      have p208 : 0 ≤ (x7_3 : Int) := of_decide_eq_true (by first | (with_reducible assumption) | assumption)
                                      have q208 : x7_3 < (l0.length : Int) := of_decide_eq_true (by first | (with_reducible assumption) | assumption)
                                      obtain ⟨ad208, e208, hx208_0, hx208_1, hx208_2⟩ := at_T24 HR0.out x7_3 p208 q208
                                      obtain rfl : ad206 = ad208 := (by injection e208)
                                      replace hx208_0 := (HB.out.cell (World.block_lt_of_cell? w _ hx208_0)).trans hx208_0
                                      replace hx208_1 := (HB.out.cell (World.block_lt_of_cell? w _ hx208_1)).trans hx208_1
                                      replace hx208_2 := (HB.out.cell (World.block_lt_of_cell? w _ hx208_2)).trans hx208_2
                                      replace p208 := eq_true p208
                                      replace q208 := eq_true q208
                                      have p209 : 0 ≤ (x9_4 : Int) := of_decide_eq_true (by first | (with_reducible assumption) | assumption)
                                      have q209 : x9_4 < (l0.length : Int) := of_decide_eq_true (by first | (with_reducible assumption) | assumption)
                                      obtain ⟨ad209, e209, hx209_0, hx209_1, hx209_2⟩ := at_T24 HR0.out x9_4 p209 q209
                                      obtain rfl : ad206 = ad209 := (by injection e209)
                                      replace hx209_0 := (HB.out.cell (World.block_lt_of_cell? w _ hx209_0)).trans hx209_0
                                      replace hx209_1 := (HB.out.cell (World.block_lt_of_cell? w _ hx209_1)).trans hx209_1
                                      replace hx209_2 := (HB.out.cell (World.block_lt_of_cell? w _ hx209_2)).trans hx209_2
                                      replace p209 := eq_true p209
                                      replace q209 := eq_true q209
                                      have p210 : 0 ≤ (x7_3 : Int) := of_decide_eq_true (by first | (with_reducible assumption) | assumption)
                                      have q210 : x7_3 < (l0.length : Int) := of_decide_eq_true (by first | (with_reducible assumption) | assumption)
                                      obtain ⟨ad210, e210, hx210_0, hx210_1, hx210_2⟩ := at_T24 HR0.out x7_3 p210 q210
                                      obtain rfl : ad206 = ad210 := (by injection e210)
                                      replace hx210_0 := (HB.out.cell (World.block_lt_of_cell? w _ hx210_0)).trans hx210_0
                                      replace hx210_1 := (HB.out.cell (World.block_lt_of_cell? w _ hx210_1)).trans hx210_1
                                      replace hx210_2 := (HB.out.cell (World.block_lt_of_cell? w _ hx210_2)).trans hx210_2
                                      replace p210 := eq_true p210
                                      replace q210 := eq_true q210
                                      go_wp2
                                      repeat (go_quiet (fail); try go_wp2)
                                      go_roundg k4
                                      case measure => have := HJ1.out; have := HK2.out; have := HK3.out; have := HK4.out; omega
                                      case rel => exact ⟨(x8_4), (wrap64 (x9_4 + 1)), (by first | rfl | (simp; done) | (simp [*]; done)), (by first | rfl | (simp; done) | (simp [*]; done)), H', ⟨by have := HJ1.out; have := HK2.out; have := HK3.out; have := HK4.out; omega⟩, ⟨by repeat (first | (with_reducible first | exact HB.out | apply below_alloc | apply pw_below_drewN | apply below_drew1) | exact HB.out)⟩⟩
                                  · rw [if_neg c17] at H
                                    have c17b0 : (((rd_T24 l0 x9_4).f1) == ((rd_T24 l0 x7_3).f1)) = false := beq_eq_false_iff_ne.mpr c17
                                    have c17b1 : (((rd_T24 l0 x9_4).f1) != ((rd_T24 l0 x7_3).f1)) = true := bne_iff_ne.mpr c17
                                    have H' := Aside0.mk H
                                    clear H
                                    have p206 : 0 ≤ (x9_4 : Int) := of_decide_eq_true (by first | (with_reducible assumption) | assumption)
                                    have q206 : x9_4 < (l0.length : Int) := of_decide_eq_true (by first | (with_reducible assumption) | assumption)
                                    obtain ⟨ad206, e206, hx206_0, hx206_1, hx206_2⟩ := at_T24 HR0.out x9_4 p206 q206
                                    cases e206
                                    replace hx206_0 := (HB.out.cell (World.block_lt_of_cell? w _ hx206_0)).trans hx206_0
                                    replace hx206_1 := (HB.out.cell (World.block_lt_of_cell? w _ hx206_1)).trans hx206_1
                                    replace hx206_2 := (HB.out.cell (World.block_lt_of_cell? w _ hx206_2)).trans hx206_2
                                    replace p206 := eq_true p206
                                    replace q206 := eq_true q206
                                    have p207 : 0 ≤ (x9_4 : Int) := of_decide_eq_true (by first | (with_reducible assumption) | assumption)
                                    have q207 : x9_4 < (l0.length : Int) := of_decide_eq_true (by first | (with_reducible assumption) | assumption)
                                    obtain ⟨ad207, e207, hx207_0, hx207_1, hx207_2⟩ := at_T24 HR0.out x9_4 p207 q207
                                    obtain rfl : ad206 = ad207 := (by injection e207)
                                    replace hx207_0 := (HB.out.cell (World.block_lt_of_cell? w _ hx207_0)).trans hx207_0
                                    replace hx207_1 := (HB.out.cell (World.block_lt_of_cell? w _ hx207_1)).trans hx207_1
                                    replace hx207_2 := (HB.out.cell (World.block_lt_of_cell? w _ hx207_2)).trans hx207_2
                                    replace p207 := eq_true p207
                                    replace q207 := eq_true q207
                                    have p208 : 0 ≤ (x7_3 : Int) := of_decide_eq_true (by first | (with_reducible assumption) | assumption)
                                    have q208 : x7_3 < (l0.length : Int) := of_decide_eq_true (by first | (with_reducible assumption) | assumption)
                                    obtain ⟨ad208, e208, hx208_0, hx208_1, hx208_2⟩ := at_T24 HR0.out x7_3 p208 q208
                                    obtain rfl : ad206 = ad208 := (by injection e208)
                                    replace hx208_0 := (HB.out.cell (World.block_lt_of_cell? w _ hx208_0)).trans hx208_0
                                    replace hx208_1 := (HB.out.cell (World.block_lt_of_cell? w _ hx208_1)).trans hx208_1
                                    replace hx208_2 := (HB.out.cell (World.block_lt_of_cell? w _ hx208_2)).trans hx208_2
                                    replace p208 := eq_true p208
                                    replace q208 := eq_true q208
                                    go_wp2
                                    repeat (go_quiet (fail); try go_wp2)
                                    go_roundg k4
                                    case measure => have := HJ1.out; have := HK2.out; have := HK3.out; have := HK4.out; omega
                                    case rel => exact ⟨(x8_4), (wrap64 (x9_4 + 1)), (by first | rfl | (simp; done) | (simp [*]; done)), (by first | rfl | (simp; done) | (simp [*]; done)), H', ⟨by have := HJ1.out; have := HK2.out; have := HK3.out; have := HK4.out; omega⟩, ⟨by repeat (first | (with_reducible first | exact HB.out | apply below_alloc | apply pw_below_drewN | apply below_drew1) | exact HB.out)⟩⟩
                                · rw [if_neg c16] at H
                                  exact absurd H (by simp)
                              · rw [if_neg c15] at H
                                exact absurd H (by simp)
                            · rw [if_neg c14] at H
                              have c14b0 : decide (0 < ((rd_T24 l0 x9_4).f1)) = false := decide_eq_false c14
                              clear c14
                              have H' := Aside0.mk H
                              clear H
                              have p206 : 0 ≤ (x9_4 : Int) := of_decide_eq_true (by first | (with_reducible assumption) | assumption)
                              have q206 : x9_4 < (l0.length : Int) := of_decide_eq_true (by first | (with_reducible assumption) | assumption)
                              obtain ⟨ad206, e206, hx206_0, hx206_1, hx206_2⟩ := at_T24 HR0.out x9_4 p206 q206
                              cases e206
                              replace hx206_0 := (HB.out.cell (World.block_lt_of_cell? w _ hx206_0)).trans hx206_0
                              replace hx206_1 := (HB.out.cell (World.block_lt_of_cell? w _ hx206_1)).trans hx206_1
                              replace hx206_2 := (HB.out.cell (World.block_lt_of_cell? w _ hx206_2)).trans hx206_2
                              replace p206 := eq_true p206
                              replace q206 := eq_true q206
                              go_wp2
                              repeat (go_quiet (fail); try go_wp2)
                              go_roundg k4
                              case measure => have := HJ1.out; have := HK2.out; have := HK3.out; have := HK4.out; omega
                              case rel => exact ⟨(x8_4), (wrap64 (x9_4 + 1)), (by first | rfl | (simp; done) | (simp [*]; done)), (by first | rfl | (simp; done) | (simp [*]; done)), H', ⟨by have := HJ1.out; have := HK2.out; have := HK3.out; have := HK4.out; omega⟩, ⟨by repeat (first | (with_reducible first | exact HB.out | apply below_alloc | apply pw_below_drewN | apply below_drew1) | exact HB.out)⟩⟩
                          · rw [if_neg c13] at H
                            exact absurd H (by simp)
                        · rw [if_neg c12] at H
                          have c12b0 : decide (x9_4 < (l0.length : Int)) = false := decide_eq_false c12
                          clear c12
                          by_cases c19 : (wrap64 (2 * x8_4)) > (l0.length : Int)
                          · rw [if_pos c19] at H
                            have c19b0 : decide ((l0.length : Int) < (wrap64 (2 * x8_4))) = true := decide_eq_true c19
                            clear c19
                            by_cases c20 : 0 ≤ x7_3
                            · rw [if_pos c20] at H
                              have c20b0 : decide (0 ≤ x7_3) = true := decide_eq_true c20
                              clear c20
                              by_cases c21 : x7_3 < (l0.length : Int)
                              · rw [if_pos c21] at H
                                have c21b0 : decide (x7_3 < (l0.length : Int)) = true := decide_eq_true c21
                                clear c21
                                simp only [Option.some.injEq, Prod.mk.injEq] at H
                                obtain ⟨rfl, rfl, rfl⟩ := H
                                have p211 : 0 ≤ (x7_3 : Int) := of_decide_eq_true (by first | (with_reducible assumption) | assumption)
                                have q211 : x7_3 < (l0.length : Int) := of_decide_eq_true (by first | (with_reducible assumption) | assumption)
                                obtain ⟨ad211, e211, hx211_0, hx211_1, hx211_2⟩ := at_T24 HR0.out x7_3 p211 q211
                                cases e211
                                replace hx211_0 := (HB.out.cell (World.block_lt_of_cell? w _ hx211_0)).trans hx211_0
                                replace hx211_1 := (HB.out.cell (World.block_lt_of_cell? w _ hx211_1)).trans hx211_1
                                replace hx211_2 := (HB.out.cell (World.block_lt_of_cell? w _ hx211_2)).trans hx211_2
                                replace p211 := eq_true p211
                                replace q211 := eq_true q211
                                go_wp2
                                repeat (go_quiet (fail); try go_wp2)
                                go_ret3
                                exact ⟨by first | rfl | (simp [errW_none, errW_some] <;> rfl) | (simp [*, errW_none, errW_some] <;> rfl), by repeat (first | (with_reducible first | exact HB.out | apply below_alloc | apply pw_below_drewN | apply below_drew1) | exact HB.out)⟩
                              · rw [if_neg c21] at H
                                exact absurd H (by simp)
                            · rw [if_neg c20] at H
                              exact absurd H (by simp)
                          · rw [if_neg c19] at H
                            have c19b0 : decide ((l0.length : Int) < (wrap64 (2 * x8_4))) = false := decide_eq_false c19
                            clear c19
                            have H' := Aside0.mk H
                            clear H
                            go_wp2
                            repeat (go_quiet (fail); try go_wp2)
                            go_roundg k4
                            case measure => have := HJ1.out; have := HK2.out; have := HK3.out; have := HK4.out; omega
                            case rel => exact ⟨(wrap64 (x7_3 + 1)), (by first | rfl | (simp; done) | (simp [*]; done)), H', ⟨by have := HJ1.out; have := HK2.out; have := HK3.out; have := HK4.out; omega⟩, ⟨by repeat (first | (with_reducible first | exact HB.out | apply below_alloc | apply pw_below_drewN | apply below_drew1) | exact HB.out)⟩⟩
                  · rw [if_neg c11] at H
                    have c11b0 : decide (x7_3 < (l0.length : Int)) = false := decide_eq_false c11
                    clear c11
                    simp only [Option.some.injEq, Prod.mk.injEq] at H
                    obtain ⟨rfl, rfl, rfl⟩ := H
                    go_wp2
                    repeat (go_quiet (fail); try go_wp2)
                    go_ret3
                    exact ⟨by first | rfl | (simp [errW_none, errW_some] <;> rfl) | (simp [*, errW_none, errW_some] <;> rfl), by repeat (first | (with_reducible first | exact HB.out | apply below_alloc | apply pw_below_drewN | apply below_drew1) | exact HB.out)⟩

end Go.Proofs.Ytnllilpbgenjbaa.P
