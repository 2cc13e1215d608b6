-- Printed by a program of this session (the kit's print, with contracts of this session's beside it).
import Derived.Test.YtnllilpbgenjbaaPx0
import Derived.Test.YtnllilpbgenjbaaPx2
namespace Go.Proofs.Ytnllilpbgenjbaa.P
open Go.RowKit Go.Proofs.YtnllilpbgenjbaaW.PrintWords Go.Proofs.YtnllilpbgenjbaaW.PrintLast Go.Proofs.YtnllilpbgenjbaaW.PrintMore
attribute [local go_sem] max2_int min2_int max_two min_two max_three min_three max_four min_four   -- for this text's walks alone
set_option linter.unusedVariables false
set_option linter.unusedSimpArgs false

/-! ### rostrumref08_Proposal: function 23 -/
mutual
def rostrumref08_Proposal.j0 : Nat → List (S24) → ByteArray → Bool → Option (ByteArray × Int)
  | 0, _, _, _ => none
  | k + 1, x1, x2, x30 => if x30 = true then (some ((⟨#[]⟩ : ByteArray), 81)) else (if (x2.size : Int) > 4000 then (some ((⟨#[]⟩ : ByteArray), 2)) else (rostrumref08_Proposal.l0 k x1 0 x2 0))
def rostrumref08_Proposal.l0 : Nat → List (S24) → Int → ByteArray → Int → Option (ByteArray × Int)
  | 0, _, _, _, _ => none
  | k + 1, x1, x8, x9, x10 => if x10 < (x1.length : Int) then (if 0 ≤ x10 then ((rostrumref08_Right.f ((rd_T24 x1 x10).f0) ((rd_T24 x1 x10).f1) ((rd_T24 x1 x10).f2)).bind fun t200 => (if t200 = true then (if ((rd_T24 x1 x10).f1) > x8 then (rostrumref08_Proposal.l0 k x1 ((rd_T24 x1 x10).f1) ((rd_T24 x1 x10).f2) (wrap64 (x10 + 1))) else (rostrumref08_Proposal.l0 k x1 x8 x9 (wrap64 (x10 + 1)))) else (some ((⟨#[]⟩ : ByteArray), 2)))) else (none)) else (some (x9, 0))
end
def rostrumref08_Proposal.f (k : Nat) (a0 : Int) (l1 : List (S24)) (a2 : ByteArray) : Option (ByteArray × Int) := if a0 < 1 then (rostrumref08_Proposal.j0 k l1 a2 true) else (if a0 > 16 then (rostrumref08_Proposal.j0 k l1 a2 true) else (if (l1.length : Int) > a0 then (rostrumref08_Proposal.j0 k l1 a2 true) else (rostrumref08_Proposal.j0 k l1 a2 (decide ((wrap64 (2 * (l1.length : Int))) ≤ a0)))))
theorem rostrumref08_Proposal.mono_l : ∀ k, (∀ y0 y1 y2, LeO (rostrumref08_Proposal.j0 k y0 y1 y2) (rostrumref08_Proposal.j0 (k + 1) y0 y1 y2)) ∧ (∀ y0 y1 y2 y3, LeO (rostrumref08_Proposal.l0 k y0 y1 y2 y3) (rostrumref08_Proposal.l0 (k + 1) y0 y1 y2 y3))
  | 0 => ⟨fun _ _ _ r h => by simp [rostrumref08_Proposal.j0] at h, fun _ _ _ _ r h => by simp [rostrumref08_Proposal.l0] at h⟩
  | k + 1 => by
    obtain ⟨ih0, ih1⟩ := rostrumref08_Proposal.mono_l k
    refine ⟨?_, ?_⟩
    · intro y0 y1 y2
      unfold rostrumref08_Proposal.j0
      repeat' first
      | (with_reducible exact ih0 _ _ _)
      | (with_reducible exact ih1 _ _ _ _)
      | (with_reducible exact LeO.refl _)
      | (with_reducible exact LeO.none _)
      | (with_reducible refine LeO.ite ?_ ?_)
      | (with_reducible refine LeO.bind ?_ (fun _ => ?_))
      | exact ih0 _ _ _
      | exact ih1 _ _ _ _
      | exact LeO.none _
      | refine LeO.ite ?_ ?_
      | refine LeO.bind ?_ (fun _ => ?_)
    · intro y0 y1 y2 y3
      unfold rostrumref08_Proposal.l0
      repeat' first
      | (with_reducible exact ih0 _ _ _)
      | (with_reducible exact ih1 _ _ _ _)
      | (with_reducible exact LeO.refl _)
      | (with_reducible exact LeO.none _)
      | (with_reducible refine LeO.ite ?_ ?_)
      | (with_reducible refine LeO.bind ?_ (fun _ => ?_))
      | exact ih0 _ _ _
      | exact ih1 _ _ _ _
      | exact LeO.none _
      | refine LeO.ite ?_ ?_
      | refine LeO.bind ?_ (fun _ => ?_)
theorem rostrumref08_Proposal.mono : ∀ a0 a1 a2 k, LeO (rostrumref08_Proposal.f k a0 a1 a2) (rostrumref08_Proposal.f (k + 1) a0 a1 a2) := by
  intro a0 a1 a2 k
  obtain ⟨ih0, ih1⟩ := rostrumref08_Proposal.mono_l k
  unfold rostrumref08_Proposal.f
  repeat' first
      | (with_reducible exact ih0 _ _ _)
      | (with_reducible exact ih1 _ _ _ _)
      | (with_reducible exact LeO.refl _)
      | (with_reducible exact LeO.none _)
      | (with_reducible refine LeO.ite ?_ ?_)
      | (with_reducible refine LeO.bind ?_ (fun _ => ?_))
      | exact ih0 _ _ _
      | exact ih1 _ _ _ _
      | exact LeO.none _
      | refine LeO.ite ?_ ?_
      | refine LeO.bind ?_ (fun _ => ?_)
set_option maxHeartbeats 8000000 in
set_option maxRecDepth 100000 in
theorem rostrumref08_Proposal.calls (k : Nat) (a0 : Int) (A1 : Option Addr) (c1 : Nat) (l1 : List (S24)) (a2 : ByteArray) (r1 : ByteArray) (r2 : Int) (w : World) (hr1 : Kd.C k24 w A1 l1.length l1) (hc1 : l1.length ≤ c1) (h : rostrumref08_Proposal.f k a0 l1 a2 = some (r1, r2)) :
    Calls Try.prog 23 #[.int .i64 a0, .slice A1 l1.length c1, .string a2] w fun e w' => e = .returned (.tuple #[.string r1, .int .i64 r2]) ∧ Below w.heap.size w w' := by
  have hu24 := Try.underlying24
  have HR1 := Aside0.mk hr1
  have HC1 := Aside0.mk hc1
  clear hr1 hc1
  have HB := Aside0.mk (Below.refl w.heap.size w)
  have H : (if a0 < 1 then (rostrumref08_Proposal.j0 k l1 a2 true) else (if a0 > 16 then (rostrumref08_Proposal.j0 k l1 a2 true) else (if (l1.length : Int) > a0 then (rostrumref08_Proposal.j0 k l1 a2 true) else (rostrumref08_Proposal.j0 k l1 a2 (decide ((wrap64 (2 * (l1.length : Int))) ≤ a0)))))) = some (r1, r2) := h
  clear h
  have HC4 := Aside0.mk H
  clear H
  go_enter Try.func23, Try.ntmps23
  go_upto_region 1 with (fail)
  go_cut [30] (fun v30 wc => ∃ (kq : Nat) (x30_3 : Bool), v30 = .bool x30_3 ∧ Aside0 (rostrumref08_Proposal.j0 kq l1 a2 x30_3 = some (r1, r2)) ∧ Aside0 (kq ≤ k) ∧ Aside0 (Below w.heap.size w wc))
  case first =>
    have H := HC4.out
    clear HC4
    by_cases c5 : a0 < 1
    · rw [if_pos c5] at H
      have c5b0 : decide (a0 < 1) = true := decide_eq_true c5
      clear c5
      (first | rw [c5b0] | (simp only [i64_w, i32_w]; rw [c5b0]) | skip)
      have H' := Aside0.mk H
      clear H
      go_wp2
      go_meet
      case rel => exact ⟨_, (true), (by first | rfl | (simp; done) | (simp [*]; done)), H', ⟨by first | omega | exact Nat.le_refl _⟩, ⟨by repeat (first | (with_reducible first | exact HB.out | apply below_alloc | apply pw_below_drewN | apply below_drew1) | exact HB.out)⟩⟩
    · rw [if_neg c5] at H
      have c5b0 : decide (a0 < 1) = false := decide_eq_false c5
      clear c5
      (first | rw [c5b0] | (simp only [i64_w, i32_w]; rw [c5b0]) | skip)
      by_cases c6 : a0 > 16
      · rw [if_pos c6] at H
        have c6b0 : decide (16 < a0) = true := decide_eq_true c6
        clear c6
        have H' := Aside0.mk H
        clear H
        go_wp2
        go_meet
        case rel => exact ⟨_, (true), (by first | rfl | (simp; done) | (simp [*]; done)), H', ⟨by first | omega | exact Nat.le_refl _⟩, ⟨by repeat (first | (with_reducible first | exact HB.out | apply below_alloc | apply pw_below_drewN | apply below_drew1) | exact HB.out)⟩⟩
      · rw [if_neg c6] at H
        have c6b0 : decide (16 < a0) = false := decide_eq_false c6
        clear c6
        by_cases c7 : (l1.length : Int) > a0
        · rw [if_pos c7] at H
          have c7b0 : decide (a0 < (l1.length : Int)) = true := decide_eq_true c7
          clear c7
          have H' := Aside0.mk H
          clear H
          go_wp2
          go_meet
          case rel => exact ⟨_, (true), (by first | rfl | (simp; done) | (simp [*]; done)), H', ⟨by first | omega | exact Nat.le_refl _⟩, ⟨by repeat (first | (with_reducible first | exact HB.out | apply below_alloc | apply pw_below_drewN | apply below_drew1) | exact HB.out)⟩⟩
        · rw [if_neg c7] at H
          have c7b0 : decide (a0 < (l1.length : Int)) = false := decide_eq_false c7
          clear c7
          have H' := Aside0.mk H
          clear H
          go_wp2
          go_meet
          case rel => exact ⟨_, (decide ((wrap64 (2 * (l1.length : Int))) ≤ a0)), (by first | rfl | (simp; done) | (simp [*]; done)), H', ⟨by first | omega | exact Nat.le_refl _⟩, ⟨by repeat (first | (with_reducible first | exact HB.out | apply below_alloc | apply pw_below_drewN | apply below_drew1) | exact HB.out)⟩⟩
  case rest =>
    clear HC4
    try clear c1
    try clear c2
    try clear p2
    try clear c5
    try clear c5b0
    try clear c6
    try clear c6b0
    try clear p6
    try clear c7
    try clear c7b0
    obtain ⟨kq, x30_3, rfl, HA, HJ3, HB⟩ := hcut
    cases kq with
    | zero => exact absurd HA.out (by simp [rostrumref08_Proposal.j0])
    | succ kj3 =>
      have H := HA.out
      clear HA
      simp only [rostrumref08_Proposal.j0] at H
      by_cases c8 : x30_3 = true
      · subst c8
        have H1 : (some ((⟨#[]⟩ : ByteArray), 81)) = some (r1, r2) := by rw [if_pos rfl] at H; exact H
        clear H
        have H := H1
        clear H1
        simp only [Option.some.injEq, Prod.mk.injEq] at H
        obtain ⟨rfl, rfl⟩ := H
        go_wp2
        go_ret2
        exact ⟨by first | rfl | (simp [errW_none, errW_some] <;> rfl) | (simp [*, errW_none, errW_some] <;> rfl), by repeat (first | (with_reducible first | exact HB.out | apply below_alloc | apply pw_below_drewN | apply below_drew1) | exact HB.out)⟩
      · replace c8 := Bool.eq_false_iff.mpr c8
        subst c8
        have H1 : (if (a2.size : Int) > 4000 then (some ((⟨#[]⟩ : ByteArray), 2)) else (rostrumref08_Proposal.l0 kj3 l1 0 a2 0)) = some (r1, r2) := by rw [if_neg (show ¬ (false = true) by decide)] at H; exact H
        clear H
        have H := H1
        clear H1
        by_cases c9 : (a2.size : Int) > 4000
        · rw [if_pos c9] at H
          have c9b0 : decide (4000 < (a2.size : Int)) = true := decide_eq_true c9
          have c9b1 : decide (4000 < a2.size) = true := decide_eq_true (by omega)
          clear c9
          simp only [Option.some.injEq, Prod.mk.injEq] at H
          obtain ⟨rfl, rfl⟩ := H
          go_wp2
          go_ret2
          exact ⟨by first | rfl | (simp [errW_none, errW_some] <;> rfl) | (simp [*, errW_none, errW_some] <;> rfl), by repeat (first | (with_reducible first | exact HB.out | apply below_alloc | apply pw_below_drewN | apply below_drew1) | exact HB.out)⟩
        · rw [if_neg c9] at H
          have c9b0 : decide (4000 < (a2.size : Int)) = false := decide_eq_false c9
          have c9b1 : decide (4000 < a2.size) = false := decide_eq_false (by omega)
          clear c9
          have H' := Aside0.mk H
          clear H
          go_wp2
          go_loopg [8, 9, 10] kj3 (fun kq v8 v9 v10 w' => ∃ (x8_2 : Int) (x9_2 : ByteArray) (x10_2 : Int), v8 = .int .u64 x8_2 ∧ v9 = .string x9_2 ∧ v10 = .int .i64 x10_2 ∧ Aside0 (rostrumref08_Proposal.l0 kq l1 x8_2 x9_2 x10_2 = some (r1, r2)) ∧ Aside0 (kq ≤ kj3) ∧ Aside0 (Below w.heap.size w w'))
          case atStart => exact ⟨(0), (a2), (0), (by first | rfl | (simp; done) | (simp [*]; done)), (by first | rfl | (simp; done) | (simp [*]; done)), (by first | rfl | (simp; done) | (simp [*]; done)), H', ⟨Nat.le_refl _⟩, ⟨by repeat (first | (with_reducible first | exact HB.out | apply below_alloc | apply pw_below_drewN | apply below_drew1) | exact HB.out)⟩⟩
          case round =>
            clear H'
            try clear c1
            try clear c2
            try clear p2
            try clear c5
            try clear c5b0
            try clear c6
            try clear c6b0
            try clear p6
            try clear c7
            try clear c7b0
            try clear c8
            try clear c9
            try clear c9b0
            try clear c9b1
            try clear p2
            try clear p6
            obtain ⟨x8_2, x9_2, x10_2, rfl, rfl, rfl, HA, HK2, HB⟩ := hrel
            cases gk with
            | zero => exact absurd HA.out (by simp [rostrumref08_Proposal.l0])
            | succ k2 =>
              have H := HA.out
              clear HA
              simp only [rostrumref08_Proposal.l0] at H
              by_cases c10 : x10_2 < (l1.length : Int)
              · rw [if_pos c10] at H
                have c10b0 : decide (x10_2 < (l1.length : Int)) = true := decide_eq_true c10
                clear c10
                by_cases c11 : 0 ≤ x10_2
                · rw [if_pos c11] at H
                  have c11b0 : decide (0 ≤ x10_2) = true := decide_eq_true c11
                  clear c11
                  replace H := Option.bind_eq_some_iff.mp H
                  obtain ⟨t200, A120, H⟩ := H
                  replace H : (if t200 = true then (if ((rd_T24 l1 x10_2).f1) > x8_2 then (rostrumref08_Proposal.l0 k2 l1 ((rd_T24 l1 x10_2).f1) ((rd_T24 l1 x10_2).f2) (wrap64 (x10_2 + 1))) else (rostrumref08_Proposal.l0 k2 l1 x8_2 x9_2 (wrap64 (x10_2 + 1)))) else (some ((⟨#[]⟩ : ByteArray), 2))) = some (r1, r2) := H
                  have A12 := Aside0.mk A120
                  clear A120
                  by_cases c13 : t200 = true
                  · subst c13
                    have H1 : (if ((rd_T24 l1 x10_2).f1) > x8_2 then (rostrumref08_Proposal.l0 k2 l1 ((rd_T24 l1 x10_2).f1) ((rd_T24 l1 x10_2).f2) (wrap64 (x10_2 + 1))) else (rostrumref08_Proposal.l0 k2 l1 x8_2 x9_2 (wrap64 (x10_2 + 1)))) = some (r1, r2) := by rw [if_pos rfl] at H; exact H
                    clear H
                    have H := H1
                    clear H1
                    by_cases c14 : ((rd_T24 l1 x10_2).f1) > x8_2
                    · rw [if_pos c14] at H
                      have c14b0 : decide (x8_2 < ((rd_T24 l1 x10_2).f1)) = true := decide_eq_true c14
                      clear c14
                      have H' := Aside0.mk H
                      clear H
                      have p199 : 0 ≤ (x10_2 : Int) := of_decide_eq_true (by first | (with_reducible assumption) | assumption)
                      have q199 : x10_2 < (l1.length : Int) := of_decide_eq_true (by first | (with_reducible assumption) | assumption)
                      obtain ⟨ad199, e199, hx199_0, hx199_1, hx199_2⟩ := at_T24 HR1.out x10_2 p199 q199
                      cases e199
                      replace hx199_0 := (HB.out.cell (World.block_lt_of_cell? w _ hx199_0)).trans hx199_0
                      replace hx199_1 := (HB.out.cell (World.block_lt_of_cell? w _ hx199_1)).trans hx199_1
                      replace hx199_2 := (HB.out.cell (World.block_lt_of_cell? w _ hx199_2)).trans hx199_2
                      replace p199 := eq_true p199
                      replace q199 := eq_true q199
                      go_wp2_with (first | ((with_reducible refine gate_callee (f := 17) rfl ?_); refine goesL_ (some 45) rfl rfl Try.func17 (by kernel_rfl) rfl #[.agg #[.int .u64 ((rd_T24 l1 x10_2).f0), .int .u64 ((rd_T24 l1 x10_2).f1), .string ((rd_T24 l1 x10_2).f2)]] rfl (by (try simp only [List.map_toArray, List.map_cons, List.map_nil]); first | done | rfl | (simp only [List.length_drop, List.length_take]; rfl)) ?_; (with_reducible refine (rostrumref08_Right.calls ((rd_T24 l1 x10_2).f0) ((rd_T24 l1 x10_2).f1) ((rd_T24 l1 x10_2).f2) true _ A12.out).mono ?_); rintro e w15 ⟨rfl, hb⟩; refine ⟨_, rfl, ?_⟩; have n0_ := Aside0.mk (below_step (by repeat (first | (with_reducible first | exact HB.out | apply below_alloc | apply pw_below_drewN | apply below_drew1) | exact HB.out)) hb); clear HB; have HB := n0_; clear n0_; (try clear hb); (try clear hb2); (try clear hk); (try clear hi); have p201 : 0 ≤ (x10_2 : Int) := of_decide_eq_true (by first | (with_reducible assumption) | assumption); have q201 : x10_2 < (l1.length : Int) := of_decide_eq_true (by first | (with_reducible assumption) | assumption); obtain ⟨ad201, e201, hx201_0, hx201_1, hx201_2⟩ := at_T24 HR1.out x10_2 p201 q201; obtain rfl : ad199 = ad201 := (by injection e201); replace hx201_0 := (HB.out.cell (World.block_lt_of_cell? w _ hx201_0)).trans hx201_0; replace hx201_1 := (HB.out.cell (World.block_lt_of_cell? w _ hx201_1)).trans hx201_1; replace hx201_2 := (HB.out.cell (World.block_lt_of_cell? w _ hx201_2)).trans hx201_2; replace p201 := eq_true p201; replace q201 := eq_true q201; have p202 : 0 ≤ (x10_2 : Int) := of_decide_eq_true (by first | (with_reducible assumption) | assumption); have q202 : x10_2 < (l1.length : Int) := of_decide_eq_true (by first | (with_reducible assumption) | assumption); obtain ⟨ad202, e202, hx202_0, hx202_1, hx202_2⟩ := at_T24 HR1.out x10_2 p202 q202; obtain rfl : ad199 = ad202 := (by injection e202); replace hx202_0 := (HB.out.cell (World.block_lt_of_cell? w _ hx202_0)).trans hx202_0; replace hx202_1 := (HB.out.cell (World.block_lt_of_cell? w _ hx202_1)).trans hx202_1; replace hx202_2 := (HB.out.cell (World.block_lt_of_cell? w _ hx202_2)).trans hx202_2; replace p202 := eq_true p202; replace q202 := eq_true q202; have p203 : 0 ≤ (x10_2 : Int) := of_decide_eq_true (by first | (with_reducible assumption) | assumption); have q203 : x10_2 < (l1.length : Int) := of_decide_eq_true (by first | (with_reducible assumption) | assumption); obtain ⟨ad203, e203, hx203_0, hx203_1, hx203_2⟩ := at_T24 HR1.out x10_2 p203 q203; obtain rfl : ad199 = ad203 := (by injection e203); replace hx203_0 := (HB.out.cell (World.block_lt_of_cell? w _ hx203_0)).trans hx203_0; replace hx203_1 := (HB.out.cell (World.block_lt_of_cell? w _ hx203_1)).trans hx203_1; replace hx203_2 := (HB.out.cell (World.block_lt_of_cell? w _ hx203_2)).trans hx203_2; replace p203 := eq_true p203; replace q203 := eq_true q203))
                      go_roundg k2
                      case measure => have := HJ3.out; have := HK2.out; omega
                      case rel => exact ⟨((rd_T24 l1 x10_2).f1), ((rd_T24 l1 x10_2).f2), (wrap64 (x10_2 + 1)), (by first | rfl | (simp; done) | (simp [*]; done)), (by first | rfl | (simp; done) | (simp [*]; done)), (by first | rfl | (simp; done) | (simp [*]; done)), H', ⟨by have := HJ3.out; have := HK2.out; omega⟩, ⟨by repeat (first | (with_reducible first | exact HB.out | apply below_alloc | apply pw_below_drewN | apply below_drew1) | exact HB.out)⟩⟩
                    · rw [if_neg c14] at H
                      have c14b0 : decide (x8_2 < ((rd_T24 l1 x10_2).f1)) = false := decide_eq_false c14
                      clear c14
                      have H' := Aside0.mk H
                      clear H
                      have p199 : 0 ≤ (x10_2 : Int) := of_decide_eq_true (by first | (with_reducible assumption) | assumption)
                      have q199 : x10_2 < (l1.length : Int) := of_decide_eq_true (by first | (with_reducible assumption) | assumption)
                      obtain ⟨ad199, e199, hx199_0, hx199_1, hx199_2⟩ := at_T24 HR1.out x10_2 p199 q199
                      cases e199
                      replace hx199_0 := (HB.out.cell (World.block_lt_of_cell? w _ hx199_0)).trans hx199_0
                      replace hx199_1 := (HB.out.cell (World.block_lt_of_cell? w _ hx199_1)).trans hx199_1
                      replace hx199_2 := (HB.out.cell (World.block_lt_of_cell? w _ hx199_2)).trans hx199_2
                      replace p199 := eq_true p199
                      replace q199 := eq_true q199
                      go_wp2_with (first | ((with_reducible refine gate_callee (f := 17) rfl ?_); refine goesL_ (some 45) rfl rfl Try.func17 (by kernel_rfl) rfl #[.agg #[.int .u64 ((rd_T24 l1 x10_2).f0), .int .u64 ((rd_T24 l1 x10_2).f1), .string ((rd_T24 l1 x10_2).f2)]] rfl (by (try simp only [List.map_toArray, List.map_cons, List.map_nil]); first | done | rfl | (simp only [List.length_drop, List.length_take]; rfl)) ?_; (with_reducible refine (rostrumref08_Right.calls ((rd_T24 l1 x10_2).f0) ((rd_T24 l1 x10_2).f1) ((rd_T24 l1 x10_2).f2) true _ A12.out).mono ?_); rintro e w16 ⟨rfl, hb⟩; refine ⟨_, rfl, ?_⟩; have n0_ := Aside0.mk (below_step (by repeat (first | (with_reducible first | exact HB.out | apply below_alloc | apply pw_below_drewN | apply below_drew1) | exact HB.out)) hb); clear HB; have HB := n0_; clear n0_; (try clear hb); (try clear hb2); (try clear hk); (try clear hi); have p201 : 0 ≤ (x10_2 : Int) := of_decide_eq_true (by first | (with_reducible assumption) | assumption); have q201 : x10_2 < (l1.length : Int) := of_decide_eq_true (by first | (with_reducible assumption) | assumption); obtain ⟨ad201, e201, hx201_0, hx201_1, hx201_2⟩ := at_T24 HR1.out x10_2 p201 q201; obtain rfl : ad199 = ad201 := (by injection e201); replace hx201_0 := (HB.out.cell (World.block_lt_of_cell? w _ hx201_0)).trans hx201_0; replace hx201_1 := (HB.out.cell (World.block_lt_of_cell? w _ hx201_1)).trans hx201_1; replace hx201_2 := (HB.out.cell (World.block_lt_of_cell? w _ hx201_2)).trans hx201_2; replace p201 := eq_true p201; replace q201 := eq_true q201))
                      go_roundg k2
                      case measure => have := HJ3.out; have := HK2.out; omega
                      case rel => exact ⟨(x8_2), (x9_2), (wrap64 (x10_2 + 1)), (by first | rfl | (simp; done) | (simp [*]; done)), (by first | rfl | (simp; done) | (simp [*]; done)), (by first | rfl | (simp; done) | (simp [*]; done)), H', ⟨by have := HJ3.out; have := HK2.out; omega⟩, ⟨by repeat (first | (with_reducible first | exact HB.out | apply below_alloc | apply pw_below_drewN | apply below_drew1) | exact HB.out)⟩⟩
                  · replace c13 := Bool.eq_false_iff.mpr c13
                    subst c13
                    have H1 : (some ((⟨#[]⟩ : ByteArray), 2)) = some (r1, r2) := by rw [if_neg (show ¬ (false = true) by decide)] at H; exact H
                    clear H
                    have H := H1
                    clear H1
                    simp only [Option.some.injEq, Prod.mk.injEq] at H
                    obtain ⟨rfl, rfl⟩ := H
                    have p199 : 0 ≤ (x10_2 : Int) := of_decide_eq_true (by first | (with_reducible assumption) | assumption)
                    have q199 : x10_2 < (l1.length : Int) := of_decide_eq_true (by first | (with_reducible assumption) | assumption)
                    obtain ⟨ad199, e199, hx199_0, hx199_1, hx199_2⟩ := at_T24 HR1.out x10_2 p199 q199
                    cases e199
                    replace hx199_0 := (HB.out.cell (World.block_lt_of_cell? w _ hx199_0)).trans hx199_0
                    replace hx199_1 := (HB.out.cell (World.block_lt_of_cell? w _ hx199_1)).trans hx199_1
                    replace hx199_2 := (HB.out.cell (World.block_lt_of_cell? w _ hx199_2)).trans hx199_2
                    replace p199 := eq_true p199
                    replace q199 := eq_true q199
                    go_wp2_with (first | ((with_reducible refine gate_callee (f := 17) rfl ?_); refine goesL_ (some 45) rfl rfl Try.func17 (by kernel_rfl) rfl #[.agg #[.int .u64 ((rd_T24 l1 x10_2).f0), .int .u64 ((rd_T24 l1 x10_2).f1), .string ((rd_T24 l1 x10_2).f2)]] rfl (by (try simp only [List.map_toArray, List.map_cons, List.map_nil]); first | done | rfl | (simp only [List.length_drop, List.length_take]; rfl)) ?_; (with_reducible refine (rostrumref08_Right.calls ((rd_T24 l1 x10_2).f0) ((rd_T24 l1 x10_2).f1) ((rd_T24 l1 x10_2).f2) false _ A12.out).mono ?_); rintro e w17 ⟨rfl, hb⟩; refine ⟨_, rfl, ?_⟩; have n0_ := Aside0.mk (below_step (by repeat (first | (with_reducible first | exact HB.out | apply below_alloc | apply pw_below_drewN | apply below_drew1) | exact HB.out)) hb); clear HB; have HB := n0_; clear n0_; (try clear hb); (try clear hb2); (try clear hk); (try clear hi)))
                    go_ret2
                    exact ⟨by first | rfl | (simp [errW_none, errW_some] <;> rfl) | (simp [*, errW_none, errW_some] <;> rfl), by repeat (first | (with_reducible first | exact HB.out | apply below_alloc | apply pw_below_drewN | apply below_drew1) | exact HB.out)⟩
                · rw [if_neg c11] at H
                  exact absurd H (by simp)
              · rw [if_neg c10] at H
                have c10b0 : decide (x10_2 < (l1.length : Int)) = false := decide_eq_false c10
                clear c10
                simp only [Option.some.injEq, Prod.mk.injEq] at H
                obtain ⟨rfl, rfl⟩ := H
                go_wp2
                go_ret2
                exact ⟨by first | rfl | (simp [errW_none, errW_some] <;> rfl) | (simp [*, errW_none, errW_some] <;> rfl), by repeat (first | (with_reducible first | exact HB.out | apply below_alloc | apply pw_below_drewN | apply below_drew1) | exact HB.out)⟩

end Go.Proofs.Ytnllilpbgenjbaa.P
