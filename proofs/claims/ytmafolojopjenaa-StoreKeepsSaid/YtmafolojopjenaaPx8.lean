-- Printed by a program of this session (the kit's print, with contracts of this session's beside it).
import Derived.Test.YtmafolojopjenaaPx0
namespace Go.Proofs.Ytmafolojopjenaa.P
open Go.RowKit Go.Proofs.YtmafolojopjenaaW.PrintWords Go.Proofs.YtmafolojopjenaaW.PrintLast Go.Proofs.YtmafolojopjenaaW.PrintMore
attribute [local go_sem] max2_int min2_int max_two min_two max_three min_three max_four min_four   -- for this text's walks alone
set_option linter.unusedVariables false
set_option linter.unusedSimpArgs false

/-! ### rostrumlaw04_data: function 36 -/
def rostrumlaw04_data.f (a0_0 : Int) (a0_1 : ByteArray) (a0_2 : Int) : Option (ByteArray) := if a0_2 = 99 then (if 5000 ≤ 281474976710656 then (some (strOfNums (List.replicate 5000 0))) else (none)) else (if 0 ≤ (mn (a0_1.size : Int) 100) then (if (mn (a0_1.size : Int) 100) ≤ (a0_1.size : Int) then (some (a0_1.extract 0 ((mn (a0_1.size : Int) 100) : Int).toNat)) else (none)) else (none))
set_option maxHeartbeats 8000000 in
set_option maxRecDepth 100000 in
theorem rostrumlaw04_data.calls (a0_0 : Int) (a0_1 : ByteArray) (a0_2 : Int) (r : ByteArray) (w : World) (h : rostrumlaw04_data.f a0_0 a0_1 a0_2 = some r) :
    Calls Try.prog 36 #[.agg #[.int .i64 a0_0, .string a0_1, .int .i64 a0_2]] w fun e w' => e = .returned (.string r) ∧ Below w.heap.size w w' := by
  have hu54 := Try.underlying54
  have HB := Aside0.mk (Below.refl w.heap.size w)
  have H : (if a0_2 = 99 then (if 5000 ≤ 281474976710656 then (some (strOfNums (List.replicate 5000 0))) else (none)) else (if 0 ≤ (mn (a0_1.size : Int) 100) then (if (mn (a0_1.size : Int) 100) ≤ (a0_1.size : Int) then (some (a0_1.extract 0 ((mn (a0_1.size : Int) 100) : Int).toNat)) else (none)) else (none))) = some r := h
  clear h
  by_cases c2 : a0_2 = 99
  · rw [if_pos c2] at H
    have c2b0 : (a0_2 == 99) = true := beq_iff_eq.mpr c2
    have c2b1 : (a0_2 != 99) = false := bne_eq_false_iff_eq.mpr c2
    clear c2
    by_cases c3 : 5000 ≤ 281474976710656
    · rw [if_pos c3] at H
      have c3b0 := eq_true c3
      have c3b1 : decide (5000 ≤ 281474976710656) = true := decide_eq_true c3
      clear c3
      obtain ⟨y259, hy259⟩ : ∃ y_ : List Int, y_ = (List.replicate 5000 0) := ⟨_, rfl⟩
      replace H : (some (strOfNums y259)) = some r := by first | (rw [hy259]; with_reducible exact H) | (have H2_ := (Option.bind_some _ _).symm.trans H; rw [hy259]; with_reducible exact H2_) | (have H2_ := (Option.bind_some _ _).symm.trans H; with_reducible exact H2_) | with_reducible exact H | (rw [hy259]; exact H) | exact H
      have Ny259 := Aside0.mk hy259
      clear hy259
      obtain rfl := Option.some.inj H
      go_enter Try.func36, Try.ntmps36
      go_wp2_with (first | ((with_reducible refine gate_dst (N := 1) rfl ?_); refine box_event ?hg (N := 1) ?hd (cs := #[.int .i64 a0_0, .string a0_1, .int .i64 a0_2]) (t := 54) ?hr ?_; (case hd => rfl); (case hg => rfl); (case hr => first | (go_simp; done) | (go_simp; rfl)); intro gb258 hg w4 hbox hb; have n0_ := Aside0.mk (below_step (by repeat (first | (with_reducible first | exact HB.out | apply below_alloc | apply pw_below_drewN | apply below_drew1) | exact HB.out)) hb); have n1_ := Aside0.mk (hbox); have n2_ := Aside0.mk ((by rw [hg]; exact (below_size (by repeat (first | (with_reducible first | exact HB.out | apply below_alloc | apply pw_below_drewN | apply below_drew1) | exact HB.out))) : w.heap.size ≤ gb258)); have n3_ := Aside0.mk ((by rw [hg]; exact (below_size (by repeat (first | (with_reducible first | exact HB.out | apply below_alloc | apply pw_below_drewN | apply below_drew1) | exact HB.out))) : w.heap.size ≤ gb258)); clear HB; have HB := n0_; have BK258 := n1_; have GW258 := n2_; have GE258 := n3_; clear n0_ n1_ n2_ n3_; clear hb hbox hg; have hcz5_0 : w4.cell? ⟨gb258, 0, none⟩ = some (.int .i64 a0_0) := (blk_cell BK258.out 0).trans rfl; have hcz5_1 : w4.cell? ⟨gb258, 1, none⟩ = some (.string a0_1) := (blk_cell BK258.out 1).trans rfl; have hcz5_2 : w4.cell? ⟨gb258, 2, none⟩ = some (.int .i64 a0_2) := (blk_cell BK258.out 2).trans rfl; have hfz5_0 := blk_frozen BK258.out 0; have hfz5_1 := blk_frozen BK258.out 1; have hfz5_2 := blk_frozen BK258.out 2) | ((with_reducible refine gate_dst (N := 6) rfl ?_); refine Kd.R_make (Kd.int .u8) _ 5 rfl (N := 6) rfl 49 _ _ rfl 5000 rfl rfl Try.underlying49 (.int .u8 0) 1 info5 rfl (by decide) (by omega) 0 (ok := fun _ => True) (okp := fun _ => True) rfl (fun _ hk => hk) trivial (by omega) (by omega) (Below.refl _ _) (Nat.le_refl _) ?_; intro v260 w6 ho7 hb hg_ hnew_; clear hg_ hnew_; (first | rw [← Ny259.out] at ho7 | (simp only [Int.reduceToNat] at ho7; rw [← Ny259.out] at ho7)); have n0_ := Aside0.mk (Kd.R_lower ho7 (below_size (by repeat (first | (with_reducible first | exact HB.out | apply below_alloc | apply pw_below_drewN | apply below_drew1 | refine below_set ?_ GE258.out) | exact HB.out)))); have n1_ := Aside0.mk (blk_below (g := gb258) (o := .cells #[.int .i64 a0_0, .string a0_1, .int .i64 a0_2] 54 (0, 0)) (by (with_reducible repeat (first | refine blk_drewN ?_ _ | refine blk_drew ?_ | refine blk_alloc ?_ _)); exact BK258.out) hb); have n2_ := Aside0.mk (below_step (by repeat (first | (with_reducible first | exact HB.out | apply below_alloc | apply pw_below_drewN | apply below_drew1 | refine below_set ?_ GE258.out) | exact HB.out)) hb); clear BK258; clear HB; have HO261 := n0_; have BK258 := n1_; have HB := n2_; clear n0_ n1_ n2_; clear hb ho7; have hcv8 := own_string (P := Try.prog) Try.underlying49 Try.underlying5 Try.underlying9 (Kd.own_of_R HO261.out)))
      go_ret
      exact ⟨by first | rfl | (simp [errW_none, errW_some] <;> rfl) | (simp [*, errW_none, errW_some] <;> rfl), by repeat (first | (with_reducible first | exact HB.out | apply below_alloc | apply pw_below_drewN | apply below_drew1 | refine below_set ?_ GE258.out) | exact HB.out)⟩
    · rw [if_neg c3] at H
      exact absurd H (by simp)
  · rw [if_neg c2] at H
    have c2b0 : (a0_2 == 99) = false := beq_eq_false_iff_ne.mpr c2
    have c2b1 : (a0_2 != 99) = true := bne_iff_ne.mpr c2
    obtain ⟨ji9, hji9⟩ : ∃ j_ : Int, (mn (a0_1.size : Int) 100) = j_ := ⟨_, rfl⟩
    replace H : (if 0 ≤ (ji9) then (if (ji9) ≤ (a0_1.size : Int) then (some (a0_1.extract 0 ((ji9) : Int).toNat)) else (none)) else (none)) = some r := by first | (rw [hji9] at H; exact H) | (simp only [hji9] at H ⊢; exact H)
    (try (have hji9h : ji9 ≤ 100 := by (rw [← hji9]; unfold mn; (repeat' split) <;> omega)))
    (try (have hji9g : ji9 ≤ 64 := by omega))
    (try (have hji9l : 0 ≤ ji9 := by (rw [← hji9]; unfold mn; (repeat' split) <;> omega)))
    (try (have hji9m : 0 ≤ ji9 := by omega))
    have hji9_ : (if 100 < (a0_1.size : Int) then 100 else (a0_1.size : Int)) = ji9 := hji9
    by_cases c10 : 0 ≤ (ji9)
    · rw [if_pos c10] at H
      have c10b0 := eq_true c10
      have c10b1 : decide (0 ≤ (ji9)) = true := decide_eq_true c10
      clear c10
      by_cases c11 : (ji9) ≤ (a0_1.size : Int)
      · rw [if_pos c11] at H
        have c11b0 := eq_true c11
        have c11b1 : decide ((ji9) ≤ (a0_1.size : Int)) = true := decide_eq_true c11
        clear c11
        obtain rfl := Option.some.inj H
        go_enter Try.func36, Try.ntmps36
        go_wp2_with (first | ((with_reducible refine gate_dst (N := 1) rfl ?_); refine box_event ?hg (N := 1) ?hd (cs := #[.int .i64 a0_0, .string a0_1, .int .i64 a0_2]) (t := 54) ?hr ?_; (case hd => rfl); (case hg => rfl); (case hr => first | (go_simp; done) | (go_simp; rfl)); intro gb258 hg w12 hbox hb; have n0_ := Aside0.mk (below_step (by repeat (first | (with_reducible first | exact HB.out | apply below_alloc | apply pw_below_drewN | apply below_drew1) | exact HB.out)) hb); have n1_ := Aside0.mk (hbox); have n2_ := Aside0.mk ((by rw [hg]; exact (below_size (by repeat (first | (with_reducible first | exact HB.out | apply below_alloc | apply pw_below_drewN | apply below_drew1) | exact HB.out))) : w.heap.size ≤ gb258)); have n3_ := Aside0.mk ((by rw [hg]; exact (below_size (by repeat (first | (with_reducible first | exact HB.out | apply below_alloc | apply pw_below_drewN | apply below_drew1) | exact HB.out))) : w.heap.size ≤ gb258)); clear HB; have HB := n0_; have BK258 := n1_; have GW258 := n2_; have GE258 := n3_; clear n0_ n1_ n2_ n3_; clear hb hbox hg; have hcz13_0 : w12.cell? ⟨gb258, 0, none⟩ = some (.int .i64 a0_0) := (blk_cell BK258.out 0).trans rfl; have hcz13_1 : w12.cell? ⟨gb258, 1, none⟩ = some (.string a0_1) := (blk_cell BK258.out 1).trans rfl; have hcz13_2 : w12.cell? ⟨gb258, 2, none⟩ = some (.int .i64 a0_2) := (blk_cell BK258.out 2).trans rfl; have hfz13_0 := blk_frozen BK258.out 0; have hfz13_1 := blk_frozen BK258.out 1; have hfz13_2 := blk_frozen BK258.out 2))
        go_ret
        exact ⟨by first | rfl | (simp [errW_none, errW_some] <;> rfl) | (simp only [← hji9]; first | rfl | (simp [errW_none, errW_some] <;> rfl)) | (simp [*, errW_none, errW_some] <;> rfl), by repeat (first | (with_reducible first | exact HB.out | apply below_alloc | apply pw_below_drewN | apply below_drew1 | refine below_set ?_ GE258.out) | exact HB.out)⟩
      · rw [if_neg c11] at H
        exact absurd H (by simp)
    · rw [if_neg c10] at H
      exact absurd H (by simp)

-- NOT PRINTED: function 13 (rostrumlaw04_StoreKeeps)

end Go.Proofs.Ytmafolojopjenaa.P
