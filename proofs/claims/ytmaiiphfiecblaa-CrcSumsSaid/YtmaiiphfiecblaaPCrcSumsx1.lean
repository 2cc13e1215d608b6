-- Printed by a program of this session (the kit's print, with contracts of this session's beside it).
import Derived.Test.YtmaiiphfiecblaaPCrcSumsx0
namespace Go.Proofs.Ytmaiiphfiecblaa.PCrcSums
open Go.RowKit Go.Proofs.YtmaiiphfiecblaaW.PrintWords Go.Proofs.YtmaiiphfiecblaaW.PrintLast Go.Proofs.YtmaiiphfiecblaaW.PrintMore
attribute [local go_sem] max2_int min2_int max_two min_two max_three min_three max_four min_four   -- for this text's walks alone
set_option linter.unusedVariables false
set_option linter.unusedSimpArgs false

-- given: crc_Step

-- NOT PRINTED: function 29 (crc_bytes)

-- given: crc_More

-- given: crc_Sum

/-! ### crc_joined: function 31 -/
def crc_joined.l0 : Nat → Int → List Int → Int → Int → Option (Int)
  | 0, _, _, _, _ => none
  | k + 1, x3, x6, x7, x8 => if x8 < x7 then (if 0 ≤ x8 then (if x8 < (x6.length : Int) then (if 0 ≤ (wrap64 (8 * x8)) then (crc_joined.l0 k (Go.bits .or .u32 x3 (shl .u32 ((rd x6 x8) % 4294967296) (wrap64 (8 * x8)))) x6 x7 (wrap64 (x8 + 1))) else (none)) else (none)) else (none)) else (some x3)
def crc_joined.f (k : Nat) (l0 : List Int) : Option (Int) := crc_joined.l0 k 0 l0 (l0.length : Int) 0
theorem crc_joined.mono_l : ∀ k, (∀ y0 y1 y2 y3, LeO (crc_joined.l0 k y0 y1 y2 y3) (crc_joined.l0 (k + 1) y0 y1 y2 y3))
  | 0 => fun _ _ _ _ r h => by simp [crc_joined.l0] at h
  | k + 1 => by
    have ih0 := crc_joined.mono_l k
    · intro y0 y1 y2 y3
      unfold crc_joined.l0
      repeat' first
      | (with_reducible exact ih0 _ _ _ _)
      | (with_reducible exact LeO.refl _)
      | (with_reducible exact LeO.none _)
      | (with_reducible refine LeO.ite ?_ ?_)
      | (with_reducible refine LeO.bind ?_ (fun _ => ?_))
      | exact ih0 _ _ _ _
      | exact LeO.none _
      | refine LeO.ite ?_ ?_
      | refine LeO.bind ?_ (fun _ => ?_)
theorem crc_joined.mono : ∀ a0 k, LeO (crc_joined.f k a0) (crc_joined.f (k + 1) a0) := by
  intro a0 k
  have ih0 := crc_joined.mono_l k
  unfold crc_joined.f
  repeat' first
      | (with_reducible exact ih0 _ _ _ _)
      | (with_reducible exact LeO.refl _)
      | (with_reducible exact LeO.none _)
      | (with_reducible refine LeO.ite ?_ ?_)
      | (with_reducible refine LeO.bind ?_ (fun _ => ?_))
      | exact ih0 _ _ _ _
      | exact LeO.none _
      | refine LeO.ite ?_ ?_
      | refine LeO.bind ?_ (fun _ => ?_)
set_option maxHeartbeats 8000000 in
set_option maxRecDepth 100000 in
theorem crc_joined.calls (k : Nat) (A0 : Option Addr) (c0 : Nat) (l0 : List Int) (r : Int) (w : World) (hr0 : Kd.C (Kd.int .u8) w A0 l0.length l0) (hc0 : l0.length ≤ c0) (h : crc_joined.f k l0 = some r) :
    Calls Try.prog 31 #[.slice A0 l0.length c0] w fun e w' => e = .returned (.int .u32 r) ∧ Drawn0 w w' := by
  have HR0 := Aside0.mk hr0
  have HC0 := Aside0.mk hc0
  clear hr0 hc0
  have H : (crc_joined.l0 k 0 l0 (l0.length : Int) 0) = some r := h
  clear h
  have H' := Aside0.mk H
  clear H
  go_enter Try.func31, Try.ntmps31
  go_wp2
  go_loopg [3, 8] k (fun kq v3 v8 w' => ∃ (x3_1 : Int) (x8_1 : Int), v3 = .int .u32 x3_1 ∧ v8 = .int .i64 x8_1 ∧ Aside0 (crc_joined.l0 kq x3_1 l0 (l0.length : Int) x8_1 = some r) ∧ Aside0 (kq ≤ k) ∧ Drawn0 w w')
  case atStart => exact ⟨(0), (0), (by first | rfl | (simp; done) | (simp [*]; done)), (by first | rfl | (simp; done) | (simp [*]; done)), H', ⟨Nat.le_refl _⟩, by repeat (first | exact Drawn0.refl _ | apply Drawn0.step)⟩
  case round =>
    clear H'
    obtain ⟨x3_1, x8_1, rfl, rfl, HA, HK1, ⟨m1, rfl⟩⟩ := hrel
    cases gk with
    | zero => exact absurd HA.out (by simp [crc_joined.l0])
    | succ k1 =>
      have H := HA.out
      clear HA
      simp only [crc_joined.l0] at H
      by_cases c2 : x8_1 < (l0.length : Int)
      · rw [if_pos c2] at H
        have c2b0 : decide (x8_1 < (l0.length : Int)) = true := decide_eq_true c2
        clear c2
        by_cases c3 : 0 ≤ x8_1
        · rw [if_pos c3] at H
          have c3b0 : decide (0 ≤ x8_1) = true := decide_eq_true c3
          clear c3
          by_cases c4 : x8_1 < (l0.length : Int)
          · rw [if_pos c4] at H
            have c4b0 : decide (x8_1 < (l0.length : Int)) = true := decide_eq_true c4
            clear c4
            obtain ⟨ji5, hji5⟩ : ∃ j_ : Int, (wrap64 (8 * x8_1)) = j_ := ⟨_, rfl⟩
            replace H : (if 0 ≤ (ji5) then (crc_joined.l0 k1 (Go.bits .or .u32 x3_1 (shl .u32 ((rd l0 x8_1) % 4294967296) (ji5))) l0 (l0.length : Int) (wrap64 (x8_1 + 1))) else (none)) = some r := by first | (rw [hji5] at H; exact H) | (simp only [hji5] at H ⊢; exact H)
            have hji5w : (IntKind.i64.wrap (8 * x8_1)) = ji5 := (i64_w _).trans hji5
            by_cases c6 : 0 ≤ (ji5)
            · rw [if_pos c6] at H
              have c6b0 := eq_true c6
              have c6b1 : decide (0 ≤ (ji5)) = true := decide_eq_true c6
              clear c6
              obtain ⟨ji7, hji7⟩ : ∃ j_ : Int, (shl .u32 ((rd l0 x8_1) % 4294967296) (ji5)) = j_ := ⟨_, rfl⟩
              replace H : (crc_joined.l0 k1 (Go.bits .or .u32 x3_1 (ji7)) l0 (l0.length : Int) (wrap64 (x8_1 + 1))) = some r := by first | (rw [hji7] at H; exact H) | (simp only [hji7] at H ⊢; exact H)
              have hji7_ : (IntKind.u32.wrap (((rd l0 x8_1) % 4294967296) * 2 ^ min (ji5).toNat 32)) = ji7 := hji7
              have hji7z : (ji5) ≤ 32 → (IntKind.u32.wrap (((rd l0 x8_1) % 4294967296) * 2 ^ (ji5).toNat)) = ji7 := shl_small hji7
              have H' := Aside0.mk H
              clear H
              have p101 : 0 ≤ (x8_1 : Int) := of_decide_eq_true (by first | (with_reducible assumption) | assumption)
              have q101 : x8_1 < (l0.length : Int) := of_decide_eq_true (by first | (with_reducible assumption) | assumption)
              obtain ⟨ad101, e101, hx101_0⟩ := Kd.at_int HR0.out x8_1 p101 q101
              cases e101
              replace p101 := eq_true p101
              replace q101 := eq_true q101
              go_wp2
              go_roundg k1
              case measure => have := HK1.out; omega
              case rel => exact ⟨(Go.bits .or .u32 x3_1 (ji7)), (wrap64 (x8_1 + 1)), (by first | rfl | (simp; done) | (simp only [← hji7] <;> (first | rfl | simp)) | (simp [*]; done)), (by first | rfl | (simp; done) | (simp [*]; done)), H', ⟨by have := HK1.out; omega⟩, by repeat (first | exact Drawn0.refl _ | apply Drawn0.step)⟩
            · rw [if_neg c6] at H
              exact absurd H (by simp)
          · rw [if_neg c4] at H
            exact absurd H (by simp)
        · rw [if_neg c3] at H
          exact absurd H (by simp)
      · rw [if_neg c2] at H
        have c2b0 : decide (x8_1 < (l0.length : Int)) = false := decide_eq_false c2
        clear c2
        obtain rfl := Option.some.inj H
        go_wp2
        go_ret
        exact ⟨by first | rfl | (simp; done) | (simp [*]; done), by repeat (first | exact Drawn0.refl _ | apply Drawn0.step)⟩

-- given: crc_Get

-- given: crc_Put

-- given: crc_Seal

/-! ### rostrumlaw01_shown: function 11 -/
def rostrumlaw01_shown.f  : Option (Bool) := (G.crc_Get.f (⟨#[]⟩ : ByteArray)).bind fun bt102 => ((G.crc_Sum.f (⟨#[49, 50, 51, 52, 53, 54, 55, 56, 57]⟩ : ByteArray)).bind fun t104 => (if t104 = 3421780262 then ((G.crc_Seal.f (⟨#[]⟩ : ByteArray)).bind fun t105 => (if t105.toList = ([0, 0, 0, 0] : List UInt8) then (some (bt102.2 == 2)) else (some false))) else (some false)))
set_option maxHeartbeats 8000000 in
set_option maxRecDepth 100000 in
theorem rostrumlaw01_shown.calls  (r : Bool) (w : World) (h : rostrumlaw01_shown.f  = some r) :
    Calls Try.prog 11 #[] w fun e w' => e = .returned (.bool r) ∧ Below w.heap.size w w' := by
  have HB := Aside0.mk (Below.refl w.heap.size w)
  have H : ((G.crc_Get.f (⟨#[]⟩ : ByteArray)).bind fun bt102 => ((G.crc_Sum.f (⟨#[49, 50, 51, 52, 53, 54, 55, 56, 57]⟩ : ByteArray)).bind fun t104 => (if t104 = 3421780262 then ((G.crc_Seal.f (⟨#[]⟩ : ByteArray)).bind fun t105 => (if t105.toList = ([0, 0, 0, 0] : List UInt8) then (some (bt102.2 == 2)) else (some false))) else (some false)))) = some r := h
  clear h
  replace H := Option.bind_eq_some_iff.mp H
  obtain ⟨⟨t102, t103⟩, A10, H⟩ := H
  replace H : ((G.crc_Sum.f (⟨#[49, 50, 51, 52, 53, 54, 55, 56, 57]⟩ : ByteArray)).bind fun t104 => (if t104 = 3421780262 then ((G.crc_Seal.f (⟨#[]⟩ : ByteArray)).bind fun t105 => (if t105.toList = ([0, 0, 0, 0] : List UInt8) then (some (t103 == 2)) else (some false))) else (some false))) = some r := H
  have A1 := Aside0.mk A10
  clear A10
  replace H := Option.bind_eq_some_iff.mp H
  obtain ⟨t104, A20, H⟩ := H
  replace H : (if t104 = 3421780262 then ((G.crc_Seal.f (⟨#[]⟩ : ByteArray)).bind fun t105 => (if t105.toList = ([0, 0, 0, 0] : List UInt8) then (some (t103 == 2)) else (some false))) else (some false)) = some r := H
  have A2 := Aside0.mk A20
  clear A20
  by_cases c3 : t104 = 3421780262
  · rw [if_pos c3] at H
    have c3b0 : (t104 == 3421780262) = true := beq_iff_eq.mpr c3
    have c3b1 : (t104 != 3421780262) = false := bne_eq_false_iff_eq.mpr c3
    clear c3
    replace H := Option.bind_eq_some_iff.mp H
    obtain ⟨t105, A40, H⟩ := H
    replace H : (if t105.toList = ([0, 0, 0, 0] : List UInt8) then (some (t103 == 2)) else (some false)) = some r := H
    have A4 := Aside0.mk A40
    clear A40
    by_cases c5 : t105.toList = ([0, 0, 0, 0] : List UInt8)
    · rw [if_pos c5] at H
      have c5b0 : (t105.toList == ([0, 0, 0, 0] : List UInt8)) = true := beq_iff_eq.mpr c5
      have c5b1 : (t105.toList != ([0, 0, 0, 0] : List UInt8)) = false := bne_eq_false_iff_eq.mpr c5
      clear c5
      obtain rfl := Option.some.inj H
      go_enter Try.func11, Try.ntmps11
      go_wp2_with (first | ((with_reducible refine gate_callee (f := 19) rfl ?_); refine goesL_ (some 4) rfl rfl Try.func19 (by kernel_rfl) rfl #[.string (⟨#[]⟩ : ByteArray)] rfl (by (try simp only [List.map_toArray, List.map_cons, List.map_nil]); first | done | rfl | (simp only [List.length_drop, List.length_take]; rfl)) ?_; (with_reducible refine (G.crc_Get.calls (⟨#[]⟩ : ByteArray) t102 t103 _ A1.out).mono ?_); rintro e w6 ⟨rfl, hb⟩; refine ⟨_, rfl, ?_⟩; have n0_ := Aside0.mk (below_step (by repeat (first | (with_reducible first | exact HB.out | apply below_alloc | apply pw_below_drewN | apply below_drew1) | exact HB.out)) hb); clear HB; have HB := n0_; clear n0_; (try clear hb); (try clear hb2); (try clear hk); (try clear hi)) | ((with_reducible refine gate_callee (f := 14) rfl ?_); refine goesL_ (some 7) rfl rfl Try.func14 (by kernel_rfl) rfl #[.string (⟨#[49, 50, 51, 52, 53, 54, 55, 56, 57]⟩ : ByteArray)] rfl (by (try simp only [List.map_toArray, List.map_cons, List.map_nil]); first | done | rfl | (simp only [List.length_drop, List.length_take]; rfl)) ?_; (with_reducible refine (G.crc_Sum.calls (⟨#[49, 50, 51, 52, 53, 54, 55, 56, 57]⟩ : ByteArray) t104 _ A2.out).mono ?_); rintro e w7 ⟨rfl, hb⟩; refine ⟨_, rfl, ?_⟩; have n0_ := Aside0.mk (below_step (by repeat (first | (with_reducible first | exact HB.out | apply below_alloc | apply pw_below_drewN | apply below_drew1) | exact HB.out)) hb); clear HB; have HB := n0_; clear n0_; (try clear hb); (try clear hb2); (try clear hk); (try clear hi)) | (go_at_call 25; (with_reducible refine (G.crc_Seal.calls (⟨#[]⟩ : ByteArray) t105 _ A4.out).mono ?_); rintro e w8 ⟨rfl, hb⟩; have n0_ := Aside0.mk (below_step (by repeat (first | (with_reducible first | exact HB.out | apply below_alloc | apply pw_below_drewN | apply below_drew1) | exact HB.out)) hb); clear HB; have HB := n0_; clear n0_; (try clear hb); (try clear hb2); (try clear hk); (try clear hi)))
      go_ret
      exact ⟨by first | rfl | (simp [errW_none, errW_some] <;> rfl) | (simp [*, errW_none, errW_some] <;> rfl), by repeat (first | (with_reducible first | exact HB.out | apply below_alloc | apply pw_below_drewN | apply below_drew1) | exact HB.out)⟩
    · rw [if_neg c5] at H
      have c5b0 : (t105.toList == ([0, 0, 0, 0] : List UInt8)) = false := beq_eq_false_iff_ne.mpr c5
      have c5b1 : (t105.toList != ([0, 0, 0, 0] : List UInt8)) = true := bne_iff_ne.mpr c5
      obtain rfl := Option.some.inj H
      go_enter Try.func11, Try.ntmps11
      go_wp2_with (first | ((with_reducible refine gate_callee (f := 19) rfl ?_); refine goesL_ (some 4) rfl rfl Try.func19 (by kernel_rfl) rfl #[.string (⟨#[]⟩ : ByteArray)] rfl (by (try simp only [List.map_toArray, List.map_cons, List.map_nil]); first | done | rfl | (simp only [List.length_drop, List.length_take]; rfl)) ?_; (with_reducible refine (G.crc_Get.calls (⟨#[]⟩ : ByteArray) t102 t103 _ A1.out).mono ?_); rintro e w9 ⟨rfl, hb⟩; refine ⟨_, rfl, ?_⟩; have n0_ := Aside0.mk (below_step (by repeat (first | (with_reducible first | exact HB.out | apply below_alloc | apply pw_below_drewN | apply below_drew1) | exact HB.out)) hb); clear HB; have HB := n0_; clear n0_; (try clear hb); (try clear hb2); (try clear hk); (try clear hi)) | ((with_reducible refine gate_callee (f := 14) rfl ?_); refine goesL_ (some 7) rfl rfl Try.func14 (by kernel_rfl) rfl #[.string (⟨#[49, 50, 51, 52, 53, 54, 55, 56, 57]⟩ : ByteArray)] rfl (by (try simp only [List.map_toArray, List.map_cons, List.map_nil]); first | done | rfl | (simp only [List.length_drop, List.length_take]; rfl)) ?_; (with_reducible refine (G.crc_Sum.calls (⟨#[49, 50, 51, 52, 53, 54, 55, 56, 57]⟩ : ByteArray) t104 _ A2.out).mono ?_); rintro e w10 ⟨rfl, hb⟩; refine ⟨_, rfl, ?_⟩; have n0_ := Aside0.mk (below_step (by repeat (first | (with_reducible first | exact HB.out | apply below_alloc | apply pw_below_drewN | apply below_drew1) | exact HB.out)) hb); clear HB; have HB := n0_; clear n0_; (try clear hb); (try clear hb2); (try clear hk); (try clear hi)) | (go_at_call 25; (with_reducible refine (G.crc_Seal.calls (⟨#[]⟩ : ByteArray) t105 _ A4.out).mono ?_); rintro e w11 ⟨rfl, hb⟩; have n0_ := Aside0.mk (below_step (by repeat (first | (with_reducible first | exact HB.out | apply below_alloc | apply pw_below_drewN | apply below_drew1) | exact HB.out)) hb); clear HB; have HB := n0_; clear n0_; (try clear hb); (try clear hb2); (try clear hk); (try clear hi)))
      go_ret
      exact ⟨by first | rfl | (simp [errW_none, errW_some] <;> rfl) | (simp [*, errW_none, errW_some] <;> rfl), by repeat (first | (with_reducible first | exact HB.out | apply below_alloc | apply pw_below_drewN | apply below_drew1) | exact HB.out)⟩
  · rw [if_neg c3] at H
    have c3b0 : (t104 == 3421780262) = false := beq_eq_false_iff_ne.mpr c3
    have c3b1 : (t104 != 3421780262) = true := bne_iff_ne.mpr c3
    obtain rfl := Option.some.inj H
    go_enter Try.func11, Try.ntmps11
    go_wp2_with (first | ((with_reducible refine gate_callee (f := 19) rfl ?_); refine goesL_ (some 4) rfl rfl Try.func19 (by kernel_rfl) rfl #[.string (⟨#[]⟩ : ByteArray)] rfl (by (try simp only [List.map_toArray, List.map_cons, List.map_nil]); first | done | rfl | (simp only [List.length_drop, List.length_take]; rfl)) ?_; (with_reducible refine (G.crc_Get.calls (⟨#[]⟩ : ByteArray) t102 t103 _ A1.out).mono ?_); rintro e w12 ⟨rfl, hb⟩; refine ⟨_, rfl, ?_⟩; have n0_ := Aside0.mk (below_step (by repeat (first | (with_reducible first | exact HB.out | apply below_alloc | apply pw_below_drewN | apply below_drew1) | exact HB.out)) hb); clear HB; have HB := n0_; clear n0_; (try clear hb); (try clear hb2); (try clear hk); (try clear hi)) | ((with_reducible refine gate_callee (f := 14) rfl ?_); refine goesL_ (some 7) rfl rfl Try.func14 (by kernel_rfl) rfl #[.string (⟨#[49, 50, 51, 52, 53, 54, 55, 56, 57]⟩ : ByteArray)] rfl (by (try simp only [List.map_toArray, List.map_cons, List.map_nil]); first | done | rfl | (simp only [List.length_drop, List.length_take]; rfl)) ?_; (with_reducible refine (G.crc_Sum.calls (⟨#[49, 50, 51, 52, 53, 54, 55, 56, 57]⟩ : ByteArray) t104 _ A2.out).mono ?_); rintro e w13 ⟨rfl, hb⟩; refine ⟨_, rfl, ?_⟩; have n0_ := Aside0.mk (below_step (by repeat (first | (with_reducible first | exact HB.out | apply below_alloc | apply pw_below_drewN | apply below_drew1) | exact HB.out)) hb); clear HB; have HB := n0_; clear n0_; (try clear hb); (try clear hb2); (try clear hk); (try clear hi)))
    go_ret
    exact ⟨by first | rfl | (simp [errW_none, errW_some] <;> rfl) | (simp [*, errW_none, errW_some] <;> rfl), by repeat (first | (with_reducible first | exact HB.out | apply below_alloc | apply pw_below_drewN | apply below_drew1) | exact HB.out)⟩

-- given: rostrumref01_Step

/-! ### rostrumlaw01_cut: function 15 -/
def rostrumlaw01_cut.f (a0 : ByteArray) : Option (ByteArray) := if 0 ≤ (mn (a0.size : Int) 3000) then (if (mn (a0.size : Int) 3000) ≤ (a0.size : Int) then (some (a0.extract 0 ((mn (a0.size : Int) 3000) : Int).toNat)) else (none)) else (none)
set_option maxHeartbeats 8000000 in
set_option maxRecDepth 100000 in
theorem rostrumlaw01_cut.calls (a0 : ByteArray) (r : ByteArray) (w : World) (h : rostrumlaw01_cut.f a0 = some r) :
    Calls Try.prog 15 #[.string a0] w fun e w' => e = .returned (.string r) ∧ Below w.heap.size w w' := by
  have HB := Aside0.mk (Below.refl w.heap.size w)
  have H : (if 0 ≤ (mn (a0.size : Int) 3000) then (if (mn (a0.size : Int) 3000) ≤ (a0.size : Int) then (some (a0.extract 0 ((mn (a0.size : Int) 3000) : Int).toNat)) else (none)) else (none)) = some r := h
  clear h
  obtain ⟨ji2, hji2⟩ : ∃ j_ : Int, (mn (a0.size : Int) 3000) = j_ := ⟨_, rfl⟩
  replace H : (if 0 ≤ (ji2) then (if (ji2) ≤ (a0.size : Int) then (some (a0.extract 0 ((ji2) : Int).toNat)) else (none)) else (none)) = some r := by first | (rw [hji2] at H; exact H) | (simp only [hji2] at H ⊢; exact H)
  (try (have hji2h : ji2 ≤ 3000 := by (rw [← hji2]; unfold mn; (repeat' split) <;> omega)))
  (try (have hji2g : ji2 ≤ 64 := by omega))
  (try (have hji2l : 0 ≤ ji2 := by (rw [← hji2]; unfold mn; (repeat' split) <;> omega)))
  (try (have hji2m : 0 ≤ ji2 := by omega))
  have hji2_ : (if 3000 < (a0.size : Int) then 3000 else (a0.size : Int)) = ji2 := hji2
  by_cases c3 : 0 ≤ (ji2)
  · rw [if_pos c3] at H
    have c3b0 := eq_true c3
    have c3b1 : decide (0 ≤ (ji2)) = true := decide_eq_true c3
    clear c3
    by_cases c4 : (ji2) ≤ (a0.size : Int)
    · rw [if_pos c4] at H
      have c4b0 := eq_true c4
      have c4b1 : decide ((ji2) ≤ (a0.size : Int)) = true := decide_eq_true c4
      clear c4
      obtain rfl := Option.some.inj H
      go_enter Try.func15, Try.ntmps15
      go_wp2
      go_ret
      exact ⟨by first | rfl | (simp [errW_none, errW_some] <;> rfl) | (simp only [← hji2]; first | rfl | (simp [errW_none, errW_some] <;> rfl)) | (simp [*, errW_none, errW_some] <;> rfl), by repeat (first | (with_reducible first | exact HB.out | apply below_alloc | apply pw_below_drewN | apply below_drew1) | exact HB.out)⟩
    · rw [if_neg c4] at H
      exact absurd H (by simp)
  · rw [if_neg c3] at H
    exact absurd H (by simp)

/-! ### rostrumref01_over: function 30 -/
def rostrumref01_over.f (a0 : Int) : Option (Int) := some (Go.bits .xor .u32 a0 4294967295)
set_option maxHeartbeats 8000000 in
set_option maxRecDepth 100000 in
theorem rostrumref01_over.calls (a0 : Int) (r : Int) (w : World) (h : rostrumref01_over.f a0 = some r) :
    Calls Try.prog 30 #[.int .u32 a0] w fun e w' => e = .returned (.int .u32 r) ∧ Drawn0 w w' := by
  have H : (some (Go.bits .xor .u32 a0 4294967295)) = some r := h
  clear h
  obtain rfl := Option.some.inj H
  go_enter Try.func30, Try.ntmps30
  go_wp2
  go_ret
  exact ⟨by first | rfl | (simp; done) | (simp [*]; done), by repeat (first | exact Drawn0.refl _ | apply Drawn0.step)⟩

-- given: rostrumref01_More

-- given: rostrumref01_Sum

/-! ### rostrumlaw01_CrcSums: function 3 -/
def rostrumlaw01_CrcSums.f (a0 : Int) (a1 : Int) (a2 : ByteArray) : Option (Bool) := (rostrumlaw01_shown.f).bind fun t106 => (if t106 = true then ((G.crc_Step.f a0 a1).bind fun t107 => ((G.ref_Step.f a0 a1).bind fun t108 => (if t107 = t108 then ((rostrumlaw01_cut.f a2).bind fun t109 => ((G.crc_Sum.f t109).bind fun t110 => ((rostrumlaw01_cut.f a2).bind fun t111 => ((G.ref_Sum.f t111).bind fun t112 => (if t110 = t112 then ((rostrumlaw01_cut.f a2).bind fun t113 => ((G.crc_More.f a0 t113).bind fun t114 => ((rostrumlaw01_cut.f a2).bind fun t115 => ((G.ref_More.f a0 t115).bind fun t116 => (some (t114 == t116)))))) else (some false)))))) else (some false)))) else (some false))
set_option maxHeartbeats 8000000 in
set_option maxRecDepth 100000 in
theorem rostrumlaw01_CrcSums.calls (a0 : Int) (a1 : Int) (a2 : ByteArray) (r : Bool) (w : World) (h : rostrumlaw01_CrcSums.f a0 a1 a2 = some r) :
    Calls Try.prog 3 #[.int .u32 a0, .int .u8 a1, .string a2] w fun e w' => e = .returned (.bool r) ∧ Below w.heap.size w w' := by
  have HB := Aside0.mk (Below.refl w.heap.size w)
  have H : ((rostrumlaw01_shown.f).bind fun t106 => (if t106 = true then ((G.crc_Step.f a0 a1).bind fun t107 => ((G.ref_Step.f a0 a1).bind fun t108 => (if t107 = t108 then ((rostrumlaw01_cut.f a2).bind fun t109 => ((G.crc_Sum.f t109).bind fun t110 => ((rostrumlaw01_cut.f a2).bind fun t111 => ((G.ref_Sum.f t111).bind fun t112 => (if t110 = t112 then ((rostrumlaw01_cut.f a2).bind fun t113 => ((G.crc_More.f a0 t113).bind fun t114 => ((rostrumlaw01_cut.f a2).bind fun t115 => ((G.ref_More.f a0 t115).bind fun t116 => (some (t114 == t116)))))) else (some false)))))) else (some false)))) else (some false))) = some r := h
  clear h
  replace H := Option.bind_eq_some_iff.mp H
  obtain ⟨t106, A40, H⟩ := H
  replace H : (if t106 = true then ((G.crc_Step.f a0 a1).bind fun t107 => ((G.ref_Step.f a0 a1).bind fun t108 => (if t107 = t108 then ((rostrumlaw01_cut.f a2).bind fun t109 => ((G.crc_Sum.f t109).bind fun t110 => ((rostrumlaw01_cut.f a2).bind fun t111 => ((G.ref_Sum.f t111).bind fun t112 => (if t110 = t112 then ((rostrumlaw01_cut.f a2).bind fun t113 => ((G.crc_More.f a0 t113).bind fun t114 => ((rostrumlaw01_cut.f a2).bind fun t115 => ((G.ref_More.f a0 t115).bind fun t116 => (some (t114 == t116)))))) else (some false)))))) else (some false)))) else (some false)) = some r := H
  have A4 := Aside0.mk A40
  clear A40
  by_cases c5 : t106 = true
  · subst c5
    have H1 : ((G.crc_Step.f a0 a1).bind fun t107 => ((G.ref_Step.f a0 a1).bind fun t108 => (if t107 = t108 then ((rostrumlaw01_cut.f a2).bind fun t109 => ((G.crc_Sum.f t109).bind fun t110 => ((rostrumlaw01_cut.f a2).bind fun t111 => ((G.ref_Sum.f t111).bind fun t112 => (if t110 = t112 then ((rostrumlaw01_cut.f a2).bind fun t113 => ((G.crc_More.f a0 t113).bind fun t114 => ((rostrumlaw01_cut.f a2).bind fun t115 => ((G.ref_More.f a0 t115).bind fun t116 => (some (t114 == t116)))))) else (some false)))))) else (some false)))) = some r := by rw [if_pos rfl] at H; exact H
    clear H
    have H := H1
    clear H1
    replace H := Option.bind_eq_some_iff.mp H
    obtain ⟨t107, A60, H⟩ := H
    replace H : ((G.ref_Step.f a0 a1).bind fun t108 => (if t107 = t108 then ((rostrumlaw01_cut.f a2).bind fun t109 => ((G.crc_Sum.f t109).bind fun t110 => ((rostrumlaw01_cut.f a2).bind fun t111 => ((G.ref_Sum.f t111).bind fun t112 => (if t110 = t112 then ((rostrumlaw01_cut.f a2).bind fun t113 => ((G.crc_More.f a0 t113).bind fun t114 => ((rostrumlaw01_cut.f a2).bind fun t115 => ((G.ref_More.f a0 t115).bind fun t116 => (some (t114 == t116)))))) else (some false)))))) else (some false))) = some r := H
    have A6 := Aside0.mk A60
    clear A60
    replace H := Option.bind_eq_some_iff.mp H
    obtain ⟨t108, A70, H⟩ := H
    replace H : (if t107 = t108 then ((rostrumlaw01_cut.f a2).bind fun t109 => ((G.crc_Sum.f t109).bind fun t110 => ((rostrumlaw01_cut.f a2).bind fun t111 => ((G.ref_Sum.f t111).bind fun t112 => (if t110 = t112 then ((rostrumlaw01_cut.f a2).bind fun t113 => ((G.crc_More.f a0 t113).bind fun t114 => ((rostrumlaw01_cut.f a2).bind fun t115 => ((G.ref_More.f a0 t115).bind fun t116 => (some (t114 == t116)))))) else (some false)))))) else (some false)) = some r := H
    have A7 := Aside0.mk A70
    clear A70
    by_cases c8 : t107 = t108
    · rw [if_pos c8] at H
      have c8b0 : (t107 == t108) = true := beq_iff_eq.mpr c8
      have c8b1 : (t107 != t108) = false := bne_eq_false_iff_eq.mpr c8
      clear c8
      replace H := Option.bind_eq_some_iff.mp H
      obtain ⟨t109, A90, H⟩ := H
      replace H : ((G.crc_Sum.f t109).bind fun t110 => ((rostrumlaw01_cut.f a2).bind fun t111 => ((G.ref_Sum.f t111).bind fun t112 => (if t110 = t112 then ((rostrumlaw01_cut.f a2).bind fun t113 => ((G.crc_More.f a0 t113).bind fun t114 => ((rostrumlaw01_cut.f a2).bind fun t115 => ((G.ref_More.f a0 t115).bind fun t116 => (some (t114 == t116)))))) else (some false))))) = some r := H
      have A9 := Aside0.mk A90
      clear A90
      replace H := Option.bind_eq_some_iff.mp H
      obtain ⟨t110, A100, H⟩ := H
      replace H : ((rostrumlaw01_cut.f a2).bind fun t111 => ((G.ref_Sum.f t111).bind fun t112 => (if t110 = t112 then ((rostrumlaw01_cut.f a2).bind fun t113 => ((G.crc_More.f a0 t113).bind fun t114 => ((rostrumlaw01_cut.f a2).bind fun t115 => ((G.ref_More.f a0 t115).bind fun t116 => (some (t114 == t116)))))) else (some false)))) = some r := H
      have A10 := Aside0.mk A100
      clear A100
      replace H := Option.bind_eq_some_iff.mp H
      obtain ⟨t111, A110, H⟩ := H
      replace H : ((G.ref_Sum.f t111).bind fun t112 => (if t110 = t112 then ((rostrumlaw01_cut.f a2).bind fun t113 => ((G.crc_More.f a0 t113).bind fun t114 => ((rostrumlaw01_cut.f a2).bind fun t115 => ((G.ref_More.f a0 t115).bind fun t116 => (some (t114 == t116)))))) else (some false))) = some r := H
      have A11 := Aside0.mk A110
      have e_t111 : t109 = t111 := Option.some.inj (A9.out.symm.trans A11.out)
      subst e_t111
      clear A110
      replace H := Option.bind_eq_some_iff.mp H
      obtain ⟨t112, A120, H⟩ := H
      replace H : (if t110 = t112 then ((rostrumlaw01_cut.f a2).bind fun t113 => ((G.crc_More.f a0 t113).bind fun t114 => ((rostrumlaw01_cut.f a2).bind fun t115 => ((G.ref_More.f a0 t115).bind fun t116 => (some (t114 == t116)))))) else (some false)) = some r := H
      have A12 := Aside0.mk A120
      clear A120
      by_cases c13 : t110 = t112
      · rw [if_pos c13] at H
        have c13b0 : (t110 == t112) = true := beq_iff_eq.mpr c13
        have c13b1 : (t110 != t112) = false := bne_eq_false_iff_eq.mpr c13
        clear c13
        replace H := Option.bind_eq_some_iff.mp H
        obtain ⟨t113, A140, H⟩ := H
        replace H : ((G.crc_More.f a0 t113).bind fun t114 => ((rostrumlaw01_cut.f a2).bind fun t115 => ((G.ref_More.f a0 t115).bind fun t116 => (some (t114 == t116))))) = some r := H
        have A14 := Aside0.mk A140
        have e_t113 : t109 = t113 := Option.some.inj (A9.out.symm.trans A14.out)
        subst e_t113
        clear A140
        replace H := Option.bind_eq_some_iff.mp H
        obtain ⟨t114, A150, H⟩ := H
        replace H : ((rostrumlaw01_cut.f a2).bind fun t115 => ((G.ref_More.f a0 t115).bind fun t116 => (some (t114 == t116)))) = some r := H
        have A15 := Aside0.mk A150
        clear A150
        replace H := Option.bind_eq_some_iff.mp H
        obtain ⟨t115, A160, H⟩ := H
        replace H : ((G.ref_More.f a0 t115).bind fun t116 => (some (t114 == t116))) = some r := H
        have A16 := Aside0.mk A160
        have e_t115 : t109 = t115 := Option.some.inj (A9.out.symm.trans A16.out)
        subst e_t115
        clear A160
        replace H := Option.bind_eq_some_iff.mp H
        obtain ⟨t116, A170, H⟩ := H
        replace H : (some (t114 == t116)) = some r := H
        have A17 := Aside0.mk A170
        clear A170
        obtain rfl := Option.some.inj H
        go_enter Try.func3, Try.ntmps3
        go_wp2_with (first | ((with_reducible refine gate_callee (f := 11) rfl ?_); refine goesL_ (some 8) rfl rfl Try.func11 (by kernel_rfl) rfl #[] rfl (by (try simp only [List.map_toArray, List.map_cons, List.map_nil]); first | done | rfl | (simp only [List.length_drop, List.length_take]; rfl)) ?_; (with_reducible refine (rostrumlaw01_shown.calls  true _ A4.out).mono ?_); rintro e w18 ⟨rfl, hb⟩; refine ⟨_, rfl, ?_⟩; have n0_ := Aside0.mk (below_step (by repeat (first | (with_reducible first | exact HB.out | apply below_alloc | apply pw_below_drewN | apply below_drew1) | exact HB.out)) hb); clear HB; have HB := n0_; clear n0_; (try clear hb); (try clear hb2); (try clear hk); (try clear hi)) | (go_at_call 12; (with_reducible refine (G.crc_Step.calls a0 a1 t107 _ A6.out).mono ?_); rintro e w' ⟨rfl, ⟨nd, rfl⟩⟩) | (go_at_call 13; (with_reducible refine (G.ref_Step.calls a0 a1 t108 _ A7.out).mono ?_); rintro e w' ⟨rfl, ⟨nd, rfl⟩⟩) | (go_at_call 15; (with_reducible refine (rostrumlaw01_cut.calls a2 t109 _ A9.out).mono ?_); rintro e w19 ⟨rfl, hb⟩; have n0_ := Aside0.mk (below_step (by repeat (first | (with_reducible first | exact HB.out | apply below_alloc | apply pw_below_drewN | apply below_drew1) | exact HB.out)) hb); clear HB; have HB := n0_; clear n0_; (try clear hb); (try clear hb2); (try clear hk); (try clear hi)) | (go_at_call 14; (with_reducible refine (G.crc_Sum.calls t109 t110 _ A10.out).mono ?_); rintro e w20 ⟨rfl, hb⟩; have n0_ := Aside0.mk (below_step (by repeat (first | (with_reducible first | exact HB.out | apply below_alloc | apply pw_below_drewN | apply below_drew1) | exact HB.out)) hb); clear HB; have HB := n0_; clear n0_; (try clear hb); (try clear hb2); (try clear hk); (try clear hi)) | (go_at_call 15; (with_reducible refine (rostrumlaw01_cut.calls a2 t109 _ A11.out).mono ?_); rintro e w21 ⟨rfl, hb⟩; have n0_ := Aside0.mk (below_step (by repeat (first | (with_reducible first | exact HB.out | apply below_alloc | apply pw_below_drewN | apply below_drew1) | exact HB.out)) hb); clear HB; have HB := n0_; clear n0_; (try clear hb); (try clear hb2); (try clear hk); (try clear hi)) | (go_at_call 16; (with_reducible refine (G.ref_Sum.calls t109 t112 _ A12.out).mono ?_); rintro e w' ⟨rfl, ⟨nd, rfl⟩⟩) | (go_at_call 15; (with_reducible refine (rostrumlaw01_cut.calls a2 t109 _ A14.out).mono ?_); rintro e w22 ⟨rfl, hb⟩; have n0_ := Aside0.mk (below_step (by repeat (first | (with_reducible first | exact HB.out | apply below_alloc | apply pw_below_drewN | apply below_drew1) | exact HB.out)) hb); clear HB; have HB := n0_; clear n0_; (try clear hb); (try clear hb2); (try clear hk); (try clear hi)) | (go_at_call 17; (with_reducible refine (G.crc_More.calls a0 t109 t114 _ A15.out).mono ?_); rintro e w23 ⟨rfl, hb⟩; have n0_ := Aside0.mk (below_step (by repeat (first | (with_reducible first | exact HB.out | apply below_alloc | apply pw_below_drewN | apply below_drew1) | exact HB.out)) hb); clear HB; have HB := n0_; clear n0_; (try clear hb); (try clear hb2); (try clear hk); (try clear hi)) | (go_at_call 15; (with_reducible refine (rostrumlaw01_cut.calls a2 t109 _ A16.out).mono ?_); rintro e w24 ⟨rfl, hb⟩; have n0_ := Aside0.mk (below_step (by repeat (first | (with_reducible first | exact HB.out | apply below_alloc | apply pw_below_drewN | apply below_drew1) | exact HB.out)) hb); clear HB; have HB := n0_; clear n0_; (try clear hb); (try clear hb2); (try clear hk); (try clear hi)) | (go_at_call 18; (with_reducible refine (G.ref_More.calls a0 t109 t116 _ A17.out).mono ?_); rintro e w' ⟨rfl, ⟨nd, rfl⟩⟩))
        go_ret
        exact ⟨by first | rfl | (simp [errW_none, errW_some] <;> rfl) | (simp [*, errW_none, errW_some] <;> rfl), by repeat (first | (with_reducible first | exact HB.out | apply below_alloc | apply pw_below_drewN | apply below_drew1) | exact HB.out)⟩
      · rw [if_neg c13] at H
        have c13b0 : (t110 == t112) = false := beq_eq_false_iff_ne.mpr c13
        have c13b1 : (t110 != t112) = true := bne_iff_ne.mpr c13
        obtain rfl := Option.some.inj H
        go_enter Try.func3, Try.ntmps3
        go_wp2_with (first | ((with_reducible refine gate_callee (f := 11) rfl ?_); refine goesL_ (some 8) rfl rfl Try.func11 (by kernel_rfl) rfl #[] rfl (by (try simp only [List.map_toArray, List.map_cons, List.map_nil]); first | done | rfl | (simp only [List.length_drop, List.length_take]; rfl)) ?_; (with_reducible refine (rostrumlaw01_shown.calls  true _ A4.out).mono ?_); rintro e w25 ⟨rfl, hb⟩; refine ⟨_, rfl, ?_⟩; have n0_ := Aside0.mk (below_step (by repeat (first | (with_reducible first | exact HB.out | apply below_alloc | apply pw_below_drewN | apply below_drew1) | exact HB.out)) hb); clear HB; have HB := n0_; clear n0_; (try clear hb); (try clear hb2); (try clear hk); (try clear hi)) | (go_at_call 12; (with_reducible refine (G.crc_Step.calls a0 a1 t107 _ A6.out).mono ?_); rintro e w' ⟨rfl, ⟨nd, rfl⟩⟩) | (go_at_call 13; (with_reducible refine (G.ref_Step.calls a0 a1 t108 _ A7.out).mono ?_); rintro e w' ⟨rfl, ⟨nd, rfl⟩⟩) | (go_at_call 15; (with_reducible refine (rostrumlaw01_cut.calls a2 t109 _ A9.out).mono ?_); rintro e w26 ⟨rfl, hb⟩; have n0_ := Aside0.mk (below_step (by repeat (first | (with_reducible first | exact HB.out | apply below_alloc | apply pw_below_drewN | apply below_drew1) | exact HB.out)) hb); clear HB; have HB := n0_; clear n0_; (try clear hb); (try clear hb2); (try clear hk); (try clear hi)) | (go_at_call 14; (with_reducible refine (G.crc_Sum.calls t109 t110 _ A10.out).mono ?_); rintro e w27 ⟨rfl, hb⟩; have n0_ := Aside0.mk (below_step (by repeat (first | (with_reducible first | exact HB.out | apply below_alloc | apply pw_below_drewN | apply below_drew1) | exact HB.out)) hb); clear HB; have HB := n0_; clear n0_; (try clear hb); (try clear hb2); (try clear hk); (try clear hi)) | (go_at_call 15; (with_reducible refine (rostrumlaw01_cut.calls a2 t109 _ A11.out).mono ?_); rintro e w28 ⟨rfl, hb⟩; have n0_ := Aside0.mk (below_step (by repeat (first | (with_reducible first | exact HB.out | apply below_alloc | apply pw_below_drewN | apply below_drew1) | exact HB.out)) hb); clear HB; have HB := n0_; clear n0_; (try clear hb); (try clear hb2); (try clear hk); (try clear hi)) | (go_at_call 16; (with_reducible refine (G.ref_Sum.calls t109 t112 _ A12.out).mono ?_); rintro e w' ⟨rfl, ⟨nd, rfl⟩⟩))
        go_ret
        exact ⟨by first | rfl | (simp [errW_none, errW_some] <;> rfl) | (simp [*, errW_none, errW_some] <;> rfl), by repeat (first | (with_reducible first | exact HB.out | apply below_alloc | apply pw_below_drewN | apply below_drew1) | exact HB.out)⟩
    · rw [if_neg c8] at H
      have c8b0 : (t107 == t108) = false := beq_eq_false_iff_ne.mpr c8
      have c8b1 : (t107 != t108) = true := bne_iff_ne.mpr c8
      obtain rfl := Option.some.inj H
      go_enter Try.func3, Try.ntmps3
      go_wp2_with (first | ((with_reducible refine gate_callee (f := 11) rfl ?_); refine goesL_ (some 8) rfl rfl Try.func11 (by kernel_rfl) rfl #[] rfl (by (try simp only [List.map_toArray, List.map_cons, List.map_nil]); first | done | rfl | (simp only [List.length_drop, List.length_take]; rfl)) ?_; (with_reducible refine (rostrumlaw01_shown.calls  true _ A4.out).mono ?_); rintro e w29 ⟨rfl, hb⟩; refine ⟨_, rfl, ?_⟩; have n0_ := Aside0.mk (below_step (by repeat (first | (with_reducible first | exact HB.out | apply below_alloc | apply pw_below_drewN | apply below_drew1) | exact HB.out)) hb); clear HB; have HB := n0_; clear n0_; (try clear hb); (try clear hb2); (try clear hk); (try clear hi)) | (go_at_call 12; (with_reducible refine (G.crc_Step.calls a0 a1 t107 _ A6.out).mono ?_); rintro e w' ⟨rfl, ⟨nd, rfl⟩⟩) | (go_at_call 13; (with_reducible refine (G.ref_Step.calls a0 a1 t108 _ A7.out).mono ?_); rintro e w' ⟨rfl, ⟨nd, rfl⟩⟩))
      go_ret
      exact ⟨by first | rfl | (simp [errW_none, errW_some] <;> rfl) | (simp [*, errW_none, errW_some] <;> rfl), by repeat (first | (with_reducible first | exact HB.out | apply below_alloc | apply pw_below_drewN | apply below_drew1) | exact HB.out)⟩
  · replace c5 := Bool.eq_false_iff.mpr c5
    subst c5
    have H1 : (some false) = some r := by rw [if_neg (show ¬ (false = true) by decide)] at H; exact H
    clear H
    have H := H1
    clear H1
    obtain rfl := Option.some.inj H
    go_enter Try.func3, Try.ntmps3
    go_wp2_with (first | ((with_reducible refine gate_callee (f := 11) rfl ?_); refine goesL_ (some 8) rfl rfl Try.func11 (by kernel_rfl) rfl #[] rfl (by (try simp only [List.map_toArray, List.map_cons, List.map_nil]); first | done | rfl | (simp only [List.length_drop, List.length_take]; rfl)) ?_; (with_reducible refine (rostrumlaw01_shown.calls  false _ A4.out).mono ?_); rintro e w30 ⟨rfl, hb⟩; refine ⟨_, rfl, ?_⟩; have n0_ := Aside0.mk (below_step (by repeat (first | (with_reducible first | exact HB.out | apply below_alloc | apply pw_below_drewN | apply below_drew1) | exact HB.out)) hb); clear HB; have HB := n0_; clear n0_; (try clear hb); (try clear hb2); (try clear hk); (try clear hi)))
    go_ret
    exact ⟨by first | rfl | (simp [errW_none, errW_some] <;> rfl) | (simp [*, errW_none, errW_some] <;> rfl), by repeat (first | (with_reducible first | exact HB.out | apply below_alloc | apply pw_below_drewN | apply below_drew1) | exact HB.out)⟩

/-- THE ONE PURE STATEMENT of rostrumlaw01_CrcSums: yours. -/
def rostrumlaw01_CrcSums.Pure : Prop := ∀ (a0 : Int) (a1 : Int) (a2 : ByteArray), (Lit.int .u32 a0).wf = true → (Lit.int .u8 a1).wf = true → a2.size ≤ 140737488351232 → rostrumlaw01_CrcSums.f a0 a1 a2 = some true
theorem rostrumlaw01_CrcSums.walk (P : rostrumlaw01_CrcSums.Pure) (a0 : Int) (a1 : Int) (a2 : ByteArray) (w : World) (w0 : (Lit.int .u32 a0).wf = true) (w1 : (Lit.int .u8 a1).wf = true) (w2 : a2.size ≤ 140737488351232) :
    Calls Try.prog 3 #[.int .u32 a0, .int .u8 a1, .string a2] w fun e w' => e = .returned (.bool true) ∧ Below w.heap.size w w' := by
  have h := P a0 a1 a2 w0 w1 w2
  refine (rostrumlaw01_CrcSums.calls a0 a1 a2 true w h).mono ?_
  rintro e w' ⟨rfl, hd⟩
  exact ⟨rfl, hd⟩

end Go.Proofs.Ytmaiiphfiecblaa.PCrcSums
