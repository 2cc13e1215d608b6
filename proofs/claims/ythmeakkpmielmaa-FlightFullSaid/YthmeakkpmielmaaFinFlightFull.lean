/- A thousand notes may be on their way. -/
import Derived.Test.YthmeakkpmielmaaFliC
namespace Go.Proofs.Ythmeakkpmielmaa.R
open Go.RowKit Go.Proofs.YthmeakkpmielmaaW.PrintWords Go.Proofs.YthmeakkpmielmaaW.PrintMore Go.Proofs.Ythmeakkpmielmaa.P Go.Proofs.Ythmeakkpmielmaa.G
set_option linter.unusedVariables false
set_option linter.unusedSimpArgs false
attribute [local go_sem] Oper.semAt_some max2_int min2_int max_two min_two

def fullL (i : Nat) : List S35 := (List.range i).map fun (j : Nat) => ⟨(j : Int) + 1, ((j % 16 : Nat) : Int), ⟨#[]⟩⟩
theorem fullL_length (i : Nat) : (fullL i).length = i := by simp [fullL]
def fullF (i : Nat) : Fl := ⟨((min i 1000 : Nat) : Int), fullL (min i 1000)⟩
def lastF (i : Nat) : Int := if i ≤ 1000 then 0 else 30
theorem full_send (i : Nat) : sendF (fullF i) ((i % 16 : Nat) : Int) ⟨#[]⟩ = (fullF (i + 1), if i < 1000 then (i : Int) + 1 else 0, lastF (i + 1)) := by
  have hm : i % 16 < 16 := Nat.mod_lt _ (by decide)
  unfold sendF lastF fullF
  rw [if_neg (by omega)]
  by_cases h : i < 1000
  · have e1 : min i 1000 = i := by omega
    have e2 : min (i + 1) 1000 = i + 1 := by omega
    have e3 : IntKind.u32.wrap ((i : Int) + 1) = (i : Int) + 1 := IntWalk.u32_in _ (by omega)
    simp only [e1, e2, e3, fullL_length]
    rw [if_neg (by omega), if_pos h, if_pos (by omega)]
    unfold fullL
    rw [List.range_succ, List.map_append]
    simp
  · have e1 : min i 1000 = 1000 := by omega
    have e2 : min (i + 1) 1000 = 1000 := by omega
    simp only [e1, e2, fullL_length]
    rw [if_pos True.intro, if_neg h, if_neg (by omega)]
theorem full_copy (i : Nat) (h : 990 ≤ i) : ∃ s n, copyF (fullF i) 0 = (s, n, if i < 1000 then 0 else 30) := by
  have hl : (fullF i).l.length = min i 1000 := fullL_length _
  have h0 : 0 < (fullF i).l.length := by omega
  have := copyF_in (fullF i) 0 h0
  rw [Int.natCast_zero] at this
  rw [this]
  have hf : ((fullF i).l[0]).f1 = 0 := by
    unfold fullF fullL
    simp
  rw [hf]
  unfold sendF
  rw [if_neg (by omega), hl]
  by_cases h : i < 1000
  · rw [if_neg (by omega), if_pos h]; exact ⟨_, _, rfl⟩
  · rw [if_pos (by omega), if_neg h]; exact ⟨_, _, rfl⟩
set_option maxRecDepth 100000 in
set_option maxHeartbeats 8000000 in
theorem FlightFull_fin (a0 : Int) (w : World) (_w0 : (Lit.int .i64 a0).wf = true) :
    Calls Try.prog 3 #[.int .i64 a0] w fun e w' => e = .returned (.bool true) ∧ Below w.heap.size w w' := by
  by_cases hlow : a0 < 990
  · have d1 : decide (a0 < 990) = true := by simpa using hlow
    go_enter Try.func3, Try.ntmps3
    go_wp2_with (go_at_call 10; (with_reducible refine (shown.is _).mono ?_); rintro e w1 ⟨rfl, hb1⟩)
    go_ret
    exact ⟨rfl, hb1⟩
  · have d1 : decide (a0 < 990) = false := by simpa using hlow
    by_cases hhi : 1010 < a0
    · have d2 : decide (1010 < a0) = true := by simpa using hhi
      go_enter Try.func3, Try.ntmps3
      go_wp2_with (go_at_call 10; (with_reducible refine (shown.is _).mono ?_); rintro e w1 ⟨rfl, hb1⟩)
      go_ret
      exact ⟨rfl, hb1⟩
    · have d2 : decide (1010 < a0) = false := by simpa using hhi
      obtain ⟨n, rfl⟩ := Int.eq_ofNat_of_zero_le (show 0 ≤ a0 by omega)
      go_enter Try.func3, Try.ntmps3
      go_wp2_with (first
        | (go_at_call 10; (with_reducible refine (shown.is _).mono ?_); rintro e w1 ⟨rfl, hb1⟩)
        | (go_at_call 11; (with_reducible refine (New.is _).mono ?_); rintro e w2 ⟨rfl, hs2, hb2⟩))
      have hb12 := G.below_then hb1 hb1.size hb2
      have hg0 : w.heap.size ≤ w1.heap.size := hb1.size
      obtain ⟨g, hg⟩ : ∃ g, w1.heap.size = g := ⟨_, rfl⟩
      rw [hg] at hs2 hg0 ⊢
      clear hb2 hb1 hg
      go_loopw [5, 6] (fun l i wr => ∃ k : Nat, k ≤ n ∧ i = .int .i64 k ∧ l = .int .i64 (lastF k) ∧ FlS wr g (fullF k) ∧ Below w.heap.size w wr) (fun _ i _ => n - (intOf i).toNat)
      case atStart => exact ⟨0, Nat.zero_le _, rfl, rfl, hs2, hb12⟩
      case round =>
        obtain ⟨k, hk, rfl, rfl, hS, hB⟩ := hrel
        have hlen : (fullF k).l.length = min k 1000 := fullL_length _
        by_cases hlt : k < n
        · have hm : ((k : Int)).tmod 16 = ((k % 16 : Nat) : Int) := IntWalk.up_tmod rfl rfl
          have W1 := Send.is g _ ((k % 16 : Nat) : Int) ⟨#[]⟩ wr hS (by omega)
          rw [full_send k] at W1
          rw [Int.natCast_emod] at W1
          have HW1 := Lib.hid W1; clear W1
          have HL := Lib.hid hlen; clear hlen
          go_wp2_with (fail)
          refine HW1.out.mono ?_
          rintro e w3 ⟨rfl, hs3, hg3⟩
          go_wp2
          go_roundw
          case rel => exact ⟨k + 1, by omega, by go_num, rfl, hs3, below_grown' hB hB.size hg3 (fun b e => by cases e; exact hg0)⟩
          case measure => simp [intOf]; omega
        · obtain rfl : k = n := by omega
          obtain ⟨s2, n2, hcp⟩ := full_copy k (by omega)
          have HA := Lib.hid (All.is g _ wr hS (by omega))
          go_wp2_with (fail)
          refine HA.out.mono ?_
          rintro e w3 ⟨v, rfl, hR3, hb3⟩
          have hs3 := hS.below hb3
          obtain ⟨A3, c3, rfl, hlc3, hC3⟩ := Kd.R_reads hR3
          rw [hlen]
          go_wp2_with (fail)
          refine (Copy.is g _ 0 _ hs3 (by omega)).mono ?_
          rw [hcp]
          rintro e w4 ⟨rfl, hs4, hg4⟩
          have hB4 : Below w.heap.size w w4 := below_grown' (G.below_then hB hB.size hb3) (G.below_then hB hB.size hb3).size hg4 (fun b e => by cases e; exact hg0)
          unfold lastF
          rcases Nat.lt_trichotomy k 1000 with hq | hq | hq
          · have v1 : (if k ≤ 1000 then (0 : Int) else 30) = 0 := if_pos (by omega)
            have v2 : (if k < 1000 then (0 : Int) else 30) = 0 := if_pos hq
            have v3 : min k 1000 = k := by omega
            have d3 : decide ((1000 : Int) < (k : Int)) = false := by simp; omega
            have d4 : decide ((1000 : Int) ≤ (k : Int)) = false := by simp; omega
            rw [v1, v2, v3]
            have HQ := Lib.hid hq; clear hq
            go_wp2
            go_ret
            exact ⟨rfl, hB4⟩
          · subst hq
            go_wp2
            go_ret
            exact ⟨rfl, hB4⟩
          · have v1 : (if k ≤ 1000 then (0 : Int) else 30) = 30 := if_neg (by omega)
            have v2 : (if k < 1000 then (0 : Int) else 30) = 30 := if_neg (by omega)
            have v3 : min k 1000 = 1000 := by omega
            have d3 : decide ((1000 : Int) < (k : Int)) = true := by simp; omega
            have d4 : decide ((1000 : Int) ≤ (k : Int)) = true := by simp; omega
            rw [v1, v2, v3]
            have HQ := Lib.hid hq; clear hq
            go_wp2
            go_ret
            exact ⟨rfl, hB4⟩
end Go.Proofs.Ythmeakkpmielmaa.R
