/- The document's change of bytes: what it tells. -/
import Derived.Test.YthmeakkpmielmaaCrcD
namespace Go.Proofs.Ythmeakkpmielmaa.G
open Go.RowKit Go.Proofs.YthmeakkpmielmaaW.PrintWords Go.Proofs.Ythmeakkpmielmaa.Cr

set_option maxRecDepth 100000 in
set_option maxHeartbeats 4000000 in
theorem ref_Change.in_ (s : ByteArray) (bit : Nat) (m : BitVec 32) (w : World) (hs : s.size ≤ 140737488351232) (hbit : bit < 8 * s.size) :
    Calls Try.prog 36 #[.string s, .int .i64 bit, .int .u32 (ofB m)] w fun e w' => e = .returned (.tuple #[.string ⟨(chg s.data.toList bit m 32).toArray⟩, .int .i64 0]) ∧ Below w.heap.size w w' := by
  have hcv := print_bytes (P := Try.prog) 9 74 5 Try.underlying9 Try.underlying74 Try.underlying5 s w
  have hb : Below w.heap.size w (Lib.bytesWorld w 5 s) := bytes_below (Below.refl _ _) (Nat.le_refl _) _ _
  have hba : BytesAt (Lib.bytesWorld w 5 s) w.heap.size s.data.toList := bytesAt_new _ _ _
  obtain ⟨W, hW⟩ : ∃ W, Lib.bytesWorld w 5 s = W := ⟨_, rfl⟩
  rw [hW] at hcv hb hba
  clear hW
  have h0 : decide ((bit : Int) < 0) = false := by simp
  have h1 : decide (8 * (s.size : Int) ≤ (bit : Int)) = false := by simp; omega
  go_enter Try.func36, Try.ntmps36
  go_wp2
  go_loopw [9] (fun v wr => ∃ i : Nat, i ≤ 32 ∧ v = .int .i64 i ∧ BytesAt wr w.heap.size (chg s.data.toList bit m i) ∧ Below w.heap.size w wr) (fun v _ => 32 - (intOf v).toNat)
  case atStart => exact ⟨0, by omega, rfl, hba, hb⟩
  case round =>
    obtain ⟨i, hi, rfl, hcs, hbw⟩ := hrel
    have hle := Lib.hid (show (chg s.data.toList bit m i).length = s.size by rw [chg_length, Array.length_toList]; rfl)
    by_cases hlt : i < 32
    · by_cases hat : 8 * s.size ≤ bit + i
      · have hk : decide ((bit : Int) + (i : Int) < 8 * (s.size : Int)) = false := by simp; omega
        have hend := Lib.hid (turnB_far (l := chg s.data.toList bit m i) (k := bit + i) (by have := hle.out; omega) (m.getLsbD i))
        clear hat
        go_wp2
        go_roundw
        case rel => exact ⟨i + 1, by omega, by go_num, by rw [chg, hend.out]; exact hcs, hbw⟩
        case measure => simp [intOf]; omega
      · have hk : decide ((bit : Int) + (i : Int) < 8 * (s.size : Int)) = true := by simp; omega
        by_cases hb1 : m.getLsbD i
        · have hbt : ((Go.bits .and .u32 (ofB m / 2 ^ i) 1) == 1) = true := by rw [bit_of, hb1]; rfl
          obtain ⟨a, ha⟩ : ∃ a : Nat, (bit + i) / 8 = a := ⟨_, rfl⟩
          have haI : ((bit : Int) + (i : Int)) / 8 = (a : Int) := by omega
          have hl : a < s.size := by omega
          obtain ⟨hc, hf⟩ := hcs a (by have := hle.out; omega)
          have HA := Lib.hid ha; clear ha
          have HB := Lib.hid hb1; clear hb1
          clear hat
          go_wp2
          go_roundw
          case rel =>
            have hll : a < (chg s.data.toList bit m i).length := by have := hle.out; omega
            refine ⟨i + 1, by omega, by go_num, ?_, hbw.setCell (p := ⟨w.heap.size, a, none⟩) (Nat.le_refl _) _⟩
            rw [chg, turnB_in HA.out hll, if_pos HB.out]
            exact hcs.set hll _ (turn_ref _ _ (by omega))
          case measure => simp [intOf]; omega
        · have hbt : ((Go.bits .and .u32 (ofB m / 2 ^ i) 1) == 1) = false := by rw [bit_of, if_neg hb1]; rfl
          have HB := Lib.hid hb1; clear hb1
          clear hat
          go_wp2
          go_roundw
          case rel => exact ⟨i + 1, by omega, by go_num, by rw [chg, Bool.eq_false_iff.2 HB.out]; exact hcs, hbw⟩
          case measure => simp [intOf]; omega
    · obtain rfl : i = 32 := by omega
      have hstr := hcs.str (grownCap w s.size 0 5) hle.out
      go_wp2
      go_ret2
      exact ⟨rfl, hbw⟩

theorem ref_Change.out (s : ByteArray) (bit : Int) (m : Int) (w : World) (hs : s.size ≤ 140737488351232) (hbit : bit < 0 ∨ 8 * (s.size : Int) ≤ bit) :
    Calls Try.prog 36 #[.string s, .int .i64 bit, .int .u32 m] w fun e w' => e = .returned (.tuple #[.string ⟨#[]⟩, .int .i64 2]) ∧ w = w' := by
  rcases hbit with h | h
  · have h0 : decide ((bit : Int) < 0) = true := by simpa using h
    go_enter Try.func36, Try.ntmps36
    go_wp2
    go_ret2
    exact ⟨rfl, rfl⟩
  · have h0 : decide ((bit : Int) < 0) = false := by simp; omega
    have h1 : decide (8 * (s.size : Int) ≤ (bit : Int)) = true := by simpa using h
    go_enter Try.func36, Try.ntmps36
    go_wp2
    go_ret2
    exact ⟨rfl, rfl⟩
end Go.Proofs.Ythmeakkpmielmaa.G
