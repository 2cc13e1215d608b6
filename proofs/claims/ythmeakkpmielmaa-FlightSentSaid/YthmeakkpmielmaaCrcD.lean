/- The program's change of bytes, and the document's: what both tell. -/
import Derived.WalkKit
import Derived.Handy
import Derived.Lib.ConvBytes
import Derived.Lib.Hide
import Derived.BigRegion
import Derived.Test.YthmeakkpmielmaaProg
import Derived.Test.YthmeakkpmielmaaWWords
import Derived.Test.YthmeakkpmielmaaCrcA
import Derived.Test.YthmeakkpmielmaaLib
namespace Go.Proofs.Ythmeakkpmielmaa.G
open Go.RowKit Go.Proofs.YthmeakkpmielmaaW.PrintWords Go.Proofs.Ythmeakkpmielmaa.Cr

/-- Block B holds these bytes, and may be written. -/
def BytesAt (W : World) (B : Nat) (l : List UInt8) : Prop := ∀ j (h : j < l.length), W.cell? ⟨B, j, none⟩ = some (.int .u8 (l[j].toNat : Int)) ∧ W.frozen? ⟨B, j, none⟩ = false
theorem bytesAt_new (w : World) (e : TypeId) (s : ByteArray) : BytesAt (Lib.bytesWorld w e s) w.heap.size s.data.toList := by
  intro j h
  have hj : j < s.size := by rw [Array.length_toList] at h; exact h
  have hc := Lib.bytesWorld_cell w e s j hj
  refine ⟨by rw [hc]; simp [List.getD_eq_getElem?_getD, hj], ?_⟩
  have hn := Lib.bytesWorld_at_new w e s
  have hsz : j < (Lib.bytesCells w e s).size := by
    simp only [World.cell?, hn] at hc
    rcases Nat.lt_or_ge j (Lib.bytesCells w e s).size with h1 | h1
    · exact h1
    · rw [Array.getElem?_eq_none h1] at hc; simp at hc
  simp only [World.frozen?, hn]
  simp; omega
theorem BytesAt.set {W : World} {B : Nat} {l : List UInt8} (h : BytesAt W B l) {a : Nat} (ha : a < l.length) (v : UInt8) {x : Int} (hx : x = (v.toNat : Int)) : BytesAt (W.setCell ⟨B, a, none⟩ (.int .u8 x)) B (l.set a v) := by
  subst hx
  intro j hj
  rw [List.length_set] at hj
  obtain ⟨hc, hf⟩ := h j hj
  refine ⟨?_, by rw [World.frozen?_setCell]; exact hf⟩
  by_cases e : a = j
  · subst e
    rw [World.cell?_setCell_same' _ _ _ (by rw [(h a ha).1]; rfl)]
    simp
  · rw [World.cell?_setCell_other _ _ _ _ (fun e' => e (by cases e'; rfl))]
    simp [e, hc]
theorem BytesAt.str {W : World} {B : Nat} {l : List UInt8} (h : BytesAt W B l) (cap : Nat) {n : Nat} (hn : l.length = n) :
    (convert 74 9 (.slice (some ⟨B, 0, none⟩) n cap)).run Try.prog W = .ok (.string ⟨l.toArray⟩) W := by
  rw [run_convert_bytes_arg (P := Try.prog) W 74 5 Try.underlying74 Try.underlying5 B 0 n cap (l.map fun b => (b.toNat : Int)) (by simp [hn]) (fun i hi => ?_) 9 Try.underlying9]
  · congr 2
    unfold strOfNums
    congr 2
    rw [List.map_map]
    conv => rhs; rw [← List.map_id l]
    apply List.map_congr_left
    intro b _
    simp
  · rw [Nat.zero_add, (h i (by omega)).1]
    simp [List.getD_eq_getElem?_getD, show i < l.length by omega]
theorem ret_chg {a b : ByteArray} (h : a = b) : Ending.returned (.tuple #[.string a, .int .i64 0]) = .returned (.tuple #[.string b, .int .i64 0]) := by rw [h]
set_option maxRecDepth 100000 in
set_option maxHeartbeats 4000000 in
theorem crc_Change.in_ (s : ByteArray) (bit : Nat) (m : BitVec 32) (w : World) (hs : s.size ≤ 140737488351232) (hbit : bit < 8 * s.size) :
    Calls Try.prog 29 #[.string s, .int .i64 bit, .int .u32 (ofB m)] w fun e w' => e = .returned (.tuple #[.string ⟨(chg s.data.toList bit m 32).toArray⟩, .int .i64 0]) ∧ Below w.heap.size w w' := by
  have hcv := print_bytes (P := Try.prog) 9 74 5 Try.underlying9 Try.underlying74 Try.underlying5 s w
  have hb : Below w.heap.size w (Lib.bytesWorld w 5 s) := bytes_below (Below.refl _ _) (Nat.le_refl _) _ _
  have hba : BytesAt (Lib.bytesWorld w 5 s) w.heap.size s.data.toList := bytesAt_new _ _ _
  obtain ⟨W, hW⟩ : ∃ W, Lib.bytesWorld w 5 s = W := ⟨_, rfl⟩
  rw [hW] at hcv hb hba
  clear hW
  have h0 : decide ((bit : Int) < 0) = false := by simp
  have h1 : decide (8 * (s.size : Int) ≤ (bit : Int)) = false := by simp; omega
  go_enter Try.func29, Try.ntmps29
  go_wp2
  go_step3
  go_wp2
  go_step3
  go_wp2
  go_loopw [22] (fun v wr => ∃ i : Nat, i ≤ 32 ∧ bit + i ≤ 8 * s.size ∧ v = .int .i64 i ∧ BytesAt wr w.heap.size (chg s.data.toList bit m i) ∧ Below w.heap.size w wr) (fun v _ => 32 - (intOf v).toNat)
  case atStart => exact ⟨0, by omega, by omega, rfl, hba, hb⟩
  case round =>
    obtain ⟨i, hi, hi8, rfl, hcs, hbw⟩ := hrel
    have hle := Lib.hid (show (chg s.data.toList bit m i).length = s.size by rw [chg_length, Array.length_toList]; rfl)
    by_cases hlt : i < 32
    · by_cases hat : (bit + i) / 8 = s.size
      · have haI : ((bit : Int) + (i : Int)) / 8 = (s.size : Int) := by omega
        have hend := Lib.hid (chg_far (l := s.data.toList) (bit := bit) (m := m) (i := i) (by rw [Array.length_toList]; show 8 * s.size ≤ _; omega) (32 - i))
        have hstr := hcs.str (grownCap w s.size 0 5) hle.out
        clear hat
        go_wp2
        try rw [Exit.noGoto_ret]
        go_ret2
        exact ⟨ret_chg (by have := hend.out; rw [show i + (32 - i) = 32 by omega] at this; rw [this]), hbw⟩
      · obtain ⟨a, ha⟩ : ∃ a : Nat, (bit + i) / 8 = a := ⟨_, rfl⟩
        have hal : a < s.size := by omega
        have haI : ((bit : Int) + (i : Int)) / 8 = (a : Int) := by omega
        have hne : ((a : Int) == (s.size : Int)) = false := by simp; omega
        obtain ⟨hc, hf⟩ := hcs a (by have := hle.out; omega)
        have hcd : wr.drew.cell? ⟨w.heap.size, a, none⟩ = _ := hc
        have hfd : wr.drew.frozen? ⟨w.heap.size, a, none⟩ = false := hf
        have HA := Lib.hid ha; clear ha
        clear hat
        go_wp2
        go_region
        go_wp2
        go_roundw
        case rel =>
          have hl : a < (chg s.data.toList bit m i).length := by have := hle.out; omega
          refine ⟨i + 1, by omega, by omega, by go_num, ?_, (hbw.setCell (p := ⟨w.heap.size, a, none⟩) (Nat.le_refl _) _).drew⟩
          rw [chg, turnB_in HA.out hl]
          exact hcs.set hl _ (turn_prog _ m i _ (by omega))
        case measure => simp [intOf]; omega
    · obtain rfl : i = 32 := by omega
      have hstr := hcs.str (grownCap w s.size 0 5) hle.out
      go_wp2
      try rw [Exit.noGoto_ret]
      go_ret2
      exact ⟨rfl, hbw⟩

theorem crc_Change.out (s : ByteArray) (bit : Int) (m : Int) (w : World) (hs : s.size ≤ 140737488351232) (hbit : bit < 0 ∨ 8 * (s.size : Int) ≤ bit) :
    Calls Try.prog 29 #[.string s, .int .i64 bit, .int .u32 m] w fun e w' => e = .returned (.tuple #[.string ⟨#[]⟩, .int .i64 2]) ∧ w = w' := by
  rcases hbit with h | h
  · have h0 : decide ((bit : Int) < 0) = true := by simpa using h
    go_enter Try.func29, Try.ntmps29
    go_wp2
    go_step3
    go_wp2
    try rw [Exit.noGoto_ret]
    go_ret2
    exact ⟨rfl, rfl⟩
  · have h0 : decide ((bit : Int) < 0) = false := by simp; omega
    have h1 : decide (8 * (s.size : Int) ≤ (bit : Int)) = true := by simpa using h
    go_enter Try.func29, Try.ntmps29
    go_wp2
    go_step3
    go_wp2
    try rw [Exit.noGoto_ret]
    go_ret2
    exact ⟨rfl, rfl⟩
end Go.Proofs.Ythmeakkpmielmaa.G
