/- The program's and the document's numbers as bytes, sums, seals: what each function tells. -/
import Derived.Test.YtmafolojopjenaaCrcB
import Derived.Test.YtmafolojopjenaaCrcC
import Derived.Deep.RegionHeld3
import Derived.Deep.QuietTactic
import Derived.BigQuiet
namespace Go.Proofs.Ytmafolojopjenaa.G
open Go.RowKit Go.Proofs.YtmafolojopjenaaW.PrintWords Go.Proofs.Ytmafolojopjenaa.Cr

/-! ### crc.Put -/
theorem info_u8 : (Try.prog.info? 5).map (fun i => (i.zero, i.size, i.bytes)) = some (some (.int .u8 0), 1, 1) := by kernel_rfl
def pfx (m : BitVec 32) (k : Nat) : List Int := (List.range k).map fun j => ((byteAt m j).toNat : Int)
theorem pfx_length (m : BitVec 32) (k : Nat) : (pfx m k).length = k := by simp [pfx]
theorem pfx_succ (m : BitVec 32) (k : Nat) : pfx m (k + 1) = pfx m k ++ [((byteAt m k).toNat : Int)] := by simp [pfx, List.range_succ]
theorem pfx_four (m : BitVec 32) : strOfNums (pfx m 4) = ⟨(putL m).toArray⟩ := by
  unfold strOfNums pfx putL
  congr 2
  simp [List.range, List.range.loop]
def putS (m : BitVec 32) : ByteArray := ⟨(putL m).toArray⟩
theorem ret_str {a b : ByteArray} (h : a = b) : Ending.returned (.string a) = .returned (.string b) := by rw [h]
set_option maxRecDepth 100000 in
set_option maxHeartbeats 4000000 in
theorem crc_Put.below (m : BitVec 32) (w : World) :
    Calls Try.prog 46 #[.int .u32 (ofB m)] w fun e w' => e = .returned (.string (putS m)) ∧ Below w.heap.size w w' := by
  go_enter Try.func46, Try.ntmps46
  go_wp2
  go_loopw [3, 5] (fun v i wr => ∃ k : Nat, k ≤ 4 ∧ i = .int .i64 k ∧ wr.ownsRow w.heap.size 5 1 v (pfx m k).length (nums .u8 (pfx m k)) ∧ Below w.heap.size w wr) (fun _ i _ => 4 - (intOf i).toNat)
  case atStart => exact ⟨0, by omega, rfl, own_nil _ _ _ _, Below.refl _ _⟩
  case round =>
    obtain ⟨k, hk, rfl, HO, HB⟩ := hrel
    by_cases hlt : k < 4
    · have hv := Lib.hid (byteAt_toNat m k)
      have hp := Lib.hid (pfx_succ m k)
      have hw0 : IntKind.i64.wrap (8 * (k : Int)) = ((8 * k : Nat) : Int) := by simp [IntKind.wrap, IntKind.bits, IntKind.signed]; omega
      have hw1 : (ofB m / 2 ^ (8 * k)) % 256 = ((byteAt m k).toNat : Int) := (byteAt_toNat m k).symm
      go_wp2_with (at_builtin; refine print_append_num w.heap.size rfl (.tmp 8) (.tmp 14) 49 5 .u8 1 rfl Try.underlying49 info_u8 (by omega) u3 (pfx m k) ((byteAt m k).toNat : Int) rfl rfl HO HB HB.size (by rw [pfx_length]; omega) ?_; intro v1 w1 hown1 hb1 _ _)
      go_roundw
      case rel => exact ⟨k + 1, by omega, by go_num, by rw [hp.out]; exact hown1, hb1⟩
      case measure => simp [intOf]; omega
    · obtain rfl : k = 4 := by omega
      have hcv := own_string (P := Try.prog) Try.underlying49 Try.underlying5 Try.underlying9 HO
      go_wp2
      go_ret
      exact ⟨ret_str (pfx_four m), HB⟩

/-! ### crc.Sum, crc.Seal -/
def sumS (s : ByteArray) : BitVec 32 := sumB s.data.toList
theorem moreS_zero (s : ByteArray) : moreS 0 s = ofB (sumS s) := by unfold moreS sumS sumB; rw [show toB 0 = 0#32 by decide]
theorem crc_Sum.below (s : ByteArray) (hs : s.size ≤ 9223372036854775807) (w : World) :
    Calls Try.prog 55 #[.string s] w fun e w' => e = .returned (.int .u32 (ofB (sumS s))) ∧ Below w.heap.size w w' := by
  go_enter Try.func55, Try.ntmps55
  go_wp2_with (go_at_call 62; refine (crc_More.below _ _ hs _).mono ?_; rintro e w' ⟨rfl, hb⟩)
  go_ret
  exact ⟨ret_u32 (moreS_zero s), hb⟩
def sealS (s : ByteArray) : ByteArray := s ++ putS (sumS s)
theorem putS_size (m : BitVec 32) : (putS m).size = 4 := rfl
theorem crc_Seal.below (s : ByteArray) (hs : s.size ≤ 140737488351232) (w : World) :
    Calls Try.prog 44 #[.string s] w fun e w' => e = .returned (.string (sealS s)) ∧ Below w.heap.size w w' := by
  have hp := putS_size (sumS s)
  have hl : s.size + (putS (sumS s)).size ≤ 9223372036854775807 := by omega
  clear hp
  go_enter Try.func44, Try.ntmps44
  go_wp2_with (first | (go_at_call 55; refine (crc_Sum.below _ (by omega) _).mono ?_; rintro e w1 ⟨rfl, hb⟩) | (go_at_call 46; refine (crc_Put.below _ _).mono ?_; rintro e w2 ⟨rfl, hb2⟩))
  go_ret
  exact ⟨rfl, below_then hb hb.size hb2⟩

/-! ### crc.Open -/
theorem byteArray_ext {a b : ByteArray} (h : a.toList = b.toList) : a = b := by
  rw [ByteArray.toList_eq, ByteArray.toList_eq] at h
  exact ByteArray.ext (Array.toList_inj.1 h)
def openS (s : ByteArray) : ByteArray × Bool := if 4 ≤ s.size ∧ s.extract (s.size - 4) s.size = putS (sumS (s.extract 0 (s.size - 4))) then (s.extract 0 (s.size - 4), true) else (⟨#[]⟩, false)
theorem ret_open {a b : ByteArray × Bool} (h : a = b) : Ending.returned (.tuple #[.string a.1, .bool a.2]) = .returned (.tuple #[.string b.1, .bool b.2]) := by rw [h]
set_option maxRecDepth 100000 in
set_option maxHeartbeats 4000000 in
theorem crc_Open.below (s : ByteArray) (hs : s.size ≤ 140737488351232) (w : World) :
    Calls Try.prog 54 #[.string s] w fun e w' => e = .returned (.tuple #[.string (openS s).1, .bool (openS s).2]) ∧ Below w.heap.size w w' := by
  by_cases h4 : 4 ≤ s.size
  · have hd : decide ((s.size : Int) - 4 < 0) = false := by simp; omega
    have hlt : ((s.size : Int) < 4) = False := eq_false (by omega)
    have hk : (s.size : Int) - 4 = ((s.size - 4 : Nat) : Int) := by omega
    have hsz : (s.extract 0 (s.size - 4)).size ≤ 9223372036854775807 := by rw [ByteArray.size_extract]; omega
    obtain ⟨k, hk'⟩ : ∃ k, s.size - 4 = k := ⟨_, rfl⟩
    rw [hk'] at hk hsz
    have hks : k ≤ s.size := by omega
    have hd2 : decide ((k : Int) < 0) = false := by simp
    by_cases he : s.extract (s.size - 4) s.size = putS (sumS (s.extract 0 (s.size - 4)))
    · have ho : openS s = (s.extract 0 (s.size - 4), true) := by unfold openS; rw [if_pos ⟨h4, he⟩]
      rw [ho]
      rw [hk'] at he ⊢
      have HO := Lib.hid ho; clear ho
      go_enter Try.func54, Try.ntmps54
      go_wp2
      go_region_held3 (fun _ => True) (trivial) (first | (go_at_call 55; refine (crc_Sum.below _ hsz _).mono ?_; rintro e w1 ⟨rfl, hb⟩) | (go_at_call 46; refine (crc_Put.below _ _).mono ?_; rintro e w2 ⟨rfl, hb2⟩))
      go_wp2
      go_ret2
      exact ⟨rfl, below_then (below_then ((Below.refl _ w).drew) (Nat.le_refl _) hb) hb.size hb2⟩
    · have ho : openS s = (⟨#[]⟩, false) := by unfold openS; rw [if_neg (fun h => he h.2)]
      rw [ho]
      rw [hk'] at he
      have hne : ((s.extract k s.size).toList == (putS (sumS (s.extract 0 k))).toList) = false := by
        rw [Bool.eq_false_iff]
        intro h
        exact he (byteArray_ext (by simpa using h))
      have HE := Lib.hid he; clear he
      have HO := Lib.hid ho; clear ho
      go_enter Try.func54, Try.ntmps54
      go_wp2
      go_region_held3 (fun _ => True) (trivial) (first | (go_at_call 55; refine (crc_Sum.below _ hsz _).mono ?_; rintro e w1 ⟨rfl, hb⟩) | (go_at_call 46; refine (crc_Put.below _ _).mono ?_; rintro e w2 ⟨rfl, hb2⟩))
      go_wp2
      go_ret2
      exact ⟨rfl, below_then (below_then ((Below.refl _ w).drew) (Nat.le_refl _) hb) hb.size hb2⟩
  · have ho : openS s = (⟨#[]⟩, false) := by unfold openS; rw [if_neg (fun h => h4 h.1)]
    rw [ho]
    obtain ⟨k, hk⟩ : ∃ k : Int, (s.size : Int) - 4 = k := ⟨_, rfl⟩
    have hd : decide (k < 0) = true := by simp; omega
    have hd2 : (k < 0) = True := eq_true (by omega)
    have HO := Lib.hid ho; clear ho
    go_enter Try.func54, Try.ntmps54
    go_wp2
    go_quiet (fail)
    go_wp2
    go_ret2
    exact ⟨rfl, below_drewN (Below.refl _ w) _⟩
end Go.Proofs.Ytmafolojopjenaa.G
