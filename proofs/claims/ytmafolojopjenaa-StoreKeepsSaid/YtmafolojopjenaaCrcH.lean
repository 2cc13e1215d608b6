/- The document's sums, numbers as bytes, seals: what each function tells. -/
import Derived.Test.YtmafolojopjenaaCrcF
namespace Go.Proofs.Ytmafolojopjenaa.G
open Go.RowKit Go.Proofs.YtmafolojopjenaaW.PrintWords Go.Proofs.Ytmafolojopjenaa.Cr

set_option maxHeartbeats 1000000 in
theorem ref_Step.same (a0 a1 : Int) (w : World) :
    Calls Try.prog 73 #[.int .u32 a0, .int .u8 a1] w fun e w' => e = .returned (.int .u32 (stepS a0 a1)) ∧ w = w' := by
  go_enter Try.func73, Try.ntmps73
  go_wp2
  go_loop [0, 5] (fun v i => ∃ k : Nat, k ≤ 8 ∧ i = .int .i64 k ∧ v = .int .u32 (ofB (iter g k (toB a0 ^^^ toB (a1 % 4294967296))))) (fun _ i => 8 - (intOf i).toNat)
  case atStart => exact ⟨0, by omega, rfl, val_u32 (bits_xor_toB _ _)⟩
  case round =>
    obtain ⟨k, hk, rfl, rfl⟩ := hrel
    obtain ⟨x, hx⟩ : ∃ x, iter g k (toB a0 ^^^ toB (a1 % 4294967296)) = x := ⟨_, rfl⟩
    rw [hx]
    have HX := Lib.hid hx; clear hx
    have h0 := ofB_ge x
    by_cases hlt : k < 8
    · by_cases ho : ofB x % 2 = 1
      · have hg := Lib.hid (g_odd ho)
        have hb : (ofB x % 2 == 1) = true := by rw [ho]; rfl
        have HO := Lib.hid ho; clear ho
        go_wp2
        go_round
        case rel => exact ⟨k + 1, by omega, by go_num, val_u32 (by rw [iter_succ', HX.out]; exact hg.out)⟩
        case measure => simp [intOf]; omega
      · have hg := Lib.hid (g_even ho)
        have hb : (ofB x % 2 == 1) = false := by simpa using ho
        have HO := Lib.hid ho; clear ho
        go_wp2
        go_round
        case rel => exact ⟨k + 1, by omega, by go_num, val_u32 (by rw [iter_succ', HX.out]; exact hg.out)⟩
        case measure => simp [intOf]; omega
    · obtain rfl : k = 8 := by omega
      go_wp2
      go_ret
      exact ⟨by rw [← HX.out]; rfl, rfl⟩

theorem ref_over.same (a0 : Int) (w : World) :
    Calls Try.prog 72 #[.int .u32 a0] w fun e w' => e = .returned (.int .u32 (ofB (~~~ toB a0))) ∧ w = w' := by
  go_enter Try.func72, Try.ntmps72
  go_wp2
  go_ret
  exact ⟨ret_u32 (bits_xor_all' a0), rfl⟩

set_option maxRecDepth 100000 in
set_option maxHeartbeats 4000000 in
theorem ref_More.same (a0 : Int) (s : ByteArray) (hs : s.size ≤ 140737488351232) (w : World) :
    Calls Try.prog 66 #[.int .u32 a0, .string s] w fun e w' => e = .returned (.int .u32 (moreS a0 s)) ∧ w = w' := by
  go_enter Try.func66, Try.ntmps66
  go_wp2_with (go_at_call 72; refine (ref_over.same _ _).mono ?_; rintro e w' ⟨rfl, rfl⟩)
  go_loop [5, 6] (fun v i => ∃ k : Nat, k ≤ s.size ∧ i = .int .i64 k ∧ v = .int .u32 (ofB (stepsB (~~~ toB a0) (s.data.toList.take k)))) (fun _ i => s.size - (intOf i).toNat)
  case atStart => exact ⟨0, Nat.zero_le _, rfl, rfl⟩
  case round =>
    obtain ⟨k, hk, rfl, rfl⟩ := hrel
    by_cases hlt : k < s.size
    · have HS := Lib.hid (take_snoc s k hlt)
      go_wp2_with (go_at_call 73; refine (ref_Step.same _ _ _).mono ?_; rintro e w' ⟨rfl, rfl⟩)
      go_round
      case rel => exact ⟨k + 1, by omega, by go_num, val_u32 (by rw [HS.out, stepsB_snoc, stepS_steps])⟩
      case measure => simp [intOf]; omega
    · obtain rfl : k = s.size := by omega
      go_wp2_with (go_at_call 72; refine (ref_over.same _ _).mono ?_; rintro e w' ⟨rfl, rfl⟩)
      go_ret
      exact ⟨ret_u32 (by rw [toB_ofB, List.take_of_length_le (by simp)]; rfl), rfl⟩

theorem ref_Sum.same (s : ByteArray) (hs : s.size ≤ 140737488351232) (w : World) :
    Calls Try.prog 57 #[.string s] w fun e w' => e = .returned (.int .u32 (ofB (sumS s))) ∧ w = w' := by
  go_enter Try.func57, Try.ntmps57
  go_wp2_with (go_at_call 66; refine (ref_More.same _ _ hs _).mono ?_; rintro e w' ⟨rfl, rfl⟩)
  go_ret
  exact ⟨ret_u32 (moreS_zero s), rfl⟩

theorem put_nums (m : BitVec 32) : strOfNums [ofB m % 256, ofB m / 256 % 256, ofB m / 65536 % 256, ofB m / 16777216 % 256] = putS m := by
  have h0 := byteAt_toNat m 0
  have h1 := byteAt_toNat m 1
  have h2 := byteAt_toNat m 2
  have h3 := byteAt_toNat m 3
  simp at h0 h1 h2 h3
  unfold putS putL strOfNums
  rw [← h0, ← h1, ← h2, ← h3]
  simp
set_option maxRecDepth 100000 in
set_option maxHeartbeats 4000000 in
theorem ref_Put.below (m : BitVec 32) (w : World) :
    Calls Try.prog 48 #[.int .u32 (ofB m)] w fun e w' => e = .returned (.string (putS m)) ∧ Below w.heap.size w w' := by
  have h0 := ofB_ge m
  have hcv := run_convert_bytes_arg (P := Try.prog) (w.alloc (.cells #[.int .u8 (ofB m % 256), .int .u8 (ofB m / 256 % 256), .int .u8 (ofB m / 65536 % 256), .int .u8 (ofB m / 16777216 % 256)] 5)) 49 5 Try.underlying49 Try.underlying5 w.heap.size 0 4 4 [ofB m % 256, ofB m / 256 % 256, ofB m / 65536 % 256, ofB m / 16777216 % 256] rfl
    (fun i hi => by
      have : i = 0 ∨ i = 1 ∨ i = 2 ∨ i = 3 := by omega
      rcases this with rfl | rfl | rfl | rfl <;> simp) 9 Try.underlying9
  rw [put_nums] at hcv
  go_enter Try.func48, Try.ntmps48
  go_wp2
  go_ret
  exact ⟨rfl, (Below.refl _ w).alloc (Nat.le_refl _) _⟩

theorem ref_Seal.below (s : ByteArray) (hs : s.size ≤ 140737488351232) (w : World) :
    Calls Try.prog 47 #[.string s] w fun e w' => e = .returned (.string (sealS s)) ∧ Below w.heap.size w w' := by
  have hp := putS_size (sumS s)
  have hl : s.size + (putS (sumS s)).size ≤ 9223372036854775807 := by omega
  clear hp
  go_enter Try.func47, Try.ntmps47
  go_wp2_with (first | (go_at_call 57; refine (ref_Sum.same _ hs _).mono ?_; rintro e w1 ⟨rfl, rfl⟩) | (go_at_call 48; refine (ref_Put.below _ _).mono ?_; rintro e w2 ⟨rfl, hb2⟩))
  go_ret
  exact ⟨rfl, hb2⟩

/-! ### Get, Open -/
theorem bt4 {s : ByteArray} {a b c d : UInt8} (h : s.data.toList = [a, b, c, d]) : ∀ i (hi : i < s.size), s[i]'hi = [a, b, c, d].getD i 0 := by
  intro i hi
  have : s[i] = s.data.toList[i]'(by rw [Array.length_toList]; exact hi) := rfl
  have hi4 : i < 4 := by have : s.data.toList.length = 4 := by rw [h]; rfl
                         rw [Array.length_toList] at this; exact this ▸ hi
  rw [this]
  simp only [h]
  rw [List.getD_eq_getElem?_getD, List.getElem?_eq_getElem (by simpa using hi4)]
  rfl
set_option maxRecDepth 100000 in
set_option maxHeartbeats 4000000 in
theorem ref_Get.drawn (s : ByteArray) (w : World) :
    Calls Try.prog 58 #[.string s] w fun e w' => e = .returned (.tuple #[.int .u32 (getS s).1, .int .i64 (getS s).2]) ∧ Drawn0 w w' := by
  by_cases h4 : s.size = 4
  · have hd : s.data.toList.length = 4 := by rw [Array.length_toList]; exact h4
    obtain ⟨b0, b1, b2, b3, hl⟩ := four hd
    have HG : getS s = (ofB (getB b0 b1 b2 b3), 0) := by unfold getS; rw [hl]; rfl
    have hb := bt4 hl
    have e0 : s[0]'(by omega) = b0 := hb 0 (by omega)
    have e1 : s[1]'(by omega) = b1 := hb 1 (by omega)
    have e2 : s[2]'(by omega) = b2 := hb 2 (by omega)
    have e3 : s[3]'(by omega) = b3 := hb 3 (by omega)
    have ht : (((s.size : Nat) : Int) != 4) = false := by rw [h4]; rfl
    have HG' := Lib.hid HG; clear HG
    have H1 := Lib.hid hl; clear hl
    have H2 := Lib.hid hd; clear hd
    have H3 := Lib.hid hb; clear hb
    have H4 := Lib.hid (get_prog b0 b1 b2 b3)
    go_enter Try.func58, Try.ntmps58
    go_wp2
    go_quiet (fail)
    go_wp2
    go_ret2
    refine ⟨?_, ⟨_, rfl⟩⟩
    rw [show getS s = (ofB (getB b0 b1 b2 b3), 0) from HG'.out]
    exact ret_get (by rw [H4.out])
  · have HG : getS s = (0, 2) := by unfold getS; rw [getL_none (by rw [Array.length_toList]; exact h4)]
    have ht : (((s.size : Nat) : Int) != 4) = true := by simp; omega
    rw [HG]
    go_enter Try.func58, Try.ntmps58
    go_wp2
    go_ret2
    exact ⟨rfl, Drawn0.refl w⟩
theorem getS_put {t : ByteArray} (h4 : t.size = 4) (m : BitVec 32) : (getS t).1 = ofB m ↔ t = putS m := by
  obtain ⟨a, b, c, d, hl⟩ := four (l := t.data.toList) (by rw [Array.length_toList]; exact h4)
  have ht : t = ⟨[a, b, c, d].toArray⟩ := by apply ByteArray.ext; apply Array.toList_inj.1; rw [hl]
  have hg : getS t = (ofB (getB a b c d), 0) := by unfold getS; rw [hl]; rfl
  rw [hg]
  constructor
  · intro h
    have e : getB a b c d = m := ofB_inj h
    rw [ht, ← e]
    unfold putS
    rw [put_get]
  · rintro rfl
    have hp : (putS m).data.toList = putL m := by simp [putS]
    rw [hp] at hl
    have := get_put m
    rw [hl] at this
    exact congrArg ofB (Option.some.inj this)
set_option maxRecDepth 100000 in
set_option maxHeartbeats 4000000 in
theorem ref_Open.drawn (s : ByteArray) (hs : s.size ≤ 140737488351232) (w : World) :
    Calls Try.prog 59 #[.string s] w fun e w' => e = .returned (.tuple #[.string (openS s).1, .bool (openS s).2]) ∧ Drawn0 w w' := by
  by_cases h4 : 4 ≤ s.size
  · have hd : decide ((s.size : Int) < 4) = false := by simp; omega
    have hk : (s.size : Int) - 4 = ((s.size - 4 : Nat) : Int) := by omega
    have hsz : (s.extract 0 (s.size - 4)).size ≤ 140737488351232 := by rw [ByteArray.size_extract]; omega
    have h44 : (s.extract (s.size - 4) s.size).size = 4 := by rw [ByteArray.size_extract]; omega
    obtain ⟨k, hk'⟩ : ∃ k, s.size - 4 = k := ⟨_, rfl⟩
    rw [hk'] at hk hsz h44
    have hks : k ≤ s.size := by omega
    have hgp := getS_put h44 (sumS (s.extract 0 k))
    have H44 := Lib.hid h44; clear h44
    by_cases he : s.extract (s.size - 4) s.size = putS (sumS (s.extract 0 (s.size - 4)))
    · have ho : openS s = (s.extract 0 (s.size - 4), true) := by unfold openS; rw [if_pos ⟨h4, he⟩]
      rw [ho]
      rw [hk'] at he ⊢
      have hne : ((getS (s.extract k s.size)).1 != ofB (sumS (s.extract 0 k))) = false := by rw [hgp.2 he]; simp
      have HO := Lib.hid ho; clear ho
      have HE := Lib.hid he; clear he
      have HG := Lib.hid hgp; clear hgp
      go_enter Try.func59, Try.ntmps59
      go_wp2_with (first | (go_at_call 58; refine (ref_Get.drawn _ _).mono ?_; rintro e w1 ⟨rfl, ⟨nd, rfl⟩⟩) | (go_at_call 57; refine (ref_Sum.same _ hsz _).mono ?_; rintro e w2 ⟨rfl, rfl⟩))
      go_ret2
      exact ⟨rfl, ⟨_, rfl⟩⟩
    · have ho : openS s = (⟨#[]⟩, false) := by unfold openS; rw [if_neg (fun h => he h.2)]
      rw [ho]
      rw [hk'] at he
      have hne : ((getS (s.extract k s.size)).1 != ofB (sumS (s.extract 0 k))) = true := by simpa using fun h => he (hgp.1 h)
      have HO := Lib.hid ho; clear ho
      have HE := Lib.hid he; clear he
      have HG := Lib.hid hgp; clear hgp
      go_enter Try.func59, Try.ntmps59
      go_wp2_with (first | (go_at_call 58; refine (ref_Get.drawn _ _).mono ?_; rintro e w1 ⟨rfl, ⟨nd, rfl⟩⟩) | (go_at_call 57; refine (ref_Sum.same _ hsz _).mono ?_; rintro e w2 ⟨rfl, rfl⟩))
      go_ret2
      exact ⟨rfl, ⟨_, rfl⟩⟩
  · have ho : openS s = (⟨#[]⟩, false) := by unfold openS; rw [if_neg (fun h => h4 h.1)]
    rw [ho]
    have hd : decide ((s.size : Int) < 4) = true := by simp; omega
    have HO := Lib.hid ho; clear ho
    go_enter Try.func59, Try.ntmps59
    go_wp2
    go_ret2
    exact ⟨rfl, Drawn0.refl w⟩
end Go.Proofs.Ytmafolojopjenaa.G
