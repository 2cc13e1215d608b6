/- Records: what length, records, Read of the program tell. -/
import Derived.Test.YtmafolojopjenaaCrcG
import Derived.Test.YtmafolojopjenaaCrcP
import Derived.Test.YtmafolojopjenaaJouM
namespace Go.Proofs.Ytmafolojopjenaa.G
open Go.RowKit Go.Shelf Go.Proofs.YtmafolojopjenaaW.PrintWords Go.Proofs.Ytmafolojopjenaa.Cr Go.Proofs.Ytmafolojopjenaa.Jo
attribute [local go_sem] Oper.semAt_some

/-! ### length -/
def numS (s : ByteArray) : Int := (getS (s.extract 1 5)).1
theorem numS_range (s : ByteArray) : 0 ≤ numS s ∧ numS s < 4294967296 := by
  unfold numS getS
  split
  · exact ⟨ofB_ge _, ofB_lt _⟩
  · exact ⟨by decide, by decide⟩
def lenS (s : ByteArray) : Int × Bool :=
  if s.size < 9 then (0, false) else if bt s 0 ≠ 52 then (0, false) else if 4096 < numS s then (0, false) else (5 + numS s + 4, decide (5 + numS s + 4 ≤ (s.size : Int)))
theorem ret_ib {a b : Int × Bool} (h : a = b) : Ending.returned (.tuple #[.int .i64 a.1, .bool a.2]) = .returned (.tuple #[.int .i64 b.1, .bool b.2]) := by rw [h]
set_option maxRecDepth 100000 in
set_option maxHeartbeats 4000000 in
theorem length.below (s : ByteArray) (hs : s.size ≤ 9223372036854775807) (w : World) :
    Calls Try.prog 53 #[.string s] w fun e w' => e = .returned (.tuple #[.int .i64 (lenS s).1, .bool (lenS s).2]) ∧ Below w.heap.size w w' := by
  by_cases h9 : s.size < 9
  · have hl : lenS s = (0, false) := by unfold lenS; rw [if_pos h9]
    rw [hl]
    have d1 : decide ((s.size : Int) < 9) = true := by simp; omega
    have HL := Lib.hid hl; clear hl
    have H9 := Lib.hid h9; clear h9
    go_enter Try.func53, Try.ntmps53
    go_wp2
    go_ret2
    exact ⟨rfl, Below.refl _ _⟩
  · have d1 : decide ((s.size : Int) < 9) = false := by simp; omega
    have h5 : 5 ≤ (s.size : Int) := by omega
    have h5n : 5 ≤ s.size := by omega
    have q0 : 0 < s.size := by omega
    have hx : ∀ h : 0 < s.size, ((s[0]'h).toNat : Int) = bt s 0 := bt_at s 0
    have qi : (0 < (s.size : Int)) = True := eq_true (by omega)
    have Q0 := eq_true q0
    by_cases hm : bt s 0 = 52
    · obtain ⟨n, hn⟩ : ∃ n, numS s = n := ⟨_, rfl⟩
      obtain ⟨n0, n1⟩ := numS_range s
      rw [hn] at n0 n1
      have hg : (getS (s.extract 1 5)).1 = n := hn
      have dm : (bt s 0 != 52) = false := by simpa using hm
      by_cases h4 : 4096 < n
      · have hl : lenS s = (0, false) := by unfold lenS; rw [if_neg h9, if_neg (by simpa using hm), hn, if_pos h4]
        rw [hl]
        have HL := Lib.hid hl; clear hl
        have H9 := Lib.hid h9; clear h9
        have HM := Lib.hid hm; clear hm
        have HN := Lib.hid hn; clear hn
        have HG := Lib.hid hg; clear hg
        clear q0
        have d4 : decide (4096 < n) = true := by simpa using h4
        go_enter Try.func53, Try.ntmps53
        go_wp2_with (go_at_call 61; refine (crc_Get.below _ _).mono ?_; rw [HG.out]; rintro e w1 ⟨rfl, hb⟩)
        go_ret2
        exact ⟨rfl, hb⟩
      · have hl : lenS s = (5 + n + 4, decide (5 + n + 4 ≤ (s.size : Int))) := by unfold lenS; rw [if_neg h9, if_neg (by simpa using hm), hn, if_neg h4]
        rw [hl]
        have HL := Lib.hid hl; clear hl
        have H9 := Lib.hid h9; clear h9
        have HM := Lib.hid hm; clear hm
        have HN := Lib.hid hn; clear hn
        have HG := Lib.hid hg; clear hg
        clear q0
        have d4 : decide (4096 < n) = false := by simpa using h4
        go_enter Try.func53, Try.ntmps53
        go_wp2_with (go_at_call 61; refine (crc_Get.below _ _).mono ?_; rw [HG.out]; rintro e w1 ⟨rfl, hb⟩)
        go_ret2
        exact ⟨rfl, hb⟩
    · have hl : lenS s = (0, false) := by unfold lenS; rw [if_neg h9, if_pos hm]
      rw [hl]
      have dm : (bt s 0 != 52) = true := by simpa using hm
      have HL := Lib.hid hl; clear hl
      have H9 := Lib.hid h9; clear h9
      have HM := Lib.hid hm; clear hm
      clear q0
      go_enter Try.func53, Try.ntmps53
      go_wp2
      go_ret2
      exact ⟨rfl, Below.refl _ _⟩
end Go.Proofs.Ytmafolojopjenaa.G
