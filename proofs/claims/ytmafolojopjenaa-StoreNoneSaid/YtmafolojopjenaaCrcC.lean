/- The program's numbers out of four bytes: what joined, Get tell. -/
import Derived.WalkKit
import Derived.Handy
import Derived.Lib.ConvBytes
import Derived.Lib.Hide
import Derived.Test.YtmafolojopjenaaProg
import Derived.Test.YtmafolojopjenaaWWords
import Derived.Test.YtmafolojopjenaaCrcA
import Derived.Test.YtmafolojopjenaaLib
namespace Go.Proofs.Ytmafolojopjenaa.G
open Go.RowKit Go.Proofs.YtmafolojopjenaaW.PrintWords Go.Proofs.Ytmafolojopjenaa.Cr

theorem ret_u32' {a b : Int} (h : a = b) : Ending.returned (.int .u32 a) = .returned (.int .u32 b) := by rw [h]
set_option maxRecDepth 100000 in
set_option maxHeartbeats 4000000 in
theorem joined4 (B c : Nat) (b0 b1 b2 b3 : UInt8) (w : World) (h0 : w.cell? ⟨B, 0, none⟩ = some (.int .u8 (b0.toNat : Int))) (h1 : w.cell? ⟨B, 1, none⟩ = some (.int .u8 (b1.toNat : Int))) (h2 : w.cell? ⟨B, 2, none⟩ = some (.int .u8 (b2.toNat : Int))) (h3 : w.cell? ⟨B, 3, none⟩ = some (.int .u8 (b3.toNat : Int))) :
    Calls Try.prog 67 #[.slice (some ⟨B, 0, none⟩) 4 c] w fun e w' => e = .returned (.int .u32 (ofB (getB b0 b1 b2 b3))) ∧ w = w' := by
  go_enter Try.func67, Try.ntmps67
  go_wp2
  go_rounds 5
  go_ret
  refine ⟨ret_u32' (get_prog0 b0 b1 b2 b3), rfl⟩

def getS (s : ByteArray) : Int × Int := match getL s.data.toList with
  | some x => (ofB x, 0)
  | none => (0, 2)
def crc_Get.f (s : ByteArray) : Option (Int × Int) := some (getS s)
theorem ret_get {a b c d : Int} (h : (a, b) = (c, d)) : Ending.returned (.tuple #[.int .u32 a, .int .i64 b]) = .returned (.tuple #[.int .u32 c, .int .i64 d]) := by cases h; rfl
set_option maxRecDepth 100000 in
set_option maxHeartbeats 4000000 in
theorem crc_Get.below (s : ByteArray) (w : World) :
    Calls Try.prog 61 #[.string s] w fun e w' => e = .returned (.tuple #[.int .u32 (getS s).1, .int .i64 (getS s).2]) ∧ Below w.heap.size w w' := by
  by_cases h4 : s.size = 4
  · have hd : s.data.toList.length = 4 := by rw [Array.length_toList]; exact h4
    obtain ⟨b0, b1, b2, b3, hl⟩ := four hd
    have HG : getS s = (ofB (getB b0 b1 b2 b3), 0) := by unfold getS; rw [hl]; rfl
    have hc0 := Lib.bytesWorld_cell w 5 s 0 (by omega)
    have hc1 := Lib.bytesWorld_cell w 5 s 1 (by omega)
    have hc2 := Lib.bytesWorld_cell w 5 s 2 (by omega)
    have hc3 := Lib.bytesWorld_cell w 5 s 3 (by omega)
    rw [hl] at hc0 hc1 hc2 hc3
    have J := joined4 w.heap.size (grownCap w s.size 0 5) b0 b1 b2 b3 (Lib.bytesWorld w 5 s) hc0 hc1 hc2 hc3
    have hcv := print_bytes (P := Try.prog) 9 49 5 Try.underlying9 Try.underlying49 Try.underlying5 s w
    have hb : Below w.heap.size w (Lib.bytesWorld w 5 s) := bytes_below (Below.refl _ _) (Nat.le_refl _) _ _
    rw [h4] at hcv J
    have ht : (((s.size : Nat) : Int) != 4) = false := by rw [h4]; rfl
    clear hc0 hc1 hc2 hc3 hd hl
    rw [HG]
    have H4 := Lib.hid h4; clear h4
    have HG' := Lib.hid HG; clear HG
    obtain ⟨W, hW⟩ : ∃ W, Lib.bytesWorld w 5 s = W := ⟨_, rfl⟩
    rw [hW] at J hcv hb
    clear hW
    have JJ := Lib.hid J; clear J
    go_enter Try.func61, Try.ntmps61
    go_wp2_with (go_at_call 67; refine JJ.out.mono ?_; rintro e w' ⟨rfl, rfl⟩)
    go_ret2
    exact ⟨rfl, hb⟩
  · have HG : getS s = (0, 2) := by unfold getS; rw [getL_none (by rw [Array.length_toList]; exact h4)]
    have ht : (((s.size : Nat) : Int) != 4) = true := by simp; omega
    rw [HG]
    go_enter Try.func61, Try.ntmps61
    go_wp2
    go_ret2
    exact ⟨rfl, Below.refl _ _⟩
end Go.Proofs.Ytmafolojopjenaa.G
