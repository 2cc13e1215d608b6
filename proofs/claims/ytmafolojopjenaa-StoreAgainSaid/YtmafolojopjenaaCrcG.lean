/- The contracts of the check sums' functions, of the program and of the document, in the form that the printed texts call. -/
import Derived.Test.YtmafolojopjenaaCrcD
import Derived.Test.YtmafolojopjenaaCrcE
import Derived.Test.YtmafolojopjenaaCrcH
namespace Go.Proofs.Ytmafolojopjenaa.G
open Go.RowKit Go.Proofs.YtmafolojopjenaaW.PrintWords Go.Proofs.Ytmafolojopjenaa.Cr

theorem Drawn0.of_eq {w w' : World} (h : w = w') : Drawn0 w w' := h ▸ Drawn0.refl w

def crc_More.f (a0 : Int) (a1 : ByteArray) : Option Int := if a1.size ≤ 140737488351232 then some (moreS a0 a1) else none
theorem crc_More.calls (a0 : Int) (a1 : ByteArray) (r : Int) (w : World) (h : crc_More.f a0 a1 = some r) :
    Calls Try.prog 62 #[.int .u32 a0, .string a1] w fun e w' => e = .returned (.int .u32 r) ∧ Below w.heap.size w w' := by
  unfold crc_More.f at h
  split at h
  · obtain rfl := Option.some.inj h; exact crc_More.below _ _ (by omega) w
  · cases h
def crc_Sum.f (a0 : ByteArray) : Option Int := if a0.size ≤ 140737488351232 then some (ofB (sumS a0)) else none
theorem crc_Sum.calls (a0 : ByteArray) (r : Int) (w : World) (h : crc_Sum.f a0 = some r) :
    Calls Try.prog 55 #[.string a0] w fun e w' => e = .returned (.int .u32 r) ∧ Below w.heap.size w w' := by
  unfold crc_Sum.f at h
  split at h
  · obtain rfl := Option.some.inj h; exact crc_Sum.below _ (by omega) w
  · cases h
theorem crc_Get.calls (a0 : ByteArray) (r1 r2 : Int) (w : World) (h : crc_Get.f a0 = some (r1, r2)) :
    Calls Try.prog 61 #[.string a0] w fun e w' => e = .returned (.tuple #[.int .u32 r1, .int .i64 r2]) ∧ Below w.heap.size w w' := by
  have e := Option.some.inj h
  have e1 : (getS a0).1 = r1 := by rw [e]
  have e2 : (getS a0).2 = r2 := by rw [e]
  rw [← e1, ← e2]
  exact crc_Get.below a0 w
def crc_Put.f (a0 : Int) : Option ByteArray := if 0 ≤ a0 ∧ a0 < 4294967296 then some (putS (toB a0)) else none
theorem crc_Put.calls (a0 : Int) (r : ByteArray) (w : World) (h : crc_Put.f a0 = some r) :
    Calls Try.prog 46 #[.int .u32 a0] w fun e w' => e = .returned (.string r) ∧ Below w.heap.size w w' := by
  unfold crc_Put.f at h
  split at h
  · rename_i hr
    obtain rfl := Option.some.inj h
    have := crc_Put.below (toB a0) w
    rwa [ofB_toB hr.1 hr.2] at this
  · cases h
def crc_Seal.f (a0 : ByteArray) : Option ByteArray := if a0.size ≤ 140737488351232 then some (sealS a0) else none
theorem crc_Seal.calls (a0 : ByteArray) (r : ByteArray) (w : World) (h : crc_Seal.f a0 = some r) :
    Calls Try.prog 44 #[.string a0] w fun e w' => e = .returned (.string r) ∧ Below w.heap.size w w' := by
  unfold crc_Seal.f at h
  split at h
  · rename_i hs; obtain rfl := Option.some.inj h; exact crc_Seal.below _ hs w
  · cases h
def crc_Open.f (a0 : ByteArray) : Option (ByteArray × Bool) := if a0.size ≤ 140737488351232 then some (openS a0) else none
theorem crc_Open.calls (a0 : ByteArray) (r1 : ByteArray) (r2 : Bool) (w : World) (h : crc_Open.f a0 = some (r1, r2)) :
    Calls Try.prog 54 #[.string a0] w fun e w' => e = .returned (.tuple #[.string r1, .bool r2]) ∧ Below w.heap.size w w' := by
  unfold crc_Open.f at h
  split at h
  · rename_i hs
    have e := Option.some.inj h
    have e1 : (openS a0).1 = r1 := by rw [e]
    have e2 : (openS a0).2 = r2 := by rw [e]
    rw [← e1, ← e2]
    exact crc_Open.below a0 hs w
  · cases h
/-- Bytes, changed. -/
def changeS (s : ByteArray) (bit mask : Int) : ByteArray × Int := if bit < 0 ∨ 8 * (s.size : Int) ≤ bit then (⟨#[]⟩, 2) else (⟨(chg s.data.toList bit.toNat (toB mask) 32).toArray⟩, 0)
def crc_Change.f (a0 : ByteArray) (a1 a2 : Int) : Option (ByteArray × Int) := if a0.size ≤ 140737488351232 ∧ 0 ≤ a2 ∧ a2 < 4294967296 then some (changeS a0 a1 a2) else none
/-! ### the document's -/
def ref_Step.f (a0 a1 : Int) : Option Int := some (stepS a0 a1)
theorem ref_Step.calls (a0 a1 r : Int) (w : World) (h : ref_Step.f a0 a1 = some r) :
    Calls Try.prog 73 #[.int .u32 a0, .int .u8 a1] w fun e w' => e = .returned (.int .u32 r) ∧ Drawn0 w w' := by
  obtain rfl := Option.some.inj h
  exact (ref_Step.same a0 a1 w).mono fun e w' ⟨he, hw⟩ => ⟨he, Drawn0.of_eq hw⟩
def ref_More.f (a0 : Int) (a1 : ByteArray) : Option Int := if a1.size ≤ 140737488351232 then some (moreS a0 a1) else none
theorem ref_More.calls (a0 : Int) (a1 : ByteArray) (r : Int) (w : World) (h : ref_More.f a0 a1 = some r) :
    Calls Try.prog 66 #[.int .u32 a0, .string a1] w fun e w' => e = .returned (.int .u32 r) ∧ Drawn0 w w' := by
  unfold ref_More.f at h
  split at h
  · rename_i hs; obtain rfl := Option.some.inj h; exact (ref_More.same _ _ hs w).mono fun e w' ⟨he, hw⟩ => ⟨he, Drawn0.of_eq hw⟩
  · cases h
def ref_Sum.f (a0 : ByteArray) : Option Int := if a0.size ≤ 140737488351232 then some (ofB (sumS a0)) else none
theorem ref_Sum.calls (a0 : ByteArray) (r : Int) (w : World) (h : ref_Sum.f a0 = some r) :
    Calls Try.prog 57 #[.string a0] w fun e w' => e = .returned (.int .u32 r) ∧ Drawn0 w w' := by
  unfold ref_Sum.f at h
  split at h
  · rename_i hs; obtain rfl := Option.some.inj h; exact (ref_Sum.same _ hs w).mono fun e w' ⟨he, hw⟩ => ⟨he, Drawn0.of_eq hw⟩
  · cases h
def ref_Get.f (s : ByteArray) : Option (Int × Int) := some (getS s)
theorem ref_Get.calls (a0 : ByteArray) (r1 r2 : Int) (w : World) (h : ref_Get.f a0 = some (r1, r2)) :
    Calls Try.prog 58 #[.string a0] w fun e w' => e = .returned (.tuple #[.int .u32 r1, .int .i64 r2]) ∧ Drawn0 w w' := by
  have e := Option.some.inj h
  have e1 : (getS a0).1 = r1 := by rw [e]
  have e2 : (getS a0).2 = r2 := by rw [e]
  rw [← e1, ← e2]
  exact ref_Get.drawn a0 w
def ref_Put.f (a0 : Int) : Option ByteArray := if 0 ≤ a0 ∧ a0 < 4294967296 then some (putS (toB a0)) else none
theorem ref_Put.calls (a0 : Int) (r : ByteArray) (w : World) (h : ref_Put.f a0 = some r) :
    Calls Try.prog 48 #[.int .u32 a0] w fun e w' => e = .returned (.string r) ∧ Below w.heap.size w w' := by
  unfold ref_Put.f at h
  split at h
  · rename_i hr
    obtain rfl := Option.some.inj h
    have := ref_Put.below (toB a0) w
    rwa [ofB_toB hr.1 hr.2] at this
  · cases h
def ref_Seal.f (a0 : ByteArray) : Option ByteArray := if a0.size ≤ 140737488351232 then some (sealS a0) else none
theorem ref_Seal.calls (a0 : ByteArray) (r : ByteArray) (w : World) (h : ref_Seal.f a0 = some r) :
    Calls Try.prog 47 #[.string a0] w fun e w' => e = .returned (.string r) ∧ Below w.heap.size w w' := by
  unfold ref_Seal.f at h
  split at h
  · rename_i hs; obtain rfl := Option.some.inj h; exact ref_Seal.below _ hs w
  · cases h
def ref_Open.f (a0 : ByteArray) : Option (ByteArray × Bool) := if a0.size ≤ 140737488351232 then some (openS a0) else none
theorem ref_Open.calls (a0 : ByteArray) (r1 : ByteArray) (r2 : Bool) (w : World) (h : ref_Open.f a0 = some (r1, r2)) :
    Calls Try.prog 59 #[.string a0] w fun e w' => e = .returned (.tuple #[.string r1, .bool r2]) ∧ Drawn0 w w' := by
  unfold ref_Open.f at h
  split at h
  · rename_i hs
    have e := Option.some.inj h
    have e1 : (openS a0).1 = r1 := by rw [e]
    have e2 : (openS a0).2 = r2 := by rw [e]
    rw [← e1, ← e2]
    exact ref_Open.drawn a0 hs w
  · cases h
def ref_Change.f (a0 : ByteArray) (a1 a2 : Int) : Option (ByteArray × Int) := if a0.size ≤ 140737488351232 ∧ 0 ≤ a2 ∧ a2 < 4294967296 then some (changeS a0 a1 a2) else none
end Go.Proofs.Ytmafolojopjenaa.G
