/- The contracts of the check sums' functions, of the program and of the document, in the form that the printed texts call. -/
import Derived.Test.YthmeakkpmielmaaCrcD
import Derived.Test.YthmeakkpmielmaaCrcE
import Derived.Test.YthmeakkpmielmaaCrcH
namespace Go.Proofs.Ythmeakkpmielmaa.G
open Go.RowKit Go.Proofs.YthmeakkpmielmaaW.PrintWords Go.Proofs.Ythmeakkpmielmaa.Cr

theorem Drawn0.of_eq {w w' : World} (h : w = w') : Drawn0 w w' := h ▸ Drawn0.refl w

def crc_More.f (a0 : Int) (a1 : ByteArray) : Option Int := if a1.size ≤ 140737488351232 then some (moreS a0 a1) else none
def crc_Sum.f (a0 : ByteArray) : Option Int := if a0.size ≤ 140737488351232 then some (ofB (sumS a0)) else none
def crc_Put.f (a0 : Int) : Option ByteArray := if 0 ≤ a0 ∧ a0 < 4294967296 then some (putS (toB a0)) else none
def crc_Seal.f (a0 : ByteArray) : Option ByteArray := if a0.size ≤ 140737488351232 then some (sealS a0) else none
def crc_Open.f (a0 : ByteArray) : Option (ByteArray × Bool) := if a0.size ≤ 140737488351232 then some (openS a0) else none
/-- Bytes, changed. -/
def changeS (s : ByteArray) (bit mask : Int) : ByteArray × Int := if bit < 0 ∨ 8 * (s.size : Int) ≤ bit then (⟨#[]⟩, 2) else (⟨(chg s.data.toList bit.toNat (toB mask) 32).toArray⟩, 0)
def crc_Change.f (a0 : ByteArray) (a1 a2 : Int) : Option (ByteArray × Int) := if a0.size ≤ 140737488351232 ∧ 0 ≤ a2 ∧ a2 < 4294967296 then some (changeS a0 a1 a2) else none
theorem crc_Change.calls (a0 : ByteArray) (a1 a2 : Int) (r1 : ByteArray) (r2 : Int) (w : World) (h : crc_Change.f a0 a1 a2 = some (r1, r2)) :
    Calls Try.prog 29 #[.string a0, .int .i64 a1, .int .u32 a2] w fun e w' => e = .returned (.tuple #[.string r1, .int .i64 r2]) ∧ Below w.heap.size w w' := by
  unfold crc_Change.f at h
  split at h
  · rename_i hs
    have e := Option.some.inj h
    unfold changeS at e
    split at e
    · rename_i hb
      cases e
      exact (crc_Change.out a0 a1 a2 w hs.1 hb).mono fun e w' ⟨he, hw⟩ => ⟨he, hw ▸ Below.refl _ w⟩
    · rename_i hb
      cases e
      obtain ⟨k, rfl⟩ := Int.eq_ofNat_of_zero_le (show 0 ≤ a1 by omega)
      have := crc_Change.in_ a0 k (toB a2) w hs.1 (by omega)
      rwa [ofB_toB hs.2.1 hs.2.2] at this
  · cases h

/-! ### the document's -/
def ref_Step.f (a0 a1 : Int) : Option Int := some (stepS a0 a1)
def ref_More.f (a0 : Int) (a1 : ByteArray) : Option Int := if a1.size ≤ 140737488351232 then some (moreS a0 a1) else none
def ref_Sum.f (a0 : ByteArray) : Option Int := if a0.size ≤ 140737488351232 then some (ofB (sumS a0)) else none
def ref_Get.f (s : ByteArray) : Option (Int × Int) := some (getS s)
def ref_Put.f (a0 : Int) : Option ByteArray := if 0 ≤ a0 ∧ a0 < 4294967296 then some (putS (toB a0)) else none
def ref_Seal.f (a0 : ByteArray) : Option ByteArray := if a0.size ≤ 140737488351232 then some (sealS a0) else none
def ref_Open.f (a0 : ByteArray) : Option (ByteArray × Bool) := if a0.size ≤ 140737488351232 then some (openS a0) else none
def ref_Change.f (a0 : ByteArray) (a1 a2 : Int) : Option (ByteArray × Int) := if a0.size ≤ 140737488351232 ∧ 0 ≤ a2 ∧ a2 < 4294967296 then some (changeS a0 a1 a2) else none
theorem ref_Change.calls (a0 : ByteArray) (a1 a2 : Int) (r1 : ByteArray) (r2 : Int) (w : World) (h : ref_Change.f a0 a1 a2 = some (r1, r2)) :
    Calls Try.prog 36 #[.string a0, .int .i64 a1, .int .u32 a2] w fun e w' => e = .returned (.tuple #[.string r1, .int .i64 r2]) ∧ Below w.heap.size w w' := by
  unfold ref_Change.f at h
  split at h
  · rename_i hs
    have e := Option.some.inj h
    unfold changeS at e
    split at e
    · rename_i hb
      cases e
      exact (ref_Change.out a0 a1 a2 w hs.1 hb).mono fun e w' ⟨he, hw⟩ => ⟨he, hw ▸ Below.refl _ w⟩
    · rename_i hb
      cases e
      obtain ⟨k, rfl⟩ := Int.eq_ofNat_of_zero_le (show 0 ≤ a1 by omega)
      have := ref_Change.in_ a0 k (toB a2) w hs.1 (by omega)
      rwa [ofB_toB hs.2.1 hs.2.2] at this
  · cases h
end Go.Proofs.Ythmeakkpmielmaa.G
