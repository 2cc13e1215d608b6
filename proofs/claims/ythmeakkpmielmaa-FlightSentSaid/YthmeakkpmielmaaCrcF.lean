/- The program's and the document's numbers as bytes, sums, seals: what each function tells. -/
import Derived.Test.YthmeakkpmielmaaCrcB
import Derived.Test.YthmeakkpmielmaaCrcC
import Derived.Deep.RegionHeld3
import Derived.Deep.QuietTactic
import Derived.BigQuiet
namespace Go.Proofs.Ythmeakkpmielmaa.G
open Go.RowKit Go.Proofs.YthmeakkpmielmaaW.PrintWords Go.Proofs.Ythmeakkpmielmaa.Cr

/-! ### crc.Put -/
theorem info_u8 : (Try.prog.info? 5).map (fun i => (i.zero, i.size, i.bytes)) = some (some (.int .u8 0), 1, 1) := by kernel_rfl
def pfx (m : BitVec 32) (k : Nat) : List Int := (List.range k).map fun j => ((byteAt m j).toNat : Int)
theorem pfx_length (m : BitVec 32) (k : Nat) : (pfx m k).length = k := by simp [pfx]
theorem pfx_succ (m : BitVec 32) (k : Nat) : pfx m (k + 1) = pfx m k ++ [((byteAt m k).toNat : Int)] := by simp [pfx, List.range_succ]
theorem pfx_four (m : BitVec 32) : strOfNums (pfx m 4) = ⟨(putL m).toArray⟩ := by
  unfold strOfNums pfx putL
  congr 2
  simp [List.range, List.range.loop]
def putS (m : BitVec 32) : ByteArray := ⟨(putL m).toArray⟩
theorem ret_str {a b : ByteArray} (h : a = b) : Ending.returned (.string a) = .returned (.string b) := by rw [h]
/-! ### crc.Sum, crc.Seal -/
def sumS (s : ByteArray) : BitVec 32 := sumB s.data.toList
theorem moreS_zero (s : ByteArray) : moreS 0 s = ofB (sumS s) := by unfold moreS sumS sumB; rw [show toB 0 = 0#32 by decide]
def sealS (s : ByteArray) : ByteArray := s ++ putS (sumS s)
theorem putS_size (m : BitVec 32) : (putS m).size = 4 := rfl
/-! ### crc.Open -/
theorem byteArray_ext {a b : ByteArray} (h : a.toList = b.toList) : a = b := by
  rw [ByteArray.toList_eq, ByteArray.toList_eq] at h
  exact ByteArray.ext (Array.toList_inj.1 h)
def openS (s : ByteArray) : ByteArray × Bool := if 4 ≤ s.size ∧ s.extract (s.size - 4) s.size = putS (sumS (s.extract 0 (s.size - 4))) then (s.extract 0 (s.size - 4), true) else (⟨#[]⟩, false)
theorem ret_open {a b : ByteArray × Bool} (h : a = b) : Ending.returned (.tuple #[.string a.1, .bool a.2]) = .returned (.tuple #[.string b.1, .bool b.2]) := by rw [h]
end Go.Proofs.Ythmeakkpmielmaa.G
