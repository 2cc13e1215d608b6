/- Small words on the check sums' contracts: what they answer at texts of at most some thousand bytes. -/
import Derived.Test.YtmafolojopjenaaCrcG
import Derived.Test.YtmafolojopjenaaCrcM
import Derived.Test.YtmafolojopjenaaWFour
namespace Go.Proofs.Ytmafolojopjenaa.G
open Go.RowKit Go.Proofs.YtmafolojopjenaaW.PrintWords Go.Proofs.Ytmafolojopjenaa.Cr

theorem wf_u32 {n : Int} (h : (Lit.int .u32 n).wf = true) : 0 ≤ n ∧ n < 4294967296 := by
  simp [Lit.wf, IntKind.min, IntKind.max, IntKind.bits, IntKind.signed] at h
  omega
theorem sumS_shown : ofB (sumS ⟨#[49, 50, 51, 52, 53, 54, 55, 56, 57]⟩) = 3421780262 := by decide +kernel
theorem sealS_shown : (sealS ⟨#[]⟩).toList = ([0, 0, 0, 0] : List UInt8) := by decide +kernel
theorem size_seal (s : ByteArray) : (sealS s).size = s.size + 4 := by
  unfold sealS; rw [ByteArray.size_append, putS_size]
theorem sealS_data (s : ByteArray) : (sealS s).data.toList = s.data.toList ++ putL (sumB s.data.toList) := by
  unfold sealS putS sumS
  simp
theorem size_data (s : ByteArray) : s.data.toList.length = s.size := by rw [Array.length_toList]; rfl
theorem ext_data {a b : ByteArray} (h : a.data.toList = b.data.toList) : a = b := ByteArray.ext (Array.toList_inj.1 h)
theorem data_extract (s : ByteArray) (a b : Nat) : (s.extract a b).data.toList = (s.data.toList.drop a).take (b - a) := by
  simp [ByteArray.data_extract, Array.toList_extract, List.extract_eq_take_drop]
/-- When something is opened. -/
theorem openS_yes {s : ByteArray} (h : 4 ≤ s.size) (hs : s.data.toList.drop (s.size - 4) = putL (sumB (s.data.toList.take (s.size - 4)))) : openS s = (s.extract 0 (s.size - 4), true) := by
  have he : s.extract (s.size - 4) s.size = putS (sumS (s.extract 0 (s.size - 4))) := by
    apply ext_data
    rw [data_extract, List.take_of_length_le (by rw [List.length_drop, size_data]; omega), hs]
    unfold putS sumS
    rw [data_extract, List.drop_zero, Nat.sub_zero]
  unfold openS
  rw [if_pos ⟨h, he⟩]
theorem openS_no {s : ByteArray} (hs : 4 ≤ s.size → s.data.toList.drop (s.size - 4) ≠ putL (sumB (s.data.toList.take (s.size - 4)))) : openS s = (⟨#[]⟩, false) := by
  unfold openS
  rw [if_neg]
  rintro ⟨h, e⟩
  apply hs h
  have e := congrArg (fun x : ByteArray => x.data.toList) e
  simp only [data_extract] at e
  rw [List.take_of_length_le (by rw [List.length_drop, size_data]; omega)] at e
  rw [e]
  unfold putS sumS
  rw [data_extract, List.drop_zero, Nat.sub_zero]
theorem sealed_data (s : ByteArray) : (sealS s).data.toList.drop ((sealS s).size - 4) = putL (sumB ((sealS s).data.toList.take ((sealS s).size - 4))) := by
  rw [size_seal, sealS_data, Nat.add_sub_cancel, ← size_data, List.drop_left, List.take_left]
theorem open_seal (s : ByteArray) : openS (sealS s) = (s, true) := by
  rw [openS_yes (by rw [size_seal]; omega) (sealed_data s)]
  congr 1
  apply ext_data
  rw [data_extract, size_seal, Nat.add_sub_cancel, sealS_data, List.drop_zero, Nat.sub_zero, ← size_data, List.take_left]
theorem get_putS (m : BitVec 32) : getS (putS m) = (ofB m, 0) := by
  unfold getS putS
  rw [show (⟨(putL m).toArray⟩ : ByteArray).data.toList = putL m by simp, get_put]
/-- A change within the bytes. -/
theorem changeS_in {s : ByteArray} {bit mask : Int} (h0 : 0 ≤ bit) (h1 : bit < 8 * (s.size : Int)) : changeS s bit mask = (⟨(chg s.data.toList bit.toNat (toB mask) 32).toArray⟩, 0) := by
  unfold changeS; rw [if_neg (by omega)]
theorem changeS_out {s : ByteArray} {bit mask : Int} (h : bit < 0 ∨ 8 * (s.size : Int) ≤ bit) : changeS s bit mask = (⟨#[]⟩, 2) := by
  unfold changeS; rw [if_pos h]
theorem toList_ne {a b : ByteArray} (h : a.toList ≠ b.toList) : a.data.toList ≠ b.data.toList := by rwa [ByteArray.toList_eq, ByteArray.toList_eq] at h
end Go.Proofs.Ytmafolojopjenaa.G
