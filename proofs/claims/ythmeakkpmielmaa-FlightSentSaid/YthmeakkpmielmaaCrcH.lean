/- The document's sums, numbers as bytes, seals: what each function tells. -/
import Derived.Test.YthmeakkpmielmaaCrcF
namespace Go.Proofs.Ythmeakkpmielmaa.G
open Go.RowKit Go.Proofs.YthmeakkpmielmaaW.PrintWords Go.Proofs.Ythmeakkpmielmaa.Cr

theorem put_nums (m : BitVec 32) : strOfNums [ofB m % 256, ofB m / 256 % 256, ofB m / 65536 % 256, ofB m / 16777216 % 256] = putS m := by
  have h0 := byteAt_toNat m 0
  have h1 := byteAt_toNat m 1
  have h2 := byteAt_toNat m 2
  have h3 := byteAt_toNat m 3
  simp at h0 h1 h2 h3
  unfold putS putL strOfNums
  rw [← h0, ← h1, ← h2, ← h3]
  simp
/-! ### Get, Open -/
theorem bt4 {s : ByteArray} {a b c d : UInt8} (h : s.data.toList = [a, b, c, d]) : ∀ i (hi : i < s.size), s[i]'hi = [a, b, c, d].getD i 0 := by
  intro i hi
  have : s[i] = s.data.toList[i]'(by rw [Array.length_toList]; exact hi) := rfl
  have hi4 : i < 4 := by have : s.data.toList.length = 4 := by rw [h]; rfl
                         rw [Array.length_toList] at this; exact this ▸ hi
  rw [this]
  simp only [h]
  rw [List.getD_eq_getElem?_getD, List.getElem?_eq_getElem (by simpa using hi4)]
  rfl
theorem getS_put {t : ByteArray} (h4 : t.size = 4) (m : BitVec 32) : (getS t).1 = ofB m ↔ t = putS m := by
  obtain ⟨a, b, c, d, hl⟩ := four (l := t.data.toList) (by rw [Array.length_toList]; exact h4)
  have ht : t = ⟨[a, b, c, d].toArray⟩ := by apply ByteArray.ext; apply Array.toList_inj.1; rw [hl]
  have hg : getS t = (ofB (getB a b c d), 0) := by unfold getS; rw [hl]; rfl
  rw [hg]
  constructor
  · intro h
    have e : getB a b c d = m := ofB_inj h
    rw [ht, ← e]
    unfold putS
    rw [put_get]
  · rintro rfl
    have hp : (putS m).data.toList = putL m := by simp [putS]
    rw [hp] at hl
    have := get_put m
    rw [hl] at this
    exact congrArg ofB (Option.some.inj this)
end Go.Proofs.Ythmeakkpmielmaa.G
