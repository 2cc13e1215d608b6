/- The program's change of bytes, and the document's: what both tell. -/
import Derived.WalkKit
import Derived.Handy
import Derived.Lib.ConvBytes
import Derived.Lib.Hide
import Derived.BigRegion
import Derived.Test.YtmafolojopjenaaProg
import Derived.Test.YtmafolojopjenaaWWords
import Derived.Test.YtmafolojopjenaaCrcA
import Derived.Test.YtmafolojopjenaaLib
namespace Go.Proofs.Ytmafolojopjenaa.G
open Go.RowKit Go.Proofs.YtmafolojopjenaaW.PrintWords Go.Proofs.Ytmafolojopjenaa.Cr

/-- Block B holds these bytes, and may be written. -/
def BytesAt (W : World) (B : Nat) (l : List UInt8) : Prop := ∀ j (h : j < l.length), W.cell? ⟨B, j, none⟩ = some (.int .u8 (l[j].toNat : Int)) ∧ W.frozen? ⟨B, j, none⟩ = false
theorem bytesAt_new (w : World) (e : TypeId) (s : ByteArray) : BytesAt (Lib.bytesWorld w e s) w.heap.size s.data.toList := by
  intro j h
  have hj : j < s.size := by rw [Array.length_toList] at h; exact h
  have hc := Lib.bytesWorld_cell w e s j hj
  refine ⟨by rw [hc]; simp [List.getD_eq_getElem?_getD, hj], ?_⟩
  have hn := Lib.bytesWorld_at_new w e s
  have hsz : j < (Lib.bytesCells w e s).size := by
    simp only [World.cell?, hn] at hc
    rcases Nat.lt_or_ge j (Lib.bytesCells w e s).size with h1 | h1
    · exact h1
    · rw [Array.getElem?_eq_none h1] at hc; simp at hc
  simp only [World.frozen?, hn]
  simp; omega
theorem BytesAt.set {W : World} {B : Nat} {l : List UInt8} (h : BytesAt W B l) {a : Nat} (ha : a < l.length) (v : UInt8) {x : Int} (hx : x = (v.toNat : Int)) : BytesAt (W.setCell ⟨B, a, none⟩ (.int .u8 x)) B (l.set a v) := by
  subst hx
  intro j hj
  rw [List.length_set] at hj
  obtain ⟨hc, hf⟩ := h j hj
  refine ⟨?_, by rw [World.frozen?_setCell]; exact hf⟩
  by_cases e : a = j
  · subst e
    rw [World.cell?_setCell_same' _ _ _ (by rw [(h a ha).1]; rfl)]
    simp
  · rw [World.cell?_setCell_other _ _ _ _ (fun e' => e (by cases e'; rfl))]
    simp [e, hc]
theorem BytesAt.str {W : World} {B : Nat} {l : List UInt8} (h : BytesAt W B l) (cap : Nat) {n : Nat} (hn : l.length = n) :
    (convert 49 9 (.slice (some ⟨B, 0, none⟩) n cap)).run Try.prog W = .ok (.string ⟨l.toArray⟩) W := by
  rw [run_convert_bytes_arg (P := Try.prog) W 49 5 Try.underlying49 Try.underlying5 B 0 n cap (l.map fun b => (b.toNat : Int)) (by simp [hn]) (fun i hi => ?_) 9 Try.underlying9]
  · congr 2
    unfold strOfNums
    congr 2
    rw [List.map_map]
    conv => rhs; rw [← List.map_id l]
    apply List.map_congr_left
    intro b _
    simp
  · rw [Nat.zero_add, (h i (by omega)).1]
    simp [List.getD_eq_getElem?_getD, show i < l.length by omega]
theorem ret_chg {a b : ByteArray} (h : a = b) : Ending.returned (.tuple #[.string a, .int .i64 0]) = .returned (.tuple #[.string b, .int .i64 0]) := by rw [h]
end Go.Proofs.Ytmafolojopjenaa.G
