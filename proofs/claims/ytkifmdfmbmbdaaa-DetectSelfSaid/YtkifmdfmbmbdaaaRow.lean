/- Arguments that are structs, or slices of what is plain: read as the printed texts read them. -/
import Derived.Test.YtkifmdfmbmbdaaaWWords
import Derived.Deep.Slices
import Derived.Deep.Fields
import Derived.ChangeSame
import Derived.ChangeArms
namespace Go.Proofs.Ytkifmdfmbmbdaaa.R
open Go.ChangeShapes Go.WideShapes Go.RowKit Go.Proofs.YtkifmdfmbmbdaaaW.PrintWords
section
variable {H : Type} {enc : TypeId × Value → H} {P : Program} {w : World} {base : Nat} {spare : Nat → Bool} {held : Bool}
/-- A slice's elements, one by one. -/
theorem slice_kd {α : Type} (d : Kd α) (Good : α → Prop) {t e : TypeId} {A : Option Addr} {len cap : Nat} {x : DataW H} {p : List MemPlace} (ht : P.underlying t = some (.slice e)) (hz : P.cellsOf e = d.sz)
    (hel : ∀ (n : Nat) (cs : List Value) (y : DataW H × List MemPlace), DataW.trod enc P w base spare held n e cs = some y → cs.length = d.sz → ∃ z : α, d.K w z cs ∧ Good z)
    (h : DataW.Trod enc P w base spare held t (.slice A len cap) x p) :
    ∃ l : List α, len = l.length ∧ Kd.C d w A l.length l ∧ l.length ≤ cap ∧ l.length ≤ maxLen ∧ ∀ z ∈ l, Good z := by
  obtain ⟨fuel, hf⟩ := h
  rcases Go.Deep.open_slice ht hf with ⟨hcs, _⟩ | ⟨a, len', cap', m, n, D, Pl, hcs, hb, hl, hm, hmm, hx, hi⟩
  · simp [Value.cells] at hcs
    obtain ⟨rfl, rfl, rfl⟩ := hcs
    exact ⟨[], rfl, Kd.C_nil d w, Nat.zero_le _, Nat.zero_le _, by simp⟩
  · simp [Value.cells] at hcs
    obtain ⟨rfl, rfl, rfl⟩ := hcs
    have hlm : len ≤ m := by
      rw [hmm]
      split
      · exact hl
      · exact Nat.le_refl _
    have each : ∀ i : Fin len, ∃ z : α, Good z ∧ ∃ cs, cs.length = d.sz ∧ d.K w z cs ∧ ∀ j u, cs[j]? = some u → w.cell? (a.add (i.1 * d.sz + j)) = some u := by
      intro i
      obtain ⟨cs', hc, ht'⟩ := hi i.1 (by have := i.2; omega)
      obtain ⟨_, hcl, hat⟩ := World.cells?_some hc
      rw [hz] at hcl hat
      obtain ⟨z, hk, hg⟩ := hel n cs' _ ht' hcl
      refine ⟨z, hg, cs', hcl, hk, fun j u hj => ?_⟩
      have hjl : j < d.sz := by rw [← hcl]; exact (List.getElem?_eq_some_iff.1 hj).1
      rw [← Go.Deep.add_add, hat j hjl, hj]
    obtain ⟨f, hf'⟩ := Classical.axiomOfChoice each
    have hmx : len ≤ maxLen := Nat.le_trans hl hm
    refine ⟨List.ofFn f, by simp, ⟨rfl, ?_, fun _ => ⟨a, rfl, fun j z hj => ?_⟩⟩, by simpa using hl, by simpa using hmx, ?_⟩
    · simp only [List.length_ofFn]; exact hmx
    · obtain ⟨hjl, hjz⟩ := List.getElem?_eq_some_iff.1 hj
      rw [List.getElem_ofFn] at hjz
      obtain ⟨_, cs, h1, h2, h3⟩ := hf' ⟨j, by simpa using hjl⟩
      rw [hjz] at h2
      exact ⟨cs, h1, h2, h3⟩
    · intro z hz'
      obtain ⟨i, hi', rfl⟩ := List.getElem_of_mem hz'
      rw [List.getElem_ofFn]
      exact (hf' _).1
theorem el_string {e : TypeId} (he : P.underlying e = some .string) : ∀ (n : Nat) (cs : List Value) (y : DataW H × List MemPlace), DataW.trod enc P w base spare held n e cs = some y → cs.length = Kd.string.sz → ∃ z, Kd.string.K w z cs ∧ z.size ≤ maxLen := by
  intro n cs y h _
  obtain ⟨s, rfl, _, hs⟩ := DataW.trod_string he h
  exact ⟨s, rfl, hs⟩
theorem el_bool {e : TypeId} (he : P.underlying e = some .bool) : ∀ (n : Nat) (cs : List Value) (y : DataW H × List MemPlace), DataW.trod enc P w base spare held n e cs = some y → cs.length = Kd.bool.sz → ∃ z, Kd.bool.K w z cs ∧ True := by
  intro n cs y h _
  obtain ⟨s, rfl, _⟩ := DataW.trod_bool he h
  exact ⟨s, rfl, trivial⟩
theorem el_int {e : TypeId} {k : IntKind} (he : P.underlying e = some (.int k)) : ∀ (n : Nat) (cs : List Value) (y : DataW H × List MemPlace), DataW.trod enc P w base spare held n e cs = some y → cs.length = (Kd.int k).sz → ∃ z, (Kd.int k).K w z cs ∧ (Lit.int k z).wf = true := by
  intro n cs y h _
  obtain ⟨s, rfl, _, hs⟩ := DataW.trod_int he h
  exact ⟨s, rfl, hs⟩
/-- A struct's fields, each of one cell. -/
theorem struct_fields {t : TypeId} {fs : Array Field} {n : Nat} {cs : List Value} {x : DataW H × List MemPlace} (ht : P.underlying t = some (.struct fs)) (h : DataW.trod enc P w base spare held n t cs = some x) :
    ∃ m, ∀ (i : Nat) (f : Field) (c : Value), fs[i]? = some f → P.cellsOf f.type = 1 → cs[f.offset]? = some c → ∃ y, DataW.trod enc P w base spare held m f.type [c] = some y := by
  obtain ⟨xs, m, _, _, hl, hlen, hf⟩ := DataW.trod_struct ht h
  refine ⟨m, fun i f c hfi h1 hc => ?_⟩
  have hi : i < xs.length := by rw [hlen]; exact (Array.getElem?_eq_some_iff.1 hfi).1
  have := hf i f hfi
  rw [h1, List.getElem?_eq_getElem hi] at this
  obtain ⟨hcl, hcc⟩ := List.getElem?_eq_some_iff.1 hc
  rw [List.drop_eq_getElem_cons hcl, hcc] at this
  exact ⟨_, this⟩
end
theorem list1 {cs : List Value} (h : cs.length = 1) : ∃ b0, cs = [b0] := by
  match cs, h with
  | [b0], _ => exact ⟨b0, rfl⟩
theorem list2 {cs : List Value} (h : cs.length = 2) : ∃ b0 b1, cs = [b0, b1] := by
  match cs, h with
  | [b0, b1], _ => exact ⟨b0, b1, rfl⟩
theorem list3 {cs : List Value} (h : cs.length = 3) : ∃ b0 b1 b2, cs = [b0, b1, b2] := by
  match cs, h with
  | [b0, b1, b2], _ => exact ⟨b0, b1, b2, rfl⟩
theorem list4 {cs : List Value} (h : cs.length = 4) : ∃ b0 b1 b2 b3, cs = [b0, b1, b2, b3] := by
  match cs, h with
  | [b0, b1, b2, b3], _ => exact ⟨b0, b1, b2, b3, rfl⟩
theorem list5 {cs : List Value} (h : cs.length = 5) : ∃ b0 b1 b2 b3 b4, cs = [b0, b1, b2, b3, b4] := by
  match cs, h with
  | [b0, b1, b2, b3, b4], _ => exact ⟨b0, b1, b2, b3, b4, rfl⟩
theorem list6 {cs : List Value} (h : cs.length = 6) : ∃ b0 b1 b2 b3 b4 b5, cs = [b0, b1, b2, b3, b4, b5] := by
  match cs, h with
  | [b0, b1, b2, b3, b4, b5], _ => exact ⟨b0, b1, b2, b3, b4, b5, rfl⟩
theorem list7 {cs : List Value} (h : cs.length = 7) : ∃ b0 b1 b2 b3 b4 b5 b6, cs = [b0, b1, b2, b3, b4, b5, b6] := by
  match cs, h with
  | [b0, b1, b2, b3, b4, b5, b6], _ => exact ⟨b0, b1, b2, b3, b4, b5, b6, rfl⟩
end Go.Proofs.Ytkifmdfmbmbdaaa.R
