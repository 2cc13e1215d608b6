/- Small words on memory: which blocks lie as they lay. -/
import Derived.RangeFuncNested
import Derived.RangeFuncBox
import Derived.Below
import Derived.Deep.Draws
namespace Go.Proofs.Ytkifmdfmbmbdaaa.G
open Go.RowKit

/-- The blocks of S lie as they lay. -/
def Keeps (S : Nat → Prop) (W W' : World) : Prop := ∀ k, S k → W'.heap[k]? = W.heap[k]?
theorem Keeps.refl (S : Nat → Prop) (W : World) : Keeps S W W := fun _ _ => rfl
theorem Keeps.trans {S : Nat → Prop} {A B C : World} (h : Keeps S A B) (k : Keeps S B C) : Keeps S A C := fun i hi => (k i hi).trans (h i hi)
theorem Keeps.cell {S : Nat → Prop} {W W' : World} (h : Keeps S W W') {p : Addr} (hp : S p.block) : W'.cell? p = W.cell? p := World.cell?_of_block (h _ hp)
theorem Keeps.frozen {S : Nat → Prop} {W W' : World} (h : Keeps S W W') {p : Addr} (hp : S p.block) : W'.frozen? p = W.frozen? p := World.frozen?_of_block (h _ hp)
theorem Keeps.setCell {S : Nat → Prop} {W W' : World} (h : Keeps S W W') {p : Addr} (hp : ¬ S p.block) (u : Value) : Keeps S W (W'.setCell p u) :=
  fun k hk => (Below.heap_setCell _ _ _ k (fun e => hp (e ▸ hk))).trans (h k hk)
theorem Keeps.alloc {S : Nat → Prop} {W W' : World} (h : Keeps S W W') (hS : ∀ k, S k → k < W'.heap.size) (o : Obj) : Keeps S W (W'.alloc o) :=
  fun k hk => (Below.heap_alloc _ _ k (hS k hk)).trans (h k hk)
theorem Keeps.drew {S : Nat → Prop} {W W' : World} (h : Keeps S W W') : Keeps S W W'.drew := h
theorem Keeps.drewN {S : Nat → Prop} {W W' : World} (h : Keeps S W W') (n : Nat) : Keeps S W (W'.drewN n) := h
theorem Keeps.below {S : Nat → Prop} {W W' W2 : World} (h : Keeps S W W') {B : Nat} (hb : Below B W' W2) (hS : ∀ k, S k → k < B) : Keeps S W W2 :=
  fun k hk => (hb.block k (hS k hk)).trans (h k hk)
theorem Keeps.lt {S : Nat → Prop} {W W' : World} (h : Keeps S W W') {k : Nat} (hS : S k) (hk : k < W.heap.size) : k < W'.heap.size := by
  rcases Nat.lt_or_ge k W'.heap.size with h1 | h1
  · exact h1
  · have := h k hS
    rw [Array.getElem?_eq_none h1, Array.getElem?_eq_getElem hk] at this
    cases this
theorem keeps_b {S : Nat → Prop} {w : World} (hS : ∀ k, S k → k < w.heap.size) (W : World) (l : Nat) (o o' : Obj) (hl : w.heap.size ≤ l) (_ : W.heap[l]? = some o) (_ : o.isCells = false) (_ : o.isWalk = false) : Keeps S W (W.putObj l o') :=
  fun k hk => World.putObj_heap_other (by have := hS k hk; omega)
theorem others_below {W W' : World} (h : Below W.heap.size W W') : KeepsOthers W W' :=
  ⟨h.size, fun k _ hk _ => (h.block k (Array.getElem?_eq_some_iff.1 hk).1).trans hk⟩
theorem below_drewN {B : Nat} {a w : World} (h : Below B a w) (n : Nat) : Below B a (w.drewN n) := ⟨h.os, h.tape, h.output, h.size, h.block⟩
/-- What a callee leaves (new blocks alone) behind what was done. -/
theorem below_then {B : Nat} {w w1 w2 : World} (h : Below B w w1) (hB : B ≤ w1.heap.size) (k : Below w1.heap.size w1 w2) : Below B w w2 := h.trans (k.mono hB)
theorem boxed_below {W W' : World} {B n : Nat} {t : TypeId} {v : Value} (h : Boxed W B t v) (hb : Below n W W') (hB : B < n) : Boxed W' B t v := (hb.block B hB).trans h
theorem boxed_callee {W W' : World} {B : Nat} {t : TypeId} {v : Value} (h : Boxed W B t v) (hb : Below W.heap.size W W') : Boxed W' B t v := boxed_below h hb h.lt
/-- Block g is just the cells cs of element type t, none frozen. -/
def Blk (W : World) (g : Nat) (t : TypeId) (cs : Array Value) : Prop := W.heap[g]? = some (.cells cs t (0, 0))
theorem Blk.lt {W : World} {g : Nat} {t : TypeId} {cs : Array Value} (h : Blk W g t cs) : g < W.heap.size := (Array.getElem?_eq_some_iff.1 h).1
theorem Blk.cell {W : World} {g : Nat} {t : TypeId} {cs : Array Value} (h : Blk W g t cs) (i : Nat) : W.cell? ⟨g, i, none⟩ = cs[i]? := by simp [World.cell?, show W.heap[g]? = _ from h]
theorem Blk.frozen {W : World} {g : Nat} {t : TypeId} {cs : Array Value} (h : Blk W g t cs) (i : Nat) : W.frozen? ⟨g, i, none⟩ = false := by simp [World.frozen?, show W.heap[g]? = _ from h]
theorem Blk.new (W : World) (t : TypeId) (cs : Array Value) : Blk (W.alloc (.cells cs t)) W.heap.size t cs := World.alloc_heap_new W _
theorem Blk.drewN {W : World} {g : Nat} {t : TypeId} {cs : Array Value} (h : Blk W g t cs) (n : Nat) : Blk (W.drewN n) g t cs := h
theorem Blk.kept {W W' : World} {row : Option Nat} {g : Nat} {t : TypeId} {cs : Array Value} (h : Blk W g t cs) (hg : W.grownBy W' row) (hne : some g ≠ row) : Blk W' g t cs := (hg.block g h.lt hne).trans h
theorem Blk.alloc {W : World} {g : Nat} {t : TypeId} {cs : Array Value} (h : Blk W g t cs) (o : Obj) : Blk (W.alloc o) g t cs := h.kept (World.grownBy_alloc W o none) (by simp)
theorem Blk.below {W W' : World} {g n : Nat} {t : TypeId} {cs : Array Value} (h : Blk W g t cs) (hb : Below n W W') (hg : g < n) : Blk W' g t cs := (hb.block g hg).trans h
theorem Blk.callee {W W' : World} {g : Nat} {t : TypeId} {cs : Array Value} (h : Blk W g t cs) (hb : Below W.heap.size W W') : Blk W' g t cs := h.below hb h.lt
theorem Blk.set_ {W : World} {g : Nat} {t : TypeId} {cs : Array Value} (h : Blk W g t cs) (i : Nat) (u : Value) : Blk (W.setCell ⟨g, i, none⟩ u) g t (cs.setIfInBounds i u) := by
  unfold Blk at h ⊢
  simp [World.setCell, Array.getElem?_modify, h]
theorem Blk.far {W : World} {g : Nat} {t : TypeId} {cs : Array Value} (h : Blk W g t cs) {p : Addr} (hp : g ≠ p.block) (u : Value) : Blk (W.setCell p u) g t cs := (Below.heap_setCell W p u g hp).trans h
theorem Blk.own {β : Type} (B : Nat) (t : TypeId) (f : β → Array Value) : Own (fun s W => Blk W B t (f s)) := fun s X Y row hs hg hrow =>
  hs.kept hg (fun e' => by
    obtain ⟨o, ho, hc⟩ := hrow B e'.symm
    rw [show X.heap[B]? = _ from hs] at ho; cases ho; cases hc)
theorem Blk.keeps {S : Nat → Prop} {W W' : World} {g : Nat} {t : TypeId} {cs : Array Value} (h : Blk W g t cs) (hk : Keeps S W W') (hg : S g) : Blk W' g t cs := (hk g hg).trans h
/-- Behind a call that makes new blocks alone: all old cells and marks read as they did. -/
theorem bcell {W w1 : World} (hb : Below W.heap.size W w1) : (∀ b o, b < W.heap.size → w1.cell? ⟨b, o, none⟩ = W.cell? ⟨b, o, none⟩) ∧ (∀ b o, b < W.heap.size → w1.frozen? ⟨b, o, none⟩ = W.frozen? ⟨b, o, none⟩) :=
  ⟨fun b o h => hb.cell (p := ⟨b, o, none⟩) h, fun b o h => hb.frozen (p := ⟨b, o, none⟩) h⟩
/-! what a call does that writes one block alone -/
theorem grown_refl (W : World) (row : Option Nat) : W.grownBy W row := ⟨rfl, rfl, rfl, Nat.le_refl _, fun _ _ _ => rfl⟩
theorem grown_set (W : World) (p : Addr) (u : Value) : W.grownBy (W.setCell p u) (some p.block) :=
  ⟨rfl, rfl, rfl, by simp [World.setCell], fun k _ hne => Below.heap_setCell W p u k (fun e => hne (e ▸ rfl))⟩
theorem grown_trans {A B C : World} {row : Option Nat} (h : A.grownBy B row) (k : B.grownBy C row) : A.grownBy C row :=
  ⟨k.os.trans h.os, k.tape.trans h.tape, k.output.trans h.output, Nat.le_trans h.size k.size, fun i hi hne => (k.block i (Nat.lt_of_lt_of_le hi h.size) hne).trans (h.block i hi hne)⟩
theorem grown_of {A B : World} (h : Below A.heap.size A B) (row : Option Nat) : A.grownBy B row := ⟨h.os, h.tape, h.output, h.size, fun k hk _ => h.block k hk⟩
theorem grown_drewN {A B : World} {row : Option Nat} (h : A.grownBy B row) (n : Nat) : A.grownBy (B.drewN n) row := ⟨h.os, h.tape, h.output, h.size, h.block⟩
theorem grown_alloc {A B : World} {row : Option Nat} (h : A.grownBy B row) (o : Obj) : A.grownBy (B.alloc o) row := grown_trans h (World.grownBy_alloc B o row)
/-- A new block is written: nothing that lay before has turned. -/
theorem below_grown {A B : World} {b : Nat} (h : A.grownBy B (some b)) (hb : A.heap.size ≤ b) : Below A.heap.size A B := ⟨h.os, h.tape, h.output, h.size, fun k hk => h.block k hk (fun e => by cases e; omega)⟩
theorem below_grown' {n : Nat} {w A B : World} {row : Option Nat} (h : Below n w A) (hn : n ≤ A.heap.size) (k : A.grownBy B row) (hr : ∀ b, row = some b → n ≤ b) : Below n w B := h.grown k hn hr
end Go.Proofs.Ytkifmdfmbmbdaaa.G
