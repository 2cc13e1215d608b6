/- Small words on memory: which blocks lie as they lay. -/
import Derived.RangeFuncNested
import Derived.RangeFuncBox
import Derived.Below
import Derived.Deep.Draws
namespace Go.Proofs.Ytmaiiphfiecblaa.G
open Go.RowKit

/-- The blocks of S lie as they lay. -/
def Keeps (S : Nat → Prop) (W W' : World) : Prop := ∀ k, S k → W'.heap[k]? = W.heap[k]?
theorem Keeps.refl (S : Nat → Prop) (W : World) : Keeps S W W := fun _ _ => rfl
theorem Keeps.trans {S : Nat → Prop} {A B C : World} (h : Keeps S A B) (k : Keeps S B C) : Keeps S A C := fun i hi => (k i hi).trans (h i hi)
theorem Keeps.cell {S : Nat → Prop} {W W' : World} (h : Keeps S W W') {p : Addr} (hp : S p.block) : W'.cell? p = W.cell? p := World.cell?_of_block (h _ hp)
theorem Keeps.frozen {S : Nat → Prop} {W W' : World} (h : Keeps S W W') {p : Addr} (hp : S p.block) : W'.frozen? p = W.frozen? p := World.frozen?_of_block (h _ hp)
theorem Keeps.setCell {S : Nat → Prop} {W W' : World} (h : Keeps S W W') {p : Addr} (hp : ¬ S p.block) (u : Value) : Keeps S W (W'.setCell p u) :=
  fun k hk => (Below.heap_setCell _ _ _ k (fun e => hp (e ▸ hk))).trans (h k hk)
theorem Keeps.alloc {S : Nat → Prop} {W W' : World} (h : Keeps S W W') (hS : ∀ k, S k → k < W'.heap.size) (o : Obj) : Keeps S W (W'.alloc o) :=
  fun k hk => (Below.heap_alloc _ _ k (hS k hk)).trans (h k hk)
theorem Keeps.drew {S : Nat → Prop} {W W' : World} (h : Keeps S W W') : Keeps S W W'.drew := h
theorem Keeps.drewN {S : Nat → Prop} {W W' : World} (h : Keeps S W W') (n : Nat) : Keeps S W (W'.drewN n) := h
theorem Keeps.below {S : Nat → Prop} {W W' W2 : World} (h : Keeps S W W') {B : Nat} (hb : Below B W' W2) (hS : ∀ k, S k → k < B) : Keeps S W W2 :=
  fun k hk => (hb.block k (hS k hk)).trans (h k hk)
theorem keeps_b {S : Nat → Prop} {w : World} (hS : ∀ k, S k → k < w.heap.size) (W : World) (l : Nat) (o o' : Obj) (hl : w.heap.size ≤ l) (_ : W.heap[l]? = some o) (_ : o.isCells = false) (_ : o.isWalk = false) : Keeps S W (W.putObj l o') :=
  fun k hk => World.putObj_heap_other (by have := hS k hk; omega)
theorem others_below {W W' : World} (h : Below W.heap.size W W') : KeepsOthers W W' :=
  ⟨h.size, fun k _ hk _ => (h.block k (Array.getElem?_eq_some_iff.1 hk).1).trans hk⟩
theorem below_drewN {B : Nat} {a w : World} (h : Below B a w) (n : Nat) : Below B a (w.drewN n) := ⟨h.os, h.tape, h.output, h.size, h.block⟩
/-- What a callee leaves (new blocks alone) behind what was done. -/
theorem below_then {B : Nat} {w w1 w2 : World} (h : Below B w w1) (hB : B ≤ w1.heap.size) (k : Below w1.heap.size w1 w2) : Below B w w2 := h.trans (k.mono hB)
theorem boxed_below {W W' : World} {B n : Nat} {t : TypeId} {v : Value} (h : Boxed W B t v) (hb : Below n W W') (hB : B < n) : Boxed W' B t v := (hb.block B hB).trans h
theorem boxed_callee {W W' : World} {B : Nat} {t : TypeId} {v : Value} (h : Boxed W B t v) (hb : Below W.heap.size W W') : Boxed W' B t v := boxed_below h hb h.lt
end Go.Proofs.Ytmaiiphfiecblaa.G
