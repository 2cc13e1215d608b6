/- Structs of plain parts, as elements of slices. Written by kinds.py. -/
import Derived.WalkKit
import Derived.RowKit
import Derived.RowKit3
import Derived.KernelRfl
import Derived.Test.YtkifmdfmbmbdaaaWWords
import Derived.Test.YtkifmdfmbmbdaaaWLast
import Derived.Test.YtkifmdfmbmbdaaaWMore
import Derived.Test.YtkifmdfmbmbdaaaWAt
import Derived.Test.YtkifmdfmbmbdaaaWRepsOne
namespace Go.Proofs.Ytkifmdfmbmbdaaa.P
open Go.RowKit Go.Proofs.YtkifmdfmbmbdaaaW.PrintWords Go.Proofs.YtkifmdfmbmbdaaaW.PrintLast Go.Proofs.YtkifmdfmbmbdaaaW.PrintMore
set_option linter.unusedVariables false
structure S40 where
  f0 : Bool
  f1 : Int
  f2 : Int
  f3 : Bool
def z40 : S40 := ⟨false, (0 : Int), (0 : Int), false⟩
def k40 : Kd S40 := Kd.iso (Kd.pair Kd.bool (Kd.pair (Kd.int .i64) (Kd.pair (Kd.int .u64) Kd.bool))) (fun x : S40 => (x.f0, x.f1, x.f2, x.f3))
theorem k40_open {w : World} {x : S40} {cs : List Value} (h : k40.K w x cs) : cs = [.bool x.f0, .int .i64 x.f1, .int .u64 x.f2, .bool x.f3] := by
  obtain ⟨_, _, rfl, rfl, ⟨_, _, rfl, rfl, ⟨_, _, rfl, rfl, rfl⟩⟩⟩ := h
  exact rfl
theorem k40_mk (w : World) (x : S40) : k40.K w x [.bool x.f0, .int .i64 x.f1, .int .u64 x.f2, .bool x.f3] := ⟨[.bool x.f0], [.int .i64 x.f1, .int .u64 x.f2, .bool x.f3], rfl, rfl, ⟨[.int .i64 x.f1], [.int .u64 x.f2, .bool x.f3], rfl, rfl, ⟨[.int .u64 x.f2], [.bool x.f3], rfl, rfl, rfl⟩⟩⟩
theorem k40_mkM (w : World) (base : Nat) (ok : Nat → Prop) (x : S40) : k40.M w base ok x [.bool x.f0, .int .i64 x.f1, .int .u64 x.f2, .bool x.f3] := ⟨[.bool x.f0], [.int .i64 x.f1, .int .u64 x.f2, .bool x.f3], rfl, rfl, ⟨[.int .i64 x.f1], [.int .u64 x.f2, .bool x.f3], rfl, rfl, ⟨[.int .u64 x.f2], [.bool x.f3], rfl, rfl, rfl⟩⟩⟩
def rd_T40 (xs : List S40) (i : Int) : S40 := xs.getD i.toNat z40
theorem at_T40 {w : World} {A : Option Addr} {n : Nat} {xs : List S40} (h : Kd.C k40 w A n xs) (i : Int) (h0 : 0 ≤ i) (h1 : i < n) : ∃ ad, A = some ad ∧ w.cell? (ad.add (i.toNat * 4)) = some (.bool (rd_T40 xs i).f0) ∧ w.cell? ⟨(ad.add (i.toNat * 4)).block, (ad.add (i.toNat * 4)).off + 1, none⟩ = some (.int .i64 (rd_T40 xs i).f1) ∧ w.cell? ⟨(ad.add (i.toNat * 4)).block, (ad.add (i.toNat * 4)).off + 2, none⟩ = some (.int .u64 (rd_T40 xs i).f2) ∧ w.cell? ⟨(ad.add (i.toNat * 4)).block, (ad.add (i.toNat * 4)).off + 3, none⟩ = some (.bool (rd_T40 xs i).f3) := by
  obtain ⟨ad, c, e, _, hK, hc0⟩ := Kd.C_get h z40 i h0 h1
  have hc : ∀ j u, c[j]? = some u → w.cell? (ad.add (i.toNat * 4 + j)) = some u := hc0
  obtain rfl := k40_open hK
  exact ⟨ad, e, hc 0 _ rfl, by rw [← add_field _ _ 1 (by omega)]; exact hc 1 _ rfl, by rw [← add_field _ _ 2 (by omega)]; exact hc 2 _ rfl, by rw [← add_field _ _ 3 (by omega)]; exact hc 3 _ rfl⟩
theorem rd_get_40 (l : List S40) (k : Nat) (h : k < l.length) : rd_T40 l (k : Int) = l[k] := by
  unfold rd_T40
  simp [List.getD_eq_getElem?_getD, h]
end Go.Proofs.Ytkifmdfmbmbdaaa.P
