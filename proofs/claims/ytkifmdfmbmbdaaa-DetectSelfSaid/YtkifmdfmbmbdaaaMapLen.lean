/- 'len(m)'. -/
import Derived.Test.YtkifmdfmbmbdaaaMap
namespace Go.Proofs.Ytkifmdfmbmbdaaa.G
open Go.RowKit
theorem MapIs.len {P : Program} {K : TypeId} {κ : Type} [DecidableEq κ] {L : KeyLaw' P K κ} {W : World} {B : Nat} {m : List (κ × Value)} (h : MapIs L W B m) {T E : TypeId} (hT : P.underlying T = some (.map K E)) (ty : TypeId) :
    (Builtin.len_ #[T] ty #[.map (some B)]).run P W = .ok (.int .i64 m.length) W := by
  obtain ⟨es, clock, hb, hr, _⟩ := h
  have hl := rows_len hr
  simp only [Array.length_toList] at hl
  simp [Builtin.len_, run_underlying hT, Go.MapKept.run_getObj_map hb, goInt, hl]
end Go.Proofs.Ytkifmdfmbmbdaaa.G
