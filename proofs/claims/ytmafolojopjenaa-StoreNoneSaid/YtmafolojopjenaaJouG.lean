/- The contracts of the journal's functions, in the form that the printed texts call. -/
import Derived.Test.YtmafolojopjenaaJouF
namespace Go.Proofs.Ytmafolojopjenaa.G
open Go.RowKit Go.Proofs.YtmafolojopjenaaW.PrintWords Go.Proofs.Ytmafolojopjenaa.Cr Go.Proofs.Ytmafolojopjenaa.Jo

def journal_Record.f (a0 : ByteArray) : Option (ByteArray × Int) := if a0.size ≤ 140737488351232 then some (recordS a0) else none
theorem journal_Record.calls (a0 : ByteArray) (r1 : ByteArray) (r2 : Int) (w : World) (h : journal_Record.f a0 = some (r1, r2)) :
    Calls Try.prog 28 #[.string a0] w fun e w' => e = .returned (.tuple #[.string r1, .int .i64 r2]) ∧ Below w.heap.size w w' := by
  unfold journal_Record.f at h
  split at h
  · rename_i hs
    have := Record.below a0 hs w
    rwa [Option.some.inj h] at this
  · cases h
def journal_Repair.f (a0 : ByteArray) : Option ByteArray := if a0.size ≤ 1000000000 then some (repairS a0) else none
theorem journal_Repair.calls (a0 : ByteArray) (r : ByteArray) (w : World) (h : journal_Repair.f a0 = some r) :
    Calls Try.prog 26 #[.string a0] w fun e w' => e = .returned (.string r) ∧ Below w.heap.size w w' := by
  unfold journal_Repair.f at h
  split at h
  · rename_i hs
    obtain rfl := Option.some.inj h
    exact Repair.below a0 hs w
  · cases h
def journal_Whole.f (a0 : ByteArray) : Option Bool := if a0.size ≤ 1000000000 then some (wholeS a0) else none
theorem journal_Whole.calls (a0 : ByteArray) (r : Bool) (w : World) (h : journal_Whole.f a0 = some r) :
    Calls Try.prog 31 #[.string a0] w fun e w' => e = .returned (.bool r) ∧ Below w.heap.size w w' := by
  unfold journal_Whole.f at h
  split at h
  · rename_i hs
    obtain rfl := Option.some.inj h
    exact Whole.below a0 hs w
  · cases h
def journal_Append.f (a0 a1 : ByteArray) (a2 : Int) : Option (ByteArray × Int) := if a0.size ≤ 1000000000 ∧ a1.size ≤ 140737488351232 then some (appendS a0 a1 a2) else none
theorem journal_Append.calls (a0 a1 : ByteArray) (a2 : Int) (r1 : ByteArray) (r2 : Int) (w : World) (h : journal_Append.f a0 a1 a2 = some (r1, r2)) :
    Calls Try.prog 34 #[.string a0, .string a1, .int .i64 a2] w fun e w' => e = .returned (.tuple #[.string r1, .int .i64 r2]) ∧ Below w.heap.size w w' := by
  unfold journal_Append.f at h
  split at h
  · rename_i hs
    have := Append.below a0 a1 a2 hs.1 hs.2 w
    rwa [Option.some.inj h] at this
  · cases h
end Go.Proofs.Ytmafolojopjenaa.G
