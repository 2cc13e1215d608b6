/- The contracts of the ballots' functions, in the form that the printed texts call. -/
import Derived.Test.YtnllilpbgenjbaaBalF
import Derived.Test.YtnllilpbgenjbaaMake
namespace Go.Proofs.Ytnllilpbgenjbaa.G
open Go.RowKit Go.Proofs.YtnllilpbgenjbaaW.PrintWords Go.Proofs.Ytnllilpbgenjbaa.P

def ballot_Right.f (a0_0 a0_1 : Int) (a0_2 : ByteArray) : Option Bool := some (rightS a0_0 a0_1 a0_2)
theorem ballot_Right.calls (a0_0 a0_1 : Int) (a0_2 : ByteArray) (r : Bool) (w : World) (h : ballot_Right.f a0_0 a0_1 a0_2 = some r) :
    Calls Try.prog 16 #[.agg #[.int .u64 a0_0, .int .u64 a0_1, .string a0_2]] w fun e w' => e = .returned (.bool r) ∧ Below w.heap.size w w' := by
  obtain rfl := Option.some.inj h
  exact Right.below _ _ _ w
def ballot_Promise.f (a0_0 a0_1 : Int) (a0_2 : ByteArray) (a1 : Int) : Option (Int × Int × ByteArray × Int) := some (promiseS a0_0 a0_1 a0_2 a1)
theorem ballot_Promise.calls (a0_0 a0_1 : Int) (a0_2 : ByteArray) (a1 : Int) (r1 r2 : Int) (r3 : ByteArray) (r4 : Int) (w : World) (h : ballot_Promise.f a0_0 a0_1 a0_2 a1 = some (r1, r2, r3, r4)) :
    Calls Try.prog 12 #[.agg #[.int .u64 a0_0, .int .u64 a0_1, .string a0_2], .int .u64 a1] w fun e w' => e = .returned (.tuple #[.agg #[.int .u64 r1, .int .u64 r2, .string r3], .int .i64 r4]) ∧ Below w.heap.size w w' := by
  have := Promise.below a0_0 a0_1 a0_2 a1 w
  rwa [Option.some.inj h] at this
def ballot_Cast.f (a0_0 a0_1 : Int) (a0_2 : ByteArray) (a1 : Int) (a2 : ByteArray) : Option (Int × Int × ByteArray × Int) := some (castS a0_0 a0_1 a0_2 a1 a2)
theorem ballot_Cast.calls (a0_0 a0_1 : Int) (a0_2 : ByteArray) (a1 : Int) (a2 : ByteArray) (r1 r2 : Int) (r3 : ByteArray) (r4 : Int) (w : World) (h : ballot_Cast.f a0_0 a0_1 a0_2 a1 a2 = some (r1, r2, r3, r4)) :
    Calls Try.prog 14 #[.agg #[.int .u64 a0_0, .int .u64 a0_1, .string a0_2], .int .u64 a1, .string a2] w fun e w' => e = .returned (.tuple #[.agg #[.int .u64 r1, .int .u64 r2, .string r3], .int .i64 r4]) ∧ Below w.heap.size w w' := by
  have := Cast.below a0_0 a0_1 a0_2 a1 a2 w
  rwa [Option.some.inj h] at this
def ballot_Proposal.f (a0 : Int) (l1 : List S24) (a2 : ByteArray) : Option (ByteArray × Int) := if l1.length ≤ 140737488351232 then some (proposalS a0 l1 a2) else none
theorem ballot_Proposal.calls (a0 : Int) (A1 : Option Addr) (c1 : Nat) (l1 : List S24) (a2 : ByteArray) (r1 : ByteArray) (r2 : Int) (w : World) (hr1 : Kd.C k24 w A1 l1.length l1) (_hc1 : l1.length ≤ c1) (h : ballot_Proposal.f a0 l1 a2 = some (r1, r2)) :
    Calls Try.prog 22 #[.int .i64 a0, .slice A1 l1.length c1, .string a2] w fun e w' => e = .returned (.tuple #[.string r1, .int .i64 r2]) ∧ Below w.heap.size w w' := by
  unfold ballot_Proposal.f at h
  split at h
  · have := Proposal.below a0 A1 c1 l1 a2 w (by assumption) hr1
    rwa [Option.some.inj h] at this
  · cases h
def ballot_Decided.f (l0 : List S24) : Option (ByteArray × Bool × Int) := if l0.length ≤ 140737488351232 then some (decidedS l0) else none
theorem ballot_Decided.calls (A0 : Option Addr) (c0 : Nat) (l0 : List S24) (r1 : ByteArray) (r2 : Bool) (r3 : Int) (w : World) (hr0 : Kd.C k24 w A0 l0.length l0) (_hc0 : l0.length ≤ c0) (h : ballot_Decided.f l0 = some (r1, r2, r3)) :
    Calls Try.prog 19 #[.slice A0 l0.length c0] w fun e w' => e = .returned (.tuple #[.string r1, .bool r2, .int .i64 r3]) ∧ Below w.heap.size w w' := by
  unfold ballot_Decided.f at h
  split at h
  · have := Decided.below A0 c0 l0 (by assumption) w hr0
    rwa [Option.some.inj h] at this
  · cases h
end Go.Proofs.Ytnllilpbgenjbaa.G
