/- The program's check sums, byte by byte: what Step, bytes, More tell, for every input, and that no memory that was there is touched. -/
import Derived.RangeFuncNested
import Derived.RangeFuncBound
import Derived.RangeFuncCalls
import Derived.RangeFuncLeaves
import Derived.Shelf.Abstract
import Derived.Shelf.RegionOpen
import Derived.WalkKit
import Derived.OwnWalkIn
import Derived.TacticsInMore
import Derived.LoopNIn
import Derived.LoopIn
import Derived.Handy
import Derived.Lib.Hide
import Derived.Lib.ConvBytes
import Derived.Test.YthmeakkpmielmaaProg
import Derived.Test.YthmeakkpmielmaaWWords
import Derived.Test.YthmeakkpmielmaaCrcA
import Derived.Test.YthmeakkpmielmaaLib
namespace Go.Proofs.Ythmeakkpmielmaa.G
open Go.RowKit Go.Shelf Go.Proofs.YthmeakkpmielmaaW.PrintWords Go.Proofs.Ythmeakkpmielmaa.Cr
attribute [local go_sem] Oper.semAt_some
theorem unary_xor_u32 (n : Int) : Op.unary .xor (.int .u32 n) = pure (.int .u32 (Go.bits .xor .u32 4294967295 n)) := rfl
attribute [local go_sem high] unary_xor_u32

/-! ### crc.Step -/
def stepS (a0 a1 : Int) : Int := ofB (stepB32 (toB a0) (toB (a1 % 4294967296)))
def crc_Step.f (a0 a1 : Int) : Option Int := some (stepS a0 a1)
theorem val_u32 {a b : Int} (h : a = b) : Value.int .u32 a = .int .u32 b := by rw [h]
theorem ret_u32 {a b : Int} (h : a = b) : Ending.returned (.int .u32 a) = .returned (.int .u32 b) := by rw [h]
/-! ### crc.bytes -/
theorem take_snoc (s : ByteArray) (k : Nat) (h : k < s.size) : s.data.toList.take (k + 1) = s.data.toList.take k ++ [s[k]] := by
  rw [List.take_succ_eq_append_getElem (by simpa using h)]; rfl
/-! ### crc.More -/
def moreS (a0 : Int) (s : ByteArray) : Int := ofB (moreB (toB a0) s.data.toList)
theorem stepS_steps (n : BitVec 32) (x : UInt8) : stepS (ofB n) (x.toNat : Int) = ofB (stepB n x) := by
  unfold stepS stepB
  rw [toB_ofB, Int.emod_eq_of_lt (by omega) (by have := x.toNat_lt; omega), toB_byte]
end Go.Proofs.Ythmeakkpmielmaa.G
