/- The program's numbers out of four bytes: what joined, Get tell. -/
import Derived.WalkKit
import Derived.Handy
import Derived.Lib.ConvBytes
import Derived.Lib.Hide
import Derived.Test.YthmeakkpmielmaaProg
import Derived.Test.YthmeakkpmielmaaWWords
import Derived.Test.YthmeakkpmielmaaCrcA
import Derived.Test.YthmeakkpmielmaaLib
namespace Go.Proofs.Ythmeakkpmielmaa.G
open Go.RowKit Go.Proofs.YthmeakkpmielmaaW.PrintWords Go.Proofs.Ythmeakkpmielmaa.Cr

theorem ret_u32' {a b : Int} (h : a = b) : Ending.returned (.int .u32 a) = .returned (.int .u32 b) := by rw [h]
def getS (s : ByteArray) : Int × Int := match getL s.data.toList with
  | some x => (ofB x, 0)
  | none => (0, 2)
def crc_Get.f (s : ByteArray) : Option (Int × Int) := some (getS s)
theorem ret_get {a b c d : Int} (h : (a, b) = (c, d)) : Ending.returned (.tuple #[.int .u32 a, .int .i64 b]) = .returned (.tuple #[.int .u32 c, .int .i64 d]) := by cases h; rfl
end Go.Proofs.Ythmeakkpmielmaa.G
