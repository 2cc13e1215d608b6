/- Notes: plain elements. -/
import Derived.Test.YthmeakkpmielmaaKinds
import Derived.Test.YthmeakkpmielmaaSl
namespace Go.Proofs.Ythmeakkpmielmaa.G
open Go.RowKit Go.Proofs.YthmeakkpmielmaaW.PrintWords Go.Proofs.Ythmeakkpmielmaa.P
theorem plain_note : PlainK k35 := ⟨fun h => by
  obtain rfl := k35_open h
  exact k35_mkM _ _ _ _⟩
end Go.Proofs.Ythmeakkpmielmaa.G
