-- Printed by a program of this session (the kit's print, with contracts of this session's beside it).
import Derived.Test.YtmafolojopjenaaProg
import Derived.Below
import Derived.Deep.Draws
import Derived.Deep.AppendLies
import Derived.Maps.AppendAt
import Derived.OwnWalk
import Derived.Laws.BytesArg
import Derived.Laws.MakeOwn
import Derived.Laws.OwnMore
import Derived.Deep.OwnRows
import Derived.Tactics
import Derived.Lib.ConvBytes
import Derived.Laws.Slices
import Derived.WalkKit
import Derived.KernelRfl
import Derived.RowKit3
import Derived.Deep.LoopGhost
import Derived.Deep.QuietTactic
import Derived.BigQuiet
import Derived.WideLaws
import Derived.Deep.DeepCutAuto
import Derived.Deep.CutBlock
import Derived.Deep.RegionHeld3
import Derived.Laws.Rows
import Derived.Lib.AppendStr
import Derived.ArgAppend
import Derived.Laws.IdiomCopy
import Derived.OrdersHeld
import Derived.Laws.BitsLemmas
import Derived.RowKit
import Derived.Test.YtmafolojopjenaaWWords
import Derived.Test.YtmafolojopjenaaWLast
import Derived.Test.YtmafolojopjenaaWTab
import Derived.Test.YtmafolojopjenaaWFour
import Derived.Test.YtmafolojopjenaaWQPut
import Derived.Test.YtmafolojopjenaaWApart
import Derived.Test.YtmafolojopjenaaWArr
import Derived.Test.YtmafolojopjenaaWZeros
import Derived.Test.YtmafolojopjenaaWFoot
import Derived.Test.YtmafolojopjenaaWKept
import Derived.Test.YtmafolojopjenaaWShare
import Derived.Test.YtmafolojopjenaaWN
import Derived.Test.YtmafolojopjenaaWFootNe
import Derived.Test.YtmafolojopjenaaWAt
import Derived.Test.YtmafolojopjenaaWEqStruct
import Derived.Test.YtmafolojopjenaaWRepsOne
import Derived.Test.YtmafolojopjenaaWInv
import Derived.Test.YtmafolojopjenaaWInvWords
import Derived.Test.YtmafolojopjenaaWGuard
import Derived.Test.YtmafolojopjenaaWNEv
import Derived.Test.YtmafolojopjenaaWMore
namespace Go.Proofs.Ytmafolojopjenaa.P
open Go.RowKit Go.Proofs.YtmafolojopjenaaW.PrintWords Go.Proofs.YtmafolojopjenaaW.PrintLast Go.Proofs.YtmafolojopjenaaW.PrintMore
attribute [local go_sem] max2_int min2_int max_two min_two max_three min_three max_four min_four   -- for this text's walks alone
set_option linter.unusedVariables false
set_option linter.unusedSimpArgs false



def errW : Option Int → Value
  | none => .nilIface
  | some c => .iface 0 (.int .i64 c)
theorem errW_none : errW none = .nilIface := rfl
theorem errW_some (c : Int) : errW (some c) = .iface 0 (.int .i64 c) := rfl

theorem info5 : (Try.prog.info? 5).map (fun i => (i.zero, i.size, i.bytes)) = some (some (.int .u8 0), 1, 1) := by kernel_rfl
theorem info9 : (Try.prog.info? 9).map (fun i => (i.zero, i.size, i.bytes)) = some (some (.string ⟨#[]⟩), 1, 16) := by kernel_rfl
-- the values' own types

end Go.Proofs.Ytmafolojopjenaa.P
