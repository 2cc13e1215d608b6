-- Printed by a program of this session (the kit's print, with contracts of this session's beside it).
import Derived.Test.YtmaiiphfiecblaaProg
import Derived.Below
import Derived.Deep.Draws
import Derived.Deep.AppendLies
import Derived.Maps.AppendAt
import Derived.OwnWalk
import Derived.Laws.BytesArg
import Derived.Laws.MakeOwn
import Derived.Laws.OwnMore
import Derived.Deep.OwnRows
import Derived.Tactics
import Derived.Lib.ConvBytes
import Derived.Laws.Slices
import Derived.WalkKit
import Derived.KernelRfl
import Derived.RowKit3
import Derived.Deep.LoopGhost
import Derived.Deep.QuietTactic
import Derived.BigQuiet
import Derived.WideLaws
import Derived.Deep.DeepCutAuto
import Derived.Deep.CutBlock
import Derived.Deep.RegionHeld3
import Derived.Laws.Rows
import Derived.Lib.AppendStr
import Derived.ArgAppend
import Derived.Laws.IdiomCopy
import Derived.OrdersHeld
import Derived.Laws.BitsLemmas
import Derived.RowKit
import Derived.Test.YtmaiiphfiecblaaCrcG
import Derived.Test.YtmaiiphfiecblaaWWords
import Derived.Test.YtmaiiphfiecblaaWLast
import Derived.Test.YtmaiiphfiecblaaWTab
import Derived.Test.YtmaiiphfiecblaaWFour
import Derived.Test.YtmaiiphfiecblaaWQPut
import Derived.Test.YtmaiiphfiecblaaWApart
import Derived.Test.YtmaiiphfiecblaaWArr
import Derived.Test.YtmaiiphfiecblaaWZeros
import Derived.Test.YtmaiiphfiecblaaWFoot
import Derived.Test.YtmaiiphfiecblaaWKept
import Derived.Test.YtmaiiphfiecblaaWShare
import Derived.Test.YtmaiiphfiecblaaWN
import Derived.Test.YtmaiiphfiecblaaWFootNe
import Derived.Test.YtmaiiphfiecblaaWAt
import Derived.Test.YtmaiiphfiecblaaWEqStruct
import Derived.Test.YtmaiiphfiecblaaWRepsOne
import Derived.Test.YtmaiiphfiecblaaWInv
import Derived.Test.YtmaiiphfiecblaaWInvWords
import Derived.Test.YtmaiiphfiecblaaWGuard
import Derived.Test.YtmaiiphfiecblaaWNEv
import Derived.Test.YtmaiiphfiecblaaWMore
namespace Go.Proofs.Ytmaiiphfiecblaa.PCrcSeals
open Go.RowKit Go.Proofs.YtmaiiphfiecblaaW.PrintWords Go.Proofs.YtmaiiphfiecblaaW.PrintLast Go.Proofs.YtmaiiphfiecblaaW.PrintMore
attribute [local go_sem] max2_int min2_int max_two min_two max_three min_three max_four min_four   -- for this text's walks alone
set_option linter.unusedVariables false
set_option linter.unusedSimpArgs false



def errW : Option Int → Value
  | none => .nilIface
  | some c => .iface 0 (.int .i64 c)
theorem errW_none : errW none = .nilIface := rfl
theorem errW_some (c : Int) : errW (some c) = .iface 0 (.int .i64 c) := rfl

-- the values' own types

end Go.Proofs.Ytmaiiphfiecblaa.PCrcSeals
