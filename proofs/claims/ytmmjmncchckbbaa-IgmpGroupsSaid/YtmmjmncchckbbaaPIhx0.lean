-- written by a program of this session (hprint.py), over the kit's printer
import Derived.Test.YtmmjmncchckbbaaProg
import Derived.Below
import Derived.Deep.Draws
import Derived.Deep.AppendLies
import Derived.Maps.AppendAt
import Derived.OwnWalk
import Derived.Laws.BytesArg
import Derived.Laws.MakeOwn
import Derived.Laws.OwnMore
import Derived.Deep.OwnRows
import Derived.Tactics
import Derived.Lib.ConvBytes
import Derived.Laws.Slices
import Derived.WalkKit
import Derived.KernelRfl
import Derived.RowKit3
import Derived.Deep.LoopGhost
import Derived.Deep.QuietTactic
import Derived.BigQuiet
import Derived.WideLaws
import Derived.Deep.DeepCutAuto
import Derived.Deep.CutBlock
import Derived.Deep.RegionHeld3
import Derived.Laws.Rows
import Derived.Lib.AppendStr
import Derived.ArgAppend
import Derived.Laws.IdiomCopy
import Derived.OrdersHeld
import Derived.Laws.BitsLemmas
import Derived.RowKit
import Derived.Test.YtmmjmncchckbbaaWWords
import Derived.Test.YtmmjmncchckbbaaWLast
import Derived.Test.YtmmjmncchckbbaaWTab
import Derived.Test.YtmmjmncchckbbaaWFour
import Derived.Test.YtmmjmncchckbbaaWQPut
import Derived.Test.YtmmjmncchckbbaaWApart
import Derived.Test.YtmmjmncchckbbaaWArr
import Derived.Test.YtmmjmncchckbbaaWZeros
import Derived.Test.YtmmjmncchckbbaaWFoot
import Derived.Test.YtmmjmncchckbbaaWKept
import Derived.Test.YtmmjmncchckbbaaWShare
import Derived.Test.YtmmjmncchckbbaaWN
import Derived.Test.YtmmjmncchckbbaaWFootNe
import Derived.Test.YtmmjmncchckbbaaWAt
import Derived.Test.YtmmjmncchckbbaaWEqStruct
import Derived.Test.YtmmjmncchckbbaaWRepsOne
import Derived.Test.YtmmjmncchckbbaaWInv
import Derived.Test.YtmmjmncchckbbaaWInvWords
import Derived.Test.YtmmjmncchckbbaaWGuard
import Derived.Test.YtmmjmncchckbbaaWNEv
import Derived.Test.YtmmjmncchckbbaaWMore
namespace Go.Proofs.Ytmmjmncchckbbaa.PIh
open Go.RowKit Go.Proofs.YtmmjmncchckbbaaW.PrintWords Go.Proofs.YtmmjmncchckbbaaW.PrintLast Go.Proofs.YtmmjmncchckbbaaW.PrintMore
attribute [local go_sem] max2_int min2_int max_two min_two max_three min_three max_four min_four   -- for this text's walks alone
set_option linter.unusedVariables false
set_option linter.unusedSimpArgs false



def errW : Option Int → Value
  | none => .nilIface
  | some c => .iface 0 (.int .i64 c)
theorem errW_none : errW none = .nilIface := rfl
theorem errW_some (c : Int) : errW (some c) = .iface 0 (.int .i64 c) := rfl

-- the values' own types

end Go.Proofs.Ytmmjmncchckbbaa.PIh
