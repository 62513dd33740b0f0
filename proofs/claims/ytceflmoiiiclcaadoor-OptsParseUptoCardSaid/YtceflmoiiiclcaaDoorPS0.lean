/- Functions of the program told as plain functions, and that each call comes to what its function says. Conditions: each contract names its own. (Written by xprint.py, a program of this session, by way of the print of the kit; not trusted: Lean checks it.) -/
import Derived.Test.YtceflmoiiiclcaaDoorProg
import Derived.Below
import Derived.Deep.Draws
import Derived.Deep.AppendLies
import Derived.Maps.AppendAt
import Derived.OwnWalk
import Derived.Laws.BytesArg
import Derived.Laws.MakeOwn
import Derived.Laws.OwnMore
import Derived.Deep.OwnRows
import Derived.Tactics
import Derived.Lib.ConvBytes
import Derived.Laws.Slices
import Derived.WalkKit
import Derived.KernelRfl
import Derived.RowKit3
import Derived.Deep.LoopGhost
import Derived.Deep.QuietTactic
import Derived.BigQuiet
import Derived.WideLaws
import Derived.Deep.DeepCutAuto
import Derived.Deep.CutBlock
import Derived.Deep.RegionHeld3
import Derived.Laws.Rows
import Derived.Lib.AppendStr
import Derived.ArgAppend
import Derived.Laws.IdiomCopy
import Derived.OrdersHeld
import Derived.Laws.BitsLemmas
import Derived.RowKit
import Derived.Test.YtceflmoiiiclcaaDoorWWords
import Derived.Test.YtceflmoiiiclcaaDoorWLast
import Derived.Test.YtceflmoiiiclcaaDoorWTab
import Derived.Test.YtceflmoiiiclcaaDoorWFour
import Derived.Test.YtceflmoiiiclcaaDoorWQPut
import Derived.Test.YtceflmoiiiclcaaDoorWApart
import Derived.Test.YtceflmoiiiclcaaDoorWArr
import Derived.Test.YtceflmoiiiclcaaDoorWZeros
import Derived.Test.YtceflmoiiiclcaaDoorWFoot
import Derived.Test.YtceflmoiiiclcaaDoorWKept
import Derived.Test.YtceflmoiiiclcaaDoorWShare
import Derived.Test.YtceflmoiiiclcaaDoorWN
import Derived.Test.YtceflmoiiiclcaaDoorWFootNe
import Derived.Test.YtceflmoiiiclcaaDoorWAt
import Derived.Test.YtceflmoiiiclcaaDoorWEqStruct
import Derived.Test.YtceflmoiiiclcaaDoorWRepsOne
import Derived.Test.YtceflmoiiiclcaaDoorWInv
import Derived.Test.YtceflmoiiiclcaaDoorWInvWords
import Derived.Test.YtceflmoiiiclcaaDoorWGuard
import Derived.Test.YtceflmoiiiclcaaDoorWNEv
import Derived.Test.YtceflmoiiiclcaaDoorWMore
namespace Go.Proofs.YtceflmoiiiclcaaDoor.PS
open Go.RowKit Go.Proofs.YtceflmoiiiclcaaDoorW.PrintWords Go.Proofs.YtceflmoiiiclcaaDoorW.PrintLast Go.Proofs.YtceflmoiiiclcaaDoorW.PrintMore
attribute [local go_sem] max2_int min2_int max_two min_two max_three min_three max_four min_four   -- for this text's walks alone
set_option linter.unusedVariables false
set_option linter.unusedSimpArgs false



def errW : Option Int → Value
  | none => .nilIface
  | some c => .iface 0 (.int .i64 c)
theorem errW_none : errW none = .nilIface := rfl
theorem errW_some (c : Int) : errW (some c) = .iface 0 (.int .i64 c) := rfl

-- the values' own types

end Go.Proofs.YtceflmoiiiclcaaDoor.PS
