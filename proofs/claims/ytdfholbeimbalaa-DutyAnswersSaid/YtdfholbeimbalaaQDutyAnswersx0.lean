/- Our own text, made by our program own_print.py out of what the kit's print wrote for this law. -/
import Derived.Test.YtdfholbeimbalaaProg
import Derived.Below
import Derived.Deep.Draws
import Derived.Deep.AppendLies
import Derived.Maps.AppendAt
import Derived.OwnWalk
import Derived.Laws.BytesArg
import Derived.Laws.MakeOwn
import Derived.Laws.OwnMore
import Derived.Deep.OwnRows
import Derived.Tactics
import Derived.Lib.ConvBytes
import Derived.Laws.Slices
import Derived.WalkKit
import Derived.KernelRfl
import Derived.RowKit3
import Derived.Deep.LoopGhost
import Derived.Deep.QuietTactic
import Derived.BigQuiet
import Derived.WideLaws
import Derived.Deep.DeepCutAuto
import Derived.Deep.CutBlock
import Derived.Deep.RegionHeld3
import Derived.Laws.Rows
import Derived.Lib.AppendStr
import Derived.ArgAppend
import Derived.Laws.IdiomCopy
import Derived.OrdersHeld
import Derived.Laws.BitsLemmas
import Derived.RowKit
import Derived.Test.YtdfholbeimbalaaWWords
import Derived.Test.YtdfholbeimbalaaWLast
import Derived.Test.YtdfholbeimbalaaWTab
import Derived.Test.YtdfholbeimbalaaWFour
import Derived.Test.YtdfholbeimbalaaWQPut
import Derived.Test.YtdfholbeimbalaaWApart
import Derived.Test.YtdfholbeimbalaaWArr
import Derived.Test.YtdfholbeimbalaaWZeros
import Derived.Test.YtdfholbeimbalaaWFoot
import Derived.Test.YtdfholbeimbalaaWKept
import Derived.Test.YtdfholbeimbalaaWShare
import Derived.Test.YtdfholbeimbalaaWN
import Derived.Test.YtdfholbeimbalaaWFootNe
import Derived.Test.YtdfholbeimbalaaWAt
import Derived.Test.YtdfholbeimbalaaWEqStruct
import Derived.Test.YtdfholbeimbalaaWRepsOne
import Derived.Test.YtdfholbeimbalaaWInv
import Derived.Test.YtdfholbeimbalaaWInvWords
import Derived.Test.YtdfholbeimbalaaWGuard
import Derived.Test.YtdfholbeimbalaaWNEv
import Derived.Test.YtdfholbeimbalaaWMore
namespace Go.Proofs.Ytdfholbeimbalaa.QDutyAnswers
open Go.RowKit Go.Proofs.YtdfholbeimbalaaW.PrintWords Go.Proofs.YtdfholbeimbalaaW.PrintLast Go.Proofs.YtdfholbeimbalaaW.PrintMore
attribute [local go_sem] max2_int min2_int max_two min_two max_three min_three max_four min_four   -- for this text's walks alone
set_option linter.unusedVariables false
set_option linter.unusedSimpArgs false



def errW : Option Int → Value
  | none => .nilIface
  | some c => .iface 0 (.int .i64 c)
theorem errW_none : errW none = .nilIface := rfl
theorem errW_some (c : Int) : errW (some c) = .iface 0 (.int .i64 c) := rfl

-- the values' own types

abbrev I_ : Bool := true
abbrev O_ : Bool := false
end Go.Proofs.Ytdfholbeimbalaa.QDutyAnswers
