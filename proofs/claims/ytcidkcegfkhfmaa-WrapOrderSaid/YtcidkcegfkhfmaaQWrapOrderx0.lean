/- Our own text, made by our program own_print.py out of what the kit's print wrote for this law (whose text did not build as it was). -/
import Derived.Test.YtcidkcegfkhfmaaProg
import Derived.Below
import Derived.Deep.Draws
import Derived.Deep.AppendLies
import Derived.Maps.AppendAt
import Derived.OwnWalk
import Derived.Laws.BytesArg
import Derived.Laws.MakeOwn
import Derived.Laws.OwnMore
import Derived.Deep.OwnRows
import Derived.Tactics
import Derived.Lib.ConvBytes
import Derived.Laws.Slices
import Derived.WalkKit
import Derived.KernelRfl
import Derived.RowKit3
import Derived.Deep.LoopGhost
import Derived.Deep.QuietTactic
import Derived.BigQuiet
import Derived.WideLaws
import Derived.Deep.DeepCutAuto
import Derived.Deep.CutBlock
import Derived.Deep.RegionHeld3
import Derived.Laws.Rows
import Derived.Lib.AppendStr
import Derived.ArgAppend
import Derived.Laws.IdiomCopy
import Derived.OrdersHeld
import Derived.Laws.BitsLemmas
import Derived.RowKit
import Derived.Test.YtcidkcegfkhfmaaWWords
import Derived.Test.YtcidkcegfkhfmaaWLast
import Derived.Test.YtcidkcegfkhfmaaWTab
import Derived.Test.YtcidkcegfkhfmaaWFour
import Derived.Test.YtcidkcegfkhfmaaWQPut
import Derived.Test.YtcidkcegfkhfmaaWApart
import Derived.Test.YtcidkcegfkhfmaaWArr
import Derived.Test.YtcidkcegfkhfmaaWZeros
import Derived.Test.YtcidkcegfkhfmaaWFoot
import Derived.Test.YtcidkcegfkhfmaaWKept
import Derived.Test.YtcidkcegfkhfmaaWShare
import Derived.Test.YtcidkcegfkhfmaaWN
import Derived.Test.YtcidkcegfkhfmaaWFootNe
import Derived.Test.YtcidkcegfkhfmaaWAt
import Derived.Test.YtcidkcegfkhfmaaWEqStruct
import Derived.Test.YtcidkcegfkhfmaaWRepsOne
import Derived.Test.YtcidkcegfkhfmaaWInv
import Derived.Test.YtcidkcegfkhfmaaWInvWords
import Derived.Test.YtcidkcegfkhfmaaWGuard
import Derived.Test.YtcidkcegfkhfmaaWNEv
import Derived.Test.YtcidkcegfkhfmaaWMore
namespace Go.Proofs.Ytcidkcegfkhfmaa.QWrapOrder
open Go.RowKit Go.Proofs.YtcidkcegfkhfmaaW.PrintWords Go.Proofs.YtcidkcegfkhfmaaW.PrintLast Go.Proofs.YtcidkcegfkhfmaaW.PrintMore
attribute [local go_sem] max2_int min2_int max_two min_two max_three min_three max_four min_four   -- for this text's walks alone
set_option linter.unusedVariables false
set_option linter.unusedSimpArgs false



def errW : Option Int → Value
  | none => .nilIface
  | some c => .iface 0 (.int .i64 c)
theorem errW_none : errW none = .nilIface := rfl
theorem errW_some (c : Int) : errW (some c) = .iface 0 (.int .i64 c) := rfl

-- the values' own types

end Go.Proofs.Ytcidkcegfkhfmaa.QWrapOrder
