/- Our own text, made by our program own_print.py out of what the kit's print wrote for this law. -/
import Derived.Test.YtlklbcaoooeioaaProg
import Derived.Below
import Derived.Deep.Draws
import Derived.Deep.AppendLies
import Derived.Maps.AppendAt
import Derived.OwnWalk
import Derived.Laws.BytesArg
import Derived.Laws.MakeOwn
import Derived.Laws.OwnMore
import Derived.Deep.OwnRows
import Derived.Tactics
import Derived.Lib.ConvBytes
import Derived.Laws.Slices
import Derived.WalkKit
import Derived.KernelRfl
import Derived.RowKit3
import Derived.Deep.LoopGhost
import Derived.Deep.QuietTactic
import Derived.BigQuiet
import Derived.WideLaws
import Derived.Deep.DeepCutAuto
import Derived.Deep.CutBlock
import Derived.Deep.RegionHeld3
import Derived.Laws.Rows
import Derived.Lib.AppendStr
import Derived.ArgAppend
import Derived.Laws.IdiomCopy
import Derived.OrdersHeld
import Derived.Laws.BitsLemmas
import Derived.RowKit
import Derived.Test.YtlklbcaoooeioaaWWords
import Derived.Test.YtlklbcaoooeioaaWLast
import Derived.Test.YtlklbcaoooeioaaWTab
import Derived.Test.YtlklbcaoooeioaaWFour
import Derived.Test.YtlklbcaoooeioaaWQPut
import Derived.Test.YtlklbcaoooeioaaWApart
import Derived.Test.YtlklbcaoooeioaaWArr
import Derived.Test.YtlklbcaoooeioaaWZeros
import Derived.Test.YtlklbcaoooeioaaWFoot
import Derived.Test.YtlklbcaoooeioaaWKept
import Derived.Test.YtlklbcaoooeioaaWShare
import Derived.Test.YtlklbcaoooeioaaWN
import Derived.Test.YtlklbcaoooeioaaWFootNe
import Derived.Test.YtlklbcaoooeioaaWAt
import Derived.Test.YtlklbcaoooeioaaWEqStruct
import Derived.Test.YtlklbcaoooeioaaWRepsOne
import Derived.Test.YtlklbcaoooeioaaWInv
import Derived.Test.YtlklbcaoooeioaaWInvWords
import Derived.Test.YtlklbcaoooeioaaWGuard
import Derived.Test.YtlklbcaoooeioaaWNEv
import Derived.Test.YtlklbcaoooeioaaWMore
namespace Go.Proofs.Ytlklbcaoooeioaa.QBoundGrows
open Go.RowKit Go.Proofs.YtlklbcaoooeioaaW.PrintWords Go.Proofs.YtlklbcaoooeioaaW.PrintLast Go.Proofs.YtlklbcaoooeioaaW.PrintMore
attribute [local go_sem] max2_int min2_int max_two min_two max_three min_three max_four min_four   -- for this text's walks alone
set_option linter.unusedVariables false
set_option linter.unusedSimpArgs false



def errW : Option Int → Value
  | none => .nilIface
  | some c => .iface 0 (.int .i64 c)
theorem errW_none : errW none = .nilIface := rfl
theorem errW_some (c : Int) : errW (some c) = .iface 0 (.int .i64 c) := rfl

-- the values' own types

abbrev I_ : Bool := true
abbrev O_ : Bool := false
theorem As_ {p : Prop} (h : p) : Aside0 p := Aside0.mk h
abbrev bN_ := @blk_drewN
abbrev bD_ := @blk_drew
abbrev bA_ := @blk_alloc
end Go.Proofs.Ytlklbcaoooeioaa.QBoundGrows
