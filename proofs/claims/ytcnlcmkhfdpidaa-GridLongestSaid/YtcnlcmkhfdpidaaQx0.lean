/- The functions that this claim reaches, as plain Lean functions, and the proofs that the program comes to them: written by a program of this session out of the translation. Each contract stands under its own function answering. -/
import Derived.Test.YtcnlcmkhfdpidaaProg
import Derived.Below
import Derived.Deep.Draws
import Derived.Deep.AppendLies
import Derived.Maps.AppendAt
import Derived.OwnWalk
import Derived.Laws.BytesArg
import Derived.Laws.MakeOwn
import Derived.Laws.OwnMore
import Derived.Deep.OwnRows
import Derived.Tactics
import Derived.Lib.ConvBytes
import Derived.Laws.Slices
import Derived.WalkKit
import Derived.KernelRfl
import Derived.RowKit3
import Derived.Deep.LoopGhost
import Derived.Deep.QuietTactic
import Derived.BigQuiet
import Derived.WideLaws
import Derived.Deep.DeepCutAuto
import Derived.Deep.CutBlock
import Derived.Deep.RegionHeld3
import Derived.Laws.Rows
import Derived.Lib.AppendStr
import Derived.ArgAppend
import Derived.Laws.IdiomCopy
import Derived.OrdersHeld
import Derived.Laws.BitsLemmas
import Derived.RowKit
import Derived.WalkMore
import Derived.ScopeJumps
import Derived.Test.YtcnlcmkhfdpidaaWWords
import Derived.Test.YtcnlcmkhfdpidaaWLast
import Derived.Test.YtcnlcmkhfdpidaaWTab
import Derived.Test.YtcnlcmkhfdpidaaWFour
import Derived.Test.YtcnlcmkhfdpidaaWQPut
import Derived.Test.YtcnlcmkhfdpidaaWApart
import Derived.Test.YtcnlcmkhfdpidaaWArr
import Derived.Test.YtcnlcmkhfdpidaaWZeros
import Derived.Test.YtcnlcmkhfdpidaaWFoot
import Derived.Test.YtcnlcmkhfdpidaaWKept
import Derived.Test.YtcnlcmkhfdpidaaWShare
import Derived.Test.YtcnlcmkhfdpidaaWN
import Derived.Test.YtcnlcmkhfdpidaaWFootNe
import Derived.Test.YtcnlcmkhfdpidaaWAt
import Derived.Test.YtcnlcmkhfdpidaaWEqStruct
import Derived.Test.YtcnlcmkhfdpidaaWRepsOne
import Derived.Test.YtcnlcmkhfdpidaaWInv
import Derived.Test.YtcnlcmkhfdpidaaWInvWords
import Derived.Test.YtcnlcmkhfdpidaaWGuard
import Derived.Test.YtcnlcmkhfdpidaaWNEv
import Derived.Test.YtcnlcmkhfdpidaaWMore
namespace Go.Proofs.Ytcnlcmkhfdpidaa.Q
open Go.RowKit Go.Proofs.YtcnlcmkhfdpidaaW.PrintWords Go.Proofs.YtcnlcmkhfdpidaaW.PrintLast Go.Proofs.YtcnlcmkhfdpidaaW.PrintMore
attribute [local go_sem] max2_int min2_int max_two min_two max_three min_three max_four min_four   -- for this text's walks alone
set_option linter.unusedVariables false
set_option linter.unusedSimpArgs false



def errW : Option Int → Value
  | none => .nilIface
  | some c => .iface 0 (.int .i64 c)
theorem errW_none : errW none = .nilIface := rfl
theorem errW_some (c : Int) : errW (some c) = .iface 0 (.int .i64 c) := rfl

-- the values' own types

end Go.Proofs.Ytcnlcmkhfdpidaa.Q
