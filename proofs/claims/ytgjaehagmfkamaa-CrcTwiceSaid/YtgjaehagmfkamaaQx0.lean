/- The functions that this claim reaches, as plain Lean functions, and the proofs that the program comes to them: written by a program of this session out of the translation. Each contract stands under its own function answering. -/
import Derived.Test.YtgjaehagmfkamaaProg
import Derived.Below
import Derived.Deep.Draws
import Derived.Deep.AppendLies
import Derived.Maps.AppendAt
import Derived.OwnWalk
import Derived.Laws.BytesArg
import Derived.Laws.MakeOwn
import Derived.Laws.OwnMore
import Derived.Deep.OwnRows
import Derived.Tactics
import Derived.Lib.ConvBytes
import Derived.Laws.Slices
import Derived.WalkKit
import Derived.KernelRfl
import Derived.RowKit3
import Derived.Deep.LoopGhost
import Derived.Deep.QuietTactic
import Derived.BigQuiet
import Derived.WideLaws
import Derived.Deep.DeepCutAuto
import Derived.Deep.CutBlock
import Derived.Deep.RegionHeld3
import Derived.Laws.Rows
import Derived.Lib.AppendStr
import Derived.ArgAppend
import Derived.Laws.IdiomCopy
import Derived.OrdersHeld
import Derived.Laws.BitsLemmas
import Derived.RowKit
import Derived.WalkMore
import Derived.ScopeJumps
import Derived.Test.YtgjaehagmfkamaaWWords
import Derived.Test.YtgjaehagmfkamaaWLast
import Derived.Test.YtgjaehagmfkamaaWTab
import Derived.Test.YtgjaehagmfkamaaWFour
import Derived.Test.YtgjaehagmfkamaaWQPut
import Derived.Test.YtgjaehagmfkamaaWApart
import Derived.Test.YtgjaehagmfkamaaWArr
import Derived.Test.YtgjaehagmfkamaaWZeros
import Derived.Test.YtgjaehagmfkamaaWFoot
import Derived.Test.YtgjaehagmfkamaaWKept
import Derived.Test.YtgjaehagmfkamaaWShare
import Derived.Test.YtgjaehagmfkamaaWN
import Derived.Test.YtgjaehagmfkamaaWFootNe
import Derived.Test.YtgjaehagmfkamaaWAt
import Derived.Test.YtgjaehagmfkamaaWEqStruct
import Derived.Test.YtgjaehagmfkamaaWRepsOne
import Derived.Test.YtgjaehagmfkamaaWInv
import Derived.Test.YtgjaehagmfkamaaWInvWords
import Derived.Test.YtgjaehagmfkamaaWGuard
import Derived.Test.YtgjaehagmfkamaaWNEv
import Derived.Test.YtgjaehagmfkamaaWMore
namespace Go.Proofs.Ytgjaehagmfkamaa.Q
open Go.RowKit Go.Proofs.YtgjaehagmfkamaaW.PrintWords Go.Proofs.YtgjaehagmfkamaaW.PrintLast Go.Proofs.YtgjaehagmfkamaaW.PrintMore
attribute [local go_sem] max2_int min2_int max_two min_two max_three min_three max_four min_four   -- for this text's walks alone
set_option linter.unusedVariables false
set_option linter.unusedSimpArgs false



def errW : Option Int → Value
  | none => .nilIface
  | some c => .iface 0 (.int .i64 c)
theorem errW_none : errW none = .nilIface := rfl
theorem errW_some (c : Int) : errW (some c) = .iface 0 (.int .i64 c) := rfl

theorem info5 : (Try.prog.info? 5).map (fun i => (i.zero, i.size, i.bytes)) = some (some (.int .u8 0), 1, 1) := by kernel_rfl
theorem info9 : (Try.prog.info? 9).map (fun i => (i.zero, i.size, i.bytes)) = some (some (.string ⟨#[]⟩), 1, 16) := by kernel_rfl
-- the values' own types

end Go.Proofs.Ytgjaehagmfkamaa.Q
