/-
  No cell of these rows narrows 'for every input' (looked for: loops, veiled, ifaces, maps, wideKeys, modest, calm, conditions, laid).
  DERIVED. THE GIVEN ROWS OF THIS SEAT. 5 by the template 'for every input the law returns true; each argument reads behind the call as it read before'; 0 by the template 'total and deterministic' (their statements: YtcnlcmkhfdpidaaTotals.lean).
  GIVEN WITH THE SEED: the statements are not yours to turn. If you find one false, say at which input.
  Laid BY PROGRAM, IN A SANDBOX (cutbox-rows.mjs): the forced cells as the released guide's own fill.sh prints them over the translation 2579fcb26f088668… (all of the seat's roots in one cut). By AI agents, Wed Nov 11 2026. No macro, syntax, notation, axiom, sorry.
-/
import Derived.Test.YtcnlcmkhfdpidaaChecked
import GoSem.Claim
import GoSem.ClaimJoined
import GoSem.ClaimMapViews
import Derived.JoinedTies
import Derived.KernelRfl
namespace Go.Proofs.Ytcnlcmkhfdpidaa
/- THE CELL 'sum', in the pinned program and in every row, IS THE sha256 OF THE DUMP (.gsa) THAT YtcnlcmkhfdpidaaProg.lean LOADS. Nothing in Lean hashes anything: it is a label: what it is worth is what the hold of that sum in a sandbox is worth. -/
noncomputable def Try.pinned : Pinned := { name := "ytcnlcmkhfdpidaa", sum := "2579fcb26f08866806efaac2abde2eaaf8d9f09522d57b25965232a5e5979384", checked := Try.checked }
namespace Rows
def none {H : Type} : Left H := { results := [], args := [] }

/-- 'snapferrylaw05.GridMakes': WHATEVER THE INPUT: true; the input reads as it did. -/
def gridMakesSpec : ChangeSpec := { name := "gridMakes", fn := fun _ => fun
  | [d1, d2] => { results := [.lit (.bool true)], args := [d1, d2] }
  | _ => none }
def gridMakesRow : OpenClaim := { program := "ytcnlcmkhfdpidaa", sum := "2579fcb26f08866806efaac2abde2eaaf8d9f09522d57b25965232a5e5979384", func := "snapferry/snapferrylaw05.GridMakes", spec := "gridMakes", apart := false }
def GridMakesSaid : Prop := gridMakesRow.holds Try.pinned (OpenSpec.ofChange gridMakesSpec)

/-- ITS FALSE NEIGHBOUR: 'it returns false'. Refute it at one input. -/
def gridMakesWrong : ChangeSpec := { name := "gridMakes", fn := fun _ => fun
  | [d1, d2] => { results := [.lit (.bool false)], args := [d1, d2] }
  | _ => none }
def GridMakesWrongFalsely : Prop := gridMakesRow.holds Try.pinned (OpenSpec.ofChange gridMakesWrong)

/-- 'snapferrylaw05.GridTurned': WHATEVER THE INPUT: true; the input reads as it did. -/
def gridTurnedSpec : ChangeSpec := { name := "gridTurned", fn := fun _ => fun
  | [d1, d2] => { results := [.lit (.bool true)], args := [d1, d2] }
  | _ => none }
def gridTurnedRow : OpenClaim := { program := "ytcnlcmkhfdpidaa", sum := "2579fcb26f08866806efaac2abde2eaaf8d9f09522d57b25965232a5e5979384", func := "snapferry/snapferrylaw05.GridTurned", spec := "gridTurned", apart := false }
def GridTurnedSaid : Prop := gridTurnedRow.holds Try.pinned (OpenSpec.ofChange gridTurnedSpec)

/-- ITS FALSE NEIGHBOUR: 'it returns false'. Refute it at one input. -/
def gridTurnedWrong : ChangeSpec := { name := "gridTurned", fn := fun _ => fun
  | [d1, d2] => { results := [.lit (.bool false)], args := [d1, d2] }
  | _ => none }
def GridTurnedWrongFalsely : Prop := gridTurnedRow.holds Try.pinned (OpenSpec.ofChange gridTurnedWrong)

/-- 'snapferrylaw05.GridLongest': WHATEVER THE INPUT: true; the input reads as it did. -/
def gridLongestSpec : ChangeSpec := { name := "gridLongest", fn := fun _ => fun
  | [d1, d2, d3, d4] => { results := [.lit (.bool true)], args := [d1, d2, d3, d4] }
  | _ => none }
def gridLongestRow : OpenClaim := { program := "ytcnlcmkhfdpidaa", sum := "2579fcb26f08866806efaac2abde2eaaf8d9f09522d57b25965232a5e5979384", func := "snapferry/snapferrylaw05.GridLongest", spec := "gridLongest", unfollowed := true, recurses := true, apart := false }
def GridLongestSaid : Prop := gridLongestRow.holds Try.pinned (OpenSpec.ofChange gridLongestSpec)

/-- ITS FALSE NEIGHBOUR: 'it returns false'. Refute it at one input. -/
def gridLongestWrong : ChangeSpec := { name := "gridLongest", fn := fun _ => fun
  | [d1, d2, d3, d4] => { results := [.lit (.bool false)], args := [d1, d2, d3, d4] }
  | _ => none }
def GridLongestWrongFalsely : Prop := gridLongestRow.holds Try.pinned (OpenSpec.ofChange gridLongestWrong)

/-- 'snapferrylaw05.GridPaths': WHATEVER THE INPUT: true; the input reads as it did. -/
def gridPathsSpec : ChangeSpec := { name := "gridPaths", fn := fun _ => fun
  | [d1, d2] => { results := [.lit (.bool true)], args := [d1, d2] }
  | _ => none }
def gridPathsRow : OpenClaim := { program := "ytcnlcmkhfdpidaa", sum := "2579fcb26f08866806efaac2abde2eaaf8d9f09522d57b25965232a5e5979384", func := "snapferry/snapferrylaw05.GridPaths", spec := "gridPaths", apart := false }
def GridPathsSaid : Prop := gridPathsRow.holds Try.pinned (OpenSpec.ofChange gridPathsSpec)

/-- ITS FALSE NEIGHBOUR: 'it returns false'. Refute it at one input. -/
def gridPathsWrong : ChangeSpec := { name := "gridPaths", fn := fun _ => fun
  | [d1, d2] => { results := [.lit (.bool false)], args := [d1, d2] }
  | _ => none }
def GridPathsWrongFalsely : Prop := gridPathsRow.holds Try.pinned (OpenSpec.ofChange gridPathsWrong)

/-- 'snapferrylaw05.GridMore': WHATEVER THE INPUT: true; the input reads as it did. -/
def gridMoreSpec : ChangeSpec := { name := "gridMore", fn := fun _ => fun
  | [d1, d2, d3] => { results := [.lit (.bool true)], args := [d1, d2, d3] }
  | _ => none }
def gridMoreRow : OpenClaim := { program := "ytcnlcmkhfdpidaa", sum := "2579fcb26f08866806efaac2abde2eaaf8d9f09522d57b25965232a5e5979384", func := "snapferry/snapferrylaw05.GridMore", spec := "gridMore", apart := false }
def GridMoreSaid : Prop := gridMoreRow.holds Try.pinned (OpenSpec.ofChange gridMoreSpec)

/-- ITS FALSE NEIGHBOUR: 'it returns false'. Refute it at one input. -/
def gridMoreWrong : ChangeSpec := { name := "gridMore", fn := fun _ => fun
  | [d1, d2, d3] => { results := [.lit (.bool false)], args := [d1, d2, d3] }
  | _ => none }
def GridMoreWrongFalsely : Prop := gridMoreRow.holds Try.pinned (OpenSpec.ofChange gridMoreWrong)

/- THE SECOND FORM. 'bulk': how many values and letters a reading holds, each counted each time it is reached (what is shared counts as often as it is met; a slice's spare places count too). A statement '..UptoSaid' is the law's where the arguments, and the package variables that the reading takes, are together of bulk at most 1048576: NARROWER than '..Said'. Prove '..Said' where nothing that the law and all that it calls make is longer than what came in: it says more and counts as full. Else prove '..UptoSaid'. A law counts once. -/
mutual
def uptoBulk {H : Type} : DataW H → Nat
  | .lit (.string bytes) => bytes.length + 1
  | .lit _ => 1
  | .nil => 1
  | .ptr d => uptoBulk d + 1
  | .slice elems spare => uptoBulkAll elems + uptoBulkAll spare + 1
  | .agg parts => uptoBulkAll parts + 1
  | .iface _ d => uptoBulk d + 1
  | .map entries => uptoBulkEntries entries + 1
  | .held _ => 1
def uptoBulkAll {H : Type} : List (DataW H) → Nat
  | [] => 0
  | d :: r => uptoBulk d + uptoBulkAll r
def uptoBulkEntries {H : Type} : List (Lit × DataW H) → Nat
  | [] => 0
  | x :: r => uptoBulkEntry x + uptoBulkEntries r
def uptoBulkEntry {H : Type} : Lit × DataW H → Nat
  | (.string bytes, d) => bytes.length + uptoBulk d + 1
  | (_, d) => uptoBulk d + 1
 end
def uptoSmall : (H : Type) → List (DataW H) → Bool := fun _ ds => decide (uptoBulkAll ds ≤ 1048576)
def OpenSpec.upto (s : _root_.Go.ChangeSpec) : _root_.Go.OpenSpec := { _root_.Go.OpenSpec.ofChange s with cond := some uptoSmall }

/-- 'snapferrylaw05.GridMakes', WHERE WHAT IT READS IS OF BULK AT MOST 1048576: true; the input reads as it did. -/
def gridMakesUptoRow : OpenClaim := { program := "ytcnlcmkhfdpidaa", sum := "2579fcb26f08866806efaac2abde2eaaf8d9f09522d57b25965232a5e5979384", func := "snapferry/snapferrylaw05.GridMakes", spec := "gridMakes", apart := false, narrowed := true }
def GridMakesUptoSaid : Prop := gridMakesUptoRow.holds Try.pinned (OpenSpec.upto gridMakesSpec)

/-- 'snapferrylaw05.GridTurned', WHERE WHAT IT READS IS OF BULK AT MOST 1048576: true; the input reads as it did. -/
def gridTurnedUptoRow : OpenClaim := { program := "ytcnlcmkhfdpidaa", sum := "2579fcb26f08866806efaac2abde2eaaf8d9f09522d57b25965232a5e5979384", func := "snapferry/snapferrylaw05.GridTurned", spec := "gridTurned", apart := false, narrowed := true }
def GridTurnedUptoSaid : Prop := gridTurnedUptoRow.holds Try.pinned (OpenSpec.upto gridTurnedSpec)

/-- 'snapferrylaw05.GridLongest', WHERE WHAT IT READS IS OF BULK AT MOST 1048576: true; the input reads as it did. -/
def gridLongestUptoRow : OpenClaim := { program := "ytcnlcmkhfdpidaa", sum := "2579fcb26f08866806efaac2abde2eaaf8d9f09522d57b25965232a5e5979384", func := "snapferry/snapferrylaw05.GridLongest", spec := "gridLongest", unfollowed := true, recurses := true, apart := false, narrowed := true }
def GridLongestUptoSaid : Prop := gridLongestUptoRow.holds Try.pinned (OpenSpec.upto gridLongestSpec)

/-- 'snapferrylaw05.GridPaths', WHERE WHAT IT READS IS OF BULK AT MOST 1048576: true; the input reads as it did. -/
def gridPathsUptoRow : OpenClaim := { program := "ytcnlcmkhfdpidaa", sum := "2579fcb26f08866806efaac2abde2eaaf8d9f09522d57b25965232a5e5979384", func := "snapferry/snapferrylaw05.GridPaths", spec := "gridPaths", apart := false, narrowed := true }
def GridPathsUptoSaid : Prop := gridPathsUptoRow.holds Try.pinned (OpenSpec.upto gridPathsSpec)

/-- 'snapferrylaw05.GridMore', WHERE WHAT IT READS IS OF BULK AT MOST 1048576: true; the input reads as it did. -/
def gridMoreUptoRow : OpenClaim := { program := "ytcnlcmkhfdpidaa", sum := "2579fcb26f08866806efaac2abde2eaaf8d9f09522d57b25965232a5e5979384", func := "snapferry/snapferrylaw05.GridMore", spec := "gridMore", apart := false, narrowed := true }
def GridMoreUptoSaid : Prop := gridMoreUptoRow.holds Try.pinned (OpenSpec.upto gridMoreSpec)

end Rows
end Go.Proofs.Ytcnlcmkhfdpidaa
