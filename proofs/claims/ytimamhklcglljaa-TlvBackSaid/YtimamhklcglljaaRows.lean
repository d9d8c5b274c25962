/-
  No cell of these rows narrows 'for every input' (looked for: loops, veiled, ifaces, maps, wideKeys, modest, calm, conditions, laid).
  DERIVED. THE GIVEN ROWS OF THIS SEAT. 3 by the template 'for every input the law returns true; each argument reads behind the call as it read before'; 0 by the template 'total and deterministic' (their statements: YtimamhklcglljaaTotals.lean).
  GIVEN WITH THE SEED: the statements are not yours to turn. If you find one false, say at which input.
  Laid BY PROGRAM, IN A SANDBOX (cutbox-rows.mjs): the forced cells as the released guide's own fill.sh prints them over the translation 0fdb78128d8207da… (all of the seat's roots in one cut). By AI agents, Wed Nov 11 2026. No macro, syntax, notation, axiom, sorry.
-/
import Derived.Test.YtimamhklcglljaaChecked
import GoSem.Claim
import GoSem.ClaimJoined
import GoSem.ClaimMapViews
import Derived.JoinedTies
import Derived.KernelRfl
namespace Go.Proofs.Ytimamhklcglljaa
/- THE CELL 'sum', in the pinned program and in every row, IS THE sha256 OF THE DUMP (.gsa) THAT YtimamhklcglljaaProg.lean LOADS. Nothing in Lean hashes anything: it is a label: what it is worth is what the hold of that sum in a sandbox is worth. -/
noncomputable def Try.pinned : Pinned := { name := "ytimamhklcglljaa", sum := "0fdb78128d8207da40d56d9fbb167e4c2a03cae0fa39ac2fcdc38a12c969b77e", checked := Try.checked }
namespace Rows
def none {H : Type} : Left H := { results := [], args := [] }

/-- 'snapferrylaw04.TlvBack': WHATEVER THE INPUT: true; the input reads as it did. -/
def tlvBackSpec : ChangeSpec := { name := "tlvBack", fn := fun _ => fun
  | [d1, d2, d3, d4, d5] => { results := [.lit (.bool true)], args := [d1, d2, d3, d4, d5] }
  | _ => none }
def tlvBackRow : OpenClaim := { program := "ytimamhklcglljaa", sum := "0fdb78128d8207da40d56d9fbb167e4c2a03cae0fa39ac2fcdc38a12c969b77e", func := "snapferry/snapferrylaw04.TlvBack", spec := "tlvBack", apart := false }
def TlvBackSaid : Prop := tlvBackRow.holds Try.pinned (OpenSpec.ofChange tlvBackSpec)

/-- ITS FALSE NEIGHBOUR: 'it returns false'. Refute it at one input. -/
def tlvBackWrong : ChangeSpec := { name := "tlvBack", fn := fun _ => fun
  | [d1, d2, d3, d4, d5] => { results := [.lit (.bool false)], args := [d1, d2, d3, d4, d5] }
  | _ => none }
def TlvBackWrongFalsely : Prop := tlvBackRow.holds Try.pinned (OpenSpec.ofChange tlvBackWrong)

/-- 'snapferrylaw04.TlvRest': WHATEVER THE INPUT: true; the input reads as it did. -/
def tlvRestSpec : ChangeSpec := { name := "tlvRest", fn := fun _ => fun
  | [d1, d2, d3, d4] => { results := [.lit (.bool true)], args := [d1, d2, d3, d4] }
  | _ => none }
def tlvRestRow : OpenClaim := { program := "ytimamhklcglljaa", sum := "0fdb78128d8207da40d56d9fbb167e4c2a03cae0fa39ac2fcdc38a12c969b77e", func := "snapferry/snapferrylaw04.TlvRest", spec := "tlvRest", apart := false }
def TlvRestSaid : Prop := tlvRestRow.holds Try.pinned (OpenSpec.ofChange tlvRestSpec)

/-- ITS FALSE NEIGHBOUR: 'it returns false'. Refute it at one input. -/
def tlvRestWrong : ChangeSpec := { name := "tlvRest", fn := fun _ => fun
  | [d1, d2, d3, d4] => { results := [.lit (.bool false)], args := [d1, d2, d3, d4] }
  | _ => none }
def TlvRestWrongFalsely : Prop := tlvRestRow.holds Try.pinned (OpenSpec.ofChange tlvRestWrong)

/-- 'snapferrylaw04.TlvPieces': WHATEVER THE INPUT: true; the input reads as it did. -/
def tlvPiecesSpec : ChangeSpec := { name := "tlvPieces", fn := fun _ => fun
  | [d] => { results := [.lit (.bool true)], args := [d] }
  | _ => none }
def tlvPiecesRow : OpenClaim := { program := "ytimamhklcglljaa", sum := "0fdb78128d8207da40d56d9fbb167e4c2a03cae0fa39ac2fcdc38a12c969b77e", func := "snapferry/snapferrylaw04.TlvPieces", spec := "tlvPieces", apart := false }
def TlvPiecesSaid : Prop := tlvPiecesRow.holds Try.pinned (OpenSpec.ofChange tlvPiecesSpec)

/-- ITS FALSE NEIGHBOUR: 'it returns false'. Refute it at one input. -/
def tlvPiecesWrong : ChangeSpec := { name := "tlvPieces", fn := fun _ => fun
  | [d] => { results := [.lit (.bool false)], args := [d] }
  | _ => none }
def TlvPiecesWrongFalsely : Prop := tlvPiecesRow.holds Try.pinned (OpenSpec.ofChange tlvPiecesWrong)

/- THE SECOND FORM. 'bulk': how many values and letters a reading holds, each counted each time it is reached (what is shared counts as often as it is met; a slice's spare places count too). A statement '..UptoSaid' is the law's where the arguments, and the package variables that the reading takes, are together of bulk at most 1048576: NARROWER than '..Said'. Prove '..Said' where nothing that the law and all that it calls make is longer than what came in: it says more and counts as full. Else prove '..UptoSaid'. A law counts once. -/
mutual
def uptoBulk {H : Type} : DataW H → Nat
  | .lit (.string bytes) => bytes.length + 1
  | .lit _ => 1
  | .nil => 1
  | .ptr d => uptoBulk d + 1
  | .slice elems spare => uptoBulkAll elems + uptoBulkAll spare + 1
  | .agg parts => uptoBulkAll parts + 1
  | .iface _ d => uptoBulk d + 1
  | .map entries => uptoBulkEntries entries + 1
  | .held _ => 1
def uptoBulkAll {H : Type} : List (DataW H) → Nat
  | [] => 0
  | d :: r => uptoBulk d + uptoBulkAll r
def uptoBulkEntries {H : Type} : List (Lit × DataW H) → Nat
  | [] => 0
  | x :: r => uptoBulkEntry x + uptoBulkEntries r
def uptoBulkEntry {H : Type} : Lit × DataW H → Nat
  | (.string bytes, d) => bytes.length + uptoBulk d + 1
  | (_, d) => uptoBulk d + 1
 end
def uptoSmall : (H : Type) → List (DataW H) → Bool := fun _ ds => decide (uptoBulkAll ds ≤ 1048576)
def OpenSpec.upto (s : _root_.Go.ChangeSpec) : _root_.Go.OpenSpec := { _root_.Go.OpenSpec.ofChange s with cond := some uptoSmall }

/-- 'snapferrylaw04.TlvBack', WHERE WHAT IT READS IS OF BULK AT MOST 1048576: true; the input reads as it did. -/
def tlvBackUptoRow : OpenClaim := { program := "ytimamhklcglljaa", sum := "0fdb78128d8207da40d56d9fbb167e4c2a03cae0fa39ac2fcdc38a12c969b77e", func := "snapferry/snapferrylaw04.TlvBack", spec := "tlvBack", apart := false, narrowed := true }
def TlvBackUptoSaid : Prop := tlvBackUptoRow.holds Try.pinned (OpenSpec.upto tlvBackSpec)

/-- 'snapferrylaw04.TlvRest', WHERE WHAT IT READS IS OF BULK AT MOST 1048576: true; the input reads as it did. -/
def tlvRestUptoRow : OpenClaim := { program := "ytimamhklcglljaa", sum := "0fdb78128d8207da40d56d9fbb167e4c2a03cae0fa39ac2fcdc38a12c969b77e", func := "snapferry/snapferrylaw04.TlvRest", spec := "tlvRest", apart := false, narrowed := true }
def TlvRestUptoSaid : Prop := tlvRestUptoRow.holds Try.pinned (OpenSpec.upto tlvRestSpec)

/-- 'snapferrylaw04.TlvPieces', WHERE WHAT IT READS IS OF BULK AT MOST 1048576: true; the input reads as it did. -/
def tlvPiecesUptoRow : OpenClaim := { program := "ytimamhklcglljaa", sum := "0fdb78128d8207da40d56d9fbb167e4c2a03cae0fa39ac2fcdc38a12c969b77e", func := "snapferry/snapferrylaw04.TlvPieces", spec := "tlvPieces", apart := false, narrowed := true }
def TlvPiecesUptoSaid : Prop := tlvPiecesUptoRow.holds Try.pinned (OpenSpec.upto tlvPiecesSpec)

end Rows
end Go.Proofs.Ytimamhklcglljaa
