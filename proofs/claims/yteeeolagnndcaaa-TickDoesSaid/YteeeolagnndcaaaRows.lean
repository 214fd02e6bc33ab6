/-
  No cell of these rows narrows 'for every input' (looked for: loops, veiled, ifaces, maps, wideKeys, modest, calm, conditions, laid).
  DERIVED. THE GIVEN ROWS OF THIS SEAT. 3 by the template 'for every input the law returns true; each argument reads behind the call as it read before'; 0 by the template 'total and deterministic' (their statements: YteeeolagnndcaaaTotals.lean).
  GIVEN WITH THE SEED: the statements are not yours to turn. If you find one false, say at which input.
  Laid BY PROGRAM, IN A SANDBOX (cutbox-rows.mjs): the forced cells as the released guide's own fill.sh prints them over the translation ec1d71dfb80f2fca… (all of the seat's roots in one cut). By AI agents, Wed Nov 11 2026. No macro, syntax, notation, axiom, sorry.
-/
import Derived.Test.YteeeolagnndcaaaChecked
import GoSem.Claim
import GoSem.ClaimJoined
import GoSem.ClaimMapViews
import Derived.JoinedTies
import Derived.KernelRfl
namespace Go.Proofs.Yteeeolagnndcaaa
/- THE CELL 'sum', in the pinned program and in every row, IS THE sha256 OF THE DUMP (.gsa) THAT YteeeolagnndcaaaProg.lean LOADS. Nothing in Lean hashes anything: it is a label: what it is worth is what the hold of that sum in a sandbox is worth. -/
noncomputable def Try.pinned : Pinned := { name := "yteeeolagnndcaaa", sum := "ec1d71dfb80f2fca92c07508258218dc219527f8d1932a92565d3a0f0b9ab2ec", checked := Try.checked }
namespace Rows
def none {H : Type} : Left H := { results := [], args := [] }

/-- 'angeluslaw06.TickDoes': WHATEVER THE INPUT: true; the input reads as it did. -/
def tickDoesSpec : ChangeSpec := { name := "tickDoes", fn := fun _ => fun
  | [d1, d2] => { results := [.lit (.bool true)], args := [d1, d2] }
  | _ => none }
def tickDoesRow : OpenClaim := { program := "yteeeolagnndcaaa", sum := "ec1d71dfb80f2fca92c07508258218dc219527f8d1932a92565d3a0f0b9ab2ec", func := "angelus/angeluslaw06.TickDoes", spec := "tickDoes", apart := false }
def TickDoesSaid : Prop := tickDoesRow.holds Try.pinned (OpenSpec.ofChange tickDoesSpec)

/-- ITS FALSE NEIGHBOUR: 'it returns false'. Refute it at one input. -/
def tickDoesWrong : ChangeSpec := { name := "tickDoes", fn := fun _ => fun
  | [d1, d2] => { results := [.lit (.bool false)], args := [d1, d2] }
  | _ => none }
def TickDoesWrongFalsely : Prop := tickDoesRow.holds Try.pinned (OpenSpec.ofChange tickDoesWrong)

/-- 'angeluslaw06.TickApart': WHATEVER THE INPUT: true; the input reads as it did. -/
def tickApartSpec : ChangeSpec := { name := "tickApart", fn := fun _ => fun
  | [d1, d2, d3] => { results := [.lit (.bool true)], args := [d1, d2, d3] }
  | _ => none }
def tickApartRow : OpenClaim := { program := "yteeeolagnndcaaa", sum := "ec1d71dfb80f2fca92c07508258218dc219527f8d1932a92565d3a0f0b9ab2ec", func := "angelus/angeluslaw06.TickApart", spec := "tickApart", apart := false }
def TickApartSaid : Prop := tickApartRow.holds Try.pinned (OpenSpec.ofChange tickApartSpec)

/-- ITS FALSE NEIGHBOUR: 'it returns false'. Refute it at one input. -/
def tickApartWrong : ChangeSpec := { name := "tickApart", fn := fun _ => fun
  | [d1, d2, d3] => { results := [.lit (.bool false)], args := [d1, d2, d3] }
  | _ => none }
def TickApartWrongFalsely : Prop := tickApartRow.holds Try.pinned (OpenSpec.ofChange tickApartWrong)

/-- 'angeluslaw06.TickSums': WHATEVER THE INPUT: true; the input reads as it did. -/
def tickSumsSpec : ChangeSpec := { name := "tickSums", fn := fun _ => fun
  | [d1, d2, d3] => { results := [.lit (.bool true)], args := [d1, d2, d3] }
  | _ => none }
def tickSumsRow : OpenClaim := { program := "yteeeolagnndcaaa", sum := "ec1d71dfb80f2fca92c07508258218dc219527f8d1932a92565d3a0f0b9ab2ec", func := "angelus/angeluslaw06.TickSums", spec := "tickSums", apart := false }
def TickSumsSaid : Prop := tickSumsRow.holds Try.pinned (OpenSpec.ofChange tickSumsSpec)

/-- ITS FALSE NEIGHBOUR: 'it returns false'. Refute it at one input. -/
def tickSumsWrong : ChangeSpec := { name := "tickSums", fn := fun _ => fun
  | [d1, d2, d3] => { results := [.lit (.bool false)], args := [d1, d2, d3] }
  | _ => none }
def TickSumsWrongFalsely : Prop := tickSumsRow.holds Try.pinned (OpenSpec.ofChange tickSumsWrong)

/- THE SECOND FORM. 'bulk': how many values and letters a reading holds, each counted each time it is reached (what is shared counts as often as it is met; a slice's spare places count too). A statement '..UptoSaid' is the law's where the arguments, and the package variables that the reading takes, are together of bulk at most 1048576: NARROWER than '..Said'. Prove '..Said' where nothing that the law and all that it calls make is longer than what came in: it says more and counts as full. Else prove '..UptoSaid'. A law counts once. -/
mutual
def uptoBulk {H : Type} : DataW H → Nat
  | .lit (.string bytes) => bytes.length + 1
  | .lit _ => 1
  | .nil => 1
  | .ptr d => uptoBulk d + 1
  | .slice elems spare => uptoBulkAll elems + uptoBulkAll spare + 1
  | .agg parts => uptoBulkAll parts + 1
  | .iface _ d => uptoBulk d + 1
  | .map entries => uptoBulkEntries entries + 1
  | .held _ => 1
def uptoBulkAll {H : Type} : List (DataW H) → Nat
  | [] => 0
  | d :: r => uptoBulk d + uptoBulkAll r
def uptoBulkEntries {H : Type} : List (Lit × DataW H) → Nat
  | [] => 0
  | x :: r => uptoBulkEntry x + uptoBulkEntries r
def uptoBulkEntry {H : Type} : Lit × DataW H → Nat
  | (.string bytes, d) => bytes.length + uptoBulk d + 1
  | (_, d) => uptoBulk d + 1
 end
def uptoSmall : (H : Type) → List (DataW H) → Bool := fun _ ds => decide (uptoBulkAll ds ≤ 1048576)
def OpenSpec.upto (s : _root_.Go.ChangeSpec) : _root_.Go.OpenSpec := { _root_.Go.OpenSpec.ofChange s with cond := some uptoSmall }

/-- 'angeluslaw06.TickDoes', WHERE WHAT IT READS IS OF BULK AT MOST 1048576: true; the input reads as it did. -/
def tickDoesUptoRow : OpenClaim := { program := "yteeeolagnndcaaa", sum := "ec1d71dfb80f2fca92c07508258218dc219527f8d1932a92565d3a0f0b9ab2ec", func := "angelus/angeluslaw06.TickDoes", spec := "tickDoes", apart := false, narrowed := true }
def TickDoesUptoSaid : Prop := tickDoesUptoRow.holds Try.pinned (OpenSpec.upto tickDoesSpec)

/-- 'angeluslaw06.TickApart', WHERE WHAT IT READS IS OF BULK AT MOST 1048576: true; the input reads as it did. -/
def tickApartUptoRow : OpenClaim := { program := "yteeeolagnndcaaa", sum := "ec1d71dfb80f2fca92c07508258218dc219527f8d1932a92565d3a0f0b9ab2ec", func := "angelus/angeluslaw06.TickApart", spec := "tickApart", apart := false, narrowed := true }
def TickApartUptoSaid : Prop := tickApartUptoRow.holds Try.pinned (OpenSpec.upto tickApartSpec)

/-- 'angeluslaw06.TickSums', WHERE WHAT IT READS IS OF BULK AT MOST 1048576: true; the input reads as it did. -/
def tickSumsUptoRow : OpenClaim := { program := "yteeeolagnndcaaa", sum := "ec1d71dfb80f2fca92c07508258218dc219527f8d1932a92565d3a0f0b9ab2ec", func := "angelus/angeluslaw06.TickSums", spec := "tickSums", apart := false, narrowed := true }
def TickSumsUptoSaid : Prop := tickSumsUptoRow.holds Try.pinned (OpenSpec.upto tickSumsSpec)

end Rows
end Go.Proofs.Yteeeolagnndcaaa
