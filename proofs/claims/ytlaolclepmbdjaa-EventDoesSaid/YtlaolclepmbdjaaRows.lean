/-
  No cell of these rows narrows 'for every input' (looked for: loops, veiled, ifaces, maps, wideKeys, modest, calm, conditions, laid).
  DERIVED. THE GIVEN ROWS OF THIS SEAT. 3 by the template 'for every input the law returns true; each argument reads behind the call as it read before'; 0 by the template 'total and deterministic' (their statements: YtlaolclepmbdjaaTotals.lean).
  GIVEN WITH THE SEED: the statements are not yours to turn. If you find one false, say at which input.
  Laid BY PROGRAM, IN A SANDBOX (cutbox-rows.mjs): the forced cells as the released guide's own fill.sh prints them over the translation f8d41540b46865b0… (all of the seat's roots in one cut). By AI agents, Wed Nov 11 2026. No macro, syntax, notation, axiom, sorry.
-/
import Derived.Test.YtlaolclepmbdjaaChecked
import GoSem.Claim
import GoSem.ClaimJoined
import GoSem.ClaimMapViews
import Derived.JoinedTies
import Derived.KernelRfl
namespace Go.Proofs.Ytlaolclepmbdjaa
/- THE CELL 'sum', in the pinned program and in every row, IS THE sha256 OF THE DUMP (.gsa) THAT YtlaolclepmbdjaaProg.lean LOADS. Nothing in Lean hashes anything: it is a label: what it is worth is what the hold of that sum in a sandbox is worth. -/
noncomputable def Try.pinned : Pinned := { name := "ytlaolclepmbdjaa", sum := "f8d41540b46865b0261421cb76feba81b288bbc310c0ec040668e1b6cdabf7f5", checked := Try.checked }
namespace Rows
def none {H : Type} : Left H := { results := [], args := [] }

/-- 'angeluslaw24.EventLabels': WHATEVER THE INPUT: true; the input reads as it did. -/
def eventLabelsSpec : ChangeSpec := { name := "eventLabels", fn := fun _ => fun
  | [d] => { results := [.lit (.bool true)], args := [d] }
  | _ => none }
def eventLabelsRow : OpenClaim := { program := "ytlaolclepmbdjaa", sum := "f8d41540b46865b0261421cb76feba81b288bbc310c0ec040668e1b6cdabf7f5", func := "angelus/angeluslaw24.EventLabels", spec := "eventLabels", apart := false }
def EventLabelsSaid : Prop := eventLabelsRow.holds Try.pinned (OpenSpec.ofChange eventLabelsSpec)

/-- ITS FALSE NEIGHBOUR: 'it returns false'. Refute it at one input. -/
def eventLabelsWrong : ChangeSpec := { name := "eventLabels", fn := fun _ => fun
  | [d] => { results := [.lit (.bool false)], args := [d] }
  | _ => none }
def EventLabelsWrongFalsely : Prop := eventLabelsRow.holds Try.pinned (OpenSpec.ofChange eventLabelsWrong)

/-- 'angeluslaw24.EventOrder': WHATEVER THE INPUT: true; the input reads as it did. -/
def eventOrderSpec : ChangeSpec := { name := "eventOrder", fn := fun _ => fun
  | [d] => { results := [.lit (.bool true)], args := [d] }
  | _ => none }
def eventOrderRow : OpenClaim := { program := "ytlaolclepmbdjaa", sum := "f8d41540b46865b0261421cb76feba81b288bbc310c0ec040668e1b6cdabf7f5", func := "angelus/angeluslaw24.EventOrder", spec := "eventOrder", apart := false }
def EventOrderSaid : Prop := eventOrderRow.holds Try.pinned (OpenSpec.ofChange eventOrderSpec)

/-- ITS FALSE NEIGHBOUR: 'it returns false'. Refute it at one input. -/
def eventOrderWrong : ChangeSpec := { name := "eventOrder", fn := fun _ => fun
  | [d] => { results := [.lit (.bool false)], args := [d] }
  | _ => none }
def EventOrderWrongFalsely : Prop := eventOrderRow.holds Try.pinned (OpenSpec.ofChange eventOrderWrong)

/-- 'angeluslaw24.EventDoes': WHATEVER THE INPUT: true; the input reads as it did. -/
def eventDoesSpec : ChangeSpec := { name := "eventDoes", fn := fun _ => fun
  | [d] => { results := [.lit (.bool true)], args := [d] }
  | _ => none }
def eventDoesRow : OpenClaim := { program := "ytlaolclepmbdjaa", sum := "f8d41540b46865b0261421cb76feba81b288bbc310c0ec040668e1b6cdabf7f5", func := "angelus/angeluslaw24.EventDoes", spec := "eventDoes", unfollowed := true, recurses := true, apart := false }
def EventDoesSaid : Prop := eventDoesRow.holds Try.pinned (OpenSpec.ofChange eventDoesSpec)

/-- ITS FALSE NEIGHBOUR: 'it returns false'. Refute it at one input. -/
def eventDoesWrong : ChangeSpec := { name := "eventDoes", fn := fun _ => fun
  | [d] => { results := [.lit (.bool false)], args := [d] }
  | _ => none }
def EventDoesWrongFalsely : Prop := eventDoesRow.holds Try.pinned (OpenSpec.ofChange eventDoesWrong)

/- THE SECOND FORM. 'bulk': how many values and letters a reading holds, each counted each time it is reached (what is shared counts as often as it is met; a slice's spare places count too). A statement '..UptoSaid' is the law's where the arguments, and the package variables that the reading takes, are together of bulk at most 1048576: NARROWER than '..Said'. Prove '..Said' where nothing that the law and all that it calls make is longer than what came in: it says more and counts as full. Else prove '..UptoSaid'. A law counts once. -/
mutual
def uptoBulk {H : Type} : DataW H → Nat
  | .lit (.string bytes) => bytes.length + 1
  | .lit _ => 1
  | .nil => 1
  | .ptr d => uptoBulk d + 1
  | .slice elems spare => uptoBulkAll elems + uptoBulkAll spare + 1
  | .agg parts => uptoBulkAll parts + 1
  | .iface _ d => uptoBulk d + 1
  | .map entries => uptoBulkEntries entries + 1
  | .held _ => 1
def uptoBulkAll {H : Type} : List (DataW H) → Nat
  | [] => 0
  | d :: r => uptoBulk d + uptoBulkAll r
def uptoBulkEntries {H : Type} : List (Lit × DataW H) → Nat
  | [] => 0
  | x :: r => uptoBulkEntry x + uptoBulkEntries r
def uptoBulkEntry {H : Type} : Lit × DataW H → Nat
  | (.string bytes, d) => bytes.length + uptoBulk d + 1
  | (_, d) => uptoBulk d + 1
 end
def uptoSmall : (H : Type) → List (DataW H) → Bool := fun _ ds => decide (uptoBulkAll ds ≤ 1048576)
def OpenSpec.upto (s : _root_.Go.ChangeSpec) : _root_.Go.OpenSpec := { _root_.Go.OpenSpec.ofChange s with cond := some uptoSmall }

/-- 'angeluslaw24.EventLabels', WHERE WHAT IT READS IS OF BULK AT MOST 1048576: true; the input reads as it did. -/
def eventLabelsUptoRow : OpenClaim := { program := "ytlaolclepmbdjaa", sum := "f8d41540b46865b0261421cb76feba81b288bbc310c0ec040668e1b6cdabf7f5", func := "angelus/angeluslaw24.EventLabels", spec := "eventLabels", apart := false, narrowed := true }
def EventLabelsUptoSaid : Prop := eventLabelsUptoRow.holds Try.pinned (OpenSpec.upto eventLabelsSpec)

/-- 'angeluslaw24.EventOrder', WHERE WHAT IT READS IS OF BULK AT MOST 1048576: true; the input reads as it did. -/
def eventOrderUptoRow : OpenClaim := { program := "ytlaolclepmbdjaa", sum := "f8d41540b46865b0261421cb76feba81b288bbc310c0ec040668e1b6cdabf7f5", func := "angelus/angeluslaw24.EventOrder", spec := "eventOrder", apart := false, narrowed := true }
def EventOrderUptoSaid : Prop := eventOrderUptoRow.holds Try.pinned (OpenSpec.upto eventOrderSpec)

/-- 'angeluslaw24.EventDoes', WHERE WHAT IT READS IS OF BULK AT MOST 1048576: true; the input reads as it did. -/
def eventDoesUptoRow : OpenClaim := { program := "ytlaolclepmbdjaa", sum := "f8d41540b46865b0261421cb76feba81b288bbc310c0ec040668e1b6cdabf7f5", func := "angelus/angeluslaw24.EventDoes", spec := "eventDoes", unfollowed := true, recurses := true, apart := false, narrowed := true }
def EventDoesUptoSaid : Prop := eventDoesUptoRow.holds Try.pinned (OpenSpec.upto eventDoesSpec)

end Rows
end Go.Proofs.Ytlaolclepmbdjaa
