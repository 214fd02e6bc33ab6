/-
  No cell of these rows narrows 'for every input' (looked for: loops, veiled, ifaces, maps, wideKeys, modest, calm, conditions, laid).
  DERIVED. THE GIVEN ROWS OF THIS SEAT. 6 by the template 'for every input the law returns true; each argument reads behind the call as it read before'; 0 by the template 'total and deterministic' (their statements: YtcidkcegfkhfmaaTotals.lean).
  GIVEN WITH THE SEED: the statements are not yours to turn. If you find one false, say at which input.
  Laid BY PROGRAM, IN A SANDBOX (cutbox-rows.mjs): the forced cells as the released guide's own fill.sh prints them over the translation e190facda3180ec3… (all of the seat's roots in one cut). By AI agents, Wed Nov 11 2026. No macro, syntax, notation, axiom, sorry.
-/
import Derived.Test.YtcidkcegfkhfmaaChecked
import GoSem.Claim
import GoSem.ClaimJoined
import GoSem.ClaimMapViews
import Derived.JoinedTies
import Derived.KernelRfl
namespace Go.Proofs.Ytcidkcegfkhfmaa
/- THE CELL 'sum', in the pinned program and in every row, IS THE sha256 OF THE DUMP (.gsa) THAT YtcidkcegfkhfmaaProg.lean LOADS. Nothing in Lean hashes anything: it is a label: what it is worth is what the hold of that sum in a sandbox is worth. -/
noncomputable def Try.pinned : Pinned := { name := "ytcidkcegfkhfmaa", sum := "e190facda3180ec34027a0b533fb96be85a3f627a6a77986511add9e13bf640a", checked := Try.checked }
namespace Rows
def none {H : Type} : Left H := { results := [], args := [] }

/-- 'angeluslaw02.WrapExtends': WHATEVER THE INPUT: true; the input reads as it did. -/
def wrapExtendsSpec : ChangeSpec := { name := "wrapExtends", fn := fun _ => fun
  | [d1, d2] => { results := [.lit (.bool true)], args := [d1, d2] }
  | _ => none }
def wrapExtendsRow : OpenClaim := { program := "ytcidkcegfkhfmaa", sum := "e190facda3180ec34027a0b533fb96be85a3f627a6a77986511add9e13bf640a", func := "angelus/angeluslaw02.WrapExtends", spec := "wrapExtends", apart := false }
def WrapExtendsSaid : Prop := wrapExtendsRow.holds Try.pinned (OpenSpec.ofChange wrapExtendsSpec)

/-- ITS FALSE NEIGHBOUR: 'it returns false'. Refute it at one input. -/
def wrapExtendsWrong : ChangeSpec := { name := "wrapExtends", fn := fun _ => fun
  | [d1, d2] => { results := [.lit (.bool false)], args := [d1, d2] }
  | _ => none }
def WrapExtendsWrongFalsely : Prop := wrapExtendsRow.holds Try.pinned (OpenSpec.ofChange wrapExtendsWrong)

/-- 'angeluslaw02.WrapReads': WHATEVER THE INPUT: true; the input reads as it did. -/
def wrapReadsSpec : ChangeSpec := { name := "wrapReads", fn := fun _ => fun
  | [d1, d2] => { results := [.lit (.bool true)], args := [d1, d2] }
  | _ => none }
def wrapReadsRow : OpenClaim := { program := "ytcidkcegfkhfmaa", sum := "e190facda3180ec34027a0b533fb96be85a3f627a6a77986511add9e13bf640a", func := "angelus/angeluslaw02.WrapReads", spec := "wrapReads", apart := false }
def WrapReadsSaid : Prop := wrapReadsRow.holds Try.pinned (OpenSpec.ofChange wrapReadsSpec)

/-- ITS FALSE NEIGHBOUR: 'it returns false'. Refute it at one input. -/
def wrapReadsWrong : ChangeSpec := { name := "wrapReads", fn := fun _ => fun
  | [d1, d2] => { results := [.lit (.bool false)], args := [d1, d2] }
  | _ => none }
def WrapReadsWrongFalsely : Prop := wrapReadsRow.holds Try.pinned (OpenSpec.ofChange wrapReadsWrong)

/-- 'angeluslaw02.WrapLong': WHATEVER THE INPUT: true; the input reads as it did. -/
def wrapLongSpec : ChangeSpec := { name := "wrapLong", fn := fun _ => fun
  | [d1, d2] => { results := [.lit (.bool true)], args := [d1, d2] }
  | _ => none }
def wrapLongRow : OpenClaim := { program := "ytcidkcegfkhfmaa", sum := "e190facda3180ec34027a0b533fb96be85a3f627a6a77986511add9e13bf640a", func := "angelus/angeluslaw02.WrapLong", spec := "wrapLong", apart := false }
def WrapLongSaid : Prop := wrapLongRow.holds Try.pinned (OpenSpec.ofChange wrapLongSpec)

/-- ITS FALSE NEIGHBOUR: 'it returns false'. Refute it at one input. -/
def wrapLongWrong : ChangeSpec := { name := "wrapLong", fn := fun _ => fun
  | [d1, d2] => { results := [.lit (.bool false)], args := [d1, d2] }
  | _ => none }
def WrapLongWrongFalsely : Prop := wrapLongRow.holds Try.pinned (OpenSpec.ofChange wrapLongWrong)

/-- 'angeluslaw02.WrapTurns': WHATEVER THE INPUT: true; the input reads as it did. -/
def wrapTurnsSpec : ChangeSpec := { name := "wrapTurns", fn := fun _ => fun
  | [d1, d2, d3] => { results := [.lit (.bool true)], args := [d1, d2, d3] }
  | _ => none }
def wrapTurnsRow : OpenClaim := { program := "ytcidkcegfkhfmaa", sum := "e190facda3180ec34027a0b533fb96be85a3f627a6a77986511add9e13bf640a", func := "angelus/angeluslaw02.WrapTurns", spec := "wrapTurns", apart := false }
def WrapTurnsSaid : Prop := wrapTurnsRow.holds Try.pinned (OpenSpec.ofChange wrapTurnsSpec)

/-- ITS FALSE NEIGHBOUR: 'it returns false'. Refute it at one input. -/
def wrapTurnsWrong : ChangeSpec := { name := "wrapTurns", fn := fun _ => fun
  | [d1, d2, d3] => { results := [.lit (.bool false)], args := [d1, d2, d3] }
  | _ => none }
def WrapTurnsWrongFalsely : Prop := wrapTurnsRow.holds Try.pinned (OpenSpec.ofChange wrapTurnsWrong)

/-- 'angeluslaw02.WrapAnswers': WHATEVER THE INPUT: true; the input reads as it did. -/
def wrapAnswersSpec : ChangeSpec := { name := "wrapAnswers", fn := fun _ => fun
  | [d1, d2, d3, d4] => { results := [.lit (.bool true)], args := [d1, d2, d3, d4] }
  | _ => none }
def wrapAnswersRow : OpenClaim := { program := "ytcidkcegfkhfmaa", sum := "e190facda3180ec34027a0b533fb96be85a3f627a6a77986511add9e13bf640a", func := "angelus/angeluslaw02.WrapAnswers", spec := "wrapAnswers", apart := false }
def WrapAnswersSaid : Prop := wrapAnswersRow.holds Try.pinned (OpenSpec.ofChange wrapAnswersSpec)

/-- ITS FALSE NEIGHBOUR: 'it returns false'. Refute it at one input. -/
def wrapAnswersWrong : ChangeSpec := { name := "wrapAnswers", fn := fun _ => fun
  | [d1, d2, d3, d4] => { results := [.lit (.bool false)], args := [d1, d2, d3, d4] }
  | _ => none }
def WrapAnswersWrongFalsely : Prop := wrapAnswersRow.holds Try.pinned (OpenSpec.ofChange wrapAnswersWrong)

/-- 'angeluslaw02.WrapOrder': WHATEVER THE INPUT: true; the input reads as it did. -/
def wrapOrderSpec : ChangeSpec := { name := "wrapOrder", fn := fun _ => fun
  | [d1, d2] => { results := [.lit (.bool true)], args := [d1, d2] }
  | _ => none }
def wrapOrderRow : OpenClaim := { program := "ytcidkcegfkhfmaa", sum := "e190facda3180ec34027a0b533fb96be85a3f627a6a77986511add9e13bf640a", func := "angelus/angeluslaw02.WrapOrder", spec := "wrapOrder", apart := false }
def WrapOrderSaid : Prop := wrapOrderRow.holds Try.pinned (OpenSpec.ofChange wrapOrderSpec)

/-- ITS FALSE NEIGHBOUR: 'it returns false'. Refute it at one input. -/
def wrapOrderWrong : ChangeSpec := { name := "wrapOrder", fn := fun _ => fun
  | [d1, d2] => { results := [.lit (.bool false)], args := [d1, d2] }
  | _ => none }
def WrapOrderWrongFalsely : Prop := wrapOrderRow.holds Try.pinned (OpenSpec.ofChange wrapOrderWrong)

/- THE SECOND FORM. 'bulk': how many values and letters a reading holds, each counted each time it is reached (what is shared counts as often as it is met; a slice's spare places count too). A statement '..UptoSaid' is the law's where the arguments, and the package variables that the reading takes, are together of bulk at most 1048576: NARROWER than '..Said'. Prove '..Said' where nothing that the law and all that it calls make is longer than what came in: it says more and counts as full. Else prove '..UptoSaid'. A law counts once. -/
mutual
def uptoBulk {H : Type} : DataW H → Nat
  | .lit (.string bytes) => bytes.length + 1
  | .lit _ => 1
  | .nil => 1
  | .ptr d => uptoBulk d + 1
  | .slice elems spare => uptoBulkAll elems + uptoBulkAll spare + 1
  | .agg parts => uptoBulkAll parts + 1
  | .iface _ d => uptoBulk d + 1
  | .map entries => uptoBulkEntries entries + 1
  | .held _ => 1
def uptoBulkAll {H : Type} : List (DataW H) → Nat
  | [] => 0
  | d :: r => uptoBulk d + uptoBulkAll r
def uptoBulkEntries {H : Type} : List (Lit × DataW H) → Nat
  | [] => 0
  | x :: r => uptoBulkEntry x + uptoBulkEntries r
def uptoBulkEntry {H : Type} : Lit × DataW H → Nat
  | (.string bytes, d) => bytes.length + uptoBulk d + 1
  | (_, d) => uptoBulk d + 1
 end
def uptoSmall : (H : Type) → List (DataW H) → Bool := fun _ ds => decide (uptoBulkAll ds ≤ 1048576)
def OpenSpec.upto (s : _root_.Go.ChangeSpec) : _root_.Go.OpenSpec := { _root_.Go.OpenSpec.ofChange s with cond := some uptoSmall }

/-- 'angeluslaw02.WrapExtends', WHERE WHAT IT READS IS OF BULK AT MOST 1048576: true; the input reads as it did. -/
def wrapExtendsUptoRow : OpenClaim := { program := "ytcidkcegfkhfmaa", sum := "e190facda3180ec34027a0b533fb96be85a3f627a6a77986511add9e13bf640a", func := "angelus/angeluslaw02.WrapExtends", spec := "wrapExtends", apart := false, narrowed := true }
def WrapExtendsUptoSaid : Prop := wrapExtendsUptoRow.holds Try.pinned (OpenSpec.upto wrapExtendsSpec)

/-- 'angeluslaw02.WrapReads', WHERE WHAT IT READS IS OF BULK AT MOST 1048576: true; the input reads as it did. -/
def wrapReadsUptoRow : OpenClaim := { program := "ytcidkcegfkhfmaa", sum := "e190facda3180ec34027a0b533fb96be85a3f627a6a77986511add9e13bf640a", func := "angelus/angeluslaw02.WrapReads", spec := "wrapReads", apart := false, narrowed := true }
def WrapReadsUptoSaid : Prop := wrapReadsUptoRow.holds Try.pinned (OpenSpec.upto wrapReadsSpec)

/-- 'angeluslaw02.WrapLong', WHERE WHAT IT READS IS OF BULK AT MOST 1048576: true; the input reads as it did. -/
def wrapLongUptoRow : OpenClaim := { program := "ytcidkcegfkhfmaa", sum := "e190facda3180ec34027a0b533fb96be85a3f627a6a77986511add9e13bf640a", func := "angelus/angeluslaw02.WrapLong", spec := "wrapLong", apart := false, narrowed := true }
def WrapLongUptoSaid : Prop := wrapLongUptoRow.holds Try.pinned (OpenSpec.upto wrapLongSpec)

/-- 'angeluslaw02.WrapTurns', WHERE WHAT IT READS IS OF BULK AT MOST 1048576: true; the input reads as it did. -/
def wrapTurnsUptoRow : OpenClaim := { program := "ytcidkcegfkhfmaa", sum := "e190facda3180ec34027a0b533fb96be85a3f627a6a77986511add9e13bf640a", func := "angelus/angeluslaw02.WrapTurns", spec := "wrapTurns", apart := false, narrowed := true }
def WrapTurnsUptoSaid : Prop := wrapTurnsUptoRow.holds Try.pinned (OpenSpec.upto wrapTurnsSpec)

/-- 'angeluslaw02.WrapAnswers', WHERE WHAT IT READS IS OF BULK AT MOST 1048576: true; the input reads as it did. -/
def wrapAnswersUptoRow : OpenClaim := { program := "ytcidkcegfkhfmaa", sum := "e190facda3180ec34027a0b533fb96be85a3f627a6a77986511add9e13bf640a", func := "angelus/angeluslaw02.WrapAnswers", spec := "wrapAnswers", apart := false, narrowed := true }
def WrapAnswersUptoSaid : Prop := wrapAnswersUptoRow.holds Try.pinned (OpenSpec.upto wrapAnswersSpec)

/-- 'angeluslaw02.WrapOrder', WHERE WHAT IT READS IS OF BULK AT MOST 1048576: true; the input reads as it did. -/
def wrapOrderUptoRow : OpenClaim := { program := "ytcidkcegfkhfmaa", sum := "e190facda3180ec34027a0b533fb96be85a3f627a6a77986511add9e13bf640a", func := "angelus/angeluslaw02.WrapOrder", spec := "wrapOrder", apart := false, narrowed := true }
def WrapOrderUptoSaid : Prop := wrapOrderUptoRow.holds Try.pinned (OpenSpec.upto wrapOrderSpec)

end Rows
end Go.Proofs.Ytcidkcegfkhfmaa
