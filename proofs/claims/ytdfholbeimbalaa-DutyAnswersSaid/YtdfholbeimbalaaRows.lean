/-
  No cell of these rows narrows 'for every input' (looked for: loops, veiled, ifaces, maps, wideKeys, modest, calm, conditions, laid).
  DERIVED. THE GIVEN ROWS OF THIS SEAT. 4 by the template 'for every input the law returns true; each argument reads behind the call as it read before'; 0 by the template 'total and deterministic' (their statements: YtdfholbeimbalaaTotals.lean).
  GIVEN WITH THE SEED: the statements are not yours to turn. If you find one false, say at which input.
  Laid BY PROGRAM, IN A SANDBOX (cutbox-rows.mjs): the forced cells as the released guide's own fill.sh prints them over the translation 7aebfdfb0174c542… (all of the seat's roots in one cut). By AI agents, Wed Nov 11 2026. No macro, syntax, notation, axiom, sorry.
-/
import Derived.Test.YtdfholbeimbalaaChecked
import GoSem.Claim
import GoSem.ClaimJoined
import GoSem.ClaimMapViews
import Derived.JoinedTies
import Derived.KernelRfl
namespace Go.Proofs.Ytdfholbeimbalaa
/- THE CELL 'sum', in the pinned program and in every row, IS THE sha256 OF THE DUMP (.gsa) THAT YtdfholbeimbalaaProg.lean LOADS. Nothing in Lean hashes anything: it is a label: what it is worth is what the hold of that sum in a sandbox is worth. -/
noncomputable def Try.pinned : Pinned := { name := "ytdfholbeimbalaa", sum := "7aebfdfb0174c5421aa52d0c76b56bb1dd860e2d5bcd110cbe1872d32c6b92e8", checked := Try.checked }
namespace Rows
def none {H : Type} : Left H := { results := [], args := [] }

/-- 'angeluslaw11.DutyGuards': WHATEVER THE INPUT: true; the input reads as it did. -/
def dutyGuardsSpec : ChangeSpec := { name := "dutyGuards", fn := fun _ => fun
  | [d1, d2, d3, d4, d5] => { results := [.lit (.bool true)], args := [d1, d2, d3, d4, d5] }
  | _ => none }
def dutyGuardsRow : OpenClaim := { program := "ytdfholbeimbalaa", sum := "7aebfdfb0174c5421aa52d0c76b56bb1dd860e2d5bcd110cbe1872d32c6b92e8", func := "angelus/angeluslaw11.DutyGuards", spec := "dutyGuards", apart := false }
def DutyGuardsSaid : Prop := dutyGuardsRow.holds Try.pinned (OpenSpec.ofChange dutyGuardsSpec)

/-- ITS FALSE NEIGHBOUR: 'it returns false'. Refute it at one input. -/
def dutyGuardsWrong : ChangeSpec := { name := "dutyGuards", fn := fun _ => fun
  | [d1, d2, d3, d4, d5] => { results := [.lit (.bool false)], args := [d1, d2, d3, d4, d5] }
  | _ => none }
def DutyGuardsWrongFalsely : Prop := dutyGuardsRow.holds Try.pinned (OpenSpec.ofChange dutyGuardsWrong)

/-- 'angeluslaw11.DutyAnswers': WHATEVER THE INPUT: true; the input reads as it did. -/
def dutyAnswersSpec : ChangeSpec := { name := "dutyAnswers", fn := fun _ => fun
  | [d1, d2, d3, d4] => { results := [.lit (.bool true)], args := [d1, d2, d3, d4] }
  | _ => none }
def dutyAnswersRow : OpenClaim := { program := "ytdfholbeimbalaa", sum := "7aebfdfb0174c5421aa52d0c76b56bb1dd860e2d5bcd110cbe1872d32c6b92e8", func := "angelus/angeluslaw11.DutyAnswers", spec := "dutyAnswers", apart := false }
def DutyAnswersSaid : Prop := dutyAnswersRow.holds Try.pinned (OpenSpec.ofChange dutyAnswersSpec)

/-- ITS FALSE NEIGHBOUR: 'it returns false'. Refute it at one input. -/
def dutyAnswersWrong : ChangeSpec := { name := "dutyAnswers", fn := fun _ => fun
  | [d1, d2, d3, d4] => { results := [.lit (.bool false)], args := [d1, d2, d3, d4] }
  | _ => none }
def DutyAnswersWrongFalsely : Prop := dutyAnswersRow.holds Try.pinned (OpenSpec.ofChange dutyAnswersWrong)

/-- 'angeluslaw11.DutyWakes': WHATEVER THE INPUT: true; the input reads as it did. -/
def dutyWakesSpec : ChangeSpec := { name := "dutyWakes", fn := fun _ => fun
  | [d1, d2, d3] => { results := [.lit (.bool true)], args := [d1, d2, d3] }
  | _ => none }
def dutyWakesRow : OpenClaim := { program := "ytdfholbeimbalaa", sum := "7aebfdfb0174c5421aa52d0c76b56bb1dd860e2d5bcd110cbe1872d32c6b92e8", func := "angelus/angeluslaw11.DutyWakes", spec := "dutyWakes", apart := false }
def DutyWakesSaid : Prop := dutyWakesRow.holds Try.pinned (OpenSpec.ofChange dutyWakesSpec)

/-- ITS FALSE NEIGHBOUR: 'it returns false'. Refute it at one input. -/
def dutyWakesWrong : ChangeSpec := { name := "dutyWakes", fn := fun _ => fun
  | [d1, d2, d3] => { results := [.lit (.bool false)], args := [d1, d2, d3] }
  | _ => none }
def DutyWakesWrongFalsely : Prop := dutyWakesRow.holds Try.pinned (OpenSpec.ofChange dutyWakesWrong)

/-- 'angeluslaw11.DutyRounds': WHATEVER THE INPUT: true; the input reads as it did. -/
def dutyRoundsSpec : ChangeSpec := { name := "dutyRounds", fn := fun _ => fun
  | [d1, d2, d3, d4, d5] => { results := [.lit (.bool true)], args := [d1, d2, d3, d4, d5] }
  | _ => none }
def dutyRoundsRow : OpenClaim := { program := "ytdfholbeimbalaa", sum := "7aebfdfb0174c5421aa52d0c76b56bb1dd860e2d5bcd110cbe1872d32c6b92e8", func := "angelus/angeluslaw11.DutyRounds", spec := "dutyRounds", apart := false }
def DutyRoundsSaid : Prop := dutyRoundsRow.holds Try.pinned (OpenSpec.ofChange dutyRoundsSpec)

/-- ITS FALSE NEIGHBOUR: 'it returns false'. Refute it at one input. -/
def dutyRoundsWrong : ChangeSpec := { name := "dutyRounds", fn := fun _ => fun
  | [d1, d2, d3, d4, d5] => { results := [.lit (.bool false)], args := [d1, d2, d3, d4, d5] }
  | _ => none }
def DutyRoundsWrongFalsely : Prop := dutyRoundsRow.holds Try.pinned (OpenSpec.ofChange dutyRoundsWrong)

/- THE SECOND FORM. 'bulk': how many values and letters a reading holds, each counted each time it is reached (what is shared counts as often as it is met; a slice's spare places count too). A statement '..UptoSaid' is the law's where the arguments, and the package variables that the reading takes, are together of bulk at most 1048576: NARROWER than '..Said'. Prove '..Said' where nothing that the law and all that it calls make is longer than what came in: it says more and counts as full. Else prove '..UptoSaid'. A law counts once. -/
mutual
def uptoBulk {H : Type} : DataW H → Nat
  | .lit (.string bytes) => bytes.length + 1
  | .lit _ => 1
  | .nil => 1
  | .ptr d => uptoBulk d + 1
  | .slice elems spare => uptoBulkAll elems + uptoBulkAll spare + 1
  | .agg parts => uptoBulkAll parts + 1
  | .iface _ d => uptoBulk d + 1
  | .map entries => uptoBulkEntries entries + 1
  | .held _ => 1
def uptoBulkAll {H : Type} : List (DataW H) → Nat
  | [] => 0
  | d :: r => uptoBulk d + uptoBulkAll r
def uptoBulkEntries {H : Type} : List (Lit × DataW H) → Nat
  | [] => 0
  | x :: r => uptoBulkEntry x + uptoBulkEntries r
def uptoBulkEntry {H : Type} : Lit × DataW H → Nat
  | (.string bytes, d) => bytes.length + uptoBulk d + 1
  | (_, d) => uptoBulk d + 1
 end
def uptoSmall : (H : Type) → List (DataW H) → Bool := fun _ ds => decide (uptoBulkAll ds ≤ 1048576)
def OpenSpec.upto (s : _root_.Go.ChangeSpec) : _root_.Go.OpenSpec := { _root_.Go.OpenSpec.ofChange s with cond := some uptoSmall }

/-- 'angeluslaw11.DutyGuards', WHERE WHAT IT READS IS OF BULK AT MOST 1048576: true; the input reads as it did. -/
def dutyGuardsUptoRow : OpenClaim := { program := "ytdfholbeimbalaa", sum := "7aebfdfb0174c5421aa52d0c76b56bb1dd860e2d5bcd110cbe1872d32c6b92e8", func := "angelus/angeluslaw11.DutyGuards", spec := "dutyGuards", apart := false, narrowed := true }
def DutyGuardsUptoSaid : Prop := dutyGuardsUptoRow.holds Try.pinned (OpenSpec.upto dutyGuardsSpec)

/-- 'angeluslaw11.DutyAnswers', WHERE WHAT IT READS IS OF BULK AT MOST 1048576: true; the input reads as it did. -/
def dutyAnswersUptoRow : OpenClaim := { program := "ytdfholbeimbalaa", sum := "7aebfdfb0174c5421aa52d0c76b56bb1dd860e2d5bcd110cbe1872d32c6b92e8", func := "angelus/angeluslaw11.DutyAnswers", spec := "dutyAnswers", apart := false, narrowed := true }
def DutyAnswersUptoSaid : Prop := dutyAnswersUptoRow.holds Try.pinned (OpenSpec.upto dutyAnswersSpec)

/-- 'angeluslaw11.DutyWakes', WHERE WHAT IT READS IS OF BULK AT MOST 1048576: true; the input reads as it did. -/
def dutyWakesUptoRow : OpenClaim := { program := "ytdfholbeimbalaa", sum := "7aebfdfb0174c5421aa52d0c76b56bb1dd860e2d5bcd110cbe1872d32c6b92e8", func := "angelus/angeluslaw11.DutyWakes", spec := "dutyWakes", apart := false, narrowed := true }
def DutyWakesUptoSaid : Prop := dutyWakesUptoRow.holds Try.pinned (OpenSpec.upto dutyWakesSpec)

/-- 'angeluslaw11.DutyRounds', WHERE WHAT IT READS IS OF BULK AT MOST 1048576: true; the input reads as it did. -/
def dutyRoundsUptoRow : OpenClaim := { program := "ytdfholbeimbalaa", sum := "7aebfdfb0174c5421aa52d0c76b56bb1dd860e2d5bcd110cbe1872d32c6b92e8", func := "angelus/angeluslaw11.DutyRounds", spec := "dutyRounds", apart := false, narrowed := true }
def DutyRoundsUptoSaid : Prop := dutyRoundsUptoRow.holds Try.pinned (OpenSpec.upto dutyRoundsSpec)

end Rows
end Go.Proofs.Ytdfholbeimbalaa
