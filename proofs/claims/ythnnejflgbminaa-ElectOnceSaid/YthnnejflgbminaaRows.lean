/-
  No cell of these rows narrows 'for every input' (looked for: loops, veiled, ifaces, maps, wideKeys, modest, calm, conditions, laid).
  DERIVED. THE GIVEN ROWS OF THIS SEAT. 5 by the template 'for every input the law returns true; each argument reads behind the call as it read before'; 0 by the template 'total and deterministic' (their statements: YthnnejflgbminaaTotals.lean).
  GIVEN WITH THE SEED: the statements are not yours to turn. If you find one false, say at which input.
  Laid BY PROGRAM, IN A SANDBOX (cutbox-rows.mjs): the forced cells as the released guide's own fill.sh prints them over the translation 33bb6acef69c3997… (all of the seat's roots in one cut). By AI agents, Wed Nov 11 2026. No macro, syntax, notation, axiom, sorry.
-/
import Derived.Test.YthnnejflgbminaaChecked
import GoSem.Claim
import GoSem.ClaimJoined
import GoSem.ClaimMapViews
import Derived.JoinedTies
import Derived.KernelRfl
namespace Go.Proofs.Ythnnejflgbminaa
/- THE CELL 'sum', in the pinned program and in every row, IS THE sha256 OF THE DUMP (.gsa) THAT YthnnejflgbminaaProg.lean LOADS. Nothing in Lean hashes anything: it is a label: what it is worth is what the hold of that sum in a sandbox is worth. -/
noncomputable def Try.pinned : Pinned := { name := "ythnnejflgbminaa", sum := "33bb6acef69c3997d925d2a09ca324f161640e705de942f50f1b333be571d8b5", checked := Try.checked }
namespace Rows
def none {H : Type} : Left H := { results := [], args := [] }

/-- 'angeluslaw15.ElectOnce': WHATEVER THE INPUT: true; the input reads as it did. -/
def electOnceSpec : ChangeSpec := { name := "electOnce", fn := fun _ => fun
  | [d1, d2, d3] => { results := [.lit (.bool true)], args := [d1, d2, d3] }
  | _ => none }
def electOnceRow : OpenClaim := { program := "ythnnejflgbminaa", sum := "33bb6acef69c3997d925d2a09ca324f161640e705de942f50f1b333be571d8b5", func := "angelus/angeluslaw15.ElectOnce", spec := "electOnce", apart := false }
def ElectOnceSaid : Prop := electOnceRow.holds Try.pinned (OpenSpec.ofChange electOnceSpec)

/-- ITS FALSE NEIGHBOUR: 'it returns false'. Refute it at one input. -/
def electOnceWrong : ChangeSpec := { name := "electOnce", fn := fun _ => fun
  | [d1, d2, d3] => { results := [.lit (.bool false)], args := [d1, d2, d3] }
  | _ => none }
def ElectOnceWrongFalsely : Prop := electOnceRow.holds Try.pinned (OpenSpec.ofChange electOnceWrong)

/-- 'angeluslaw15.ElectWaits': WHATEVER THE INPUT: true; the input reads as it did. -/
def electWaitsSpec : ChangeSpec := { name := "electWaits", fn := fun _ => fun
  | [d1, d2, d3, d4] => { results := [.lit (.bool true)], args := [d1, d2, d3, d4] }
  | _ => none }
def electWaitsRow : OpenClaim := { program := "ythnnejflgbminaa", sum := "33bb6acef69c3997d925d2a09ca324f161640e705de942f50f1b333be571d8b5", func := "angelus/angeluslaw15.ElectWaits", spec := "electWaits", apart := false }
def ElectWaitsSaid : Prop := electWaitsRow.holds Try.pinned (OpenSpec.ofChange electWaitsSpec)

/-- ITS FALSE NEIGHBOUR: 'it returns false'. Refute it at one input. -/
def electWaitsWrong : ChangeSpec := { name := "electWaits", fn := fun _ => fun
  | [d1, d2, d3, d4] => { results := [.lit (.bool false)], args := [d1, d2, d3, d4] }
  | _ => none }
def ElectWaitsWrongFalsely : Prop := electWaitsRow.holds Try.pinned (OpenSpec.ofChange electWaitsWrong)

/-- 'angeluslaw15.ElectRises': WHATEVER THE INPUT: true; the input reads as it did. -/
def electRisesSpec : ChangeSpec := { name := "electRises", fn := fun _ => fun
  | [d1, d2, d3] => { results := [.lit (.bool true)], args := [d1, d2, d3] }
  | _ => none }
def electRisesRow : OpenClaim := { program := "ythnnejflgbminaa", sum := "33bb6acef69c3997d925d2a09ca324f161640e705de942f50f1b333be571d8b5", func := "angelus/angeluslaw15.ElectRises", spec := "electRises", apart := false }
def ElectRisesSaid : Prop := electRisesRow.holds Try.pinned (OpenSpec.ofChange electRisesSpec)

/-- ITS FALSE NEIGHBOUR: 'it returns false'. Refute it at one input. -/
def electRisesWrong : ChangeSpec := { name := "electRises", fn := fun _ => fun
  | [d1, d2, d3] => { results := [.lit (.bool false)], args := [d1, d2, d3] }
  | _ => none }
def ElectRisesWrongFalsely : Prop := electRisesRow.holds Try.pinned (OpenSpec.ofChange electRisesWrong)

/-- 'angeluslaw15.ElectDoes': WHATEVER THE INPUT: true; the input reads as it did. -/
def electDoesSpec : ChangeSpec := { name := "electDoes", fn := fun _ => fun
  | [d1, d2, d3] => { results := [.lit (.bool true)], args := [d1, d2, d3] }
  | _ => none }
def electDoesRow : OpenClaim := { program := "ythnnejflgbminaa", sum := "33bb6acef69c3997d925d2a09ca324f161640e705de942f50f1b333be571d8b5", func := "angelus/angeluslaw15.ElectDoes", spec := "electDoes", apart := false }
def ElectDoesSaid : Prop := electDoesRow.holds Try.pinned (OpenSpec.ofChange electDoesSpec)

/-- ITS FALSE NEIGHBOUR: 'it returns false'. Refute it at one input. -/
def electDoesWrong : ChangeSpec := { name := "electDoes", fn := fun _ => fun
  | [d1, d2, d3] => { results := [.lit (.bool false)], args := [d1, d2, d3] }
  | _ => none }
def ElectDoesWrongFalsely : Prop := electDoesRow.holds Try.pinned (OpenSpec.ofChange electDoesWrong)

/-- 'angeluslaw15.ElectDeaf': WHATEVER THE INPUT: true; the input reads as it did. -/
def electDeafSpec : ChangeSpec := { name := "electDeaf", fn := fun _ => fun
  | [d1, d2, d3] => { results := [.lit (.bool true)], args := [d1, d2, d3] }
  | _ => none }
def electDeafRow : OpenClaim := { program := "ythnnejflgbminaa", sum := "33bb6acef69c3997d925d2a09ca324f161640e705de942f50f1b333be571d8b5", func := "angelus/angeluslaw15.ElectDeaf", spec := "electDeaf", apart := false }
def ElectDeafSaid : Prop := electDeafRow.holds Try.pinned (OpenSpec.ofChange electDeafSpec)

/-- ITS FALSE NEIGHBOUR: 'it returns false'. Refute it at one input. -/
def electDeafWrong : ChangeSpec := { name := "electDeaf", fn := fun _ => fun
  | [d1, d2, d3] => { results := [.lit (.bool false)], args := [d1, d2, d3] }
  | _ => none }
def ElectDeafWrongFalsely : Prop := electDeafRow.holds Try.pinned (OpenSpec.ofChange electDeafWrong)

/- THE SECOND FORM. 'bulk': how many values and letters a reading holds, each counted each time it is reached (what is shared counts as often as it is met; a slice's spare places count too). A statement '..UptoSaid' is the law's where the arguments, and the package variables that the reading takes, are together of bulk at most 1048576: NARROWER than '..Said'. Prove '..Said' where nothing that the law and all that it calls make is longer than what came in: it says more and counts as full. Else prove '..UptoSaid'. A law counts once. -/
mutual
def uptoBulk {H : Type} : DataW H → Nat
  | .lit (.string bytes) => bytes.length + 1
  | .lit _ => 1
  | .nil => 1
  | .ptr d => uptoBulk d + 1
  | .slice elems spare => uptoBulkAll elems + uptoBulkAll spare + 1
  | .agg parts => uptoBulkAll parts + 1
  | .iface _ d => uptoBulk d + 1
  | .map entries => uptoBulkEntries entries + 1
  | .held _ => 1
def uptoBulkAll {H : Type} : List (DataW H) → Nat
  | [] => 0
  | d :: r => uptoBulk d + uptoBulkAll r
def uptoBulkEntries {H : Type} : List (Lit × DataW H) → Nat
  | [] => 0
  | x :: r => uptoBulkEntry x + uptoBulkEntries r
def uptoBulkEntry {H : Type} : Lit × DataW H → Nat
  | (.string bytes, d) => bytes.length + uptoBulk d + 1
  | (_, d) => uptoBulk d + 1
 end
def uptoSmall : (H : Type) → List (DataW H) → Bool := fun _ ds => decide (uptoBulkAll ds ≤ 1048576)
def OpenSpec.upto (s : _root_.Go.ChangeSpec) : _root_.Go.OpenSpec := { _root_.Go.OpenSpec.ofChange s with cond := some uptoSmall }

/-- 'angeluslaw15.ElectOnce', WHERE WHAT IT READS IS OF BULK AT MOST 1048576: true; the input reads as it did. -/
def electOnceUptoRow : OpenClaim := { program := "ythnnejflgbminaa", sum := "33bb6acef69c3997d925d2a09ca324f161640e705de942f50f1b333be571d8b5", func := "angelus/angeluslaw15.ElectOnce", spec := "electOnce", apart := false, narrowed := true }
def ElectOnceUptoSaid : Prop := electOnceUptoRow.holds Try.pinned (OpenSpec.upto electOnceSpec)

/-- 'angeluslaw15.ElectWaits', WHERE WHAT IT READS IS OF BULK AT MOST 1048576: true; the input reads as it did. -/
def electWaitsUptoRow : OpenClaim := { program := "ythnnejflgbminaa", sum := "33bb6acef69c3997d925d2a09ca324f161640e705de942f50f1b333be571d8b5", func := "angelus/angeluslaw15.ElectWaits", spec := "electWaits", apart := false, narrowed := true }
def ElectWaitsUptoSaid : Prop := electWaitsUptoRow.holds Try.pinned (OpenSpec.upto electWaitsSpec)

/-- 'angeluslaw15.ElectRises', WHERE WHAT IT READS IS OF BULK AT MOST 1048576: true; the input reads as it did. -/
def electRisesUptoRow : OpenClaim := { program := "ythnnejflgbminaa", sum := "33bb6acef69c3997d925d2a09ca324f161640e705de942f50f1b333be571d8b5", func := "angelus/angeluslaw15.ElectRises", spec := "electRises", apart := false, narrowed := true }
def ElectRisesUptoSaid : Prop := electRisesUptoRow.holds Try.pinned (OpenSpec.upto electRisesSpec)

/-- 'angeluslaw15.ElectDoes', WHERE WHAT IT READS IS OF BULK AT MOST 1048576: true; the input reads as it did. -/
def electDoesUptoRow : OpenClaim := { program := "ythnnejflgbminaa", sum := "33bb6acef69c3997d925d2a09ca324f161640e705de942f50f1b333be571d8b5", func := "angelus/angeluslaw15.ElectDoes", spec := "electDoes", apart := false, narrowed := true }
def ElectDoesUptoSaid : Prop := electDoesUptoRow.holds Try.pinned (OpenSpec.upto electDoesSpec)

/-- 'angeluslaw15.ElectDeaf', WHERE WHAT IT READS IS OF BULK AT MOST 1048576: true; the input reads as it did. -/
def electDeafUptoRow : OpenClaim := { program := "ythnnejflgbminaa", sum := "33bb6acef69c3997d925d2a09ca324f161640e705de942f50f1b333be571d8b5", func := "angelus/angeluslaw15.ElectDeaf", spec := "electDeaf", apart := false, narrowed := true }
def ElectDeafUptoSaid : Prop := electDeafUptoRow.holds Try.pinned (OpenSpec.upto electDeafSpec)

end Rows
end Go.Proofs.Ythnnejflgbminaa
