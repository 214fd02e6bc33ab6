/-
  No cell of these rows narrows 'for every input' (looked for: loops, veiled, ifaces, maps, wideKeys, modest, calm, conditions, laid).
  DERIVED. THE GIVEN ROWS OF THIS SEAT. 4 by the template 'for every input the law returns true; each argument reads behind the call as it read before'; 0 by the template 'total and deterministic' (their statements: YtmheabnpkbhadaaTotals.lean).
  GIVEN WITH THE SEED: the statements are not yours to turn. If you find one false, say at which input.
  Laid BY PROGRAM, IN A SANDBOX (cutbox-rows.mjs): the forced cells as the released guide's own fill.sh prints them over the translation 63e798ccfd99310b… (all of the seat's roots in one cut). By AI agents, Wed Nov 11 2026. No macro, syntax, notation, axiom, sorry.
-/
import Derived.Test.YtmheabnpkbhadaaChecked
import GoSem.Claim
import GoSem.ClaimJoined
import GoSem.ClaimMapViews
import Derived.JoinedTies
import Derived.KernelRfl
namespace Go.Proofs.Ytmheabnpkbhadaa
/- THE CELL 'sum', in the pinned program and in every row, IS THE sha256 OF THE DUMP (.gsa) THAT YtmheabnpkbhadaaProg.lean LOADS. Nothing in Lean hashes anything: it is a label: what it is worth is what the hold of that sum in a sandbox is worth. -/
noncomputable def Try.pinned : Pinned := { name := "ytmheabnpkbhadaa", sum := "63e798ccfd99310b3a44207702b621795e12667ac25ed190d67605f12be5f1b5", checked := Try.checked }
namespace Rows
def none {H : Type} : Left H := { results := [], args := [] }

/-- 'angeluslaw07.TimerOnce': WHATEVER THE INPUT: true; the input reads as it did. -/
def timerOnceSpec : ChangeSpec := { name := "timerOnce", fn := fun _ => fun
  | [d1, d2] => { results := [.lit (.bool true)], args := [d1, d2] }
  | _ => none }
def timerOnceRow : OpenClaim := { program := "ytmheabnpkbhadaa", sum := "63e798ccfd99310b3a44207702b621795e12667ac25ed190d67605f12be5f1b5", func := "angelus/angeluslaw07.TimerOnce", spec := "timerOnce", inPlace := ["slices.overlaps[angelus/timer.one]"], unfollowed := true, recurses := true, apart := false }
def TimerOnceSaid : Prop := timerOnceRow.holds Try.pinned (OpenSpec.ofChange timerOnceSpec)

/-- ITS FALSE NEIGHBOUR: 'it returns false'. Refute it at one input. -/
def timerOnceWrong : ChangeSpec := { name := "timerOnce", fn := fun _ => fun
  | [d1, d2] => { results := [.lit (.bool false)], args := [d1, d2] }
  | _ => none }
def TimerOnceWrongFalsely : Prop := timerOnceRow.holds Try.pinned (OpenSpec.ofChange timerOnceWrong)

/-- 'angeluslaw07.TimerSplits': WHATEVER THE INPUT: true; the input reads as it did. -/
def timerSplitsSpec : ChangeSpec := { name := "timerSplits", fn := fun _ => fun
  | [d1, d2, d3] => { results := [.lit (.bool true)], args := [d1, d2, d3] }
  | _ => none }
def timerSplitsRow : OpenClaim := { program := "ytmheabnpkbhadaa", sum := "63e798ccfd99310b3a44207702b621795e12667ac25ed190d67605f12be5f1b5", func := "angelus/angeluslaw07.TimerSplits", spec := "timerSplits", inPlace := ["slices.overlaps[angelus/timer.one]"], unfollowed := true, recurses := true, apart := false }
def TimerSplitsSaid : Prop := timerSplitsRow.holds Try.pinned (OpenSpec.ofChange timerSplitsSpec)

/-- ITS FALSE NEIGHBOUR: 'it returns false'. Refute it at one input. -/
def timerSplitsWrong : ChangeSpec := { name := "timerSplits", fn := fun _ => fun
  | [d1, d2, d3] => { results := [.lit (.bool false)], args := [d1, d2, d3] }
  | _ => none }
def TimerSplitsWrongFalsely : Prop := timerSplitsRow.holds Try.pinned (OpenSpec.ofChange timerSplitsWrong)

/-- 'angeluslaw07.TimerMoves': WHATEVER THE INPUT: true; the input reads as it did. -/
def timerMovesSpec : ChangeSpec := { name := "timerMoves", fn := fun _ => fun
  | [d1, d2, d3] => { results := [.lit (.bool true)], args := [d1, d2, d3] }
  | _ => none }
def timerMovesRow : OpenClaim := { program := "ytmheabnpkbhadaa", sum := "63e798ccfd99310b3a44207702b621795e12667ac25ed190d67605f12be5f1b5", func := "angelus/angeluslaw07.TimerMoves", spec := "timerMoves", inPlace := ["slices.overlaps[angelus/timer.one]"], unfollowed := true, recurses := true, apart := false }
def TimerMovesSaid : Prop := timerMovesRow.holds Try.pinned (OpenSpec.ofChange timerMovesSpec)

/-- ITS FALSE NEIGHBOUR: 'it returns false'. Refute it at one input. -/
def timerMovesWrong : ChangeSpec := { name := "timerMoves", fn := fun _ => fun
  | [d1, d2, d3] => { results := [.lit (.bool false)], args := [d1, d2, d3] }
  | _ => none }
def TimerMovesWrongFalsely : Prop := timerMovesRow.holds Try.pinned (OpenSpec.ofChange timerMovesWrong)

/-- 'angeluslaw07.TimerDoes': WHATEVER THE INPUT: true; the input reads as it did. -/
def timerDoesSpec : ChangeSpec := { name := "timerDoes", fn := fun _ => fun
  | [d] => { results := [.lit (.bool true)], args := [d] }
  | _ => none }
def timerDoesRow : OpenClaim := { program := "ytmheabnpkbhadaa", sum := "63e798ccfd99310b3a44207702b621795e12667ac25ed190d67605f12be5f1b5", func := "angelus/angeluslaw07.TimerDoes", spec := "timerDoes", inPlace := ["slices.overlaps[angelus/timer.one]"], unfollowed := true, recurses := true, apart := false }
def TimerDoesSaid : Prop := timerDoesRow.holds Try.pinned (OpenSpec.ofChange timerDoesSpec)

/-- ITS FALSE NEIGHBOUR: 'it returns false'. Refute it at one input. -/
def timerDoesWrong : ChangeSpec := { name := "timerDoes", fn := fun _ => fun
  | [d] => { results := [.lit (.bool false)], args := [d] }
  | _ => none }
def TimerDoesWrongFalsely : Prop := timerDoesRow.holds Try.pinned (OpenSpec.ofChange timerDoesWrong)

/- THE SECOND FORM. 'bulk': how many values and letters a reading holds, each counted each time it is reached (what is shared counts as often as it is met; a slice's spare places count too). A statement '..UptoSaid' is the law's where the arguments, and the package variables that the reading takes, are together of bulk at most 1048576: NARROWER than '..Said'. Prove '..Said' where nothing that the law and all that it calls make is longer than what came in: it says more and counts as full. Else prove '..UptoSaid'. A law counts once. -/
mutual
def uptoBulk {H : Type} : DataW H → Nat
  | .lit (.string bytes) => bytes.length + 1
  | .lit _ => 1
  | .nil => 1
  | .ptr d => uptoBulk d + 1
  | .slice elems spare => uptoBulkAll elems + uptoBulkAll spare + 1
  | .agg parts => uptoBulkAll parts + 1
  | .iface _ d => uptoBulk d + 1
  | .map entries => uptoBulkEntries entries + 1
  | .held _ => 1
def uptoBulkAll {H : Type} : List (DataW H) → Nat
  | [] => 0
  | d :: r => uptoBulk d + uptoBulkAll r
def uptoBulkEntries {H : Type} : List (Lit × DataW H) → Nat
  | [] => 0
  | x :: r => uptoBulkEntry x + uptoBulkEntries r
def uptoBulkEntry {H : Type} : Lit × DataW H → Nat
  | (.string bytes, d) => bytes.length + uptoBulk d + 1
  | (_, d) => uptoBulk d + 1
 end
def uptoSmall : (H : Type) → List (DataW H) → Bool := fun _ ds => decide (uptoBulkAll ds ≤ 1048576)
def OpenSpec.upto (s : _root_.Go.ChangeSpec) : _root_.Go.OpenSpec := { _root_.Go.OpenSpec.ofChange s with cond := some uptoSmall }

/-- 'angeluslaw07.TimerOnce', WHERE WHAT IT READS IS OF BULK AT MOST 1048576: true; the input reads as it did. -/
def timerOnceUptoRow : OpenClaim := { program := "ytmheabnpkbhadaa", sum := "63e798ccfd99310b3a44207702b621795e12667ac25ed190d67605f12be5f1b5", func := "angelus/angeluslaw07.TimerOnce", spec := "timerOnce", inPlace := ["slices.overlaps[angelus/timer.one]"], unfollowed := true, recurses := true, apart := false, narrowed := true }
def TimerOnceUptoSaid : Prop := timerOnceUptoRow.holds Try.pinned (OpenSpec.upto timerOnceSpec)

/-- 'angeluslaw07.TimerSplits', WHERE WHAT IT READS IS OF BULK AT MOST 1048576: true; the input reads as it did. -/
def timerSplitsUptoRow : OpenClaim := { program := "ytmheabnpkbhadaa", sum := "63e798ccfd99310b3a44207702b621795e12667ac25ed190d67605f12be5f1b5", func := "angelus/angeluslaw07.TimerSplits", spec := "timerSplits", inPlace := ["slices.overlaps[angelus/timer.one]"], unfollowed := true, recurses := true, apart := false, narrowed := true }
def TimerSplitsUptoSaid : Prop := timerSplitsUptoRow.holds Try.pinned (OpenSpec.upto timerSplitsSpec)

/-- 'angeluslaw07.TimerMoves', WHERE WHAT IT READS IS OF BULK AT MOST 1048576: true; the input reads as it did. -/
def timerMovesUptoRow : OpenClaim := { program := "ytmheabnpkbhadaa", sum := "63e798ccfd99310b3a44207702b621795e12667ac25ed190d67605f12be5f1b5", func := "angelus/angeluslaw07.TimerMoves", spec := "timerMoves", inPlace := ["slices.overlaps[angelus/timer.one]"], unfollowed := true, recurses := true, apart := false, narrowed := true }
def TimerMovesUptoSaid : Prop := timerMovesUptoRow.holds Try.pinned (OpenSpec.upto timerMovesSpec)

/-- 'angeluslaw07.TimerDoes', WHERE WHAT IT READS IS OF BULK AT MOST 1048576: true; the input reads as it did. -/
def timerDoesUptoRow : OpenClaim := { program := "ytmheabnpkbhadaa", sum := "63e798ccfd99310b3a44207702b621795e12667ac25ed190d67605f12be5f1b5", func := "angelus/angeluslaw07.TimerDoes", spec := "timerDoes", inPlace := ["slices.overlaps[angelus/timer.one]"], unfollowed := true, recurses := true, apart := false, narrowed := true }
def TimerDoesUptoSaid : Prop := timerDoesUptoRow.holds Try.pinned (OpenSpec.upto timerDoesSpec)

end Rows
end Go.Proofs.Ytmheabnpkbhadaa
