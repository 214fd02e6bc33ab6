/-
  No cell of these rows narrows 'for every input' (looked for: loops, veiled, ifaces, maps, wideKeys, modest, calm, conditions, laid).
  DERIVED. THE GIVEN ROWS OF THIS SEAT. 5 by the template 'for every input the law returns true; each argument reads behind the call as it read before'; 0 by the template 'total and deterministic' (their statements: YthnnejflgbminabTotals.lean).
  GIVEN WITH THE SEED: the statements are not yours to turn. If you find one false, say at which input.
  Laid BY PROGRAM, IN A SANDBOX (cutbox-rows.mjs): the forced cells as the released guide's own fill.sh prints them over the translation 864c1e9d8439e421… (all of the seat's roots in one cut). By AI agents, Wed Nov 11 2026. No macro, syntax, notation, axiom, sorry.
-/
import Derived.Test.YthnnejflgbminabChecked
import GoSem.Claim
import GoSem.ClaimJoined
import GoSem.ClaimMapViews
import Derived.JoinedTies
import Derived.KernelRfl
namespace Go.Proofs.Ythnnejflgbminab
/- THE CELL 'sum', in the pinned program and in every row, IS THE sha256 OF THE DUMP (.gsa) THAT YthnnejflgbminabProg.lean LOADS. Nothing in Lean hashes anything: it is a label: what it is worth is what the hold of that sum in a sandbox is worth. -/
noncomputable def Try.pinned : Pinned := { name := "ythnnejflgbminab", sum := "864c1e9d8439e42186fd55fed9435bfe23db9dd6237cb8fbc8817b18dfe93ba7", checked := Try.checked }
namespace Rows
def none {H : Type} : Left H := { results := [], args := [] }

/-- 'angeluslaw18.PairTimes': WHATEVER THE INPUT: true; the input reads as it did. -/
def pairTimesSpec : ChangeSpec := { name := "pairTimes", fn := fun _ => fun
  | [d] => { results := [.lit (.bool true)], args := [d] }
  | _ => none }
def pairTimesRow : OpenClaim := { program := "ythnnejflgbminab", sum := "864c1e9d8439e42186fd55fed9435bfe23db9dd6237cb8fbc8817b18dfe93ba7", func := "angelus/angeluslaw18.PairTimes", spec := "pairTimes", unfollowed := true, recurses := true, apart := false }
def PairTimesSaid : Prop := pairTimesRow.holds Try.pinned (OpenSpec.ofChange pairTimesSpec)

/-- ITS FALSE NEIGHBOUR: 'it returns false'. Refute it at one input. -/
def pairTimesWrong : ChangeSpec := { name := "pairTimes", fn := fun _ => fun
  | [d] => { results := [.lit (.bool false)], args := [d] }
  | _ => none }
def PairTimesWrongFalsely : Prop := pairTimesRow.holds Try.pinned (OpenSpec.ofChange pairTimesWrong)

/-- 'angeluslaw18.PairRight': WHATEVER THE INPUT: true; the input reads as it did. -/
def pairRightSpec : ChangeSpec := { name := "pairRight", fn := fun _ => fun
  | [d1, d2, d3, d4, d5] => { results := [.lit (.bool true)], args := [d1, d2, d3, d4, d5] }
  | _ => none }
def pairRightRow : OpenClaim := { program := "ythnnejflgbminab", sum := "864c1e9d8439e42186fd55fed9435bfe23db9dd6237cb8fbc8817b18dfe93ba7", func := "angelus/angeluslaw18.PairRight", spec := "pairRight", unfollowed := true, recurses := true, apart := false }
def PairRightSaid : Prop := pairRightRow.holds Try.pinned (OpenSpec.ofChange pairRightSpec)

/-- ITS FALSE NEIGHBOUR: 'it returns false'. Refute it at one input. -/
def pairRightWrong : ChangeSpec := { name := "pairRight", fn := fun _ => fun
  | [d1, d2, d3, d4, d5] => { results := [.lit (.bool false)], args := [d1, d2, d3, d4, d5] }
  | _ => none }
def PairRightWrongFalsely : Prop := pairRightRow.holds Try.pinned (OpenSpec.ofChange pairRightWrong)

/-- 'angeluslaw18.PairGivesUp': WHATEVER THE INPUT: true; the input reads as it did. -/
def pairGivesUpSpec : ChangeSpec := { name := "pairGivesUp", fn := fun _ => fun
  | [d1, d2, d3, d4] => { results := [.lit (.bool true)], args := [d1, d2, d3, d4] }
  | _ => none }
def pairGivesUpRow : OpenClaim := { program := "ythnnejflgbminab", sum := "864c1e9d8439e42186fd55fed9435bfe23db9dd6237cb8fbc8817b18dfe93ba7", func := "angelus/angeluslaw18.PairGivesUp", spec := "pairGivesUp", unfollowed := true, recurses := true, apart := false }
def PairGivesUpSaid : Prop := pairGivesUpRow.holds Try.pinned (OpenSpec.ofChange pairGivesUpSpec)

/-- ITS FALSE NEIGHBOUR: 'it returns false'. Refute it at one input. -/
def pairGivesUpWrong : ChangeSpec := { name := "pairGivesUp", fn := fun _ => fun
  | [d1, d2, d3, d4] => { results := [.lit (.bool false)], args := [d1, d2, d3, d4] }
  | _ => none }
def PairGivesUpWrongFalsely : Prop := pairGivesUpRow.holds Try.pinned (OpenSpec.ofChange pairGivesUpWrong)

/-- 'angeluslaw18.PairOnce': WHATEVER THE INPUT: true; the input reads as it did. -/
def pairOnceSpec : ChangeSpec := { name := "pairOnce", fn := fun _ => fun
  | [d1, d2, d3, d4, d5, d6] => { results := [.lit (.bool true)], args := [d1, d2, d3, d4, d5, d6] }
  | _ => none }
def pairOnceRow : OpenClaim := { program := "ythnnejflgbminab", sum := "864c1e9d8439e42186fd55fed9435bfe23db9dd6237cb8fbc8817b18dfe93ba7", func := "angelus/angeluslaw18.PairOnce", spec := "pairOnce", unfollowed := true, recurses := true, apart := false }
def PairOnceSaid : Prop := pairOnceRow.holds Try.pinned (OpenSpec.ofChange pairOnceSpec)

/-- ITS FALSE NEIGHBOUR: 'it returns false'. Refute it at one input. -/
def pairOnceWrong : ChangeSpec := { name := "pairOnce", fn := fun _ => fun
  | [d1, d2, d3, d4, d5, d6] => { results := [.lit (.bool false)], args := [d1, d2, d3, d4, d5, d6] }
  | _ => none }
def PairOnceWrongFalsely : Prop := pairOnceRow.holds Try.pinned (OpenSpec.ofChange pairOnceWrong)

/-- 'angeluslaw18.PairDoes': WHATEVER THE INPUT: true; the input reads as it did. -/
def pairDoesSpec : ChangeSpec := { name := "pairDoes", fn := fun _ => fun
  | [d1, d2] => { results := [.lit (.bool true)], args := [d1, d2] }
  | _ => none }
def pairDoesRow : OpenClaim := { program := "ythnnejflgbminab", sum := "864c1e9d8439e42186fd55fed9435bfe23db9dd6237cb8fbc8817b18dfe93ba7", func := "angelus/angeluslaw18.PairDoes", spec := "pairDoes", unfollowed := true, recurses := true, apart := false }
def PairDoesSaid : Prop := pairDoesRow.holds Try.pinned (OpenSpec.ofChange pairDoesSpec)

/-- ITS FALSE NEIGHBOUR: 'it returns false'. Refute it at one input. -/
def pairDoesWrong : ChangeSpec := { name := "pairDoes", fn := fun _ => fun
  | [d1, d2] => { results := [.lit (.bool false)], args := [d1, d2] }
  | _ => none }
def PairDoesWrongFalsely : Prop := pairDoesRow.holds Try.pinned (OpenSpec.ofChange pairDoesWrong)

/- THE SECOND FORM. 'bulk': how many values and letters a reading holds, each counted each time it is reached (what is shared counts as often as it is met; a slice's spare places count too). A statement '..UptoSaid' is the law's where the arguments, and the package variables that the reading takes, are together of bulk at most 1048576: NARROWER than '..Said'. Prove '..Said' where nothing that the law and all that it calls make is longer than what came in: it says more and counts as full. Else prove '..UptoSaid'. A law counts once. -/
mutual
def uptoBulk {H : Type} : DataW H → Nat
  | .lit (.string bytes) => bytes.length + 1
  | .lit _ => 1
  | .nil => 1
  | .ptr d => uptoBulk d + 1
  | .slice elems spare => uptoBulkAll elems + uptoBulkAll spare + 1
  | .agg parts => uptoBulkAll parts + 1
  | .iface _ d => uptoBulk d + 1
  | .map entries => uptoBulkEntries entries + 1
  | .held _ => 1
def uptoBulkAll {H : Type} : List (DataW H) → Nat
  | [] => 0
  | d :: r => uptoBulk d + uptoBulkAll r
def uptoBulkEntries {H : Type} : List (Lit × DataW H) → Nat
  | [] => 0
  | x :: r => uptoBulkEntry x + uptoBulkEntries r
def uptoBulkEntry {H : Type} : Lit × DataW H → Nat
  | (.string bytes, d) => bytes.length + uptoBulk d + 1
  | (_, d) => uptoBulk d + 1
 end
def uptoSmall : (H : Type) → List (DataW H) → Bool := fun _ ds => decide (uptoBulkAll ds ≤ 1048576)
def OpenSpec.upto (s : _root_.Go.ChangeSpec) : _root_.Go.OpenSpec := { _root_.Go.OpenSpec.ofChange s with cond := some uptoSmall }

/-- 'angeluslaw18.PairTimes', WHERE WHAT IT READS IS OF BULK AT MOST 1048576: true; the input reads as it did. -/
def pairTimesUptoRow : OpenClaim := { program := "ythnnejflgbminab", sum := "864c1e9d8439e42186fd55fed9435bfe23db9dd6237cb8fbc8817b18dfe93ba7", func := "angelus/angeluslaw18.PairTimes", spec := "pairTimes", unfollowed := true, recurses := true, apart := false, narrowed := true }
def PairTimesUptoSaid : Prop := pairTimesUptoRow.holds Try.pinned (OpenSpec.upto pairTimesSpec)

/-- 'angeluslaw18.PairRight', WHERE WHAT IT READS IS OF BULK AT MOST 1048576: true; the input reads as it did. -/
def pairRightUptoRow : OpenClaim := { program := "ythnnejflgbminab", sum := "864c1e9d8439e42186fd55fed9435bfe23db9dd6237cb8fbc8817b18dfe93ba7", func := "angelus/angeluslaw18.PairRight", spec := "pairRight", unfollowed := true, recurses := true, apart := false, narrowed := true }
def PairRightUptoSaid : Prop := pairRightUptoRow.holds Try.pinned (OpenSpec.upto pairRightSpec)

/-- 'angeluslaw18.PairGivesUp', WHERE WHAT IT READS IS OF BULK AT MOST 1048576: true; the input reads as it did. -/
def pairGivesUpUptoRow : OpenClaim := { program := "ythnnejflgbminab", sum := "864c1e9d8439e42186fd55fed9435bfe23db9dd6237cb8fbc8817b18dfe93ba7", func := "angelus/angeluslaw18.PairGivesUp", spec := "pairGivesUp", unfollowed := true, recurses := true, apart := false, narrowed := true }
def PairGivesUpUptoSaid : Prop := pairGivesUpUptoRow.holds Try.pinned (OpenSpec.upto pairGivesUpSpec)

/-- 'angeluslaw18.PairOnce', WHERE WHAT IT READS IS OF BULK AT MOST 1048576: true; the input reads as it did. -/
def pairOnceUptoRow : OpenClaim := { program := "ythnnejflgbminab", sum := "864c1e9d8439e42186fd55fed9435bfe23db9dd6237cb8fbc8817b18dfe93ba7", func := "angelus/angeluslaw18.PairOnce", spec := "pairOnce", unfollowed := true, recurses := true, apart := false, narrowed := true }
def PairOnceUptoSaid : Prop := pairOnceUptoRow.holds Try.pinned (OpenSpec.upto pairOnceSpec)

/-- 'angeluslaw18.PairDoes', WHERE WHAT IT READS IS OF BULK AT MOST 1048576: true; the input reads as it did. -/
def pairDoesUptoRow : OpenClaim := { program := "ythnnejflgbminab", sum := "864c1e9d8439e42186fd55fed9435bfe23db9dd6237cb8fbc8817b18dfe93ba7", func := "angelus/angeluslaw18.PairDoes", spec := "pairDoes", unfollowed := true, recurses := true, apart := false, narrowed := true }
def PairDoesUptoSaid : Prop := pairDoesUptoRow.holds Try.pinned (OpenSpec.upto pairDoesSpec)

end Rows
end Go.Proofs.Ythnnejflgbminab
