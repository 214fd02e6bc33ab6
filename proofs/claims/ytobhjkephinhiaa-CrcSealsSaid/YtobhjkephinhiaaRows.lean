/-
  No cell of these rows narrows 'for every input' (looked for: loops, veiled, ifaces, maps, wideKeys, modest, calm, conditions, laid).
  DERIVED. THE GIVEN ROWS OF THIS SEAT. 5 by the template 'for every input the law returns true; each argument reads behind the call as it read before'; 0 by the template 'total and deterministic' (their statements: YtobhjkephinhiaaTotals.lean).
  GIVEN WITH THE SEED: the statements are not yours to turn. If you find one false, say at which input.
  Laid BY PROGRAM, IN A SANDBOX (cutbox-rows.mjs): the forced cells as the released guide's own fill.sh prints them over the translation c13209c203fcbf2f… (all of the seat's roots in one cut). By AI agents, Wed Nov 11 2026. No macro, syntax, notation, axiom, sorry.
-/
import Derived.Test.YtobhjkephinhiaaChecked
import GoSem.Claim
import GoSem.ClaimJoined
import GoSem.ClaimMapViews
import Derived.JoinedTies
import Derived.KernelRfl
namespace Go.Proofs.Ytobhjkephinhiaa
/- THE CELL 'sum', in the pinned program and in every row, IS THE sha256 OF THE DUMP (.gsa) THAT YtobhjkephinhiaaProg.lean LOADS. Nothing in Lean hashes anything: it is a label: what it is worth is what the hold of that sum in a sandbox is worth. -/
noncomputable def Try.pinned : Pinned := { name := "ytobhjkephinhiaa", sum := "c13209c203fcbf2f9ba5cbb289cc13d9e1fb0dfd75f6eedff4246968c335f377", checked := Try.checked }
namespace Rows
def none {H : Type} : Left H := { results := [], args := [] }

/-- 'angeluslaw03.CrcIs': WHATEVER THE INPUT: true; the input reads as it did. -/
def crcIsSpec : ChangeSpec := { name := "crcIs", fn := fun _ => fun
  | [d1, d2, d3] => { results := [.lit (.bool true)], args := [d1, d2, d3] }
  | _ => none }
def crcIsRow : OpenClaim := { program := "ytobhjkephinhiaa", sum := "c13209c203fcbf2f9ba5cbb289cc13d9e1fb0dfd75f6eedff4246968c335f377", func := "angelus/angeluslaw03.CrcIs", spec := "crcIs", apart := false }
def CrcIsSaid : Prop := crcIsRow.holds Try.pinned (OpenSpec.ofChange crcIsSpec)

/-- ITS FALSE NEIGHBOUR: 'it returns false'. Refute it at one input. -/
def crcIsWrong : ChangeSpec := { name := "crcIs", fn := fun _ => fun
  | [d1, d2, d3] => { results := [.lit (.bool false)], args := [d1, d2, d3] }
  | _ => none }
def CrcIsWrongFalsely : Prop := crcIsRow.holds Try.pinned (OpenSpec.ofChange crcIsWrong)

/-- 'angeluslaw03.CrcSeals': WHATEVER THE INPUT: true; the input reads as it did. -/
def crcSealsSpec : ChangeSpec := { name := "crcSeals", fn := fun _ => fun
  | [d] => { results := [.lit (.bool true)], args := [d] }
  | _ => none }
def crcSealsRow : OpenClaim := { program := "ytobhjkephinhiaa", sum := "c13209c203fcbf2f9ba5cbb289cc13d9e1fb0dfd75f6eedff4246968c335f377", func := "angelus/angeluslaw03.CrcSeals", spec := "crcSeals", apart := false }
def CrcSealsSaid : Prop := crcSealsRow.holds Try.pinned (OpenSpec.ofChange crcSealsSpec)

/-- ITS FALSE NEIGHBOUR: 'it returns false'. Refute it at one input. -/
def crcSealsWrong : ChangeSpec := { name := "crcSeals", fn := fun _ => fun
  | [d] => { results := [.lit (.bool false)], args := [d] }
  | _ => none }
def CrcSealsWrongFalsely : Prop := crcSealsRow.holds Try.pinned (OpenSpec.ofChange crcSealsWrong)

/-- 'angeluslaw03.CrcTurned': WHATEVER THE INPUT: true; the input reads as it did. -/
def crcTurnedSpec : ChangeSpec := { name := "crcTurned", fn := fun _ => fun
  | [d1, d2, d3] => { results := [.lit (.bool true)], args := [d1, d2, d3] }
  | _ => none }
def crcTurnedRow : OpenClaim := { program := "ytobhjkephinhiaa", sum := "c13209c203fcbf2f9ba5cbb289cc13d9e1fb0dfd75f6eedff4246968c335f377", func := "angelus/angeluslaw03.CrcTurned", spec := "crcTurned", apart := false }
def CrcTurnedSaid : Prop := crcTurnedRow.holds Try.pinned (OpenSpec.ofChange crcTurnedSpec)

/-- ITS FALSE NEIGHBOUR: 'it returns false'. Refute it at one input. -/
def crcTurnedWrong : ChangeSpec := { name := "crcTurned", fn := fun _ => fun
  | [d1, d2, d3] => { results := [.lit (.bool false)], args := [d1, d2, d3] }
  | _ => none }
def CrcTurnedWrongFalsely : Prop := crcTurnedRow.holds Try.pinned (OpenSpec.ofChange crcTurnedWrong)

/-- 'angeluslaw03.CrcTogether': WHATEVER THE INPUT: true; the input reads as it did. -/
def crcTogetherSpec : ChangeSpec := { name := "crcTogether", fn := fun _ => fun
  | [d1, d2, d3] => { results := [.lit (.bool true)], args := [d1, d2, d3] }
  | _ => none }
def crcTogetherRow : OpenClaim := { program := "ytobhjkephinhiaa", sum := "c13209c203fcbf2f9ba5cbb289cc13d9e1fb0dfd75f6eedff4246968c335f377", func := "angelus/angeluslaw03.CrcTogether", spec := "crcTogether", apart := false }
def CrcTogetherSaid : Prop := crcTogetherRow.holds Try.pinned (OpenSpec.ofChange crcTogetherSpec)

/-- ITS FALSE NEIGHBOUR: 'it returns false'. Refute it at one input. -/
def crcTogetherWrong : ChangeSpec := { name := "crcTogether", fn := fun _ => fun
  | [d1, d2, d3] => { results := [.lit (.bool false)], args := [d1, d2, d3] }
  | _ => none }
def CrcTogetherWrongFalsely : Prop := crcTogetherRow.holds Try.pinned (OpenSpec.ofChange crcTogetherWrong)

/-- 'angeluslaw03.CrcUnlike': WHATEVER THE INPUT: true; the input reads as it did. -/
def crcUnlikeSpec : ChangeSpec := { name := "crcUnlike", fn := fun _ => fun
  | [d1, d2, d3, d4] => { results := [.lit (.bool true)], args := [d1, d2, d3, d4] }
  | _ => none }
def crcUnlikeRow : OpenClaim := { program := "ytobhjkephinhiaa", sum := "c13209c203fcbf2f9ba5cbb289cc13d9e1fb0dfd75f6eedff4246968c335f377", func := "angelus/angeluslaw03.CrcUnlike", spec := "crcUnlike", apart := false }
def CrcUnlikeSaid : Prop := crcUnlikeRow.holds Try.pinned (OpenSpec.ofChange crcUnlikeSpec)

/-- ITS FALSE NEIGHBOUR: 'it returns false'. Refute it at one input. -/
def crcUnlikeWrong : ChangeSpec := { name := "crcUnlike", fn := fun _ => fun
  | [d1, d2, d3, d4] => { results := [.lit (.bool false)], args := [d1, d2, d3, d4] }
  | _ => none }
def CrcUnlikeWrongFalsely : Prop := crcUnlikeRow.holds Try.pinned (OpenSpec.ofChange crcUnlikeWrong)

/- THE SECOND FORM. 'bulk': how many values and letters a reading holds, each counted each time it is reached (what is shared counts as often as it is met; a slice's spare places count too). A statement '..UptoSaid' is the law's where the arguments, and the package variables that the reading takes, are together of bulk at most 1048576: NARROWER than '..Said'. Prove '..Said' where nothing that the law and all that it calls make is longer than what came in: it says more and counts as full. Else prove '..UptoSaid'. A law counts once. -/
mutual
def uptoBulk {H : Type} : DataW H → Nat
  | .lit (.string bytes) => bytes.length + 1
  | .lit _ => 1
  | .nil => 1
  | .ptr d => uptoBulk d + 1
  | .slice elems spare => uptoBulkAll elems + uptoBulkAll spare + 1
  | .agg parts => uptoBulkAll parts + 1
  | .iface _ d => uptoBulk d + 1
  | .map entries => uptoBulkEntries entries + 1
  | .held _ => 1
def uptoBulkAll {H : Type} : List (DataW H) → Nat
  | [] => 0
  | d :: r => uptoBulk d + uptoBulkAll r
def uptoBulkEntries {H : Type} : List (Lit × DataW H) → Nat
  | [] => 0
  | x :: r => uptoBulkEntry x + uptoBulkEntries r
def uptoBulkEntry {H : Type} : Lit × DataW H → Nat
  | (.string bytes, d) => bytes.length + uptoBulk d + 1
  | (_, d) => uptoBulk d + 1
 end
def uptoSmall : (H : Type) → List (DataW H) → Bool := fun _ ds => decide (uptoBulkAll ds ≤ 1048576)
def OpenSpec.upto (s : _root_.Go.ChangeSpec) : _root_.Go.OpenSpec := { _root_.Go.OpenSpec.ofChange s with cond := some uptoSmall }

/-- 'angeluslaw03.CrcIs', WHERE WHAT IT READS IS OF BULK AT MOST 1048576: true; the input reads as it did. -/
def crcIsUptoRow : OpenClaim := { program := "ytobhjkephinhiaa", sum := "c13209c203fcbf2f9ba5cbb289cc13d9e1fb0dfd75f6eedff4246968c335f377", func := "angelus/angeluslaw03.CrcIs", spec := "crcIs", apart := false, narrowed := true }
def CrcIsUptoSaid : Prop := crcIsUptoRow.holds Try.pinned (OpenSpec.upto crcIsSpec)

/-- 'angeluslaw03.CrcSeals', WHERE WHAT IT READS IS OF BULK AT MOST 1048576: true; the input reads as it did. -/
def crcSealsUptoRow : OpenClaim := { program := "ytobhjkephinhiaa", sum := "c13209c203fcbf2f9ba5cbb289cc13d9e1fb0dfd75f6eedff4246968c335f377", func := "angelus/angeluslaw03.CrcSeals", spec := "crcSeals", apart := false, narrowed := true }
def CrcSealsUptoSaid : Prop := crcSealsUptoRow.holds Try.pinned (OpenSpec.upto crcSealsSpec)

/-- 'angeluslaw03.CrcTurned', WHERE WHAT IT READS IS OF BULK AT MOST 1048576: true; the input reads as it did. -/
def crcTurnedUptoRow : OpenClaim := { program := "ytobhjkephinhiaa", sum := "c13209c203fcbf2f9ba5cbb289cc13d9e1fb0dfd75f6eedff4246968c335f377", func := "angelus/angeluslaw03.CrcTurned", spec := "crcTurned", apart := false, narrowed := true }
def CrcTurnedUptoSaid : Prop := crcTurnedUptoRow.holds Try.pinned (OpenSpec.upto crcTurnedSpec)

/-- 'angeluslaw03.CrcTogether', WHERE WHAT IT READS IS OF BULK AT MOST 1048576: true; the input reads as it did. -/
def crcTogetherUptoRow : OpenClaim := { program := "ytobhjkephinhiaa", sum := "c13209c203fcbf2f9ba5cbb289cc13d9e1fb0dfd75f6eedff4246968c335f377", func := "angelus/angeluslaw03.CrcTogether", spec := "crcTogether", apart := false, narrowed := true }
def CrcTogetherUptoSaid : Prop := crcTogetherUptoRow.holds Try.pinned (OpenSpec.upto crcTogetherSpec)

/-- 'angeluslaw03.CrcUnlike', WHERE WHAT IT READS IS OF BULK AT MOST 1048576: true; the input reads as it did. -/
def crcUnlikeUptoRow : OpenClaim := { program := "ytobhjkephinhiaa", sum := "c13209c203fcbf2f9ba5cbb289cc13d9e1fb0dfd75f6eedff4246968c335f377", func := "angelus/angeluslaw03.CrcUnlike", spec := "crcUnlike", apart := false, narrowed := true }
def CrcUnlikeUptoSaid : Prop := crcUnlikeUptoRow.holds Try.pinned (OpenSpec.upto crcUnlikeSpec)

end Rows
end Go.Proofs.Ytobhjkephinhiaa
