/-
  No cell of these rows narrows 'for every input' (looked for: loops, veiled, ifaces, maps, wideKeys, modest, calm, conditions, laid).
  DERIVED. THE GIVEN ROWS OF THIS SEAT. 6 by the template 'for every input the law returns true; each argument reads behind the call as it read before'; 0 by the template 'total and deterministic' (their statements: YtlklbcaoooeioaaTotals.lean).
  GIVEN WITH THE SEED: the statements are not yours to turn. If you find one false, say at which input.
  Laid BY PROGRAM, IN A SANDBOX (cutbox-rows.mjs): the forced cells as the released guide's own fill.sh prints them over the translation 195a66f6d9e428ff… (all of the seat's roots in one cut). By AI agents, Wed Nov 11 2026. No macro, syntax, notation, axiom, sorry.
-/
import Derived.Test.YtlklbcaoooeioaaChecked
import GoSem.Claim
import GoSem.ClaimJoined
import GoSem.ClaimMapViews
import Derived.JoinedTies
import Derived.KernelRfl
namespace Go.Proofs.Ytlklbcaoooeioaa
/- THE CELL 'sum', in the pinned program and in every row, IS THE sha256 OF THE DUMP (.gsa) THAT YtlklbcaoooeioaaProg.lean LOADS. Nothing in Lean hashes anything: it is a label: what it is worth is what the hold of that sum in a sandbox is worth. -/
noncomputable def Try.pinned : Pinned := { name := "ytlklbcaoooeioaa", sum := "195a66f6d9e428ff3507e17b857b0975f5739c858f404aba9ac9b889e5770688", checked := Try.checked }
namespace Rows
def none {H : Type} : Left H := { results := [], args := [] }

/-- 'angeluslaw25.BoundClocks': WHATEVER THE INPUT: true; the input reads as it did. -/
def boundClocksSpec : ChangeSpec := { name := "boundClocks", fn := fun _ => fun
  | [d1, d2, d3] => { results := [.lit (.bool true)], args := [d1, d2, d3] }
  | _ => none }
def boundClocksRow : OpenClaim := { program := "ytlklbcaoooeioaa", sum := "195a66f6d9e428ff3507e17b857b0975f5739c858f404aba9ac9b889e5770688", func := "angelus/angeluslaw25.BoundClocks", spec := "boundClocks", apart := false }
def BoundClocksSaid : Prop := boundClocksRow.holds Try.pinned (OpenSpec.ofChange boundClocksSpec)

/-- ITS FALSE NEIGHBOUR: 'it returns false'. Refute it at one input. -/
def boundClocksWrong : ChangeSpec := { name := "boundClocks", fn := fun _ => fun
  | [d1, d2, d3] => { results := [.lit (.bool false)], args := [d1, d2, d3] }
  | _ => none }
def BoundClocksWrongFalsely : Prop := boundClocksRow.holds Try.pinned (OpenSpec.ofChange boundClocksWrong)

/-- 'angeluslaw25.BoundAdds': WHATEVER THE INPUT: true; the input reads as it did. -/
def boundAddsSpec : ChangeSpec := { name := "boundAdds", fn := fun _ => fun
  | [d1, d2, d3] => { results := [.lit (.bool true)], args := [d1, d2, d3] }
  | _ => none }
def boundAddsRow : OpenClaim := { program := "ytlklbcaoooeioaa", sum := "195a66f6d9e428ff3507e17b857b0975f5739c858f404aba9ac9b889e5770688", func := "angelus/angeluslaw25.BoundAdds", spec := "boundAdds", apart := false }
def BoundAddsSaid : Prop := boundAddsRow.holds Try.pinned (OpenSpec.ofChange boundAddsSpec)

/-- ITS FALSE NEIGHBOUR: 'it returns false'. Refute it at one input. -/
def boundAddsWrong : ChangeSpec := { name := "boundAdds", fn := fun _ => fun
  | [d1, d2, d3] => { results := [.lit (.bool false)], args := [d1, d2, d3] }
  | _ => none }
def BoundAddsWrongFalsely : Prop := boundAddsRow.holds Try.pinned (OpenSpec.ofChange boundAddsWrong)

/-- 'angeluslaw25.BoundIs': WHATEVER THE INPUT: true; the input reads as it did. -/
def boundIsSpec : ChangeSpec := { name := "boundIs", fn := fun _ => fun
  | [d1, d2, d3] => { results := [.lit (.bool true)], args := [d1, d2, d3] }
  | _ => none }
def boundIsRow : OpenClaim := { program := "ytlklbcaoooeioaa", sum := "195a66f6d9e428ff3507e17b857b0975f5739c858f404aba9ac9b889e5770688", func := "angelus/angeluslaw25.BoundIs", spec := "boundIs", apart := false }
def BoundIsSaid : Prop := boundIsRow.holds Try.pinned (OpenSpec.ofChange boundIsSpec)

/-- ITS FALSE NEIGHBOUR: 'it returns false'. Refute it at one input. -/
def boundIsWrong : ChangeSpec := { name := "boundIs", fn := fun _ => fun
  | [d1, d2, d3] => { results := [.lit (.bool false)], args := [d1, d2, d3] }
  | _ => none }
def BoundIsWrongFalsely : Prop := boundIsRow.holds Try.pinned (OpenSpec.ofChange boundIsWrong)

/-- 'angeluslaw25.BoundNet': WHATEVER THE INPUT: true; the input reads as it did. -/
def boundNetSpec : ChangeSpec := { name := "boundNet", fn := fun _ => fun
  | [d1, d2] => { results := [.lit (.bool true)], args := [d1, d2] }
  | _ => none }
def boundNetRow : OpenClaim := { program := "ytlklbcaoooeioaa", sum := "195a66f6d9e428ff3507e17b857b0975f5739c858f404aba9ac9b889e5770688", func := "angelus/angeluslaw25.BoundNet", spec := "boundNet", apart := false }
def BoundNetSaid : Prop := boundNetRow.holds Try.pinned (OpenSpec.ofChange boundNetSpec)

/-- ITS FALSE NEIGHBOUR: 'it returns false'. Refute it at one input. -/
def boundNetWrong : ChangeSpec := { name := "boundNet", fn := fun _ => fun
  | [d1, d2] => { results := [.lit (.bool false)], args := [d1, d2] }
  | _ => none }
def BoundNetWrongFalsely : Prop := boundNetRow.holds Try.pinned (OpenSpec.ofChange boundNetWrong)

/-- 'angeluslaw25.BoundWaits': WHATEVER THE INPUT: true; the input reads as it did. -/
def boundWaitsSpec : ChangeSpec := { name := "boundWaits", fn := fun _ => fun
  | [d1, d2, d3] => { results := [.lit (.bool true)], args := [d1, d2, d3] }
  | _ => none }
def boundWaitsRow : OpenClaim := { program := "ytlklbcaoooeioaa", sum := "195a66f6d9e428ff3507e17b857b0975f5739c858f404aba9ac9b889e5770688", func := "angelus/angeluslaw25.BoundWaits", spec := "boundWaits", apart := false }
def BoundWaitsSaid : Prop := boundWaitsRow.holds Try.pinned (OpenSpec.ofChange boundWaitsSpec)

/-- ITS FALSE NEIGHBOUR: 'it returns false'. Refute it at one input. -/
def boundWaitsWrong : ChangeSpec := { name := "boundWaits", fn := fun _ => fun
  | [d1, d2, d3] => { results := [.lit (.bool false)], args := [d1, d2, d3] }
  | _ => none }
def BoundWaitsWrongFalsely : Prop := boundWaitsRow.holds Try.pinned (OpenSpec.ofChange boundWaitsWrong)

/-- 'angeluslaw25.BoundGrows': WHATEVER THE INPUT: true; the input reads as it did. -/
def boundGrowsSpec : ChangeSpec := { name := "boundGrows", fn := fun _ => fun
  | [d1, d2, d3, d4, d5, d6] => { results := [.lit (.bool true)], args := [d1, d2, d3, d4, d5, d6] }
  | _ => none }
def boundGrowsRow : OpenClaim := { program := "ytlklbcaoooeioaa", sum := "195a66f6d9e428ff3507e17b857b0975f5739c858f404aba9ac9b889e5770688", func := "angelus/angeluslaw25.BoundGrows", spec := "boundGrows", apart := false }
def BoundGrowsSaid : Prop := boundGrowsRow.holds Try.pinned (OpenSpec.ofChange boundGrowsSpec)

/-- ITS FALSE NEIGHBOUR: 'it returns false'. Refute it at one input. -/
def boundGrowsWrong : ChangeSpec := { name := "boundGrows", fn := fun _ => fun
  | [d1, d2, d3, d4, d5, d6] => { results := [.lit (.bool false)], args := [d1, d2, d3, d4, d5, d6] }
  | _ => none }
def BoundGrowsWrongFalsely : Prop := boundGrowsRow.holds Try.pinned (OpenSpec.ofChange boundGrowsWrong)

/- THE SECOND FORM. 'bulk': how many values and letters a reading holds, each counted each time it is reached (what is shared counts as often as it is met; a slice's spare places count too). A statement '..UptoSaid' is the law's where the arguments, and the package variables that the reading takes, are together of bulk at most 1048576: NARROWER than '..Said'. Prove '..Said' where nothing that the law and all that it calls make is longer than what came in: it says more and counts as full. Else prove '..UptoSaid'. A law counts once. -/
mutual
def uptoBulk {H : Type} : DataW H → Nat
  | .lit (.string bytes) => bytes.length + 1
  | .lit _ => 1
  | .nil => 1
  | .ptr d => uptoBulk d + 1
  | .slice elems spare => uptoBulkAll elems + uptoBulkAll spare + 1
  | .agg parts => uptoBulkAll parts + 1
  | .iface _ d => uptoBulk d + 1
  | .map entries => uptoBulkEntries entries + 1
  | .held _ => 1
def uptoBulkAll {H : Type} : List (DataW H) → Nat
  | [] => 0
  | d :: r => uptoBulk d + uptoBulkAll r
def uptoBulkEntries {H : Type} : List (Lit × DataW H) → Nat
  | [] => 0
  | x :: r => uptoBulkEntry x + uptoBulkEntries r
def uptoBulkEntry {H : Type} : Lit × DataW H → Nat
  | (.string bytes, d) => bytes.length + uptoBulk d + 1
  | (_, d) => uptoBulk d + 1
 end
def uptoSmall : (H : Type) → List (DataW H) → Bool := fun _ ds => decide (uptoBulkAll ds ≤ 1048576)
def OpenSpec.upto (s : _root_.Go.ChangeSpec) : _root_.Go.OpenSpec := { _root_.Go.OpenSpec.ofChange s with cond := some uptoSmall }

/-- 'angeluslaw25.BoundClocks', WHERE WHAT IT READS IS OF BULK AT MOST 1048576: true; the input reads as it did. -/
def boundClocksUptoRow : OpenClaim := { program := "ytlklbcaoooeioaa", sum := "195a66f6d9e428ff3507e17b857b0975f5739c858f404aba9ac9b889e5770688", func := "angelus/angeluslaw25.BoundClocks", spec := "boundClocks", apart := false, narrowed := true }
def BoundClocksUptoSaid : Prop := boundClocksUptoRow.holds Try.pinned (OpenSpec.upto boundClocksSpec)

/-- 'angeluslaw25.BoundAdds', WHERE WHAT IT READS IS OF BULK AT MOST 1048576: true; the input reads as it did. -/
def boundAddsUptoRow : OpenClaim := { program := "ytlklbcaoooeioaa", sum := "195a66f6d9e428ff3507e17b857b0975f5739c858f404aba9ac9b889e5770688", func := "angelus/angeluslaw25.BoundAdds", spec := "boundAdds", apart := false, narrowed := true }
def BoundAddsUptoSaid : Prop := boundAddsUptoRow.holds Try.pinned (OpenSpec.upto boundAddsSpec)

/-- 'angeluslaw25.BoundIs', WHERE WHAT IT READS IS OF BULK AT MOST 1048576: true; the input reads as it did. -/
def boundIsUptoRow : OpenClaim := { program := "ytlklbcaoooeioaa", sum := "195a66f6d9e428ff3507e17b857b0975f5739c858f404aba9ac9b889e5770688", func := "angelus/angeluslaw25.BoundIs", spec := "boundIs", apart := false, narrowed := true }
def BoundIsUptoSaid : Prop := boundIsUptoRow.holds Try.pinned (OpenSpec.upto boundIsSpec)

/-- 'angeluslaw25.BoundNet', WHERE WHAT IT READS IS OF BULK AT MOST 1048576: true; the input reads as it did. -/
def boundNetUptoRow : OpenClaim := { program := "ytlklbcaoooeioaa", sum := "195a66f6d9e428ff3507e17b857b0975f5739c858f404aba9ac9b889e5770688", func := "angelus/angeluslaw25.BoundNet", spec := "boundNet", apart := false, narrowed := true }
def BoundNetUptoSaid : Prop := boundNetUptoRow.holds Try.pinned (OpenSpec.upto boundNetSpec)

/-- 'angeluslaw25.BoundWaits', WHERE WHAT IT READS IS OF BULK AT MOST 1048576: true; the input reads as it did. -/
def boundWaitsUptoRow : OpenClaim := { program := "ytlklbcaoooeioaa", sum := "195a66f6d9e428ff3507e17b857b0975f5739c858f404aba9ac9b889e5770688", func := "angelus/angeluslaw25.BoundWaits", spec := "boundWaits", apart := false, narrowed := true }
def BoundWaitsUptoSaid : Prop := boundWaitsUptoRow.holds Try.pinned (OpenSpec.upto boundWaitsSpec)

/-- 'angeluslaw25.BoundGrows', WHERE WHAT IT READS IS OF BULK AT MOST 1048576: true; the input reads as it did. -/
def boundGrowsUptoRow : OpenClaim := { program := "ytlklbcaoooeioaa", sum := "195a66f6d9e428ff3507e17b857b0975f5739c858f404aba9ac9b889e5770688", func := "angelus/angeluslaw25.BoundGrows", spec := "boundGrows", apart := false, narrowed := true }
def BoundGrowsUptoSaid : Prop := boundGrowsUptoRow.holds Try.pinned (OpenSpec.upto boundGrowsSpec)

end Rows
end Go.Proofs.Ytlklbcaoooeioaa
