/-
  DERIVED. GIVEN WITH THE SEED: THE CARDS: each row of YtofflnklbdhaiaaDoorRows.lean that lists a variable, with what it lists TIED to the program's text (the seventh form; the later family's looks); each row that meets fmt, with fmt's text TOLD by the authors' own Lean function (tested against real Go, not proved from fmt's source: count such statements apart). THE CARD IS WHAT COUNTS. Prove the row's statement (the work); the ties are given (YtofflnklbdhaiaaDoorTie.lean); close each card by the builder's one call (the guide's Derived/Test/ToyasCard.lean, 'card_holds'). Laid BY PROGRAM, IN A SANDBOX (cutbox-door.mjs). By AI agents, Wed Nov 11 2026. No macro, syntax, notation, axiom, sorry.
-/
import Derived.Test.YtofflnklbdhaiaaDoorRows
import GoSem.ClaimSeven
namespace Go.Proofs.YtofflnklbdhaiaaDoor
namespace Rows

/-- THE TIED CARD OF 'angeluslaw09.EtherHears'. -/
def etherHearsCard : Claim7 := { stood := { row := etherHearsRow, standIns := [], harness := (true, "1e0db47e3a14bf0fe2a9e7733aa4e0af92afec4c451ab6a03c27473b9eef927e"), looks := false }, kinds := [], alts := [], laidByText := true, laidKinds := [.data], laidTests := true, laidLooks := .later }
def EtherHearsCardSaid : Prop := Claim7.holds Tryd.pinned (.plain (OpenSpec.ofChange etherHearsSpec)) etherHearsCard

/-- THE TIED CARD OF 'angeluslaw09.EtherLess'. -/
def etherLessCard : Claim7 := { stood := { row := etherLessRow, standIns := [], harness := (true, "1e0db47e3a14bf0fe2a9e7733aa4e0af92afec4c451ab6a03c27473b9eef927e"), looks := false }, kinds := [], alts := [], laidByText := true, laidKinds := [.data], laidTests := true, laidLooks := .later }
def EtherLessCardSaid : Prop := Claim7.holds Tryd.pinned (.plain (OpenSpec.ofChange etherLessSpec)) etherLessCard

/-- THE TIED CARD OF 'angeluslaw09.EtherOne'. -/
def etherOneCard : Claim7 := { stood := { row := etherOneRow, standIns := [], harness := (true, "1e0db47e3a14bf0fe2a9e7733aa4e0af92afec4c451ab6a03c27473b9eef927e"), looks := false }, kinds := [], alts := [], laidByText := true, laidKinds := [.data], laidTests := true, laidLooks := .later }
def EtherOneCardSaid : Prop := Claim7.holds Tryd.pinned (.plain (OpenSpec.ofChange etherOneSpec)) etherOneCard

/-- THE SECOND FORM's CARD OF 'angeluslaw09.EtherHears'. -/
def etherHearsUptoCard : Claim7 := { stood := { row := etherHearsUptoRow, standIns := [], harness := (true, "1e0db47e3a14bf0fe2a9e7733aa4e0af92afec4c451ab6a03c27473b9eef927e"), looks := false }, kinds := [], alts := [], laidByText := true, laidKinds := [.data], laidTests := true, laidLooks := .later }
def EtherHearsUptoCardSaid : Prop := Claim7.holds Tryd.pinned (.plain (OpenSpec.upto etherHearsSpec)) etherHearsUptoCard

/-- THE SECOND FORM's CARD OF 'angeluslaw09.EtherLess'. -/
def etherLessUptoCard : Claim7 := { stood := { row := etherLessUptoRow, standIns := [], harness := (true, "1e0db47e3a14bf0fe2a9e7733aa4e0af92afec4c451ab6a03c27473b9eef927e"), looks := false }, kinds := [], alts := [], laidByText := true, laidKinds := [.data], laidTests := true, laidLooks := .later }
def EtherLessUptoCardSaid : Prop := Claim7.holds Tryd.pinned (.plain (OpenSpec.upto etherLessSpec)) etherLessUptoCard

/-- THE SECOND FORM's CARD OF 'angeluslaw09.EtherOne'. -/
def etherOneUptoCard : Claim7 := { stood := { row := etherOneUptoRow, standIns := [], harness := (true, "1e0db47e3a14bf0fe2a9e7733aa4e0af92afec4c451ab6a03c27473b9eef927e"), looks := false }, kinds := [], alts := [], laidByText := true, laidKinds := [.data], laidTests := true, laidLooks := .later }
def EtherOneUptoCardSaid : Prop := Claim7.holds Tryd.pinned (.plain (OpenSpec.upto etherOneSpec)) etherOneUptoCard
end Rows
end Go.Proofs.YtofflnklbdhaiaaDoor
