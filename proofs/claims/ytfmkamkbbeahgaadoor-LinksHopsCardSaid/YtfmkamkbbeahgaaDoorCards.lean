/-
  DERIVED. GIVEN WITH THE SEED: THE CARDS: each row of YtfmkamkbbeahgaaDoorRows.lean that lists a variable, with what it lists TIED to the program's text (the seventh form; the later family's looks); each row that meets fmt, with fmt's text TOLD by the authors' own Lean function (tested against real Go, not proved from fmt's source: count such statements apart). THE CARD IS WHAT COUNTS. Prove the row's statement (the work); the ties are given (YtfmkamkbbeahgaaDoorTie.lean); close each card by the builder's one call (the guide's Derived/Test/ToyasCard.lean, 'card_holds'). Laid BY PROGRAM, IN A SANDBOX (cutbox-door.mjs). By AI agents, Wed Nov 11 2026. No macro, syntax, notation, axiom, sorry.
-/
import Derived.Test.YtfmkamkbbeahgaaDoorRows
import GoSem.ClaimSeven
namespace Go.Proofs.YtfmkamkbbeahgaaDoor
namespace Rows

/-- THE TIED CARD OF 'angeluslaw08.LinksEach'. -/
def linksEachCard : Claim7 := { stood := { row := linksEachRow, standIns := [], harness := (true, "aa64414c7e0de76e589ddc2fff9bbd6bf1b463cbef15488a6584ed06dc218b0c"), looks := false }, kinds := [], alts := [], laidByText := true, laidKinds := [.data], laidTests := true, laidLooks := .later }
def LinksEachCardSaid : Prop := Claim7.holds Tryd.pinned (.plain (OpenSpec.ofChange linksEachSpec)) linksEachCard

/-- THE TIED CARD OF 'angeluslaw08.LinksFewer'. -/
def linksFewerCard : Claim7 := { stood := { row := linksFewerRow, standIns := [], harness := (true, "aa64414c7e0de76e589ddc2fff9bbd6bf1b463cbef15488a6584ed06dc218b0c"), looks := false }, kinds := [], alts := [], laidByText := true, laidKinds := [.data], laidTests := true, laidLooks := .later }
def LinksFewerCardSaid : Prop := Claim7.holds Tryd.pinned (.plain (OpenSpec.ofChange linksFewerSpec)) linksFewerCard

/-- THE TIED CARD OF 'angeluslaw08.LinksNear'. -/
def linksNearCard : Claim7 := { stood := { row := linksNearRow, standIns := [], harness := (true, "aa64414c7e0de76e589ddc2fff9bbd6bf1b463cbef15488a6584ed06dc218b0c"), looks := false }, kinds := [], alts := [], laidByText := true, laidKinds := [.data], laidTests := true, laidLooks := .later }
def LinksNearCardSaid : Prop := Claim7.holds Tryd.pinned (.plain (OpenSpec.ofChange linksNearSpec)) linksNearCard

/-- THE TIED CARD OF 'angeluslaw08.LinksHops'. -/
def linksHopsCard : Claim7 := { stood := { row := linksHopsRow, standIns := [], harness := (true, "aa64414c7e0de76e589ddc2fff9bbd6bf1b463cbef15488a6584ed06dc218b0c"), looks := false }, kinds := [], alts := [], laidByText := true, laidKinds := [.data], laidTests := true, laidLooks := .later }
def LinksHopsCardSaid : Prop := Claim7.holds Tryd.pinned (.plain (OpenSpec.ofChange linksHopsSpec)) linksHopsCard

/-- THE TIED CARD OF 'angeluslaw08.LinksMore'. -/
def linksMoreCard : Claim7 := { stood := { row := linksMoreRow, standIns := [], harness := (true, "aa64414c7e0de76e589ddc2fff9bbd6bf1b463cbef15488a6584ed06dc218b0c"), looks := false }, kinds := [], alts := [], laidByText := true, laidKinds := [.data], laidTests := true, laidLooks := .later }
def LinksMoreCardSaid : Prop := Claim7.holds Tryd.pinned (.plain (OpenSpec.ofChange linksMoreSpec)) linksMoreCard

/-- THE TIED CARD OF 'angeluslaw08.LinksDo'. -/
def linksDoCard : Claim7 := { stood := { row := linksDoRow, standIns := [], harness := (true, "aa64414c7e0de76e589ddc2fff9bbd6bf1b463cbef15488a6584ed06dc218b0c"), looks := false }, kinds := [], alts := [], laidByText := true, laidKinds := [.data], laidTests := true, laidLooks := .later }
def LinksDoCardSaid : Prop := Claim7.holds Tryd.pinned (.plain (OpenSpec.ofChange linksDoSpec)) linksDoCard

/-- THE SECOND FORM's CARD OF 'angeluslaw08.LinksEach'. -/
def linksEachUptoCard : Claim7 := { stood := { row := linksEachUptoRow, standIns := [], harness := (true, "aa64414c7e0de76e589ddc2fff9bbd6bf1b463cbef15488a6584ed06dc218b0c"), looks := false }, kinds := [], alts := [], laidByText := true, laidKinds := [.data], laidTests := true, laidLooks := .later }
def LinksEachUptoCardSaid : Prop := Claim7.holds Tryd.pinned (.plain (OpenSpec.upto linksEachSpec)) linksEachUptoCard

/-- THE SECOND FORM's CARD OF 'angeluslaw08.LinksFewer'. -/
def linksFewerUptoCard : Claim7 := { stood := { row := linksFewerUptoRow, standIns := [], harness := (true, "aa64414c7e0de76e589ddc2fff9bbd6bf1b463cbef15488a6584ed06dc218b0c"), looks := false }, kinds := [], alts := [], laidByText := true, laidKinds := [.data], laidTests := true, laidLooks := .later }
def LinksFewerUptoCardSaid : Prop := Claim7.holds Tryd.pinned (.plain (OpenSpec.upto linksFewerSpec)) linksFewerUptoCard

/-- THE SECOND FORM's CARD OF 'angeluslaw08.LinksNear'. -/
def linksNearUptoCard : Claim7 := { stood := { row := linksNearUptoRow, standIns := [], harness := (true, "aa64414c7e0de76e589ddc2fff9bbd6bf1b463cbef15488a6584ed06dc218b0c"), looks := false }, kinds := [], alts := [], laidByText := true, laidKinds := [.data], laidTests := true, laidLooks := .later }
def LinksNearUptoCardSaid : Prop := Claim7.holds Tryd.pinned (.plain (OpenSpec.upto linksNearSpec)) linksNearUptoCard

/-- THE SECOND FORM's CARD OF 'angeluslaw08.LinksHops'. -/
def linksHopsUptoCard : Claim7 := { stood := { row := linksHopsUptoRow, standIns := [], harness := (true, "aa64414c7e0de76e589ddc2fff9bbd6bf1b463cbef15488a6584ed06dc218b0c"), looks := false }, kinds := [], alts := [], laidByText := true, laidKinds := [.data], laidTests := true, laidLooks := .later }
def LinksHopsUptoCardSaid : Prop := Claim7.holds Tryd.pinned (.plain (OpenSpec.upto linksHopsSpec)) linksHopsUptoCard

/-- THE SECOND FORM's CARD OF 'angeluslaw08.LinksMore'. -/
def linksMoreUptoCard : Claim7 := { stood := { row := linksMoreUptoRow, standIns := [], harness := (true, "aa64414c7e0de76e589ddc2fff9bbd6bf1b463cbef15488a6584ed06dc218b0c"), looks := false }, kinds := [], alts := [], laidByText := true, laidKinds := [.data], laidTests := true, laidLooks := .later }
def LinksMoreUptoCardSaid : Prop := Claim7.holds Tryd.pinned (.plain (OpenSpec.upto linksMoreSpec)) linksMoreUptoCard

/-- THE SECOND FORM's CARD OF 'angeluslaw08.LinksDo'. -/
def linksDoUptoCard : Claim7 := { stood := { row := linksDoUptoRow, standIns := [], harness := (true, "aa64414c7e0de76e589ddc2fff9bbd6bf1b463cbef15488a6584ed06dc218b0c"), looks := false }, kinds := [], alts := [], laidByText := true, laidKinds := [.data], laidTests := true, laidLooks := .later }
def LinksDoUptoCardSaid : Prop := Claim7.holds Tryd.pinned (.plain (OpenSpec.upto linksDoSpec)) linksDoUptoCard
end Rows
end Go.Proofs.YtfmkamkbbeahgaaDoor
