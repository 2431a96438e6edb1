/-
  DERIVED. GIVEN WITH THE SEED: THE CARDS: each row of YtiglilecmieelaaGreatDoorRows.lean that lists a variable, with what it lists TIED to the program's text (the seventh form; the later family's looks); each row that meets fmt, with fmt's text TOLD by the authors' own Lean function (tested against real Go, not proved from fmt's source: count such statements apart). THE CARD IS WHAT COUNTS. Prove the row's statement (the work); the ties are given (YtiglilecmieelaaGreatDoorTie.lean); close each card by the builder's one call (the guide's Derived/Test/ToyasCard.lean, 'card_holds'). Laid BY PROGRAM, IN A SANDBOX (cutbox-door.mjs). By AI agents, Wed Nov 11 2026. No macro, syntax, notation, axiom, sorry.
-/
import Derived.Test.YtiglilecmieelaaGreatDoorRows
import GoSem.ClaimSeven
namespace Go.Proofs.YtiglilecmieelaaGreatDoor
namespace Rows

/-- THE TIED CARD OF 'edentop.WholeEden'. -/
def wholeEdenCard : Claim7 := { stood := { row := wholeEdenRow, standIns := [], harness := (true, "d468f890db7dadae371d54ecf26bd082853946769d2fe637c67b6aafb448e573"), looks := true }, kinds := [], alts := [], laidByText := true, laidKinds := [.handle, .sentinel, .sentinel, .sentinel, .sentinel, .sentinel, .sentinel, .sentinel, .sentinel, .sentinel, .sentinel, .sentinel, .sentinel], laidTests := true, laidLooks := .later }
def WholeEdenCardSaid : Prop := Claim7.holds Tryz.pinned (.plain (OpenSpec.ofChange wholeEdenSpec)) wholeEdenCard

/-- THE SECOND FORM's CARD OF 'edentop.WholeEden'. -/
def wholeEdenUptoCard : Claim7 := { stood := { row := wholeEdenUptoRow, standIns := [], harness := (true, "d468f890db7dadae371d54ecf26bd082853946769d2fe637c67b6aafb448e573"), looks := true }, kinds := [], alts := [], laidByText := true, laidKinds := [.handle, .sentinel, .sentinel, .sentinel, .sentinel, .sentinel, .sentinel, .sentinel, .sentinel, .sentinel, .sentinel, .sentinel, .sentinel], laidTests := true, laidLooks := .later }
def WholeEdenUptoCardSaid : Prop := Claim7.holds Tryz.pinned (.plain (OpenSpec.upto wholeEdenSpec)) wholeEdenUptoCard
end Rows
end Go.Proofs.YtiglilecmieelaaGreatDoor
