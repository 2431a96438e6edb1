/-
  DERIVED. GIVEN WITH THE SEED: THE CARDS: each row of YtckipboebllkhaaDoorRows.lean that lists a variable, with what it lists TIED to the program's text (the seventh form; the later family's looks); each row that meets fmt, with fmt's text TOLD by the authors' own Lean function (tested against real Go, not proved from fmt's source: count such statements apart). THE CARD IS WHAT COUNTS. Prove the row's statement (the work); the ties are given (YtckipboebllkhaaDoorTie.lean); close each card by the builder's one call (the guide's Derived/Test/ToyasCard.lean, 'card_holds'). Laid BY PROGRAM, IN A SANDBOX (cutbox-door.mjs). By AI agents, Wed Nov 11 2026. No macro, syntax, notation, axiom, sorry.
-/
import Derived.Test.YtckipboebllkhaaDoorRows
import GoSem.ClaimSeven
namespace Go.Proofs.YtckipboebllkhaaDoor
namespace Rows

/-- THE TIED CARD OF 'edenlaw01.FaultNumbers'. -/
def faultNumbersCard : Claim7 := { stood := { row := faultNumbersRow, standIns := [], harness := (true, "70a5bb9837e8b1dbce4f9847174c5c9071e12b65924b1245c51af564459655c0"), looks := true }, kinds := [], alts := [], laidByText := true, laidKinds := [.handle, .sentinel, .sentinel, .sentinel, .sentinel, .sentinel, .sentinel, .sentinel, .sentinel, .sentinel, .sentinel, .sentinel, .sentinel], laidTests := true, laidLooks := .later }
def FaultNumbersCardSaid : Prop := Claim7.holds Tryd.pinned (.plain (OpenSpec.ofChange faultNumbersSpec)) faultNumbersCard

/-- THE TIED CARD OF 'edenlaw01.FaultKeeps'. -/
def faultKeepsCard : Claim7 := { stood := { row := faultKeepsRow, standIns := [], harness := (true, "70a5bb9837e8b1dbce4f9847174c5c9071e12b65924b1245c51af564459655c0"), looks := true }, kinds := [], alts := [], laidByText := true, laidKinds := [.handle, .sentinel, .sentinel, .sentinel, .sentinel, .sentinel, .sentinel, .sentinel, .sentinel, .sentinel, .sentinel, .sentinel, .sentinel], laidTests := true, laidLooks := .later }
def FaultKeepsCardSaid : Prop := Claim7.holds Tryd.pinned (.plain (OpenSpec.ofChange faultKeepsSpec)) faultKeepsCard

/-- THE TIED CARD OF 'edenlaw01.FaultChains'. -/
def faultChainsCard : Claim7 := { stood := { row := faultChainsRow, standIns := [], harness := (true, "70a5bb9837e8b1dbce4f9847174c5c9071e12b65924b1245c51af564459655c0"), looks := true }, kinds := [], alts := [], laidByText := true, laidKinds := [.handle, .sentinel, .sentinel, .sentinel, .sentinel, .sentinel, .sentinel, .sentinel, .sentinel, .sentinel, .sentinel, .sentinel, .sentinel], laidTests := true, laidLooks := .later }
def FaultChainsCardSaid : Prop := Claim7.holds Tryd.pinned (.plain (OpenSpec.ofChange faultChainsSpec)) faultChainsCard

/-- THE TIED CARD OF 'edenlaw01.FaultWraps'. -/
def faultWrapsCard : Claim7 := { stood := { row := faultWrapsRow, standIns := [], harness := (true, "70a5bb9837e8b1dbce4f9847174c5c9071e12b65924b1245c51af564459655c0"), looks := true }, kinds := [], alts := [], laidByText := true, laidKinds := [.handle, .sentinel, .sentinel, .sentinel, .sentinel, .sentinel, .sentinel, .sentinel, .sentinel, .sentinel, .sentinel, .sentinel, .sentinel], laidTests := true, laidLooks := .later }
def FaultWrapsCardSaid : Prop := Claim7.holds Tryd.pinned (.plain (OpenSpec.ofChange faultWrapsSpec)) faultWrapsCard

/-- THE TIED CARD OF 'edenlaw01.FaultMakes'. -/
def faultMakesCard : Claim7 := { stood := { row := faultMakesRow, standIns := [], harness := (true, "70a5bb9837e8b1dbce4f9847174c5c9071e12b65924b1245c51af564459655c0"), looks := true }, kinds := [], alts := [], laidByText := true, laidKinds := [.data, .data, .data, .handle, .sentinel, .sentinel, .sentinel, .sentinel, .sentinel, .sentinel, .sentinel, .sentinel, .sentinel, .sentinel, .sentinel, .sentinel], laidTests := true, laidLooks := .later }
def FaultMakesCardSaid : Prop := Claim7.holds Tryd.pinned (.plain (OpenSpec.ofChange faultMakesSpec)) faultMakesCard

/-- THE TIED CARD OF 'edentop.WholePowers'. -/
def wholePowersCard : Claim7 := { stood := { row := wholePowersRow, standIns := [], harness := (true, "70a5bb9837e8b1dbce4f9847174c5c9071e12b65924b1245c51af564459655c0"), looks := true }, kinds := [], alts := [], laidByText := true, laidKinds := [.sentinel, .sentinel, .sentinel, .sentinel, .sentinel, .sentinel, .sentinel, .sentinel, .sentinel, .sentinel, .sentinel, .sentinel], laidTests := true, laidLooks := .later }
def WholePowersCardSaid : Prop := Claim7.holds Tryd.pinned (.plain (OpenSpec.ofChange wholePowersSpec)) wholePowersCard

/-- THE SECOND FORM's CARD OF 'edenlaw01.FaultNumbers'. -/
def faultNumbersUptoCard : Claim7 := { stood := { row := faultNumbersUptoRow, standIns := [], harness := (true, "70a5bb9837e8b1dbce4f9847174c5c9071e12b65924b1245c51af564459655c0"), looks := true }, kinds := [], alts := [], laidByText := true, laidKinds := [.handle, .sentinel, .sentinel, .sentinel, .sentinel, .sentinel, .sentinel, .sentinel, .sentinel, .sentinel, .sentinel, .sentinel, .sentinel], laidTests := true, laidLooks := .later }
def FaultNumbersUptoCardSaid : Prop := Claim7.holds Tryd.pinned (.plain (OpenSpec.upto faultNumbersSpec)) faultNumbersUptoCard

/-- THE SECOND FORM's CARD OF 'edenlaw01.FaultKeeps'. -/
def faultKeepsUptoCard : Claim7 := { stood := { row := faultKeepsUptoRow, standIns := [], harness := (true, "70a5bb9837e8b1dbce4f9847174c5c9071e12b65924b1245c51af564459655c0"), looks := true }, kinds := [], alts := [], laidByText := true, laidKinds := [.handle, .sentinel, .sentinel, .sentinel, .sentinel, .sentinel, .sentinel, .sentinel, .sentinel, .sentinel, .sentinel, .sentinel, .sentinel], laidTests := true, laidLooks := .later }
def FaultKeepsUptoCardSaid : Prop := Claim7.holds Tryd.pinned (.plain (OpenSpec.upto faultKeepsSpec)) faultKeepsUptoCard

/-- THE SECOND FORM's CARD OF 'edenlaw01.FaultChains'. -/
def faultChainsUptoCard : Claim7 := { stood := { row := faultChainsUptoRow, standIns := [], harness := (true, "70a5bb9837e8b1dbce4f9847174c5c9071e12b65924b1245c51af564459655c0"), looks := true }, kinds := [], alts := [], laidByText := true, laidKinds := [.handle, .sentinel, .sentinel, .sentinel, .sentinel, .sentinel, .sentinel, .sentinel, .sentinel, .sentinel, .sentinel, .sentinel, .sentinel], laidTests := true, laidLooks := .later }
def FaultChainsUptoCardSaid : Prop := Claim7.holds Tryd.pinned (.plain (OpenSpec.upto faultChainsSpec)) faultChainsUptoCard

/-- THE SECOND FORM's CARD OF 'edenlaw01.FaultWraps'. -/
def faultWrapsUptoCard : Claim7 := { stood := { row := faultWrapsUptoRow, standIns := [], harness := (true, "70a5bb9837e8b1dbce4f9847174c5c9071e12b65924b1245c51af564459655c0"), looks := true }, kinds := [], alts := [], laidByText := true, laidKinds := [.handle, .sentinel, .sentinel, .sentinel, .sentinel, .sentinel, .sentinel, .sentinel, .sentinel, .sentinel, .sentinel, .sentinel, .sentinel], laidTests := true, laidLooks := .later }
def FaultWrapsUptoCardSaid : Prop := Claim7.holds Tryd.pinned (.plain (OpenSpec.upto faultWrapsSpec)) faultWrapsUptoCard

/-- THE SECOND FORM's CARD OF 'edenlaw01.FaultMakes'. -/
def faultMakesUptoCard : Claim7 := { stood := { row := faultMakesUptoRow, standIns := [], harness := (true, "70a5bb9837e8b1dbce4f9847174c5c9071e12b65924b1245c51af564459655c0"), looks := true }, kinds := [], alts := [], laidByText := true, laidKinds := [.data, .data, .data, .handle, .sentinel, .sentinel, .sentinel, .sentinel, .sentinel, .sentinel, .sentinel, .sentinel, .sentinel, .sentinel, .sentinel, .sentinel], laidTests := true, laidLooks := .later }
def FaultMakesUptoCardSaid : Prop := Claim7.holds Tryd.pinned (.plain (OpenSpec.upto faultMakesSpec)) faultMakesUptoCard

/-- THE SECOND FORM's CARD OF 'edentop.WholePowers'. -/
def wholePowersUptoCard : Claim7 := { stood := { row := wholePowersUptoRow, standIns := [], harness := (true, "70a5bb9837e8b1dbce4f9847174c5c9071e12b65924b1245c51af564459655c0"), looks := true }, kinds := [], alts := [], laidByText := true, laidKinds := [.sentinel, .sentinel, .sentinel, .sentinel, .sentinel, .sentinel, .sentinel, .sentinel, .sentinel, .sentinel, .sentinel, .sentinel], laidTests := true, laidLooks := .later }
def WholePowersUptoCardSaid : Prop := Claim7.holds Tryd.pinned (.plain (OpenSpec.upto wholePowersSpec)) wholePowersUptoCard
end Rows
end Go.Proofs.YtckipboebllkhaaDoor
