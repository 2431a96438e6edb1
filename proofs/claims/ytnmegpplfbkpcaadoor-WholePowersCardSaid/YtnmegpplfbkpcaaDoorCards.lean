/-
  DERIVED. GIVEN WITH THE SEED: THE CARDS: each row of YtnmegpplfbkpcaaDoorRows.lean that lists a variable, with what it lists TIED to the program's text (the seventh form; the later family's looks); each row that meets fmt, with fmt's text TOLD by the authors' own Lean function (tested against real Go, not proved from fmt's source: count such statements apart). THE CARD IS WHAT COUNTS. Prove the row's statement (the work); the ties are given (YtnmegpplfbkpcaaDoorTie.lean); close each card by the builder's one call (the guide's Derived/Test/ToyasCard.lean, 'card_holds'). Laid BY PROGRAM, IN A SANDBOX (cutbox-door.mjs). By AI agents, Wed Nov 11 2026. No macro, syntax, notation, axiom, sorry.
-/
import Derived.Test.YtnmegpplfbkpcaaDoorRows
import GoSem.ClaimSeven
namespace Go.Proofs.YtnmegpplfbkpcaaDoor
namespace Rows

/-- THE TIED CARD OF 'edentop.WholePowers'. -/
def wholePowersCard : Claim7 := { stood := { row := wholePowersRow, standIns := [], harness := (true, "62d420cd1690af7fa7aaf0f5e69f5488ba0d18ceb3d9f154f1c7055be247e9a8"), looks := true }, kinds := [], alts := [], laidByText := true, laidKinds := [.sentinel, .sentinel, .sentinel, .sentinel, .sentinel, .sentinel, .sentinel, .sentinel, .sentinel, .sentinel, .sentinel, .sentinel], laidTests := true, laidLooks := .later }
def WholePowersCardSaid : Prop := Claim7.holds Tryd.pinned (.plain (OpenSpec.ofChange wholePowersSpec)) wholePowersCard

/-- THE TIED CARD OF 'edenlaw03.WordAll'. -/
def wordAllCard : Claim7 := { stood := { row := wordAllRow, standIns := [], harness := (true, "62d420cd1690af7fa7aaf0f5e69f5488ba0d18ceb3d9f154f1c7055be247e9a8"), looks := true }, kinds := [], alts := [], laidByText := true, laidKinds := [.handle, .sentinel, .sentinel, .sentinel, .sentinel, .sentinel, .sentinel, .sentinel, .sentinel, .sentinel, .sentinel, .sentinel, .sentinel], laidTests := true, laidLooks := .later }
def WordAllCardSaid : Prop := Claim7.holds Tryd.pinned (.plain (OpenSpec.ofChange wordAllSpec)) wordAllCard

/-- THE SECOND FORM's CARD OF 'edentop.WholePowers'. -/
def wholePowersUptoCard : Claim7 := { stood := { row := wholePowersUptoRow, standIns := [], harness := (true, "62d420cd1690af7fa7aaf0f5e69f5488ba0d18ceb3d9f154f1c7055be247e9a8"), looks := true }, kinds := [], alts := [], laidByText := true, laidKinds := [.sentinel, .sentinel, .sentinel, .sentinel, .sentinel, .sentinel, .sentinel, .sentinel, .sentinel, .sentinel, .sentinel, .sentinel], laidTests := true, laidLooks := .later }
def WholePowersUptoCardSaid : Prop := Claim7.holds Tryd.pinned (.plain (OpenSpec.upto wholePowersSpec)) wholePowersUptoCard

/-- THE SECOND FORM's CARD OF 'edenlaw03.WordAll'. -/
def wordAllUptoCard : Claim7 := { stood := { row := wordAllUptoRow, standIns := [], harness := (true, "62d420cd1690af7fa7aaf0f5e69f5488ba0d18ceb3d9f154f1c7055be247e9a8"), looks := true }, kinds := [], alts := [], laidByText := true, laidKinds := [.handle, .sentinel, .sentinel, .sentinel, .sentinel, .sentinel, .sentinel, .sentinel, .sentinel, .sentinel, .sentinel, .sentinel, .sentinel], laidTests := true, laidLooks := .later }
def WordAllUptoCardSaid : Prop := Claim7.holds Tryd.pinned (.plain (OpenSpec.upto wordAllSpec)) wordAllUptoCard
end Rows
end Go.Proofs.YtnmegpplfbkpcaaDoor
