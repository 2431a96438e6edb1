/-
  DERIVED. GIVEN WITH THE SEED: THE CARDS: each row of YtnlpobkmjhajcaaDoorRows.lean that lists a variable, with what it lists TIED to the program's text (the seventh form; the later family's looks); each row that meets fmt, with fmt's text TOLD by the authors' own Lean function (tested against real Go, not proved from fmt's source: count such statements apart). THE CARD IS WHAT COUNTS. Prove the row's statement (the work); the ties are given (YtnlpobkmjhajcaaDoorTie.lean); close each card by the builder's one call (the guide's Derived/Test/ToyasCard.lean, 'card_holds'). Laid BY PROGRAM, IN A SANDBOX (cutbox-door.mjs). By AI agents, Wed Nov 11 2026. No macro, syntax, notation, axiom, sorry.
-/
import Derived.Test.YtnlpobkmjhajcaaDoorRows
import GoSem.ClaimSeven
namespace Go.Proofs.YtnlpobkmjhajcaaDoor
namespace Rows

/-- THE TIED CARD OF 'edenlaw21.PatchTurns'. -/
def patchTurnsCard : Claim7 := { stood := { row := patchTurnsRow, standIns := [], harness := (true, "3084c118f8566f379a2f3dc3ebad1813b978f2ffef602f4381c63af34db2cd8c"), looks := true }, kinds := [], alts := [], laidByText := true, laidKinds := [.data, .sentinel, .sentinel, .sentinel, .sentinel, .sentinel, .sentinel, .sentinel, .sentinel, .sentinel, .sentinel, .sentinel, .sentinel, .pinned], laidTests := true, laidLooks := .later }
def PatchTurnsCardSaid : Prop := Claim7.holds Tryd.pinned (.plain (OpenSpec.ofChange patchTurnsSpec)) patchTurnsCard

/-- THE TIED CARD OF 'edenlaw21.PatchCuts'. -/
def patchCutsCard : Claim7 := { stood := { row := patchCutsRow, standIns := [], harness := (true, "3084c118f8566f379a2f3dc3ebad1813b978f2ffef602f4381c63af34db2cd8c"), looks := true }, kinds := [], alts := [], laidByText := true, laidKinds := [.data, .sentinel, .sentinel, .sentinel, .sentinel, .sentinel, .sentinel, .sentinel, .sentinel, .sentinel, .sentinel, .sentinel, .sentinel, .pinned], laidTests := true, laidLooks := .later }
def PatchCutsCardSaid : Prop := Claim7.holds Tryd.pinned (.plain (OpenSpec.ofChange patchCutsSpec)) patchCutsCard

/-- THE TIED CARD OF 'edenlaw21.PatchKeeps'. -/
def patchKeepsCard : Claim7 := { stood := { row := patchKeepsRow, standIns := [], harness := (true, "3084c118f8566f379a2f3dc3ebad1813b978f2ffef602f4381c63af34db2cd8c"), looks := true }, kinds := [], alts := [], laidByText := true, laidKinds := [.data, .sentinel, .sentinel, .sentinel, .sentinel, .sentinel, .sentinel, .sentinel, .sentinel, .sentinel, .sentinel, .sentinel, .sentinel, .pinned], laidTests := true, laidLooks := .later }
def PatchKeepsCardSaid : Prop := Claim7.holds Tryd.pinned (.plain (OpenSpec.ofChange patchKeepsSpec)) patchKeepsCard

/-- THE TIED CARD OF 'edenlaw21.PatchTexts'. -/
def patchTextsCard : Claim7 := { stood := { row := patchTextsRow, standIns := [], harness := (true, "3084c118f8566f379a2f3dc3ebad1813b978f2ffef602f4381c63af34db2cd8c"), looks := true }, kinds := [], alts := [], laidByText := true, laidKinds := [.data, .handle, .sentinel, .sentinel, .sentinel, .sentinel, .sentinel, .sentinel, .sentinel, .sentinel, .sentinel, .sentinel, .sentinel, .sentinel, .pinned], laidTests := true, laidLooks := .later }
def PatchTextsCardSaid : Prop := Claim7.holds Tryd.pinned (.plain (OpenSpec.ofChange patchTextsSpec)) patchTextsCard

/-- THE TIED CARD OF 'edenlaw21.PatchAll'. -/
def patchAllCard : Claim7 := { stood := { row := patchAllRow, standIns := [], harness := (true, "3084c118f8566f379a2f3dc3ebad1813b978f2ffef602f4381c63af34db2cd8c"), looks := true }, kinds := [], alts := [], laidByText := true, laidKinds := [.data, .handle, .sentinel, .sentinel, .sentinel, .sentinel, .sentinel, .sentinel, .sentinel, .sentinel, .sentinel, .sentinel, .sentinel, .sentinel, .pinned], laidTests := true, laidLooks := .later }
def PatchAllCardSaid : Prop := Claim7.holds Tryd.pinned (.plain (OpenSpec.ofChange patchAllSpec)) patchAllCard

/-- THE TIED CARD OF 'edenlaw21.PatchColumns'. -/
def patchColumnsCard : Claim7 := { stood := { row := patchColumnsRow, standIns := [], harness := (true, "3084c118f8566f379a2f3dc3ebad1813b978f2ffef602f4381c63af34db2cd8c"), looks := true }, kinds := [], alts := [], laidByText := true, laidKinds := [.data, .handle, .sentinel, .sentinel, .sentinel, .sentinel, .sentinel, .sentinel, .sentinel, .sentinel, .sentinel, .sentinel, .sentinel, .sentinel, .pinned], laidTests := true, laidLooks := .later }
def PatchColumnsCardSaid : Prop := Claim7.holds Tryd.pinned (.plain (OpenSpec.ofChange patchColumnsSpec)) patchColumnsCard

/-- THE SECOND FORM's CARD OF 'edenlaw21.PatchTurns'. -/
def patchTurnsUptoCard : Claim7 := { stood := { row := patchTurnsUptoRow, standIns := [], harness := (true, "3084c118f8566f379a2f3dc3ebad1813b978f2ffef602f4381c63af34db2cd8c"), looks := true }, kinds := [], alts := [], laidByText := true, laidKinds := [.data, .sentinel, .sentinel, .sentinel, .sentinel, .sentinel, .sentinel, .sentinel, .sentinel, .sentinel, .sentinel, .sentinel, .sentinel, .pinned], laidTests := true, laidLooks := .later }
def PatchTurnsUptoCardSaid : Prop := Claim7.holds Tryd.pinned (.plain (OpenSpec.upto patchTurnsSpec)) patchTurnsUptoCard

/-- THE SECOND FORM's CARD OF 'edenlaw21.PatchCuts'. -/
def patchCutsUptoCard : Claim7 := { stood := { row := patchCutsUptoRow, standIns := [], harness := (true, "3084c118f8566f379a2f3dc3ebad1813b978f2ffef602f4381c63af34db2cd8c"), looks := true }, kinds := [], alts := [], laidByText := true, laidKinds := [.data, .sentinel, .sentinel, .sentinel, .sentinel, .sentinel, .sentinel, .sentinel, .sentinel, .sentinel, .sentinel, .sentinel, .sentinel, .pinned], laidTests := true, laidLooks := .later }
def PatchCutsUptoCardSaid : Prop := Claim7.holds Tryd.pinned (.plain (OpenSpec.upto patchCutsSpec)) patchCutsUptoCard

/-- THE SECOND FORM's CARD OF 'edenlaw21.PatchKeeps'. -/
def patchKeepsUptoCard : Claim7 := { stood := { row := patchKeepsUptoRow, standIns := [], harness := (true, "3084c118f8566f379a2f3dc3ebad1813b978f2ffef602f4381c63af34db2cd8c"), looks := true }, kinds := [], alts := [], laidByText := true, laidKinds := [.data, .sentinel, .sentinel, .sentinel, .sentinel, .sentinel, .sentinel, .sentinel, .sentinel, .sentinel, .sentinel, .sentinel, .sentinel, .pinned], laidTests := true, laidLooks := .later }
def PatchKeepsUptoCardSaid : Prop := Claim7.holds Tryd.pinned (.plain (OpenSpec.upto patchKeepsSpec)) patchKeepsUptoCard

/-- THE SECOND FORM's CARD OF 'edenlaw21.PatchTexts'. -/
def patchTextsUptoCard : Claim7 := { stood := { row := patchTextsUptoRow, standIns := [], harness := (true, "3084c118f8566f379a2f3dc3ebad1813b978f2ffef602f4381c63af34db2cd8c"), looks := true }, kinds := [], alts := [], laidByText := true, laidKinds := [.data, .handle, .sentinel, .sentinel, .sentinel, .sentinel, .sentinel, .sentinel, .sentinel, .sentinel, .sentinel, .sentinel, .sentinel, .sentinel, .pinned], laidTests := true, laidLooks := .later }
def PatchTextsUptoCardSaid : Prop := Claim7.holds Tryd.pinned (.plain (OpenSpec.upto patchTextsSpec)) patchTextsUptoCard

/-- THE SECOND FORM's CARD OF 'edenlaw21.PatchAll'. -/
def patchAllUptoCard : Claim7 := { stood := { row := patchAllUptoRow, standIns := [], harness := (true, "3084c118f8566f379a2f3dc3ebad1813b978f2ffef602f4381c63af34db2cd8c"), looks := true }, kinds := [], alts := [], laidByText := true, laidKinds := [.data, .handle, .sentinel, .sentinel, .sentinel, .sentinel, .sentinel, .sentinel, .sentinel, .sentinel, .sentinel, .sentinel, .sentinel, .sentinel, .pinned], laidTests := true, laidLooks := .later }
def PatchAllUptoCardSaid : Prop := Claim7.holds Tryd.pinned (.plain (OpenSpec.upto patchAllSpec)) patchAllUptoCard

/-- THE SECOND FORM's CARD OF 'edenlaw21.PatchColumns'. -/
def patchColumnsUptoCard : Claim7 := { stood := { row := patchColumnsUptoRow, standIns := [], harness := (true, "3084c118f8566f379a2f3dc3ebad1813b978f2ffef602f4381c63af34db2cd8c"), looks := true }, kinds := [], alts := [], laidByText := true, laidKinds := [.data, .handle, .sentinel, .sentinel, .sentinel, .sentinel, .sentinel, .sentinel, .sentinel, .sentinel, .sentinel, .sentinel, .sentinel, .sentinel, .pinned], laidTests := true, laidLooks := .later }
def PatchColumnsUptoCardSaid : Prop := Claim7.holds Tryd.pinned (.plain (OpenSpec.upto patchColumnsSpec)) patchColumnsUptoCard
end Rows
end Go.Proofs.YtnlpobkmjhajcaaDoor
