/-
  DERIVED. GIVEN WITH THE SEED: THE CARDS: each row of YteneiianpghalaaDoorRows.lean that lists a variable, with what it lists TIED to the program's text (the seventh form; the later family's looks); each row that meets fmt, with fmt's text TOLD by the authors' own Lean function (tested against real Go, not proved from fmt's source: count such statements apart). THE CARD IS WHAT COUNTS. Prove the row's statement (the work); the ties are given (YteneiianpghalaaDoorTie.lean); close each card by the builder's one call (the guide's Derived/Test/ToyasCard.lean, 'card_holds'). Laid BY PROGRAM, IN A SANDBOX (cutbox-door.mjs). By AI agents, Wed Nov 11 2026. No macro, syntax, notation, axiom, sorry.
-/
import Derived.Test.YteneiianpghalaaDoorRows
import GoSem.ClaimSeven
namespace Go.Proofs.YteneiianpghalaaDoor
namespace Rows

/-- THE TIED CARD OF 'edenlaw17.CountLists'. -/
def countListsCard : Claim7 := { stood := { row := countListsRow, standIns := [], harness := (true, "8011f5600dcc8c98ad4fb0732251963ef964fda5bb5b466695fe9816b14b6a1b"), looks := true }, kinds := [], alts := [], laidByText := true, laidKinds := [.sentinel, .sentinel, .sentinel, .sentinel, .sentinel, .sentinel, .sentinel, .sentinel, .sentinel, .sentinel, .sentinel, .sentinel], laidTests := true, laidLooks := .later }
def CountListsCardSaid : Prop := Claim7.holds Tryd.pinned (.plain (OpenSpec.ofChange countListsSpec)) countListsCard

/-- THE TIED CARD OF 'edenlaw17.CountFixeds'. -/
def countFixedsCard : Claim7 := { stood := { row := countFixedsRow, standIns := [], harness := (true, "8011f5600dcc8c98ad4fb0732251963ef964fda5bb5b466695fe9816b14b6a1b"), looks := true }, kinds := [], alts := [], laidByText := true, laidKinds := [.sentinel, .sentinel, .sentinel, .sentinel, .sentinel, .sentinel, .sentinel, .sentinel, .sentinel, .sentinel, .sentinel, .sentinel], laidTests := true, laidLooks := .later }
def CountFixedsCardSaid : Prop := Claim7.holds Tryd.pinned (.plain (OpenSpec.ofChange countFixedsSpec)) countFixedsCard

/-- THE TIED CARD OF 'edenlaw17.CountWords'. -/
def countWordsCard : Claim7 := { stood := { row := countWordsRow, standIns := [], harness := (true, "8011f5600dcc8c98ad4fb0732251963ef964fda5bb5b466695fe9816b14b6a1b"), looks := true }, kinds := [], alts := [], laidByText := true, laidKinds := [.handle, .sentinel, .sentinel, .sentinel, .sentinel, .sentinel, .sentinel, .sentinel, .sentinel, .sentinel, .sentinel, .sentinel, .sentinel], laidTests := true, laidLooks := .later }
def CountWordsCardSaid : Prop := Claim7.holds Tryd.pinned (.plain (OpenSpec.ofChange countWordsSpec)) countWordsCard

/-- THE TIED CARD OF 'edenlaw17.CountRings'. -/
def countRingsCard : Claim7 := { stood := { row := countRingsRow, standIns := [], harness := (true, "8011f5600dcc8c98ad4fb0732251963ef964fda5bb5b466695fe9816b14b6a1b"), looks := true }, kinds := [], alts := [], laidByText := true, laidKinds := [.handle, .sentinel, .sentinel, .sentinel, .sentinel, .sentinel, .sentinel, .sentinel, .sentinel, .sentinel, .sentinel, .sentinel, .sentinel], laidTests := true, laidLooks := .later }
def CountRingsCardSaid : Prop := Claim7.holds Tryd.pinned (.plain (OpenSpec.ofChange countRingsSpec)) countRingsCard

/-- THE TIED CARD OF 'edenlaw17.CountFairs'. -/
def countFairsCard : Claim7 := { stood := { row := countFairsRow, standIns := [], harness := (true, "8011f5600dcc8c98ad4fb0732251963ef964fda5bb5b466695fe9816b14b6a1b"), looks := true }, kinds := [], alts := [], laidByText := true, laidKinds := [.handle, .sentinel, .sentinel, .sentinel, .sentinel, .sentinel, .sentinel, .sentinel, .sentinel, .sentinel, .sentinel, .sentinel, .sentinel], laidTests := true, laidLooks := .later }
def CountFairsCardSaid : Prop := Claim7.holds Tryd.pinned (.plain (OpenSpec.ofChange countFairsSpec)) countFairsCard

/-- THE TIED CARD OF 'edenlaw16.MatAll'. -/
def matAllCard : Claim7 := { stood := { row := matAllRow, standIns := [], harness := (true, "8011f5600dcc8c98ad4fb0732251963ef964fda5bb5b466695fe9816b14b6a1b"), looks := true }, kinds := [], alts := [], laidByText := true, laidKinds := [.handle, .sentinel, .sentinel, .sentinel, .sentinel, .sentinel, .sentinel, .sentinel, .sentinel, .sentinel, .sentinel, .sentinel, .sentinel], laidTests := true, laidLooks := .later }
def MatAllCardSaid : Prop := Claim7.holds Tryd.pinned (.plain (OpenSpec.ofChange matAllSpec)) matAllCard

/-- THE TIED CARD OF 'edenlaw03.WordAll'. -/
def wordAllCard : Claim7 := { stood := { row := wordAllRow, standIns := [], harness := (true, "8011f5600dcc8c98ad4fb0732251963ef964fda5bb5b466695fe9816b14b6a1b"), looks := true }, kinds := [], alts := [], laidByText := true, laidKinds := [.handle, .sentinel, .sentinel, .sentinel, .sentinel, .sentinel, .sentinel, .sentinel, .sentinel, .sentinel, .sentinel, .sentinel, .sentinel], laidTests := true, laidLooks := .later }
def WordAllCardSaid : Prop := Claim7.holds Tryd.pinned (.plain (OpenSpec.ofChange wordAllSpec)) wordAllCard

/-- THE SECOND FORM's CARD OF 'edenlaw17.CountLists'. -/
def countListsUptoCard : Claim7 := { stood := { row := countListsUptoRow, standIns := [], harness := (true, "8011f5600dcc8c98ad4fb0732251963ef964fda5bb5b466695fe9816b14b6a1b"), looks := true }, kinds := [], alts := [], laidByText := true, laidKinds := [.sentinel, .sentinel, .sentinel, .sentinel, .sentinel, .sentinel, .sentinel, .sentinel, .sentinel, .sentinel, .sentinel, .sentinel], laidTests := true, laidLooks := .later }
def CountListsUptoCardSaid : Prop := Claim7.holds Tryd.pinned (.plain (OpenSpec.upto countListsSpec)) countListsUptoCard

/-- THE SECOND FORM's CARD OF 'edenlaw17.CountFixeds'. -/
def countFixedsUptoCard : Claim7 := { stood := { row := countFixedsUptoRow, standIns := [], harness := (true, "8011f5600dcc8c98ad4fb0732251963ef964fda5bb5b466695fe9816b14b6a1b"), looks := true }, kinds := [], alts := [], laidByText := true, laidKinds := [.sentinel, .sentinel, .sentinel, .sentinel, .sentinel, .sentinel, .sentinel, .sentinel, .sentinel, .sentinel, .sentinel, .sentinel], laidTests := true, laidLooks := .later }
def CountFixedsUptoCardSaid : Prop := Claim7.holds Tryd.pinned (.plain (OpenSpec.upto countFixedsSpec)) countFixedsUptoCard

/-- THE SECOND FORM's CARD OF 'edenlaw17.CountWords'. -/
def countWordsUptoCard : Claim7 := { stood := { row := countWordsUptoRow, standIns := [], harness := (true, "8011f5600dcc8c98ad4fb0732251963ef964fda5bb5b466695fe9816b14b6a1b"), looks := true }, kinds := [], alts := [], laidByText := true, laidKinds := [.handle, .sentinel, .sentinel, .sentinel, .sentinel, .sentinel, .sentinel, .sentinel, .sentinel, .sentinel, .sentinel, .sentinel, .sentinel], laidTests := true, laidLooks := .later }
def CountWordsUptoCardSaid : Prop := Claim7.holds Tryd.pinned (.plain (OpenSpec.upto countWordsSpec)) countWordsUptoCard

/-- THE SECOND FORM's CARD OF 'edenlaw17.CountRings'. -/
def countRingsUptoCard : Claim7 := { stood := { row := countRingsUptoRow, standIns := [], harness := (true, "8011f5600dcc8c98ad4fb0732251963ef964fda5bb5b466695fe9816b14b6a1b"), looks := true }, kinds := [], alts := [], laidByText := true, laidKinds := [.handle, .sentinel, .sentinel, .sentinel, .sentinel, .sentinel, .sentinel, .sentinel, .sentinel, .sentinel, .sentinel, .sentinel, .sentinel], laidTests := true, laidLooks := .later }
def CountRingsUptoCardSaid : Prop := Claim7.holds Tryd.pinned (.plain (OpenSpec.upto countRingsSpec)) countRingsUptoCard

/-- THE SECOND FORM's CARD OF 'edenlaw17.CountFairs'. -/
def countFairsUptoCard : Claim7 := { stood := { row := countFairsUptoRow, standIns := [], harness := (true, "8011f5600dcc8c98ad4fb0732251963ef964fda5bb5b466695fe9816b14b6a1b"), looks := true }, kinds := [], alts := [], laidByText := true, laidKinds := [.handle, .sentinel, .sentinel, .sentinel, .sentinel, .sentinel, .sentinel, .sentinel, .sentinel, .sentinel, .sentinel, .sentinel, .sentinel], laidTests := true, laidLooks := .later }
def CountFairsUptoCardSaid : Prop := Claim7.holds Tryd.pinned (.plain (OpenSpec.upto countFairsSpec)) countFairsUptoCard

/-- THE SECOND FORM's CARD OF 'edenlaw16.MatAll'. -/
def matAllUptoCard : Claim7 := { stood := { row := matAllUptoRow, standIns := [], harness := (true, "8011f5600dcc8c98ad4fb0732251963ef964fda5bb5b466695fe9816b14b6a1b"), looks := true }, kinds := [], alts := [], laidByText := true, laidKinds := [.handle, .sentinel, .sentinel, .sentinel, .sentinel, .sentinel, .sentinel, .sentinel, .sentinel, .sentinel, .sentinel, .sentinel, .sentinel], laidTests := true, laidLooks := .later }
def MatAllUptoCardSaid : Prop := Claim7.holds Tryd.pinned (.plain (OpenSpec.upto matAllSpec)) matAllUptoCard

/-- THE SECOND FORM's CARD OF 'edenlaw03.WordAll'. -/
def wordAllUptoCard : Claim7 := { stood := { row := wordAllUptoRow, standIns := [], harness := (true, "8011f5600dcc8c98ad4fb0732251963ef964fda5bb5b466695fe9816b14b6a1b"), looks := true }, kinds := [], alts := [], laidByText := true, laidKinds := [.handle, .sentinel, .sentinel, .sentinel, .sentinel, .sentinel, .sentinel, .sentinel, .sentinel, .sentinel, .sentinel, .sentinel, .sentinel], laidTests := true, laidLooks := .later }
def WordAllUptoCardSaid : Prop := Claim7.holds Tryd.pinned (.plain (OpenSpec.upto wordAllSpec)) wordAllUptoCard
end Rows
end Go.Proofs.YteneiianpghalaaDoor
