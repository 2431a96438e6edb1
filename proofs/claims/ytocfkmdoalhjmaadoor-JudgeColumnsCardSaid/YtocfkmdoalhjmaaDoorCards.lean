/-
  DERIVED. GIVEN WITH THE SEED: THE CARDS: each row of YtocfkmdoalhjmaaDoorRows.lean that lists a variable, with what it lists TIED to the program's text (the seventh form; the later family's looks); each row that meets fmt, with fmt's text TOLD by the authors' own Lean function (tested against real Go, not proved from fmt's source: count such statements apart). THE CARD IS WHAT COUNTS. Prove the row's statement (the work); the ties are given (YtocfkmdoalhjmaaDoorTie.lean); close each card by the builder's one call (the guide's Derived/Test/ToyasCard.lean, 'card_holds'). Laid BY PROGRAM, IN A SANDBOX (cutbox-door.mjs). By AI agents, Wed Nov 11 2026. No macro, syntax, notation, axiom, sorry.
-/
import Derived.Test.YtocfkmdoalhjmaaDoorRows
import GoSem.ClaimSeven
namespace Go.Proofs.YtocfkmdoalhjmaaDoor
namespace Rows

/-- THE TIED CARD OF 'edenlaw22.PlaneCounts'. -/
def planeCountsCard : Claim7 := { stood := { row := planeCountsRow, standIns := [], harness := (true, "4b48f9a80a065f69a868bdb0ad7baa140cec0b6be9d45d750bbf30e57b3ea2d7"), looks := true }, kinds := [], alts := [], laidByText := true, laidKinds := [.sentinel, .sentinel, .sentinel, .sentinel, .sentinel, .sentinel, .sentinel, .sentinel, .sentinel, .sentinel, .sentinel, .sentinel], laidTests := true, laidLooks := .later }
def PlaneCountsCardSaid : Prop := Claim7.holds Tryd.pinned (.plain (OpenSpec.ofChange planeCountsSpec)) planeCountsCard

/-- THE TIED CARD OF 'edenlaw22.PlaneKeeps'. -/
def planeKeepsCard : Claim7 := { stood := { row := planeKeepsRow, standIns := [], harness := (true, "4b48f9a80a065f69a868bdb0ad7baa140cec0b6be9d45d750bbf30e57b3ea2d7"), looks := true }, kinds := [], alts := [], laidByText := true, laidKinds := [.sentinel, .sentinel, .sentinel, .sentinel, .sentinel, .sentinel, .sentinel, .sentinel, .sentinel, .sentinel, .sentinel, .sentinel], laidTests := true, laidLooks := .later }
def PlaneKeepsCardSaid : Prop := Claim7.holds Tryd.pinned (.plain (OpenSpec.ofChange planeKeepsSpec)) planeKeepsCard

/-- THE TIED CARD OF 'edenlaw22.PlanePieces'. -/
def planePiecesCard : Claim7 := { stood := { row := planePiecesRow, standIns := [], harness := (true, "4b48f9a80a065f69a868bdb0ad7baa140cec0b6be9d45d750bbf30e57b3ea2d7"), looks := true }, kinds := [], alts := [], laidByText := true, laidKinds := [.sentinel, .sentinel, .sentinel, .sentinel, .sentinel, .sentinel, .sentinel, .sentinel, .sentinel, .sentinel, .sentinel, .sentinel], laidTests := true, laidLooks := .later }
def PlanePiecesCardSaid : Prop := Claim7.holds Tryd.pinned (.plain (OpenSpec.ofChange planePiecesSpec)) planePiecesCard

/-- THE TIED CARD OF 'edenlaw22.PlaneSteps'. -/
def planeStepsCard : Claim7 := { stood := { row := planeStepsRow, standIns := [], harness := (true, "4b48f9a80a065f69a868bdb0ad7baa140cec0b6be9d45d750bbf30e57b3ea2d7"), looks := true }, kinds := [], alts := [], laidByText := true, laidKinds := [.handle, .sentinel, .sentinel, .sentinel, .sentinel, .sentinel, .sentinel, .sentinel, .sentinel, .sentinel, .sentinel, .sentinel, .sentinel], laidTests := true, laidLooks := .later }
def PlaneStepsCardSaid : Prop := Claim7.holds Tryd.pinned (.plain (OpenSpec.ofChange planeStepsSpec)) planeStepsCard

/-- THE TIED CARD OF 'edenlaw22.PlaneTables'. -/
def planeTablesCard : Claim7 := { stood := { row := planeTablesRow, standIns := [], harness := (true, "4b48f9a80a065f69a868bdb0ad7baa140cec0b6be9d45d750bbf30e57b3ea2d7"), looks := true }, kinds := [], alts := [], laidByText := true, laidKinds := [.handle, .sentinel, .sentinel, .sentinel, .sentinel, .sentinel, .sentinel, .sentinel, .sentinel, .sentinel, .sentinel, .sentinel, .sentinel], laidTests := true, laidLooks := .later }
def PlaneTablesCardSaid : Prop := Claim7.holds Tryd.pinned (.plain (OpenSpec.ofChange planeTablesSpec)) planeTablesCard

/-- THE TIED CARD OF 'edenlaw22.PlaneTexts'. -/
def planeTextsCard : Claim7 := { stood := { row := planeTextsRow, standIns := [], harness := (true, "4b48f9a80a065f69a868bdb0ad7baa140cec0b6be9d45d750bbf30e57b3ea2d7"), looks := true }, kinds := [], alts := [], laidByText := true, laidKinds := [.handle, .sentinel, .sentinel, .sentinel, .sentinel, .sentinel, .sentinel, .sentinel, .sentinel, .sentinel, .sentinel, .sentinel, .sentinel], laidTests := true, laidLooks := .later }
def PlaneTextsCardSaid : Prop := Claim7.holds Tryd.pinned (.plain (OpenSpec.ofChange planeTextsSpec)) planeTextsCard

/-- THE TIED CARD OF 'edenlaw24.JudgeTells'. -/
def judgeTellsCard : Claim7 := { stood := { row := judgeTellsRow, standIns := [], harness := (true, "4b48f9a80a065f69a868bdb0ad7baa140cec0b6be9d45d750bbf30e57b3ea2d7"), looks := true }, kinds := [], alts := [], laidByText := true, laidKinds := [.handle, .sentinel, .sentinel, .sentinel, .sentinel, .sentinel, .sentinel, .sentinel, .sentinel, .sentinel, .sentinel, .sentinel, .sentinel], laidTests := true, laidLooks := .later }
def JudgeTellsCardSaid : Prop := Claim7.holds Tryd.pinned (.plain (OpenSpec.ofChange judgeTellsSpec)) judgeTellsCard

/-- THE TIED CARD OF 'edenlaw24.JudgeSound'. -/
def judgeSoundCard : Claim7 := { stood := { row := judgeSoundRow, standIns := [], harness := (true, "4b48f9a80a065f69a868bdb0ad7baa140cec0b6be9d45d750bbf30e57b3ea2d7"), looks := true }, kinds := [], alts := [], laidByText := true, laidKinds := [.handle, .sentinel, .sentinel, .sentinel, .sentinel, .sentinel, .sentinel, .sentinel, .sentinel, .sentinel, .sentinel, .sentinel, .sentinel], laidTests := true, laidLooks := .later }
def JudgeSoundCardSaid : Prop := Claim7.holds Tryd.pinned (.plain (OpenSpec.ofChange judgeSoundSpec)) judgeSoundCard

/-- THE TIED CARD OF 'edenlaw24.JudgeCost'. -/
def judgeCostCard : Claim7 := { stood := { row := judgeCostRow, standIns := [], harness := (true, "4b48f9a80a065f69a868bdb0ad7baa140cec0b6be9d45d750bbf30e57b3ea2d7"), looks := true }, kinds := [], alts := [], laidByText := true, laidKinds := [.handle, .sentinel, .sentinel, .sentinel, .sentinel, .sentinel, .sentinel, .sentinel, .sentinel, .sentinel, .sentinel, .sentinel, .sentinel], laidTests := true, laidLooks := .later }
def JudgeCostCardSaid : Prop := Claim7.holds Tryd.pinned (.plain (OpenSpec.ofChange judgeCostSpec)) judgeCostCard

/-- THE TIED CARD OF 'edenlaw24.JudgeShown'. -/
def judgeShownCard : Claim7 := { stood := { row := judgeShownRow, standIns := [], harness := (true, "4b48f9a80a065f69a868bdb0ad7baa140cec0b6be9d45d750bbf30e57b3ea2d7"), looks := true }, kinds := [], alts := [], laidByText := true, laidKinds := [.handle, .sentinel, .sentinel, .sentinel, .sentinel, .sentinel, .sentinel, .sentinel, .sentinel, .sentinel, .sentinel, .sentinel, .sentinel], laidTests := true, laidLooks := .later }
def JudgeShownCardSaid : Prop := Claim7.holds Tryd.pinned (.plain (OpenSpec.ofChange judgeShownSpec)) judgeShownCard

/-- THE TIED CARD OF 'edenlaw24.JudgeMore'. -/
def judgeMoreCard : Claim7 := { stood := { row := judgeMoreRow, standIns := [], harness := (true, "4b48f9a80a065f69a868bdb0ad7baa140cec0b6be9d45d750bbf30e57b3ea2d7"), looks := true }, kinds := [], alts := [], laidByText := true, laidKinds := [.handle, .sentinel, .sentinel, .sentinel, .sentinel, .sentinel, .sentinel, .sentinel, .sentinel, .sentinel, .sentinel, .sentinel, .sentinel], laidTests := true, laidLooks := .later }
def JudgeMoreCardSaid : Prop := Claim7.holds Tryd.pinned (.plain (OpenSpec.ofChange judgeMoreSpec)) judgeMoreCard

/-- THE TIED CARD OF 'edenlaw24.JudgeColumns'. -/
def judgeColumnsCard : Claim7 := { stood := { row := judgeColumnsRow, standIns := [], harness := (true, "4b48f9a80a065f69a868bdb0ad7baa140cec0b6be9d45d750bbf30e57b3ea2d7"), looks := true }, kinds := [], alts := [], laidByText := true, laidKinds := [.handle, .sentinel, .sentinel, .sentinel, .sentinel, .sentinel, .sentinel, .sentinel, .sentinel, .sentinel, .sentinel, .sentinel, .sentinel], laidTests := true, laidLooks := .later }
def JudgeColumnsCardSaid : Prop := Claim7.holds Tryd.pinned (.plain (OpenSpec.ofChange judgeColumnsSpec)) judgeColumnsCard

/-- THE SECOND FORM's CARD OF 'edenlaw22.PlaneCounts'. -/
def planeCountsUptoCard : Claim7 := { stood := { row := planeCountsUptoRow, standIns := [], harness := (true, "4b48f9a80a065f69a868bdb0ad7baa140cec0b6be9d45d750bbf30e57b3ea2d7"), looks := true }, kinds := [], alts := [], laidByText := true, laidKinds := [.sentinel, .sentinel, .sentinel, .sentinel, .sentinel, .sentinel, .sentinel, .sentinel, .sentinel, .sentinel, .sentinel, .sentinel], laidTests := true, laidLooks := .later }
def PlaneCountsUptoCardSaid : Prop := Claim7.holds Tryd.pinned (.plain (OpenSpec.upto planeCountsSpec)) planeCountsUptoCard

/-- THE SECOND FORM's CARD OF 'edenlaw22.PlaneKeeps'. -/
def planeKeepsUptoCard : Claim7 := { stood := { row := planeKeepsUptoRow, standIns := [], harness := (true, "4b48f9a80a065f69a868bdb0ad7baa140cec0b6be9d45d750bbf30e57b3ea2d7"), looks := true }, kinds := [], alts := [], laidByText := true, laidKinds := [.sentinel, .sentinel, .sentinel, .sentinel, .sentinel, .sentinel, .sentinel, .sentinel, .sentinel, .sentinel, .sentinel, .sentinel], laidTests := true, laidLooks := .later }
def PlaneKeepsUptoCardSaid : Prop := Claim7.holds Tryd.pinned (.plain (OpenSpec.upto planeKeepsSpec)) planeKeepsUptoCard

/-- THE SECOND FORM's CARD OF 'edenlaw22.PlanePieces'. -/
def planePiecesUptoCard : Claim7 := { stood := { row := planePiecesUptoRow, standIns := [], harness := (true, "4b48f9a80a065f69a868bdb0ad7baa140cec0b6be9d45d750bbf30e57b3ea2d7"), looks := true }, kinds := [], alts := [], laidByText := true, laidKinds := [.sentinel, .sentinel, .sentinel, .sentinel, .sentinel, .sentinel, .sentinel, .sentinel, .sentinel, .sentinel, .sentinel, .sentinel], laidTests := true, laidLooks := .later }
def PlanePiecesUptoCardSaid : Prop := Claim7.holds Tryd.pinned (.plain (OpenSpec.upto planePiecesSpec)) planePiecesUptoCard

/-- THE SECOND FORM's CARD OF 'edenlaw22.PlaneSteps'. -/
def planeStepsUptoCard : Claim7 := { stood := { row := planeStepsUptoRow, standIns := [], harness := (true, "4b48f9a80a065f69a868bdb0ad7baa140cec0b6be9d45d750bbf30e57b3ea2d7"), looks := true }, kinds := [], alts := [], laidByText := true, laidKinds := [.handle, .sentinel, .sentinel, .sentinel, .sentinel, .sentinel, .sentinel, .sentinel, .sentinel, .sentinel, .sentinel, .sentinel, .sentinel], laidTests := true, laidLooks := .later }
def PlaneStepsUptoCardSaid : Prop := Claim7.holds Tryd.pinned (.plain (OpenSpec.upto planeStepsSpec)) planeStepsUptoCard

/-- THE SECOND FORM's CARD OF 'edenlaw22.PlaneTables'. -/
def planeTablesUptoCard : Claim7 := { stood := { row := planeTablesUptoRow, standIns := [], harness := (true, "4b48f9a80a065f69a868bdb0ad7baa140cec0b6be9d45d750bbf30e57b3ea2d7"), looks := true }, kinds := [], alts := [], laidByText := true, laidKinds := [.handle, .sentinel, .sentinel, .sentinel, .sentinel, .sentinel, .sentinel, .sentinel, .sentinel, .sentinel, .sentinel, .sentinel, .sentinel], laidTests := true, laidLooks := .later }
def PlaneTablesUptoCardSaid : Prop := Claim7.holds Tryd.pinned (.plain (OpenSpec.upto planeTablesSpec)) planeTablesUptoCard

/-- THE SECOND FORM's CARD OF 'edenlaw22.PlaneTexts'. -/
def planeTextsUptoCard : Claim7 := { stood := { row := planeTextsUptoRow, standIns := [], harness := (true, "4b48f9a80a065f69a868bdb0ad7baa140cec0b6be9d45d750bbf30e57b3ea2d7"), looks := true }, kinds := [], alts := [], laidByText := true, laidKinds := [.handle, .sentinel, .sentinel, .sentinel, .sentinel, .sentinel, .sentinel, .sentinel, .sentinel, .sentinel, .sentinel, .sentinel, .sentinel], laidTests := true, laidLooks := .later }
def PlaneTextsUptoCardSaid : Prop := Claim7.holds Tryd.pinned (.plain (OpenSpec.upto planeTextsSpec)) planeTextsUptoCard

/-- THE SECOND FORM's CARD OF 'edenlaw24.JudgeTells'. -/
def judgeTellsUptoCard : Claim7 := { stood := { row := judgeTellsUptoRow, standIns := [], harness := (true, "4b48f9a80a065f69a868bdb0ad7baa140cec0b6be9d45d750bbf30e57b3ea2d7"), looks := true }, kinds := [], alts := [], laidByText := true, laidKinds := [.handle, .sentinel, .sentinel, .sentinel, .sentinel, .sentinel, .sentinel, .sentinel, .sentinel, .sentinel, .sentinel, .sentinel, .sentinel], laidTests := true, laidLooks := .later }
def JudgeTellsUptoCardSaid : Prop := Claim7.holds Tryd.pinned (.plain (OpenSpec.upto judgeTellsSpec)) judgeTellsUptoCard

/-- THE SECOND FORM's CARD OF 'edenlaw24.JudgeSound'. -/
def judgeSoundUptoCard : Claim7 := { stood := { row := judgeSoundUptoRow, standIns := [], harness := (true, "4b48f9a80a065f69a868bdb0ad7baa140cec0b6be9d45d750bbf30e57b3ea2d7"), looks := true }, kinds := [], alts := [], laidByText := true, laidKinds := [.handle, .sentinel, .sentinel, .sentinel, .sentinel, .sentinel, .sentinel, .sentinel, .sentinel, .sentinel, .sentinel, .sentinel, .sentinel], laidTests := true, laidLooks := .later }
def JudgeSoundUptoCardSaid : Prop := Claim7.holds Tryd.pinned (.plain (OpenSpec.upto judgeSoundSpec)) judgeSoundUptoCard

/-- THE SECOND FORM's CARD OF 'edenlaw24.JudgeCost'. -/
def judgeCostUptoCard : Claim7 := { stood := { row := judgeCostUptoRow, standIns := [], harness := (true, "4b48f9a80a065f69a868bdb0ad7baa140cec0b6be9d45d750bbf30e57b3ea2d7"), looks := true }, kinds := [], alts := [], laidByText := true, laidKinds := [.handle, .sentinel, .sentinel, .sentinel, .sentinel, .sentinel, .sentinel, .sentinel, .sentinel, .sentinel, .sentinel, .sentinel, .sentinel], laidTests := true, laidLooks := .later }
def JudgeCostUptoCardSaid : Prop := Claim7.holds Tryd.pinned (.plain (OpenSpec.upto judgeCostSpec)) judgeCostUptoCard

/-- THE SECOND FORM's CARD OF 'edenlaw24.JudgeShown'. -/
def judgeShownUptoCard : Claim7 := { stood := { row := judgeShownUptoRow, standIns := [], harness := (true, "4b48f9a80a065f69a868bdb0ad7baa140cec0b6be9d45d750bbf30e57b3ea2d7"), looks := true }, kinds := [], alts := [], laidByText := true, laidKinds := [.handle, .sentinel, .sentinel, .sentinel, .sentinel, .sentinel, .sentinel, .sentinel, .sentinel, .sentinel, .sentinel, .sentinel, .sentinel], laidTests := true, laidLooks := .later }
def JudgeShownUptoCardSaid : Prop := Claim7.holds Tryd.pinned (.plain (OpenSpec.upto judgeShownSpec)) judgeShownUptoCard

/-- THE SECOND FORM's CARD OF 'edenlaw24.JudgeMore'. -/
def judgeMoreUptoCard : Claim7 := { stood := { row := judgeMoreUptoRow, standIns := [], harness := (true, "4b48f9a80a065f69a868bdb0ad7baa140cec0b6be9d45d750bbf30e57b3ea2d7"), looks := true }, kinds := [], alts := [], laidByText := true, laidKinds := [.handle, .sentinel, .sentinel, .sentinel, .sentinel, .sentinel, .sentinel, .sentinel, .sentinel, .sentinel, .sentinel, .sentinel, .sentinel], laidTests := true, laidLooks := .later }
def JudgeMoreUptoCardSaid : Prop := Claim7.holds Tryd.pinned (.plain (OpenSpec.upto judgeMoreSpec)) judgeMoreUptoCard

/-- THE SECOND FORM's CARD OF 'edenlaw24.JudgeColumns'. -/
def judgeColumnsUptoCard : Claim7 := { stood := { row := judgeColumnsUptoRow, standIns := [], harness := (true, "4b48f9a80a065f69a868bdb0ad7baa140cec0b6be9d45d750bbf30e57b3ea2d7"), looks := true }, kinds := [], alts := [], laidByText := true, laidKinds := [.handle, .sentinel, .sentinel, .sentinel, .sentinel, .sentinel, .sentinel, .sentinel, .sentinel, .sentinel, .sentinel, .sentinel, .sentinel], laidTests := true, laidLooks := .later }
def JudgeColumnsUptoCardSaid : Prop := Claim7.holds Tryd.pinned (.plain (OpenSpec.upto judgeColumnsSpec)) judgeColumnsUptoCard
end Rows
end Go.Proofs.YtocfkmdoalhjmaaDoor
