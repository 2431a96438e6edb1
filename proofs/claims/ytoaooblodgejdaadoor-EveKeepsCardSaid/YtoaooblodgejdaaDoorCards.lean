/-
  DERIVED. GIVEN WITH THE SEED: THE CARDS: each row of YtoaooblodgejdaaDoorRows.lean that lists a variable, with what it lists TIED to the program's text (the seventh form; the later family's looks); each row that meets fmt, with fmt's text TOLD by the authors' own Lean function (tested against real Go, not proved from fmt's source: count such statements apart). THE CARD IS WHAT COUNTS. Prove the row's statement (the work); the ties are given (YtoaooblodgejdaaDoorTie.lean); close each card by the builder's one call (the guide's Derived/Test/ToyasCard.lean, 'card_holds'). Laid BY PROGRAM, IN A SANDBOX (cutbox-door.mjs). By AI agents, Wed Nov 11 2026. No macro, syntax, notation, axiom, sorry.
-/
import Derived.Test.YtoaooblodgejdaaDoorRows
import GoSem.ClaimSeven
namespace Go.Proofs.YtoaooblodgejdaaDoor
namespace Rows

/-- THE TIED CARD OF 'edenlaw25.EveKeeps'. -/
def eveKeepsCard : Claim7 := { stood := { row := eveKeepsRow, standIns := [], harness := (true, "885b2d0a6ee7bd9a57b79e3ddb4b06a678f4fa33cde5025060146f9d2c48653f"), looks := true }, kinds := [], alts := [], laidByText := true, laidKinds := [.sentinel, .sentinel, .sentinel, .sentinel, .sentinel, .sentinel, .sentinel, .sentinel, .sentinel, .sentinel, .sentinel, .sentinel], laidTests := true, laidLooks := .later }
def EveKeepsCardSaid : Prop := Claim7.holds Tryd.pinned (.plain (OpenSpec.ofChange eveKeepsSpec)) eveKeepsCard

/-- THE TIED CARD OF 'edenlaw25.EveSums'. -/
def eveSumsCard : Claim7 := { stood := { row := eveSumsRow, standIns := [], harness := (true, "885b2d0a6ee7bd9a57b79e3ddb4b06a678f4fa33cde5025060146f9d2c48653f"), looks := true }, kinds := [], alts := [], laidByText := true, laidKinds := [.sentinel, .sentinel, .sentinel, .sentinel, .sentinel, .sentinel, .sentinel, .sentinel, .sentinel, .sentinel, .sentinel, .sentinel], laidTests := true, laidLooks := .later }
def EveSumsCardSaid : Prop := Claim7.holds Tryd.pinned (.plain (OpenSpec.ofChange eveSumsSpec)) eveSumsCard

/-- THE TIED CARD OF 'edenlaw25.EveTurns'. -/
def eveTurnsCard : Claim7 := { stood := { row := eveTurnsRow, standIns := [], harness := (true, "885b2d0a6ee7bd9a57b79e3ddb4b06a678f4fa33cde5025060146f9d2c48653f"), looks := true }, kinds := [], alts := [], laidByText := true, laidKinds := [.sentinel, .sentinel, .sentinel, .sentinel, .sentinel, .sentinel, .sentinel, .sentinel, .sentinel, .sentinel, .sentinel, .sentinel], laidTests := true, laidLooks := .later }
def EveTurnsCardSaid : Prop := Claim7.holds Tryd.pinned (.plain (OpenSpec.ofChange eveTurnsSpec)) eveTurnsCard

/-- THE TIED CARD OF 'edenlaw25.EveCounts'. -/
def eveCountsCard : Claim7 := { stood := { row := eveCountsRow, standIns := [], harness := (true, "885b2d0a6ee7bd9a57b79e3ddb4b06a678f4fa33cde5025060146f9d2c48653f"), looks := true }, kinds := [], alts := [], laidByText := true, laidKinds := [.handle, .sentinel, .sentinel, .sentinel, .sentinel, .sentinel, .sentinel, .sentinel, .sentinel, .sentinel, .sentinel, .sentinel, .sentinel], laidTests := true, laidLooks := .later }
def EveCountsCardSaid : Prop := Claim7.holds Tryd.pinned (.plain (OpenSpec.ofChange eveCountsSpec)) eveCountsCard

/-- THE TIED CARD OF 'edenlaw25.EveTells'. -/
def eveTellsCard : Claim7 := { stood := { row := eveTellsRow, standIns := [], harness := (true, "885b2d0a6ee7bd9a57b79e3ddb4b06a678f4fa33cde5025060146f9d2c48653f"), looks := true }, kinds := [], alts := [], laidByText := true, laidKinds := [.handle, .sentinel, .sentinel, .sentinel, .sentinel, .sentinel, .sentinel, .sentinel, .sentinel, .sentinel, .sentinel, .sentinel, .sentinel], laidTests := true, laidLooks := .later }
def EveTellsCardSaid : Prop := Claim7.holds Tryd.pinned (.plain (OpenSpec.ofChange eveTellsSpec)) eveTellsCard

/-- THE TIED CARD OF 'edenlaw25.EveSelf'. -/
def eveSelfCard : Claim7 := { stood := { row := eveSelfRow, standIns := [], harness := (true, "885b2d0a6ee7bd9a57b79e3ddb4b06a678f4fa33cde5025060146f9d2c48653f"), looks := true }, kinds := [], alts := [], laidByText := true, laidKinds := [.sentinel, .sentinel, .sentinel, .sentinel, .sentinel, .sentinel, .sentinel, .sentinel, .sentinel, .sentinel, .sentinel, .sentinel], laidTests := true, laidLooks := .later }
def EveSelfCardSaid : Prop := Claim7.holds Tryd.pinned (.plain (OpenSpec.ofChange eveSelfSpec)) eveSelfCard

/-- THE TIED CARD OF 'edentop.WholePieces'. -/
def wholePiecesCard : Claim7 := { stood := { row := wholePiecesRow, standIns := [], harness := (true, "885b2d0a6ee7bd9a57b79e3ddb4b06a678f4fa33cde5025060146f9d2c48653f"), looks := true }, kinds := [], alts := [], laidByText := true, laidKinds := [.sentinel, .sentinel, .sentinel, .sentinel, .sentinel, .sentinel, .sentinel, .sentinel, .sentinel, .sentinel, .sentinel, .sentinel], laidTests := true, laidLooks := .later }
def WholePiecesCardSaid : Prop := Claim7.holds Tryd.pinned (.plain (OpenSpec.ofChange wholePiecesSpec)) wholePiecesCard

/-- THE TIED CARD OF 'edentop.WholeTurned'. -/
def wholeTurnedCard : Claim7 := { stood := { row := wholeTurnedRow, standIns := [], harness := (true, "885b2d0a6ee7bd9a57b79e3ddb4b06a678f4fa33cde5025060146f9d2c48653f"), looks := true }, kinds := [], alts := [], laidByText := true, laidKinds := [.sentinel, .sentinel, .sentinel, .sentinel, .sentinel, .sentinel, .sentinel, .sentinel, .sentinel, .sentinel, .sentinel, .sentinel], laidTests := true, laidLooks := .later }
def WholeTurnedCardSaid : Prop := Claim7.holds Tryd.pinned (.plain (OpenSpec.ofChange wholeTurnedSpec)) wholeTurnedCard

/-- THE TIED CARD OF 'edentop.WholePredecessor'. -/
def wholePredecessorCard : Claim7 := { stood := { row := wholePredecessorRow, standIns := [], harness := (true, "885b2d0a6ee7bd9a57b79e3ddb4b06a678f4fa33cde5025060146f9d2c48653f"), looks := true }, kinds := [], alts := [], laidByText := true, laidKinds := [.sentinel, .sentinel, .sentinel, .sentinel, .sentinel, .sentinel, .sentinel, .sentinel, .sentinel, .sentinel, .sentinel, .sentinel], laidTests := true, laidLooks := .later }
def WholePredecessorCardSaid : Prop := Claim7.holds Tryd.pinned (.plain (OpenSpec.ofChange wholePredecessorSpec)) wholePredecessorCard

/-- THE TIED CARD OF 'edentop.WholeChecker'. -/
def wholeCheckerCard : Claim7 := { stood := { row := wholeCheckerRow, standIns := [], harness := (true, "885b2d0a6ee7bd9a57b79e3ddb4b06a678f4fa33cde5025060146f9d2c48653f"), looks := true }, kinds := [], alts := [], laidByText := true, laidKinds := [.sentinel, .sentinel, .sentinel, .sentinel, .sentinel, .sentinel, .sentinel, .sentinel, .sentinel, .sentinel, .sentinel, .sentinel], laidTests := true, laidLooks := .later }
def WholeCheckerCardSaid : Prop := Claim7.holds Tryd.pinned (.plain (OpenSpec.ofChange wholeCheckerSpec)) wholeCheckerCard

/-- THE TIED CARD OF 'edenlaw24.JudgeMore'. -/
def judgeMoreCard : Claim7 := { stood := { row := judgeMoreRow, standIns := [], harness := (true, "885b2d0a6ee7bd9a57b79e3ddb4b06a678f4fa33cde5025060146f9d2c48653f"), looks := true }, kinds := [], alts := [], laidByText := true, laidKinds := [.handle, .sentinel, .sentinel, .sentinel, .sentinel, .sentinel, .sentinel, .sentinel, .sentinel, .sentinel, .sentinel, .sentinel, .sentinel], laidTests := true, laidLooks := .later }
def JudgeMoreCardSaid : Prop := Claim7.holds Tryd.pinned (.plain (OpenSpec.ofChange judgeMoreSpec)) judgeMoreCard

/-- THE SECOND FORM's CARD OF 'edenlaw25.EveKeeps'. -/
def eveKeepsUptoCard : Claim7 := { stood := { row := eveKeepsUptoRow, standIns := [], harness := (true, "885b2d0a6ee7bd9a57b79e3ddb4b06a678f4fa33cde5025060146f9d2c48653f"), looks := true }, kinds := [], alts := [], laidByText := true, laidKinds := [.sentinel, .sentinel, .sentinel, .sentinel, .sentinel, .sentinel, .sentinel, .sentinel, .sentinel, .sentinel, .sentinel, .sentinel], laidTests := true, laidLooks := .later }
def EveKeepsUptoCardSaid : Prop := Claim7.holds Tryd.pinned (.plain (OpenSpec.upto eveKeepsSpec)) eveKeepsUptoCard

/-- THE SECOND FORM's CARD OF 'edenlaw25.EveSums'. -/
def eveSumsUptoCard : Claim7 := { stood := { row := eveSumsUptoRow, standIns := [], harness := (true, "885b2d0a6ee7bd9a57b79e3ddb4b06a678f4fa33cde5025060146f9d2c48653f"), looks := true }, kinds := [], alts := [], laidByText := true, laidKinds := [.sentinel, .sentinel, .sentinel, .sentinel, .sentinel, .sentinel, .sentinel, .sentinel, .sentinel, .sentinel, .sentinel, .sentinel], laidTests := true, laidLooks := .later }
def EveSumsUptoCardSaid : Prop := Claim7.holds Tryd.pinned (.plain (OpenSpec.upto eveSumsSpec)) eveSumsUptoCard

/-- THE SECOND FORM's CARD OF 'edenlaw25.EveTurns'. -/
def eveTurnsUptoCard : Claim7 := { stood := { row := eveTurnsUptoRow, standIns := [], harness := (true, "885b2d0a6ee7bd9a57b79e3ddb4b06a678f4fa33cde5025060146f9d2c48653f"), looks := true }, kinds := [], alts := [], laidByText := true, laidKinds := [.sentinel, .sentinel, .sentinel, .sentinel, .sentinel, .sentinel, .sentinel, .sentinel, .sentinel, .sentinel, .sentinel, .sentinel], laidTests := true, laidLooks := .later }
def EveTurnsUptoCardSaid : Prop := Claim7.holds Tryd.pinned (.plain (OpenSpec.upto eveTurnsSpec)) eveTurnsUptoCard

/-- THE SECOND FORM's CARD OF 'edenlaw25.EveCounts'. -/
def eveCountsUptoCard : Claim7 := { stood := { row := eveCountsUptoRow, standIns := [], harness := (true, "885b2d0a6ee7bd9a57b79e3ddb4b06a678f4fa33cde5025060146f9d2c48653f"), looks := true }, kinds := [], alts := [], laidByText := true, laidKinds := [.handle, .sentinel, .sentinel, .sentinel, .sentinel, .sentinel, .sentinel, .sentinel, .sentinel, .sentinel, .sentinel, .sentinel, .sentinel], laidTests := true, laidLooks := .later }
def EveCountsUptoCardSaid : Prop := Claim7.holds Tryd.pinned (.plain (OpenSpec.upto eveCountsSpec)) eveCountsUptoCard

/-- THE SECOND FORM's CARD OF 'edenlaw25.EveTells'. -/
def eveTellsUptoCard : Claim7 := { stood := { row := eveTellsUptoRow, standIns := [], harness := (true, "885b2d0a6ee7bd9a57b79e3ddb4b06a678f4fa33cde5025060146f9d2c48653f"), looks := true }, kinds := [], alts := [], laidByText := true, laidKinds := [.handle, .sentinel, .sentinel, .sentinel, .sentinel, .sentinel, .sentinel, .sentinel, .sentinel, .sentinel, .sentinel, .sentinel, .sentinel], laidTests := true, laidLooks := .later }
def EveTellsUptoCardSaid : Prop := Claim7.holds Tryd.pinned (.plain (OpenSpec.upto eveTellsSpec)) eveTellsUptoCard

/-- THE SECOND FORM's CARD OF 'edenlaw25.EveSelf'. -/
def eveSelfUptoCard : Claim7 := { stood := { row := eveSelfUptoRow, standIns := [], harness := (true, "885b2d0a6ee7bd9a57b79e3ddb4b06a678f4fa33cde5025060146f9d2c48653f"), looks := true }, kinds := [], alts := [], laidByText := true, laidKinds := [.sentinel, .sentinel, .sentinel, .sentinel, .sentinel, .sentinel, .sentinel, .sentinel, .sentinel, .sentinel, .sentinel, .sentinel], laidTests := true, laidLooks := .later }
def EveSelfUptoCardSaid : Prop := Claim7.holds Tryd.pinned (.plain (OpenSpec.upto eveSelfSpec)) eveSelfUptoCard

/-- THE SECOND FORM's CARD OF 'edentop.WholePieces'. -/
def wholePiecesUptoCard : Claim7 := { stood := { row := wholePiecesUptoRow, standIns := [], harness := (true, "885b2d0a6ee7bd9a57b79e3ddb4b06a678f4fa33cde5025060146f9d2c48653f"), looks := true }, kinds := [], alts := [], laidByText := true, laidKinds := [.sentinel, .sentinel, .sentinel, .sentinel, .sentinel, .sentinel, .sentinel, .sentinel, .sentinel, .sentinel, .sentinel, .sentinel], laidTests := true, laidLooks := .later }
def WholePiecesUptoCardSaid : Prop := Claim7.holds Tryd.pinned (.plain (OpenSpec.upto wholePiecesSpec)) wholePiecesUptoCard

/-- THE SECOND FORM's CARD OF 'edentop.WholeTurned'. -/
def wholeTurnedUptoCard : Claim7 := { stood := { row := wholeTurnedUptoRow, standIns := [], harness := (true, "885b2d0a6ee7bd9a57b79e3ddb4b06a678f4fa33cde5025060146f9d2c48653f"), looks := true }, kinds := [], alts := [], laidByText := true, laidKinds := [.sentinel, .sentinel, .sentinel, .sentinel, .sentinel, .sentinel, .sentinel, .sentinel, .sentinel, .sentinel, .sentinel, .sentinel], laidTests := true, laidLooks := .later }
def WholeTurnedUptoCardSaid : Prop := Claim7.holds Tryd.pinned (.plain (OpenSpec.upto wholeTurnedSpec)) wholeTurnedUptoCard

/-- THE SECOND FORM's CARD OF 'edentop.WholePredecessor'. -/
def wholePredecessorUptoCard : Claim7 := { stood := { row := wholePredecessorUptoRow, standIns := [], harness := (true, "885b2d0a6ee7bd9a57b79e3ddb4b06a678f4fa33cde5025060146f9d2c48653f"), looks := true }, kinds := [], alts := [], laidByText := true, laidKinds := [.sentinel, .sentinel, .sentinel, .sentinel, .sentinel, .sentinel, .sentinel, .sentinel, .sentinel, .sentinel, .sentinel, .sentinel], laidTests := true, laidLooks := .later }
def WholePredecessorUptoCardSaid : Prop := Claim7.holds Tryd.pinned (.plain (OpenSpec.upto wholePredecessorSpec)) wholePredecessorUptoCard

/-- THE SECOND FORM's CARD OF 'edentop.WholeChecker'. -/
def wholeCheckerUptoCard : Claim7 := { stood := { row := wholeCheckerUptoRow, standIns := [], harness := (true, "885b2d0a6ee7bd9a57b79e3ddb4b06a678f4fa33cde5025060146f9d2c48653f"), looks := true }, kinds := [], alts := [], laidByText := true, laidKinds := [.sentinel, .sentinel, .sentinel, .sentinel, .sentinel, .sentinel, .sentinel, .sentinel, .sentinel, .sentinel, .sentinel, .sentinel], laidTests := true, laidLooks := .later }
def WholeCheckerUptoCardSaid : Prop := Claim7.holds Tryd.pinned (.plain (OpenSpec.upto wholeCheckerSpec)) wholeCheckerUptoCard

/-- THE SECOND FORM's CARD OF 'edenlaw24.JudgeMore'. -/
def judgeMoreUptoCard : Claim7 := { stood := { row := judgeMoreUptoRow, standIns := [], harness := (true, "885b2d0a6ee7bd9a57b79e3ddb4b06a678f4fa33cde5025060146f9d2c48653f"), looks := true }, kinds := [], alts := [], laidByText := true, laidKinds := [.handle, .sentinel, .sentinel, .sentinel, .sentinel, .sentinel, .sentinel, .sentinel, .sentinel, .sentinel, .sentinel, .sentinel, .sentinel], laidTests := true, laidLooks := .later }
def JudgeMoreUptoCardSaid : Prop := Claim7.holds Tryd.pinned (.plain (OpenSpec.upto judgeMoreSpec)) judgeMoreUptoCard
end Rows
end Go.Proofs.YtoaooblodgejdaaDoor
