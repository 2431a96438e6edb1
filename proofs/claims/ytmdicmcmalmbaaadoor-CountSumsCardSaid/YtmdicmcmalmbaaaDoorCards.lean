/-
  DERIVED. GIVEN WITH THE SEED: THE CARDS: each row of YtmdicmcmalmbaaaDoorRows.lean that lists a variable, with what it lists TIED to the program's text (the seventh form; the later family's looks); each row that meets fmt, with fmt's text TOLD by the authors' own Lean function (tested against real Go, not proved from fmt's source: count such statements apart). THE CARD IS WHAT COUNTS. Prove the row's statement (the work); the ties are given (YtmdicmcmalmbaaaDoorTie.lean); close each card by the builder's one call (the guide's Derived/Test/ToyasCard.lean, 'card_holds'). Laid BY PROGRAM, IN A SANDBOX (cutbox-door.mjs). By AI agents, Wed Nov 11 2026. No macro, syntax, notation, axiom, sorry.
-/
import Derived.Test.YtmdicmcmalmbaaaDoorRows
import GoSem.ClaimSeven
namespace Go.Proofs.YtmdicmcmalmbaaaDoor
namespace Rows

/-- THE TIED CARD OF 'edenlaw16.MatWays'. -/
def matWaysCard : Claim7 := { stood := { row := matWaysRow, standIns := [], harness := (true, "d56d711e56a2549291d73ac276094c72bb9d482c70a7a61bceec19828514e636"), looks := true }, kinds := [], alts := [], laidByText := true, laidKinds := [.sentinel, .sentinel, .sentinel, .sentinel, .sentinel, .sentinel, .sentinel, .sentinel, .sentinel, .sentinel, .sentinel, .sentinel], laidTests := true, laidLooks := .later }
def MatWaysCardSaid : Prop := Claim7.holds Tryd.pinned (.plain (OpenSpec.ofChange matWaysSpec)) matWaysCard

/-- THE TIED CARD OF 'edenlaw16.MatKeeps'. -/
def matKeepsCard : Claim7 := { stood := { row := matKeepsRow, standIns := [], harness := (true, "d56d711e56a2549291d73ac276094c72bb9d482c70a7a61bceec19828514e636"), looks := true }, kinds := [], alts := [], laidByText := true, laidKinds := [.sentinel, .sentinel, .sentinel, .sentinel, .sentinel, .sentinel, .sentinel, .sentinel, .sentinel, .sentinel, .sentinel, .sentinel], laidTests := true, laidLooks := .later }
def MatKeepsCardSaid : Prop := Claim7.holds Tryd.pinned (.plain (OpenSpec.ofChange matKeepsSpec)) matKeepsCard

/-- THE TIED CARD OF 'edenlaw16.MatRing'. -/
def matRingCard : Claim7 := { stood := { row := matRingRow, standIns := [], harness := (true, "d56d711e56a2549291d73ac276094c72bb9d482c70a7a61bceec19828514e636"), looks := true }, kinds := [], alts := [], laidByText := true, laidKinds := [.sentinel, .sentinel, .sentinel, .sentinel, .sentinel, .sentinel, .sentinel, .sentinel, .sentinel, .sentinel, .sentinel, .sentinel], laidTests := true, laidLooks := .later }
def MatRingCardSaid : Prop := Claim7.holds Tryd.pinned (.plain (OpenSpec.ofChange matRingSpec)) matRingCard

/-- THE TIED CARD OF 'edenlaw16.MatOnes'. -/
def matOnesCard : Claim7 := { stood := { row := matOnesRow, standIns := [], harness := (true, "d56d711e56a2549291d73ac276094c72bb9d482c70a7a61bceec19828514e636"), looks := true }, kinds := [], alts := [], laidByText := true, laidKinds := [.handle, .sentinel, .sentinel, .sentinel, .sentinel, .sentinel, .sentinel, .sentinel, .sentinel, .sentinel, .sentinel, .sentinel, .sentinel], laidTests := true, laidLooks := .later }
def MatOnesCardSaid : Prop := Claim7.holds Tryd.pinned (.plain (OpenSpec.ofChange matOnesSpec)) matOnesCard

/-- THE TIED CARD OF 'edenlaw16.MatAll'. -/
def matAllCard : Claim7 := { stood := { row := matAllRow, standIns := [], harness := (true, "d56d711e56a2549291d73ac276094c72bb9d482c70a7a61bceec19828514e636"), looks := true }, kinds := [], alts := [], laidByText := true, laidKinds := [.handle, .sentinel, .sentinel, .sentinel, .sentinel, .sentinel, .sentinel, .sentinel, .sentinel, .sentinel, .sentinel, .sentinel, .sentinel], laidTests := true, laidLooks := .later }
def MatAllCardSaid : Prop := Claim7.holds Tryd.pinned (.plain (OpenSpec.ofChange matAllSpec)) matAllCard

/-- THE TIED CARD OF 'edenlaw17.CountKeeps'. -/
def countKeepsCard : Claim7 := { stood := { row := countKeepsRow, standIns := [], harness := (true, "d56d711e56a2549291d73ac276094c72bb9d482c70a7a61bceec19828514e636"), looks := true }, kinds := [], alts := [], laidByText := true, laidKinds := [.sentinel, .sentinel, .sentinel, .sentinel, .sentinel, .sentinel, .sentinel, .sentinel, .sentinel, .sentinel, .sentinel, .sentinel], laidTests := true, laidLooks := .later }
def CountKeepsCardSaid : Prop := Claim7.holds Tryd.pinned (.plain (OpenSpec.ofChange countKeepsSpec)) countKeepsCard

/-- THE TIED CARD OF 'edenlaw17.CountSums'. -/
def countSumsCard : Claim7 := { stood := { row := countSumsRow, standIns := [], harness := (true, "d56d711e56a2549291d73ac276094c72bb9d482c70a7a61bceec19828514e636"), looks := true }, kinds := [], alts := [], laidByText := true, laidKinds := [.sentinel, .sentinel, .sentinel, .sentinel, .sentinel, .sentinel, .sentinel, .sentinel, .sentinel, .sentinel, .sentinel, .sentinel], laidTests := true, laidLooks := .later }
def CountSumsCardSaid : Prop := Claim7.holds Tryd.pinned (.plain (OpenSpec.ofChange countSumsSpec)) countSumsCard

/-- THE TIED CARD OF 'edenlaw17.CountLists'. -/
def countListsCard : Claim7 := { stood := { row := countListsRow, standIns := [], harness := (true, "d56d711e56a2549291d73ac276094c72bb9d482c70a7a61bceec19828514e636"), looks := true }, kinds := [], alts := [], laidByText := true, laidKinds := [.sentinel, .sentinel, .sentinel, .sentinel, .sentinel, .sentinel, .sentinel, .sentinel, .sentinel, .sentinel, .sentinel, .sentinel], laidTests := true, laidLooks := .later }
def CountListsCardSaid : Prop := Claim7.holds Tryd.pinned (.plain (OpenSpec.ofChange countListsSpec)) countListsCard

/-- THE TIED CARD OF 'edenlaw17.CountFixeds'. -/
def countFixedsCard : Claim7 := { stood := { row := countFixedsRow, standIns := [], harness := (true, "d56d711e56a2549291d73ac276094c72bb9d482c70a7a61bceec19828514e636"), looks := true }, kinds := [], alts := [], laidByText := true, laidKinds := [.sentinel, .sentinel, .sentinel, .sentinel, .sentinel, .sentinel, .sentinel, .sentinel, .sentinel, .sentinel, .sentinel, .sentinel], laidTests := true, laidLooks := .later }
def CountFixedsCardSaid : Prop := Claim7.holds Tryd.pinned (.plain (OpenSpec.ofChange countFixedsSpec)) countFixedsCard

/-- THE TIED CARD OF 'edenlaw17.CountWords'. -/
def countWordsCard : Claim7 := { stood := { row := countWordsRow, standIns := [], harness := (true, "d56d711e56a2549291d73ac276094c72bb9d482c70a7a61bceec19828514e636"), looks := true }, kinds := [], alts := [], laidByText := true, laidKinds := [.handle, .sentinel, .sentinel, .sentinel, .sentinel, .sentinel, .sentinel, .sentinel, .sentinel, .sentinel, .sentinel, .sentinel, .sentinel], laidTests := true, laidLooks := .later }
def CountWordsCardSaid : Prop := Claim7.holds Tryd.pinned (.plain (OpenSpec.ofChange countWordsSpec)) countWordsCard

/-- THE TIED CARD OF 'edenlaw17.CountRings'. -/
def countRingsCard : Claim7 := { stood := { row := countRingsRow, standIns := [], harness := (true, "d56d711e56a2549291d73ac276094c72bb9d482c70a7a61bceec19828514e636"), looks := true }, kinds := [], alts := [], laidByText := true, laidKinds := [.handle, .sentinel, .sentinel, .sentinel, .sentinel, .sentinel, .sentinel, .sentinel, .sentinel, .sentinel, .sentinel, .sentinel, .sentinel], laidTests := true, laidLooks := .later }
def CountRingsCardSaid : Prop := Claim7.holds Tryd.pinned (.plain (OpenSpec.ofChange countRingsSpec)) countRingsCard

/-- THE TIED CARD OF 'edenlaw17.CountFairs'. -/
def countFairsCard : Claim7 := { stood := { row := countFairsRow, standIns := [], harness := (true, "d56d711e56a2549291d73ac276094c72bb9d482c70a7a61bceec19828514e636"), looks := true }, kinds := [], alts := [], laidByText := true, laidKinds := [.handle, .sentinel, .sentinel, .sentinel, .sentinel, .sentinel, .sentinel, .sentinel, .sentinel, .sentinel, .sentinel, .sentinel, .sentinel], laidTests := true, laidLooks := .later }
def CountFairsCardSaid : Prop := Claim7.holds Tryd.pinned (.plain (OpenSpec.ofChange countFairsSpec)) countFairsCard

/-- THE SECOND FORM's CARD OF 'edenlaw16.MatWays'. -/
def matWaysUptoCard : Claim7 := { stood := { row := matWaysUptoRow, standIns := [], harness := (true, "d56d711e56a2549291d73ac276094c72bb9d482c70a7a61bceec19828514e636"), looks := true }, kinds := [], alts := [], laidByText := true, laidKinds := [.sentinel, .sentinel, .sentinel, .sentinel, .sentinel, .sentinel, .sentinel, .sentinel, .sentinel, .sentinel, .sentinel, .sentinel], laidTests := true, laidLooks := .later }
def MatWaysUptoCardSaid : Prop := Claim7.holds Tryd.pinned (.plain (OpenSpec.upto matWaysSpec)) matWaysUptoCard

/-- THE SECOND FORM's CARD OF 'edenlaw16.MatKeeps'. -/
def matKeepsUptoCard : Claim7 := { stood := { row := matKeepsUptoRow, standIns := [], harness := (true, "d56d711e56a2549291d73ac276094c72bb9d482c70a7a61bceec19828514e636"), looks := true }, kinds := [], alts := [], laidByText := true, laidKinds := [.sentinel, .sentinel, .sentinel, .sentinel, .sentinel, .sentinel, .sentinel, .sentinel, .sentinel, .sentinel, .sentinel, .sentinel], laidTests := true, laidLooks := .later }
def MatKeepsUptoCardSaid : Prop := Claim7.holds Tryd.pinned (.plain (OpenSpec.upto matKeepsSpec)) matKeepsUptoCard

/-- THE SECOND FORM's CARD OF 'edenlaw16.MatRing'. -/
def matRingUptoCard : Claim7 := { stood := { row := matRingUptoRow, standIns := [], harness := (true, "d56d711e56a2549291d73ac276094c72bb9d482c70a7a61bceec19828514e636"), looks := true }, kinds := [], alts := [], laidByText := true, laidKinds := [.sentinel, .sentinel, .sentinel, .sentinel, .sentinel, .sentinel, .sentinel, .sentinel, .sentinel, .sentinel, .sentinel, .sentinel], laidTests := true, laidLooks := .later }
def MatRingUptoCardSaid : Prop := Claim7.holds Tryd.pinned (.plain (OpenSpec.upto matRingSpec)) matRingUptoCard

/-- THE SECOND FORM's CARD OF 'edenlaw16.MatOnes'. -/
def matOnesUptoCard : Claim7 := { stood := { row := matOnesUptoRow, standIns := [], harness := (true, "d56d711e56a2549291d73ac276094c72bb9d482c70a7a61bceec19828514e636"), looks := true }, kinds := [], alts := [], laidByText := true, laidKinds := [.handle, .sentinel, .sentinel, .sentinel, .sentinel, .sentinel, .sentinel, .sentinel, .sentinel, .sentinel, .sentinel, .sentinel, .sentinel], laidTests := true, laidLooks := .later }
def MatOnesUptoCardSaid : Prop := Claim7.holds Tryd.pinned (.plain (OpenSpec.upto matOnesSpec)) matOnesUptoCard

/-- THE SECOND FORM's CARD OF 'edenlaw16.MatAll'. -/
def matAllUptoCard : Claim7 := { stood := { row := matAllUptoRow, standIns := [], harness := (true, "d56d711e56a2549291d73ac276094c72bb9d482c70a7a61bceec19828514e636"), looks := true }, kinds := [], alts := [], laidByText := true, laidKinds := [.handle, .sentinel, .sentinel, .sentinel, .sentinel, .sentinel, .sentinel, .sentinel, .sentinel, .sentinel, .sentinel, .sentinel, .sentinel], laidTests := true, laidLooks := .later }
def MatAllUptoCardSaid : Prop := Claim7.holds Tryd.pinned (.plain (OpenSpec.upto matAllSpec)) matAllUptoCard

/-- THE SECOND FORM's CARD OF 'edenlaw17.CountKeeps'. -/
def countKeepsUptoCard : Claim7 := { stood := { row := countKeepsUptoRow, standIns := [], harness := (true, "d56d711e56a2549291d73ac276094c72bb9d482c70a7a61bceec19828514e636"), looks := true }, kinds := [], alts := [], laidByText := true, laidKinds := [.sentinel, .sentinel, .sentinel, .sentinel, .sentinel, .sentinel, .sentinel, .sentinel, .sentinel, .sentinel, .sentinel, .sentinel], laidTests := true, laidLooks := .later }
def CountKeepsUptoCardSaid : Prop := Claim7.holds Tryd.pinned (.plain (OpenSpec.upto countKeepsSpec)) countKeepsUptoCard

/-- THE SECOND FORM's CARD OF 'edenlaw17.CountSums'. -/
def countSumsUptoCard : Claim7 := { stood := { row := countSumsUptoRow, standIns := [], harness := (true, "d56d711e56a2549291d73ac276094c72bb9d482c70a7a61bceec19828514e636"), looks := true }, kinds := [], alts := [], laidByText := true, laidKinds := [.sentinel, .sentinel, .sentinel, .sentinel, .sentinel, .sentinel, .sentinel, .sentinel, .sentinel, .sentinel, .sentinel, .sentinel], laidTests := true, laidLooks := .later }
def CountSumsUptoCardSaid : Prop := Claim7.holds Tryd.pinned (.plain (OpenSpec.upto countSumsSpec)) countSumsUptoCard

/-- THE SECOND FORM's CARD OF 'edenlaw17.CountLists'. -/
def countListsUptoCard : Claim7 := { stood := { row := countListsUptoRow, standIns := [], harness := (true, "d56d711e56a2549291d73ac276094c72bb9d482c70a7a61bceec19828514e636"), looks := true }, kinds := [], alts := [], laidByText := true, laidKinds := [.sentinel, .sentinel, .sentinel, .sentinel, .sentinel, .sentinel, .sentinel, .sentinel, .sentinel, .sentinel, .sentinel, .sentinel], laidTests := true, laidLooks := .later }
def CountListsUptoCardSaid : Prop := Claim7.holds Tryd.pinned (.plain (OpenSpec.upto countListsSpec)) countListsUptoCard

/-- THE SECOND FORM's CARD OF 'edenlaw17.CountFixeds'. -/
def countFixedsUptoCard : Claim7 := { stood := { row := countFixedsUptoRow, standIns := [], harness := (true, "d56d711e56a2549291d73ac276094c72bb9d482c70a7a61bceec19828514e636"), looks := true }, kinds := [], alts := [], laidByText := true, laidKinds := [.sentinel, .sentinel, .sentinel, .sentinel, .sentinel, .sentinel, .sentinel, .sentinel, .sentinel, .sentinel, .sentinel, .sentinel], laidTests := true, laidLooks := .later }
def CountFixedsUptoCardSaid : Prop := Claim7.holds Tryd.pinned (.plain (OpenSpec.upto countFixedsSpec)) countFixedsUptoCard

/-- THE SECOND FORM's CARD OF 'edenlaw17.CountWords'. -/
def countWordsUptoCard : Claim7 := { stood := { row := countWordsUptoRow, standIns := [], harness := (true, "d56d711e56a2549291d73ac276094c72bb9d482c70a7a61bceec19828514e636"), looks := true }, kinds := [], alts := [], laidByText := true, laidKinds := [.handle, .sentinel, .sentinel, .sentinel, .sentinel, .sentinel, .sentinel, .sentinel, .sentinel, .sentinel, .sentinel, .sentinel, .sentinel], laidTests := true, laidLooks := .later }
def CountWordsUptoCardSaid : Prop := Claim7.holds Tryd.pinned (.plain (OpenSpec.upto countWordsSpec)) countWordsUptoCard

/-- THE SECOND FORM's CARD OF 'edenlaw17.CountRings'. -/
def countRingsUptoCard : Claim7 := { stood := { row := countRingsUptoRow, standIns := [], harness := (true, "d56d711e56a2549291d73ac276094c72bb9d482c70a7a61bceec19828514e636"), looks := true }, kinds := [], alts := [], laidByText := true, laidKinds := [.handle, .sentinel, .sentinel, .sentinel, .sentinel, .sentinel, .sentinel, .sentinel, .sentinel, .sentinel, .sentinel, .sentinel, .sentinel], laidTests := true, laidLooks := .later }
def CountRingsUptoCardSaid : Prop := Claim7.holds Tryd.pinned (.plain (OpenSpec.upto countRingsSpec)) countRingsUptoCard

/-- THE SECOND FORM's CARD OF 'edenlaw17.CountFairs'. -/
def countFairsUptoCard : Claim7 := { stood := { row := countFairsUptoRow, standIns := [], harness := (true, "d56d711e56a2549291d73ac276094c72bb9d482c70a7a61bceec19828514e636"), looks := true }, kinds := [], alts := [], laidByText := true, laidKinds := [.handle, .sentinel, .sentinel, .sentinel, .sentinel, .sentinel, .sentinel, .sentinel, .sentinel, .sentinel, .sentinel, .sentinel, .sentinel], laidTests := true, laidLooks := .later }
def CountFairsUptoCardSaid : Prop := Claim7.holds Tryd.pinned (.plain (OpenSpec.upto countFairsSpec)) countFairsUptoCard
end Rows
end Go.Proofs.YtmdicmcmalmbaaaDoor
