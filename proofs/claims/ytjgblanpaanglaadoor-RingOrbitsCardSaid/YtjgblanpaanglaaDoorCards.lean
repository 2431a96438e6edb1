/-
  DERIVED. GIVEN WITH THE SEED: THE CARDS: each row of YtjgblanpaanglaaDoorRows.lean that lists a variable, with what it lists TIED to the program's text (the seventh form; the later family's looks); each row that meets fmt, with fmt's text TOLD by the authors' own Lean function (tested against real Go, not proved from fmt's source: count such statements apart). THE CARD IS WHAT COUNTS. Prove the row's statement (the work); the ties are given (YtjgblanpaanglaaDoorTie.lean); close each card by the builder's one call (the guide's Derived/Test/ToyasCard.lean, 'card_holds'). Laid BY PROGRAM, IN A SANDBOX (cutbox-door.mjs). By AI agents, Wed Nov 11 2026. No macro, syntax, notation, axiom, sorry.
-/
import Derived.Test.YtjgblanpaanglaaDoorRows
import GoSem.ClaimSeven
namespace Go.Proofs.YtjgblanpaanglaaDoor
namespace Rows

/-- THE TIED CARD OF 'edenlaw06.RingGoesOn'. -/
def ringGoesOnCard : Claim7 := { stood := { row := ringGoesOnRow, standIns := [], harness := (true, "bfea8155b9428a783b32e945c687302bbc032f82da06b2666a44da3a90dd3633"), looks := true }, kinds := [], alts := [], laidByText := true, laidKinds := [.data, .data, .data, .sentinel, .sentinel, .sentinel, .sentinel, .sentinel, .sentinel, .sentinel, .sentinel, .sentinel, .sentinel, .sentinel, .sentinel], laidTests := true, laidLooks := .later }
def RingGoesOnCardSaid : Prop := Claim7.holds Tryd.pinned (.plain (OpenSpec.ofChange ringGoesOnSpec)) ringGoesOnCard

/-- THE TIED CARD OF 'edenlaw06.RingKeeps'. -/
def ringKeepsCard : Claim7 := { stood := { row := ringKeepsRow, standIns := [], harness := (true, "bfea8155b9428a783b32e945c687302bbc032f82da06b2666a44da3a90dd3633"), looks := true }, kinds := [], alts := [], laidByText := true, laidKinds := [.data, .data, .data, .sentinel, .sentinel, .sentinel, .sentinel, .sentinel, .sentinel, .sentinel, .sentinel, .sentinel, .sentinel, .sentinel, .sentinel], laidTests := true, laidLooks := .later }
def RingKeepsCardSaid : Prop := Claim7.holds Tryd.pinned (.plain (OpenSpec.ofChange ringKeepsSpec)) ringKeepsCard

/-- THE TIED CARD OF 'edenlaw06.RingTurns'. -/
def ringTurnsCard : Claim7 := { stood := { row := ringTurnsRow, standIns := [], harness := (true, "bfea8155b9428a783b32e945c687302bbc032f82da06b2666a44da3a90dd3633"), looks := true }, kinds := [], alts := [], laidByText := true, laidKinds := [.data, .data, .data, .sentinel, .sentinel, .sentinel, .sentinel, .sentinel, .sentinel, .sentinel, .sentinel, .sentinel, .sentinel, .sentinel, .sentinel], laidTests := true, laidLooks := .later }
def RingTurnsCardSaid : Prop := Claim7.holds Tryd.pinned (.plain (OpenSpec.ofChange ringTurnsSpec)) ringTurnsCard

/-- THE TIED CARD OF 'edenlaw06.RingOrbits'. -/
def ringOrbitsCard : Claim7 := { stood := { row := ringOrbitsRow, standIns := [], harness := (true, "bfea8155b9428a783b32e945c687302bbc032f82da06b2666a44da3a90dd3633"), looks := true }, kinds := [], alts := [], laidByText := true, laidKinds := [.data, .data, .data, .handle, .sentinel, .sentinel, .sentinel, .sentinel, .sentinel, .sentinel, .sentinel, .sentinel, .sentinel, .sentinel, .sentinel, .sentinel], laidTests := true, laidLooks := .later }
def RingOrbitsCardSaid : Prop := Claim7.holds Tryd.pinned (.plain (OpenSpec.ofChange ringOrbitsSpec)) ringOrbitsCard

/-- THE TIED CARD OF 'edenlaw06.RingSteps'. -/
def ringStepsCard : Claim7 := { stood := { row := ringStepsRow, standIns := [], harness := (true, "bfea8155b9428a783b32e945c687302bbc032f82da06b2666a44da3a90dd3633"), looks := true }, kinds := [], alts := [], laidByText := true, laidKinds := [.data, .data, .data, .handle, .sentinel, .sentinel, .sentinel, .sentinel, .sentinel, .sentinel, .sentinel, .sentinel, .sentinel, .sentinel, .sentinel, .sentinel], laidTests := true, laidLooks := .later }
def RingStepsCardSaid : Prop := Claim7.holds Tryd.pinned (.plain (OpenSpec.ofChange ringStepsSpec)) ringStepsCard

/-- THE TIED CARD OF 'edenlaw06.RingNecks'. -/
def ringNecksCard : Claim7 := { stood := { row := ringNecksRow, standIns := [], harness := (true, "bfea8155b9428a783b32e945c687302bbc032f82da06b2666a44da3a90dd3633"), looks := true }, kinds := [], alts := [], laidByText := true, laidKinds := [.data, .data, .data, .handle, .sentinel, .sentinel, .sentinel, .sentinel, .sentinel, .sentinel, .sentinel, .sentinel, .sentinel, .sentinel, .sentinel, .sentinel], laidTests := true, laidLooks := .later }
def RingNecksCardSaid : Prop := Claim7.holds Tryd.pinned (.plain (OpenSpec.ofChange ringNecksSpec)) ringNecksCard

/-- THE SECOND FORM's CARD OF 'edenlaw06.RingGoesOn'. -/
def ringGoesOnUptoCard : Claim7 := { stood := { row := ringGoesOnUptoRow, standIns := [], harness := (true, "bfea8155b9428a783b32e945c687302bbc032f82da06b2666a44da3a90dd3633"), looks := true }, kinds := [], alts := [], laidByText := true, laidKinds := [.data, .data, .data, .sentinel, .sentinel, .sentinel, .sentinel, .sentinel, .sentinel, .sentinel, .sentinel, .sentinel, .sentinel, .sentinel, .sentinel], laidTests := true, laidLooks := .later }
def RingGoesOnUptoCardSaid : Prop := Claim7.holds Tryd.pinned (.plain (OpenSpec.upto ringGoesOnSpec)) ringGoesOnUptoCard

/-- THE SECOND FORM's CARD OF 'edenlaw06.RingKeeps'. -/
def ringKeepsUptoCard : Claim7 := { stood := { row := ringKeepsUptoRow, standIns := [], harness := (true, "bfea8155b9428a783b32e945c687302bbc032f82da06b2666a44da3a90dd3633"), looks := true }, kinds := [], alts := [], laidByText := true, laidKinds := [.data, .data, .data, .sentinel, .sentinel, .sentinel, .sentinel, .sentinel, .sentinel, .sentinel, .sentinel, .sentinel, .sentinel, .sentinel, .sentinel], laidTests := true, laidLooks := .later }
def RingKeepsUptoCardSaid : Prop := Claim7.holds Tryd.pinned (.plain (OpenSpec.upto ringKeepsSpec)) ringKeepsUptoCard

/-- THE SECOND FORM's CARD OF 'edenlaw06.RingTurns'. -/
def ringTurnsUptoCard : Claim7 := { stood := { row := ringTurnsUptoRow, standIns := [], harness := (true, "bfea8155b9428a783b32e945c687302bbc032f82da06b2666a44da3a90dd3633"), looks := true }, kinds := [], alts := [], laidByText := true, laidKinds := [.data, .data, .data, .sentinel, .sentinel, .sentinel, .sentinel, .sentinel, .sentinel, .sentinel, .sentinel, .sentinel, .sentinel, .sentinel, .sentinel], laidTests := true, laidLooks := .later }
def RingTurnsUptoCardSaid : Prop := Claim7.holds Tryd.pinned (.plain (OpenSpec.upto ringTurnsSpec)) ringTurnsUptoCard

/-- THE SECOND FORM's CARD OF 'edenlaw06.RingOrbits'. -/
def ringOrbitsUptoCard : Claim7 := { stood := { row := ringOrbitsUptoRow, standIns := [], harness := (true, "bfea8155b9428a783b32e945c687302bbc032f82da06b2666a44da3a90dd3633"), looks := true }, kinds := [], alts := [], laidByText := true, laidKinds := [.data, .data, .data, .handle, .sentinel, .sentinel, .sentinel, .sentinel, .sentinel, .sentinel, .sentinel, .sentinel, .sentinel, .sentinel, .sentinel, .sentinel], laidTests := true, laidLooks := .later }
def RingOrbitsUptoCardSaid : Prop := Claim7.holds Tryd.pinned (.plain (OpenSpec.upto ringOrbitsSpec)) ringOrbitsUptoCard

/-- THE SECOND FORM's CARD OF 'edenlaw06.RingSteps'. -/
def ringStepsUptoCard : Claim7 := { stood := { row := ringStepsUptoRow, standIns := [], harness := (true, "bfea8155b9428a783b32e945c687302bbc032f82da06b2666a44da3a90dd3633"), looks := true }, kinds := [], alts := [], laidByText := true, laidKinds := [.data, .data, .data, .handle, .sentinel, .sentinel, .sentinel, .sentinel, .sentinel, .sentinel, .sentinel, .sentinel, .sentinel, .sentinel, .sentinel, .sentinel], laidTests := true, laidLooks := .later }
def RingStepsUptoCardSaid : Prop := Claim7.holds Tryd.pinned (.plain (OpenSpec.upto ringStepsSpec)) ringStepsUptoCard

/-- THE SECOND FORM's CARD OF 'edenlaw06.RingNecks'. -/
def ringNecksUptoCard : Claim7 := { stood := { row := ringNecksUptoRow, standIns := [], harness := (true, "bfea8155b9428a783b32e945c687302bbc032f82da06b2666a44da3a90dd3633"), looks := true }, kinds := [], alts := [], laidByText := true, laidKinds := [.data, .data, .data, .handle, .sentinel, .sentinel, .sentinel, .sentinel, .sentinel, .sentinel, .sentinel, .sentinel, .sentinel, .sentinel, .sentinel, .sentinel], laidTests := true, laidLooks := .later }
def RingNecksUptoCardSaid : Prop := Claim7.holds Tryd.pinned (.plain (OpenSpec.upto ringNecksSpec)) ringNecksUptoCard
end Rows
end Go.Proofs.YtjgblanpaanglaaDoor
