/-
  DERIVED. GIVEN WITH THE SEED: THE CARDS: each row of YtllngchcomiglaaDoorRows.lean that lists a variable, with what it lists TIED to the program's text (the seventh form; the later family's looks); each row that meets fmt, with fmt's text TOLD by the authors' own Lean function (tested against real Go, not proved from fmt's source: count such statements apart). THE CARD IS WHAT COUNTS. Prove the row's statement (the work); the ties are given (YtllngchcomiglaaDoorTie.lean); close each card by the builder's one call (the guide's Derived/Test/ToyasCard.lean, 'card_holds'). Laid BY PROGRAM, IN A SANDBOX (cutbox-door.mjs). By AI agents, Wed Nov 11 2026. No macro, syntax, notation, axiom, sorry.
-/
import Derived.Test.YtllngchcomiglaaDoorRows
import GoSem.ClaimSeven
namespace Go.Proofs.YtllngchcomiglaaDoor
namespace Rows

/-- THE TIED CARD OF 'edenlaw23.CertKeeps'. -/
def certKeepsCard : Claim7 := { stood := { row := certKeepsRow, standIns := [], harness := (true, "f3b5dd18bb23c23a76b89cfb1a1d024b3f59064d67498afcc2831ee514a82b8e"), looks := true }, kinds := [], alts := [], laidByText := true, laidKinds := [.sentinel, .sentinel, .sentinel, .sentinel, .sentinel, .sentinel, .sentinel, .sentinel, .sentinel, .sentinel, .sentinel, .sentinel], laidTests := true, laidLooks := .later }
def CertKeepsCardSaid : Prop := Claim7.holds Tryd.pinned (.plain (OpenSpec.ofChange certKeepsSpec)) certKeepsCard

/-- THE TIED CARD OF 'edenlaw23.CertEncodes'. -/
def certEncodesCard : Claim7 := { stood := { row := certEncodesRow, standIns := [], harness := (true, "f3b5dd18bb23c23a76b89cfb1a1d024b3f59064d67498afcc2831ee514a82b8e"), looks := true }, kinds := [], alts := [], laidByText := true, laidKinds := [.handle, .sentinel, .sentinel, .sentinel, .sentinel, .sentinel, .sentinel, .sentinel, .sentinel, .sentinel, .sentinel, .sentinel, .sentinel], laidTests := true, laidLooks := .later }
def CertEncodesCardSaid : Prop := Claim7.holds Tryd.pinned (.plain (OpenSpec.ofChange certEncodesSpec)) certEncodesCard

/-- THE TIED CARD OF 'edenlaw23.CertDecodes'. -/
def certDecodesCard : Claim7 := { stood := { row := certDecodesRow, standIns := [], harness := (true, "f3b5dd18bb23c23a76b89cfb1a1d024b3f59064d67498afcc2831ee514a82b8e"), looks := true }, kinds := [], alts := [], laidByText := true, laidKinds := [.handle, .sentinel, .sentinel, .sentinel, .sentinel, .sentinel, .sentinel, .sentinel, .sentinel, .sentinel, .sentinel, .sentinel, .sentinel], laidTests := true, laidLooks := .later }
def CertDecodesCardSaid : Prop := Claim7.holds Tryd.pinned (.plain (OpenSpec.ofChange certDecodesSpec)) certDecodesCard

/-- THE TIED CARD OF 'edenlaw23.CertFronts'. -/
def certFrontsCard : Claim7 := { stood := { row := certFrontsRow, standIns := [], harness := (true, "f3b5dd18bb23c23a76b89cfb1a1d024b3f59064d67498afcc2831ee514a82b8e"), looks := true }, kinds := [], alts := [], laidByText := true, laidKinds := [.handle, .sentinel, .sentinel, .sentinel, .sentinel, .sentinel, .sentinel, .sentinel, .sentinel, .sentinel, .sentinel, .sentinel, .sentinel], laidTests := true, laidLooks := .later }
def CertFrontsCardSaid : Prop := Claim7.holds Tryd.pinned (.plain (OpenSpec.ofChange certFrontsSpec)) certFrontsCard

/-- THE TIED CARD OF 'edenlaw23.CertFull'. -/
def certFullCard : Claim7 := { stood := { row := certFullRow, standIns := [], harness := (true, "f3b5dd18bb23c23a76b89cfb1a1d024b3f59064d67498afcc2831ee514a82b8e"), looks := true }, kinds := [], alts := [], laidByText := true, laidKinds := [.handle, .sentinel, .sentinel, .sentinel, .sentinel, .sentinel, .sentinel, .sentinel, .sentinel, .sentinel, .sentinel, .sentinel, .sentinel], laidTests := true, laidLooks := .later }
def CertFullCardSaid : Prop := Claim7.holds Tryd.pinned (.plain (OpenSpec.ofChange certFullSpec)) certFullCard

/-- THE SECOND FORM's CARD OF 'edenlaw23.CertKeeps'. -/
def certKeepsUptoCard : Claim7 := { stood := { row := certKeepsUptoRow, standIns := [], harness := (true, "f3b5dd18bb23c23a76b89cfb1a1d024b3f59064d67498afcc2831ee514a82b8e"), looks := true }, kinds := [], alts := [], laidByText := true, laidKinds := [.sentinel, .sentinel, .sentinel, .sentinel, .sentinel, .sentinel, .sentinel, .sentinel, .sentinel, .sentinel, .sentinel, .sentinel], laidTests := true, laidLooks := .later }
def CertKeepsUptoCardSaid : Prop := Claim7.holds Tryd.pinned (.plain (OpenSpec.upto certKeepsSpec)) certKeepsUptoCard

/-- THE SECOND FORM's CARD OF 'edenlaw23.CertEncodes'. -/
def certEncodesUptoCard : Claim7 := { stood := { row := certEncodesUptoRow, standIns := [], harness := (true, "f3b5dd18bb23c23a76b89cfb1a1d024b3f59064d67498afcc2831ee514a82b8e"), looks := true }, kinds := [], alts := [], laidByText := true, laidKinds := [.handle, .sentinel, .sentinel, .sentinel, .sentinel, .sentinel, .sentinel, .sentinel, .sentinel, .sentinel, .sentinel, .sentinel, .sentinel], laidTests := true, laidLooks := .later }
def CertEncodesUptoCardSaid : Prop := Claim7.holds Tryd.pinned (.plain (OpenSpec.upto certEncodesSpec)) certEncodesUptoCard

/-- THE SECOND FORM's CARD OF 'edenlaw23.CertDecodes'. -/
def certDecodesUptoCard : Claim7 := { stood := { row := certDecodesUptoRow, standIns := [], harness := (true, "f3b5dd18bb23c23a76b89cfb1a1d024b3f59064d67498afcc2831ee514a82b8e"), looks := true }, kinds := [], alts := [], laidByText := true, laidKinds := [.handle, .sentinel, .sentinel, .sentinel, .sentinel, .sentinel, .sentinel, .sentinel, .sentinel, .sentinel, .sentinel, .sentinel, .sentinel], laidTests := true, laidLooks := .later }
def CertDecodesUptoCardSaid : Prop := Claim7.holds Tryd.pinned (.plain (OpenSpec.upto certDecodesSpec)) certDecodesUptoCard

/-- THE SECOND FORM's CARD OF 'edenlaw23.CertFronts'. -/
def certFrontsUptoCard : Claim7 := { stood := { row := certFrontsUptoRow, standIns := [], harness := (true, "f3b5dd18bb23c23a76b89cfb1a1d024b3f59064d67498afcc2831ee514a82b8e"), looks := true }, kinds := [], alts := [], laidByText := true, laidKinds := [.handle, .sentinel, .sentinel, .sentinel, .sentinel, .sentinel, .sentinel, .sentinel, .sentinel, .sentinel, .sentinel, .sentinel, .sentinel], laidTests := true, laidLooks := .later }
def CertFrontsUptoCardSaid : Prop := Claim7.holds Tryd.pinned (.plain (OpenSpec.upto certFrontsSpec)) certFrontsUptoCard

/-- THE SECOND FORM's CARD OF 'edenlaw23.CertFull'. -/
def certFullUptoCard : Claim7 := { stood := { row := certFullUptoRow, standIns := [], harness := (true, "f3b5dd18bb23c23a76b89cfb1a1d024b3f59064d67498afcc2831ee514a82b8e"), looks := true }, kinds := [], alts := [], laidByText := true, laidKinds := [.handle, .sentinel, .sentinel, .sentinel, .sentinel, .sentinel, .sentinel, .sentinel, .sentinel, .sentinel, .sentinel, .sentinel, .sentinel], laidTests := true, laidLooks := .later }
def CertFullUptoCardSaid : Prop := Claim7.holds Tryd.pinned (.plain (OpenSpec.upto certFullSpec)) certFullUptoCard
end Rows
end Go.Proofs.YtllngchcomiglaaDoor
