/-
  DERIVED. GIVEN WITH THE SEED: THE CARDS: each row of YtmbboianghbjkaaDoorRows.lean that lists a variable, with what it lists TIED to the program's text (the seventh form; the later family's looks); each row that meets fmt, with fmt's text TOLD by the authors' own Lean function (tested against real Go, not proved from fmt's source: count such statements apart). THE CARD IS WHAT COUNTS. Prove the row's statement (the work); the ties are given (YtmbboianghbjkaaDoorTie.lean); close each card by the builder's one call (the guide's Derived/Test/ToyasCard.lean, 'card_holds'). Laid BY PROGRAM, IN A SANDBOX (cutbox-door.mjs). By AI agents, Wed Nov 11 2026. No macro, syntax, notation, axiom, sorry.
-/
import Derived.Test.YtmbboianghbjkaaDoorRows
import GoSem.ClaimSeven
namespace Go.Proofs.YtmbboianghbjkaaDoor
namespace Rows

/-- THE TIED CARD OF 'thistlelaw12.ProgLooks'. -/
def progLooksCard : Claim7 := { stood := { row := progLooksRow, standIns := [], harness := (true, "56c04e89eb1a6ddff4781acec3f64bbe3a43ba34fabfd3312da655d8e87fa87f"), looks := false }, kinds := [], alts := [], laidByText := true, laidKinds := [.data, .widerDeep, .pinned], laidTests := true, laidLooks := .later }
def ProgLooksCardSaid : Prop := Claim7.holds Tryd.pinned (.plain (OpenSpec.ofChange progLooksSpec)) progLooksCard

/-- THE TIED CARD OF 'thistlelaw12.ProgSides'. -/
def progSidesCard : Claim7 := { stood := { row := progSidesRow, standIns := [], harness := (true, "56c04e89eb1a6ddff4781acec3f64bbe3a43ba34fabfd3312da655d8e87fa87f"), looks := false }, kinds := [], alts := [], laidByText := true, laidKinds := [.data, .widerDeep, .pinned], laidTests := true, laidLooks := .later }
def ProgSidesCardSaid : Prop := Claim7.holds Tryd.pinned (.plain (OpenSpec.ofChange progSidesSpec)) progSidesCard

/-- THE TIED CARD OF 'thistlelaw12.ProgKeeps'. -/
def progKeepsCard : Claim7 := { stood := { row := progKeepsRow, standIns := [], harness := (true, "56c04e89eb1a6ddff4781acec3f64bbe3a43ba34fabfd3312da655d8e87fa87f"), looks := false }, kinds := [], alts := [], laidByText := true, laidKinds := [.data, .widerDeep, .pinned], laidTests := true, laidLooks := .later }
def ProgKeepsCardSaid : Prop := Claim7.holds Tryd.pinned (.plain (OpenSpec.ofChange progKeepsSpec)) progKeepsCard

/-- THE TIED CARD OF 'thistlelaw12.ProgChecks'. -/
def progChecksCard : Claim7 := { stood := { row := progChecksRow, standIns := [], harness := (true, "56c04e89eb1a6ddff4781acec3f64bbe3a43ba34fabfd3312da655d8e87fa87f"), looks := false }, kinds := [], alts := [], laidByText := true, laidKinds := [.data, .widerDeep, .pinned], laidTests := true, laidLooks := .later }
def ProgChecksCardSaid : Prop := Claim7.holds Tryd.pinned (.plain (OpenSpec.ofChange progChecksSpec)) progChecksCard

/-- THE TIED CARD OF 'thistlelaw12.ProgCompiles'. -/
def progCompilesCard : Claim7 := { stood := { row := progCompilesRow, standIns := [], harness := (true, "56c04e89eb1a6ddff4781acec3f64bbe3a43ba34fabfd3312da655d8e87fa87f"), looks := false }, kinds := [], alts := [], laidByText := true, laidKinds := [.data, .widerDeep, .pinned], laidTests := true, laidLooks := .later }
def ProgCompilesCardSaid : Prop := Claim7.holds Tryd.pinned (.plain (OpenSpec.ofChange progCompilesSpec)) progCompilesCard

/-- THE TIED CARD OF 'thistlelaw12.ProgFinds'. -/
def progFindsCard : Claim7 := { stood := { row := progFindsRow, standIns := [], harness := (true, "56c04e89eb1a6ddff4781acec3f64bbe3a43ba34fabfd3312da655d8e87fa87f"), looks := false }, kinds := [], alts := [], laidByText := true, laidKinds := [.data, .widerDeep, .pinned], laidTests := true, laidLooks := .later }
def ProgFindsCardSaid : Prop := Claim7.holds Tryd.pinned (.plain (OpenSpec.ofChange progFindsSpec)) progFindsCard

/-- THE SECOND FORM's CARD OF 'thistlelaw12.ProgLooks'. -/
def progLooksUptoCard : Claim7 := { stood := { row := progLooksUptoRow, standIns := [], harness := (true, "56c04e89eb1a6ddff4781acec3f64bbe3a43ba34fabfd3312da655d8e87fa87f"), looks := false }, kinds := [], alts := [], laidByText := true, laidKinds := [.data, .widerDeep, .pinned], laidTests := true, laidLooks := .later }
def ProgLooksUptoCardSaid : Prop := Claim7.holds Tryd.pinned (.plain (OpenSpec.upto progLooksSpec)) progLooksUptoCard

/-- THE SECOND FORM's CARD OF 'thistlelaw12.ProgSides'. -/
def progSidesUptoCard : Claim7 := { stood := { row := progSidesUptoRow, standIns := [], harness := (true, "56c04e89eb1a6ddff4781acec3f64bbe3a43ba34fabfd3312da655d8e87fa87f"), looks := false }, kinds := [], alts := [], laidByText := true, laidKinds := [.data, .widerDeep, .pinned], laidTests := true, laidLooks := .later }
def ProgSidesUptoCardSaid : Prop := Claim7.holds Tryd.pinned (.plain (OpenSpec.upto progSidesSpec)) progSidesUptoCard

/-- THE SECOND FORM's CARD OF 'thistlelaw12.ProgKeeps'. -/
def progKeepsUptoCard : Claim7 := { stood := { row := progKeepsUptoRow, standIns := [], harness := (true, "56c04e89eb1a6ddff4781acec3f64bbe3a43ba34fabfd3312da655d8e87fa87f"), looks := false }, kinds := [], alts := [], laidByText := true, laidKinds := [.data, .widerDeep, .pinned], laidTests := true, laidLooks := .later }
def ProgKeepsUptoCardSaid : Prop := Claim7.holds Tryd.pinned (.plain (OpenSpec.upto progKeepsSpec)) progKeepsUptoCard

/-- THE SECOND FORM's CARD OF 'thistlelaw12.ProgChecks'. -/
def progChecksUptoCard : Claim7 := { stood := { row := progChecksUptoRow, standIns := [], harness := (true, "56c04e89eb1a6ddff4781acec3f64bbe3a43ba34fabfd3312da655d8e87fa87f"), looks := false }, kinds := [], alts := [], laidByText := true, laidKinds := [.data, .widerDeep, .pinned], laidTests := true, laidLooks := .later }
def ProgChecksUptoCardSaid : Prop := Claim7.holds Tryd.pinned (.plain (OpenSpec.upto progChecksSpec)) progChecksUptoCard

/-- THE SECOND FORM's CARD OF 'thistlelaw12.ProgCompiles'. -/
def progCompilesUptoCard : Claim7 := { stood := { row := progCompilesUptoRow, standIns := [], harness := (true, "56c04e89eb1a6ddff4781acec3f64bbe3a43ba34fabfd3312da655d8e87fa87f"), looks := false }, kinds := [], alts := [], laidByText := true, laidKinds := [.data, .widerDeep, .pinned], laidTests := true, laidLooks := .later }
def ProgCompilesUptoCardSaid : Prop := Claim7.holds Tryd.pinned (.plain (OpenSpec.upto progCompilesSpec)) progCompilesUptoCard

/-- THE SECOND FORM's CARD OF 'thistlelaw12.ProgFinds'. -/
def progFindsUptoCard : Claim7 := { stood := { row := progFindsUptoRow, standIns := [], harness := (true, "56c04e89eb1a6ddff4781acec3f64bbe3a43ba34fabfd3312da655d8e87fa87f"), looks := false }, kinds := [], alts := [], laidByText := true, laidKinds := [.data, .widerDeep, .pinned], laidTests := true, laidLooks := .later }
def ProgFindsUptoCardSaid : Prop := Claim7.holds Tryd.pinned (.plain (OpenSpec.upto progFindsSpec)) progFindsUptoCard
end Rows
end Go.Proofs.YtmbboianghbjkaaDoor
