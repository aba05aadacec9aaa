/-
  DERIVED. GIVEN WITH THE SEED: THE CARDS: each row of YtkggdnnhgafopaaDoorRows.lean that lists a variable, with what it lists TIED to the program's text (the seventh form; the later family's looks); each row that meets fmt, with fmt's text TOLD by the authors' own Lean function (tested against real Go, not proved from fmt's source: count such statements apart). THE CARD IS WHAT COUNTS. Prove the row's statement (the work); the ties are given (YtkggdnnhgafopaaDoorTie.lean); close each card by the builder's one call (the guide's Derived/Test/ToyasCard.lean, 'card_holds'). Laid BY PROGRAM, IN A SANDBOX (cutbox-door.mjs). By AI agents, Wed Nov 11 2026. No macro, syntax, notation, axiom, sorry.
-/
import Derived.Test.YtkggdnnhgafopaaDoorRows
import GoSem.ClaimSeven
namespace Go.Proofs.YtkggdnnhgafopaaDoor
namespace Rows

/-- THE TIED CARD OF 'instarlaw12.SchemaChanges'. -/
def schemaChangesCard : Claim7 := { stood := { row := schemaChangesRow, standIns := [], harness := (true, "f6a4df446685054c57ba9a161c8e35fa250a61b518ea55b1830b01f905dd83ec"), looks := false }, kinds := [], alts := [], laidByText := true, laidKinds := [.data, .pinned], laidTests := true, laidLooks := .later }
def SchemaChangesCardSaid : Prop := Claim7.holds Tryd.pinned (.plain (OpenSpec.ofChange schemaChangesSpec)) schemaChangesCard

/-- THE TIED CARD OF 'instarlaw12.SchemaStays'. -/
def schemaStaysCard : Claim7 := { stood := { row := schemaStaysRow, standIns := [], harness := (true, "f6a4df446685054c57ba9a161c8e35fa250a61b518ea55b1830b01f905dd83ec"), looks := false }, kinds := [], alts := [], laidByText := true, laidKinds := [.data, .pinned], laidTests := true, laidLooks := .later }
def SchemaStaysCardSaid : Prop := Claim7.holds Tryd.pinned (.plain (OpenSpec.ofChange schemaStaysSpec)) schemaStaysCard

/-- THE TIED CARD OF 'instarlaw12.SchemaTells'. -/
def schemaTellsCard : Claim7 := { stood := { row := schemaTellsRow, standIns := [], harness := (true, "f6a4df446685054c57ba9a161c8e35fa250a61b518ea55b1830b01f905dd83ec"), looks := false }, kinds := [], alts := [], laidByText := true, laidKinds := [.data, .pinned], laidTests := true, laidLooks := .later }
def SchemaTellsCardSaid : Prop := Claim7.holds Tryd.pinned (.plain (OpenSpec.ofChange schemaTellsSpec)) schemaTellsCard

/-- THE SECOND FORM's CARD OF 'instarlaw12.SchemaChanges'. -/
def schemaChangesUptoCard : Claim7 := { stood := { row := schemaChangesUptoRow, standIns := [], harness := (true, "f6a4df446685054c57ba9a161c8e35fa250a61b518ea55b1830b01f905dd83ec"), looks := false }, kinds := [], alts := [], laidByText := true, laidKinds := [.data, .pinned], laidTests := true, laidLooks := .later }
def SchemaChangesUptoCardSaid : Prop := Claim7.holds Tryd.pinned (.plain (OpenSpec.upto schemaChangesSpec)) schemaChangesUptoCard

/-- THE SECOND FORM's CARD OF 'instarlaw12.SchemaStays'. -/
def schemaStaysUptoCard : Claim7 := { stood := { row := schemaStaysUptoRow, standIns := [], harness := (true, "f6a4df446685054c57ba9a161c8e35fa250a61b518ea55b1830b01f905dd83ec"), looks := false }, kinds := [], alts := [], laidByText := true, laidKinds := [.data, .pinned], laidTests := true, laidLooks := .later }
def SchemaStaysUptoCardSaid : Prop := Claim7.holds Tryd.pinned (.plain (OpenSpec.upto schemaStaysSpec)) schemaStaysUptoCard

/-- THE SECOND FORM's CARD OF 'instarlaw12.SchemaTells'. -/
def schemaTellsUptoCard : Claim7 := { stood := { row := schemaTellsUptoRow, standIns := [], harness := (true, "f6a4df446685054c57ba9a161c8e35fa250a61b518ea55b1830b01f905dd83ec"), looks := false }, kinds := [], alts := [], laidByText := true, laidKinds := [.data, .pinned], laidTests := true, laidLooks := .later }
def SchemaTellsUptoCardSaid : Prop := Claim7.holds Tryd.pinned (.plain (OpenSpec.upto schemaTellsSpec)) schemaTellsUptoCard
end Rows
end Go.Proofs.YtkggdnnhgafopaaDoor
