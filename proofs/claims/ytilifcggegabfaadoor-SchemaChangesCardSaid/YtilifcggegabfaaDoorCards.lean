/-
  DERIVED. GIVEN WITH THE SEED: THE CARDS: each row of YtilifcggegabfaaDoorRows.lean that lists a variable, with what it lists TIED to the program's text (the seventh form; the later family's looks); each row that meets fmt, with fmt's text TOLD by the authors' own Lean function (tested against real Go, not proved from fmt's source: count such statements apart). THE CARD IS WHAT COUNTS. Prove the row's statement (the work); the ties are given (YtilifcggegabfaaDoorTie.lean); close each card by the builder's one call (the guide's Derived/Test/ToyasCard.lean, 'card_holds'). Laid BY PROGRAM, IN A SANDBOX (cutbox-door.mjs). By AI agents, Wed Nov 11 2026. No macro, syntax, notation, axiom, sorry.
-/
import Derived.Test.YtilifcggegabfaaDoorRows
import GoSem.ClaimSeven
namespace Go.Proofs.YtilifcggegabfaaDoor
namespace Rows

/-- THE TIED CARD OF 'halyardlaw20.SchemaKeys'. -/
def schemaKeysCard : Claim7 := { stood := { row := schemaKeysRow, standIns := [], harness := (true, "eeec3977f98cf333194cc2be70eb6919767b905efc07b7250203dd7db26f844c"), looks := false }, kinds := [], alts := [], laidByText := true, laidKinds := [.data, .pinned], laidTests := true, laidLooks := .later }
def SchemaKeysCardSaid : Prop := Claim7.holds Tryd.pinned (.plain (OpenSpec.ofChange schemaKeysSpec)) schemaKeysCard

/-- THE TIED CARD OF 'halyardlaw20.SchemaSweeps'. -/
def schemaSweepsCard : Claim7 := { stood := { row := schemaSweepsRow, standIns := [], harness := (true, "eeec3977f98cf333194cc2be70eb6919767b905efc07b7250203dd7db26f844c"), looks := false }, kinds := [], alts := [], laidByText := true, laidKinds := [.data, .pinned], laidTests := true, laidLooks := .later }
def SchemaSweepsCardSaid : Prop := Claim7.holds Tryd.pinned (.plain (OpenSpec.ofChange schemaSweepsSpec)) schemaSweepsCard

/-- THE TIED CARD OF 'halyardlaw20.SchemaSweepsOn'. -/
def schemaSweepsOnCard : Claim7 := { stood := { row := schemaSweepsOnRow, standIns := [], harness := (true, "eeec3977f98cf333194cc2be70eb6919767b905efc07b7250203dd7db26f844c"), looks := false }, kinds := [], alts := [], laidByText := true, laidKinds := [.data, .pinned], laidTests := true, laidLooks := .later }
def SchemaSweepsOnCardSaid : Prop := Claim7.holds Tryd.pinned (.plain (OpenSpec.ofChange schemaSweepsOnSpec)) schemaSweepsOnCard

/-- THE TIED CARD OF 'halyardlaw20.SchemaChanges'. -/
def schemaChangesCard : Claim7 := { stood := { row := schemaChangesRow, standIns := [], harness := (true, "eeec3977f98cf333194cc2be70eb6919767b905efc07b7250203dd7db26f844c"), looks := false }, kinds := [], alts := [], laidByText := true, laidKinds := [.data, .pinned], laidTests := true, laidLooks := .later }
def SchemaChangesCardSaid : Prop := Claim7.holds Tryd.pinned (.plain (OpenSpec.ofChange schemaChangesSpec)) schemaChangesCard

/-- THE TIED CARD OF 'halyardlaw20.SchemaLess'. -/
def schemaLessCard : Claim7 := { stood := { row := schemaLessRow, standIns := [], harness := (true, "eeec3977f98cf333194cc2be70eb6919767b905efc07b7250203dd7db26f844c"), looks := false }, kinds := [], alts := [], laidByText := true, laidKinds := [.data, .pinned], laidTests := true, laidLooks := .later }
def SchemaLessCardSaid : Prop := Claim7.holds Tryd.pinned (.plain (OpenSpec.ofChange schemaLessSpec)) schemaLessCard

/-- THE TIED CARD OF 'halyardlaw20.SchemaQuiet'. -/
def schemaQuietCard : Claim7 := { stood := { row := schemaQuietRow, standIns := [], harness := (true, "eeec3977f98cf333194cc2be70eb6919767b905efc07b7250203dd7db26f844c"), looks := false }, kinds := [], alts := [], laidByText := true, laidKinds := [.data, .pinned], laidTests := true, laidLooks := .later }
def SchemaQuietCardSaid : Prop := Claim7.holds Tryd.pinned (.plain (OpenSpec.ofChange schemaQuietSpec)) schemaQuietCard

/-- THE TIED CARD OF 'halyardlaw20.SchemaBack'. -/
def schemaBackCard : Claim7 := { stood := { row := schemaBackRow, standIns := [], harness := (true, "eeec3977f98cf333194cc2be70eb6919767b905efc07b7250203dd7db26f844c"), looks := false }, kinds := [], alts := [], laidByText := true, laidKinds := [.data, .pinned], laidTests := true, laidLooks := .later }
def SchemaBackCardSaid : Prop := Claim7.holds Tryd.pinned (.plain (OpenSpec.ofChange schemaBackSpec)) schemaBackCard

/-- THE SECOND FORM's CARD OF 'halyardlaw20.SchemaKeys'. -/
def schemaKeysUptoCard : Claim7 := { stood := { row := schemaKeysUptoRow, standIns := [], harness := (true, "eeec3977f98cf333194cc2be70eb6919767b905efc07b7250203dd7db26f844c"), looks := false }, kinds := [], alts := [], laidByText := true, laidKinds := [.data, .pinned], laidTests := true, laidLooks := .later }
def SchemaKeysUptoCardSaid : Prop := Claim7.holds Tryd.pinned (.plain (OpenSpec.upto schemaKeysSpec)) schemaKeysUptoCard

/-- THE SECOND FORM's CARD OF 'halyardlaw20.SchemaSweeps'. -/
def schemaSweepsUptoCard : Claim7 := { stood := { row := schemaSweepsUptoRow, standIns := [], harness := (true, "eeec3977f98cf333194cc2be70eb6919767b905efc07b7250203dd7db26f844c"), looks := false }, kinds := [], alts := [], laidByText := true, laidKinds := [.data, .pinned], laidTests := true, laidLooks := .later }
def SchemaSweepsUptoCardSaid : Prop := Claim7.holds Tryd.pinned (.plain (OpenSpec.upto schemaSweepsSpec)) schemaSweepsUptoCard

/-- THE SECOND FORM's CARD OF 'halyardlaw20.SchemaSweepsOn'. -/
def schemaSweepsOnUptoCard : Claim7 := { stood := { row := schemaSweepsOnUptoRow, standIns := [], harness := (true, "eeec3977f98cf333194cc2be70eb6919767b905efc07b7250203dd7db26f844c"), looks := false }, kinds := [], alts := [], laidByText := true, laidKinds := [.data, .pinned], laidTests := true, laidLooks := .later }
def SchemaSweepsOnUptoCardSaid : Prop := Claim7.holds Tryd.pinned (.plain (OpenSpec.upto schemaSweepsOnSpec)) schemaSweepsOnUptoCard

/-- THE SECOND FORM's CARD OF 'halyardlaw20.SchemaChanges'. -/
def schemaChangesUptoCard : Claim7 := { stood := { row := schemaChangesUptoRow, standIns := [], harness := (true, "eeec3977f98cf333194cc2be70eb6919767b905efc07b7250203dd7db26f844c"), looks := false }, kinds := [], alts := [], laidByText := true, laidKinds := [.data, .pinned], laidTests := true, laidLooks := .later }
def SchemaChangesUptoCardSaid : Prop := Claim7.holds Tryd.pinned (.plain (OpenSpec.upto schemaChangesSpec)) schemaChangesUptoCard

/-- THE SECOND FORM's CARD OF 'halyardlaw20.SchemaLess'. -/
def schemaLessUptoCard : Claim7 := { stood := { row := schemaLessUptoRow, standIns := [], harness := (true, "eeec3977f98cf333194cc2be70eb6919767b905efc07b7250203dd7db26f844c"), looks := false }, kinds := [], alts := [], laidByText := true, laidKinds := [.data, .pinned], laidTests := true, laidLooks := .later }
def SchemaLessUptoCardSaid : Prop := Claim7.holds Tryd.pinned (.plain (OpenSpec.upto schemaLessSpec)) schemaLessUptoCard

/-- THE SECOND FORM's CARD OF 'halyardlaw20.SchemaQuiet'. -/
def schemaQuietUptoCard : Claim7 := { stood := { row := schemaQuietUptoRow, standIns := [], harness := (true, "eeec3977f98cf333194cc2be70eb6919767b905efc07b7250203dd7db26f844c"), looks := false }, kinds := [], alts := [], laidByText := true, laidKinds := [.data, .pinned], laidTests := true, laidLooks := .later }
def SchemaQuietUptoCardSaid : Prop := Claim7.holds Tryd.pinned (.plain (OpenSpec.upto schemaQuietSpec)) schemaQuietUptoCard

/-- THE SECOND FORM's CARD OF 'halyardlaw20.SchemaBack'. -/
def schemaBackUptoCard : Claim7 := { stood := { row := schemaBackUptoRow, standIns := [], harness := (true, "eeec3977f98cf333194cc2be70eb6919767b905efc07b7250203dd7db26f844c"), looks := false }, kinds := [], alts := [], laidByText := true, laidKinds := [.data, .pinned], laidTests := true, laidLooks := .later }
def SchemaBackUptoCardSaid : Prop := Claim7.holds Tryd.pinned (.plain (OpenSpec.upto schemaBackSpec)) schemaBackUptoCard
end Rows
end Go.Proofs.YtilifcggegabfaaDoor
