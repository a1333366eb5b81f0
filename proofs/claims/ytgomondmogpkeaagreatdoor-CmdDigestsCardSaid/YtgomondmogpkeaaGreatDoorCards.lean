/-
  DERIVED. GIVEN WITH THE SEED: THE CARDS: each row of YtgomondmogpkeaaGreatDoorRows.lean that lists a variable, with what it lists TIED to the program's text (the seventh form; the later family's looks); each row that meets fmt, with fmt's text TOLD by the authors' own Lean function (tested against real Go, not proved from fmt's source: count such statements apart). THE CARD IS WHAT COUNTS. Prove the row's statement (the work); the ties are given (YtgomondmogpkeaaGreatDoorTie.lean); close each card by the builder's one call (the guide's Derived/Test/ToyasCard.lean, 'card_holds'). Laid BY PROGRAM, IN A SANDBOX (cutbox-door.mjs). By AI agents, Wed Nov 11 2026. No macro, syntax, notation, axiom, sorry.
-/
import Derived.Test.YtgomondmogpkeaaGreatDoorRows
import GoSem.ClaimSeven
namespace Go.Proofs.YtgomondmogpkeaaGreatDoor
namespace Rows

/-- THE TIED CARD OF 'folkmootlaw1.FieldJoins'. -/
def fieldJoinsCard : Claim7 := { stood := { row := fieldJoinsRow, standIns := [], harness := (true, "aeec833b16f95924655c96bc3ef1dd8e9448d5edd2c9d411e2623cc65b2a0646"), looks := true }, kinds := [], alts := [], laidByText := true, laidKinds := [.data, .data, .data, .data, .sentinel, .sentinel, .pinned], laidTests := true, laidLooks := .later }
def FieldJoinsCardSaid : Prop := Claim7.holds Tryz.pinned (.plain (OpenSpec.ofChange fieldJoinsSpec)) fieldJoinsCard

/-- THE TIED CARD OF 'folkmootlaw1.FieldSplits'. -/
def fieldSplitsCard : Claim7 := { stood := { row := fieldSplitsRow, standIns := [], harness := (true, "aeec833b16f95924655c96bc3ef1dd8e9448d5edd2c9d411e2623cc65b2a0646"), looks := true }, kinds := [], alts := [], laidByText := true, laidKinds := [.data, .data, .data, .data, .sentinel, .sentinel, .pinned], laidTests := true, laidLooks := .later }
def FieldSplitsCardSaid : Prop := Claim7.holds Tryz.pinned (.plain (OpenSpec.ofChange fieldSplitsSpec)) fieldSplitsCard

/-- THE TIED CARD OF 'folkmootlaw1.FieldNums'. -/
def fieldNumsCard : Claim7 := { stood := { row := fieldNumsRow, standIns := [], harness := (true, "aeec833b16f95924655c96bc3ef1dd8e9448d5edd2c9d411e2623cc65b2a0646"), looks := true }, kinds := [], alts := [], laidByText := true, laidKinds := [.data, .data, .data, .data, .sentinel, .sentinel, .pinned], laidTests := true, laidLooks := .later }
def FieldNumsCardSaid : Prop := Claim7.holds Tryz.pinned (.plain (OpenSpec.ofChange fieldNumsSpec)) fieldNumsCard

/-- THE TIED CARD OF 'folkmootlaw1.FieldLimits'. -/
def fieldLimitsCard : Claim7 := { stood := { row := fieldLimitsRow, standIns := [], harness := (true, "aeec833b16f95924655c96bc3ef1dd8e9448d5edd2c9d411e2623cc65b2a0646"), looks := true }, kinds := [], alts := [], laidByText := true, laidKinds := [.data, .data, .data, .data, .sentinel, .sentinel, .pinned], laidTests := true, laidLooks := .later }
def FieldLimitsCardSaid : Prop := Claim7.holds Tryz.pinned (.plain (OpenSpec.ofChange fieldLimitsSpec)) fieldLimitsCard

/-- THE TIED CARD OF 'folkmootlaw1.FieldNests'. -/
def fieldNestsCard : Claim7 := { stood := { row := fieldNestsRow, standIns := [], harness := (true, "aeec833b16f95924655c96bc3ef1dd8e9448d5edd2c9d411e2623cc65b2a0646"), looks := true }, kinds := [], alts := [], laidByText := true, laidKinds := [.data, .data, .data, .data, .sentinel, .sentinel, .pinned], laidTests := true, laidLooks := .later }
def FieldNestsCardSaid : Prop := Claim7.holds Tryz.pinned (.plain (OpenSpec.ofChange fieldNestsSpec)) fieldNestsCard

/-- THE TIED CARD OF 'folkmootlaw1.FieldMaps'. -/
def fieldMapsCard : Claim7 := { stood := { row := fieldMapsRow, standIns := [], harness := (true, "aeec833b16f95924655c96bc3ef1dd8e9448d5edd2c9d411e2623cc65b2a0646"), looks := true }, kinds := [], alts := [], laidByText := true, laidKinds := [.data, .data, .data, .data, .sentinel, .sentinel, .pinned], laidTests := true, laidLooks := .later }
def FieldMapsCardSaid : Prop := Claim7.holds Tryz.pinned (.plain (OpenSpec.ofChange fieldMapsSpec)) fieldMapsCard

/-- THE TIED CARD OF 'folkmootlaw9.CmdAny'. -/
def cmdAnyCard : Claim7 := { stood := { row := cmdAnyRow, standIns := [], harness := (true, "aeec833b16f95924655c96bc3ef1dd8e9448d5edd2c9d411e2623cc65b2a0646"), looks := true }, kinds := [], alts := [], laidByText := true, laidKinds := [.data, .data, .data, .data, .sentinel, .sentinel, .pinned], laidTests := true, laidLooks := .later }
def CmdAnyCardSaid : Prop := Claim7.holds Tryz.pinned (.plain (OpenSpec.ofChange cmdAnySpec)) cmdAnyCard

/-- THE TIED CARD OF 'folkmootlaw9.CmdWords'. -/
def cmdWordsCard : Claim7 := { stood := { row := cmdWordsRow, standIns := [], harness := (true, "aeec833b16f95924655c96bc3ef1dd8e9448d5edd2c9d411e2623cc65b2a0646"), looks := true }, kinds := [], alts := [], laidByText := true, laidKinds := [.data, .data, .data, .data, .sentinel, .sentinel, .pinned], laidTests := true, laidLooks := .later }
def CmdWordsCardSaid : Prop := Claim7.holds Tryz.pinned (.plain (OpenSpec.ofChange cmdWordsSpec)) cmdWordsCard

/-- THE TIED CARD OF 'folkmootlaw9.CmdEdges'. -/
def cmdEdgesCard : Claim7 := { stood := { row := cmdEdgesRow, standIns := [], harness := (true, "aeec833b16f95924655c96bc3ef1dd8e9448d5edd2c9d411e2623cc65b2a0646"), looks := true }, kinds := [], alts := [], laidByText := true, laidKinds := [.data, .data, .data, .data, .sentinel, .sentinel, .pinned], laidTests := true, laidLooks := .later }
def CmdEdgesCardSaid : Prop := Claim7.holds Tryz.pinned (.plain (OpenSpec.ofChange cmdEdgesSpec)) cmdEdgesCard

/-- THE TIED CARD OF 'folkmootlaw9.CmdTells'. -/
def cmdTellsCard : Claim7 := { stood := { row := cmdTellsRow, standIns := [], harness := (true, "aeec833b16f95924655c96bc3ef1dd8e9448d5edd2c9d411e2623cc65b2a0646"), looks := true }, kinds := [], alts := [], laidByText := true, laidKinds := [.data, .data, .data, .data, .sentinel, .sentinel, .pinned], laidTests := true, laidLooks := .later }
def CmdTellsCardSaid : Prop := Claim7.holds Tryz.pinned (.plain (OpenSpec.ofChange cmdTellsSpec)) cmdTellsCard

/-- THE TIED CARD OF 'folkmootlaw9.CmdDigests'. -/
def cmdDigestsCard : Claim7 := { stood := { row := cmdDigestsRow, standIns := [], harness := (true, "aeec833b16f95924655c96bc3ef1dd8e9448d5edd2c9d411e2623cc65b2a0646"), looks := true }, kinds := [], alts := [], laidByText := true, laidKinds := [.data, .data, .data, .data, .sentinel, .sentinel, .pinned], laidTests := true, laidLooks := .later }
def CmdDigestsCardSaid : Prop := Claim7.holds Tryz.pinned (.plain (OpenSpec.ofChange cmdDigestsSpec)) cmdDigestsCard

/-- THE SECOND FORM's CARD OF 'folkmootlaw1.FieldJoins'. -/
def fieldJoinsUptoCard : Claim7 := { stood := { row := fieldJoinsUptoRow, standIns := [], harness := (true, "aeec833b16f95924655c96bc3ef1dd8e9448d5edd2c9d411e2623cc65b2a0646"), looks := true }, kinds := [], alts := [], laidByText := true, laidKinds := [.data, .data, .data, .data, .sentinel, .sentinel, .pinned], laidTests := true, laidLooks := .later }
def FieldJoinsUptoCardSaid : Prop := Claim7.holds Tryz.pinned (.plain (OpenSpec.upto fieldJoinsSpec)) fieldJoinsUptoCard

/-- THE SECOND FORM's CARD OF 'folkmootlaw1.FieldSplits'. -/
def fieldSplitsUptoCard : Claim7 := { stood := { row := fieldSplitsUptoRow, standIns := [], harness := (true, "aeec833b16f95924655c96bc3ef1dd8e9448d5edd2c9d411e2623cc65b2a0646"), looks := true }, kinds := [], alts := [], laidByText := true, laidKinds := [.data, .data, .data, .data, .sentinel, .sentinel, .pinned], laidTests := true, laidLooks := .later }
def FieldSplitsUptoCardSaid : Prop := Claim7.holds Tryz.pinned (.plain (OpenSpec.upto fieldSplitsSpec)) fieldSplitsUptoCard

/-- THE SECOND FORM's CARD OF 'folkmootlaw1.FieldNums'. -/
def fieldNumsUptoCard : Claim7 := { stood := { row := fieldNumsUptoRow, standIns := [], harness := (true, "aeec833b16f95924655c96bc3ef1dd8e9448d5edd2c9d411e2623cc65b2a0646"), looks := true }, kinds := [], alts := [], laidByText := true, laidKinds := [.data, .data, .data, .data, .sentinel, .sentinel, .pinned], laidTests := true, laidLooks := .later }
def FieldNumsUptoCardSaid : Prop := Claim7.holds Tryz.pinned (.plain (OpenSpec.upto fieldNumsSpec)) fieldNumsUptoCard

/-- THE SECOND FORM's CARD OF 'folkmootlaw1.FieldLimits'. -/
def fieldLimitsUptoCard : Claim7 := { stood := { row := fieldLimitsUptoRow, standIns := [], harness := (true, "aeec833b16f95924655c96bc3ef1dd8e9448d5edd2c9d411e2623cc65b2a0646"), looks := true }, kinds := [], alts := [], laidByText := true, laidKinds := [.data, .data, .data, .data, .sentinel, .sentinel, .pinned], laidTests := true, laidLooks := .later }
def FieldLimitsUptoCardSaid : Prop := Claim7.holds Tryz.pinned (.plain (OpenSpec.upto fieldLimitsSpec)) fieldLimitsUptoCard

/-- THE SECOND FORM's CARD OF 'folkmootlaw1.FieldNests'. -/
def fieldNestsUptoCard : Claim7 := { stood := { row := fieldNestsUptoRow, standIns := [], harness := (true, "aeec833b16f95924655c96bc3ef1dd8e9448d5edd2c9d411e2623cc65b2a0646"), looks := true }, kinds := [], alts := [], laidByText := true, laidKinds := [.data, .data, .data, .data, .sentinel, .sentinel, .pinned], laidTests := true, laidLooks := .later }
def FieldNestsUptoCardSaid : Prop := Claim7.holds Tryz.pinned (.plain (OpenSpec.upto fieldNestsSpec)) fieldNestsUptoCard

/-- THE SECOND FORM's CARD OF 'folkmootlaw1.FieldMaps'. -/
def fieldMapsUptoCard : Claim7 := { stood := { row := fieldMapsUptoRow, standIns := [], harness := (true, "aeec833b16f95924655c96bc3ef1dd8e9448d5edd2c9d411e2623cc65b2a0646"), looks := true }, kinds := [], alts := [], laidByText := true, laidKinds := [.data, .data, .data, .data, .sentinel, .sentinel, .pinned], laidTests := true, laidLooks := .later }
def FieldMapsUptoCardSaid : Prop := Claim7.holds Tryz.pinned (.plain (OpenSpec.upto fieldMapsSpec)) fieldMapsUptoCard

/-- THE SECOND FORM's CARD OF 'folkmootlaw9.CmdAny'. -/
def cmdAnyUptoCard : Claim7 := { stood := { row := cmdAnyUptoRow, standIns := [], harness := (true, "aeec833b16f95924655c96bc3ef1dd8e9448d5edd2c9d411e2623cc65b2a0646"), looks := true }, kinds := [], alts := [], laidByText := true, laidKinds := [.data, .data, .data, .data, .sentinel, .sentinel, .pinned], laidTests := true, laidLooks := .later }
def CmdAnyUptoCardSaid : Prop := Claim7.holds Tryz.pinned (.plain (OpenSpec.upto cmdAnySpec)) cmdAnyUptoCard

/-- THE SECOND FORM's CARD OF 'folkmootlaw9.CmdWords'. -/
def cmdWordsUptoCard : Claim7 := { stood := { row := cmdWordsUptoRow, standIns := [], harness := (true, "aeec833b16f95924655c96bc3ef1dd8e9448d5edd2c9d411e2623cc65b2a0646"), looks := true }, kinds := [], alts := [], laidByText := true, laidKinds := [.data, .data, .data, .data, .sentinel, .sentinel, .pinned], laidTests := true, laidLooks := .later }
def CmdWordsUptoCardSaid : Prop := Claim7.holds Tryz.pinned (.plain (OpenSpec.upto cmdWordsSpec)) cmdWordsUptoCard

/-- THE SECOND FORM's CARD OF 'folkmootlaw9.CmdEdges'. -/
def cmdEdgesUptoCard : Claim7 := { stood := { row := cmdEdgesUptoRow, standIns := [], harness := (true, "aeec833b16f95924655c96bc3ef1dd8e9448d5edd2c9d411e2623cc65b2a0646"), looks := true }, kinds := [], alts := [], laidByText := true, laidKinds := [.data, .data, .data, .data, .sentinel, .sentinel, .pinned], laidTests := true, laidLooks := .later }
def CmdEdgesUptoCardSaid : Prop := Claim7.holds Tryz.pinned (.plain (OpenSpec.upto cmdEdgesSpec)) cmdEdgesUptoCard

/-- THE SECOND FORM's CARD OF 'folkmootlaw9.CmdTells'. -/
def cmdTellsUptoCard : Claim7 := { stood := { row := cmdTellsUptoRow, standIns := [], harness := (true, "aeec833b16f95924655c96bc3ef1dd8e9448d5edd2c9d411e2623cc65b2a0646"), looks := true }, kinds := [], alts := [], laidByText := true, laidKinds := [.data, .data, .data, .data, .sentinel, .sentinel, .pinned], laidTests := true, laidLooks := .later }
def CmdTellsUptoCardSaid : Prop := Claim7.holds Tryz.pinned (.plain (OpenSpec.upto cmdTellsSpec)) cmdTellsUptoCard

/-- THE SECOND FORM's CARD OF 'folkmootlaw9.CmdDigests'. -/
def cmdDigestsUptoCard : Claim7 := { stood := { row := cmdDigestsUptoRow, standIns := [], harness := (true, "aeec833b16f95924655c96bc3ef1dd8e9448d5edd2c9d411e2623cc65b2a0646"), looks := true }, kinds := [], alts := [], laidByText := true, laidKinds := [.data, .data, .data, .data, .sentinel, .sentinel, .pinned], laidTests := true, laidLooks := .later }
def CmdDigestsUptoCardSaid : Prop := Claim7.holds Tryz.pinned (.plain (OpenSpec.upto cmdDigestsSpec)) cmdDigestsUptoCard
end Rows
end Go.Proofs.YtgomondmogpkeaaGreatDoor
