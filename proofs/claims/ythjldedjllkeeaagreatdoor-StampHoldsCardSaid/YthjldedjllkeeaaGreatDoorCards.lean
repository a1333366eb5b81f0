/-
  DERIVED. GIVEN WITH THE SEED: THE CARDS: each row of YthjldedjllkeeaaGreatDoorRows.lean that lists a variable, with what it lists TIED to the program's text (the seventh form; the later family's looks); each row that meets fmt, with fmt's text TOLD by the authors' own Lean function (tested against real Go, not proved from fmt's source: count such statements apart). THE CARD IS WHAT COUNTS. Prove the row's statement (the work); the ties are given (YthjldedjllkeeaaGreatDoorTie.lean); close each card by the builder's one call (the guide's Derived/Test/ToyasCard.lean, 'card_holds'). Laid BY PROGRAM, IN A SANDBOX (cutbox-door.mjs). By AI agents, Wed Nov 11 2026. No macro, syntax, notation, axiom, sorry.
-/
import Derived.Test.YthjldedjllkeeaaGreatDoorRows
import GoSem.ClaimSeven
namespace Go.Proofs.YthjldedjllkeeaaGreatDoor
namespace Rows

/-- THE TIED CARD OF 'folkmootlaw5.KeyPlays'. -/
def keyPlaysCard : Claim7 := { stood := { row := keyPlaysRow, standIns := [], harness := (true, "efb0cf634d16048c2a80f15d7e0fe43c2692d063e2d49180eda5b37c2e57c1e4"), looks := true }, kinds := [], alts := [], laidByText := true, laidKinds := [.data, .data, .data, .data, .sentinel, .sentinel, .pinned], laidTests := true, laidLooks := .later }
def KeyPlaysCardSaid : Prop := Claim7.holds Tryz.pinned (.plain (OpenSpec.ofChange keyPlaysSpec)) keyPlaysCard

/-- THE TIED CARD OF 'folkmootlaw5.KeyHolds'. -/
def keyHoldsCard : Claim7 := { stood := { row := keyHoldsRow, standIns := [], harness := (true, "efb0cf634d16048c2a80f15d7e0fe43c2692d063e2d49180eda5b37c2e57c1e4"), looks := true }, kinds := [], alts := [], laidByText := true, laidKinds := [.data, .data, .data, .data, .sentinel, .sentinel, .pinned], laidTests := true, laidLooks := .later }
def KeyHoldsCardSaid : Prop := Claim7.holds Tryz.pinned (.plain (OpenSpec.ofChange keyHoldsSpec)) keyHoldsCard

/-- THE TIED CARD OF 'folkmootlaw5.SigWords'. -/
def sigWordsCard : Claim7 := { stood := { row := sigWordsRow, standIns := [], harness := (true, "efb0cf634d16048c2a80f15d7e0fe43c2692d063e2d49180eda5b37c2e57c1e4"), looks := true }, kinds := [], alts := [], laidByText := true, laidKinds := [.data, .data, .data, .data, .sentinel, .sentinel, .pinned], laidTests := true, laidLooks := .later }
def SigWordsCardSaid : Prop := Claim7.holds Tryz.pinned (.plain (OpenSpec.ofChange sigWordsSpec)) sigWordsCard

/-- THE TIED CARD OF 'folkmootlaw5.KeyRoots'. -/
def keyRootsCard : Claim7 := { stood := { row := keyRootsRow, standIns := [], harness := (true, "efb0cf634d16048c2a80f15d7e0fe43c2692d063e2d49180eda5b37c2e57c1e4"), looks := true }, kinds := [], alts := [], laidByText := true, laidKinds := [.data, .data, .data, .data, .sentinel, .sentinel, .pinned], laidTests := true, laidLooks := .later }
def KeyRootsCardSaid : Prop := Claim7.holds Tryz.pinned (.plain (OpenSpec.ofChange keyRootsSpec)) keyRootsCard

/-- THE TIED CARD OF 'folkmootlaw5.KeyTwins'. -/
def keyTwinsCard : Claim7 := { stood := { row := keyTwinsRow, standIns := [], harness := (true, "efb0cf634d16048c2a80f15d7e0fe43c2692d063e2d49180eda5b37c2e57c1e4"), looks := true }, kinds := [], alts := [], laidByText := true, laidKinds := [.data, .data, .data, .data, .sentinel, .sentinel, .pinned], laidTests := true, laidLooks := .later }
def KeyTwinsCardSaid : Prop := Claim7.holds Tryz.pinned (.plain (OpenSpec.ofChange keyTwinsSpec)) keyTwinsCard

/-- THE TIED CARD OF 'folkmootlaw5.KeyPromises'. -/
def keyPromisesCard : Claim7 := { stood := { row := keyPromisesRow, standIns := [], harness := (true, "efb0cf634d16048c2a80f15d7e0fe43c2692d063e2d49180eda5b37c2e57c1e4"), looks := true }, kinds := [], alts := [], laidByText := true, laidKinds := [.data, .data, .data, .data, .sentinel, .sentinel, .pinned], laidTests := true, laidLooks := .later }
def KeyPromisesCardSaid : Prop := Claim7.holds Tryz.pinned (.plain (OpenSpec.ofChange keyPromisesSpec)) keyPromisesCard

/-- THE TIED CARD OF 'folkmootlaw11.StampAny'. -/
def stampAnyCard : Claim7 := { stood := { row := stampAnyRow, standIns := [], harness := (true, "efb0cf634d16048c2a80f15d7e0fe43c2692d063e2d49180eda5b37c2e57c1e4"), looks := true }, kinds := [], alts := [], laidByText := true, laidKinds := [.data, .data, .data, .data, .sentinel, .sentinel, .pinned], laidTests := true, laidLooks := .later }
def StampAnyCardSaid : Prop := Claim7.holds Tryz.pinned (.plain (OpenSpec.ofChange stampAnySpec)) stampAnyCard

/-- THE TIED CARD OF 'folkmootlaw11.StampWords'. -/
def stampWordsCard : Claim7 := { stood := { row := stampWordsRow, standIns := [], harness := (true, "efb0cf634d16048c2a80f15d7e0fe43c2692d063e2d49180eda5b37c2e57c1e4"), looks := true }, kinds := [], alts := [], laidByText := true, laidKinds := [.data, .data, .data, .data, .sentinel, .sentinel, .pinned], laidTests := true, laidLooks := .later }
def StampWordsCardSaid : Prop := Claim7.holds Tryz.pinned (.plain (OpenSpec.ofChange stampWordsSpec)) stampWordsCard

/-- THE TIED CARD OF 'folkmootlaw11.StampHolds'. -/
def stampHoldsCard : Claim7 := { stood := { row := stampHoldsRow, standIns := [], harness := (true, "efb0cf634d16048c2a80f15d7e0fe43c2692d063e2d49180eda5b37c2e57c1e4"), looks := true }, kinds := [], alts := [], laidByText := true, laidKinds := [.data, .data, .data, .data, .sentinel, .sentinel, .pinned], laidTests := true, laidLooks := .later }
def StampHoldsCardSaid : Prop := Claim7.holds Tryz.pinned (.plain (OpenSpec.ofChange stampHoldsSpec)) stampHoldsCard

/-- THE TIED CARD OF 'folkmootlaw11.StampTells'. -/
def stampTellsCard : Claim7 := { stood := { row := stampTellsRow, standIns := [], harness := (true, "efb0cf634d16048c2a80f15d7e0fe43c2692d063e2d49180eda5b37c2e57c1e4"), looks := true }, kinds := [], alts := [], laidByText := true, laidKinds := [.data, .data, .data, .data, .sentinel, .sentinel, .pinned], laidTests := true, laidLooks := .later }
def StampTellsCardSaid : Prop := Claim7.holds Tryz.pinned (.plain (OpenSpec.ofChange stampTellsSpec)) stampTellsCard

/-- THE TIED CARD OF 'folkmootlaw11.StampMany'. -/
def stampManyCard : Claim7 := { stood := { row := stampManyRow, standIns := [], harness := (true, "efb0cf634d16048c2a80f15d7e0fe43c2692d063e2d49180eda5b37c2e57c1e4"), looks := true }, kinds := [], alts := [], laidByText := true, laidKinds := [.data, .data, .data, .data, .sentinel, .sentinel, .pinned], laidTests := true, laidLooks := .later }
def StampManyCardSaid : Prop := Claim7.holds Tryz.pinned (.plain (OpenSpec.ofChange stampManySpec)) stampManyCard

/-- THE SECOND FORM's CARD OF 'folkmootlaw5.KeyPlays'. -/
def keyPlaysUptoCard : Claim7 := { stood := { row := keyPlaysUptoRow, standIns := [], harness := (true, "efb0cf634d16048c2a80f15d7e0fe43c2692d063e2d49180eda5b37c2e57c1e4"), looks := true }, kinds := [], alts := [], laidByText := true, laidKinds := [.data, .data, .data, .data, .sentinel, .sentinel, .pinned], laidTests := true, laidLooks := .later }
def KeyPlaysUptoCardSaid : Prop := Claim7.holds Tryz.pinned (.plain (OpenSpec.upto keyPlaysSpec)) keyPlaysUptoCard

/-- THE SECOND FORM's CARD OF 'folkmootlaw5.KeyHolds'. -/
def keyHoldsUptoCard : Claim7 := { stood := { row := keyHoldsUptoRow, standIns := [], harness := (true, "efb0cf634d16048c2a80f15d7e0fe43c2692d063e2d49180eda5b37c2e57c1e4"), looks := true }, kinds := [], alts := [], laidByText := true, laidKinds := [.data, .data, .data, .data, .sentinel, .sentinel, .pinned], laidTests := true, laidLooks := .later }
def KeyHoldsUptoCardSaid : Prop := Claim7.holds Tryz.pinned (.plain (OpenSpec.upto keyHoldsSpec)) keyHoldsUptoCard

/-- THE SECOND FORM's CARD OF 'folkmootlaw5.SigWords'. -/
def sigWordsUptoCard : Claim7 := { stood := { row := sigWordsUptoRow, standIns := [], harness := (true, "efb0cf634d16048c2a80f15d7e0fe43c2692d063e2d49180eda5b37c2e57c1e4"), looks := true }, kinds := [], alts := [], laidByText := true, laidKinds := [.data, .data, .data, .data, .sentinel, .sentinel, .pinned], laidTests := true, laidLooks := .later }
def SigWordsUptoCardSaid : Prop := Claim7.holds Tryz.pinned (.plain (OpenSpec.upto sigWordsSpec)) sigWordsUptoCard

/-- THE SECOND FORM's CARD OF 'folkmootlaw5.KeyRoots'. -/
def keyRootsUptoCard : Claim7 := { stood := { row := keyRootsUptoRow, standIns := [], harness := (true, "efb0cf634d16048c2a80f15d7e0fe43c2692d063e2d49180eda5b37c2e57c1e4"), looks := true }, kinds := [], alts := [], laidByText := true, laidKinds := [.data, .data, .data, .data, .sentinel, .sentinel, .pinned], laidTests := true, laidLooks := .later }
def KeyRootsUptoCardSaid : Prop := Claim7.holds Tryz.pinned (.plain (OpenSpec.upto keyRootsSpec)) keyRootsUptoCard

/-- THE SECOND FORM's CARD OF 'folkmootlaw5.KeyTwins'. -/
def keyTwinsUptoCard : Claim7 := { stood := { row := keyTwinsUptoRow, standIns := [], harness := (true, "efb0cf634d16048c2a80f15d7e0fe43c2692d063e2d49180eda5b37c2e57c1e4"), looks := true }, kinds := [], alts := [], laidByText := true, laidKinds := [.data, .data, .data, .data, .sentinel, .sentinel, .pinned], laidTests := true, laidLooks := .later }
def KeyTwinsUptoCardSaid : Prop := Claim7.holds Tryz.pinned (.plain (OpenSpec.upto keyTwinsSpec)) keyTwinsUptoCard

/-- THE SECOND FORM's CARD OF 'folkmootlaw5.KeyPromises'. -/
def keyPromisesUptoCard : Claim7 := { stood := { row := keyPromisesUptoRow, standIns := [], harness := (true, "efb0cf634d16048c2a80f15d7e0fe43c2692d063e2d49180eda5b37c2e57c1e4"), looks := true }, kinds := [], alts := [], laidByText := true, laidKinds := [.data, .data, .data, .data, .sentinel, .sentinel, .pinned], laidTests := true, laidLooks := .later }
def KeyPromisesUptoCardSaid : Prop := Claim7.holds Tryz.pinned (.plain (OpenSpec.upto keyPromisesSpec)) keyPromisesUptoCard

/-- THE SECOND FORM's CARD OF 'folkmootlaw11.StampAny'. -/
def stampAnyUptoCard : Claim7 := { stood := { row := stampAnyUptoRow, standIns := [], harness := (true, "efb0cf634d16048c2a80f15d7e0fe43c2692d063e2d49180eda5b37c2e57c1e4"), looks := true }, kinds := [], alts := [], laidByText := true, laidKinds := [.data, .data, .data, .data, .sentinel, .sentinel, .pinned], laidTests := true, laidLooks := .later }
def StampAnyUptoCardSaid : Prop := Claim7.holds Tryz.pinned (.plain (OpenSpec.upto stampAnySpec)) stampAnyUptoCard

/-- THE SECOND FORM's CARD OF 'folkmootlaw11.StampWords'. -/
def stampWordsUptoCard : Claim7 := { stood := { row := stampWordsUptoRow, standIns := [], harness := (true, "efb0cf634d16048c2a80f15d7e0fe43c2692d063e2d49180eda5b37c2e57c1e4"), looks := true }, kinds := [], alts := [], laidByText := true, laidKinds := [.data, .data, .data, .data, .sentinel, .sentinel, .pinned], laidTests := true, laidLooks := .later }
def StampWordsUptoCardSaid : Prop := Claim7.holds Tryz.pinned (.plain (OpenSpec.upto stampWordsSpec)) stampWordsUptoCard

/-- THE SECOND FORM's CARD OF 'folkmootlaw11.StampHolds'. -/
def stampHoldsUptoCard : Claim7 := { stood := { row := stampHoldsUptoRow, standIns := [], harness := (true, "efb0cf634d16048c2a80f15d7e0fe43c2692d063e2d49180eda5b37c2e57c1e4"), looks := true }, kinds := [], alts := [], laidByText := true, laidKinds := [.data, .data, .data, .data, .sentinel, .sentinel, .pinned], laidTests := true, laidLooks := .later }
def StampHoldsUptoCardSaid : Prop := Claim7.holds Tryz.pinned (.plain (OpenSpec.upto stampHoldsSpec)) stampHoldsUptoCard

/-- THE SECOND FORM's CARD OF 'folkmootlaw11.StampTells'. -/
def stampTellsUptoCard : Claim7 := { stood := { row := stampTellsUptoRow, standIns := [], harness := (true, "efb0cf634d16048c2a80f15d7e0fe43c2692d063e2d49180eda5b37c2e57c1e4"), looks := true }, kinds := [], alts := [], laidByText := true, laidKinds := [.data, .data, .data, .data, .sentinel, .sentinel, .pinned], laidTests := true, laidLooks := .later }
def StampTellsUptoCardSaid : Prop := Claim7.holds Tryz.pinned (.plain (OpenSpec.upto stampTellsSpec)) stampTellsUptoCard

/-- THE SECOND FORM's CARD OF 'folkmootlaw11.StampMany'. -/
def stampManyUptoCard : Claim7 := { stood := { row := stampManyUptoRow, standIns := [], harness := (true, "efb0cf634d16048c2a80f15d7e0fe43c2692d063e2d49180eda5b37c2e57c1e4"), looks := true }, kinds := [], alts := [], laidByText := true, laidKinds := [.data, .data, .data, .data, .sentinel, .sentinel, .pinned], laidTests := true, laidLooks := .later }
def StampManyUptoCardSaid : Prop := Claim7.holds Tryz.pinned (.plain (OpenSpec.upto stampManySpec)) stampManyUptoCard
end Rows
end Go.Proofs.YthjldedjllkeeaaGreatDoor
