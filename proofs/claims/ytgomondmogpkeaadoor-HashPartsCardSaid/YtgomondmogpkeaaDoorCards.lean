/-
  DERIVED. GIVEN WITH THE SEED: THE CARDS: each row of YtgomondmogpkeaaDoorRows.lean that lists a variable, with what it lists TIED to the program's text (the seventh form; the later family's looks); each row that meets fmt, with fmt's text TOLD by the authors' own Lean function (tested against real Go, not proved from fmt's source: count such statements apart). THE CARD IS WHAT COUNTS. Prove the row's statement (the work); the ties are given (YtgomondmogpkeaaDoorTie.lean); close each card by the builder's one call (the guide's Derived/Test/ToyasCard.lean, 'card_holds'). Laid BY PROGRAM, IN A SANDBOX (cutbox-door.mjs). By AI agents, Wed Nov 11 2026. No macro, syntax, notation, axiom, sorry.
-/
import Derived.Test.YtgomondmogpkeaaDoorRows
import GoSem.ClaimSeven
namespace Go.Proofs.YtgomondmogpkeaaDoor
namespace Rows

/-- THE TIED CARD OF 'folkmootlaw2.HashWords'. -/
def hashWordsCard : Claim7 := { stood := { row := hashWordsRow, standIns := [], harness := (true, "2fc7a5be0a5bbbb6dd63dbfd39df138c01aa53be20d0474a160c3ccf18776720"), looks := true }, kinds := [], alts := [], laidByText := true, laidKinds := [.data, .data, .data, .sentinel, .sentinel], laidTests := true, laidLooks := .later }
def HashWordsCardSaid : Prop := Claim7.holds Tryd.pinned (.plain (OpenSpec.ofChange hashWordsSpec)) hashWordsCard

/-- THE TIED CARD OF 'folkmootlaw2.HashChains'. -/
def hashChainsCard : Claim7 := { stood := { row := hashChainsRow, standIns := [], harness := (true, "2fc7a5be0a5bbbb6dd63dbfd39df138c01aa53be20d0474a160c3ccf18776720"), looks := true }, kinds := [], alts := [], laidByText := true, laidKinds := [.data, .data, .data, .sentinel, .sentinel], laidTests := true, laidLooks := .later }
def HashChainsCardSaid : Prop := Claim7.holds Tryd.pinned (.plain (OpenSpec.ofChange hashChainsSpec)) hashChainsCard

/-- THE TIED CARD OF 'folkmootlaw2.HashParts'. -/
def hashPartsCard : Claim7 := { stood := { row := hashPartsRow, standIns := [], harness := (true, "2fc7a5be0a5bbbb6dd63dbfd39df138c01aa53be20d0474a160c3ccf18776720"), looks := true }, kinds := [], alts := [], laidByText := true, laidKinds := [.data, .data, .data, .sentinel, .sentinel], laidTests := true, laidLooks := .later }
def HashPartsCardSaid : Prop := Claim7.holds Tryd.pinned (.plain (OpenSpec.ofChange hashPartsSpec)) hashPartsCard

/-- THE TIED CARD OF 'folkmootlaw2.HashAny'. -/
def hashAnyCard : Claim7 := { stood := { row := hashAnyRow, standIns := [], harness := (true, "2fc7a5be0a5bbbb6dd63dbfd39df138c01aa53be20d0474a160c3ccf18776720"), looks := true }, kinds := [], alts := [], laidByText := true, laidKinds := [.data, .data, .data, .sentinel, .sentinel], laidTests := true, laidLooks := .later }
def HashAnyCardSaid : Prop := Claim7.holds Tryd.pinned (.plain (OpenSpec.ofChange hashAnySpec)) hashAnyCard

/-- THE TIED CARD OF 'folkmootlaw2.HashSteps'. -/
def hashStepsCard : Claim7 := { stood := { row := hashStepsRow, standIns := [], harness := (true, "2fc7a5be0a5bbbb6dd63dbfd39df138c01aa53be20d0474a160c3ccf18776720"), looks := true }, kinds := [], alts := [], laidByText := true, laidKinds := [.data, .data, .data, .sentinel, .sentinel], laidTests := true, laidLooks := .later }
def HashStepsCardSaid : Prop := Claim7.holds Tryd.pinned (.plain (OpenSpec.ofChange hashStepsSpec)) hashStepsCard

/-- THE SECOND FORM's CARD OF 'folkmootlaw2.HashWords'. -/
def hashWordsUptoCard : Claim7 := { stood := { row := hashWordsUptoRow, standIns := [], harness := (true, "2fc7a5be0a5bbbb6dd63dbfd39df138c01aa53be20d0474a160c3ccf18776720"), looks := true }, kinds := [], alts := [], laidByText := true, laidKinds := [.data, .data, .data, .sentinel, .sentinel], laidTests := true, laidLooks := .later }
def HashWordsUptoCardSaid : Prop := Claim7.holds Tryd.pinned (.plain (OpenSpec.upto hashWordsSpec)) hashWordsUptoCard

/-- THE SECOND FORM's CARD OF 'folkmootlaw2.HashChains'. -/
def hashChainsUptoCard : Claim7 := { stood := { row := hashChainsUptoRow, standIns := [], harness := (true, "2fc7a5be0a5bbbb6dd63dbfd39df138c01aa53be20d0474a160c3ccf18776720"), looks := true }, kinds := [], alts := [], laidByText := true, laidKinds := [.data, .data, .data, .sentinel, .sentinel], laidTests := true, laidLooks := .later }
def HashChainsUptoCardSaid : Prop := Claim7.holds Tryd.pinned (.plain (OpenSpec.upto hashChainsSpec)) hashChainsUptoCard

/-- THE SECOND FORM's CARD OF 'folkmootlaw2.HashParts'. -/
def hashPartsUptoCard : Claim7 := { stood := { row := hashPartsUptoRow, standIns := [], harness := (true, "2fc7a5be0a5bbbb6dd63dbfd39df138c01aa53be20d0474a160c3ccf18776720"), looks := true }, kinds := [], alts := [], laidByText := true, laidKinds := [.data, .data, .data, .sentinel, .sentinel], laidTests := true, laidLooks := .later }
def HashPartsUptoCardSaid : Prop := Claim7.holds Tryd.pinned (.plain (OpenSpec.upto hashPartsSpec)) hashPartsUptoCard

/-- THE SECOND FORM's CARD OF 'folkmootlaw2.HashAny'. -/
def hashAnyUptoCard : Claim7 := { stood := { row := hashAnyUptoRow, standIns := [], harness := (true, "2fc7a5be0a5bbbb6dd63dbfd39df138c01aa53be20d0474a160c3ccf18776720"), looks := true }, kinds := [], alts := [], laidByText := true, laidKinds := [.data, .data, .data, .sentinel, .sentinel], laidTests := true, laidLooks := .later }
def HashAnyUptoCardSaid : Prop := Claim7.holds Tryd.pinned (.plain (OpenSpec.upto hashAnySpec)) hashAnyUptoCard

/-- THE SECOND FORM's CARD OF 'folkmootlaw2.HashSteps'. -/
def hashStepsUptoCard : Claim7 := { stood := { row := hashStepsUptoRow, standIns := [], harness := (true, "2fc7a5be0a5bbbb6dd63dbfd39df138c01aa53be20d0474a160c3ccf18776720"), looks := true }, kinds := [], alts := [], laidByText := true, laidKinds := [.data, .data, .data, .sentinel, .sentinel], laidTests := true, laidLooks := .later }
def HashStepsUptoCardSaid : Prop := Claim7.holds Tryd.pinned (.plain (OpenSpec.upto hashStepsSpec)) hashStepsUptoCard
end Rows
end Go.Proofs.YtgomondmogpkeaaDoor
