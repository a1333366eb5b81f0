/-
  DERIVED. GIVEN WITH THE SEED: THE CARDS: each row of YtilengooiffikaaDoorRows.lean that lists a variable, with what it lists TIED to the program's text (the seventh form; the later family's looks); each row that meets fmt, with fmt's text TOLD by the authors' own Lean function (tested against real Go, not proved from fmt's source: count such statements apart). THE CARD IS WHAT COUNTS. Prove the row's statement (the work); the ties are given (YtilengooiffikaaDoorTie.lean); close each card by the builder's one call (the guide's Derived/Test/ToyasCard.lean, 'card_holds'). Laid BY PROGRAM, IN A SANDBOX (cutbox-door.mjs). By AI agents, Wed Nov 11 2026. No macro, syntax, notation, axiom, sorry.
-/
import Derived.Test.YtilengooiffikaaDoorRows
import GoSem.ClaimSeven
namespace Go.Proofs.YtilengooiffikaaDoor
namespace Rows

/-- THE TIED CARD OF 'folkmootlaw22.MsgAll'. -/
def msgAllCard : Claim7 := { stood := { row := msgAllRow, standIns := [], harness := (true, "f1b78444d78aaed647dc5960eac5a58633d884a2b66c2d2274c6e82c7f814215"), looks := true }, kinds := [], alts := [], laidByText := true, laidKinds := [.data, .data, .data], laidTests := true, laidLooks := .later }
def MsgAllCardSaid : Prop := Claim7.holds Tryd.pinned (.plain (OpenSpec.ofChange msgAllSpec)) msgAllCard

/-- THE TIED CARD OF 'folkmootlaw20.BookFunds'. -/
def bookFundsCard : Claim7 := { stood := { row := bookFundsRow, standIns := [], harness := (true, "f1b78444d78aaed647dc5960eac5a58633d884a2b66c2d2274c6e82c7f814215"), looks := true }, kinds := [], alts := [], laidByText := true, laidKinds := [.data, .data, .data], laidTests := true, laidLooks := .later }
def BookFundsCardSaid : Prop := Claim7.holds Tryd.pinned (.plain (OpenSpec.ofChange bookFundsSpec)) bookFundsCard

/-- THE TIED CARD OF 'folkmootlaw17.TreeForks'. -/
def treeForksCard : Claim7 := { stood := { row := treeForksRow, standIns := [], harness := (true, "f1b78444d78aaed647dc5960eac5a58633d884a2b66c2d2274c6e82c7f814215"), looks := true }, kinds := [], alts := [], laidByText := true, laidKinds := [.data, .data, .data], laidTests := true, laidLooks := .later }
def TreeForksCardSaid : Prop := Claim7.holds Tryd.pinned (.plain (OpenSpec.ofChange treeForksSpec)) treeForksCard

/-- THE TIED CARD OF 'folkmootlaw17.TreeOrder'. -/
def treeOrderCard : Claim7 := { stood := { row := treeOrderRow, standIns := [], harness := (true, "f1b78444d78aaed647dc5960eac5a58633d884a2b66c2d2274c6e82c7f814215"), looks := true }, kinds := [], alts := [], laidByText := true, laidKinds := [.data, .data, .data], laidTests := true, laidLooks := .later }
def TreeOrderCardSaid : Prop := Claim7.holds Tryd.pinned (.plain (OpenSpec.ofChange treeOrderSpec)) treeOrderCard

/-- THE TIED CARD OF 'folkmootlaw18.SafeHolds'. -/
def safeHoldsCard : Claim7 := { stood := { row := safeHoldsRow, standIns := [], harness := (true, "f1b78444d78aaed647dc5960eac5a58633d884a2b66c2d2274c6e82c7f814215"), looks := true }, kinds := [], alts := [], laidByText := true, laidKinds := [.data, .data, .data], laidTests := true, laidLooks := .later }
def SafeHoldsCardSaid : Prop := Claim7.holds Tryd.pinned (.plain (OpenSpec.ofChange safeHoldsSpec)) safeHoldsCard

/-- THE SECOND FORM's CARD OF 'folkmootlaw22.MsgAll'. -/
def msgAllUptoCard : Claim7 := { stood := { row := msgAllUptoRow, standIns := [], harness := (true, "f1b78444d78aaed647dc5960eac5a58633d884a2b66c2d2274c6e82c7f814215"), looks := true }, kinds := [], alts := [], laidByText := true, laidKinds := [.data, .data, .data], laidTests := true, laidLooks := .later }
def MsgAllUptoCardSaid : Prop := Claim7.holds Tryd.pinned (.plain (OpenSpec.upto msgAllSpec)) msgAllUptoCard

/-- THE SECOND FORM's CARD OF 'folkmootlaw20.BookFunds'. -/
def bookFundsUptoCard : Claim7 := { stood := { row := bookFundsUptoRow, standIns := [], harness := (true, "f1b78444d78aaed647dc5960eac5a58633d884a2b66c2d2274c6e82c7f814215"), looks := true }, kinds := [], alts := [], laidByText := true, laidKinds := [.data, .data, .data], laidTests := true, laidLooks := .later }
def BookFundsUptoCardSaid : Prop := Claim7.holds Tryd.pinned (.plain (OpenSpec.upto bookFundsSpec)) bookFundsUptoCard

/-- THE SECOND FORM's CARD OF 'folkmootlaw17.TreeForks'. -/
def treeForksUptoCard : Claim7 := { stood := { row := treeForksUptoRow, standIns := [], harness := (true, "f1b78444d78aaed647dc5960eac5a58633d884a2b66c2d2274c6e82c7f814215"), looks := true }, kinds := [], alts := [], laidByText := true, laidKinds := [.data, .data, .data], laidTests := true, laidLooks := .later }
def TreeForksUptoCardSaid : Prop := Claim7.holds Tryd.pinned (.plain (OpenSpec.upto treeForksSpec)) treeForksUptoCard

/-- THE SECOND FORM's CARD OF 'folkmootlaw17.TreeOrder'. -/
def treeOrderUptoCard : Claim7 := { stood := { row := treeOrderUptoRow, standIns := [], harness := (true, "f1b78444d78aaed647dc5960eac5a58633d884a2b66c2d2274c6e82c7f814215"), looks := true }, kinds := [], alts := [], laidByText := true, laidKinds := [.data, .data, .data], laidTests := true, laidLooks := .later }
def TreeOrderUptoCardSaid : Prop := Claim7.holds Tryd.pinned (.plain (OpenSpec.upto treeOrderSpec)) treeOrderUptoCard

/-- THE SECOND FORM's CARD OF 'folkmootlaw18.SafeHolds'. -/
def safeHoldsUptoCard : Claim7 := { stood := { row := safeHoldsUptoRow, standIns := [], harness := (true, "f1b78444d78aaed647dc5960eac5a58633d884a2b66c2d2274c6e82c7f814215"), looks := true }, kinds := [], alts := [], laidByText := true, laidKinds := [.data, .data, .data], laidTests := true, laidLooks := .later }
def SafeHoldsUptoCardSaid : Prop := Claim7.holds Tryd.pinned (.plain (OpenSpec.upto safeHoldsSpec)) safeHoldsUptoCard
end Rows
end Go.Proofs.YtilengooiffikaaDoor
