/-
  DERIVED. GIVEN WITH THE SEED: THE CARDS: each row of YtbbgmlnfpnomiaaGreatDoorRows.lean that lists a variable, with what it lists TIED to the program's text (the seventh form; the later family's looks); each row that meets fmt, with fmt's text TOLD by the authors' own Lean function (tested against real Go, not proved from fmt's source: count such statements apart). THE CARD IS WHAT COUNTS. Prove the row's statement (the work); the ties are given (YtbbgmlnfpnomiaaGreatDoorTie.lean); close each card by the builder's one call (the guide's Derived/Test/ToyasCard.lean, 'card_holds'). Laid BY PROGRAM, IN A SANDBOX (cutbox-door.mjs). By AI agents, Wed Nov 11 2026. No macro, syntax, notation, axiom, sorry.
-/
import Derived.Test.YtbbgmlnfpnomiaaGreatDoorRows
import GoSem.ClaimSeven
namespace Go.Proofs.YtbbgmlnfpnomiaaGreatDoor
namespace Rows

/-- THE TIED CARD OF 'folkmootlaw5.KeyPlays'. -/
def keyPlaysCard : Claim7 := { stood := { row := keyPlaysRow, standIns := [], harness := (true, "acc3a5c62c116d5b05799d5872cc9da146326f228d61ca50fea65159cc70679c"), looks := true }, kinds := [], alts := [], laidByText := true, laidKinds := [.data, .data, .data, .data, .sentinel, .sentinel, .pinned], laidTests := true, laidLooks := .later }
def KeyPlaysCardSaid : Prop := Claim7.holds Tryz.pinned (.plain (OpenSpec.ofChange keyPlaysSpec)) keyPlaysCard

/-- THE TIED CARD OF 'folkmootlaw5.SigWords'. -/
def sigWordsCard : Claim7 := { stood := { row := sigWordsRow, standIns := [], harness := (true, "acc3a5c62c116d5b05799d5872cc9da146326f228d61ca50fea65159cc70679c"), looks := true }, kinds := [], alts := [], laidByText := true, laidKinds := [.data, .data, .data, .data, .sentinel, .sentinel, .pinned], laidTests := true, laidLooks := .later }
def SigWordsCardSaid : Prop := Claim7.holds Tryz.pinned (.plain (OpenSpec.ofChange sigWordsSpec)) sigWordsCard

/-- THE TIED CARD OF 'folkmootlaw11.StampAny'. -/
def stampAnyCard : Claim7 := { stood := { row := stampAnyRow, standIns := [], harness := (true, "acc3a5c62c116d5b05799d5872cc9da146326f228d61ca50fea65159cc70679c"), looks := true }, kinds := [], alts := [], laidByText := true, laidKinds := [.data, .data, .data, .data, .sentinel, .sentinel, .pinned], laidTests := true, laidLooks := .later }
def StampAnyCardSaid : Prop := Claim7.holds Tryz.pinned (.plain (OpenSpec.ofChange stampAnySpec)) stampAnyCard

/-- THE TIED CARD OF 'folkmootlaw11.StampWords'. -/
def stampWordsCard : Claim7 := { stood := { row := stampWordsRow, standIns := [], harness := (true, "acc3a5c62c116d5b05799d5872cc9da146326f228d61ca50fea65159cc70679c"), looks := true }, kinds := [], alts := [], laidByText := true, laidKinds := [.data, .data, .data, .data, .sentinel, .sentinel, .pinned], laidTests := true, laidLooks := .later }
def StampWordsCardSaid : Prop := Claim7.holds Tryz.pinned (.plain (OpenSpec.ofChange stampWordsSpec)) stampWordsCard

/-- THE TIED CARD OF 'folkmootlaw14.AckAny'. -/
def ackAnyCard : Claim7 := { stood := { row := ackAnyRow, standIns := [], harness := (true, "acc3a5c62c116d5b05799d5872cc9da146326f228d61ca50fea65159cc70679c"), looks := true }, kinds := [], alts := [], laidByText := true, laidKinds := [.data, .data, .data, .data, .sentinel, .sentinel, .pinned], laidTests := true, laidLooks := .later }
def AckAnyCardSaid : Prop := Claim7.holds Tryz.pinned (.plain (OpenSpec.ofChange ackAnySpec)) ackAnyCard

/-- THE TIED CARD OF 'folkmootlaw14.AckWords'. -/
def ackWordsCard : Claim7 := { stood := { row := ackWordsRow, standIns := [], harness := (true, "acc3a5c62c116d5b05799d5872cc9da146326f228d61ca50fea65159cc70679c"), looks := true }, kinds := [], alts := [], laidByText := true, laidKinds := [.data, .data, .data, .data, .sentinel, .sentinel, .pinned], laidTests := true, laidLooks := .later }
def AckWordsCardSaid : Prop := Claim7.holds Tryz.pinned (.plain (OpenSpec.ofChange ackWordsSpec)) ackWordsCard

/-- THE TIED CARD OF 'folkmootlaw14.SeqAny'. -/
def seqAnyCard : Claim7 := { stood := { row := seqAnyRow, standIns := [], harness := (true, "acc3a5c62c116d5b05799d5872cc9da146326f228d61ca50fea65159cc70679c"), looks := true }, kinds := [], alts := [], laidByText := true, laidKinds := [.data, .data, .data, .data, .sentinel, .sentinel, .pinned], laidTests := true, laidLooks := .later }
def SeqAnyCardSaid : Prop := Claim7.holds Tryz.pinned (.plain (OpenSpec.ofChange seqAnySpec)) seqAnyCard

/-- THE TIED CARD OF 'folkmootlaw14.SeqNeeds'. -/
def seqNeedsCard : Claim7 := { stood := { row := seqNeedsRow, standIns := [], harness := (true, "acc3a5c62c116d5b05799d5872cc9da146326f228d61ca50fea65159cc70679c"), looks := true }, kinds := [], alts := [], laidByText := true, laidKinds := [.data, .data, .data, .data, .sentinel, .sentinel, .pinned], laidTests := true, laidLooks := .later }
def SeqNeedsCardSaid : Prop := Claim7.holds Tryz.pinned (.plain (OpenSpec.ofChange seqNeedsSpec)) seqNeedsCard

/-- THE TIED CARD OF 'folkmootlaw12.CertAny'. -/
def certAnyCard : Claim7 := { stood := { row := certAnyRow, standIns := [], harness := (true, "acc3a5c62c116d5b05799d5872cc9da146326f228d61ca50fea65159cc70679c"), looks := true }, kinds := [], alts := [], laidByText := true, laidKinds := [.data, .data, .data, .data, .sentinel, .sentinel, .pinned], laidTests := true, laidLooks := .later }
def CertAnyCardSaid : Prop := Claim7.holds Tryz.pinned (.plain (OpenSpec.ofChange certAnySpec)) certAnyCard

/-- THE TIED CARD OF 'folkmootlaw12.CertMakes'. -/
def certMakesCard : Claim7 := { stood := { row := certMakesRow, standIns := [], harness := (true, "acc3a5c62c116d5b05799d5872cc9da146326f228d61ca50fea65159cc70679c"), looks := true }, kinds := [], alts := [], laidByText := true, laidKinds := [.data, .data, .data, .data, .sentinel, .sentinel, .pinned], laidTests := true, laidLooks := .later }
def CertMakesCardSaid : Prop := Claim7.holds Tryz.pinned (.plain (OpenSpec.ofChange certMakesSpec)) certMakesCard

/-- THE TIED CARD OF 'folkmootlaw12.MedianOf'. -/
def medianOfCard : Claim7 := { stood := { row := medianOfRow, standIns := [], harness := (true, "acc3a5c62c116d5b05799d5872cc9da146326f228d61ca50fea65159cc70679c"), looks := true }, kinds := [], alts := [], laidByText := true, laidKinds := [.data, .data, .data, .data, .sentinel, .sentinel, .pinned], laidTests := true, laidLooks := .later }
def MedianOfCardSaid : Prop := Claim7.holds Tryz.pinned (.plain (OpenSpec.ofChange medianOfSpec)) medianOfCard

/-- THE TIED CARD OF 'folkmootlaw12.MedianFair'. -/
def medianFairCard : Claim7 := { stood := { row := medianFairRow, standIns := [], harness := (true, "acc3a5c62c116d5b05799d5872cc9da146326f228d61ca50fea65159cc70679c"), looks := true }, kinds := [], alts := [], laidByText := true, laidKinds := [.data, .data, .data, .data, .sentinel, .sentinel, .pinned], laidTests := true, laidLooks := .later }
def MedianFairCardSaid : Prop := Claim7.holds Tryz.pinned (.plain (OpenSpec.ofChange medianFairSpec)) medianFairCard

/-- THE TIED CARD OF 'folkmootlaw12.CertWords'. -/
def certWordsCard : Claim7 := { stood := { row := certWordsRow, standIns := [], harness := (true, "acc3a5c62c116d5b05799d5872cc9da146326f228d61ca50fea65159cc70679c"), looks := true }, kinds := [], alts := [], laidByText := true, laidKinds := [.data, .data, .data, .data, .sentinel, .sentinel, .pinned], laidTests := true, laidLooks := .later }
def CertWordsCardSaid : Prop := Claim7.holds Tryz.pinned (.plain (OpenSpec.ofChange certWordsSpec)) certWordsCard

/-- THE TIED CARD OF 'folkmootlaw12.MedianMoves'. -/
def medianMovesCard : Claim7 := { stood := { row := medianMovesRow, standIns := [], harness := (true, "acc3a5c62c116d5b05799d5872cc9da146326f228d61ca50fea65159cc70679c"), looks := true }, kinds := [], alts := [], laidByText := true, laidKinds := [.data, .data, .data, .data, .sentinel, .sentinel, .pinned], laidTests := true, laidLooks := .later }
def MedianMovesCardSaid : Prop := Claim7.holds Tryz.pinned (.plain (OpenSpec.ofChange medianMovesSpec)) medianMovesCard

/-- THE TIED CARD OF 'folkmootlaw12.CertOrder'. -/
def certOrderCard : Claim7 := { stood := { row := certOrderRow, standIns := [], harness := (true, "acc3a5c62c116d5b05799d5872cc9da146326f228d61ca50fea65159cc70679c"), looks := true }, kinds := [], alts := [], laidByText := true, laidKinds := [.data, .data, .data, .data, .sentinel, .sentinel, .pinned], laidTests := true, laidLooks := .later }
def CertOrderCardSaid : Prop := Claim7.holds Tryz.pinned (.plain (OpenSpec.ofChange certOrderSpec)) certOrderCard

/-- THE TIED CARD OF 'folkmootlaw12.CertNeeds'. -/
def certNeedsCard : Claim7 := { stood := { row := certNeedsRow, standIns := [], harness := (true, "acc3a5c62c116d5b05799d5872cc9da146326f228d61ca50fea65159cc70679c"), looks := true }, kinds := [], alts := [], laidByText := true, laidKinds := [.data, .data, .data, .data, .sentinel, .sentinel, .pinned], laidTests := true, laidLooks := .later }
def CertNeedsCardSaid : Prop := Claim7.holds Tryz.pinned (.plain (OpenSpec.ofChange certNeedsSpec)) certNeedsCard

/-- THE SECOND FORM's CARD OF 'folkmootlaw5.KeyPlays'. -/
def keyPlaysUptoCard : Claim7 := { stood := { row := keyPlaysUptoRow, standIns := [], harness := (true, "acc3a5c62c116d5b05799d5872cc9da146326f228d61ca50fea65159cc70679c"), looks := true }, kinds := [], alts := [], laidByText := true, laidKinds := [.data, .data, .data, .data, .sentinel, .sentinel, .pinned], laidTests := true, laidLooks := .later }
def KeyPlaysUptoCardSaid : Prop := Claim7.holds Tryz.pinned (.plain (OpenSpec.upto keyPlaysSpec)) keyPlaysUptoCard

/-- THE SECOND FORM's CARD OF 'folkmootlaw5.SigWords'. -/
def sigWordsUptoCard : Claim7 := { stood := { row := sigWordsUptoRow, standIns := [], harness := (true, "acc3a5c62c116d5b05799d5872cc9da146326f228d61ca50fea65159cc70679c"), looks := true }, kinds := [], alts := [], laidByText := true, laidKinds := [.data, .data, .data, .data, .sentinel, .sentinel, .pinned], laidTests := true, laidLooks := .later }
def SigWordsUptoCardSaid : Prop := Claim7.holds Tryz.pinned (.plain (OpenSpec.upto sigWordsSpec)) sigWordsUptoCard

/-- THE SECOND FORM's CARD OF 'folkmootlaw11.StampAny'. -/
def stampAnyUptoCard : Claim7 := { stood := { row := stampAnyUptoRow, standIns := [], harness := (true, "acc3a5c62c116d5b05799d5872cc9da146326f228d61ca50fea65159cc70679c"), looks := true }, kinds := [], alts := [], laidByText := true, laidKinds := [.data, .data, .data, .data, .sentinel, .sentinel, .pinned], laidTests := true, laidLooks := .later }
def StampAnyUptoCardSaid : Prop := Claim7.holds Tryz.pinned (.plain (OpenSpec.upto stampAnySpec)) stampAnyUptoCard

/-- THE SECOND FORM's CARD OF 'folkmootlaw11.StampWords'. -/
def stampWordsUptoCard : Claim7 := { stood := { row := stampWordsUptoRow, standIns := [], harness := (true, "acc3a5c62c116d5b05799d5872cc9da146326f228d61ca50fea65159cc70679c"), looks := true }, kinds := [], alts := [], laidByText := true, laidKinds := [.data, .data, .data, .data, .sentinel, .sentinel, .pinned], laidTests := true, laidLooks := .later }
def StampWordsUptoCardSaid : Prop := Claim7.holds Tryz.pinned (.plain (OpenSpec.upto stampWordsSpec)) stampWordsUptoCard

/-- THE SECOND FORM's CARD OF 'folkmootlaw14.AckAny'. -/
def ackAnyUptoCard : Claim7 := { stood := { row := ackAnyUptoRow, standIns := [], harness := (true, "acc3a5c62c116d5b05799d5872cc9da146326f228d61ca50fea65159cc70679c"), looks := true }, kinds := [], alts := [], laidByText := true, laidKinds := [.data, .data, .data, .data, .sentinel, .sentinel, .pinned], laidTests := true, laidLooks := .later }
def AckAnyUptoCardSaid : Prop := Claim7.holds Tryz.pinned (.plain (OpenSpec.upto ackAnySpec)) ackAnyUptoCard

/-- THE SECOND FORM's CARD OF 'folkmootlaw14.AckWords'. -/
def ackWordsUptoCard : Claim7 := { stood := { row := ackWordsUptoRow, standIns := [], harness := (true, "acc3a5c62c116d5b05799d5872cc9da146326f228d61ca50fea65159cc70679c"), looks := true }, kinds := [], alts := [], laidByText := true, laidKinds := [.data, .data, .data, .data, .sentinel, .sentinel, .pinned], laidTests := true, laidLooks := .later }
def AckWordsUptoCardSaid : Prop := Claim7.holds Tryz.pinned (.plain (OpenSpec.upto ackWordsSpec)) ackWordsUptoCard

/-- THE SECOND FORM's CARD OF 'folkmootlaw14.SeqAny'. -/
def seqAnyUptoCard : Claim7 := { stood := { row := seqAnyUptoRow, standIns := [], harness := (true, "acc3a5c62c116d5b05799d5872cc9da146326f228d61ca50fea65159cc70679c"), looks := true }, kinds := [], alts := [], laidByText := true, laidKinds := [.data, .data, .data, .data, .sentinel, .sentinel, .pinned], laidTests := true, laidLooks := .later }
def SeqAnyUptoCardSaid : Prop := Claim7.holds Tryz.pinned (.plain (OpenSpec.upto seqAnySpec)) seqAnyUptoCard

/-- THE SECOND FORM's CARD OF 'folkmootlaw14.SeqNeeds'. -/
def seqNeedsUptoCard : Claim7 := { stood := { row := seqNeedsUptoRow, standIns := [], harness := (true, "acc3a5c62c116d5b05799d5872cc9da146326f228d61ca50fea65159cc70679c"), looks := true }, kinds := [], alts := [], laidByText := true, laidKinds := [.data, .data, .data, .data, .sentinel, .sentinel, .pinned], laidTests := true, laidLooks := .later }
def SeqNeedsUptoCardSaid : Prop := Claim7.holds Tryz.pinned (.plain (OpenSpec.upto seqNeedsSpec)) seqNeedsUptoCard

/-- THE SECOND FORM's CARD OF 'folkmootlaw12.CertAny'. -/
def certAnyUptoCard : Claim7 := { stood := { row := certAnyUptoRow, standIns := [], harness := (true, "acc3a5c62c116d5b05799d5872cc9da146326f228d61ca50fea65159cc70679c"), looks := true }, kinds := [], alts := [], laidByText := true, laidKinds := [.data, .data, .data, .data, .sentinel, .sentinel, .pinned], laidTests := true, laidLooks := .later }
def CertAnyUptoCardSaid : Prop := Claim7.holds Tryz.pinned (.plain (OpenSpec.upto certAnySpec)) certAnyUptoCard

/-- THE SECOND FORM's CARD OF 'folkmootlaw12.CertMakes'. -/
def certMakesUptoCard : Claim7 := { stood := { row := certMakesUptoRow, standIns := [], harness := (true, "acc3a5c62c116d5b05799d5872cc9da146326f228d61ca50fea65159cc70679c"), looks := true }, kinds := [], alts := [], laidByText := true, laidKinds := [.data, .data, .data, .data, .sentinel, .sentinel, .pinned], laidTests := true, laidLooks := .later }
def CertMakesUptoCardSaid : Prop := Claim7.holds Tryz.pinned (.plain (OpenSpec.upto certMakesSpec)) certMakesUptoCard

/-- THE SECOND FORM's CARD OF 'folkmootlaw12.MedianOf'. -/
def medianOfUptoCard : Claim7 := { stood := { row := medianOfUptoRow, standIns := [], harness := (true, "acc3a5c62c116d5b05799d5872cc9da146326f228d61ca50fea65159cc70679c"), looks := true }, kinds := [], alts := [], laidByText := true, laidKinds := [.data, .data, .data, .data, .sentinel, .sentinel, .pinned], laidTests := true, laidLooks := .later }
def MedianOfUptoCardSaid : Prop := Claim7.holds Tryz.pinned (.plain (OpenSpec.upto medianOfSpec)) medianOfUptoCard

/-- THE SECOND FORM's CARD OF 'folkmootlaw12.MedianFair'. -/
def medianFairUptoCard : Claim7 := { stood := { row := medianFairUptoRow, standIns := [], harness := (true, "acc3a5c62c116d5b05799d5872cc9da146326f228d61ca50fea65159cc70679c"), looks := true }, kinds := [], alts := [], laidByText := true, laidKinds := [.data, .data, .data, .data, .sentinel, .sentinel, .pinned], laidTests := true, laidLooks := .later }
def MedianFairUptoCardSaid : Prop := Claim7.holds Tryz.pinned (.plain (OpenSpec.upto medianFairSpec)) medianFairUptoCard

/-- THE SECOND FORM's CARD OF 'folkmootlaw12.CertWords'. -/
def certWordsUptoCard : Claim7 := { stood := { row := certWordsUptoRow, standIns := [], harness := (true, "acc3a5c62c116d5b05799d5872cc9da146326f228d61ca50fea65159cc70679c"), looks := true }, kinds := [], alts := [], laidByText := true, laidKinds := [.data, .data, .data, .data, .sentinel, .sentinel, .pinned], laidTests := true, laidLooks := .later }
def CertWordsUptoCardSaid : Prop := Claim7.holds Tryz.pinned (.plain (OpenSpec.upto certWordsSpec)) certWordsUptoCard

/-- THE SECOND FORM's CARD OF 'folkmootlaw12.MedianMoves'. -/
def medianMovesUptoCard : Claim7 := { stood := { row := medianMovesUptoRow, standIns := [], harness := (true, "acc3a5c62c116d5b05799d5872cc9da146326f228d61ca50fea65159cc70679c"), looks := true }, kinds := [], alts := [], laidByText := true, laidKinds := [.data, .data, .data, .data, .sentinel, .sentinel, .pinned], laidTests := true, laidLooks := .later }
def MedianMovesUptoCardSaid : Prop := Claim7.holds Tryz.pinned (.plain (OpenSpec.upto medianMovesSpec)) medianMovesUptoCard

/-- THE SECOND FORM's CARD OF 'folkmootlaw12.CertOrder'. -/
def certOrderUptoCard : Claim7 := { stood := { row := certOrderUptoRow, standIns := [], harness := (true, "acc3a5c62c116d5b05799d5872cc9da146326f228d61ca50fea65159cc70679c"), looks := true }, kinds := [], alts := [], laidByText := true, laidKinds := [.data, .data, .data, .data, .sentinel, .sentinel, .pinned], laidTests := true, laidLooks := .later }
def CertOrderUptoCardSaid : Prop := Claim7.holds Tryz.pinned (.plain (OpenSpec.upto certOrderSpec)) certOrderUptoCard

/-- THE SECOND FORM's CARD OF 'folkmootlaw12.CertNeeds'. -/
def certNeedsUptoCard : Claim7 := { stood := { row := certNeedsUptoRow, standIns := [], harness := (true, "acc3a5c62c116d5b05799d5872cc9da146326f228d61ca50fea65159cc70679c"), looks := true }, kinds := [], alts := [], laidByText := true, laidKinds := [.data, .data, .data, .data, .sentinel, .sentinel, .pinned], laidTests := true, laidLooks := .later }
def CertNeedsUptoCardSaid : Prop := Claim7.holds Tryz.pinned (.plain (OpenSpec.upto certNeedsSpec)) certNeedsUptoCard
end Rows
end Go.Proofs.YtbbgmlnfpnomiaaGreatDoor
