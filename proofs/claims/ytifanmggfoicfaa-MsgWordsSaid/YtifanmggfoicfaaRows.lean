/-
  No cell of these rows narrows 'for every input' (looked for: loops, veiled, ifaces, maps, wideKeys, modest, calm, conditions, laid).
  DERIVED. THE GIVEN ROWS OF THIS SEAT. 7 by the template 'for every input the law returns true; each argument reads behind the call as it read before'; 0 by the template 'total and deterministic' (their statements: YtifanmggfoicfaaTotals.lean).
  GIVEN WITH THE SEED: the statements are not yours to turn. If you find one false, say at which input.
  Laid BY PROGRAM, IN A SANDBOX (cutbox-rows.mjs): the forced cells as the released guide's own fill.sh prints them over the translation 040542c415ff91b2… (all of the seat's roots in one cut). By AI agents, Wed Nov 11 2026. No macro, syntax, notation, axiom, sorry.
-/
import Derived.Test.YtifanmggfoicfaaChecked
import GoSem.Claim
import GoSem.ClaimJoined
import GoSem.ClaimMapViews
import Derived.JoinedTies
import Derived.KernelRfl
namespace Go.Proofs.Ytifanmggfoicfaa
/- THE CELL 'sum', in the pinned program and in every row, IS THE sha256 OF THE DUMP (.gsa) THAT YtifanmggfoicfaaProg.lean LOADS. Nothing in Lean hashes anything: it is a label: what it is worth is what the hold of that sum in a sandbox is worth. -/
noncomputable def Try.pinned : Pinned := { name := "ytifanmggfoicfaa", sum := "040542c415ff91b2a258ca50d7acd5be62999a1ca7f875908938f0b149a7447f", checked := Try.checked }
namespace Rows
def none {H : Type} : Left H := { results := [], args := [] }

/-- 'folkmootlaw22.MsgAny': WHATEVER THE INPUT: true; the input reads as it did. -/
def msgAnySpec : ChangeSpec := { name := "msgAny", fn := fun _ => fun
  | [d1, d2, d3, d4] => { results := [.lit (.bool true)], args := [d1, d2, d3, d4] }
  | _ => none }
def msgAnyRow : OpenClaim := { program := "ytifanmggfoicfaa", sum := "040542c415ff91b2a258ca50d7acd5be62999a1ca7f875908938f0b149a7447f", func := "folkmoot/folkmootlaw22.MsgAny", spec := "msgAny", unfollowed := true, recurses := true, apart := false }
def MsgAnySaid : Prop := msgAnyRow.holds Try.pinned (OpenSpec.ofChange msgAnySpec)

/-- ITS FALSE NEIGHBOUR: 'it returns false'. Refute it at one input. -/
def msgAnyWrong : ChangeSpec := { name := "msgAny", fn := fun _ => fun
  | [d1, d2, d3, d4] => { results := [.lit (.bool false)], args := [d1, d2, d3, d4] }
  | _ => none }
def MsgAnyWrongFalsely : Prop := msgAnyRow.holds Try.pinned (OpenSpec.ofChange msgAnyWrong)

/-- 'folkmootlaw22.MsgWords': WHATEVER THE INPUT: true; the input reads as it did. -/
def msgWordsSpec : ChangeSpec := { name := "msgWords", fn := fun _ => fun
  | [d1, d2] => { results := [.lit (.bool true)], args := [d1, d2] }
  | _ => none }
def msgWordsRow : OpenClaim := { program := "ytifanmggfoicfaa", sum := "040542c415ff91b2a258ca50d7acd5be62999a1ca7f875908938f0b149a7447f", func := "folkmoot/folkmootlaw22.MsgWords", spec := "msgWords", unfollowed := true, recurses := true, apart := false }
def MsgWordsSaid : Prop := msgWordsRow.holds Try.pinned (OpenSpec.ofChange msgWordsSpec)

/-- ITS FALSE NEIGHBOUR: 'it returns false'. Refute it at one input. -/
def msgWordsWrong : ChangeSpec := { name := "msgWords", fn := fun _ => fun
  | [d1, d2] => { results := [.lit (.bool false)], args := [d1, d2] }
  | _ => none }
def MsgWordsWrongFalsely : Prop := msgWordsRow.holds Try.pinned (OpenSpec.ofChange msgWordsWrong)

/-- 'folkmootlaw6.QuorumAny': WHATEVER THE INPUT: true; the input reads as it did. -/
def quorumAnySpec : ChangeSpec := { name := "quorumAny", fn := fun _ => fun
  | [d1, d2, d3] => { results := [.lit (.bool true)], args := [d1, d2, d3] }
  | _ => none }
def quorumAnyRow : OpenClaim := { program := "ytifanmggfoicfaa", sum := "040542c415ff91b2a258ca50d7acd5be62999a1ca7f875908938f0b149a7447f", func := "folkmoot/folkmootlaw6.QuorumAny", spec := "quorumAny", unfollowed := true, recurses := true, apart := false }
def QuorumAnySaid : Prop := quorumAnyRow.holds Try.pinned (OpenSpec.ofChange quorumAnySpec)

/-- ITS FALSE NEIGHBOUR: 'it returns false'. Refute it at one input. -/
def quorumAnyWrong : ChangeSpec := { name := "quorumAny", fn := fun _ => fun
  | [d1, d2, d3] => { results := [.lit (.bool false)], args := [d1, d2, d3] }
  | _ => none }
def QuorumAnyWrongFalsely : Prop := quorumAnyRow.holds Try.pinned (OpenSpec.ofChange quorumAnyWrong)

/-- 'folkmootlaw6.QuorumMeet': WHATEVER THE INPUT: true; the input reads as it did. -/
def quorumMeetSpec : ChangeSpec := { name := "quorumMeet", fn := fun _ => fun
  | [d1, d2, d3] => { results := [.lit (.bool true)], args := [d1, d2, d3] }
  | _ => none }
def quorumMeetRow : OpenClaim := { program := "ytifanmggfoicfaa", sum := "040542c415ff91b2a258ca50d7acd5be62999a1ca7f875908938f0b149a7447f", func := "folkmoot/folkmootlaw6.QuorumMeet", spec := "quorumMeet", unfollowed := true, recurses := true, apart := false }
def QuorumMeetSaid : Prop := quorumMeetRow.holds Try.pinned (OpenSpec.ofChange quorumMeetSpec)

/-- ITS FALSE NEIGHBOUR: 'it returns false'. Refute it at one input. -/
def quorumMeetWrong : ChangeSpec := { name := "quorumMeet", fn := fun _ => fun
  | [d1, d2, d3] => { results := [.lit (.bool false)], args := [d1, d2, d3] }
  | _ => none }
def QuorumMeetWrongFalsely : Prop := quorumMeetRow.holds Try.pinned (OpenSpec.ofChange quorumMeetWrong)

/-- 'folkmootlaw6.QuorumBy': WHATEVER THE INPUT: true; the input reads as it did. -/
def quorumBySpec : ChangeSpec := { name := "quorumBy", fn := fun _ => fun
  | [d] => { results := [.lit (.bool true)], args := [d] }
  | _ => none }
def quorumByRow : OpenClaim := { program := "ytifanmggfoicfaa", sum := "040542c415ff91b2a258ca50d7acd5be62999a1ca7f875908938f0b149a7447f", func := "folkmoot/folkmootlaw6.QuorumBy", spec := "quorumBy", unfollowed := true, recurses := true, apart := false }
def QuorumBySaid : Prop := quorumByRow.holds Try.pinned (OpenSpec.ofChange quorumBySpec)

/-- ITS FALSE NEIGHBOUR: 'it returns false'. Refute it at one input. -/
def quorumByWrong : ChangeSpec := { name := "quorumBy", fn := fun _ => fun
  | [d] => { results := [.lit (.bool false)], args := [d] }
  | _ => none }
def QuorumByWrongFalsely : Prop := quorumByRow.holds Try.pinned (OpenSpec.ofChange quorumByWrong)

/-- 'folkmootlaw6.QuorumMore': WHATEVER THE INPUT: true; the input reads as it did. -/
def quorumMoreSpec : ChangeSpec := { name := "quorumMore", fn := fun _ => fun
  | [d1, d2, d3] => { results := [.lit (.bool true)], args := [d1, d2, d3] }
  | _ => none }
def quorumMoreRow : OpenClaim := { program := "ytifanmggfoicfaa", sum := "040542c415ff91b2a258ca50d7acd5be62999a1ca7f875908938f0b149a7447f", func := "folkmoot/folkmootlaw6.QuorumMore", spec := "quorumMore", unfollowed := true, recurses := true, apart := false }
def QuorumMoreSaid : Prop := quorumMoreRow.holds Try.pinned (OpenSpec.ofChange quorumMoreSpec)

/-- ITS FALSE NEIGHBOUR: 'it returns false'. Refute it at one input. -/
def quorumMoreWrong : ChangeSpec := { name := "quorumMore", fn := fun _ => fun
  | [d1, d2, d3] => { results := [.lit (.bool false)], args := [d1, d2, d3] }
  | _ => none }
def QuorumMoreWrongFalsely : Prop := quorumMoreRow.holds Try.pinned (OpenSpec.ofChange quorumMoreWrong)

/-- 'folkmootlaw6.QuorumEdges': WHATEVER THE INPUT: true; the input reads as it did. -/
def quorumEdgesSpec : ChangeSpec := { name := "quorumEdges", fn := fun _ => fun
  | [d1, d2, d3] => { results := [.lit (.bool true)], args := [d1, d2, d3] }
  | _ => none }
def quorumEdgesRow : OpenClaim := { program := "ytifanmggfoicfaa", sum := "040542c415ff91b2a258ca50d7acd5be62999a1ca7f875908938f0b149a7447f", func := "folkmoot/folkmootlaw6.QuorumEdges", spec := "quorumEdges", unfollowed := true, recurses := true, apart := false }
def QuorumEdgesSaid : Prop := quorumEdgesRow.holds Try.pinned (OpenSpec.ofChange quorumEdgesSpec)

/-- ITS FALSE NEIGHBOUR: 'it returns false'. Refute it at one input. -/
def quorumEdgesWrong : ChangeSpec := { name := "quorumEdges", fn := fun _ => fun
  | [d1, d2, d3] => { results := [.lit (.bool false)], args := [d1, d2, d3] }
  | _ => none }
def QuorumEdgesWrongFalsely : Prop := quorumEdgesRow.holds Try.pinned (OpenSpec.ofChange quorumEdgesWrong)

/- THE SECOND FORM. 'bulk': how many values and letters a reading holds, each counted each time it is reached (what is shared counts as often as it is met; a slice's spare places count too). A statement '..UptoSaid' is the law's where the arguments, and the package variables that the reading takes, are together of bulk at most 1048576: NARROWER than '..Said'. Prove '..Said' where nothing that the law and all that it calls make is longer than what came in: it says more and counts as full. Else prove '..UptoSaid'. A law counts once. -/
mutual
def uptoBulk {H : Type} : DataW H → Nat
  | .lit (.string bytes) => bytes.length + 1
  | .lit _ => 1
  | .nil => 1
  | .ptr d => uptoBulk d + 1
  | .slice elems spare => uptoBulkAll elems + uptoBulkAll spare + 1
  | .agg parts => uptoBulkAll parts + 1
  | .iface _ d => uptoBulk d + 1
  | .map entries => uptoBulkEntries entries + 1
  | .held _ => 1
def uptoBulkAll {H : Type} : List (DataW H) → Nat
  | [] => 0
  | d :: r => uptoBulk d + uptoBulkAll r
def uptoBulkEntries {H : Type} : List (Lit × DataW H) → Nat
  | [] => 0
  | x :: r => uptoBulkEntry x + uptoBulkEntries r
def uptoBulkEntry {H : Type} : Lit × DataW H → Nat
  | (.string bytes, d) => bytes.length + uptoBulk d + 1
  | (_, d) => uptoBulk d + 1
 end
def uptoSmall : (H : Type) → List (DataW H) → Bool := fun _ ds => decide (uptoBulkAll ds ≤ 1048576)
def OpenSpec.upto (s : _root_.Go.ChangeSpec) : _root_.Go.OpenSpec := { _root_.Go.OpenSpec.ofChange s with cond := some uptoSmall }

/-- 'folkmootlaw22.MsgAny', WHERE WHAT IT READS IS OF BULK AT MOST 1048576: true; the input reads as it did. -/
def msgAnyUptoRow : OpenClaim := { program := "ytifanmggfoicfaa", sum := "040542c415ff91b2a258ca50d7acd5be62999a1ca7f875908938f0b149a7447f", func := "folkmoot/folkmootlaw22.MsgAny", spec := "msgAny", unfollowed := true, recurses := true, apart := false, narrowed := true }
def MsgAnyUptoSaid : Prop := msgAnyUptoRow.holds Try.pinned (OpenSpec.upto msgAnySpec)

/-- 'folkmootlaw22.MsgWords', WHERE WHAT IT READS IS OF BULK AT MOST 1048576: true; the input reads as it did. -/
def msgWordsUptoRow : OpenClaim := { program := "ytifanmggfoicfaa", sum := "040542c415ff91b2a258ca50d7acd5be62999a1ca7f875908938f0b149a7447f", func := "folkmoot/folkmootlaw22.MsgWords", spec := "msgWords", unfollowed := true, recurses := true, apart := false, narrowed := true }
def MsgWordsUptoSaid : Prop := msgWordsUptoRow.holds Try.pinned (OpenSpec.upto msgWordsSpec)

/-- 'folkmootlaw6.QuorumAny', WHERE WHAT IT READS IS OF BULK AT MOST 1048576: true; the input reads as it did. -/
def quorumAnyUptoRow : OpenClaim := { program := "ytifanmggfoicfaa", sum := "040542c415ff91b2a258ca50d7acd5be62999a1ca7f875908938f0b149a7447f", func := "folkmoot/folkmootlaw6.QuorumAny", spec := "quorumAny", unfollowed := true, recurses := true, apart := false, narrowed := true }
def QuorumAnyUptoSaid : Prop := quorumAnyUptoRow.holds Try.pinned (OpenSpec.upto quorumAnySpec)

/-- 'folkmootlaw6.QuorumMeet', WHERE WHAT IT READS IS OF BULK AT MOST 1048576: true; the input reads as it did. -/
def quorumMeetUptoRow : OpenClaim := { program := "ytifanmggfoicfaa", sum := "040542c415ff91b2a258ca50d7acd5be62999a1ca7f875908938f0b149a7447f", func := "folkmoot/folkmootlaw6.QuorumMeet", spec := "quorumMeet", unfollowed := true, recurses := true, apart := false, narrowed := true }
def QuorumMeetUptoSaid : Prop := quorumMeetUptoRow.holds Try.pinned (OpenSpec.upto quorumMeetSpec)

/-- 'folkmootlaw6.QuorumBy', WHERE WHAT IT READS IS OF BULK AT MOST 1048576: true; the input reads as it did. -/
def quorumByUptoRow : OpenClaim := { program := "ytifanmggfoicfaa", sum := "040542c415ff91b2a258ca50d7acd5be62999a1ca7f875908938f0b149a7447f", func := "folkmoot/folkmootlaw6.QuorumBy", spec := "quorumBy", unfollowed := true, recurses := true, apart := false, narrowed := true }
def QuorumByUptoSaid : Prop := quorumByUptoRow.holds Try.pinned (OpenSpec.upto quorumBySpec)

/-- 'folkmootlaw6.QuorumMore', WHERE WHAT IT READS IS OF BULK AT MOST 1048576: true; the input reads as it did. -/
def quorumMoreUptoRow : OpenClaim := { program := "ytifanmggfoicfaa", sum := "040542c415ff91b2a258ca50d7acd5be62999a1ca7f875908938f0b149a7447f", func := "folkmoot/folkmootlaw6.QuorumMore", spec := "quorumMore", unfollowed := true, recurses := true, apart := false, narrowed := true }
def QuorumMoreUptoSaid : Prop := quorumMoreUptoRow.holds Try.pinned (OpenSpec.upto quorumMoreSpec)

/-- 'folkmootlaw6.QuorumEdges', WHERE WHAT IT READS IS OF BULK AT MOST 1048576: true; the input reads as it did. -/
def quorumEdgesUptoRow : OpenClaim := { program := "ytifanmggfoicfaa", sum := "040542c415ff91b2a258ca50d7acd5be62999a1ca7f875908938f0b149a7447f", func := "folkmoot/folkmootlaw6.QuorumEdges", spec := "quorumEdges", unfollowed := true, recurses := true, apart := false, narrowed := true }
def QuorumEdgesUptoSaid : Prop := quorumEdgesUptoRow.holds Try.pinned (OpenSpec.upto quorumEdgesSpec)

end Rows
end Go.Proofs.Ytifanmggfoicfaa
