/- The walks of the law's own small functions. -/
import Derived.Test.YthjldedjllkeeaaGreatDoorWRSplit
import Derived.Test.YthjldedjllkeeaaGreatDoorGrow
import Derived.MapKept
import Derived.RegionTactic
import Derived.ChangeAlike
import Derived.Lib.SlicesS
set_option linter.unusedVariables false
namespace Go.Proofs.YthjldedjllkeeaaGreatDoor
open Go.RowKit
theorem take_eq_succ {α : Type} {a b : List α} {k : Nat} (h : a.take k = b.take k) (ha : k < a.length) (hb : k < b.length) (e : a[k] = b[k]) : a.take (k + 1) = b.take (k + 1) := by
  rw [List.take_succ_eq_append_getElem ha, List.take_succ_eq_append_getElem hb, h, e]
abbrev cI64s (l : List Int) : List Value := l.map fun n => Value.int .i64 n
/-- Are fields few, and short? -/
def shortB (l : List ByteArray) : Bool := decide (l.length ≤ 100 ∧ ∀ s ∈ l, s.size ≤ 200)
end Go.Proofs.YthjldedjllkeeaaGreatDoor
