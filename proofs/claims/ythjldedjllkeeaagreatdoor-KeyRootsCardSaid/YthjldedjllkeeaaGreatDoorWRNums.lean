/- The walk of the reference's Nums. -/
import Derived.Test.YthjldedjllkeeaaGreatDoorWRNum
set_option linter.unusedVariables false
namespace Go.Proofs.YthjldedjllkeeaaGreatDoor
open Go.RowKit Go.Sort
theorem numsL_snoc (l : List Int) (n : Int) : numsL (l ++ [n]) = if l = [] then Lib.itoa n else numsL l ++ [44] ++ Lib.itoa n := by
  cases l with
  | nil => simp [numsL, Lib.join_one]
  | cons a l =>
    rw [if_neg (by simp), numsL, numsL, List.cons_append, List.map_cons, List.map_cons, Lib.join_cons, Lib.join_cons]
    simp [Lib.joinTail]
theorem numsL_take (l : List Int) (k : Nat) (h : k < l.length) : numsL (l.take (k + 1)) = if k = 0 then Lib.itoa l[k] else numsL (l.take k) ++ [44] ++ Lib.itoa l[k] := by
  rw [List.take_succ_eq_append_getElem h, numsL_snoc]
  by_cases hk : k = 0
  · subst hk; rfl
  · have hne : l.take k ≠ [] := fun e => by have := congrArg List.length e; rw [List.length_take, List.length_nil] at this; omega
    rw [if_neg hne, if_neg hk]
end Go.Proofs.YthjldedjllkeeaaGreatDoor
