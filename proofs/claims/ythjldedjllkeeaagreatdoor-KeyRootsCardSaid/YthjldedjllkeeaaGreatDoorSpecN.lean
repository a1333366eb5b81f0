/- Plain words: a number that is just so written. -/
import Derived.Test.YthjldedjllkeeaaGreatDoorCore
namespace Go.Proofs.YthjldedjllkeeaaGreatDoor
namespace J
def isDig (c : UInt8) : Prop := 48 ≤ c.toNat ∧ c.toNat ≤ 57
instance (c : UInt8) : Decidable (isDig c) := inferInstanceAs (Decidable (_ ∧ _))
def dval (v : Nat) (c : UInt8) : Nat := 10 * v + (c.toNat - 48)
def val (l : List UInt8) : Nat := l.foldl dval 0
theorem val_snoc (l : List UInt8) (k : Nat) (h : k < l.length) : val (l.take (k + 1)) = 10 * val (l.take k) + (l[k].toNat - 48) := by
  rw [List.take_succ_eq_append_getElem h, val, List.foldl_append]
  rfl
theorem foldl_ge (l : List UInt8) : ∀ v, v ≤ l.foldl dval v := by
  induction l with
  | nil => intro v; exact Nat.le_refl v
  | cons c l ih => intro v; refine Nat.le_trans ?_ (ih (dval v c)); unfold dval; omega
theorem val_take (l : List UInt8) (k : Nat) : val (l.take k) ≤ val l := by
  conv => rhs; rw [← List.take_append_drop k l]
  unfold val
  rw [List.foldl_append]
  exact foldl_ge _ _
/-- A number's digits, with a stroke ahead or not. -/
def tnum (m : Bool) (t : List UInt8) : Except Nat Int :=
  if t = [] ∨ (t.head? = some 48 ∧ (1 < t.length ∨ m = true)) ∨ ¬ (∀ c ∈ t, isDig c) then .error 2
  else if m = true then (if val t ≤ 9223372036854775808 then .ok (-(val t : Int)) else .error 4)
  else (if val t < 9223372036854775808 then .ok (val t : Int) else .error 4)
def pnum : List UInt8 → Except Nat Int
  | [] => .error 2
  | c :: t => if c = 45 then tnum true t else tnum false (c :: t)
end J
end Go.Proofs.YthjldedjllkeeaaGreatDoor
