/- Plain words: fields joined. -/
import Derived.Test.YthjldedjllkeeaaGreatDoorCore
namespace Go.Proofs.YthjldedjllkeeaaGreatDoor
namespace J
/-- A byte that is told behind a stroke. -/
def special (c : UInt8) : Bool := c == 124 || c == 92
def esc1 (c : UInt8) : List UInt8 := if special c then [92, c] else [c]
def esc : List UInt8 → List UInt8
  | [] => []
  | c :: l => esc1 c ++ esc l
def join : List (List UInt8) → List UInt8
  | [] => []
  | s :: l => 124 :: (esc s ++ join l)
theorem esc_append (a b : List UInt8) : esc (a ++ b) = esc a ++ esc b := by
  induction a with
  | nil => rfl
  | cons c a ih => rw [List.cons_append, esc, esc, ih, List.append_assoc]
theorem join_append (a b : List (List UInt8)) : join (a ++ b) = join a ++ join b := by
  induction a with
  | nil => rfl
  | cons c a ih => rw [List.cons_append, join, join, ih, List.cons_append, List.append_assoc]
/-- What is written when k fields are, and j bytes of the next. -/
def pre (l : List (List UInt8)) (k j : Nat) (s : List UInt8) : List UInt8 := join (l.take k) ++ 124 :: esc (s.take j)
theorem esc_one (c : UInt8) : esc [c] = esc1 c := List.append_nil _
theorem esc_snoc (s : List UInt8) (j : Nat) (h : j < s.length) : esc (s.take (j + 1)) = esc (s.take j) ++ esc1 s[j] := by
  rw [List.take_succ_eq_append_getElem h, esc_append, esc_one]
theorem pre_snoc (l : List (List UInt8)) (k j : Nat) (s : List UInt8) (h : j < s.length) : pre l k (j + 1) s = pre l k j s ++ esc1 s[j] := by
  rw [pre, pre, esc_snoc s j h, List.append_assoc, List.cons_append]
theorem pre_zero (l : List (List UInt8)) (k : Nat) (s : List UInt8) : pre l k 0 s = join (l.take k) ++ [124] := rfl
theorem join_snoc (l : List (List UInt8)) (k : Nat) (h : k < l.length) : join (l.take (k + 1)) = pre l k l[k].length l[k] := by
  rw [List.take_succ_eq_append_getElem h, join_append, pre, List.take_length, join, join, List.append_nil]
theorem pre_len (l : List (List UInt8)) (k j : Nat) (h : k < l.length) : (pre l k j l[k]).length ≤ (join l).length := by
  have e : join l = join (l.take k) ++ (124 :: (esc l[k] ++ join (l.drop (k + 1)))) := by
    conv => lhs; rw [← List.take_append_drop k l, List.drop_eq_getElem_cons h]
    rw [join_append, join]
  have h2 : esc l[k] = esc (l[k].take j) ++ esc (l[k].drop j) := by rw [← esc_append, List.take_append_drop]
  rw [e, h2, pre]
  simp only [List.length_append, List.length_cons]
  omega
theorem join_len (l : List (List UInt8)) (k : Nat) : (join (l.take k)).length ≤ (join l).length := by
  conv => rhs; rw [← List.take_append_drop k l, join_append]
  rw [List.length_append]
  omega
end J
end Go.Proofs.YthjldedjllkeeaaGreatDoor
