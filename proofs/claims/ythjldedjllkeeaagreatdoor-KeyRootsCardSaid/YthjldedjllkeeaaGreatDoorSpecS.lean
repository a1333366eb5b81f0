/- Plain words: fields split, as the program does and as the reference does. -/
import Derived.Test.YthjldedjllkeeaaGreatDoorSpecJ
namespace Go.Proofs.YthjldedjllkeeaaGreatDoor
namespace J
/-- What is out, the field under way, whether a stroke stands ahead. -/
abbrev St := List (List UInt8) × List UInt8 × Bool
def step (s : St) (c : UInt8) : Option St :=
  if s.2.2 then (if special c then some (s.1, s.2.1 ++ [c], false) else none)
  else if c == 92 then some (s.1, s.2.1, true)
  else if c == 124 then some (s.1 ++ [s.2.1], [], false)
  else some (s.1, s.2.1 ++ [c], false)
def run : List UInt8 → St → Option St
  | [], s => some s
  | c :: l, s => (step s c).bind (run l)
def most (l : List (List UInt8)) : Except Nat (List (List UInt8)) := if l.length > 4096 then .error 4 else .ok l
def split : List UInt8 → Except Nat (List (List UInt8))
  | [] => .ok []
  | c :: l => if c == 124 then
      match run l ([], [], false) with
      | some (out, f, false) => most (out ++ [f])
      | _ => .error 2
    else .error 2
end J
end Go.Proofs.YthjldedjllkeeaaGreatDoor
