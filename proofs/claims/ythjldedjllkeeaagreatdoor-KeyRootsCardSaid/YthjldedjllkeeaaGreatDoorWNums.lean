/- The walks of field.Nums, of the reference's Num and Nums. -/
import Derived.Test.YthjldedjllkeeaaGreatDoorWMap
import Derived.Lib.ItoaLen
import Derived.Lib.Join
set_option linter.unusedVariables false
namespace Go.Proofs.YthjldedjllkeeaaGreatDoor
open Go.RowKit Go.Sort
def I64 (n : Int) : Prop := -9223372036854775808 ≤ n ∧ n ≤ 9223372036854775807
/-- Numbers between commas. -/
def numsL (l : List Int) : List UInt8 := Lib.join (l.map Lib.itoa) [44]
theorem lens_le (l : List Int) (hb : ∀ n ∈ l, I64 n) : Lib.lens (l.map Lib.itoa) ≤ 21 * l.length := by
  induction l with
  | nil => exact Nat.le_refl 0
  | cons n l ih =>
    have h1 := Lib.itoa_length_le n (hb n (by simp)).1 (hb n (by simp)).2
    have h2 := ih (fun m hm => hb m (by simp [hm]))
    rw [List.map_cons, List.length_cons]
    have e : Lib.lens (Lib.itoa n :: l.map Lib.itoa) = (Lib.itoa n).length + Lib.lens (l.map Lib.itoa) := by simp [Lib.lens]
    omega
theorem numsL_len (l : List Int) (hb : ∀ n ∈ l, I64 n) : (numsL l).length ≤ 22 * l.length := by
  cases l with
  | nil => exact Nat.le_refl 0
  | cons n l =>
    have h := lens_le (n :: l) hb
    rw [List.map_cons] at h
    rw [numsL, List.map_cons, Lib.join_length, List.length_map]
    simp only [List.length_cons, List.length_nil] at h ⊢
    omega
end Go.Proofs.YthjldedjllkeeaaGreatDoor
