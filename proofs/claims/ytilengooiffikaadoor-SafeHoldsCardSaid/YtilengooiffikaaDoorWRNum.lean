/- The walks of the reference's Num and Nums. -/
import Derived.Test.YtilengooiffikaaDoorWNums
set_option linter.unusedVariables false
namespace Go.Proofs.YtilengooiffikaaDoor
open Go.RowKit Go.Sort
/-- The digits ahead of the last. -/
def upper (n : Nat) : List UInt8 := if n < 10 then [] else Lib.decDigits (n / 10)
def lastD (n : Nat) : UInt8 := UInt8.ofNat (48 + n % 10)
theorem dec_split (n : Nat) : Lib.decDigits n = upper n ++ [lastD n] := by
  unfold upper lastD
  rw [Lib.decDigits]
  split
  · rename_i h
    rw [Nat.mod_eq_of_lt h]; rfl
  · rfl
theorem lastD_nat (n : Nat) : ((lastD n).toNat : Int) = 48 + (n : Int) % 10 := by
  unfold lastD
  rw [UInt8.toNat_ofNat_of_lt' (by have := Nat.mod_lt n (show 0 < 10 by decide); show 48 + n % 10 < 256; omega)]
  omega
theorem one_str (w : World) (x : Int) (b : UInt8) (h : x = (b.toNat : Int)) :
    (convert 84 9 (.slice (some ⟨w.heap.size, 0, none⟩) 1 1)).run Tryd.prog (w.alloc (.cells #[.int .u8 x] 5)) = .ok (.string (strOf [b])) (w.alloc (.cells #[.int .u8 x] 5)) := by
  subst h
  exact run_str (P := Tryd.prog) _ _ [b] 1 84 5 9 Tryd.underlying84 Tryd.underlying5 Tryd.underlying9 (Rd.fresh w [cU8 b] _ _)
theorem strOf_append (a b : List UInt8) : strOf a ++ strOf b = strOf (a ++ b) := by
  apply ByteArray.ext
  simp [strOf]
theorem itoa_neg' (n : Int) (h : n < 0) : Lib.itoa n = 45 :: Lib.decDigits n.natAbs := by rw [Lib.itoa, if_pos h]
end Go.Proofs.YtilengooiffikaaDoor
