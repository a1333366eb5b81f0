/- The walk of the reference's Split. -/
import Derived.Test.YtilengooiffikaaDoorSpecS2
namespace Go.Proofs.YtilengooiffikaaDoor
open Go.RowKit
def rfin (r : Option (List (List UInt8))) : Except Nat (List (List UInt8)) := match r with
  | some out => J.most out
  | none => .error 2
theorem rr_no {c l out one} (h : (c == 124) = false) : J.rrun (c :: l) out one false = none := by rw [J.rr_cons, if_pos ⟨rfl, h⟩]
theorem rr_bar {c l out one on} (h : (c == 124) = true) : J.rrun (c :: l) out one on = J.rrun l (if on then out ++ [one] else out) [] true := by rw [J.rr_cons, if_neg (by rw [h]; simp), if_pos h]
theorem rr_end {c out one} (h : (c == 124) = false) (h2 : (c == 92) = true) : J.rrun [c] out one true = none := by rw [J.rr_cons, if_neg (by simp), if_neg (by simp [h]), if_pos h2]
theorem rr_esc {c d l out one} (h : (c == 124) = false) (h2 : (c == 92) = true) : J.rrun (c :: d :: l) out one true = if J.special d then J.rrun l out (one ++ [d]) true else none := by rw [J.rr_cons, if_neg (by simp), if_neg (by simp [h]), if_pos h2]
theorem rr_other {c l out one} (h : (c == 124) = false) (h2 : (c == 92) = false) : J.rrun (c :: l) out one true = J.rrun l out (one ++ [c]) true := by rw [J.rr_cons, if_neg (by simp), if_neg (by simp [h]), if_neg (by simp [h2])]
end Go.Proofs.YtilengooiffikaaDoor
