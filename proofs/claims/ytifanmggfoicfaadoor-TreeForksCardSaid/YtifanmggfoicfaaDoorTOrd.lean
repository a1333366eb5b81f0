/- What the law TreeOrder leans on, reckoned. -/
import Derived.Test.YtifanmggfoicfaaDoorTKn
set_option linter.unusedVariables false
namespace Go.Proofs.YtifanmggfoicfaaDoor
/-- The chain's block number i, on the digest of the one ahead. -/
def cB (cd : Nat → Nat) (i : Nat) : T.B := mkB ((i : Int) + 1) (cd i) i ((i : Int) + 1)
/-- The tree that has the first m of them. -/
def cT (cd : Nat → Nat) : Nat → List (Nat × T.B)
  | 0 => T.new
  | m + 1 => (cd (m + 1), cB cd m) :: cT cd m
theorem cT_len (cd : Nat → Nat) : ∀ m, (cT cd m).length = m + 1
  | 0 => rfl
  | m + 1 => by rw [cT, List.length_cons, cT_len cd m]
/-- The way from the m-th down. -/
def cW (cd : Nat → Nat) : Nat → List Nat
  | 0 => [0]
  | m + 1 => cd (m + 1) :: cW cd m
theorem cW_len (cd : Nat → Nat) : ∀ m, (cW cd m).length = m + 1
  | 0 => rfl
  | m + 1 => by rw [cW, List.length_cons, cW_len cd m]
structure Ord17 (cd : Nat → Nat) : Prop where
  z : cd 0 = 0
  d : ∀ i, i < 8 → T.dig (cB cd i) = cd (i + 1)
  lt : ∀ i, i < 9 → cd i < 18446744073709551616
  code : ∀ m, m < 9 → ∀ j, j < 8 → T.code (cT cd m) (cd (j + 1)) (cB cd j) = if j < m then 5 else if j = m then 0 else 11
  way : ∀ m, m < 9 → T.way (cT cd m) 9 (cd m) = some (cW cd m)
theorem ord17 : ∃ cd, Ord17 cd := by
  let t : List Nat := [0, 10597715051838292647, 2474523568556720551, 8780511801470342766, 9263245716147250199, 2037936165985364606, 2034355563232730036, 14578043167322877249, 12104494296143334800]
  refine ⟨fun i => t.getD i 0, rfl, ?_, ?_, ?_, ?_⟩
  · have h : ∀ i, i < 8 → (T.ok (cB (fun i => t.getD i 0) i) && decide (T.digF (cB (fun i => t.getD i 0) i) = t.getD (i + 1) 0)) = true := by decide +kernel
    exact fun i hi => dig_mk _ _ _ _ _ (h i hi)
  · decide +kernel
  · decide +kernel
  · decide +kernel
theorem cW_lt {cd : Nat → Nat} (h : Ord17 cd) : ∀ m, m < 9 → ∀ x ∈ cW cd m, x < 18446744073709551616
  | 0, _, x, hx => by rw [cW, List.mem_singleton] at hx; subst hx; decide
  | m + 1, hm, x, hx => by
    rw [cW] at hx
    rcases List.mem_cons.1 hx with rfl | hx
    · exact h.lt _ hm
    · exact cW_lt h m (by omega) x hx
end Go.Proofs.YtifanmggfoicfaaDoor
