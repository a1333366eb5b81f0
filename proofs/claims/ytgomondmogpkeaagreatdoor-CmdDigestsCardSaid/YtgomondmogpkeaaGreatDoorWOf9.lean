/- The walks of the law's Of, of SameID. -/
import Derived.Test.YtgomondmogpkeaaGreatDoorWCheck
set_option linter.unusedVariables false
namespace Go.Proofs.YtgomondmogpkeaaGreatDoor
open Go.RowKit
set_option maxRecDepth 100000 in
theorem of9_calls (c n f t a : Int) (w : World) : Calls Tryz.prog 36 #[cV c n f t a] w fun e w' => e = .returned (cV c n f t a) ∧ Ext w w' := by
  go_enter Tryz.func36, Tryz.ntmps36
  go_wp2
  refine bodyPost_ret (v := cV c n f t a) (by simp [results, Tryz.f36, go_sem]) rfl ⟨rfl, ((Below.refl _ w).alloc (Nat.le_refl _) _).alloc (by simp) _⟩
def sameB (c n c' n' : Int) : Bool := decide (c = c' ∧ n = n')
set_option maxHeartbeats 1000000 in
set_option maxRecDepth 100000 in
theorem sameID_calls (c n f t a c' n' f' t' a' : Int) (w : World) : Calls Tryz.prog 43 #[cV c n f t a, cV c' n' f' t' a'] w fun e w' => e = .returned (.bool (sameB c n c' n')) ∧ Ext w w' := by
  have hcs : ((c == c') = false ∧ sameB c n c' n' = false) ∨ ((c == c') = true ∧ (n == n') = false ∧ sameB c n c' n' = false) ∨ ((c == c') = true ∧ (n == n') = true ∧ sameB c n c' n' = true) := by
    unfold sameB
    by_cases h1 : c = c' <;> by_cases h2 : n = n' <;> simp [h1, h2]
  generalize sameB c n c' n' = K at *
  rcases hcs with ⟨h1, hk⟩ | ⟨h1, h2, hk⟩ | ⟨h1, h2, hk⟩
  all_goals
    have HK := Lib.hid hk
    clear hk
    go_enter Tryz.func43, Tryz.ntmps43
    go_wp2
    go_ret
    exact ⟨by rw [HK.out]; rfl, ((Below.refl _ w).alloc (Nat.le_refl _) _).alloc (by simp) _⟩
set_option maxHeartbeats 1000000 in
set_option maxRecDepth 100000 in
theorem rsameID_calls (c n f t a c' n' f' t' a' : Int) (w : World) : Calls Tryz.prog 44 #[cV c n f t a, cV c' n' f' t' a'] w fun e w' => e = .returned (.bool (sameB c n c' n')) ∧ Ext w w' := by
  have hcs : ((c == c') = false ∧ sameB c n c' n' = false) ∨ ((c == c') = true ∧ (n == n') = false ∧ sameB c n c' n' = false) ∨ ((c == c') = true ∧ (n == n') = true ∧ sameB c n c' n' = true) := by
    unfold sameB
    by_cases h1 : c = c' <;> by_cases h2 : n = n' <;> simp [h1, h2]
  generalize sameB c n c' n' = K at *
  rcases hcs with ⟨h1, hk⟩ | ⟨h1, h2, hk⟩ | ⟨h1, h2, hk⟩
  all_goals
    have HK := Lib.hid hk
    clear hk
    go_enter Tryz.func44, Tryz.ntmps44
    go_wp2
    go_ret
    exact ⟨by rw [HK.out]; rfl, ((Below.refl _ w).alloc (Nat.le_refl _) _).alloc (by simp) _⟩
theorem textId_calls (n : Int) (w : World) : Calls Tryz.prog 60 #[.int .i64 n] w fun e w' => e = .returned (.int .i64 n) ∧ w = w' := by
  go_enter Tryz.func60, Tryz.ntmps60
  go_wp2
  go_ret
  exact ⟨rfl, rfl⟩
theorem rsmall_calls (n : Int) (w : World) : Calls Tryz.prog 63 #[.int .i64 n] w fun e w' => e = .returned (.bool (smallB n)) ∧ w = w' := by
  have hcs : (n < -2147483648 ∧ smallB n = false) ∨ (-2147483648 ≤ n ∧ 2147483648 ≤ n ∧ smallB n = false) ∨ (-2147483648 ≤ n ∧ n < 2147483648 ∧ smallB n = true) := by
    by_cases h1 : -2147483648 ≤ n
    · by_cases h2 : n < 2147483648
      · exact .inr (.inr ⟨h1, h2, inB_true.2 ⟨h1, by omega⟩⟩)
      · exact .inr (.inl ⟨h1, by omega, inB_false.2 (by omega)⟩)
    · exact .inl ⟨by omega, inB_false.2 (by omega)⟩
  generalize smallB n = K at *
  rcases hcs with ⟨h1, hk⟩ | ⟨h1, h2, hk⟩ | ⟨h1, h2, hk⟩
  all_goals
    have HK := Lib.hid hk
    clear hk
    go_enter Tryz.func63, Tryz.ntmps63
    go_wp2
    go_ret
    exact ⟨by rw [HK.out]; first | rfl | (simp; done) | (simp; omega), rfl⟩
end Go.Proofs.YtgomondmogpkeaaGreatDoor
