/- The walks of cmd.Check, of the reference's CheckCmd, of the law's Of, of SameID. -/
import Derived.Test.YtifanmggfoicfaaDoorSpecC
import Derived.Test.YtifanmggfoicfaaDoorShelf
import Derived.Test.YtifanmggfoicfaaDoorProg
import Derived.Deep.QuietTactic
import Derived.BigQuiet
set_option linter.unusedVariables false
namespace Go.Proofs.YtifanmggfoicfaaDoor
open Go.RowKit
abbrev cV (c n f t a : Int) : Value := .agg #[.int .i64 c, .int .i64 n, .int .i64 f, .int .i64 t, .int .i64 a]
theorem win_calls (n lo hi : Int) (w : World) : Calls Tryd.prog 71 #[.int .i64 n, .int .i64 lo, .int .i64 hi] w fun e w' => e = .returned (.bool (inB n lo hi)) ∧ w = w' := by
  by_cases h1 : lo ≤ n
  · by_cases h2 : n ≤ hi
    · have HB := Lib.hid (inB_true.2 ⟨h1, h2⟩)
      go_enter Tryd.func71, Tryd.ntmps71
      go_wp2
      go_ret
      exact ⟨by rw [HB.out]; first | rfl | (simp; done) | (simp; omega), rfl⟩
    · have HB := Lib.hid (inB_false (n := n) (lo := lo) (hi := hi) |>.2 fun h => h2 h.2)
      have h3 : hi < n := by omega
      clear h2
      go_enter Tryd.func71, Tryd.ntmps71
      go_wp2
      go_ret
      exact ⟨by rw [HB.out]; first | rfl | (simp; done) | (simp; omega), rfl⟩
  · have HB := Lib.hid (inB_false (n := n) (lo := lo) (hi := hi) |>.2 fun h => h1 h.1)
    have h3 : n < lo := by omega
    clear h1
    go_enter Tryd.func71, Tryd.ntmps71
    go_wp2
    go_ret
    exact ⟨by rw [HB.out]; first | rfl | (simp; done) | (simp; omega), rfl⟩
theorem win64_calls (n lo hi : Int) (w : World) : Calls Tryd.prog 72 #[.int .i64 n, .int .i64 lo, .int .i64 hi] w fun e w' => e = .returned (.bool (inB n lo hi)) ∧ w = w' := by
  by_cases h1 : lo ≤ n
  · by_cases h2 : n ≤ hi
    · have HB := Lib.hid (inB_true.2 ⟨h1, h2⟩)
      go_enter Tryd.func72, Tryd.ntmps72
      go_wp2
      go_ret
      exact ⟨by rw [HB.out]; first | rfl | (simp; done) | (simp; omega), rfl⟩
    · have HB := Lib.hid (inB_false (n := n) (lo := lo) (hi := hi) |>.2 fun h => h2 h.2)
      have h3 : hi < n := by omega
      clear h2
      go_enter Tryd.func72, Tryd.ntmps72
      go_wp2
      go_ret
      exact ⟨by rw [HB.out]; first | rfl | (simp; done) | (simp; omega), rfl⟩
  · have HB := Lib.hid (inB_false (n := n) (lo := lo) (hi := hi) |>.2 fun h => h1 h.1)
    have h3 : n < lo := by omega
    clear h1
    go_enter Tryd.func72, Tryd.ntmps72
    go_wp2
    go_ret
    exact ⟨by rw [HB.out]; first | rfl | (simp; done) | (simp; omega), rfl⟩
theorem name_calls (n : Int) (w : World) : Calls Tryd.prog 70 #[.int .i64 n] w fun e w' => e = .returned (.bool (inB n 0 15)) ∧ w = w' := by
  go_enter Tryd.func70, Tryd.ntmps70
  go_wp2_with fail
  refine (win_calls n 0 15 _).mono ?_
  rintro e w' ⟨rfl, rfl⟩
  go_wp2
  go_ret
  exact ⟨rfl, rfl⟩
theorem cell5 (w : World) (v : Array Value) (t : TypeId) (j : Nat) : (w.alloc (.cells v t)).cell? ⟨w.heap.size, j, none⟩ = v[j]? := by simp [World.cell?_alloc_mark]
set_option maxHeartbeats 2000000 in
set_option maxRecDepth 100000 in
theorem ccheck_calls (c n f t a : Int) (w : World) : Calls Tryd.prog 47 #[cV c n f t a] w fun e w' => e = .returned (.int .i64 (codeC c n f t a)) ∧ Ext w w' := by
  have hcs := codeC_cases c n f t a
  generalize codeC c n f t a = K at *
  rcases hcs with ⟨h1, hk⟩ | ⟨h1, h2, hk⟩ | ⟨h1, h2, h3, hk⟩ | ⟨h1, h2, h3, h4, hk⟩ | ⟨h1, h2, h3, h4, h5, hk⟩ | ⟨h1, h2, h3, h4, h5, h6, hk⟩ | ⟨h1, h2, h3, h4, h5, h6, hk⟩
  all_goals
    have HK := Lib.hid hk
    clear hk
    go_enter Tryd.func47, Tryd.ntmps47
    go_wp2_with (first | (go_at_call 70; refine (name_calls _ _).mono ?_; rintro e w' ⟨rfl, rfl⟩) | (go_at_call 71; refine (win_calls _ _ _ _).mono ?_; rintro e w' ⟨rfl, rfl⟩) | (go_at_call 72; refine (win64_calls _ _ _ _).mono ?_; rintro e w' ⟨rfl, rfl⟩))
    go_ret
    exact ⟨by rw [HK.out]; rfl, (Below.refl _ w).alloc (Nat.le_refl _) _⟩
end Go.Proofs.YtifanmggfoicfaaDoor
