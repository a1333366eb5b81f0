/- A message whose rows are empty: the walks of Check, Same, All, Word. -/
import Derived.Test.YtifanmggfoicfaaMSame
import Derived.Test.YtifanmggfoicfaaGrow
import Derived.Deep.AppendLies
set_option linter.unusedVariables false
set_option linter.unusedSimpArgs false
namespace Go.Proofs.Ytifanmggfoicfaa
open Go.RowKit
def vCmd (c n x y a : Int) : List Value := [.int .i64 c, .int .i64 n, .int .i64 x, .int .i64 y, .int .i64 a]
/-- A message: its kind, from whom, to whom, its command, its times, its chain. -/
def mL (k f t c n x y a lo hi : Int) (ch : Value) : List Value :=
  [.int .i64 k, .int .i64 f, .int .i64 t] ++ vCmd c n x y a ++ zStamp ++ zCert ++ zAck ++ [.int .i64 lo, .int .i64 hi] ++ zRep ++ zBlk ++ zVote ++ zView ++ [ch]
set_option maxRecDepth 100000 in
theorem mL_len (k f t c n x y a lo hi : Int) (ch : Value) : (mL k f t c n x y a lo hi ch).length = 147 := rfl
def inM (n lo hi : Int) : Bool := decide (lo ≤ n ∧ n ≤ hi)
theorem within22_calls (n lo hi : Int) (w : World) : Calls Try.prog 51 #[.int .i64 n, .int .i64 lo, .int .i64 hi] w fun e w' => e = .returned (.bool (inM n lo hi)) ∧ w = w' := by
  have hcs : (decide (lo ≤ n) = false ∧ inM n lo hi = false) ∨ (decide (lo ≤ n) = true ∧ decide (n ≤ hi) = false ∧ inM n lo hi = false) ∨ (decide (lo ≤ n) = true ∧ decide (n ≤ hi) = true ∧ inM n lo hi = true) := by
    unfold inM
    by_cases h1 : lo ≤ n <;> by_cases h2 : n ≤ hi <;> simp [h1, h2]
  generalize inM n lo hi = K at *
  rcases hcs with ⟨h1, hk⟩ | ⟨h1, h2, hk⟩ | ⟨h1, h2, hk⟩
  all_goals
    have HK := Lib.hid hk
    clear hk
    go_enter Try.func51, Try.ntmps51
    go_wp2
    go_ret
    exact ⟨by rw [HK.out]; rfl, rfl⟩
set_option maxRecDepth 100000 in
theorem c12_calls (n : Int) (w : World) : Calls Try.prog 38 #[.int .i64 n] w fun e w' => e = .returned (.agg (vCmd 1 n 2 3 4).toArray) ∧ Ext w w' := by
  go_enter Try.func38, Try.ntmps38
  go_wp2
  refine bodyPost_ret (v := .agg (vCmd 1 n 2 3 4).toArray) (by simp [results, Try.f38, go_sem, vCmd]) rfl ⟨rfl, ((Below.refl _ w).alloc (Nat.le_refl _) _)⟩
/-- The kinds' words. -/
def wordM (k : Int) : List UInt8 := if k = 1 then [97, 115, 107] else if k = 2 then [115, 116, 97, 109, 112, 101, 100] else if k = 3 then [99, 101, 114, 116, 105, 102, 121] else if k = 4 then [97, 99, 107, 101, 100] else if k = 5 then [99, 108, 111, 115, 101] else if k = 6 then [99, 108, 111, 115, 101, 100] else if k = 7 then [112, 114, 111, 112, 111, 115, 101] else if k = 8 then [118, 111, 116, 101, 100] else if k = 9 then [110, 101, 120, 116] else []
theorem idx22_0 (w : World) : (Instr.index 151 (.agg #[Value.string ⟨#[97, 115, 107]⟩, Value.string ⟨#[115, 116, 97, 109, 112, 101, 100]⟩, Value.string ⟨#[99, 101, 114, 116, 105, 102, 121]⟩, Value.string ⟨#[97, 99, 107, 101, 100]⟩, Value.string ⟨#[99, 108, 111, 115, 101]⟩, Value.string ⟨#[99, 108, 111, 115, 101, 100]⟩, Value.string ⟨#[112, 114, 111, 112, 111, 115, 101]⟩, Value.string ⟨#[118, 111, 116, 101, 100]⟩, Value.string ⟨#[110, 101, 120, 116]⟩]) (.int .i64 0)).run Try.prog w = .ok (.string ⟨#[97, 115, 107]⟩) w := by kernel_rfl
theorem idx22_1 (w : World) : (Instr.index 151 (.agg #[Value.string ⟨#[97, 115, 107]⟩, Value.string ⟨#[115, 116, 97, 109, 112, 101, 100]⟩, Value.string ⟨#[99, 101, 114, 116, 105, 102, 121]⟩, Value.string ⟨#[97, 99, 107, 101, 100]⟩, Value.string ⟨#[99, 108, 111, 115, 101]⟩, Value.string ⟨#[99, 108, 111, 115, 101, 100]⟩, Value.string ⟨#[112, 114, 111, 112, 111, 115, 101]⟩, Value.string ⟨#[118, 111, 116, 101, 100]⟩, Value.string ⟨#[110, 101, 120, 116]⟩]) (.int .i64 1)).run Try.prog w = .ok (.string ⟨#[115, 116, 97, 109, 112, 101, 100]⟩) w := by kernel_rfl
theorem idx22_2 (w : World) : (Instr.index 151 (.agg #[Value.string ⟨#[97, 115, 107]⟩, Value.string ⟨#[115, 116, 97, 109, 112, 101, 100]⟩, Value.string ⟨#[99, 101, 114, 116, 105, 102, 121]⟩, Value.string ⟨#[97, 99, 107, 101, 100]⟩, Value.string ⟨#[99, 108, 111, 115, 101]⟩, Value.string ⟨#[99, 108, 111, 115, 101, 100]⟩, Value.string ⟨#[112, 114, 111, 112, 111, 115, 101]⟩, Value.string ⟨#[118, 111, 116, 101, 100]⟩, Value.string ⟨#[110, 101, 120, 116]⟩]) (.int .i64 2)).run Try.prog w = .ok (.string ⟨#[99, 101, 114, 116, 105, 102, 121]⟩) w := by kernel_rfl
theorem idx22_3 (w : World) : (Instr.index 151 (.agg #[Value.string ⟨#[97, 115, 107]⟩, Value.string ⟨#[115, 116, 97, 109, 112, 101, 100]⟩, Value.string ⟨#[99, 101, 114, 116, 105, 102, 121]⟩, Value.string ⟨#[97, 99, 107, 101, 100]⟩, Value.string ⟨#[99, 108, 111, 115, 101]⟩, Value.string ⟨#[99, 108, 111, 115, 101, 100]⟩, Value.string ⟨#[112, 114, 111, 112, 111, 115, 101]⟩, Value.string ⟨#[118, 111, 116, 101, 100]⟩, Value.string ⟨#[110, 101, 120, 116]⟩]) (.int .i64 3)).run Try.prog w = .ok (.string ⟨#[97, 99, 107, 101, 100]⟩) w := by kernel_rfl
theorem idx22_4 (w : World) : (Instr.index 151 (.agg #[Value.string ⟨#[97, 115, 107]⟩, Value.string ⟨#[115, 116, 97, 109, 112, 101, 100]⟩, Value.string ⟨#[99, 101, 114, 116, 105, 102, 121]⟩, Value.string ⟨#[97, 99, 107, 101, 100]⟩, Value.string ⟨#[99, 108, 111, 115, 101]⟩, Value.string ⟨#[99, 108, 111, 115, 101, 100]⟩, Value.string ⟨#[112, 114, 111, 112, 111, 115, 101]⟩, Value.string ⟨#[118, 111, 116, 101, 100]⟩, Value.string ⟨#[110, 101, 120, 116]⟩]) (.int .i64 4)).run Try.prog w = .ok (.string ⟨#[99, 108, 111, 115, 101]⟩) w := by kernel_rfl
theorem idx22_5 (w : World) : (Instr.index 151 (.agg #[Value.string ⟨#[97, 115, 107]⟩, Value.string ⟨#[115, 116, 97, 109, 112, 101, 100]⟩, Value.string ⟨#[99, 101, 114, 116, 105, 102, 121]⟩, Value.string ⟨#[97, 99, 107, 101, 100]⟩, Value.string ⟨#[99, 108, 111, 115, 101]⟩, Value.string ⟨#[99, 108, 111, 115, 101, 100]⟩, Value.string ⟨#[112, 114, 111, 112, 111, 115, 101]⟩, Value.string ⟨#[118, 111, 116, 101, 100]⟩, Value.string ⟨#[110, 101, 120, 116]⟩]) (.int .i64 5)).run Try.prog w = .ok (.string ⟨#[99, 108, 111, 115, 101, 100]⟩) w := by kernel_rfl
theorem idx22_6 (w : World) : (Instr.index 151 (.agg #[Value.string ⟨#[97, 115, 107]⟩, Value.string ⟨#[115, 116, 97, 109, 112, 101, 100]⟩, Value.string ⟨#[99, 101, 114, 116, 105, 102, 121]⟩, Value.string ⟨#[97, 99, 107, 101, 100]⟩, Value.string ⟨#[99, 108, 111, 115, 101]⟩, Value.string ⟨#[99, 108, 111, 115, 101, 100]⟩, Value.string ⟨#[112, 114, 111, 112, 111, 115, 101]⟩, Value.string ⟨#[118, 111, 116, 101, 100]⟩, Value.string ⟨#[110, 101, 120, 116]⟩]) (.int .i64 6)).run Try.prog w = .ok (.string ⟨#[112, 114, 111, 112, 111, 115, 101]⟩) w := by kernel_rfl
theorem idx22_7 (w : World) : (Instr.index 151 (.agg #[Value.string ⟨#[97, 115, 107]⟩, Value.string ⟨#[115, 116, 97, 109, 112, 101, 100]⟩, Value.string ⟨#[99, 101, 114, 116, 105, 102, 121]⟩, Value.string ⟨#[97, 99, 107, 101, 100]⟩, Value.string ⟨#[99, 108, 111, 115, 101]⟩, Value.string ⟨#[99, 108, 111, 115, 101, 100]⟩, Value.string ⟨#[112, 114, 111, 112, 111, 115, 101]⟩, Value.string ⟨#[118, 111, 116, 101, 100]⟩, Value.string ⟨#[110, 101, 120, 116]⟩]) (.int .i64 7)).run Try.prog w = .ok (.string ⟨#[118, 111, 116, 101, 100]⟩) w := by kernel_rfl
theorem idx22_8 (w : World) : (Instr.index 151 (.agg #[Value.string ⟨#[97, 115, 107]⟩, Value.string ⟨#[115, 116, 97, 109, 112, 101, 100]⟩, Value.string ⟨#[99, 101, 114, 116, 105, 102, 121]⟩, Value.string ⟨#[97, 99, 107, 101, 100]⟩, Value.string ⟨#[99, 108, 111, 115, 101]⟩, Value.string ⟨#[99, 108, 111, 115, 101, 100]⟩, Value.string ⟨#[112, 114, 111, 112, 111, 115, 101]⟩, Value.string ⟨#[118, 111, 116, 101, 100]⟩, Value.string ⟨#[110, 101, 120, 116]⟩]) (.int .i64 8)).run Try.prog w = .ok (.string ⟨#[110, 101, 120, 116]⟩) w := by kernel_rfl
set_option maxRecDepth 100000 in
set_option maxHeartbeats 2000000 in
theorem word_calls (k : Int) (w : World) : Calls Try.prog 21 #[.int .i64 k] w fun e w' => e = .returned (.string ⟨(wordM k).toArray⟩) ∧ w = w' := by
  by_cases hin : 1 ≤ k ∧ k ≤ 9
  · have hw := within22_calls k 1 9
    rw [show inM k 1 9 = true from decide_eq_true hin] at hw
    have HW := Lib.hid hw
    clear hw
    have hk : k = 1 ∨ k = 2 ∨ k = 3 ∨ k = 4 ∨ k = 5 ∨ k = 6 ∨ k = 7 ∨ k = 8 ∨ k = 9 := by omega
    rcases hk with rfl | rfl | rfl | rfl | rfl | rfl | rfl | rfl | rfl
    · have hi := idx22_0
      go_enter Try.func21, Try.ntmps21
      go_wp2_with fail
      refine (HW.out _).mono ?_
      rintro e w1 ⟨rfl, rfl⟩
      go_wp2
      go_ret
      exact ⟨rfl, rfl⟩
    · have hi := idx22_1
      go_enter Try.func21, Try.ntmps21
      go_wp2_with fail
      refine (HW.out _).mono ?_
      rintro e w1 ⟨rfl, rfl⟩
      go_wp2
      go_ret
      exact ⟨rfl, rfl⟩
    · have hi := idx22_2
      go_enter Try.func21, Try.ntmps21
      go_wp2_with fail
      refine (HW.out _).mono ?_
      rintro e w1 ⟨rfl, rfl⟩
      go_wp2
      go_ret
      exact ⟨rfl, rfl⟩
    · have hi := idx22_3
      go_enter Try.func21, Try.ntmps21
      go_wp2_with fail
      refine (HW.out _).mono ?_
      rintro e w1 ⟨rfl, rfl⟩
      go_wp2
      go_ret
      exact ⟨rfl, rfl⟩
    · have hi := idx22_4
      go_enter Try.func21, Try.ntmps21
      go_wp2_with fail
      refine (HW.out _).mono ?_
      rintro e w1 ⟨rfl, rfl⟩
      go_wp2
      go_ret
      exact ⟨rfl, rfl⟩
    · have hi := idx22_5
      go_enter Try.func21, Try.ntmps21
      go_wp2_with fail
      refine (HW.out _).mono ?_
      rintro e w1 ⟨rfl, rfl⟩
      go_wp2
      go_ret
      exact ⟨rfl, rfl⟩
    · have hi := idx22_6
      go_enter Try.func21, Try.ntmps21
      go_wp2_with fail
      refine (HW.out _).mono ?_
      rintro e w1 ⟨rfl, rfl⟩
      go_wp2
      go_ret
      exact ⟨rfl, rfl⟩
    · have hi := idx22_7
      go_enter Try.func21, Try.ntmps21
      go_wp2_with fail
      refine (HW.out _).mono ?_
      rintro e w1 ⟨rfl, rfl⟩
      go_wp2
      go_ret
      exact ⟨rfl, rfl⟩
    · have hi := idx22_8
      go_enter Try.func21, Try.ntmps21
      go_wp2_with fail
      refine (HW.out _).mono ?_
      rintro e w1 ⟨rfl, rfl⟩
      go_wp2
      go_ret
      exact ⟨rfl, rfl⟩
  · have hw := within22_calls k 1 9
    rw [show inM k 1 9 = false from decide_eq_false hin] at hw
    have HW := Lib.hid hw
    have he : wordM k = [] := by unfold wordM; repeat (rw [if_neg (by omega)])
    rw [he]
    clear hw he hin
    go_enter Try.func21, Try.ntmps21
    go_wp2_with fail
    refine (HW.out _).mono ?_
    rintro e w1 ⟨rfl, rfl⟩
    go_wp2
    go_ret
    exact ⟨rfl, rfl⟩

/-- What is wrong with a message. -/
def codeM (k f t n : Int) (l : Nat) : Nat := if inM k 1 9 && (inM f 0 n && inM t 0 n) then (if 256 < l then 4 else 0) else 1
set_option maxRecDepth 100000 in
set_option maxHeartbeats 2000000 in
theorem check22_calls (k f t c n x y a lo hi : Int) (A : Option Addr) (l d : Nat) (m : Int) (w : World) : Calls Try.prog 13 #[.agg (mL k f t c n x y a lo hi (.slice A l d)).toArray, .int .i64 m] w fun e w' => e = .returned (.int .i64 (codeM k f t m l : Nat)) ∧ Ext w w' := by
  have HE := Lib.hid (show Ext w (w.alloc (.cells ((mL k f t c n x y a lo hi (.slice A l d))).toArray 83)) from (Ext.rfl' w).alloc _)
  have HK := Lib.hid (show ∀ W, Ext (w.alloc (.cells ((mL k f t c n x y a lo hi (.slice A l d))).toArray 83)) W → Blk W w.heap.size 83 (mL k f t c n x y a lo hi (.slice A l d)) from fun W hx => (Blk.new w 83 (mL k f t c n x y a lo hi (.slice A l d))).ext hx)
  have hcs : (inM k 1 9 = false ∧ codeM k f t m l = 1) ∨ (inM k 1 9 = true ∧ inM f 0 m = false ∧ codeM k f t m l = 1) ∨ (inM k 1 9 = true ∧ inM f 0 m = true ∧ inM t 0 m = false ∧ codeM k f t m l = 1) ∨
      (inM k 1 9 = true ∧ inM f 0 m = true ∧ inM t 0 m = true ∧ decide ((256 : Int) < (l : Int)) = true ∧ codeM k f t m l = 4) ∨ (inM k 1 9 = true ∧ inM f 0 m = true ∧ inM t 0 m = true ∧ decide ((256 : Int) < (l : Int)) = false ∧ codeM k f t m l = 0) := by
    unfold codeM
    by_cases hl : 256 < l
    · have : decide ((256 : Int) < (l : Int)) = true := decide_eq_true (by omega)
      rw [this]
      cases inM k 1 9 <;> cases inM f 0 m <;> cases inM t 0 m <;> simp [hl]
    · have : decide ((256 : Int) < (l : Int)) = false := decide_eq_false (by omega)
      rw [this]
      cases inM k 1 9 <;> cases inM f 0 m <;> cases inM t 0 m <;> simp [hl]
  have HW1 := Lib.hid (within22_calls k 1 9)
  have HW2 := Lib.hid (within22_calls f 0 m)
  have HW3 := Lib.hid (within22_calls t 0 m)
  generalize codeM k f t m l = C at *
  generalize inM k 1 9 = K1 at *
  generalize inM f 0 m = K2 at *
  generalize inM t 0 m = K3 at *
  rcases hcs with ⟨rfl, rfl⟩ | ⟨rfl, rfl, rfl⟩ | ⟨rfl, rfl, rfl, rfl⟩ | ⟨rfl, rfl, rfl, h4, rfl⟩ | ⟨rfl, rfl, rfl, h4, rfl⟩
  · have a0 : (w.alloc (.cells ((mL k f t c n x y a lo hi (.slice A l d))).toArray 83)).cell? ⟨w.heap.size, 0, none⟩ = some (.int .i64 k) := (HK.out _ (Ext.rfl' _)).cell rfl
    have a1 : (w.alloc (.cells ((mL k f t c n x y a lo hi (.slice A l d))).toArray 83)).cell? ⟨w.heap.size, 1, none⟩ = some (.int .i64 f) := (HK.out _ (Ext.rfl' _)).cell rfl
    have a2 : (w.alloc (.cells ((mL k f t c n x y a lo hi (.slice A l d))).toArray 83)).cell? ⟨w.heap.size, 2, none⟩ = some (.int .i64 t) := (HK.out _ (Ext.rfl' _)).cell rfl
    have a146 : (w.alloc (.cells ((mL k f t c n x y a lo hi (.slice A l d))).toArray 83)).cell? ⟨w.heap.size, 146, none⟩ = some (.slice A l d) := (HK.out _ (Ext.rfl' _)).cell rfl
    go_enter Try.func13, Try.ntmps13
    go_wp2_with fail
    refine (HW1.out _).mono ?_
    rintro e w0 ⟨rfl, rfl⟩
    go_wp2
    go_ret
    exact ⟨rfl, HE.out⟩
  · have a0 : (w.alloc (.cells ((mL k f t c n x y a lo hi (.slice A l d))).toArray 83)).cell? ⟨w.heap.size, 0, none⟩ = some (.int .i64 k) := (HK.out _ (Ext.rfl' _)).cell rfl
    have a1 : (w.alloc (.cells ((mL k f t c n x y a lo hi (.slice A l d))).toArray 83)).cell? ⟨w.heap.size, 1, none⟩ = some (.int .i64 f) := (HK.out _ (Ext.rfl' _)).cell rfl
    have a2 : (w.alloc (.cells ((mL k f t c n x y a lo hi (.slice A l d))).toArray 83)).cell? ⟨w.heap.size, 2, none⟩ = some (.int .i64 t) := (HK.out _ (Ext.rfl' _)).cell rfl
    have a146 : (w.alloc (.cells ((mL k f t c n x y a lo hi (.slice A l d))).toArray 83)).cell? ⟨w.heap.size, 146, none⟩ = some (.slice A l d) := (HK.out _ (Ext.rfl' _)).cell rfl
    go_enter Try.func13, Try.ntmps13
    go_wp2_with fail
    refine (HW1.out _).mono ?_
    rintro e w0 ⟨rfl, rfl⟩
    go_wp2_with fail
    refine (HW2.out _).mono ?_
    rintro e w1 ⟨rfl, rfl⟩
    go_wp2
    go_ret
    exact ⟨rfl, HE.out⟩
  · have a0 : (w.alloc (.cells ((mL k f t c n x y a lo hi (.slice A l d))).toArray 83)).cell? ⟨w.heap.size, 0, none⟩ = some (.int .i64 k) := (HK.out _ (Ext.rfl' _)).cell rfl
    have a1 : (w.alloc (.cells ((mL k f t c n x y a lo hi (.slice A l d))).toArray 83)).cell? ⟨w.heap.size, 1, none⟩ = some (.int .i64 f) := (HK.out _ (Ext.rfl' _)).cell rfl
    have a2 : (w.alloc (.cells ((mL k f t c n x y a lo hi (.slice A l d))).toArray 83)).cell? ⟨w.heap.size, 2, none⟩ = some (.int .i64 t) := (HK.out _ (Ext.rfl' _)).cell rfl
    have a146 : (w.alloc (.cells ((mL k f t c n x y a lo hi (.slice A l d))).toArray 83)).cell? ⟨w.heap.size, 146, none⟩ = some (.slice A l d) := (HK.out _ (Ext.rfl' _)).cell rfl
    go_enter Try.func13, Try.ntmps13
    go_wp2_with fail
    refine (HW1.out _).mono ?_
    rintro e w0 ⟨rfl, rfl⟩
    go_wp2_with fail
    refine (HW2.out _).mono ?_
    rintro e w1 ⟨rfl, rfl⟩
    go_wp2_with fail
    refine (HW3.out _).mono ?_
    rintro e w2 ⟨rfl, rfl⟩
    go_wp2
    go_ret
    exact ⟨rfl, HE.out⟩
  · have a0 : (w.alloc (.cells ((mL k f t c n x y a lo hi (.slice A l d))).toArray 83)).cell? ⟨w.heap.size, 0, none⟩ = some (.int .i64 k) := (HK.out _ (Ext.rfl' _)).cell rfl
    have a1 : (w.alloc (.cells ((mL k f t c n x y a lo hi (.slice A l d))).toArray 83)).cell? ⟨w.heap.size, 1, none⟩ = some (.int .i64 f) := (HK.out _ (Ext.rfl' _)).cell rfl
    have a2 : (w.alloc (.cells ((mL k f t c n x y a lo hi (.slice A l d))).toArray 83)).cell? ⟨w.heap.size, 2, none⟩ = some (.int .i64 t) := (HK.out _ (Ext.rfl' _)).cell rfl
    have a146 : (w.alloc (.cells ((mL k f t c n x y a lo hi (.slice A l d))).toArray 83)).cell? ⟨w.heap.size, 146, none⟩ = some (.slice A l d) := (HK.out _ (Ext.rfl' _)).cell rfl
    go_enter Try.func13, Try.ntmps13
    go_wp2_with fail
    refine (HW1.out _).mono ?_
    rintro e w0 ⟨rfl, rfl⟩
    go_wp2_with fail
    refine (HW2.out _).mono ?_
    rintro e w1 ⟨rfl, rfl⟩
    go_wp2_with fail
    refine (HW3.out _).mono ?_
    rintro e w2 ⟨rfl, rfl⟩
    go_wp2
    go_ret
    exact ⟨rfl, HE.out⟩
  · have a0 : (w.alloc (.cells ((mL k f t c n x y a lo hi (.slice A l d))).toArray 83)).cell? ⟨w.heap.size, 0, none⟩ = some (.int .i64 k) := (HK.out _ (Ext.rfl' _)).cell rfl
    have a1 : (w.alloc (.cells ((mL k f t c n x y a lo hi (.slice A l d))).toArray 83)).cell? ⟨w.heap.size, 1, none⟩ = some (.int .i64 f) := (HK.out _ (Ext.rfl' _)).cell rfl
    have a2 : (w.alloc (.cells ((mL k f t c n x y a lo hi (.slice A l d))).toArray 83)).cell? ⟨w.heap.size, 2, none⟩ = some (.int .i64 t) := (HK.out _ (Ext.rfl' _)).cell rfl
    have a146 : (w.alloc (.cells ((mL k f t c n x y a lo hi (.slice A l d))).toArray 83)).cell? ⟨w.heap.size, 146, none⟩ = some (.slice A l d) := (HK.out _ (Ext.rfl' _)).cell rfl
    go_enter Try.func13, Try.ntmps13
    go_wp2_with fail
    refine (HW1.out _).mono ?_
    rintro e w0 ⟨rfl, rfl⟩
    go_wp2_with fail
    refine (HW2.out _).mono ?_
    rintro e w1 ⟨rfl, rfl⟩
    go_wp2_with fail
    refine (HW3.out _).mono ?_
    rintro e w2 ⟨rfl, rfl⟩
    go_wp2
    go_ret
    exact ⟨rfl, HE.out⟩
end Go.Proofs.Ytifanmggfoicfaa
