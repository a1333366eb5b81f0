/- The walk of hash.Mix: it returns what S.mix reckons. -/
import Derived.Test.YthjldedjllkeeaaGreatDoorProg
import Derived.Test.YthjldedjllkeeaaGreatDoorSpecH
import Derived.Test.YthjldedjllkeeaaGreatDoorCore
import Derived.WalkKit
import Derived.Deep.Draws
import Derived.Laws.Bits64
namespace Go.Proofs.YthjldedjllkeeaaGreatDoor
open Go.RowKit

/-- What the loop's variable holds behind k rounds. -/
def mixAt (a b : Int) : Nat → Nat
  | 0 => a.toNat ^^^ (b.toNat * 11400714819323198485 % S.M64)
  | k + 1 => S.xs (mixAt a b k) * 15485907386658061715 % S.M64
theorem mixAt_lt (a b : Int) (ha' : a < 18446744073709551616) (ha : 0 ≤ a) : ∀ k, mixAt a b k < 18446744073709551616
  | 0 => by
    have h1 : a.toNat < 2 ^ 64 := by omega
    have h2 : b.toNat * 11400714819323198485 % S.M64 < 2 ^ 64 := S.mod_lt _
    exact Nat.xor_lt_two_pow h1 h2
  | _ + 1 => S.mod_lt _
theorem mixAt_start (a b : Int) (ha : 0 ≤ a) (ha' : a < 18446744073709551616) (hb : 0 ≤ b) :
    bits BinOp.xor IntKind.u64 a (IntKind.u64.wrap (b * 11400714819323198485)) = ((mixAt a b 0 : Nat) : Int) := by
  have e1 : IntKind.u64.wrap (b * 11400714819323198485) = ((b.toNat * 11400714819323198485 % S.M64 : Nat) : Int) := by
    rw [IntKind.wrap_u64]
    simp only [S.M64]
    omega
  have e2 : a = ((a.toNat : Nat) : Int) := by omega
  rw [e1]
  conv => lhs; rw [e2]
  rw [bits_xor_u64_nat _ _ (by omega) (by have := S.mod_lt (b.toNat * 11400714819323198485); unfold S.M64 at this; exact this)]
  rfl
theorem mixAt_step (a b : Int) (ha : 0 ≤ a) (ha' : a < 18446744073709551616) (k : Nat) :
    IntKind.u64.wrap (bits BinOp.xor IntKind.u64 ((mixAt a b k : Nat) : Int) (((mixAt a b k : Nat) : Int) / 4294967296) * 15485907386658061715) = ((mixAt a b (k + 1) : Nat) : Int) := by
  have h := xorShift_u64 (mixAt a b k) 4294967296 (mixAt_lt a b ha' ha k)
  have h2 : bits BinOp.xor IntKind.u64 ((mixAt a b k : Nat) : Int) (((mixAt a b k : Nat) : Int) / 4294967296) = ((S.xs (mixAt a b k) : Nat) : Int) := h
  rw [h2]
  show _ = ((S.xs (mixAt a b k) * 15485907386658061715 % S.M64 : Nat) : Int)
  rw [IntKind.wrap_u64]
  simp only [S.M64, Int.natCast_emod, Int.natCast_mul]
  rfl
theorem mixAt_end (a b : Int) (ha : 0 ≤ a) (ha' : a < 18446744073709551616) :
    bits BinOp.xor IntKind.u64 ((mixAt a b 2 : Nat) : Int) (((mixAt a b 2 : Nat) : Int) / 4294967296) = S.mix a b := by
  unfold S.mix
  rw [S.mixN_eq]
  exact xorShift_u64 (mixAt a b 2) 4294967296 (mixAt_lt a b ha' ha 2)
set_option maxHeartbeats 400000 in
theorem mix_calls (a b : Int) (ha : 0 ≤ a) (ha' : a < 18446744073709551616) (hb : 0 ≤ b) (w : World) :
    Calls Tryz.prog 142 #[.int .u64 a, .int .u64 b] w fun e w' => e = .returned (.int .u64 (S.mix a b)) ∧ w = w' := by
  have h0 := mixAt_start a b ha ha' hb
  go_enter Tryz.func142, Tryz.ntmps142
  go_wp2
  go_loop [5, 10] (fun x i => ∃ k : Nat, k ≤ 2 ∧ x = .int .u64 ((mixAt a b k : Nat) : Int) ∧ i = .int .i64 k) (fun _ i => 2 - (intOf i).toNat)
  case atStart => exact ⟨0, by omega, rfl, rfl⟩
  case round =>
    obtain ⟨k, hk, rfl, rfl⟩ := hrel
    have hs := mixAt_step a b ha ha' k
    by_cases hlt : k < 2
    · go_wp2
      go_round
      case rel => exact ⟨k + 1, by omega, rfl, by go_num⟩
      case measure => simp [intOf]; omega
    · obtain rfl : k = 2 := by omega
      have he := mixAt_end a b ha ha'
      go_wp2
      go_ret
      exact ⟨rfl, rfl⟩
end Go.Proofs.YthjldedjllkeeaaGreatDoor
