/- The walk of hash.row at digests, above the fields' walks. -/
import Derived.Test.YthjldedjllkeeaaGreatDoorHash
set_option linter.unusedVariables false
namespace Go.Proofs.YthjldedjllkeeaaGreatDoor
open Go.RowKit
set_option maxHeartbeats 400000 in
theorem rowD_calls (h : Nat) (hh : h < 18446744073709551616) (l : List Nat) (hl' : ∀ x ∈ l, x < 18446744073709551616) (A : Option Addr) (c : Nat) (w : World) (hA : Rd w A (l.map cU64)) (hl : l.length ≤ 9223372036854775807) :
    Calls Tryz.prog 143 #[.int .u64 (h : Int), .slice A l.length c] w fun e w' => e = .returned (.int .u64 ((l.foldl S.mixN h : Nat) : Int)) ∧ w = w' := by
  have HA := Lib.hid hA
  clear hA
  go_enter Tryz.func143, Tryz.ntmps143
  go_wp2
  go_loop [0, 9] (fun x i => ∃ k : Nat, k ≤ l.length ∧ x = .int .u64 (((l.take k).foldl S.mixN h : Nat) : Int) ∧ i = .int .i64 k) (fun _ i => l.length - (intOf i).toNat)
  case atStart => exact ⟨0, by omega, rfl, rfl⟩
  case round =>
    obtain ⟨k, hk, rfl, rfl⟩ := hrel
    by_cases hlt : k < l.length
    · obtain ⟨ad, rfl, _, hc⟩ := HA.out.at_ (j := k) (u := cU64 l[k]) (by simp [hlt])
      have hs := fold_snoc h l k (by simpa using hlt)
      have hx := fold_lt (l.take k) h hh
      generalize hF : (l.take k).foldl S.mixN h = F at *
      have hb := hl' l[k] (by simp)
      have HS := Lib.hid hs
      clear hs hF
      go_wp2_with (go_at_call 142; refine (mix_calls _ _ (by omega) (by omega) (by omega) _).mono ?_; rintro e w' ⟨rfl, rfl⟩)
      go_round
      case rel => exact ⟨k + 1, by omega, by rw [HS.out, ← mix_cast], by go_num⟩
      case measure => simp [intOf]; omega
    · obtain rfl : k = l.length := by omega
      go_wp2
      go_ret
      exact ⟨ret_int (by first | rfl | rw [List.take_of_length_le (by simp)]), rfl⟩
end Go.Proofs.YthjldedjllkeeaaGreatDoor
