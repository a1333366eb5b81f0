/- The walks of the reference's Two, Chain, Of. -/
import Derived.Test.YtgomondmogpkeaaDoorWRef
namespace Go.Proofs.YtgomondmogpkeaaDoor
open Go.RowKit
set_option maxHeartbeats 400000 in
theorem rtwo_calls (tag : ByteArray) (ht : tag.size ≤ 9223372036854775807) (a b : Nat) (ha : a < 18446744073709551616) (hb : b < 18446744073709551616) (w : World) :
    Calls Tryd.prog 21 #[.string tag, .int .u64 (a : Int), .int .u64 (b : Int)] w fun e w' => e = .returned (cU64 (S.twoN tag.data.toList a b)) ∧ w = w' := by
  have hs : S.sumN tag.data.toList [] < 18446744073709551616 := S.sumN_lt _ _
  go_enter Tryd.func21, Tryd.ntmps21
  go_wp2_with fail
  refine (rsum_calls tag ht [] none 0 _ (Rd.nil _ _) (by decide)).mono ?_
  rintro e w' ⟨rfl, rfl⟩
  go_wp2_with fail
  refine (rmix_calls _ a hs ha _).mono ?_
  rintro e w' ⟨rfl, rfl⟩
  go_wp2_with fail
  refine (rmix_calls _ b (S.mixN_lt _ _) hb _).mono ?_
  rintro e w' ⟨rfl, rfl⟩
  go_wp2
  go_ret
  exact ⟨by rw [S.twoN]; rfl, rfl⟩
set_option maxHeartbeats 400000 in
theorem rof_calls (tag s : ByteArray) (ht : tag.size ≤ 9223372036854775807) (hs : s.data.toList.length ≤ 9223372036854775807) (w : World) :
    Calls Tryd.prog 15 #[.string tag, .string s] w fun e w' => e = .returned (cU64 (S.sumN tag.data.toList s.data.toList)) ∧ Ext w w' := by
  obtain ⟨w1, A1, c1, hcv, hx, hr⟩ := run_bytes w s
  have HR := Lib.hid hr
  clear hr
  have HX := Lib.hid hx
  clear hx
  go_enter Tryd.func15, Tryd.ntmps15
  go_wp2_with fail
  refine (rsum_calls tag ht s.data.toList A1 c1 _ HR.out hs).mono ?_
  rintro e w' ⟨rfl, rfl⟩
  go_wp2
  go_ret
  exact ⟨rfl, HX.out⟩
/-- How many steps the reference's chain goes: those up to 255. -/
theorem steps_ref (n : Int) (h : n ≤ 255) : steps n = n.toNat := by
  unfold steps
  by_cases h1 : n < 0
  · rw [if_pos h1]; omega
  · rw [if_neg h1, if_neg (by omega)]
set_option maxHeartbeats 400000 in
theorem rchain_mid (tag : ByteArray) (ht : tag.size ≤ 9223372036854775807) (x : Nat) (hx : x < 18446744073709551616) (n : Int) (hn : n ≤ 255) (w : World) :
    Calls Tryd.prog 22 #[.string tag, .int .u64 (x : Int), .int .i64 n] w fun e w' => e = .returned (cU64 (S.chainN (S.sumN tag.data.toList []) x n.toNat)) ∧ w = w' := by
  have hlt' : S.sumN tag.data.toList [] < 18446744073709551616 := S.sumN_lt tag.data.toList []
  go_enter Tryd.func22, Tryd.ntmps22
  go_wp2_with fail
  refine (rsum_calls tag ht [] none 0 _ (Rd.nil _ _) (by decide)).mono ?_
  rintro e w' ⟨rfl, rfl⟩
  go_wp2_with fail
  go_loop [1, 8] (fun v i => ∃ k : Nat, k ≤ n.toNat ∧ v = cU64 (S.chainN (S.sumN tag.data.toList []) x k) ∧ i = .int .i64 k) (fun _ i => n.toNat - (intOf i).toNat)
  case atStart => exact ⟨0, by omega, by rw [S.chainN], rfl⟩
  case round =>
    obtain ⟨k, hk, rfl, rfl⟩ := hrel
    have hc : S.chainN (S.sumN tag.data.toList []) x k < 18446744073709551616 := S.chainN_lt _ x hx k
    by_cases hlt : (k : Int) < n
    · go_wp2_with (go_at_call 17; refine (rmix_calls _ (S.chainN (S.sumN tag.data.toList []) x k) hlt' hc _).mono ?_; rintro e w'' ⟨rfl, rfl⟩)
      go_round
      case rel => exact ⟨k + 1, by omega, by rw [chainN_go], by go_num⟩
      case measure => simp [intOf]; omega
    · have hk' : k = n.toNat := by omega
      have HK := Lib.hid hk'
      clear hk' hk
      go_wp2
      go_ret
      refine ⟨?_, rfl⟩
      rw [← HK.out]
      rfl
set_option maxHeartbeats 400000 in
set_option maxRecDepth 100000 in
theorem rchain_high (tag : ByteArray) (ht : tag.size ≤ 9223372036854775807) (x : Nat) (hx : x < 18446744073709551616) (n : Int) (hn : 255 < n) (w : World) :
    Calls Tryd.prog 22 #[.string tag, .int .u64 (x : Int), .int .i64 n] w fun e w' => e = .returned (cU64 (S.chainN (S.sumN tag.data.toList []) x 255)) ∧ w = w' := by
  have hlt' : S.sumN tag.data.toList [] < 18446744073709551616 := S.sumN_lt tag.data.toList []
  go_enter Tryd.func22, Tryd.ntmps22
  go_wp2_with fail
  refine (rsum_calls tag ht [] none 0 _ (Rd.nil _ _) (by decide)).mono ?_
  rintro e w' ⟨rfl, rfl⟩
  go_wp2_with fail
  go_loop [1, 8] (fun v i => ∃ k : Nat, k ≤ 255 ∧ v = cU64 (S.chainN (S.sumN tag.data.toList []) x k) ∧ i = .int .i64 k) (fun _ i => 255 - (intOf i).toNat)
  case atStart => exact ⟨0, by omega, by rw [S.chainN], rfl⟩
  case round =>
    obtain ⟨k, hk, rfl, rfl⟩ := hrel
    have hc : S.chainN (S.sumN tag.data.toList []) x k < 18446744073709551616 := S.chainN_lt _ x hx k
    by_cases hlt : k < 255
    · go_wp2_with (go_at_call 17; refine (rmix_calls _ (S.chainN (S.sumN tag.data.toList []) x k) hlt' hc _).mono ?_; rintro e w'' ⟨rfl, rfl⟩)
      go_round
      case rel => exact ⟨k + 1, by omega, by rw [chainN_go], by go_num⟩
      case measure => simp [intOf]; omega
    · obtain rfl : k = 255 := by omega
      go_wp2
      go_ret
      exact ⟨rfl, rfl⟩
theorem rchain_calls (tag : ByteArray) (ht : tag.size ≤ 9223372036854775807) (x : Nat) (hx : x < 18446744073709551616) (n : Int) (w : World) :
    Calls Tryd.prog 22 #[.string tag, .int .u64 (x : Int), .int .i64 n] w fun e w' => e = .returned (cU64 (S.chainN (S.sumN tag.data.toList []) x (steps n))) ∧ w = w' := by
  by_cases h2 : 255 < n
  · rw [show steps n = 255 from by unfold steps; rw [if_neg (by omega), if_pos h2]]
    exact rchain_high tag ht x hx n h2 w
  · rw [steps_ref n (by omega)]
    exact rchain_mid tag ht x hx n (by omega) w
end Go.Proofs.YtgomondmogpkeaaDoor
