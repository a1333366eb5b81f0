/- The walks of hash.Two and hash.Chain. -/
import Derived.Test.YthjldedjllkeeaaGreatDoorWSum
namespace Go.Proofs.YthjldedjllkeeaaGreatDoor
open Go.RowKit
theorem fold_two1 (f : Nat → Nat → Nat) (h a b : Nat) : [a, b].foldl f h = f (f h a) b := rfl
theorem fold_two (h a b : Nat) : [a, b].foldl S.mixN h = S.mixN (S.mixN h a) b := fold_two1 S.mixN h a b
set_option maxHeartbeats 400000 in
theorem two_calls (tag : ByteArray) (ht : tag.data.toList.length ≤ 9223372036854775807) (a b : Nat) (ha : a < 18446744073709551616) (hb : b < 18446744073709551616) (w : World) :
    Calls Tryz.prog 97 #[.string tag, .int .u64 (a : Int), .int .u64 (b : Int)] w fun e w' => e = .returned (cU64 (S.twoN tag.data.toList a b)) ∧ Ext w w' := by
  go_enter Tryz.func97, Tryz.ntmps97
  go_wp2_with fail
  refine (sum_calls tag ht [] none 0 _ (Rd.nil _ _) (by decide)).mono ?_
  rintro e w' ⟨rfl, hx⟩
  have HX := Lib.hid hx
  clear hx
  go_wp2_with fail
  refine (rowD_calls _ (S.sumN_lt _ _) [a, b] (by simp; omega) _ 2 _ (Rd.fresh w' [cU64 a, cU64 b] 34 (0, 0)) (by simp)).mono ?_
  rintro e w2 ⟨rfl, rfl⟩
  have HY := Lib.hid (HX.out.alloc (.cells #[.int .u64 (a : Int), .int .u64 (b : Int)] 34))
  go_wp2
  go_ret
  refine ⟨?_, HY.out⟩
  rw [S.twoN]
  rfl
theorem chainN_go (h x k : Nat) : S.chainN h x (k + 1) = S.mixN h (S.chainN h x k) := by rw [S.chainN]
/-- How many steps a chain goes. -/
def steps (n : Int) : Nat := if n < 0 then 0 else if 255 < n then 255 else n.toNat
set_option maxHeartbeats 400000 in
theorem chain_mid (tag : ByteArray) (ht : tag.data.toList.length ≤ 9223372036854775807) (x : Nat) (hx : x < 18446744073709551616) (m : Nat) (hm : m ≤ 255) (w : World) :
    Calls Tryz.prog 94 #[.string tag, .int .u64 (x : Int), .int .i64 (m : Int)] w fun e w' => e = .returned (cU64 (S.chainN (S.sumN tag.data.toList []) x m)) ∧ Ext w w' := by
    go_enter Tryz.func94, Tryz.ntmps94
    go_wp2_with fail
    refine (sum_calls tag ht [] none 0 _ (Rd.nil _ _) (by decide)).mono ?_
    rintro e w' ⟨rfl, hx'⟩
    have HX := Lib.hid hx'
    clear hx'
    have hlt' : S.sumN tag.data.toList [] < 18446744073709551616 := S.sumN_lt tag.data.toList []
    go_wp2_with fail
    go_loop [1, 13] (fun v i => ∃ k : Nat, k ≤ m ∧ v = cU64 (S.chainN (S.sumN tag.data.toList []) x k) ∧ i = .int .i64 k) (fun _ i => m - (intOf i).toNat)
    case atStart => exact ⟨0, by omega, by rw [S.chainN], rfl⟩
    case round =>
      obtain ⟨k, hk, rfl, rfl⟩ := hrel
      have hc : S.chainN (S.sumN tag.data.toList []) x k < 18446744073709551616 := S.chainN_lt _ x hx k
      by_cases hlt : k < m
      · go_wp2_with (go_at_call 142; refine (mixN_calls _ (S.chainN (S.sumN tag.data.toList []) x k) hlt' hc _).mono ?_; rintro e w'' ⟨rfl, rfl⟩)
        go_round
        case rel => exact ⟨k + 1, by omega, by rw [chainN_go], by go_num⟩
        case measure => simp [intOf]; omega
      · obtain rfl : k = m := by omega
        go_wp2
        go_ret
        exact ⟨rfl, HX.out⟩
set_option maxHeartbeats 400000 in
theorem chain_low (tag : ByteArray) (ht : tag.data.toList.length ≤ 9223372036854775807) (x : Nat) (n : Int) (hn : n < 0) (w : World) :
    Calls Tryz.prog 94 #[.string tag, .int .u64 (x : Int), .int .i64 n] w fun e w' => e = .returned (cU64 x) ∧ Ext w w' := by
    go_enter Tryz.func94, Tryz.ntmps94
    go_wp2_with fail
    refine (sum_calls tag ht [] none 0 _ (Rd.nil _ _) (by decide)).mono ?_
    rintro e w' ⟨rfl, hx'⟩
    have HX := Lib.hid hx'
    clear hx'
    have hlt' : S.sumN tag.data.toList [] < 18446744073709551616 := S.sumN_lt tag.data.toList []
    go_wp2_with fail
    go_rounds 1
    go_ret
    exact ⟨rfl, HX.out⟩
set_option maxHeartbeats 400000 in
set_option maxRecDepth 100000 in
theorem chain_high (tag : ByteArray) (ht : tag.data.toList.length ≤ 9223372036854775807) (x : Nat) (hx : x < 18446744073709551616) (n : Int) (hn : 255 < n) (w : World) :
    Calls Tryz.prog 94 #[.string tag, .int .u64 (x : Int), .int .i64 n] w fun e w' => e = .returned (cU64 (S.chainN (S.sumN tag.data.toList []) x 255)) ∧ Ext w w' := by
    go_enter Tryz.func94, Tryz.ntmps94
    go_wp2_with fail
    refine (sum_calls tag ht [] none 0 _ (Rd.nil _ _) (by decide)).mono ?_
    rintro e w' ⟨rfl, hx'⟩
    have HX := Lib.hid hx'
    clear hx'
    have hlt' : S.sumN tag.data.toList [] < 18446744073709551616 := S.sumN_lt tag.data.toList []
    go_wp2_with fail
    go_loop [1, 13] (fun v i => ∃ k : Nat, k ≤ 255 ∧ v = cU64 (S.chainN (S.sumN tag.data.toList []) x k) ∧ i = .int .i64 k) (fun _ i => 255 - (intOf i).toNat)
    case atStart => exact ⟨0, by omega, by rw [S.chainN], rfl⟩
    case round =>
      obtain ⟨k, hk, rfl, rfl⟩ := hrel
      have hc : S.chainN (S.sumN tag.data.toList []) x k < 18446744073709551616 := S.chainN_lt _ x hx k
      by_cases hlt : k < 255
      · go_wp2_with (go_at_call 142; refine (mixN_calls _ (S.chainN (S.sumN tag.data.toList []) x k) hlt' hc _).mono ?_; rintro e w'' ⟨rfl, rfl⟩)
        go_round
        case rel => exact ⟨k + 1, by omega, by rw [chainN_go], by go_num⟩
        case measure => simp [intOf]; omega
      · obtain rfl : k = 255 := by omega
        go_wp2
        go_ret
        exact ⟨rfl, HX.out⟩
theorem chain_calls (tag : ByteArray) (ht : tag.data.toList.length ≤ 9223372036854775807) (x : Nat) (hx : x < 18446744073709551616) (n : Int) (w : World) :
    Calls Tryz.prog 94 #[.string tag, .int .u64 (x : Int), .int .i64 n] w fun e w' => e = .returned (cU64 (S.chainN (S.sumN tag.data.toList []) x (steps n))) ∧ Ext w w' := by
  unfold steps
  by_cases h1 : n < 0
  · rw [if_pos h1, S.chainN]
    exact chain_low tag ht x n h1 w
  · rw [if_neg h1]
    by_cases h2 : 255 < n
    · rw [if_pos h2]
      exact chain_high tag ht x hx n h2 w
    · rw [if_neg h2]
      have h := chain_mid tag ht x hx n.toNat (by omega) w
      rwa [show ((n.toNat : Nat) : Int) = n from by omega] at h
end Go.Proofs.YthjldedjllkeeaaGreatDoor
