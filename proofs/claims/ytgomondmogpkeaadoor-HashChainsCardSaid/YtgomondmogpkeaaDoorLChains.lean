/- The walk of the law HashChains. -/
import Derived.Test.YtgomondmogpkeaaDoorWKnown2
import Derived.OpenShut
namespace Go.Proofs.YtgomondmogpkeaaDoor
open Go.RowKit
theorem chainN_add (h x m : Nat) : ∀ n, S.chainN h (S.chainN h x m) n = S.chainN h x (m + n)
  | 0 => by rw [S.chainN, Nat.add_zero]
  | n + 1 => by rw [chainN_go, chainN_add h x m n, ← Nat.add_assoc, chainN_go]
theorem steps_mid {n : Int} (h1 : n ≤ 255) : steps n = n.toNat := steps_ref n h1
theorem steps_low {n : Int} (h : n ≤ 0) : steps n = 0 := by
  unfold steps
  by_cases h1 : n < 0
  · rw [if_pos h1]
  · rw [if_neg h1, if_neg (by omega)]; omega
theorem steps_high {n : Int} (h : 255 ≤ n) : steps n = 255 := by
  unfold steps
  rw [if_neg (by omega)]
  by_cases h1 : 255 < n
  · rw [if_pos h1]
  · rw [if_neg h1]; omega
theorem wrapI {a : Int} (h0 : -9223372036854775808 ≤ a) (h1 : a ≤ 9223372036854775807) : wrap64 a = a := by unfold wrap64; omega
set_option maxHeartbeats 1000000 in
set_option maxRecDepth 100000 in
theorem hashChains_walk (tag : ByteArray) (u : Nat) (hu : u < 18446744073709551616) (a b : Int) (ha0 : 0 ≤ a) (ha1 : a ≤ 255) (hb0 : 0 ≤ b) (hb1 : b ≤ 255) (w : World) (hg : Gl w) :
    Calls Tryd.prog 4 #[.string tag, .int .u64 (u : Int), .int .u8 a, .int .u8 b] w fun e w' => e = .returned (.bool true) ∧ Ext w w' := by
  have HG := Lib.hid hg
  clear hg
  by_cases hbig : 50 < tag.size
  · have hb2 : (50 : Int) < tag.size := by omega
    go_enter Tryd.func4, Tryd.ntmps4
    go_wp2_with (go_at_call 8; refine (known2_calls _ HG.out).mono ?_; rintro e w1 ⟨rfl, hx⟩; have HX1 := Lib.hid hx; clear hx)
    go_ret
    exact ⟨rfl, HX1.out⟩
  · have hb2 : (tag.size : Int) ≤ 50 := by omega
    have ht : tag.data.toList.length ≤ 9223372036854775807 := by show tag.size ≤ _; omega
    have HC := Lib.hid (fun (x : Nat) (hx : x < 18446744073709551616) (n : Int) (w : World) => chain_calls tag ht x hx n w)
    clear hbig ht
    generalize hH : S.sumN tag.data.toList [] = H at *
    clear hH
    go_enter Tryd.func4, Tryd.ntmps4
    go_wp2_with fail
    refine (known2_calls _ HG.out).mono ?_
    rintro e w1 ⟨rfl, hx⟩
    have HX1 := Lib.hid hx
    clear hx
    go_wp2_with fail
    obtain ⟨m, hm⟩ : ∃ m : Int, m = a % 128 := ⟨_, rfl⟩
    obtain ⟨n, hn⟩ : ∃ n : Int, n = b % 128 := ⟨_, rfl⟩
    have hm0 : 0 ≤ m := by omega
    have hm1 : m ≤ 127 := by omega
    have hn0 : 0 ≤ n := by omega
    have hn1 : n ≤ 127 := by omega
    try simp only [← hm, ← hn]
    clear hm hn
    have hc1 := S.chainN_lt H u hu m.toNat
    refine (HC.out u hu m _).mono ?_
    rintro e w2 ⟨rfl, hx⟩
    rw [steps_mid (by omega)]
    have HX2 := Lib.hid (HX1.out.tr hx)
    clear hx
    go_wp2_with fail
    refine (HC.out _ hc1 n _).mono ?_
    rintro e w3 ⟨rfl, hx⟩
    rw [steps_mid (by omega), chainN_add]
    have HX3 := Lib.hid (HX2.out.tr hx)
    clear hx
    go_wp2_with fail
    refine (HC.out u hu _ _).mono ?_
    rintro e w4 ⟨rfl, hx⟩
    rw [steps_mid (by omega), show (m + n).toNat = m.toNat + n.toNat from by omega]
    have HX4 := Lib.hid (HX3.out.tr hx)
    clear hx
    go_wp2_with fail
    refine (HC.out u hu _ _).mono ?_
    rintro e w5 ⟨rfl, hx⟩
    rw [steps_low (by omega), S.chainN]
    have HX5 := Lib.hid (HX4.out.tr hx)
    clear hx
    go_wp2_with fail
    refine (HC.out u hu _ _).mono ?_
    rintro e w6 ⟨rfl, hx⟩
    rw [steps_high (by omega)]
    have HX6 := Lib.hid (HX5.out.tr hx)
    clear hx
    go_wp2_with fail
    refine (HC.out u hu _ _).mono ?_
    rintro e w7 ⟨rfl, hx⟩
    rw [steps_high (by omega)]
    have HX7 := Lib.hid (HX6.out.tr hx)
    clear hx
    go_wp2
    go_ret
    exact ⟨by first | rfl | simp, HX7.out⟩
theorem hashChains_walk' (tag : ByteArray) (_wt : tag.size ≤ maxLen) (u : Int) (wu : (Lit.int .u64 u).wf = true) (a : Int) (wa : (Lit.int .u8 a).wf = true) (b : Int) (wb : (Lit.int .u8 b).wf = true) (w : World) (hg : Gl w) :
    Calls Tryd.prog 4 #[.string tag, .int .u64 u, .int .u8 a, .int .u8 b] w fun e w' => e = .returned (.bool true) ∧ Ext w w' := by
  have h0 := bounds_u64 wu
  have ha := bounds_u8 wa
  have hb := bounds_u8 wb
  have h := hashChains_walk tag u.toNat (by omega) a b ha.1 ha.2 hb.1 hb.2 w hg
  rwa [show ((u.toNat : Nat) : Int) = u from by omega] at h
end Go.Proofs.YtgomondmogpkeaaDoor
