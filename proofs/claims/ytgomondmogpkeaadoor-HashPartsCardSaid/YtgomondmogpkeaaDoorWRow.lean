/- The walks of hash.row at bytes and at digests: mixed one by one. -/
import Derived.Test.YtgomondmogpkeaaDoorWMix
namespace Go.Proofs.YtgomondmogpkeaaDoor
open Go.RowKit
theorem mix_cast (h n : Nat) : S.mix (h : Int) (n : Int) = ((S.mixN h n : Nat) : Int) := by
  show ((S.mixN (h : Int).toNat (n : Int).toNat : Nat) : Int) = _
  have e : ∀ m : Nat, (m : Int).toNat = m := fun m => Int.toNat_natCast m
  simp only [e]
theorem mixN_calls (a b : Nat) (ha : a < 18446744073709551616) (hb : b < 18446744073709551616) (w : World) :
    Calls Tryd.prog 16 #[.int .u64 (a : Int), .int .u64 (b : Int)] w fun e w' => e = .returned (cU64 (S.mixN a b)) ∧ w = w' := by
  refine (mix_calls (a : Int) (b : Int) (by omega) (by omega) (by omega) w).mono ?_
  rintro e w' ⟨rfl, rfl⟩
  exact ⟨by rw [mix_cast], rfl⟩
theorem fold_snoc (h : Nat) (l : List Nat) (k : Nat) (hk : k < l.length) : (l.take (k + 1)).foldl S.mixN h = S.mixN ((l.take k).foldl S.mixN h) l[k] := by
  rw [List.take_succ_eq_append_getElem hk, List.foldl_append, List.foldl_cons, List.foldl_nil]
theorem fold_lt (l : List Nat) : ∀ h : Nat, h < 18446744073709551616 → l.foldl S.mixN h < 18446744073709551616 := by
  induction l with
  | nil => intro h hh; exact hh
  | cons x l ih => intro h _; exact ih _ (S.mixN_lt _ _)
set_option maxHeartbeats 400000 in
theorem rowB_calls (h : Nat) (hh : h < 18446744073709551616) (l : List UInt8) (A : Option Addr) (c : Nat) (w : World) (hA : Rd w A (l.map cU8)) (hl : l.length ≤ 9223372036854775807) :
    Calls Tryd.prog 26 #[.int .u64 (h : Int), .slice A l.length c] w fun e w' => e = .returned (.int .u64 (((l.map UInt8.toNat).foldl S.mixN h : Nat) : Int)) ∧ w = w' := by
  have HA := Lib.hid hA
  clear hA
  go_enter Tryd.func26, Tryd.ntmps26
  go_wp2
  go_loop [0, 9] (fun x i => ∃ k : Nat, k ≤ l.length ∧ x = .int .u64 ((((l.map UInt8.toNat).take k).foldl S.mixN h : Nat) : Int) ∧ i = .int .i64 k) (fun _ i => l.length - (intOf i).toNat)
  case atStart => exact ⟨0, by omega, rfl, rfl⟩
  case round =>
    obtain ⟨k, hk, rfl, rfl⟩ := hrel
    by_cases hlt : k < l.length
    · obtain ⟨ad, rfl, _, hc⟩ := HA.out.at_ (j := k) (u := cU8 l[k]) (by simp [hlt])
      have hs := fold_snoc h (l.map UInt8.toNat) k (by simpa using hlt)
      have hx := fold_lt ((l.map UInt8.toNat).take k) h hh
      generalize hF : ((l.map UInt8.toNat).take k).foldl S.mixN h = F at *
      have hb : (l[k].toNat : Int) < 256 := by have := l[k].toNat_lt; omega
      have HS := Lib.hid hs
      clear hs hF
      go_wp2_with (go_at_call 16; refine (mix_calls _ _ (by omega) (by omega) (by omega) _).mono ?_; rintro e w' ⟨rfl, rfl⟩)
      go_round
      case rel => exact ⟨k + 1, by omega, by rw [HS.out, ← mix_cast]; simp, by go_num⟩
      case measure => simp [intOf]; omega
    · obtain rfl : k = l.length := by omega
      go_wp2
      go_ret
      exact ⟨ret_int (by first | rfl | rw [List.take_of_length_le (by simp)]), rfl⟩
set_option maxHeartbeats 400000 in
theorem rowD_calls (h : Nat) (hh : h < 18446744073709551616) (l : List Nat) (hl' : ∀ x ∈ l, x < 18446744073709551616) (A : Option Addr) (c : Nat) (w : World) (hA : Rd w A (l.map cU64)) (hl : l.length ≤ 9223372036854775807) :
    Calls Tryd.prog 27 #[.int .u64 (h : Int), .slice A l.length c] w fun e w' => e = .returned (.int .u64 ((l.foldl S.mixN h : Nat) : Int)) ∧ w = w' := by
  have HA := Lib.hid hA
  clear hA
  go_enter Tryd.func27, Tryd.ntmps27
  go_wp2
  go_loop [0, 9] (fun x i => ∃ k : Nat, k ≤ l.length ∧ x = .int .u64 (((l.take k).foldl S.mixN h : Nat) : Int) ∧ i = .int .i64 k) (fun _ i => l.length - (intOf i).toNat)
  case atStart => exact ⟨0, by omega, rfl, rfl⟩
  case round =>
    obtain ⟨k, hk, rfl, rfl⟩ := hrel
    by_cases hlt : k < l.length
    · obtain ⟨ad, rfl, _, hc⟩ := HA.out.at_ (j := k) (u := cU64 l[k]) (by simp [hlt])
      have hs := fold_snoc h l k (by simpa using hlt)
      have hx := fold_lt (l.take k) h hh
      generalize hF : (l.take k).foldl S.mixN h = F at *
      have hb := hl' l[k] (by simp)
      have HS := Lib.hid hs
      clear hs hF
      go_wp2_with (go_at_call 16; refine (mix_calls _ _ (by omega) (by omega) (by omega) _).mono ?_; rintro e w' ⟨rfl, rfl⟩)
      go_round
      case rel => exact ⟨k + 1, by omega, by rw [HS.out, ← mix_cast], by go_num⟩
      case measure => simp [intOf]; omega
    · obtain rfl : k = l.length := by omega
      go_wp2
      go_ret
      exact ⟨ret_int (by first | rfl | rw [List.take_of_length_le (by simp)]), rfl⟩
end Go.Proofs.YtgomondmogpkeaaDoor
