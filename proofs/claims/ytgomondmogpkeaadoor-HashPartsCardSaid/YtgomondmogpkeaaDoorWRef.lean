/- The walks of the reference's Mix, Sum, Two, Chain, Of. -/
import Derived.Test.YtgomondmogpkeaaDoorWTwo
namespace Go.Proofs.YtgomondmogpkeaaDoor
open Go.RowKit
set_option maxHeartbeats 400000 in
theorem rmix_calls (a b : Nat) (ha : a < 18446744073709551616) (hb : b < 18446744073709551616) (w : World) :
    Calls Tryd.prog 17 #[.int .u64 (a : Int), .int .u64 (b : Int)] w fun e w' => e = .returned (cU64 (S.mixN a b)) ∧ w = w' := by
  have h0 := mixAt_start (a : Int) (b : Int) (by omega) (by omega) (by omega)
  have h1 := mixAt_step (a : Int) (b : Int) (by omega) (by omega) 0
  have h2 := mixAt_step (a : Int) (b : Int) (by omega) (by omega) 1
  have h3 := mixAt_end (a : Int) (b : Int) (by omega) (by omega)
  rw [mix_cast] at h3
  go_enter Tryd.func17, Tryd.ntmps17
  go_wp2
  go_ret
  exact ⟨rfl, rfl⟩
theorem take_nums (s : ByteArray) (k : Nat) (h : k < s.size) : ((S.nums s.data.toList).take (k + 1)) = ((S.nums s.data.toList).take k) ++ [(s[k]).toNat] := by
  unfold S.nums
  rw [← List.map_take, ← List.map_take, List.take_succ_eq_append_getElem (show k < s.data.toList.length from h), List.map_append]
  rfl
theorem fold_take (s : ByteArray) (k : Nat) (h : k < s.size) (x : Nat) : ((S.nums s.data.toList).take (k + 1)).foldl S.mixN x = S.mixN (((S.nums s.data.toList).take k).foldl S.mixN x) (s[k]).toNat := by
  rw [take_nums s k h, List.foldl_append, List.foldl_cons, List.foldl_nil]
set_option maxHeartbeats 400000 in
theorem rsum_calls (tag : ByteArray) (ht : tag.size ≤ 9223372036854775807) (l : List UInt8) (A : Option Addr) (c : Nat) (w : World) (hA : Rd w A (l.map cU8)) (hl : l.length ≤ 9223372036854775807) :
    Calls Tryd.prog 19 #[.string tag, .slice A l.length c] w fun e w' => e = .returned (cU64 (S.sumN tag.data.toList l)) ∧ w = w' := by
  have HA := Lib.hid hA
  clear hA
  go_enter Tryd.func19, Tryd.ntmps19
  go_wp2
  go_loop [5, 7] (fun x i => ∃ k : Nat, k ≤ tag.size ∧ x = cU64 (((S.nums tag.data.toList).take k).foldl S.mixN 0) ∧ i = .int .i64 k) (fun _ i => tag.size - (intOf i).toNat)
  case atStart => exact ⟨0, by omega, rfl, rfl⟩
  case round =>
    obtain ⟨k, hk, rfl, rfl⟩ := hrel
    have hx := fold_lt ((S.nums tag.data.toList).take k) 0 (by decide)
    by_cases hlt : k < tag.size
    · have HS := Lib.hid (fold_take tag k hlt 0)
      have hb : (tag[k].toNat : Int) < 256 := by have := tag[k].toNat_lt; omega
      generalize ((S.nums tag.data.toList).take k).foldl S.mixN 0 = F at *
      go_wp2_with fail
      refine (rmix_calls F tag[k].toNat hx (by omega) _).mono ?_
      rintro e w' ⟨rfl, rfl⟩
      go_wp2
      go_round
      case rel => exact ⟨k + 1, by omega, by rw [HS.out], by go_num⟩
      case measure => simp [intOf]; omega
    · obtain rfl : k = tag.size := by omega
      have HT := Lib.hid (show ((S.nums tag.data.toList).take tag.size).foldl S.mixN 0 = (S.nums tag.data.toList).foldl S.mixN 0 by
        rw [List.take_of_length_le]; unfold S.nums; rw [List.length_map]; exact Nat.le_refl _)
      generalize ((S.nums tag.data.toList).take tag.size).foldl S.mixN 0 = F at *
      go_wp2_with fail
      refine (rmix_calls F 256 hx (by decide) _).mono ?_
      rintro e w' ⟨rfl, rfl⟩
      have HG := Lib.hid (show S.mixN F 256 = S.tagN tag.data.toList by rw [S.tagN, ← HT.out])
      have hg : S.mixN F 256 < 18446744073709551616 := S.mixN_lt _ _
      generalize S.mixN F 256 = G at *
      clear hx HT hlt hk
      go_wp2_with fail
      go_loop [5, 6, 8] (fun x n i => ∃ k : Nat, k ≤ l.length ∧ x = cU64 (((l.map UInt8.toNat).take k).foldl S.mixN G) ∧ n = cU64 k ∧ i = .int .i64 k) (fun _ _ i => l.length - (intOf i).toNat)
      case atStart => exact ⟨0, by omega, rfl, rfl, rfl⟩
      case round =>
        obtain ⟨k, hk, rfl, rfl, rfl⟩ := hrel
        have hx := fold_lt ((l.map UInt8.toNat).take k) G hg
        by_cases hlt : k < l.length
        · obtain ⟨ad, rfl, _, hc⟩ := HA.out.at_ (j := k) (u := cU8 l[k]) (by simp [hlt])
          have HS := Lib.hid (fold_snoc G (l.map UInt8.toNat) k (by simpa using hlt))
          generalize ((l.map UInt8.toNat).take k).foldl S.mixN G = H at *
          have hb : (l[k].toNat : Int) < 256 := by have := l[k].toNat_lt; omega
          go_wp2_with fail
          refine (rmix_calls H l[k].toNat hx (by omega) _).mono ?_
          rintro e w' ⟨rfl, rfl⟩
          go_wp2
          go_round
          case rel => exact ⟨k + 1, by omega, by rw [HS.out, List.getElem_map], by go_num, by go_num⟩
          case measure => simp [intOf]; omega
        · obtain rfl : k = l.length := by omega
          have HS := Lib.hid (show ((l.map UInt8.toNat).take l.length).foldl S.mixN G = (l.map UInt8.toNat).foldl S.mixN G by rw [List.take_of_length_le (by simp)])
          generalize ((l.map UInt8.toNat).take l.length).foldl S.mixN G = H at *
          go_wp2_with fail
          refine (rmix_calls H l.length hx (by omega) _).mono ?_
          rintro e w' ⟨rfl, rfl⟩
          go_wp2
          go_ret
          refine ⟨?_, rfl⟩
          rw [S.sumN, S.nums, ← HG.out, ← HS.out]
          rfl
end Go.Proofs.YtgomondmogpkeaaDoor
