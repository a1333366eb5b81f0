/- The walks of hash.Sum, Of and of the reference's, where the fields' walks lie (no chains, no pairs). -/
import Derived.Test.YthjldedjllkeeaaGreatDoorWMix
import Derived.Test.YthjldedjllkeeaaGreatDoorWJoin
import Derived.Lib.ConvBytes
import Derived.Laws.BytesString
set_option linter.unusedVariables false
namespace Go.Proofs.YthjldedjllkeeaaGreatDoor
open Go.RowKit
theorem mix_cast (h n : Nat) : S.mix (h : Int) (n : Int) = ((S.mixN h n : Nat) : Int) := by
  show ((S.mixN (h : Int).toNat (n : Int).toNat : Nat) : Int) = _
  have e : ∀ m : Nat, (m : Int).toNat = m := fun m => Int.toNat_natCast m
  simp only [e]
theorem mixN_calls (a b : Nat) (ha : a < 18446744073709551616) (hb : b < 18446744073709551616) (w : World) :
    Calls Tryz.prog 142 #[.int .u64 (a : Int), .int .u64 (b : Int)] w fun e w' => e = .returned (cU64 (S.mixN a b)) ∧ w = w' := by
  refine (mix_calls (a : Int) (b : Int) (by omega) (by omega) (by omega) w).mono ?_
  rintro e w' ⟨rfl, rfl⟩
  exact ⟨by rw [mix_cast], rfl⟩
theorem fold_snoc (h : Nat) (l : List Nat) (k : Nat) (hk : k < l.length) : (l.take (k + 1)).foldl S.mixN h = S.mixN ((l.take k).foldl S.mixN h) l[k] := by
  rw [List.take_succ_eq_append_getElem hk, List.foldl_append, List.foldl_cons, List.foldl_nil]
theorem fold_lt (l : List Nat) : ∀ h : Nat, h < 18446744073709551616 → l.foldl S.mixN h < 18446744073709551616 := by
  induction l with
  | nil => intro h hh; exact hh
  | cons x l ih => intro h _; exact ih _ (S.mixN_lt _ _)
set_option maxHeartbeats 400000 in
theorem rowB_calls (h : Nat) (hh : h < 18446744073709551616) (l : List UInt8) (A : Option Addr) (c : Nat) (w : World) (hA : Rd w A (l.map cU8)) (hl : l.length ≤ 9223372036854775807) :
    Calls Tryz.prog 172 #[.int .u64 (h : Int), .slice A l.length c] w fun e w' => e = .returned (.int .u64 (((l.map UInt8.toNat).foldl S.mixN h : Nat) : Int)) ∧ w = w' := by
  have HA := Lib.hid hA
  clear hA
  go_enter Tryz.func172, Tryz.ntmps172
  go_wp2
  go_loop [0, 9] (fun x i => ∃ k : Nat, k ≤ l.length ∧ x = .int .u64 ((((l.map UInt8.toNat).take k).foldl S.mixN h : Nat) : Int) ∧ i = .int .i64 k) (fun _ i => l.length - (intOf i).toNat)
  case atStart => exact ⟨0, by omega, rfl, rfl⟩
  case round =>
    obtain ⟨k, hk, rfl, rfl⟩ := hrel
    by_cases hlt : k < l.length
    · obtain ⟨ad, rfl, _, hc⟩ := HA.out.at_ (j := k) (u := cU8 l[k]) (by simp [hlt])
      have hs := fold_snoc h (l.map UInt8.toNat) k (by simpa using hlt)
      have hx := fold_lt ((l.map UInt8.toNat).take k) h hh
      generalize hF : ((l.map UInt8.toNat).take k).foldl S.mixN h = F at *
      have hb : (l[k].toNat : Int) < 256 := by have := l[k].toNat_lt; omega
      have HS := Lib.hid hs
      clear hs hF
      go_wp2_with (go_at_call 142; refine (mix_calls _ _ (by omega) (by omega) (by omega) _).mono ?_; rintro e w' ⟨rfl, rfl⟩)
      go_round
      case rel => exact ⟨k + 1, by omega, by rw [HS.out, ← mix_cast]; simp, by go_num⟩
      case measure => simp [intOf]; omega
    · obtain rfl : k = l.length := by omega
      go_wp2
      go_ret
      exact ⟨ret_int (by first | rfl | rw [List.take_of_length_le (by simp)]), rfl⟩
theorem run_bytes (w : World) (s : ByteArray) : ∃ w1 A c, (convert 9 82 (.string s)).run Tryz.prog w = .ok (.slice A s.data.toList.length c) w1 ∧ Ext w w1 ∧ Rd w1 A (cBs s) := by
  obtain ⟨w1, c, h, x, _, r⟩ := run_bytes_at w s
  exact ⟨w1, _, c, h, x, r⟩
set_option maxHeartbeats 400000 in
theorem sum_calls (tag : ByteArray) (ht : tag.data.toList.length ≤ 9223372036854775807) (l : List UInt8) (A : Option Addr) (c : Nat) (w : World) (hA : Rd w A (l.map cU8)) (hl : l.length ≤ 9223372036854775807) :
    Calls Tryz.prog 141 #[.string tag, .slice A l.length c] w fun e w' => e = .returned (cU64 (S.sumN tag.data.toList l)) ∧ Ext w w' := by
  obtain ⟨w1, A1, c1, hcv, hx, hr⟩ := run_bytes w tag
  have HA := Lib.hid (hA.ext hx)
  clear hA
  have HR := Lib.hid hr
  clear hr
  have HX := Lib.hid hx
  clear hx
  go_enter Tryz.func141, Tryz.ntmps141
  go_wp2_with fail
  refine (rowB_calls 0 (by decide) tag.data.toList A1 c1 _ HR.out ht).mono ?_
  rintro e w' ⟨rfl, rfl⟩
  go_wp2_with fail
  refine (mixN_calls _ 256 (fold_lt _ _ (by decide)) (by decide) _).mono ?_
  rintro e w' ⟨rfl, rfl⟩
  go_wp2_with fail
  refine (rowB_calls _ (S.mixN_lt _ _) l A c _ HA.out hl).mono ?_
  rintro e w' ⟨rfl, rfl⟩
  go_wp2_with fail
  refine (mixN_calls _ l.length (fold_lt _ _ (S.mixN_lt _ _)) (by omega) _).mono ?_
  rintro e w' ⟨rfl, rfl⟩
  go_wp2
  go_ret
  refine ⟨?_, HX.out⟩
  rw [S.sumN, S.tagN, S.nums, S.nums]
  rfl
set_option maxHeartbeats 400000 in
theorem of_calls (tag s : ByteArray) (ht : tag.data.toList.length ≤ 9223372036854775807) (hs : s.data.toList.length ≤ 9223372036854775807) (w : World) :
    Calls Tryz.prog 99 #[.string tag, .string s] w fun e w' => e = .returned (cU64 (S.sumN tag.data.toList s.data.toList)) ∧ Ext w w' := by
  obtain ⟨w1, A1, c1, hcv, hx, hr⟩ := run_bytes w s
  have HR := Lib.hid hr
  clear hr
  have HX := Lib.hid hx
  clear hx
  go_enter Tryz.func99, Tryz.ntmps99
  go_wp2_with fail
  refine (sum_calls tag ht s.data.toList A1 c1 _ HR.out hs).mono ?_
  rintro e w' ⟨rfl, hx⟩
  have HY := Lib.hid (HX.out.tr hx)
  clear hx
  go_wp2
  go_ret
  exact ⟨rfl, HY.out⟩
set_option maxHeartbeats 400000 in
theorem rmix_calls (a b : Nat) (ha : a < 18446744073709551616) (hb : b < 18446744073709551616) (w : World) :
    Calls Tryz.prog 155 #[.int .u64 (a : Int), .int .u64 (b : Int)] w fun e w' => e = .returned (cU64 (S.mixN a b)) ∧ w = w' := by
  have h0 := mixAt_start (a : Int) (b : Int) (by omega) (by omega) (by omega)
  have h1 := mixAt_step (a : Int) (b : Int) (by omega) (by omega) 0
  have h2 := mixAt_step (a : Int) (b : Int) (by omega) (by omega) 1
  have h3 := mixAt_end (a : Int) (b : Int) (by omega) (by omega)
  rw [mix_cast] at h3
  go_enter Tryz.func155, Tryz.ntmps155
  go_wp2
  go_ret
  exact ⟨rfl, rfl⟩
theorem take_nums (s : ByteArray) (k : Nat) (h : k < s.size) : ((S.nums s.data.toList).take (k + 1)) = ((S.nums s.data.toList).take k) ++ [(s[k]).toNat] := by
  unfold S.nums
  rw [← List.map_take, ← List.map_take, List.take_succ_eq_append_getElem (show k < s.data.toList.length from h), List.map_append]
  rfl
theorem fold_take (s : ByteArray) (k : Nat) (h : k < s.size) (x : Nat) : ((S.nums s.data.toList).take (k + 1)).foldl S.mixN x = S.mixN (((S.nums s.data.toList).take k).foldl S.mixN x) (s[k]).toNat := by
  rw [take_nums s k h, List.foldl_append, List.foldl_cons, List.foldl_nil]
set_option maxHeartbeats 400000 in
theorem rsum_calls (tag : ByteArray) (ht : tag.size ≤ 9223372036854775807) (l : List UInt8) (A : Option Addr) (c : Nat) (w : World) (hA : Rd w A (l.map cU8)) (hl : l.length ≤ 9223372036854775807) :
    Calls Tryz.prog 146 #[.string tag, .slice A l.length c] w fun e w' => e = .returned (cU64 (S.sumN tag.data.toList l)) ∧ w = w' := by
  have HA := Lib.hid hA
  clear hA
  go_enter Tryz.func146, Tryz.ntmps146
  go_wp2
  go_loop [5, 7] (fun x i => ∃ k : Nat, k ≤ tag.size ∧ x = cU64 (((S.nums tag.data.toList).take k).foldl S.mixN 0) ∧ i = .int .i64 k) (fun _ i => tag.size - (intOf i).toNat)
  case atStart => exact ⟨0, by omega, rfl, rfl⟩
  case round =>
    obtain ⟨k, hk, rfl, rfl⟩ := hrel
    have hx := fold_lt ((S.nums tag.data.toList).take k) 0 (by decide)
    by_cases hlt : k < tag.size
    · have HS := Lib.hid (fold_take tag k hlt 0)
      have hb : (tag[k].toNat : Int) < 256 := by have := tag[k].toNat_lt; omega
      generalize ((S.nums tag.data.toList).take k).foldl S.mixN 0 = F at *
      go_wp2_with fail
      refine (rmix_calls F tag[k].toNat hx (by omega) _).mono ?_
      rintro e w' ⟨rfl, rfl⟩
      go_wp2
      go_round
      case rel => exact ⟨k + 1, by omega, by rw [HS.out], by go_num⟩
      case measure => simp [intOf]; omega
    · obtain rfl : k = tag.size := by omega
      have HT := Lib.hid (show ((S.nums tag.data.toList).take tag.size).foldl S.mixN 0 = (S.nums tag.data.toList).foldl S.mixN 0 by
        rw [List.take_of_length_le]; unfold S.nums; rw [List.length_map]; exact Nat.le_refl _)
      generalize ((S.nums tag.data.toList).take tag.size).foldl S.mixN 0 = F at *
      go_wp2_with fail
      refine (rmix_calls F 256 hx (by decide) _).mono ?_
      rintro e w' ⟨rfl, rfl⟩
      have HG := Lib.hid (show S.mixN F 256 = S.tagN tag.data.toList by rw [S.tagN, ← HT.out])
      have hg : S.mixN F 256 < 18446744073709551616 := S.mixN_lt _ _
      generalize S.mixN F 256 = G at *
      clear hx HT hlt hk
      go_wp2_with fail
      go_loop [5, 6, 8] (fun x n i => ∃ k : Nat, k ≤ l.length ∧ x = cU64 (((l.map UInt8.toNat).take k).foldl S.mixN G) ∧ n = cU64 k ∧ i = .int .i64 k) (fun _ _ i => l.length - (intOf i).toNat)
      case atStart => exact ⟨0, by omega, rfl, rfl, rfl⟩
      case round =>
        obtain ⟨k, hk, rfl, rfl, rfl⟩ := hrel
        have hx := fold_lt ((l.map UInt8.toNat).take k) G hg
        by_cases hlt : k < l.length
        · obtain ⟨ad, rfl, _, hc⟩ := HA.out.at_ (j := k) (u := cU8 l[k]) (by simp [hlt])
          have HS := Lib.hid (fold_snoc G (l.map UInt8.toNat) k (by simpa using hlt))
          generalize ((l.map UInt8.toNat).take k).foldl S.mixN G = H at *
          have hb : (l[k].toNat : Int) < 256 := by have := l[k].toNat_lt; omega
          go_wp2_with fail
          refine (rmix_calls H l[k].toNat hx (by omega) _).mono ?_
          rintro e w' ⟨rfl, rfl⟩
          go_wp2
          go_round
          case rel => exact ⟨k + 1, by omega, by rw [HS.out, List.getElem_map], by go_num, by go_num⟩
          case measure => simp [intOf]; omega
        · obtain rfl : k = l.length := by omega
          have HS := Lib.hid (show ((l.map UInt8.toNat).take l.length).foldl S.mixN G = (l.map UInt8.toNat).foldl S.mixN G by rw [List.take_of_length_le (by simp)])
          generalize ((l.map UInt8.toNat).take l.length).foldl S.mixN G = H at *
          go_wp2_with fail
          refine (rmix_calls H l.length hx (by omega) _).mono ?_
          rintro e w' ⟨rfl, rfl⟩
          go_wp2
          go_ret
          refine ⟨?_, rfl⟩
          rw [S.sumN, S.nums, ← HG.out, ← HS.out]
          rfl
set_option maxHeartbeats 400000 in
theorem rof_calls (tag s : ByteArray) (ht : tag.size ≤ 9223372036854775807) (hs : s.data.toList.length ≤ 9223372036854775807) (w : World) :
    Calls Tryz.prog 104 #[.string tag, .string s] w fun e w' => e = .returned (cU64 (S.sumN tag.data.toList s.data.toList)) ∧ Ext w w' := by
  obtain ⟨w1, A1, c1, hcv, hx, hr⟩ := run_bytes w s
  have HR := Lib.hid hr
  clear hr
  have HX := Lib.hid hx
  clear hx
  go_enter Tryz.func104, Tryz.ntmps104
  go_wp2_with fail
  refine (rsum_calls tag ht s.data.toList A1 c1 _ HR.out hs).mono ?_
  rintro e w' ⟨rfl, rfl⟩
  go_wp2
  go_ret
  exact ⟨rfl, HX.out⟩
end Go.Proofs.YthjldedjllkeeaaGreatDoor
