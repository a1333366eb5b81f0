/- Texts put together: WMix, Hash, WRow, WSum, WTwo. -/
import Derived.Test.YtbbgmlnfpnomiaaGreatDoorProg
import Derived.Test.YtbbgmlnfpnomiaaGreatDoorLA
import Derived.WalkKit
import Derived.Deep.Draws
import Derived.Laws.Bits64
import Derived.Test.YtbbgmlnfpnomiaaGreatDoorLB
import Derived.Lib.ConvBytes
import Derived.Laws.BytesString
section
/- The walk of hash.Mix: it returns what S.mix reckons. -/
namespace Go.Proofs.YtbbgmlnfpnomiaaGreatDoor
open Go.RowKit

/-- What the loop's variable holds behind k rounds. -/
def mixAt (a b : Int) : Nat → Nat
  | 0 => a.toNat ^^^ (b.toNat * 11400714819323198485 % S.M64)
  | k + 1 => S.xs (mixAt a b k) * 15485907386658061715 % S.M64
theorem mixAt_lt (a b : Int) (ha' : a < 18446744073709551616) (ha : 0 ≤ a) : ∀ k, mixAt a b k < 18446744073709551616
  | 0 => by
    have h1 : a.toNat < 2 ^ 64 := by omega
    have h2 : b.toNat * 11400714819323198485 % S.M64 < 2 ^ 64 := S.mod_lt _
    exact Nat.xor_lt_two_pow h1 h2
  | _ + 1 => S.mod_lt _
theorem mixAt_start (a b : Int) (ha : 0 ≤ a) (ha' : a < 18446744073709551616) (hb : 0 ≤ b) :
    bits BinOp.xor IntKind.u64 a (IntKind.u64.wrap (b * 11400714819323198485)) = ((mixAt a b 0 : Nat) : Int) := by
  have e1 : IntKind.u64.wrap (b * 11400714819323198485) = ((b.toNat * 11400714819323198485 % S.M64 : Nat) : Int) := by
    rw [IntKind.wrap_u64]
    simp only [S.M64]
    omega
  have e2 : a = ((a.toNat : Nat) : Int) := by omega
  rw [e1]
  conv => lhs; rw [e2]
  rw [bits_xor_u64_nat _ _ (by omega) (by have := S.mod_lt (b.toNat * 11400714819323198485); unfold S.M64 at this; exact this)]
  rfl
theorem mixAt_step (a b : Int) (ha : 0 ≤ a) (ha' : a < 18446744073709551616) (k : Nat) :
    IntKind.u64.wrap (bits BinOp.xor IntKind.u64 ((mixAt a b k : Nat) : Int) (((mixAt a b k : Nat) : Int) / 4294967296) * 15485907386658061715) = ((mixAt a b (k + 1) : Nat) : Int) := by
  have h := xorShift_u64 (mixAt a b k) 4294967296 (mixAt_lt a b ha' ha k)
  have h2 : bits BinOp.xor IntKind.u64 ((mixAt a b k : Nat) : Int) (((mixAt a b k : Nat) : Int) / 4294967296) = ((S.xs (mixAt a b k) : Nat) : Int) := h
  rw [h2]
  show _ = ((S.xs (mixAt a b k) * 15485907386658061715 % S.M64 : Nat) : Int)
  rw [IntKind.wrap_u64]
  simp only [S.M64, Int.natCast_emod, Int.natCast_mul]
  rfl
theorem mixAt_end (a b : Int) (ha : 0 ≤ a) (ha' : a < 18446744073709551616) :
    bits BinOp.xor IntKind.u64 ((mixAt a b 2 : Nat) : Int) (((mixAt a b 2 : Nat) : Int) / 4294967296) = S.mix a b := by
  unfold S.mix
  rw [S.mixN_eq]
  exact xorShift_u64 (mixAt a b 2) 4294967296 (mixAt_lt a b ha' ha 2)
set_option maxHeartbeats 400000 in
theorem mix_calls (a b : Int) (ha : 0 ≤ a) (ha' : a < 18446744073709551616) (hb : 0 ≤ b) (w : World) :
    Calls Tryz.prog 245 #[.int .u64 a, .int .u64 b] w fun e w' => e = .returned (.int .u64 (S.mix a b)) ∧ w = w' := by
  have h0 := mixAt_start a b ha ha' hb
  go_enter Tryz.func245, Tryz.ntmps245
  go_wp2
  go_loop [5, 10] (fun x i => ∃ k : Nat, k ≤ 2 ∧ x = .int .u64 ((mixAt a b k : Nat) : Int) ∧ i = .int .i64 k) (fun _ i => 2 - (intOf i).toNat)
  case atStart => exact ⟨0, by omega, rfl, rfl⟩
  case round =>
    obtain ⟨k, hk, rfl, rfl⟩ := hrel
    have hs := mixAt_step a b ha ha' k
    by_cases hlt : k < 2
    · go_wp2
      go_round
      case rel => exact ⟨k + 1, by omega, rfl, by go_num⟩
      case measure => simp [intOf]; omega
    · obtain rfl : k = 2 := by omega
      have he := mixAt_end a b ha ha'
      go_wp2
      go_ret
      exact ⟨rfl, rfl⟩
end Go.Proofs.YtbbgmlnfpnomiaaGreatDoor
end

section
/- The walks of hash.Sum, Of and of the reference's, where the fields' walks lie (no chains, no pairs). -/
set_option linter.unusedVariables false
namespace Go.Proofs.YtbbgmlnfpnomiaaGreatDoor
open Go.RowKit
theorem mix_cast (h n : Nat) : S.mix (h : Int) (n : Int) = ((S.mixN h n : Nat) : Int) := by
  show ((S.mixN (h : Int).toNat (n : Int).toNat : Nat) : Int) = _
  have e : ∀ m : Nat, (m : Int).toNat = m := fun m => Int.toNat_natCast m
  simp only [e]
theorem mixN_calls (a b : Nat) (ha : a < 18446744073709551616) (hb : b < 18446744073709551616) (w : World) :
    Calls Tryz.prog 245 #[.int .u64 (a : Int), .int .u64 (b : Int)] w fun e w' => e = .returned (cU64 (S.mixN a b)) ∧ w = w' := by
  refine (mix_calls (a : Int) (b : Int) (by omega) (by omega) (by omega) w).mono ?_
  rintro e w' ⟨rfl, rfl⟩
  exact ⟨by rw [mix_cast], rfl⟩
theorem fold_snoc (h : Nat) (l : List Nat) (k : Nat) (hk : k < l.length) : (l.take (k + 1)).foldl S.mixN h = S.mixN ((l.take k).foldl S.mixN h) l[k] := by
  rw [List.take_succ_eq_append_getElem hk, List.foldl_append, List.foldl_cons, List.foldl_nil]
theorem fold_lt (l : List Nat) : ∀ h : Nat, h < 18446744073709551616 → l.foldl S.mixN h < 18446744073709551616 := by
  induction l with
  | nil => intro h hh; exact hh
  | cons x l ih => intro h _; exact ih _ (S.mixN_lt _ _)
set_option maxHeartbeats 400000 in
theorem rowB_calls (h : Nat) (hh : h < 18446744073709551616) (l : List UInt8) (A : Option Addr) (c : Nat) (w : World) (hA : Rd w A (l.map cU8)) (hl : l.length ≤ 9223372036854775807) :
    Calls Tryz.prog 269 #[.int .u64 (h : Int), .slice A l.length c] w fun e w' => e = .returned (.int .u64 (((l.map UInt8.toNat).foldl S.mixN h : Nat) : Int)) ∧ w = w' := by
  have HA := Lib.hid hA
  clear hA
  go_enter Tryz.func269, Tryz.ntmps269
  go_wp2
  go_loop [0, 9] (fun x i => ∃ k : Nat, k ≤ l.length ∧ x = .int .u64 ((((l.map UInt8.toNat).take k).foldl S.mixN h : Nat) : Int) ∧ i = .int .i64 k) (fun _ i => l.length - (intOf i).toNat)
  case atStart => exact ⟨0, by omega, rfl, rfl⟩
  case round =>
    obtain ⟨k, hk, rfl, rfl⟩ := hrel
    by_cases hlt : k < l.length
    · obtain ⟨ad, rfl, _, hc⟩ := HA.out.at_ (j := k) (u := cU8 l[k]) (by simp [hlt])
      have hs := fold_snoc h (l.map UInt8.toNat) k (by simpa using hlt)
      have hx := fold_lt ((l.map UInt8.toNat).take k) h hh
      generalize hF : ((l.map UInt8.toNat).take k).foldl S.mixN h = F at *
      have hb : (l[k].toNat : Int) < 256 := by have := l[k].toNat_lt; omega
      have HS := Lib.hid hs
      clear hs hF
      go_wp2_with (go_at_call 245; refine (mix_calls _ _ (by omega) (by omega) (by omega) _).mono ?_; rintro e w' ⟨rfl, rfl⟩)
      go_round
      case rel => exact ⟨k + 1, by omega, by rw [HS.out, ← mix_cast]; simp, by go_num⟩
      case measure => simp [intOf]; omega
    · obtain rfl : k = l.length := by omega
      go_wp2
      go_ret
      exact ⟨ret_int (by first | rfl | rw [List.take_of_length_le (by simp)]), rfl⟩
theorem run_bytes (w : World) (s : ByteArray) : ∃ w1 A c, (convert 9 149 (.string s)).run Tryz.prog w = .ok (.slice A s.data.toList.length c) w1 ∧ Ext w w1 ∧ Rd w1 A (cBs s) := by
  obtain ⟨w1, c, h, x, _, r⟩ := run_bytes_at w s
  exact ⟨w1, _, c, h, x, r⟩
set_option maxHeartbeats 400000 in
theorem sum_calls (tag : ByteArray) (ht : tag.data.toList.length ≤ 9223372036854775807) (l : List UInt8) (A : Option Addr) (c : Nat) (w : World) (hA : Rd w A (l.map cU8)) (hl : l.length ≤ 9223372036854775807) :
    Calls Tryz.prog 215 #[.string tag, .slice A l.length c] w fun e w' => e = .returned (cU64 (S.sumN tag.data.toList l)) ∧ Ext w w' := by
  obtain ⟨w1, A1, c1, hcv, hx, hr⟩ := run_bytes w tag
  have HA := Lib.hid (hA.ext hx)
  clear hA
  have HR := Lib.hid hr
  clear hr
  have HX := Lib.hid hx
  clear hx
  go_enter Tryz.func215, Tryz.ntmps215
  go_wp2_with fail
  refine (rowB_calls 0 (by decide) tag.data.toList A1 c1 _ HR.out ht).mono ?_
  rintro e w' ⟨rfl, rfl⟩
  go_wp2_with fail
  refine (mixN_calls _ 256 (fold_lt _ _ (by decide)) (by decide) _).mono ?_
  rintro e w' ⟨rfl, rfl⟩
  go_wp2_with fail
  refine (rowB_calls _ (S.mixN_lt _ _) l A c _ HA.out hl).mono ?_
  rintro e w' ⟨rfl, rfl⟩
  go_wp2_with fail
  refine (mixN_calls _ l.length (fold_lt _ _ (S.mixN_lt _ _)) (by omega) _).mono ?_
  rintro e w' ⟨rfl, rfl⟩
  go_wp2
  go_ret
  refine ⟨?_, HX.out⟩
  rw [S.sumN, S.tagN, S.nums, S.nums]
  rfl
set_option maxHeartbeats 400000 in
theorem of_calls (tag s : ByteArray) (ht : tag.data.toList.length ≤ 9223372036854775807) (hs : s.data.toList.length ≤ 9223372036854775807) (w : World) :
    Calls Tryz.prog 139 #[.string tag, .string s] w fun e w' => e = .returned (cU64 (S.sumN tag.data.toList s.data.toList)) ∧ Ext w w' := by
  obtain ⟨w1, A1, c1, hcv, hx, hr⟩ := run_bytes w s
  have HR := Lib.hid hr
  clear hr
  have HX := Lib.hid hx
  clear hx
  go_enter Tryz.func139, Tryz.ntmps139
  go_wp2_with fail
  refine (sum_calls tag ht s.data.toList A1 c1 _ HR.out hs).mono ?_
  rintro e w' ⟨rfl, hx⟩
  have HY := Lib.hid (HX.out.tr hx)
  clear hx
  go_wp2
  go_ret
  exact ⟨rfl, HY.out⟩
set_option maxHeartbeats 400000 in
theorem rmix_calls (a b : Nat) (ha : a < 18446744073709551616) (hb : b < 18446744073709551616) (w : World) :
    Calls Tryz.prog 247 #[.int .u64 (a : Int), .int .u64 (b : Int)] w fun e w' => e = .returned (cU64 (S.mixN a b)) ∧ w = w' := by
  have h0 := mixAt_start (a : Int) (b : Int) (by omega) (by omega) (by omega)
  have h1 := mixAt_step (a : Int) (b : Int) (by omega) (by omega) 0
  have h2 := mixAt_step (a : Int) (b : Int) (by omega) (by omega) 1
  have h3 := mixAt_end (a : Int) (b : Int) (by omega) (by omega)
  rw [mix_cast] at h3
  go_enter Tryz.func247, Tryz.ntmps247
  go_wp2
  go_ret
  exact ⟨rfl, rfl⟩
theorem take_nums (s : ByteArray) (k : Nat) (h : k < s.size) : ((S.nums s.data.toList).take (k + 1)) = ((S.nums s.data.toList).take k) ++ [(s[k]).toNat] := by
  unfold S.nums
  rw [← List.map_take, ← List.map_take, List.take_succ_eq_append_getElem (show k < s.data.toList.length from h), List.map_append]
  rfl
theorem fold_take (s : ByteArray) (k : Nat) (h : k < s.size) (x : Nat) : ((S.nums s.data.toList).take (k + 1)).foldl S.mixN x = S.mixN (((S.nums s.data.toList).take k).foldl S.mixN x) (s[k]).toNat := by
  rw [take_nums s k h, List.foldl_append, List.foldl_cons, List.foldl_nil]
set_option maxHeartbeats 400000 in
theorem rsum_calls (tag : ByteArray) (ht : tag.size ≤ 9223372036854775807) (l : List UInt8) (A : Option Addr) (c : Nat) (w : World) (hA : Rd w A (l.map cU8)) (hl : l.length ≤ 9223372036854775807) :
    Calls Tryz.prog 216 #[.string tag, .slice A l.length c] w fun e w' => e = .returned (cU64 (S.sumN tag.data.toList l)) ∧ w = w' := by
  have HA := Lib.hid hA
  clear hA
  go_enter Tryz.func216, Tryz.ntmps216
  go_wp2
  go_loop [5, 7] (fun x i => ∃ k : Nat, k ≤ tag.size ∧ x = cU64 (((S.nums tag.data.toList).take k).foldl S.mixN 0) ∧ i = .int .i64 k) (fun _ i => tag.size - (intOf i).toNat)
  case atStart => exact ⟨0, by omega, rfl, rfl⟩
  case round =>
    obtain ⟨k, hk, rfl, rfl⟩ := hrel
    have hx := fold_lt ((S.nums tag.data.toList).take k) 0 (by decide)
    by_cases hlt : k < tag.size
    · have HS := Lib.hid (fold_take tag k hlt 0)
      have hb : (tag[k].toNat : Int) < 256 := by have := tag[k].toNat_lt; omega
      generalize ((S.nums tag.data.toList).take k).foldl S.mixN 0 = F at *
      go_wp2_with fail
      refine (rmix_calls F tag[k].toNat hx (by omega) _).mono ?_
      rintro e w' ⟨rfl, rfl⟩
      go_wp2
      go_round
      case rel => exact ⟨k + 1, by omega, by rw [HS.out], by go_num⟩
      case measure => simp [intOf]; omega
    · obtain rfl : k = tag.size := by omega
      have HT := Lib.hid (show ((S.nums tag.data.toList).take tag.size).foldl S.mixN 0 = (S.nums tag.data.toList).foldl S.mixN 0 by
        rw [List.take_of_length_le]; unfold S.nums; rw [List.length_map]; exact Nat.le_refl _)
      generalize ((S.nums tag.data.toList).take tag.size).foldl S.mixN 0 = F at *
      go_wp2_with fail
      refine (rmix_calls F 256 hx (by decide) _).mono ?_
      rintro e w' ⟨rfl, rfl⟩
      have HG := Lib.hid (show S.mixN F 256 = S.tagN tag.data.toList by rw [S.tagN, ← HT.out])
      have hg : S.mixN F 256 < 18446744073709551616 := S.mixN_lt _ _
      generalize S.mixN F 256 = G at *
      clear hx HT hlt hk
      go_wp2_with fail
      go_loop [5, 6, 8] (fun x n i => ∃ k : Nat, k ≤ l.length ∧ x = cU64 (((l.map UInt8.toNat).take k).foldl S.mixN G) ∧ n = cU64 k ∧ i = .int .i64 k) (fun _ _ i => l.length - (intOf i).toNat)
      case atStart => exact ⟨0, by omega, rfl, rfl, rfl⟩
      case round =>
        obtain ⟨k, hk, rfl, rfl, rfl⟩ := hrel
        have hx := fold_lt ((l.map UInt8.toNat).take k) G hg
        by_cases hlt : k < l.length
        · obtain ⟨ad, rfl, _, hc⟩ := HA.out.at_ (j := k) (u := cU8 l[k]) (by simp [hlt])
          have HS := Lib.hid (fold_snoc G (l.map UInt8.toNat) k (by simpa using hlt))
          generalize ((l.map UInt8.toNat).take k).foldl S.mixN G = H at *
          have hb : (l[k].toNat : Int) < 256 := by have := l[k].toNat_lt; omega
          go_wp2_with fail
          refine (rmix_calls H l[k].toNat hx (by omega) _).mono ?_
          rintro e w' ⟨rfl, rfl⟩
          go_wp2
          go_round
          case rel => exact ⟨k + 1, by omega, by rw [HS.out, List.getElem_map], by go_num, by go_num⟩
          case measure => simp [intOf]; omega
        · obtain rfl : k = l.length := by omega
          have HS := Lib.hid (show ((l.map UInt8.toNat).take l.length).foldl S.mixN G = (l.map UInt8.toNat).foldl S.mixN G by rw [List.take_of_length_le (by simp)])
          generalize ((l.map UInt8.toNat).take l.length).foldl S.mixN G = H at *
          go_wp2_with fail
          refine (rmix_calls H l.length hx (by omega) _).mono ?_
          rintro e w' ⟨rfl, rfl⟩
          go_wp2
          go_ret
          refine ⟨?_, rfl⟩
          rw [S.sumN, S.nums, ← HG.out, ← HS.out]
          rfl
set_option maxHeartbeats 400000 in
theorem rof_calls (tag s : ByteArray) (ht : tag.size ≤ 9223372036854775807) (hs : s.data.toList.length ≤ 9223372036854775807) (w : World) :
    Calls Tryz.prog 144 #[.string tag, .string s] w fun e w' => e = .returned (cU64 (S.sumN tag.data.toList s.data.toList)) ∧ Ext w w' := by
  obtain ⟨w1, A1, c1, hcv, hx, hr⟩ := run_bytes w s
  have HR := Lib.hid hr
  clear hr
  have HX := Lib.hid hx
  clear hx
  go_enter Tryz.func144, Tryz.ntmps144
  go_wp2_with fail
  refine (rsum_calls tag ht s.data.toList A1 c1 _ HR.out hs).mono ?_
  rintro e w' ⟨rfl, rfl⟩
  go_wp2
  go_ret
  exact ⟨rfl, HX.out⟩
end Go.Proofs.YtbbgmlnfpnomiaaGreatDoor
end

section
/- The walk of hash.row at digests, above the fields' walks. -/
set_option linter.unusedVariables false
namespace Go.Proofs.YtbbgmlnfpnomiaaGreatDoor
open Go.RowKit
set_option maxHeartbeats 400000 in
theorem rowD_calls (h : Nat) (hh : h < 18446744073709551616) (l : List Nat) (hl' : ∀ x ∈ l, x < 18446744073709551616) (A : Option Addr) (c : Nat) (w : World) (hA : Rd w A (l.map cU64)) (hl : l.length ≤ 9223372036854775807) :
    Calls Tryz.prog 246 #[.int .u64 (h : Int), .slice A l.length c] w fun e w' => e = .returned (.int .u64 ((l.foldl S.mixN h : Nat) : Int)) ∧ w = w' := by
  have HA := Lib.hid hA
  clear hA
  go_enter Tryz.func246, Tryz.ntmps246
  go_wp2
  go_loop [0, 9] (fun x i => ∃ k : Nat, k ≤ l.length ∧ x = .int .u64 (((l.take k).foldl S.mixN h : Nat) : Int) ∧ i = .int .i64 k) (fun _ i => l.length - (intOf i).toNat)
  case atStart => exact ⟨0, by omega, rfl, rfl⟩
  case round =>
    obtain ⟨k, hk, rfl, rfl⟩ := hrel
    by_cases hlt : k < l.length
    · obtain ⟨ad, rfl, _, hc⟩ := HA.out.at_ (j := k) (u := cU64 l[k]) (by simp [hlt])
      have hs := fold_snoc h l k (by simpa using hlt)
      have hx := fold_lt (l.take k) h hh
      generalize hF : (l.take k).foldl S.mixN h = F at *
      have hb := hl' l[k] (by simp)
      have HS := Lib.hid hs
      clear hs hF
      go_wp2_with (go_at_call 245; refine (mix_calls _ _ (by omega) (by omega) (by omega) _).mono ?_; rintro e w' ⟨rfl, rfl⟩)
      go_round
      case rel => exact ⟨k + 1, by omega, by rw [HS.out, ← mix_cast], by go_num⟩
      case measure => simp [intOf]; omega
    · obtain rfl : k = l.length := by omega
      go_wp2
      go_ret
      exact ⟨ret_int (by first | rfl | rw [List.take_of_length_le (by simp)]), rfl⟩
end Go.Proofs.YtbbgmlnfpnomiaaGreatDoor
end

section
/- hash.Sum, Of: where the fields' walks lie. -/
end

section
/- The walks of hash.Two and hash.Chain. -/
namespace Go.Proofs.YtbbgmlnfpnomiaaGreatDoor
open Go.RowKit
theorem fold_two1 (f : Nat → Nat → Nat) (h a b : Nat) : [a, b].foldl f h = f (f h a) b := rfl
theorem fold_two (h a b : Nat) : [a, b].foldl S.mixN h = S.mixN (S.mixN h a) b := fold_two1 S.mixN h a b
set_option maxHeartbeats 400000 in
theorem two_calls (tag : ByteArray) (ht : tag.data.toList.length ≤ 9223372036854775807) (a b : Nat) (ha : a < 18446744073709551616) (hb : b < 18446744073709551616) (w : World) :
    Calls Tryz.prog 194 #[.string tag, .int .u64 (a : Int), .int .u64 (b : Int)] w fun e w' => e = .returned (cU64 (S.twoN tag.data.toList a b)) ∧ Ext w w' := by
  go_enter Tryz.func194, Tryz.ntmps194
  go_wp2_with fail
  refine (sum_calls tag ht [] none 0 _ (Rd.nil _ _) (by decide)).mono ?_
  rintro e w' ⟨rfl, hx⟩
  have HX := Lib.hid hx
  clear hx
  go_wp2_with fail
  refine (rowD_calls _ (S.sumN_lt _ _) [a, b] (by simp; omega) _ 2 _ (Rd.fresh w' [cU64 a, cU64 b] 34 (0, 0)) (by simp)).mono ?_
  rintro e w2 ⟨rfl, rfl⟩
  have HY := Lib.hid (HX.out.alloc (.cells #[.int .u64 (a : Int), .int .u64 (b : Int)] 34))
  go_wp2
  go_ret
  refine ⟨?_, HY.out⟩
  rw [S.twoN]
  rfl
theorem chainN_go (h x k : Nat) : S.chainN h x (k + 1) = S.mixN h (S.chainN h x k) := by rw [S.chainN]
/-- How many steps a chain goes. -/
def steps (n : Int) : Nat := if n < 0 then 0 else if 255 < n then 255 else n.toNat
set_option maxHeartbeats 400000 in
theorem chain_mid (tag : ByteArray) (ht : tag.data.toList.length ≤ 9223372036854775807) (x : Nat) (hx : x < 18446744073709551616) (m : Nat) (hm : m ≤ 255) (w : World) :
    Calls Tryz.prog 191 #[.string tag, .int .u64 (x : Int), .int .i64 (m : Int)] w fun e w' => e = .returned (cU64 (S.chainN (S.sumN tag.data.toList []) x m)) ∧ Ext w w' := by
    go_enter Tryz.func191, Tryz.ntmps191
    go_wp2_with fail
    refine (sum_calls tag ht [] none 0 _ (Rd.nil _ _) (by decide)).mono ?_
    rintro e w' ⟨rfl, hx'⟩
    have HX := Lib.hid hx'
    clear hx'
    have hlt' : S.sumN tag.data.toList [] < 18446744073709551616 := S.sumN_lt tag.data.toList []
    go_wp2_with fail
    go_loop [1, 13] (fun v i => ∃ k : Nat, k ≤ m ∧ v = cU64 (S.chainN (S.sumN tag.data.toList []) x k) ∧ i = .int .i64 k) (fun _ i => m - (intOf i).toNat)
    case atStart => exact ⟨0, by omega, by rw [S.chainN], rfl⟩
    case round =>
      obtain ⟨k, hk, rfl, rfl⟩ := hrel
      have hc : S.chainN (S.sumN tag.data.toList []) x k < 18446744073709551616 := S.chainN_lt _ x hx k
      by_cases hlt : k < m
      · go_wp2_with (go_at_call 245; refine (mixN_calls _ (S.chainN (S.sumN tag.data.toList []) x k) hlt' hc _).mono ?_; rintro e w'' ⟨rfl, rfl⟩)
        go_round
        case rel => exact ⟨k + 1, by omega, by rw [chainN_go], by go_num⟩
        case measure => simp [intOf]; omega
      · obtain rfl : k = m := by omega
        go_wp2
        go_ret
        exact ⟨rfl, HX.out⟩
set_option maxHeartbeats 400000 in
theorem chain_low (tag : ByteArray) (ht : tag.data.toList.length ≤ 9223372036854775807) (x : Nat) (n : Int) (hn : n < 0) (w : World) :
    Calls Tryz.prog 191 #[.string tag, .int .u64 (x : Int), .int .i64 n] w fun e w' => e = .returned (cU64 x) ∧ Ext w w' := by
    go_enter Tryz.func191, Tryz.ntmps191
    go_wp2_with fail
    refine (sum_calls tag ht [] none 0 _ (Rd.nil _ _) (by decide)).mono ?_
    rintro e w' ⟨rfl, hx'⟩
    have HX := Lib.hid hx'
    clear hx'
    have hlt' : S.sumN tag.data.toList [] < 18446744073709551616 := S.sumN_lt tag.data.toList []
    go_wp2_with fail
    go_rounds 1
    go_ret
    exact ⟨rfl, HX.out⟩
set_option maxHeartbeats 400000 in
set_option maxRecDepth 100000 in
theorem chain_high (tag : ByteArray) (ht : tag.data.toList.length ≤ 9223372036854775807) (x : Nat) (hx : x < 18446744073709551616) (n : Int) (hn : 255 < n) (w : World) :
    Calls Tryz.prog 191 #[.string tag, .int .u64 (x : Int), .int .i64 n] w fun e w' => e = .returned (cU64 (S.chainN (S.sumN tag.data.toList []) x 255)) ∧ Ext w w' := by
    go_enter Tryz.func191, Tryz.ntmps191
    go_wp2_with fail
    refine (sum_calls tag ht [] none 0 _ (Rd.nil _ _) (by decide)).mono ?_
    rintro e w' ⟨rfl, hx'⟩
    have HX := Lib.hid hx'
    clear hx'
    have hlt' : S.sumN tag.data.toList [] < 18446744073709551616 := S.sumN_lt tag.data.toList []
    go_wp2_with fail
    go_loop [1, 13] (fun v i => ∃ k : Nat, k ≤ 255 ∧ v = cU64 (S.chainN (S.sumN tag.data.toList []) x k) ∧ i = .int .i64 k) (fun _ i => 255 - (intOf i).toNat)
    case atStart => exact ⟨0, by omega, by rw [S.chainN], rfl⟩
    case round =>
      obtain ⟨k, hk, rfl, rfl⟩ := hrel
      have hc : S.chainN (S.sumN tag.data.toList []) x k < 18446744073709551616 := S.chainN_lt _ x hx k
      by_cases hlt : k < 255
      · go_wp2_with (go_at_call 245; refine (mixN_calls _ (S.chainN (S.sumN tag.data.toList []) x k) hlt' hc _).mono ?_; rintro e w'' ⟨rfl, rfl⟩)
        go_round
        case rel => exact ⟨k + 1, by omega, by rw [chainN_go], by go_num⟩
        case measure => simp [intOf]; omega
      · obtain rfl : k = 255 := by omega
        go_wp2
        go_ret
        exact ⟨rfl, HX.out⟩
theorem chain_calls (tag : ByteArray) (ht : tag.data.toList.length ≤ 9223372036854775807) (x : Nat) (hx : x < 18446744073709551616) (n : Int) (w : World) :
    Calls Tryz.prog 191 #[.string tag, .int .u64 (x : Int), .int .i64 n] w fun e w' => e = .returned (cU64 (S.chainN (S.sumN tag.data.toList []) x (steps n))) ∧ Ext w w' := by
  unfold steps
  by_cases h1 : n < 0
  · rw [if_pos h1, S.chainN]
    exact chain_low tag ht x n h1 w
  · rw [if_neg h1]
    by_cases h2 : 255 < n
    · rw [if_pos h2]
      exact chain_high tag ht x hx n h2 w
    · rw [if_neg h2]
      have h := chain_mid tag ht x hx n.toNat (by omega) w
      rwa [show ((n.toNat : Nat) : Int) = n from by omega] at h
end Go.Proofs.YtbbgmlnfpnomiaaGreatDoor
end
