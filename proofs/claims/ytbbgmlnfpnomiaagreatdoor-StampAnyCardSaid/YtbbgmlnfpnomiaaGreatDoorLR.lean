/- Texts put together: WRef, WRef2, WRHex, WRParse, WRParts. -/
import Derived.Test.YtbbgmlnfpnomiaaGreatDoorLC
import Derived.Test.YtbbgmlnfpnomiaaGreatDoorLE
import Derived.Maps.AppendAt
import Derived.Deep.DeepMust
import Derived.Test.YtbbgmlnfpnomiaaGreatDoorLD
import Derived.Test.YtbbgmlnfpnomiaaGreatDoorLB
import Derived.Laws.OwnMore
import Derived.RangeFuncBox
import Derived.RegionTactic
import Derived.ChangeAlike
section
/- The reference's Mix, Sum: where the fields' walks lie. -/
end

section
/- The walks of the reference's Two, Chain, Of. -/
namespace Go.Proofs.YtbbgmlnfpnomiaaGreatDoor
open Go.RowKit
set_option maxHeartbeats 400000 in
theorem rtwo_calls (tag : ByteArray) (ht : tag.size ≤ 9223372036854775807) (a b : Nat) (ha : a < 18446744073709551616) (hb : b < 18446744073709551616) (w : World) :
    Calls Tryz.prog 197 #[.string tag, .int .u64 (a : Int), .int .u64 (b : Int)] w fun e w' => e = .returned (cU64 (S.twoN tag.data.toList a b)) ∧ w = w' := by
  have hs : S.sumN tag.data.toList [] < 18446744073709551616 := S.sumN_lt _ _
  go_enter Tryz.func197, Tryz.ntmps197
  go_wp2_with fail
  refine (rsum_calls tag ht [] none 0 _ (Rd.nil _ _) (by decide)).mono ?_
  rintro e w' ⟨rfl, rfl⟩
  go_wp2_with fail
  refine (rmix_calls _ a hs ha _).mono ?_
  rintro e w' ⟨rfl, rfl⟩
  go_wp2_with fail
  refine (rmix_calls _ b (S.mixN_lt _ _) hb _).mono ?_
  rintro e w' ⟨rfl, rfl⟩
  go_wp2
  go_ret
  exact ⟨by rw [S.twoN]; rfl, rfl⟩
theorem steps_ref (n : Int) (h : n ≤ 255) : steps n = n.toNat := by
  unfold steps
  by_cases h1 : n < 0
  · rw [if_pos h1]; omega
  · rw [if_neg h1, if_neg (by omega)]
set_option maxHeartbeats 400000 in
theorem rchain_mid (tag : ByteArray) (ht : tag.size ≤ 9223372036854775807) (x : Nat) (hx : x < 18446744073709551616) (n : Int) (hn : n ≤ 255) (w : World) :
    Calls Tryz.prog 195 #[.string tag, .int .u64 (x : Int), .int .i64 n] w fun e w' => e = .returned (cU64 (S.chainN (S.sumN tag.data.toList []) x n.toNat)) ∧ w = w' := by
  have hlt' : S.sumN tag.data.toList [] < 18446744073709551616 := S.sumN_lt tag.data.toList []
  go_enter Tryz.func195, Tryz.ntmps195
  go_wp2_with fail
  refine (rsum_calls tag ht [] none 0 _ (Rd.nil _ _) (by decide)).mono ?_
  rintro e w' ⟨rfl, rfl⟩
  go_wp2_with fail
  go_loop [1, 8] (fun v i => ∃ k : Nat, k ≤ n.toNat ∧ v = cU64 (S.chainN (S.sumN tag.data.toList []) x k) ∧ i = .int .i64 k) (fun _ i => n.toNat - (intOf i).toNat)
  case atStart => exact ⟨0, by omega, by rw [S.chainN], rfl⟩
  case round =>
    obtain ⟨k, hk, rfl, rfl⟩ := hrel
    have hc : S.chainN (S.sumN tag.data.toList []) x k < 18446744073709551616 := S.chainN_lt _ x hx k
    by_cases hlt : (k : Int) < n
    · go_wp2_with (go_at_call 247; refine (rmix_calls _ (S.chainN (S.sumN tag.data.toList []) x k) hlt' hc _).mono ?_; rintro e w'' ⟨rfl, rfl⟩)
      go_round
      case rel => exact ⟨k + 1, by omega, by rw [chainN_go], by go_num⟩
      case measure => simp [intOf]; omega
    · have hk' : k = n.toNat := by omega
      have HK := Lib.hid hk'
      clear hk' hk
      go_wp2
      go_ret
      refine ⟨?_, rfl⟩
      rw [← HK.out]
      rfl
set_option maxHeartbeats 400000 in
set_option maxRecDepth 100000 in
theorem rchain_high (tag : ByteArray) (ht : tag.size ≤ 9223372036854775807) (x : Nat) (hx : x < 18446744073709551616) (n : Int) (hn : 255 < n) (w : World) :
    Calls Tryz.prog 195 #[.string tag, .int .u64 (x : Int), .int .i64 n] w fun e w' => e = .returned (cU64 (S.chainN (S.sumN tag.data.toList []) x 255)) ∧ w = w' := by
  have hlt' : S.sumN tag.data.toList [] < 18446744073709551616 := S.sumN_lt tag.data.toList []
  go_enter Tryz.func195, Tryz.ntmps195
  go_wp2_with fail
  refine (rsum_calls tag ht [] none 0 _ (Rd.nil _ _) (by decide)).mono ?_
  rintro e w' ⟨rfl, rfl⟩
  go_wp2_with fail
  go_loop [1, 8] (fun v i => ∃ k : Nat, k ≤ 255 ∧ v = cU64 (S.chainN (S.sumN tag.data.toList []) x k) ∧ i = .int .i64 k) (fun _ i => 255 - (intOf i).toNat)
  case atStart => exact ⟨0, by omega, by rw [S.chainN], rfl⟩
  case round =>
    obtain ⟨k, hk, rfl, rfl⟩ := hrel
    have hc : S.chainN (S.sumN tag.data.toList []) x k < 18446744073709551616 := S.chainN_lt _ x hx k
    by_cases hlt : k < 255
    · go_wp2_with (go_at_call 247; refine (rmix_calls _ (S.chainN (S.sumN tag.data.toList []) x k) hlt' hc _).mono ?_; rintro e w'' ⟨rfl, rfl⟩)
      go_round
      case rel => exact ⟨k + 1, by omega, by rw [chainN_go], by go_num⟩
      case measure => simp [intOf]; omega
    · obtain rfl : k = 255 := by omega
      go_wp2
      go_ret
      exact ⟨rfl, rfl⟩
theorem rchain_calls (tag : ByteArray) (ht : tag.size ≤ 9223372036854775807) (x : Nat) (hx : x < 18446744073709551616) (n : Int) (w : World) :
    Calls Tryz.prog 195 #[.string tag, .int .u64 (x : Int), .int .i64 n] w fun e w' => e = .returned (cU64 (S.chainN (S.sumN tag.data.toList []) x (steps n))) ∧ w = w' := by
  by_cases h2 : 255 < n
  · rw [show steps n = 255 from by unfold steps; rw [if_neg (by omega), if_pos h2]]
    exact rchain_high tag ht x hx n h2 w
  · rw [steps_ref n (by omega)]
    exact rchain_mid tag ht x hx n (by omega) w
end Go.Proofs.YtbbgmlnfpnomiaaGreatDoor
end

section
/- The walk of the reference's Hex. -/
namespace Go.Proofs.YtbbgmlnfpnomiaaGreatDoor
open Go.RowKit
/-- The k uppermost of sixteen digits. -/
def topN (u k : Nat) : List Nat := (List.range k).map fun j => S.dig (u / 16 ^ (15 - j) % 16)
theorem topN_succ (u k : Nat) : topN u (k + 1) = topN u k ++ [S.dig (u / 16 ^ (15 - k) % 16)] := by
  unfold topN
  rw [List.range_succ, List.map_append]
  rfl
theorem topN_len (u k : Nat) : (topN u k).length = k := by simp [topN]
theorem Tryz.infoU8 : (Tryz.prog.info? 5).map (fun i => (i.zero, i.size, i.bytes)) = some (some (.int .u8 0), 1, 1) := by kernel_rfl
abbrev digs16 : ByteArray := ⟨#[48, 49, 50, 51, 52, 53, 54, 55, 56, 57, 97, 98, 99, 100, 101, 102]⟩
theorem digs16_all : ∀ r : Fin 16, (digs16.data.toList.getD r.val 0).toNat = S.dig r.val := by decide
theorem digs16_at (r : Nat) (h : r < 16) : (digs16[r]'h).toNat = S.dig r := by
  have h1 := digs16_all ⟨r, h⟩
  rw [← h1]
  have hl : r < digs16.data.toList.length := h
  rw [List.getD_eq_getElem?_getD, List.getElem?_eq_getElem hl]
  rfl
theorem pow16 (m : Nat) : (2 : Int) ^ (4 * m) = ((16 ^ m : Nat) : Int) := by
  rw [show (16 : Nat) ^ m = 2 ^ (4 * m) from by rw [Nat.pow_mul]]
  norm_cast
abbrev cN (l : List Nat) : List Value := l.map fun (n : Nat) => Value.int .u8 (n : Int)
set_option maxHeartbeats 400000 in
set_option maxRecDepth 100000 in
theorem rhex_calls (u : Nat) (hu : u < 18446744073709551616) (w : World) :
    Calls Tryz.prog 146 #[.int .u64 (u : Int)] w fun e w' => e = .returned (.string (S.bstr (topN u 16))) ∧ Ext w w' := by
  obtain ⟨i0, hi, hz0, hz1, hz2⟩ := info_parts Tryz.infoU8
  go_enter Tryz.func146, Tryz.ntmps146
  go_wp2
  go_loopw [3, 4] (fun v i wr => ∃ k : Nat, k ≤ 16 ∧ i = .int .i64 (60 - 4 * (k : Int)) ∧ wr.ownsRow w.heap.size 5 1 v k (cN (topN u k)) ∧ Below w.heap.size w wr) (fun _ i _ => (intOf i + 4).toNat)
  case atStart => exact ⟨0, by omega, rfl, World.ownsRow_nil _ _ _ _, Below.refl _ _⟩
  case round =>
    obtain ⟨k, hk, rfl, hown, hB⟩ := hrel
    by_cases hlt : k < 16
    · have e1 : 60 - 4 * k = 4 * (15 - k) := by omega
      have hand : bits BinOp.and IntKind.u64 ((u : Int) / 2 ^ (60 - 4 * k)) 15 = ((u / 16 ^ (15 - k) % 16 : Nat) : Int) := by
        rw [e1, pow16]
        have h := u64_and_nat (u / 16 ^ (15 - k)) 15 (Nat.lt_of_le_of_lt (Nat.div_le_self _ _) hu) (by decide)
        rw [show (u / 16 ^ (15 - k)) &&& 15 = (u / 16 ^ (15 - k)) % 16 from Nat.and_two_pow_sub_one_eq_mod _ 4] at h
        rw [← h, Int.natCast_ediv]
        rfl
      have hr : u / 16 ^ (15 - k) % 16 < 16 := Nat.mod_lt _ (by decide)
      have HT := Lib.hid (topN_succ u k)
      generalize u / 16 ^ (15 - k) % 16 = r at *
      have hd := Lib.hid (digs16_at r hr)
      clear e1
      have hsz := hB.size
      go_wp2_with (at_builtin; (refine wpList_append_own _ rfl _ _ 149 rfl w.heap.size 5 i0 (.int .u8 0) 1 1 Tryz.underlying149 hi hz0 hz1 hz2 rfl (by decide) _ _ _ rfl (hown.alloc _) ⟨wr.heap.size, 0, none⟩ 1 1 [.int .u8 ((digs16[r]'hr).toNat : Int)] rfl rfl (cell_one_new _ _ _) (fun x hx => by simp at hx; subst hx; rfl) (by unfold maxLen; omega) (by omega) (by simp; omega) ?_); intro v' w1 hown' hgrow _)
      go_roundw
      case rel =>
        refine ⟨k + 1, by omega, by go_num, ?_, (hB.alloc hsz _).grown hgrow (by simp; omega) (fun q hq => (hown.lt q hq).1)⟩
        rw [HT.out, ← hd.out]
        show w1.ownsRow w.heap.size _ 1 v' (k + 1) ((topN u k ++ [_]).map _)
        rw [List.map_append]
        exact hown'
      case measure => simp [intOf]; omega
    · obtain rfl : k = 16 := by omega
      obtain ⟨g, cap, hu3⟩ : ∃ g cap, u3 = .slice (some ⟨g, 0, none⟩) 16 cap := by
        rcases hown.2 with ⟨_, h⟩ | ⟨g, cap, cur, hv, _⟩
        · omega
        · exact ⟨g, cap, hv⟩
      subst hu3
      have hcells := hown.cells (g := g) rfl
      have hlen : ((topN u 16).map (fun (n : Nat) => (n : Int))).length = 16 := by rw [List.length_map, topN_len]
      have hcv := run_convert_bytes_arg (P := Tryz.prog) wr 149 5 Tryz.underlying149 Tryz.underlying5 g 0 16 cap ((topN u 16).map (fun (n : Nat) => (n : Int))) hlen (fun i hi' => by
        have hl : i < (topN u 16).length := by rw [topN_len]; exact hi'
        have h := hcells i (.int .u8 (((topN u 16)[i] : Nat) : Int)) (by simp [hl])
        rw [show (⟨g, 0, none⟩ : Addr).add i = ⟨g, 0 + i, none⟩ from by unfold Addr.add; split <;> simp [*]] at h
        rw [h]
        simp [hl]) 9 Tryz.underlying9
      clear hcells hlen hlt
      go_wp2
      go_ret
      refine ⟨?_, hB⟩
      rw [← strOf_nat]
      rfl
end Go.Proofs.YtbbgmlnfpnomiaaGreatDoor
end

section
/- The walk of the reference's ParseHex. -/
namespace Go.Proofs.YtbbgmlnfpnomiaaGreatDoor
open Go.RowKit
def RPEnd (r : Option Nat) : Ending := match r with
  | some n => .returned (.tuple #[cU64 n, .int .i64 0])
  | none => .returned (.tuple #[cU64 0, .int .i64 2])
theorem rDead (l : List Nat) (k : Nat) (hk : k < l.length) {n : Nat} (h : rfold (l.take k) 0 = some n) (hs : rstep n l[k] = none) : rparse l = none := by
  unfold rparse
  split
  · conv => lhs; rw [← List.take_append_drop (k + 1) l]
    rw [rfold_append, List.take_succ_eq_append_getElem hk, rfold_snoc, h, Option.bind_some, hs]
    rfl
  · rfl
theorem rTake (l : List Nat) (k : Nat) (hk : k < l.length) {n : Nat} (h : rfold (l.take k) 0 = some n) : rfold (l.take (k + 1)) 0 = rstep n l[k] := by
  rw [List.take_succ_eq_append_getElem hk, rfold_snoc, h, Option.bind_some]
theorem rstep_dig {n c : Nat} (h : 48 ≤ c ∧ c ≤ 57) : rstep n c = some (n * 16 + (c - 48)) := by
  unfold rstep rv
  rw [if_pos h, Option.map_some]
theorem rstep_let {n c : Nat} (h0 : ¬ (48 ≤ c ∧ c ≤ 57)) (h : 97 ≤ c ∧ c ≤ 102) : rstep n c = some (n * 16 + (c - 87)) := by
  unfold rstep rv
  rw [if_neg h0, if_pos h, Option.map_some]
theorem rstep_no {n c : Nat} (h0 : ¬ (48 ≤ c ∧ c ≤ 57)) (h : ¬ (97 ≤ c ∧ c ≤ 102)) : rstep n c = none := by
  unfold rstep rv
  rw [if_neg h0, if_neg h]
  rfl
theorem or16 (n x : Int) (h0 : 0 ≤ n) (h : n < 1152921504606846976) (hx : 0 ≤ x) (hx' : x < 16) : bits BinOp.or IntKind.u64 (n * 16) x = n * 16 + x := by
  have h1 := u64_or_nat (n.toNat * 16) x.toNat (by omega) (by omega)
  have e1 : ((n.toNat * 16 : Nat) : Int) = n * 16 := by omega
  have e2 : ((x.toNat : Nat) : Int) = x := by omega
  rw [e1, e2] at h1
  rw [h1]
  have h2 : n.toNat * 16 ||| x.toNat = n.toNat * 16 + x.toNat := by
    have := Nat.shiftLeft_add_eq_or_of_lt (i := 4) (b := x.toNat) (by omega) n.toNat
    rw [Nat.shiftLeft_eq] at this
    exact this.symm
  rw [h2]
  omega
set_option maxHeartbeats 1000000 in
set_option maxRecDepth 100000 in
theorem rparse_calls (s : ByteArray) (w : World) :
    Calls Tryz.prog 155 #[.string s] w fun e w' => e = RPEnd (rparse (S.nums s.data.toList)) ∧ Ext w w' := by
  have hnl : (S.nums s.data.toList).length = s.size := by unfold S.nums; rw [List.length_map]; rfl
  by_cases h16 : s.size = 16
  · have h1 : ((s.size : Int) != 16) = false := by rw [h16]; rfl
    have HN := Lib.hid h16
    clear h16
    go_enter Tryz.func155, Tryz.ntmps155
    go_wp2
    go_loop [4, 5] (fun x i => ∃ (k : Nat) (n : Int), k ≤ 16 ∧ x = .int .u64 n ∧ i = .int .i64 k ∧ Hid (rfold ((S.nums s.data.toList).take k) 0 = some n.toNat) ∧ 0 ≤ n ∧ n < 18446744073709551616) (fun _ i => 16 - (intOf i).toNat)
    case atStart => exact ⟨0, 0, by omega, rfl, rfl, rfl, by decide, by decide⟩
    case round =>
      obtain ⟨k, n, hk, rfl, rfl, HF, hn0, hn⟩ := hrel
      by_cases hlt : k < 16
      · have hlt2 : k < s.size := by have := HN.out; omega
        have hbig : n < 1152921504606846976 := by
          have h := (dgs_rfold (S.nums s.data.toList) k (by omega) _ HF.out).2
          have h2 : 16 ^ k ≤ 16 ^ 15 := Nat.pow_le_pow_right (by decide) (by omega)
          omega
        have hb : s[k].toNat < 256 := s[k].toNat_lt
        have hS0 : rstep n.toNat s[k].toNat = none → rparse (S.nums s.data.toList) = none := fun h => rDead _ k (nums_lt s k hlt2) HF.out (by rw [nums_at s k hlt2]; exact h)
        have hT0 : ∀ m, rstep n.toNat s[k].toNat = some m → rfold ((S.nums s.data.toList).take (k + 1)) 0 = some m := fun m h => by rw [rTake _ k (nums_lt s k hlt2) HF.out, nums_at s k hlt2]; exact h
        have HS := Lib.hid hS0
        have HT := Lib.hid hT0
        clear hS0 hT0 hnl
        have hix : ∀ w : World, (Instr.index 9 (.string s) (.int .i64 (k : Int))).run Tryz.prog w = .ok (.int .u8 ((s[k].toNat : Nat) : Int)) w := by
          intro w
          simp [go_sem, hlt2]
        generalize s[k].toNat = c at *
        obtain ⟨q, hq⟩ : ∃ q : Int, q = (c : Int) := ⟨_, rfl⟩
        rw [← hq] at hix
        have hq0 : 0 ≤ q := by omega
        have hq1 : q < 256 := by omega
        have HQ := Lib.hid hq
        clear hq hb
        have hbd : n * 16 < 18446744073709551616 := by omega
        by_cases hd : 48 ≤ q ∧ q ≤ 57
        · obtain ⟨hd1, hd2⟩ := hd
          have HP := Lib.hid (rstep_dig (n := n.toNat) (c := c) (by have := HQ.out; omega))
          have hor := or16 n (q - 48) hn0 hbig (by omega) (by omega)
          go_wp2
          refine ⟨⟨k + 1, n * 16 + (q - 48), by omega, rfl, by go_num, Lib.hid (HT.out _ ?_), by omega, by omega⟩, by simp [intOf]; omega⟩
          have := HQ.out
          rw [HP.out]
          congr 1
          omega
        · have HD := Lib.hid (show ¬ (48 ≤ c ∧ c ≤ 57) by have := HQ.out; omega)
          by_cases hl : 97 ≤ q ∧ q ≤ 102
          · obtain ⟨hl1, hl2⟩ := hl
            have hsp : 57 < q := by omega
            clear hd
            have HP := Lib.hid (rstep_let (n := n.toNat) (c := c) HD.out (by have := HQ.out; omega))
            have hor := or16 n (q - 97 + 10) hn0 hbig (by omega) (by omega)
            go_wp2
            refine ⟨⟨k + 1, n * 16 + (q - 97 + 10), by omega, rfl, by go_num, Lib.hid (HT.out _ ?_), by omega, by omega⟩, by simp [intOf]; omega⟩
            have := HQ.out
            rw [HP.out]
            congr 1
            omega
          · have HP := Lib.hid (rstep_no (n := n.toNat) (c := c) HD.out (by have := HQ.out; omega))
            have hsp : q < 48 ∨ (57 < q ∧ q < 97) ∨ 102 < q := by omega
            clear hd hl
            rcases hsp with hsp | ⟨hsp, hsp2⟩ | hsp
            all_goals
              go_wp2
              go_ret2
              refine ⟨?_, Below.refl _ _⟩
              rw [HS.out HP.out]
              rfl
      · have hk2 : k = 16 := by omega
        have HE := Lib.hid (show rparse (S.nums s.data.toList) = some n.toNat by
          have h := HF.out
          rw [hk2, List.take_of_length_le (by have := HN.out; omega)] at h
          unfold rparse
          rw [if_pos (by have := HN.out; omega), h])
        obtain rfl := hk2
        clear hnl
        go_wp2
        go_ret2
        refine ⟨?_, Below.refl _ _⟩
        rw [HE.out]
        show Ending.returned (.tuple #[.int .u64 n, .int .i64 0]) = Ending.returned (.tuple #[.int .u64 ((n.toNat : Nat) : Int), .int .i64 0])
        rw [Int.toNat_of_nonneg hn0]
  · have h1 : ((s.size : Int) != 16) = true := by rw [bne_iff_ne]; omega
    have HE := Lib.hid (show rparse (S.nums s.data.toList) = none by unfold rparse; rw [if_neg (by omega)])
    clear h16 hnl
    go_enter Tryz.func155, Tryz.ntmps155
    go_wp2
    go_ret2
    refine ⟨?_, Below.refl _ _⟩
    rw [HE.out]
    rfl
end Go.Proofs.YtbbgmlnfpnomiaaGreatDoor
end

section
/- The walk of the reference's parts. -/
set_option linter.unusedVariables false
namespace Go.Proofs.YtbbgmlnfpnomiaaGreatDoor
open Go.RowKit Go.Sort
theorem bs_at (s : ByteArray) (k : Nat) (h : k < (bs s).length) : bs (s.extract k (k + 1)) = [(bs s)[k]] := by
  have e : bs (s.extract k (k + 1)) = ((bs s).drop k).take 1 := by
    simp [bs, ByteArray.data_extract]
  rw [e, List.drop_eq_getElem_cons h]
  rfl
theorem cat_bs (b : List UInt8) (t : ByteArray) : strOf b ++ t = strOf (b ++ bs t) := by
  have : t = strOf (bs t) := rfl
  conv => lhs; rw [this]
  exact strOf_append b (bs t)
set_option maxHeartbeats 2000000 in
set_option maxRecDepth 100000 in
theorem parts_calls (s : ByteArray) (hs : s.size ≤ 1099511627776) (w : World) :
    Calls Tryz.prog 209 #[.string s] w fun e w' => (∃ A c, e = .returned (.slice A (J.parts (bs s)).length c) ∧ Rd w' A (cFs (J.parts (bs s)))) ∧ Ext w w' := by
  obtain ⟨j0, hj, hy0, hy1, hy2⟩ := info_parts bStr
  go_enter Tryz.func209, Tryz.ntmps209
  go_wp2
  go_loopw [3, 4] (fun v i wr => ∃ (k : Nat) (a : List (List UInt8)) (b p : List UInt8) (ps : List (List UInt8)), k ≤ (bs s).length ∧ i = .int .i64 k ∧ J.parts ((bs s).drop k) = p :: ps ∧ a ++ (b ++ p) :: ps = J.parts (bs s) ∧ a.length ≤ k ∧ b.length ≤ k ∧
      wr.ownsRow w.heap.size 9 1 v (a.length + 1) (cFs (a ++ [b])) ∧ Below w.heap.size w wr) (fun _ i _ => (bs s).length - (intOf i).toNat)
  case atStart =>
    cases h : J.parts (bs s) with
    | nil => exact absurd h (J.parts_ne _)
    | cons p ps => exact ⟨0, [], [], p, ps, Nat.zero_le _, rfl, h, rfl, Nat.le_refl _, Nat.le_refl _, World.ownsRow_lit w #[.string ⟨#[]⟩] 1 (Nat.le_refl _) (by decide) rfl, (Below.refl _ _).alloc (Nat.le_refl _) _⟩
  case round =>
    obtain ⟨k, a, b, p, ps, hk, rfl, hp, hx, hla, hlb, hoo, hB⟩ := hrel
    have hks : (bs s).length = s.size := rfl
    by_cases hlt : k < (bs s).length
    · have hixk := hixg s k hlt
      have hdr := List.drop_eq_getElem_cons hlt
      have hlt2 : k < s.size := hlt
      have hat := bs_at s k hlt
      by_cases hc : (bs s)[k] = 44
      · have hc1 : (((bs s)[k].toNat : Int) == 44) = true := by rw [hc]; rfl
        obtain ⟨p', ps', h1, h2⟩ : ∃ p' ps', J.parts ((bs s).drop (k + 1)) = p' :: ps' ∧ (a ++ [b]) ++ ([] ++ p') :: ps' = J.parts (bs s) := by
          rw [hdr, hc, J.parts_comma] at hp
          cases h : J.parts ((bs s).drop (k + 1)) with
          | nil => exact absurd h (J.parts_ne _)
          | cons p' ps' =>
            rw [h] at hp
            injection hp with e1 e2
            refine ⟨p', ps', rfl, ?_⟩
            rw [← hx, ← e1, ← e2]
            simp
        have H1 := Lib.hid h1
        have H2 := Lib.hid h2
        have HOO := Lib.hid hoo
        have HB := Lib.hid hB
        clear hp hx hdr hat hc h1 h2 hoo hB
        generalize (bs s)[k] = c8 at *
        have hsz := HB.out.size
        have hoo2 := HOO.out.alloc (.cells #[.string ⟨#[]⟩] 9)
        go_wp2_with (at_builtin; (refine wpList_append_own _ rfl _ _ 219 rfl w.heap.size 9 j0 (.string ⟨#[]⟩) 1 16 Tryz.underlying219 hj hy0 hy1 hy2 rfl (by decide) _ _ _ rfl hoo2 ⟨wr.heap.size, 0, none⟩ 1 1 [.string ⟨#[]⟩] rfl rfl (cell_one_new _ _ _) (fun x hx => by simp at hx; subst hx; rfl) (by unfold maxLen; omega) (by omega) (by simp; omega) ?_); intro v' w2 hown' hgrow _)
        have hB2 : Below w.heap.size w w2 := (HB.out.alloc hsz _).grown hgrow (by simp; omega) (fun q hq => (HOO.out.lt q hq).1)
        have HO2 := Lib.hid hown'
        have HB2 := Lib.hid hB2
        clear hown' hgrow hB2 hoo2
        go_wp2
        go_roundw
        case rel => exact ⟨k + 1, a ++ [b], [], _, _, hlt, by go_num, H1.out, H2.out, by simp; omega, Nat.zero_le _, by simpa [cFs] using HO2.out, HB2.out⟩
        case measure => simp [intOf]; omega
      · have hc1 : (((bs s)[k].toNat : Int) == 44) = false := by
          have : ¬ ((bs s)[k].toNat : Int) = 44 := fun e => hc (UInt8.toNat_inj.1 (by have : (bs s)[k].toNat = 44 := by omega
                                                                                      exact this))
          simpa using this
        obtain ⟨g, cap, hv⟩ := ownsRow_succ hoo
        subst hv
        have hcell := hoo.cellAt a.length (by omega)
        have hfro := hoo.frozenAt a.length
        rw [show (cFs (a ++ [b]))[a.length]? = some (.string (strOf b)) by simp [cFs]] at hcell
        obtain ⟨p', ps', h1, h2⟩ : ∃ p' ps', J.parts ((bs s).drop (k + 1)) = p' :: ps' ∧ a ++ ((b ++ bs (s.extract k (k + 1))) ++ p') :: ps' = J.parts (bs s) := by
          cases h : J.parts ((bs s).drop (k + 1)) with
          | nil => exact absurd h (J.parts_ne _)
          | cons p' ps' =>
            rw [hdr, J.parts_other hc _ h] at hp
            injection hp with e1 e2
            refine ⟨p', ps', rfl, ?_⟩
            rw [← hx, ← e1, ← e2, hat]
            simp
        have HT := Lib.hid (show (b ++ bs (s.extract k (k + 1))).length ≤ k + 1 by rw [hat]; simp; omega)
        have H1 := Lib.hid h1
        have H2 := Lib.hid h2
        have HOO := Lib.hid hoo
        have HB := Lib.hid hB
        have HCA := Lib.hid (cat_bs b (s.extract k (k + 1)))
        have hbs : (strOf b).size ≤ 1099511627776 := by show b.length ≤ _; omega
        clear hp hx hdr hat hc h1 h2 hoo hB hks
        generalize (bs s)[k] = c8 at *
        go_wp2_with fail
        go_region
        have hst := HOO.out.stored a.length (.string (strOf b ++ s.extract k (k + 1)))
        have hset : (cFs (a ++ [b])).set a.length (.string (strOf b ++ s.extract k (k + 1))) = cFs (a ++ [b ++ bs (s.extract k (k + 1))]) := by
          rw [HCA.out]
          simp [cFs]
        rw [hset] at hst
        have hB2 : Below w.heap.size w (wr.setCell ⟨g, a.length, none⟩ (.string (strOf b ++ s.extract k (k + 1)))).drew := (HB.out.setCell (p := ⟨g, a.length, none⟩) (HOO.out.lt g rfl).1 _).drew
        have HO2 := Lib.hid hst.1
        have HB2 := Lib.hid hB2
        clear hst hset hB2 hcell hfro
        go_wp2
        go_roundw
        case rel => exact ⟨k + 1, a, b ++ bs (s.extract k (k + 1)), p', ps', hlt, by go_num, H1.out, H2.out, by omega, HT.out, HO2.out, HB2.out⟩
        case measure => simp [intOf]; omega
    · obtain rfl : k = (bs s).length := by omega
      rw [List.drop_length] at hp
      injection hp with e1 e2
      subst e1 e2
      rw [List.append_nil] at hx
      obtain ⟨A, c, hv, hrd⟩ := rd_of_own hoo
      have hlen : a.length + 1 = (J.parts (bs s)).length := by rw [← hx]; simp
      rw [hx] at hrd
      have HR := Lib.hid hrd
      have HB := Lib.hid hB
      have HV := Lib.hid hv
      have HL := Lib.hid hlen
      clear hx hoo hB hrd hv hlen
      go_wp2
      go_ret
      exact ⟨⟨A, c, congrArg Ending.returned (HV.out.trans (by rw [HL.out])), HR.out⟩, HB.out⟩
end Go.Proofs.YtbbgmlnfpnomiaaGreatDoor
end
