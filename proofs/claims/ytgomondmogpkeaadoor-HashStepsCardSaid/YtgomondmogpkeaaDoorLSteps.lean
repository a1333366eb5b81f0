/- The walk of the law HashSteps. -/
import Derived.Test.YtgomondmogpkeaaDoorWStr
import Derived.Test.YtgomondmogpkeaaDoorLaid
namespace Go.Proofs.YtgomondmogpkeaaDoor
open Go.RowKit
theorem two_empty (tag : List UInt8) (a b : Nat) : S.twoN tag a b = S.mixN (S.mixN (S.mixN (S.tagN tag) 0) a) b := by
  rw [S.twoN, S.sumN]
  rfl
theorem sum_empty (tag : List UInt8) : S.sumN tag [] = S.mixN (S.tagN tag) 0 := by
  rw [S.sumN]
  rfl
theorem chain_one (h x : Nat) : S.chainN h x (steps 1) = S.mixN h x := by
  rw [show steps 1 = 1 from by decide, S.chainN, S.chainN]
set_option maxHeartbeats 1000000 in
set_option maxRecDepth 100000 in
theorem hashSteps_walk (tag : ByteArray) (l : List UInt8) (A : Option Addr) (c : Nat) (w : World) (hA : Rd w A (l.map cU8)) (hg : Gl w) (hbt : tag.size ≤ 50) (hbl : l.length ≤ 500) :
    Calls Tryd.prog 7 #[.string tag, .slice A l.length c] w fun e w' => e = .returned (.bool true) ∧ Ext w w' := by
  have HG := Lib.hid hg
  have HA0 := Lib.hid hA
  clear hg hA
  have ht : tag.data.toList.length ≤ 9223372036854775807 := by show tag.size ≤ _; omega
  have HSU := Lib.hid (fun (l : List UInt8) (A : Option Addr) (c : Nat) (w : World) (hA : Rd w A (l.map cU8)) (hl : l.length ≤ 9223372036854775807) => sum_calls tag ht l A c w hA hl)
  have HOF := Lib.hid (fun (s : ByteArray) (hs : s.data.toList.length ≤ 9223372036854775807) (w : World) => of_calls tag s ht hs w)
  have HTW := Lib.hid (fun (w : World) => two_calls tag ht 3 4 (by decide) (by decide) w)
  have HCH := Lib.hid (fun (w : World) => chain_calls tag ht 5 (by decide) 1 w)
  have hb1 : (tag.size : Int) ≤ 50 := by omega
  have hb2 : (l.length : Int) ≤ 500 := by omega
  clear ht
  go_enter Tryd.func7, Tryd.ntmps7
  go_wp2_with fail
  refine (known2_calls _ HG.out).mono ?_
  rintro e w1 ⟨rfl, hx⟩
  have HX1 := Lib.hid hx
  have HA := Lib.hid (HA0.out.ext hx)
  clear hx HA0
  go_wp2_with fail
  go_loop [5, 6] (fun x i => ∃ k : Nat, k ≤ tag.size ∧ x = cU64 (((S.nums tag.data.toList).take k).foldl S.mixN 0) ∧ i = .int .i64 k) (fun _ i => tag.size - (intOf i).toNat)
  case atStart => exact ⟨0, by omega, rfl, rfl⟩
  case round =>
    obtain ⟨k, hk, rfl, rfl⟩ := hrel
    have hx := fold_lt ((S.nums tag.data.toList).take k) 0 (by decide)
    by_cases hlt : k < tag.size
    · have HS := Lib.hid (fold_take tag k hlt 0)
      have hb : (tag[k].toNat : Int) < 256 := by have := tag[k].toNat_lt; omega
      generalize ((S.nums tag.data.toList).take k).foldl S.mixN 0 = F at *
      go_wp2_with fail
      refine (mixN_calls F tag[k].toNat hx (by omega) _).mono ?_
      rintro e w' ⟨rfl, rfl⟩
      go_wp2
      go_round
      case rel => exact ⟨k + 1, by omega, by rw [HS.out], by go_num⟩
      case measure => simp [intOf]; omega
    · obtain rfl : k = tag.size := by omega
      have HT := Lib.hid (show ((S.nums tag.data.toList).take tag.size).foldl S.mixN 0 = (S.nums tag.data.toList).foldl S.mixN 0 by
        rw [List.take_of_length_le]; unfold S.nums; rw [List.length_map]; exact Nat.le_refl _)
      generalize ((S.nums tag.data.toList).take tag.size).foldl S.mixN 0 = F at *
      go_wp2_with fail
      refine (mixN_calls F 256 hx (by decide) _).mono ?_
      rintro e w' ⟨rfl, rfl⟩
      have hF : S.mixN F 256 = S.tagN tag.data.toList := by rw [S.tagN, ← HT.out]
      rw [hF]
      clear hF hx HT hlt hk
      have hg : S.tagN tag.data.toList < 18446744073709551616 := S.tagN_lt _
      have HM0 := Lib.hid (sum_empty tag.data.toList)
      have HM1 := Lib.hid (two_empty tag.data.toList 3 4)
      have HM2 := Lib.hid (show S.sumN tag.data.toList l = S.mixN ((S.nums l).foldl S.mixN (S.tagN tag.data.toList)) l.length by rw [S.sumN])
      generalize S.tagN tag.data.toList = G at *
      go_wp2_with fail
      go_loop [5, 8] (fun x i => ∃ k : Nat, k ≤ l.length ∧ x = cU64 (((l.map UInt8.toNat).take k).foldl S.mixN G) ∧ i = .int .i64 k) (fun _ i => l.length - (intOf i).toNat)
      case atStart => exact ⟨0, by omega, rfl, rfl⟩
      case round =>
        obtain ⟨k, hk, rfl, rfl⟩ := hrel
        have hx := fold_lt ((l.map UInt8.toNat).take k) G hg
        by_cases hlt : k < l.length
        · obtain ⟨ad, rfl, _, hc⟩ := HA.out.at_ (j := k) (u := cU8 l[k]) (by simp [hlt])
          have HS := Lib.hid (fold_snoc G (l.map UInt8.toNat) k (by simpa using hlt))
          generalize ((l.map UInt8.toNat).take k).foldl S.mixN G = H at *
          have hb : (l[k].toNat : Int) < 256 := by have := l[k].toNat_lt; omega
          go_wp2_with fail
          refine (mixN_calls H l[k].toNat hx (by omega) _).mono ?_
          rintro e w' ⟨rfl, rfl⟩
          go_wp2
          go_round
          case rel => exact ⟨k + 1, by omega, by rw [HS.out, List.getElem_map], by go_num⟩
          case measure => simp [intOf]; omega
        · obtain rfl : k = l.length := by omega
          have HS := Lib.hid (show ((l.map UInt8.toNat).take l.length).foldl S.mixN G = (S.nums l).foldl S.mixN G by rw [List.take_of_length_le (by simp), S.nums])
          generalize ((l.map UInt8.toNat).take l.length).foldl S.mixN G = H at *
          go_wp2_with fail
          refine (mixN_calls H l.length hx (by omega) _).mono ?_
          rintro e w' ⟨rfl, rfl⟩
          have hX : S.mixN H l.length = S.sumN tag.data.toList l := by rw [HM2.out, ← HS.out]
          rw [hX]
          clear hX
          go_wp2_with fail
          refine (mixN_calls G 0 hg (by decide) _).mono ?_
          rintro e w' ⟨rfl, rfl⟩
          rw [← HM0.out]
          go_wp2_with fail
          refine (HSU.out l A c _ HA.out (by omega)).mono ?_
          rintro e w2 ⟨rfl, hx2⟩
          have HX2 := Lib.hid (HX1.out.tr hx2)
          have hcv := run_str (P := Tryd.prog) w2 A l c 38 5 9 Tryd.underlying38 Tryd.underlying5 Tryd.underlying9 (HA.out.ext hx2)
          clear hx2
          go_wp2_with fail
          refine (HOF.out (strOf l) (by show l.length ≤ _; omega) _).mono ?_
          rintro e w3 ⟨rfl, hx3⟩
          have HX3 := Lib.hid (HX2.out.tr hx3)
          clear hx3 hcv
          go_wp2_with fail
          refine (HSU.out [] none 0 _ (Rd.nil _ _) (by decide)).mono ?_
          rintro e w4 ⟨rfl, hx4⟩
          have HX4 := Lib.hid (HX3.out.tr hx4)
          clear hx4
          go_wp2_with fail
          refine (HTW.out _).mono ?_
          rintro e w5 ⟨rfl, hx5⟩
          have HX5 := Lib.hid (HX4.out.tr hx5)
          clear hx5
          rw [HM1.out, ← HM0.out]
          have hE : S.sumN tag.data.toList [] < 18446744073709551616 := S.sumN_lt _ _
          generalize S.sumN tag.data.toList [] = E at *
          go_wp2_with fail
          refine (mixN_calls E 3 hE (by decide) _).mono ?_
          rintro e w' ⟨rfl, rfl⟩
          go_wp2_with fail
          refine (mixN_calls (S.mixN E 3) 4 (S.mixN_lt _ _) (by decide) _).mono ?_
          rintro e w' ⟨rfl, rfl⟩
          go_wp2_with fail
          refine (HCH.out _).mono ?_
          rintro e w6 ⟨rfl, hx6⟩
          rw [chain_one]
          have HX6 := Lib.hid (HX5.out.tr hx6)
          clear hx6
          go_wp2_with fail
          refine (mixN_calls E 5 hE (by decide) _).mono ?_
          rintro e w' ⟨rfl, rfl⟩
          go_wp2
          go_ret
          exact ⟨by first | rfl | simp, HX6.out⟩
set_option maxHeartbeats 1000000 in
theorem hashSteps_all (tag : ByteArray) (l : List UInt8) (A : Option Addr) (c : Nat) (w : World) (hA : Rd w A (l.map cU8)) (hg : Gl w) :
    Calls Tryd.prog 7 #[.string tag, .slice A l.length c] w fun e w' => e = .returned (.bool true) ∧ Ext w w' := by
  by_cases hbt : tag.size ≤ 50
  · by_cases hbl : l.length ≤ 500
    · exact hashSteps_walk tag l A c w hA hg hbt hbl
    · have HG := Lib.hid hg
      have hb1 : (tag.size : Int) ≤ 50 := by omega
      have hb2 : (500 : Int) < l.length := by omega
      clear hg hA hbt hbl
      go_enter Tryd.func7, Tryd.ntmps7
      go_wp2_with (go_at_call 8; refine (known2_calls _ HG.out).mono ?_; rintro e w1 ⟨rfl, hx⟩; have HX1 := Lib.hid hx; clear hx)
      go_ret
      exact ⟨rfl, HX1.out⟩
  · have HG := Lib.hid hg
    have hb1 : (50 : Int) < tag.size := by omega
    clear hg hA hbt
    go_enter Tryd.func7, Tryd.ntmps7
    go_wp2_with (go_at_call 8; refine (known2_calls _ HG.out).mono ?_; rintro e w1 ⟨rfl, hx⟩; have HX1 := Lib.hid hx; clear hx)
    go_ret
    exact ⟨rfl, HX1.out⟩
theorem hashSteps_walk' {w : World} (tag : ByteArray) (_wt : tag.size ≤ maxLen) (A : Option Addr) (zs : List Int) (c : Nat) (hr : Rd w A (zs.map (Value.int .u8))) (wz : ∀ n ∈ zs, (Lit.int .u8 n).wf = true) (_hm : zs.length ≤ maxLen) (hg : Gl w) :
    Calls Tryd.prog 7 #[.string tag, .slice A zs.length c] w fun e w' => e = .returned (.bool true) ∧ Ext w w' := by
  have h := hashSteps_all tag (zs.map fun z => UInt8.ofNat z.toNat) A c w (by rw [bytes_of zs wz]; exact hr) hg
  rwa [List.length_map] at h
end Go.Proofs.YtgomondmogpkeaaDoor
