/- The walk of the law FieldNests. -/
import Derived.Test.YtgomondmogpkeaaGreatDoorLJoins
set_option linter.unusedVariables false
namespace Go.Proofs.YtgomondmogpkeaaGreatDoor
open Go.RowKit
abbrev sX : ByteArray := ⟨#[120]⟩
/-- Fields in fields. -/
def nest (s : ByteArray) : Nat → ByteArray
  | 0 => s
  | n + 1 => strOf (J.join [[120], bs (nest s n)])
theorem nest_len (s : ByteArray) (h : s.size ≤ 200) : ∀ n, n ≤ 4 → (nest s n).size ≤ 200 + 1000 * n := by
  intro n hn
  have key : ∀ t : ByteArray, (strOf (J.join [[120], bs t])).size ≤ 2 * t.size + 3 := fun t => by
    show (J.join [[120], bs t]).length ≤ _
    have := esc_le (bs t)
    have h2 : (bs t).length = t.size := rfl
    rw [J.join, J.join, J.join]
    simp [J.esc, J.esc1, J.special]
    omega
  have h1 := key s
  have h2 := key (nest s 1)
  have h3 := key (nest s 2)
  have h4 := key (nest s 3)
  have e1 : (nest s 1).size ≤ 2 * s.size + 3 := h1
  have e2 : (nest s 2).size ≤ 2 * (nest s 1).size + 3 := h2
  have e3 : (nest s 3).size ≤ 2 * (nest s 2).size + 3 := h3
  have e4 : (nest s 4).size ≤ 2 * (nest s 3).size + 3 := h4
  rcases (show n = 0 ∨ n = 1 ∨ n = 2 ∨ n = 3 ∨ n = 4 by omega) with rfl | rfl | rfl | rfl | rfl
  · show s.size ≤ _; omega
  all_goals omega
theorem nestJ_calls (t : ByteArray) (ht : t.size ≤ 100000) (A : Option Addr) (c : Nat) (w : World) (hA : Rd w A (cStrs [sX, t])) :
    Calls Tryz.prog 16 #[.slice A 2 c] w fun e w' => e = .returned (.string (strOf (J.join [[120], bs t]))) ∧ Ext w w' := by
  have hb := join_le 100000 [sX, t] (by intro s hs; simp at hs; rcases hs with rfl | rfl; decide; exact ht)
  exact join_calls [sX, t] A c w hA (Nat.le_trans hb (by show (2 * 100000 + 1) * 2 ≤ _; decide)) (by show 2 ≤ _; decide) (by intro s hs; simp at hs; rcases hs with rfl | rfl; decide; omega)
theorem nestS_calls (t : ByteArray) (ht : t.size ≤ 100000) (w : World) :
    Calls Tryz.prog 17 #[.string (strOf (J.join [[120], bs t]))] w fun e w' => (∃ A c, e = .returned (.tuple #[.slice A 2 c, .int .i64 0]) ∧ Rd w' A (cStrs [sX, t])) ∧ Ext w w' := by
  have hb := join_le 100000 [sX, t] (by intro s hs; simp at hs; rcases hs with rfl | rfl; decide; exact ht)
  exact splitB_calls [sX, t] (by show 2 ≤ _; decide) (Nat.le_trans hb (by show (2 * 100000 + 1) * 2 ≤ _; decide)) w
set_option maxHeartbeats 4000000 in
set_option maxRecDepth 100000 in
theorem fieldNests_walk (a : List ByteArray) (A : Option Addr) (c : Nat) (deep : Int) (hd0 : 0 ≤ deep) (hd1 : deep < 256) (w : World) (hA : Rd w A (cStrs a)) (hla : a.length ≤ 9223372036854775807)
    (hsa : ∀ s ∈ a, s.size ≤ 9223372036854775807) (hr : RngOk w) (ht : TabOk w) :
    Calls Tryz.prog 7 #[.slice A a.length c, .int .u8 deep] w fun e w' => e = .returned (.bool true) ∧ Ext w w' := by
  have HK := Lib.hid (known1_calls w hr ht)
  have HA := Lib.hid hA
  have HSA := Lib.hid (fun w h => short_calls a A c w h hla hsa)
  clear hr ht hA hsa
  cases ha : shortB a with
  | false =>
    rw [ha] at HSA
    clear ha
    go_enter Tryz.func7, Tryz.ntmps7
    go_wp2_with fail
    refine HK.out.mono ?_
    rintro e w1 ⟨rfl, hx⟩
    have HX := Lib.hid hx
    clear hx
    go_wp2_with fail
    refine (HSA.out _ (HA.out.ext HX.out)).mono ?_
    rintro e w2 ⟨rfl, rfl⟩
    go_wp2
    go_ret
    exact ⟨rfl, HX.out⟩
  | true =>
    rw [ha] at HSA
    obtain ⟨ha1, ha2⟩ := shortB_true ha
    clear ha
    by_cases h8 : 8 < a.length
    · have hb : (8 : Int) < a.length := by omega
      clear h8 ha2
      go_enter Tryz.func7, Tryz.ntmps7
      go_wp2_with fail
      refine HK.out.mono ?_
      rintro e w1 ⟨rfl, hx⟩
      have HX := Lib.hid hx
      clear hx
      go_wp2_with fail
      refine (HSA.out _ (HA.out.ext HX.out)).mono ?_
      rintro e w2 ⟨rfl, rfl⟩
      go_wp2
      go_ret
      exact ⟨rfl, HX.out⟩
    · have hb : (a.length : Int) ≤ 8 := by omega
      have HJA := Lib.hid (fun w h => joinB_calls a ha1 ha2 A c w h)
      have hlen := join_le 200 a ha2
      have HSP := Lib.hid (fun w => splitB_calls a (by omega) (by omega) w)
      have HN1 := Lib.hid (fun (A' : Option Addr) (c' : Nat) (w : World) (h1 : Rd w A' (cStrs a)) (h2 : Rd w A (cStrs a)) => names_same a A' A c' c w h1 h2 hla)
      clear ha2 h8 hlen
      generalize strOf (J.join (a.map bs)) = S at *
      obtain ⟨kn, hkn, hk4⟩ : ∃ kn : Nat, deep % 5 = (kn : Int) ∧ kn ≤ 4 := ⟨(deep % 5).toNat, by omega, by omega⟩
      have HKN := Lib.hid hkn
      by_cases hS : 200 < S.size
      · have hS2 : (200 : Int) < S.size := by omega
        clear hS hkn
        go_enter Tryz.func7, Tryz.ntmps7
        go_wp2_with fail
        refine HK.out.mono ?_
        rintro e w1 ⟨rfl, hx⟩
        have HX := Lib.hid hx
        clear hx
        go_wp2_with fail
        refine (HSA.out _ (HA.out.ext HX.out)).mono ?_
        rintro e w2 ⟨rfl, rfl⟩
        go_wp2_with fail
        refine (HJA.out _ (HA.out.ext HX.out)).mono ?_
        rintro e w2 ⟨rfl, hx⟩
        have HX2 := Lib.hid (HX.out.tr hx)
        clear hx
        go_wp2
        go_ret
        exact ⟨rfl, HX2.out⟩
      · have hS2 : (S.size : Int) ≤ 200 := by omega
        have HNL := Lib.hid (nest_len S (by omega))
        clear hS
        go_enter Tryz.func7, Tryz.ntmps7
        go_wp2_with fail
        refine HK.out.mono ?_
        rintro e w1 ⟨rfl, hx⟩
        have HX := Lib.hid hx
        clear hx
        go_wp2_with fail
        refine (HSA.out _ (HA.out.ext HX.out)).mono ?_
        rintro e w2 ⟨rfl, rfl⟩
        go_wp2_with fail
        refine (HJA.out _ (HA.out.ext HX.out)).mono ?_
        rintro e w2 ⟨rfl, hx⟩
        have HX2 := Lib.hid (HX.out.tr hx)
        clear hx
        go_wp2
        go_loopw [6, 7] (fun s i wr => ∃ k : Nat, k ≤ kn ∧ i = .int .i64 k ∧ s = .string (nest S k) ∧ Ext w2 wr) (fun _ i _ => kn - (intOf i).toNat)
        case atStart => exact ⟨0, Nat.zero_le _, rfl, rfl, Ext.rfl' _⟩
        case round =>
          obtain ⟨k, hk, rfl, rfl, hx⟩ := hrel
          have HXR := Lib.hid hx
          clear hx
          by_cases hlt : k < kn
          · have hns := HNL.out k (by omega)
            have hns2 : (nest S k).size ≤ 100000 := by omega
            have hsucc : nest S (k + 1) = strOf (J.join [[120], bs (nest S k)]) := rfl
            have HSU := Lib.hid hsucc
            have HJ := Lib.hid (fun A c w h => nestJ_calls (nest S k) hns2 A c w h)
            clear hns hsucc
            generalize nest S k = t at *
            go_wp2_with fail
            refine (HJ.out _ _ _ (Rd.fresh wr (cStrs [sX, t]) 9 (0, 0))).mono ?_
            rintro e w3 ⟨rfl, hx⟩
            have HX3 := Lib.hid ((HXR.out.alloc (.cells (cStrs [sX, t]).toArray 9 (0, 0))).tr hx)
            clear hx
            go_wp2
            go_roundw
            case rel => exact ⟨k + 1, by omega, by go_num, by rw [HSU.out], HX3.out⟩
            case measure => simp [intOf]; omega
          · obtain rfl : k = kn := by omega
            go_wp2
            go_loopw [6, 8] (fun s i wr => ∃ j : Nat, j ≤ k ∧ i = .int .i64 j ∧ s = .string (nest S (k - j)) ∧ Ext w2 wr) (fun _ i _ => k - (intOf i).toNat)
            case atStart => exact ⟨0, Nat.zero_le _, rfl, rfl, HXR.out⟩
            case round =>
              obtain ⟨j, hj, rfl, rfl, hx⟩ := hrel
              have HXQ := Lib.hid hx
              clear hx
              by_cases hlt2 : j < k
              · have hns := HNL.out (k - (j + 1)) (by omega)
                have hns2 : (nest S (k - (j + 1))).size ≤ 100000 := by omega
                have hsucc : nest S (k - j) = strOf (J.join [[120], bs (nest S (k - (j + 1)))]) := by
                  rw [show k - j = (k - (j + 1)) + 1 from by omega]
                  rfl
                rw [hsucc]
                have HSP2 := Lib.hid (fun w => nestS_calls (nest S (k - (j + 1))) hns2 w)
                clear hns hsucc
                generalize strOf (J.join [[120], bs (nest S (k - (j + 1)))]) = Z at *
                have HEQ := Lib.hid (rfl : nest S (k - (j + 1)) = nest S (k - (j + 1)))
                obtain ⟨t, ht⟩ : ∃ t, nest S (k - (j + 1)) = t := ⟨_, rfl⟩
                rw [ht] at HSP2 hns2
                have HT := Lib.hid ht
                clear ht HEQ
                go_wp2_with fail
                refine (HSP2.out _).mono ?_
                rintro e w3 ⟨⟨A3, c3, rfl, hl⟩, hx⟩
                obtain ⟨ad, rfl, _, hc0⟩ := hl.at_ (j := 0) (u := .string sX) rfl
                obtain ⟨ad', e', _, hc1⟩ := hl.at_ (j := 1) (u := .string t) rfl
                obtain rfl : ad = ad' := Option.some.inj e'
                rw [show ad.add 0 = ad from by unfold Addr.add; rfl] at hc0
                rw [show ad.add 1 = ⟨ad.block, ad.off + 1, none⟩ from by simp [Addr.add]] at hc1
                have HX3 := Lib.hid (HXQ.out.tr hx)
                have hxx : (sX.toList == [120]) = true := by rw [Lib.toList_data]; rfl
                clear hx hl e'
                generalize sX = xx at *
                go_wp2
                go_roundw
                case rel => exact ⟨j + 1, by omega, by go_num, by rw [HT.out], HX3.out⟩
                case measure => simp [intOf]; omega
              · obtain rfl : j = k := by omega
                have HZ := Lib.hid (show nest S (j - j) = S by rw [Nat.sub_self]; rfl)
                rw [HZ.out]
                go_wp2_with fail
                refine (HSP.out _).mono ?_
                rintro e w3 ⟨⟨A3, c3, rfl, hl⟩, hx⟩
                have HX3 := Lib.hid ((HX2.out.tr HXQ.out).tr hx)
                have HL := Lib.hid hl
                clear hx hl
                go_wp2_with fail
                refine (HN1.out _ _ _ HL.out (HA.out.ext HX3.out)).mono ?_
                rintro e w4 ⟨rfl, hx⟩
                have HX4 := Lib.hid (HX3.out.tr hx)
                clear hx
                go_wp2
                go_ret
                exact ⟨rfl, HX4.out⟩
theorem fieldNests_walk' {w : World} (A : Option Addr) (a : List ByteArray) (c : Nat) (hA : Rd w A (cStrs a)) (hsa : ∀ s ∈ a, s.size ≤ maxLen) (hla : a.length ≤ maxLen) (deep : Int) (wd : (Lit.int .u8 deep).wf = true) (hg : RngOk w ∧ TabOk w) :
    Calls Tryz.prog 7 #[.slice A a.length c, .int .u8 deep] w fun e w' => e = .returned (.bool true) ∧ Ext w w' := by
  have hb := bounds_u8 wd
  exact fieldNests_walk a A c deep (by omega) (by omega) w hA hla hsa hg.1 hg.2
end Go.Proofs.YtgomondmogpkeaaGreatDoor
