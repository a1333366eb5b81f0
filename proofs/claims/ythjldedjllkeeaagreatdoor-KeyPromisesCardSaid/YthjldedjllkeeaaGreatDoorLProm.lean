/- The walk of the law KeyPromises. -/
import Derived.Test.YthjldedjllkeeaaGreatDoorKKw
import Derived.Test.YthjldedjllkeeaaGreatDoorKUse
set_option linter.unusedVariables false
set_option linter.unusedSimpArgs false
namespace Go.Proofs.YthjldedjllkeeaaGreatDoor
open Go.RowKit Go.Sort
set_option maxRecDepth 100000 in
set_option maxHeartbeats 4000000 in
theorem promises_walk (seed : Nat) (hs : seed < 18446744073709551616) (l : List Nat) (hl : ∀ x ∈ l, x ≤ 255) (A : Option Addr) (c : Nat) (w : World) (hA : Rd w A (c8 l)) (hk : KOk w) :
    Calls Tryz.prog 8 #[cU64 seed, .slice A l.length c] w fun e w' => e = .returned (.bool true) ∧ Ext w w' := by
  have HKN := Lib.hid (known5_calls w hk.gl hk.rng hk.tok)
  have HNW := Lib.hid (fun W => new_ok 0 (by decide) seed 4 hs (by decide) W)
  have HA := Lib.hid hA
  have HL := Lib.hid hl
  clear hA hk hl
  by_cases hbig : 60 < l.length
  · have hb : (60 : Int) < (l.length : Int) := by omega
    clear hbig
    go_enter Tryz.func8, Tryz.ntmps8
    go_wp2_with fail
    refine HKN.out.mono ?_
    rintro e w1 ⟨rfl, hx⟩
    have HX := Lib.hid hx
    clear hx
    go_wp2
    go_ret
    exact ⟨rfl, HX.out⟩
  · have hb : ¬ ((60 : Int) < (l.length : Int)) := by omega
    have hlen : l.length ≤ 60 := by omega
    clear hbig
    go_enter Tryz.func8, Tryz.ntmps8
    go_wp2_with fail
    refine HKN.out.mono ?_
    rintro e W1 ⟨rfl, hx⟩
    have HX := Lib.hid hx
    clear hx HKN
    go_wp2_with fail
    refine (HNW.out _).mono ?_
    rintro e W2 ⟨⟨kb, B, d, rfl, hk, hlo⟩, hx⟩
    have HLO := Lib.hid (show w.heap.size ≤ kb from Nat.le_trans HX.out.size hlo)
    replace HX := Lib.hid (HX.out.tr hx)
    have HK := Lib.hid hk
    clear hk hlo hx HNW
    go_wp2_with fail
    go_loopw [7, 8, 9] (fun vb vn i wr => ∃ (b n k : Nat), n ≤ b ∧ b ≤ 16 ∧ k ≤ l.length ∧ vb = .int .i64 (b : Int) ∧ vn = .int .i64 (n : Int) ∧ i = .int .i64 (k : Int) ∧ KA wr kb 0 seed 4 B d (n : Int) (b : Int) ∧ Ext w wr) (fun _ _ i _ => l.length - (intOf i).toNat)
    case atStart => exact ⟨0, 0, 0, by omega, by omega, by omega, rfl, rfl, rfl, HK.out, HX.out⟩
    case round =>
      obtain ⟨b, n, k, hnb, hb16, hk, rfl, rfl, rfl, hka, hE⟩ := hrel
      by_cases hlt : k < l.length
      · obtain ⟨ad, rfl, _, hc⟩ := (HA.out.ext hE).at_ (j := k) (u := .int .u8 ((l[k] : Nat) : Int)) (by simp [hlt])
        have hx255 := HL.out l[k] (by simp)
        generalize l[k] = x at *
        have hmod : (x : Int) / 3 % 8 < 8 ∧ 0 ≤ (x : Int) / 3 % 8 := by omega
        have HKA := Lib.hid hka
        have HE := Lib.hid hE
        clear hka hE
        by_cases h3 : x % 3 = 0
        · have h3i : (x : Int) % 3 = 0 := by omega
          have hk0 : (k : Int) < (l.length : Int) := by omega
          by_cases hm1 : (x : Int) / 3 % 8 < 1
          · have hmi : ((x : Int) / 3 % 8) < 1 := by omega
            have HC := Lib.hid (reserve_bad (kb := kb) wr ((x : Int) / 3 % 8) hmi)
            clear hm1
            go_wp2_with fail
            refine HC.out.mono ?_
            rintro e _ ⟨rfl, rfl⟩
            go_wp2
            go_roundw
            case rel => exact ⟨b, n, k + 1, by omega, by omega, hlt, rfl, rfl, by go_num, HKA.out, HE.out⟩
            case measure => simp [intOf]; omega
          · have hmi : ¬ (((x : Int) / 3 % 8) < 1) := by omega
            have hwb : IntKind.i64.wrap ((b : Int) + ((x : Int) / 3 % 8)) = (b : Int) + ((x : Int) / 3 % 8) := IntWalk.i64_in _ (by omega)
            by_cases hbm : (16 : Int) < (b : Int) + (x : Int) / 3 % 8
            · have hgt : (16 : Int) < (b : Int) + ((x : Int) / 3 % 8) := by omega
              have HC := Lib.hid (reserve_spent wr (by decide) ((x : Int) / 3 % 8) (by omega) ⟨by omega, by omega⟩ (by show (16 : Int) - (b : Int) < (x : Int) / 3 % 8; omega) HKA.out)
              clear hm1 hbm
              go_wp2_with fail
              refine HC.out.mono ?_
              rintro e W3 ⟨rfl, hx⟩
              replace HKA := Lib.hid (HKA.out.ext hx)
              replace HE := Lib.hid (HE.out.tr hx)
              clear hx
              go_wp2
              go_roundw
              case rel => exact ⟨b, n, k + 1, by omega, by omega, hlt, rfl, rfl, by go_num, HKA.out, HE.out⟩
              case measure => simp [intOf]; omega
            · have hgt : ¬ ((16 : Int) < (b : Int) + ((x : Int) / 3 % 8)) := by omega
              have HC := Lib.hid (reserve_ok wr (by decide) ((x : Int) / 3 % 8) (by omega) ⟨by omega, by omega⟩ (by show ((x : Int) / 3 % 8) ≤ (16 : Int) - (b : Int); omega) HKA.out)
              clear hm1
              go_wp2_with fail
              refine HC.out.mono ?_
              rintro e W3 ⟨rfl, hka, hx⟩
              replace HKA := Lib.hid (show KA W3 kb 0 seed 4 B d (n : Int) ((b + x / 3 % 8 : Nat) : Int) by rw [show ((b + x / 3 % 8 : Nat) : Int) = (b : Int) + (x : Int) / 3 % 8 by omega]; exact hka)
              replace HE := Lib.hid (HE.out.kg hx HLO.out)
              clear hx hka
              have hbb : ((b : Int) + ((x : Int) / 3 % 8) == (b : Int) + ((x : Int) / 3 % 8)) = true := by simp
              go_wp2
              go_roundw
              case rel => exact ⟨b + x / 3 % 8, n, k + 1, by omega, by omega, hlt, by rw [show ((b + x / 3 % 8 : Nat) : Int) = (b : Int) + (x : Int) / 3 % 8 by omega], rfl, by go_num, HKA.out, HE.out⟩
              case measure => simp [intOf]; omega
        · have h3i : ¬ ((x : Int) % 3 = 0) := by omega
          have h3b : ((x : Int) % 3 == 0) = false := beq_eq_false_iff_ne.2 h3i
          have hk0 : (k : Int) < (l.length : Int) := by omega
          have hwk : IntKind.u64.wrap (k : Int) = (k : Int) := IntWalk.u64_in _ (by omega)
          by_cases hn16 : 16 ≤ n
          · obtain rfl : n = 16 := by omega
            have HC := Lib.hid (sign_spent wr (by decide) k rfl HKA.out)
            go_wp2_with fail
            refine HC.out.mono ?_
            rintro e W3 ⟨rfl, hx⟩
            replace HKA := Lib.hid (HKA.out.ext hx)
            replace HE := Lib.hid (HE.out.tr hx)
            clear hx
            go_wp2_with (refine wpList_store_new rfl _ _ _ rfl _ _ sgZ rfl rfl rfl rfl sgZ_one ?_; intro W5 hX hB; replace HE := Lib.hid (HE.out.tr hX); replace HKA := Lib.hid (HKA.out.ext hX); clear hX hB)
            refine (knext_calls _ HKA.out).mono ?_
            rintro e _ ⟨rfl, rfl⟩
            go_wp2
            go_roundw
            case rel => exact ⟨b, 16, k + 1, by omega, by omega, hlt, rfl, rfl, by go_num, HKA.out, HE.out⟩
            case measure => simp [intOf]; omega
          · have hn16i : ¬ ((16 : Int) ≤ (n : Int)) := by omega
            by_cases hbn : b ≤ n
            · have hbni : (b : Int) ≤ (n : Int) := by omega
              have HC := Lib.hid (sign_state wr (by decide) k ⟨by omega, by show (n : Int) < 16; omega⟩ hbni HKA.out)
              clear hbn hn16
              go_wp2_with fail
              refine HC.out.mono ?_
              rintro e W3 ⟨rfl, hx⟩
              replace HKA := Lib.hid (HKA.out.ext hx)
              replace HE := Lib.hid (HE.out.tr hx)
              clear hx
              go_wp2_with (refine wpList_store_new rfl _ _ _ rfl _ _ sgZ rfl rfl rfl rfl sgZ_one ?_; intro W5 hX hB; replace HE := Lib.hid (HE.out.tr hX); replace HKA := Lib.hid (HKA.out.ext hX); clear hX hB)
              refine (knext_calls _ HKA.out).mono ?_
              rintro e _ ⟨rfl, rfl⟩
              go_wp2
              go_roundw
              case rel => exact ⟨b, n, k + 1, by omega, by omega, hlt, rfl, rfl, by go_num, HKA.out, HE.out⟩
              case measure => simp [intOf]; omega
            · have hbni : ¬ ((b : Int) ≤ (n : Int)) := by omega
              have HC := Lib.hid (sign_ok wr (by decide) k (by omega) n hs (by show n < 16; omega) (by omega) HKA.out)
              clear hn16
              go_wp2_with fail
              refine HC.out.mono ?_
              rintro e W3 ⟨⟨A1, c1, rfl, -, -⟩, hka, hx⟩
              replace HKA := Lib.hid (show KA W3 kb 0 seed 4 B d ((n + 1 : Nat) : Int) (b : Int) by rw [Int.natCast_add]; exact hka)
              replace HE := Lib.hid (HE.out.kg hx HLO.out)
              clear hx hka
              have hone1 := sgV_one 0 (n : Int) (K.sign (K.secs seed n) k) A1 4 c1
              have hlen1 := sgV_len 0 (n : Int) (K.sign (K.secs seed n) k) (K.sign_len _ _ (K.secs_len _ _)) A1 4 c1
              have hs1 : (sgV 0 (n : Int) (K.sign (K.secs seed n) k) A1 4 c1)[1]? = some (.int .i64 (n : Int)) := rfl
              generalize sgV 0 (n : Int) (K.sign (K.secs seed n) k) A1 4 c1 = SA at *
              have hwn : IntKind.i64.wrap ((n : Int) + 1) = ((n + 1 : Nat) : Int) := IntWalk.i64_in _ (by omega)
              have hnn : ((n : Int) == (n : Int)) = true := by simp
              go_wp2_with (refine wpList_store_new rfl _ _ _ rfl _ _ SA rfl rfl (by rw [hlen1]; rfl) (by rw [hlen1]; rfl) hone1 ?_; intro W5 hX hB; replace HE := Lib.hid (HE.out.tr hX); replace HKA := Lib.hid (HKA.out.ext hX); have c1 := hB.cell hs1; clear hX hB)
              refine (knext_calls _ HKA.out).mono ?_
              rintro e _ ⟨rfl, rfl⟩
              go_wp2
              go_roundw
              case rel => exact ⟨b, n + 1, k + 1, by omega, by omega, hlt, rfl, by first | rfl | (rw [Int.natCast_add]; rfl), by go_num, HKA.out, HE.out⟩
              case measure => simp [intOf]; omega
      · obtain rfl : k = l.length := by omega
        have hw16 : IntKind.i64.wrap (16 - (n : Int)) = 16 - (n : Int) := IntWalk.i64_in _ (by omega)
        have HF := Lib.hid (show Calls Tryz.prog 27 #[kP kb] wr fun e w' => e = .returned (.int .i64 (16 - (n : Int))) ∧ Ext wr w' from kleft_calls wr (by decide) ⟨by omega, by omega⟩ hka)
        have HE := Lib.hid hE
        clear hka hE
        go_wp2_with fail
        refine HF.out.mono ?_
        rintro e W3 ⟨rfl, hx⟩
        replace HE := Lib.hid (HE.out.tr hx)
        clear hx
        go_wp2
        go_ret
        exact ⟨ret_bool (by first | rfl | simp), HE.out⟩
theorem keyPromises_walk' {w : World} (s : Int) (ws : (Lit.int .u64 s).wf = true) (A : Option Addr) (l : List Int) (c : Nat) (hA : Rd w A (l.map (Value.int .u8))) (wl : ∀ n ∈ l, (Lit.int .u8 n).wf = true) (hm : l.length ≤ maxLen) (h : KOk w) :
    Calls Tryz.prog 8 #[.int .u64 s, .slice A l.length c] w fun e w' => e = .returned (.bool true) ∧ Ext w w' := by
  have h2 := bounds_u64 ws
  have h3 := c8_of wl
  have := promises_walk s.toNat (by omega) (l.map Int.toNat) h3.2 A c w (by rw [h3.1]; exact hA) h
  unfold cU64 at this
  rw [Int.toNat_of_nonneg (by omega), List.length_map] at this
  exact this
end Go.Proofs.YthjldedjllkeeaaGreatDoor
