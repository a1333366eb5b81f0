/- The walk of the law KeyTwins. -/
import Derived.Test.YthjldedjllkeeaaGreatDoorKKw
import Derived.Test.YthjldedjllkeeaaGreatDoorKUse
set_option linter.unusedVariables false
set_option linter.unusedSimpArgs false
namespace Go.Proofs.YthjldedjllkeeaaGreatDoor
open Go.RowKit Go.Sort
section
variable {kb : Nat} {seed : Nat} {A : Option Addr} {c : Nat}
theorem tsign_ok (w : World) (hs : seed < 18446744073709551616) (i : Nat) (hi : i < 16) (k : KA w kb 2 seed 4 A c (i : Int) 16) : Calls Tryz.prog 17 #[kP kb, .int .u64 5] w fun e w' => (∃ A' c', e = .returned (.tuple #[.agg (sgV 2 (i : Int) (K.sign (K.secs seed i) 5) A' 4 c').toArray, .int .i64 0]) ∧ Rd w' A' (cDg (K.path 4 (K.pubs seed 4) i)) ∧ (∀ ad, A' = some ad → w.heap.size ≤ ad.block)) ∧ KA w' kb 2 seed 4 A c ((i : Int) + 1) 16 ∧ KG kb w w' := sign_ok w (by decide) 5 (by decide) i hs hi (by omega) k
theorem tsign_spent (w : World) (k : KA w kb 2 seed 4 A c 16 16) : Calls Tryz.prog 17 #[kP kb, .int .u64 5] w fun e w' => e = .returned (.tuple #[.agg sgZ.toArray, .int .i64 14]) ∧ Ext w w' := sign_spent w (by decide) 5 rfl k
theorem tverify (i : Nat) (hi : i < 16) (A : Option Addr) (c : Nat) (w : World) (hA : Rd w A (cDg (K.path 4 (K.pubs seed 4) i))) : Calls Tryz.prog 30 #[cU64 (K.root 4 (K.pubs seed 4)), .agg (sgV 2 (i : Int) (K.sign (K.secs seed i) 5) A 4 c).toArray, .int .u64 5, .int .i64 4] w fun e w' => e = .returned (.bool true) ∧ Ext w w' := verify_own seed 4 i 5 hi (by decide) (by decide) 2 A c w hA
theorem tleft (w : World) (i : Nat) (hi : i < 16) (k : KA w kb 2 seed 4 A c ((i : Int) + 1) 16) : Calls Tryz.prog 27 #[kP kb] w fun e w' => e = .returned (.int .i64 (15 - (i : Int))) ∧ Ext w w' := by
  have h := kleft_calls w (by decide) ⟨by omega, by omega⟩ k
  rw [show ((2 ^ 4 : Nat) : Int) - ((i : Int) + 1) = 15 - (i : Int) by show (16 : Int) - _ = _; omega] at h
  exact h
end
set_option maxRecDepth 100000 in
set_option maxHeartbeats 4000000 in
theorem twins_walk (seed : Nat) (hs : seed < 18446744073709551616) (l : List Nat) (hl : ∀ x ∈ l, x < 18446744073709551616) (A : Option Addr) (c : Nat) (skip : Nat) (w : World) (hA : Rd w A (cDg l)) (hk : KOk w) :
    Calls Tryz.prog 7 #[cU64 seed, .slice A l.length c, .int .u8 (skip : Int)] w fun e w' => e = .returned (.bool true) ∧ Ext w w' := by
  have HKN := Lib.hid (known5_calls w hk.gl hk.rng hk.tok)
  have HNW := Lib.hid (fun W => new_ok 2 (by decide) seed 4 hs (by decide) W)
  have HA := Lib.hid hA
  have HL := Lib.hid hl
  clear hA hk hl
  by_cases hbig : 20 < l.length
  · have hb : (20 : Int) < (l.length : Int) := by omega
    clear hbig
    go_enter Tryz.func7, Tryz.ntmps7
    go_wp2_with fail
    refine HKN.out.mono ?_
    rintro e w1 ⟨rfl, hx⟩
    have HX := Lib.hid hx
    clear hx
    go_wp2
    go_ret
    exact ⟨rfl, HX.out⟩
  · have hb : ¬ ((20 : Int) < (l.length : Int)) := by omega
    have hlen : l.length ≤ 20 := by omega
    clear hbig
    have hz : (skip : Int).tmod 20 = ((skip % 20 : Nat) : Int) := nmod skip 20
    have hz' : (skip : Int) % 20 = ((skip % 20 : Nat) : Int) := nmod' skip 20
    have hz20 : skip % 20 < 20 := Nat.mod_lt _ (by decide)
    generalize skip % 20 = z at *
    go_enter Tryz.func7, Tryz.ntmps7
    go_wp2_with fail
    refine HKN.out.mono ?_
    rintro e W1 ⟨rfl, hx⟩
    have HX := Lib.hid hx
    clear hx HKN
    go_wp2_with fail
    refine (HNW.out _).mono ?_
    rintro e W2 ⟨⟨kb, B, d, rfl, hk, hlo⟩, hx⟩
    have HLO := Lib.hid (show w.heap.size ≤ kb from Nat.le_trans HX.out.size hlo)
    replace HX := Lib.hid (HX.out.tr hx)
    have HK := Lib.hid hk
    clear hk hlo hx HNW
    go_wp2_with fail
    refine (show Calls Tryz.prog 21 #[kP kb, .int .i64 16] W2 fun e w' => e = .returned (.tuple #[.int .i64 16, .int .i64 0]) ∧ KA w' kb 2 seed 4 B d 0 16 ∧ KG kb W2 w' from reserve_ok W2 (by decide) 16 (by decide) ⟨by decide, by decide⟩ (by decide) HK.out).mono ?_
    rintro e W3 ⟨rfl, hk, hx⟩
    replace HX := Lib.hid (HX.out.kg hx HLO.out)
    replace HK := Lib.hid hk
    clear hk hx
    go_wp2_with fail
    refine (ktwin_calls _ HK.out).mono ?_
    rintro e W4 ⟨⟨kt, rfl, hk, hlo⟩, hx⟩
    have HNE := Lib.hid (show kb < kt from Nat.lt_of_lt_of_le HK.out.blk.lt hlo)
    have HLT := Lib.hid (show w.heap.size ≤ kt from Nat.le_trans HX.out.size hlo)
    replace HX := Lib.hid (HX.out.tr hx)
    replace HK := Lib.hid (HK.out.ext hx)
    have HT := Lib.hid hk
    have HAB := Lib.hid HK.out.ap
    have HAT := Lib.hid HT.out.ap
    clear hk hlo hx
    go_wp2_with fail
    go_loopw [10] (fun i wr => ∃ (k : Nat), k ≤ l.length ∧ k ≤ 8 ∧ i = .int .i64 (k : Int) ∧ KA wr kb 2 seed 4 B d (k : Int) 16 ∧ KA wr kt 2 seed 4 B d (k : Int) 16 ∧ Ext w wr) (fun i _ => 8 - (intOf i).toNat)
    case atStart => exact ⟨0, by omega, by omega, rfl, HK.out, HT.out, HX.out⟩
    case round =>
      obtain ⟨k, hk, hk8, rfl, hka, hkt, hE⟩ := hrel
      by_cases hlt : k < l.length ∧ k < 8
      · obtain ⟨hlt, hlt8⟩ := hlt
        obtain ⟨ad, rfl, _, hc⟩ := (HA.out.ext hE).at_ (j := k) (u := cU64 l[k]) (by simp [hlt])
        have hxl := HL.out l[k] (by simp)
        have HAA := Lib.hid (fun W (hx : Ext w W) => by obtain ⟨ad2, e2, _, hc2⟩ := (HA.out.ext hx).at_ (j := k) (u := cU64 l[k]) (by simp [hlt]); cases e2; exact hc2)
        generalize l[k] = x at *
        have hk0 : (k : Int) < (l.length : Int) := by omega
        have hk9 : (k : Int) < 8 := by omega
        have HKA := Lib.hid hka
        have HKT := Lib.hid hkt
        have HE := Lib.hid hE
        clear hka hkt hE hb
        have HC := Lib.hid (sign_ok wr (by decide) x hxl k hs (by show k < 16; omega) (by show (k : Int) < 16; omega) HKA.out)
        go_wp2_with fail
        refine HC.out.mono ?_
        rintro e W3 ⟨⟨A1, c1, rfl, hr1, hat⟩, hka, hx⟩
        have hkt := HKT.out.kg hx (by have := HNE.out; omega) HAB.out
        have HN1 := Lib.hid (show ∀ ad, A1 = some ad → ad.block ≠ kt from fun ad e => by have := hat ad e; have := HKT.out.blk.lt; omega)
        replace HKA := Lib.hid (show KA W3 kb 2 seed 4 B d ((k + 1 : Nat) : Int) 16 by rw [Int.natCast_add]; exact hka)
        replace HKT := Lib.hid hkt
        replace HE := Lib.hid (HE.out.kg hx HLO.out)
        have HR1 := Lib.hid hr1
        clear hx hka hr1 hkt HC hat hc
        have HSM := Lib.hid (fun W A2 c2 h2 h1 => same_own seed 4 k x (by decide) 2 A1 A2 c1 c2 W h1 h2)
        have hone1 := sgV_one 2 (k : Int) (K.sign (K.secs seed k) x) A1 4 c1
        have hlen1 := sgV_len 2 (k : Int) (K.sign (K.secs seed k) x) (own_len _ _ _) A1 4 c1
        have hs1 : (sgV 2 (k : Int) (K.sign (K.secs seed k) x) A1 4 c1)[1]? = some (.int .i64 (k : Int)) := rfl
        generalize sgV 2 (k : Int) (K.sign (K.secs seed k) x) A1 4 c1 = SA at *
        have hc := HAA.out _ HE.out
        have hlt3 := HKT.out.blk.lt
        go_upto_region 16 with (refine wpList_store_new rfl _ _ _ rfl _ _ SA rfl rfl (by rw [hlen1]; rfl) (by rw [hlen1]; rfl) hone1 ?_; intro W5 hX hB; replace HE := Lib.hid (HE.out.tr hX); replace HKA := Lib.hid (HKA.out.ext hX); replace HKT := Lib.hid (HKT.out.ext hX); replace HR1 := Lib.hid (HR1.out.ext hX); have HB1 := Lib.hid hB; have HS1 := Lib.hid (show W3.heap.size ≠ kt from by omega); clear hX hB; generalize W3.heap.size = sb at *)
        clear hc hlt3
        have hc := HAA.out _ HE.out
        have hi21 : (Tryz.prog.info? 39).map (·.size) = some SA.length := by rw [hlen1]; rfl
        clear hone1 hlen1
        have HC := Lib.hid (sign_ok W5 (by decide) x hxl k hs (by show k < 16; omega) (by show (k : Int) < 16; omega) HKT.out)
        go_wp2_with fail
        refine HC.out.mono ?_
        rintro e W6 ⟨⟨A2, c2, rfl, hr2, -⟩, hkt, hx⟩
        have hka := HKA.out.kg hx (by have := HNE.out; omega) HAT.out
        replace HKT := Lib.hid (show KA W6 kt 2 seed 4 B d ((k + 1 : Nat) : Int) 16 by rw [Int.natCast_add]; exact hkt)
        replace HKA := Lib.hid hka
        replace HE := Lib.hid (HE.out.kg hx HLT.out)
        replace HR1 := Lib.hid (HR1.out.kg hx HN1.out)
        replace HB1 := Lib.hid (HB1.out.kg hx HS1.out)
        have HR2 := Lib.hid hr2
        clear hx hka hr2 hkt HC HN1 HS1 hc
        replace HSM := Lib.hid (fun W h2 h1 => HSM.out W A2 c2 h2 h1)
        have hone2 := sgV_one 2 (k : Int) (K.sign (K.secs seed k) x) A2 4 c2
        have hlen2 := sgV_len 2 (k : Int) (K.sign (K.secs seed k) x) (own_len _ _ _) A2 4 c2
        generalize sgV 2 (k : Int) (K.sign (K.secs seed k) x) A2 4 c2 = SB at *
        go_upto_region 17 with (refine wpList_store_new rfl _ _ _ rfl _ _ SB rfl rfl (by rw [hlen2]; rfl) (by rw [hlen2]; rfl) hone2 ?_; intro W7 hX hB; replace HE := Lib.hid (HE.out.tr hX); replace HKA := Lib.hid (HKA.out.ext hX); replace HKT := Lib.hid (HKT.out.ext hX); replace HR1 := Lib.hid (HR1.out.ext hX); replace HR2 := Lib.hid (HR2.out.ext hX); replace HB1 := Lib.hid (HB1.out.ext hX); have HB2 := Lib.hid hB; clear hX hB; generalize W6.heap.size = xb at *)
        have hj21 : (Tryz.prog.info? 39).map (·.size) = some SB.length := by rw [hlen2]; rfl
        clear hone2 hlen2
        have g1 := HB1.out.range
        have g2 := HB2.out.range
        go_wp2_with (first
          | (refine wpList_load_midw (by rfl) _ _ rfl sb 0 rfl SA _ g1 Tryz.underlying39 rfl hi21 ?_)
          | (refine wpList_load_midw (by rfl) _ _ rfl xb 0 rfl SB _ g2 Tryz.underlying39 rfl hj21 ?_))
        refine (HSM.out _ HR2.out HR1.out).mono ?_
        rintro e W8 ⟨rfl, hx⟩
        replace HE := Lib.hid (HE.out.tr hx)
        replace HKA := Lib.hid (HKA.out.ext hx)
        replace HKT := Lib.hid (HKT.out.ext hx)
        have q1 := (HB1.out.ext hx).cell hs1
        have hkk : ((k : Int) == (k : Int)) = true := by simp
        clear hx g1 g2
        go_wp2
        go_roundw
        case rel => exact ⟨k + 1, hlt, hlt8, by go_num, HKA.out, HKT.out, HE.out⟩
        case measure => simp [intOf]; omega
      · have hg : ¬ ((k : Int) < (l.length : Int) ∧ (k : Int) < 8) := by omega
        have HKA := Lib.hid hka
        have HE := Lib.hid hE
        clear hka hkt hE HK HT HX HNE HLT HAB HAT
        by_cases h1 : k < l.length
        · have h1i : (k : Int) < (l.length : Int) := by omega
          have h2i : ¬ ((k : Int) < 8) := by omega
          go_wp2_with fail
          refine (knext_calls _ HKA.out).mono ?_
          rintro e _ ⟨rfl, rfl⟩
          by_cases hge : k ≤ z
          · have hgei : (k : Int) ≤ (z : Int) := by omega
            by_cases hle : z ≤ 16
            · have hlei : (z : Int) ≤ 16 := by omega
              have HC := Lib.hid (skip_ok _ (z : Int) hgei (by show (z : Int) ≤ 16; omega) HKA.out)
              rw [Int.max_eq_left hlei] at HC
              go_wp2_with fail
              refine HC.out.mono ?_
              rintro e W3 ⟨rfl, hka, hx⟩
              replace HKA := Lib.hid hka
              replace HE := Lib.hid (HE.out.kg hx HLO.out)
              clear hx hka HC
              by_cases h16 : z = 16
              · subst h16
                have HC := Lib.hid (tsign_spent _ HKA.out)
                go_wp2_with fail
                refine HC.out.mono ?_
                rintro e W6 ⟨rfl, hx⟩
                replace HE := Lib.hid (HE.out.tr hx)
                clear hx HC HKA
                go_wp2_with (refine wpList_store_new rfl _ _ _ rfl _ _ sgZ rfl rfl rfl rfl sgZ_one ?_; intro W5 hX hB; replace HE := Lib.hid (HE.out.tr hX); clear hX hB)
                go_ret
                exact ⟨rfl, HE.out⟩
              · clear hle hge
                have hz16 : ¬ ((16 : Int) ≤ (z : Int)) := by omega
                have hw15 : IntKind.i64.wrap (15 - (z : Int)) = 15 - (z : Int) := IntWalk.i64_in _ (by omega)
                have HC := Lib.hid (tsign_ok _ hs z (by omega) HKA.out)
                go_wp2_with fail
                refine HC.out.mono ?_
                rintro e W6 ⟨⟨A1, c1, rfl, hr1, -⟩, hka, hx⟩
                replace HKA := Lib.hid hka
                replace HE := Lib.hid (HE.out.kg hx HLO.out)
                have HR1 := Lib.hid hr1
                clear hx hka hr1 HC
                have HVF := Lib.hid (fun W h => tverify (seed := seed) z (by omega) A1 c1 W h)
                have hone1 := sgV_one 2 (z : Int) (K.sign (K.secs seed z) 5) A1 4 c1
                have hlen1 := sgV_len 2 (z : Int) (K.sign (K.secs seed z) 5) (own_len _ _ _) A1 4 c1
                have hs1 : (sgV 2 (z : Int) (K.sign (K.secs seed z) 5) A1 4 c1)[1]? = some (.int .i64 (z : Int)) := rfl
                generalize sgV 2 (z : Int) (K.sign (K.secs seed z) 5) A1 4 c1 = SA at *
                generalize K.path 4 (K.pubs seed 4) z = PT at *
                go_upto_region 29 with (refine wpList_store_new rfl _ _ _ rfl _ _ SA rfl rfl (by rw [hlen1]; rfl) (by rw [hlen1]; rfl) hone1 ?_; intro W7 hX hB; replace HE := Lib.hid (HE.out.tr hX); replace HKA := Lib.hid (HKA.out.ext hX); replace HR1 := Lib.hid (HR1.out.ext hX); have HB := Lib.hid hB; clear hX hB; generalize W6.heap.size = sb at *)
                have hi21 : (Tryz.prog.info? 39).map (·.size) = some SA.length := by rw [hlen1]; rfl
                clear hone1 hlen1
                have HGA := Lib.hid (show ∀ w', (∃ x : ExtW W7, w' = x.1) → w'.rangeAt sb 0 SA from fun w' ⟨x, e⟩ => e ▸ (HB.out.ext x.2).range)
                have p1 : ∀ x : ExtW W7, x.1.cell? ⟨sb, 1, none⟩ = some (.int .i64 (z : Int)) := fun x => (HB.out.ext x.2).cell hs1
                have XR := Lib.hid (fun x : ExtW W7 => kroot_calls x.1 (by decide) (HKA.out.ext x.2))
                have XV := Lib.hid (fun x : ExtW W7 => HVF.out x.1 (HR1.out.ext x.2))
                have XL := Lib.hid (fun x : ExtW W7 => tleft x.1 z (by omega) (HKA.out.ext x.2))
                generalize K.root 4 (K.pubs seed 4) = RT at *
                have hzz : ((z : Int) == (z : Int)) = true := by simp
                have hyy : (15 - (z : Int) == 15 - (z : Int)) = true := by simp
                clear HB HKA HR1 HVF hs1
                refine wp_region_grow (by kernel_rfl) (by kernel_rfl) ?_
                repeat (any_goals (first
                  | (refine wpQuiet_load_mid _ _ rfl (by rfl) sb 0 (by rfl) SA _ HGA.out Tryz.underlying39 rfl hi21 ?_; simp only [Act.put, List.setIfInBounds_toArray, List.set_cons_zero, List.set_cons_succ])
                  | (go_big_quiet_step (first
                    | (go_at_call 28; exact grow_of (XR.out _))
                    | (go_at_call 30; exact grow_of (XV.out _))
                    | (go_at_call 27; exact grow_of (XL.out _))))))
                refine wpQuiet_nil ?_
                rintro W8 ⟨x, hx⟩
                have HFIN := Lib.hid (HE.out.tr (show Ext W7 W8 by rw [hx]; exact x.2))
                clear hx x p1 XR XV XL HGA
                go_wp2
                go_ret
                exact ⟨ret_bool (by first | rfl | simp), HFIN.out⟩
            · have hlei : ¬ ((z : Int) ≤ 16) := by omega
              have HC := Lib.hid (skip_bad _ (z : Int) (.inr (by show (16 : Int) < (z : Int); omega)) HKA.out)
              go_wp2_with fail
              refine HC.out.mono ?_
              rintro e _ ⟨rfl, rfl⟩
              clear HC
              have hz16 : ¬ ((16 : Int) ≤ (k : Int)) := by omega
              have hw15 : IntKind.i64.wrap (15 - (k : Int)) = 15 - (k : Int) := IntWalk.i64_in _ (by omega)
              have HC := Lib.hid (tsign_ok _ hs k (by omega) HKA.out)
              go_wp2_with fail
              refine HC.out.mono ?_
              rintro e W6 ⟨⟨A1, c1, rfl, hr1, -⟩, hka, hx⟩
              replace HKA := Lib.hid hka
              replace HE := Lib.hid (HE.out.kg hx HLO.out)
              have HR1 := Lib.hid hr1
              clear hx hka hr1 HC
              have HVF := Lib.hid (fun W h => tverify (seed := seed) k (by omega) A1 c1 W h)
              have hone1 := sgV_one 2 (k : Int) (K.sign (K.secs seed k) 5) A1 4 c1
              have hlen1 := sgV_len 2 (k : Int) (K.sign (K.secs seed k) 5) (own_len _ _ _) A1 4 c1
              have hs1 : (sgV 2 (k : Int) (K.sign (K.secs seed k) 5) A1 4 c1)[1]? = some (.int .i64 (k : Int)) := rfl
              generalize sgV 2 (k : Int) (K.sign (K.secs seed k) 5) A1 4 c1 = SA at *
              generalize K.path 4 (K.pubs seed 4) k = PT at *
              go_upto_region 29 with (refine wpList_store_new rfl _ _ _ rfl _ _ SA rfl rfl (by rw [hlen1]; rfl) (by rw [hlen1]; rfl) hone1 ?_; intro W7 hX hB; replace HE := Lib.hid (HE.out.tr hX); replace HKA := Lib.hid (HKA.out.ext hX); replace HR1 := Lib.hid (HR1.out.ext hX); have HB := Lib.hid hB; clear hX hB; generalize W6.heap.size = sb at *)
              have hi21 : (Tryz.prog.info? 39).map (·.size) = some SA.length := by rw [hlen1]; rfl
              clear hone1 hlen1
              have HGA := Lib.hid (show ∀ w', (∃ x : ExtW W7, w' = x.1) → w'.rangeAt sb 0 SA from fun w' ⟨x, e⟩ => e ▸ (HB.out.ext x.2).range)
              have p1 : ∀ x : ExtW W7, x.1.cell? ⟨sb, 1, none⟩ = some (.int .i64 (k : Int)) := fun x => (HB.out.ext x.2).cell hs1
              have XR := Lib.hid (fun x : ExtW W7 => kroot_calls x.1 (by decide) (HKA.out.ext x.2))
              have XV := Lib.hid (fun x : ExtW W7 => HVF.out x.1 (HR1.out.ext x.2))
              have XL := Lib.hid (fun x : ExtW W7 => tleft x.1 k (by omega) (HKA.out.ext x.2))
              generalize K.root 4 (K.pubs seed 4) = RT at *
              have hzz : ((k : Int) == (k : Int)) = true := by simp
              have hyy : (15 - (k : Int) == 15 - (k : Int)) = true := by simp
              clear HB HKA HR1 HVF hs1
              refine wp_region_grow (by kernel_rfl) (by kernel_rfl) ?_
              repeat (any_goals (first
                | (refine wpQuiet_load_mid _ _ rfl (by rfl) sb 0 (by rfl) SA _ HGA.out Tryz.underlying39 rfl hi21 ?_; simp only [Act.put, List.setIfInBounds_toArray, List.set_cons_zero, List.set_cons_succ])
                | (go_big_quiet_step (first
                  | (go_at_call 28; exact grow_of (XR.out _))
                  | (go_at_call 30; exact grow_of (XV.out _))
                  | (go_at_call 27; exact grow_of (XL.out _))))))
              refine wpQuiet_nil ?_
              rintro W8 ⟨x, hx⟩
              have HFIN := Lib.hid (HE.out.tr (show Ext W7 W8 by rw [hx]; exact x.2))
              clear hx x p1 XR XV XL HGA
              go_wp2
              go_ret
              exact ⟨ret_bool (by first | rfl | simp), HFIN.out⟩
          · have hgei : ¬ ((k : Int) ≤ (z : Int)) := by omega
            have HC := Lib.hid (skip_bad _ (z : Int) (.inl (by omega)) HKA.out)
            go_wp2_with fail
            refine HC.out.mono ?_
            rintro e _ ⟨rfl, rfl⟩
            clear HC
            have hz16 : ¬ ((16 : Int) ≤ (k : Int)) := by omega
            have hw15 : IntKind.i64.wrap (15 - (k : Int)) = 15 - (k : Int) := IntWalk.i64_in _ (by omega)
            have HC := Lib.hid (tsign_ok _ hs k (by omega) HKA.out)
            go_wp2_with fail
            refine HC.out.mono ?_
            rintro e W6 ⟨⟨A1, c1, rfl, hr1, -⟩, hka, hx⟩
            replace HKA := Lib.hid hka
            replace HE := Lib.hid (HE.out.kg hx HLO.out)
            have HR1 := Lib.hid hr1
            clear hx hka hr1 HC
            have HVF := Lib.hid (fun W h => tverify (seed := seed) k (by omega) A1 c1 W h)
            have hone1 := sgV_one 2 (k : Int) (K.sign (K.secs seed k) 5) A1 4 c1
            have hlen1 := sgV_len 2 (k : Int) (K.sign (K.secs seed k) 5) (own_len _ _ _) A1 4 c1
            have hs1 : (sgV 2 (k : Int) (K.sign (K.secs seed k) 5) A1 4 c1)[1]? = some (.int .i64 (k : Int)) := rfl
            generalize sgV 2 (k : Int) (K.sign (K.secs seed k) 5) A1 4 c1 = SA at *
            generalize K.path 4 (K.pubs seed 4) k = PT at *
            go_upto_region 29 with (refine wpList_store_new rfl _ _ _ rfl _ _ SA rfl rfl (by rw [hlen1]; rfl) (by rw [hlen1]; rfl) hone1 ?_; intro W7 hX hB; replace HE := Lib.hid (HE.out.tr hX); replace HKA := Lib.hid (HKA.out.ext hX); replace HR1 := Lib.hid (HR1.out.ext hX); have HB := Lib.hid hB; clear hX hB; generalize W6.heap.size = sb at *)
            have hi21 : (Tryz.prog.info? 39).map (·.size) = some SA.length := by rw [hlen1]; rfl
            clear hone1 hlen1
            have HGA := Lib.hid (show ∀ w', (∃ x : ExtW W7, w' = x.1) → w'.rangeAt sb 0 SA from fun w' ⟨x, e⟩ => e ▸ (HB.out.ext x.2).range)
            have p1 : ∀ x : ExtW W7, x.1.cell? ⟨sb, 1, none⟩ = some (.int .i64 (k : Int)) := fun x => (HB.out.ext x.2).cell hs1
            have XR := Lib.hid (fun x : ExtW W7 => kroot_calls x.1 (by decide) (HKA.out.ext x.2))
            have XV := Lib.hid (fun x : ExtW W7 => HVF.out x.1 (HR1.out.ext x.2))
            have XL := Lib.hid (fun x : ExtW W7 => tleft x.1 k (by omega) (HKA.out.ext x.2))
            generalize K.root 4 (K.pubs seed 4) = RT at *
            have hzz : ((k : Int) == (k : Int)) = true := by simp
            have hyy : (15 - (k : Int) == 15 - (k : Int)) = true := by simp
            clear HB HKA HR1 HVF hs1
            refine wp_region_grow (by kernel_rfl) (by kernel_rfl) ?_
            repeat (any_goals (first
              | (refine wpQuiet_load_mid _ _ rfl (by rfl) sb 0 (by rfl) SA _ HGA.out Tryz.underlying39 rfl hi21 ?_; simp only [Act.put, List.setIfInBounds_toArray, List.set_cons_zero, List.set_cons_succ])
              | (go_big_quiet_step (first
                | (go_at_call 28; exact grow_of (XR.out _))
                | (go_at_call 30; exact grow_of (XV.out _))
                | (go_at_call 27; exact grow_of (XL.out _))))))
            refine wpQuiet_nil ?_
            rintro W8 ⟨x, hx⟩
            have HFIN := Lib.hid (HE.out.tr (show Ext W7 W8 by rw [hx]; exact x.2))
            clear hx x p1 XR XV XL HGA
            go_wp2
            go_ret
            exact ⟨ret_bool (by first | rfl | simp), HFIN.out⟩
        · have h1i : ¬ ((k : Int) < (l.length : Int)) := by omega
          go_wp2_with fail
          refine (knext_calls _ HKA.out).mono ?_
          rintro e _ ⟨rfl, rfl⟩
          by_cases hge : k ≤ z
          · have hgei : (k : Int) ≤ (z : Int) := by omega
            by_cases hle : z ≤ 16
            · have hlei : (z : Int) ≤ 16 := by omega
              have HC := Lib.hid (skip_ok _ (z : Int) hgei (by show (z : Int) ≤ 16; omega) HKA.out)
              rw [Int.max_eq_left hlei] at HC
              go_wp2_with fail
              refine HC.out.mono ?_
              rintro e W3 ⟨rfl, hka, hx⟩
              replace HKA := Lib.hid hka
              replace HE := Lib.hid (HE.out.kg hx HLO.out)
              clear hx hka HC
              by_cases h16 : z = 16
              · subst h16
                have HC := Lib.hid (tsign_spent _ HKA.out)
                go_wp2_with fail
                refine HC.out.mono ?_
                rintro e W6 ⟨rfl, hx⟩
                replace HE := Lib.hid (HE.out.tr hx)
                clear hx HC HKA
                go_wp2_with (refine wpList_store_new rfl _ _ _ rfl _ _ sgZ rfl rfl rfl rfl sgZ_one ?_; intro W5 hX hB; replace HE := Lib.hid (HE.out.tr hX); clear hX hB)
                go_ret
                exact ⟨rfl, HE.out⟩
              · clear hle hge
                have hz16 : ¬ ((16 : Int) ≤ (z : Int)) := by omega
                have hw15 : IntKind.i64.wrap (15 - (z : Int)) = 15 - (z : Int) := IntWalk.i64_in _ (by omega)
                have HC := Lib.hid (tsign_ok _ hs z (by omega) HKA.out)
                go_wp2_with fail
                refine HC.out.mono ?_
                rintro e W6 ⟨⟨A1, c1, rfl, hr1, -⟩, hka, hx⟩
                replace HKA := Lib.hid hka
                replace HE := Lib.hid (HE.out.kg hx HLO.out)
                have HR1 := Lib.hid hr1
                clear hx hka hr1 HC
                have HVF := Lib.hid (fun W h => tverify (seed := seed) z (by omega) A1 c1 W h)
                have hone1 := sgV_one 2 (z : Int) (K.sign (K.secs seed z) 5) A1 4 c1
                have hlen1 := sgV_len 2 (z : Int) (K.sign (K.secs seed z) 5) (own_len _ _ _) A1 4 c1
                have hs1 : (sgV 2 (z : Int) (K.sign (K.secs seed z) 5) A1 4 c1)[1]? = some (.int .i64 (z : Int)) := rfl
                generalize sgV 2 (z : Int) (K.sign (K.secs seed z) 5) A1 4 c1 = SA at *
                generalize K.path 4 (K.pubs seed 4) z = PT at *
                go_upto_region 29 with (refine wpList_store_new rfl _ _ _ rfl _ _ SA rfl rfl (by rw [hlen1]; rfl) (by rw [hlen1]; rfl) hone1 ?_; intro W7 hX hB; replace HE := Lib.hid (HE.out.tr hX); replace HKA := Lib.hid (HKA.out.ext hX); replace HR1 := Lib.hid (HR1.out.ext hX); have HB := Lib.hid hB; clear hX hB; generalize W6.heap.size = sb at *)
                have hi21 : (Tryz.prog.info? 39).map (·.size) = some SA.length := by rw [hlen1]; rfl
                clear hone1 hlen1
                have HGA := Lib.hid (show ∀ w', (∃ x : ExtW W7, w' = x.1) → w'.rangeAt sb 0 SA from fun w' ⟨x, e⟩ => e ▸ (HB.out.ext x.2).range)
                have p1 : ∀ x : ExtW W7, x.1.cell? ⟨sb, 1, none⟩ = some (.int .i64 (z : Int)) := fun x => (HB.out.ext x.2).cell hs1
                have XR := Lib.hid (fun x : ExtW W7 => kroot_calls x.1 (by decide) (HKA.out.ext x.2))
                have XV := Lib.hid (fun x : ExtW W7 => HVF.out x.1 (HR1.out.ext x.2))
                have XL := Lib.hid (fun x : ExtW W7 => tleft x.1 z (by omega) (HKA.out.ext x.2))
                generalize K.root 4 (K.pubs seed 4) = RT at *
                have hzz : ((z : Int) == (z : Int)) = true := by simp
                have hyy : (15 - (z : Int) == 15 - (z : Int)) = true := by simp
                clear HB HKA HR1 HVF hs1
                refine wp_region_grow (by kernel_rfl) (by kernel_rfl) ?_
                repeat (any_goals (first
                  | (refine wpQuiet_load_mid _ _ rfl (by rfl) sb 0 (by rfl) SA _ HGA.out Tryz.underlying39 rfl hi21 ?_; simp only [Act.put, List.setIfInBounds_toArray, List.set_cons_zero, List.set_cons_succ])
                  | (go_big_quiet_step (first
                    | (go_at_call 28; exact grow_of (XR.out _))
                    | (go_at_call 30; exact grow_of (XV.out _))
                    | (go_at_call 27; exact grow_of (XL.out _))))))
                refine wpQuiet_nil ?_
                rintro W8 ⟨x, hx⟩
                have HFIN := Lib.hid (HE.out.tr (show Ext W7 W8 by rw [hx]; exact x.2))
                clear hx x p1 XR XV XL HGA
                go_wp2
                go_ret
                exact ⟨ret_bool (by first | rfl | simp), HFIN.out⟩
            · have hlei : ¬ ((z : Int) ≤ 16) := by omega
              have HC := Lib.hid (skip_bad _ (z : Int) (.inr (by show (16 : Int) < (z : Int); omega)) HKA.out)
              go_wp2_with fail
              refine HC.out.mono ?_
              rintro e _ ⟨rfl, rfl⟩
              clear HC
              have hz16 : ¬ ((16 : Int) ≤ (k : Int)) := by omega
              have hw15 : IntKind.i64.wrap (15 - (k : Int)) = 15 - (k : Int) := IntWalk.i64_in _ (by omega)
              have HC := Lib.hid (tsign_ok _ hs k (by omega) HKA.out)
              go_wp2_with fail
              refine HC.out.mono ?_
              rintro e W6 ⟨⟨A1, c1, rfl, hr1, -⟩, hka, hx⟩
              replace HKA := Lib.hid hka
              replace HE := Lib.hid (HE.out.kg hx HLO.out)
              have HR1 := Lib.hid hr1
              clear hx hka hr1 HC
              have HVF := Lib.hid (fun W h => tverify (seed := seed) k (by omega) A1 c1 W h)
              have hone1 := sgV_one 2 (k : Int) (K.sign (K.secs seed k) 5) A1 4 c1
              have hlen1 := sgV_len 2 (k : Int) (K.sign (K.secs seed k) 5) (own_len _ _ _) A1 4 c1
              have hs1 : (sgV 2 (k : Int) (K.sign (K.secs seed k) 5) A1 4 c1)[1]? = some (.int .i64 (k : Int)) := rfl
              generalize sgV 2 (k : Int) (K.sign (K.secs seed k) 5) A1 4 c1 = SA at *
              generalize K.path 4 (K.pubs seed 4) k = PT at *
              go_upto_region 29 with (refine wpList_store_new rfl _ _ _ rfl _ _ SA rfl rfl (by rw [hlen1]; rfl) (by rw [hlen1]; rfl) hone1 ?_; intro W7 hX hB; replace HE := Lib.hid (HE.out.tr hX); replace HKA := Lib.hid (HKA.out.ext hX); replace HR1 := Lib.hid (HR1.out.ext hX); have HB := Lib.hid hB; clear hX hB; generalize W6.heap.size = sb at *)
              have hi21 : (Tryz.prog.info? 39).map (·.size) = some SA.length := by rw [hlen1]; rfl
              clear hone1 hlen1
              have HGA := Lib.hid (show ∀ w', (∃ x : ExtW W7, w' = x.1) → w'.rangeAt sb 0 SA from fun w' ⟨x, e⟩ => e ▸ (HB.out.ext x.2).range)
              have p1 : ∀ x : ExtW W7, x.1.cell? ⟨sb, 1, none⟩ = some (.int .i64 (k : Int)) := fun x => (HB.out.ext x.2).cell hs1
              have XR := Lib.hid (fun x : ExtW W7 => kroot_calls x.1 (by decide) (HKA.out.ext x.2))
              have XV := Lib.hid (fun x : ExtW W7 => HVF.out x.1 (HR1.out.ext x.2))
              have XL := Lib.hid (fun x : ExtW W7 => tleft x.1 k (by omega) (HKA.out.ext x.2))
              generalize K.root 4 (K.pubs seed 4) = RT at *
              have hzz : ((k : Int) == (k : Int)) = true := by simp
              have hyy : (15 - (k : Int) == 15 - (k : Int)) = true := by simp
              clear HB HKA HR1 HVF hs1
              refine wp_region_grow (by kernel_rfl) (by kernel_rfl) ?_
              repeat (any_goals (first
                | (refine wpQuiet_load_mid _ _ rfl (by rfl) sb 0 (by rfl) SA _ HGA.out Tryz.underlying39 rfl hi21 ?_; simp only [Act.put, List.setIfInBounds_toArray, List.set_cons_zero, List.set_cons_succ])
                | (go_big_quiet_step (first
                  | (go_at_call 28; exact grow_of (XR.out _))
                  | (go_at_call 30; exact grow_of (XV.out _))
                  | (go_at_call 27; exact grow_of (XL.out _))))))
              refine wpQuiet_nil ?_
              rintro W8 ⟨x, hx⟩
              have HFIN := Lib.hid (HE.out.tr (show Ext W7 W8 by rw [hx]; exact x.2))
              clear hx x p1 XR XV XL HGA
              go_wp2
              go_ret
              exact ⟨ret_bool (by first | rfl | simp), HFIN.out⟩
          · have hgei : ¬ ((k : Int) ≤ (z : Int)) := by omega
            have HC := Lib.hid (skip_bad _ (z : Int) (.inl (by omega)) HKA.out)
            go_wp2_with fail
            refine HC.out.mono ?_
            rintro e _ ⟨rfl, rfl⟩
            clear HC
            have hz16 : ¬ ((16 : Int) ≤ (k : Int)) := by omega
            have hw15 : IntKind.i64.wrap (15 - (k : Int)) = 15 - (k : Int) := IntWalk.i64_in _ (by omega)
            have HC := Lib.hid (tsign_ok _ hs k (by omega) HKA.out)
            go_wp2_with fail
            refine HC.out.mono ?_
            rintro e W6 ⟨⟨A1, c1, rfl, hr1, -⟩, hka, hx⟩
            replace HKA := Lib.hid hka
            replace HE := Lib.hid (HE.out.kg hx HLO.out)
            have HR1 := Lib.hid hr1
            clear hx hka hr1 HC
            have HVF := Lib.hid (fun W h => tverify (seed := seed) k (by omega) A1 c1 W h)
            have hone1 := sgV_one 2 (k : Int) (K.sign (K.secs seed k) 5) A1 4 c1
            have hlen1 := sgV_len 2 (k : Int) (K.sign (K.secs seed k) 5) (own_len _ _ _) A1 4 c1
            have hs1 : (sgV 2 (k : Int) (K.sign (K.secs seed k) 5) A1 4 c1)[1]? = some (.int .i64 (k : Int)) := rfl
            generalize sgV 2 (k : Int) (K.sign (K.secs seed k) 5) A1 4 c1 = SA at *
            generalize K.path 4 (K.pubs seed 4) k = PT at *
            go_upto_region 29 with (refine wpList_store_new rfl _ _ _ rfl _ _ SA rfl rfl (by rw [hlen1]; rfl) (by rw [hlen1]; rfl) hone1 ?_; intro W7 hX hB; replace HE := Lib.hid (HE.out.tr hX); replace HKA := Lib.hid (HKA.out.ext hX); replace HR1 := Lib.hid (HR1.out.ext hX); have HB := Lib.hid hB; clear hX hB; generalize W6.heap.size = sb at *)
            have hi21 : (Tryz.prog.info? 39).map (·.size) = some SA.length := by rw [hlen1]; rfl
            clear hone1 hlen1
            have HGA := Lib.hid (show ∀ w', (∃ x : ExtW W7, w' = x.1) → w'.rangeAt sb 0 SA from fun w' ⟨x, e⟩ => e ▸ (HB.out.ext x.2).range)
            have p1 : ∀ x : ExtW W7, x.1.cell? ⟨sb, 1, none⟩ = some (.int .i64 (k : Int)) := fun x => (HB.out.ext x.2).cell hs1
            have XR := Lib.hid (fun x : ExtW W7 => kroot_calls x.1 (by decide) (HKA.out.ext x.2))
            have XV := Lib.hid (fun x : ExtW W7 => HVF.out x.1 (HR1.out.ext x.2))
            have XL := Lib.hid (fun x : ExtW W7 => tleft x.1 k (by omega) (HKA.out.ext x.2))
            generalize K.root 4 (K.pubs seed 4) = RT at *
            have hzz : ((k : Int) == (k : Int)) = true := by simp
            have hyy : (15 - (k : Int) == 15 - (k : Int)) = true := by simp
            clear HB HKA HR1 HVF hs1
            refine wp_region_grow (by kernel_rfl) (by kernel_rfl) ?_
            repeat (any_goals (first
              | (refine wpQuiet_load_mid _ _ rfl (by rfl) sb 0 (by rfl) SA _ HGA.out Tryz.underlying39 rfl hi21 ?_; simp only [Act.put, List.setIfInBounds_toArray, List.set_cons_zero, List.set_cons_succ])
              | (go_big_quiet_step (first
                | (go_at_call 28; exact grow_of (XR.out _))
                | (go_at_call 30; exact grow_of (XV.out _))
                | (go_at_call 27; exact grow_of (XL.out _))))))
            refine wpQuiet_nil ?_
            rintro W8 ⟨x, hx⟩
            have HFIN := Lib.hid (HE.out.tr (show Ext W7 W8 by rw [hx]; exact x.2))
            clear hx x p1 XR XV XL HGA
            go_wp2
            go_ret
            exact ⟨ret_bool (by first | rfl | simp), HFIN.out⟩
theorem keyTwins_walk' {w : World} (s : Int) (ws : (Lit.int .u64 s).wf = true) (A : Option Addr) (l : List Int) (c : Nat) (hA : Rd w A (l.map (Value.int .u64))) (wl : ∀ n ∈ l, (Lit.int .u64 n).wf = true) (hm : l.length ≤ maxLen) (y : Int) (wy : (Lit.int .u8 y).wf = true) (h : KOk w) :
    Calls Tryz.prog 7 #[.int .u64 s, .slice A l.length c, .int .u8 y] w fun e w' => e = .returned (.bool true) ∧ Ext w w' := by
  have h2 := bounds_u64 ws
  have h4 := bounds_u8 wy
  have h3 := cDg_of wl
  have := twins_walk s.toNat (by omega) (l.map Int.toNat) h3.2 A c y.toNat w (by rw [h3.1]; exact hA) h
  unfold cU64 at this
  rw [Int.toNat_of_nonneg (by omega), Int.toNat_of_nonneg (by omega), List.length_map] at this
  exact this
end Go.Proofs.YthjldedjllkeeaaGreatDoor
