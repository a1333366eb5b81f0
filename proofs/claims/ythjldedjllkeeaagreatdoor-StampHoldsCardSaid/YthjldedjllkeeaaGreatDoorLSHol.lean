/- The walk of the law StampHolds. -/
import Derived.Test.YthjldedjllkeeaaGreatDoorStW
import Derived.Test.YthjldedjllkeeaaGreatDoorStS
import Derived.Test.YthjldedjllkeeaaGreatDoorStO
import Derived.Test.YthjldedjllkeeaaGreatDoorKUse
set_option linter.unusedVariables false
set_option linter.unusedSimpArgs false
namespace Go.Proofs.YthjldedjllkeeaaGreatDoor
open Go.RowKit Go.Sort
set_option maxRecDepth 100000 in
set_option maxHeartbeats 8000000 in
theorem sholds_walk (seed : Nat) (hs : seed < 18446744073709551616) (y : Nat) (c : Nat) (hc : c < 18446744073709551616) (at_ ot : Int) (hata : I64 at_) (hot : I64 ot) (w : World) (hk : KOk w) :
    Calls Tryz.prog 11 #[cU64 seed, .int .u8 (y : Int), cU64 c, .int .i64 at_, .int .i64 ot] w fun e w' => e = .returned (.bool true) ∧ Ext w w' := by
  have HKN := Lib.hid (known11_calls w hk.gl hk.rng hk.tok)
  have HT := Lib.hid hk.tok
  have HKS := Lib.hid (fun W => keys_calls seed hs 2 (by decide) W)
  have hz : (y : Int).tmod 4 = ((y % 4 : Nat) : Int) := nmod y 4
  have hz' : (y : Int) % 4 = ((y % 4 : Nat) : Int) := nmod' y 4
  have hi4 : y % 4 < 4 := Nat.mod_lt _ (by decide)
  generalize y % 4 = i at *
  have hi4i : (i : Int) < 4 := by omega
  have qS : ∀ (w : World) (a : Addr) (n c : Nat), (binOp .eql 115 (.slice (some a) n c) (.slice none 0 0)).run Tryz.prog w = .ok (.bool false) w := fun w a n c => Lib.run_eql_slice_nil w _ _ (some a) n c 0 0 Tryz.underlying115
  clear hk
  go_enter Tryz.func11, Tryz.ntmps11
  go_wp2_with fail
  refine HKN.out.mono ?_
  rintro e W0 ⟨rfl, hx⟩
  have HX := Lib.hid hx
  clear hx HKN
  go_wp2_with fail
  refine (HKS.out _).mono ?_
  rintro e W1 ⟨⟨kb, A, cc, L, cl, RA, rc, rfl, hl, hra, hks, hlo, hla, haa⟩, hx⟩
  have HLO := Lib.hid (Nat.le_trans HX.out.size (hlo i hi4))
  replace HX := Lib.hid (HX.out.tr hx)
  obtain ⟨aL, rfl, hL1, -⟩ := hl.at_ (j := 0) (u := kP (kb 0)) rfl
  obtain ⟨aR, rfl, hR1, -⟩ := hra.at_ (j := 0) (u := cU64 (kRoot seed 2 0)) rfl
  have HL := Lib.hid hl
  have HRA := Lib.hid hra
  have HAP := Lib.hid (haa aR rfl i hi4)
  have HK := Lib.hid (show KA W1 (kb i) (i : Int) (kSeed seed i) 2 (A i) (cc i) ((0 : Nat) : Int) 4 from hks.ka i hi4)
  have hkl := HK.out.blk.lt
  clear hx hl hra hks hlo hla haa HKS hL1
  go_upto_region 4 with (refine wpList_store_new rfl _ _ _ rfl _ _ (kyV 1 (some aR) 4 rc 2) rfl rfl rfl rfl (kyV_one _ _ _ _ _) ?_; intro W2 hX hB; replace HX := Lib.hid (HX.out.tr hX); replace HL := Lib.hid (HL.out.ext hX); replace HRA := Lib.hid (HRA.out.ext hX); replace HK := Lib.hid (HK.out.ext hX); have HB2 := Lib.hid hB; clear hX hB)
  have hne2 : W1.heap.size ≠ kb i := by omega
  generalize W1.heap.size = b2 at *
  have hi2 : (Tryz.prog.info? 91).map (·.size) = some (kyV 1 (some aR) 4 rc 2).length := rfl
  have hci : ∀ W, Rd W (some aL) (kPs kb 4) → W.cell? (aL.add i) = some (kP (kb i)) := fun W h => by obtain ⟨ad, e, _, hc⟩ := h.at_ (j := i) (u := kP (kb i)) (kPs_at _ _ _ hi4); cases e; exact hc
  go_upto_region 7 with (fail)
  have hc7 := hci _ HL.out
  by_cases hat : 1 ≤ at_ ∧ at_ ≤ 1099511627776
  rotate_left
  · have HM := Lib.hid (smake_when (kP (kb i)) (i : Int) c at_ (by rw [K.whenE, if_neg hat]; decide) W2)
    clear hci
    go_wp2_with fail
    refine HM.out.mono ?_
    rintro e W3 ⟨rfl, hx⟩
    replace HX := Lib.hid (HX.out.tr hx)
    clear hx HM hc7
    go_upto_region 8 with (refine wpList_store_new rfl _ _ _ rfl _ _ stZ rfl rfl rfl rfl stZ_one ?_; intro W4 hX hB; replace HX := Lib.hid (HX.out.tr hX); clear hX hB)
    by_cases h1 : at_ < 1
    · have d1 : decide (at_ < 1) = true := decide_eq_true h1
      go_wp2
      go_ret
      exact ⟨ret_bool (by first | rfl | simp), HX.out⟩
    · have d1 : decide (at_ < 1) = false := decide_eq_false h1
      have h2 : 1099511627776 < at_ := by omega
      have d2 : decide (1099511627776 < at_) = true := decide_eq_true h2
      go_wp2
      go_ret
      exact ⟨ret_bool (by first | rfl | simp), HX.out⟩
  have hwh : K.whenE at_ = 0 := by rw [K.whenE, if_pos hat]
  have n1 : ¬ at_ < 1 := by omega
  have n2 : ¬ 1099511627776 < at_ := by omega
  have HM := Lib.hid (smake_ok (i : Int) (by unfold I64; omega) c hc at_ hwh W2 (HT.out.ext HX.out) (by decide) 0 (kSeed_lt _ _) (by decide) (by decide) HK.out)
  clear hci HK
  go_wp2_with fail
  refine HM.out.mono ?_
  rintro e W3 ⟨⟨A1, c1, rfl, hrd, -⟩, -, hx⟩
  replace HX := Lib.hid (HX.out.kg hx HLO.out)
  replace HRA := Lib.hid (HRA.out.kg hx (by rintro ad e; cases e; exact HAP.out))
  replace HB2 := Lib.hid (HB2.out.kg hx hne2)
  have hb2 := HB2.out.lt
  have hw2 := HX.out.size
  have hpl := K.path_len 2 (K.pubs (kSeed seed i) 2) 0
  have hp3 : ∃ aP, A1 = some aP ∧ aP.block < W3.heap.size := by obtain ⟨ad, e, h1, _⟩ := hrd.at_ (j := 0) (u := (cDg (K.path 2 (K.pubs (kSeed seed i) 2) 0))[0]'(by rw [List.length_map, hpl]; decide)) (List.getElem?_eq_getElem _); exact ⟨ad, e, h1⟩
  obtain ⟨aP, rfl, hP3⟩ := hp3
  have HRD := Lib.hid hrd
  have hR3 : aR.block < W3.heap.size := by obtain ⟨ad, e, h1, _⟩ := HRA.out.at_ (j := 0) (u := cU64 (kRoot seed 2 0)) rfl; cases e; exact h1
  clear hx hrd HL HLO HAP hkl hne2 hc7 hR1 HM
  have hj : ((i : Int) + 1).tmod 4 = (((i + 1) % 4 : Nat) : Int) := by have := nmod (i + 1) 4; push_cast at this ⊢; exact this
  have hj' : ((i : Int) + 1) % 4 = (((i + 1) % 4 : Nat) : Int) := by omega
  have hwi : IntKind.i64.wrap ((i : Int) + 1) = (i : Int) + 1 := IntWalk.i64_in _ (by omega)
  have hji : (i + 1) % 4 < 4 ∧ (i + 1) % 4 ≠ i := by omega
  generalize (i + 1) % 4 = j at *
  have hcw : IntKind.u64.wrap ((c : Int) + 1) = (((c + 1) % 18446744073709551616 : Nat) : Int) := by rw [IntKind.wrap_u64]; omega
  have hc' : (c + 1) % 18446744073709551616 < 18446744073709551616 := Nat.mod_lt _ (by decide)
  generalize (c + 1) % 18446744073709551616 = d at *
  have hD := K.stD_lt c (i : Int) at_
  have HVV := Lib.hid (fun (cmd : Nat) (hcmd : cmd < 18446744073709551616) (who a : Int) (hw : I64 who) (ha : I64 a) W h1 h2 ht => svalid_calls 1 (by decide) (kRoots seed 2 4) (kRoots_lt _ _ _) (some aR) rc 2 cmd hcmd who a hw ha (i : Int) ((0 : Nat) : Int) (K.sign (K.secs (kSeed seed i) 0) (K.stD c (i : Int) at_)) (own_len _ _ _) (own_lt _ _ _) (some aP) c1 (K.path 2 (K.pubs (kSeed seed i) 2) 0) (path_lt _ _ _) W h1 h2 ht)
  have HRV := Lib.hid (fun (cmd : Nat) (hcmd : cmd < 18446744073709551616) (who a : Int) (hw : I64 who) (ha : I64 a) R' r' P' p' W h1 h2 => rvalid_calls 1 (by decide) (kRoots seed 2 4) (kRoots_lt _ _ _) R' r' 2 cmd hcmd who a hw ha (i : Int) ((0 : Nat) : Int) (K.sign (K.secs (kSeed seed i) 0) (K.stD c (i : Int) at_)) (own_len _ _ _) (own_lt _ _ _) P' p' (K.path 2 (K.pubs (kSeed seed i) 2) 0) (path_lt _ _ _) W h1 h2)
  have HOS := Lib.hid (fun (cmd : Nat) (who a : Int) W h => sof_calls cmd who a (i : Int) ((0 : Nat) : Int) (K.sign (K.secs (kSeed seed i) 0) (K.stD c (i : Int) at_)) (own_len _ _ _) (K.path 2 (K.pubs (kSeed seed i) 2) 0) (by rw [hpl]; decide) (some aP) c1 W h)
  have HOK := Lib.hid (fun W h => ofkeys_calls 1 2 (kRoots seed 2 4) (by rw [kRoots_len]; decide) (some aR) rc W h)
  have HE0 : K.validE 1 (kRoots seed 2 4) 2 c (i : Int) at_ (i : Int) ((0 : Nat) : Int) (K.sign (K.secs (kSeed seed i) 0) (K.stD c (i : Int) at_)) (K.path 2 (K.pubs (kSeed seed i) 2) 0) = 0 := validE_own seed 2 i 0 hi4 (by decide) (by decide) c at_ hwh
  have HE7 : K.validE 1 (kRoots seed 2 4) 2 c (j : Int) at_ (i : Int) ((0 : Nat) : Int) (K.sign (K.secs (kSeed seed i) 0) (K.stD c (i : Int) at_)) (K.path 2 (K.pubs (kSeed seed i) 2) 0) = 7 := by
    rw [K.validE, if_pos ⟨by rw [K.whoE, if_pos (by omega)], hwh⟩, sgn_no (by omega)]
    rfl
  rw [kRoots_len, hpl] at HVV HRV
  rw [hpl] at HOS
  rw [kRoots_len] at HOK
  have hwii : I64 (i : Int) := by unfold I64; omega
  have hwj : I64 (j : Int) := by unfold I64; omega
  have hwat : I64 at_ := by unfold I64; omega
  have HV0 := Lib.hid (HVV.out c hc (i : Int) at_ hwii hwat)
  have HV1 := Lib.hid (HVV.out c hc (i : Int) ot hwii hot)
  have HV2 := Lib.hid (HVV.out d hc' (i : Int) at_ hwii hwat)
  have HV3 := Lib.hid (HVV.out c hc (j : Int) at_ hwj hwat)
  have HR1 := Lib.hid (HRV.out c hc (i : Int) ot hwii hot)
  have HR2 := Lib.hid (HRV.out d hc' (i : Int) at_ hwii hwat)
  have HO1 := Lib.hid (HOS.out c (i : Int) ot)
  have HO2 := Lib.hid (HOS.out d (i : Int) at_)
  rw [HE0] at HV0
  rw [HE7] at HV3
  clear HVV HRV HOS HE0 HE7
  have hsl := sgV_len (i : Int) ((0 : Nat) : Int) (K.sign (K.secs (kSeed seed i) 0) (K.stD c (i : Int) at_)) (own_len _ _ _) (some aP) 2 c1
  have hso := sgV_one (i : Int) ((0 : Nat) : Int) (K.sign (K.secs (kSeed seed i) 0) (K.stD c (i : Int) at_)) (some aP) 2 c1
  generalize K.validE 1 (kRoots seed 2 4) 2 c (i : Int) ot (i : Int) ((0 : Nat) : Int) (K.sign (K.secs (kSeed seed i) 0) (K.stD c (i : Int) at_)) (K.path 2 (K.pubs (kSeed seed i) 2) 0) = E1 at *
  generalize K.validE 1 (kRoots seed 2 4) 2 d (i : Int) at_ (i : Int) ((0 : Nat) : Int) (K.sign (K.secs (kSeed seed i) 0) (K.stD c (i : Int) at_)) (K.path 2 (K.pubs (kSeed seed i) 2) 0) = E2 at *
  generalize cDg (K.path 2 (K.pubs (kSeed seed i) 2) 0) = PT at *
  generalize cDg (kRoots seed 2 4) = RT at *
  obtain ⟨SG, hSG⟩ : ∃ SG : Option Addr → Nat → List Value, (fun A' c' => sgV (i : Int) ((0 : Nat) : Int) (K.sign (K.secs (kSeed seed i) 0) (K.stD c (i : Int) at_)) A' 2 c') = SG := ⟨_, rfl⟩
  have hsg : ∀ A' c', sgV (i : Int) ((0 : Nat) : Int) (K.sign (K.secs (kSeed seed i) 0) (K.stD c (i : Int) at_)) A' 2 c' = SG A' c' := fun A' c' => congrFun (congrFun hSG A') c'
  simp only [hsg] at HV0 HV1 HV2 HV3 HR1 HR2 HO1 HO2 hsl hso ⊢
  clear hsg hSG
  have hlen1 := stV_len c (i : Int) at_ _ hsl
  have hlT := stV_len c (i : Int) ot _ hsl
  have hlU := stV_len d (i : Int) at_ _ hsl
  have hlV := stV_len c (j : Int) at_ _ hsl
  have hone1 := stV_one c (i : Int) at_ _ hso
  have hst : (stV c (i : Int) at_ (SG (some aP) c1)).set 2 (.int .i64 ot) = stV c (i : Int) ot (SG (some aP) c1) := rfl
  have hsu : (stV c (i : Int) at_ (SG (some aP) c1)).set 0 (.int .u64 (d : Int)) = stV d (i : Int) at_ (SG (some aP) c1) := rfl
  have hsv : (stV c (i : Int) at_ (SG (some aP) c1)).set 1 (.int .i64 (j : Int)) = stV c (j : Int) at_ (SG (some aP) c1) := rfl
  have hs0 : (stV c (i : Int) at_ (SG (some aP) c1))[0]? = some (cU64 c) := rfl
  have hs1 : (stV c (i : Int) at_ (SG (some aP) c1))[1]? = some (.int .i64 (i : Int)) := rfl
  have hs2 : (stV c (i : Int) at_ (SG (some aP) c1))[2]? = some (.int .i64 at_) := rfl
  obtain ⟨TG, hTG⟩ : ∃ TG : Option Addr → Nat → List Value, (fun A' c' => stV c (i : Int) ot (SG A' c')) = TG := ⟨_, rfl⟩
  have htg : ∀ A' c', stV c (i : Int) ot (SG A' c') = TG A' c' := fun A' c' => congrFun (congrFun hTG A') c'
  obtain ⟨UG, hUG⟩ : ∃ UG : Option Addr → Nat → List Value, (fun A' c' => stV d (i : Int) at_ (SG A' c')) = UG := ⟨_, rfl⟩
  have hug : ∀ A' c', stV d (i : Int) at_ (SG A' c') = UG A' c' := fun A' c' => congrFun (congrFun hUG A') c'
  simp only [htg] at HV1 HR1 HO1 hst hlT
  simp only [hug] at HV2 HR2 HO2 hsu hlU
  obtain ⟨KG, hKG⟩ : ∃ KG : Option Addr → Nat → List Value, (fun A' c' => kyV 1 A' 4 c' 2) = KG := ⟨_, rfl⟩
  have hkg : ∀ A' c', kyV 1 A' 4 c' 2 = KG A' c' := fun A' c' => congrFun (congrFun hKG A') c'
  simp only [hkg] at HV0 HV1 HV2 HV3 HR1 HR2 HOK HB2 hi2 ⊢
  clear htg hTG hug hUG hkg hKG
  generalize stV c (j : Int) at_ (SG (some aP) c1) = SV at *
  generalize stV c (i : Int) at_ (SG (some aP) c1) = SA at *
  go_upto_region 8 with (refine wpList_store_new rfl _ _ _ rfl _ _ (SA) rfl rfl (by rw [hlen1]; rfl) (by rw [hlen1]; rfl) hone1 ?_; intro W4 hX hB; replace HX := Lib.hid (HX.out.tr hX); replace HRA := Lib.hid (HRA.out.ext hX); replace HB2 := Lib.hid (HB2.out.ext hX); replace HRD := Lib.hid (HRD.out.ext hX); have HB3 := Lib.hid hB; clear hX hB)
  have hb3 := HB3.out.lt
  have hN : b2 < W3.heap.size ∧ aP.block < W3.heap.size ∧ aR.block < W3.heap.size ∧ w.heap.size ≤ W3.heap.size := ⟨hb2, hP3, hR3, hw2⟩
  clear hb2 hP3 hR3 hw2
  generalize W3.heap.size = b3 at *
  have hi3 : (Tryz.prog.info? 94).map (·.size) = some SA.length := by rw [hlen1]; rfl
  have hiT : (Tryz.prog.info? 94).map (·.size) = some (TG (some aP) c1).length := by rw [hlT]; rfl
  have hiU : (Tryz.prog.info? 94).map (·.size) = some (UG (some aP) c1).length := by rw [hlU]; rfl
  have hiV : (Tryz.prog.info? 94).map (·.size) = some SV.length := by rw [hlV]; rfl
  go_upto_region 10 with (fail)
  have r2 := HB2.out.range
  have r3 := HB3.out.range
  go_wp2_with (first
    | (refine wpList_load_midw (by rfl) _ _ rfl b2 0 rfl (KG (some aR) rc) _ r2 Tryz.underlying91 rfl hi2 ?_)
    | (refine wpList_load_midw (by rfl) _ _ rfl b3 0 rfl SA _ r3 Tryz.underlying94 rfl hi3 ?_))
  clear r2 r3
  refine (HV0.out _ HRA.out HRD.out (HT.out.ext HX.out)).mono ?_
  rintro e W5 ⟨rfl, hx⟩
  replace HX := Lib.hid (HX.out.tr hx)
  replace HRA := Lib.hid (HRA.out.ext hx)
  replace HB2 := Lib.hid (HB2.out.ext hx)
  replace HRD := Lib.hid (HRD.out.ext hx)
  replace HB3 := Lib.hid (HB3.out.ext hx)
  clear hx HV0
  have r3 := HB3.out.range
  replace hb3 := HB3.out.lt
  go_upto_region 13 with (first
    | (refine wpList_load_mid rfl _ _ rfl b3 0 rfl SA _ r3 Tryz.underlying94 rfl hi3 ?_)
    | (refine wpList_store_new rfl _ _ _ rfl _ _ (SA) rfl rfl (by rw [hlen1]; rfl) (by rw [hlen1]; rfl) hone1 ?_; intro W6 hX hB; replace HX := Lib.hid (HX.out.tr hX); replace HRA := Lib.hid (HRA.out.ext hX); replace HB2 := Lib.hid (HB2.out.ext hX); replace HRD := Lib.hid (HRD.out.ext hX); replace HB3 := Lib.hid (HB3.out.ext hX); have HB5 := Lib.hid hB; clear hX hB))
  clear r3
  have hltb5 : W5.heap.size < W6.heap.size := HB5.out.lt
  have hM : b2 < W5.heap.size ∧ b3 < W5.heap.size ∧ aP.block < W5.heap.size ∧ aR.block < W5.heap.size ∧ w.heap.size ≤ W5.heap.size := by refine ⟨?_, ?_, ?_, ?_, ?_⟩ <;> omega
  generalize W5.heap.size = b5 at *
  obtain ⟨n1, n2, n4, n5, n6⟩ := hM
  have hfx := HB5.out.frozen 2
  have hcx := HB5.out.cell hs2
  have hbx := HB5.out.set 2 (.int .i64 ot)
  rw [hst] at hbx
  have qHB2 := HB2.out.other (x := ⟨b5, 2, none⟩) (show _ ≠ _ by simp only; omega) (.int .i64 ot)
  have qHB3 := HB3.out.other (x := ⟨b5, 2, none⟩) (show _ ≠ _ by simp only; omega) (.int .i64 ot)
  have qHRD := HRD.out.setOther (b := b5) (j := 2) (by rintro ad e; cases e; omega) (.int .i64 ot)
  have qHRA := HRA.out.setOther (b := b5) (j := 2) (by rintro ad e; cases e; omega) (.int .i64 ot)
  have qHX := Below.setCell HX.out (p := ⟨b5, 2, none⟩) n6 (.int .i64 ot)
  have hsz : (W6.setCell ⟨b5, 2, none⟩ (.int .i64 ot)).heap.size = W6.heap.size := by simp [World.setCell]
  have HF := Lib.hid (And.intro hbx (And.intro hsz (And.intro qHB2 (And.intro qHB3 (And.intro qHRD (And.intro qHRA qHX))))))
  clear hbx hsz qHB2 qHB3 qHRD qHRA qHX HB5 HB2 HB3 HRD HRA HX
  go_upto_region 14 with (fail)
  clear hfx hcx
  generalize W6.setCell ⟨b5, 2, none⟩ (.int .i64 ot) = W7 at *
  obtain ⟨hbx, hsz, qHB2, qHB3, qHRD, qHRA, qHX⟩ := HF.out
  clear HF
  have HB2 := Lib.hid qHB2
  have HB3 := Lib.hid qHB3
  have HRD := Lib.hid qHRD
  have HRA := Lib.hid qHRA
  have HX := Lib.hid (show Ext w W7 from qHX)
  have HB5 := Lib.hid hbx
  clear hbx qHB2 qHB3 qHRD qHRA qHX
  have r3 := HB3.out.range
  have kb5 : b5 < W7.heap.size := HB5.out.lt
  replace hb3 := HB3.out.lt
  clear n1 n2 n4 n5 n6 hltb5 hsz
  go_upto_region 15 with (first
    | (refine wpList_load_mid rfl _ _ rfl b3 0 rfl SA _ r3 Tryz.underlying94 rfl hi3 ?_)
    | (refine wpList_store_new rfl _ _ _ rfl _ _ (SA) rfl rfl (by rw [hlen1]; rfl) (by rw [hlen1]; rfl) hone1 ?_; intro W8 hX hB; replace HX := Lib.hid (HX.out.tr hX); replace HRA := Lib.hid (HRA.out.ext hX); replace HB2 := Lib.hid (HB2.out.ext hX); replace HRD := Lib.hid (HRD.out.ext hX); replace HB3 := Lib.hid (HB3.out.ext hX); replace HB5 := Lib.hid (HB5.out.ext hX); have HB6 := Lib.hid hB; clear hX hB))
  clear r3
  have hltb6 : W7.heap.size < W8.heap.size := HB6.out.lt
  have hM : b2 < W7.heap.size ∧ b3 < W7.heap.size ∧ aP.block < W7.heap.size ∧ aR.block < W7.heap.size ∧ w.heap.size ≤ W7.heap.size ∧ b5 < W7.heap.size := by refine ⟨?_, ?_, ?_, ?_, ?_, ?_⟩ <;> omega
  generalize W7.heap.size = b6 at *
  obtain ⟨n1, n2, n4, n5, n6, mb5⟩ := hM
  have hfx := HB6.out.frozen 0
  have hcx := HB6.out.cell hs0
  have hbx := HB6.out.set 0 (.int .u64 (d : Int))
  rw [hsu] at hbx
  have qHB2 := HB2.out.other (x := ⟨b6, 0, none⟩) (show _ ≠ _ by simp only; omega) (.int .u64 (d : Int))
  have qHB3 := HB3.out.other (x := ⟨b6, 0, none⟩) (show _ ≠ _ by simp only; omega) (.int .u64 (d : Int))
  have qHB5 := HB5.out.other (x := ⟨b6, 0, none⟩) (show _ ≠ _ by simp only; omega) (.int .u64 (d : Int))
  have qHRD := HRD.out.setOther (b := b6) (j := 0) (by rintro ad e; cases e; omega) (.int .u64 (d : Int))
  have qHRA := HRA.out.setOther (b := b6) (j := 0) (by rintro ad e; cases e; omega) (.int .u64 (d : Int))
  have qHX := Below.setCell HX.out (p := ⟨b6, 0, none⟩) n6 (.int .u64 (d : Int))
  have hsz : (W8.setCell ⟨b6, 0, none⟩ (.int .u64 (d : Int))).heap.size = W8.heap.size := by simp [World.setCell]
  have HF := Lib.hid (And.intro hbx (And.intro hsz (And.intro qHB2 (And.intro qHB3 (And.intro qHB5 (And.intro qHRD (And.intro qHRA qHX)))))))
  clear hbx hsz qHB2 qHB3 qHB5 qHRD qHRA qHX HB6 HB2 HB3 HB5 HRD HRA HX
  go_upto_region 16 with (fail)
  clear hfx hcx
  generalize W8.setCell ⟨b6, 0, none⟩ (.int .u64 (d : Int)) = W9 at *
  obtain ⟨hbx, hsz, qHB2, qHB3, qHB5, qHRD, qHRA, qHX⟩ := HF.out
  clear HF
  have HB2 := Lib.hid qHB2
  have HB3 := Lib.hid qHB3
  have HB5 := Lib.hid qHB5
  have HRD := Lib.hid qHRD
  have HRA := Lib.hid qHRA
  have HX := Lib.hid (show Ext w W9 from qHX)
  have HB6 := Lib.hid hbx
  clear hbx qHB2 qHB3 qHB5 qHRD qHRA qHX
  have r3 := HB3.out.range
  have kb6 : b6 < W9.heap.size := HB6.out.lt
  replace hb3 := HB3.out.lt
  replace kb5 := HB5.out.lt
  clear n1 n2 n4 n5 n6 hltb6 hsz mb5
  go_upto_region 17 with (first
    | (refine wpList_load_mid rfl _ _ rfl b3 0 rfl SA _ r3 Tryz.underlying94 rfl hi3 ?_)
    | (refine wpList_store_new rfl _ _ _ rfl _ _ (SA) rfl rfl (by rw [hlen1]; rfl) (by rw [hlen1]; rfl) hone1 ?_; intro W10 hX hB; replace HX := Lib.hid (HX.out.tr hX); replace HRA := Lib.hid (HRA.out.ext hX); replace HB2 := Lib.hid (HB2.out.ext hX); replace HRD := Lib.hid (HRD.out.ext hX); replace HB3 := Lib.hid (HB3.out.ext hX); replace HB5 := Lib.hid (HB5.out.ext hX); replace HB6 := Lib.hid (HB6.out.ext hX); have HB7 := Lib.hid hB; clear hX hB))
  clear r3
  have hltb7 : W9.heap.size < W10.heap.size := HB7.out.lt
  have hM : b2 < W9.heap.size ∧ b3 < W9.heap.size ∧ aP.block < W9.heap.size ∧ aR.block < W9.heap.size ∧ w.heap.size ≤ W9.heap.size ∧ b5 < W9.heap.size ∧ b6 < W9.heap.size := by refine ⟨?_, ?_, ?_, ?_, ?_, ?_, ?_⟩ <;> omega
  generalize W9.heap.size = b7 at *
  obtain ⟨n1, n2, n4, n5, n6, mb5, mb6⟩ := hM
  have hfx := HB7.out.frozen 1
  have hcx := HB7.out.cell hs1
  have hbx := HB7.out.set 1 (.int .i64 (j : Int))
  rw [hsv] at hbx
  have qHB2 := HB2.out.other (x := ⟨b7, 1, none⟩) (show _ ≠ _ by simp only; omega) (.int .i64 (j : Int))
  have qHB3 := HB3.out.other (x := ⟨b7, 1, none⟩) (show _ ≠ _ by simp only; omega) (.int .i64 (j : Int))
  have qHB5 := HB5.out.other (x := ⟨b7, 1, none⟩) (show _ ≠ _ by simp only; omega) (.int .i64 (j : Int))
  have qHB6 := HB6.out.other (x := ⟨b7, 1, none⟩) (show _ ≠ _ by simp only; omega) (.int .i64 (j : Int))
  have qHRD := HRD.out.setOther (b := b7) (j := 1) (by rintro ad e; cases e; omega) (.int .i64 (j : Int))
  have qHRA := HRA.out.setOther (b := b7) (j := 1) (by rintro ad e; cases e; omega) (.int .i64 (j : Int))
  have qHX := Below.setCell HX.out (p := ⟨b7, 1, none⟩) n6 (.int .i64 (j : Int))
  have hsz : (W10.setCell ⟨b7, 1, none⟩ (.int .i64 (j : Int))).heap.size = W10.heap.size := by simp [World.setCell]
  have HF := Lib.hid (And.intro hbx (And.intro hsz (And.intro qHB2 (And.intro qHB3 (And.intro qHB5 (And.intro qHB6 (And.intro qHRD (And.intro qHRA qHX))))))))
  clear hbx hsz qHB2 qHB3 qHB5 qHB6 qHRD qHRA qHX HB7 HB2 HB3 HB5 HB6 HRD HRA HX
  go_upto_region 18 with (fail)
  clear hfx hcx
  generalize W10.setCell ⟨b7, 1, none⟩ (.int .i64 (j : Int)) = W11 at *
  obtain ⟨hbx, hsz, qHB2, qHB3, qHB5, qHB6, qHRD, qHRA, qHX⟩ := HF.out
  clear HF
  have HB2 := Lib.hid qHB2
  have HB3 := Lib.hid qHB3
  have HB5 := Lib.hid qHB5
  have HB6 := Lib.hid qHB6
  have HRD := Lib.hid qHRD
  have HRA := Lib.hid qHRA
  have HX := Lib.hid (show Ext w W11 from qHX)
  have HB7 := Lib.hid hbx
  clear hbx qHB2 qHB3 qHB5 qHB6 qHRD qHRA qHX
  have r3 := HB3.out.range
  have kb7 : b7 < W11.heap.size := HB7.out.lt
  replace hb3 := HB3.out.lt
  replace kb5 := HB5.out.lt
  replace kb6 := HB6.out.lt
  clear n1 n2 n4 n5 n6 hltb7 hsz mb5 mb6
  clear r3 hb3 kb5 kb6 kb7 hs0 hs1 hs2 hst hsu hsv hone1 hN
  replace HX := Lib.hid HX.out.drew
  replace HRA := Lib.hid HRA.out.drew
  replace HRD := Lib.hid HRD.out.drew
  replace HB2 := Lib.hid HB2.out.drew
  replace HB5 := Lib.hid HB5.out.drew
  replace HB6 := Lib.hid HB6.out.drew
  replace HB7 := Lib.hid HB7.out.drew
  have HT2 := Lib.hid (show ∀ W, Ext W11.drew W → TOk W from fun W hx => HT.out.ext (Ext.tr HX.out hx))
  have HCE := Lib.hid (show ∀ W, Ext W11.drew W → (W.rangeAt b2 0 (KG (some aR) rc) ∧ W.rangeAt b5 0 (TG (some aP) c1) ∧ W.rangeAt b6 0 (UG (some aP) c1) ∧ W.rangeAt b7 0 SV) from fun W hx => ⟨(HB2.out.ext hx).range, (HB5.out.ext hx).range, (HB6.out.ext hx).range, (HB7.out.ext hx).range⟩)
  have HY := Lib.hid (Ext.rfl' W11.drew)
  clear HB2 HB3 HB5 HB6 HB7
  have HB1 := Lib.hid (show E1 = 0 ∨ ((E1 == 0) = false ∧ ¬ E1 = 0) from by by_cases h : E1 = 0; exact .inl h; exact .inr ⟨beq_eq_false_iff_ne.2 h, h⟩)
  have HB2 := Lib.hid (show E2 = 0 ∨ ((E2 == 0) = false ∧ ¬ E2 = 0) from by by_cases h : E2 = 0; exact .inl h; exact .inr ⟨beq_eq_false_iff_ne.2 h, h⟩)
  rcases HB1.out with rfl | ⟨e1, e1'⟩
  all_goals
    rcases HB2.out with rfl | ⟨e2, e2'⟩
    all_goals
      refine wp_region_held_drew (S := fun W => W.rangeAt b2 0 (KG (some aR) rc) ∧ W.rangeAt b5 0 (TG (some aP) c1) ∧ W.rangeAt b6 0 (UG (some aP) c1) ∧ W.rangeAt b7 0 SV) (by kernel_rfl) (HCE.out _ HY.out) (fun hHeld => ?_)
      generalize W11.drew = Y0 at *
      refine wpAnyH_take (i := 0) (v := .agg (KG (some aR) rc).toArray) (by first | (simp only [List.getElem?_toArray, List.getElem?_cons_zero, List.getElem?_cons_succ]; done) | (simp only [List.getElem?_toArray, List.getElem?_cons_zero, List.getElem?_cons_succ]; rfl)) (by kernel_rfl) (by kernel_rfl) (by kernel_rfl) (by exact fun _ _ _ h => h) (Or.inl ⟨by rfl, fun w' hSw => run_load_mid _ _ _ _ rfl b2 0 (by rfl) _ _ w' hSw.1 Tryz.underlying91 rfl hi2⟩) (by assumption) ?_
      try simp only [Act.put, List.setIfInBounds_toArray, List.set_cons_zero, List.set_cons_succ]
      refine wpAnyH_take (i := 1) (v := .agg (TG (some aP) c1).toArray) (by first | (simp only [List.getElem?_toArray, List.getElem?_cons_zero, List.getElem?_cons_succ]; done) | (simp only [List.getElem?_toArray, List.getElem?_cons_zero, List.getElem?_cons_succ]; rfl)) (by kernel_rfl) (by kernel_rfl) (by kernel_rfl) (by exact fun _ _ _ h => h) (Or.inl ⟨by rfl, fun w' hSw => run_load_mid _ _ _ _ rfl b5 0 (by rfl) _ _ w' hSw.2.1 Tryz.underlying94 rfl hiT⟩) (by assumption) ?_
      try simp only [Act.put, List.setIfInBounds_toArray, List.set_cons_zero, List.set_cons_succ]
      refine wpAnyH_take (i := 4) (v := .agg (KG (some aR) rc).toArray) (by first | (simp only [List.getElem?_toArray, List.getElem?_cons_zero, List.getElem?_cons_succ]; done) | (simp only [List.getElem?_toArray, List.getElem?_cons_zero, List.getElem?_cons_succ]; rfl)) (by kernel_rfl) (by kernel_rfl) (by kernel_rfl) (by exact fun _ _ _ h => h) (Or.inl ⟨by rfl, fun w' hSw => run_load_mid _ _ _ _ rfl b2 0 (by rfl) _ _ w' hSw.1 Tryz.underlying91 rfl hi2⟩) (by assumption) ?_
      try simp only [Act.put, List.setIfInBounds_toArray, List.set_cons_zero, List.set_cons_succ]
      refine wpAnyH_take (i := 6) (v := .agg (TG (some aP) c1).toArray) (by first | (simp only [List.getElem?_toArray, List.getElem?_cons_zero, List.getElem?_cons_succ]; done) | (simp only [List.getElem?_toArray, List.getElem?_cons_zero, List.getElem?_cons_succ]; rfl)) (by kernel_rfl) (by kernel_rfl) (by kernel_rfl) (by exact fun _ _ _ h => h) (Or.inl ⟨by rfl, fun w' hSw => run_load_mid _ _ _ _ rfl b5 0 (by rfl) _ _ w' hSw.2.1 Tryz.underlying94 rfl hiT⟩) (by assumption) ?_
      try simp only [Act.put, List.setIfInBounds_toArray, List.set_cons_zero, List.set_cons_succ]
      refine wpAnyH_ready (rs := [2]) (by kernel_rfl) (by simp) ?_
      refine AllReadyH.cons (by first | (simp only [List.getElem?_toArray, List.getElem?_cons_zero, List.getElem?_cons_succ]; done) | (simp only [List.getElem?_toArray, List.getElem?_cons_zero, List.getElem?_cons_succ]; rfl)) (fun K hK => ?_) AllReadyH.nil
      go_simp
      refine (HV1.out _ (HRA.out.ext HY.out) (HRD.out.ext HY.out) (HT2.out _ HY.out)).mono ?_
      rintro e Y1 ⟨rfl, hx⟩
      replace HY := Lib.hid (HY.out.tr hx)
      try (go_wp2_with fail)
      refine hK.out _ _ (HCE.out _ HY.out) (fun hHeld => ?_)
      clear hx hK K
      try simp only [Act.put, List.setIfInBounds_toArray, List.set_cons_zero, List.set_cons_succ]
      refine wpAnyH_take (i := 3) (v := ?_) (by first | (simp only [List.getElem?_toArray, List.getElem?_cons_zero, List.getElem?_cons_succ]; done) | (simp only [List.getElem?_toArray, List.getElem?_cons_zero, List.getElem?_cons_succ]; rfl)) (by kernel_rfl) (by kernel_rfl) (by kernel_rfl) (by exact fun _ _ _ h => h) (Or.inl ⟨by rfl, ?hy3⟩) (by assumption) ?_
      case hy3 => (intro w' hSw; clear hSw; go_simp; try with_reducible rfl)
      try simp only [Act.put, List.setIfInBounds_toArray, List.set_cons_zero, List.set_cons_succ]
      refine wpAnyH_ready (rs := [5]) (by kernel_rfl) (by simp) ?_
      refine AllReadyH.cons (by first | (simp only [List.getElem?_toArray, List.getElem?_cons_zero, List.getElem?_cons_succ]; done) | (simp only [List.getElem?_toArray, List.getElem?_cons_zero, List.getElem?_cons_succ]; rfl)) (fun K hK => ?_) AllReadyH.nil
      go_simp
      refine (HOK.out _ (HRA.out.ext HY.out)).mono ?_
      rintro e Y2 ⟨⟨R0, r0, rfl, hr, -⟩, hx⟩
      have HKR := Lib.hid (hr)
      clear hr
      replace HY := Lib.hid (HY.out.tr hx)
      try (go_wp2_with fail)
      refine hK.out _ _ (HCE.out _ HY.out) (fun hHeld => ?_)
      clear hx hK K
      try simp only [Act.put, List.setIfInBounds_toArray, List.set_cons_zero, List.set_cons_succ]
      refine wpAnyH_ready (rs := [7]) (by kernel_rfl) (by simp) ?_
      refine AllReadyH.cons (by first | (simp only [List.getElem?_toArray, List.getElem?_cons_zero, List.getElem?_cons_succ]; done) | (simp only [List.getElem?_toArray, List.getElem?_cons_zero, List.getElem?_cons_succ]; rfl)) (fun K hK => ?_) AllReadyH.nil
      go_simp
      refine (HO1.out _ (HRD.out.ext HY.out)).mono ?_
      rintro e Y3 ⟨⟨P0, p0, rfl, hr, -⟩, hx⟩
      have HPR := Lib.hid (hr)
      replace HKR := Lib.hid (HKR.out.ext hx)
      clear hr
      replace HY := Lib.hid (HY.out.tr hx)
      try (go_wp2_with fail)
      refine hK.out _ _ (HCE.out _ HY.out) (fun hHeld => ?_)
      clear hx hK K
      try simp only [Act.put, List.setIfInBounds_toArray, List.set_cons_zero, List.set_cons_succ]
      refine wpAnyH_ready (rs := [8]) (by kernel_rfl) (by simp) ?_
      refine AllReadyH.cons (by first | (simp only [List.getElem?_toArray, List.getElem?_cons_zero, List.getElem?_cons_succ]; done) | (simp only [List.getElem?_toArray, List.getElem?_cons_zero, List.getElem?_cons_succ]; rfl)) (fun K hK => ?_) AllReadyH.nil
      go_simp
      refine (HR1.out _ _ _ _ _ HKR.out HPR.out).mono ?_
      rintro e Y4 ⟨rfl, hx⟩
      clear HKR HPR
      replace HY := Lib.hid (HY.out.tr hx)
      try (go_wp2_with fail)
      refine hK.out _ _ (HCE.out _ HY.out) (fun hHeld => ?_)
      clear hx hK K
      try simp only [Act.put, List.setIfInBounds_toArray, List.set_cons_zero, List.set_cons_succ]
      refine wpAnyH_take (i := 9) (v := ?_) (by first | (simp only [List.getElem?_toArray, List.getElem?_cons_zero, List.getElem?_cons_succ]; done) | (simp only [List.getElem?_toArray, List.getElem?_cons_zero, List.getElem?_cons_succ]; rfl)) (by kernel_rfl) (by kernel_rfl) (by kernel_rfl) (by exact fun _ _ _ h => h) (Or.inl ⟨by rfl, ?hy9⟩) (by assumption) ?_
      case hy9 => (intro w' hSw; clear hSw; go_simp; try with_reducible rfl)
      try simp only [Act.put, List.setIfInBounds_toArray, List.set_cons_zero, List.set_cons_succ]
      refine wpAnyH_take (i := 10) (v := ?_) (by first | (simp only [List.getElem?_toArray, List.getElem?_cons_zero, List.getElem?_cons_succ]; done) | (simp only [List.getElem?_toArray, List.getElem?_cons_zero, List.getElem?_cons_succ]; rfl)) (by kernel_rfl) (by kernel_rfl) (by kernel_rfl) (by exact fun _ _ _ h => h) (Or.inl ⟨by rfl, ?hy10⟩) (by assumption) ?_
      case hy10 => (intro w' hSw; clear hSw; go_simp; try with_reducible rfl)
      try simp only [Act.put, List.setIfInBounds_toArray, List.set_cons_zero, List.set_cons_succ]
      refine wpAnyH_take (i := 11) (v := ?_) (by first | (simp only [List.getElem?_toArray, List.getElem?_cons_zero, List.getElem?_cons_succ]; done) | (simp only [List.getElem?_toArray, List.getElem?_cons_zero, List.getElem?_cons_succ]; rfl)) (by kernel_rfl) (by kernel_rfl) (by kernel_rfl) (by exact fun _ _ _ h => h) (Or.inl ⟨by rfl, ?hy11⟩) (by assumption) ?_
      case hy11 => (intro w' hSw; clear hSw; go_simp; try with_reducible rfl)
      try simp only [Act.put, List.setIfInBounds_toArray, List.set_cons_zero, List.set_cons_succ]
      refine wpAnyH_take (i := 12) (v := .agg (KG (some aR) rc).toArray) (by first | (simp only [List.getElem?_toArray, List.getElem?_cons_zero, List.getElem?_cons_succ]; done) | (simp only [List.getElem?_toArray, List.getElem?_cons_zero, List.getElem?_cons_succ]; rfl)) (by kernel_rfl) (by kernel_rfl) (by kernel_rfl) (by exact fun _ _ _ h => h) (Or.inl ⟨by rfl, fun w' hSw => run_load_mid _ _ _ _ rfl b2 0 (by rfl) _ _ w' hSw.1 Tryz.underlying91 rfl hi2⟩) (by assumption) ?_
      try simp only [Act.put, List.setIfInBounds_toArray, List.set_cons_zero, List.set_cons_succ]
      refine wpAnyH_take (i := 13) (v := .agg (UG (some aP) c1).toArray) (by first | (simp only [List.getElem?_toArray, List.getElem?_cons_zero, List.getElem?_cons_succ]; done) | (simp only [List.getElem?_toArray, List.getElem?_cons_zero, List.getElem?_cons_succ]; rfl)) (by kernel_rfl) (by kernel_rfl) (by kernel_rfl) (by exact fun _ _ _ h => h) (Or.inl ⟨by rfl, fun w' hSw => run_load_mid _ _ _ _ rfl b6 0 (by rfl) _ _ w' hSw.2.2.1 Tryz.underlying94 rfl hiU⟩) (by assumption) ?_
      try simp only [Act.put, List.setIfInBounds_toArray, List.set_cons_zero, List.set_cons_succ]
      refine wpAnyH_take (i := 16) (v := .agg (KG (some aR) rc).toArray) (by first | (simp only [List.getElem?_toArray, List.getElem?_cons_zero, List.getElem?_cons_succ]; done) | (simp only [List.getElem?_toArray, List.getElem?_cons_zero, List.getElem?_cons_succ]; rfl)) (by kernel_rfl) (by kernel_rfl) (by kernel_rfl) (by exact fun _ _ _ h => h) (Or.inl ⟨by rfl, fun w' hSw => run_load_mid _ _ _ _ rfl b2 0 (by rfl) _ _ w' hSw.1 Tryz.underlying91 rfl hi2⟩) (by assumption) ?_
      try simp only [Act.put, List.setIfInBounds_toArray, List.set_cons_zero, List.set_cons_succ]
      refine wpAnyH_take (i := 18) (v := .agg (UG (some aP) c1).toArray) (by first | (simp only [List.getElem?_toArray, List.getElem?_cons_zero, List.getElem?_cons_succ]; done) | (simp only [List.getElem?_toArray, List.getElem?_cons_zero, List.getElem?_cons_succ]; rfl)) (by kernel_rfl) (by kernel_rfl) (by kernel_rfl) (by exact fun _ _ _ h => h) (Or.inl ⟨by rfl, fun w' hSw => run_load_mid _ _ _ _ rfl b6 0 (by rfl) _ _ w' hSw.2.2.1 Tryz.underlying94 rfl hiU⟩) (by assumption) ?_
      try simp only [Act.put, List.setIfInBounds_toArray, List.set_cons_zero, List.set_cons_succ]
      refine wpAnyH_ready (rs := [14]) (by kernel_rfl) (by simp) ?_
      refine AllReadyH.cons (by first | (simp only [List.getElem?_toArray, List.getElem?_cons_zero, List.getElem?_cons_succ]; done) | (simp only [List.getElem?_toArray, List.getElem?_cons_zero, List.getElem?_cons_succ]; rfl)) (fun K hK => ?_) AllReadyH.nil
      go_simp
      refine (HV2.out _ (HRA.out.ext HY.out) (HRD.out.ext HY.out) (HT2.out _ HY.out)).mono ?_
      rintro e Y5 ⟨rfl, hx⟩
      replace HY := Lib.hid (HY.out.tr hx)
      try (go_wp2_with fail)
      refine hK.out _ _ (HCE.out _ HY.out) (fun hHeld => ?_)
      clear hx hK K
      try simp only [Act.put, List.setIfInBounds_toArray, List.set_cons_zero, List.set_cons_succ]
      refine wpAnyH_take (i := 15) (v := ?_) (by first | (simp only [List.getElem?_toArray, List.getElem?_cons_zero, List.getElem?_cons_succ]; done) | (simp only [List.getElem?_toArray, List.getElem?_cons_zero, List.getElem?_cons_succ]; rfl)) (by kernel_rfl) (by kernel_rfl) (by kernel_rfl) (by exact fun _ _ _ h => h) (Or.inl ⟨by rfl, ?hy15⟩) (by assumption) ?_
      case hy15 => (intro w' hSw; clear hSw; go_simp; try with_reducible rfl)
      try simp only [Act.put, List.setIfInBounds_toArray, List.set_cons_zero, List.set_cons_succ]
      refine wpAnyH_ready (rs := [17]) (by kernel_rfl) (by simp) ?_
      refine AllReadyH.cons (by first | (simp only [List.getElem?_toArray, List.getElem?_cons_zero, List.getElem?_cons_succ]; done) | (simp only [List.getElem?_toArray, List.getElem?_cons_zero, List.getElem?_cons_succ]; rfl)) (fun K hK => ?_) AllReadyH.nil
      go_simp
      refine (HOK.out _ (HRA.out.ext HY.out)).mono ?_
      rintro e Y6 ⟨⟨R12, r12, rfl, hr, -⟩, hx⟩
      have HKR := Lib.hid (hr)
      clear hr
      replace HY := Lib.hid (HY.out.tr hx)
      try (go_wp2_with fail)
      refine hK.out _ _ (HCE.out _ HY.out) (fun hHeld => ?_)
      clear hx hK K
      try simp only [Act.put, List.setIfInBounds_toArray, List.set_cons_zero, List.set_cons_succ]
      refine wpAnyH_ready (rs := [19]) (by kernel_rfl) (by simp) ?_
      refine AllReadyH.cons (by first | (simp only [List.getElem?_toArray, List.getElem?_cons_zero, List.getElem?_cons_succ]; done) | (simp only [List.getElem?_toArray, List.getElem?_cons_zero, List.getElem?_cons_succ]; rfl)) (fun K hK => ?_) AllReadyH.nil
      go_simp
      refine (HO2.out _ (HRD.out.ext HY.out)).mono ?_
      rintro e Y7 ⟨⟨P12, p12, rfl, hr, -⟩, hx⟩
      have HPR := Lib.hid (hr)
      replace HKR := Lib.hid (HKR.out.ext hx)
      clear hr
      replace HY := Lib.hid (HY.out.tr hx)
      try (go_wp2_with fail)
      refine hK.out _ _ (HCE.out _ HY.out) (fun hHeld => ?_)
      clear hx hK K
      try simp only [Act.put, List.setIfInBounds_toArray, List.set_cons_zero, List.set_cons_succ]
      refine wpAnyH_ready (rs := [20]) (by kernel_rfl) (by simp) ?_
      refine AllReadyH.cons (by first | (simp only [List.getElem?_toArray, List.getElem?_cons_zero, List.getElem?_cons_succ]; done) | (simp only [List.getElem?_toArray, List.getElem?_cons_zero, List.getElem?_cons_succ]; rfl)) (fun K hK => ?_) AllReadyH.nil
      go_simp
      refine (HR2.out _ _ _ _ _ HKR.out HPR.out).mono ?_
      rintro e Y8 ⟨rfl, hx⟩
      clear HKR HPR
      replace HY := Lib.hid (HY.out.tr hx)
      try (go_wp2_with fail)
      refine hK.out _ _ (HCE.out _ HY.out) (fun hHeld => ?_)
      clear hx hK K
      try simp only [Act.put, List.setIfInBounds_toArray, List.set_cons_zero, List.set_cons_succ]
      refine wpAnyH_take (i := 21) (v := ?_) (by first | (simp only [List.getElem?_toArray, List.getElem?_cons_zero, List.getElem?_cons_succ]; done) | (simp only [List.getElem?_toArray, List.getElem?_cons_zero, List.getElem?_cons_succ]; rfl)) (by kernel_rfl) (by kernel_rfl) (by kernel_rfl) (by exact fun _ _ _ h => h) (Or.inl ⟨by rfl, ?hy21⟩) (by assumption) ?_
      case hy21 => (intro w' hSw; clear hSw; go_simp; try with_reducible rfl)
      try simp only [Act.put, List.setIfInBounds_toArray, List.set_cons_zero, List.set_cons_succ]
      refine wpAnyH_take (i := 22) (v := ?_) (by first | (simp only [List.getElem?_toArray, List.getElem?_cons_zero, List.getElem?_cons_succ]; done) | (simp only [List.getElem?_toArray, List.getElem?_cons_zero, List.getElem?_cons_succ]; rfl)) (by kernel_rfl) (by kernel_rfl) (by kernel_rfl) (by exact fun _ _ _ h => h) (Or.inl ⟨by rfl, ?hy22⟩) (by assumption) ?_
      case hy22 => (intro w' hSw; clear hSw; go_simp; try with_reducible rfl)
      try simp only [Act.put, List.setIfInBounds_toArray, List.set_cons_zero, List.set_cons_succ]
      refine wpAnyH_take (i := 23) (v := ?_) (by first | (simp only [List.getElem?_toArray, List.getElem?_cons_zero, List.getElem?_cons_succ]; done) | (simp only [List.getElem?_toArray, List.getElem?_cons_zero, List.getElem?_cons_succ]; rfl)) (by kernel_rfl) (by kernel_rfl) (by kernel_rfl) (by exact fun _ _ _ h => h) (Or.inl ⟨by rfl, ?hy23⟩) (by assumption) ?_
      case hy23 => (intro w' hSw; clear hSw; go_simp; try with_reducible rfl)
      try simp only [Act.put, List.setIfInBounds_toArray, List.set_cons_zero, List.set_cons_succ]
      refine wpAnyH_take (i := 24) (v := ?_) (by first | (simp only [List.getElem?_toArray, List.getElem?_cons_zero, List.getElem?_cons_succ]; done) | (simp only [List.getElem?_toArray, List.getElem?_cons_zero, List.getElem?_cons_succ]; rfl)) (by kernel_rfl) (by kernel_rfl) (by kernel_rfl) (by exact fun _ _ _ h => h) (Or.inl ⟨by rfl, ?hy24⟩) (by assumption) ?_
      case hy24 => (intro w' hSw; clear hSw; go_simp; try with_reducible rfl)
      try simp only [Act.put, List.setIfInBounds_toArray, List.set_cons_zero, List.set_cons_succ]
      refine wpAnyH_take (i := 25) (v := .agg (KG (some aR) rc).toArray) (by first | (simp only [List.getElem?_toArray, List.getElem?_cons_zero, List.getElem?_cons_succ]; done) | (simp only [List.getElem?_toArray, List.getElem?_cons_zero, List.getElem?_cons_succ]; rfl)) (by kernel_rfl) (by kernel_rfl) (by kernel_rfl) (by exact fun _ _ _ h => h) (Or.inl ⟨by rfl, fun w' hSw => run_load_mid _ _ _ _ rfl b2 0 (by rfl) _ _ w' hSw.1 Tryz.underlying91 rfl hi2⟩) (by assumption) ?_
      try simp only [Act.put, List.setIfInBounds_toArray, List.set_cons_zero, List.set_cons_succ]
      refine wpAnyH_take (i := 26) (v := .agg (SV).toArray) (by first | (simp only [List.getElem?_toArray, List.getElem?_cons_zero, List.getElem?_cons_succ]; done) | (simp only [List.getElem?_toArray, List.getElem?_cons_zero, List.getElem?_cons_succ]; rfl)) (by kernel_rfl) (by kernel_rfl) (by kernel_rfl) (by exact fun _ _ _ h => h) (Or.inl ⟨by rfl, fun w' hSw => run_load_mid _ _ _ _ rfl b7 0 (by rfl) _ _ w' hSw.2.2.2 Tryz.underlying94 rfl hiV⟩) (by assumption) ?_
      try simp only [Act.put, List.setIfInBounds_toArray, List.set_cons_zero, List.set_cons_succ]
      refine wpAnyH_ready (rs := [27]) (by kernel_rfl) (by simp) ?_
      refine AllReadyH.cons (by first | (simp only [List.getElem?_toArray, List.getElem?_cons_zero, List.getElem?_cons_succ]; done) | (simp only [List.getElem?_toArray, List.getElem?_cons_zero, List.getElem?_cons_succ]; rfl)) (fun K hK => ?_) AllReadyH.nil
      go_simp
      refine (HV3.out _ (HRA.out.ext HY.out) (HRD.out.ext HY.out) (HT2.out _ HY.out)).mono ?_
      rintro e Y9 ⟨rfl, hx⟩
      replace HY := Lib.hid (HY.out.tr hx)
      try (go_wp2_with fail)
      refine hK.out _ _ (HCE.out _ HY.out) (fun hHeld => ?_)
      clear hx hK K
      try simp only [Act.put, List.setIfInBounds_toArray, List.set_cons_zero, List.set_cons_succ]
      refine wpAnyH_take (i := 28) (v := ?_) (by first | (simp only [List.getElem?_toArray, List.getElem?_cons_zero, List.getElem?_cons_succ]; done) | (simp only [List.getElem?_toArray, List.getElem?_cons_zero, List.getElem?_cons_succ]; rfl)) (by kernel_rfl) (by kernel_rfl) (by kernel_rfl) (by exact fun _ _ _ h => h) (Or.inl ⟨by rfl, ?hy28⟩) (by assumption) ?_
      case hy28 => (intro w' hSw; clear hSw; go_simp; try with_reducible rfl)
      try simp only [Act.put, List.setIfInBounds_toArray, List.set_cons_zero, List.set_cons_succ]
      refine wpAnyH_take (i := 29) (v := ?_) (by first | (simp only [List.getElem?_toArray, List.getElem?_cons_zero, List.getElem?_cons_succ]; done) | (simp only [List.getElem?_toArray, List.getElem?_cons_zero, List.getElem?_cons_succ]; rfl)) (by kernel_rfl) (by kernel_rfl) (by kernel_rfl) (by exact fun _ _ _ h => h) (Or.inl ⟨by rfl, ?hy29⟩) (by assumption) ?_
      case hy29 => (intro w' hSw; clear hSw; go_simp; try with_reducible rfl)
      try simp only [Act.put, List.setIfInBounds_toArray, List.set_cons_zero, List.set_cons_succ]
      refine wpAnyH_take (i := 30) (v := ?_) (by first | (simp only [List.getElem?_toArray, List.getElem?_cons_zero, List.getElem?_cons_succ]; done) | (simp only [List.getElem?_toArray, List.getElem?_cons_zero, List.getElem?_cons_succ]; rfl)) (by kernel_rfl) (by kernel_rfl) (by kernel_rfl) (by exact fun _ _ _ h => h) (Or.inl ⟨by rfl, ?hy30⟩) (by assumption) ?_
      case hy30 => (intro w' hSw; clear hSw; go_simp; try with_reducible rfl)
      try simp only [Act.put, List.setIfInBounds_toArray, List.set_cons_zero, List.set_cons_succ]
      refine wpAnyH_done (by kernel_rfl) ?_ _
      clear hHeld
      have HFIN := Lib.hid (Ext.tr HX.out HY.out)
      go_wp2
      go_ret
      exact ⟨ret_bool (by first | rfl | simp), HFIN.out⟩
theorem stampHolds_walk' {w : World} (s : Int) (ws : (Lit.int .u64 s).wf = true) (y : Int) (wy : (Lit.int .u8 y).wf = true) (c : Int) (wc : (Lit.int .u64 c).wf = true) (a : Int) (wa : (Lit.int .i64 a).wf = true) (b : Int) (wb : (Lit.int .i64 b).wf = true) (h : KOk w) :
    Calls Tryz.prog 11 #[.int .u64 s, .int .u8 y, .int .u64 c, .int .i64 a, .int .i64 b] w fun e w' => e = .returned (.bool true) ∧ Ext w w' := by
  have h1 := bounds_u64 ws
  have h2 := bounds_u8 wy
  have h3 := bounds_u64 wc
  have := sholds_walk s.toNat (by omega) y.toNat c.toNat (by omega) a b (bounds_i64 wa) (bounds_i64 wb) w h
  unfold cU64 at this
  rw [Int.toNat_of_nonneg (by omega), Int.toNat_of_nonneg (by omega), Int.toNat_of_nonneg (by omega)] at this
  exact this
end Go.Proofs.YthjldedjllkeeaaGreatDoor
