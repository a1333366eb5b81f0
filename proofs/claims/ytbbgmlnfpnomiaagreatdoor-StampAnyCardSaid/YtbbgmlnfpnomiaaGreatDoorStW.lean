/- The walk of known() of law 11. -/
import Derived.Test.YtbbgmlnfpnomiaaGreatDoorStG
import Derived.Lib.SliceRun
set_option linter.unusedVariables false
set_option linter.unusedSimpArgs false
namespace Go.Proofs.YtbbgmlnfpnomiaaGreatDoor
open Go.RowKit Go.Sort
theorem kyV_one (f : Int) (A : Option Addr) (n c : Nat) (ht : Int) : ∀ x ∈ kyV f A n c ht, x.oneCell' = true := fun x hx => by
  simp only [kyV, List.mem_cons, List.not_mem_nil, or_false] at hx
  rcases hx with rfl | rfl | rfl <;> rfl
set_option maxRecDepth 100000 in
set_option maxHeartbeats 4000000 in
theorem known11_calls (w : World) (hg : Gl w) (hr : RngOk w) (ht : TOk w) : Calls Tryz.prog 41 #[] w fun e w' => e = .returned (.bool true) ∧ Ext w w' := by
  have HG := Lib.hid hg
  have HR := Lib.hid hr
  have HT := Lib.hid ht
  clear hg hr ht
  have qS : ∀ (w : World) (a : Addr) (n c : Nat), (binOp .eql 150 (.slice (some a) n c) (.slice none 0 0)).run Tryz.prog w = .ok (.bool false) w := fun w a n c => Lib.run_eql_slice_nil w _ _ (some a) n c 0 0 Tryz.underlying150
  go_enter Tryz.func41, Tryz.ntmps41
  go_wp2_with fail
  refine (keys11 w).mono ?_
  rintro e W1 ⟨⟨kb, A, c, L, cl, RA, rc, rfl, hl, hra, hks, hlo, hla, haa⟩, hx⟩
  have HX := Lib.hid hx
  obtain ⟨aL, rfl, hL1, -⟩ := hl.at_ (j := 0) (u := kP (kb 0)) rfl
  obtain ⟨aR, rfl, hR1, -⟩ := hra.at_ (j := 0) (u := cU64 (kRoot 5 1 0)) rfl
  have HL := Lib.hid hl
  have HRA := Lib.hid hra
  have HLO := Lib.hid (hlo 2 (by decide))
  have HAP := Lib.hid (And.intro (hla aL rfl 2 (by decide)) (haa aR rfl 2 (by decide)))
  have HK := Lib.hid (show KA W1 (kb 2) 2 (kSeed 5 2) 1 (A 2) (c 2) 0 2 from hks.ka 2 (by decide))
  have hkl := HK.out.blk.lt
  clear hx hl hra hks hlo hla haa
  go_upto_region 4 with (refine wpList_store_new rfl _ _ _ rfl _ _ (kyV 1 (some aR) 4 rc 1) rfl rfl rfl rfl (kyV_one _ _ _ _ _) ?_; intro W2 hX hB; replace HX := Lib.hid (HX.out.tr hX); replace HL := Lib.hid (HL.out.ext hX); replace HRA := Lib.hid (HRA.out.ext hX); replace HK := Lib.hid (HK.out.ext hX); have HB2 := Lib.hid hB; clear hX hB)
  have hB2n : W1.heap.size < W2.heap.size := HB2.out.lt
  have hne2 : W1.heap.size ≠ kb 2 := by omega
  have hLR : aL.block < W1.heap.size ∧ aR.block < W1.heap.size ∧ w.heap.size ≤ W1.heap.size := ⟨hL1, hR1, Nat.le_trans HLO.out (by omega)⟩
  generalize W1.heap.size = b2 at *
  have hi2 : (Tryz.prog.info? 77).map (·.size) = some (kyV 1 (some aR) 4 rc 1).length := rfl
  have hc2 : W2.cell? { block := aL.block, off := aL.off + 2 } = some (kP (kb 2)) := by obtain ⟨ad, e, _, hc⟩ := HL.out.at_ (j := 2) (u := kP (kb 2)) rfl; cases e; exact hc
  generalize HKV : kyV 1 (some aR) 4 rc 1 = KV at *
  go_wp2_with fail
  clear hc2
  refine (make11a _ (HT.out.ext HX.out) HK.out).mono ?_
  rintro e W3 ⟨⟨A1, c1, rfl, hrd, hat⟩, -, hx⟩
  replace HX := Lib.hid (HX.out.kg hx HLO.out)
  replace HL := Lib.hid (HL.out.kg hx (by rintro ad e; cases e; exact HAP.out.1))
  replace HRA := Lib.hid (HRA.out.kg hx (by rintro ad e; cases e; exact HAP.out.2))
  replace HB2 := Lib.hid (HB2.out.kg hx hne2)
  have hp3 : ∃ aP, A1 = some aP ∧ aP.block < W3.heap.size := by obtain ⟨ad, e, h1, _⟩ := hrd.at_ (j := 0) (u := (cDg path11)[0]'(by simp [path11_len])) (List.getElem?_eq_getElem _); exact ⟨ad, e, h1⟩
  obtain ⟨aP, rfl, hP3⟩ := hp3
  have HRD := Lib.hid hrd
  clear hx hrd hat hB2n hkl HAP HLO hne2 hL1 hR1 HK
  have hb2 := HB2.out.lt
  have hone1 := S11_one (some aP) c1
  have hlen1 := S11_len (some aP) c1
  have HQ1 := Lib.hid (show ∀ W, Rd W (some aP) (cDg path11) → TOk W → Calls Tryz.prog 50 #[.agg (S11 (some aP) c1).toArray] W fun e w' => e = .returned (.string (strOf (K.stx st11))) ∧ Ext W w' from fun W h ht => text11 (some aP) c1 W h ht)
  have HVA := Lib.hid (fun W h h2 ht => valid11a (some aR) (some aP) rc c1 W h h2 ht)
  have HVB := Lib.hid (fun W h h2 ht => valid11b (some aR) (some aP) rc c1 W h h2 ht)
  have HVC := Lib.hid (fun W h h2 ht => valid11c (some aR) (some aP) rc c1 W h h2 ht)
  have HSA := Lib.hid (fun A2 c2 W h h2 => same11a A2 (some aP) c2 c1 W h h2)
  have HSB := Lib.hid (fun W => same11b (some aP) (some aP) c1 c1 W)
  have HCK := Lib.hid (fun W => check11 (some aR) rc W)
  rw [HKV] at HVA HVB HVC HCK
  have hs1 : (S11 (some aP) c1)[1]? = some (.int .i64 2) := rfl
  have hs2 : (S11 (some aP) c1)[2]? = some (.int .i64 9) := rfl
  have hst := S11_T (some aP) c1
  have hsu := S11_U (some aP) c1
  have hlT := T11_len (some aP) c1
  have hlU := U11_len (some aP) c1
  generalize S11 (some aP) c1 = SA at *
  generalize T11 (some aP) c1 = ST at *
  generalize U11 (some aP) c1 = SU at *
  generalize hPT : cDg path11 = PT at *
  go_upto_region 5 with (refine wpList_store_new rfl _ _ _ rfl _ _ (SA) rfl rfl (by rw [hlen1]; rfl) (by rw [hlen1]; rfl) hone1 ?_; intro W4 hX hB; replace HX := Lib.hid (HX.out.tr hX); replace HL := Lib.hid (HL.out.ext hX); replace HRA := Lib.hid (HRA.out.ext hX); replace HB2 := Lib.hid (HB2.out.ext hX); replace HRD := Lib.hid (HRD.out.ext hX); have HB3 := Lib.hid hB; clear hX hB)
  have hb3 := HB3.out.lt
  have hN : b2 < W3.heap.size ∧ aP.block < W3.heap.size ∧ aL.block < W3.heap.size ∧ aR.block < W3.heap.size ∧ w.heap.size ≤ W3.heap.size := ⟨hb2, hP3, by omega, by omega, by omega⟩
  clear hb2 hP3 hLR
  generalize W3.heap.size = b3 at *
  have hi3 : (Tryz.prog.info? 80).map (·.size) = some SA.length := by rw [hlen1]; rfl
  have hiT : (Tryz.prog.info? 80).map (·.size) = some ST.length := by rw [hlT]; rfl
  have hiU : (Tryz.prog.info? 80).map (·.size) = some SU.length := by rw [hlU]; rfl
  have r3 := HB3.out.range
  have hb3' := hb3
  go_upto_region 6 with (first
    | (refine wpList_load_mid rfl _ _ rfl b3 0 rfl SA _ r3 Tryz.underlying80 rfl hi3 ?_)
    | (refine wpList_store_new rfl _ _ _ rfl _ _ (SA) rfl rfl (by rw [hlen1]; rfl) (by rw [hlen1]; rfl) hone1 ?_; intro W5 hX hB; replace HX := Lib.hid (HX.out.tr hX); replace HL := Lib.hid (HL.out.ext hX); replace HRA := Lib.hid (HRA.out.ext hX); replace HB2 := Lib.hid (HB2.out.ext hX); replace HRD := Lib.hid (HRD.out.ext hX); replace HB3 := Lib.hid (HB3.out.ext hX); have HB5 := Lib.hid hB; clear hX hB))
  clear r3
  have hltb5 : W4.heap.size < W5.heap.size := HB5.out.lt
  have hM : b2 < W4.heap.size ∧ b3 < W4.heap.size ∧ aP.block < W4.heap.size ∧ aL.block < W4.heap.size ∧ aR.block < W4.heap.size ∧ w.heap.size ≤ W4.heap.size := by refine ⟨?_, ?_, ?_, ?_, ?_, ?_⟩ <;> omega
  generalize W4.heap.size = b5 at *
  obtain ⟨n1, n2, n3, n4, n5, n6⟩ := hM
  have hfx := HB5.out.frozen 2
  have hcx := HB5.out.cell hs2
  have hbx := HB5.out.set 2 (.int .i64 10)
  rw [hst] at hbx
  have qHB2 := HB2.out.other (x := ⟨b5, 2, none⟩) (show _ ≠ _ by simp only; omega) (.int .i64 10)
  have qHB3 := HB3.out.other (x := ⟨b5, 2, none⟩) (show _ ≠ _ by simp only; omega) (.int .i64 10)
  have qHRD := HRD.out.setOther (b := b5) (j := 2) (by rintro ad e; cases e; omega) (.int .i64 10)
  have qHL := HL.out.setOther (b := b5) (j := 2) (by rintro ad e; cases e; omega) (.int .i64 10)
  have qHRA := HRA.out.setOther (b := b5) (j := 2) (by rintro ad e; cases e; omega) (.int .i64 10)
  have qHX := Below.setCell HX.out (p := ⟨b5, 2, none⟩) n6 (.int .i64 10)
  have hsz : (W5.setCell ⟨b5, 2, none⟩ (.int .i64 10)).heap.size = W5.heap.size := by simp [World.setCell]
  have HF := Lib.hid (And.intro hbx (And.intro hsz (And.intro qHB2 (And.intro qHB3 (And.intro qHRD (And.intro qHL (And.intro qHRA qHX)))))))
  clear hbx hsz qHB2 qHB3 qHRD qHL qHRA qHX HB5 HB2 HB3 HRD HL HRA HX
  go_upto_region 7 with (fail)
  clear hfx hcx
  generalize W5.setCell ⟨b5, 2, none⟩ (.int .i64 10) = W6 at *
  obtain ⟨hbx, hsz, qHB2, qHB3, qHRD, qHL, qHRA, qHX⟩ := HF.out
  clear HF
  have HB2 := Lib.hid qHB2
  have HB3 := Lib.hid qHB3
  have HRD := Lib.hid qHRD
  have HL := Lib.hid qHL
  have HRA := Lib.hid qHRA
  have HX := Lib.hid (show Ext w W6 from qHX)
  have HB5 := Lib.hid hbx
  clear hbx qHB2 qHB3 qHRD qHL qHRA qHX
  have hlt5' : b5 < W6.heap.size := by omega
  clear hsz hltb5 n1 n2 n3 n4 n5 n6 hb3 hb3'
  have hb3 : b3 < W6.heap.size := HB3.out.lt
  have n0' : b5 < W6.heap.size := hlt5'
  have r3 := HB3.out.range
  have hN5 : b5 < W6.heap.size := hlt5'
  clear hlt5' n0'
  go_upto_region 8 with (first
    | (refine wpList_load_mid rfl _ _ rfl b3 0 rfl SA _ r3 Tryz.underlying80 rfl hi3 ?_)
    | (refine wpList_store_new rfl _ _ _ rfl _ _ (SA) rfl rfl (by rw [hlen1]; rfl) (by rw [hlen1]; rfl) hone1 ?_; intro W7 hX hB; replace HX := Lib.hid (HX.out.tr hX); replace HL := Lib.hid (HL.out.ext hX); replace HRA := Lib.hid (HRA.out.ext hX); replace HB2 := Lib.hid (HB2.out.ext hX); replace HRD := Lib.hid (HRD.out.ext hX); replace HB3 := Lib.hid (HB3.out.ext hX); replace HB5 := Lib.hid (HB5.out.ext hX); have HB6 := Lib.hid hB; clear hX hB))
  clear r3
  have hltb6 : W6.heap.size < W7.heap.size := HB6.out.lt
  have hM : b2 < W6.heap.size ∧ b3 < W6.heap.size ∧ aP.block < W6.heap.size ∧ aL.block < W6.heap.size ∧ aR.block < W6.heap.size ∧ w.heap.size ≤ W6.heap.size := by refine ⟨?_, ?_, ?_, ?_, ?_, ?_⟩ <;> omega
  generalize W6.heap.size = b6 at *
  obtain ⟨n1, n2, n3, n4, n5, n6⟩ := hM
  have n0 : b5 < b6 := hN5
  have hfx := HB6.out.frozen 1
  have hcx := HB6.out.cell hs1
  have hbx := HB6.out.set 1 (.int .i64 1)
  rw [hsu] at hbx
  have qHB2 := HB2.out.other (x := ⟨b6, 1, none⟩) (show _ ≠ _ by simp only; omega) (.int .i64 1)
  have qHB3 := HB3.out.other (x := ⟨b6, 1, none⟩) (show _ ≠ _ by simp only; omega) (.int .i64 1)
  have qHB5 := HB5.out.other (x := ⟨b6, 1, none⟩) (show _ ≠ _ by simp only; omega) (.int .i64 1)
  have qHRD := HRD.out.setOther (b := b6) (j := 1) (by rintro ad e; cases e; omega) (.int .i64 1)
  have qHL := HL.out.setOther (b := b6) (j := 1) (by rintro ad e; cases e; omega) (.int .i64 1)
  have qHRA := HRA.out.setOther (b := b6) (j := 1) (by rintro ad e; cases e; omega) (.int .i64 1)
  have qHX := Below.setCell HX.out (p := ⟨b6, 1, none⟩) n6 (.int .i64 1)
  have hsz : (W7.setCell ⟨b6, 1, none⟩ (.int .i64 1)).heap.size = W7.heap.size := by simp [World.setCell]
  have HF := Lib.hid (And.intro hbx (And.intro hsz (And.intro qHB2 (And.intro qHB3 (And.intro qHB5 (And.intro qHRD (And.intro qHL (And.intro qHRA qHX))))))))
  clear hbx hsz qHB2 qHB3 qHB5 qHRD qHL qHRA qHX HB6 HB2 HB3 HB5 HRD HL HRA HX
  go_upto_region 9 with (fail)
  clear hfx hcx
  generalize W7.setCell ⟨b6, 1, none⟩ (.int .i64 1) = W8 at *
  obtain ⟨hbx, hsz, qHB2, qHB3, qHB5, qHRD, qHL, qHRA, qHX⟩ := HF.out
  clear HF
  have HB2 := Lib.hid qHB2
  have HB3 := Lib.hid qHB3
  have HB5 := Lib.hid qHB5
  have HRD := Lib.hid qHRD
  have HL := Lib.hid qHL
  have HRA := Lib.hid qHRA
  have HX := Lib.hid (show Ext w W8 from qHX)
  have HB6 := Lib.hid hbx
  clear hbx qHB2 qHB3 qHB5 qHRD qHL qHRA qHX
  clear hsz hltb6 n0 n1 n2 n3 n4 n5 n6 hN hb3 hN5 hs1 hs2 hst hsu
  have hc0 : W8.cell? aL = some (kP (kb 0)) := by obtain ⟨ad, e, _, hc⟩ := HL.out.at_ (j := 0) (u := kP (kb 0)) rfl; cases e; exact hc
  go_wp2_with fail
  clear hc0
  refine (make11b _ _).mono ?_
  rintro e W9 ⟨rfl, hx⟩
  replace HX := Lib.hid (HX.out.tr hx)
  replace HL := Lib.hid (HL.out.ext hx)
  replace HRA := Lib.hid (HRA.out.ext hx)
  replace HB2 := Lib.hid (HB2.out.ext hx)
  replace HRD := Lib.hid (HRD.out.ext hx)
  replace HB3 := Lib.hid (HB3.out.ext hx)
  replace HB5 := Lib.hid (HB5.out.ext hx)
  replace HB6 := Lib.hid (HB6.out.ext hx)
  clear hx
  go_upto_region 10 with (refine wpList_store_new rfl _ _ _ rfl _ _ (stZ) rfl rfl rfl rfl stZ_one ?_; intro W10 hX hB; replace HX := Lib.hid (HX.out.tr hX); replace HL := Lib.hid (HL.out.ext hX); replace HRA := Lib.hid (HRA.out.ext hX); replace HB2 := Lib.hid (HB2.out.ext hX); replace HRD := Lib.hid (HRD.out.ext hX); replace HB3 := Lib.hid (HB3.out.ext hX); replace HB5 := Lib.hid (HB5.out.ext hX); replace HB6 := Lib.hid (HB6.out.ext hX); clear hX hB)
  have r3 := HB3.out.range
  go_wp2_with (refine wpList_load_mid rfl _ _ rfl b3 0 rfl SA _ r3 Tryz.underlying80 rfl hi3 ?_)
  clear r3
  refine (HQ1.out _ HRD.out (HT.out.ext HX.out)).mono ?_
  rintro e W11 ⟨rfl, hx⟩
  replace HX := Lib.hid (HX.out.tr hx)
  replace HL := Lib.hid (HL.out.ext hx)
  replace HRA := Lib.hid (HRA.out.ext hx)
  replace HB2 := Lib.hid (HB2.out.ext hx)
  replace HRD := Lib.hid (HRD.out.ext hx)
  replace HB3 := Lib.hid (HB3.out.ext hx)
  replace HB5 := Lib.hid (HB5.out.ext hx)
  replace HB6 := Lib.hid (HB6.out.ext hx)
  clear hx
  go_wp2_with fail
  refine (parse11 _ (HG.out.ext HX.out) (HR.out.ext HX.out)).mono ?_
  rintro e W12 ⟨⟨A2, c2, rfl, hrd⟩, hx⟩
  replace HX := Lib.hid (HX.out.tr hx)
  replace HL := Lib.hid (HL.out.ext hx)
  replace HRA := Lib.hid (HRA.out.ext hx)
  replace HB2 := Lib.hid (HB2.out.ext hx)
  replace HRD := Lib.hid (HRD.out.ext hx)
  replace HB3 := Lib.hid (HB3.out.ext hx)
  replace HB5 := Lib.hid (HB5.out.ext hx)
  replace HB6 := Lib.hid (HB6.out.ext hx)
  clear hx
  rw [hPT] at hrd
  have HRX := Lib.hid hrd
  have hone2 := S11_one A2 c2
  have hlen2 := S11_len A2 c2
  replace HSA := Lib.hid (HSA.out A2 c2)
  generalize S11 A2 c2 = SX at *
  clear hrd
  go_upto_region 11 with (refine wpList_store_new rfl _ _ _ rfl _ _ (SX) rfl rfl (by rw [hlen2]; rfl) (by rw [hlen2]; rfl) hone2 ?_; intro W13 hX hB; replace HX := Lib.hid (HX.out.tr hX); replace HL := Lib.hid (HL.out.ext hX); replace HRA := Lib.hid (HRA.out.ext hX); replace HB2 := Lib.hid (HB2.out.ext hX); replace HRD := Lib.hid (HRD.out.ext hX); replace HB3 := Lib.hid (HB3.out.ext hX); replace HB5 := Lib.hid (HB5.out.ext hX); replace HB6 := Lib.hid (HB6.out.ext hX); replace HRX := Lib.hid (HRX.out.ext hX); have HB9 := Lib.hid hB; clear hX hB; generalize W12.heap.size = b9 at *)
  have hi9 : (Tryz.prog.info? 80).map (·.size) = some SX.length := by rw [hlen2]; rfl
  have r2 := HB2.out.range
  have r3 := HB3.out.range
  go_wp2_with (first
    | (refine wpList_load_midw (by rfl) _ _ rfl b2 0 rfl KV _ r2 Tryz.underlying77 rfl hi2 ?_)
    | (refine wpList_load_midw (by rfl) _ _ rfl b3 0 rfl SA _ r3 Tryz.underlying80 rfl hi3 ?_))
  clear r2
  clear r3
  refine (HVA.out _ HRA.out HRD.out (HT.out.ext HX.out)).mono ?_
  rintro e V0 ⟨rfl, hx⟩
  replace HX := Lib.hid (HX.out.tr hx)
  replace HL := Lib.hid (HL.out.ext hx)
  replace HRA := Lib.hid (HRA.out.ext hx)
  replace HB2 := Lib.hid (HB2.out.ext hx)
  replace HRD := Lib.hid (HRD.out.ext hx)
  replace HB3 := Lib.hid (HB3.out.ext hx)
  replace HB5 := Lib.hid (HB5.out.ext hx)
  replace HB6 := Lib.hid (HB6.out.ext hx)
  replace HRX := Lib.hid (HRX.out.ext hx)
  replace HB9 := Lib.hid (HB9.out.ext hx)
  clear hx
  have r2 := HB2.out.range
  have r5 := HB5.out.range
  go_wp2_with (first
    | (refine wpList_load_midw (by rfl) _ _ rfl b2 0 rfl KV _ r2 Tryz.underlying77 rfl hi2 ?_)
    | (refine wpList_load_midw (by rfl) _ _ rfl b5 0 rfl ST _ r5 Tryz.underlying80 rfl hiT ?_))
  clear r2
  clear r5
  refine (HVB.out _ HRA.out HRD.out (HT.out.ext HX.out)).mono ?_
  rintro e V1 ⟨rfl, hx⟩
  replace HX := Lib.hid (HX.out.tr hx)
  replace HL := Lib.hid (HL.out.ext hx)
  replace HRA := Lib.hid (HRA.out.ext hx)
  replace HB2 := Lib.hid (HB2.out.ext hx)
  replace HRD := Lib.hid (HRD.out.ext hx)
  replace HB3 := Lib.hid (HB3.out.ext hx)
  replace HB5 := Lib.hid (HB5.out.ext hx)
  replace HB6 := Lib.hid (HB6.out.ext hx)
  replace HRX := Lib.hid (HRX.out.ext hx)
  replace HB9 := Lib.hid (HB9.out.ext hx)
  clear hx
  have r2 := HB2.out.range
  have r6 := HB6.out.range
  go_wp2_with (first
    | (refine wpList_load_midw (by rfl) _ _ rfl b2 0 rfl KV _ r2 Tryz.underlying77 rfl hi2 ?_)
    | (refine wpList_load_midw (by rfl) _ _ rfl b6 0 rfl SU _ r6 Tryz.underlying80 rfl hiU ?_))
  clear r2
  clear r6
  refine (HVC.out _ HRA.out HRD.out (HT.out.ext HX.out)).mono ?_
  rintro e V2 ⟨rfl, hx⟩
  replace HX := Lib.hid (HX.out.tr hx)
  replace HL := Lib.hid (HL.out.ext hx)
  replace HRA := Lib.hid (HRA.out.ext hx)
  replace HB2 := Lib.hid (HB2.out.ext hx)
  replace HRD := Lib.hid (HRD.out.ext hx)
  replace HB3 := Lib.hid (HB3.out.ext hx)
  replace HB5 := Lib.hid (HB5.out.ext hx)
  replace HB6 := Lib.hid (HB6.out.ext hx)
  replace HRX := Lib.hid (HRX.out.ext hx)
  replace HB9 := Lib.hid (HB9.out.ext hx)
  clear hx
  have r9 := HB9.out.range
  have r3 := HB3.out.range
  go_wp2_with (first
    | (refine wpList_load_midw (by rfl) _ _ rfl b9 0 rfl SX _ r9 Tryz.underlying80 rfl hi9 ?_)
    | (refine wpList_load_midw (by rfl) _ _ rfl b3 0 rfl SA _ r3 Tryz.underlying80 rfl hi3 ?_))
  clear r9
  clear r3
  refine (HSA.out _ HRX.out HRD.out).mono ?_
  rintro e V3 ⟨rfl, hx⟩
  replace HX := Lib.hid (HX.out.tr hx)
  replace HL := Lib.hid (HL.out.ext hx)
  replace HRA := Lib.hid (HRA.out.ext hx)
  replace HB2 := Lib.hid (HB2.out.ext hx)
  replace HRD := Lib.hid (HRD.out.ext hx)
  replace HB3 := Lib.hid (HB3.out.ext hx)
  replace HB5 := Lib.hid (HB5.out.ext hx)
  replace HB6 := Lib.hid (HB6.out.ext hx)
  replace HRX := Lib.hid (HRX.out.ext hx)
  replace HB9 := Lib.hid (HB9.out.ext hx)
  clear hx
  have r5 := HB5.out.range
  have r3 := HB3.out.range
  go_wp2_with (first
    | (refine wpList_load_midw (by rfl) _ _ rfl b5 0 rfl ST _ r5 Tryz.underlying80 rfl hiT ?_)
    | (refine wpList_load_midw (by rfl) _ _ rfl b3 0 rfl SA _ r3 Tryz.underlying80 rfl hi3 ?_))
  clear r5
  clear r3
  refine (HSB.out _).mono ?_
  rintro e V4 ⟨rfl, hx⟩
  replace HX := Lib.hid (HX.out.tr hx)
  replace HL := Lib.hid (HL.out.ext hx)
  replace HRA := Lib.hid (HRA.out.ext hx)
  replace HB2 := Lib.hid (HB2.out.ext hx)
  replace HRD := Lib.hid (HRD.out.ext hx)
  replace HB3 := Lib.hid (HB3.out.ext hx)
  replace HB5 := Lib.hid (HB5.out.ext hx)
  replace HB6 := Lib.hid (HB6.out.ext hx)
  replace HRX := Lib.hid (HRX.out.ext hx)
  replace HB9 := Lib.hid (HB9.out.ext hx)
  clear hx
  have r2 := HB2.out.range
  go_wp2_with (first
    | (refine wpList_load_midw (by rfl) _ _ rfl b2 0 rfl KV _ r2 Tryz.underlying77 rfl hi2 ?_))
  clear r2
  refine (HCK.out _).mono ?_
  rintro e V5 ⟨rfl, hx⟩
  replace HX := Lib.hid (HX.out.tr hx)
  replace HL := Lib.hid (HL.out.ext hx)
  replace HRA := Lib.hid (HRA.out.ext hx)
  replace HB2 := Lib.hid (HB2.out.ext hx)
  replace HRD := Lib.hid (HRD.out.ext hx)
  replace HB3 := Lib.hid (HB3.out.ext hx)
  replace HB5 := Lib.hid (HB5.out.ext hx)
  replace HB6 := Lib.hid (HB6.out.ext hx)
  replace HRX := Lib.hid (HRX.out.ext hx)
  replace HB9 := Lib.hid (HB9.out.ext hx)
  clear hx
  go_wp2_with fail
  refine (words11 _ (HT.out.ext HX.out)).mono ?_
  rintro e V6 ⟨rfl, hx⟩
  replace HX := Lib.hid (HX.out.tr hx)
  replace HL := Lib.hid (HL.out.ext hx)
  replace HRA := Lib.hid (HRA.out.ext hx)
  replace HB2 := Lib.hid (HB2.out.ext hx)
  replace HRD := Lib.hid (HRD.out.ext hx)
  replace HB3 := Lib.hid (HB3.out.ext hx)
  replace HB5 := Lib.hid (HB5.out.ext hx)
  replace HB6 := Lib.hid (HB6.out.ext hx)
  replace HRX := Lib.hid (HRX.out.ext hx)
  replace HB9 := Lib.hid (HB9.out.ext hx)
  clear hx
  go_wp2_with fail
  refine (digest11 _ (HT.out.ext HX.out)).mono ?_
  rintro e V7 ⟨rfl, hx⟩
  replace HX := Lib.hid (HX.out.tr hx)
  replace HL := Lib.hid (HL.out.ext hx)
  replace HRA := Lib.hid (HRA.out.ext hx)
  replace HB2 := Lib.hid (HB2.out.ext hx)
  replace HRD := Lib.hid (HRD.out.ext hx)
  replace HB3 := Lib.hid (HB3.out.ext hx)
  replace HB5 := Lib.hid (HB5.out.ext hx)
  replace HB6 := Lib.hid (HB6.out.ext hx)
  replace HRX := Lib.hid (HRX.out.ext hx)
  replace HB9 := Lib.hid (HB9.out.ext hx)
  clear hx
  go_wp2_with fail
  refine (words11 _ (HT.out.ext HX.out)).mono ?_
  rintro e V8 ⟨rfl, hx⟩
  replace HX := Lib.hid (HX.out.tr hx)
  replace HL := Lib.hid (HL.out.ext hx)
  replace HRA := Lib.hid (HRA.out.ext hx)
  replace HB2 := Lib.hid (HB2.out.ext hx)
  replace HRD := Lib.hid (HRD.out.ext hx)
  replace HB3 := Lib.hid (HB3.out.ext hx)
  replace HB5 := Lib.hid (HB5.out.ext hx)
  replace HB6 := Lib.hid (HB6.out.ext hx)
  replace HRX := Lib.hid (HRX.out.ext hx)
  replace HB9 := Lib.hid (HB9.out.ext hx)
  clear hx
  go_wp2_with fail
  refine (of11 _).mono ?_
  rintro e V9 ⟨rfl, hx⟩
  replace HX := Lib.hid (HX.out.tr hx)
  replace HL := Lib.hid (HL.out.ext hx)
  replace HRA := Lib.hid (HRA.out.ext hx)
  replace HB2 := Lib.hid (HB2.out.ext hx)
  replace HRD := Lib.hid (HRD.out.ext hx)
  replace HB3 := Lib.hid (HB3.out.ext hx)
  replace HB5 := Lib.hid (HB5.out.ext hx)
  replace HB6 := Lib.hid (HB6.out.ext hx)
  replace HRX := Lib.hid (HRX.out.ext hx)
  replace HB9 := Lib.hid (HB9.out.ext hx)
  clear hx
  go_wp2
  go_ret
  exact ⟨ret_bool (by first | rfl | simp), HX.out⟩
end Go.Proofs.YtbbgmlnfpnomiaaGreatDoor
