/- The walk of known() of law 5. -/
import Derived.Test.YtbbgmlnfpnomiaaGreatDoorKSameM
import Derived.Test.YtbbgmlnfpnomiaaGreatDoorLA
import Derived.Deep.RegionHeld3
set_option linter.unusedVariables false
set_option linter.unusedSimpArgs false
namespace Go.Proofs.YtbbgmlnfpnomiaaGreatDoor
open Go.RowKit Go.Sort
set_option maxRecDepth 100000 in
set_option maxHeartbeats 4000000 in
theorem known5_calls (w : World) (hg : Gl w) (hr : RngOk w) (ht : TOk w) : Calls Tryz.prog 19 #[] w fun e w' => e = .returned (.bool true) ∧ Ext w w' := by
  have HG := Lib.hid hg
  have HR := Lib.hid hr
  have HT := Lib.hid ht
  clear hg hr ht
  go_enter Tryz.func19, Tryz.ntmps19
  go_wp2_with fail
  refine (new5 w).mono ?_
  rintro e W1 ⟨⟨kb, A, c, rfl, hk, hlo⟩, hx⟩
  have HX := Lib.hid hx
  have HK := Lib.hid hk
  have HLO := Lib.hid hlo
  clear hx hk hlo
  go_wp2_with fail
  refine (new5b W1).mono ?_
  rintro e _ ⟨rfl, rfl⟩
  go_wp2_with fail
  refine (sign5a _ HK.out).mono ?_
  rintro e W2 ⟨rfl, hx⟩
  replace HX := Lib.hid (HX.out.tr hx)
  replace HK := Lib.hid (HK.out.ext hx)
  clear hx
  go_wp2_with (refine wpList_store_new rfl _ _ _ rfl _ _ sgZ rfl rfl rfl rfl sgZ_one ?_; intro W3 hX hB; replace HX := Lib.hid (HX.out.tr hX); replace HK := Lib.hid (HK.out.ext hX); clear hX hB)
  as_aux_lemma =>
    refine (res5a _ HK.out).mono ?_
    rintro e W4 ⟨rfl, hk, hx⟩
    replace HX := Lib.hid (HX.out.kg hx HLO.out)
    replace HK := Lib.hid hk
    clear hx hk
    go_wp2_with fail
    have hkb := HK.out.blk.lt
    as_aux_lemma =>
      refine (sign5b _ HK.out).mono ?_
      rintro e W5 ⟨⟨A1, c1, rfl, hrd, hat⟩, hk, hx⟩
      replace HX := Lib.hid (HX.out.kg hx HLO.out)
      replace HK := Lib.hid hk
      have HRA := Lib.hid hrd
      have HNA := Lib.hid (show ∀ ad, A1 = some ad → ad.block ≠ kb from fun ad e => by have := hat ad e; omega)
      have hkb5 := HK.out.blk.lt
      clear hx hk hrd hat hkb
      have H21a : SG5 A1 c1 = SG5 A1 c1 := rfl
      have hone1 := SG5_one A1 c1
      have hlen1 := SG5_len A1 c1
      have HQ1 := Lib.hid (show ∀ W, Rd W A1 (cDg path5) → TOk W → Calls Tryz.prog 37 #[.agg (SG5 A1 c1).toArray] W fun e w' => e = .returned (.string tx5) ∧ Ext W w' from fun W h ht => text5 A1 c1 W h ht)
      have HQ2 := Lib.hid (show ∀ W, Rd W A1 (cDg path5) → Calls Tryz.prog 111 #[.int .u64 (rt5 : Nat), .agg (SG5 A1 c1).toArray, .int .u64 5, .int .i64 1] W fun e w' => e = .returned (.bool true) ∧ Ext W w' from fun W h => ver5a A1 c1 W h)
      have HQ3 := Lib.hid (show ∀ W, Rd W A1 (cDg path5) → Calls Tryz.prog 111 #[.int .u64 (rt5 : Nat), .agg (SG5 A1 c1).toArray, .int .u64 6, .int .i64 1] W fun e w' => e = .returned (.bool false) ∧ Ext W w' from fun W h => ver5b A1 c1 W h)
      have HQ4 := Lib.hid (show ∀ W, Calls Tryz.prog 111 #[.int .u64 (rt5 : Nat), .agg (SG5 A1 c1).toArray, .int .u64 5, .int .i64 2] W fun e w' => e = .returned (.bool false) ∧ Ext W w' from fun W => ver5c A1 c1 W)
      have HQ5 := Lib.hid (show ∀ W A2 c2, Rd W A2 (cDg path5) → Rd W A1 (cDg path5) → Calls Tryz.prog 40 #[.agg (SG5 A2 c2).toArray, .agg (SG5 A1 c1).toArray] W fun e w' => e = .returned (.bool true) ∧ Ext W w' from fun W A2 c2 h h' => same5 A2 A1 c2 c1 W h h')
      have hs0 : (SG5 A1 c1)[0]? = some (.int .i64 3) := rfl
      have hs1 : (SG5 A1 c1)[1]? = some (.int .i64 0) := rfl
      clear H21a
      generalize SG5 A1 c1 = SA at *
      go_wp2_with (refine wpList_store_new rfl _ _ _ rfl _ _ SA rfl rfl (by rw [hlen1]; rfl) (by rw [hlen1]; rfl) hone1 ?_; intro W6 hX hB; replace HX := Lib.hid (HX.out.tr hX); replace HK := Lib.hid (HK.out.ext hX); replace HRA := Lib.hid (HRA.out.ext hX); have HB := Lib.hid hB; clear hX hB; have hsb : W5.heap.size ≠ kb := (by omega); clear hkb5; generalize W5.heap.size = sb at *)
      have hi21 : (Tryz.prog.info? 39).map (·.size) = some SA.length := by rw [hlen1]; rfl
      have HONE := Lib.hid hone1
      have HS01 := Lib.hid (And.intro hs0 hs1)
      clear hone1 hlen1 hs0 hs1
      as_aux_lemma =>
        refine (sign5c _ HK.out).mono ?_
        rintro e W7 ⟨rfl, hx⟩
        replace HX := Lib.hid (HX.out.tr hx)
        replace HK := Lib.hid (HK.out.ext hx)
        replace HRA := Lib.hid (HRA.out.ext hx)
        replace HB := Lib.hid (HB.out.ext hx)
        clear hx
        go_wp2_with (refine wpList_store_new rfl _ _ _ rfl _ _ sgZ rfl rfl rfl rfl sgZ_one ?_; intro W8 hX hB; replace HX := Lib.hid (HX.out.tr hX); replace HK := Lib.hid (HK.out.ext hX); replace HRA := Lib.hid (HRA.out.ext hX); replace HB := Lib.hid (HB.out.ext hX); clear hX hB)
        refine (res5b _ HK.out).mono ?_
        rintro e W9 ⟨rfl, hx⟩
        replace HX := Lib.hid (HX.out.tr hx)
        replace HK := Lib.hid (HK.out.ext hx)
        replace HRA := Lib.hid (HRA.out.ext hx)
        replace HB := Lib.hid (HB.out.ext hx)
        clear hx
        go_wp2_with fail
        refine (skip5 _ HK.out).mono ?_
        rintro e W10 ⟨rfl, hk, hx⟩
        as_aux_lemma =>
          replace HX := Lib.hid (HX.out.kg hx HLO.out)
          replace HK := Lib.hid hk
          replace HRA := Lib.hid (HRA.out.kg hx HNA.out)
          replace HB := Lib.hid (HB.out.kg hx hsb)
          clear hx hk HNA hsb
          go_wp2_with fail
          refine (sign5d _ HK.out).mono ?_
          rintro e W11 ⟨rfl, hx⟩
          replace HX := Lib.hid (HX.out.tr hx)
          replace HK := Lib.hid (HK.out.ext hx)
          replace HRA := Lib.hid (HRA.out.ext hx)
          replace HB := Lib.hid (HB.out.ext hx)
          clear hx
          go_wp2_with (refine wpList_store_new rfl _ _ _ rfl _ _ sgZ rfl rfl rfl rfl sgZ_one ?_; intro W12 hX hB; replace HX := Lib.hid (HX.out.tr hX); replace HK := Lib.hid (HK.out.ext hX); replace HRA := Lib.hid (HRA.out.ext hX); replace HB := Lib.hid (HB.out.ext hX); clear hX hB)
          refine (ktwin_calls _ HK.out).mono ?_
          rintro e W13 ⟨⟨kt, rfl, hk, -⟩, hx⟩
          replace HX := Lib.hid (HX.out.tr hx)
          replace HK := Lib.hid (HK.out.ext hx)
          replace HRA := Lib.hid (HRA.out.ext hx)
          replace HB := Lib.hid (HB.out.ext hx)
          have HKT := Lib.hid hk
          clear hx hk
          have hrg := HB.out.range
          go_wp2_with (refine wpList_load_mid rfl _ _ rfl sb 0 rfl SA _ hrg Tryz.underlying39 rfl hi21 ?_)
          clear hrg
          refine (HQ1.out _ HRA.out (HT.out.ext HX.out)).mono ?_
          rintro e W14 ⟨rfl, hx⟩
          replace HX := Lib.hid (HX.out.tr hx)
          replace HK := Lib.hid (HK.out.ext hx)
          replace HRA := Lib.hid (HRA.out.ext hx)
          replace HB := Lib.hid (HB.out.ext hx)
          replace HKT := Lib.hid (HKT.out.ext hx)
          clear hx HQ1
          go_wp2_with fail
          refine (parse5 _ (HG.out.ext HX.out) (HR.out.ext HX.out)).mono ?_
          rintro e W15 ⟨⟨A2, c2, rfl, hrd⟩, hx⟩
          replace HX := Lib.hid (HX.out.tr hx)
          replace HK := Lib.hid (HK.out.ext hx)
          replace HRA := Lib.hid (HRA.out.ext hx)
          replace HB := Lib.hid (HB.out.ext hx)
          replace HKT := Lib.hid (HKT.out.ext hx)
          have HRD := Lib.hid hrd
          have hone2 := SG5_one A2 c2
          have hlen2 := SG5_len A2 c2
          replace HQ5 := Lib.hid (fun W h h' => HQ5.out W A2 c2 h h')
          generalize SG5 A2 c2 = SX at *
          clear hx hrd
          go_wp2_with (refine wpList_store_new rfl _ _ _ rfl _ _ SX rfl rfl (by rw [hlen2]; rfl) (by rw [hlen2]; rfl) hone2 ?_; intro W16 hX hB; replace HX := Lib.hid (HX.out.tr hX); replace HK := Lib.hid (HK.out.ext hX); replace HRA := Lib.hid (HRA.out.ext hX); replace HB := Lib.hid (HB.out.ext hX); replace HKT := Lib.hid (HKT.out.ext hX); replace HRD := Lib.hid (HRD.out.ext hX); have HBX := Lib.hid hB; clear hX hB; generalize W15.heap.size = xb at *)
          have hj21 : (Tryz.prog.info? 39).map (·.size) = some SX.length := by rw [hlen2]; rfl
          clear hone2 hlen2
          have HGA := Lib.hid (show ∀ w', (∃ x : ExtW W16, w' = x.1) → w'.rangeAt sb 0 SA from fun w' ⟨x, e⟩ => e ▸ (HB.out.ext x.2).range)
          have HGX := Lib.hid (show ∀ w', (∃ x : ExtW W16, w' = x.1) → w'.rangeAt xb 0 SX from fun w' ⟨x, e⟩ => e ▸ (HBX.out.ext x.2).range)
          have p0 : ∀ x : ExtW W16, x.1.cell? ⟨sb, 0, none⟩ = some (.int .i64 3) := fun x => (HB.out.ext x.2).cell HS01.out.1
          have p1 : ∀ x : ExtW W16, x.1.cell? ⟨sb, 1, none⟩ = some (.int .i64 0) := fun x => (HB.out.ext x.2).cell HS01.out.2
          have XR := Lib.hid (fun x : ExtW W16 => root5 x.1 (HK.out.ext x.2))
          have XN := Lib.hid (fun x : ExtW W16 => knext_calls x.1 (HK.out.ext x.2))
          have XT := Lib.hid (fun x : ExtW W16 => knext_calls x.1 (HKT.out.ext x.2))
          have XL := Lib.hid (fun x : ExtW W16 => left5 x.1 (HK.out.ext x.2))
          have XK := Lib.hid (fun x : ExtW W16 => skip5b x.1 (HK.out.ext x.2))
          have X1 := Lib.hid (fun x : ExtW W16 => HQ2.out x.1 (HRA.out.ext x.2))
          have X2 := Lib.hid (fun x : ExtW W16 => HQ3.out x.1 (HRA.out.ext x.2))
          have X3 := Lib.hid (fun x : ExtW W16 => HQ4.out x.1)
          have XS := Lib.hid (fun x : ExtW W16 => HQ5.out x.1 (HRD.out.ext x.2) (HRA.out.ext x.2))
          generalize rt5 = RT at *
          clear HQ2 HQ3 HQ4 HQ5 HB HBX HS01 HK HKT HRA HRD HG HR HT HLO HONE
          as_aux_lemma =>
            refine wp_region_grow (by kernel_rfl) (by kernel_rfl) ?_
            simp only [List.append_eq, List.cons_append, List.nil_append]
            iterate 15 (any_goals (first
              | (refine wpQuiet_load_mid _ _ rfl (by rfl) sb 0 (by rfl) SA _ HGA.out Tryz.underlying39 rfl hi21 ?_; simp only [Act.put, List.setIfInBounds_toArray, List.set_cons_zero, List.set_cons_succ])
              | (refine wpQuiet_load_mid _ _ rfl (by rfl) xb 0 (by rfl) SX _ HGX.out Tryz.underlying39 rfl hj21 ?_; simp only [Act.put, List.setIfInBounds_toArray, List.set_cons_zero, List.set_cons_succ])
              | (go_big_quiet_step (first
                | (go_at_call 33; exact grow_of (XR.out _))
                | (go_at_call 111; with_reducible exact grow_of (X1.out _))
                | (go_at_call 111; with_reducible exact grow_of (X2.out _))
                | (go_at_call 111; with_reducible exact grow_of (X3.out _))
                | (go_at_call 40; exact grow_of (XS.out _))
                | (go_at_call 31; with_reducible exact grow_same (XN.out _))
                | (go_at_call 31; with_reducible exact grow_same (XT.out _))
                | (go_at_call 32; exact grow_of (XL.out _))
                | (go_at_call 28; exact grow_same (XK.out _))))))
            as_aux_lemma =>
              iterate 15 (any_goals (first
                | (refine wpQuiet_load_mid _ _ rfl (by rfl) sb 0 (by rfl) SA _ HGA.out Tryz.underlying39 rfl hi21 ?_; simp only [Act.put, List.setIfInBounds_toArray, List.set_cons_zero, List.set_cons_succ])
                | (refine wpQuiet_load_mid _ _ rfl (by rfl) xb 0 (by rfl) SX _ HGX.out Tryz.underlying39 rfl hj21 ?_; simp only [Act.put, List.setIfInBounds_toArray, List.set_cons_zero, List.set_cons_succ])
                | (go_big_quiet_step (first
                  | (go_at_call 33; exact grow_of (XR.out _))
                  | (go_at_call 111; with_reducible exact grow_of (X1.out _))
                  | (go_at_call 111; with_reducible exact grow_of (X2.out _))
                  | (go_at_call 111; with_reducible exact grow_of (X3.out _))
                  | (go_at_call 40; exact grow_of (XS.out _))
                  | (go_at_call 31; with_reducible exact grow_same (XN.out _))
                  | (go_at_call 31; with_reducible exact grow_same (XT.out _))
                  | (go_at_call 32; exact grow_of (XL.out _))
                  | (go_at_call 28; exact grow_same (XK.out _))))))
              as_aux_lemma =>
                iterate 15 (any_goals (first
                  | (refine wpQuiet_load_mid _ _ rfl (by rfl) sb 0 (by rfl) SA _ HGA.out Tryz.underlying39 rfl hi21 ?_; simp only [Act.put, List.setIfInBounds_toArray, List.set_cons_zero, List.set_cons_succ])
                  | (refine wpQuiet_load_mid _ _ rfl (by rfl) xb 0 (by rfl) SX _ HGX.out Tryz.underlying39 rfl hj21 ?_; simp only [Act.put, List.setIfInBounds_toArray, List.set_cons_zero, List.set_cons_succ])
                  | (go_big_quiet_step (first
                    | (go_at_call 33; exact grow_of (XR.out _))
                    | (go_at_call 111; with_reducible exact grow_of (X1.out _))
                    | (go_at_call 111; with_reducible exact grow_of (X2.out _))
                    | (go_at_call 111; with_reducible exact grow_of (X3.out _))
                    | (go_at_call 40; exact grow_of (XS.out _))
                    | (go_at_call 31; with_reducible exact grow_same (XN.out _))
                    | (go_at_call 31; with_reducible exact grow_same (XT.out _))
                    | (go_at_call 32; exact grow_of (XL.out _))
                    | (go_at_call 28; exact grow_same (XK.out _))))))
                as_aux_lemma =>
                  iterate 15 (any_goals (first
                    | (refine wpQuiet_load_mid _ _ rfl (by rfl) sb 0 (by rfl) SA _ HGA.out Tryz.underlying39 rfl hi21 ?_; simp only [Act.put, List.setIfInBounds_toArray, List.set_cons_zero, List.set_cons_succ])
                    | (refine wpQuiet_load_mid _ _ rfl (by rfl) xb 0 (by rfl) SX _ HGX.out Tryz.underlying39 rfl hj21 ?_; simp only [Act.put, List.setIfInBounds_toArray, List.set_cons_zero, List.set_cons_succ])
                    | (go_big_quiet_step (first
                      | (go_at_call 33; exact grow_of (XR.out _))
                      | (go_at_call 111; with_reducible exact grow_of (X1.out _))
                      | (go_at_call 111; with_reducible exact grow_of (X2.out _))
                      | (go_at_call 111; with_reducible exact grow_of (X3.out _))
                      | (go_at_call 40; exact grow_of (XS.out _))
                      | (go_at_call 31; with_reducible exact grow_same (XN.out _))
                      | (go_at_call 31; with_reducible exact grow_same (XT.out _))
                      | (go_at_call 32; exact grow_of (XL.out _))
                      | (go_at_call 28; exact grow_same (XK.out _))))))
                  as_aux_lemma =>
                    iterate 15 (any_goals (first
                      | (refine wpQuiet_load_mid _ _ rfl (by rfl) sb 0 (by rfl) SA _ HGA.out Tryz.underlying39 rfl hi21 ?_; simp only [Act.put, List.setIfInBounds_toArray, List.set_cons_zero, List.set_cons_succ])
                      | (refine wpQuiet_load_mid _ _ rfl (by rfl) xb 0 (by rfl) SX _ HGX.out Tryz.underlying39 rfl hj21 ?_; simp only [Act.put, List.setIfInBounds_toArray, List.set_cons_zero, List.set_cons_succ])
                      | (go_big_quiet_step (first
                        | (go_at_call 33; exact grow_of (XR.out _))
                        | (go_at_call 111; with_reducible exact grow_of (X1.out _))
                        | (go_at_call 111; with_reducible exact grow_of (X2.out _))
                        | (go_at_call 111; with_reducible exact grow_of (X3.out _))
                        | (go_at_call 40; exact grow_of (XS.out _))
                        | (go_at_call 31; with_reducible exact grow_same (XN.out _))
                        | (go_at_call 31; with_reducible exact grow_same (XT.out _))
                        | (go_at_call 32; exact grow_of (XL.out _))
                        | (go_at_call 28; exact grow_same (XK.out _))))))
                    as_aux_lemma =>
                      repeat (any_goals (first
                        | (refine wpQuiet_load_mid _ _ rfl (by rfl) sb 0 (by rfl) SA _ HGA.out Tryz.underlying39 rfl hi21 ?_; simp only [Act.put, List.setIfInBounds_toArray, List.set_cons_zero, List.set_cons_succ])
                        | (refine wpQuiet_load_mid _ _ rfl (by rfl) xb 0 (by rfl) SX _ HGX.out Tryz.underlying39 rfl hj21 ?_; simp only [Act.put, List.setIfInBounds_toArray, List.set_cons_zero, List.set_cons_succ])
                        | (go_big_quiet_step (first
                          | (go_at_call 33; exact grow_of (XR.out _))
                          | (go_at_call 111; with_reducible exact grow_of (X1.out _))
                          | (go_at_call 111; with_reducible exact grow_of (X2.out _))
                          | (go_at_call 111; with_reducible exact grow_of (X3.out _))
                          | (go_at_call 40; exact grow_of (XS.out _))
                          | (go_at_call 31; with_reducible exact grow_same (XN.out _))
                          | (go_at_call 31; with_reducible exact grow_same (XT.out _))
                          | (go_at_call 32; exact grow_of (XL.out _))
                          | (go_at_call 28; exact grow_same (XK.out _))))))
                      refine wpQuiet_nil ?_
                      rintro _ ⟨⟨v2, hx⟩, rfl⟩
                      have HZ := Lib.hid (HX.out.tr hx)
                      clear hx
                      go_wp2
                      go_ret
                      exact ⟨ret_bool (by first | rfl | simp), HZ.out⟩
end Go.Proofs.YtbbgmlnfpnomiaaGreatDoor
