/- The walk of the law StampWords. -/
import Derived.Test.YtbbgmlnfpnomiaaGreatDoorStU
import Derived.Test.YtbbgmlnfpnomiaaGreatDoorStW
set_option linter.unusedVariables false
set_option linter.unusedSimpArgs false
namespace Go.Proofs.YtbbgmlnfpnomiaaGreatDoor
open Go.RowKit Go.Sort
set_option maxRecDepth 100000 in
set_option maxHeartbeats 8000000 in
theorem swords_walk (s : ByteArray) (hss : s.size ≤ 9223372036854775807) (w : World) (hk : KOk w) :
    Calls Tryz.prog 6 #[.string s] w fun e w' => e = .returned (.bool true) ∧ Ext w w' := by
  have HKN := Lib.hid (known11_calls w hk.gl hk.rng hk.tok)
  by_cases g1 : 2000 < s.size
  · have g1i : (2000 : Int) < (s.size : Int) := by omega
    clear hk hss g1
    go_enter Tryz.func6, Tryz.ntmps6
    go_wp2_with fail
    refine HKN.out.mono ?_
    rintro e w1 ⟨rfl, hx⟩
    have HX := Lib.hid hx
    clear hx
    go_wp2
    go_ret
    exact ⟨rfl, HX.out⟩
  have g1i : ¬ ((2000 : Int) < (s.size : Int)) := by omega
  have HG := Lib.hid (fun W (hx : Ext w W) => hk.ext hx)
  have HP1 := Lib.hid (fun W (hx : Ext w W) => parse_st s (by omega) W (HG.out W hx).gl (HG.out W hx).rng)
  have HP2 := Lib.hid (fun W => rparse_st s (by omega) W)
  have hB := stBd_of (bs s)
  have hF := stCode_back s
  have hcd := stCode_pos (bs s)
  generalize stCode (K.pst (bs s)) = E at *
  generalize stOf (K.pst (bs s)) = X at *
  have HO := Lib.hid (fun A c W h => of_st X hB.1 (by omega) A c W h)
  have HS := Lib.hid (fun A B c d W h h' => rsame_st X hB.1 (by omega) A B c d W h h')
  have HT := Lib.hid (fun A c W h ht => text_st X hB.1 (by omega) A c W h ht)
  have hl := fun A c => stC_len X hB.1 A c
  have ho := fun A c => stC_one X A c
  obtain ⟨SG, hSG⟩ : ∃ SG : Option Addr → Nat → List Value, (fun A c => stC X A c) = SG := ⟨_, rfl⟩
  have hsg : ∀ A c, stC X A c = SG A c := fun A c => congrFun (congrFun hSG A) c
  simp only [hsg] at HP1 HP2 HO HS HT hl ho
  generalize cDg X.sig.path = PT at *
  generalize hTX : strOf (K.stx X) = TX at *
  clear hsg hSG hTX hB hss hk
  go_enter Tryz.func6, Tryz.ntmps6
  go_wp2_with fail
  refine HKN.out.mono ?_
  rintro e W1 ⟨rfl, hx⟩
  have HX := Lib.hid hx
  clear hx HKN
  go_wp2_with fail
  refine (HP1.out _ HX.out).mono ?_
  rintro e W2 ⟨⟨B1, d1, rfl, hr1, -⟩, hx⟩
  replace HX := Lib.hid (HX.out.tr hx)
  have HR1 := Lib.hid hr1
  clear hx hr1 HP1
  have hl1 := hl B1 d1
  have ho1 := ho B1 d1
  go_upto_region 6 with (refine wpList_store_new rfl _ _ _ rfl _ _ (SG B1 d1) rfl rfl (by rw [hl1]; rfl) (by rw [hl1]; rfl) ho1 ?_; intro W3 hX hB; replace HX := Lib.hid (HX.out.tr hX); replace HR1 := Lib.hid (HR1.out.ext hX); have HB1 := Lib.hid hB; clear hX hB)
  generalize W2.heap.size = b1 at *
  go_wp2_with fail
  refine (HP2.out _).mono ?_
  rintro e W4 ⟨⟨B2, d2, rfl, hr2, -⟩, hx⟩
  replace HX := Lib.hid (HX.out.tr hx)
  replace HR1 := Lib.hid (HR1.out.ext hx)
  replace HB1 := Lib.hid (HB1.out.ext hx)
  have HR2 := Lib.hid hr2
  clear hx hr2 HP2
  have hl2 := hl B2 d2
  have ho2 := ho B2 d2
  go_upto_region 7 with (refine wpList_store_new rfl _ _ _ rfl _ _ (SG B2 d2) rfl rfl (by rw [hl2]; rfl) (by rw [hl2]; rfl) ho2 ?_; intro W5 hX hB; replace HX := Lib.hid (HX.out.tr hX); replace HR1 := Lib.hid (HR1.out.ext hX); replace HB1 := Lib.hid (HB1.out.ext hX); replace HR2 := Lib.hid (HR2.out.ext hX); have HB2 := Lib.hid hB; clear hX hB)
  generalize W4.heap.size = b2 at *
  replace HX := Lib.hid HX.out.drew
  replace HR1 := Lib.hid HR1.out.drew
  replace HR2 := Lib.hid HR2.out.drew
  replace HB1 := Lib.hid HB1.out.drew
  replace HB2 := Lib.hid HB2.out.drew
  have hi1 : (Tryz.prog.info? 80).map (·.size) = some (SG B1 d1).length := by rw [hl1]; rfl
  have hi2 : (Tryz.prog.info? 73).map (·.size) = some (SG B2 d2).length := by rw [hl2]; rfl
  have HCE := Lib.hid (show ∀ W, Ext W5.drew W → (W.rangeAt b1 0 (SG B1 d1) ∧ W.rangeAt b2 0 (SG B2 d2)) from fun W hx => ⟨(HB1.out.ext hx).range, (HB2.out.ext hx).range⟩)
  have HY := Lib.hid (Ext.rfl' W5.drew)
  have HT2 := Lib.hid (show ∀ W, Ext W5.drew W → TOk W from fun W hx => (HG.out _ (Ext.tr HX.out hx)).tok)
  clear HB1 HB2
  rcases hcd with rfl | hE
  · have hTX := hF rfl
    clear hF
    subst hTX
    have hss : (TX.toList == TX.toList) = true := by simp
    have hss2 : (TX == TX) = true := (MapKept.bytes_beq TX TX).2 rfl
    refine wp_region_held_drew (S := fun W => W.rangeAt b1 0 (SG B1 d1) ∧ W.rangeAt b2 0 (SG B2 d2)) (by kernel_rfl) (HCE.out _ HY.out) (fun hHeld => ?_)
    generalize W5.drew = Y0 at *
    refine wpAnyH_take (i := 0) (v := ?_) (by first | (simp only [List.getElem?_toArray, List.getElem?_cons_zero, List.getElem?_cons_succ]; done) | (simp only [List.getElem?_toArray, List.getElem?_cons_zero, List.getElem?_cons_succ]; rfl)) (by kernel_rfl) (by kernel_rfl) (by kernel_rfl) (by exact fun _ _ _ h => h) (Or.inl ⟨by rfl, ?hy0⟩) (by assumption) ?_
    case hy0 => (intro w' hSw; clear hSw; go_simp; try with_reducible rfl)
    try simp only [Act.put, List.setIfInBounds_toArray, List.set_cons_zero, List.set_cons_succ]
    refine wpAnyH_take (i := 1) (v := ?_) (by first | (simp only [List.getElem?_toArray, List.getElem?_cons_zero, List.getElem?_cons_succ]; done) | (simp only [List.getElem?_toArray, List.getElem?_cons_zero, List.getElem?_cons_succ]; rfl)) (by kernel_rfl) (by kernel_rfl) (by kernel_rfl) (by exact fun _ _ _ h => h) (Or.inl ⟨by rfl, ?hy1⟩) (by assumption) ?_
    case hy1 => (intro w' hSw; clear hSw; go_simp; try with_reducible rfl)
    try simp only [Act.put, List.setIfInBounds_toArray, List.set_cons_zero, List.set_cons_succ]
    refine wpAnyH_take (i := 2) (v := ?_) (by first | (simp only [List.getElem?_toArray, List.getElem?_cons_zero, List.getElem?_cons_succ]; done) | (simp only [List.getElem?_toArray, List.getElem?_cons_zero, List.getElem?_cons_succ]; rfl)) (by kernel_rfl) (by kernel_rfl) (by kernel_rfl) (by exact fun _ _ _ h => h) (Or.inl ⟨by rfl, ?hy2⟩) (by assumption) ?_
    case hy2 => (intro w' hSw; clear hSw; go_simp; try with_reducible rfl)
    try simp only [Act.put, List.setIfInBounds_toArray, List.set_cons_zero, List.set_cons_succ]
    refine wpAnyH_take (i := 3) (v := ?_) (by first | (simp only [List.getElem?_toArray, List.getElem?_cons_zero, List.getElem?_cons_succ]; done) | (simp only [List.getElem?_toArray, List.getElem?_cons_zero, List.getElem?_cons_succ]; rfl)) (by kernel_rfl) (by kernel_rfl) (by kernel_rfl) (by exact fun _ _ _ h => h) (Or.inl ⟨by rfl, ?hy3⟩) (by assumption) ?_
    case hy3 => (intro w' hSw; clear hSw; go_simp; try with_reducible rfl)
    try simp only [Act.put, List.setIfInBounds_toArray, List.set_cons_zero, List.set_cons_succ]
    refine wpAnyH_take (i := 4) (v := .agg (SG B1 d1).toArray) (by first | (simp only [List.getElem?_toArray, List.getElem?_cons_zero, List.getElem?_cons_succ]; done) | (simp only [List.getElem?_toArray, List.getElem?_cons_zero, List.getElem?_cons_succ]; rfl)) (by kernel_rfl) (by kernel_rfl) (by kernel_rfl) (by exact fun _ _ _ h => h) (Or.inl ⟨by rfl, fun w' hSw => run_load_mid _ _ _ _ rfl b1 0 (by rfl) _ _ w' hSw.1 Tryz.underlying80 rfl hi1⟩) (by assumption) ?_
    try simp only [Act.put, List.setIfInBounds_toArray, List.set_cons_zero, List.set_cons_succ]
    refine wpAnyH_take (i := 6) (v := .agg (SG B2 d2).toArray) (by first | (simp only [List.getElem?_toArray, List.getElem?_cons_zero, List.getElem?_cons_succ]; done) | (simp only [List.getElem?_toArray, List.getElem?_cons_zero, List.getElem?_cons_succ]; rfl)) (by kernel_rfl) (by kernel_rfl) (by kernel_rfl) (by exact fun _ _ _ h => h) (Or.inl ⟨by rfl, fun w' hSw => run_load_mid _ _ _ _ rfl b2 0 (by rfl) _ _ w' hSw.2 Tryz.underlying73 rfl hi2⟩) (by assumption) ?_
    try simp only [Act.put, List.setIfInBounds_toArray, List.set_cons_zero, List.set_cons_succ]
    refine wpAnyH_ready (rs := [5]) (by kernel_rfl) (by simp) ?_
    refine AllReadyH.cons (by first | (simp only [List.getElem?_toArray, List.getElem?_cons_zero, List.getElem?_cons_succ]; done) | (simp only [List.getElem?_toArray, List.getElem?_cons_zero, List.getElem?_cons_succ]; rfl)) (fun K hK => ?_) AllReadyH.nil
    go_simp
    refine (HO.out _ _ _ (HR1.out.ext HY.out)).mono ?_
    rintro e Y1 ⟨⟨A3, c3, rfl, hr3, -⟩, hx⟩
    have HR3 := Lib.hid hr3
    clear hr3
    replace HY := Lib.hid (HY.out.tr hx)
    try (go_wp2_with fail)
    refine hK.out _ _ (HCE.out _ HY.out) (fun hHeld => ?_)
    clear hx hK K
    try simp only [Act.put, List.setIfInBounds_toArray, List.set_cons_zero, List.set_cons_succ]
    refine wpAnyH_ready (rs := [7]) (by kernel_rfl) (by simp) ?_
    refine AllReadyH.cons (by first | (simp only [List.getElem?_toArray, List.getElem?_cons_zero, List.getElem?_cons_succ]; done) | (simp only [List.getElem?_toArray, List.getElem?_cons_zero, List.getElem?_cons_succ]; rfl)) (fun K hK => ?_) AllReadyH.nil
    go_simp
    refine (HS.out _ _ _ _ _ HR3.out (HR2.out.ext HY.out)).mono ?_
    rintro e Y2 ⟨rfl, hx⟩
    clear HR3
    replace HY := Lib.hid (HY.out.tr hx)
    try (go_wp2_with fail)
    refine hK.out _ _ (HCE.out _ HY.out) (fun hHeld => ?_)
    clear hx hK K
    try simp only [Act.put, List.setIfInBounds_toArray, List.set_cons_zero, List.set_cons_succ]
    refine wpAnyH_take (i := 8) (v := ?_) (by first | (simp only [List.getElem?_toArray, List.getElem?_cons_zero, List.getElem?_cons_succ]; done) | (simp only [List.getElem?_toArray, List.getElem?_cons_zero, List.getElem?_cons_succ]; rfl)) (by kernel_rfl) (by kernel_rfl) (by kernel_rfl) (by exact fun _ _ _ h => h) (Or.inl ⟨by rfl, ?hy8⟩) (by assumption) ?_
    case hy8 => (intro w' hSw; clear hSw; go_simp; try with_reducible rfl)
    try simp only [Act.put, List.setIfInBounds_toArray, List.set_cons_zero, List.set_cons_succ]
    refine wpAnyH_take (i := 9) (v := ?_) (by first | (simp only [List.getElem?_toArray, List.getElem?_cons_zero, List.getElem?_cons_succ]; done) | (simp only [List.getElem?_toArray, List.getElem?_cons_zero, List.getElem?_cons_succ]; rfl)) (by kernel_rfl) (by kernel_rfl) (by kernel_rfl) (by exact fun _ _ _ h => h) (Or.inl ⟨by rfl, ?hy9⟩) (by assumption) ?_
    case hy9 => (intro w' hSw; clear hSw; go_simp; try with_reducible rfl)
    try simp only [Act.put, List.setIfInBounds_toArray, List.set_cons_zero, List.set_cons_succ]
    refine wpAnyH_take (i := 10) (v := ?_) (by first | (simp only [List.getElem?_toArray, List.getElem?_cons_zero, List.getElem?_cons_succ]; done) | (simp only [List.getElem?_toArray, List.getElem?_cons_zero, List.getElem?_cons_succ]; rfl)) (by kernel_rfl) (by kernel_rfl) (by kernel_rfl) (by exact fun _ _ _ h => h) (Or.inl ⟨by rfl, ?hy10⟩) (by assumption) ?_
    case hy10 => (intro w' hSw; clear hSw; go_simp; try with_reducible rfl)
    try simp only [Act.put, List.setIfInBounds_toArray, List.set_cons_zero, List.set_cons_succ]
    refine wpAnyH_take (i := 11) (v := ?_) (by first | (simp only [List.getElem?_toArray, List.getElem?_cons_zero, List.getElem?_cons_succ]; done) | (simp only [List.getElem?_toArray, List.getElem?_cons_zero, List.getElem?_cons_succ]; rfl)) (by kernel_rfl) (by kernel_rfl) (by kernel_rfl) (by exact fun _ _ _ h => h) (Or.inl ⟨by rfl, ?hy11⟩) (by assumption) ?_
    case hy11 => (intro w' hSw; clear hSw; go_simp; try with_reducible rfl)
    try simp only [Act.put, List.setIfInBounds_toArray, List.set_cons_zero, List.set_cons_succ]
    refine wpAnyH_take (i := 12) (v := ?_) (by first | (simp only [List.getElem?_toArray, List.getElem?_cons_zero, List.getElem?_cons_succ]; done) | (simp only [List.getElem?_toArray, List.getElem?_cons_zero, List.getElem?_cons_succ]; rfl)) (by kernel_rfl) (by kernel_rfl) (by kernel_rfl) (by exact fun _ _ _ h => h) (Or.inl ⟨by rfl, ?hy12⟩) (by assumption) ?_
    case hy12 => (intro w' hSw; clear hSw; go_simp; try with_reducible rfl)
    try simp only [Act.put, List.setIfInBounds_toArray, List.set_cons_zero, List.set_cons_succ]
    refine wpAnyH_take (i := 13) (v := .agg (SG B1 d1).toArray) (by first | (simp only [List.getElem?_toArray, List.getElem?_cons_zero, List.getElem?_cons_succ]; done) | (simp only [List.getElem?_toArray, List.getElem?_cons_zero, List.getElem?_cons_succ]; rfl)) (by kernel_rfl) (by kernel_rfl) (by kernel_rfl) (by exact fun _ _ _ h => h) (Or.inl ⟨by rfl, fun w' hSw => run_load_mid _ _ _ _ rfl b1 0 (by rfl) _ _ w' hSw.1 Tryz.underlying80 rfl hi1⟩) (by assumption) ?_
    try simp only [Act.put, List.setIfInBounds_toArray, List.set_cons_zero, List.set_cons_succ]
    refine wpAnyH_take (i := 15) (v := ?_) (by first | (simp only [List.getElem?_toArray, List.getElem?_cons_zero, List.getElem?_cons_succ]; done) | (simp only [List.getElem?_toArray, List.getElem?_cons_zero, List.getElem?_cons_succ]; rfl)) (by kernel_rfl) (by kernel_rfl) (by kernel_rfl) (by exact fun _ _ _ h => h) (Or.inl ⟨by rfl, ?hy15⟩) (by assumption) ?_
    case hy15 => (intro w' hSw; clear hSw; go_simp; try with_reducible rfl)
    try simp only [Act.put, List.setIfInBounds_toArray, List.set_cons_zero, List.set_cons_succ]
    refine wpAnyH_ready (rs := [14]) (by kernel_rfl) (by simp) ?_
    refine AllReadyH.cons (by first | (simp only [List.getElem?_toArray, List.getElem?_cons_zero, List.getElem?_cons_succ]; done) | (simp only [List.getElem?_toArray, List.getElem?_cons_zero, List.getElem?_cons_succ]; rfl)) (fun K hK => ?_) AllReadyH.nil
    go_simp
    refine (HT.out _ _ _ (HR1.out.ext HY.out) (HT2.out _ HY.out)).mono ?_
    rintro e Y3 ⟨rfl, hx⟩
    replace HY := Lib.hid (HY.out.tr hx)
    try (go_wp2_with fail)
    refine hK.out _ _ (HCE.out _ HY.out) (fun hHeld => ?_)
    clear hx hK K
    try simp only [Act.put, List.setIfInBounds_toArray, List.set_cons_zero, List.set_cons_succ]
    refine wpAnyH_take (i := 16) (v := ?_) (by first | (simp only [List.getElem?_toArray, List.getElem?_cons_zero, List.getElem?_cons_succ]; done) | (simp only [List.getElem?_toArray, List.getElem?_cons_zero, List.getElem?_cons_succ]; rfl)) (by kernel_rfl) (by kernel_rfl) (by kernel_rfl) (by exact fun _ _ _ h => h) (Or.inl ⟨by rfl, ?hy16⟩) (by assumption) ?_
    case hy16 => (intro w' hSw; clear hSw; go_simp; try with_reducible rfl)
    try simp only [Act.put, List.setIfInBounds_toArray, List.set_cons_zero, List.set_cons_succ]
    refine wpAnyH_take (i := 17) (v := ?_) (by first | (simp only [List.getElem?_toArray, List.getElem?_cons_zero, List.getElem?_cons_succ]; done) | (simp only [List.getElem?_toArray, List.getElem?_cons_zero, List.getElem?_cons_succ]; rfl)) (by kernel_rfl) (by kernel_rfl) (by kernel_rfl) (by exact fun _ _ _ h => h) (Or.inl ⟨by rfl, ?hy17⟩) (by assumption) ?_
    case hy17 => (intro w' hSw; clear hSw; go_simp; try with_reducible rfl)
    try simp only [Act.put, List.setIfInBounds_toArray, List.set_cons_zero, List.set_cons_succ]
    refine wpAnyH_take (i := 18) (v := ?_) (by first | (simp only [List.getElem?_toArray, List.getElem?_cons_zero, List.getElem?_cons_succ]; done) | (simp only [List.getElem?_toArray, List.getElem?_cons_zero, List.getElem?_cons_succ]; rfl)) (by kernel_rfl) (by kernel_rfl) (by kernel_rfl) (by exact fun _ _ _ h => h) (Or.inl ⟨by rfl, ?hy18⟩) (by assumption) ?_
    case hy18 => (intro w' hSw; clear hSw; go_simp; try with_reducible rfl)
    try simp only [Act.put, List.setIfInBounds_toArray, List.set_cons_zero, List.set_cons_succ]
    refine wpAnyH_take (i := 19) (v := ?_) (by first | (simp only [List.getElem?_toArray, List.getElem?_cons_zero, List.getElem?_cons_succ]; done) | (simp only [List.getElem?_toArray, List.getElem?_cons_zero, List.getElem?_cons_succ]; rfl)) (by kernel_rfl) (by kernel_rfl) (by kernel_rfl) (by exact fun _ _ _ h => h) (Or.inl ⟨by rfl, ?hy19⟩) (by assumption) ?_
    case hy19 => (intro w' hSw; clear hSw; go_simp; try with_reducible rfl)
    try simp only [Act.put, List.setIfInBounds_toArray, List.set_cons_zero, List.set_cons_succ]
    refine wpAnyH_done (by kernel_rfl) ?_ _
    clear hHeld
    have HFIN := Lib.hid (Ext.tr HX.out HY.out)
    go_wp2
    go_ret
    exact ⟨ret_bool (by first | rfl | simp), HFIN.out⟩
  · have hE1 : (E == 0) = false := beq_eq_false_iff_ne.2 (by omega)
    have hE2 : (E != 0) = true := by simp; omega
    have hE3 : (E == E) = true := by simp
    clear hF
    refine wp_region_held_drew (S := fun W => W.rangeAt b1 0 (SG B1 d1) ∧ W.rangeAt b2 0 (SG B2 d2)) (by kernel_rfl) (HCE.out _ HY.out) (fun hHeld => ?_)
    generalize W5.drew = Y0 at *
    refine wpAnyH_take (i := 0) (v := ?_) (by first | (simp only [List.getElem?_toArray, List.getElem?_cons_zero, List.getElem?_cons_succ]; done) | (simp only [List.getElem?_toArray, List.getElem?_cons_zero, List.getElem?_cons_succ]; rfl)) (by kernel_rfl) (by kernel_rfl) (by kernel_rfl) (by exact fun _ _ _ h => h) (Or.inl ⟨by rfl, ?hy0⟩) (by assumption) ?_
    case hy0 => (intro w' hSw; clear hSw; go_simp; try with_reducible rfl)
    try simp only [Act.put, List.setIfInBounds_toArray, List.set_cons_zero, List.set_cons_succ]
    refine wpAnyH_take (i := 1) (v := ?_) (by first | (simp only [List.getElem?_toArray, List.getElem?_cons_zero, List.getElem?_cons_succ]; done) | (simp only [List.getElem?_toArray, List.getElem?_cons_zero, List.getElem?_cons_succ]; rfl)) (by kernel_rfl) (by kernel_rfl) (by kernel_rfl) (by exact fun _ _ _ h => h) (Or.inl ⟨by rfl, ?hy1⟩) (by assumption) ?_
    case hy1 => (intro w' hSw; clear hSw; go_simp; try with_reducible rfl)
    try simp only [Act.put, List.setIfInBounds_toArray, List.set_cons_zero, List.set_cons_succ]
    refine wpAnyH_take (i := 2) (v := ?_) (by first | (simp only [List.getElem?_toArray, List.getElem?_cons_zero, List.getElem?_cons_succ]; done) | (simp only [List.getElem?_toArray, List.getElem?_cons_zero, List.getElem?_cons_succ]; rfl)) (by kernel_rfl) (by kernel_rfl) (by kernel_rfl) (by exact fun _ _ _ h => h) (Or.inl ⟨by rfl, ?hy2⟩) (by assumption) ?_
    case hy2 => (intro w' hSw; clear hSw; go_simp; try with_reducible rfl)
    try simp only [Act.put, List.setIfInBounds_toArray, List.set_cons_zero, List.set_cons_succ]
    refine wpAnyH_take (i := 3) (v := ?_) (by first | (simp only [List.getElem?_toArray, List.getElem?_cons_zero, List.getElem?_cons_succ]; done) | (simp only [List.getElem?_toArray, List.getElem?_cons_zero, List.getElem?_cons_succ]; rfl)) (by kernel_rfl) (by kernel_rfl) (by kernel_rfl) (by exact fun _ _ _ h => h) (Or.inl ⟨by rfl, ?hy3⟩) (by assumption) ?_
    case hy3 => (intro w' hSw; clear hSw; go_simp; try with_reducible rfl)
    try simp only [Act.put, List.setIfInBounds_toArray, List.set_cons_zero, List.set_cons_succ]
    refine wpAnyH_take (i := 4) (v := .agg (SG B1 d1).toArray) (by first | (simp only [List.getElem?_toArray, List.getElem?_cons_zero, List.getElem?_cons_succ]; done) | (simp only [List.getElem?_toArray, List.getElem?_cons_zero, List.getElem?_cons_succ]; rfl)) (by kernel_rfl) (by kernel_rfl) (by kernel_rfl) (by exact fun _ _ _ h => h) (Or.inl ⟨by rfl, fun w' hSw => run_load_mid _ _ _ _ rfl b1 0 (by rfl) _ _ w' hSw.1 Tryz.underlying80 rfl hi1⟩) (by assumption) ?_
    try simp only [Act.put, List.setIfInBounds_toArray, List.set_cons_zero, List.set_cons_succ]
    refine wpAnyH_take (i := 6) (v := .agg (SG B2 d2).toArray) (by first | (simp only [List.getElem?_toArray, List.getElem?_cons_zero, List.getElem?_cons_succ]; done) | (simp only [List.getElem?_toArray, List.getElem?_cons_zero, List.getElem?_cons_succ]; rfl)) (by kernel_rfl) (by kernel_rfl) (by kernel_rfl) (by exact fun _ _ _ h => h) (Or.inl ⟨by rfl, fun w' hSw => run_load_mid _ _ _ _ rfl b2 0 (by rfl) _ _ w' hSw.2 Tryz.underlying73 rfl hi2⟩) (by assumption) ?_
    try simp only [Act.put, List.setIfInBounds_toArray, List.set_cons_zero, List.set_cons_succ]
    refine wpAnyH_ready (rs := [5]) (by kernel_rfl) (by simp) ?_
    refine AllReadyH.cons (by first | (simp only [List.getElem?_toArray, List.getElem?_cons_zero, List.getElem?_cons_succ]; done) | (simp only [List.getElem?_toArray, List.getElem?_cons_zero, List.getElem?_cons_succ]; rfl)) (fun K hK => ?_) AllReadyH.nil
    go_simp
    refine (HO.out _ _ _ (HR1.out.ext HY.out)).mono ?_
    rintro e Y4 ⟨⟨A3, c3, rfl, hr3, -⟩, hx⟩
    have HR3 := Lib.hid hr3
    clear hr3
    replace HY := Lib.hid (HY.out.tr hx)
    try (go_wp2_with fail)
    refine hK.out _ _ (HCE.out _ HY.out) (fun hHeld => ?_)
    clear hx hK K
    try simp only [Act.put, List.setIfInBounds_toArray, List.set_cons_zero, List.set_cons_succ]
    refine wpAnyH_ready (rs := [7]) (by kernel_rfl) (by simp) ?_
    refine AllReadyH.cons (by first | (simp only [List.getElem?_toArray, List.getElem?_cons_zero, List.getElem?_cons_succ]; done) | (simp only [List.getElem?_toArray, List.getElem?_cons_zero, List.getElem?_cons_succ]; rfl)) (fun K hK => ?_) AllReadyH.nil
    go_simp
    refine (HS.out _ _ _ _ _ HR3.out (HR2.out.ext HY.out)).mono ?_
    rintro e Y5 ⟨rfl, hx⟩
    clear HR3
    replace HY := Lib.hid (HY.out.tr hx)
    try (go_wp2_with fail)
    refine hK.out _ _ (HCE.out _ HY.out) (fun hHeld => ?_)
    clear hx hK K
    try simp only [Act.put, List.setIfInBounds_toArray, List.set_cons_zero, List.set_cons_succ]
    refine wpAnyH_take (i := 8) (v := ?_) (by first | (simp only [List.getElem?_toArray, List.getElem?_cons_zero, List.getElem?_cons_succ]; done) | (simp only [List.getElem?_toArray, List.getElem?_cons_zero, List.getElem?_cons_succ]; rfl)) (by kernel_rfl) (by kernel_rfl) (by kernel_rfl) (by exact fun _ _ _ h => h) (Or.inl ⟨by rfl, ?hy8⟩) (by assumption) ?_
    case hy8 => (intro w' hSw; clear hSw; go_simp; try with_reducible rfl)
    try simp only [Act.put, List.setIfInBounds_toArray, List.set_cons_zero, List.set_cons_succ]
    refine wpAnyH_take (i := 9) (v := ?_) (by first | (simp only [List.getElem?_toArray, List.getElem?_cons_zero, List.getElem?_cons_succ]; done) | (simp only [List.getElem?_toArray, List.getElem?_cons_zero, List.getElem?_cons_succ]; rfl)) (by kernel_rfl) (by kernel_rfl) (by kernel_rfl) (by exact fun _ _ _ h => h) (Or.inl ⟨by rfl, ?hy9⟩) (by assumption) ?_
    case hy9 => (intro w' hSw; clear hSw; go_simp; try with_reducible rfl)
    try simp only [Act.put, List.setIfInBounds_toArray, List.set_cons_zero, List.set_cons_succ]
    refine wpAnyH_take (i := 10) (v := ?_) (by first | (simp only [List.getElem?_toArray, List.getElem?_cons_zero, List.getElem?_cons_succ]; done) | (simp only [List.getElem?_toArray, List.getElem?_cons_zero, List.getElem?_cons_succ]; rfl)) (by kernel_rfl) (by kernel_rfl) (by kernel_rfl) (by exact fun _ _ _ h => h) (Or.inl ⟨by rfl, ?hy10⟩) (by assumption) ?_
    case hy10 => (intro w' hSw; clear hSw; go_simp; try with_reducible rfl)
    try simp only [Act.put, List.setIfInBounds_toArray, List.set_cons_zero, List.set_cons_succ]
    refine wpAnyH_take (i := 11) (v := ?_) (by first | (simp only [List.getElem?_toArray, List.getElem?_cons_zero, List.getElem?_cons_succ]; done) | (simp only [List.getElem?_toArray, List.getElem?_cons_zero, List.getElem?_cons_succ]; rfl)) (by kernel_rfl) (by kernel_rfl) (by kernel_rfl) (by exact fun _ _ _ h => h) (Or.inl ⟨by rfl, ?hy11⟩) (by assumption) ?_
    case hy11 => (intro w' hSw; clear hSw; go_simp; try with_reducible rfl)
    try simp only [Act.put, List.setIfInBounds_toArray, List.set_cons_zero, List.set_cons_succ]
    refine wpAnyH_take (i := 12) (v := ?_) (by first | (simp only [List.getElem?_toArray, List.getElem?_cons_zero, List.getElem?_cons_succ]; done) | (simp only [List.getElem?_toArray, List.getElem?_cons_zero, List.getElem?_cons_succ]; rfl)) (by kernel_rfl) (by kernel_rfl) (by kernel_rfl) (by exact fun _ _ _ h => h) (Or.inl ⟨by rfl, ?hy12⟩) (by assumption) ?_
    case hy12 => (intro w' hSw; clear hSw; go_simp; try with_reducible rfl)
    try simp only [Act.put, List.setIfInBounds_toArray, List.set_cons_zero, List.set_cons_succ]
    refine wpAnyH_take (i := 13) (v := undef) (by first | (simp only [List.getElem?_toArray, List.getElem?_cons_zero, List.getElem?_cons_succ]; done) | (simp only [List.getElem?_toArray, List.getElem?_cons_zero, List.getElem?_cons_succ]; rfl)) (by kernel_rfl) (by kernel_rfl) (by kernel_rfl) (by exact fun _ _ _ h => h) (Or.inr ⟨by rfl, rfl⟩) (by assumption) ?_
    try simp only [Act.put, List.setIfInBounds_toArray, List.set_cons_zero, List.set_cons_succ]
    refine wpAnyH_take (i := 14) (v := undef) (by first | (simp only [List.getElem?_toArray, List.getElem?_cons_zero, List.getElem?_cons_succ]; done) | (simp only [List.getElem?_toArray, List.getElem?_cons_zero, List.getElem?_cons_succ]; rfl)) (by kernel_rfl) (by kernel_rfl) (by kernel_rfl) (by exact fun _ _ _ h => h) (Or.inr ⟨by rfl, rfl⟩) (by assumption) ?_
    try simp only [Act.put, List.setIfInBounds_toArray, List.set_cons_zero, List.set_cons_succ]
    refine wpAnyH_take (i := 15) (v := undef) (by first | (simp only [List.getElem?_toArray, List.getElem?_cons_zero, List.getElem?_cons_succ]; done) | (simp only [List.getElem?_toArray, List.getElem?_cons_zero, List.getElem?_cons_succ]; rfl)) (by kernel_rfl) (by kernel_rfl) (by kernel_rfl) (by exact fun _ _ _ h => h) (Or.inr ⟨by rfl, rfl⟩) (by assumption) ?_
    try simp only [Act.put, List.setIfInBounds_toArray, List.set_cons_zero, List.set_cons_succ]
    refine wpAnyH_take (i := 16) (v := undef) (by first | (simp only [List.getElem?_toArray, List.getElem?_cons_zero, List.getElem?_cons_succ]; done) | (simp only [List.getElem?_toArray, List.getElem?_cons_zero, List.getElem?_cons_succ]; rfl)) (by kernel_rfl) (by kernel_rfl) (by kernel_rfl) (by exact fun _ _ _ h => h) (Or.inr ⟨by rfl, rfl⟩) (by assumption) ?_
    try simp only [Act.put, List.setIfInBounds_toArray, List.set_cons_zero, List.set_cons_succ]
    refine wpAnyH_take (i := 17) (v := ?_) (by first | (simp only [List.getElem?_toArray, List.getElem?_cons_zero, List.getElem?_cons_succ]; done) | (simp only [List.getElem?_toArray, List.getElem?_cons_zero, List.getElem?_cons_succ]; rfl)) (by kernel_rfl) (by kernel_rfl) (by kernel_rfl) (by exact fun _ _ _ h => h) (Or.inl ⟨by rfl, ?hy17⟩) (by assumption) ?_
    case hy17 => (intro w' hSw; clear hSw; go_simp; try with_reducible rfl)
    try simp only [Act.put, List.setIfInBounds_toArray, List.set_cons_zero, List.set_cons_succ]
    refine wpAnyH_take (i := 18) (v := ?_) (by first | (simp only [List.getElem?_toArray, List.getElem?_cons_zero, List.getElem?_cons_succ]; done) | (simp only [List.getElem?_toArray, List.getElem?_cons_zero, List.getElem?_cons_succ]; rfl)) (by kernel_rfl) (by kernel_rfl) (by kernel_rfl) (by exact fun _ _ _ h => h) (Or.inl ⟨by rfl, ?hy18⟩) (by assumption) ?_
    case hy18 => (intro w' hSw; clear hSw; go_simp; try with_reducible rfl)
    try simp only [Act.put, List.setIfInBounds_toArray, List.set_cons_zero, List.set_cons_succ]
    refine wpAnyH_take (i := 19) (v := ?_) (by first | (simp only [List.getElem?_toArray, List.getElem?_cons_zero, List.getElem?_cons_succ]; done) | (simp only [List.getElem?_toArray, List.getElem?_cons_zero, List.getElem?_cons_succ]; rfl)) (by kernel_rfl) (by kernel_rfl) (by kernel_rfl) (by exact fun _ _ _ h => h) (Or.inl ⟨by rfl, ?hy19⟩) (by assumption) ?_
    case hy19 => (intro w' hSw; clear hSw; go_simp; try with_reducible rfl)
    try simp only [Act.put, List.setIfInBounds_toArray, List.set_cons_zero, List.set_cons_succ]
    refine wpAnyH_done (by kernel_rfl) ?_ _
    clear hHeld
    have HFIN := Lib.hid (Ext.tr HX.out HY.out)
    go_wp2
    go_ret
    exact ⟨ret_bool (by first | rfl | simp), HFIN.out⟩
theorem stampWords_walk' {w : World} (s : ByteArray) (ws : s.size ≤ maxLen) (h : KOk w) :
    Calls Tryz.prog 6 #[.string s] w fun e w' => e = .returned (.bool true) ∧ Ext w w' := swords_walk s (by unfold maxLen at ws; omega) w h
end Go.Proofs.YtbbgmlnfpnomiaaGreatDoor
