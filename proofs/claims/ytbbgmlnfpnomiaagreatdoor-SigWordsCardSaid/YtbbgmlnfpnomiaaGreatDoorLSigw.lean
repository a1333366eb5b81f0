/- The walk of the law SigWords. -/
import Derived.Test.YtbbgmlnfpnomiaaGreatDoorKKw
import Derived.Test.YtbbgmlnfpnomiaaGreatDoorKSg
import Derived.Deep.DeepCutAuto
set_option linter.unusedVariables false
set_option linter.unusedSimpArgs false
namespace Go.Proofs.YtbbgmlnfpnomiaaGreatDoor
open Go.RowKit Go.Sort
theorem Rd.far {W0 wr : World} {A : Option Addr} {xs : List Value} {b j : Nat} (h0 : Rd W0 A xs) (hb : W0.heap.size ≤ b) (hr : Rd wr A xs) (v : Value) : Rd (wr.setCell ⟨b, j, none⟩ v) A xs := by
  rcases h0 with h | ⟨ad, e, hlt, _⟩
  · exact .inl h
  · exact hr.setOther (fun ad' e' => by rw [e] at e'; cases e'; omega) v
set_option maxRecDepth 100000 in
set_option maxHeartbeats 6000000 in
theorem sigw_walk (s : ByteArray) (hss : s.size ≤ 9223372036854775807) (who leaf : Int) (hwho : I64 who) (hleaf : I64 leaf) (one path : List Nat) (hone : ∀ x ∈ one, x < 18446744073709551616) (hpath : ∀ x ∈ path, x < 18446744073709551616) (hol : one.length ≤ 9223372036854775807) (hpl : path.length ≤ 9223372036854775807) (A1 A2 : Option Addr) (c1 c2 : Nat) (w : World) (hA1 : Rd w A1 (cDg one)) (hA2 : Rd w A2 (cDg path)) (hk : KOk w) :
    Calls Tryz.prog 4 #[.string s, .int .i64 who, .int .i64 leaf, .slice A1 one.length c1, .slice A2 path.length c2] w fun e w' => e = .returned (.bool true) ∧ Ext w w' := by
  have HKN := Lib.hid (known5_calls w hk.gl hk.rng hk.tok)
  by_cases g1 : 1000 < s.size
  · have g1i : (1000 : Int) < (s.size : Int) := by omega
    clear hA1 hA2 hk hss hwho hleaf hone hpath hol hpl g1
    go_enter Tryz.func4, Tryz.ntmps4
    go_wp2_with fail
    refine HKN.out.mono ?_
    rintro e w1 ⟨rfl, hx⟩
    have HX := Lib.hid hx
    clear hx
    go_wp2
    go_ret
    exact ⟨rfl, HX.out⟩
  have g1i : ¬ ((1000 : Int) < (s.size : Int)) := by omega
  by_cases g2 : one.length < 18
  · have g2i : (one.length : Int) < 18 := by omega
    clear hA1 hA2 hk hss hwho hleaf hone hpath hol hpl g1 g2
    go_enter Tryz.func4, Tryz.ntmps4
    go_wp2_with fail
    refine HKN.out.mono ?_
    rintro e w1 ⟨rfl, hx⟩
    have HX := Lib.hid hx
    clear hx
    go_wp2
    go_ret
    exact ⟨rfl, HX.out⟩
  have g2i : ¬ ((one.length : Int) < 18) := by omega
  by_cases g3 : 20 < path.length
  · have g3i : (20 : Int) < (path.length : Int) := by omega
    clear hA1 hA2 hk hss hwho hleaf hone hpath hol hpl g1 g2 g3
    go_enter Tryz.func4, Tryz.ntmps4
    go_wp2_with fail
    refine HKN.out.mono ?_
    rintro e w1 ⟨rfl, hx⟩
    have HX := Lib.hid hx
    clear hx
    go_wp2
    go_ret
    exact ⟨rfl, HX.out⟩
  have g3i : ¬ ((20 : Int) < (path.length : Int)) := by omega
  have HG := Lib.hid (fun W (hx : Ext w W) => hk.ext hx)
  obtain ⟨G, hGd⟩ : ∃ G : K.Sg, G = ⟨who, leaf, one.take 18, path⟩ := ⟨_, rfl⟩
  have ho18 : (one.take 18).length = 18 := by rw [List.length_take]; omega
  have hGB : SgBd G := by rw [hGd]; exact ⟨hwho, hleaf, fun x hx => hone x (List.mem_of_mem_take hx), hpath, ho18⟩
  have hGP : G.path.length ≤ 100 := by rw [hGd]; show path.length ≤ 100; omega
  have hPB := sgBd_of (bs s)
  have HP1 := Lib.hid (fun W (hx : Ext w W) => (kparse_calls s (by omega) W (HG.out W hx).gl (HG.out W hx).rng).mono fun e w' h => And.intro (sigEnd_of h.1) h.2)
  have HP2 := Lib.hid (fun W => (rparsesig_calls s (by omega) W).mono fun e w' h => And.intro (sigEnd_of h.1) h.2)
  have htl := sigT_len G hGB.who hGB.leaf hGB.one hGB.path hGB.len hGP
  have hts : (strOf (K.sigT G)).size ≤ 1000000 := by rw [show ∀ l : List UInt8, (strOf l).size = l.length from fun l => by show l.toArray.size = _; simp]; omega
  have HQ1 := Lib.hid (fun W (hx : Ext w W) => (kparse_calls (strOf (K.sigT G)) hts W (HG.out W hx).gl (HG.out W hx).rng).mono fun e w' h => And.intro (sigEnd_of h.1) h.2)
  have HQ2 := Lib.hid (fun W => (rparsesig_calls (strOf (K.sigT G)) hts W).mono fun e w' h => And.intro (sigEnd_of h.1) h.2)
  rw [show bs (strOf (K.sigT G)) = K.sigT G from bs_strOf _] at HQ1 HQ2
  have hQB := sgBd_of (K.sigT G)
  have hQE := K.psig_sigT G hGB.who hGB.leaf hGB.one hGB.path
  have HF := Lib.hid (show sgCode (K.psig (bs s)) = 0 → strOf (K.sigT (sgOf (K.psig (bs s)))) = s from fun h0 => by
    cases hc : K.psig (bs s) with
    | none => rw [hc] at h0; cases h0
    | some g =>
      show strOf (K.sigT g) = s
      rw [(K.sigT_psig hc).1, strOf_bs])
  have hcd : sgCode (K.psig (bs s)) = 0 ∨ sgCode (K.psig (bs s)) = 2 := by cases K.psig (bs s) <;> simp [sgCode]
  have hok : K.okSg G.who G.leaf G.one G.path ↔ (0 ≤ who ∧ who ≤ 15 ∧ 0 ≤ leaf ∧ path.length ≤ 8) := by
    rw [hGd]
    constructor
    · rintro ⟨h1, h2, h3, -, h5⟩; exact ⟨h1, h2, h3, h5⟩
    · rintro ⟨h1, h2, h3, h5⟩; exact ⟨h1, h2, h3, ho18, h5⟩
  have hQQ : (sgCode (K.psig (K.sigT G)) = 0 ∧ (0 ≤ who ∧ who ≤ 15 ∧ 0 ≤ leaf ∧ path.length ≤ 8) ∧ sgOf (K.psig (K.sigT G)) = G) ∨ (sgCode (K.psig (K.sigT G)) = 2 ∧ ¬ (0 ≤ who ∧ who ≤ 15 ∧ 0 ≤ leaf ∧ path.length ≤ 8)) := by
    rw [hQE, ← hok]
    by_cases h : K.okSg G.who G.leaf G.one G.path
    · rw [if_pos h]; exact .inl ⟨rfl, h, rfl⟩
    · rw [if_neg h]; exact .inr ⟨rfl, h⟩
  have HSZ := Lib.hid (show sgOf (K.psig (K.sigT G)) = G → ∀ (A B : Option Addr) (c d : Nat) (W : World), Rd W A (cDg (sgOf (K.psig (K.sigT G))).path) → Rd W B (cDg G.path) → Calls Tryz.prog 40 #[.agg (sgC (sgOf (K.psig (K.sigT G))) A c).toArray, .agg (sgC G B d).toArray] W fun e w' => e = .returned (.bool true) ∧ Ext W w' from fun e A B c d W h1 h2 => by rw [e] at h1 ⊢; exact same_sg G hGB hGP A B c d W h1 h2)
  generalize sgCode (K.psig (bs s)) = E1 at *
  generalize sgOf (K.psig (bs s)) = X at *
  generalize sgCode (K.psig (K.sigT G)) = E2 at *
  generalize sgOf (K.psig (K.sigT G)) = Z at *
  have hXl := fun A c => sgC_len X hPB.1 A c
  have hXo := fun A c => sgC_one X A c
  have hZl := fun A c => sgC_len Z hQB.1 A c
  have hZo := fun A c => sgC_one Z A c
  have hGl := sgC_len G hGB
  have hGo := sgC_one G
  have HOX := Lib.hid (fun A c W h => of_sg X hPB.1 (by omega) A c W h)
  have HSX := Lib.hid (fun A B c d W h h' => rsame_sg X hPB.1 (by omega) A B c d W h h')
  have HTX := Lib.hid (fun A c W h ht => text_sg X hPB.1 (by omega) A c W h ht)
  have HOZ := Lib.hid (fun A c W h => of_sg Z hQB.1 (by omega) A c W h)
  have HRZ := Lib.hid (fun A B c d W h h' => rsame_sg Z hQB.1 (by omega) A B c d W h h')
  have HTG := Lib.hid (fun A c W h => to_sg G hGB hGP A c W h)
  have HXG := Lib.hid (fun A c W h ht => text_sg G hGB hGP A c W h ht)
  have HRG := Lib.hid (fun A c W h => rtext_sg G hGB hGP A c W h)
  have HSG := Lib.hid (fun A B c d W h h' => same_sg G hGB hGP A B c d W h h')
  have hGP2 : G.path = path := by rw [hGd]
  have HGC := Lib.hid (show ∀ A c, sgC G A c = sgV who leaf (one.take 18) A path.length c from fun A c => by rw [hGd])
  obtain ⟨GG, hGG⟩ : ∃ GG : Option Addr → Nat → List Value, (fun A c => sgC G A c) = GG := ⟨_, rfl⟩
  have hgg : ∀ A c, sgC G A c = GG A c := fun A c => congrFun (congrFun hGG A) c
  obtain ⟨XG, hXG⟩ : ∃ XG : Option Addr → Nat → List Value, (fun A c => sgC X A c) = XG := ⟨_, rfl⟩
  have hxg : ∀ A c, sgC X A c = XG A c := fun A c => congrFun (congrFun hXG A) c
  obtain ⟨ZG, hZG⟩ : ∃ ZG : Option Addr → Nat → List Value, (fun A c => sgC Z A c) = ZG := ⟨_, rfl⟩
  have hzg : ∀ A c, sgC Z A c = ZG A c := fun A c => congrFun (congrFun hZG A) c
  simp only [hxg] at HP1 HP2 hXl hXo HOX HSX HTX
  simp only [hzg] at HQ1 HQ2 hZl hZo HOZ HRZ HSZ
  simp only [hgg, hGP2] at HSZ hGl hGo HTG HXG HRG HSG HGC
  generalize cDg X.path = PX at *
  generalize cDg Z.path = PZ at *
  generalize hTX : strOf (K.sigT X) = TX at *
  generalize strOf (K.sigT G) = TG at *
  have HA1 := Lib.hid hA1
  have HA2 := Lib.hid hA2
  clear hGG hXG hZG hgg hxg hzg hGB hPB hQB hQE hok hTX hGP htl hss hA1 hA2 hk hts hone hpath hwho hleaf hGP2 hGd
  have hz18 : (List.replicate 18 0 : List Nat).length = 18 := rfl
  have hzl := sgV_len who leaf (List.replicate 18 0) hz18 A2 path.length c2
  have hzo := sgV_one who leaf (List.replicate 18 0) A2 path.length c2
  go_enter Tryz.func4, Tryz.ntmps4
  go_wp2_with fail
  refine HKN.out.mono ?_
  rintro e W1 ⟨rfl, hx⟩
  have HX := Lib.hid hx
  clear hx HKN
  go_wp2_with fail
  refine (HP1.out _ HX.out).mono ?_
  rintro e W2 ⟨⟨B1, d1, rfl, hr⟩, hx⟩
  replace HX := Lib.hid (HX.out.tr hx)
  have HR1 := Lib.hid hr
  clear hx hr HP1
  have hl := hXl B1 d1
  have hoo := hXo B1 d1
  go_upto_region 6 with (refine wpList_store_new rfl _ _ _ rfl _ _ (XG B1 d1) rfl rfl (by rw [hl]; rfl) (by rw [hl]; rfl) hoo ?_; intro W3 hX hB; replace HX := Lib.hid (HX.out.tr hX); replace HR1 := Lib.hid (HR1.out.ext hX); have HB1 := Lib.hid hB; clear hX hB)
  have hxb : (Tryz.prog.info? 39).map (·.size) = some (XG B1 d1).length := by rw [hl]; rfl
  clear hl hoo
  generalize W2.heap.size = xb at *
  go_wp2_with fail
  refine (HP2.out _).mono ?_
  rintro e W4 ⟨⟨B2, d2, rfl, hr⟩, hx⟩
  replace HX := Lib.hid (HX.out.tr hx)
  replace HR1 := Lib.hid (HR1.out.ext hx)
  replace HB1 := Lib.hid (HB1.out.ext hx)
  have HR2 := Lib.hid hr
  clear hx hr HP2
  have hl := hXl B2 d2
  have hoo := hXo B2 d2
  go_upto_region 7 with (refine wpList_store_new rfl _ _ _ rfl _ _ (XG B2 d2) rfl rfl (by rw [hl]; rfl) (by rw [hl]; rfl) hoo ?_; intro W5 hX hB; replace HX := Lib.hid (HX.out.tr hX); replace HR1 := Lib.hid (HR1.out.ext hX); replace HB1 := Lib.hid (HB1.out.ext hX); replace HR2 := Lib.hid (HR2.out.ext hX); have HB2 := Lib.hid hB; clear hX hB)
  have hyb : (Tryz.prog.info? 39).map (·.size) = some (XG B2 d2).length := by rw [hl]; rfl
  clear hl hoo
  generalize W4.heap.size = yb at *
  have hyb' : (Tryz.prog.info? 45).map (·.size) = some (XG B2 d2).length := hyb
  clear hyb
  have hgb1 := HB1.out.lt
  have hgb2 := HB2.out.lt
  have HRA1 := Lib.hid (HA1.out.ext HX.out)
  have HRA2 := Lib.hid (HA2.out.ext HX.out)
  have HW5 := HX.out.size
  go_upto_region 8 with (first
    | (refine wpList_val rfl (.agg (sgV who leaf (List.replicate 18 0) A2 path.length c2).toArray) (run_build3r _ _ _ _ _ rfl who leaf A2 path.length c2 rfl rfl rfl _) ?_)
    | (refine wpList_store_new rfl _ _ _ rfl _ _ (sgV who leaf (List.replicate 18 0) A2 path.length c2) rfl rfl (by rw [hzl]; rfl) (by rw [hzl]; rfl) hzo ?_; intro W6 hX hB; have Q1 := Lib.hid HR1.out; have Q2 := Lib.hid HR2.out; have Q3 := Lib.hid HRA1.out; have Q4 := Lib.hid HRA2.out; replace HX := Lib.hid (HX.out.tr hX); replace HR1 := Lib.hid (HR1.out.ext hX); replace HB1 := Lib.hid (HB1.out.ext hX); replace HR2 := Lib.hid (HR2.out.ext hX); replace HB2 := Lib.hid (HB2.out.ext hX); replace HRA1 := Lib.hid (HRA1.out.ext hX); replace HRA2 := Lib.hid (HRA2.out.ext hX); have HB3 := Lib.hid hB; clear hX hB))
  clear hzl hzo
  have hgs : W5.heap.size ≤ W5.heap.size := Nat.le_refl _
  have HFAR := Lib.hid (fun (A : Option Addr) (xs : List Value) (wr : World) (j : Nat) (v : Value) (h0 : Rd W5 A xs) (hr : Rd wr A xs) => Rd.far (j := j) h0 (Nat.le_refl _) hr v)
  obtain ⟨gb, hgb⟩ : ∃ gb, W5.heap.size = gb := ⟨_, rfl⟩
  rw [hgb] at HFAR HB3 hgb1 hgb2 HW5
  go_wp2
  try rw [hgb]
  obtain ⟨ad1, rfl, _, _⟩ := HRA1.out.at_ (j := 0) (u := cU64 (one.getD 0 0)) (by simp [List.getD, List.getElem?_eq_getElem (show 0 < one.length by omega)])
  go_loopw [16] (fun i wr => ∃ k : Nat, k ≤ 18 ∧ i = .int .i64 (k : Int) ∧ Blk wr gb 45 (sgV who leaf (part (List.replicate 18 0) (one.take 18) k) A2 path.length c2) ∧ Blk wr xb 39 (XG B1 d1) ∧ Blk wr yb 45 (XG B2 d2) ∧ Rd wr B1 PX ∧ Rd wr B2 PX ∧ Rd wr (some ad1) (cDg one) ∧ Rd wr A2 (cDg path) ∧ Ext w wr) (fun i _ => 18 - (intOf i).toNat)
  case atStart => exact ⟨0, by omega, rfl, by rw [part_zero]; exact HB3.out, HB1.out, HB2.out, HR1.out, HR2.out, HRA1.out, HRA2.out, HX.out⟩
  case round =>
    obtain ⟨k, hk, rfl, hb3, hb1, hb2, hr1, hr2, hr3, hr4, hE⟩ := hrel
    by_cases hlt : k < 18
    · have hgk : (one.take 18).getD k 0 = one.getD k 0 := by simp [List.getD, List.getElem?_take, hlt]
      obtain ⟨_, ee, hbl, hc⟩ := hr3.at_ (j := k) (u := cU64 (one.getD k 0)) (by simp [List.getD, List.getElem?_eq_getElem (show k < one.length by omega)])
      cases ee
      have hpl2 := part_len (l := List.replicate 18 0) (l' := one.take 18) ho18 k (by rw [hz18]; omega)
      have hst := sgV_set who leaf (part (List.replicate 18 0) (one.take 18) k) A2 path.length c2 (k := k) (by rw [hpl2, hz18]; exact hlt) (one.getD k 0)
      rw [← hgk, part_setN (l := List.replicate 18 0) (l' := one.take 18) ho18 (by rw [hz18]; exact hlt), hgk] at hst
      have hcx : wr.cell? ⟨gb, 2 + k, none⟩ = some (cU64 ((List.replicate 18 0 : List Nat).getD k 0)) := by
        have h := (sgV_at who leaf (part (List.replicate 18 0) (one.take 18) k) (by rw [hpl2]; rfl) A2 path.length c2).2.2.2 k _ (part_at (l := List.replicate 18 0) (l' := one.take 18) ho18 (by rw [hz18]; exact hlt))
        rw [Nat.add_comm 2 k]
        exact hb3.cell h
      have hfz := hb3.frozen (2 + k)
      have q3 := hb3.set (2 + k) (cU64 (one.getD k 0))
      rw [hst] at q3
      have q1 := hb1.other (x := ⟨gb, 2 + k, none⟩) (by show xb ≠ gb; omega) (cU64 (one.getD k 0))
      have q2 := hb2.other (x := ⟨gb, 2 + k, none⟩) (by show yb ≠ gb; omega) (cU64 (one.getD k 0))
      have q4 := HFAR.out _ _ wr (2 + k) (cU64 (one.getD k 0)) Q1.out hr1
      have q5 := HFAR.out _ _ wr (2 + k) (cU64 (one.getD k 0)) Q2.out hr2
      have q6 := HFAR.out _ _ wr (2 + k) (cU64 (one.getD k 0)) Q3.out hr3
      have q7 := HFAR.out _ _ wr (2 + k) (cU64 (one.getD k 0)) Q4.out hr4
      have q8 : Ext w (wr.setCell ⟨gb, 2 + k, none⟩ (cU64 (one.getD k 0))) := Below.setCell hE (by show w.heap.size ≤ gb; omega) _
      have HF4 := Lib.hid (And.intro q3 (And.intro q1 (And.intro q2 (And.intro q4 (And.intro q5 (And.intro q6 (And.intro q7 q8)))))))
      clear q1 q2 q3 q4 q5 q6 q7 q8 hE hb1 hb2 hb3 hr1 hr2 hr3 hr4 hst hpl2 hgk
      generalize one.getD k 0 = y at *
      go_wp2
      go_roundw
      case rel => exact ⟨k + 1, hlt, by go_num, HF4.out.1, HF4.out.2.1, HF4.out.2.2.1, HF4.out.2.2.2.1, HF4.out.2.2.2.2.1, HF4.out.2.2.2.2.2.1, HF4.out.2.2.2.2.2.2.1, HF4.out.2.2.2.2.2.2.2⟩
      case measure => simp [intOf]; omega
    · obtain rfl : k = 18 := by omega
      rw [part_done hz18 ho18, ← HGC.out] at hb3
      have hg21 := hGl A2 c2
      have hgi : (Tryz.prog.info? 45).map (·.size) = some (GG A2 c2).length := by rw [hg21]; rfl
      clear HX HB1 HB2 HB3 HR1 HR2 HRA1 HRA2 Q1 Q2 Q3 Q4 HFAR hr3
      have HX := Lib.hid hE
      have HB1 := Lib.hid hb1
      have HB2 := Lib.hid hb2
      have HB3 := Lib.hid hb3
      have HR1 := Lib.hid hr1
      have HR2 := Lib.hid hr2
      have HR4 := Lib.hid hr4
      have r3 := hb3.range
      clear hE hb1 hb2 hb3 hr1 hr2 hr4
      go_wp2_with (refine wpList_load_mid rfl _ _ rfl gb 0 rfl (GG A2 c2) _ r3 Tryz.underlying45 rfl hgi ?_)
      refine (HTG.out _ _ _ HR4.out).mono ?_
      rintro e W7 ⟨⟨B3, d3, rfl, hr, -⟩, hx⟩
      replace HX := Lib.hid (HX.out.tr hx)
      replace HB1 := Lib.hid (HB1.out.ext hx)
      replace HB2 := Lib.hid (HB2.out.ext hx)
      replace HB3 := Lib.hid (HB3.out.ext hx)
      replace HR1 := Lib.hid (HR1.out.ext hx)
      replace HR2 := Lib.hid (HR2.out.ext hx)
      replace HR4 := Lib.hid (HR4.out.ext hx)
      have HR5 := Lib.hid hr
      clear hx hr r3
      go_wp2_with fail
      refine (HXG.out _ _ _ HR5.out (HG.out _ HX.out).tok).mono ?_
      rintro e W8 ⟨rfl, hx⟩
      replace HX := Lib.hid (HX.out.tr hx)
      replace HB1 := Lib.hid (HB1.out.ext hx)
      replace HB2 := Lib.hid (HB2.out.ext hx)
      replace HB3 := Lib.hid (HB3.out.ext hx)
      replace HR1 := Lib.hid (HR1.out.ext hx)
      replace HR2 := Lib.hid (HR2.out.ext hx)
      replace HR4 := Lib.hid (HR4.out.ext hx)
      clear hx HR5 HXG
      go_wp2_with fail
      refine (HQ1.out _ HX.out).mono ?_
      rintro e W9 ⟨⟨B6, d6, rfl, hr⟩, hx⟩
      replace HX := Lib.hid (HX.out.tr hx)
      replace HB1 := Lib.hid (HB1.out.ext hx)
      replace HB2 := Lib.hid (HB2.out.ext hx)
      replace HB3 := Lib.hid (HB3.out.ext hx)
      replace HR1 := Lib.hid (HR1.out.ext hx)
      replace HR2 := Lib.hid (HR2.out.ext hx)
      replace HR4 := Lib.hid (HR4.out.ext hx)
      have HR6 := Lib.hid hr
      clear hx hr HQ1
      have hl := hZl B6 d6
      have hoo := hZo B6 d6
      go_upto_region 14 with (refine wpList_store_new rfl _ _ _ rfl _ _ (ZG B6 d6) rfl rfl (by rw [hl]; rfl) (by rw [hl]; rfl) hoo ?_; intro W10 hX hB; replace HX := Lib.hid (HX.out.tr hX); replace HB1 := Lib.hid (HB1.out.ext hX); replace HB2 := Lib.hid (HB2.out.ext hX); replace HB3 := Lib.hid (HB3.out.ext hX); replace HR1 := Lib.hid (HR1.out.ext hX); replace HR2 := Lib.hid (HR2.out.ext hX); replace HR4 := Lib.hid (HR4.out.ext hX); replace HR6 := Lib.hid (HR6.out.ext hX); have HB6 := Lib.hid hB; clear hX hB)
      have hzb : (Tryz.prog.info? 39).map (·.size) = some (ZG B6 d6).length := by rw [hl]; rfl
      clear hl hoo
      generalize W9.heap.size = zb at *
      go_wp2_with fail
      refine (HQ2.out _).mono ?_
      rintro e W11 ⟨⟨B7, d7, rfl, hr⟩, hx⟩
      replace HX := Lib.hid (HX.out.tr hx)
      replace HB1 := Lib.hid (HB1.out.ext hx)
      replace HB2 := Lib.hid (HB2.out.ext hx)
      replace HB3 := Lib.hid (HB3.out.ext hx)
      replace HR1 := Lib.hid (HR1.out.ext hx)
      replace HR2 := Lib.hid (HR2.out.ext hx)
      replace HR4 := Lib.hid (HR4.out.ext hx)
      replace HR6 := Lib.hid (HR6.out.ext hx)
      replace HB6 := Lib.hid (HB6.out.ext hx)
      have HR7 := Lib.hid hr
      clear hx hr HQ2
      have hl := hZl B7 d7
      have hoo := hZo B7 d7
      go_upto_region 15 with (refine wpList_store_new rfl _ _ _ rfl _ _ (ZG B7 d7) rfl rfl (by rw [hl]; rfl) (by rw [hl]; rfl) hoo ?_; intro W12 hX hB; replace HX := Lib.hid (HX.out.tr hX); replace HB1 := Lib.hid (HB1.out.ext hX); replace HB2 := Lib.hid (HB2.out.ext hX); replace HB3 := Lib.hid (HB3.out.ext hX); replace HR1 := Lib.hid (HR1.out.ext hX); replace HR2 := Lib.hid (HR2.out.ext hX); replace HR4 := Lib.hid (HR4.out.ext hX); replace HR6 := Lib.hid (HR6.out.ext hX); replace HB6 := Lib.hid (HB6.out.ext hX); replace HR7 := Lib.hid (HR7.out.ext hX); have HB7 := Lib.hid hB; clear hX hB)
      have hub : (Tryz.prog.info? 39).map (·.size) = some (ZG B7 d7).length := by rw [hl]; rfl
      clear hl hoo
      generalize W11.heap.size = ub at *
      have hub' : (Tryz.prog.info? 45).map (·.size) = some (ZG B7 d7).length := hub
      clear hub
      replace HX := Lib.hid HX.out.drew
      replace HB1 := Lib.hid HB1.out.drew
      replace HB2 := Lib.hid HB2.out.drew
      replace HB3 := Lib.hid HB3.out.drew
      replace HR1 := Lib.hid HR1.out.drew
      replace HR2 := Lib.hid HR2.out.drew
      replace HR4 := Lib.hid HR4.out.drew
      replace HR6 := Lib.hid HR6.out.drew
      replace HB6 := Lib.hid HB6.out.drew
      replace HR7 := Lib.hid HR7.out.drew
      replace HB7 := Lib.hid HB7.out.drew
      have HCE := Lib.hid (show ∀ W, Ext W12.drew W → (W.rangeAt xb 0 (XG B1 d1) ∧ W.rangeAt yb 0 (XG B2 d2) ∧ W.rangeAt gb 0 (GG A2 c2) ∧ W.rangeAt zb 0 (ZG B6 d6) ∧ W.rangeAt ub 0 (ZG B7 d7)) from fun W hx => ⟨(HB1.out.ext hx).range, (HB2.out.ext hx).range, (HB3.out.ext hx).range, (HB6.out.ext hx).range, (HB7.out.ext hx).range⟩)
      have HY0 := Lib.hid (Ext.rfl' W12.drew)
      have HT2 := Lib.hid (show ∀ W, Ext W12.drew W → TOk W from fun W hx => (HG.out _ (Ext.tr HX.out hx)).tok)
      go_cut [113] (fun s113 wx => s113 = .bool false ∧ Ext W12.drew wx)
      case first =>
        have HY := HY0
        rcases hcd with rfl | rfl
        · have hTX := HF.out rfl
          clear HF
          subst hTX
          have hss : (TX.toList == TX.toList) = true := by simp
          have hss2 : (TX == TX) = true := (MapKept.bytes_beq TX TX).2 rfl
          refine wp_region_held_drew (S := fun W => W.rangeAt xb 0 (XG B1 d1) ∧ W.rangeAt yb 0 (XG B2 d2) ∧ W.rangeAt gb 0 (GG A2 c2) ∧ W.rangeAt zb 0 (ZG B6 d6) ∧ W.rangeAt ub 0 (ZG B7 d7)) (by kernel_rfl) (HCE.out _ HY.out) (fun hHeld => ?_)
          generalize W12.drew = Y0 at *
          refine wpAnyH_take (i := 0) (v := ?_) (by first | (simp only [List.getElem?_toArray, List.getElem?_cons_zero, List.getElem?_cons_succ]; done) | (simp only [List.getElem?_toArray, List.getElem?_cons_zero, List.getElem?_cons_succ]; rfl)) (by kernel_rfl) (by kernel_rfl) (by kernel_rfl) (by exact fun _ _ _ h => h) (Or.inl ⟨by rfl, ?hy0⟩) (by assumption) ?_
          case hy0 => (intro w' hSw; clear hSw; go_simp; try with_reducible rfl)
          try simp only [Act.put, List.setIfInBounds_toArray, List.set_cons_zero, List.set_cons_succ]
          refine wpAnyH_take (i := 1) (v := ?_) (by first | (simp only [List.getElem?_toArray, List.getElem?_cons_zero, List.getElem?_cons_succ]; done) | (simp only [List.getElem?_toArray, List.getElem?_cons_zero, List.getElem?_cons_succ]; rfl)) (by kernel_rfl) (by kernel_rfl) (by kernel_rfl) (by exact fun _ _ _ h => h) (Or.inl ⟨by rfl, ?hy1⟩) (by assumption) ?_
          case hy1 => (intro w' hSw; clear hSw; go_simp; try with_reducible rfl)
          try simp only [Act.put, List.setIfInBounds_toArray, List.set_cons_zero, List.set_cons_succ]
          refine wpAnyH_take (i := 2) (v := ?_) (by first | (simp only [List.getElem?_toArray, List.getElem?_cons_zero, List.getElem?_cons_succ]; done) | (simp only [List.getElem?_toArray, List.getElem?_cons_zero, List.getElem?_cons_succ]; rfl)) (by kernel_rfl) (by kernel_rfl) (by kernel_rfl) (by exact fun _ _ _ h => h) (Or.inl ⟨by rfl, ?hy2⟩) (by assumption) ?_
          case hy2 => (intro w' hSw; clear hSw; go_simp; try with_reducible rfl)
          try simp only [Act.put, List.setIfInBounds_toArray, List.set_cons_zero, List.set_cons_succ]
          refine wpAnyH_take (i := 3) (v := ?_) (by first | (simp only [List.getElem?_toArray, List.getElem?_cons_zero, List.getElem?_cons_succ]; done) | (simp only [List.getElem?_toArray, List.getElem?_cons_zero, List.getElem?_cons_succ]; rfl)) (by kernel_rfl) (by kernel_rfl) (by kernel_rfl) (by exact fun _ _ _ h => h) (Or.inl ⟨by rfl, ?hy3⟩) (by assumption) ?_
          case hy3 => (intro w' hSw; clear hSw; go_simp; try with_reducible rfl)
          try simp only [Act.put, List.setIfInBounds_toArray, List.set_cons_zero, List.set_cons_succ]
          refine wpAnyH_take (i := 4) (v := .agg (XG B1 d1).toArray) (by first | (simp only [List.getElem?_toArray, List.getElem?_cons_zero, List.getElem?_cons_succ]; done) | (simp only [List.getElem?_toArray, List.getElem?_cons_zero, List.getElem?_cons_succ]; rfl)) (by kernel_rfl) (by kernel_rfl) (by kernel_rfl) (by exact fun _ _ _ h => h) (Or.inl ⟨by rfl, fun w' hSw => run_load_mid _ _ _ _ rfl xb 0 (by rfl) _ _ w' hSw.1 Tryz.underlying39 rfl hxb⟩) (by assumption) ?_
          try simp only [Act.put, List.setIfInBounds_toArray, List.set_cons_zero, List.set_cons_succ]
          refine wpAnyH_take (i := 6) (v := .agg (XG B2 d2).toArray) (by first | (simp only [List.getElem?_toArray, List.getElem?_cons_zero, List.getElem?_cons_succ]; done) | (simp only [List.getElem?_toArray, List.getElem?_cons_zero, List.getElem?_cons_succ]; rfl)) (by kernel_rfl) (by kernel_rfl) (by kernel_rfl) (by exact fun _ _ _ h => h) (Or.inl ⟨by rfl, fun w' hSw => run_load_mid _ _ _ _ rfl yb 0 (by rfl) _ _ w' hSw.2.1 Tryz.underlying45 rfl hyb'⟩) (by assumption) ?_
          try simp only [Act.put, List.setIfInBounds_toArray, List.set_cons_zero, List.set_cons_succ]
          refine wpAnyH_ready (rs := [5]) (by kernel_rfl) (by simp) ?_
          refine AllReadyH.cons (by first | (simp only [List.getElem?_toArray, List.getElem?_cons_zero, List.getElem?_cons_succ]; done) | (simp only [List.getElem?_toArray, List.getElem?_cons_zero, List.getElem?_cons_succ]; rfl)) (fun K hK => ?_) AllReadyH.nil
          go_simp
          refine (HOX.out _ _ _ (HR1.out.ext HY.out)).mono ?_
          rintro e Y21 ⟨⟨A3, c3, rfl, hr3, -⟩, hx⟩
          have HR3 := Lib.hid hr3
          clear hr3
          replace HY := Lib.hid (HY.out.tr hx)
          try (go_wp2_with fail)
          refine hK.out _ _ (HCE.out _ HY.out) (fun hHeld => ?_)
          clear hx hK K
          try simp only [Act.put, List.setIfInBounds_toArray, List.set_cons_zero, List.set_cons_succ]
          refine wpAnyH_ready (rs := [7]) (by kernel_rfl) (by simp) ?_
          refine AllReadyH.cons (by first | (simp only [List.getElem?_toArray, List.getElem?_cons_zero, List.getElem?_cons_succ]; done) | (simp only [List.getElem?_toArray, List.getElem?_cons_zero, List.getElem?_cons_succ]; rfl)) (fun K hK => ?_) AllReadyH.nil
          go_simp
          refine (HSX.out _ _ _ _ _ HR3.out (HR2.out.ext HY.out)).mono ?_
          rintro e Y22 ⟨rfl, hx⟩
          clear HR3
          replace HY := Lib.hid (HY.out.tr hx)
          try (go_wp2_with fail)
          refine hK.out _ _ (HCE.out _ HY.out) (fun hHeld => ?_)
          clear hx hK K
          try simp only [Act.put, List.setIfInBounds_toArray, List.set_cons_zero, List.set_cons_succ]
          refine wpAnyH_take (i := 8) (v := ?_) (by first | (simp only [List.getElem?_toArray, List.getElem?_cons_zero, List.getElem?_cons_succ]; done) | (simp only [List.getElem?_toArray, List.getElem?_cons_zero, List.getElem?_cons_succ]; rfl)) (by kernel_rfl) (by kernel_rfl) (by kernel_rfl) (by exact fun _ _ _ h => h) (Or.inl ⟨by rfl, ?hy8⟩) (by assumption) ?_
          case hy8 => (intro w' hSw; clear hSw; go_simp; try with_reducible rfl)
          try simp only [Act.put, List.setIfInBounds_toArray, List.set_cons_zero, List.set_cons_succ]
          refine wpAnyH_take (i := 9) (v := ?_) (by first | (simp only [List.getElem?_toArray, List.getElem?_cons_zero, List.getElem?_cons_succ]; done) | (simp only [List.getElem?_toArray, List.getElem?_cons_zero, List.getElem?_cons_succ]; rfl)) (by kernel_rfl) (by kernel_rfl) (by kernel_rfl) (by exact fun _ _ _ h => h) (Or.inl ⟨by rfl, ?hy9⟩) (by assumption) ?_
          case hy9 => (intro w' hSw; clear hSw; go_simp; try with_reducible rfl)
          try simp only [Act.put, List.setIfInBounds_toArray, List.set_cons_zero, List.set_cons_succ]
          refine wpAnyH_take (i := 10) (v := ?_) (by first | (simp only [List.getElem?_toArray, List.getElem?_cons_zero, List.getElem?_cons_succ]; done) | (simp only [List.getElem?_toArray, List.getElem?_cons_zero, List.getElem?_cons_succ]; rfl)) (by kernel_rfl) (by kernel_rfl) (by kernel_rfl) (by exact fun _ _ _ h => h) (Or.inl ⟨by rfl, ?hy10⟩) (by assumption) ?_
          case hy10 => (intro w' hSw; clear hSw; go_simp; try with_reducible rfl)
          try simp only [Act.put, List.setIfInBounds_toArray, List.set_cons_zero, List.set_cons_succ]
          refine wpAnyH_take (i := 11) (v := ?_) (by first | (simp only [List.getElem?_toArray, List.getElem?_cons_zero, List.getElem?_cons_succ]; done) | (simp only [List.getElem?_toArray, List.getElem?_cons_zero, List.getElem?_cons_succ]; rfl)) (by kernel_rfl) (by kernel_rfl) (by kernel_rfl) (by exact fun _ _ _ h => h) (Or.inl ⟨by rfl, ?hy11⟩) (by assumption) ?_
          case hy11 => (intro w' hSw; clear hSw; go_simp; try with_reducible rfl)
          try simp only [Act.put, List.setIfInBounds_toArray, List.set_cons_zero, List.set_cons_succ]
          refine wpAnyH_take (i := 12) (v := ?_) (by first | (simp only [List.getElem?_toArray, List.getElem?_cons_zero, List.getElem?_cons_succ]; done) | (simp only [List.getElem?_toArray, List.getElem?_cons_zero, List.getElem?_cons_succ]; rfl)) (by kernel_rfl) (by kernel_rfl) (by kernel_rfl) (by exact fun _ _ _ h => h) (Or.inl ⟨by rfl, ?hy12⟩) (by assumption) ?_
          case hy12 => (intro w' hSw; clear hSw; go_simp; try with_reducible rfl)
          try simp only [Act.put, List.setIfInBounds_toArray, List.set_cons_zero, List.set_cons_succ]
          refine wpAnyH_take (i := 13) (v := ?_) (by first | (simp only [List.getElem?_toArray, List.getElem?_cons_zero, List.getElem?_cons_succ]; done) | (simp only [List.getElem?_toArray, List.getElem?_cons_zero, List.getElem?_cons_succ]; rfl)) (by kernel_rfl) (by kernel_rfl) (by kernel_rfl) (by exact fun _ _ _ h => h) (Or.inl ⟨by rfl, ?hy13⟩) (by assumption) ?_
          case hy13 => (intro w' hSw; clear hSw; go_simp; try with_reducible rfl)
          try simp only [Act.put, List.setIfInBounds_toArray, List.set_cons_zero, List.set_cons_succ]
          refine wpAnyH_take (i := 14) (v := .agg (XG B1 d1).toArray) (by first | (simp only [List.getElem?_toArray, List.getElem?_cons_zero, List.getElem?_cons_succ]; done) | (simp only [List.getElem?_toArray, List.getElem?_cons_zero, List.getElem?_cons_succ]; rfl)) (by kernel_rfl) (by kernel_rfl) (by kernel_rfl) (by exact fun _ _ _ h => h) (Or.inl ⟨by rfl, fun w' hSw => run_load_mid _ _ _ _ rfl xb 0 (by rfl) _ _ w' hSw.1 Tryz.underlying39 rfl hxb⟩) (by assumption) ?_
          try simp only [Act.put, List.setIfInBounds_toArray, List.set_cons_zero, List.set_cons_succ]
          refine wpAnyH_take (i := 16) (v := ?_) (by first | (simp only [List.getElem?_toArray, List.getElem?_cons_zero, List.getElem?_cons_succ]; done) | (simp only [List.getElem?_toArray, List.getElem?_cons_zero, List.getElem?_cons_succ]; rfl)) (by kernel_rfl) (by kernel_rfl) (by kernel_rfl) (by exact fun _ _ _ h => h) (Or.inl ⟨by rfl, ?hy16⟩) (by assumption) ?_
          case hy16 => (intro w' hSw; clear hSw; go_simp; try with_reducible rfl)
          try simp only [Act.put, List.setIfInBounds_toArray, List.set_cons_zero, List.set_cons_succ]
          refine wpAnyH_ready (rs := [15]) (by kernel_rfl) (by simp) ?_
          refine AllReadyH.cons (by first | (simp only [List.getElem?_toArray, List.getElem?_cons_zero, List.getElem?_cons_succ]; done) | (simp only [List.getElem?_toArray, List.getElem?_cons_zero, List.getElem?_cons_succ]; rfl)) (fun K hK => ?_) AllReadyH.nil
          go_simp
          refine (HTX.out _ _ _ (HR1.out.ext HY.out) (HT2.out _ HY.out)).mono ?_
          rintro e Y23 ⟨rfl, hx⟩
          replace HY := Lib.hid (HY.out.tr hx)
          try (go_wp2_with fail)
          refine hK.out _ _ (HCE.out _ HY.out) (fun hHeld => ?_)
          clear hx hK K
          try simp only [Act.put, List.setIfInBounds_toArray, List.set_cons_zero, List.set_cons_succ]
          refine wpAnyH_take (i := 17) (v := ?_) (by first | (simp only [List.getElem?_toArray, List.getElem?_cons_zero, List.getElem?_cons_succ]; done) | (simp only [List.getElem?_toArray, List.getElem?_cons_zero, List.getElem?_cons_succ]; rfl)) (by kernel_rfl) (by kernel_rfl) (by kernel_rfl) (by exact fun _ _ _ h => h) (Or.inl ⟨by rfl, ?hy17⟩) (by assumption) ?_
          case hy17 => (intro w' hSw; clear hSw; go_simp; try with_reducible rfl)
          try simp only [Act.put, List.setIfInBounds_toArray, List.set_cons_zero, List.set_cons_succ]
          refine wpAnyH_take (i := 18) (v := ?_) (by first | (simp only [List.getElem?_toArray, List.getElem?_cons_zero, List.getElem?_cons_succ]; done) | (simp only [List.getElem?_toArray, List.getElem?_cons_zero, List.getElem?_cons_succ]; rfl)) (by kernel_rfl) (by kernel_rfl) (by kernel_rfl) (by exact fun _ _ _ h => h) (Or.inl ⟨by rfl, ?hy18⟩) (by assumption) ?_
          case hy18 => (intro w' hSw; clear hSw; go_simp; try with_reducible rfl)
          try simp only [Act.put, List.setIfInBounds_toArray, List.set_cons_zero, List.set_cons_succ]
          refine wpAnyH_take (i := 19) (v := ?_) (by first | (simp only [List.getElem?_toArray, List.getElem?_cons_zero, List.getElem?_cons_succ]; done) | (simp only [List.getElem?_toArray, List.getElem?_cons_zero, List.getElem?_cons_succ]; rfl)) (by kernel_rfl) (by kernel_rfl) (by kernel_rfl) (by exact fun _ _ _ h => h) (Or.inl ⟨by rfl, ?hy19⟩) (by assumption) ?_
          case hy19 => (intro w' hSw; clear hSw; go_simp; try with_reducible rfl)
          try simp only [Act.put, List.setIfInBounds_toArray, List.set_cons_zero, List.set_cons_succ]
          refine wpAnyH_take (i := 20) (v := ?_) (by first | (simp only [List.getElem?_toArray, List.getElem?_cons_zero, List.getElem?_cons_succ]; done) | (simp only [List.getElem?_toArray, List.getElem?_cons_zero, List.getElem?_cons_succ]; rfl)) (by kernel_rfl) (by kernel_rfl) (by kernel_rfl) (by exact fun _ _ _ h => h) (Or.inl ⟨by rfl, ?hy20⟩) (by assumption) ?_
          case hy20 => (intro w' hSw; clear hSw; go_simp; try with_reducible rfl)
          try simp only [Act.put, List.setIfInBounds_toArray, List.set_cons_zero, List.set_cons_succ]
          refine wpAnyH_take (i := 21) (v := ?_) (by first | (simp only [List.getElem?_toArray, List.getElem?_cons_zero, List.getElem?_cons_succ]; done) | (simp only [List.getElem?_toArray, List.getElem?_cons_zero, List.getElem?_cons_succ]; rfl)) (by kernel_rfl) (by kernel_rfl) (by kernel_rfl) (by exact fun _ _ _ h => h) (Or.inl ⟨by rfl, ?hy21⟩) (by assumption) ?_
          case hy21 => (intro w' hSw; clear hSw; go_simp; try with_reducible rfl)
          try simp only [Act.put, List.setIfInBounds_toArray, List.set_cons_zero, List.set_cons_succ]
          refine wpAnyH_take (i := 22) (v := .agg (GG A2 c2).toArray) (by first | (simp only [List.getElem?_toArray, List.getElem?_cons_zero, List.getElem?_cons_succ]; done) | (simp only [List.getElem?_toArray, List.getElem?_cons_zero, List.getElem?_cons_succ]; rfl)) (by kernel_rfl) (by kernel_rfl) (by kernel_rfl) (by exact fun _ _ _ h => h) (Or.inl ⟨by rfl, fun w' hSw => run_load_mid _ _ _ _ rfl gb 0 (by rfl) _ _ w' hSw.2.2.1 Tryz.underlying45 rfl hgi⟩) (by assumption) ?_
          try simp only [Act.put, List.setIfInBounds_toArray, List.set_cons_zero, List.set_cons_succ]
          refine wpAnyH_ready (rs := [23]) (by kernel_rfl) (by simp) ?_
          refine AllReadyH.cons (by first | (simp only [List.getElem?_toArray, List.getElem?_cons_zero, List.getElem?_cons_succ]; done) | (simp only [List.getElem?_toArray, List.getElem?_cons_zero, List.getElem?_cons_succ]; rfl)) (fun K hK => ?_) AllReadyH.nil
          go_simp
          refine (HRG.out _ _ _ (HR4.out.ext HY.out)).mono ?_
          rintro e Y24 ⟨rfl, hx⟩
          replace HY := Lib.hid (HY.out.tr hx)
          try (go_wp2_with fail)
          refine hK.out _ _ (HCE.out _ HY.out) (fun hHeld => ?_)
          clear hx hK K
          try simp only [Act.put, List.setIfInBounds_toArray, List.set_cons_zero, List.set_cons_succ]
          refine wpAnyH_take (i := 24) (v := ?_) (by first | (simp only [List.getElem?_toArray, List.getElem?_cons_zero, List.getElem?_cons_succ]; done) | (simp only [List.getElem?_toArray, List.getElem?_cons_zero, List.getElem?_cons_succ]; rfl)) (by kernel_rfl) (by kernel_rfl) (by kernel_rfl) (by exact fun _ _ _ h => h) (Or.inl ⟨by rfl, ?hy24⟩) (by assumption) ?_
          case hy24 => (intro w' hSw; clear hSw; go_simp; try with_reducible rfl)
          try simp only [Act.put, List.setIfInBounds_toArray, List.set_cons_zero, List.set_cons_succ]
          refine wpAnyH_take (i := 25) (v := ?_) (by first | (simp only [List.getElem?_toArray, List.getElem?_cons_zero, List.getElem?_cons_succ]; done) | (simp only [List.getElem?_toArray, List.getElem?_cons_zero, List.getElem?_cons_succ]; rfl)) (by kernel_rfl) (by kernel_rfl) (by kernel_rfl) (by exact fun _ _ _ h => h) (Or.inl ⟨by rfl, ?hy25⟩) (by assumption) ?_
          case hy25 => (intro w' hSw; clear hSw; go_simp; try with_reducible rfl)
          try simp only [Act.put, List.setIfInBounds_toArray, List.set_cons_zero, List.set_cons_succ]
          refine wpAnyH_take (i := 26) (v := ?_) (by first | (simp only [List.getElem?_toArray, List.getElem?_cons_zero, List.getElem?_cons_succ]; done) | (simp only [List.getElem?_toArray, List.getElem?_cons_zero, List.getElem?_cons_succ]; rfl)) (by kernel_rfl) (by kernel_rfl) (by kernel_rfl) (by exact fun _ _ _ h => h) (Or.inl ⟨by rfl, ?hy26⟩) (by assumption) ?_
          case hy26 => (intro w' hSw; clear hSw; go_simp; try with_reducible rfl)
          try simp only [Act.put, List.setIfInBounds_toArray, List.set_cons_zero, List.set_cons_succ]
          refine wpAnyH_take (i := 27) (v := ?_) (by first | (simp only [List.getElem?_toArray, List.getElem?_cons_zero, List.getElem?_cons_succ]; done) | (simp only [List.getElem?_toArray, List.getElem?_cons_zero, List.getElem?_cons_succ]; rfl)) (by kernel_rfl) (by kernel_rfl) (by kernel_rfl) (by exact fun _ _ _ h => h) (Or.inl ⟨by rfl, ?hy27⟩) (by assumption) ?_
          case hy27 => (intro w' hSw; clear hSw; go_simp; try with_reducible rfl)
          try simp only [Act.put, List.setIfInBounds_toArray, List.set_cons_zero, List.set_cons_succ]
          refine wpAnyH_take (i := 28) (v := ?_) (by first | (simp only [List.getElem?_toArray, List.getElem?_cons_zero, List.getElem?_cons_succ]; done) | (simp only [List.getElem?_toArray, List.getElem?_cons_zero, List.getElem?_cons_succ]; rfl)) (by kernel_rfl) (by kernel_rfl) (by kernel_rfl) (by exact fun _ _ _ h => h) (Or.inl ⟨by rfl, ?hy28⟩) (by assumption) ?_
          case hy28 => (intro w' hSw; clear hSw; go_simp; try with_reducible rfl)
          try simp only [Act.put, List.setIfInBounds_toArray, List.set_cons_zero, List.set_cons_succ]
          refine wpAnyH_take (i := 29) (v := ?_) (by first | (simp only [List.getElem?_toArray, List.getElem?_cons_zero, List.getElem?_cons_succ]; done) | (simp only [List.getElem?_toArray, List.getElem?_cons_zero, List.getElem?_cons_succ]; rfl)) (by kernel_rfl) (by kernel_rfl) (by kernel_rfl) (by exact fun _ _ _ h => h) (Or.inl ⟨by rfl, ?hy29⟩) (by assumption) ?_
          case hy29 => (intro w' hSw; clear hSw; go_simp; try with_reducible rfl)
          try simp only [Act.put, List.setIfInBounds_toArray, List.set_cons_zero, List.set_cons_succ]
          refine wpAnyH_take (i := 30) (v := ?_) (by first | (simp only [List.getElem?_toArray, List.getElem?_cons_zero, List.getElem?_cons_succ]; done) | (simp only [List.getElem?_toArray, List.getElem?_cons_zero, List.getElem?_cons_succ]; rfl)) (by kernel_rfl) (by kernel_rfl) (by kernel_rfl) (by exact fun _ _ _ h => h) (Or.inl ⟨by rfl, ?hy30⟩) (by assumption) ?_
          case hy30 => (intro w' hSw; clear hSw; go_simp; try with_reducible rfl)
          try simp only [Act.put, List.setIfInBounds_toArray, List.set_cons_zero, List.set_cons_succ]
          refine wpAnyH_take (i := 31) (v := ?_) (by first | (simp only [List.getElem?_toArray, List.getElem?_cons_zero, List.getElem?_cons_succ]; done) | (simp only [List.getElem?_toArray, List.getElem?_cons_zero, List.getElem?_cons_succ]; rfl)) (by kernel_rfl) (by kernel_rfl) (by kernel_rfl) (by exact fun _ _ _ h => h) (Or.inl ⟨by rfl, ?hy31⟩) (by assumption) ?_
          case hy31 => (intro w' hSw; clear hSw; go_simp; try with_reducible rfl)
          try simp only [Act.put, List.setIfInBounds_toArray, List.set_cons_zero, List.set_cons_succ]
          refine wpAnyH_take (i := 32) (v := .agg (ZG B6 d6).toArray) (by first | (simp only [List.getElem?_toArray, List.getElem?_cons_zero, List.getElem?_cons_succ]; done) | (simp only [List.getElem?_toArray, List.getElem?_cons_zero, List.getElem?_cons_succ]; rfl)) (by kernel_rfl) (by kernel_rfl) (by kernel_rfl) (by exact fun _ _ _ h => h) (Or.inl ⟨by rfl, fun w' hSw => run_load_mid _ _ _ _ rfl zb 0 (by rfl) _ _ w' hSw.2.2.2.1 Tryz.underlying39 rfl hzb⟩) (by assumption) ?_
          try simp only [Act.put, List.setIfInBounds_toArray, List.set_cons_zero, List.set_cons_succ]
          refine wpAnyH_take (i := 34) (v := .agg (ZG B7 d7).toArray) (by first | (simp only [List.getElem?_toArray, List.getElem?_cons_zero, List.getElem?_cons_succ]; done) | (simp only [List.getElem?_toArray, List.getElem?_cons_zero, List.getElem?_cons_succ]; rfl)) (by kernel_rfl) (by kernel_rfl) (by kernel_rfl) (by exact fun _ _ _ h => h) (Or.inl ⟨by rfl, fun w' hSw => run_load_mid _ _ _ _ rfl ub 0 (by rfl) _ _ w' hSw.2.2.2.2 Tryz.underlying45 rfl hub'⟩) (by assumption) ?_
          try simp only [Act.put, List.setIfInBounds_toArray, List.set_cons_zero, List.set_cons_succ]
          refine wpAnyH_ready (rs := [33]) (by kernel_rfl) (by simp) ?_
          refine AllReadyH.cons (by first | (simp only [List.getElem?_toArray, List.getElem?_cons_zero, List.getElem?_cons_succ]; done) | (simp only [List.getElem?_toArray, List.getElem?_cons_zero, List.getElem?_cons_succ]; rfl)) (fun K hK => ?_) AllReadyH.nil
          go_simp
          refine (HOZ.out _ _ _ (HR6.out.ext HY.out)).mono ?_
          rintro e Y25 ⟨⟨A3, c3, rfl, hr3, -⟩, hx⟩
          have HR3 := Lib.hid hr3
          clear hr3
          replace HY := Lib.hid (HY.out.tr hx)
          try (go_wp2_with fail)
          refine hK.out _ _ (HCE.out _ HY.out) (fun hHeld => ?_)
          clear hx hK K
          try simp only [Act.put, List.setIfInBounds_toArray, List.set_cons_zero, List.set_cons_succ]
          refine wpAnyH_ready (rs := [35]) (by kernel_rfl) (by simp) ?_
          refine AllReadyH.cons (by first | (simp only [List.getElem?_toArray, List.getElem?_cons_zero, List.getElem?_cons_succ]; done) | (simp only [List.getElem?_toArray, List.getElem?_cons_zero, List.getElem?_cons_succ]; rfl)) (fun K hK => ?_) AllReadyH.nil
          go_simp
          refine (HRZ.out _ _ _ _ _ HR3.out (HR7.out.ext HY.out)).mono ?_
          rintro e Y26 ⟨rfl, hx⟩
          clear HR3
          replace HY := Lib.hid (HY.out.tr hx)
          try (go_wp2_with fail)
          refine hK.out _ _ (HCE.out _ HY.out) (fun hHeld => ?_)
          clear hx hK K
          try simp only [Act.put, List.setIfInBounds_toArray, List.set_cons_zero, List.set_cons_succ]
          refine wpAnyH_take (i := 36) (v := ?_) (by first | (simp only [List.getElem?_toArray, List.getElem?_cons_zero, List.getElem?_cons_succ]; done) | (simp only [List.getElem?_toArray, List.getElem?_cons_zero, List.getElem?_cons_succ]; rfl)) (by kernel_rfl) (by kernel_rfl) (by kernel_rfl) (by exact fun _ _ _ h => h) (Or.inl ⟨by rfl, ?hy36⟩) (by assumption) ?_
          case hy36 => (intro w' hSw; clear hSw; go_simp; try with_reducible rfl)
          try simp only [Act.put, List.setIfInBounds_toArray, List.set_cons_zero, List.set_cons_succ]
          refine wpAnyH_take (i := 37) (v := ?_) (by first | (simp only [List.getElem?_toArray, List.getElem?_cons_zero, List.getElem?_cons_succ]; done) | (simp only [List.getElem?_toArray, List.getElem?_cons_zero, List.getElem?_cons_succ]; rfl)) (by kernel_rfl) (by kernel_rfl) (by kernel_rfl) (by exact fun _ _ _ h => h) (Or.inl ⟨by rfl, ?hy37⟩) (by assumption) ?_
          case hy37 => (intro w' hSw; clear hSw; go_simp; try with_reducible rfl)
          try simp only [Act.put, List.setIfInBounds_toArray, List.set_cons_zero, List.set_cons_succ]
          refine wpAnyH_done (by kernel_rfl) ?_ _
          clear hHeld
          go_wp2_with fail
          go_meet
          exact ⟨rfl, HY.out⟩
        · clear HF
          refine wp_region_held_drew (S := fun W => W.rangeAt xb 0 (XG B1 d1) ∧ W.rangeAt yb 0 (XG B2 d2) ∧ W.rangeAt gb 0 (GG A2 c2) ∧ W.rangeAt zb 0 (ZG B6 d6) ∧ W.rangeAt ub 0 (ZG B7 d7)) (by kernel_rfl) (HCE.out _ HY.out) (fun hHeld => ?_)
          generalize W12.drew = Y0 at *
          refine wpAnyH_take (i := 0) (v := ?_) (by first | (simp only [List.getElem?_toArray, List.getElem?_cons_zero, List.getElem?_cons_succ]; done) | (simp only [List.getElem?_toArray, List.getElem?_cons_zero, List.getElem?_cons_succ]; rfl)) (by kernel_rfl) (by kernel_rfl) (by kernel_rfl) (by exact fun _ _ _ h => h) (Or.inl ⟨by rfl, ?hy0⟩) (by assumption) ?_
          case hy0 => (intro w' hSw; clear hSw; go_simp; try with_reducible rfl)
          try simp only [Act.put, List.setIfInBounds_toArray, List.set_cons_zero, List.set_cons_succ]
          refine wpAnyH_take (i := 1) (v := ?_) (by first | (simp only [List.getElem?_toArray, List.getElem?_cons_zero, List.getElem?_cons_succ]; done) | (simp only [List.getElem?_toArray, List.getElem?_cons_zero, List.getElem?_cons_succ]; rfl)) (by kernel_rfl) (by kernel_rfl) (by kernel_rfl) (by exact fun _ _ _ h => h) (Or.inl ⟨by rfl, ?hy1⟩) (by assumption) ?_
          case hy1 => (intro w' hSw; clear hSw; go_simp; try with_reducible rfl)
          try simp only [Act.put, List.setIfInBounds_toArray, List.set_cons_zero, List.set_cons_succ]
          refine wpAnyH_take (i := 2) (v := ?_) (by first | (simp only [List.getElem?_toArray, List.getElem?_cons_zero, List.getElem?_cons_succ]; done) | (simp only [List.getElem?_toArray, List.getElem?_cons_zero, List.getElem?_cons_succ]; rfl)) (by kernel_rfl) (by kernel_rfl) (by kernel_rfl) (by exact fun _ _ _ h => h) (Or.inl ⟨by rfl, ?hy2⟩) (by assumption) ?_
          case hy2 => (intro w' hSw; clear hSw; go_simp; try with_reducible rfl)
          try simp only [Act.put, List.setIfInBounds_toArray, List.set_cons_zero, List.set_cons_succ]
          refine wpAnyH_take (i := 3) (v := ?_) (by first | (simp only [List.getElem?_toArray, List.getElem?_cons_zero, List.getElem?_cons_succ]; done) | (simp only [List.getElem?_toArray, List.getElem?_cons_zero, List.getElem?_cons_succ]; rfl)) (by kernel_rfl) (by kernel_rfl) (by kernel_rfl) (by exact fun _ _ _ h => h) (Or.inl ⟨by rfl, ?hy3⟩) (by assumption) ?_
          case hy3 => (intro w' hSw; clear hSw; go_simp; try with_reducible rfl)
          try simp only [Act.put, List.setIfInBounds_toArray, List.set_cons_zero, List.set_cons_succ]
          refine wpAnyH_take (i := 4) (v := .agg (XG B1 d1).toArray) (by first | (simp only [List.getElem?_toArray, List.getElem?_cons_zero, List.getElem?_cons_succ]; done) | (simp only [List.getElem?_toArray, List.getElem?_cons_zero, List.getElem?_cons_succ]; rfl)) (by kernel_rfl) (by kernel_rfl) (by kernel_rfl) (by exact fun _ _ _ h => h) (Or.inl ⟨by rfl, fun w' hSw => run_load_mid _ _ _ _ rfl xb 0 (by rfl) _ _ w' hSw.1 Tryz.underlying39 rfl hxb⟩) (by assumption) ?_
          try simp only [Act.put, List.setIfInBounds_toArray, List.set_cons_zero, List.set_cons_succ]
          refine wpAnyH_take (i := 6) (v := .agg (XG B2 d2).toArray) (by first | (simp only [List.getElem?_toArray, List.getElem?_cons_zero, List.getElem?_cons_succ]; done) | (simp only [List.getElem?_toArray, List.getElem?_cons_zero, List.getElem?_cons_succ]; rfl)) (by kernel_rfl) (by kernel_rfl) (by kernel_rfl) (by exact fun _ _ _ h => h) (Or.inl ⟨by rfl, fun w' hSw => run_load_mid _ _ _ _ rfl yb 0 (by rfl) _ _ w' hSw.2.1 Tryz.underlying45 rfl hyb'⟩) (by assumption) ?_
          try simp only [Act.put, List.setIfInBounds_toArray, List.set_cons_zero, List.set_cons_succ]
          refine wpAnyH_ready (rs := [5]) (by kernel_rfl) (by simp) ?_
          refine AllReadyH.cons (by first | (simp only [List.getElem?_toArray, List.getElem?_cons_zero, List.getElem?_cons_succ]; done) | (simp only [List.getElem?_toArray, List.getElem?_cons_zero, List.getElem?_cons_succ]; rfl)) (fun K hK => ?_) AllReadyH.nil
          go_simp
          refine (HOX.out _ _ _ (HR1.out.ext HY.out)).mono ?_
          rintro e Y21 ⟨⟨A3, c3, rfl, hr3, -⟩, hx⟩
          have HR3 := Lib.hid hr3
          clear hr3
          replace HY := Lib.hid (HY.out.tr hx)
          try (go_wp2_with fail)
          refine hK.out _ _ (HCE.out _ HY.out) (fun hHeld => ?_)
          clear hx hK K
          try simp only [Act.put, List.setIfInBounds_toArray, List.set_cons_zero, List.set_cons_succ]
          refine wpAnyH_ready (rs := [7]) (by kernel_rfl) (by simp) ?_
          refine AllReadyH.cons (by first | (simp only [List.getElem?_toArray, List.getElem?_cons_zero, List.getElem?_cons_succ]; done) | (simp only [List.getElem?_toArray, List.getElem?_cons_zero, List.getElem?_cons_succ]; rfl)) (fun K hK => ?_) AllReadyH.nil
          go_simp
          refine (HSX.out _ _ _ _ _ HR3.out (HR2.out.ext HY.out)).mono ?_
          rintro e Y22 ⟨rfl, hx⟩
          clear HR3
          replace HY := Lib.hid (HY.out.tr hx)
          try (go_wp2_with fail)
          refine hK.out _ _ (HCE.out _ HY.out) (fun hHeld => ?_)
          clear hx hK K
          try simp only [Act.put, List.setIfInBounds_toArray, List.set_cons_zero, List.set_cons_succ]
          refine wpAnyH_take (i := 8) (v := ?_) (by first | (simp only [List.getElem?_toArray, List.getElem?_cons_zero, List.getElem?_cons_succ]; done) | (simp only [List.getElem?_toArray, List.getElem?_cons_zero, List.getElem?_cons_succ]; rfl)) (by kernel_rfl) (by kernel_rfl) (by kernel_rfl) (by exact fun _ _ _ h => h) (Or.inl ⟨by rfl, ?hy8⟩) (by assumption) ?_
          case hy8 => (intro w' hSw; clear hSw; go_simp; try with_reducible rfl)
          try simp only [Act.put, List.setIfInBounds_toArray, List.set_cons_zero, List.set_cons_succ]
          refine wpAnyH_take (i := 9) (v := ?_) (by first | (simp only [List.getElem?_toArray, List.getElem?_cons_zero, List.getElem?_cons_succ]; done) | (simp only [List.getElem?_toArray, List.getElem?_cons_zero, List.getElem?_cons_succ]; rfl)) (by kernel_rfl) (by kernel_rfl) (by kernel_rfl) (by exact fun _ _ _ h => h) (Or.inl ⟨by rfl, ?hy9⟩) (by assumption) ?_
          case hy9 => (intro w' hSw; clear hSw; go_simp; try with_reducible rfl)
          try simp only [Act.put, List.setIfInBounds_toArray, List.set_cons_zero, List.set_cons_succ]
          refine wpAnyH_take (i := 10) (v := ?_) (by first | (simp only [List.getElem?_toArray, List.getElem?_cons_zero, List.getElem?_cons_succ]; done) | (simp only [List.getElem?_toArray, List.getElem?_cons_zero, List.getElem?_cons_succ]; rfl)) (by kernel_rfl) (by kernel_rfl) (by kernel_rfl) (by exact fun _ _ _ h => h) (Or.inl ⟨by rfl, ?hy10⟩) (by assumption) ?_
          case hy10 => (intro w' hSw; clear hSw; go_simp; try with_reducible rfl)
          try simp only [Act.put, List.setIfInBounds_toArray, List.set_cons_zero, List.set_cons_succ]
          refine wpAnyH_take (i := 11) (v := ?_) (by first | (simp only [List.getElem?_toArray, List.getElem?_cons_zero, List.getElem?_cons_succ]; done) | (simp only [List.getElem?_toArray, List.getElem?_cons_zero, List.getElem?_cons_succ]; rfl)) (by kernel_rfl) (by kernel_rfl) (by kernel_rfl) (by exact fun _ _ _ h => h) (Or.inl ⟨by rfl, ?hy11⟩) (by assumption) ?_
          case hy11 => (intro w' hSw; clear hSw; go_simp; try with_reducible rfl)
          try simp only [Act.put, List.setIfInBounds_toArray, List.set_cons_zero, List.set_cons_succ]
          refine wpAnyH_take (i := 12) (v := ?_) (by first | (simp only [List.getElem?_toArray, List.getElem?_cons_zero, List.getElem?_cons_succ]; done) | (simp only [List.getElem?_toArray, List.getElem?_cons_zero, List.getElem?_cons_succ]; rfl)) (by kernel_rfl) (by kernel_rfl) (by kernel_rfl) (by exact fun _ _ _ h => h) (Or.inl ⟨by rfl, ?hy12⟩) (by assumption) ?_
          case hy12 => (intro w' hSw; clear hSw; go_simp; try with_reducible rfl)
          try simp only [Act.put, List.setIfInBounds_toArray, List.set_cons_zero, List.set_cons_succ]
          refine wpAnyH_take (i := 13) (v := ?_) (by first | (simp only [List.getElem?_toArray, List.getElem?_cons_zero, List.getElem?_cons_succ]; done) | (simp only [List.getElem?_toArray, List.getElem?_cons_zero, List.getElem?_cons_succ]; rfl)) (by kernel_rfl) (by kernel_rfl) (by kernel_rfl) (by exact fun _ _ _ h => h) (Or.inl ⟨by rfl, ?hy13⟩) (by assumption) ?_
          case hy13 => (intro w' hSw; clear hSw; go_simp; try with_reducible rfl)
          try simp only [Act.put, List.setIfInBounds_toArray, List.set_cons_zero, List.set_cons_succ]
          refine wpAnyH_take (i := 14) (v := undef) (by first | (simp only [List.getElem?_toArray, List.getElem?_cons_zero, List.getElem?_cons_succ]; done) | (simp only [List.getElem?_toArray, List.getElem?_cons_zero, List.getElem?_cons_succ]; rfl)) (by kernel_rfl) (by kernel_rfl) (by kernel_rfl) (by exact fun _ _ _ h => h) (Or.inr ⟨by rfl, rfl⟩) (by assumption) ?_
          try simp only [Act.put, List.setIfInBounds_toArray, List.set_cons_zero, List.set_cons_succ]
          refine wpAnyH_take (i := 15) (v := undef) (by first | (simp only [List.getElem?_toArray, List.getElem?_cons_zero, List.getElem?_cons_succ]; done) | (simp only [List.getElem?_toArray, List.getElem?_cons_zero, List.getElem?_cons_succ]; rfl)) (by kernel_rfl) (by kernel_rfl) (by kernel_rfl) (by exact fun _ _ _ h => h) (Or.inr ⟨by rfl, rfl⟩) (by assumption) ?_
          try simp only [Act.put, List.setIfInBounds_toArray, List.set_cons_zero, List.set_cons_succ]
          refine wpAnyH_take (i := 16) (v := undef) (by first | (simp only [List.getElem?_toArray, List.getElem?_cons_zero, List.getElem?_cons_succ]; done) | (simp only [List.getElem?_toArray, List.getElem?_cons_zero, List.getElem?_cons_succ]; rfl)) (by kernel_rfl) (by kernel_rfl) (by kernel_rfl) (by exact fun _ _ _ h => h) (Or.inr ⟨by rfl, rfl⟩) (by assumption) ?_
          try simp only [Act.put, List.setIfInBounds_toArray, List.set_cons_zero, List.set_cons_succ]
          refine wpAnyH_take (i := 17) (v := undef) (by first | (simp only [List.getElem?_toArray, List.getElem?_cons_zero, List.getElem?_cons_succ]; done) | (simp only [List.getElem?_toArray, List.getElem?_cons_zero, List.getElem?_cons_succ]; rfl)) (by kernel_rfl) (by kernel_rfl) (by kernel_rfl) (by exact fun _ _ _ h => h) (Or.inr ⟨by rfl, rfl⟩) (by assumption) ?_
          try simp only [Act.put, List.setIfInBounds_toArray, List.set_cons_zero, List.set_cons_succ]
          refine wpAnyH_take (i := 18) (v := ?_) (by first | (simp only [List.getElem?_toArray, List.getElem?_cons_zero, List.getElem?_cons_succ]; done) | (simp only [List.getElem?_toArray, List.getElem?_cons_zero, List.getElem?_cons_succ]; rfl)) (by kernel_rfl) (by kernel_rfl) (by kernel_rfl) (by exact fun _ _ _ h => h) (Or.inl ⟨by rfl, ?hy18⟩) (by assumption) ?_
          case hy18 => (intro w' hSw; clear hSw; go_simp; try with_reducible rfl)
          try simp only [Act.put, List.setIfInBounds_toArray, List.set_cons_zero, List.set_cons_succ]
          refine wpAnyH_take (i := 19) (v := ?_) (by first | (simp only [List.getElem?_toArray, List.getElem?_cons_zero, List.getElem?_cons_succ]; done) | (simp only [List.getElem?_toArray, List.getElem?_cons_zero, List.getElem?_cons_succ]; rfl)) (by kernel_rfl) (by kernel_rfl) (by kernel_rfl) (by exact fun _ _ _ h => h) (Or.inl ⟨by rfl, ?hy19⟩) (by assumption) ?_
          case hy19 => (intro w' hSw; clear hSw; go_simp; try with_reducible rfl)
          try simp only [Act.put, List.setIfInBounds_toArray, List.set_cons_zero, List.set_cons_succ]
          refine wpAnyH_take (i := 20) (v := ?_) (by first | (simp only [List.getElem?_toArray, List.getElem?_cons_zero, List.getElem?_cons_succ]; done) | (simp only [List.getElem?_toArray, List.getElem?_cons_zero, List.getElem?_cons_succ]; rfl)) (by kernel_rfl) (by kernel_rfl) (by kernel_rfl) (by exact fun _ _ _ h => h) (Or.inl ⟨by rfl, ?hy20⟩) (by assumption) ?_
          case hy20 => (intro w' hSw; clear hSw; go_simp; try with_reducible rfl)
          try simp only [Act.put, List.setIfInBounds_toArray, List.set_cons_zero, List.set_cons_succ]
          refine wpAnyH_take (i := 21) (v := ?_) (by first | (simp only [List.getElem?_toArray, List.getElem?_cons_zero, List.getElem?_cons_succ]; done) | (simp only [List.getElem?_toArray, List.getElem?_cons_zero, List.getElem?_cons_succ]; rfl)) (by kernel_rfl) (by kernel_rfl) (by kernel_rfl) (by exact fun _ _ _ h => h) (Or.inl ⟨by rfl, ?hy21⟩) (by assumption) ?_
          case hy21 => (intro w' hSw; clear hSw; go_simp; try with_reducible rfl)
          try simp only [Act.put, List.setIfInBounds_toArray, List.set_cons_zero, List.set_cons_succ]
          refine wpAnyH_take (i := 22) (v := .agg (GG A2 c2).toArray) (by first | (simp only [List.getElem?_toArray, List.getElem?_cons_zero, List.getElem?_cons_succ]; done) | (simp only [List.getElem?_toArray, List.getElem?_cons_zero, List.getElem?_cons_succ]; rfl)) (by kernel_rfl) (by kernel_rfl) (by kernel_rfl) (by exact fun _ _ _ h => h) (Or.inl ⟨by rfl, fun w' hSw => run_load_mid _ _ _ _ rfl gb 0 (by rfl) _ _ w' hSw.2.2.1 Tryz.underlying45 rfl hgi⟩) (by assumption) ?_
          try simp only [Act.put, List.setIfInBounds_toArray, List.set_cons_zero, List.set_cons_succ]
          refine wpAnyH_ready (rs := [23]) (by kernel_rfl) (by simp) ?_
          refine AllReadyH.cons (by first | (simp only [List.getElem?_toArray, List.getElem?_cons_zero, List.getElem?_cons_succ]; done) | (simp only [List.getElem?_toArray, List.getElem?_cons_zero, List.getElem?_cons_succ]; rfl)) (fun K hK => ?_) AllReadyH.nil
          go_simp
          refine (HRG.out _ _ _ (HR4.out.ext HY.out)).mono ?_
          rintro e Y23 ⟨rfl, hx⟩
          replace HY := Lib.hid (HY.out.tr hx)
          try (go_wp2_with fail)
          refine hK.out _ _ (HCE.out _ HY.out) (fun hHeld => ?_)
          clear hx hK K
          try simp only [Act.put, List.setIfInBounds_toArray, List.set_cons_zero, List.set_cons_succ]
          refine wpAnyH_take (i := 24) (v := ?_) (by first | (simp only [List.getElem?_toArray, List.getElem?_cons_zero, List.getElem?_cons_succ]; done) | (simp only [List.getElem?_toArray, List.getElem?_cons_zero, List.getElem?_cons_succ]; rfl)) (by kernel_rfl) (by kernel_rfl) (by kernel_rfl) (by exact fun _ _ _ h => h) (Or.inl ⟨by rfl, ?hy24⟩) (by assumption) ?_
          case hy24 => (intro w' hSw; clear hSw; go_simp; try with_reducible rfl)
          try simp only [Act.put, List.setIfInBounds_toArray, List.set_cons_zero, List.set_cons_succ]
          refine wpAnyH_take (i := 25) (v := ?_) (by first | (simp only [List.getElem?_toArray, List.getElem?_cons_zero, List.getElem?_cons_succ]; done) | (simp only [List.getElem?_toArray, List.getElem?_cons_zero, List.getElem?_cons_succ]; rfl)) (by kernel_rfl) (by kernel_rfl) (by kernel_rfl) (by exact fun _ _ _ h => h) (Or.inl ⟨by rfl, ?hy25⟩) (by assumption) ?_
          case hy25 => (intro w' hSw; clear hSw; go_simp; try with_reducible rfl)
          try simp only [Act.put, List.setIfInBounds_toArray, List.set_cons_zero, List.set_cons_succ]
          refine wpAnyH_take (i := 26) (v := ?_) (by first | (simp only [List.getElem?_toArray, List.getElem?_cons_zero, List.getElem?_cons_succ]; done) | (simp only [List.getElem?_toArray, List.getElem?_cons_zero, List.getElem?_cons_succ]; rfl)) (by kernel_rfl) (by kernel_rfl) (by kernel_rfl) (by exact fun _ _ _ h => h) (Or.inl ⟨by rfl, ?hy26⟩) (by assumption) ?_
          case hy26 => (intro w' hSw; clear hSw; go_simp; try with_reducible rfl)
          try simp only [Act.put, List.setIfInBounds_toArray, List.set_cons_zero, List.set_cons_succ]
          refine wpAnyH_take (i := 27) (v := ?_) (by first | (simp only [List.getElem?_toArray, List.getElem?_cons_zero, List.getElem?_cons_succ]; done) | (simp only [List.getElem?_toArray, List.getElem?_cons_zero, List.getElem?_cons_succ]; rfl)) (by kernel_rfl) (by kernel_rfl) (by kernel_rfl) (by exact fun _ _ _ h => h) (Or.inl ⟨by rfl, ?hy27⟩) (by assumption) ?_
          case hy27 => (intro w' hSw; clear hSw; go_simp; try with_reducible rfl)
          try simp only [Act.put, List.setIfInBounds_toArray, List.set_cons_zero, List.set_cons_succ]
          refine wpAnyH_take (i := 28) (v := ?_) (by first | (simp only [List.getElem?_toArray, List.getElem?_cons_zero, List.getElem?_cons_succ]; done) | (simp only [List.getElem?_toArray, List.getElem?_cons_zero, List.getElem?_cons_succ]; rfl)) (by kernel_rfl) (by kernel_rfl) (by kernel_rfl) (by exact fun _ _ _ h => h) (Or.inl ⟨by rfl, ?hy28⟩) (by assumption) ?_
          case hy28 => (intro w' hSw; clear hSw; go_simp; try with_reducible rfl)
          try simp only [Act.put, List.setIfInBounds_toArray, List.set_cons_zero, List.set_cons_succ]
          refine wpAnyH_take (i := 29) (v := ?_) (by first | (simp only [List.getElem?_toArray, List.getElem?_cons_zero, List.getElem?_cons_succ]; done) | (simp only [List.getElem?_toArray, List.getElem?_cons_zero, List.getElem?_cons_succ]; rfl)) (by kernel_rfl) (by kernel_rfl) (by kernel_rfl) (by exact fun _ _ _ h => h) (Or.inl ⟨by rfl, ?hy29⟩) (by assumption) ?_
          case hy29 => (intro w' hSw; clear hSw; go_simp; try with_reducible rfl)
          try simp only [Act.put, List.setIfInBounds_toArray, List.set_cons_zero, List.set_cons_succ]
          refine wpAnyH_take (i := 30) (v := ?_) (by first | (simp only [List.getElem?_toArray, List.getElem?_cons_zero, List.getElem?_cons_succ]; done) | (simp only [List.getElem?_toArray, List.getElem?_cons_zero, List.getElem?_cons_succ]; rfl)) (by kernel_rfl) (by kernel_rfl) (by kernel_rfl) (by exact fun _ _ _ h => h) (Or.inl ⟨by rfl, ?hy30⟩) (by assumption) ?_
          case hy30 => (intro w' hSw; clear hSw; go_simp; try with_reducible rfl)
          try simp only [Act.put, List.setIfInBounds_toArray, List.set_cons_zero, List.set_cons_succ]
          refine wpAnyH_take (i := 31) (v := ?_) (by first | (simp only [List.getElem?_toArray, List.getElem?_cons_zero, List.getElem?_cons_succ]; done) | (simp only [List.getElem?_toArray, List.getElem?_cons_zero, List.getElem?_cons_succ]; rfl)) (by kernel_rfl) (by kernel_rfl) (by kernel_rfl) (by exact fun _ _ _ h => h) (Or.inl ⟨by rfl, ?hy31⟩) (by assumption) ?_
          case hy31 => (intro w' hSw; clear hSw; go_simp; try with_reducible rfl)
          try simp only [Act.put, List.setIfInBounds_toArray, List.set_cons_zero, List.set_cons_succ]
          refine wpAnyH_take (i := 32) (v := .agg (ZG B6 d6).toArray) (by first | (simp only [List.getElem?_toArray, List.getElem?_cons_zero, List.getElem?_cons_succ]; done) | (simp only [List.getElem?_toArray, List.getElem?_cons_zero, List.getElem?_cons_succ]; rfl)) (by kernel_rfl) (by kernel_rfl) (by kernel_rfl) (by exact fun _ _ _ h => h) (Or.inl ⟨by rfl, fun w' hSw => run_load_mid _ _ _ _ rfl zb 0 (by rfl) _ _ w' hSw.2.2.2.1 Tryz.underlying39 rfl hzb⟩) (by assumption) ?_
          try simp only [Act.put, List.setIfInBounds_toArray, List.set_cons_zero, List.set_cons_succ]
          refine wpAnyH_take (i := 34) (v := .agg (ZG B7 d7).toArray) (by first | (simp only [List.getElem?_toArray, List.getElem?_cons_zero, List.getElem?_cons_succ]; done) | (simp only [List.getElem?_toArray, List.getElem?_cons_zero, List.getElem?_cons_succ]; rfl)) (by kernel_rfl) (by kernel_rfl) (by kernel_rfl) (by exact fun _ _ _ h => h) (Or.inl ⟨by rfl, fun w' hSw => run_load_mid _ _ _ _ rfl ub 0 (by rfl) _ _ w' hSw.2.2.2.2 Tryz.underlying45 rfl hub'⟩) (by assumption) ?_
          try simp only [Act.put, List.setIfInBounds_toArray, List.set_cons_zero, List.set_cons_succ]
          refine wpAnyH_ready (rs := [33]) (by kernel_rfl) (by simp) ?_
          refine AllReadyH.cons (by first | (simp only [List.getElem?_toArray, List.getElem?_cons_zero, List.getElem?_cons_succ]; done) | (simp only [List.getElem?_toArray, List.getElem?_cons_zero, List.getElem?_cons_succ]; rfl)) (fun K hK => ?_) AllReadyH.nil
          go_simp
          refine (HOZ.out _ _ _ (HR6.out.ext HY.out)).mono ?_
          rintro e Y24 ⟨⟨A3, c3, rfl, hr3, -⟩, hx⟩
          have HR3 := Lib.hid hr3
          clear hr3
          replace HY := Lib.hid (HY.out.tr hx)
          try (go_wp2_with fail)
          refine hK.out _ _ (HCE.out _ HY.out) (fun hHeld => ?_)
          clear hx hK K
          try simp only [Act.put, List.setIfInBounds_toArray, List.set_cons_zero, List.set_cons_succ]
          refine wpAnyH_ready (rs := [35]) (by kernel_rfl) (by simp) ?_
          refine AllReadyH.cons (by first | (simp only [List.getElem?_toArray, List.getElem?_cons_zero, List.getElem?_cons_succ]; done) | (simp only [List.getElem?_toArray, List.getElem?_cons_zero, List.getElem?_cons_succ]; rfl)) (fun K hK => ?_) AllReadyH.nil
          go_simp
          refine (HRZ.out _ _ _ _ _ HR3.out (HR7.out.ext HY.out)).mono ?_
          rintro e Y25 ⟨rfl, hx⟩
          clear HR3
          replace HY := Lib.hid (HY.out.tr hx)
          try (go_wp2_with fail)
          refine hK.out _ _ (HCE.out _ HY.out) (fun hHeld => ?_)
          clear hx hK K
          try simp only [Act.put, List.setIfInBounds_toArray, List.set_cons_zero, List.set_cons_succ]
          refine wpAnyH_take (i := 36) (v := ?_) (by first | (simp only [List.getElem?_toArray, List.getElem?_cons_zero, List.getElem?_cons_succ]; done) | (simp only [List.getElem?_toArray, List.getElem?_cons_zero, List.getElem?_cons_succ]; rfl)) (by kernel_rfl) (by kernel_rfl) (by kernel_rfl) (by exact fun _ _ _ h => h) (Or.inl ⟨by rfl, ?hy36⟩) (by assumption) ?_
          case hy36 => (intro w' hSw; clear hSw; go_simp; try with_reducible rfl)
          try simp only [Act.put, List.setIfInBounds_toArray, List.set_cons_zero, List.set_cons_succ]
          refine wpAnyH_take (i := 37) (v := ?_) (by first | (simp only [List.getElem?_toArray, List.getElem?_cons_zero, List.getElem?_cons_succ]; done) | (simp only [List.getElem?_toArray, List.getElem?_cons_zero, List.getElem?_cons_succ]; rfl)) (by kernel_rfl) (by kernel_rfl) (by kernel_rfl) (by exact fun _ _ _ h => h) (Or.inl ⟨by rfl, ?hy37⟩) (by assumption) ?_
          case hy37 => (intro w' hSw; clear hSw; go_simp; try with_reducible rfl)
          try simp only [Act.put, List.setIfInBounds_toArray, List.set_cons_zero, List.set_cons_succ]
          refine wpAnyH_done (by kernel_rfl) ?_ _
          clear hHeld
          go_wp2_with fail
          go_meet
          exact ⟨rfl, HY.out⟩
      case rest =>
        obtain ⟨rfl, hx⟩ := hcut
        have HY := Lib.hid hx
        clear hx HY0 hcd HF HOX HSX HTX HRG HOZ HRZ
        go_upto_region 17 with (fail)
        go_cut [22] (fun s22 wx => s22 = .bool (decide (E2 = 0)) ∧ wx = wc)
        case first =>
          rcases hQQ with ⟨rfl, ⟨k1, k2, k3, k4⟩, -⟩ | ⟨rfl, hn⟩
          · have d1 : decide (0 ≤ who) = true := decide_eq_true k1
            have d2 : decide (who ≤ 15) = true := decide_eq_true k2
            have d3 : decide (0 ≤ leaf) = true := decide_eq_true k3
            have k4' : (path.length : Int) ≤ 8 := by omega
            have d4 : decide ((path.length : Int) ≤ 8) = true := decide_eq_true k4'
            go_wp2_with fail
            go_meet
            exact ⟨rfl, rfl⟩
          · by_cases k1 : 0 ≤ who
            · have d1 : decide (0 ≤ who) = true := decide_eq_true k1
              by_cases k2 : who ≤ 15
              · have d2 : decide (who ≤ 15) = true := decide_eq_true k2
                by_cases k3 : 0 ≤ leaf
                · have d3 : decide (0 ≤ leaf) = true := decide_eq_true k3
                  have k4' : ¬ (path.length : Int) ≤ 8 := fun h => hn ⟨k1, k2, k3, by omega⟩
                  have d4 : decide ((path.length : Int) ≤ 8) = false := decide_eq_false k4'
                  go_wp2_with fail
                  go_meet
                  exact ⟨rfl, rfl⟩
                · have d3 : decide (0 ≤ leaf) = false := decide_eq_false k3
                  go_wp2_with fail
                  go_meet
                  exact ⟨rfl, rfl⟩
              · have d2 : decide (who ≤ 15) = false := decide_eq_false k2
                go_wp2_with fail
                go_meet
                exact ⟨rfl, rfl⟩
            · have d1 : decide (0 ≤ who) = false := decide_eq_false k1
              go_wp2_with fail
              go_meet
              exact ⟨rfl, rfl⟩
        case rest =>
          obtain ⟨rfl, rfl⟩ := hcut
          rename_i wz _
          rcases hQQ with ⟨rfl, -, hZ⟩ | ⟨rfl, -⟩
          · rw [decide_eq_true rfl]
            go_upto_region 18 with (fail)
            replace HY := Lib.hid (show Ext W12.drew wc.drew from HY.out.drew)
            refine wp_region_held_drew (S := fun W => W.rangeAt xb 0 (XG B1 d1) ∧ W.rangeAt yb 0 (XG B2 d2) ∧ W.rangeAt gb 0 (GG A2 c2) ∧ W.rangeAt zb 0 (ZG B6 d6) ∧ W.rangeAt ub 0 (ZG B7 d7)) (by kernel_rfl) (HCE.out _ HY.out) (fun hHeld => ?_)
            generalize wc.drew = Y9 at *
            refine wpAnyH_take (i := 0) (v := ?_) (by first | (simp only [List.getElem?_toArray, List.getElem?_cons_zero, List.getElem?_cons_succ]; done) | (simp only [List.getElem?_toArray, List.getElem?_cons_zero, List.getElem?_cons_succ]; rfl)) (by kernel_rfl) (by kernel_rfl) (by kernel_rfl) (by exact fun _ _ _ h => h) (Or.inl ⟨by rfl, ?hy0⟩) (by assumption) ?_
            case hy0 => (intro w' hSw; clear hSw; go_simp; try with_reducible rfl)
            try simp only [Act.put, List.setIfInBounds_toArray, List.set_cons_zero, List.set_cons_succ]
            refine wpAnyH_take (i := 1) (v := ?_) (by first | (simp only [List.getElem?_toArray, List.getElem?_cons_zero, List.getElem?_cons_succ]; done) | (simp only [List.getElem?_toArray, List.getElem?_cons_zero, List.getElem?_cons_succ]; rfl)) (by kernel_rfl) (by kernel_rfl) (by kernel_rfl) (by exact fun _ _ _ h => h) (Or.inl ⟨by rfl, ?hy1⟩) (by assumption) ?_
            case hy1 => (intro w' hSw; clear hSw; go_simp; try with_reducible rfl)
            try simp only [Act.put, List.setIfInBounds_toArray, List.set_cons_zero, List.set_cons_succ]
            refine wpAnyH_take (i := 2) (v := ?_) (by first | (simp only [List.getElem?_toArray, List.getElem?_cons_zero, List.getElem?_cons_succ]; done) | (simp only [List.getElem?_toArray, List.getElem?_cons_zero, List.getElem?_cons_succ]; rfl)) (by kernel_rfl) (by kernel_rfl) (by kernel_rfl) (by exact fun _ _ _ h => h) (Or.inl ⟨by rfl, ?hy2⟩) (by assumption) ?_
            case hy2 => (intro w' hSw; clear hSw; go_simp; try with_reducible rfl)
            try simp only [Act.put, List.setIfInBounds_toArray, List.set_cons_zero, List.set_cons_succ]
            refine wpAnyH_take (i := 3) (v := ?_) (by first | (simp only [List.getElem?_toArray, List.getElem?_cons_zero, List.getElem?_cons_succ]; done) | (simp only [List.getElem?_toArray, List.getElem?_cons_zero, List.getElem?_cons_succ]; rfl)) (by kernel_rfl) (by kernel_rfl) (by kernel_rfl) (by exact fun _ _ _ h => h) (Or.inl ⟨by rfl, ?hy3⟩) (by assumption) ?_
            case hy3 => (intro w' hSw; clear hSw; go_simp; try with_reducible rfl)
            try simp only [Act.put, List.setIfInBounds_toArray, List.set_cons_zero, List.set_cons_succ]
            refine wpAnyH_take (i := 4) (v := ?_) (by first | (simp only [List.getElem?_toArray, List.getElem?_cons_zero, List.getElem?_cons_succ]; done) | (simp only [List.getElem?_toArray, List.getElem?_cons_zero, List.getElem?_cons_succ]; rfl)) (by kernel_rfl) (by kernel_rfl) (by kernel_rfl) (by exact fun _ _ _ h => h) (Or.inl ⟨by rfl, ?hy4⟩) (by assumption) ?_
            case hy4 => (intro w' hSw; clear hSw; go_simp; try with_reducible rfl)
            try simp only [Act.put, List.setIfInBounds_toArray, List.set_cons_zero, List.set_cons_succ]
            refine wpAnyH_take (i := 5) (v := ?_) (by first | (simp only [List.getElem?_toArray, List.getElem?_cons_zero, List.getElem?_cons_succ]; done) | (simp only [List.getElem?_toArray, List.getElem?_cons_zero, List.getElem?_cons_succ]; rfl)) (by kernel_rfl) (by kernel_rfl) (by kernel_rfl) (by exact fun _ _ _ h => h) (Or.inl ⟨by rfl, ?hy5⟩) (by assumption) ?_
            case hy5 => (intro w' hSw; clear hSw; go_simp; try with_reducible rfl)
            try simp only [Act.put, List.setIfInBounds_toArray, List.set_cons_zero, List.set_cons_succ]
            refine wpAnyH_take (i := 6) (v := ?_) (by first | (simp only [List.getElem?_toArray, List.getElem?_cons_zero, List.getElem?_cons_succ]; done) | (simp only [List.getElem?_toArray, List.getElem?_cons_zero, List.getElem?_cons_succ]; rfl)) (by kernel_rfl) (by kernel_rfl) (by kernel_rfl) (by exact fun _ _ _ h => h) (Or.inl ⟨by rfl, ?hy6⟩) (by assumption) ?_
            case hy6 => (intro w' hSw; clear hSw; go_simp; try with_reducible rfl)
            try simp only [Act.put, List.setIfInBounds_toArray, List.set_cons_zero, List.set_cons_succ]
            refine wpAnyH_take (i := 7) (v := ?_) (by first | (simp only [List.getElem?_toArray, List.getElem?_cons_zero, List.getElem?_cons_succ]; done) | (simp only [List.getElem?_toArray, List.getElem?_cons_zero, List.getElem?_cons_succ]; rfl)) (by kernel_rfl) (by kernel_rfl) (by kernel_rfl) (by exact fun _ _ _ h => h) (Or.inl ⟨by rfl, ?hy7⟩) (by assumption) ?_
            case hy7 => (intro w' hSw; clear hSw; go_simp; try with_reducible rfl)
            try simp only [Act.put, List.setIfInBounds_toArray, List.set_cons_zero, List.set_cons_succ]
            refine wpAnyH_take (i := 8) (v := .agg (ZG B6 d6).toArray) (by first | (simp only [List.getElem?_toArray, List.getElem?_cons_zero, List.getElem?_cons_succ]; done) | (simp only [List.getElem?_toArray, List.getElem?_cons_zero, List.getElem?_cons_succ]; rfl)) (by kernel_rfl) (by kernel_rfl) (by kernel_rfl) (by exact fun _ _ _ h => h) (Or.inl ⟨by rfl, fun w' hSw => run_load_mid _ _ _ _ rfl zb 0 (by rfl) _ _ w' hSw.2.2.2.1 Tryz.underlying39 rfl hzb⟩) (by assumption) ?_
            try simp only [Act.put, List.setIfInBounds_toArray, List.set_cons_zero, List.set_cons_succ]
            refine wpAnyH_take (i := 9) (v := .agg (GG A2 c2).toArray) (by first | (simp only [List.getElem?_toArray, List.getElem?_cons_zero, List.getElem?_cons_succ]; done) | (simp only [List.getElem?_toArray, List.getElem?_cons_zero, List.getElem?_cons_succ]; rfl)) (by kernel_rfl) (by kernel_rfl) (by kernel_rfl) (by exact fun _ _ _ h => h) (Or.inl ⟨by rfl, fun w' hSw => run_load_mid _ _ _ _ rfl gb 0 (by rfl) _ _ w' hSw.2.2.1 Tryz.underlying45 rfl hgi⟩) (by assumption) ?_
            try simp only [Act.put, List.setIfInBounds_toArray, List.set_cons_zero, List.set_cons_succ]
            refine wpAnyH_ready (rs := [10]) (by kernel_rfl) (by simp) ?_
            refine AllReadyH.cons (by first | (simp only [List.getElem?_toArray, List.getElem?_cons_zero, List.getElem?_cons_succ]; done) | (simp only [List.getElem?_toArray, List.getElem?_cons_zero, List.getElem?_cons_succ]; rfl)) (fun K hK => ?_) AllReadyH.nil
            go_simp
            refine (HTG.out _ _ _ (HR4.out.ext HY.out)).mono ?_
            rintro e Y51 ⟨⟨A3, c3, rfl, hr3, -⟩, hx⟩
            have HR3 := Lib.hid hr3
            clear hr3
            replace HY := Lib.hid (HY.out.tr hx)
            try (go_wp2_with fail)
            refine hK.out _ _ (HCE.out _ HY.out) (fun hHeld => ?_)
            clear hx hK K
            try simp only [Act.put, List.setIfInBounds_toArray, List.set_cons_zero, List.set_cons_succ]
            refine wpAnyH_ready (rs := [11]) (by kernel_rfl) (by simp) ?_
            refine AllReadyH.cons (by first | (simp only [List.getElem?_toArray, List.getElem?_cons_zero, List.getElem?_cons_succ]; done) | (simp only [List.getElem?_toArray, List.getElem?_cons_zero, List.getElem?_cons_succ]; rfl)) (fun K hK => ?_) AllReadyH.nil
            go_simp
            refine (HSZ.out hZ _ _ _ _ _ (HR6.out.ext HY.out) HR3.out).mono ?_
            rintro e Y52 ⟨rfl, hx⟩
            clear HR3
            replace HY := Lib.hid (HY.out.tr hx)
            try (go_wp2_with fail)
            refine hK.out _ _ (HCE.out _ HY.out) (fun hHeld => ?_)
            clear hx hK K
            try simp only [Act.put, List.setIfInBounds_toArray, List.set_cons_zero, List.set_cons_succ]
            refine wpAnyH_take (i := 12) (v := ?_) (by first | (simp only [List.getElem?_toArray, List.getElem?_cons_zero, List.getElem?_cons_succ]; done) | (simp only [List.getElem?_toArray, List.getElem?_cons_zero, List.getElem?_cons_succ]; rfl)) (by kernel_rfl) (by kernel_rfl) (by kernel_rfl) (by exact fun _ _ _ h => h) (Or.inl ⟨by rfl, ?hy12⟩) (by assumption) ?_
            case hy12 => (intro w' hSw; clear hSw; go_simp; try with_reducible rfl)
            try simp only [Act.put, List.setIfInBounds_toArray, List.set_cons_zero, List.set_cons_succ]
            refine wpAnyH_take (i := 13) (v := ?_) (by first | (simp only [List.getElem?_toArray, List.getElem?_cons_zero, List.getElem?_cons_succ]; done) | (simp only [List.getElem?_toArray, List.getElem?_cons_zero, List.getElem?_cons_succ]; rfl)) (by kernel_rfl) (by kernel_rfl) (by kernel_rfl) (by exact fun _ _ _ h => h) (Or.inl ⟨by rfl, ?hy13⟩) (by assumption) ?_
            case hy13 => (intro w' hSw; clear hSw; go_simp; try with_reducible rfl)
            try simp only [Act.put, List.setIfInBounds_toArray, List.set_cons_zero, List.set_cons_succ]
            refine wpAnyH_take (i := 14) (v := ?_) (by first | (simp only [List.getElem?_toArray, List.getElem?_cons_zero, List.getElem?_cons_succ]; done) | (simp only [List.getElem?_toArray, List.getElem?_cons_zero, List.getElem?_cons_succ]; rfl)) (by kernel_rfl) (by kernel_rfl) (by kernel_rfl) (by exact fun _ _ _ h => h) (Or.inl ⟨by rfl, ?hy14⟩) (by assumption) ?_
            case hy14 => (intro w' hSw; clear hSw; go_simp; try with_reducible rfl)
            try simp only [Act.put, List.setIfInBounds_toArray, List.set_cons_zero, List.set_cons_succ]
            refine wpAnyH_take (i := 15) (v := .agg (GG A2 c2).toArray) (by first | (simp only [List.getElem?_toArray, List.getElem?_cons_zero, List.getElem?_cons_succ]; done) | (simp only [List.getElem?_toArray, List.getElem?_cons_zero, List.getElem?_cons_succ]; rfl)) (by kernel_rfl) (by kernel_rfl) (by kernel_rfl) (by exact fun _ _ _ h => h) (Or.inl ⟨by rfl, fun w' hSw => run_load_mid _ _ _ _ rfl gb 0 (by rfl) _ _ w' hSw.2.2.1 Tryz.underlying45 rfl hgi⟩) (by assumption) ?_
            try simp only [Act.put, List.setIfInBounds_toArray, List.set_cons_zero, List.set_cons_succ]
            refine wpAnyH_take (i := 17) (v := .agg (GG A2 c2).toArray) (by first | (simp only [List.getElem?_toArray, List.getElem?_cons_zero, List.getElem?_cons_succ]; done) | (simp only [List.getElem?_toArray, List.getElem?_cons_zero, List.getElem?_cons_succ]; rfl)) (by kernel_rfl) (by kernel_rfl) (by kernel_rfl) (by exact fun _ _ _ h => h) (Or.inl ⟨by rfl, fun w' hSw => run_load_mid _ _ _ _ rfl gb 0 (by rfl) _ _ w' hSw.2.2.1 Tryz.underlying45 rfl hgi⟩) (by assumption) ?_
            try simp only [Act.put, List.setIfInBounds_toArray, List.set_cons_zero, List.set_cons_succ]
            refine wpAnyH_ready (rs := [16]) (by kernel_rfl) (by simp) ?_
            refine AllReadyH.cons (by first | (simp only [List.getElem?_toArray, List.getElem?_cons_zero, List.getElem?_cons_succ]; done) | (simp only [List.getElem?_toArray, List.getElem?_cons_zero, List.getElem?_cons_succ]; rfl)) (fun K hK => ?_) AllReadyH.nil
            go_simp
            refine (HTG.out _ _ _ (HR4.out.ext HY.out)).mono ?_
            rintro e Y53 ⟨⟨A4, c4, rfl, hr4, -⟩, hx⟩
            have HR8 := Lib.hid hr4
            clear hr4
            replace HY := Lib.hid (HY.out.tr hx)
            try (go_wp2_with fail)
            refine hK.out _ _ (HCE.out _ HY.out) (fun hHeld => ?_)
            clear hx hK K
            try simp only [Act.put, List.setIfInBounds_toArray, List.set_cons_zero, List.set_cons_succ]
            refine wpAnyH_ready (rs := [18]) (by kernel_rfl) (by simp) ?_
            refine AllReadyH.cons (by first | (simp only [List.getElem?_toArray, List.getElem?_cons_zero, List.getElem?_cons_succ]; done) | (simp only [List.getElem?_toArray, List.getElem?_cons_zero, List.getElem?_cons_succ]; rfl)) (fun K hK => ?_) AllReadyH.nil
            go_simp
            refine (HTG.out _ _ _ (HR4.out.ext HY.out)).mono ?_
            rintro e Y54 ⟨⟨A5, c5, rfl, hr5, -⟩, hx⟩
            have HR9 := Lib.hid hr5
            replace HR8 := Lib.hid (HR8.out.ext hx)
            clear hr5
            replace HY := Lib.hid (HY.out.tr hx)
            try (go_wp2_with fail)
            refine hK.out _ _ (HCE.out _ HY.out) (fun hHeld => ?_)
            clear hx hK K
            try simp only [Act.put, List.setIfInBounds_toArray, List.set_cons_zero, List.set_cons_succ]
            refine wpAnyH_ready (rs := [19]) (by kernel_rfl) (by simp) ?_
            refine AllReadyH.cons (by first | (simp only [List.getElem?_toArray, List.getElem?_cons_zero, List.getElem?_cons_succ]; done) | (simp only [List.getElem?_toArray, List.getElem?_cons_zero, List.getElem?_cons_succ]; rfl)) (fun K hK => ?_) AllReadyH.nil
            go_simp
            refine (HSG.out _ _ _ _ _ HR8.out HR9.out).mono ?_
            rintro e Y55 ⟨rfl, hx⟩
            replace HY := Lib.hid (HY.out.tr hx)
            try (go_wp2_with fail)
            refine hK.out _ _ (HCE.out _ HY.out) (fun hHeld => ?_)
            clear hx hK K
            try simp only [Act.put, List.setIfInBounds_toArray, List.set_cons_zero, List.set_cons_succ]
            refine wpAnyH_take (i := 20) (v := ?_) (by first | (simp only [List.getElem?_toArray, List.getElem?_cons_zero, List.getElem?_cons_succ]; done) | (simp only [List.getElem?_toArray, List.getElem?_cons_zero, List.getElem?_cons_succ]; rfl)) (by kernel_rfl) (by kernel_rfl) (by kernel_rfl) (by exact fun _ _ _ h => h) (Or.inl ⟨by rfl, ?hy20⟩) (by assumption) ?_
            case hy20 => (intro w' hSw; clear hSw; go_simp; try with_reducible rfl)
            try simp only [Act.put, List.setIfInBounds_toArray, List.set_cons_zero, List.set_cons_succ]
            refine wpAnyH_take (i := 21) (v := ?_) (by first | (simp only [List.getElem?_toArray, List.getElem?_cons_zero, List.getElem?_cons_succ]; done) | (simp only [List.getElem?_toArray, List.getElem?_cons_zero, List.getElem?_cons_succ]; rfl)) (by kernel_rfl) (by kernel_rfl) (by kernel_rfl) (by exact fun _ _ _ h => h) (Or.inl ⟨by rfl, ?hy21⟩) (by assumption) ?_
            case hy21 => (intro w' hSw; clear hSw; go_simp; try with_reducible rfl)
            try simp only [Act.put, List.setIfInBounds_toArray, List.set_cons_zero, List.set_cons_succ]
            refine wpAnyH_done (by kernel_rfl) ?_ _
            clear hHeld
            have HFIN := Lib.hid (Ext.tr HX.out HY.out)
            go_wp2
            go_ret
            exact ⟨ret_bool (by first | rfl | simp), HFIN.out⟩
          · rw [decide_eq_false (by decide)]
            go_upto_region 18 with (fail)
            replace HY := Lib.hid (show Ext W12.drew wc.drew from HY.out.drew)
            refine wp_region_held_drew (S := fun W => W.rangeAt xb 0 (XG B1 d1) ∧ W.rangeAt yb 0 (XG B2 d2) ∧ W.rangeAt gb 0 (GG A2 c2) ∧ W.rangeAt zb 0 (ZG B6 d6) ∧ W.rangeAt ub 0 (ZG B7 d7)) (by kernel_rfl) (HCE.out _ HY.out) (fun hHeld => ?_)
            generalize wc.drew = Y9 at *
            refine wpAnyH_take (i := 0) (v := ?_) (by first | (simp only [List.getElem?_toArray, List.getElem?_cons_zero, List.getElem?_cons_succ]; done) | (simp only [List.getElem?_toArray, List.getElem?_cons_zero, List.getElem?_cons_succ]; rfl)) (by kernel_rfl) (by kernel_rfl) (by kernel_rfl) (by exact fun _ _ _ h => h) (Or.inl ⟨by rfl, ?hy0⟩) (by assumption) ?_
            case hy0 => (intro w' hSw; clear hSw; go_simp; try with_reducible rfl)
            try simp only [Act.put, List.setIfInBounds_toArray, List.set_cons_zero, List.set_cons_succ]
            refine wpAnyH_take (i := 1) (v := ?_) (by first | (simp only [List.getElem?_toArray, List.getElem?_cons_zero, List.getElem?_cons_succ]; done) | (simp only [List.getElem?_toArray, List.getElem?_cons_zero, List.getElem?_cons_succ]; rfl)) (by kernel_rfl) (by kernel_rfl) (by kernel_rfl) (by exact fun _ _ _ h => h) (Or.inl ⟨by rfl, ?hy1⟩) (by assumption) ?_
            case hy1 => (intro w' hSw; clear hSw; go_simp; try with_reducible rfl)
            try simp only [Act.put, List.setIfInBounds_toArray, List.set_cons_zero, List.set_cons_succ]
            refine wpAnyH_take (i := 2) (v := ?_) (by first | (simp only [List.getElem?_toArray, List.getElem?_cons_zero, List.getElem?_cons_succ]; done) | (simp only [List.getElem?_toArray, List.getElem?_cons_zero, List.getElem?_cons_succ]; rfl)) (by kernel_rfl) (by kernel_rfl) (by kernel_rfl) (by exact fun _ _ _ h => h) (Or.inl ⟨by rfl, ?hy2⟩) (by assumption) ?_
            case hy2 => (intro w' hSw; clear hSw; go_simp; try with_reducible rfl)
            try simp only [Act.put, List.setIfInBounds_toArray, List.set_cons_zero, List.set_cons_succ]
            refine wpAnyH_take (i := 3) (v := ?_) (by first | (simp only [List.getElem?_toArray, List.getElem?_cons_zero, List.getElem?_cons_succ]; done) | (simp only [List.getElem?_toArray, List.getElem?_cons_zero, List.getElem?_cons_succ]; rfl)) (by kernel_rfl) (by kernel_rfl) (by kernel_rfl) (by exact fun _ _ _ h => h) (Or.inl ⟨by rfl, ?hy3⟩) (by assumption) ?_
            case hy3 => (intro w' hSw; clear hSw; go_simp; try with_reducible rfl)
            try simp only [Act.put, List.setIfInBounds_toArray, List.set_cons_zero, List.set_cons_succ]
            refine wpAnyH_take (i := 4) (v := ?_) (by first | (simp only [List.getElem?_toArray, List.getElem?_cons_zero, List.getElem?_cons_succ]; done) | (simp only [List.getElem?_toArray, List.getElem?_cons_zero, List.getElem?_cons_succ]; rfl)) (by kernel_rfl) (by kernel_rfl) (by kernel_rfl) (by exact fun _ _ _ h => h) (Or.inl ⟨by rfl, ?hy4⟩) (by assumption) ?_
            case hy4 => (intro w' hSw; clear hSw; go_simp; try with_reducible rfl)
            try simp only [Act.put, List.setIfInBounds_toArray, List.set_cons_zero, List.set_cons_succ]
            refine wpAnyH_take (i := 5) (v := ?_) (by first | (simp only [List.getElem?_toArray, List.getElem?_cons_zero, List.getElem?_cons_succ]; done) | (simp only [List.getElem?_toArray, List.getElem?_cons_zero, List.getElem?_cons_succ]; rfl)) (by kernel_rfl) (by kernel_rfl) (by kernel_rfl) (by exact fun _ _ _ h => h) (Or.inl ⟨by rfl, ?hy5⟩) (by assumption) ?_
            case hy5 => (intro w' hSw; clear hSw; go_simp; try with_reducible rfl)
            try simp only [Act.put, List.setIfInBounds_toArray, List.set_cons_zero, List.set_cons_succ]
            refine wpAnyH_take (i := 6) (v := ?_) (by first | (simp only [List.getElem?_toArray, List.getElem?_cons_zero, List.getElem?_cons_succ]; done) | (simp only [List.getElem?_toArray, List.getElem?_cons_zero, List.getElem?_cons_succ]; rfl)) (by kernel_rfl) (by kernel_rfl) (by kernel_rfl) (by exact fun _ _ _ h => h) (Or.inl ⟨by rfl, ?hy6⟩) (by assumption) ?_
            case hy6 => (intro w' hSw; clear hSw; go_simp; try with_reducible rfl)
            try simp only [Act.put, List.setIfInBounds_toArray, List.set_cons_zero, List.set_cons_succ]
            refine wpAnyH_take (i := 7) (v := ?_) (by first | (simp only [List.getElem?_toArray, List.getElem?_cons_zero, List.getElem?_cons_succ]; done) | (simp only [List.getElem?_toArray, List.getElem?_cons_zero, List.getElem?_cons_succ]; rfl)) (by kernel_rfl) (by kernel_rfl) (by kernel_rfl) (by exact fun _ _ _ h => h) (Or.inl ⟨by rfl, ?hy7⟩) (by assumption) ?_
            case hy7 => (intro w' hSw; clear hSw; go_simp; try with_reducible rfl)
            try simp only [Act.put, List.setIfInBounds_toArray, List.set_cons_zero, List.set_cons_succ]
            refine wpAnyH_take (i := 8) (v := undef) (by first | (simp only [List.getElem?_toArray, List.getElem?_cons_zero, List.getElem?_cons_succ]; done) | (simp only [List.getElem?_toArray, List.getElem?_cons_zero, List.getElem?_cons_succ]; rfl)) (by kernel_rfl) (by kernel_rfl) (by kernel_rfl) (by exact fun _ _ _ h => h) (Or.inr ⟨by rfl, rfl⟩) (by assumption) ?_
            try simp only [Act.put, List.setIfInBounds_toArray, List.set_cons_zero, List.set_cons_succ]
            refine wpAnyH_take (i := 9) (v := undef) (by first | (simp only [List.getElem?_toArray, List.getElem?_cons_zero, List.getElem?_cons_succ]; done) | (simp only [List.getElem?_toArray, List.getElem?_cons_zero, List.getElem?_cons_succ]; rfl)) (by kernel_rfl) (by kernel_rfl) (by kernel_rfl) (by exact fun _ _ _ h => h) (Or.inr ⟨by rfl, rfl⟩) (by assumption) ?_
            try simp only [Act.put, List.setIfInBounds_toArray, List.set_cons_zero, List.set_cons_succ]
            refine wpAnyH_take (i := 10) (v := undef) (by first | (simp only [List.getElem?_toArray, List.getElem?_cons_zero, List.getElem?_cons_succ]; done) | (simp only [List.getElem?_toArray, List.getElem?_cons_zero, List.getElem?_cons_succ]; rfl)) (by kernel_rfl) (by kernel_rfl) (by kernel_rfl) (by exact fun _ _ _ h => h) (Or.inr ⟨by rfl, rfl⟩) (by assumption) ?_
            try simp only [Act.put, List.setIfInBounds_toArray, List.set_cons_zero, List.set_cons_succ]
            refine wpAnyH_take (i := 11) (v := undef) (by first | (simp only [List.getElem?_toArray, List.getElem?_cons_zero, List.getElem?_cons_succ]; done) | (simp only [List.getElem?_toArray, List.getElem?_cons_zero, List.getElem?_cons_succ]; rfl)) (by kernel_rfl) (by kernel_rfl) (by kernel_rfl) (by exact fun _ _ _ h => h) (Or.inr ⟨by rfl, rfl⟩) (by assumption) ?_
            try simp only [Act.put, List.setIfInBounds_toArray, List.set_cons_zero, List.set_cons_succ]
            refine wpAnyH_take (i := 12) (v := ?_) (by first | (simp only [List.getElem?_toArray, List.getElem?_cons_zero, List.getElem?_cons_succ]; done) | (simp only [List.getElem?_toArray, List.getElem?_cons_zero, List.getElem?_cons_succ]; rfl)) (by kernel_rfl) (by kernel_rfl) (by kernel_rfl) (by exact fun _ _ _ h => h) (Or.inl ⟨by rfl, ?hy12⟩) (by assumption) ?_
            case hy12 => (intro w' hSw; clear hSw; go_simp; try with_reducible rfl)
            try simp only [Act.put, List.setIfInBounds_toArray, List.set_cons_zero, List.set_cons_succ]
            refine wpAnyH_take (i := 13) (v := ?_) (by first | (simp only [List.getElem?_toArray, List.getElem?_cons_zero, List.getElem?_cons_succ]; done) | (simp only [List.getElem?_toArray, List.getElem?_cons_zero, List.getElem?_cons_succ]; rfl)) (by kernel_rfl) (by kernel_rfl) (by kernel_rfl) (by exact fun _ _ _ h => h) (Or.inl ⟨by rfl, ?hy13⟩) (by assumption) ?_
            case hy13 => (intro w' hSw; clear hSw; go_simp; try with_reducible rfl)
            try simp only [Act.put, List.setIfInBounds_toArray, List.set_cons_zero, List.set_cons_succ]
            refine wpAnyH_take (i := 14) (v := ?_) (by first | (simp only [List.getElem?_toArray, List.getElem?_cons_zero, List.getElem?_cons_succ]; done) | (simp only [List.getElem?_toArray, List.getElem?_cons_zero, List.getElem?_cons_succ]; rfl)) (by kernel_rfl) (by kernel_rfl) (by kernel_rfl) (by exact fun _ _ _ h => h) (Or.inl ⟨by rfl, ?hy14⟩) (by assumption) ?_
            case hy14 => (intro w' hSw; clear hSw; go_simp; try with_reducible rfl)
            try simp only [Act.put, List.setIfInBounds_toArray, List.set_cons_zero, List.set_cons_succ]
            refine wpAnyH_take (i := 15) (v := .agg (GG A2 c2).toArray) (by first | (simp only [List.getElem?_toArray, List.getElem?_cons_zero, List.getElem?_cons_succ]; done) | (simp only [List.getElem?_toArray, List.getElem?_cons_zero, List.getElem?_cons_succ]; rfl)) (by kernel_rfl) (by kernel_rfl) (by kernel_rfl) (by exact fun _ _ _ h => h) (Or.inl ⟨by rfl, fun w' hSw => run_load_mid _ _ _ _ rfl gb 0 (by rfl) _ _ w' hSw.2.2.1 Tryz.underlying45 rfl hgi⟩) (by assumption) ?_
            try simp only [Act.put, List.setIfInBounds_toArray, List.set_cons_zero, List.set_cons_succ]
            refine wpAnyH_take (i := 17) (v := .agg (GG A2 c2).toArray) (by first | (simp only [List.getElem?_toArray, List.getElem?_cons_zero, List.getElem?_cons_succ]; done) | (simp only [List.getElem?_toArray, List.getElem?_cons_zero, List.getElem?_cons_succ]; rfl)) (by kernel_rfl) (by kernel_rfl) (by kernel_rfl) (by exact fun _ _ _ h => h) (Or.inl ⟨by rfl, fun w' hSw => run_load_mid _ _ _ _ rfl gb 0 (by rfl) _ _ w' hSw.2.2.1 Tryz.underlying45 rfl hgi⟩) (by assumption) ?_
            try simp only [Act.put, List.setIfInBounds_toArray, List.set_cons_zero, List.set_cons_succ]
            refine wpAnyH_ready (rs := [16]) (by kernel_rfl) (by simp) ?_
            refine AllReadyH.cons (by first | (simp only [List.getElem?_toArray, List.getElem?_cons_zero, List.getElem?_cons_succ]; done) | (simp only [List.getElem?_toArray, List.getElem?_cons_zero, List.getElem?_cons_succ]; rfl)) (fun K hK => ?_) AllReadyH.nil
            go_simp
            refine (HTG.out _ _ _ (HR4.out.ext HY.out)).mono ?_
            rintro e Y51 ⟨⟨A4, c4, rfl, hr4, -⟩, hx⟩
            have HR8 := Lib.hid hr4
            clear hr4
            replace HY := Lib.hid (HY.out.tr hx)
            try (go_wp2_with fail)
            refine hK.out _ _ (HCE.out _ HY.out) (fun hHeld => ?_)
            clear hx hK K
            try simp only [Act.put, List.setIfInBounds_toArray, List.set_cons_zero, List.set_cons_succ]
            refine wpAnyH_ready (rs := [18]) (by kernel_rfl) (by simp) ?_
            refine AllReadyH.cons (by first | (simp only [List.getElem?_toArray, List.getElem?_cons_zero, List.getElem?_cons_succ]; done) | (simp only [List.getElem?_toArray, List.getElem?_cons_zero, List.getElem?_cons_succ]; rfl)) (fun K hK => ?_) AllReadyH.nil
            go_simp
            refine (HTG.out _ _ _ (HR4.out.ext HY.out)).mono ?_
            rintro e Y52 ⟨⟨A5, c5, rfl, hr5, -⟩, hx⟩
            have HR9 := Lib.hid hr5
            replace HR8 := Lib.hid (HR8.out.ext hx)
            clear hr5
            replace HY := Lib.hid (HY.out.tr hx)
            try (go_wp2_with fail)
            refine hK.out _ _ (HCE.out _ HY.out) (fun hHeld => ?_)
            clear hx hK K
            try simp only [Act.put, List.setIfInBounds_toArray, List.set_cons_zero, List.set_cons_succ]
            refine wpAnyH_ready (rs := [19]) (by kernel_rfl) (by simp) ?_
            refine AllReadyH.cons (by first | (simp only [List.getElem?_toArray, List.getElem?_cons_zero, List.getElem?_cons_succ]; done) | (simp only [List.getElem?_toArray, List.getElem?_cons_zero, List.getElem?_cons_succ]; rfl)) (fun K hK => ?_) AllReadyH.nil
            go_simp
            refine (HSG.out _ _ _ _ _ HR8.out HR9.out).mono ?_
            rintro e Y53 ⟨rfl, hx⟩
            replace HY := Lib.hid (HY.out.tr hx)
            try (go_wp2_with fail)
            refine hK.out _ _ (HCE.out _ HY.out) (fun hHeld => ?_)
            clear hx hK K
            try simp only [Act.put, List.setIfInBounds_toArray, List.set_cons_zero, List.set_cons_succ]
            refine wpAnyH_take (i := 20) (v := ?_) (by first | (simp only [List.getElem?_toArray, List.getElem?_cons_zero, List.getElem?_cons_succ]; done) | (simp only [List.getElem?_toArray, List.getElem?_cons_zero, List.getElem?_cons_succ]; rfl)) (by kernel_rfl) (by kernel_rfl) (by kernel_rfl) (by exact fun _ _ _ h => h) (Or.inl ⟨by rfl, ?hy20⟩) (by assumption) ?_
            case hy20 => (intro w' hSw; clear hSw; go_simp; try with_reducible rfl)
            try simp only [Act.put, List.setIfInBounds_toArray, List.set_cons_zero, List.set_cons_succ]
            refine wpAnyH_take (i := 21) (v := ?_) (by first | (simp only [List.getElem?_toArray, List.getElem?_cons_zero, List.getElem?_cons_succ]; done) | (simp only [List.getElem?_toArray, List.getElem?_cons_zero, List.getElem?_cons_succ]; rfl)) (by kernel_rfl) (by kernel_rfl) (by kernel_rfl) (by exact fun _ _ _ h => h) (Or.inl ⟨by rfl, ?hy21⟩) (by assumption) ?_
            case hy21 => (intro w' hSw; clear hSw; go_simp; try with_reducible rfl)
            try simp only [Act.put, List.setIfInBounds_toArray, List.set_cons_zero, List.set_cons_succ]
            refine wpAnyH_done (by kernel_rfl) ?_ _
            clear hHeld
            have HFIN := Lib.hid (Ext.tr HX.out HY.out)
            go_wp2
            go_ret
            exact ⟨ret_bool (by first | rfl | simp), HFIN.out⟩
theorem sigWords_walk' {w : World} (s : ByteArray) (ws : s.size ≤ maxLen) (who : Int) (wwho : (Lit.int .i64 who).wf = true) (leaf : Int) (wleaf : (Lit.int .i64 leaf).wf = true) (A1 : Option Addr) (l1 : List Int) (c1 : Nat) (h1 : Rd w A1 (l1.map (Value.int .u64))) (w1 : ∀ n ∈ l1, (Lit.int .u64 n).wf = true) (m1 : l1.length ≤ maxLen) (A2 : Option Addr) (l2 : List Int) (c2 : Nat) (h2 : Rd w A2 (l2.map (Value.int .u64))) (w2 : ∀ n ∈ l2, (Lit.int .u64 n).wf = true) (m2 : l2.length ≤ maxLen) (h : KOk w) :
    Calls Tryz.prog 4 #[.string s, .int .i64 who, .int .i64 leaf, .slice A1 l1.length c1, .slice A2 l2.length c2] w fun e w' => e = .returned (.bool true) ∧ Ext w w' := by
  have k1 := cDg_of w1
  have k2 := cDg_of w2
  have := sigw_walk s (by unfold maxLen at ws; omega) who leaf (bounds_i64 wwho) (bounds_i64 wleaf) (l1.map Int.toNat) (l2.map Int.toNat) k1.2 k2.2 (by rw [List.length_map]; unfold maxLen at m1; omega) (by rw [List.length_map]; unfold maxLen at m2; omega) A1 A2 c1 c2 w (by rw [k1.1]; exact h1) (by rw [k2.1]; exact h2) h
  rw [List.length_map, List.length_map] at this
  exact this
end Go.Proofs.YtbbgmlnfpnomiaaGreatDoor
