/- The reference's small and ParseStamp. -/
import Derived.Test.YtbbgmlnfpnomiaaGreatDoorStE
import Derived.Test.YtbbgmlnfpnomiaaGreatDoorStO
import Derived.Test.YtbbgmlnfpnomiaaGreatDoorKR4
set_option linter.unusedVariables false
set_option linter.unusedSimpArgs false
namespace Go.Proofs.YtbbgmlnfpnomiaaGreatDoor
open Go.RowKit Go.Sort
set_option maxRecDepth 100000 in
theorem rsmall11_calls (n : Int) (w : World) : Calls Tryz.prog 154 #[.int .i64 n] w fun e w' => e = .returned (.bool (decide (-2147483648 ≤ n ∧ n ≤ 2147483647))) ∧ w = w' := by
  by_cases h1 : -2147483648 ≤ n
  · have d1 : decide (-2147483648 ≤ n) = true := decide_eq_true h1
    by_cases h2 : n < 2147483648
    · have d2 : decide (n < 2147483648) = true := decide_eq_true h2
      rw [decide_eq_true (show -2147483648 ≤ n ∧ n ≤ 2147483647 by omega)]
      go_enter Tryz.func154, Tryz.ntmps154
      go_wp2
      go_ret
      exact ⟨ret_bool (by first | rfl | simp [h1, h2]), rfl⟩
    · have d2 : decide (n < 2147483648) = false := decide_eq_false h2
      rw [decide_eq_false (show ¬ (-2147483648 ≤ n ∧ n ≤ 2147483647) by omega)]
      go_enter Tryz.func154, Tryz.ntmps154
      go_wp2
      go_ret
      exact ⟨ret_bool (by first | rfl | simp [h1, h2]), rfl⟩
  · have d1 : decide (-2147483648 ≤ n) = false := decide_eq_false h1
    rw [decide_eq_false (show ¬ (-2147483648 ≤ n ∧ n ≤ 2147483647) by omega)]
    go_enter Tryz.func154, Tryz.ntmps154
    go_wp2
    go_ret
    exact ⟨ret_bool (by first | rfl | simp [h1]), rfl⟩
theorem pst4_no1 {a b c d : List UInt8} (h : parseH (S.nums a) = none) : K.pst4 a b c d = none := by unfold K.pst4; rw [h]
theorem pst4_no2 {a b c d : List UInt8} (h : K.small b = none) : K.pst4 a b c d = none := by unfold K.pst4; rw [h]; cases parseH (S.nums a) <;> rfl
theorem pst4_no3 {a b c d : List UInt8} {n : Nat} (h : J.pnum c = .error n) : K.pst4 a b c d = none := by unfold K.pst4; rw [h]; cases parseH (S.nums a) <;> cases K.small b <;> rfl
theorem pst4_no4 {a b c d : List UInt8} (h : K.psig d = none) : K.pst4 a b c d = none := by unfold K.pst4; rw [h]; cases parseH (S.nums a) <;> cases K.small b <;> cases J.pnum c <;> rfl
theorem small_no {b : List UInt8} {n : Nat} (h : J.pnum b = .error n) : K.small b = none := by unfold K.small; rw [h]
theorem small_out {b : List UInt8} {v : Int} (h : J.pnum b = .ok v) (hv : ¬ (-2147483648 ≤ v ∧ v ≤ 2147483647)) : K.small b = none := by unfold K.small; rw [h]; exact if_neg hv
theorem small_in {b : List UInt8} {v : Int} (h : J.pnum b = .ok v) (hv : -2147483648 ≤ v ∧ v ≤ 2147483647) : K.small b = some v := by unfold K.small; rw [h]; exact if_pos hv
set_option maxRecDepth 100000 in
theorem run_buildRSZ (f : Operand → Value) (o : Oper) (ho : o.op = .build 73 #[]) (w : World) : (execOp f o).run Tryz.prog w = .ok (.value (.agg stZ.toArray)) w := by
  unfold execOp
  simp only [ho]
  go_simp
  rfl
/-- What the reference's reading of a digest tells, in one form. -/
theorem rdig_form {p : List UInt8} {e : Ending} (h : e = RPEnd (rparse (S.nums p))) : ∃ (v : Nat) (x : Int), e = .returned (.tuple #[cU64 v, .int .i64 x]) ∧ ((x = 0 ∧ parseH (S.nums p) = some v) ∨ (x = 2 ∧ parseH (S.nums p) = none)) := by
  rw [← parseH_ref] at h
  cases hp : parseH (S.nums p) with
  | none => rw [hp] at h; exact ⟨0, 2, h, .inr ⟨rfl, rfl⟩⟩
  | some v => rw [hp] at h; exact ⟨v, 0, h, .inl ⟨rfl, rfl⟩⟩
theorem sig_form2 {n0 : Nat} {p : List UInt8} {e : Ending} {w : World} (h : SigEnd n0 (K.psig p) e w) : ∃ (L : List Value) (x : Int), e = .returned (.tuple #[.agg L.toArray, .int .i64 x]) ∧ L.length = 21 ∧ (∀ v ∈ L, v.oneCell' = true) ∧ ((x = 0 ∧ ∃ g A c, K.psig p = some g ∧ L = sgV g.who g.leaf g.one A g.path.length c ∧ Rd w A (cDg g.path) ∧ (∀ ad, A = some ad → n0 ≤ ad.block)) ∨ (x = 2 ∧ K.psig p = none)) := by
  cases hp : K.psig p with
  | none => rw [hp] at h; exact ⟨sgZ, 2, h, rfl, sgZ_one, .inr ⟨rfl, rfl⟩⟩
  | some g =>
    rw [hp] at h
    obtain ⟨A, c, h1, h2, h3⟩ := h
    have hg := (K.sigT_psig hp).2.1.2.2.2.1
    exact ⟨_, 0, h1, sgV_len _ _ _ hg _ _ _, sgV_one _ _ _ _ _ _, .inl ⟨rfl, g, A, c, rfl, rfl, h2, h3⟩⟩
set_option maxRecDepth 100000 in
set_option maxHeartbeats 4000000 in
theorem rpst_calls (s : ByteArray) (hs : s.size ≤ 1000000) (w : World) :
    Calls Tryz.prog 55 #[.string s] w fun e w' => PstEnd w.heap.size (K.pst (bs s)) e w' ∧ Ext w w' := by
  have HSP := Lib.hid (fun W => rsplit_calls s (by omega) W)
  rw [J.rsplit_split] at HSP
  have HB0 := Lib.hid (Blk.new w 73 [.int .u64 0, .int .i64 0, .int .i64 0, .int .i64 0, .int .i64 0, .int .u64 0, .int .u64 0, .int .u64 0, .int .u64 0, .int .u64 0, .int .u64 0, .int .u64 0, .int .u64 0, .int .u64 0, .int .u64 0, .int .u64 0, .int .u64 0, .int .u64 0, .int .u64 0, .int .u64 0, .int .u64 0, .int .u64 0, .int .u64 0, .slice none 0 0])
  have HX0 := Lib.hid ((Ext.rfl' w).alloc (.cells #[.int .u64 0, .int .i64 0, .int .i64 0, .int .i64 0, .int .i64 0, .int .u64 0, .int .u64 0, .int .u64 0, .int .u64 0, .int .u64 0, .int .u64 0, .int .u64 0, .int .u64 0, .int .u64 0, .int .u64 0, .int .u64 0, .int .u64 0, .int .u64 0, .int .u64 0, .int .u64 0, .int .u64 0, .int .u64 0, .int .u64 0, .slice none 0 0] 73))
  have HPS := Lib.hid (show K.pst (bs s) = match J.split (bs s) with | .error n => .error n | .ok l => K.pstL l from rfl)
  go_enter Tryz.func55, Tryz.ntmps55
  go_upto_region 1 with (fail)
  change Hid (Blk (w.alloc (.cells #[.int .u64 0, .int .i64 0, .int .i64 0, .int .i64 0, .int .i64 0, .int .u64 0, .int .u64 0, .int .u64 0, .int .u64 0, .int .u64 0, .int .u64 0, .int .u64 0, .int .u64 0, .int .u64 0, .int .u64 0, .int .u64 0, .int .u64 0, .int .u64 0, .int .u64 0, .int .u64 0, .int .u64 0, .int .u64 0, .int .u64 0, .slice none 0 0] 73)) w.heap.size 73 [.int .u64 0, .int .i64 0, .int .i64 0, .int .i64 0, .int .i64 0, .int .u64 0, .int .u64 0, .int .u64 0, .int .u64 0, .int .u64 0, .int .u64 0, .int .u64 0, .int .u64 0, .int .u64 0, .int .u64 0, .int .u64 0, .int .u64 0, .int .u64 0, .int .u64 0, .int .u64 0, .int .u64 0, .int .u64 0, .int .u64 0, .slice none 0 0]) at HB0
  generalize w.alloc (.cells #[.int .u64 0, .int .i64 0, .int .i64 0, .int .i64 0, .int .i64 0, .int .u64 0, .int .u64 0, .int .u64 0, .int .u64 0, .int .u64 0, .int .u64 0, .int .u64 0, .int .u64 0, .int .u64 0, .int .u64 0, .int .u64 0, .int .u64 0, .int .u64 0, .int .u64 0, .int .u64 0, .int .u64 0, .int .u64 0, .int .u64 0, .slice none 0 0] 73) = W0 at *
  generalize hZ : ([.int .u64 0, .int .i64 0, .int .i64 0, .int .i64 0, .int .i64 0, .int .u64 0, .int .u64 0, .int .u64 0, .int .u64 0, .int .u64 0, .int .u64 0, .int .u64 0, .int .u64 0, .int .u64 0, .int .u64 0, .int .u64 0, .int .u64 0, .int .u64 0, .int .u64 0, .int .u64 0, .int .u64 0, .int .u64 0, .int .u64 0, .slice none 0 0] : List Value) = ZL at HB0
  have HZ := Lib.hid (show ZL.length = 24 by rw [← hZ]; rfl)
  clear hZ
  go_wp2_with fail
  refine (HSP.out W0).mono ?_
  rintro e W1 ⟨he, hx⟩
  have HB := Lib.hid (HB0.out.ext hx)
  have HX := Lib.hid (HX0.out.tr hx)
  clear hx HB0 HX0 HSP
  cases hsp : J.split (bs s) with
  | error n =>
    rw [hsp] at he
    obtain rfl : e = .returned (.tuple #[.slice none 0 0, .int .i64 (n : Int)]) := he
    have hn := split_err hsp
    have hnz : ((n : Int) != 0) = true := by simp; omega
    have hnz2 : ((n : Int) == 0) = false := by simp; omega
    rw [hsp] at HPS
    go_upto_region 3 with (fail)
    have hth : W1.there w.heap.size 0 24 := by
      have h := HB.out.there
      rw [HZ.out] at h
      exact h
    have hput : Blk (W1.setCells w.heap.size 0 stZ) w.heap.size 73 stZ ∧ Ext w (W1.setCells w.heap.size 0 stZ) := ⟨HB.out.put (by rw [HZ.out]; rfl), Ext.setCells (Nat.le_refl _) _ _ _ HX.out⟩
    refine wp_region_lit ?_
    refine wpList_val rfl (.agg stZ.toArray) (run_buildRSZ _ _ rfl _) ?_
    go_wp2_with (refine wpList_store_mid rfl _ _ _ rfl w.heap.size 0 stZ.toArray rfl rfl hth rfl (all_oneCell_toArray stZ_one) ?_; rw [List.toList_toArray]; generalize W1.setCells w.heap.size 0 stZ = W9 at *)
    exact ret_cell_tmp rfl hput.1 Tryz.underlying73 rfl rfl rfl rfl ⟨by rw [HPS.out]; exact rfl, hput.2⟩
  | ok l =>
    rw [hsp] at he HPS
    change Hid (K.pst (bs s) = K.pstL l) at HPS
    obtain ⟨A0, c0, rfl, hrd⟩ : ∃ A c, e = .returned (.tuple #[.slice A l.length c, .int .i64 0]) ∧ Rd W1 A (cFs l) := he
    by_cases h4 : l.length = 4
    · match l, h4 with
      | [fa, fb, fc, fd], _ =>
        have hj := J.join_split hsp
        obtain ⟨ad, rfl, _, hc0⟩ := hrd.at_ (j := 0) (u := .string (strOf fa)) rfl
        have hc1 : W1.cell? (ad.add 1) = some (.string (strOf fb)) := by obtain ⟨_, e, _, h⟩ := hrd.at_ (j := 1) (u := .string (strOf fb)) rfl; cases e; exact h
        have hc2 : W1.cell? (ad.add 2) = some (.string (strOf fc)) := by obtain ⟨_, e, _, h⟩ := hrd.at_ (j := 2) (u := .string (strOf fc)) rfl; cases e; exact h
        have hc3 : W1.cell? (ad.add 3) = some (.string (strOf fd)) := by obtain ⟨_, e, _, h⟩ := hrd.at_ (j := 3) (u := .string (strOf fd)) rfl; cases e; exact h
        rw [show ad.add 0 = ad from by simp [Addr.add]] at hc0
        rw [show ad.add 1 = ⟨ad.block, ad.off + 1, none⟩ from by simp [Addr.add]] at hc1
        rw [show ad.add 2 = ⟨ad.block, ad.off + 2, none⟩ from by simp [Addr.add]] at hc2
        rw [show ad.add 3 = ⟨ad.block, ad.off + 3, none⟩ from by simp [Addr.add]] at hc3
        have hlen : fa.length + fb.length + fc.length + fd.length ≤ s.size := by
          have := congrArg List.length hj
          have e1 := esc_ge fa
          have e2 := esc_ge fb
          have e3 := esc_ge fc
          have e4 := esc_ge fd
          have e5 : (bs s).length = s.size := rfl
          simp only [J.join, List.length_cons, List.length_append, List.length_nil] at this
          omega
        have HNb := Lib.hid (fun W => rpnum_calls (strOf fb) (by rw [size_strOf]; omega) W)
        have HNc := Lib.hid (fun W => rpnum_calls (strOf fc) (by rw [size_strOf]; omega) W)
        have HNa := Lib.hid (fun W => rparse_calls (strOf fa) W)
        have HNd := Lib.hid (fun W => rparsesig_calls (strOf fd) (by rw [size_strOf]; omega) W)
        have HSM := Lib.hid (fun n W => rsmall11_calls n W)
        rw [bs_strOf] at HNb HNc HNd
        have HBAD := Lib.hid (fun (hb : K.pst4 fa fb fc fd = none) => HPS.out.trans (show (match K.pst4 fa fb fc fd with | some s => Except.ok s | none => .error 2) = Except.error 2 by rw [hb]))
        clear hrd hj hlen hsp
        have HC := Lib.hid (And.intro hc0 (And.intro hc3 hc2))
        clear hc0 hc2 hc3
        go_wp2_with fail
        refine (HNb.out _).mono ?_
        rintro e _ ⟨he, rfl⟩
        obtain ⟨v6, e7, rfl, he7, hc7⟩ := num_form he
        have hc2 := HC.out.2.2
        clear he hc1
        go_wp2_with fail
        refine (HNc.out _).mono ?_
        rintro e _ ⟨he, rfl⟩
        obtain ⟨v8, e9, rfl, he9, hc9⟩ := num_form he
        clear he hc2 HNb HNc
        by_cases g7 : e7 = 0
        · subst g7
          have hpb : J.pnum fb = .ok v6 := by
            rcases hc7 with h | h
            · exact h.2
            · exact absurd rfl h.1
          by_cases g9 : e9 = 0
          · subst g9
            have hpc : J.pnum fc = .ok v8 := by
              rcases hc9 with h | h
              · exact h.2
              · exact absurd rfl h.1
            clear hc7 hc9 he7 he9
            by_cases gs : -2147483648 ≤ v6 ∧ v6 ≤ 2147483647
            · have hsm := small_in hpb gs
              have HSM1 := Lib.hid (fun W => HSM.out v6 W)
              rw [decide_eq_true gs] at HSM1
              have hc0 := HC.out.1
              clear HSM hpb
              go_wp2_with fail
              refine (HSM1.out _).mono ?_
              rintro e _ ⟨rfl, rfl⟩
              go_wp2_with fail
              refine (HNa.out _).mono ?_
              rintro e W2 ⟨he, hx⟩
              obtain ⟨h6, ea, rfl, hca⟩ := rdig_form (p := fa) he
              replace HX := Lib.hid (HX.out.tr hx)
              replace HB := Lib.hid (HB.out.ext hx)
              have hc3 := hx.cell HC.out.2.1
              clear he hx hc0 HC HNa HSM1
              rcases hca with ⟨rfl, hpa⟩ | ⟨rfl, hpa⟩
              · skip
                go_wp2_with fail
                have hW2 : w.heap.size < W2.heap.size := HB.out.lt
                refine (HNd.out _).mono ?_
                rintro e W5 ⟨he, hx⟩
                obtain ⟨L, e13, rfl, hL21, hL1, hc13⟩ := sig_form2 he
                replace HX := Lib.hid (HX.out.tr hx)
                replace HB := Lib.hid (HB.out.ext hx)
                clear hx hc3 he HNd
                go_upto_region 14 with (refine wpList_store_new rfl _ _ _ rfl _ _ L rfl rfl (by rw [hL21]; rfl) (by rw [hL21]; rfl) hL1 ?_; intro W6 hX hB; have HXL := Lib.hid hX; replace HX := Lib.hid (HX.out.tr hX); replace HB := Lib.hid (HB.out.ext hX); have HBL := Lib.hid hB; clear hX hB; generalize W5.heap.size = sb at *)
                rcases hc13 with ⟨rfl, g, A, c, hg1, rfl, hg3, hg4⟩ | ⟨rfl, hpd⟩
                · skip
                  have HPG := Lib.hid (show K.pst (bs s) = .ok ⟨h6, v6, v8, g⟩ from HPS.out.trans (show (match K.pst4 fa fb fc fd with | some s => Except.ok s | none => .error 2) = Except.ok ⟨h6, v6, v8, g⟩ by rw [K.pst4, hpa, hsm, hpc, hg1]))
                  have HR2 := Lib.hid (hg3.ext HXL.out)
                  clear HBAD HPS hpa hsm hpc hg1 hg3 HXL gs
                  have hi21 : (Tryz.prog.info? 45).map (·.size) = some (sgV g.who g.leaf g.one A g.path.length c).length := by rw [hL21]; rfl
                  have hs24 : (stV h6 v6 v8 (sgV g.who g.leaf g.one A g.path.length c)).toArray.size = 24 := by rw [List.size_toArray]; exact stV_len _ _ _ _ hL21
                  have hth : W6.there w.heap.size 0 (stV h6 v6 v8 (sgV g.who g.leaf g.one A g.path.length c)).toArray.size := by
                    have h := HB.out.there
                    rw [HZ.out] at h
                    rw [hs24]
                    exact h
                  have hi24 : (Tryz.prog.info? 73).map (·.size) = some (stV h6 v6 v8 (sgV g.who g.leaf g.one A g.path.length c)).toArray.size := by rw [hs24]; rfl
                  have hon := all_oneCell_toArray (stV_one h6 v6 v8 _ hL1)
                  have hrg := HBL.out.range
                  have hNA : ∀ ad, A = some ad → ad.block ≠ w.heap.size := fun ad e => by have := hg4 ad e; omega
                  have HFI := Lib.hid (show Blk (W6.setCells w.heap.size 0 (stV h6 v6 v8 (sgV g.who g.leaf g.one A g.path.length c))) w.heap.size 73 (stV h6 v6 v8 (sgV g.who g.leaf g.one A g.path.length c)) ∧ Rd (W6.setCells w.heap.size 0 (stV h6 v6 v8 (sgV g.who g.leaf g.one A g.path.length c))) A (cDg g.path) ∧ Ext w (W6.setCells w.heap.size 0 (stV h6 v6 v8 (sgV g.who g.leaf g.one A g.path.length c))) from
                    ⟨HB.out.put (by rw [HZ.out]; exact stV_len _ _ _ _ hL21), Rd.setCellsO hNA _ _ _ HR2.out, Ext.setCells (Nat.le_refl _) _ _ _ HX.out⟩)
                  have HFA := Lib.hid (show ∀ ad, A = some ad → w.heap.size ≤ ad.block from fun ad e => by have := hg4 ad e; omega)
                  have HST := Lib.hid (fun f x0 x1 x2 x3 o ho h0 h1 h2 h3 W => run_buildRS f x0 x1 x2 x3 o ho h6 v6 v8 (sgV g.who g.leaf g.one A g.path.length c) hL21 h0 h1 h2 h3 W)
                  clear HB HBL HR2 hs24 hL1 hNA hg4
                  generalize hSV : stV h6 v6 v8 (sgV g.who g.leaf g.one A g.path.length c) = SV at *
                  have HSV := Lib.hid hSV
                  clear hSV
                  generalize hSS : sgV g.who g.leaf g.one A g.path.length c = SS at *
                  have HSS := Lib.hid hSS
                  clear hSS
                  go_wp2_with (first
                    | (refine wpList_load_mid rfl _ _ rfl sb 0 rfl SS _ hrg Tryz.underlying45 rfl hi21 ?_)
                    | (refine wpList_val rfl (.agg SV.toArray) (HST.out _ _ _ _ _ _ rfl rfl rfl rfl rfl _) ?_)
                    | (refine wpList_store_mid rfl _ _ _ rfl w.heap.size 0 SV.toArray rfl rfl hth hi24 hon ?_; rw [List.toList_toArray]; generalize W6.setCells w.heap.size 0 SV = W9 at *))
                  exact ret_cell_tmp rfl HFI.out.1 Tryz.underlying73 rfl (by simpa using hi24) rfl rfl ⟨by rw [HPG.out]; exact ⟨A, c, by show _ = Ending.returned (.tuple #[.agg (stV h6 v6 v8 (sgV g.who g.leaf g.one A g.path.length c)).toArray, .int .i64 0]); rw [HSS.out, HSV.out]; rfl, HFI.out.2.1, HFA.out⟩, HFI.out.2.2⟩
                · skip
                  have HPS2 := Lib.hid (HBAD.out (pst4_no4 hpd))
                  clear HPS HBAD
                  have HPS := Lib.hid HPS2.out
                  clear HPS2
                  go_upto_region 15 with (fail)
                  have hth : W6.there w.heap.size 0 24 := by
                    have h := HB.out.there
                    rw [HZ.out] at h
                    exact h
                  have hput : Blk (W6.setCells w.heap.size 0 stZ) w.heap.size 73 stZ ∧ Ext w (W6.setCells w.heap.size 0 stZ) := ⟨HB.out.put (by rw [HZ.out]; rfl), Ext.setCells (Nat.le_refl _) _ _ _ HX.out⟩
                  refine wp_region_lit ?_
                  refine wpList_val rfl (.agg stZ.toArray) (run_buildRSZ _ _ rfl _) ?_
                  go_wp2_with (refine wpList_store_mid rfl _ _ _ rfl w.heap.size 0 stZ.toArray rfl rfl hth rfl (all_oneCell_toArray stZ_one) ?_; rw [List.toList_toArray]; generalize W6.setCells w.heap.size 0 stZ = W9 at *)
                  exact ret_cell_tmp rfl hput.1 Tryz.underlying73 rfl rfl rfl rfl ⟨by rw [HPS.out]; exact rfl, hput.2⟩
              · skip
                have HPS2 := Lib.hid (HBAD.out (pst4_no1 hpa))
                clear HPS HBAD
                have HPS := Lib.hid HPS2.out
                clear HPS2
                go_upto_region 12 with (fail)
                have hth : W2.there w.heap.size 0 24 := by
                  have h := HB.out.there
                  rw [HZ.out] at h
                  exact h
                have hput : Blk (W2.setCells w.heap.size 0 stZ) w.heap.size 73 stZ ∧ Ext w (W2.setCells w.heap.size 0 stZ) := ⟨HB.out.put (by rw [HZ.out]; rfl), Ext.setCells (Nat.le_refl _) _ _ _ HX.out⟩
                refine wp_region_lit ?_
                refine wpList_val rfl (.agg stZ.toArray) (run_buildRSZ _ _ rfl _) ?_
                go_wp2_with (refine wpList_store_mid rfl _ _ _ rfl w.heap.size 0 stZ.toArray rfl rfl hth rfl (all_oneCell_toArray stZ_one) ?_; rw [List.toList_toArray]; generalize W2.setCells w.heap.size 0 stZ = W9 at *)
                exact ret_cell_tmp rfl hput.1 Tryz.underlying73 rfl rfl rfl rfl ⟨by rw [HPS.out]; exact rfl, hput.2⟩
            · have hsm := small_out hpb gs
              have HSM1 := Lib.hid (fun W => HSM.out v6 W)
              rw [decide_eq_false gs] at HSM1
              clear HSM hpb HC HNa HNd
              go_wp2_with fail
              refine (HSM1.out _).mono ?_
              rintro e _ ⟨rfl, rfl⟩
              clear HSM1
              have HPS2 := Lib.hid (HBAD.out (pst4_no2 hsm))
              clear HPS HBAD
              have HPS := Lib.hid HPS2.out
              clear HPS2
              go_upto_region 9 with (fail)
              have hth : W1.there w.heap.size 0 24 := by
                have h := HB.out.there
                rw [HZ.out] at h
                exact h
              have hput : Blk (W1.setCells w.heap.size 0 stZ) w.heap.size 73 stZ ∧ Ext w (W1.setCells w.heap.size 0 stZ) := ⟨HB.out.put (by rw [HZ.out]; rfl), Ext.setCells (Nat.le_refl _) _ _ _ HX.out⟩
              refine wp_region_lit ?_
              refine wpList_val rfl (.agg stZ.toArray) (run_buildRSZ _ _ rfl _) ?_
              go_wp2_with (refine wpList_store_mid rfl _ _ _ rfl w.heap.size 0 stZ.toArray rfl rfl hth rfl (all_oneCell_toArray stZ_one) ?_; rw [List.toList_toArray]; generalize W1.setCells w.heap.size 0 stZ = W9 at *)
              exact ret_cell_tmp rfl hput.1 Tryz.underlying73 rfl rfl rfl rfl ⟨by rw [HPS.out]; exact rfl, hput.2⟩
          · have g9b : (e9 == 0) = false := beq_eq_false_iff_ne.2 g9
            have g9n : (e9 != 0) = true := by simp [g9]
            obtain ⟨n9, hpc⟩ : ∃ n, J.pnum fc = .error n := by
              rcases hc9 with h | h
              · exact absurd h.1 g9
              · exact h.2
            clear hc7 hc9 he7 he9 HC HNa HNd HSM
            have HPS2 := Lib.hid (HBAD.out (pst4_no3 hpc))
            clear HPS HBAD
            have HPS := Lib.hid HPS2.out
            clear HPS2
            go_upto_region 9 with (fail)
            have hth : W1.there w.heap.size 0 24 := by
              have h := HB.out.there
              rw [HZ.out] at h
              exact h
            have hput : Blk (W1.setCells w.heap.size 0 stZ) w.heap.size 73 stZ ∧ Ext w (W1.setCells w.heap.size 0 stZ) := ⟨HB.out.put (by rw [HZ.out]; rfl), Ext.setCells (Nat.le_refl _) _ _ _ HX.out⟩
            refine wp_region_lit ?_
            refine wpList_val rfl (.agg stZ.toArray) (run_buildRSZ _ _ rfl _) ?_
            go_wp2_with (refine wpList_store_mid rfl _ _ _ rfl w.heap.size 0 stZ.toArray rfl rfl hth rfl (all_oneCell_toArray stZ_one) ?_; rw [List.toList_toArray]; generalize W1.setCells w.heap.size 0 stZ = W9 at *)
            exact ret_cell_tmp rfl hput.1 Tryz.underlying73 rfl rfl rfl rfl ⟨by rw [HPS.out]; exact rfl, hput.2⟩
        · have g7b : (e7 == 0) = false := beq_eq_false_iff_ne.2 g7
          have g7n : (e7 != 0) = true := by simp [g7]
          obtain ⟨n7, hpb⟩ : ∃ n, J.pnum fb = .error n := by
            rcases hc7 with h | h
            · exact absurd h.1 g7
            · exact h.2
          clear hc7 hc9 he7 he9 HC HNa HNd HSM
          have HPS2 := Lib.hid (HBAD.out (pst4_no2 (small_no hpb)))
          clear HPS HBAD
          have HPS := Lib.hid HPS2.out
          clear HPS2
          go_upto_region 9 with (fail)
          have hth : W1.there w.heap.size 0 24 := by
            have h := HB.out.there
            rw [HZ.out] at h
            exact h
          have hput : Blk (W1.setCells w.heap.size 0 stZ) w.heap.size 73 stZ ∧ Ext w (W1.setCells w.heap.size 0 stZ) := ⟨HB.out.put (by rw [HZ.out]; rfl), Ext.setCells (Nat.le_refl _) _ _ _ HX.out⟩
          refine wp_region_lit ?_
          refine wpList_val rfl (.agg stZ.toArray) (run_buildRSZ _ _ rfl _) ?_
          go_wp2_with (refine wpList_store_mid rfl _ _ _ rfl w.heap.size 0 stZ.toArray rfl rfl hth rfl (all_oneCell_toArray stZ_one) ?_; rw [List.toList_toArray]; generalize W1.setCells w.heap.size 0 stZ = W9 at *)
          exact ret_cell_tmp rfl hput.1 Tryz.underlying73 rfl rfl rfl rfl ⟨by rw [HPS.out]; exact rfl, hput.2⟩
    · have h4b : ((l.length : Int) == 4) = false := beq_eq_false_iff_ne.2 (by omega)
      have h4n : ((l.length : Int) != 4) = true := by simp; omega
      have h4i : ¬ ((l.length : Int) = 4) := by omega
      have hbad : K.pstL l = .error 2 := by
        match l, h4 with
        | [], _ => rfl
        | [_], _ => rfl
        | [_, _], _ => rfl
        | [_, _, _], _ => rfl
        | [_, _, _, _], h => exact absurd rfl h
        | _ :: _ :: _ :: _ :: _ :: _, _ => rfl
      rw [hbad] at HPS
      clear hbad
      go_upto_region 5 with (fail)
      have hth : W1.there w.heap.size 0 24 := by
        have h := HB.out.there
        rw [HZ.out] at h
        exact h
      have hput : Blk (W1.setCells w.heap.size 0 stZ) w.heap.size 73 stZ ∧ Ext w (W1.setCells w.heap.size 0 stZ) := ⟨HB.out.put (by rw [HZ.out]; rfl), Ext.setCells (Nat.le_refl _) _ _ _ HX.out⟩
      refine wp_region_lit ?_
      refine wpList_val rfl (.agg stZ.toArray) (run_buildRSZ _ _ rfl _) ?_
      go_wp2_with (refine wpList_store_mid rfl _ _ _ rfl w.heap.size 0 stZ.toArray rfl rfl hth rfl (all_oneCell_toArray stZ_one) ?_; rw [List.toList_toArray]; generalize W1.setCells w.heap.size 0 stZ = W9 at *)
      exact ret_cell_tmp rfl hput.1 Tryz.underlying73 rfl rfl rfl rfl ⟨by rw [HPS.out]; exact rfl, hput.2⟩
end Go.Proofs.YtbbgmlnfpnomiaaGreatDoor
