/- stamp.Parse and stamp.Same. -/
import Derived.Test.YtbbgmlnfpnomiaaGreatDoorStD
set_option linter.unusedVariables false
set_option linter.unusedSimpArgs false
namespace Go.Proofs.YtbbgmlnfpnomiaaGreatDoor
open Go.RowKit Go.Sort
def PstEnd (n0 : Nat) (r : Except Nat K.St) (e : Ending) (w : World) : Prop :=
  match r with
  | .ok s => ∃ A c, e = .returned (.tuple #[.agg (stC s A c).toArray, .int .i64 0]) ∧ Rd w A (cDg s.sig.path) ∧ (∀ ad, A = some ad → n0 ≤ ad.block)
  | .error n => e = .returned (.tuple #[.agg stZ.toArray, .int .i64 (n : Int)])
/-- What a digest's reading tells, in one form. -/
theorem dig_form {p : List UInt8} {e : Ending} (h : e = ParseEnd (parseH (S.nums p))) : ∃ (v : Nat) (x : Int), e = .returned (.tuple #[cU64 v, .int .i64 x]) ∧ 0 ≤ x ∧ ((x = 0 ∧ parseH (S.nums p) = some v) ∨ (x ≠ 0 ∧ parseH (S.nums p) = none)) := by
  cases hp : parseH (S.nums p) with
  | none => rw [hp] at h; exact ⟨0, 2, h, by decide, .inr ⟨by decide, rfl⟩⟩
  | some v => rw [hp] at h; exact ⟨v, 0, h, by decide, .inl ⟨rfl, rfl⟩⟩
/-- What a signature's reading tells, in one form. -/
theorem sig_form {n0 : Nat} {p : List UInt8} {e : Ending} {w : World} (h : SigEnd n0 (K.psig p) e w) : ∃ (L : List Value) (x : Int), e = .returned (.tuple #[.agg L.toArray, .int .i64 x]) ∧ 0 ≤ x ∧ L.length = 21 ∧ (∀ v ∈ L, v.oneCell' = true) ∧ ((x = 0 ∧ ∃ g A c, K.psig p = some g ∧ L = sgV g.who g.leaf g.one A g.path.length c ∧ Rd w A (cDg g.path) ∧ (∀ ad, A = some ad → n0 ≤ ad.block)) ∨ (x ≠ 0 ∧ K.psig p = none)) := by
  cases hp : K.psig p with
  | none => rw [hp] at h; exact ⟨sgZ, 2, h, by decide, rfl, sgZ_one, .inr ⟨by decide, rfl⟩⟩
  | some g =>
    rw [hp] at h
    obtain ⟨A, c, h1, h2, h3⟩ := h
    have hg := (K.sigT_psig hp).2.1.2.2.2.1
    exact ⟨_, 0, h1, by decide, sgV_len _ _ _ hg _ _ _, sgV_one _ _ _ _ _ _, .inl ⟨rfl, g, A, c, rfl, rfl, h2, h3⟩⟩
theorem st4_bad {fa fb fc fd : List UInt8} {h6 : Nat} {e7 w8 e9 v10 e11 e13 : Int} {Q : Prop} (h1 : (e7 = 0 ∧ parseH (S.nums fa) = some h6) ∨ (e7 ≠ 0 ∧ parseH (S.nums fa) = none)) (h2 : (e9 = 0 ∧ K.small fb = some w8) ∨ (e9 ≠ 0 ∧ K.small fb = none)) (h3 : (e11 = 0 ∧ J.pnum fc = .ok v10) ∨ (e11 ≠ 0 ∧ ∃ n, J.pnum fc = .error n)) (h4 : (e13 = 0 ∧ Q) ∨ (e13 ≠ 0 ∧ K.psig fd = none))
    (hb : e7 ≠ 0 ∨ e9 ≠ 0 ∨ e11 ≠ 0 ∨ e13 ≠ 0) : K.pst4 fa fb fc fd = none := by
  unfold K.pst4
  rcases h1 with ⟨a1, b1⟩ | ⟨a1, b1⟩
  · rcases h2 with ⟨a2, b2⟩ | ⟨a2, b2⟩
    · rcases h3 with ⟨a3, b3⟩ | ⟨a3, n, b3⟩
      · rcases h4 with ⟨a4, b4⟩ | ⟨a4, b4⟩
        · omega
        · rw [b1, b2, b3, b4]
      · rw [b1, b2, b3]
    · rw [b1, b2]
  · rw [b1]
set_option maxRecDepth 100000 in
set_option maxHeartbeats 4000000 in
theorem sparse_calls (s : ByteArray) (hs : s.size ≤ 1000000) (w : World) (hg : Gl w) (hr : RngOk w) :
    Calls Tryz.prog 54 #[.string s] w fun e w' => PstEnd w.heap.size (K.pst (bs s)) e w' ∧ Ext w w' := by
  have HSP := Lib.hid (fun W => split_calls s (by omega) W)
  have HB0 := Lib.hid (Blk.new w 80 [.int .u64 0, .int .i64 0, .int .i64 0, .int .i64 0, .int .i64 0, .int .u64 0, .int .u64 0, .int .u64 0, .int .u64 0, .int .u64 0, .int .u64 0, .int .u64 0, .int .u64 0, .int .u64 0, .int .u64 0, .int .u64 0, .int .u64 0, .int .u64 0, .int .u64 0, .int .u64 0, .int .u64 0, .int .u64 0, .int .u64 0, .slice none 0 0])
  have HX0 := Lib.hid ((Ext.rfl' w).alloc (.cells #[.int .u64 0, .int .i64 0, .int .i64 0, .int .i64 0, .int .i64 0, .int .u64 0, .int .u64 0, .int .u64 0, .int .u64 0, .int .u64 0, .int .u64 0, .int .u64 0, .int .u64 0, .int .u64 0, .int .u64 0, .int .u64 0, .int .u64 0, .int .u64 0, .int .u64 0, .int .u64 0, .int .u64 0, .int .u64 0, .int .u64 0, .slice none 0 0] 80))
  have HG := Lib.hid (fun W (hx : Ext w W) => hg.ext hx)
  have HR := Lib.hid (fun W (hx : Ext w W) => hr.ext hx)
  have HPS := Lib.hid (show K.pst (bs s) = match J.split (bs s) with | .error n => .error n | .ok l => K.pstL l from rfl)
  clear hg hr
  go_enter Tryz.func54, Tryz.ntmps54
  go_upto_region 1 with (fail)
  change Hid (Blk (w.alloc (.cells #[.int .u64 0, .int .i64 0, .int .i64 0, .int .i64 0, .int .i64 0, .int .u64 0, .int .u64 0, .int .u64 0, .int .u64 0, .int .u64 0, .int .u64 0, .int .u64 0, .int .u64 0, .int .u64 0, .int .u64 0, .int .u64 0, .int .u64 0, .int .u64 0, .int .u64 0, .int .u64 0, .int .u64 0, .int .u64 0, .int .u64 0, .slice none 0 0] 80)) w.heap.size 80 [.int .u64 0, .int .i64 0, .int .i64 0, .int .i64 0, .int .i64 0, .int .u64 0, .int .u64 0, .int .u64 0, .int .u64 0, .int .u64 0, .int .u64 0, .int .u64 0, .int .u64 0, .int .u64 0, .int .u64 0, .int .u64 0, .int .u64 0, .int .u64 0, .int .u64 0, .int .u64 0, .int .u64 0, .int .u64 0, .int .u64 0, .slice none 0 0]) at HB0
  generalize w.alloc (.cells #[.int .u64 0, .int .i64 0, .int .i64 0, .int .i64 0, .int .i64 0, .int .u64 0, .int .u64 0, .int .u64 0, .int .u64 0, .int .u64 0, .int .u64 0, .int .u64 0, .int .u64 0, .int .u64 0, .int .u64 0, .int .u64 0, .int .u64 0, .int .u64 0, .int .u64 0, .int .u64 0, .int .u64 0, .int .u64 0, .int .u64 0, .slice none 0 0] 80) = W0 at *
  generalize hZ : ([.int .u64 0, .int .i64 0, .int .i64 0, .int .i64 0, .int .i64 0, .int .u64 0, .int .u64 0, .int .u64 0, .int .u64 0, .int .u64 0, .int .u64 0, .int .u64 0, .int .u64 0, .int .u64 0, .int .u64 0, .int .u64 0, .int .u64 0, .int .u64 0, .int .u64 0, .int .u64 0, .int .u64 0, .int .u64 0, .int .u64 0, .slice none 0 0] : List Value) = ZL at HB0
  have HZ := Lib.hid (show ZL.length = 24 by rw [← hZ]; rfl)
  clear hZ
  go_wp2_with fail
  refine (HSP.out W0).mono ?_
  rintro e W1 ⟨he, hx⟩
  have HB := Lib.hid (HB0.out.ext hx)
  have HX := Lib.hid (HX0.out.tr hx)
  clear hx HB0 HX0 HSP
  cases hsp : J.split (bs s) with
  | error n =>
    rw [hsp] at he
    obtain rfl : e = .returned (.tuple #[.slice none 0 0, .int .i64 (n : Int)]) := he
    have hn := split_err hsp
    have hnz : ((n : Int) != 0) = true := by simp; omega
    have hnz2 : ((n : Int) == 0) = false := by simp; omega
    rw [hsp] at HPS
    go_upto_region 3 with (fail)
    have hth : W1.there w.heap.size 0 24 := by
      have h := HB.out.there
      rw [HZ.out] at h
      exact h
    have hput : Blk (W1.setCells w.heap.size 0 stZ) w.heap.size 80 stZ ∧ Ext w (W1.setCells w.heap.size 0 stZ) := ⟨HB.out.put (by rw [HZ.out]; rfl), Ext.setCells (Nat.le_refl _) _ _ _ HX.out⟩
    go_wp2_with (first
      | (refine wpList_val rfl (.agg stZ.toArray) (run_buildSZ _ _ rfl _) ?_)
      | (refine wpList_store_mid rfl _ _ _ rfl w.heap.size 0 stZ.toArray rfl rfl hth rfl (all_oneCell_toArray stZ_one) ?_; rw [List.toList_toArray]; generalize W1.setCells w.heap.size 0 stZ = W9 at *))
    exact ret_cell_tmp rfl hput.1 Tryz.underlying80 rfl rfl rfl rfl ⟨by rw [HPS.out]; exact rfl, hput.2⟩
  | ok l =>
    rw [hsp] at he HPS
    change Hid (K.pst (bs s) = K.pstL l) at HPS
    obtain ⟨A0, c0, rfl, hrd⟩ : ∃ A c, e = .returned (.tuple #[.slice A l.length c, .int .i64 0]) ∧ Rd W1 A (cFs l) := he
    by_cases h4 : l.length = 4
    · match l, h4 with
      | [fa, fb, fc, fd], _ =>
        have hj := J.join_split hsp
        obtain ⟨ad, rfl, _, hc0⟩ := hrd.at_ (j := 0) (u := .string (strOf fa)) rfl
        have hc1 : W1.cell? (ad.add 1) = some (.string (strOf fb)) := by obtain ⟨_, e, _, h⟩ := hrd.at_ (j := 1) (u := .string (strOf fb)) rfl; cases e; exact h
        have hc2 : W1.cell? (ad.add 2) = some (.string (strOf fc)) := by obtain ⟨_, e, _, h⟩ := hrd.at_ (j := 2) (u := .string (strOf fc)) rfl; cases e; exact h
        have hc3 : W1.cell? (ad.add 3) = some (.string (strOf fd)) := by obtain ⟨_, e, _, h⟩ := hrd.at_ (j := 3) (u := .string (strOf fd)) rfl; cases e; exact h
        rw [show ad.add 0 = ad from by simp [Addr.add]] at hc0
        rw [show ad.add 1 = ⟨ad.block, ad.off + 1, none⟩ from by simp [Addr.add]] at hc1
        rw [show ad.add 2 = ⟨ad.block, ad.off + 2, none⟩ from by simp [Addr.add]] at hc2
        rw [show ad.add 3 = ⟨ad.block, ad.off + 3, none⟩ from by simp [Addr.add]] at hc3
        have hlen : fa.length + fb.length + fc.length + fd.length ≤ s.size := by
          have := congrArg List.length hj
          have e1 := esc_ge fa
          have e2 := esc_ge fb
          have e3 := esc_ge fc
          have e4 := esc_ge fd
          have e5 : (bs s).length = s.size := rfl
          simp only [J.join, List.length_cons, List.length_append, List.length_nil] at this
          omega
        have HC := Lib.hid (And.intro hc0 (And.intro hc1 (And.intro hc2 hc3)))
        have HNa := Lib.hid (fun W hg => parse_calls (strOf fa) (by rw [size_strOf]; omega) W hg)
        have HNb := Lib.hid (fun W hr => small_calls (strOf fb) (by rw [size_strOf]; omega) W hr)
        have HNc := Lib.hid (fun W hr => pnum_calls (strOf fc) (by rw [size_strOf]; omega) W hr)
        have HNd := Lib.hid (fun W hg hr => kparse_calls (strOf fd) (by rw [size_strOf]; omega) W hg hr)
        rw [bs_strOf] at HNb HNc HNd
        clear hrd hc1 hc2 hc3 hj hlen hsp
        go_wp2_with fail
        refine (HNa.out _ (HG.out _ HX.out)).mono ?_
        rintro e W2 ⟨he, hx⟩
        obtain ⟨h6, e7, rfl, he7, hc7⟩ := dig_form (p := fa) he
        replace HX := Lib.hid (HX.out.tr hx)
        replace HB := Lib.hid (HB.out.ext hx)
        have hc1 := hx.cell HC.out.2.1
        replace HC := Lib.hid (And.intro (hx.cell HC.out.2.2.1) (hx.cell HC.out.2.2.2))
        clear hx hc0 he
        go_wp2_with fail
        refine (HNb.out _ (HR.out _ HX.out)).mono ?_
        rintro e W3 ⟨⟨w8, e9, rfl, he9, hc9⟩, hx⟩
        replace HX := Lib.hid (HX.out.tr hx)
        replace HB := Lib.hid (HB.out.ext hx)
        have hc2 := hx.cell HC.out.1
        replace HC := Lib.hid (hx.cell HC.out.2)
        clear hx hc1
        go_wp2_with fail
        refine (HNc.out _ (HR.out _ HX.out)).mono ?_
        rintro e W4 ⟨he, hx⟩
        obtain ⟨v10, e11, rfl, he11, hc11⟩ := num_form he
        replace HX := Lib.hid (HX.out.tr hx)
        replace HB := Lib.hid (HB.out.ext hx)
        have hc3 := hx.cell HC.out
        clear hx hc2 he HC
        go_wp2_with fail
        have hW4 : w.heap.size < W4.heap.size := HB.out.lt
        refine (HNd.out _ (HG.out _ HX.out) (HR.out _ HX.out)).mono ?_
        rintro e W5 ⟨he, hx⟩
        obtain ⟨L, e13, rfl, he13, hL21, hL1, hc13⟩ := sig_form he
        replace HX := Lib.hid (HX.out.tr hx)
        replace HB := Lib.hid (HB.out.ext hx)
        clear hx hc3 he HNa HNb HNc HNd HR HG
        go_upto_region 10 with (refine wpList_store_new rfl _ _ _ rfl _ _ L rfl rfl (by rw [hL21]; rfl) (by rw [hL21]; rfl) hL1 ?_; intro W6 hX hB; have HXL := Lib.hid hX; replace HX := Lib.hid (HX.out.tr hX); replace HB := Lib.hid (HB.out.ext hX); have HBL := Lib.hid hB; clear hX hB; generalize W5.heap.size = sb at *)
        have HP4 := Lib.hid (show K.pst (bs s) = match K.pst4 fa fb fc fd with | some s => .ok s | none => .error 2 from HPS.out)
        have hmx := fun W' : World => run_max_int4 (P := Tryz.prog) (w := W') #[26, 26, 26, 26] 26 .i64 .i64 .i64 .i64 e7 e9 e11 e13
        have hm0 : mx4 e7 e9 e11 e13 = 0 → e7 = 0 ∧ e9 = 0 ∧ e11 = 0 ∧ e13 = 0 := fun h => by
          refine Decidable.byContradiction fun hn => mx4_pos he7 he9 he11 he13 ?_ h
          omega
        have HBAD := Lib.hid (fun hb => HP4.out.trans (by rw [st4_bad hc7 hc9 hc11 hc13 hb] : _ = Except.error 2))
        by_cases b1 : mx4 e7 e9 e11 e13 = 0
        · obtain ⟨rfl, rfl, rfl, rfl⟩ := hm0 b1
          obtain ⟨g, A, c, hg1, rfl, hg3, hg4⟩ : ∃ g A c, K.psig fd = some g ∧ L = sgV g.who g.leaf g.one A g.path.length c ∧ Rd W5 A (cDg g.path) ∧ (∀ ad, A = some ad → W4.heap.size ≤ ad.block) := by
            rcases hc13 with h | h
            · exact h.2
            · exact absurd rfl h.1
          have HPG := Lib.hid (show K.pst (bs s) = .ok ⟨h6, w8, v10, g⟩ by
            have k7 : parseH (S.nums fa) = some h6 := by rcases hc7 with h | h; exact h.2; exact absurd rfl h.1
            have k9 : K.small fb = some w8 := by rcases hc9 with h | h; exact h.2; exact absurd rfl h.1
            have k11 : J.pnum fc = .ok v10 := by rcases hc11 with h | h; exact h.2; exact absurd rfl h.1
            rw [HP4.out, K.pst4, k7, k9, k11, hg1])
          have HR2 := Lib.hid (hg3.ext HXL.out)
          clear HBAD HP4 HPS hc7 hc9 hc11 hc13 hm0 he7 he9 he11 he13 hg3 hg1 HXL
          have hi21 : (Tryz.prog.info? 39).map (·.size) = some (sgV g.who g.leaf g.one A g.path.length c).length := by rw [hL21]; rfl
          have hs24 : (stV h6 w8 v10 (sgV g.who g.leaf g.one A g.path.length c)).toArray.size = 24 := by rw [List.size_toArray]; exact stV_len _ _ _ _ hL21
          have hth : W6.there w.heap.size 0 (stV h6 w8 v10 (sgV g.who g.leaf g.one A g.path.length c)).toArray.size := by
            have h := HB.out.there
            rw [HZ.out] at h
            rw [hs24]
            exact h
          have hi24 : (Tryz.prog.info? 80).map (·.size) = some (stV h6 w8 v10 (sgV g.who g.leaf g.one A g.path.length c)).toArray.size := by rw [hs24]; rfl
          have hon := all_oneCell_toArray (stV_one h6 w8 v10 _ hL1)
          have hrg := HBL.out.range
          have hNA : ∀ ad, A = some ad → cDg g.path ≠ [] → ad.block ≠ w.heap.size := fun ad e _ => by have := hg4 ad e; omega
          have HFI := Lib.hid (show Blk (W6.setCells w.heap.size 0 (stV h6 w8 v10 (sgV g.who g.leaf g.one A g.path.length c))) w.heap.size 80 (stV h6 w8 v10 (sgV g.who g.leaf g.one A g.path.length c)) ∧ Rd (W6.setCells w.heap.size 0 (stV h6 w8 v10 (sgV g.who g.leaf g.one A g.path.length c))) A (cDg g.path) ∧ Ext w (W6.setCells w.heap.size 0 (stV h6 w8 v10 (sgV g.who g.leaf g.one A g.path.length c))) from
            ⟨HB.out.put (by rw [HZ.out]; exact stV_len _ _ _ _ hL21), (by
              by_cases h0 : cDg g.path = []
              · exact .inl h0
              · exact Rd.setCellsO (fun ad e => hNA ad e h0) _ _ _ HR2.out), Ext.setCells (Nat.le_refl _) _ _ _ HX.out⟩)
          have HFA := Lib.hid (show ∀ ad, A = some ad → w.heap.size ≤ ad.block from fun ad e => by have := hg4 ad e; omega)
          have HST := Lib.hid (fun f x0 x1 x2 x3 o ho h0 h1 h2 h3 W => run_buildS f x0 x1 x2 x3 o ho h6 w8 v10 (sgV g.who g.leaf g.one A g.path.length c) hL21 h0 h1 h2 h3 W)
          clear HB HBL HR2 hs24 hL1 hNA
          generalize hSV : stV h6 w8 v10 (sgV g.who g.leaf g.one A g.path.length c) = SV at *
          have HSV := Lib.hid hSV
          clear hSV
          generalize hSS : sgV g.who g.leaf g.one A g.path.length c = SS at *
          have HSS := Lib.hid hSS
          clear hSS
          go_wp2_with (first
            | (refine wpList_load_mid rfl _ _ rfl sb 0 rfl SS _ hrg Tryz.underlying39 rfl hi21 ?_)
            | (refine wpList_val rfl (.agg SV.toArray) (HST.out _ _ _ _ _ _ rfl rfl rfl rfl rfl _) ?_)
            | (refine wpList_store_mid rfl _ _ _ rfl w.heap.size 0 SV.toArray rfl rfl hth hi24 hon ?_; rw [List.toList_toArray]; generalize W6.setCells w.heap.size 0 SV = W9 at *))
          exact ret_cell_tmp rfl HFI.out.1 Tryz.underlying80 rfl (by simpa using hi24) rfl rfl ⟨by rw [HPG.out]; exact ⟨A, c, by show _ = Ending.returned (.tuple #[.agg (stV h6 w8 v10 (sgV g.who g.leaf g.one A g.path.length c)).toArray, .int .i64 0]); rw [HSS.out, HSV.out]; rfl, HFI.out.2.1, HFA.out⟩, HFI.out.2.2⟩
        · have HPS2 := Lib.hid (HBAD.out (by
            refine Decidable.byContradiction fun hn => b1 ?_
            have : e7 = 0 ∧ e9 = 0 ∧ e11 = 0 ∧ e13 = 0 := by omega
            rw [this.1, this.2.1, this.2.2.1, this.2.2.2]
            rfl))
          clear HBAD HP4 hc7 hc9 hc11 hc13 hm0 he7 he9 he11 he13 HBL hL1 hL21 HXL HPS
          have HPS := Lib.hid HPS2.out
          clear HPS2
          generalize mx4 e7 e9 e11 e13 = M at *
          have b1b : (M == 0) = false := beq_eq_false_iff_ne.2 b1
          have b1n : (M != 0) = true := by simp [b1]
          go_upto_region 11 with (fail)
          have hth : W6.there w.heap.size 0 24 := by
            have h := HB.out.there
            rw [HZ.out] at h
            exact h
          have hput : Blk (W6.setCells w.heap.size 0 stZ) w.heap.size 80 stZ ∧ Ext w (W6.setCells w.heap.size 0 stZ) := ⟨HB.out.put (by rw [HZ.out]; rfl), Ext.setCells (Nat.le_refl _) _ _ _ HX.out⟩
          go_wp2_with (first
            | (refine wpList_val rfl (.agg stZ.toArray) (run_buildSZ _ _ rfl _) ?_)
            | (refine wpList_store_mid rfl _ _ _ rfl w.heap.size 0 stZ.toArray rfl rfl hth rfl (all_oneCell_toArray stZ_one) ?_; rw [List.toList_toArray]; generalize W6.setCells w.heap.size 0 stZ = W9 at *))
          exact ret_cell_tmp rfl hput.1 Tryz.underlying80 rfl rfl rfl rfl ⟨by rw [HPS.out]; exact rfl, hput.2⟩
    · have h4b : ((l.length : Int) == 4) = false := beq_eq_false_iff_ne.2 (by omega)
      have h4n : ((l.length : Int) != 4) = true := by simp; omega
      have h4i : ¬ ((l.length : Int) = 4) := by omega
      have hbad : K.pstL l = .error 2 := by
        match l, h4 with
        | [], _ => rfl
        | [_], _ => rfl
        | [_, _], _ => rfl
        | [_, _, _], _ => rfl
        | [_, _, _, _], h => exact absurd rfl h
        | _ :: _ :: _ :: _ :: _ :: _, _ => rfl
      rw [hbad] at HPS
      clear hbad
      go_upto_region 5 with (fail)
      have hth : W1.there w.heap.size 0 24 := by
        have h := HB.out.there
        rw [HZ.out] at h
        exact h
      have hput : Blk (W1.setCells w.heap.size 0 stZ) w.heap.size 80 stZ ∧ Ext w (W1.setCells w.heap.size 0 stZ) := ⟨HB.out.put (by rw [HZ.out]; rfl), Ext.setCells (Nat.le_refl _) _ _ _ HX.out⟩
      go_wp2_with (first
        | (refine wpList_val rfl (.agg stZ.toArray) (run_buildSZ _ _ rfl _) ?_)
        | (refine wpList_store_mid rfl _ _ _ rfl w.heap.size 0 stZ.toArray rfl rfl hth rfl (all_oneCell_toArray stZ_one) ?_; rw [List.toList_toArray]; generalize W1.setCells w.heap.size 0 stZ = W9 at *))
      exact ret_cell_tmp rfl hput.1 Tryz.underlying80 rfl rfl rfl rfl ⟨by rw [HPS.out]; exact rfl, hput.2⟩
set_option maxRecDepth 100000 in
set_option maxHeartbeats 4000000 in
theorem ssame_calls (cmd : Nat) (who at_ : Int) (sw leaf : Int) (one : List Nat) (ho : one.length = 18) (hol : ∀ x ∈ one, x < 18446744073709551616) (l : List Nat) (hn : l.length ≤ 100000) (A B : Option Addr) (c d : Nat) (w : World) (hA : Rd w A (cDg l)) (hB : Rd w B (cDg l)) :
    Calls Tryz.prog 58 #[.agg (stV cmd who at_ (sgV sw leaf one A l.length c)).toArray, .agg (stV cmd who at_ (sgV sw leaf one B l.length d)).toArray] w fun e w' => e = .returned (.bool true) ∧ Ext w w' := by
  have b0 := (Blk.new w 80 (stV cmd who at_ (sgV sw leaf one A l.length c))).ext ((Ext.rfl' _).alloc (.cells (stV cmd who at_ (sgV sw leaf one B l.length d)).toArray 80))
  have b1 := Blk.new (w.alloc (.cells (stV cmd who at_ (sgV sw leaf one A l.length c)).toArray 80)) 80 (stV cmd who at_ (sgV sw leaf one B l.length d))
  rw [World.size_alloc] at b1
  have hE := ((Ext.rfl' w).alloc (.cells (stV cmd who at_ (sgV sw leaf one A l.length c)).toArray 80)).alloc (.cells (stV cmd who at_ (sgV sw leaf one B l.length d)).toArray 80)
  have r0 := stV_range b0
  have r1 := stV_range b1
  have c00 := b0.cell (j := 0) (v := cU64 cmd) rfl
  have c01 := b0.cell (j := 1) (v := .int .i64 who) rfl
  have c02 := b0.cell (j := 2) (v := .int .i64 at_) rfl
  have c10 := b1.cell (j := 0) (v := cU64 cmd) rfl
  have c11 := b1.cell (j := 1) (v := .int .i64 who) rfl
  have c12 := b1.cell (j := 2) (v := .int .i64 at_) rfl
  have hA21 := sgV_len sw leaf one ho A l.length c
  have hB21 := sgV_len sw leaf one ho B l.length d
  have hi21 : (Tryz.prog.info? 39).map (·.size) = some (sgV sw leaf one A l.length c).length := by rw [hA21]; rfl
  have hj21 : (Tryz.prog.info? 39).map (·.size) = some (sgV sw leaf one B l.length d).length := by rw [hB21]; rfl
  have HS := Lib.hid (fun W (hx : Ext w W) => same_calls sw leaf one ho hol l hn A B c d W (hA.ext hx) (hB.ext hx))
  have hcc : ((cmd : Int) == (cmd : Int)) = true := by simp
  have hww : (who == who) = true := by simp
  have htt : (at_ == at_) = true := by simp
  clear hA hB b0 b1 hA21 hB21
  generalize stV cmd who at_ (sgV sw leaf one A l.length c) = SVA at *
  generalize stV cmd who at_ (sgV sw leaf one B l.length d) = SVB at *
  generalize sgV sw leaf one A l.length c = SA at *
  generalize sgV sw leaf one B l.length d = SB at *
  go_enter Tryz.func58, Tryz.ntmps58
  go_upto_region 1 with (fail)
  generalize (w.alloc (.cells SVA.toArray 80)).alloc (.cells SVB.toArray 80) = W1 at *
  go_wp2_with (first
    | (refine wpList_load_midw (by rfl) _ _ rfl w.heap.size 3 rfl SA _ r0 Tryz.underlying39 rfl hi21 ?_)
    | (refine wpList_load_midw (by rfl) _ _ rfl (w.heap.size + 1) 3 rfl SB _ r1 Tryz.underlying39 rfl hj21 ?_))
  refine (HS.out _ hE).mono ?_
  rintro e W2 ⟨rfl, hx⟩
  have HX := Lib.hid (Ext.tr hE hx)
  clear hx r0 r1 c00 c01 c02 c10 c11 c12 hE HS
  go_wp2
  go_ret
  exact ⟨rfl, HX.out⟩
set_option maxRecDepth 100000 in
set_option maxHeartbeats 4000000 in
theorem ssame_at (cmd : Nat) (who at_ bt : Int) (hne : at_ ≠ bt) (SA SB : List Value) (w : World) :
    Calls Tryz.prog 58 #[.agg (stV cmd who at_ SA).toArray, .agg (stV cmd who bt SB).toArray] w fun e w' => e = .returned (.bool false) ∧ Ext w w' := by
  have b0 := (Blk.new w 80 (stV cmd who at_ SA)).ext ((Ext.rfl' _).alloc (.cells (stV cmd who bt SB).toArray 80))
  have b1 := Blk.new (w.alloc (.cells (stV cmd who at_ SA).toArray 80)) 80 (stV cmd who bt SB)
  rw [World.size_alloc] at b1
  have hE := ((Ext.rfl' w).alloc (.cells (stV cmd who at_ SA).toArray 80)).alloc (.cells (stV cmd who bt SB).toArray 80)
  have c00 := b0.cell (j := 0) (v := cU64 cmd) rfl
  have c01 := b0.cell (j := 1) (v := .int .i64 who) rfl
  have c02 := b0.cell (j := 2) (v := .int .i64 at_) rfl
  have c10 := b1.cell (j := 0) (v := cU64 cmd) rfl
  have c11 := b1.cell (j := 1) (v := .int .i64 who) rfl
  have c12 := b1.cell (j := 2) (v := .int .i64 bt) rfl
  have hcc : ((cmd : Int) == (cmd : Int)) = true := by simp
  have hww : (who == who) = true := by simp
  have htt : (at_ == bt) = false := beq_eq_false_iff_ne.2 hne
  clear b0 b1
  generalize stV cmd who at_ SA = SVA at *
  generalize stV cmd who bt SB = SVB at *
  go_enter Tryz.func58, Tryz.ntmps58
  go_upto_region 1 with (fail)
  generalize (w.alloc (.cells SVA.toArray 80)).alloc (.cells SVB.toArray 80) = W1 at *
  go_wp2
  go_ret
  exact ⟨rfl, hE⟩
end Go.Proofs.YtbbgmlnfpnomiaaGreatDoor
