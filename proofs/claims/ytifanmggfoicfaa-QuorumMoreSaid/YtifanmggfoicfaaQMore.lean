/- The walk of the law QuorumMore. -/
import Derived.Test.YtifanmggfoicfaaQEdges
import Derived.Test.YtifanmggfoicfaaApp
import Derived.Test.YtifanmggfoicfaaQAny
import Derived.Deep.DeepCutAuto
set_option linter.unusedVariables false
set_option linter.unusedSimpArgs false
namespace Go.Proofs.Ytifanmggfoicfaa
open Go.RowKit Go.Shelf Go.Sort
theorem dst_twice (a : List Int) : dst (a ++ a) = dst a :=
  rising_ext (dst_props _).1 (dst_props _).1 fun x => by rw [(dst_props _).2, (dst_props _).2]; simp
theorem enough_twice (f : Int) (a : List Int) : enoughB f (a ++ a) = enoughB f a := by unfold enoughB; rw [dst_twice]
theorem dst_nodup (a : List Int) : (dst a).Nodup := (dst_props a).1.imp (fun h => by omega)
theorem enough_mono (f : Int) (a b : List Int) (h : enoughB f a = true) : enoughB f (a ++ b) = true := by
  unfold enoughB at *
  have h1 : 2 * f + 1 ≤ (((dst a).filter fun x => !outR f x).length : Int) := by simpa using h
  have h2 : ((dst a).filter fun x => !outR f x).length ≤ ((dst (a ++ b)).filter fun x => !outR f x).length := by
    refine List.Nodup.length_le_of_subset ((dst_nodup a).sublist List.filter_sublist) fun x hx => ?_
    rw [List.mem_filter] at hx ⊢
    refine ⟨?_, hx.2⟩
    rw [(dst_props _).2, List.mem_append]
    exact .inl ((dst_props a).2 x |>.1 hx.1)
  simp
  omega
theorem common_mem (a b : List Int) (x : Int) : x ∈ common a b ↔ x ∈ a ∧ x ∈ b := by
  unfold common
  rw [List.mem_filter, (dst_props a).2]
  simp
theorem common_rising (a b : List Int) : (common a b).Pairwise (· < ·) := (dst_props a).1.filter _
theorem common_comm (a b : List Int) : common a b = common b a :=
  rising_ext (common_rising a b) (common_rising b a) fun x => by rw [common_mem, common_mem]; exact And.comm
theorem common_len (a b : List Int) : (dst (a ++ b)).length + (common a b).length = (dst a).length + (dst b).length := by
  have e1 : (dst (a ++ b)).Perm (dst a ++ (dst b).filter fun x => !a.contains x) := by
    refine (List.perm_ext_iff_of_nodup (dst_nodup _) ?_).2 fun x => ?_
    · rw [List.nodup_append]
      refine ⟨dst_nodup a, (dst_nodup b).sublist List.filter_sublist, fun x hx y hy e => ?_⟩
      subst e
      rw [List.mem_filter] at hy
      have h1 := (dst_props a).2 x |>.1 hx
      simp [h1] at hy
    · rw [(dst_props _).2, List.mem_append, List.mem_append, List.mem_filter, (dst_props a).2, (dst_props b).2]
      by_cases h : x ∈ a <;> simp [h]
  have e2 : (common a b).length = ((dst b).filter fun x => a.contains x).length := by
    rw [common_comm]
    rfl
  have e3 := List.length_eq_countP_add_countP (fun x => a.contains x) (l := dst b)
  rw [List.countP_eq_length_filter, List.countP_eq_length_filter] at e3
  have e4 : (dst b).filter (fun x => !a.contains x) = (dst b).filter (fun x => decide ¬ (a.contains x) = true) := by
    congr 1
    funext x
    cases a.contains x <;> rfl
  rw [← e4] at e3
  rw [e1.length_eq, List.length_append, e2]
  omega
theorem dst_up (a : List Int) (k : Nat) (h : k + 1 < (dst a).length) : (dst a)[k]'(by omega) < (dst a)[k + 1] :=
  List.pairwise_iff_getElem.1 (dst_props a).1 k (k + 1) (by omega) h (by omega)
set_option maxRecDepth 100000 in
set_option maxHeartbeats 4000000 in
theorem more_long (f : Int) (hf0 : 0 ≤ f) (hf1 : f ≤ 255) (a : List Int) (A : Option Addr) (c : Nat) (b : List Int) (B : Option Addr) (d : Nat) (h : 40 < a.length ∨ 40 < b.length) (w : World) (ha : a.length ≤ maxLen) (hb : b.length ≤ maxLen) :
    Calls Try.prog 8 #[.int .u8 f, .slice A a.length c, .slice B b.length d] w fun e w' => e = .returned (.bool true) ∧ Ext w w' := by
  have HK := Lib.hid (known6_calls w)
  unfold maxLen at ha hb
  by_cases h1 : 40 < a.length
  · go_enter Try.func8, Try.ntmps8
    go_wp2_with fail
    refine HK.out.mono ?_
    rintro e w1 ⟨rfl, hx⟩
    have HX := Lib.hid hx
    clear hx
    go_wp2
    go_ret
    exact ⟨rfl, HX.out⟩
  · have h2 : 40 < b.length := by omega
    go_enter Try.func8, Try.ntmps8
    go_wp2_with fail
    refine HK.out.mono ?_
    rintro e w1 ⟨rfl, hx⟩
    have HX := Lib.hid hx
    clear hx
    go_wp2
    go_ret
    exact ⟨rfl, HX.out⟩
set_option maxRecDepth 100000 in
set_option maxHeartbeats 4000000 in
theorem more_walk (f : Int) (hf0 : 0 ≤ f) (hf1 : f ≤ 255) (a : List Int) (A : Option Addr) (c : Nat) (b : List Int) (B : Option Addr) (d : Nat) (ha : a.length ≤ 40) (hb : b.length ≤ 40) (hAz : A = none → c = 0) (hBz : B = none → d = 0) (w : World) (hA : Rd w A (cIs a)) (hB : Rd w B (cIs b)) :
    Calls Try.prog 8 #[.int .u8 f, .slice A a.length c, .slice B b.length d] w fun e w' => e = .returned (.bool true) ∧ Ext w w' := by
  obtain ⟨i0, hi, hz0, hz1, hz2⟩ := info_parts bInt
  have HK := Lib.hid (known6_calls w)
  have HA := Lib.hid hA
  have HB := Lib.hid hB
  have HAZ := Lib.hid hAz
  have HBZ := Lib.hid hBz
  have one : ∀ (l : List Int), ∀ u ∈ cIs l, u.oneCell' = true := fun l u hu => by obtain ⟨y, _, rfl⟩ := List.mem_map.1 hu; rfl
  have HONE := Lib.hid one
  clear hA hB hAz hBz one
  go_enter Try.func8, Try.ntmps8
  go_wp2_with fail
  refine HK.out.mono ?_
  rintro e w1 ⟨rfl, hx⟩
  have HX1 := Lib.hid hx
  clear hx HK
  have hX2 := (Ext.rfl' w1).alloc (.cells #[.int .i64 (1 + f % 3)] tConf)
  have hB1 := Boxed.new w1 tConf (.int .i64 (1 + f % 3))
  have HX2 := Lib.hid (HX1.out.tr hX2)
  have HB1 := Lib.hid hB1
  clear hX2 hB1
  go_upto_region 6 with (fail)
  generalize w1.alloc (.cells #[.int .i64 (1 + f % 3)] tConf) = W0 at *
  have HOp := Lib.hid (World.ownsRow_made (e := 3) (size := 1) (base := W0.heap.size) W0 #[] 0 (Nat.le_refl _) (by decide) rfl)
  have HE0 := Lib.hid (Ext.rfl' W0)
  go_upto_region 7 with (at_builtin; first | (refine wpList_append_rd rfl _ _ tIs rfl W0.heap.size 3 i0 (.int .i64 0) 1 8 Try.underlying100 hi hz0 hz1 hz2 rfl (by decide) _ a.length (cIs a) rfl HOp1.out B b.length d (cIs b) rfl (by simp [cIs]) (HB.out.ext (HX2.out.tr HEp1.out)) HBZ.out (HONE.out b) (by unfold maxLen; omega) (by omega) (HEp1.out.size) ?_; intro vp2 wp2 hownp2 hgrowp2 hatp2; have HEp2 := Lib.hid (show Ext W0 wp2 from HEp1.out.grown hgrowp2 HEp1.out.size (fun q hq => (HOp1.out.lt q hq).1)); have HOp2 := Lib.hid (show wp2.ownsRow W0.heap.size 3 1 vp2 (a ++ b).length (cIs (a ++ b)) by simpa [cIs] using hownp2); obtain ⟨AAp, ccp, rfl, hrrp⟩ := rd_of_own HOp2.out; have HRRp := Lib.hid hrrp; clear hownp2 hgrowp2 hatp2 hrrp) | (refine wpList_append_rd rfl _ _ tIs rfl W0.heap.size 3 i0 (.int .i64 0) 1 8 Try.underlying100 hi hz0 hz1 hz2 rfl (by decide) _ 0 [] rfl HOp.out A a.length c (cIs a) rfl (by simp [cIs]) (HA.out.ext ((HX2.out.tr HE0.out).alloc _)) HAZ.out (HONE.out a) (by unfold maxLen; omega) (by omega) ((HE0.out.alloc _).size) ?_; intro vp1 wp1 hownp1 hgrowp1 hatp1; have HEp1 := Lib.hid (show Ext W0 wp1 from (HE0.out.alloc _).grown hgrowp1 (HE0.out.alloc _).size (fun q hq => (HOp.out.lt q hq).1)); have HOp1 := Lib.hid (show wp1.ownsRow W0.heap.size 3 1 vp1 a.length (cIs a) by simpa using hownp1); clear hownp1 hgrowp1 hatp1))
  have HOq := Lib.hid (World.ownsRow_made (e := 3) (size := 1) (base := wp2.heap.size) wp2 #[] 0 (Nat.le_refl _) (by decide) rfl)
  have HEq := Lib.hid (Ext.rfl' wp2)
  have HXp := Lib.hid (HX2.out.tr HEp2.out)
  go_upto_region 8 with (at_builtin; first | (refine wpList_append_rd rfl _ _ tIs rfl wp2.heap.size 3 i0 (.int .i64 0) 1 8 Try.underlying100 hi hz0 hz1 hz2 rfl (by decide) _ a.length (cIs a) rfl HOq1.out A a.length c (cIs a) rfl (by simp [cIs]) (HA.out.ext (HXp.out.tr HEq1.out)) HAZ.out (HONE.out a) (by unfold maxLen; omega) (by omega) (HEq1.out.size) ?_; intro vq2 wq2 hownq2 hgrowq2 hatq2; have HEq2 := Lib.hid (show Ext wp2 wq2 from HEq1.out.grown hgrowq2 HEq1.out.size (fun q hq => (HOq1.out.lt q hq).1)); have HOq2 := Lib.hid (show wq2.ownsRow wp2.heap.size 3 1 vq2 (a ++ a).length (cIs (a ++ a)) by simpa [cIs] using hownq2); obtain ⟨AAq, ccq, rfl, hrrq⟩ := rd_of_own HOq2.out; have HRRq := Lib.hid hrrq; clear hownq2 hgrowq2 hatq2 hrrq) | (refine wpList_append_rd rfl _ _ tIs rfl wp2.heap.size 3 i0 (.int .i64 0) 1 8 Try.underlying100 hi hz0 hz1 hz2 rfl (by decide) _ 0 [] rfl HOq.out A a.length c (cIs a) rfl (by simp [cIs]) (HA.out.ext (HXp.out.alloc _)) HAZ.out (HONE.out a) (by unfold maxLen; omega) (by omega) ((HEq.out.alloc _).size) ?_; intro vq1 wq1 hownq1 hgrowq1 hatq1; have HEq1 := Lib.hid (show Ext wp2 wq1 from (HEq.out.alloc _).grown hgrowq1 (HEq.out.alloc _).size (fun q hq => (HOq.out.lt q hq).1)); have HOq1 := Lib.hid (show wq1.ownsRow wp2.heap.size 3 1 vq1 a.length (cIs a) by simpa using hownq1); clear hownq1 hgrowq1 hatq1))
  have HXq := Lib.hid (HXp.out.tr HEq2.out)
  have HBC := Lib.hid (fun W (hx : Ext wq2 W) => (box_ext HB1.out ((HEp2.out.tr HEq2.out).tr hx)).cell)
  have hla : a.length ≤ 1099511627776 := by omega
  have hlb : b.length ≤ 1099511627776 := by omega
  have hlp : (a ++ b).length ≤ 1099511627776 := by rw [List.length_append]; omega
  have hlq : (a ++ a).length ≤ 1099511627776 := by rw [List.length_append]; omega
  have HRA := Lib.hid (fun W (hx : Ext wq2 W) => HA.out.ext (HXq.out.tr hx))
  have HRB := Lib.hid (fun W (hx : Ext wq2 W) => HB.out.ext (HXq.out.tr hx))
  have HRP := Lib.hid (fun W (hx : Ext wq2 W) => HRRp.out.ext (HEq2.out.tr hx))
  have HRQ := Lib.hid (fun W (hx : Ext wq2 W) => HRRq.out.ext hx)
  have HEA := Lib.hid (fun W (hx : Ext wq2 W) => enough_calls (1 + f % 3) (by omega) (by omega) a A c hla W (HRA.out W hx))
  have HEP := Lib.hid (fun W (hx : Ext wq2 W) => by have := enough_calls (1 + f % 3) (by omega) (by omega) (a ++ b) AAp ccp hlp W (HRP.out W hx); rwa [List.length_append] at this)
  have HEQ := Lib.hid (fun W (hx : Ext wq2 W) => by have := enough_calls (1 + f % 3) (by omega) (by omega) (a ++ a) AAq ccq hlq W (HRQ.out W hx); rwa [List.length_append] at this)
  have HDP := Lib.hid (fun W (hx : Ext wq2 W) => by have := distinct_calls (a ++ b) AAp ccp hlp W (HRP.out W hx); rwa [List.length_append] at this)
  have HDA := Lib.hid (fun W (hx : Ext wq2 W) => distinct_calls a A c hla W (HRA.out W hx))
  have HDB := Lib.hid (fun W (hx : Ext wq2 W) => distinct_calls b B d hlb W (HRB.out W hx))
  have HCA := Lib.hid (fun W (hx : Ext wq2 W) => common_calls a A c b B d hla hlb W (HRA.out W hx) (HRB.out W hx))
  have HCB := Lib.hid (fun W (hx : Ext wq2 W) => common_calls b B d a A c hlb hla W (HRB.out W hx) (HRA.out W hx))
  unfold confV at HEA HEP HEQ
  have HMONO := Lib.hid (enough_mono (1 + f % 3) a b)
  rw [enough_twice] at HEQ
  rw [common_comm b a] at HCB
  have HLEN := Lib.hid (common_len a b)
  have HLDP := Lib.hid (dst_len (a ++ b))
  have HLDA := Lib.hid (dst_len a)
  have HLDB := Lib.hid (dst_len b)
  have HUP := Lib.hid (dst_up (a ++ b))
  have held2 : ∀ {W : World}, (W.cell? ⟨w1.heap.size, 0, none⟩ = some (.int .i64 (1 + f % 3)) ∧ Ext wq2 W) → Ext wq2 W := fun h => h.2
  by_cases hE : enoughB (1 + f % 3) a = true
  · have hE2 := HMONO.out hE
    rw [hE] at HEA HEQ
    rw [hE2] at HEP
    clear hE hE2 HMONO
    go_region_held3 (fun w' => w'.cell? ⟨w1.heap.size, 0, none⟩ = some (.int .i64 (1 + f % 3)) ∧ Ext wq2 w')
      (first | exact ⟨HBC.out _ (Ext.rfl' wq2).drew, (Ext.rfl' wq2).drew⟩ | exact ⟨HBC.out _ hE1, hE1⟩)
      (first
        | (go_at_call 34; have hE0 := held2 (by assumption); with_reducible refine (HEA.out _ hE0).mono ?_; rintro e we ⟨rfl, hxx⟩; have hE1 := hE0.tr hxx)
        | (go_at_call 34; have hE0 := held2 (by assumption); with_reducible refine (HEP.out _ hE0).mono ?_; rintro e we ⟨rfl, hxx⟩; have hE1 := hE0.tr hxx)
        | (go_at_call 34; have hE0 := held2 (by assumption); with_reducible refine (HEQ.out _ hE0).mono ?_; rintro e we ⟨rfl, hxx⟩; have hE1 := hE0.tr hxx))
    have HE3 := Lib.hid hE1
    clear hE1
    go_wp2_with fail
    with_reducible refine (HDP.out _ HE3.out).mono ?_
    rintro e w4 ⟨⟨vd, rfl, hownd⟩, hx4⟩
    obtain ⟨Ad, cd, rfl, hrd⟩ := rd_of_own hownd
    have HRD := Lib.hid (fun W (hx : Ext w4 W) => hrd.ext hx)
    have HE4 := Lib.hid (HE3.out.tr hx4)
    clear hrd hownd hx4 HE3
    have hD0 : (dst (a ++ b)).length ≤ 80 := by have := HLDP.out; rw [List.length_append] at this; omega
    go_wp2_with fail
    go_loopw [11] (fun i wr => ∃ k : Nat, 1 ≤ k ∧ (k ≤ (dst (a ++ b)).length ∨ k = 1) ∧ i = .int .i64 k ∧ Ext w4 wr) (fun i _ => (dst (a ++ b)).length + 1 - (intOf i).toNat)
    case atStart => exact ⟨1, Nat.le_refl _, .inr rfl, rfl, Ext.rfl' _⟩
    case round =>
      obtain ⟨k, hk1, hk, rfl, hX⟩ := hrel
      have hk80 : k ≤ 81 := by omega
      by_cases hlt : k < (dst (a ++ b)).length
      · have hlt2 : k - 1 < (dst (a ++ b)).length := by omega
        obtain ⟨ad, rfl, _, c1⟩ := (HRD.out _ hX).at_ (j := k) (u := .int .i64 (dst (a ++ b))[k]) (by simp [hlt])
        obtain ⟨ad2, had2, _, c2⟩ := (HRD.out _ hX).at_ (j := k - 1) (u := .int .i64 (dst (a ++ b))[k - 1]) (by simp [hlt2])
        obtain rfl : ad = ad2 := Option.some.inj had2
        have h1 : ((dst (a ++ b))[k] ≤ (dst (a ++ b))[k - 1]) = False := by
          have := HUP.out (k - 1) (by omega)
          simp only [show k - 1 + 1 = k by omega] at this
          simp; omega
        have hcast : ((k - 1 : Nat) : Int) = (k : Int) - 1 := by omega
        generalize (dst (a ++ b))[k] = x at *
        generalize (dst (a ++ b))[k - 1] = y at *
        have HX := Lib.hid hX
        clear hX
        go_wp2
        go_quiet (fail)
        go_wp2
        go_roundw
        case rel => exact ⟨k + 1, by omega, .inl (by omega), by go_num, HX.out.drewN _⟩
        case measure => simp [intOf]; omega
      · have HE5 := Lib.hid (HE4.out.tr hX)
        have hge : (dst (a ++ b)).length ≤ k := by omega
        clear hX hk
        have hs1 : IntKind.i64.wrap (((dst a).length : Int) + (dst b).length) = (dst a).length + (dst b).length := by have := HLDA.out; have := HLDB.out; rw [IntKind.wrap_i64]; omega
        have hs2 : IntKind.i64.wrap (((dst a).length : Int) + (dst b).length - (dst (a ++ b)).length) = (common a b).length := by have := HLEN.out; have := HLDA.out; have := HLDB.out; rw [IntKind.wrap_i64]; omega
        have hcl : (common a b).length ≤ 40 := by have := HLEN.out; have := HLDA.out; have := List.length_filter_le (fun x => b.contains x) (dst a); unfold common; omega
        have hs3 : (((common a b).length : Int) == (common a b).length) = true := by simp
        go_wp2_with fail
        with_reducible refine (HCA.out _ HE5.out).mono ?_
        rintro e w6 ⟨⟨v6, rfl, hown6⟩, hx6⟩
        obtain ⟨A6, c6, rfl, _⟩ := rd_of_own hown6
        have HE6 := Lib.hid (HE5.out.tr hx6)
        clear hown6 hx6
        go_wp2_with fail
        with_reducible refine (HDA.out _ HE6.out).mono ?_
        rintro e w7 ⟨⟨v7, rfl, hown7⟩, hx7⟩
        obtain ⟨A7, c7, rfl, _⟩ := rd_of_own hown7
        have HE7 := Lib.hid (HE6.out.tr hx7)
        clear hown7 hx7
        go_wp2_with fail
        with_reducible refine (HDB.out _ HE7.out).mono ?_
        rintro e w8 ⟨⟨v8, rfl, hown8⟩, hx8⟩
        obtain ⟨A8, c8, rfl, _⟩ := rd_of_own hown8
        have HE8 := Lib.hid (HE7.out.tr hx8)
        clear hown8 hx8
        go_wp2_with fail
        with_reducible refine (HCA.out _ HE8.out).mono ?_
        rintro e w9 ⟨⟨v9, rfl, hown9⟩, hx9⟩
        obtain ⟨A9, c9, rfl, hr9⟩ := rd_of_own hown9
        have HE9 := Lib.hid (HE8.out.tr hx9)
        have HR9 := Lib.hid hr9
        clear hown9 hx9 hr9
        go_wp2_with fail
        with_reducible refine (HCB.out _ HE9.out).mono ?_
        rintro e w10 ⟨⟨v10, rfl, hown10⟩, hx10⟩
        obtain ⟨A10, c10, rfl, hr10⟩ := rd_of_own hown10
        have HE10 := Lib.hid (HE9.out.tr hx10)
        have HI := Lib.hid (ints_calls (common a b) A9 c9 (common a b) A10 c10 (by omega) (by omega) w10 (HR9.out.ext hx10) hr10)
        rw [alike_rfl] at HI
        clear hown10 hx10 hr10
        go_wp2_with fail
        refine HI.out.mono ?_
        rintro e w11 ⟨rfl, hx11⟩
        have HE11 := Lib.hid (HXq.out.tr (HE10.out.tr hx11))
        clear hx11
        go_wp2
        go_ret
        exact ⟨ret_bool (by first | rfl | simp), HE11.out⟩
  · replace hE : enoughB (1 + f % 3) a = false := by simpa using hE
    rw [hE] at HEA HEQ
    clear hE HMONO
    refine wp_region_held_drew (S := (fun w' => w'.cell? ⟨w1.heap.size, 0, none⟩ = some (.int .i64 (1 + f % 3)) ∧ Ext wq2 w')) (by kernel_rfl) (by (try dsimp only); (first | exact ⟨HBC.out _ hE1, hE1⟩ | exact ⟨HBC.out _ (Ext.rfl' wq2).drew, (Ext.rfl' wq2).drew⟩)) (fun hHeld => ?_)
    refine wpAnyH_take (i := 0) (v := ?_) (by first | (simp only [List.getElem?_toArray, List.getElem?_cons_zero, List.getElem?_cons_succ]; done) | (simp only [List.getElem?_toArray, List.getElem?_cons_zero, List.getElem?_cons_succ]; rfl)) (by kernel_rfl) (by kernel_rfl) (by kernel_rfl) (by exact fun _ _ _ h => h) (Or.inl ⟨by rfl, ?hy0⟩) (by assumption) ?_
    case hy0 => (intro w hSw; (try dsimp only at hSw); go_simp; try with_reducible rfl)
    try simp only [Act.put, List.setIfInBounds_toArray, List.set_cons_zero, List.set_cons_succ]
    refine wpAnyH_take (i := 1) (v := ?_) (by first | (simp only [List.getElem?_toArray, List.getElem?_cons_zero, List.getElem?_cons_succ]; done) | (simp only [List.getElem?_toArray, List.getElem?_cons_zero, List.getElem?_cons_succ]; rfl)) (by kernel_rfl) (by kernel_rfl) (by kernel_rfl) (by exact fun _ _ _ h => h) (Or.inl ⟨by rfl, ?hy1⟩) (by assumption) ?_
    case hy1 => (intro w hSw; (try dsimp only at hSw); go_simp; try with_reducible rfl)
    try simp only [Act.put, List.setIfInBounds_toArray, List.set_cons_zero, List.set_cons_succ]
    refine wpAnyH_ready (rs := [2]) (by kernel_rfl) (by simp) ?_
    refine AllReadyH.cons (by first | (simp only [List.getElem?_toArray, List.getElem?_cons_zero, List.getElem?_cons_succ]; done) | (simp only [List.getElem?_toArray, List.getElem?_cons_zero, List.getElem?_cons_succ]; rfl)) (fun K hK => ?_) AllReadyH.nil
    go_simp
    (go_at_call 34; have hE0 := held2 (by assumption); with_reducible refine (HEA.out _ hE0).mono ?_; rintro e we ⟨rfl, hxx⟩; have hE1 := hE0.tr hxx)
    try (go_wp2_with fail)
    refine hK.out _ _ (by (try dsimp only); (first | exact ⟨HBC.out _ hE1, hE1⟩ | exact ⟨HBC.out _ (Ext.rfl' wq2).drew, (Ext.rfl' wq2).drew⟩)) (fun hHeld => ?_)
    clear hK K
    try simp only [Act.put, List.setIfInBounds_toArray, List.set_cons_zero, List.set_cons_succ]
    refine wpAnyH_take (i := 3) (v := ?_) (by first | (simp only [List.getElem?_toArray, List.getElem?_cons_zero, List.getElem?_cons_succ]; done) | (simp only [List.getElem?_toArray, List.getElem?_cons_zero, List.getElem?_cons_succ]; rfl)) (by kernel_rfl) (by kernel_rfl) (by kernel_rfl) (by exact fun _ _ _ h => h) (Or.inl ⟨by rfl, ?hy3⟩) (by assumption) ?_
    case hy3 => (intro w hSw; (try dsimp only at hSw); go_simp; try with_reducible rfl)
    try simp only [Act.put, List.setIfInBounds_toArray, List.set_cons_zero, List.set_cons_succ]
    refine wpAnyH_take (i := 4) (v := undef) (by first | (simp only [List.getElem?_toArray, List.getElem?_cons_zero, List.getElem?_cons_succ]; done) | (simp only [List.getElem?_toArray, List.getElem?_cons_zero, List.getElem?_cons_succ]; rfl)) (by kernel_rfl) (by kernel_rfl) (by kernel_rfl) (by exact fun _ _ _ h => h) (Or.inr ⟨by rfl, rfl⟩) (by assumption) ?_
    try simp only [Act.put, List.setIfInBounds_toArray, List.set_cons_zero, List.set_cons_succ]
    refine wpAnyH_take (i := 5) (v := undef) (by first | (simp only [List.getElem?_toArray, List.getElem?_cons_zero, List.getElem?_cons_succ]; done) | (simp only [List.getElem?_toArray, List.getElem?_cons_zero, List.getElem?_cons_succ]; rfl)) (by kernel_rfl) (by kernel_rfl) (by kernel_rfl) (by exact fun _ _ _ h => h) (Or.inr ⟨by rfl, rfl⟩) (by assumption) ?_
    try simp only [Act.put, List.setIfInBounds_toArray, List.set_cons_zero, List.set_cons_succ]
    refine wpAnyH_take (i := 6) (v := undef) (by first | (simp only [List.getElem?_toArray, List.getElem?_cons_zero, List.getElem?_cons_succ]; done) | (simp only [List.getElem?_toArray, List.getElem?_cons_zero, List.getElem?_cons_succ]; rfl)) (by kernel_rfl) (by kernel_rfl) (by kernel_rfl) (by exact fun _ _ _ h => h) (Or.inr ⟨by rfl, rfl⟩) (by assumption) ?_
    try simp only [Act.put, List.setIfInBounds_toArray, List.set_cons_zero, List.set_cons_succ]
    refine wpAnyH_take (i := 7) (v := undef) (by first | (simp only [List.getElem?_toArray, List.getElem?_cons_zero, List.getElem?_cons_succ]; done) | (simp only [List.getElem?_toArray, List.getElem?_cons_zero, List.getElem?_cons_succ]; rfl)) (by kernel_rfl) (by kernel_rfl) (by kernel_rfl) (by exact fun _ _ _ h => h) (Or.inr ⟨by rfl, rfl⟩) (by assumption) ?_
    try simp only [Act.put, List.setIfInBounds_toArray, List.set_cons_zero, List.set_cons_succ]
    refine wpAnyH_take (i := 8) (v := ?_) (by first | (simp only [List.getElem?_toArray, List.getElem?_cons_zero, List.getElem?_cons_succ]; done) | (simp only [List.getElem?_toArray, List.getElem?_cons_zero, List.getElem?_cons_succ]; rfl)) (by kernel_rfl) (by kernel_rfl) (by kernel_rfl) (by exact fun _ _ _ h => h) (Or.inl ⟨by rfl, ?hy8⟩) (by assumption) ?_
    case hy8 => (intro w hSw; (try dsimp only at hSw); go_simp; try with_reducible rfl)
    try simp only [Act.put, List.setIfInBounds_toArray, List.set_cons_zero, List.set_cons_succ]
    refine wpAnyH_take (i := 9) (v := ?_) (by first | (simp only [List.getElem?_toArray, List.getElem?_cons_zero, List.getElem?_cons_succ]; done) | (simp only [List.getElem?_toArray, List.getElem?_cons_zero, List.getElem?_cons_succ]; rfl)) (by kernel_rfl) (by kernel_rfl) (by kernel_rfl) (by exact fun _ _ _ h => h) (Or.inl ⟨by rfl, ?hy9⟩) (by assumption) ?_
    case hy9 => (intro w hSw; (try dsimp only at hSw); go_simp; try with_reducible rfl)
    try simp only [Act.put, List.setIfInBounds_toArray, List.set_cons_zero, List.set_cons_succ]
    refine wpAnyH_take (i := 10) (v := ?_) (by first | (simp only [List.getElem?_toArray, List.getElem?_cons_zero, List.getElem?_cons_succ]; done) | (simp only [List.getElem?_toArray, List.getElem?_cons_zero, List.getElem?_cons_succ]; rfl)) (by kernel_rfl) (by kernel_rfl) (by kernel_rfl) (by exact fun _ _ _ h => h) (Or.inl ⟨by rfl, ?hy10⟩) (by assumption) ?_
    case hy10 => (intro w hSw; (try dsimp only at hSw); go_simp; try with_reducible rfl)
    try simp only [Act.put, List.setIfInBounds_toArray, List.set_cons_zero, List.set_cons_succ]
    refine wpAnyH_take (i := 11) (v := ?_) (by first | (simp only [List.getElem?_toArray, List.getElem?_cons_zero, List.getElem?_cons_succ]; done) | (simp only [List.getElem?_toArray, List.getElem?_cons_zero, List.getElem?_cons_succ]; rfl)) (by kernel_rfl) (by kernel_rfl) (by kernel_rfl) (by exact fun _ _ _ h => h) (Or.inl ⟨by rfl, ?hy11⟩) (by assumption) ?_
    case hy11 => (intro w hSw; (try dsimp only at hSw); go_simp; try with_reducible rfl)
    try simp only [Act.put, List.setIfInBounds_toArray, List.set_cons_zero, List.set_cons_succ]
    refine wpAnyH_take (i := 13) (v := ?_) (by first | (simp only [List.getElem?_toArray, List.getElem?_cons_zero, List.getElem?_cons_succ]; done) | (simp only [List.getElem?_toArray, List.getElem?_cons_zero, List.getElem?_cons_succ]; rfl)) (by kernel_rfl) (by kernel_rfl) (by kernel_rfl) (by exact fun _ _ _ h => h) (Or.inl ⟨by rfl, ?hy13⟩) (by assumption) ?_
    case hy13 => (intro w hSw; (try dsimp only at hSw); go_simp; try with_reducible rfl)
    try simp only [Act.put, List.setIfInBounds_toArray, List.set_cons_zero, List.set_cons_succ]
    refine wpAnyH_take (i := 14) (v := ?_) (by first | (simp only [List.getElem?_toArray, List.getElem?_cons_zero, List.getElem?_cons_succ]; done) | (simp only [List.getElem?_toArray, List.getElem?_cons_zero, List.getElem?_cons_succ]; rfl)) (by kernel_rfl) (by kernel_rfl) (by kernel_rfl) (by exact fun _ _ _ h => h) (Or.inl ⟨by rfl, ?hy14⟩) (by assumption) ?_
    case hy14 => (intro w hSw; (try dsimp only at hSw); go_simp; try with_reducible rfl)
    try simp only [Act.put, List.setIfInBounds_toArray, List.set_cons_zero, List.set_cons_succ]
    refine wpAnyH_ready (rs := [12]) (by kernel_rfl) (by simp) ?_
    refine AllReadyH.cons (by first | (simp only [List.getElem?_toArray, List.getElem?_cons_zero, List.getElem?_cons_succ]; done) | (simp only [List.getElem?_toArray, List.getElem?_cons_zero, List.getElem?_cons_succ]; rfl)) (fun K hK => ?_) AllReadyH.nil
    go_simp
    (go_at_call 34; have hE0 := held2 (by assumption); with_reducible refine (HEA.out _ hE0).mono ?_; rintro e we ⟨rfl, hxx⟩; have hE1 := hE0.tr hxx)
    try (go_wp2_with fail)
    refine hK.out _ _ (by (try dsimp only); (first | exact ⟨HBC.out _ hE1, hE1⟩ | exact ⟨HBC.out _ (Ext.rfl' wq2).drew, (Ext.rfl' wq2).drew⟩)) (fun hHeld => ?_)
    clear hK K
    try simp only [Act.put, List.setIfInBounds_toArray, List.set_cons_zero, List.set_cons_succ]
    refine wpAnyH_ready (rs := [15]) (by kernel_rfl) (by simp) ?_
    refine AllReadyH.cons (by first | (simp only [List.getElem?_toArray, List.getElem?_cons_zero, List.getElem?_cons_succ]; done) | (simp only [List.getElem?_toArray, List.getElem?_cons_zero, List.getElem?_cons_succ]; rfl)) (fun K hK => ?_) AllReadyH.nil
    go_simp
    (go_at_call 34; have hE0 := held2 (by assumption); with_reducible refine (HEQ.out _ hE0).mono ?_; rintro e we ⟨rfl, hxx⟩; have hE1 := hE0.tr hxx)
    try (go_wp2_with fail)
    refine hK.out _ _ (by (try dsimp only); (first | exact ⟨HBC.out _ hE1, hE1⟩ | exact ⟨HBC.out _ (Ext.rfl' wq2).drew, (Ext.rfl' wq2).drew⟩)) (fun hHeld => ?_)
    clear hK K
    try simp only [Act.put, List.setIfInBounds_toArray, List.set_cons_zero, List.set_cons_succ]
    refine wpAnyH_take (i := 16) (v := ?_) (by first | (simp only [List.getElem?_toArray, List.getElem?_cons_zero, List.getElem?_cons_succ]; done) | (simp only [List.getElem?_toArray, List.getElem?_cons_zero, List.getElem?_cons_succ]; rfl)) (by kernel_rfl) (by kernel_rfl) (by kernel_rfl) (by exact fun _ _ _ h => h) (Or.inl ⟨by rfl, ?hy16⟩) (by assumption) ?_
    case hy16 => (intro w hSw; (try dsimp only at hSw); go_simp; try with_reducible rfl)
    try simp only [Act.put, List.setIfInBounds_toArray, List.set_cons_zero, List.set_cons_succ]
    refine wpAnyH_take (i := 17) (v := ?_) (by first | (simp only [List.getElem?_toArray, List.getElem?_cons_zero, List.getElem?_cons_succ]; done) | (simp only [List.getElem?_toArray, List.getElem?_cons_zero, List.getElem?_cons_succ]; rfl)) (by kernel_rfl) (by kernel_rfl) (by kernel_rfl) (by exact fun _ _ _ h => h) (Or.inl ⟨by rfl, ?hy17⟩) (by assumption) ?_
    case hy17 => (intro w hSw; (try dsimp only at hSw); go_simp; try with_reducible rfl)
    try simp only [Act.put, List.setIfInBounds_toArray, List.set_cons_zero, List.set_cons_succ]
    refine wpAnyH_done (by kernel_rfl) ?_ _
    have HE3 := Lib.hid hE1
    clear hE1
    go_wp2_with fail
    with_reducible refine (HDP.out _ HE3.out).mono ?_
    rintro e w4 ⟨⟨vd, rfl, hownd⟩, hx4⟩
    obtain ⟨Ad, cd, rfl, hrd⟩ := rd_of_own hownd
    have HRD := Lib.hid (fun W (hx : Ext w4 W) => hrd.ext hx)
    have HE4 := Lib.hid (HE3.out.tr hx4)
    clear hrd hownd hx4 HE3
    have hD0 : (dst (a ++ b)).length ≤ 80 := by have := HLDP.out; rw [List.length_append] at this; omega
    go_wp2_with fail
    go_loopw [11] (fun i wr => ∃ k : Nat, 1 ≤ k ∧ (k ≤ (dst (a ++ b)).length ∨ k = 1) ∧ i = .int .i64 k ∧ Ext w4 wr) (fun i _ => (dst (a ++ b)).length + 1 - (intOf i).toNat)
    case atStart => exact ⟨1, Nat.le_refl _, .inr rfl, rfl, Ext.rfl' _⟩
    case round =>
      obtain ⟨k, hk1, hk, rfl, hX⟩ := hrel
      have hk80 : k ≤ 81 := by omega
      by_cases hlt : k < (dst (a ++ b)).length
      · have hlt2 : k - 1 < (dst (a ++ b)).length := by omega
        obtain ⟨ad, rfl, _, c1⟩ := (HRD.out _ hX).at_ (j := k) (u := .int .i64 (dst (a ++ b))[k]) (by simp [hlt])
        obtain ⟨ad2, had2, _, c2⟩ := (HRD.out _ hX).at_ (j := k - 1) (u := .int .i64 (dst (a ++ b))[k - 1]) (by simp [hlt2])
        obtain rfl : ad = ad2 := Option.some.inj had2
        have h1 : ((dst (a ++ b))[k] ≤ (dst (a ++ b))[k - 1]) = False := by
          have := HUP.out (k - 1) (by omega)
          simp only [show k - 1 + 1 = k by omega] at this
          simp; omega
        have hcast : ((k - 1 : Nat) : Int) = (k : Int) - 1 := by omega
        generalize (dst (a ++ b))[k] = x at *
        generalize (dst (a ++ b))[k - 1] = y at *
        have HX := Lib.hid hX
        clear hX
        go_wp2
        go_quiet (fail)
        go_wp2
        go_roundw
        case rel => exact ⟨k + 1, by omega, .inl (by omega), by go_num, HX.out.drewN _⟩
        case measure => simp [intOf]; omega
      · have HE5 := Lib.hid (HE4.out.tr hX)
        have hge : (dst (a ++ b)).length ≤ k := by omega
        clear hX hk
        have hs1 : IntKind.i64.wrap (((dst a).length : Int) + (dst b).length) = (dst a).length + (dst b).length := by have := HLDA.out; have := HLDB.out; rw [IntKind.wrap_i64]; omega
        have hs2 : IntKind.i64.wrap (((dst a).length : Int) + (dst b).length - (dst (a ++ b)).length) = (common a b).length := by have := HLEN.out; have := HLDA.out; have := HLDB.out; rw [IntKind.wrap_i64]; omega
        have hcl : (common a b).length ≤ 40 := by have := HLEN.out; have := HLDA.out; have := List.length_filter_le (fun x => b.contains x) (dst a); unfold common; omega
        have hs3 : (((common a b).length : Int) == (common a b).length) = true := by simp
        go_wp2_with fail
        with_reducible refine (HCA.out _ HE5.out).mono ?_
        rintro e w6 ⟨⟨v6, rfl, hown6⟩, hx6⟩
        obtain ⟨A6, c6, rfl, _⟩ := rd_of_own hown6
        have HE6 := Lib.hid (HE5.out.tr hx6)
        clear hown6 hx6
        go_wp2_with fail
        with_reducible refine (HDA.out _ HE6.out).mono ?_
        rintro e w7 ⟨⟨v7, rfl, hown7⟩, hx7⟩
        obtain ⟨A7, c7, rfl, _⟩ := rd_of_own hown7
        have HE7 := Lib.hid (HE6.out.tr hx7)
        clear hown7 hx7
        go_wp2_with fail
        with_reducible refine (HDB.out _ HE7.out).mono ?_
        rintro e w8 ⟨⟨v8, rfl, hown8⟩, hx8⟩
        obtain ⟨A8, c8, rfl, _⟩ := rd_of_own hown8
        have HE8 := Lib.hid (HE7.out.tr hx8)
        clear hown8 hx8
        go_wp2_with fail
        with_reducible refine (HCA.out _ HE8.out).mono ?_
        rintro e w9 ⟨⟨v9, rfl, hown9⟩, hx9⟩
        obtain ⟨A9, c9, rfl, hr9⟩ := rd_of_own hown9
        have HE9 := Lib.hid (HE8.out.tr hx9)
        have HR9 := Lib.hid hr9
        clear hown9 hx9 hr9
        go_wp2_with fail
        with_reducible refine (HCB.out _ HE9.out).mono ?_
        rintro e w10 ⟨⟨v10, rfl, hown10⟩, hx10⟩
        obtain ⟨A10, c10, rfl, hr10⟩ := rd_of_own hown10
        have HE10 := Lib.hid (HE9.out.tr hx10)
        have HI := Lib.hid (ints_calls (common a b) A9 c9 (common a b) A10 c10 (by omega) (by omega) w10 (HR9.out.ext hx10) hr10)
        rw [alike_rfl] at HI
        clear hown10 hx10 hr10
        go_wp2_with fail
        refine HI.out.mono ?_
        rintro e w11 ⟨rfl, hx11⟩
        have HE11 := Lib.hid (HXq.out.tr (HE10.out.tr hx11))
        clear hx11
        go_wp2
        go_ret
        exact ⟨ret_bool (by first | rfl | simp), HE11.out⟩
theorem quorumMore_walk' {w : World} (f : Int) (wf : (Lit.int .u8 f).wf = true) (A : Option Addr) (a : List Int) (c : Nat) (hA : Rd w A (cIs a)) (wa : ∀ n ∈ a, (Lit.int .i64 n).wf = true) (hma : a.length ≤ maxLen) (hAz : A = none → c = 0)
    (B : Option Addr) (b : List Int) (d : Nat) (hB : Rd w B (cIs b)) (wb : ∀ n ∈ b, (Lit.int .i64 n).wf = true) (hmb : b.length ≤ maxLen) (hBz : B = none → d = 0) :
    Calls Try.prog 8 #[.int .u8 f, .slice A a.length c, .slice B b.length d] w fun e w' => e = .returned (.bool true) ∧ Ext w w' := by
  have hf := bounds_u8 wf
  by_cases h : 40 < a.length ∨ 40 < b.length
  · exact more_long f (by omega) (by omega) a A c b B d h w hma hmb
  · exact more_walk f (by omega) (by omega) a A c b B d (by omega) (by omega) hAz hBz w hA hB
end Go.Proofs.Ytifanmggfoicfaa
