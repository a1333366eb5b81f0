/- The walk of the law StampAny. -/
import Derived.Test.YtbbgmlnfpnomiaaGreatDoorStU
import Derived.Test.YtbbgmlnfpnomiaaGreatDoorStT
import Derived.Test.YtbbgmlnfpnomiaaGreatDoorStW
import Derived.Deep.DeepCutAuto
set_option linter.unusedVariables false
set_option linter.unusedSimpArgs false
namespace Go.Proofs.YtbbgmlnfpnomiaaGreatDoor
open Go.RowKit Go.Sort
/-- A row that does not lie in block b. -/
def Off (A : Option Addr) (xs : List Value) (b : Nat) : Prop := xs = [] ∨ ∀ ad, A = some ad → ad.block ≠ b
theorem Rd.offNew {W : World} {A : Option Addr} {xs : List Value} (h : Rd W A xs) : Off A xs W.heap.size := by
  rcases h with h | ⟨ad, e, hlt, _⟩
  · exact .inl h
  · exact .inr fun ad' e' => by rw [e] at e'; cases e'; omega
theorem Off.fresh {A : Option Addr} {xs : List Value} {b S : Nat} (h : ∀ ad, A = some ad → S ≤ ad.block) (hb : b < S) : Off A xs b := .inr fun ad e => by have := h ad e; omega
theorem Rd.setOff {A : Option Addr} {xs : List Value} {b : Nat} {W : World} (h : Off A xs b) (o : Nat) (vs : List Value) (hr : Rd W A xs) : Rd (W.setCells b o vs) A xs := by
  rcases h with h | h
  · exact .inl h
  · exact Rd.setCellsO h _ _ _ hr
theorem stC_23 (x : K.St) (h : K.StOk x) (A : Option Addr) (c : Nat) : (stC x A c)[23]? = some (.slice A x.sig.path.length c) := by
  have := (sgV_at x.sig.who x.sig.leaf x.sig.one h.sig.len A x.sig.path.length c).2.2.1
  exact this
theorem kyV_one2 (f : Int) (A : Option Addr) (n c : Nat) (ht : Int) : ∀ x ∈ kyV f A n c ht, x.oneCell' = true := kyV_one f A n c ht
set_option maxRecDepth 100000 in
set_option maxHeartbeats 20000000 in
theorem sany_walk (f ht : Int) (hf : I64 f) (hht : I64 ht) (l : List Nat) (hl : ∀ x ∈ l, x < 18446744073709551616) (A : Option Addr) (c : Nat) (hlm : l.length ≤ 9223372036854775807) (s : K.St) (hs : K.StOk s) (P : Option Addr) (cp : Nat) (hpm : s.sig.path.length ≤ 9223372036854775807) (w : World) (hA : Rd w A (cDg l)) (hP : Rd w P (cDg s.sig.path)) (hk : KOk w) :
    Calls Tryz.prog 5 #[.agg (kyV f A l.length c ht).toArray, .agg (stC s P cp).toArray] w fun e w' => e = .returned (.bool true) ∧ Ext w w' := by
  have b0 := (Blk.new w 71 (kyV f A l.length c ht)).ext ((Ext.rfl' _).alloc (.cells (stC s P cp).toArray 73))
  have b1 := Blk.new (w.alloc (.cells (kyV f A l.length c ht).toArray 71)) 73 (stC s P cp)
  have hE := ((Ext.rfl' w).alloc (.cells (kyV f A l.length c ht).toArray 71)).alloc (.cells (stC s P cp).toArray 73)
  rw [World.size_alloc] at b1
  have HG := Lib.hid (fun W (hx : Ext w W) => hk.ext hx)
  have HKN := Lib.hid (fun W (hx : Ext w W) => known11_calls W (HG.out W hx).gl (HG.out W hx).rng (HG.out W hx).tok)
  have hc23 := stC_23 s hs P cp
  have hk1 : (kyV f A l.length c ht)[1]? = some (.slice A l.length c) := rfl
  have hs0 : (stC s P cp)[0]? = some (cU64 s.cmd) := rfl
  have hs1 : (stC s P cp)[1]? = some (.int .i64 s.who) := rfl
  have hs2 : (stC s P cp)[2]? = some (.int .i64 s.at_) := rfl
  have HS6 := Lib.hid (show ∀ P' p', (stC s P' p')[0]? = some (cU64 s.cmd) ∧ (stC s P' p')[1]? = some (.int .i64 s.who) ∧ (stC s P' p')[2]? = some (.int .i64 s.at_) from fun _ _ => ⟨rfl, rfl, rfl⟩)
  by_cases g0 : 20 < l.length ∨ 20 < s.sig.path.length
  · have q1 := b0.cell hk1
    have q2 := b1.cell hc23
    have hEE := Lib.hid hE
    have HKN1 := Lib.hid (HKN.out _ hE)
    have HB0 := Lib.hid b0
    have HB1 := Lib.hid b1
    clear b0 b1 hE HKN HS6 hA hP hk hf hht hl
    generalize stC s P cp = SV at *
    generalize kyV f A l.length c ht = KV at *
    go_enter Tryz.func5, Tryz.ntmps5
    go_upto_region 1 with (fail)
    generalize (w.alloc (.cells KV.toArray 71)).alloc (.cells SV.toArray 73) = W0 at *
    go_wp2_with fail
    refine HKN1.out.mono ?_
    rintro e W1 ⟨rfl, hx⟩
    have HX := Lib.hid (Ext.tr hEE.out hx)
    have q3 := (HB0.out.ext hx).cell hk1
    have q4 := (HB1.out.ext hx).cell hc23
    clear hx q1 q2 HB0 HB1 HKN1 hEE
    by_cases g1 : 20 < l.length
    · have g1i : (20 : Int) < (l.length : Int) := by omega
      go_wp2
      go_ret
      exact ⟨rfl, HX.out⟩
    · have g1i : ¬ ((20 : Int) < (l.length : Int)) := by omega
      have g2i : (20 : Int) < (s.sig.path.length : Int) := by omega
      go_wp2
      go_ret
      exact ⟨rfl, HX.out⟩
  have g1i : ¬ ((20 : Int) < (l.length : Int)) := by omega
  have g2i : ¬ ((20 : Int) < (s.sig.path.length : Int)) := by omega
  have hp100 : s.sig.path.length ≤ 100 := by omega
  have HTK := Lib.hid (fun W (hx : Ext w W) => tokeys_calls f ht l (by omega) A c W (hA.ext hx))
  have HTS := Lib.hid (fun W (hx : Ext w W) => to_st s hs hp100 P cp W (hP.ext hx))
  have HCK := Lib.hid (fun A' c' W => scheck_calls f A' l.length c' ht W)
  have HRC := Lib.hid (fun W => rcheck_calls f A l.length c ht W)
  have HDG := Lib.hid (fun W ht => sdigest_calls s.cmd hs.cmd s.who s.at_ hs.who hs.at_ W ht)
  have HRD := Lib.hid (fun W => rsdigest_calls s.cmd hs.cmd s.who s.at_ hs.who hs.at_ W)
  have HWD := Lib.hid (fun W ht => swords_calls s.cmd hs.cmd s.who s.at_ hs.who hs.at_ W ht)
  have HRW := Lib.hid (fun W => rswords_calls s.cmd hs.cmd s.who s.at_ hs.who hs.at_ W)
  have HTX := Lib.hid (fun P' p' W h ht => text_st s hs hp100 P' p' W h ht)
  have HRT := Lib.hid (fun W (hx : Ext w W) => rtext_st s hs hp100 P cp W (hP.ext hx))
  have hCK0 : K.ckE f l.length ht = 0 ∨ (K.ckE f l.length ht = 1) := by unfold K.ckE; split <;> simp
  have HVA := Lib.hid (show K.ckE f l.length ht = 0 → ∀ A' c' P' p' W, Rd W A' (cDg l) → Rd W P' (cDg s.sig.path) → TOk W → Calls Tryz.prog 52 #[.agg (kyV f A' l.length c' ht).toArray, .agg (stC s P' p').toArray] W fun e w' => e = .returned (.int .i64 (K.validE f l ht s.cmd s.who s.at_ s.sig.who s.sig.leaf s.sig.one s.sig.path)) ∧ Ext W w' from fun h0 A' c' P' p' W h1 h2 h3 => by
    have hff : 0 ≤ f ∧ f ≤ 1000 := by unfold K.ckE at h0; split at h0; omega; cases h0
    exact svalid_calls f hff l hl A' c' ht s.cmd hs.cmd s.who s.at_ hs.who hs.at_ s.sig.who s.sig.leaf s.sig.one hs.sig.len hs.sig.one P' p' s.sig.path hs.sig.path W h1 h2 h3)
  have HRV := Lib.hid (show K.ckE f l.length ht = 0 → ∀ W, Ext w W → Calls Tryz.prog 53 #[.agg (kyV f A l.length c ht).toArray, .agg (stC s P cp).toArray] W fun e w' => e = .returned (.int .i64 (K.validE f l ht s.cmd s.who s.at_ s.sig.who s.sig.leaf s.sig.one s.sig.path)) ∧ Ext W w' from fun h0 W hx => by
    have hff : 0 ≤ f ∧ f ≤ 1000 := by unfold K.ckE at h0; split at h0; omega; cases h0
    exact rvalid_calls f hff l hl A c ht s.cmd hs.cmd s.who s.at_ hs.who hs.at_ s.sig.who s.sig.leaf s.sig.one hs.sig.len hs.sig.one P cp s.sig.path hs.sig.path W (hA.ext hx) (hP.ext hx))
  have hxl := K.stx_len s hs hp100
  have hts : (strOf (K.stx s)).size ≤ 1000000 := by rw [size_strOf]; omega
  have HP1 := Lib.hid (fun W (hx : Ext w W) => parse_st (strOf (K.stx s)) hts W (HG.out W hx).gl (HG.out W hx).rng)
  have HP2 := Lib.hid (fun W => rparse_st (strOf (K.stx s)) hts W)
  rw [show bs (strOf (K.stx s)) = K.stx s from bs_strOf _] at HP1 HP2
  have hYB := stBd_of (K.stx s)
  generalize stCode (K.pst (K.stx s)) = E at *
  generalize stOf (K.pst (K.stx s)) = Y at *
  have HOY := Lib.hid (fun A c W h => of_st Y hYB.1 (by omega) A c W h)
  have HSY := Lib.hid (fun A B c d W h h' => rsame_st Y hYB.1 (by omega) A B c d W h h')
  have HSS := Lib.hid (fun A B c d W h h' => same_st s hs hp100 A B c d W h h')
  have hYl := fun A c => stC_len Y hYB.1 A c
  have hYo := fun A c => stC_one Y A c
  have hSl := fun A c => stC_len s hs A c
  have hSo := fun A c => stC_one s A c
  have hKl := fun A c => kyV_len f A l.length c ht
  have hKo := fun A c => kyV_one f A l.length c ht
  obtain ⟨YG, hYG⟩ : ∃ YG : Option Addr → Nat → List Value, (fun A c => stC Y A c) = YG := ⟨_, rfl⟩
  have hyg : ∀ A c, stC Y A c = YG A c := fun A c => congrFun (congrFun hYG A) c
  obtain ⟨SG, hSG⟩ : ∃ SG : Option Addr → Nat → List Value, (fun A c => stC s A c) = SG := ⟨_, rfl⟩
  have hsg : ∀ A c, stC s A c = SG A c := fun A c => congrFun (congrFun hSG A) c
  obtain ⟨KG, hKG⟩ : ∃ KG : Option Addr → Nat → List Value, (fun A c' => kyV f A l.length c' ht) = KG := ⟨_, rfl⟩
  have hkg : ∀ A c', kyV f A l.length c' ht = KG A c' := fun A c' => congrFun (congrFun hKG A) c'
  simp only [hyg] at HP1 HP2 HOY HSY hYl hYo
  simp only [hsg] at HS6 hs0 hs1 hs2 hc23 b0 b1 hE HTS HTX HRT HSS hSl hSo HVA HRV ⊢
  simp only [hkg] at hk1 b0 b1 hE HTK HCK HRC HVA HRV hKl hKo ⊢
  clear hyg hYG hsg hSG hkg hKG hYB hxl hts
  generalize K.ckE f l.length ht = CE at *
  generalize K.stD s.cmd s.who s.at_ = DD at *
  generalize strOf (K.stT s.cmd s.who s.at_) = TW at *
  generalize strOf (K.stx s) = TX at *
  generalize K.validE f l ht s.cmd s.who s.at_ s.sig.who s.sig.leaf s.sig.one s.sig.path = VE at *
  generalize cDg Y.sig.path = PY at *
  generalize cDg s.sig.path = PT at *
  generalize cDg l = LT at *
  generalize s.sig.path.length = np at *
  generalize l.length = nl at *
  generalize s.cmd = scmd at *
  generalize s.who = swho at *
  generalize s.at_ = sat at *
  have HEE := Lib.hid hE
  have q1 := b0.cell hk1
  have q2 := b1.cell hc23
  have HB0 := Lib.hid b0
  have HB1 := Lib.hid b1
  have HAw := Lib.hid hA
  have HPw := Lib.hid hP
  have hKlA := hKl A c
  have hSlP := hSl P cp
  clear b0 b1 hE hA hP hk hf hht hl hs
  generalize hKV : KG A c = KV at *
  generalize hSV : SG P cp = SV at *
  have hkb : w.heap.size < w.heap.size + 1 := by omega
  go_enter Tryz.func5, Tryz.ntmps5
  go_upto_region 1 with (fail)
  generalize (w.alloc (.cells KV.toArray 71)).alloc (.cells SV.toArray 73) = W0 at *
  go_wp2_with fail
  refine (HKN.out _ HEE.out).mono ?_
  rintro e W1 ⟨rfl, hx⟩
  have HX := Lib.hid (Ext.tr HEE.out hx)
  replace HB0 := Lib.hid (HB0.out.ext hx)
  replace HB1 := Lib.hid (HB1.out.ext hx)
  clear hx q1 q2 HKN HEE
  have q1 := HB0.out.cell hk1
  have q2 := HB1.out.cell hc23
  go_upto_region 5 with (fail)
  clear q1 q2
  replace HX := Lib.hid HX.out.drew
  replace HB0 := Lib.hid HB0.out.drew
  replace HB1 := Lib.hid HB1.out.drew
  have hikv : (Tryz.prog.info? 71).map (·.size) = some KV.length := by rw [hKlA]; rfl
  have hisv : (Tryz.prog.info? 73).map (·.size) = some SV.length := by rw [hSlP]; rfl
  have hbs : w.heap.size + 1 < W1.heap.size := HB1.out.lt
  go_cut [5, 6] (fun s5 s6 wx => ∃ (b5 b6 : Nat) (A' P' : Option Addr) (c' p' : Nat), s5 = .pointer (some ⟨b5, 0, none⟩) ∧ s6 = .pointer (some ⟨b6, 0, none⟩) ∧ Blk wx b5 77 (KG A' c') ∧ Blk wx b6 80 (SG P' p') ∧ Rd wx A' LT ∧ Rd wx P' PT ∧ Ext W1.drew wx)
  case first =>
    have HCE := Lib.hid (show ∀ W, Ext W1.drew W → (W.rangeAt w.heap.size 0 KV ∧ W.rangeAt (w.heap.size + 1) 0 SV) from fun W hx => ⟨(HB0.out.ext hx).range, (HB1.out.ext hx).range⟩)
    have HY := Lib.hid (Ext.rfl' W1.drew)
    have hw1 : w.heap.size + 1 < W1.drew.heap.size := hbs
    refine wp_region_held_drew (S := fun W => W.rangeAt w.heap.size 0 KV ∧ W.rangeAt (w.heap.size + 1) 0 SV) (by kernel_rfl) (HCE.out _ HY.out) (fun hHeld => ?_)
    generalize W1.drew = Y0 at *
    refine wpAnyH_take (i := 0) (v := .agg (KV).toArray) (by first | (simp only [List.getElem?_toArray, List.getElem?_cons_zero, List.getElem?_cons_succ]; done) | (simp only [List.getElem?_toArray, List.getElem?_cons_zero, List.getElem?_cons_succ]; rfl)) (by kernel_rfl) (by kernel_rfl) (by kernel_rfl) (by exact fun _ _ _ h => h) (Or.inl ⟨by rfl, fun w' hSw => run_load_mid _ _ _ _ rfl w.heap.size 0 (by rfl) _ _ w' hSw.1 Tryz.underlying71 rfl hikv⟩) (by assumption) ?_
    try simp only [Act.put, List.setIfInBounds_toArray, List.set_cons_zero, List.set_cons_succ]
    refine wpAnyH_take (i := 2) (v := .agg (SV).toArray) (by first | (simp only [List.getElem?_toArray, List.getElem?_cons_zero, List.getElem?_cons_succ]; done) | (simp only [List.getElem?_toArray, List.getElem?_cons_zero, List.getElem?_cons_succ]; rfl)) (by kernel_rfl) (by kernel_rfl) (by kernel_rfl) (by exact fun _ _ _ h => h) (Or.inl ⟨by rfl, fun w' hSw => run_load_mid _ _ _ _ rfl (w.heap.size + 1) 0 (by rfl) _ _ w' hSw.2 Tryz.underlying73 rfl hisv⟩) (by assumption) ?_
    try simp only [Act.put, List.setIfInBounds_toArray, List.set_cons_zero, List.set_cons_succ]
    refine wpAnyH_ready (rs := [1, 4, 5]) (by kernel_rfl) (by simp) ?_
    refine AllReadyH.cons (by first | (simp only [List.getElem?_toArray, List.getElem?_cons_zero, List.getElem?_cons_succ]; done) | (simp only [List.getElem?_toArray, List.getElem?_cons_zero, List.getElem?_cons_succ]; rfl)) (fun K hK => ?_) ?_
    · skip
      go_simp
      refine (HTK.out _ (Ext.tr HX.out HY.out)).mono ?_
      rintro e Y1 ⟨⟨A', c', rfl, hr, hf⟩, hx⟩
      have HKA := Lib.hid hr
      replace HY := Lib.hid (HY.out.tr hx)
      clear hx hr hf
      try (go_wp2_with fail)
      refine hK.out _ _ (HCE.out _ HY.out) (fun hHeld => ?_)
      clear hK K
      try simp only [Act.put, List.setIfInBounds_toArray, List.set_cons_zero, List.set_cons_succ]
      refine wpAnyH_ready (rs := [3, 4, 5]) (by kernel_rfl) (by simp) ?_
      refine AllReadyH.cons (by first | (simp only [List.getElem?_toArray, List.getElem?_cons_zero, List.getElem?_cons_succ]; done) | (simp only [List.getElem?_toArray, List.getElem?_cons_zero, List.getElem?_cons_succ]; rfl)) (fun K hK => ?_) ?_
      · skip
        go_simp
        refine (HTS.out _ (Ext.tr HX.out HY.out)).mono ?_
        rintro e Y2 ⟨⟨P', p', rfl, hr, hf⟩, hx⟩
        have HPA := Lib.hid hr
        replace HKA := Lib.hid (HKA.out.ext hx)
        replace HY := Lib.hid (HY.out.tr hx)
        clear hx hr hf
        try (go_wp2_with fail)
        refine hK.out _ _ (HCE.out _ HY.out) (fun hHeld => ?_)
        clear hK K
        try simp only [Act.put, List.setIfInBounds_toArray, List.set_cons_zero, List.set_cons_succ]
        refine wpAnyH_ready (rs := [4, 5]) (by kernel_rfl) (by simp) ?_
        refine AllReadyH.cons (by first | (simp only [List.getElem?_toArray, List.getElem?_cons_zero, List.getElem?_cons_succ]; done) | (simp only [List.getElem?_toArray, List.getElem?_cons_zero, List.getElem?_cons_succ]; rfl)) (fun K hK => ?_) ?_
        · skip
          go_simp
          have hb := Blk.new Y2 77 [.int .i64 0, .slice none 0 0, .int .i64 0]
          change Blk (Y2.alloc (.cells #[.int .i64 0, .slice none 0 0, .int .i64 0] 77)) Y2.heap.size 77 [.int .i64 0, .slice none 0 0, .int .i64 0] at hb
          have hx := (Ext.rfl' Y2).alloc (.cells #[.int .i64 0, .slice none 0 0, .int .i64 0] 77)
          have oA4 := HKA.out.offNew
          have oP4 := HPA.out.offNew
          obtain ⟨b4, hbq⟩ : ∃ b, b = Y2.heap.size := ⟨_, rfl⟩
          have hge4 : Y0.heap.size ≤ b4 := by rw [hbq]; exact HY.out.size
          have HB4 := Lib.hid hb
          replace HKA := Lib.hid (HKA.out.ext hx)
          replace HPA := Lib.hid (HPA.out.ext hx)
          replace HY := Lib.hid (HY.out.tr hx)
          clear hx hb
          generalize Y2.alloc (.cells #[.int .i64 0, .slice none 0 0, .int .i64 0] 77) = Y3 at *
          rw [← hbq] at HB4 oA4 oP4 ⊢
          clear hbq
          refine hK.out _ _ (HCE.out _ HY.out) (fun hHeld => ?_)
          clear hK K
          try simp only [Act.put, List.setIfInBounds_toArray, List.set_cons_zero, List.set_cons_succ]
          refine wpAnyH_ready (rs := [5]) (by kernel_rfl) (by simp) ?_
          refine AllReadyH.cons (by first | (simp only [List.getElem?_toArray, List.getElem?_cons_zero, List.getElem?_cons_succ]; done) | (simp only [List.getElem?_toArray, List.getElem?_cons_zero, List.getElem?_cons_succ]; rfl)) (fun K hK => ?_) ?_
          · skip
            go_simp
            have hb := Blk.new Y3 80 [.int .u64 0, .int .i64 0, .int .i64 0, .int .i64 0, .int .i64 0, .int .u64 0, .int .u64 0, .int .u64 0, .int .u64 0, .int .u64 0, .int .u64 0, .int .u64 0, .int .u64 0, .int .u64 0, .int .u64 0, .int .u64 0, .int .u64 0, .int .u64 0, .int .u64 0, .int .u64 0, .int .u64 0, .int .u64 0, .int .u64 0, .slice none 0 0]
            change Blk (Y3.alloc (.cells #[.int .u64 0, .int .i64 0, .int .i64 0, .int .i64 0, .int .i64 0, .int .u64 0, .int .u64 0, .int .u64 0, .int .u64 0, .int .u64 0, .int .u64 0, .int .u64 0, .int .u64 0, .int .u64 0, .int .u64 0, .int .u64 0, .int .u64 0, .int .u64 0, .int .u64 0, .int .u64 0, .int .u64 0, .int .u64 0, .int .u64 0, .slice none 0 0] 80)) Y3.heap.size 80 [.int .u64 0, .int .i64 0, .int .i64 0, .int .i64 0, .int .i64 0, .int .u64 0, .int .u64 0, .int .u64 0, .int .u64 0, .int .u64 0, .int .u64 0, .int .u64 0, .int .u64 0, .int .u64 0, .int .u64 0, .int .u64 0, .int .u64 0, .int .u64 0, .int .u64 0, .int .u64 0, .int .u64 0, .int .u64 0, .int .u64 0, .slice none 0 0] at hb
            have hx := (Ext.rfl' Y3).alloc (.cells #[.int .u64 0, .int .i64 0, .int .i64 0, .int .i64 0, .int .i64 0, .int .u64 0, .int .u64 0, .int .u64 0, .int .u64 0, .int .u64 0, .int .u64 0, .int .u64 0, .int .u64 0, .int .u64 0, .int .u64 0, .int .u64 0, .int .u64 0, .int .u64 0, .int .u64 0, .int .u64 0, .int .u64 0, .int .u64 0, .int .u64 0, .slice none 0 0] 80)
            have oA5 := HKA.out.offNew
            have oP5 := HPA.out.offNew
            have hne : b4 ≠ Y3.heap.size := Nat.ne_of_lt HB4.out.lt
            obtain ⟨b5, hbq⟩ : ∃ b, b = Y3.heap.size := ⟨_, rfl⟩
            have hge5 : Y0.heap.size ≤ b5 := by rw [hbq]; exact HY.out.size
            have HB5 := Lib.hid hb
            replace HKA := Lib.hid (HKA.out.ext hx)
            replace HPA := Lib.hid (HPA.out.ext hx)
            replace HB4 := Lib.hid (HB4.out.ext hx)
            replace HY := Lib.hid (HY.out.tr hx)
            clear hx hb
            generalize Y3.alloc (.cells #[.int .u64 0, .int .i64 0, .int .i64 0, .int .i64 0, .int .i64 0, .int .u64 0, .int .u64 0, .int .u64 0, .int .u64 0, .int .u64 0, .int .u64 0, .int .u64 0, .int .u64 0, .int .u64 0, .int .u64 0, .int .u64 0, .int .u64 0, .int .u64 0, .int .u64 0, .int .u64 0, .int .u64 0, .int .u64 0, .int .u64 0, .slice none 0 0] 80) = Y4 at *
            rw [← hbq] at HB5 oA5 oP5 hne ⊢
            clear hbq
            refine hK.out _ _ (HCE.out _ HY.out) (fun hHeld => ?_)
            clear hK K
            try simp only [Act.put, List.setIfInBounds_toArray, List.set_cons_zero, List.set_cons_succ]
            refine wpAnyH_ready (rs := [6]) (by kernel_rfl) (by simp) ?_
            refine AllReadyH.cons (by first | (simp only [List.getElem?_toArray, List.getElem?_cons_zero, List.getElem?_cons_succ]; done) | (simp only [List.getElem?_toArray, List.getElem?_cons_zero, List.getElem?_cons_succ]; rfl)) (fun K hK => ?_) ?_
            · skip
              rw [if_pos (by rfl)]
              have hth : Y4.there b4 0 (KG A' c').toArray.size := by
                have h := HB4.out.there
                rw [List.size_toArray, hKl A' c']
                exact h
              refine wp_store_mid _ _ _ rfl b4 0 (KG A' c').toArray rfl rfl hth (by rw [List.size_toArray, hKl A' c']; rfl) (all_oneCell_toArray (hKo A' c')) ?_
              rw [List.toList_toArray]
              have k1 : Blk (Y4.setCells b4 0 (KG A' c')) b4 77 (KG A' c') := HB4.out.put (by rw [hKl A' c']; rfl)
              have k2 := HB5.out.others (b := b4) (by omega) (KG A' c') 0
              have k3 := Rd.setOff oA4 0 (KG A' c') HKA.out
              have k4 := Rd.setOff oP4 0 (KG A' c') HPA.out
              have k5 : Ext Y0 (Y4.setCells b4 0 (KG A' c')) := Ext.setCells (by show Y0.heap.size ≤ b4; omega) _ _ _ HY.out
              clear HB4 HB5 HKA HPA HY hth
              have HB4 := Lib.hid k1
              have HB5 := Lib.hid k2
              have HKA := Lib.hid k3
              have HPA := Lib.hid k4
              have HY := Lib.hid k5
              clear k1 k2 k3 k4 k5
              generalize Y4.setCells b4 0 (KG A' c') = Y5 at *
              refine hK.out _ _ (HCE.out _ HY.out) (fun hHeld => ?_)
              clear hK K
              try simp only [Act.put, List.setIfInBounds_toArray, List.set_cons_zero, List.set_cons_succ]
              refine wpAnyH_ready (rs := [7]) (by kernel_rfl) (by simp) ?_
              refine AllReadyH.cons (by first | (simp only [List.getElem?_toArray, List.getElem?_cons_zero, List.getElem?_cons_succ]; done) | (simp only [List.getElem?_toArray, List.getElem?_cons_zero, List.getElem?_cons_succ]; rfl)) (fun K hK => ?_) ?_
              · skip
                rw [if_pos (by rfl)]
                have hth : Y5.there b5 0 (SG P' p').toArray.size := by
                  have h := HB5.out.there
                  rw [List.size_toArray, hSl P' p']
                  exact h
                refine wp_store_mid _ _ _ rfl b5 0 (SG P' p').toArray rfl rfl hth (by rw [List.size_toArray, hSl P' p']; rfl) (all_oneCell_toArray (hSo P' p')) ?_
                rw [List.toList_toArray]
                have k1 : Blk (Y5.setCells b5 0 (SG P' p')) b5 80 (SG P' p') := HB5.out.put (by rw [hSl P' p']; rfl)
                have k2 := HB4.out.others (b := b5) (by omega) (SG P' p') 0
                have k3 := Rd.setOff oA5 0 (SG P' p') HKA.out
                have k4 := Rd.setOff oP5 0 (SG P' p') HPA.out
                have k5 : Ext Y0 (Y5.setCells b5 0 (SG P' p')) := Ext.setCells (by show Y0.heap.size ≤ b5; omega) _ _ _ HY.out
                clear HB4 HB5 HKA HPA HY hth
                have HB5 := Lib.hid k1
                have HB4 := Lib.hid k2
                have HKA := Lib.hid k3
                have HPA := Lib.hid k4
                have HY := Lib.hid k5
                clear k1 k2 k3 k4 k5
                generalize Y5.setCells b5 0 (SG P' p') = Y6 at *
                refine hK.out _ _ (HCE.out _ HY.out) (fun hHeld => ?_)
                clear hK K
                try simp only [Act.put, List.setIfInBounds_toArray, List.set_cons_zero, List.set_cons_succ]
                refine wpAnyH_done (by kernel_rfl) ?_ _
                clear hHeld
                go_wp2_with fail
                go_meet
                exact ⟨b4, b5, A', P', c', p', rfl, rfl, HB4.out, HB5.out, HKA.out, HPA.out, HY.out⟩
              exact AllReadyH.nil
            exact AllReadyH.nil
          exact AllReadyH.nil
        refine AllReadyH.cons (by first | (simp only [List.getElem?_toArray, List.getElem?_cons_zero, List.getElem?_cons_succ]; done) | (simp only [List.getElem?_toArray, List.getElem?_cons_zero, List.getElem?_cons_succ]; rfl)) (fun K hK => ?_) ?_
        · skip
          go_simp
          have hb := Blk.new Y2 80 [.int .u64 0, .int .i64 0, .int .i64 0, .int .i64 0, .int .i64 0, .int .u64 0, .int .u64 0, .int .u64 0, .int .u64 0, .int .u64 0, .int .u64 0, .int .u64 0, .int .u64 0, .int .u64 0, .int .u64 0, .int .u64 0, .int .u64 0, .int .u64 0, .int .u64 0, .int .u64 0, .int .u64 0, .int .u64 0, .int .u64 0, .slice none 0 0]
          change Blk (Y2.alloc (.cells #[.int .u64 0, .int .i64 0, .int .i64 0, .int .i64 0, .int .i64 0, .int .u64 0, .int .u64 0, .int .u64 0, .int .u64 0, .int .u64 0, .int .u64 0, .int .u64 0, .int .u64 0, .int .u64 0, .int .u64 0, .int .u64 0, .int .u64 0, .int .u64 0, .int .u64 0, .int .u64 0, .int .u64 0, .int .u64 0, .int .u64 0, .slice none 0 0] 80)) Y2.heap.size 80 [.int .u64 0, .int .i64 0, .int .i64 0, .int .i64 0, .int .i64 0, .int .u64 0, .int .u64 0, .int .u64 0, .int .u64 0, .int .u64 0, .int .u64 0, .int .u64 0, .int .u64 0, .int .u64 0, .int .u64 0, .int .u64 0, .int .u64 0, .int .u64 0, .int .u64 0, .int .u64 0, .int .u64 0, .int .u64 0, .int .u64 0, .slice none 0 0] at hb
          have hx := (Ext.rfl' Y2).alloc (.cells #[.int .u64 0, .int .i64 0, .int .i64 0, .int .i64 0, .int .i64 0, .int .u64 0, .int .u64 0, .int .u64 0, .int .u64 0, .int .u64 0, .int .u64 0, .int .u64 0, .int .u64 0, .int .u64 0, .int .u64 0, .int .u64 0, .int .u64 0, .int .u64 0, .int .u64 0, .int .u64 0, .int .u64 0, .int .u64 0, .int .u64 0, .slice none 0 0] 80)
          have oA5 := HKA.out.offNew
          have oP5 := HPA.out.offNew
          obtain ⟨b5, hbq⟩ : ∃ b, b = Y2.heap.size := ⟨_, rfl⟩
          have hge5 : Y0.heap.size ≤ b5 := by rw [hbq]; exact HY.out.size
          have HB5 := Lib.hid hb
          replace HKA := Lib.hid (HKA.out.ext hx)
          replace HPA := Lib.hid (HPA.out.ext hx)
          replace HY := Lib.hid (HY.out.tr hx)
          clear hx hb
          generalize Y2.alloc (.cells #[.int .u64 0, .int .i64 0, .int .i64 0, .int .i64 0, .int .i64 0, .int .u64 0, .int .u64 0, .int .u64 0, .int .u64 0, .int .u64 0, .int .u64 0, .int .u64 0, .int .u64 0, .int .u64 0, .int .u64 0, .int .u64 0, .int .u64 0, .int .u64 0, .int .u64 0, .int .u64 0, .int .u64 0, .int .u64 0, .int .u64 0, .slice none 0 0] 80) = Y7 at *
          rw [← hbq] at HB5 oA5 oP5 ⊢
          clear hbq
          refine hK.out _ _ (HCE.out _ HY.out) (fun hHeld => ?_)
          clear hK K
          try simp only [Act.put, List.setIfInBounds_toArray, List.set_cons_zero, List.set_cons_succ]
          refine wpAnyH_ready (rs := [4]) (by kernel_rfl) (by simp) ?_
          refine AllReadyH.cons (by first | (simp only [List.getElem?_toArray, List.getElem?_cons_zero, List.getElem?_cons_succ]; done) | (simp only [List.getElem?_toArray, List.getElem?_cons_zero, List.getElem?_cons_succ]; rfl)) (fun K hK => ?_) ?_
          · skip
            go_simp
            have hb := Blk.new Y7 77 [.int .i64 0, .slice none 0 0, .int .i64 0]
            change Blk (Y7.alloc (.cells #[.int .i64 0, .slice none 0 0, .int .i64 0] 77)) Y7.heap.size 77 [.int .i64 0, .slice none 0 0, .int .i64 0] at hb
            have hx := (Ext.rfl' Y7).alloc (.cells #[.int .i64 0, .slice none 0 0, .int .i64 0] 77)
            have oA4 := HKA.out.offNew
            have oP4 := HPA.out.offNew
            have hne : b5 ≠ Y7.heap.size := Nat.ne_of_lt HB5.out.lt
            obtain ⟨b4, hbq⟩ : ∃ b, b = Y7.heap.size := ⟨_, rfl⟩
            have hge4 : Y0.heap.size ≤ b4 := by rw [hbq]; exact HY.out.size
            have HB4 := Lib.hid hb
            replace HKA := Lib.hid (HKA.out.ext hx)
            replace HPA := Lib.hid (HPA.out.ext hx)
            replace HB5 := Lib.hid (HB5.out.ext hx)
            replace HY := Lib.hid (HY.out.tr hx)
            clear hx hb
            generalize Y7.alloc (.cells #[.int .i64 0, .slice none 0 0, .int .i64 0] 77) = Y8 at *
            rw [← hbq] at HB4 oA4 oP4 hne ⊢
            clear hbq
            refine hK.out _ _ (HCE.out _ HY.out) (fun hHeld => ?_)
            clear hK K
            try simp only [Act.put, List.setIfInBounds_toArray, List.set_cons_zero, List.set_cons_succ]
            refine wpAnyH_ready (rs := [6]) (by kernel_rfl) (by simp) ?_
            refine AllReadyH.cons (by first | (simp only [List.getElem?_toArray, List.getElem?_cons_zero, List.getElem?_cons_succ]; done) | (simp only [List.getElem?_toArray, List.getElem?_cons_zero, List.getElem?_cons_succ]; rfl)) (fun K hK => ?_) ?_
            · skip
              rw [if_pos (by rfl)]
              have hth : Y8.there b4 0 (KG A' c').toArray.size := by
                have h := HB4.out.there
                rw [List.size_toArray, hKl A' c']
                exact h
              refine wp_store_mid _ _ _ rfl b4 0 (KG A' c').toArray rfl rfl hth (by rw [List.size_toArray, hKl A' c']; rfl) (all_oneCell_toArray (hKo A' c')) ?_
              rw [List.toList_toArray]
              have k1 : Blk (Y8.setCells b4 0 (KG A' c')) b4 77 (KG A' c') := HB4.out.put (by rw [hKl A' c']; rfl)
              have k2 := HB5.out.others (b := b4) (by omega) (KG A' c') 0
              have k3 := Rd.setOff oA4 0 (KG A' c') HKA.out
              have k4 := Rd.setOff oP4 0 (KG A' c') HPA.out
              have k5 : Ext Y0 (Y8.setCells b4 0 (KG A' c')) := Ext.setCells (by show Y0.heap.size ≤ b4; omega) _ _ _ HY.out
              clear HB4 HB5 HKA HPA HY hth
              have HB4 := Lib.hid k1
              have HB5 := Lib.hid k2
              have HKA := Lib.hid k3
              have HPA := Lib.hid k4
              have HY := Lib.hid k5
              clear k1 k2 k3 k4 k5
              generalize Y8.setCells b4 0 (KG A' c') = Y9 at *
              refine hK.out _ _ (HCE.out _ HY.out) (fun hHeld => ?_)
              clear hK K
              try simp only [Act.put, List.setIfInBounds_toArray, List.set_cons_zero, List.set_cons_succ]
              refine wpAnyH_ready (rs := [7]) (by kernel_rfl) (by simp) ?_
              refine AllReadyH.cons (by first | (simp only [List.getElem?_toArray, List.getElem?_cons_zero, List.getElem?_cons_succ]; done) | (simp only [List.getElem?_toArray, List.getElem?_cons_zero, List.getElem?_cons_succ]; rfl)) (fun K hK => ?_) ?_
              · skip
                rw [if_pos (by rfl)]
                have hth : Y9.there b5 0 (SG P' p').toArray.size := by
                  have h := HB5.out.there
                  rw [List.size_toArray, hSl P' p']
                  exact h
                refine wp_store_mid _ _ _ rfl b5 0 (SG P' p').toArray rfl rfl hth (by rw [List.size_toArray, hSl P' p']; rfl) (all_oneCell_toArray (hSo P' p')) ?_
                rw [List.toList_toArray]
                have k1 : Blk (Y9.setCells b5 0 (SG P' p')) b5 80 (SG P' p') := HB5.out.put (by rw [hSl P' p']; rfl)
                have k2 := HB4.out.others (b := b5) (by omega) (SG P' p') 0
                have k3 := Rd.setOff oA5 0 (SG P' p') HKA.out
                have k4 := Rd.setOff oP5 0 (SG P' p') HPA.out
                have k5 : Ext Y0 (Y9.setCells b5 0 (SG P' p')) := Ext.setCells (by show Y0.heap.size ≤ b5; omega) _ _ _ HY.out
                clear HB4 HB5 HKA HPA HY hth
                have HB5 := Lib.hid k1
                have HB4 := Lib.hid k2
                have HKA := Lib.hid k3
                have HPA := Lib.hid k4
                have HY := Lib.hid k5
                clear k1 k2 k3 k4 k5
                generalize Y9.setCells b5 0 (SG P' p') = Y10 at *
                refine hK.out _ _ (HCE.out _ HY.out) (fun hHeld => ?_)
                clear hK K
                try simp only [Act.put, List.setIfInBounds_toArray, List.set_cons_zero, List.set_cons_succ]
                refine wpAnyH_done (by kernel_rfl) ?_ _
                clear hHeld
                go_wp2_with fail
                go_meet
                exact ⟨b4, b5, A', P', c', p', rfl, rfl, HB4.out, HB5.out, HKA.out, HPA.out, HY.out⟩
              exact AllReadyH.nil
            exact AllReadyH.nil
          exact AllReadyH.nil
        exact AllReadyH.nil
      refine AllReadyH.cons (by first | (simp only [List.getElem?_toArray, List.getElem?_cons_zero, List.getElem?_cons_succ]; done) | (simp only [List.getElem?_toArray, List.getElem?_cons_zero, List.getElem?_cons_succ]; rfl)) (fun K hK => ?_) ?_
      · skip
        go_simp
        have hb := Blk.new Y1 77 [.int .i64 0, .slice none 0 0, .int .i64 0]
        change Blk (Y1.alloc (.cells #[.int .i64 0, .slice none 0 0, .int .i64 0] 77)) Y1.heap.size 77 [.int .i64 0, .slice none 0 0, .int .i64 0] at hb
        have hx := (Ext.rfl' Y1).alloc (.cells #[.int .i64 0, .slice none 0 0, .int .i64 0] 77)
        have oA4 := HKA.out.offNew
        obtain ⟨b4, hbq⟩ : ∃ b, b = Y1.heap.size := ⟨_, rfl⟩
        have hge4 : Y0.heap.size ≤ b4 := by rw [hbq]; exact HY.out.size
        have HB4 := Lib.hid hb
        replace HKA := Lib.hid (HKA.out.ext hx)
        replace HY := Lib.hid (HY.out.tr hx)
        clear hx hb
        generalize Y1.alloc (.cells #[.int .i64 0, .slice none 0 0, .int .i64 0] 77) = Y11 at *
        rw [← hbq] at HB4 oA4 ⊢
        clear hbq
        refine hK.out _ _ (HCE.out _ HY.out) (fun hHeld => ?_)
        clear hK K
        try simp only [Act.put, List.setIfInBounds_toArray, List.set_cons_zero, List.set_cons_succ]
        refine wpAnyH_ready (rs := [3, 5]) (by kernel_rfl) (by simp) ?_
        refine AllReadyH.cons (by first | (simp only [List.getElem?_toArray, List.getElem?_cons_zero, List.getElem?_cons_succ]; done) | (simp only [List.getElem?_toArray, List.getElem?_cons_zero, List.getElem?_cons_succ]; rfl)) (fun K hK => ?_) ?_
        · skip
          go_simp
          refine (HTS.out _ (Ext.tr HX.out HY.out)).mono ?_
          rintro e Y12 ⟨⟨P', p', rfl, hr, hf⟩, hx⟩
          have oP4 := Off.fresh (xs := PT) hf (show b4 < Y11.heap.size from HB4.out.lt)
          have HPA := Lib.hid hr
          replace HKA := Lib.hid (HKA.out.ext hx)
          replace HB4 := Lib.hid (HB4.out.ext hx)
          replace HY := Lib.hid (HY.out.tr hx)
          clear hx hr hf
          try (go_wp2_with fail)
          refine hK.out _ _ (HCE.out _ HY.out) (fun hHeld => ?_)
          clear hK K
          try simp only [Act.put, List.setIfInBounds_toArray, List.set_cons_zero, List.set_cons_succ]
          refine wpAnyH_ready (rs := [5]) (by kernel_rfl) (by simp) ?_
          refine AllReadyH.cons (by first | (simp only [List.getElem?_toArray, List.getElem?_cons_zero, List.getElem?_cons_succ]; done) | (simp only [List.getElem?_toArray, List.getElem?_cons_zero, List.getElem?_cons_succ]; rfl)) (fun K hK => ?_) ?_
          · skip
            go_simp
            have hb := Blk.new Y12 80 [.int .u64 0, .int .i64 0, .int .i64 0, .int .i64 0, .int .i64 0, .int .u64 0, .int .u64 0, .int .u64 0, .int .u64 0, .int .u64 0, .int .u64 0, .int .u64 0, .int .u64 0, .int .u64 0, .int .u64 0, .int .u64 0, .int .u64 0, .int .u64 0, .int .u64 0, .int .u64 0, .int .u64 0, .int .u64 0, .int .u64 0, .slice none 0 0]
            change Blk (Y12.alloc (.cells #[.int .u64 0, .int .i64 0, .int .i64 0, .int .i64 0, .int .i64 0, .int .u64 0, .int .u64 0, .int .u64 0, .int .u64 0, .int .u64 0, .int .u64 0, .int .u64 0, .int .u64 0, .int .u64 0, .int .u64 0, .int .u64 0, .int .u64 0, .int .u64 0, .int .u64 0, .int .u64 0, .int .u64 0, .int .u64 0, .int .u64 0, .slice none 0 0] 80)) Y12.heap.size 80 [.int .u64 0, .int .i64 0, .int .i64 0, .int .i64 0, .int .i64 0, .int .u64 0, .int .u64 0, .int .u64 0, .int .u64 0, .int .u64 0, .int .u64 0, .int .u64 0, .int .u64 0, .int .u64 0, .int .u64 0, .int .u64 0, .int .u64 0, .int .u64 0, .int .u64 0, .int .u64 0, .int .u64 0, .int .u64 0, .int .u64 0, .slice none 0 0] at hb
            have hx := (Ext.rfl' Y12).alloc (.cells #[.int .u64 0, .int .i64 0, .int .i64 0, .int .i64 0, .int .i64 0, .int .u64 0, .int .u64 0, .int .u64 0, .int .u64 0, .int .u64 0, .int .u64 0, .int .u64 0, .int .u64 0, .int .u64 0, .int .u64 0, .int .u64 0, .int .u64 0, .int .u64 0, .int .u64 0, .int .u64 0, .int .u64 0, .int .u64 0, .int .u64 0, .slice none 0 0] 80)
            have oA5 := HKA.out.offNew
            have oP5 := HPA.out.offNew
            have hne : b4 ≠ Y12.heap.size := Nat.ne_of_lt HB4.out.lt
            obtain ⟨b5, hbq⟩ : ∃ b, b = Y12.heap.size := ⟨_, rfl⟩
            have hge5 : Y0.heap.size ≤ b5 := by rw [hbq]; exact HY.out.size
            have HB5 := Lib.hid hb
            replace HKA := Lib.hid (HKA.out.ext hx)
            replace HPA := Lib.hid (HPA.out.ext hx)
            replace HB4 := Lib.hid (HB4.out.ext hx)
            replace HY := Lib.hid (HY.out.tr hx)
            clear hx hb
            generalize Y12.alloc (.cells #[.int .u64 0, .int .i64 0, .int .i64 0, .int .i64 0, .int .i64 0, .int .u64 0, .int .u64 0, .int .u64 0, .int .u64 0, .int .u64 0, .int .u64 0, .int .u64 0, .int .u64 0, .int .u64 0, .int .u64 0, .int .u64 0, .int .u64 0, .int .u64 0, .int .u64 0, .int .u64 0, .int .u64 0, .int .u64 0, .int .u64 0, .slice none 0 0] 80) = Y13 at *
            rw [← hbq] at HB5 oA5 oP5 hne ⊢
            clear hbq
            refine hK.out _ _ (HCE.out _ HY.out) (fun hHeld => ?_)
            clear hK K
            try simp only [Act.put, List.setIfInBounds_toArray, List.set_cons_zero, List.set_cons_succ]
            refine wpAnyH_ready (rs := [6]) (by kernel_rfl) (by simp) ?_
            refine AllReadyH.cons (by first | (simp only [List.getElem?_toArray, List.getElem?_cons_zero, List.getElem?_cons_succ]; done) | (simp only [List.getElem?_toArray, List.getElem?_cons_zero, List.getElem?_cons_succ]; rfl)) (fun K hK => ?_) ?_
            · skip
              rw [if_pos (by rfl)]
              have hth : Y13.there b4 0 (KG A' c').toArray.size := by
                have h := HB4.out.there
                rw [List.size_toArray, hKl A' c']
                exact h
              refine wp_store_mid _ _ _ rfl b4 0 (KG A' c').toArray rfl rfl hth (by rw [List.size_toArray, hKl A' c']; rfl) (all_oneCell_toArray (hKo A' c')) ?_
              rw [List.toList_toArray]
              have k1 : Blk (Y13.setCells b4 0 (KG A' c')) b4 77 (KG A' c') := HB4.out.put (by rw [hKl A' c']; rfl)
              have k2 := HB5.out.others (b := b4) (by omega) (KG A' c') 0
              have k3 := Rd.setOff oA4 0 (KG A' c') HKA.out
              have k4 := Rd.setOff oP4 0 (KG A' c') HPA.out
              have k5 : Ext Y0 (Y13.setCells b4 0 (KG A' c')) := Ext.setCells (by show Y0.heap.size ≤ b4; omega) _ _ _ HY.out
              clear HB4 HB5 HKA HPA HY hth
              have HB4 := Lib.hid k1
              have HB5 := Lib.hid k2
              have HKA := Lib.hid k3
              have HPA := Lib.hid k4
              have HY := Lib.hid k5
              clear k1 k2 k3 k4 k5
              generalize Y13.setCells b4 0 (KG A' c') = Y14 at *
              refine hK.out _ _ (HCE.out _ HY.out) (fun hHeld => ?_)
              clear hK K
              try simp only [Act.put, List.setIfInBounds_toArray, List.set_cons_zero, List.set_cons_succ]
              refine wpAnyH_ready (rs := [7]) (by kernel_rfl) (by simp) ?_
              refine AllReadyH.cons (by first | (simp only [List.getElem?_toArray, List.getElem?_cons_zero, List.getElem?_cons_succ]; done) | (simp only [List.getElem?_toArray, List.getElem?_cons_zero, List.getElem?_cons_succ]; rfl)) (fun K hK => ?_) ?_
              · skip
                rw [if_pos (by rfl)]
                have hth : Y14.there b5 0 (SG P' p').toArray.size := by
                  have h := HB5.out.there
                  rw [List.size_toArray, hSl P' p']
                  exact h
                refine wp_store_mid _ _ _ rfl b5 0 (SG P' p').toArray rfl rfl hth (by rw [List.size_toArray, hSl P' p']; rfl) (all_oneCell_toArray (hSo P' p')) ?_
                rw [List.toList_toArray]
                have k1 : Blk (Y14.setCells b5 0 (SG P' p')) b5 80 (SG P' p') := HB5.out.put (by rw [hSl P' p']; rfl)
                have k2 := HB4.out.others (b := b5) (by omega) (SG P' p') 0
                have k3 := Rd.setOff oA5 0 (SG P' p') HKA.out
                have k4 := Rd.setOff oP5 0 (SG P' p') HPA.out
                have k5 : Ext Y0 (Y14.setCells b5 0 (SG P' p')) := Ext.setCells (by show Y0.heap.size ≤ b5; omega) _ _ _ HY.out
                clear HB4 HB5 HKA HPA HY hth
                have HB5 := Lib.hid k1
                have HB4 := Lib.hid k2
                have HKA := Lib.hid k3
                have HPA := Lib.hid k4
                have HY := Lib.hid k5
                clear k1 k2 k3 k4 k5
                generalize Y14.setCells b5 0 (SG P' p') = Y15 at *
                refine hK.out _ _ (HCE.out _ HY.out) (fun hHeld => ?_)
                clear hK K
                try simp only [Act.put, List.setIfInBounds_toArray, List.set_cons_zero, List.set_cons_succ]
                refine wpAnyH_done (by kernel_rfl) ?_ _
                clear hHeld
                go_wp2_with fail
                go_meet
                exact ⟨b4, b5, A', P', c', p', rfl, rfl, HB4.out, HB5.out, HKA.out, HPA.out, HY.out⟩
              exact AllReadyH.nil
            exact AllReadyH.nil
          exact AllReadyH.nil
        refine AllReadyH.cons (by first | (simp only [List.getElem?_toArray, List.getElem?_cons_zero, List.getElem?_cons_succ]; done) | (simp only [List.getElem?_toArray, List.getElem?_cons_zero, List.getElem?_cons_succ]; rfl)) (fun K hK => ?_) ?_
        · skip
          go_simp
          have hb := Blk.new Y11 80 [.int .u64 0, .int .i64 0, .int .i64 0, .int .i64 0, .int .i64 0, .int .u64 0, .int .u64 0, .int .u64 0, .int .u64 0, .int .u64 0, .int .u64 0, .int .u64 0, .int .u64 0, .int .u64 0, .int .u64 0, .int .u64 0, .int .u64 0, .int .u64 0, .int .u64 0, .int .u64 0, .int .u64 0, .int .u64 0, .int .u64 0, .slice none 0 0]
          change Blk (Y11.alloc (.cells #[.int .u64 0, .int .i64 0, .int .i64 0, .int .i64 0, .int .i64 0, .int .u64 0, .int .u64 0, .int .u64 0, .int .u64 0, .int .u64 0, .int .u64 0, .int .u64 0, .int .u64 0, .int .u64 0, .int .u64 0, .int .u64 0, .int .u64 0, .int .u64 0, .int .u64 0, .int .u64 0, .int .u64 0, .int .u64 0, .int .u64 0, .slice none 0 0] 80)) Y11.heap.size 80 [.int .u64 0, .int .i64 0, .int .i64 0, .int .i64 0, .int .i64 0, .int .u64 0, .int .u64 0, .int .u64 0, .int .u64 0, .int .u64 0, .int .u64 0, .int .u64 0, .int .u64 0, .int .u64 0, .int .u64 0, .int .u64 0, .int .u64 0, .int .u64 0, .int .u64 0, .int .u64 0, .int .u64 0, .int .u64 0, .int .u64 0, .slice none 0 0] at hb
          have hx := (Ext.rfl' Y11).alloc (.cells #[.int .u64 0, .int .i64 0, .int .i64 0, .int .i64 0, .int .i64 0, .int .u64 0, .int .u64 0, .int .u64 0, .int .u64 0, .int .u64 0, .int .u64 0, .int .u64 0, .int .u64 0, .int .u64 0, .int .u64 0, .int .u64 0, .int .u64 0, .int .u64 0, .int .u64 0, .int .u64 0, .int .u64 0, .int .u64 0, .int .u64 0, .slice none 0 0] 80)
          have oA5 := HKA.out.offNew
          have hne : b4 ≠ Y11.heap.size := Nat.ne_of_lt HB4.out.lt
          obtain ⟨b5, hbq⟩ : ∃ b, b = Y11.heap.size := ⟨_, rfl⟩
          have hge5 : Y0.heap.size ≤ b5 := by rw [hbq]; exact HY.out.size
          have HB5 := Lib.hid hb
          replace HKA := Lib.hid (HKA.out.ext hx)
          replace HB4 := Lib.hid (HB4.out.ext hx)
          replace HY := Lib.hid (HY.out.tr hx)
          clear hx hb
          generalize Y11.alloc (.cells #[.int .u64 0, .int .i64 0, .int .i64 0, .int .i64 0, .int .i64 0, .int .u64 0, .int .u64 0, .int .u64 0, .int .u64 0, .int .u64 0, .int .u64 0, .int .u64 0, .int .u64 0, .int .u64 0, .int .u64 0, .int .u64 0, .int .u64 0, .int .u64 0, .int .u64 0, .int .u64 0, .int .u64 0, .int .u64 0, .int .u64 0, .slice none 0 0] 80) = Y16 at *
          rw [← hbq] at HB5 oA5 hne ⊢
          clear hbq
          refine hK.out _ _ (HCE.out _ HY.out) (fun hHeld => ?_)
          clear hK K
          try simp only [Act.put, List.setIfInBounds_toArray, List.set_cons_zero, List.set_cons_succ]
          refine wpAnyH_ready (rs := [3]) (by kernel_rfl) (by simp) ?_
          refine AllReadyH.cons (by first | (simp only [List.getElem?_toArray, List.getElem?_cons_zero, List.getElem?_cons_succ]; done) | (simp only [List.getElem?_toArray, List.getElem?_cons_zero, List.getElem?_cons_succ]; rfl)) (fun K hK => ?_) ?_
          · skip
            go_simp
            refine (HTS.out _ (Ext.tr HX.out HY.out)).mono ?_
            rintro e Y17 ⟨⟨P', p', rfl, hr, hf⟩, hx⟩
            have oP4 := Off.fresh (xs := PT) hf (show b4 < Y16.heap.size from HB4.out.lt)
            have oP5 := Off.fresh (xs := PT) hf (show b5 < Y16.heap.size from HB5.out.lt)
            have HPA := Lib.hid hr
            replace HKA := Lib.hid (HKA.out.ext hx)
            replace HB4 := Lib.hid (HB4.out.ext hx)
            replace HB5 := Lib.hid (HB5.out.ext hx)
            replace HY := Lib.hid (HY.out.tr hx)
            clear hx hr hf
            try (go_wp2_with fail)
            refine hK.out _ _ (HCE.out _ HY.out) (fun hHeld => ?_)
            clear hK K
            try simp only [Act.put, List.setIfInBounds_toArray, List.set_cons_zero, List.set_cons_succ]
            refine wpAnyH_ready (rs := [6]) (by kernel_rfl) (by simp) ?_
            refine AllReadyH.cons (by first | (simp only [List.getElem?_toArray, List.getElem?_cons_zero, List.getElem?_cons_succ]; done) | (simp only [List.getElem?_toArray, List.getElem?_cons_zero, List.getElem?_cons_succ]; rfl)) (fun K hK => ?_) ?_
            · skip
              rw [if_pos (by rfl)]
              have hth : Y17.there b4 0 (KG A' c').toArray.size := by
                have h := HB4.out.there
                rw [List.size_toArray, hKl A' c']
                exact h
              refine wp_store_mid _ _ _ rfl b4 0 (KG A' c').toArray rfl rfl hth (by rw [List.size_toArray, hKl A' c']; rfl) (all_oneCell_toArray (hKo A' c')) ?_
              rw [List.toList_toArray]
              have k1 : Blk (Y17.setCells b4 0 (KG A' c')) b4 77 (KG A' c') := HB4.out.put (by rw [hKl A' c']; rfl)
              have k2 := HB5.out.others (b := b4) (by omega) (KG A' c') 0
              have k3 := Rd.setOff oA4 0 (KG A' c') HKA.out
              have k4 := Rd.setOff oP4 0 (KG A' c') HPA.out
              have k5 : Ext Y0 (Y17.setCells b4 0 (KG A' c')) := Ext.setCells (by show Y0.heap.size ≤ b4; omega) _ _ _ HY.out
              clear HB4 HB5 HKA HPA HY hth
              have HB4 := Lib.hid k1
              have HB5 := Lib.hid k2
              have HKA := Lib.hid k3
              have HPA := Lib.hid k4
              have HY := Lib.hid k5
              clear k1 k2 k3 k4 k5
              generalize Y17.setCells b4 0 (KG A' c') = Y18 at *
              refine hK.out _ _ (HCE.out _ HY.out) (fun hHeld => ?_)
              clear hK K
              try simp only [Act.put, List.setIfInBounds_toArray, List.set_cons_zero, List.set_cons_succ]
              refine wpAnyH_ready (rs := [7]) (by kernel_rfl) (by simp) ?_
              refine AllReadyH.cons (by first | (simp only [List.getElem?_toArray, List.getElem?_cons_zero, List.getElem?_cons_succ]; done) | (simp only [List.getElem?_toArray, List.getElem?_cons_zero, List.getElem?_cons_succ]; rfl)) (fun K hK => ?_) ?_
              · skip
                rw [if_pos (by rfl)]
                have hth : Y18.there b5 0 (SG P' p').toArray.size := by
                  have h := HB5.out.there
                  rw [List.size_toArray, hSl P' p']
                  exact h
                refine wp_store_mid _ _ _ rfl b5 0 (SG P' p').toArray rfl rfl hth (by rw [List.size_toArray, hSl P' p']; rfl) (all_oneCell_toArray (hSo P' p')) ?_
                rw [List.toList_toArray]
                have k1 : Blk (Y18.setCells b5 0 (SG P' p')) b5 80 (SG P' p') := HB5.out.put (by rw [hSl P' p']; rfl)
                have k2 := HB4.out.others (b := b5) (by omega) (SG P' p') 0
                have k3 := Rd.setOff oA5 0 (SG P' p') HKA.out
                have k4 := Rd.setOff oP5 0 (SG P' p') HPA.out
                have k5 : Ext Y0 (Y18.setCells b5 0 (SG P' p')) := Ext.setCells (by show Y0.heap.size ≤ b5; omega) _ _ _ HY.out
                clear HB4 HB5 HKA HPA HY hth
                have HB5 := Lib.hid k1
                have HB4 := Lib.hid k2
                have HKA := Lib.hid k3
                have HPA := Lib.hid k4
                have HY := Lib.hid k5
                clear k1 k2 k3 k4 k5
                generalize Y18.setCells b5 0 (SG P' p') = Y19 at *
                refine hK.out _ _ (HCE.out _ HY.out) (fun hHeld => ?_)
                clear hK K
                try simp only [Act.put, List.setIfInBounds_toArray, List.set_cons_zero, List.set_cons_succ]
                refine wpAnyH_done (by kernel_rfl) ?_ _
                clear hHeld
                go_wp2_with fail
                go_meet
                exact ⟨b4, b5, A', P', c', p', rfl, rfl, HB4.out, HB5.out, HKA.out, HPA.out, HY.out⟩
              exact AllReadyH.nil
            exact AllReadyH.nil
          exact AllReadyH.nil
        exact AllReadyH.nil
      refine AllReadyH.cons (by first | (simp only [List.getElem?_toArray, List.getElem?_cons_zero, List.getElem?_cons_succ]; done) | (simp only [List.getElem?_toArray, List.getElem?_cons_zero, List.getElem?_cons_succ]; rfl)) (fun K hK => ?_) ?_
      · skip
        go_simp
        have hb := Blk.new Y1 80 [.int .u64 0, .int .i64 0, .int .i64 0, .int .i64 0, .int .i64 0, .int .u64 0, .int .u64 0, .int .u64 0, .int .u64 0, .int .u64 0, .int .u64 0, .int .u64 0, .int .u64 0, .int .u64 0, .int .u64 0, .int .u64 0, .int .u64 0, .int .u64 0, .int .u64 0, .int .u64 0, .int .u64 0, .int .u64 0, .int .u64 0, .slice none 0 0]
        change Blk (Y1.alloc (.cells #[.int .u64 0, .int .i64 0, .int .i64 0, .int .i64 0, .int .i64 0, .int .u64 0, .int .u64 0, .int .u64 0, .int .u64 0, .int .u64 0, .int .u64 0, .int .u64 0, .int .u64 0, .int .u64 0, .int .u64 0, .int .u64 0, .int .u64 0, .int .u64 0, .int .u64 0, .int .u64 0, .int .u64 0, .int .u64 0, .int .u64 0, .slice none 0 0] 80)) Y1.heap.size 80 [.int .u64 0, .int .i64 0, .int .i64 0, .int .i64 0, .int .i64 0, .int .u64 0, .int .u64 0, .int .u64 0, .int .u64 0, .int .u64 0, .int .u64 0, .int .u64 0, .int .u64 0, .int .u64 0, .int .u64 0, .int .u64 0, .int .u64 0, .int .u64 0, .int .u64 0, .int .u64 0, .int .u64 0, .int .u64 0, .int .u64 0, .slice none 0 0] at hb
        have hx := (Ext.rfl' Y1).alloc (.cells #[.int .u64 0, .int .i64 0, .int .i64 0, .int .i64 0, .int .i64 0, .int .u64 0, .int .u64 0, .int .u64 0, .int .u64 0, .int .u64 0, .int .u64 0, .int .u64 0, .int .u64 0, .int .u64 0, .int .u64 0, .int .u64 0, .int .u64 0, .int .u64 0, .int .u64 0, .int .u64 0, .int .u64 0, .int .u64 0, .int .u64 0, .slice none 0 0] 80)
        have oA5 := HKA.out.offNew
        obtain ⟨b5, hbq⟩ : ∃ b, b = Y1.heap.size := ⟨_, rfl⟩
        have hge5 : Y0.heap.size ≤ b5 := by rw [hbq]; exact HY.out.size
        have HB5 := Lib.hid hb
        replace HKA := Lib.hid (HKA.out.ext hx)
        replace HY := Lib.hid (HY.out.tr hx)
        clear hx hb
        generalize Y1.alloc (.cells #[.int .u64 0, .int .i64 0, .int .i64 0, .int .i64 0, .int .i64 0, .int .u64 0, .int .u64 0, .int .u64 0, .int .u64 0, .int .u64 0, .int .u64 0, .int .u64 0, .int .u64 0, .int .u64 0, .int .u64 0, .int .u64 0, .int .u64 0, .int .u64 0, .int .u64 0, .int .u64 0, .int .u64 0, .int .u64 0, .int .u64 0, .slice none 0 0] 80) = Y20 at *
        rw [← hbq] at HB5 oA5 ⊢
        clear hbq
        refine hK.out _ _ (HCE.out _ HY.out) (fun hHeld => ?_)
        clear hK K
        try simp only [Act.put, List.setIfInBounds_toArray, List.set_cons_zero, List.set_cons_succ]
        refine wpAnyH_ready (rs := [3, 4]) (by kernel_rfl) (by simp) ?_
        refine AllReadyH.cons (by first | (simp only [List.getElem?_toArray, List.getElem?_cons_zero, List.getElem?_cons_succ]; done) | (simp only [List.getElem?_toArray, List.getElem?_cons_zero, List.getElem?_cons_succ]; rfl)) (fun K hK => ?_) ?_
        · skip
          go_simp
          refine (HTS.out _ (Ext.tr HX.out HY.out)).mono ?_
          rintro e Y21 ⟨⟨P', p', rfl, hr, hf⟩, hx⟩
          have oP5 := Off.fresh (xs := PT) hf (show b5 < Y20.heap.size from HB5.out.lt)
          have HPA := Lib.hid hr
          replace HKA := Lib.hid (HKA.out.ext hx)
          replace HB5 := Lib.hid (HB5.out.ext hx)
          replace HY := Lib.hid (HY.out.tr hx)
          clear hx hr hf
          try (go_wp2_with fail)
          refine hK.out _ _ (HCE.out _ HY.out) (fun hHeld => ?_)
          clear hK K
          try simp only [Act.put, List.setIfInBounds_toArray, List.set_cons_zero, List.set_cons_succ]
          refine wpAnyH_ready (rs := [4]) (by kernel_rfl) (by simp) ?_
          refine AllReadyH.cons (by first | (simp only [List.getElem?_toArray, List.getElem?_cons_zero, List.getElem?_cons_succ]; done) | (simp only [List.getElem?_toArray, List.getElem?_cons_zero, List.getElem?_cons_succ]; rfl)) (fun K hK => ?_) ?_
          · skip
            go_simp
            have hb := Blk.new Y21 77 [.int .i64 0, .slice none 0 0, .int .i64 0]
            change Blk (Y21.alloc (.cells #[.int .i64 0, .slice none 0 0, .int .i64 0] 77)) Y21.heap.size 77 [.int .i64 0, .slice none 0 0, .int .i64 0] at hb
            have hx := (Ext.rfl' Y21).alloc (.cells #[.int .i64 0, .slice none 0 0, .int .i64 0] 77)
            have oA4 := HKA.out.offNew
            have oP4 := HPA.out.offNew
            have hne : b5 ≠ Y21.heap.size := Nat.ne_of_lt HB5.out.lt
            obtain ⟨b4, hbq⟩ : ∃ b, b = Y21.heap.size := ⟨_, rfl⟩
            have hge4 : Y0.heap.size ≤ b4 := by rw [hbq]; exact HY.out.size
            have HB4 := Lib.hid hb
            replace HKA := Lib.hid (HKA.out.ext hx)
            replace HPA := Lib.hid (HPA.out.ext hx)
            replace HB5 := Lib.hid (HB5.out.ext hx)
            replace HY := Lib.hid (HY.out.tr hx)
            clear hx hb
            generalize Y21.alloc (.cells #[.int .i64 0, .slice none 0 0, .int .i64 0] 77) = Y22 at *
            rw [← hbq] at HB4 oA4 oP4 hne ⊢
            clear hbq
            refine hK.out _ _ (HCE.out _ HY.out) (fun hHeld => ?_)
            clear hK K
            try simp only [Act.put, List.setIfInBounds_toArray, List.set_cons_zero, List.set_cons_succ]
            refine wpAnyH_ready (rs := [6]) (by kernel_rfl) (by simp) ?_
            refine AllReadyH.cons (by first | (simp only [List.getElem?_toArray, List.getElem?_cons_zero, List.getElem?_cons_succ]; done) | (simp only [List.getElem?_toArray, List.getElem?_cons_zero, List.getElem?_cons_succ]; rfl)) (fun K hK => ?_) ?_
            · skip
              rw [if_pos (by rfl)]
              have hth : Y22.there b4 0 (KG A' c').toArray.size := by
                have h := HB4.out.there
                rw [List.size_toArray, hKl A' c']
                exact h
              refine wp_store_mid _ _ _ rfl b4 0 (KG A' c').toArray rfl rfl hth (by rw [List.size_toArray, hKl A' c']; rfl) (all_oneCell_toArray (hKo A' c')) ?_
              rw [List.toList_toArray]
              have k1 : Blk (Y22.setCells b4 0 (KG A' c')) b4 77 (KG A' c') := HB4.out.put (by rw [hKl A' c']; rfl)
              have k2 := HB5.out.others (b := b4) (by omega) (KG A' c') 0
              have k3 := Rd.setOff oA4 0 (KG A' c') HKA.out
              have k4 := Rd.setOff oP4 0 (KG A' c') HPA.out
              have k5 : Ext Y0 (Y22.setCells b4 0 (KG A' c')) := Ext.setCells (by show Y0.heap.size ≤ b4; omega) _ _ _ HY.out
              clear HB4 HB5 HKA HPA HY hth
              have HB4 := Lib.hid k1
              have HB5 := Lib.hid k2
              have HKA := Lib.hid k3
              have HPA := Lib.hid k4
              have HY := Lib.hid k5
              clear k1 k2 k3 k4 k5
              generalize Y22.setCells b4 0 (KG A' c') = Y23 at *
              refine hK.out _ _ (HCE.out _ HY.out) (fun hHeld => ?_)
              clear hK K
              try simp only [Act.put, List.setIfInBounds_toArray, List.set_cons_zero, List.set_cons_succ]
              refine wpAnyH_ready (rs := [7]) (by kernel_rfl) (by simp) ?_
              refine AllReadyH.cons (by first | (simp only [List.getElem?_toArray, List.getElem?_cons_zero, List.getElem?_cons_succ]; done) | (simp only [List.getElem?_toArray, List.getElem?_cons_zero, List.getElem?_cons_succ]; rfl)) (fun K hK => ?_) ?_
              · skip
                rw [if_pos (by rfl)]
                have hth : Y23.there b5 0 (SG P' p').toArray.size := by
                  have h := HB5.out.there
                  rw [List.size_toArray, hSl P' p']
                  exact h
                refine wp_store_mid _ _ _ rfl b5 0 (SG P' p').toArray rfl rfl hth (by rw [List.size_toArray, hSl P' p']; rfl) (all_oneCell_toArray (hSo P' p')) ?_
                rw [List.toList_toArray]
                have k1 : Blk (Y23.setCells b5 0 (SG P' p')) b5 80 (SG P' p') := HB5.out.put (by rw [hSl P' p']; rfl)
                have k2 := HB4.out.others (b := b5) (by omega) (SG P' p') 0
                have k3 := Rd.setOff oA5 0 (SG P' p') HKA.out
                have k4 := Rd.setOff oP5 0 (SG P' p') HPA.out
                have k5 : Ext Y0 (Y23.setCells b5 0 (SG P' p')) := Ext.setCells (by show Y0.heap.size ≤ b5; omega) _ _ _ HY.out
                clear HB4 HB5 HKA HPA HY hth
                have HB5 := Lib.hid k1
                have HB4 := Lib.hid k2
                have HKA := Lib.hid k3
                have HPA := Lib.hid k4
                have HY := Lib.hid k5
                clear k1 k2 k3 k4 k5
                generalize Y23.setCells b5 0 (SG P' p') = Y24 at *
                refine hK.out _ _ (HCE.out _ HY.out) (fun hHeld => ?_)
                clear hK K
                try simp only [Act.put, List.setIfInBounds_toArray, List.set_cons_zero, List.set_cons_succ]
                refine wpAnyH_done (by kernel_rfl) ?_ _
                clear hHeld
                go_wp2_with fail
                go_meet
                exact ⟨b4, b5, A', P', c', p', rfl, rfl, HB4.out, HB5.out, HKA.out, HPA.out, HY.out⟩
              exact AllReadyH.nil
            exact AllReadyH.nil
          exact AllReadyH.nil
        refine AllReadyH.cons (by first | (simp only [List.getElem?_toArray, List.getElem?_cons_zero, List.getElem?_cons_succ]; done) | (simp only [List.getElem?_toArray, List.getElem?_cons_zero, List.getElem?_cons_succ]; rfl)) (fun K hK => ?_) ?_
        · skip
          go_simp
          have hb := Blk.new Y20 77 [.int .i64 0, .slice none 0 0, .int .i64 0]
          change Blk (Y20.alloc (.cells #[.int .i64 0, .slice none 0 0, .int .i64 0] 77)) Y20.heap.size 77 [.int .i64 0, .slice none 0 0, .int .i64 0] at hb
          have hx := (Ext.rfl' Y20).alloc (.cells #[.int .i64 0, .slice none 0 0, .int .i64 0] 77)
          have oA4 := HKA.out.offNew
          have hne : b5 ≠ Y20.heap.size := Nat.ne_of_lt HB5.out.lt
          obtain ⟨b4, hbq⟩ : ∃ b, b = Y20.heap.size := ⟨_, rfl⟩
          have hge4 : Y0.heap.size ≤ b4 := by rw [hbq]; exact HY.out.size
          have HB4 := Lib.hid hb
          replace HKA := Lib.hid (HKA.out.ext hx)
          replace HB5 := Lib.hid (HB5.out.ext hx)
          replace HY := Lib.hid (HY.out.tr hx)
          clear hx hb
          generalize Y20.alloc (.cells #[.int .i64 0, .slice none 0 0, .int .i64 0] 77) = Y25 at *
          rw [← hbq] at HB4 oA4 hne ⊢
          clear hbq
          refine hK.out _ _ (HCE.out _ HY.out) (fun hHeld => ?_)
          clear hK K
          try simp only [Act.put, List.setIfInBounds_toArray, List.set_cons_zero, List.set_cons_succ]
          refine wpAnyH_ready (rs := [3]) (by kernel_rfl) (by simp) ?_
          refine AllReadyH.cons (by first | (simp only [List.getElem?_toArray, List.getElem?_cons_zero, List.getElem?_cons_succ]; done) | (simp only [List.getElem?_toArray, List.getElem?_cons_zero, List.getElem?_cons_succ]; rfl)) (fun K hK => ?_) ?_
          · skip
            go_simp
            refine (HTS.out _ (Ext.tr HX.out HY.out)).mono ?_
            rintro e Y26 ⟨⟨P', p', rfl, hr, hf⟩, hx⟩
            have oP4 := Off.fresh (xs := PT) hf (show b4 < Y25.heap.size from HB4.out.lt)
            have oP5 := Off.fresh (xs := PT) hf (show b5 < Y25.heap.size from HB5.out.lt)
            have HPA := Lib.hid hr
            replace HKA := Lib.hid (HKA.out.ext hx)
            replace HB4 := Lib.hid (HB4.out.ext hx)
            replace HB5 := Lib.hid (HB5.out.ext hx)
            replace HY := Lib.hid (HY.out.tr hx)
            clear hx hr hf
            try (go_wp2_with fail)
            refine hK.out _ _ (HCE.out _ HY.out) (fun hHeld => ?_)
            clear hK K
            try simp only [Act.put, List.setIfInBounds_toArray, List.set_cons_zero, List.set_cons_succ]
            refine wpAnyH_ready (rs := [6]) (by kernel_rfl) (by simp) ?_
            refine AllReadyH.cons (by first | (simp only [List.getElem?_toArray, List.getElem?_cons_zero, List.getElem?_cons_succ]; done) | (simp only [List.getElem?_toArray, List.getElem?_cons_zero, List.getElem?_cons_succ]; rfl)) (fun K hK => ?_) ?_
            · skip
              rw [if_pos (by rfl)]
              have hth : Y26.there b4 0 (KG A' c').toArray.size := by
                have h := HB4.out.there
                rw [List.size_toArray, hKl A' c']
                exact h
              refine wp_store_mid _ _ _ rfl b4 0 (KG A' c').toArray rfl rfl hth (by rw [List.size_toArray, hKl A' c']; rfl) (all_oneCell_toArray (hKo A' c')) ?_
              rw [List.toList_toArray]
              have k1 : Blk (Y26.setCells b4 0 (KG A' c')) b4 77 (KG A' c') := HB4.out.put (by rw [hKl A' c']; rfl)
              have k2 := HB5.out.others (b := b4) (by omega) (KG A' c') 0
              have k3 := Rd.setOff oA4 0 (KG A' c') HKA.out
              have k4 := Rd.setOff oP4 0 (KG A' c') HPA.out
              have k5 : Ext Y0 (Y26.setCells b4 0 (KG A' c')) := Ext.setCells (by show Y0.heap.size ≤ b4; omega) _ _ _ HY.out
              clear HB4 HB5 HKA HPA HY hth
              have HB4 := Lib.hid k1
              have HB5 := Lib.hid k2
              have HKA := Lib.hid k3
              have HPA := Lib.hid k4
              have HY := Lib.hid k5
              clear k1 k2 k3 k4 k5
              generalize Y26.setCells b4 0 (KG A' c') = Y27 at *
              refine hK.out _ _ (HCE.out _ HY.out) (fun hHeld => ?_)
              clear hK K
              try simp only [Act.put, List.setIfInBounds_toArray, List.set_cons_zero, List.set_cons_succ]
              refine wpAnyH_ready (rs := [7]) (by kernel_rfl) (by simp) ?_
              refine AllReadyH.cons (by first | (simp only [List.getElem?_toArray, List.getElem?_cons_zero, List.getElem?_cons_succ]; done) | (simp only [List.getElem?_toArray, List.getElem?_cons_zero, List.getElem?_cons_succ]; rfl)) (fun K hK => ?_) ?_
              · skip
                rw [if_pos (by rfl)]
                have hth : Y27.there b5 0 (SG P' p').toArray.size := by
                  have h := HB5.out.there
                  rw [List.size_toArray, hSl P' p']
                  exact h
                refine wp_store_mid _ _ _ rfl b5 0 (SG P' p').toArray rfl rfl hth (by rw [List.size_toArray, hSl P' p']; rfl) (all_oneCell_toArray (hSo P' p')) ?_
                rw [List.toList_toArray]
                have k1 : Blk (Y27.setCells b5 0 (SG P' p')) b5 80 (SG P' p') := HB5.out.put (by rw [hSl P' p']; rfl)
                have k2 := HB4.out.others (b := b5) (by omega) (SG P' p') 0
                have k3 := Rd.setOff oA5 0 (SG P' p') HKA.out
                have k4 := Rd.setOff oP5 0 (SG P' p') HPA.out
                have k5 : Ext Y0 (Y27.setCells b5 0 (SG P' p')) := Ext.setCells (by show Y0.heap.size ≤ b5; omega) _ _ _ HY.out
                clear HB4 HB5 HKA HPA HY hth
                have HB5 := Lib.hid k1
                have HB4 := Lib.hid k2
                have HKA := Lib.hid k3
                have HPA := Lib.hid k4
                have HY := Lib.hid k5
                clear k1 k2 k3 k4 k5
                generalize Y27.setCells b5 0 (SG P' p') = Y28 at *
                refine hK.out _ _ (HCE.out _ HY.out) (fun hHeld => ?_)
                clear hK K
                try simp only [Act.put, List.setIfInBounds_toArray, List.set_cons_zero, List.set_cons_succ]
                refine wpAnyH_done (by kernel_rfl) ?_ _
                clear hHeld
                go_wp2_with fail
                go_meet
                exact ⟨b4, b5, A', P', c', p', rfl, rfl, HB4.out, HB5.out, HKA.out, HPA.out, HY.out⟩
              exact AllReadyH.nil
            exact AllReadyH.nil
          exact AllReadyH.nil
        exact AllReadyH.nil
      exact AllReadyH.nil
    refine AllReadyH.cons (by first | (simp only [List.getElem?_toArray, List.getElem?_cons_zero, List.getElem?_cons_succ]; done) | (simp only [List.getElem?_toArray, List.getElem?_cons_zero, List.getElem?_cons_succ]; rfl)) (fun K hK => ?_) ?_
    · skip
      go_simp
      have hb := Blk.new Y0 77 [.int .i64 0, .slice none 0 0, .int .i64 0]
      change Blk (Y0.alloc (.cells #[.int .i64 0, .slice none 0 0, .int .i64 0] 77)) Y0.heap.size 77 [.int .i64 0, .slice none 0 0, .int .i64 0] at hb
      have hx := (Ext.rfl' Y0).alloc (.cells #[.int .i64 0, .slice none 0 0, .int .i64 0] 77)
      obtain ⟨b4, hbq⟩ : ∃ b, b = Y0.heap.size := ⟨_, rfl⟩
      have hge4 : Y0.heap.size ≤ b4 := by rw [hbq]; exact HY.out.size
      have HB4 := Lib.hid hb
      replace HY := Lib.hid (HY.out.tr hx)
      clear hx hb
      generalize Y0.alloc (.cells #[.int .i64 0, .slice none 0 0, .int .i64 0] 77) = Y29 at *
      rw [← hbq] at HB4 ⊢
      clear hbq
      refine hK.out _ _ (HCE.out _ HY.out) (fun hHeld => ?_)
      clear hK K
      try simp only [Act.put, List.setIfInBounds_toArray, List.set_cons_zero, List.set_cons_succ]
      refine wpAnyH_ready (rs := [1, 5]) (by kernel_rfl) (by simp) ?_
      refine AllReadyH.cons (by first | (simp only [List.getElem?_toArray, List.getElem?_cons_zero, List.getElem?_cons_succ]; done) | (simp only [List.getElem?_toArray, List.getElem?_cons_zero, List.getElem?_cons_succ]; rfl)) (fun K hK => ?_) ?_
      · skip
        go_simp
        refine (HTK.out _ (Ext.tr HX.out HY.out)).mono ?_
        rintro e Y30 ⟨⟨A', c', rfl, hr, hf⟩, hx⟩
        have oA4 := Off.fresh (xs := LT) hf (show b4 < Y29.heap.size from HB4.out.lt)
        have HKA := Lib.hid hr
        replace HB4 := Lib.hid (HB4.out.ext hx)
        replace HY := Lib.hid (HY.out.tr hx)
        clear hx hr hf
        try (go_wp2_with fail)
        refine hK.out _ _ (HCE.out _ HY.out) (fun hHeld => ?_)
        clear hK K
        try simp only [Act.put, List.setIfInBounds_toArray, List.set_cons_zero, List.set_cons_succ]
        refine wpAnyH_ready (rs := [3, 5]) (by kernel_rfl) (by simp) ?_
        refine AllReadyH.cons (by first | (simp only [List.getElem?_toArray, List.getElem?_cons_zero, List.getElem?_cons_succ]; done) | (simp only [List.getElem?_toArray, List.getElem?_cons_zero, List.getElem?_cons_succ]; rfl)) (fun K hK => ?_) ?_
        · skip
          go_simp
          refine (HTS.out _ (Ext.tr HX.out HY.out)).mono ?_
          rintro e Y31 ⟨⟨P', p', rfl, hr, hf⟩, hx⟩
          have oP4 := Off.fresh (xs := PT) hf (show b4 < Y30.heap.size from HB4.out.lt)
          have HPA := Lib.hid hr
          replace HKA := Lib.hid (HKA.out.ext hx)
          replace HB4 := Lib.hid (HB4.out.ext hx)
          replace HY := Lib.hid (HY.out.tr hx)
          clear hx hr hf
          try (go_wp2_with fail)
          refine hK.out _ _ (HCE.out _ HY.out) (fun hHeld => ?_)
          clear hK K
          try simp only [Act.put, List.setIfInBounds_toArray, List.set_cons_zero, List.set_cons_succ]
          refine wpAnyH_ready (rs := [5]) (by kernel_rfl) (by simp) ?_
          refine AllReadyH.cons (by first | (simp only [List.getElem?_toArray, List.getElem?_cons_zero, List.getElem?_cons_succ]; done) | (simp only [List.getElem?_toArray, List.getElem?_cons_zero, List.getElem?_cons_succ]; rfl)) (fun K hK => ?_) ?_
          · skip
            go_simp
            have hb := Blk.new Y31 80 [.int .u64 0, .int .i64 0, .int .i64 0, .int .i64 0, .int .i64 0, .int .u64 0, .int .u64 0, .int .u64 0, .int .u64 0, .int .u64 0, .int .u64 0, .int .u64 0, .int .u64 0, .int .u64 0, .int .u64 0, .int .u64 0, .int .u64 0, .int .u64 0, .int .u64 0, .int .u64 0, .int .u64 0, .int .u64 0, .int .u64 0, .slice none 0 0]
            change Blk (Y31.alloc (.cells #[.int .u64 0, .int .i64 0, .int .i64 0, .int .i64 0, .int .i64 0, .int .u64 0, .int .u64 0, .int .u64 0, .int .u64 0, .int .u64 0, .int .u64 0, .int .u64 0, .int .u64 0, .int .u64 0, .int .u64 0, .int .u64 0, .int .u64 0, .int .u64 0, .int .u64 0, .int .u64 0, .int .u64 0, .int .u64 0, .int .u64 0, .slice none 0 0] 80)) Y31.heap.size 80 [.int .u64 0, .int .i64 0, .int .i64 0, .int .i64 0, .int .i64 0, .int .u64 0, .int .u64 0, .int .u64 0, .int .u64 0, .int .u64 0, .int .u64 0, .int .u64 0, .int .u64 0, .int .u64 0, .int .u64 0, .int .u64 0, .int .u64 0, .int .u64 0, .int .u64 0, .int .u64 0, .int .u64 0, .int .u64 0, .int .u64 0, .slice none 0 0] at hb
            have hx := (Ext.rfl' Y31).alloc (.cells #[.int .u64 0, .int .i64 0, .int .i64 0, .int .i64 0, .int .i64 0, .int .u64 0, .int .u64 0, .int .u64 0, .int .u64 0, .int .u64 0, .int .u64 0, .int .u64 0, .int .u64 0, .int .u64 0, .int .u64 0, .int .u64 0, .int .u64 0, .int .u64 0, .int .u64 0, .int .u64 0, .int .u64 0, .int .u64 0, .int .u64 0, .slice none 0 0] 80)
            have oA5 := HKA.out.offNew
            have oP5 := HPA.out.offNew
            have hne : b4 ≠ Y31.heap.size := Nat.ne_of_lt HB4.out.lt
            obtain ⟨b5, hbq⟩ : ∃ b, b = Y31.heap.size := ⟨_, rfl⟩
            have hge5 : Y0.heap.size ≤ b5 := by rw [hbq]; exact HY.out.size
            have HB5 := Lib.hid hb
            replace HKA := Lib.hid (HKA.out.ext hx)
            replace HPA := Lib.hid (HPA.out.ext hx)
            replace HB4 := Lib.hid (HB4.out.ext hx)
            replace HY := Lib.hid (HY.out.tr hx)
            clear hx hb
            generalize Y31.alloc (.cells #[.int .u64 0, .int .i64 0, .int .i64 0, .int .i64 0, .int .i64 0, .int .u64 0, .int .u64 0, .int .u64 0, .int .u64 0, .int .u64 0, .int .u64 0, .int .u64 0, .int .u64 0, .int .u64 0, .int .u64 0, .int .u64 0, .int .u64 0, .int .u64 0, .int .u64 0, .int .u64 0, .int .u64 0, .int .u64 0, .int .u64 0, .slice none 0 0] 80) = Y32 at *
            rw [← hbq] at HB5 oA5 oP5 hne ⊢
            clear hbq
            refine hK.out _ _ (HCE.out _ HY.out) (fun hHeld => ?_)
            clear hK K
            try simp only [Act.put, List.setIfInBounds_toArray, List.set_cons_zero, List.set_cons_succ]
            refine wpAnyH_ready (rs := [6]) (by kernel_rfl) (by simp) ?_
            refine AllReadyH.cons (by first | (simp only [List.getElem?_toArray, List.getElem?_cons_zero, List.getElem?_cons_succ]; done) | (simp only [List.getElem?_toArray, List.getElem?_cons_zero, List.getElem?_cons_succ]; rfl)) (fun K hK => ?_) ?_
            · skip
              rw [if_pos (by rfl)]
              have hth : Y32.there b4 0 (KG A' c').toArray.size := by
                have h := HB4.out.there
                rw [List.size_toArray, hKl A' c']
                exact h
              refine wp_store_mid _ _ _ rfl b4 0 (KG A' c').toArray rfl rfl hth (by rw [List.size_toArray, hKl A' c']; rfl) (all_oneCell_toArray (hKo A' c')) ?_
              rw [List.toList_toArray]
              have k1 : Blk (Y32.setCells b4 0 (KG A' c')) b4 77 (KG A' c') := HB4.out.put (by rw [hKl A' c']; rfl)
              have k2 := HB5.out.others (b := b4) (by omega) (KG A' c') 0
              have k3 := Rd.setOff oA4 0 (KG A' c') HKA.out
              have k4 := Rd.setOff oP4 0 (KG A' c') HPA.out
              have k5 : Ext Y0 (Y32.setCells b4 0 (KG A' c')) := Ext.setCells (by show Y0.heap.size ≤ b4; omega) _ _ _ HY.out
              clear HB4 HB5 HKA HPA HY hth
              have HB4 := Lib.hid k1
              have HB5 := Lib.hid k2
              have HKA := Lib.hid k3
              have HPA := Lib.hid k4
              have HY := Lib.hid k5
              clear k1 k2 k3 k4 k5
              generalize Y32.setCells b4 0 (KG A' c') = Y33 at *
              refine hK.out _ _ (HCE.out _ HY.out) (fun hHeld => ?_)
              clear hK K
              try simp only [Act.put, List.setIfInBounds_toArray, List.set_cons_zero, List.set_cons_succ]
              refine wpAnyH_ready (rs := [7]) (by kernel_rfl) (by simp) ?_
              refine AllReadyH.cons (by first | (simp only [List.getElem?_toArray, List.getElem?_cons_zero, List.getElem?_cons_succ]; done) | (simp only [List.getElem?_toArray, List.getElem?_cons_zero, List.getElem?_cons_succ]; rfl)) (fun K hK => ?_) ?_
              · skip
                rw [if_pos (by rfl)]
                have hth : Y33.there b5 0 (SG P' p').toArray.size := by
                  have h := HB5.out.there
                  rw [List.size_toArray, hSl P' p']
                  exact h
                refine wp_store_mid _ _ _ rfl b5 0 (SG P' p').toArray rfl rfl hth (by rw [List.size_toArray, hSl P' p']; rfl) (all_oneCell_toArray (hSo P' p')) ?_
                rw [List.toList_toArray]
                have k1 : Blk (Y33.setCells b5 0 (SG P' p')) b5 80 (SG P' p') := HB5.out.put (by rw [hSl P' p']; rfl)
                have k2 := HB4.out.others (b := b5) (by omega) (SG P' p') 0
                have k3 := Rd.setOff oA5 0 (SG P' p') HKA.out
                have k4 := Rd.setOff oP5 0 (SG P' p') HPA.out
                have k5 : Ext Y0 (Y33.setCells b5 0 (SG P' p')) := Ext.setCells (by show Y0.heap.size ≤ b5; omega) _ _ _ HY.out
                clear HB4 HB5 HKA HPA HY hth
                have HB5 := Lib.hid k1
                have HB4 := Lib.hid k2
                have HKA := Lib.hid k3
                have HPA := Lib.hid k4
                have HY := Lib.hid k5
                clear k1 k2 k3 k4 k5
                generalize Y33.setCells b5 0 (SG P' p') = Y34 at *
                refine hK.out _ _ (HCE.out _ HY.out) (fun hHeld => ?_)
                clear hK K
                try simp only [Act.put, List.setIfInBounds_toArray, List.set_cons_zero, List.set_cons_succ]
                refine wpAnyH_done (by kernel_rfl) ?_ _
                clear hHeld
                go_wp2_with fail
                go_meet
                exact ⟨b4, b5, A', P', c', p', rfl, rfl, HB4.out, HB5.out, HKA.out, HPA.out, HY.out⟩
              exact AllReadyH.nil
            exact AllReadyH.nil
          exact AllReadyH.nil
        refine AllReadyH.cons (by first | (simp only [List.getElem?_toArray, List.getElem?_cons_zero, List.getElem?_cons_succ]; done) | (simp only [List.getElem?_toArray, List.getElem?_cons_zero, List.getElem?_cons_succ]; rfl)) (fun K hK => ?_) ?_
        · skip
          go_simp
          have hb := Blk.new Y30 80 [.int .u64 0, .int .i64 0, .int .i64 0, .int .i64 0, .int .i64 0, .int .u64 0, .int .u64 0, .int .u64 0, .int .u64 0, .int .u64 0, .int .u64 0, .int .u64 0, .int .u64 0, .int .u64 0, .int .u64 0, .int .u64 0, .int .u64 0, .int .u64 0, .int .u64 0, .int .u64 0, .int .u64 0, .int .u64 0, .int .u64 0, .slice none 0 0]
          change Blk (Y30.alloc (.cells #[.int .u64 0, .int .i64 0, .int .i64 0, .int .i64 0, .int .i64 0, .int .u64 0, .int .u64 0, .int .u64 0, .int .u64 0, .int .u64 0, .int .u64 0, .int .u64 0, .int .u64 0, .int .u64 0, .int .u64 0, .int .u64 0, .int .u64 0, .int .u64 0, .int .u64 0, .int .u64 0, .int .u64 0, .int .u64 0, .int .u64 0, .slice none 0 0] 80)) Y30.heap.size 80 [.int .u64 0, .int .i64 0, .int .i64 0, .int .i64 0, .int .i64 0, .int .u64 0, .int .u64 0, .int .u64 0, .int .u64 0, .int .u64 0, .int .u64 0, .int .u64 0, .int .u64 0, .int .u64 0, .int .u64 0, .int .u64 0, .int .u64 0, .int .u64 0, .int .u64 0, .int .u64 0, .int .u64 0, .int .u64 0, .int .u64 0, .slice none 0 0] at hb
          have hx := (Ext.rfl' Y30).alloc (.cells #[.int .u64 0, .int .i64 0, .int .i64 0, .int .i64 0, .int .i64 0, .int .u64 0, .int .u64 0, .int .u64 0, .int .u64 0, .int .u64 0, .int .u64 0, .int .u64 0, .int .u64 0, .int .u64 0, .int .u64 0, .int .u64 0, .int .u64 0, .int .u64 0, .int .u64 0, .int .u64 0, .int .u64 0, .int .u64 0, .int .u64 0, .slice none 0 0] 80)
          have oA5 := HKA.out.offNew
          have hne : b4 ≠ Y30.heap.size := Nat.ne_of_lt HB4.out.lt
          obtain ⟨b5, hbq⟩ : ∃ b, b = Y30.heap.size := ⟨_, rfl⟩
          have hge5 : Y0.heap.size ≤ b5 := by rw [hbq]; exact HY.out.size
          have HB5 := Lib.hid hb
          replace HKA := Lib.hid (HKA.out.ext hx)
          replace HB4 := Lib.hid (HB4.out.ext hx)
          replace HY := Lib.hid (HY.out.tr hx)
          clear hx hb
          generalize Y30.alloc (.cells #[.int .u64 0, .int .i64 0, .int .i64 0, .int .i64 0, .int .i64 0, .int .u64 0, .int .u64 0, .int .u64 0, .int .u64 0, .int .u64 0, .int .u64 0, .int .u64 0, .int .u64 0, .int .u64 0, .int .u64 0, .int .u64 0, .int .u64 0, .int .u64 0, .int .u64 0, .int .u64 0, .int .u64 0, .int .u64 0, .int .u64 0, .slice none 0 0] 80) = Y35 at *
          rw [← hbq] at HB5 oA5 hne ⊢
          clear hbq
          refine hK.out _ _ (HCE.out _ HY.out) (fun hHeld => ?_)
          clear hK K
          try simp only [Act.put, List.setIfInBounds_toArray, List.set_cons_zero, List.set_cons_succ]
          refine wpAnyH_ready (rs := [3]) (by kernel_rfl) (by simp) ?_
          refine AllReadyH.cons (by first | (simp only [List.getElem?_toArray, List.getElem?_cons_zero, List.getElem?_cons_succ]; done) | (simp only [List.getElem?_toArray, List.getElem?_cons_zero, List.getElem?_cons_succ]; rfl)) (fun K hK => ?_) ?_
          · skip
            go_simp
            refine (HTS.out _ (Ext.tr HX.out HY.out)).mono ?_
            rintro e Y36 ⟨⟨P', p', rfl, hr, hf⟩, hx⟩
            have oP4 := Off.fresh (xs := PT) hf (show b4 < Y35.heap.size from HB4.out.lt)
            have oP5 := Off.fresh (xs := PT) hf (show b5 < Y35.heap.size from HB5.out.lt)
            have HPA := Lib.hid hr
            replace HKA := Lib.hid (HKA.out.ext hx)
            replace HB4 := Lib.hid (HB4.out.ext hx)
            replace HB5 := Lib.hid (HB5.out.ext hx)
            replace HY := Lib.hid (HY.out.tr hx)
            clear hx hr hf
            try (go_wp2_with fail)
            refine hK.out _ _ (HCE.out _ HY.out) (fun hHeld => ?_)
            clear hK K
            try simp only [Act.put, List.setIfInBounds_toArray, List.set_cons_zero, List.set_cons_succ]
            refine wpAnyH_ready (rs := [6]) (by kernel_rfl) (by simp) ?_
            refine AllReadyH.cons (by first | (simp only [List.getElem?_toArray, List.getElem?_cons_zero, List.getElem?_cons_succ]; done) | (simp only [List.getElem?_toArray, List.getElem?_cons_zero, List.getElem?_cons_succ]; rfl)) (fun K hK => ?_) ?_
            · skip
              rw [if_pos (by rfl)]
              have hth : Y36.there b4 0 (KG A' c').toArray.size := by
                have h := HB4.out.there
                rw [List.size_toArray, hKl A' c']
                exact h
              refine wp_store_mid _ _ _ rfl b4 0 (KG A' c').toArray rfl rfl hth (by rw [List.size_toArray, hKl A' c']; rfl) (all_oneCell_toArray (hKo A' c')) ?_
              rw [List.toList_toArray]
              have k1 : Blk (Y36.setCells b4 0 (KG A' c')) b4 77 (KG A' c') := HB4.out.put (by rw [hKl A' c']; rfl)
              have k2 := HB5.out.others (b := b4) (by omega) (KG A' c') 0
              have k3 := Rd.setOff oA4 0 (KG A' c') HKA.out
              have k4 := Rd.setOff oP4 0 (KG A' c') HPA.out
              have k5 : Ext Y0 (Y36.setCells b4 0 (KG A' c')) := Ext.setCells (by show Y0.heap.size ≤ b4; omega) _ _ _ HY.out
              clear HB4 HB5 HKA HPA HY hth
              have HB4 := Lib.hid k1
              have HB5 := Lib.hid k2
              have HKA := Lib.hid k3
              have HPA := Lib.hid k4
              have HY := Lib.hid k5
              clear k1 k2 k3 k4 k5
              generalize Y36.setCells b4 0 (KG A' c') = Y37 at *
              refine hK.out _ _ (HCE.out _ HY.out) (fun hHeld => ?_)
              clear hK K
              try simp only [Act.put, List.setIfInBounds_toArray, List.set_cons_zero, List.set_cons_succ]
              refine wpAnyH_ready (rs := [7]) (by kernel_rfl) (by simp) ?_
              refine AllReadyH.cons (by first | (simp only [List.getElem?_toArray, List.getElem?_cons_zero, List.getElem?_cons_succ]; done) | (simp only [List.getElem?_toArray, List.getElem?_cons_zero, List.getElem?_cons_succ]; rfl)) (fun K hK => ?_) ?_
              · skip
                rw [if_pos (by rfl)]
                have hth : Y37.there b5 0 (SG P' p').toArray.size := by
                  have h := HB5.out.there
                  rw [List.size_toArray, hSl P' p']
                  exact h
                refine wp_store_mid _ _ _ rfl b5 0 (SG P' p').toArray rfl rfl hth (by rw [List.size_toArray, hSl P' p']; rfl) (all_oneCell_toArray (hSo P' p')) ?_
                rw [List.toList_toArray]
                have k1 : Blk (Y37.setCells b5 0 (SG P' p')) b5 80 (SG P' p') := HB5.out.put (by rw [hSl P' p']; rfl)
                have k2 := HB4.out.others (b := b5) (by omega) (SG P' p') 0
                have k3 := Rd.setOff oA5 0 (SG P' p') HKA.out
                have k4 := Rd.setOff oP5 0 (SG P' p') HPA.out
                have k5 : Ext Y0 (Y37.setCells b5 0 (SG P' p')) := Ext.setCells (by show Y0.heap.size ≤ b5; omega) _ _ _ HY.out
                clear HB4 HB5 HKA HPA HY hth
                have HB5 := Lib.hid k1
                have HB4 := Lib.hid k2
                have HKA := Lib.hid k3
                have HPA := Lib.hid k4
                have HY := Lib.hid k5
                clear k1 k2 k3 k4 k5
                generalize Y37.setCells b5 0 (SG P' p') = Y38 at *
                refine hK.out _ _ (HCE.out _ HY.out) (fun hHeld => ?_)
                clear hK K
                try simp only [Act.put, List.setIfInBounds_toArray, List.set_cons_zero, List.set_cons_succ]
                refine wpAnyH_done (by kernel_rfl) ?_ _
                clear hHeld
                go_wp2_with fail
                go_meet
                exact ⟨b4, b5, A', P', c', p', rfl, rfl, HB4.out, HB5.out, HKA.out, HPA.out, HY.out⟩
              exact AllReadyH.nil
            exact AllReadyH.nil
          exact AllReadyH.nil
        exact AllReadyH.nil
      refine AllReadyH.cons (by first | (simp only [List.getElem?_toArray, List.getElem?_cons_zero, List.getElem?_cons_succ]; done) | (simp only [List.getElem?_toArray, List.getElem?_cons_zero, List.getElem?_cons_succ]; rfl)) (fun K hK => ?_) ?_
      · skip
        go_simp
        have hb := Blk.new Y29 80 [.int .u64 0, .int .i64 0, .int .i64 0, .int .i64 0, .int .i64 0, .int .u64 0, .int .u64 0, .int .u64 0, .int .u64 0, .int .u64 0, .int .u64 0, .int .u64 0, .int .u64 0, .int .u64 0, .int .u64 0, .int .u64 0, .int .u64 0, .int .u64 0, .int .u64 0, .int .u64 0, .int .u64 0, .int .u64 0, .int .u64 0, .slice none 0 0]
        change Blk (Y29.alloc (.cells #[.int .u64 0, .int .i64 0, .int .i64 0, .int .i64 0, .int .i64 0, .int .u64 0, .int .u64 0, .int .u64 0, .int .u64 0, .int .u64 0, .int .u64 0, .int .u64 0, .int .u64 0, .int .u64 0, .int .u64 0, .int .u64 0, .int .u64 0, .int .u64 0, .int .u64 0, .int .u64 0, .int .u64 0, .int .u64 0, .int .u64 0, .slice none 0 0] 80)) Y29.heap.size 80 [.int .u64 0, .int .i64 0, .int .i64 0, .int .i64 0, .int .i64 0, .int .u64 0, .int .u64 0, .int .u64 0, .int .u64 0, .int .u64 0, .int .u64 0, .int .u64 0, .int .u64 0, .int .u64 0, .int .u64 0, .int .u64 0, .int .u64 0, .int .u64 0, .int .u64 0, .int .u64 0, .int .u64 0, .int .u64 0, .int .u64 0, .slice none 0 0] at hb
        have hx := (Ext.rfl' Y29).alloc (.cells #[.int .u64 0, .int .i64 0, .int .i64 0, .int .i64 0, .int .i64 0, .int .u64 0, .int .u64 0, .int .u64 0, .int .u64 0, .int .u64 0, .int .u64 0, .int .u64 0, .int .u64 0, .int .u64 0, .int .u64 0, .int .u64 0, .int .u64 0, .int .u64 0, .int .u64 0, .int .u64 0, .int .u64 0, .int .u64 0, .int .u64 0, .slice none 0 0] 80)
        have hne : b4 ≠ Y29.heap.size := Nat.ne_of_lt HB4.out.lt
        obtain ⟨b5, hbq⟩ : ∃ b, b = Y29.heap.size := ⟨_, rfl⟩
        have hge5 : Y0.heap.size ≤ b5 := by rw [hbq]; exact HY.out.size
        have HB5 := Lib.hid hb
        replace HB4 := Lib.hid (HB4.out.ext hx)
        replace HY := Lib.hid (HY.out.tr hx)
        clear hx hb
        generalize Y29.alloc (.cells #[.int .u64 0, .int .i64 0, .int .i64 0, .int .i64 0, .int .i64 0, .int .u64 0, .int .u64 0, .int .u64 0, .int .u64 0, .int .u64 0, .int .u64 0, .int .u64 0, .int .u64 0, .int .u64 0, .int .u64 0, .int .u64 0, .int .u64 0, .int .u64 0, .int .u64 0, .int .u64 0, .int .u64 0, .int .u64 0, .int .u64 0, .slice none 0 0] 80) = Y39 at *
        rw [← hbq] at HB5 hne ⊢
        clear hbq
        refine hK.out _ _ (HCE.out _ HY.out) (fun hHeld => ?_)
        clear hK K
        try simp only [Act.put, List.setIfInBounds_toArray, List.set_cons_zero, List.set_cons_succ]
        refine wpAnyH_ready (rs := [1]) (by kernel_rfl) (by simp) ?_
        refine AllReadyH.cons (by first | (simp only [List.getElem?_toArray, List.getElem?_cons_zero, List.getElem?_cons_succ]; done) | (simp only [List.getElem?_toArray, List.getElem?_cons_zero, List.getElem?_cons_succ]; rfl)) (fun K hK => ?_) ?_
        · skip
          go_simp
          refine (HTK.out _ (Ext.tr HX.out HY.out)).mono ?_
          rintro e Y40 ⟨⟨A', c', rfl, hr, hf⟩, hx⟩
          have oA4 := Off.fresh (xs := LT) hf (show b4 < Y39.heap.size from HB4.out.lt)
          have oA5 := Off.fresh (xs := LT) hf (show b5 < Y39.heap.size from HB5.out.lt)
          have HKA := Lib.hid hr
          replace HB4 := Lib.hid (HB4.out.ext hx)
          replace HB5 := Lib.hid (HB5.out.ext hx)
          replace HY := Lib.hid (HY.out.tr hx)
          clear hx hr hf
          try (go_wp2_with fail)
          refine hK.out _ _ (HCE.out _ HY.out) (fun hHeld => ?_)
          clear hK K
          try simp only [Act.put, List.setIfInBounds_toArray, List.set_cons_zero, List.set_cons_succ]
          refine wpAnyH_ready (rs := [3]) (by kernel_rfl) (by simp) ?_
          refine AllReadyH.cons (by first | (simp only [List.getElem?_toArray, List.getElem?_cons_zero, List.getElem?_cons_succ]; done) | (simp only [List.getElem?_toArray, List.getElem?_cons_zero, List.getElem?_cons_succ]; rfl)) (fun K hK => ?_) ?_
          · skip
            go_simp
            refine (HTS.out _ (Ext.tr HX.out HY.out)).mono ?_
            rintro e Y41 ⟨⟨P', p', rfl, hr, hf⟩, hx⟩
            have oP4 := Off.fresh (xs := PT) hf (show b4 < Y40.heap.size from HB4.out.lt)
            have oP5 := Off.fresh (xs := PT) hf (show b5 < Y40.heap.size from HB5.out.lt)
            have HPA := Lib.hid hr
            replace HKA := Lib.hid (HKA.out.ext hx)
            replace HB4 := Lib.hid (HB4.out.ext hx)
            replace HB5 := Lib.hid (HB5.out.ext hx)
            replace HY := Lib.hid (HY.out.tr hx)
            clear hx hr hf
            try (go_wp2_with fail)
            refine hK.out _ _ (HCE.out _ HY.out) (fun hHeld => ?_)
            clear hK K
            try simp only [Act.put, List.setIfInBounds_toArray, List.set_cons_zero, List.set_cons_succ]
            refine wpAnyH_ready (rs := [6]) (by kernel_rfl) (by simp) ?_
            refine AllReadyH.cons (by first | (simp only [List.getElem?_toArray, List.getElem?_cons_zero, List.getElem?_cons_succ]; done) | (simp only [List.getElem?_toArray, List.getElem?_cons_zero, List.getElem?_cons_succ]; rfl)) (fun K hK => ?_) ?_
            · skip
              rw [if_pos (by rfl)]
              have hth : Y41.there b4 0 (KG A' c').toArray.size := by
                have h := HB4.out.there
                rw [List.size_toArray, hKl A' c']
                exact h
              refine wp_store_mid _ _ _ rfl b4 0 (KG A' c').toArray rfl rfl hth (by rw [List.size_toArray, hKl A' c']; rfl) (all_oneCell_toArray (hKo A' c')) ?_
              rw [List.toList_toArray]
              have k1 : Blk (Y41.setCells b4 0 (KG A' c')) b4 77 (KG A' c') := HB4.out.put (by rw [hKl A' c']; rfl)
              have k2 := HB5.out.others (b := b4) (by omega) (KG A' c') 0
              have k3 := Rd.setOff oA4 0 (KG A' c') HKA.out
              have k4 := Rd.setOff oP4 0 (KG A' c') HPA.out
              have k5 : Ext Y0 (Y41.setCells b4 0 (KG A' c')) := Ext.setCells (by show Y0.heap.size ≤ b4; omega) _ _ _ HY.out
              clear HB4 HB5 HKA HPA HY hth
              have HB4 := Lib.hid k1
              have HB5 := Lib.hid k2
              have HKA := Lib.hid k3
              have HPA := Lib.hid k4
              have HY := Lib.hid k5
              clear k1 k2 k3 k4 k5
              generalize Y41.setCells b4 0 (KG A' c') = Y42 at *
              refine hK.out _ _ (HCE.out _ HY.out) (fun hHeld => ?_)
              clear hK K
              try simp only [Act.put, List.setIfInBounds_toArray, List.set_cons_zero, List.set_cons_succ]
              refine wpAnyH_ready (rs := [7]) (by kernel_rfl) (by simp) ?_
              refine AllReadyH.cons (by first | (simp only [List.getElem?_toArray, List.getElem?_cons_zero, List.getElem?_cons_succ]; done) | (simp only [List.getElem?_toArray, List.getElem?_cons_zero, List.getElem?_cons_succ]; rfl)) (fun K hK => ?_) ?_
              · skip
                rw [if_pos (by rfl)]
                have hth : Y42.there b5 0 (SG P' p').toArray.size := by
                  have h := HB5.out.there
                  rw [List.size_toArray, hSl P' p']
                  exact h
                refine wp_store_mid _ _ _ rfl b5 0 (SG P' p').toArray rfl rfl hth (by rw [List.size_toArray, hSl P' p']; rfl) (all_oneCell_toArray (hSo P' p')) ?_
                rw [List.toList_toArray]
                have k1 : Blk (Y42.setCells b5 0 (SG P' p')) b5 80 (SG P' p') := HB5.out.put (by rw [hSl P' p']; rfl)
                have k2 := HB4.out.others (b := b5) (by omega) (SG P' p') 0
                have k3 := Rd.setOff oA5 0 (SG P' p') HKA.out
                have k4 := Rd.setOff oP5 0 (SG P' p') HPA.out
                have k5 : Ext Y0 (Y42.setCells b5 0 (SG P' p')) := Ext.setCells (by show Y0.heap.size ≤ b5; omega) _ _ _ HY.out
                clear HB4 HB5 HKA HPA HY hth
                have HB5 := Lib.hid k1
                have HB4 := Lib.hid k2
                have HKA := Lib.hid k3
                have HPA := Lib.hid k4
                have HY := Lib.hid k5
                clear k1 k2 k3 k4 k5
                generalize Y42.setCells b5 0 (SG P' p') = Y43 at *
                refine hK.out _ _ (HCE.out _ HY.out) (fun hHeld => ?_)
                clear hK K
                try simp only [Act.put, List.setIfInBounds_toArray, List.set_cons_zero, List.set_cons_succ]
                refine wpAnyH_done (by kernel_rfl) ?_ _
                clear hHeld
                go_wp2_with fail
                go_meet
                exact ⟨b4, b5, A', P', c', p', rfl, rfl, HB4.out, HB5.out, HKA.out, HPA.out, HY.out⟩
              exact AllReadyH.nil
            exact AllReadyH.nil
          exact AllReadyH.nil
        exact AllReadyH.nil
      exact AllReadyH.nil
    refine AllReadyH.cons (by first | (simp only [List.getElem?_toArray, List.getElem?_cons_zero, List.getElem?_cons_succ]; done) | (simp only [List.getElem?_toArray, List.getElem?_cons_zero, List.getElem?_cons_succ]; rfl)) (fun K hK => ?_) ?_
    · skip
      go_simp
      have hb := Blk.new Y0 80 [.int .u64 0, .int .i64 0, .int .i64 0, .int .i64 0, .int .i64 0, .int .u64 0, .int .u64 0, .int .u64 0, .int .u64 0, .int .u64 0, .int .u64 0, .int .u64 0, .int .u64 0, .int .u64 0, .int .u64 0, .int .u64 0, .int .u64 0, .int .u64 0, .int .u64 0, .int .u64 0, .int .u64 0, .int .u64 0, .int .u64 0, .slice none 0 0]
      change Blk (Y0.alloc (.cells #[.int .u64 0, .int .i64 0, .int .i64 0, .int .i64 0, .int .i64 0, .int .u64 0, .int .u64 0, .int .u64 0, .int .u64 0, .int .u64 0, .int .u64 0, .int .u64 0, .int .u64 0, .int .u64 0, .int .u64 0, .int .u64 0, .int .u64 0, .int .u64 0, .int .u64 0, .int .u64 0, .int .u64 0, .int .u64 0, .int .u64 0, .slice none 0 0] 80)) Y0.heap.size 80 [.int .u64 0, .int .i64 0, .int .i64 0, .int .i64 0, .int .i64 0, .int .u64 0, .int .u64 0, .int .u64 0, .int .u64 0, .int .u64 0, .int .u64 0, .int .u64 0, .int .u64 0, .int .u64 0, .int .u64 0, .int .u64 0, .int .u64 0, .int .u64 0, .int .u64 0, .int .u64 0, .int .u64 0, .int .u64 0, .int .u64 0, .slice none 0 0] at hb
      have hx := (Ext.rfl' Y0).alloc (.cells #[.int .u64 0, .int .i64 0, .int .i64 0, .int .i64 0, .int .i64 0, .int .u64 0, .int .u64 0, .int .u64 0, .int .u64 0, .int .u64 0, .int .u64 0, .int .u64 0, .int .u64 0, .int .u64 0, .int .u64 0, .int .u64 0, .int .u64 0, .int .u64 0, .int .u64 0, .int .u64 0, .int .u64 0, .int .u64 0, .int .u64 0, .slice none 0 0] 80)
      obtain ⟨b5, hbq⟩ : ∃ b, b = Y0.heap.size := ⟨_, rfl⟩
      have hge5 : Y0.heap.size ≤ b5 := by rw [hbq]; exact HY.out.size
      have HB5 := Lib.hid hb
      replace HY := Lib.hid (HY.out.tr hx)
      clear hx hb
      generalize Y0.alloc (.cells #[.int .u64 0, .int .i64 0, .int .i64 0, .int .i64 0, .int .i64 0, .int .u64 0, .int .u64 0, .int .u64 0, .int .u64 0, .int .u64 0, .int .u64 0, .int .u64 0, .int .u64 0, .int .u64 0, .int .u64 0, .int .u64 0, .int .u64 0, .int .u64 0, .int .u64 0, .int .u64 0, .int .u64 0, .int .u64 0, .int .u64 0, .slice none 0 0] 80) = Y44 at *
      rw [← hbq] at HB5 ⊢
      clear hbq
      refine hK.out _ _ (HCE.out _ HY.out) (fun hHeld => ?_)
      clear hK K
      try simp only [Act.put, List.setIfInBounds_toArray, List.set_cons_zero, List.set_cons_succ]
      refine wpAnyH_ready (rs := [1, 4]) (by kernel_rfl) (by simp) ?_
      refine AllReadyH.cons (by first | (simp only [List.getElem?_toArray, List.getElem?_cons_zero, List.getElem?_cons_succ]; done) | (simp only [List.getElem?_toArray, List.getElem?_cons_zero, List.getElem?_cons_succ]; rfl)) (fun K hK => ?_) ?_
      · skip
        go_simp
        refine (HTK.out _ (Ext.tr HX.out HY.out)).mono ?_
        rintro e Y45 ⟨⟨A', c', rfl, hr, hf⟩, hx⟩
        have oA5 := Off.fresh (xs := LT) hf (show b5 < Y44.heap.size from HB5.out.lt)
        have HKA := Lib.hid hr
        replace HB5 := Lib.hid (HB5.out.ext hx)
        replace HY := Lib.hid (HY.out.tr hx)
        clear hx hr hf
        try (go_wp2_with fail)
        refine hK.out _ _ (HCE.out _ HY.out) (fun hHeld => ?_)
        clear hK K
        try simp only [Act.put, List.setIfInBounds_toArray, List.set_cons_zero, List.set_cons_succ]
        refine wpAnyH_ready (rs := [3, 4]) (by kernel_rfl) (by simp) ?_
        refine AllReadyH.cons (by first | (simp only [List.getElem?_toArray, List.getElem?_cons_zero, List.getElem?_cons_succ]; done) | (simp only [List.getElem?_toArray, List.getElem?_cons_zero, List.getElem?_cons_succ]; rfl)) (fun K hK => ?_) ?_
        · skip
          go_simp
          refine (HTS.out _ (Ext.tr HX.out HY.out)).mono ?_
          rintro e Y46 ⟨⟨P', p', rfl, hr, hf⟩, hx⟩
          have oP5 := Off.fresh (xs := PT) hf (show b5 < Y45.heap.size from HB5.out.lt)
          have HPA := Lib.hid hr
          replace HKA := Lib.hid (HKA.out.ext hx)
          replace HB5 := Lib.hid (HB5.out.ext hx)
          replace HY := Lib.hid (HY.out.tr hx)
          clear hx hr hf
          try (go_wp2_with fail)
          refine hK.out _ _ (HCE.out _ HY.out) (fun hHeld => ?_)
          clear hK K
          try simp only [Act.put, List.setIfInBounds_toArray, List.set_cons_zero, List.set_cons_succ]
          refine wpAnyH_ready (rs := [4]) (by kernel_rfl) (by simp) ?_
          refine AllReadyH.cons (by first | (simp only [List.getElem?_toArray, List.getElem?_cons_zero, List.getElem?_cons_succ]; done) | (simp only [List.getElem?_toArray, List.getElem?_cons_zero, List.getElem?_cons_succ]; rfl)) (fun K hK => ?_) ?_
          · skip
            go_simp
            have hb := Blk.new Y46 77 [.int .i64 0, .slice none 0 0, .int .i64 0]
            change Blk (Y46.alloc (.cells #[.int .i64 0, .slice none 0 0, .int .i64 0] 77)) Y46.heap.size 77 [.int .i64 0, .slice none 0 0, .int .i64 0] at hb
            have hx := (Ext.rfl' Y46).alloc (.cells #[.int .i64 0, .slice none 0 0, .int .i64 0] 77)
            have oA4 := HKA.out.offNew
            have oP4 := HPA.out.offNew
            have hne : b5 ≠ Y46.heap.size := Nat.ne_of_lt HB5.out.lt
            obtain ⟨b4, hbq⟩ : ∃ b, b = Y46.heap.size := ⟨_, rfl⟩
            have hge4 : Y0.heap.size ≤ b4 := by rw [hbq]; exact HY.out.size
            have HB4 := Lib.hid hb
            replace HKA := Lib.hid (HKA.out.ext hx)
            replace HPA := Lib.hid (HPA.out.ext hx)
            replace HB5 := Lib.hid (HB5.out.ext hx)
            replace HY := Lib.hid (HY.out.tr hx)
            clear hx hb
            generalize Y46.alloc (.cells #[.int .i64 0, .slice none 0 0, .int .i64 0] 77) = Y47 at *
            rw [← hbq] at HB4 oA4 oP4 hne ⊢
            clear hbq
            refine hK.out _ _ (HCE.out _ HY.out) (fun hHeld => ?_)
            clear hK K
            try simp only [Act.put, List.setIfInBounds_toArray, List.set_cons_zero, List.set_cons_succ]
            refine wpAnyH_ready (rs := [6]) (by kernel_rfl) (by simp) ?_
            refine AllReadyH.cons (by first | (simp only [List.getElem?_toArray, List.getElem?_cons_zero, List.getElem?_cons_succ]; done) | (simp only [List.getElem?_toArray, List.getElem?_cons_zero, List.getElem?_cons_succ]; rfl)) (fun K hK => ?_) ?_
            · skip
              rw [if_pos (by rfl)]
              have hth : Y47.there b4 0 (KG A' c').toArray.size := by
                have h := HB4.out.there
                rw [List.size_toArray, hKl A' c']
                exact h
              refine wp_store_mid _ _ _ rfl b4 0 (KG A' c').toArray rfl rfl hth (by rw [List.size_toArray, hKl A' c']; rfl) (all_oneCell_toArray (hKo A' c')) ?_
              rw [List.toList_toArray]
              have k1 : Blk (Y47.setCells b4 0 (KG A' c')) b4 77 (KG A' c') := HB4.out.put (by rw [hKl A' c']; rfl)
              have k2 := HB5.out.others (b := b4) (by omega) (KG A' c') 0
              have k3 := Rd.setOff oA4 0 (KG A' c') HKA.out
              have k4 := Rd.setOff oP4 0 (KG A' c') HPA.out
              have k5 : Ext Y0 (Y47.setCells b4 0 (KG A' c')) := Ext.setCells (by show Y0.heap.size ≤ b4; omega) _ _ _ HY.out
              clear HB4 HB5 HKA HPA HY hth
              have HB4 := Lib.hid k1
              have HB5 := Lib.hid k2
              have HKA := Lib.hid k3
              have HPA := Lib.hid k4
              have HY := Lib.hid k5
              clear k1 k2 k3 k4 k5
              generalize Y47.setCells b4 0 (KG A' c') = Y48 at *
              refine hK.out _ _ (HCE.out _ HY.out) (fun hHeld => ?_)
              clear hK K
              try simp only [Act.put, List.setIfInBounds_toArray, List.set_cons_zero, List.set_cons_succ]
              refine wpAnyH_ready (rs := [7]) (by kernel_rfl) (by simp) ?_
              refine AllReadyH.cons (by first | (simp only [List.getElem?_toArray, List.getElem?_cons_zero, List.getElem?_cons_succ]; done) | (simp only [List.getElem?_toArray, List.getElem?_cons_zero, List.getElem?_cons_succ]; rfl)) (fun K hK => ?_) ?_
              · skip
                rw [if_pos (by rfl)]
                have hth : Y48.there b5 0 (SG P' p').toArray.size := by
                  have h := HB5.out.there
                  rw [List.size_toArray, hSl P' p']
                  exact h
                refine wp_store_mid _ _ _ rfl b5 0 (SG P' p').toArray rfl rfl hth (by rw [List.size_toArray, hSl P' p']; rfl) (all_oneCell_toArray (hSo P' p')) ?_
                rw [List.toList_toArray]
                have k1 : Blk (Y48.setCells b5 0 (SG P' p')) b5 80 (SG P' p') := HB5.out.put (by rw [hSl P' p']; rfl)
                have k2 := HB4.out.others (b := b5) (by omega) (SG P' p') 0
                have k3 := Rd.setOff oA5 0 (SG P' p') HKA.out
                have k4 := Rd.setOff oP5 0 (SG P' p') HPA.out
                have k5 : Ext Y0 (Y48.setCells b5 0 (SG P' p')) := Ext.setCells (by show Y0.heap.size ≤ b5; omega) _ _ _ HY.out
                clear HB4 HB5 HKA HPA HY hth
                have HB5 := Lib.hid k1
                have HB4 := Lib.hid k2
                have HKA := Lib.hid k3
                have HPA := Lib.hid k4
                have HY := Lib.hid k5
                clear k1 k2 k3 k4 k5
                generalize Y48.setCells b5 0 (SG P' p') = Y49 at *
                refine hK.out _ _ (HCE.out _ HY.out) (fun hHeld => ?_)
                clear hK K
                try simp only [Act.put, List.setIfInBounds_toArray, List.set_cons_zero, List.set_cons_succ]
                refine wpAnyH_done (by kernel_rfl) ?_ _
                clear hHeld
                go_wp2_with fail
                go_meet
                exact ⟨b4, b5, A', P', c', p', rfl, rfl, HB4.out, HB5.out, HKA.out, HPA.out, HY.out⟩
              exact AllReadyH.nil
            exact AllReadyH.nil
          exact AllReadyH.nil
        refine AllReadyH.cons (by first | (simp only [List.getElem?_toArray, List.getElem?_cons_zero, List.getElem?_cons_succ]; done) | (simp only [List.getElem?_toArray, List.getElem?_cons_zero, List.getElem?_cons_succ]; rfl)) (fun K hK => ?_) ?_
        · skip
          go_simp
          have hb := Blk.new Y45 77 [.int .i64 0, .slice none 0 0, .int .i64 0]
          change Blk (Y45.alloc (.cells #[.int .i64 0, .slice none 0 0, .int .i64 0] 77)) Y45.heap.size 77 [.int .i64 0, .slice none 0 0, .int .i64 0] at hb
          have hx := (Ext.rfl' Y45).alloc (.cells #[.int .i64 0, .slice none 0 0, .int .i64 0] 77)
          have oA4 := HKA.out.offNew
          have hne : b5 ≠ Y45.heap.size := Nat.ne_of_lt HB5.out.lt
          obtain ⟨b4, hbq⟩ : ∃ b, b = Y45.heap.size := ⟨_, rfl⟩
          have hge4 : Y0.heap.size ≤ b4 := by rw [hbq]; exact HY.out.size
          have HB4 := Lib.hid hb
          replace HKA := Lib.hid (HKA.out.ext hx)
          replace HB5 := Lib.hid (HB5.out.ext hx)
          replace HY := Lib.hid (HY.out.tr hx)
          clear hx hb
          generalize Y45.alloc (.cells #[.int .i64 0, .slice none 0 0, .int .i64 0] 77) = Y50 at *
          rw [← hbq] at HB4 oA4 hne ⊢
          clear hbq
          refine hK.out _ _ (HCE.out _ HY.out) (fun hHeld => ?_)
          clear hK K
          try simp only [Act.put, List.setIfInBounds_toArray, List.set_cons_zero, List.set_cons_succ]
          refine wpAnyH_ready (rs := [3]) (by kernel_rfl) (by simp) ?_
          refine AllReadyH.cons (by first | (simp only [List.getElem?_toArray, List.getElem?_cons_zero, List.getElem?_cons_succ]; done) | (simp only [List.getElem?_toArray, List.getElem?_cons_zero, List.getElem?_cons_succ]; rfl)) (fun K hK => ?_) ?_
          · skip
            go_simp
            refine (HTS.out _ (Ext.tr HX.out HY.out)).mono ?_
            rintro e Y51 ⟨⟨P', p', rfl, hr, hf⟩, hx⟩
            have oP4 := Off.fresh (xs := PT) hf (show b4 < Y50.heap.size from HB4.out.lt)
            have oP5 := Off.fresh (xs := PT) hf (show b5 < Y50.heap.size from HB5.out.lt)
            have HPA := Lib.hid hr
            replace HKA := Lib.hid (HKA.out.ext hx)
            replace HB4 := Lib.hid (HB4.out.ext hx)
            replace HB5 := Lib.hid (HB5.out.ext hx)
            replace HY := Lib.hid (HY.out.tr hx)
            clear hx hr hf
            try (go_wp2_with fail)
            refine hK.out _ _ (HCE.out _ HY.out) (fun hHeld => ?_)
            clear hK K
            try simp only [Act.put, List.setIfInBounds_toArray, List.set_cons_zero, List.set_cons_succ]
            refine wpAnyH_ready (rs := [6]) (by kernel_rfl) (by simp) ?_
            refine AllReadyH.cons (by first | (simp only [List.getElem?_toArray, List.getElem?_cons_zero, List.getElem?_cons_succ]; done) | (simp only [List.getElem?_toArray, List.getElem?_cons_zero, List.getElem?_cons_succ]; rfl)) (fun K hK => ?_) ?_
            · skip
              rw [if_pos (by rfl)]
              have hth : Y51.there b4 0 (KG A' c').toArray.size := by
                have h := HB4.out.there
                rw [List.size_toArray, hKl A' c']
                exact h
              refine wp_store_mid _ _ _ rfl b4 0 (KG A' c').toArray rfl rfl hth (by rw [List.size_toArray, hKl A' c']; rfl) (all_oneCell_toArray (hKo A' c')) ?_
              rw [List.toList_toArray]
              have k1 : Blk (Y51.setCells b4 0 (KG A' c')) b4 77 (KG A' c') := HB4.out.put (by rw [hKl A' c']; rfl)
              have k2 := HB5.out.others (b := b4) (by omega) (KG A' c') 0
              have k3 := Rd.setOff oA4 0 (KG A' c') HKA.out
              have k4 := Rd.setOff oP4 0 (KG A' c') HPA.out
              have k5 : Ext Y0 (Y51.setCells b4 0 (KG A' c')) := Ext.setCells (by show Y0.heap.size ≤ b4; omega) _ _ _ HY.out
              clear HB4 HB5 HKA HPA HY hth
              have HB4 := Lib.hid k1
              have HB5 := Lib.hid k2
              have HKA := Lib.hid k3
              have HPA := Lib.hid k4
              have HY := Lib.hid k5
              clear k1 k2 k3 k4 k5
              generalize Y51.setCells b4 0 (KG A' c') = Y52 at *
              refine hK.out _ _ (HCE.out _ HY.out) (fun hHeld => ?_)
              clear hK K
              try simp only [Act.put, List.setIfInBounds_toArray, List.set_cons_zero, List.set_cons_succ]
              refine wpAnyH_ready (rs := [7]) (by kernel_rfl) (by simp) ?_
              refine AllReadyH.cons (by first | (simp only [List.getElem?_toArray, List.getElem?_cons_zero, List.getElem?_cons_succ]; done) | (simp only [List.getElem?_toArray, List.getElem?_cons_zero, List.getElem?_cons_succ]; rfl)) (fun K hK => ?_) ?_
              · skip
                rw [if_pos (by rfl)]
                have hth : Y52.there b5 0 (SG P' p').toArray.size := by
                  have h := HB5.out.there
                  rw [List.size_toArray, hSl P' p']
                  exact h
                refine wp_store_mid _ _ _ rfl b5 0 (SG P' p').toArray rfl rfl hth (by rw [List.size_toArray, hSl P' p']; rfl) (all_oneCell_toArray (hSo P' p')) ?_
                rw [List.toList_toArray]
                have k1 : Blk (Y52.setCells b5 0 (SG P' p')) b5 80 (SG P' p') := HB5.out.put (by rw [hSl P' p']; rfl)
                have k2 := HB4.out.others (b := b5) (by omega) (SG P' p') 0
                have k3 := Rd.setOff oA5 0 (SG P' p') HKA.out
                have k4 := Rd.setOff oP5 0 (SG P' p') HPA.out
                have k5 : Ext Y0 (Y52.setCells b5 0 (SG P' p')) := Ext.setCells (by show Y0.heap.size ≤ b5; omega) _ _ _ HY.out
                clear HB4 HB5 HKA HPA HY hth
                have HB5 := Lib.hid k1
                have HB4 := Lib.hid k2
                have HKA := Lib.hid k3
                have HPA := Lib.hid k4
                have HY := Lib.hid k5
                clear k1 k2 k3 k4 k5
                generalize Y52.setCells b5 0 (SG P' p') = Y53 at *
                refine hK.out _ _ (HCE.out _ HY.out) (fun hHeld => ?_)
                clear hK K
                try simp only [Act.put, List.setIfInBounds_toArray, List.set_cons_zero, List.set_cons_succ]
                refine wpAnyH_done (by kernel_rfl) ?_ _
                clear hHeld
                go_wp2_with fail
                go_meet
                exact ⟨b4, b5, A', P', c', p', rfl, rfl, HB4.out, HB5.out, HKA.out, HPA.out, HY.out⟩
              exact AllReadyH.nil
            exact AllReadyH.nil
          exact AllReadyH.nil
        exact AllReadyH.nil
      refine AllReadyH.cons (by first | (simp only [List.getElem?_toArray, List.getElem?_cons_zero, List.getElem?_cons_succ]; done) | (simp only [List.getElem?_toArray, List.getElem?_cons_zero, List.getElem?_cons_succ]; rfl)) (fun K hK => ?_) ?_
      · skip
        go_simp
        have hb := Blk.new Y44 77 [.int .i64 0, .slice none 0 0, .int .i64 0]
        change Blk (Y44.alloc (.cells #[.int .i64 0, .slice none 0 0, .int .i64 0] 77)) Y44.heap.size 77 [.int .i64 0, .slice none 0 0, .int .i64 0] at hb
        have hx := (Ext.rfl' Y44).alloc (.cells #[.int .i64 0, .slice none 0 0, .int .i64 0] 77)
        have hne : b5 ≠ Y44.heap.size := Nat.ne_of_lt HB5.out.lt
        obtain ⟨b4, hbq⟩ : ∃ b, b = Y44.heap.size := ⟨_, rfl⟩
        have hge4 : Y0.heap.size ≤ b4 := by rw [hbq]; exact HY.out.size
        have HB4 := Lib.hid hb
        replace HB5 := Lib.hid (HB5.out.ext hx)
        replace HY := Lib.hid (HY.out.tr hx)
        clear hx hb
        generalize Y44.alloc (.cells #[.int .i64 0, .slice none 0 0, .int .i64 0] 77) = Y54 at *
        rw [← hbq] at HB4 hne ⊢
        clear hbq
        refine hK.out _ _ (HCE.out _ HY.out) (fun hHeld => ?_)
        clear hK K
        try simp only [Act.put, List.setIfInBounds_toArray, List.set_cons_zero, List.set_cons_succ]
        refine wpAnyH_ready (rs := [1]) (by kernel_rfl) (by simp) ?_
        refine AllReadyH.cons (by first | (simp only [List.getElem?_toArray, List.getElem?_cons_zero, List.getElem?_cons_succ]; done) | (simp only [List.getElem?_toArray, List.getElem?_cons_zero, List.getElem?_cons_succ]; rfl)) (fun K hK => ?_) ?_
        · skip
          go_simp
          refine (HTK.out _ (Ext.tr HX.out HY.out)).mono ?_
          rintro e Y55 ⟨⟨A', c', rfl, hr, hf⟩, hx⟩
          have oA4 := Off.fresh (xs := LT) hf (show b4 < Y54.heap.size from HB4.out.lt)
          have oA5 := Off.fresh (xs := LT) hf (show b5 < Y54.heap.size from HB5.out.lt)
          have HKA := Lib.hid hr
          replace HB4 := Lib.hid (HB4.out.ext hx)
          replace HB5 := Lib.hid (HB5.out.ext hx)
          replace HY := Lib.hid (HY.out.tr hx)
          clear hx hr hf
          try (go_wp2_with fail)
          refine hK.out _ _ (HCE.out _ HY.out) (fun hHeld => ?_)
          clear hK K
          try simp only [Act.put, List.setIfInBounds_toArray, List.set_cons_zero, List.set_cons_succ]
          refine wpAnyH_ready (rs := [3]) (by kernel_rfl) (by simp) ?_
          refine AllReadyH.cons (by first | (simp only [List.getElem?_toArray, List.getElem?_cons_zero, List.getElem?_cons_succ]; done) | (simp only [List.getElem?_toArray, List.getElem?_cons_zero, List.getElem?_cons_succ]; rfl)) (fun K hK => ?_) ?_
          · skip
            go_simp
            refine (HTS.out _ (Ext.tr HX.out HY.out)).mono ?_
            rintro e Y56 ⟨⟨P', p', rfl, hr, hf⟩, hx⟩
            have oP4 := Off.fresh (xs := PT) hf (show b4 < Y55.heap.size from HB4.out.lt)
            have oP5 := Off.fresh (xs := PT) hf (show b5 < Y55.heap.size from HB5.out.lt)
            have HPA := Lib.hid hr
            replace HKA := Lib.hid (HKA.out.ext hx)
            replace HB4 := Lib.hid (HB4.out.ext hx)
            replace HB5 := Lib.hid (HB5.out.ext hx)
            replace HY := Lib.hid (HY.out.tr hx)
            clear hx hr hf
            try (go_wp2_with fail)
            refine hK.out _ _ (HCE.out _ HY.out) (fun hHeld => ?_)
            clear hK K
            try simp only [Act.put, List.setIfInBounds_toArray, List.set_cons_zero, List.set_cons_succ]
            refine wpAnyH_ready (rs := [6]) (by kernel_rfl) (by simp) ?_
            refine AllReadyH.cons (by first | (simp only [List.getElem?_toArray, List.getElem?_cons_zero, List.getElem?_cons_succ]; done) | (simp only [List.getElem?_toArray, List.getElem?_cons_zero, List.getElem?_cons_succ]; rfl)) (fun K hK => ?_) ?_
            · skip
              rw [if_pos (by rfl)]
              have hth : Y56.there b4 0 (KG A' c').toArray.size := by
                have h := HB4.out.there
                rw [List.size_toArray, hKl A' c']
                exact h
              refine wp_store_mid _ _ _ rfl b4 0 (KG A' c').toArray rfl rfl hth (by rw [List.size_toArray, hKl A' c']; rfl) (all_oneCell_toArray (hKo A' c')) ?_
              rw [List.toList_toArray]
              have k1 : Blk (Y56.setCells b4 0 (KG A' c')) b4 77 (KG A' c') := HB4.out.put (by rw [hKl A' c']; rfl)
              have k2 := HB5.out.others (b := b4) (by omega) (KG A' c') 0
              have k3 := Rd.setOff oA4 0 (KG A' c') HKA.out
              have k4 := Rd.setOff oP4 0 (KG A' c') HPA.out
              have k5 : Ext Y0 (Y56.setCells b4 0 (KG A' c')) := Ext.setCells (by show Y0.heap.size ≤ b4; omega) _ _ _ HY.out
              clear HB4 HB5 HKA HPA HY hth
              have HB4 := Lib.hid k1
              have HB5 := Lib.hid k2
              have HKA := Lib.hid k3
              have HPA := Lib.hid k4
              have HY := Lib.hid k5
              clear k1 k2 k3 k4 k5
              generalize Y56.setCells b4 0 (KG A' c') = Y57 at *
              refine hK.out _ _ (HCE.out _ HY.out) (fun hHeld => ?_)
              clear hK K
              try simp only [Act.put, List.setIfInBounds_toArray, List.set_cons_zero, List.set_cons_succ]
              refine wpAnyH_ready (rs := [7]) (by kernel_rfl) (by simp) ?_
              refine AllReadyH.cons (by first | (simp only [List.getElem?_toArray, List.getElem?_cons_zero, List.getElem?_cons_succ]; done) | (simp only [List.getElem?_toArray, List.getElem?_cons_zero, List.getElem?_cons_succ]; rfl)) (fun K hK => ?_) ?_
              · skip
                rw [if_pos (by rfl)]
                have hth : Y57.there b5 0 (SG P' p').toArray.size := by
                  have h := HB5.out.there
                  rw [List.size_toArray, hSl P' p']
                  exact h
                refine wp_store_mid _ _ _ rfl b5 0 (SG P' p').toArray rfl rfl hth (by rw [List.size_toArray, hSl P' p']; rfl) (all_oneCell_toArray (hSo P' p')) ?_
                rw [List.toList_toArray]
                have k1 : Blk (Y57.setCells b5 0 (SG P' p')) b5 80 (SG P' p') := HB5.out.put (by rw [hSl P' p']; rfl)
                have k2 := HB4.out.others (b := b5) (by omega) (SG P' p') 0
                have k3 := Rd.setOff oA5 0 (SG P' p') HKA.out
                have k4 := Rd.setOff oP5 0 (SG P' p') HPA.out
                have k5 : Ext Y0 (Y57.setCells b5 0 (SG P' p')) := Ext.setCells (by show Y0.heap.size ≤ b5; omega) _ _ _ HY.out
                clear HB4 HB5 HKA HPA HY hth
                have HB5 := Lib.hid k1
                have HB4 := Lib.hid k2
                have HKA := Lib.hid k3
                have HPA := Lib.hid k4
                have HY := Lib.hid k5
                clear k1 k2 k3 k4 k5
                generalize Y57.setCells b5 0 (SG P' p') = Y58 at *
                refine hK.out _ _ (HCE.out _ HY.out) (fun hHeld => ?_)
                clear hK K
                try simp only [Act.put, List.setIfInBounds_toArray, List.set_cons_zero, List.set_cons_succ]
                refine wpAnyH_done (by kernel_rfl) ?_ _
                clear hHeld
                go_wp2_with fail
                go_meet
                exact ⟨b4, b5, A', P', c', p', rfl, rfl, HB4.out, HB5.out, HKA.out, HPA.out, HY.out⟩
              exact AllReadyH.nil
            exact AllReadyH.nil
          exact AllReadyH.nil
        exact AllReadyH.nil
      exact AllReadyH.nil
    exact AllReadyH.nil
  case rest =>
    obtain ⟨b5, b6, A', P', c', p', rfl, rfl, hb5, hb6, hra, hrp, hx⟩ := hcut
    replace HX := Lib.hid (Ext.tr HX.out hx)
    replace HB0 := Lib.hid (HB0.out.ext hx)
    replace HB1 := Lib.hid (HB1.out.ext hx)
    have HB5 := Lib.hid hb5
    have HB6 := Lib.hid hb6
    have HRA := Lib.hid hra
    have HRP := Lib.hid hrp
    clear hb5 hb6 hra hrp hx HTK HTS
    have hi5 : (Tryz.prog.info? 77).map (·.size) = some (KG A' c').length := by rw [hKl]; rfl
    have hi6 : (Tryz.prog.info? 80).map (·.size) = some (SG P' p').length := by rw [hSl]; rfl
    obtain ⟨h60, h61, h62⟩ := HS6.out P' p'
    go_upto_region 6 with (fail)
    have r0 := HB0.out.range
    go_wp2_with (refine wpList_load_mid rfl _ _ rfl w.heap.size 0 rfl KV _ r0 Tryz.underlying71 rfl hikv ?_)
    refine (HRC.out _).mono ?_
    rintro e W2 ⟨rfl, hx⟩
    replace HX := Lib.hid (Ext.tr HX.out hx)
    replace HB0 := Lib.hid (HB0.out.ext hx)
    replace HB1 := Lib.hid (HB1.out.ext hx)
    replace HB5 := Lib.hid (HB5.out.ext hx)
    replace HB6 := Lib.hid (HB6.out.ext hx)
    replace HRA := Lib.hid (HRA.out.ext hx)
    replace HRP := Lib.hid (HRP.out.ext hx)
    clear hx r0
    go_upto_region 7 with (fail)
    replace HX := Lib.hid HX.out.drew
    replace HB0 := Lib.hid HB0.out.drew
    replace HB1 := Lib.hid HB1.out.drew
    replace HB5 := Lib.hid HB5.out.drew
    replace HB6 := Lib.hid HB6.out.drew
    replace HRA := Lib.hid HRA.out.drew
    replace HRP := Lib.hid HRP.out.drew
    have HCE := Lib.hid (show ∀ W, Ext W2.drew W → (W.cell? ⟨b6, 0, none⟩ = some (cU64 scmd) ∧ W.cell? ⟨b6, 1, none⟩ = some (.int .i64 swho) ∧ W.cell? ⟨b6, 2, none⟩ = some (.int .i64 sat) ∧ W.cell? ⟨w.heap.size + 1, 0, none⟩ = some (cU64 scmd) ∧ W.cell? ⟨w.heap.size + 1, 1, none⟩ = some (.int .i64 swho) ∧ W.cell? ⟨w.heap.size + 1, 2, none⟩ = some (.int .i64 sat) ∧ W.rangeAt w.heap.size 0 KV ∧ W.rangeAt (w.heap.size + 1) 0 SV ∧ W.rangeAt b5 0 (KG A' c') ∧ W.rangeAt b6 0 (SG P' p')) from fun W hx => ⟨(HB6.out.ext hx).cell h60, (HB6.out.ext hx).cell h61, (HB6.out.ext hx).cell h62, (HB1.out.ext hx).cell hs0, (HB1.out.ext hx).cell hs1, (HB1.out.ext hx).cell hs2, (HB0.out.ext hx).range, (HB1.out.ext hx).range, (HB5.out.ext hx).range, (HB6.out.ext hx).range⟩)
    have HT2 := Lib.hid (show ∀ W, Ext W2.drew W → TOk W from fun W hx => (HG.out _ (Ext.tr HX.out hx)).tok)
    go_cut [75] (fun s75 wx => s75 = .bool false ∧ Ext W2.drew wx)
    case first =>
      have HY := Lib.hid (Ext.rfl' W2.drew)
      have hb1 : (CE != CE) = false := by simp
      have hb2 : ((DD : Int) != (DD : Int)) = false := by simp
      have hb3 : (TW.toList == TW.toList) = true := by simp
      have hb4 : (TX.toList == TX.toList) = true := by simp
      refine wp_region_held_drew (S := fun W => W.cell? ⟨b6, 0, none⟩ = some (cU64 scmd) ∧ W.cell? ⟨b6, 1, none⟩ = some (.int .i64 swho) ∧ W.cell? ⟨b6, 2, none⟩ = some (.int .i64 sat) ∧ W.cell? ⟨w.heap.size + 1, 0, none⟩ = some (cU64 scmd) ∧ W.cell? ⟨w.heap.size + 1, 1, none⟩ = some (.int .i64 swho) ∧ W.cell? ⟨w.heap.size + 1, 2, none⟩ = some (.int .i64 sat) ∧ W.rangeAt w.heap.size 0 KV ∧ W.rangeAt (w.heap.size + 1) 0 SV ∧ W.rangeAt b5 0 (KG A' c') ∧ W.rangeAt b6 0 (SG P' p')) (by kernel_rfl) (HCE.out _ HY.out) (fun hHeld => ?_)
      generalize W2.drew = Y0 at *
      refine wpAnyH_take (i := 0) (v := .agg (KG A' c').toArray) (by first | (simp only [List.getElem?_toArray, List.getElem?_cons_zero, List.getElem?_cons_succ]; done) | (simp only [List.getElem?_toArray, List.getElem?_cons_zero, List.getElem?_cons_succ]; rfl)) (by kernel_rfl) (by kernel_rfl) (by kernel_rfl) (by exact fun _ _ _ h => h) (Or.inl ⟨by rfl, fun w' hSw => run_load_mid _ _ _ _ rfl b5 0 (by rfl) _ _ w' hSw.2.2.2.2.2.2.2.2.1 Tryz.underlying77 rfl hi5⟩) (by assumption) ?_
      try simp only [Act.put, List.setIfInBounds_toArray, List.set_cons_zero, List.set_cons_succ]
      refine wpAnyH_take (i := 2) (v := ?_) (by first | (simp only [List.getElem?_toArray, List.getElem?_cons_zero, List.getElem?_cons_succ]; done) | (simp only [List.getElem?_toArray, List.getElem?_cons_zero, List.getElem?_cons_succ]; rfl)) (by kernel_rfl) (by kernel_rfl) (by kernel_rfl) (by exact fun _ _ _ h => h) (Or.inl ⟨by rfl, ?hy2⟩) (by assumption) ?_
      case hy2 => (intro w' hSw; clear hSw; go_simp; try with_reducible rfl)
      try simp only [Act.put, List.setIfInBounds_toArray, List.set_cons_zero, List.set_cons_succ]
      refine wpAnyH_ready (rs := [1]) (by kernel_rfl) (by simp) ?_
      refine AllReadyH.cons (by first | (simp only [List.getElem?_toArray, List.getElem?_cons_zero, List.getElem?_cons_succ]; done) | (simp only [List.getElem?_toArray, List.getElem?_cons_zero, List.getElem?_cons_succ]; rfl)) (fun K hK => ?_) AllReadyH.nil
      go_simp
      refine (HCK.out _ _ _).mono ?_
      rintro e Y101 ⟨rfl, hx⟩
      replace HY := Lib.hid (HY.out.tr hx)
      try (go_wp2_with fail)
      refine hK.out _ _ (HCE.out _ HY.out) (fun hHeld => ?_)
      clear hx hK K
      try simp only [Act.put, List.setIfInBounds_toArray, List.set_cons_zero, List.set_cons_succ]
      refine wpAnyH_take (i := 3) (v := ?_) (by first | (simp only [List.getElem?_toArray, List.getElem?_cons_zero, List.getElem?_cons_succ]; done) | (simp only [List.getElem?_toArray, List.getElem?_cons_zero, List.getElem?_cons_succ]; rfl)) (by kernel_rfl) (by kernel_rfl) (by kernel_rfl) (by exact fun _ _ _ h => h) (Or.inl ⟨by rfl, ?hy3⟩) (by assumption) ?_
      case hy3 => (intro w' hSw; clear hSw; go_simp; try with_reducible rfl)
      try simp only [Act.put, List.setIfInBounds_toArray, List.set_cons_zero, List.set_cons_succ]
      refine wpAnyH_take (i := 4) (v := ?_) (by first | (simp only [List.getElem?_toArray, List.getElem?_cons_zero, List.getElem?_cons_succ]; done) | (simp only [List.getElem?_toArray, List.getElem?_cons_zero, List.getElem?_cons_succ]; rfl)) (by kernel_rfl) (by kernel_rfl) (by kernel_rfl) (by exact fun _ _ _ h => h) (Or.inl ⟨by rfl, ?hy4⟩) (by assumption) ?_
      case hy4 => (intro w' hSw; clear hSw; go_simp; try with_reducible rfl)
      try simp only [Act.put, List.setIfInBounds_toArray, List.set_cons_zero, List.set_cons_succ]
      refine wpAnyH_take (i := 5) (v := ?_) (by first | (simp only [List.getElem?_toArray, List.getElem?_cons_zero, List.getElem?_cons_succ]; done) | (simp only [List.getElem?_toArray, List.getElem?_cons_zero, List.getElem?_cons_succ]; rfl)) (by kernel_rfl) (by kernel_rfl) (by kernel_rfl) (by exact fun _ _ _ h => h) (Or.inl ⟨by rfl, ?hy5⟩) (by assumption) ?_
      case hy5 => (intro w' hSw; obtain ⟨q0, q1, q2, q3, q4, q5, -⟩ := hSw; go_simp; try with_reducible rfl)
      try simp only [Act.put, List.setIfInBounds_toArray, List.set_cons_zero, List.set_cons_succ]
      refine wpAnyH_take (i := 6) (v := ?_) (by first | (simp only [List.getElem?_toArray, List.getElem?_cons_zero, List.getElem?_cons_succ]; done) | (simp only [List.getElem?_toArray, List.getElem?_cons_zero, List.getElem?_cons_succ]; rfl)) (by kernel_rfl) (by kernel_rfl) (by kernel_rfl) (by exact fun _ _ _ h => h) (Or.inl ⟨by rfl, ?hy6⟩) (by assumption) ?_
      case hy6 => (intro w' hSw; obtain ⟨q0, q1, q2, q3, q4, q5, -⟩ := hSw; go_simp; try with_reducible rfl)
      try simp only [Act.put, List.setIfInBounds_toArray, List.set_cons_zero, List.set_cons_succ]
      refine wpAnyH_take (i := 7) (v := ?_) (by first | (simp only [List.getElem?_toArray, List.getElem?_cons_zero, List.getElem?_cons_succ]; done) | (simp only [List.getElem?_toArray, List.getElem?_cons_zero, List.getElem?_cons_succ]; rfl)) (by kernel_rfl) (by kernel_rfl) (by kernel_rfl) (by exact fun _ _ _ h => h) (Or.inl ⟨by rfl, ?hy7⟩) (by assumption) ?_
      case hy7 => (intro w' hSw; obtain ⟨q0, q1, q2, q3, q4, q5, -⟩ := hSw; go_simp; try with_reducible rfl)
      try simp only [Act.put, List.setIfInBounds_toArray, List.set_cons_zero, List.set_cons_succ]
      refine wpAnyH_take (i := 8) (v := ?_) (by first | (simp only [List.getElem?_toArray, List.getElem?_cons_zero, List.getElem?_cons_succ]; done) | (simp only [List.getElem?_toArray, List.getElem?_cons_zero, List.getElem?_cons_succ]; rfl)) (by kernel_rfl) (by kernel_rfl) (by kernel_rfl) (by exact fun _ _ _ h => h) (Or.inl ⟨by rfl, ?hy8⟩) (by assumption) ?_
      case hy8 => (intro w' hSw; obtain ⟨q0, q1, q2, q3, q4, q5, -⟩ := hSw; go_simp; try with_reducible rfl)
      try simp only [Act.put, List.setIfInBounds_toArray, List.set_cons_zero, List.set_cons_succ]
      refine wpAnyH_take (i := 9) (v := ?_) (by first | (simp only [List.getElem?_toArray, List.getElem?_cons_zero, List.getElem?_cons_succ]; done) | (simp only [List.getElem?_toArray, List.getElem?_cons_zero, List.getElem?_cons_succ]; rfl)) (by kernel_rfl) (by kernel_rfl) (by kernel_rfl) (by exact fun _ _ _ h => h) (Or.inl ⟨by rfl, ?hy9⟩) (by assumption) ?_
      case hy9 => (intro w' hSw; obtain ⟨q0, q1, q2, q3, q4, q5, -⟩ := hSw; go_simp; try with_reducible rfl)
      try simp only [Act.put, List.setIfInBounds_toArray, List.set_cons_zero, List.set_cons_succ]
      refine wpAnyH_take (i := 10) (v := ?_) (by first | (simp only [List.getElem?_toArray, List.getElem?_cons_zero, List.getElem?_cons_succ]; done) | (simp only [List.getElem?_toArray, List.getElem?_cons_zero, List.getElem?_cons_succ]; rfl)) (by kernel_rfl) (by kernel_rfl) (by kernel_rfl) (by exact fun _ _ _ h => h) (Or.inl ⟨by rfl, ?hy10⟩) (by assumption) ?_
      case hy10 => (intro w' hSw; obtain ⟨q0, q1, q2, q3, q4, q5, -⟩ := hSw; go_simp; try with_reducible rfl)
      try simp only [Act.put, List.setIfInBounds_toArray, List.set_cons_zero, List.set_cons_succ]
      refine wpAnyH_take (i := 12) (v := ?_) (by first | (simp only [List.getElem?_toArray, List.getElem?_cons_zero, List.getElem?_cons_succ]; done) | (simp only [List.getElem?_toArray, List.getElem?_cons_zero, List.getElem?_cons_succ]; rfl)) (by kernel_rfl) (by kernel_rfl) (by kernel_rfl) (by exact fun _ _ _ h => h) (Or.inl ⟨by rfl, ?hy12⟩) (by assumption) ?_
      case hy12 => (intro w' hSw; obtain ⟨q0, q1, q2, q3, q4, q5, -⟩ := hSw; go_simp; try with_reducible rfl)
      try simp only [Act.put, List.setIfInBounds_toArray, List.set_cons_zero, List.set_cons_succ]
      refine wpAnyH_take (i := 13) (v := ?_) (by first | (simp only [List.getElem?_toArray, List.getElem?_cons_zero, List.getElem?_cons_succ]; done) | (simp only [List.getElem?_toArray, List.getElem?_cons_zero, List.getElem?_cons_succ]; rfl)) (by kernel_rfl) (by kernel_rfl) (by kernel_rfl) (by exact fun _ _ _ h => h) (Or.inl ⟨by rfl, ?hy13⟩) (by assumption) ?_
      case hy13 => (intro w' hSw; obtain ⟨q0, q1, q2, q3, q4, q5, -⟩ := hSw; go_simp; try with_reducible rfl)
      try simp only [Act.put, List.setIfInBounds_toArray, List.set_cons_zero, List.set_cons_succ]
      refine wpAnyH_take (i := 14) (v := ?_) (by first | (simp only [List.getElem?_toArray, List.getElem?_cons_zero, List.getElem?_cons_succ]; done) | (simp only [List.getElem?_toArray, List.getElem?_cons_zero, List.getElem?_cons_succ]; rfl)) (by kernel_rfl) (by kernel_rfl) (by kernel_rfl) (by exact fun _ _ _ h => h) (Or.inl ⟨by rfl, ?hy14⟩) (by assumption) ?_
      case hy14 => (intro w' hSw; obtain ⟨q0, q1, q2, q3, q4, q5, -⟩ := hSw; go_simp; try with_reducible rfl)
      try simp only [Act.put, List.setIfInBounds_toArray, List.set_cons_zero, List.set_cons_succ]
      refine wpAnyH_take (i := 15) (v := ?_) (by first | (simp only [List.getElem?_toArray, List.getElem?_cons_zero, List.getElem?_cons_succ]; done) | (simp only [List.getElem?_toArray, List.getElem?_cons_zero, List.getElem?_cons_succ]; rfl)) (by kernel_rfl) (by kernel_rfl) (by kernel_rfl) (by exact fun _ _ _ h => h) (Or.inl ⟨by rfl, ?hy15⟩) (by assumption) ?_
      case hy15 => (intro w' hSw; obtain ⟨q0, q1, q2, q3, q4, q5, -⟩ := hSw; go_simp; try with_reducible rfl)
      try simp only [Act.put, List.setIfInBounds_toArray, List.set_cons_zero, List.set_cons_succ]
      refine wpAnyH_take (i := 16) (v := ?_) (by first | (simp only [List.getElem?_toArray, List.getElem?_cons_zero, List.getElem?_cons_succ]; done) | (simp only [List.getElem?_toArray, List.getElem?_cons_zero, List.getElem?_cons_succ]; rfl)) (by kernel_rfl) (by kernel_rfl) (by kernel_rfl) (by exact fun _ _ _ h => h) (Or.inl ⟨by rfl, ?hy16⟩) (by assumption) ?_
      case hy16 => (intro w' hSw; obtain ⟨q0, q1, q2, q3, q4, q5, -⟩ := hSw; go_simp; try with_reducible rfl)
      try simp only [Act.put, List.setIfInBounds_toArray, List.set_cons_zero, List.set_cons_succ]
      refine wpAnyH_take (i := 17) (v := ?_) (by first | (simp only [List.getElem?_toArray, List.getElem?_cons_zero, List.getElem?_cons_succ]; done) | (simp only [List.getElem?_toArray, List.getElem?_cons_zero, List.getElem?_cons_succ]; rfl)) (by kernel_rfl) (by kernel_rfl) (by kernel_rfl) (by exact fun _ _ _ h => h) (Or.inl ⟨by rfl, ?hy17⟩) (by assumption) ?_
      case hy17 => (intro w' hSw; obtain ⟨q0, q1, q2, q3, q4, q5, -⟩ := hSw; go_simp; try with_reducible rfl)
      try simp only [Act.put, List.setIfInBounds_toArray, List.set_cons_zero, List.set_cons_succ]
      refine wpAnyH_ready (rs := [11]) (by kernel_rfl) (by simp) ?_
      refine AllReadyH.cons (by first | (simp only [List.getElem?_toArray, List.getElem?_cons_zero, List.getElem?_cons_succ]; done) | (simp only [List.getElem?_toArray, List.getElem?_cons_zero, List.getElem?_cons_succ]; rfl)) (fun K hK => ?_) AllReadyH.nil
      go_simp
      refine (HDG.out _ (HT2.out _ HY.out)).mono ?_
      rintro e Y102 ⟨rfl, hx⟩
      replace HY := Lib.hid (HY.out.tr hx)
      try (go_wp2_with fail)
      refine hK.out _ _ (HCE.out _ HY.out) (fun hHeld => ?_)
      clear hx hK K
      try simp only [Act.put, List.setIfInBounds_toArray, List.set_cons_zero, List.set_cons_succ]
      refine wpAnyH_ready (rs := [18]) (by kernel_rfl) (by simp) ?_
      refine AllReadyH.cons (by first | (simp only [List.getElem?_toArray, List.getElem?_cons_zero, List.getElem?_cons_succ]; done) | (simp only [List.getElem?_toArray, List.getElem?_cons_zero, List.getElem?_cons_succ]; rfl)) (fun K hK => ?_) AllReadyH.nil
      go_simp
      refine (HRD.out _).mono ?_
      rintro e Y103 ⟨rfl, hx⟩
      replace HY := Lib.hid (HY.out.tr hx)
      try (go_wp2_with fail)
      refine hK.out _ _ (HCE.out _ HY.out) (fun hHeld => ?_)
      clear hx hK K
      try simp only [Act.put, List.setIfInBounds_toArray, List.set_cons_zero, List.set_cons_succ]
      refine wpAnyH_take (i := 19) (v := ?_) (by first | (simp only [List.getElem?_toArray, List.getElem?_cons_zero, List.getElem?_cons_succ]; done) | (simp only [List.getElem?_toArray, List.getElem?_cons_zero, List.getElem?_cons_succ]; rfl)) (by kernel_rfl) (by kernel_rfl) (by kernel_rfl) (by exact fun _ _ _ h => h) (Or.inl ⟨by rfl, ?hy19⟩) (by assumption) ?_
      case hy19 => (intro w' hSw; clear hSw; go_simp; try with_reducible rfl)
      try simp only [Act.put, List.setIfInBounds_toArray, List.set_cons_zero, List.set_cons_succ]
      refine wpAnyH_take (i := 20) (v := ?_) (by first | (simp only [List.getElem?_toArray, List.getElem?_cons_zero, List.getElem?_cons_succ]; done) | (simp only [List.getElem?_toArray, List.getElem?_cons_zero, List.getElem?_cons_succ]; rfl)) (by kernel_rfl) (by kernel_rfl) (by kernel_rfl) (by exact fun _ _ _ h => h) (Or.inl ⟨by rfl, ?hy20⟩) (by assumption) ?_
      case hy20 => (intro w' hSw; clear hSw; go_simp; try with_reducible rfl)
      try simp only [Act.put, List.setIfInBounds_toArray, List.set_cons_zero, List.set_cons_succ]
      refine wpAnyH_take (i := 21) (v := ?_) (by first | (simp only [List.getElem?_toArray, List.getElem?_cons_zero, List.getElem?_cons_succ]; done) | (simp only [List.getElem?_toArray, List.getElem?_cons_zero, List.getElem?_cons_succ]; rfl)) (by kernel_rfl) (by kernel_rfl) (by kernel_rfl) (by exact fun _ _ _ h => h) (Or.inl ⟨by rfl, ?hy21⟩) (by assumption) ?_
      case hy21 => (intro w' hSw; clear hSw; go_simp; try with_reducible rfl)
      try simp only [Act.put, List.setIfInBounds_toArray, List.set_cons_zero, List.set_cons_succ]
      refine wpAnyH_take (i := 22) (v := ?_) (by first | (simp only [List.getElem?_toArray, List.getElem?_cons_zero, List.getElem?_cons_succ]; done) | (simp only [List.getElem?_toArray, List.getElem?_cons_zero, List.getElem?_cons_succ]; rfl)) (by kernel_rfl) (by kernel_rfl) (by kernel_rfl) (by exact fun _ _ _ h => h) (Or.inl ⟨by rfl, ?hy22⟩) (by assumption) ?_
      case hy22 => (intro w' hSw; obtain ⟨q0, q1, q2, q3, q4, q5, -⟩ := hSw; go_simp; try with_reducible rfl)
      try simp only [Act.put, List.setIfInBounds_toArray, List.set_cons_zero, List.set_cons_succ]
      refine wpAnyH_take (i := 23) (v := ?_) (by first | (simp only [List.getElem?_toArray, List.getElem?_cons_zero, List.getElem?_cons_succ]; done) | (simp only [List.getElem?_toArray, List.getElem?_cons_zero, List.getElem?_cons_succ]; rfl)) (by kernel_rfl) (by kernel_rfl) (by kernel_rfl) (by exact fun _ _ _ h => h) (Or.inl ⟨by rfl, ?hy23⟩) (by assumption) ?_
      case hy23 => (intro w' hSw; obtain ⟨q0, q1, q2, q3, q4, q5, -⟩ := hSw; go_simp; try with_reducible rfl)
      try simp only [Act.put, List.setIfInBounds_toArray, List.set_cons_zero, List.set_cons_succ]
      refine wpAnyH_take (i := 24) (v := ?_) (by first | (simp only [List.getElem?_toArray, List.getElem?_cons_zero, List.getElem?_cons_succ]; done) | (simp only [List.getElem?_toArray, List.getElem?_cons_zero, List.getElem?_cons_succ]; rfl)) (by kernel_rfl) (by kernel_rfl) (by kernel_rfl) (by exact fun _ _ _ h => h) (Or.inl ⟨by rfl, ?hy24⟩) (by assumption) ?_
      case hy24 => (intro w' hSw; obtain ⟨q0, q1, q2, q3, q4, q5, -⟩ := hSw; go_simp; try with_reducible rfl)
      try simp only [Act.put, List.setIfInBounds_toArray, List.set_cons_zero, List.set_cons_succ]
      refine wpAnyH_take (i := 25) (v := ?_) (by first | (simp only [List.getElem?_toArray, List.getElem?_cons_zero, List.getElem?_cons_succ]; done) | (simp only [List.getElem?_toArray, List.getElem?_cons_zero, List.getElem?_cons_succ]; rfl)) (by kernel_rfl) (by kernel_rfl) (by kernel_rfl) (by exact fun _ _ _ h => h) (Or.inl ⟨by rfl, ?hy25⟩) (by assumption) ?_
      case hy25 => (intro w' hSw; obtain ⟨q0, q1, q2, q3, q4, q5, -⟩ := hSw; go_simp; try with_reducible rfl)
      try simp only [Act.put, List.setIfInBounds_toArray, List.set_cons_zero, List.set_cons_succ]
      refine wpAnyH_take (i := 26) (v := ?_) (by first | (simp only [List.getElem?_toArray, List.getElem?_cons_zero, List.getElem?_cons_succ]; done) | (simp only [List.getElem?_toArray, List.getElem?_cons_zero, List.getElem?_cons_succ]; rfl)) (by kernel_rfl) (by kernel_rfl) (by kernel_rfl) (by exact fun _ _ _ h => h) (Or.inl ⟨by rfl, ?hy26⟩) (by assumption) ?_
      case hy26 => (intro w' hSw; obtain ⟨q0, q1, q2, q3, q4, q5, -⟩ := hSw; go_simp; try with_reducible rfl)
      try simp only [Act.put, List.setIfInBounds_toArray, List.set_cons_zero, List.set_cons_succ]
      refine wpAnyH_take (i := 27) (v := ?_) (by first | (simp only [List.getElem?_toArray, List.getElem?_cons_zero, List.getElem?_cons_succ]; done) | (simp only [List.getElem?_toArray, List.getElem?_cons_zero, List.getElem?_cons_succ]; rfl)) (by kernel_rfl) (by kernel_rfl) (by kernel_rfl) (by exact fun _ _ _ h => h) (Or.inl ⟨by rfl, ?hy27⟩) (by assumption) ?_
      case hy27 => (intro w' hSw; obtain ⟨q0, q1, q2, q3, q4, q5, -⟩ := hSw; go_simp; try with_reducible rfl)
      try simp only [Act.put, List.setIfInBounds_toArray, List.set_cons_zero, List.set_cons_succ]
      refine wpAnyH_take (i := 29) (v := ?_) (by first | (simp only [List.getElem?_toArray, List.getElem?_cons_zero, List.getElem?_cons_succ]; done) | (simp only [List.getElem?_toArray, List.getElem?_cons_zero, List.getElem?_cons_succ]; rfl)) (by kernel_rfl) (by kernel_rfl) (by kernel_rfl) (by exact fun _ _ _ h => h) (Or.inl ⟨by rfl, ?hy29⟩) (by assumption) ?_
      case hy29 => (intro w' hSw; obtain ⟨q0, q1, q2, q3, q4, q5, -⟩ := hSw; go_simp; try with_reducible rfl)
      try simp only [Act.put, List.setIfInBounds_toArray, List.set_cons_zero, List.set_cons_succ]
      refine wpAnyH_take (i := 30) (v := ?_) (by first | (simp only [List.getElem?_toArray, List.getElem?_cons_zero, List.getElem?_cons_succ]; done) | (simp only [List.getElem?_toArray, List.getElem?_cons_zero, List.getElem?_cons_succ]; rfl)) (by kernel_rfl) (by kernel_rfl) (by kernel_rfl) (by exact fun _ _ _ h => h) (Or.inl ⟨by rfl, ?hy30⟩) (by assumption) ?_
      case hy30 => (intro w' hSw; obtain ⟨q0, q1, q2, q3, q4, q5, -⟩ := hSw; go_simp; try with_reducible rfl)
      try simp only [Act.put, List.setIfInBounds_toArray, List.set_cons_zero, List.set_cons_succ]
      refine wpAnyH_take (i := 31) (v := ?_) (by first | (simp only [List.getElem?_toArray, List.getElem?_cons_zero, List.getElem?_cons_succ]; done) | (simp only [List.getElem?_toArray, List.getElem?_cons_zero, List.getElem?_cons_succ]; rfl)) (by kernel_rfl) (by kernel_rfl) (by kernel_rfl) (by exact fun _ _ _ h => h) (Or.inl ⟨by rfl, ?hy31⟩) (by assumption) ?_
      case hy31 => (intro w' hSw; obtain ⟨q0, q1, q2, q3, q4, q5, -⟩ := hSw; go_simp; try with_reducible rfl)
      try simp only [Act.put, List.setIfInBounds_toArray, List.set_cons_zero, List.set_cons_succ]
      refine wpAnyH_take (i := 32) (v := ?_) (by first | (simp only [List.getElem?_toArray, List.getElem?_cons_zero, List.getElem?_cons_succ]; done) | (simp only [List.getElem?_toArray, List.getElem?_cons_zero, List.getElem?_cons_succ]; rfl)) (by kernel_rfl) (by kernel_rfl) (by kernel_rfl) (by exact fun _ _ _ h => h) (Or.inl ⟨by rfl, ?hy32⟩) (by assumption) ?_
      case hy32 => (intro w' hSw; obtain ⟨q0, q1, q2, q3, q4, q5, -⟩ := hSw; go_simp; try with_reducible rfl)
      try simp only [Act.put, List.setIfInBounds_toArray, List.set_cons_zero, List.set_cons_succ]
      refine wpAnyH_take (i := 33) (v := ?_) (by first | (simp only [List.getElem?_toArray, List.getElem?_cons_zero, List.getElem?_cons_succ]; done) | (simp only [List.getElem?_toArray, List.getElem?_cons_zero, List.getElem?_cons_succ]; rfl)) (by kernel_rfl) (by kernel_rfl) (by kernel_rfl) (by exact fun _ _ _ h => h) (Or.inl ⟨by rfl, ?hy33⟩) (by assumption) ?_
      case hy33 => (intro w' hSw; obtain ⟨q0, q1, q2, q3, q4, q5, -⟩ := hSw; go_simp; try with_reducible rfl)
      try simp only [Act.put, List.setIfInBounds_toArray, List.set_cons_zero, List.set_cons_succ]
      refine wpAnyH_take (i := 34) (v := ?_) (by first | (simp only [List.getElem?_toArray, List.getElem?_cons_zero, List.getElem?_cons_succ]; done) | (simp only [List.getElem?_toArray, List.getElem?_cons_zero, List.getElem?_cons_succ]; rfl)) (by kernel_rfl) (by kernel_rfl) (by kernel_rfl) (by exact fun _ _ _ h => h) (Or.inl ⟨by rfl, ?hy34⟩) (by assumption) ?_
      case hy34 => (intro w' hSw; obtain ⟨q0, q1, q2, q3, q4, q5, -⟩ := hSw; go_simp; try with_reducible rfl)
      try simp only [Act.put, List.setIfInBounds_toArray, List.set_cons_zero, List.set_cons_succ]
      refine wpAnyH_ready (rs := [28]) (by kernel_rfl) (by simp) ?_
      refine AllReadyH.cons (by first | (simp only [List.getElem?_toArray, List.getElem?_cons_zero, List.getElem?_cons_succ]; done) | (simp only [List.getElem?_toArray, List.getElem?_cons_zero, List.getElem?_cons_succ]; rfl)) (fun K hK => ?_) AllReadyH.nil
      go_simp
      refine (HWD.out _ (HT2.out _ HY.out)).mono ?_
      rintro e Y104 ⟨rfl, hx⟩
      replace HY := Lib.hid (HY.out.tr hx)
      try (go_wp2_with fail)
      refine hK.out _ _ (HCE.out _ HY.out) (fun hHeld => ?_)
      clear hx hK K
      try simp only [Act.put, List.setIfInBounds_toArray, List.set_cons_zero, List.set_cons_succ]
      refine wpAnyH_ready (rs := [35]) (by kernel_rfl) (by simp) ?_
      refine AllReadyH.cons (by first | (simp only [List.getElem?_toArray, List.getElem?_cons_zero, List.getElem?_cons_succ]; done) | (simp only [List.getElem?_toArray, List.getElem?_cons_zero, List.getElem?_cons_succ]; rfl)) (fun K hK => ?_) AllReadyH.nil
      go_simp
      refine (HRW.out _).mono ?_
      rintro e Y105 ⟨rfl, hx⟩
      replace HY := Lib.hid (HY.out.tr hx)
      try (go_wp2_with fail)
      refine hK.out _ _ (HCE.out _ HY.out) (fun hHeld => ?_)
      clear hx hK K
      try simp only [Act.put, List.setIfInBounds_toArray, List.set_cons_zero, List.set_cons_succ]
      refine wpAnyH_take (i := 36) (v := ?_) (by first | (simp only [List.getElem?_toArray, List.getElem?_cons_zero, List.getElem?_cons_succ]; done) | (simp only [List.getElem?_toArray, List.getElem?_cons_zero, List.getElem?_cons_succ]; rfl)) (by kernel_rfl) (by kernel_rfl) (by kernel_rfl) (by exact fun _ _ _ h => h) (Or.inl ⟨by rfl, ?hy36⟩) (by assumption) ?_
      case hy36 => (intro w' hSw; clear hSw; go_simp; try with_reducible rfl)
      try simp only [Act.put, List.setIfInBounds_toArray, List.set_cons_zero, List.set_cons_succ]
      refine wpAnyH_take (i := 37) (v := ?_) (by first | (simp only [List.getElem?_toArray, List.getElem?_cons_zero, List.getElem?_cons_succ]; done) | (simp only [List.getElem?_toArray, List.getElem?_cons_zero, List.getElem?_cons_succ]; rfl)) (by kernel_rfl) (by kernel_rfl) (by kernel_rfl) (by exact fun _ _ _ h => h) (Or.inl ⟨by rfl, ?hy37⟩) (by assumption) ?_
      case hy37 => (intro w' hSw; clear hSw; go_simp; try with_reducible rfl)
      try simp only [Act.put, List.setIfInBounds_toArray, List.set_cons_zero, List.set_cons_succ]
      refine wpAnyH_take (i := 38) (v := ?_) (by first | (simp only [List.getElem?_toArray, List.getElem?_cons_zero, List.getElem?_cons_succ]; done) | (simp only [List.getElem?_toArray, List.getElem?_cons_zero, List.getElem?_cons_succ]; rfl)) (by kernel_rfl) (by kernel_rfl) (by kernel_rfl) (by exact fun _ _ _ h => h) (Or.inl ⟨by rfl, ?hy38⟩) (by assumption) ?_
      case hy38 => (intro w' hSw; clear hSw; go_simp; try with_reducible rfl)
      try simp only [Act.put, List.setIfInBounds_toArray, List.set_cons_zero, List.set_cons_succ]
      refine wpAnyH_take (i := 39) (v := .agg (SG P' p').toArray) (by first | (simp only [List.getElem?_toArray, List.getElem?_cons_zero, List.getElem?_cons_succ]; done) | (simp only [List.getElem?_toArray, List.getElem?_cons_zero, List.getElem?_cons_succ]; rfl)) (by kernel_rfl) (by kernel_rfl) (by kernel_rfl) (by exact fun _ _ _ h => h) (Or.inl ⟨by rfl, fun w' hSw => run_load_mid _ _ _ _ rfl b6 0 (by rfl) _ _ w' hSw.2.2.2.2.2.2.2.2.2 Tryz.underlying80 rfl hi6⟩) (by assumption) ?_
      try simp only [Act.put, List.setIfInBounds_toArray, List.set_cons_zero, List.set_cons_succ]
      refine wpAnyH_take (i := 41) (v := .agg (SV).toArray) (by first | (simp only [List.getElem?_toArray, List.getElem?_cons_zero, List.getElem?_cons_succ]; done) | (simp only [List.getElem?_toArray, List.getElem?_cons_zero, List.getElem?_cons_succ]; rfl)) (by kernel_rfl) (by kernel_rfl) (by kernel_rfl) (by exact fun _ _ _ h => h) (Or.inl ⟨by rfl, fun w' hSw => run_load_mid _ _ _ _ rfl (w.heap.size + 1) 0 (by rfl) _ _ w' hSw.2.2.2.2.2.2.2.1 Tryz.underlying73 rfl hisv⟩) (by assumption) ?_
      try simp only [Act.put, List.setIfInBounds_toArray, List.set_cons_zero, List.set_cons_succ]
      refine wpAnyH_ready (rs := [40]) (by kernel_rfl) (by simp) ?_
      refine AllReadyH.cons (by first | (simp only [List.getElem?_toArray, List.getElem?_cons_zero, List.getElem?_cons_succ]; done) | (simp only [List.getElem?_toArray, List.getElem?_cons_zero, List.getElem?_cons_succ]; rfl)) (fun K hK => ?_) AllReadyH.nil
      go_simp
      refine (HTX.out _ _ _ (HRP.out.ext HY.out) (HT2.out _ HY.out)).mono ?_
      rintro e Y106 ⟨rfl, hx⟩
      replace HY := Lib.hid (HY.out.tr hx)
      try (go_wp2_with fail)
      refine hK.out _ _ (HCE.out _ HY.out) (fun hHeld => ?_)
      clear hx hK K
      try simp only [Act.put, List.setIfInBounds_toArray, List.set_cons_zero, List.set_cons_succ]
      refine wpAnyH_ready (rs := [42]) (by kernel_rfl) (by simp) ?_
      refine AllReadyH.cons (by first | (simp only [List.getElem?_toArray, List.getElem?_cons_zero, List.getElem?_cons_succ]; done) | (simp only [List.getElem?_toArray, List.getElem?_cons_zero, List.getElem?_cons_succ]; rfl)) (fun K hK => ?_) AllReadyH.nil
      go_simp
      refine (HRT.out _ (Ext.tr HX.out HY.out)).mono ?_
      rintro e Y107 ⟨rfl, hx⟩
      replace HY := Lib.hid (HY.out.tr hx)
      try (go_wp2_with fail)
      refine hK.out _ _ (HCE.out _ HY.out) (fun hHeld => ?_)
      clear hx hK K
      try simp only [Act.put, List.setIfInBounds_toArray, List.set_cons_zero, List.set_cons_succ]
      refine wpAnyH_take (i := 43) (v := ?_) (by first | (simp only [List.getElem?_toArray, List.getElem?_cons_zero, List.getElem?_cons_succ]; done) | (simp only [List.getElem?_toArray, List.getElem?_cons_zero, List.getElem?_cons_succ]; rfl)) (by kernel_rfl) (by kernel_rfl) (by kernel_rfl) (by exact fun _ _ _ h => h) (Or.inl ⟨by rfl, ?hy43⟩) (by assumption) ?_
      case hy43 => (intro w' hSw; clear hSw; go_simp; try with_reducible rfl)
      try simp only [Act.put, List.setIfInBounds_toArray, List.set_cons_zero, List.set_cons_succ]
      refine wpAnyH_take (i := 44) (v := ?_) (by first | (simp only [List.getElem?_toArray, List.getElem?_cons_zero, List.getElem?_cons_succ]; done) | (simp only [List.getElem?_toArray, List.getElem?_cons_zero, List.getElem?_cons_succ]; rfl)) (by kernel_rfl) (by kernel_rfl) (by kernel_rfl) (by exact fun _ _ _ h => h) (Or.inl ⟨by rfl, ?hy44⟩) (by assumption) ?_
      case hy44 => (intro w' hSw; clear hSw; go_simp; try with_reducible rfl)
      try simp only [Act.put, List.setIfInBounds_toArray, List.set_cons_zero, List.set_cons_succ]
      refine wpAnyH_done (by kernel_rfl) ?_ _
      clear hHeld
      go_wp2_with fail
      go_meet
      exact ⟨rfl, HY.out⟩
    case rest =>
      obtain ⟨rfl, hx⟩ := hcut
      replace HX := Lib.hid (Ext.tr HX.out hx)
      replace HB0 := Lib.hid (HB0.out.ext hx)
      replace HB1 := Lib.hid (HB1.out.ext hx)
      replace HB5 := Lib.hid (HB5.out.ext hx)
      replace HB6 := Lib.hid (HB6.out.ext hx)
      replace HRA := Lib.hid (HRA.out.ext hx)
      replace HRP := Lib.hid (HRP.out.ext hx)
      clear hx HCE HT2 HCK HRC HDG HRD HWD HRW
      go_upto_region 9 with (fail)
      generalize wc = W3 at *
      replace HX := Lib.hid HX.out.drew
      replace HB0 := Lib.hid HB0.out.drew
      replace HB1 := Lib.hid HB1.out.drew
      replace HB5 := Lib.hid HB5.out.drew
      replace HB6 := Lib.hid HB6.out.drew
      replace HRA := Lib.hid HRA.out.drew
      replace HRP := Lib.hid HRP.out.drew
      have HCE := Lib.hid (show ∀ W, Ext W3.drew W → (W.cell? ⟨b6, 0, none⟩ = some (cU64 scmd) ∧ W.cell? ⟨b6, 1, none⟩ = some (.int .i64 swho) ∧ W.cell? ⟨b6, 2, none⟩ = some (.int .i64 sat) ∧ W.cell? ⟨w.heap.size + 1, 0, none⟩ = some (cU64 scmd) ∧ W.cell? ⟨w.heap.size + 1, 1, none⟩ = some (.int .i64 swho) ∧ W.cell? ⟨w.heap.size + 1, 2, none⟩ = some (.int .i64 sat) ∧ W.rangeAt w.heap.size 0 KV ∧ W.rangeAt (w.heap.size + 1) 0 SV ∧ W.rangeAt b5 0 (KG A' c') ∧ W.rangeAt b6 0 (SG P' p')) from fun W hx => ⟨(HB6.out.ext hx).cell h60, (HB6.out.ext hx).cell h61, (HB6.out.ext hx).cell h62, (HB1.out.ext hx).cell hs0, (HB1.out.ext hx).cell hs1, (HB1.out.ext hx).cell hs2, (HB0.out.ext hx).range, (HB1.out.ext hx).range, (HB5.out.ext hx).range, (HB6.out.ext hx).range⟩)
      have HT2 := Lib.hid (show ∀ W, Ext W3.drew W → TOk W from fun W hx => (HG.out _ (Ext.tr HX.out hx)).tok)
      go_cut [86] (fun s86 wx => s86 = .bool false ∧ Ext W3.drew wx)
      case first =>
        have HY := Lib.hid (Ext.rfl' W3.drew)
        have hb1 : (VE != VE) = false := by simp
        rcases hCK0 with rfl | rfl
        · skip
          refine wp_region_held_drew (S := fun W => W.cell? ⟨b6, 0, none⟩ = some (cU64 scmd) ∧ W.cell? ⟨b6, 1, none⟩ = some (.int .i64 swho) ∧ W.cell? ⟨b6, 2, none⟩ = some (.int .i64 sat) ∧ W.cell? ⟨w.heap.size + 1, 0, none⟩ = some (cU64 scmd) ∧ W.cell? ⟨w.heap.size + 1, 1, none⟩ = some (.int .i64 swho) ∧ W.cell? ⟨w.heap.size + 1, 2, none⟩ = some (.int .i64 sat) ∧ W.rangeAt w.heap.size 0 KV ∧ W.rangeAt (w.heap.size + 1) 0 SV ∧ W.rangeAt b5 0 (KG A' c') ∧ W.rangeAt b6 0 (SG P' p')) (by kernel_rfl) (HCE.out _ HY.out) (fun hHeld => ?_)
          generalize W3.drew = Y0 at *
          refine wpAnyH_take (i := 0) (v := ?_) (by first | (simp only [List.getElem?_toArray, List.getElem?_cons_zero, List.getElem?_cons_succ]; done) | (simp only [List.getElem?_toArray, List.getElem?_cons_zero, List.getElem?_cons_succ]; rfl)) (by kernel_rfl) (by kernel_rfl) (by kernel_rfl) (by exact fun _ _ _ h => h) (Or.inl ⟨by rfl, ?hy0⟩) (by assumption) ?_
          case hy0 => (intro w' hSw; clear hSw; go_simp; try with_reducible rfl)
          try simp only [Act.put, List.setIfInBounds_toArray, List.set_cons_zero, List.set_cons_succ]
          refine wpAnyH_take (i := 1) (v := ?_) (by first | (simp only [List.getElem?_toArray, List.getElem?_cons_zero, List.getElem?_cons_succ]; done) | (simp only [List.getElem?_toArray, List.getElem?_cons_zero, List.getElem?_cons_succ]; rfl)) (by kernel_rfl) (by kernel_rfl) (by kernel_rfl) (by exact fun _ _ _ h => h) (Or.inl ⟨by rfl, ?hy1⟩) (by assumption) ?_
          case hy1 => (intro w' hSw; clear hSw; go_simp; try with_reducible rfl)
          try simp only [Act.put, List.setIfInBounds_toArray, List.set_cons_zero, List.set_cons_succ]
          refine wpAnyH_take (i := 2) (v := ?_) (by first | (simp only [List.getElem?_toArray, List.getElem?_cons_zero, List.getElem?_cons_succ]; done) | (simp only [List.getElem?_toArray, List.getElem?_cons_zero, List.getElem?_cons_succ]; rfl)) (by kernel_rfl) (by kernel_rfl) (by kernel_rfl) (by exact fun _ _ _ h => h) (Or.inl ⟨by rfl, ?hy2⟩) (by assumption) ?_
          case hy2 => (intro w' hSw; clear hSw; go_simp; try with_reducible rfl)
          try simp only [Act.put, List.setIfInBounds_toArray, List.set_cons_zero, List.set_cons_succ]
          refine wpAnyH_take (i := 3) (v := .agg (KG A' c').toArray) (by first | (simp only [List.getElem?_toArray, List.getElem?_cons_zero, List.getElem?_cons_succ]; done) | (simp only [List.getElem?_toArray, List.getElem?_cons_zero, List.getElem?_cons_succ]; rfl)) (by kernel_rfl) (by kernel_rfl) (by kernel_rfl) (by exact fun _ _ _ h => h) (Or.inl ⟨by rfl, fun w' hSw => run_load_mid _ _ _ _ rfl b5 0 (by rfl) _ _ w' hSw.2.2.2.2.2.2.2.2.1 Tryz.underlying77 rfl hi5⟩) (by assumption) ?_
          try simp only [Act.put, List.setIfInBounds_toArray, List.set_cons_zero, List.set_cons_succ]
          refine wpAnyH_take (i := 4) (v := .agg (SG P' p').toArray) (by first | (simp only [List.getElem?_toArray, List.getElem?_cons_zero, List.getElem?_cons_succ]; done) | (simp only [List.getElem?_toArray, List.getElem?_cons_zero, List.getElem?_cons_succ]; rfl)) (by kernel_rfl) (by kernel_rfl) (by kernel_rfl) (by exact fun _ _ _ h => h) (Or.inl ⟨by rfl, fun w' hSw => run_load_mid _ _ _ _ rfl b6 0 (by rfl) _ _ w' hSw.2.2.2.2.2.2.2.2.2 Tryz.underlying80 rfl hi6⟩) (by assumption) ?_
          try simp only [Act.put, List.setIfInBounds_toArray, List.set_cons_zero, List.set_cons_succ]
          refine wpAnyH_take (i := 6) (v := .agg (KV).toArray) (by first | (simp only [List.getElem?_toArray, List.getElem?_cons_zero, List.getElem?_cons_succ]; done) | (simp only [List.getElem?_toArray, List.getElem?_cons_zero, List.getElem?_cons_succ]; rfl)) (by kernel_rfl) (by kernel_rfl) (by kernel_rfl) (by exact fun _ _ _ h => h) (Or.inl ⟨by rfl, fun w' hSw => run_load_mid _ _ _ _ rfl w.heap.size 0 (by rfl) _ _ w' hSw.2.2.2.2.2.2.1 Tryz.underlying71 rfl hikv⟩) (by assumption) ?_
          try simp only [Act.put, List.setIfInBounds_toArray, List.set_cons_zero, List.set_cons_succ]
          refine wpAnyH_take (i := 7) (v := .agg (SV).toArray) (by first | (simp only [List.getElem?_toArray, List.getElem?_cons_zero, List.getElem?_cons_succ]; done) | (simp only [List.getElem?_toArray, List.getElem?_cons_zero, List.getElem?_cons_succ]; rfl)) (by kernel_rfl) (by kernel_rfl) (by kernel_rfl) (by exact fun _ _ _ h => h) (Or.inl ⟨by rfl, fun w' hSw => run_load_mid _ _ _ _ rfl (w.heap.size + 1) 0 (by rfl) _ _ w' hSw.2.2.2.2.2.2.2.1 Tryz.underlying73 rfl hisv⟩) (by assumption) ?_
          try simp only [Act.put, List.setIfInBounds_toArray, List.set_cons_zero, List.set_cons_succ]
          refine wpAnyH_ready (rs := [5]) (by kernel_rfl) (by simp) ?_
          refine AllReadyH.cons (by first | (simp only [List.getElem?_toArray, List.getElem?_cons_zero, List.getElem?_cons_succ]; done) | (simp only [List.getElem?_toArray, List.getElem?_cons_zero, List.getElem?_cons_succ]; rfl)) (fun K hK => ?_) AllReadyH.nil
          go_simp
          refine (HVA.out (by first | rfl | trivial) _ _ _ _ _ (HRA.out.ext HY.out) (HRP.out.ext HY.out) (HT2.out _ HY.out)).mono ?_
          rintro e Y201 ⟨rfl, hx⟩
          replace HY := Lib.hid (HY.out.tr hx)
          try (go_wp2_with fail)
          refine hK.out _ _ (HCE.out _ HY.out) (fun hHeld => ?_)
          clear hx hK K
          try simp only [Act.put, List.setIfInBounds_toArray, List.set_cons_zero, List.set_cons_succ]
          refine wpAnyH_ready (rs := [8]) (by kernel_rfl) (by simp) ?_
          refine AllReadyH.cons (by first | (simp only [List.getElem?_toArray, List.getElem?_cons_zero, List.getElem?_cons_succ]; done) | (simp only [List.getElem?_toArray, List.getElem?_cons_zero, List.getElem?_cons_succ]; rfl)) (fun K hK => ?_) AllReadyH.nil
          go_simp
          refine (HRV.out (by first | rfl | trivial) _ (Ext.tr HX.out HY.out)).mono ?_
          rintro e Y202 ⟨rfl, hx⟩
          replace HY := Lib.hid (HY.out.tr hx)
          try (go_wp2_with fail)
          refine hK.out _ _ (HCE.out _ HY.out) (fun hHeld => ?_)
          clear hx hK K
          try simp only [Act.put, List.setIfInBounds_toArray, List.set_cons_zero, List.set_cons_succ]
          refine wpAnyH_take (i := 9) (v := ?_) (by first | (simp only [List.getElem?_toArray, List.getElem?_cons_zero, List.getElem?_cons_succ]; done) | (simp only [List.getElem?_toArray, List.getElem?_cons_zero, List.getElem?_cons_succ]; rfl)) (by kernel_rfl) (by kernel_rfl) (by kernel_rfl) (by exact fun _ _ _ h => h) (Or.inl ⟨by rfl, ?hy9⟩) (by assumption) ?_
          case hy9 => (intro w' hSw; clear hSw; go_simp; try with_reducible rfl)
          try simp only [Act.put, List.setIfInBounds_toArray, List.set_cons_zero, List.set_cons_succ]
          refine wpAnyH_take (i := 10) (v := ?_) (by first | (simp only [List.getElem?_toArray, List.getElem?_cons_zero, List.getElem?_cons_succ]; done) | (simp only [List.getElem?_toArray, List.getElem?_cons_zero, List.getElem?_cons_succ]; rfl)) (by kernel_rfl) (by kernel_rfl) (by kernel_rfl) (by exact fun _ _ _ h => h) (Or.inl ⟨by rfl, ?hy10⟩) (by assumption) ?_
          case hy10 => (intro w' hSw; clear hSw; go_simp; try with_reducible rfl)
          try simp only [Act.put, List.setIfInBounds_toArray, List.set_cons_zero, List.set_cons_succ]
          refine wpAnyH_done (by kernel_rfl) ?_ _
          clear hHeld
          go_wp2_with fail
          go_meet
          exact ⟨rfl, HY.out⟩
        · skip
          refine wp_region_held_drew (S := fun W => W.cell? ⟨b6, 0, none⟩ = some (cU64 scmd) ∧ W.cell? ⟨b6, 1, none⟩ = some (.int .i64 swho) ∧ W.cell? ⟨b6, 2, none⟩ = some (.int .i64 sat) ∧ W.cell? ⟨w.heap.size + 1, 0, none⟩ = some (cU64 scmd) ∧ W.cell? ⟨w.heap.size + 1, 1, none⟩ = some (.int .i64 swho) ∧ W.cell? ⟨w.heap.size + 1, 2, none⟩ = some (.int .i64 sat) ∧ W.rangeAt w.heap.size 0 KV ∧ W.rangeAt (w.heap.size + 1) 0 SV ∧ W.rangeAt b5 0 (KG A' c') ∧ W.rangeAt b6 0 (SG P' p')) (by kernel_rfl) (HCE.out _ HY.out) (fun hHeld => ?_)
          generalize W3.drew = Y0 at *
          refine wpAnyH_take (i := 0) (v := ?_) (by first | (simp only [List.getElem?_toArray, List.getElem?_cons_zero, List.getElem?_cons_succ]; done) | (simp only [List.getElem?_toArray, List.getElem?_cons_zero, List.getElem?_cons_succ]; rfl)) (by kernel_rfl) (by kernel_rfl) (by kernel_rfl) (by exact fun _ _ _ h => h) (Or.inl ⟨by rfl, ?hy0⟩) (by assumption) ?_
          case hy0 => (intro w' hSw; clear hSw; go_simp; try with_reducible rfl)
          try simp only [Act.put, List.setIfInBounds_toArray, List.set_cons_zero, List.set_cons_succ]
          refine wpAnyH_take (i := 1) (v := ?_) (by first | (simp only [List.getElem?_toArray, List.getElem?_cons_zero, List.getElem?_cons_succ]; done) | (simp only [List.getElem?_toArray, List.getElem?_cons_zero, List.getElem?_cons_succ]; rfl)) (by kernel_rfl) (by kernel_rfl) (by kernel_rfl) (by exact fun _ _ _ h => h) (Or.inl ⟨by rfl, ?hy1⟩) (by assumption) ?_
          case hy1 => (intro w' hSw; clear hSw; go_simp; try with_reducible rfl)
          try simp only [Act.put, List.setIfInBounds_toArray, List.set_cons_zero, List.set_cons_succ]
          refine wpAnyH_take (i := 2) (v := ?_) (by first | (simp only [List.getElem?_toArray, List.getElem?_cons_zero, List.getElem?_cons_succ]; done) | (simp only [List.getElem?_toArray, List.getElem?_cons_zero, List.getElem?_cons_succ]; rfl)) (by kernel_rfl) (by kernel_rfl) (by kernel_rfl) (by exact fun _ _ _ h => h) (Or.inl ⟨by rfl, ?hy2⟩) (by assumption) ?_
          case hy2 => (intro w' hSw; clear hSw; go_simp; try with_reducible rfl)
          try simp only [Act.put, List.setIfInBounds_toArray, List.set_cons_zero, List.set_cons_succ]
          refine wpAnyH_take (i := 3) (v := undef) (by first | (simp only [List.getElem?_toArray, List.getElem?_cons_zero, List.getElem?_cons_succ]; done) | (simp only [List.getElem?_toArray, List.getElem?_cons_zero, List.getElem?_cons_succ]; rfl)) (by kernel_rfl) (by kernel_rfl) (by kernel_rfl) (by exact fun _ _ _ h => h) (Or.inr ⟨by rfl, rfl⟩) (by assumption) ?_
          try simp only [Act.put, List.setIfInBounds_toArray, List.set_cons_zero, List.set_cons_succ]
          refine wpAnyH_take (i := 4) (v := undef) (by first | (simp only [List.getElem?_toArray, List.getElem?_cons_zero, List.getElem?_cons_succ]; done) | (simp only [List.getElem?_toArray, List.getElem?_cons_zero, List.getElem?_cons_succ]; rfl)) (by kernel_rfl) (by kernel_rfl) (by kernel_rfl) (by exact fun _ _ _ h => h) (Or.inr ⟨by rfl, rfl⟩) (by assumption) ?_
          try simp only [Act.put, List.setIfInBounds_toArray, List.set_cons_zero, List.set_cons_succ]
          refine wpAnyH_take (i := 5) (v := undef) (by first | (simp only [List.getElem?_toArray, List.getElem?_cons_zero, List.getElem?_cons_succ]; done) | (simp only [List.getElem?_toArray, List.getElem?_cons_zero, List.getElem?_cons_succ]; rfl)) (by kernel_rfl) (by kernel_rfl) (by kernel_rfl) (by exact fun _ _ _ h => h) (Or.inr ⟨by rfl, rfl⟩) (by assumption) ?_
          try simp only [Act.put, List.setIfInBounds_toArray, List.set_cons_zero, List.set_cons_succ]
          refine wpAnyH_take (i := 6) (v := undef) (by first | (simp only [List.getElem?_toArray, List.getElem?_cons_zero, List.getElem?_cons_succ]; done) | (simp only [List.getElem?_toArray, List.getElem?_cons_zero, List.getElem?_cons_succ]; rfl)) (by kernel_rfl) (by kernel_rfl) (by kernel_rfl) (by exact fun _ _ _ h => h) (Or.inr ⟨by rfl, rfl⟩) (by assumption) ?_
          try simp only [Act.put, List.setIfInBounds_toArray, List.set_cons_zero, List.set_cons_succ]
          refine wpAnyH_take (i := 7) (v := undef) (by first | (simp only [List.getElem?_toArray, List.getElem?_cons_zero, List.getElem?_cons_succ]; done) | (simp only [List.getElem?_toArray, List.getElem?_cons_zero, List.getElem?_cons_succ]; rfl)) (by kernel_rfl) (by kernel_rfl) (by kernel_rfl) (by exact fun _ _ _ h => h) (Or.inr ⟨by rfl, rfl⟩) (by assumption) ?_
          try simp only [Act.put, List.setIfInBounds_toArray, List.set_cons_zero, List.set_cons_succ]
          refine wpAnyH_take (i := 8) (v := undef) (by first | (simp only [List.getElem?_toArray, List.getElem?_cons_zero, List.getElem?_cons_succ]; done) | (simp only [List.getElem?_toArray, List.getElem?_cons_zero, List.getElem?_cons_succ]; rfl)) (by kernel_rfl) (by kernel_rfl) (by kernel_rfl) (by exact fun _ _ _ h => h) (Or.inr ⟨by rfl, rfl⟩) (by assumption) ?_
          try simp only [Act.put, List.setIfInBounds_toArray, List.set_cons_zero, List.set_cons_succ]
          refine wpAnyH_take (i := 9) (v := undef) (by first | (simp only [List.getElem?_toArray, List.getElem?_cons_zero, List.getElem?_cons_succ]; done) | (simp only [List.getElem?_toArray, List.getElem?_cons_zero, List.getElem?_cons_succ]; rfl)) (by kernel_rfl) (by kernel_rfl) (by kernel_rfl) (by exact fun _ _ _ h => h) (Or.inr ⟨by rfl, rfl⟩) (by assumption) ?_
          try simp only [Act.put, List.setIfInBounds_toArray, List.set_cons_zero, List.set_cons_succ]
          refine wpAnyH_take (i := 10) (v := ?_) (by first | (simp only [List.getElem?_toArray, List.getElem?_cons_zero, List.getElem?_cons_succ]; done) | (simp only [List.getElem?_toArray, List.getElem?_cons_zero, List.getElem?_cons_succ]; rfl)) (by kernel_rfl) (by kernel_rfl) (by kernel_rfl) (by exact fun _ _ _ h => h) (Or.inl ⟨by rfl, ?hy10⟩) (by assumption) ?_
          case hy10 => (intro w' hSw; clear hSw; go_simp; try with_reducible rfl)
          try simp only [Act.put, List.setIfInBounds_toArray, List.set_cons_zero, List.set_cons_succ]
          refine wpAnyH_done (by kernel_rfl) ?_ _
          clear hHeld
          go_wp2_with fail
          go_meet
          exact ⟨rfl, HY.out⟩
      case rest =>
        obtain ⟨rfl, hx⟩ := hcut
        replace HX := Lib.hid (Ext.tr HX.out hx)
        replace HB0 := Lib.hid (HB0.out.ext hx)
        replace HB1 := Lib.hid (HB1.out.ext hx)
        replace HB5 := Lib.hid (HB5.out.ext hx)
        replace HB6 := Lib.hid (HB6.out.ext hx)
        replace HRA := Lib.hid (HRA.out.ext hx)
        replace HRP := Lib.hid (HRP.out.ext hx)
        clear hx HCE HT2 HVA HRV hCK0
        generalize wc = W4 at *
        go_upto_region 11 with (fail)
        have r6 := HB6.out.range
        go_wp2_with (refine wpList_load_mid rfl _ _ rfl b6 0 rfl (SG P' p') _ r6 Tryz.underlying80 rfl hi6 ?_)
        refine (HTX.out _ _ _ HRP.out (HG.out _ HX.out).tok).mono ?_
        rintro e W5 ⟨rfl, hx⟩
        replace HX := Lib.hid (Ext.tr HX.out hx)
        replace HB0 := Lib.hid (HB0.out.ext hx)
        replace HB1 := Lib.hid (HB1.out.ext hx)
        replace HB5 := Lib.hid (HB5.out.ext hx)
        replace HB6 := Lib.hid (HB6.out.ext hx)
        replace HRA := Lib.hid (HRA.out.ext hx)
        replace HRP := Lib.hid (HRP.out.ext hx)
        clear hx r6
        go_wp2_with fail
        refine (HP1.out _ HX.out).mono ?_
        rintro e W6 ⟨⟨B8, d8, rfl, hr, -⟩, hx⟩
        replace HX := Lib.hid (Ext.tr HX.out hx)
        replace HB0 := Lib.hid (HB0.out.ext hx)
        replace HB1 := Lib.hid (HB1.out.ext hx)
        replace HB5 := Lib.hid (HB5.out.ext hx)
        replace HB6 := Lib.hid (HB6.out.ext hx)
        replace HRA := Lib.hid (HRA.out.ext hx)
        replace HRP := Lib.hid (HRP.out.ext hx)
        have HR8 := Lib.hid hr
        clear hx hr HP1
        have hl8 := hYl B8 d8
        have ho8 := hYo B8 d8
        go_upto_region 12 with (refine wpList_store_new rfl _ _ _ rfl _ _ (YG B8 d8) rfl rfl (by rw [hl8]; rfl) (by rw [hl8]; rfl) ho8 ?_; intro W7 hX hB; replace HX := Lib.hid (Ext.tr HX.out hX); replace HB0 := Lib.hid (HB0.out.ext hX); replace HB1 := Lib.hid (HB1.out.ext hX); replace HB5 := Lib.hid (HB5.out.ext hX); replace HB6 := Lib.hid (HB6.out.ext hX); replace HRA := Lib.hid (HRA.out.ext hX); replace HRP := Lib.hid (HRP.out.ext hX); replace HR8 := Lib.hid (HR8.out.ext hX); have HB8 := Lib.hid hB; clear hX hB)
        generalize W6.heap.size = b8 at *
        have r1 := HB1.out.range
        go_wp2_with (refine wpList_load_mid rfl _ _ rfl (w.heap.size + 1) 0 rfl SV _ r1 Tryz.underlying73 rfl hisv ?_)
        refine (HRT.out _ HX.out).mono ?_
        rintro e W8 ⟨rfl, hx⟩
        replace HX := Lib.hid (Ext.tr HX.out hx)
        replace HB0 := Lib.hid (HB0.out.ext hx)
        replace HB1 := Lib.hid (HB1.out.ext hx)
        replace HB5 := Lib.hid (HB5.out.ext hx)
        replace HB6 := Lib.hid (HB6.out.ext hx)
        replace HRA := Lib.hid (HRA.out.ext hx)
        replace HRP := Lib.hid (HRP.out.ext hx)
        replace HR8 := Lib.hid (HR8.out.ext hx)
        replace HB8 := Lib.hid (HB8.out.ext hx)
        clear hx r1
        go_wp2_with fail
        refine (HP2.out _).mono ?_
        rintro e W9 ⟨⟨B9, d9, rfl, hr, -⟩, hx⟩
        replace HX := Lib.hid (Ext.tr HX.out hx)
        replace HB0 := Lib.hid (HB0.out.ext hx)
        replace HB1 := Lib.hid (HB1.out.ext hx)
        replace HB5 := Lib.hid (HB5.out.ext hx)
        replace HB6 := Lib.hid (HB6.out.ext hx)
        replace HRA := Lib.hid (HRA.out.ext hx)
        replace HRP := Lib.hid (HRP.out.ext hx)
        replace HR8 := Lib.hid (HR8.out.ext hx)
        replace HB8 := Lib.hid (HB8.out.ext hx)
        have HR9 := Lib.hid hr
        clear hx hr HP2
        have hl9 := hYl B9 d9
        have ho9 := hYo B9 d9
        go_upto_region 13 with (refine wpList_store_new rfl _ _ _ rfl _ _ (YG B9 d9) rfl rfl (by rw [hl9]; rfl) (by rw [hl9]; rfl) ho9 ?_; intro W10 hX hB; replace HX := Lib.hid (Ext.tr HX.out hX); replace HB0 := Lib.hid (HB0.out.ext hX); replace HB1 := Lib.hid (HB1.out.ext hX); replace HB5 := Lib.hid (HB5.out.ext hX); replace HB6 := Lib.hid (HB6.out.ext hX); replace HRA := Lib.hid (HRA.out.ext hX); replace HRP := Lib.hid (HRP.out.ext hX); replace HR8 := Lib.hid (HR8.out.ext hX); replace HB8 := Lib.hid (HB8.out.ext hX); replace HR9 := Lib.hid (HR9.out.ext hX); have HB9 := Lib.hid hB; clear hX hB)
        generalize W9.heap.size = b9 at *
        have hi8 : (Tryz.prog.info? 80).map (·.size) = some (YG B8 d8).length := by rw [hl8]; rfl
        have hi9 : (Tryz.prog.info? 73).map (·.size) = some (YG B9 d9).length := by rw [hl9]; rfl
        have hEE : (E == E) = true := by simp
        replace HX := Lib.hid HX.out.drew
        replace HB0 := Lib.hid HB0.out.drew
        replace HB1 := Lib.hid HB1.out.drew
        replace HB5 := Lib.hid HB5.out.drew
        replace HB6 := Lib.hid HB6.out.drew
        replace HRA := Lib.hid HRA.out.drew
        replace HRP := Lib.hid HRP.out.drew
        replace HR8 := Lib.hid HR8.out.drew
        replace HB8 := Lib.hid HB8.out.drew
        replace HR9 := Lib.hid HR9.out.drew
        replace HB9 := Lib.hid HB9.out.drew
        have HCE := Lib.hid (show ∀ W, Ext W10.drew W → (W.rangeAt b8 0 (YG B8 d8) ∧ W.rangeAt b9 0 (YG B9 d9) ∧ W.rangeAt b6 0 (SG P' p')) from fun W hx => ⟨(HB8.out.ext hx).range, (HB9.out.ext hx).range, (HB6.out.ext hx).range⟩)
        have HY := Lib.hid (Ext.rfl' W10.drew)
        refine wp_region_held_drew (S := fun W => W.rangeAt b8 0 (YG B8 d8) ∧ W.rangeAt b9 0 (YG B9 d9) ∧ W.rangeAt b6 0 (SG P' p')) (by kernel_rfl) (HCE.out _ HY.out) (fun hHeld => ?_)
        generalize W10.drew = Y0 at *
        refine wpAnyH_take (i := 0) (v := ?_) (by first | (simp only [List.getElem?_toArray, List.getElem?_cons_zero, List.getElem?_cons_succ]; done) | (simp only [List.getElem?_toArray, List.getElem?_cons_zero, List.getElem?_cons_succ]; rfl)) (by kernel_rfl) (by kernel_rfl) (by kernel_rfl) (by exact fun _ _ _ h => h) (Or.inl ⟨by rfl, ?hy0⟩) (by assumption) ?_
        case hy0 => (intro w' hSw; clear hSw; go_simp; try with_reducible rfl)
        try simp only [Act.put, List.setIfInBounds_toArray, List.set_cons_zero, List.set_cons_succ]
        refine wpAnyH_take (i := 1) (v := ?_) (by first | (simp only [List.getElem?_toArray, List.getElem?_cons_zero, List.getElem?_cons_succ]; done) | (simp only [List.getElem?_toArray, List.getElem?_cons_zero, List.getElem?_cons_succ]; rfl)) (by kernel_rfl) (by kernel_rfl) (by kernel_rfl) (by exact fun _ _ _ h => h) (Or.inl ⟨by rfl, ?hy1⟩) (by assumption) ?_
        case hy1 => (intro w' hSw; clear hSw; go_simp; try with_reducible rfl)
        try simp only [Act.put, List.setIfInBounds_toArray, List.set_cons_zero, List.set_cons_succ]
        refine wpAnyH_take (i := 2) (v := ?_) (by first | (simp only [List.getElem?_toArray, List.getElem?_cons_zero, List.getElem?_cons_succ]; done) | (simp only [List.getElem?_toArray, List.getElem?_cons_zero, List.getElem?_cons_succ]; rfl)) (by kernel_rfl) (by kernel_rfl) (by kernel_rfl) (by exact fun _ _ _ h => h) (Or.inl ⟨by rfl, ?hy2⟩) (by assumption) ?_
        case hy2 => (intro w' hSw; clear hSw; go_simp; try with_reducible rfl)
        try simp only [Act.put, List.setIfInBounds_toArray, List.set_cons_zero, List.set_cons_succ]
        refine wpAnyH_take (i := 3) (v := ?_) (by first | (simp only [List.getElem?_toArray, List.getElem?_cons_zero, List.getElem?_cons_succ]; done) | (simp only [List.getElem?_toArray, List.getElem?_cons_zero, List.getElem?_cons_succ]; rfl)) (by kernel_rfl) (by kernel_rfl) (by kernel_rfl) (by exact fun _ _ _ h => h) (Or.inl ⟨by rfl, ?hy3⟩) (by assumption) ?_
        case hy3 => (intro w' hSw; clear hSw; go_simp; try with_reducible rfl)
        try simp only [Act.put, List.setIfInBounds_toArray, List.set_cons_zero, List.set_cons_succ]
        refine wpAnyH_take (i := 4) (v := .agg (YG B8 d8).toArray) (by first | (simp only [List.getElem?_toArray, List.getElem?_cons_zero, List.getElem?_cons_succ]; done) | (simp only [List.getElem?_toArray, List.getElem?_cons_zero, List.getElem?_cons_succ]; rfl)) (by kernel_rfl) (by kernel_rfl) (by kernel_rfl) (by exact fun _ _ _ h => h) (Or.inl ⟨by rfl, fun w' hSw => run_load_mid _ _ _ _ rfl b8 0 (by rfl) _ _ w' hSw.1 Tryz.underlying80 rfl hi8⟩) (by assumption) ?_
        try simp only [Act.put, List.setIfInBounds_toArray, List.set_cons_zero, List.set_cons_succ]
        refine wpAnyH_take (i := 6) (v := .agg (YG B9 d9).toArray) (by first | (simp only [List.getElem?_toArray, List.getElem?_cons_zero, List.getElem?_cons_succ]; done) | (simp only [List.getElem?_toArray, List.getElem?_cons_zero, List.getElem?_cons_succ]; rfl)) (by kernel_rfl) (by kernel_rfl) (by kernel_rfl) (by exact fun _ _ _ h => h) (Or.inl ⟨by rfl, fun w' hSw => run_load_mid _ _ _ _ rfl b9 0 (by rfl) _ _ w' hSw.2.1 Tryz.underlying73 rfl hi9⟩) (by assumption) ?_
        try simp only [Act.put, List.setIfInBounds_toArray, List.set_cons_zero, List.set_cons_succ]
        refine wpAnyH_ready (rs := [5]) (by kernel_rfl) (by simp) ?_
        refine AllReadyH.cons (by first | (simp only [List.getElem?_toArray, List.getElem?_cons_zero, List.getElem?_cons_succ]; done) | (simp only [List.getElem?_toArray, List.getElem?_cons_zero, List.getElem?_cons_succ]; rfl)) (fun K hK => ?_) AllReadyH.nil
        go_simp
        refine (HOY.out _ _ _ (HR8.out.ext HY.out)).mono ?_
        rintro e Y301 ⟨⟨A3, c3, rfl, hr3, -⟩, hx⟩
        have HR3 := Lib.hid hr3
        clear hr3
        replace HY := Lib.hid (HY.out.tr hx)
        try (go_wp2_with fail)
        refine hK.out _ _ (HCE.out _ HY.out) (fun hHeld => ?_)
        clear hx hK K
        try simp only [Act.put, List.setIfInBounds_toArray, List.set_cons_zero, List.set_cons_succ]
        refine wpAnyH_ready (rs := [7]) (by kernel_rfl) (by simp) ?_
        refine AllReadyH.cons (by first | (simp only [List.getElem?_toArray, List.getElem?_cons_zero, List.getElem?_cons_succ]; done) | (simp only [List.getElem?_toArray, List.getElem?_cons_zero, List.getElem?_cons_succ]; rfl)) (fun K hK => ?_) AllReadyH.nil
        go_simp
        refine (HSY.out _ _ _ _ _ HR3.out (HR9.out.ext HY.out)).mono ?_
        rintro e Y302 ⟨rfl, hx⟩
        clear HR3
        replace HY := Lib.hid (HY.out.tr hx)
        try (go_wp2_with fail)
        refine hK.out _ _ (HCE.out _ HY.out) (fun hHeld => ?_)
        clear hx hK K
        try simp only [Act.put, List.setIfInBounds_toArray, List.set_cons_zero, List.set_cons_succ]
        refine wpAnyH_take (i := 8) (v := ?_) (by first | (simp only [List.getElem?_toArray, List.getElem?_cons_zero, List.getElem?_cons_succ]; done) | (simp only [List.getElem?_toArray, List.getElem?_cons_zero, List.getElem?_cons_succ]; rfl)) (by kernel_rfl) (by kernel_rfl) (by kernel_rfl) (by exact fun _ _ _ h => h) (Or.inl ⟨by rfl, ?hy8⟩) (by assumption) ?_
        case hy8 => (intro w' hSw; clear hSw; go_simp; try with_reducible rfl)
        try simp only [Act.put, List.setIfInBounds_toArray, List.set_cons_zero, List.set_cons_succ]
        refine wpAnyH_take (i := 9) (v := ?_) (by first | (simp only [List.getElem?_toArray, List.getElem?_cons_zero, List.getElem?_cons_succ]; done) | (simp only [List.getElem?_toArray, List.getElem?_cons_zero, List.getElem?_cons_succ]; rfl)) (by kernel_rfl) (by kernel_rfl) (by kernel_rfl) (by exact fun _ _ _ h => h) (Or.inl ⟨by rfl, ?hy9⟩) (by assumption) ?_
        case hy9 => (intro w' hSw; clear hSw; go_simp; try with_reducible rfl)
        try simp only [Act.put, List.setIfInBounds_toArray, List.set_cons_zero, List.set_cons_succ]
        refine wpAnyH_take (i := 10) (v := .agg (SG P' p').toArray) (by first | (simp only [List.getElem?_toArray, List.getElem?_cons_zero, List.getElem?_cons_succ]; done) | (simp only [List.getElem?_toArray, List.getElem?_cons_zero, List.getElem?_cons_succ]; rfl)) (by kernel_rfl) (by kernel_rfl) (by kernel_rfl) (by exact fun _ _ _ h => h) (Or.inl ⟨by rfl, fun w' hSw => run_load_mid _ _ _ _ rfl b6 0 (by rfl) _ _ w' hSw.2.2 Tryz.underlying80 rfl hi6⟩) (by assumption) ?_
        try simp only [Act.put, List.setIfInBounds_toArray, List.set_cons_zero, List.set_cons_succ]
        refine wpAnyH_take (i := 11) (v := .agg (SG P' p').toArray) (by first | (simp only [List.getElem?_toArray, List.getElem?_cons_zero, List.getElem?_cons_succ]; done) | (simp only [List.getElem?_toArray, List.getElem?_cons_zero, List.getElem?_cons_succ]; rfl)) (by kernel_rfl) (by kernel_rfl) (by kernel_rfl) (by exact fun _ _ _ h => h) (Or.inl ⟨by rfl, fun w' hSw => run_load_mid _ _ _ _ rfl b6 0 (by rfl) _ _ w' hSw.2.2 Tryz.underlying80 rfl hi6⟩) (by assumption) ?_
        try simp only [Act.put, List.setIfInBounds_toArray, List.set_cons_zero, List.set_cons_succ]
        refine wpAnyH_ready (rs := [12]) (by kernel_rfl) (by simp) ?_
        refine AllReadyH.cons (by first | (simp only [List.getElem?_toArray, List.getElem?_cons_zero, List.getElem?_cons_succ]; done) | (simp only [List.getElem?_toArray, List.getElem?_cons_zero, List.getElem?_cons_succ]; rfl)) (fun K hK => ?_) AllReadyH.nil
        go_simp
        refine (HSS.out _ _ _ _ _ (HRP.out.ext HY.out) (HRP.out.ext HY.out)).mono ?_
        rintro e Y303 ⟨rfl, hx⟩
        replace HY := Lib.hid (HY.out.tr hx)
        try (go_wp2_with fail)
        refine hK.out _ _ (HCE.out _ HY.out) (fun hHeld => ?_)
        clear hx hK K
        try simp only [Act.put, List.setIfInBounds_toArray, List.set_cons_zero, List.set_cons_succ]
        refine wpAnyH_take (i := 13) (v := ?_) (by first | (simp only [List.getElem?_toArray, List.getElem?_cons_zero, List.getElem?_cons_succ]; done) | (simp only [List.getElem?_toArray, List.getElem?_cons_zero, List.getElem?_cons_succ]; rfl)) (by kernel_rfl) (by kernel_rfl) (by kernel_rfl) (by exact fun _ _ _ h => h) (Or.inl ⟨by rfl, ?hy13⟩) (by assumption) ?_
        case hy13 => (intro w' hSw; clear hSw; go_simp; try with_reducible rfl)
        try simp only [Act.put, List.setIfInBounds_toArray, List.set_cons_zero, List.set_cons_succ]
        refine wpAnyH_take (i := 14) (v := ?_) (by first | (simp only [List.getElem?_toArray, List.getElem?_cons_zero, List.getElem?_cons_succ]; done) | (simp only [List.getElem?_toArray, List.getElem?_cons_zero, List.getElem?_cons_succ]; rfl)) (by kernel_rfl) (by kernel_rfl) (by kernel_rfl) (by exact fun _ _ _ h => h) (Or.inl ⟨by rfl, ?hy14⟩) (by assumption) ?_
        case hy14 => (intro w' hSw; clear hSw; go_simp; try with_reducible rfl)
        try simp only [Act.put, List.setIfInBounds_toArray, List.set_cons_zero, List.set_cons_succ]
        refine wpAnyH_done (by kernel_rfl) ?_ _
        clear hHeld
        have HFIN := Lib.hid (Ext.tr HX.out HY.out)
        go_wp2
        go_ret
        exact ⟨ret_bool (by first | rfl | simp), HFIN.out⟩
theorem stampAny_walk' {w : World} (f ht : Int) (A : Option Addr) (l : List Nat) (c : Nat) (hk : I64 f ∧ I64 ht ∧ Rd w A (cDg l) ∧ (∀ x ∈ l, x < 18446744073709551616) ∧ l.length ≤ maxLen) (s : K.St) (P : Option Addr) (cp : Nat) (hs : Rd w P (cDg s.sig.path) ∧ K.StOk s ∧ s.sig.path.length ≤ maxLen) (h : KOk w) :
    Calls Tryz.prog 5 #[.agg (kyV f A l.length c ht).toArray, .agg (stC s P cp).toArray] w fun e w' => e = .returned (.bool true) ∧ Ext w w' :=
  sany_walk f ht hk.1 hk.2.1 l hk.2.2.2.1 A c (by have := hk.2.2.2.2; unfold maxLen at this; omega) s hs.2.1 P cp (by have := hs.2.2; unfold maxLen at this; omega) w hk.2.2.1 hs.1 h
end Go.Proofs.YtbbgmlnfpnomiaaGreatDoor
