/- The reference's ParseSig and SameSig. -/
import Derived.Test.YtbbgmlnfpnomiaaGreatDoorKR3
set_option linter.unusedVariables false
set_option linter.unusedSimpArgs false
namespace Go.Proofs.YtbbgmlnfpnomiaaGreatDoor
open Go.RowKit Go.Sort
theorem part_setN {l l' : List Nat} (h : l'.length = l.length) {k : Nat} (hk : k < l.length) : (part l l' k).set k (l'.getD k 0) = part l l' (k + 1) := by
  rw [part, part, List.set_append_right _ _ (by rw [List.length_take]; omega), List.length_take, Nat.min_eq_left (by omega), Nat.sub_self, List.take_succ_eq_append_getElem (by omega), List.append_assoc, List.drop_eq_getElem_cons hk, List.set_cons_zero]
  simp [List.getD, List.getElem?_eq_getElem (show k < l'.length by omega)]
theorem sgV_set (who leaf : Int) (one : List Nat) (A : Option Addr) (n c : Nat) {k : Nat} (hk : k < one.length) (y : Nat) : (sgV who leaf one A n c).set (2 + k) (cU64 y) = sgV who leaf (one.set k y) A n c := by
  rw [Nat.add_comm 2 k]
  show Value.int .i64 who :: Value.int .i64 leaf :: (cDg one ++ [Value.slice A n c]).set k (cU64 y) = _
  rw [List.set_append_left _ _ (by rw [List.length_map]; exact hk), ← List.map_set]
  rfl
set_option maxRecDepth 100000 in
theorem run_buildZr (f : Operand → Value) (o : Oper) (ho : o.op = .build 45 #[]) (w : World) : (execOp f o).run Tryz.prog w = .ok (.value (.agg sgZ.toArray)) w := by
  unfold execOp
  simp only [ho]
  go_simp
  rfl
set_option maxRecDepth 100000 in
theorem run_build3r (f : Operand → Value) (x0 x1 x3 : Operand) (o : Oper) (ho : o.op = .build 45 #[(0, x0), (1, x1), (3, x3)]) (a b : Int) (A : Option Addr) (n c : Nat) (h0 : f x0 = Value.int .i64 a) (h1 : f x1 = Value.int .i64 b) (h3 : f x3 = Value.slice A n c) (w : World) :
    (execOp f o).run Tryz.prog w = .ok (.value (.agg (sgV a b (List.replicate 18 0) A n c).toArray)) w := by
  unfold execOp
  simp only [ho]
  go_simp
  try simp only [h0, h1, h3]
  try rfl
/-- What a row of digests' reading tells, in one form. -/
theorem rhex_form {n0 : Nat} {p : List UInt8} {e : Ending} {w : World} (h : RHexEnd n0 (K.phex p) e w) : ∃ (l : List Nat) (A : Option Addr) (c : Nat) (b : Bool) (x : Int), e = .returned (.tuple #[.slice A l.length c, .bool b]) ∧ Rd w A (cDg l) ∧ (∀ ad, A = some ad → n0 ≤ ad.block) ∧ ((b = true ∧ x = 0) ∨ (b = false ∧ x = 2)) ∧ ((x = 0 ∧ K.phex p = some l) ∨ (x ≠ 0 ∧ K.phex p = none)) := by
  cases hp : K.phex p with
  | none => rw [hp] at h; exact ⟨[], none, 0, false, 2, h, Rd.nil _ _, (fun _ h => by cases h), .inr ⟨rfl, rfl⟩, .inr ⟨by decide, rfl⟩⟩
  | some l => rw [hp] at h; obtain ⟨A, c, h1, h2, h3⟩ := h; exact ⟨l, A, c, true, 0, h1, h2, h3, .inl ⟨rfl, rfl⟩, .inl ⟨rfl, rfl⟩⟩
set_option maxRecDepth 100000 in
set_option maxHeartbeats 4000000 in
theorem rparsesig_calls (s : ByteArray) (hs : s.size ≤ 1000000) (w : World) :
    Calls Tryz.prog 36 #[.string s] w fun e w' => SigEnd w.heap.size (K.psig (bs s)) e w' ∧ Ext w w' := by
  have HSP := Lib.hid (fun W => rsplit_calls s (by omega) W)
  rw [J.rsplit_split] at HSP
  have HB0 := Lib.hid (Blk.new w 45 [.int .i64 0, .int .i64 0, .int .u64 0, .int .u64 0, .int .u64 0, .int .u64 0, .int .u64 0, .int .u64 0, .int .u64 0, .int .u64 0, .int .u64 0, .int .u64 0, .int .u64 0, .int .u64 0, .int .u64 0, .int .u64 0, .int .u64 0, .int .u64 0, .int .u64 0, .int .u64 0, .slice none 0 0])
  have HX0 := Lib.hid ((Ext.rfl' w).alloc (.cells #[.int .i64 0, .int .i64 0, .int .u64 0, .int .u64 0, .int .u64 0, .int .u64 0, .int .u64 0, .int .u64 0, .int .u64 0, .int .u64 0, .int .u64 0, .int .u64 0, .int .u64 0, .int .u64 0, .int .u64 0, .int .u64 0, .int .u64 0, .int .u64 0, .int .u64 0, .int .u64 0, .slice none 0 0] 45))
  have HPS := Lib.hid (show K.psig (bs s) = match J.split (bs s) with | .ok l => K.psigL l | .error _ => none from rfl)
  go_enter Tryz.func36, Tryz.ntmps36
  go_upto_region 1 with (fail)
  change Hid (Blk (w.alloc (.cells #[.int .i64 0, .int .i64 0, .int .u64 0, .int .u64 0, .int .u64 0, .int .u64 0, .int .u64 0, .int .u64 0, .int .u64 0, .int .u64 0, .int .u64 0, .int .u64 0, .int .u64 0, .int .u64 0, .int .u64 0, .int .u64 0, .int .u64 0, .int .u64 0, .int .u64 0, .int .u64 0, .slice none 0 0] 45)) w.heap.size 45 [.int .i64 0, .int .i64 0, .int .u64 0, .int .u64 0, .int .u64 0, .int .u64 0, .int .u64 0, .int .u64 0, .int .u64 0, .int .u64 0, .int .u64 0, .int .u64 0, .int .u64 0, .int .u64 0, .int .u64 0, .int .u64 0, .int .u64 0, .int .u64 0, .int .u64 0, .int .u64 0, .slice none 0 0]) at HB0
  generalize w.alloc (.cells #[.int .i64 0, .int .i64 0, .int .u64 0, .int .u64 0, .int .u64 0, .int .u64 0, .int .u64 0, .int .u64 0, .int .u64 0, .int .u64 0, .int .u64 0, .int .u64 0, .int .u64 0, .int .u64 0, .int .u64 0, .int .u64 0, .int .u64 0, .int .u64 0, .int .u64 0, .int .u64 0, .slice none 0 0] 45) = W0 at *
  generalize hZ : ([.int .i64 0, .int .i64 0, .int .u64 0, .int .u64 0, .int .u64 0, .int .u64 0, .int .u64 0, .int .u64 0, .int .u64 0, .int .u64 0, .int .u64 0, .int .u64 0, .int .u64 0, .int .u64 0, .int .u64 0, .int .u64 0, .int .u64 0, .int .u64 0, .int .u64 0, .int .u64 0, .slice none 0 0] : List Value) = ZL at HB0
  have HZ := Lib.hid (show ZL.length = 21 by rw [← hZ]; rfl)
  clear hZ
  go_wp2_with fail
  refine (HSP.out W0).mono ?_
  rintro e W1 ⟨he, hx⟩
  have HB := Lib.hid (HB0.out.ext hx)
  have HX := Lib.hid (HX0.out.tr hx)
  clear hx HB0 HX0 HSP
  cases hsp : J.split (bs s) with
  | error n =>
    rw [hsp] at he
    obtain rfl : e = .returned (.tuple #[.slice none 0 0, .int .i64 (n : Int)]) := he
    have hn := split_err hsp
    have hnz : ((n : Int) != 0) = true := by simp; omega
    have hnz2 : ((n : Int) == 0) = false := by simp; omega
    rw [hsp] at HPS
    go_upto_region 3 with (fail)
    have hth : W1.there w.heap.size 0 21 := by
      have h := HB.out.there
      rw [HZ.out] at h
      exact h
    have hput : Blk (W1.setCells w.heap.size 0 sgZ) w.heap.size 45 sgZ ∧ Ext w (W1.setCells w.heap.size 0 sgZ) := ⟨HB.out.put (by rw [HZ.out]; rfl), Ext.setCells (Nat.le_refl _) _ _ _ HX.out⟩
    refine wp_region_lit ?_
    refine wpList_val rfl (.agg sgZ.toArray) (run_buildZr _ _ rfl _) ?_
    refine wpList_store_mid rfl _ _ _ rfl w.heap.size 0 sgZ.toArray rfl rfl hth rfl (all_oneCell_toArray sgZ_one) ?_
    rw [List.toList_toArray]
    clear hth
    generalize W1.setCells w.heap.size 0 sgZ = W9 at *
    go_wp2
    exact ret_cell_tmp rfl hput.1 Tryz.underlying45 rfl rfl rfl rfl ⟨by rw [HPS.out]; exact rfl, hput.2⟩
  | ok l =>
    rw [hsp] at he HPS
    change Hid (K.psig (bs s) = K.psigL l) at HPS
    obtain ⟨A0, c0, rfl, hrd⟩ : ∃ A c, e = .returned (.tuple #[.slice A l.length c, .int .i64 0]) ∧ Rd W1 A (cFs l) := he
    by_cases h4 : l.length = 4
    · match l, h4 with
      | [fa, fb, fc, fd], _ =>
        have hj := J.join_split hsp
        obtain ⟨ad, rfl, _, hc0⟩ := hrd.at_ (j := 0) (u := .string (strOf fa)) rfl
        have hc1 : W1.cell? (ad.add 1) = some (.string (strOf fb)) := by obtain ⟨_, e, _, h⟩ := hrd.at_ (j := 1) (u := .string (strOf fb)) rfl; cases e; exact h
        have hc2 : W1.cell? (ad.add 2) = some (.string (strOf fc)) := by obtain ⟨_, e, _, h⟩ := hrd.at_ (j := 2) (u := .string (strOf fc)) rfl; cases e; exact h
        have hc3 : W1.cell? (ad.add 3) = some (.string (strOf fd)) := by obtain ⟨_, e, _, h⟩ := hrd.at_ (j := 3) (u := .string (strOf fd)) rfl; cases e; exact h
        rw [show ad.add 0 = ad from by simp [Addr.add]] at hc0
        rw [show ad.add 1 = ⟨ad.block, ad.off + 1, none⟩ from by simp [Addr.add]] at hc1
        rw [show ad.add 2 = ⟨ad.block, ad.off + 2, none⟩ from by simp [Addr.add]] at hc2
        rw [show ad.add 3 = ⟨ad.block, ad.off + 3, none⟩ from by simp [Addr.add]] at hc3
        have hlen : fa.length + fb.length + fc.length + fd.length ≤ s.size := by
          have := congrArg List.length hj
          have e1 := esc_ge fa
          have e2 := esc_ge fb
          have e3 := esc_ge fc
          have e4 := esc_ge fd
          have e5 : (bs s).length = s.size := rfl
          simp only [J.join, List.length_cons, List.length_append, List.length_nil] at this
          omega
        have hz : ∀ f : List UInt8, (strOf f).size = f.length := fun f => by show f.toArray.size = _; simp
        have HC := Lib.hid (And.intro hc0 (And.intro hc1 (And.intro hc2 hc3)))
        have HNa := Lib.hid (fun W => rpnum_calls (strOf fa) (by rw [hz]; omega) W)
        have HNb := Lib.hid (fun W => rpnum_calls (strOf fb) (by rw [hz]; omega) W)
        have HHc := Lib.hid (fun W => rphex_calls (strOf fc) (by rw [hz]; omega) W)
        have HHd := Lib.hid (fun W => rphex_calls (strOf fd) (by rw [hz]; omega) W)
        rw [bs_strOf] at HNa HNb HHc HHd
        clear hrd hc1 hc2 hc3 hj hlen hz hsp
        go_wp2_with fail
        refine (HNa.out _).mono ?_
        rintro e _ ⟨he, rfl⟩
        obtain ⟨v6, e7, rfl, he7, hc7⟩ := num_form he
        have hc1 := HC.out.2.1
        replace HC := Lib.hid HC.out.2.2
        clear hc0 he
        go_wp2_with fail
        refine (HNb.out _).mono ?_
        rintro e _ ⟨he, rfl⟩
        obtain ⟨v8, e9, rfl, he9, hc9⟩ := num_form he
        have hc2 := HC.out.1
        replace HC := Lib.hid HC.out.2
        clear hc1 he
        go_wp2_with fail
        have hW1 : w.heap.size < W1.heap.size := HB.out.lt
        refine (HHc.out _).mono ?_
        rintro e W4 ⟨he, hx⟩
        obtain ⟨l1, A1, c1, b1, e11, rfl, hr1, -, hbx1, hc11⟩ := rhex_form he
        replace HX := Lib.hid (HX.out.tr hx)
        replace HB := Lib.hid (HB.out.ext hx)
        have hc3 := hx.cell HC.out
        clear hx hc2 he HC
        go_wp2_with fail
        have hW4 : w.heap.size < W4.heap.size := HB.out.lt
        refine (HHd.out _).mono ?_
        rintro e W5 ⟨he, hx⟩
        obtain ⟨l2, A2, c2, b2, e13, rfl, hr2, hl2, hbx2, hc13⟩ := rhex_form he
        replace HX := Lib.hid (HX.out.tr hx)
        replace HB := Lib.hid (HB.out.ext hx)
        replace hr1 := hr1.ext hx
        have HR1 := Lib.hid hr1
        have HR2 := Lib.hid hr2
        clear hx hc3 he hr1 hr2 HNa HNb HHc HHd
        have HP4 := Lib.hid (show K.psig (bs s) = K.psig4 fa fb fc fd from HPS.out)
        have HBAD := Lib.hid (fun hb => HP4.out.trans (sig4_bad hc7 hc9 hc11 hc13 hb))
        have HGOOD := Lib.hid (fun g1 g2 g3 g4 g5 => HP4.out.trans (sig4_good hc7 hc9 hc11 hc13 g1 g2 g3 g4 g5))
        clear hc7 hc9 hc11 hc13 he7 he9 HP4 HPS
        by_cases g7 : e7 = 0
        · subst g7
          by_cases g9 : e9 = 0
          · subst g9
            rcases hbx1 with ⟨rfl, rfl⟩ | ⟨rfl, rfl⟩
            · rcases hbx2 with ⟨rfl, rfl⟩ | ⟨rfl, rfl⟩
              · by_cases b2 : v6 < 0
                · skip
                  have HPS := Lib.hid (HBAD.out (.inr (.inr (.inr (.inr (fun h => absurd h.1 (by omega)))))))
                  clear HBAD HGOOD
                  go_upto_region 9 with (fail)
                  have hth : W5.there w.heap.size 0 21 := by
                    have h := HB.out.there
                    rw [HZ.out] at h
                    exact h
                  have hput : Blk (W5.setCells w.heap.size 0 sgZ) w.heap.size 45 sgZ ∧ Ext w (W5.setCells w.heap.size 0 sgZ) := ⟨HB.out.put (by rw [HZ.out]; rfl), Ext.setCells (Nat.le_refl _) _ _ _ HX.out⟩
                  refine wp_region_lit ?_
                  refine wpList_val rfl (.agg sgZ.toArray) (run_buildZr _ _ rfl _) ?_
                  refine wpList_store_mid rfl _ _ _ rfl w.heap.size 0 sgZ.toArray rfl rfl hth rfl (all_oneCell_toArray sgZ_one) ?_
                  rw [List.toList_toArray]
                  clear hth
                  generalize W5.setCells w.heap.size 0 sgZ = W9 at *
                  go_wp2
                  exact ret_cell_tmp rfl hput.1 Tryz.underlying45 rfl rfl rfl rfl ⟨by rw [HPS.out]; exact rfl, hput.2⟩
                · by_cases b3 : 15 < v6
                  · skip
                    have HPS := Lib.hid (HBAD.out (.inr (.inr (.inr (.inr (fun h => absurd h.2.1 (by omega)))))))
                    clear HBAD HGOOD
                    go_upto_region 9 with (fail)
                    have hth : W5.there w.heap.size 0 21 := by
                      have h := HB.out.there
                      rw [HZ.out] at h
                      exact h
                    have hput : Blk (W5.setCells w.heap.size 0 sgZ) w.heap.size 45 sgZ ∧ Ext w (W5.setCells w.heap.size 0 sgZ) := ⟨HB.out.put (by rw [HZ.out]; rfl), Ext.setCells (Nat.le_refl _) _ _ _ HX.out⟩
                    refine wp_region_lit ?_
                    refine wpList_val rfl (.agg sgZ.toArray) (run_buildZr _ _ rfl _) ?_
                    refine wpList_store_mid rfl _ _ _ rfl w.heap.size 0 sgZ.toArray rfl rfl hth rfl (all_oneCell_toArray sgZ_one) ?_
                    rw [List.toList_toArray]
                    clear hth
                    generalize W5.setCells w.heap.size 0 sgZ = W9 at *
                    go_wp2
                    exact ret_cell_tmp rfl hput.1 Tryz.underlying45 rfl rfl rfl rfl ⟨by rw [HPS.out]; exact rfl, hput.2⟩
                  · by_cases b4 : v8 < 0
                    · skip
                      have HPS := Lib.hid (HBAD.out (.inr (.inr (.inr (.inr (fun h => absurd h.2.2.1 (by omega)))))))
                      clear HBAD HGOOD
                      go_upto_region 9 with (fail)
                      have hth : W5.there w.heap.size 0 21 := by
                        have h := HB.out.there
                        rw [HZ.out] at h
                        exact h
                      have hput : Blk (W5.setCells w.heap.size 0 sgZ) w.heap.size 45 sgZ ∧ Ext w (W5.setCells w.heap.size 0 sgZ) := ⟨HB.out.put (by rw [HZ.out]; rfl), Ext.setCells (Nat.le_refl _) _ _ _ HX.out⟩
                      refine wp_region_lit ?_
                      refine wpList_val rfl (.agg sgZ.toArray) (run_buildZr _ _ rfl _) ?_
                      refine wpList_store_mid rfl _ _ _ rfl w.heap.size 0 sgZ.toArray rfl rfl hth rfl (all_oneCell_toArray sgZ_one) ?_
                      rw [List.toList_toArray]
                      clear hth
                      generalize W5.setCells w.heap.size 0 sgZ = W9 at *
                      go_wp2
                      exact ret_cell_tmp rfl hput.1 Tryz.underlying45 rfl rfl rfl rfl ⟨by rw [HPS.out]; exact rfl, hput.2⟩
                    · by_cases b5 : l1.length = 18
                      · by_cases b6 : 8 < l2.length
                        · skip
                          have HPS := Lib.hid (HBAD.out (.inr (.inr (.inr (.inr (fun h => absurd h.2.2.2.2 (by omega)))))))
                          have b6' : (8 : Int) < (l2.length : Int) := by omega
                          have b5' : (l1.length : Int) = 18 := by omega
                          have b5n : ((l1.length : Int) == 18) = true := by rw [b5']; rfl
                          clear HBAD HGOOD
                          go_upto_region 9 with (fail)
                          have hth : W5.there w.heap.size 0 21 := by
                            have h := HB.out.there
                            rw [HZ.out] at h
                            exact h
                          have hput : Blk (W5.setCells w.heap.size 0 sgZ) w.heap.size 45 sgZ ∧ Ext w (W5.setCells w.heap.size 0 sgZ) := ⟨HB.out.put (by rw [HZ.out]; rfl), Ext.setCells (Nat.le_refl _) _ _ _ HX.out⟩
                          refine wp_region_lit ?_
                          refine wpList_val rfl (.agg sgZ.toArray) (run_buildZr _ _ rfl _) ?_
                          refine wpList_store_mid rfl _ _ _ rfl w.heap.size 0 sgZ.toArray rfl rfl hth rfl (all_oneCell_toArray sgZ_one) ?_
                          rw [List.toList_toArray]
                          clear hth
                          generalize W5.setCells w.heap.size 0 sgZ = W9 at *
                          go_wp2
                          exact ret_cell_tmp rfl hput.1 Tryz.underlying45 rfl rfl rfl rfl ⟨by rw [HPS.out]; exact rfl, hput.2⟩
                        · skip
                          have HPS := Lib.hid (HGOOD.out rfl rfl rfl rfl ⟨by omega, by omega, by omega, b5, by omega⟩)
                          clear HBAD HGOOD
                          obtain ⟨ad1, rfl, _, _⟩ := HR1.out.at_ (j := 0) (u := cU64 (l1.getD 0 0)) (by simp [List.getD, List.getElem?_eq_getElem (show 0 < l1.length by omega)])
                          have b5' : (l1.length : Int) = 18 := by omega
                          have b5n : ((l1.length : Int) == 18) = true := by rw [b5']; rfl
                          have b6' : ¬ ((8 : Int) < (l2.length : Int)) := by omega
                          have hz18 : (List.replicate 18 0 : List Nat).length = 18 := rfl
                          have hs21 := sgV_len v6 v8 (List.replicate 18 0) hz18 A2 l2.length c2
                          have hson := sgV_one v6 v8 (List.replicate 18 0) A2 l2.length c2
                          have hA2 : ∀ ad, A2 = some ad → ad.block ≠ w.heap.size := fun ad e => by have := hl2 ad e; omega
                          have HFA := Lib.hid (show ∀ ad, A2 = some ad → w.heap.size ≤ ad.block from fun ad e => by have := hl2 ad e; omega)
                          have hAX : ∀ ad, A2 = some ad → cDg l2 ≠ [] → ad.block < W5.heap.size := fun ad e hne => by
                            rcases HR2.out with h0 | ⟨ad', e', hb', _⟩
                            · exact absurd h0 hne
                            · rw [e] at e'; cases e'; exact hb'
                          have hwx : w.heap.size < W5.heap.size := HB.out.lt
                          have hne15 : ad1.block < W5.heap.size := by
                            rcases HR1.out with h0 | ⟨ad', e', hb', _⟩
                            · have := congrArg List.length h0
                              simp at this
                              omega
                            · cases e'; exact hb'
                          go_upto_region 11 with (first
                            | (refine wpList_val rfl (.agg (sgV v6 v8 (List.replicate 18 0) A2 l2.length c2).toArray) (run_build3r _ _ _ _ _ rfl v6 v8 A2 l2.length c2 rfl rfl rfl _) ?_)
                            | (refine wpList_store_new rfl _ _ _ rfl _ _ (sgV v6 v8 (List.replicate 18 0) A2 l2.length c2) rfl rfl (by rw [hs21]; rfl) (by rw [hs21]; rfl) hson ?_; intro W6 hX hB; replace HX := Lib.hid (HX.out.tr hX); replace HB := Lib.hid (HB.out.ext hX); replace HR1 := Lib.hid (HR1.out.ext hX); replace HR2 := Lib.hid (HR2.out.ext hX); have HBX := Lib.hid hB; clear hX hB; generalize W5.heap.size = xb at *))
                          clear hs21 hson b5' b5n b6' b2 b3 b4 b6
                          go_wp2
                          go_loopw [15] (fun i wr => ∃ k : Nat, k ≤ 18 ∧ i = .int .i64 (k : Int) ∧ Blk wr xb 45 (sgV v6 v8 (part (List.replicate 18 0) l1 k) A2 l2.length c2) ∧ Blk wr w.heap.size 45 ZL ∧ Rd wr (some ad1) (cDg l1) ∧ Rd wr A2 (cDg l2) ∧ Ext w wr) (fun i _ => 18 - (intOf i).toNat)
                          case atStart => exact ⟨0, by omega, rfl, by rw [part_zero]; exact HBX.out, HB.out, HR1.out, HR2.out, HX.out⟩
                          case round =>
                            obtain ⟨k, hk, rfl, hbx, hb, hr1, hr2, hE⟩ := hrel
                            by_cases hlt : k < 18
                            · obtain ⟨_, ee, hbl, hc⟩ := hr1.at_ (j := k) (u := cU64 (l1.getD k 0)) (by simp [List.getD, List.getElem?_eq_getElem (show k < l1.length by omega)])
                              cases ee
                              have hpl := part_len (l := List.replicate 18 0) (l' := l1) b5 k (by rw [hz18]; omega)
                              have hst := sgV_set v6 v8 (part (List.replicate 18 0) l1 k) A2 l2.length c2 (k := k) (by rw [hpl, hz18]; exact hlt) (l1.getD k 0)
                              rw [part_setN (l := List.replicate 18 0) (l' := l1) b5 (by rw [hz18]; exact hlt)] at hst
                              have hcx : wr.cell? ⟨xb, 2 + k, none⟩ = some (cU64 ((List.replicate 18 0 : List Nat).getD k 0)) := by
                                have h := (sgV_at v6 v8 (part (List.replicate 18 0) l1 k) (by rw [hpl]; rfl) A2 l2.length c2).2.2.2 k _ (part_at (l := List.replicate 18 0) (l' := l1) b5 (by rw [hz18]; exact hlt))
                                rw [Nat.add_comm 2 k]
                                exact hbx.cell h
                              have hfz := hbx.frozen (2 + k)
                              have h3 := hbx.set (2 + k) (cU64 (l1.getD k 0))
                              rw [hst] at h3
                              have hne1 : ad1.block ≠ xb := (by omega)
                              have h4 := hb.other (x := ⟨xb, 2 + k, none⟩) (by show w.heap.size ≠ xb; omega) (cU64 (l1.getD k 0))
                              have h5 := hr1.setOther (b := xb) (j := 2 + k) (fun ad e => by cases e; exact hne1) (cU64 (l1.getD k 0))
                              have h6 : Rd (wr.setCell ⟨xb, 2 + k, none⟩ (cU64 (l1.getD k 0))) A2 (cDg l2) := by
                                by_cases h0 : cDg l2 = []
                                · exact .inl h0
                                · exact hr2.setOther (b := xb) (j := 2 + k) (fun ad e => by have := hAX ad e h0; omega) (cU64 (l1.getD k 0))
                              have hE4 : Ext w (wr.setCell ⟨xb, 2 + k, none⟩ (cU64 (l1.getD k 0))) := Below.setCell hE (by show w.heap.size ≤ xb; omega) _
                              have HF4 := Lib.hid (And.intro h3 (And.intro h4 (And.intro h5 (And.intro h6 hE4))))
                              clear h3 h4 h5 h6 hE hE4 hbx hb hr1 hr2 hst hpl
                              generalize l1.getD k 0 = y at *
                              go_wp2
                              go_roundw
                              case rel => exact ⟨k + 1, hlt, by go_num, HF4.out.1, HF4.out.2.1, HF4.out.2.2.1, HF4.out.2.2.2.1, HF4.out.2.2.2.2⟩
                              case measure => simp [intOf]; omega
                            · obtain rfl : k = 18 := by omega
                              rw [part_done hz18 b5] at hbx
                              have HLN := sgV_len v6 v8 l1 b5 A2 l2.length c2
                              have hon := all_oneCell_toArray (sgV_one v6 v8 l1 A2 l2.length c2)
                              have hth : wr.there w.heap.size 0 (sgV v6 v8 l1 A2 l2.length c2).toArray.size := by
                                have h := hb.there
                                rw [HZ.out] at h
                                have e : (sgV v6 v8 l1 A2 l2.length c2).toArray.size = 21 := by rw [List.size_toArray]; exact HLN
                                rw [e]
                                exact h
                              have hi21 : (Tryz.prog.info? 45).map (·.size) = some (sgV v6 v8 l1 A2 l2.length c2).toArray.size := by rw [List.size_toArray, HLN]; rfl
                              have HFI := Lib.hid (show Blk (wr.setCells w.heap.size 0 (sgV v6 v8 l1 A2 l2.length c2)) w.heap.size 45 (sgV v6 v8 l1 A2 l2.length c2) ∧ Ext w (wr.setCells w.heap.size 0 (sgV v6 v8 l1 A2 l2.length c2)) ∧ Rd (wr.setCells w.heap.size 0 (sgV v6 v8 l1 A2 l2.length c2)) A2 (cDg l2) from ⟨hb.put (by rw [HZ.out]; exact HLN), Ext.setCells (Nat.le_refl _) _ _ _ hE, Rd.setCellsO hA2 _ _ _ hr2⟩)
                              have hrgx := hbx.range
                              clear HX HB HR1 HR2 HBX hb hr1 hr2 hE hbx HLN
                              obtain ⟨SG, hSG⟩ : ∃ SG, sgV v6 v8 l1 A2 l2.length c2 = SG := ⟨_, rfl⟩
                              rw [hSG] at hon hth hi21 HFI hrgx
                              have HSG := Lib.hid hSG
                              clear hSG
                              go_wp2_with (first
                                | (refine wpList_store_mid rfl _ _ _ rfl w.heap.size 0 SG.toArray rfl rfl hth hi21 hon ?_; rw [List.toList_toArray]; generalize wr.setCells w.heap.size 0 SG = W9 at *)
                                | (refine wpList_load_mid rfl _ _ rfl xb 0 rfl SG _ hrgx Tryz.underlying45 rfl (by simpa using hi21) ?_))
                              exact ret_cell_tmp rfl HFI.out.1 Tryz.underlying45 rfl (by simpa using hi21) rfl rfl ⟨by rw [HPS.out, ← HSG.out]; exact ⟨A2, c2, rfl, HFI.out.2.2, HFA.out⟩, HFI.out.2.1⟩
                      · skip
                        have HPS := Lib.hid (HBAD.out (.inr (.inr (.inr (.inr (fun h => absurd h.2.2.2.1 b5))))))
                        have b5' : ¬ ((l1.length : Int) = 18) := by omega
                        have b5n : ((l1.length : Int) == 18) = false := beq_eq_false_iff_ne.2 b5'
                        clear HBAD HGOOD
                        go_upto_region 9 with (fail)
                        have hth : W5.there w.heap.size 0 21 := by
                          have h := HB.out.there
                          rw [HZ.out] at h
                          exact h
                        have hput : Blk (W5.setCells w.heap.size 0 sgZ) w.heap.size 45 sgZ ∧ Ext w (W5.setCells w.heap.size 0 sgZ) := ⟨HB.out.put (by rw [HZ.out]; rfl), Ext.setCells (Nat.le_refl _) _ _ _ HX.out⟩
                        refine wp_region_lit ?_
                        refine wpList_val rfl (.agg sgZ.toArray) (run_buildZr _ _ rfl _) ?_
                        refine wpList_store_mid rfl _ _ _ rfl w.heap.size 0 sgZ.toArray rfl rfl hth rfl (all_oneCell_toArray sgZ_one) ?_
                        rw [List.toList_toArray]
                        clear hth
                        generalize W5.setCells w.heap.size 0 sgZ = W9 at *
                        go_wp2
                        exact ret_cell_tmp rfl hput.1 Tryz.underlying45 rfl rfl rfl rfl ⟨by rw [HPS.out]; exact rfl, hput.2⟩
              · skip
                have HPS := Lib.hid (HBAD.out (.inr (.inr (.inr (.inl (by decide))))))
                clear HBAD HGOOD
                go_upto_region 9 with (fail)
                have hth : W5.there w.heap.size 0 21 := by
                  have h := HB.out.there
                  rw [HZ.out] at h
                  exact h
                have hput : Blk (W5.setCells w.heap.size 0 sgZ) w.heap.size 45 sgZ ∧ Ext w (W5.setCells w.heap.size 0 sgZ) := ⟨HB.out.put (by rw [HZ.out]; rfl), Ext.setCells (Nat.le_refl _) _ _ _ HX.out⟩
                refine wp_region_lit ?_
                refine wpList_val rfl (.agg sgZ.toArray) (run_buildZr _ _ rfl _) ?_
                refine wpList_store_mid rfl _ _ _ rfl w.heap.size 0 sgZ.toArray rfl rfl hth rfl (all_oneCell_toArray sgZ_one) ?_
                rw [List.toList_toArray]
                clear hth
                generalize W5.setCells w.heap.size 0 sgZ = W9 at *
                go_wp2
                exact ret_cell_tmp rfl hput.1 Tryz.underlying45 rfl rfl rfl rfl ⟨by rw [HPS.out]; exact rfl, hput.2⟩
            · skip
              have HPS := Lib.hid (HBAD.out (.inr (.inr (.inl (by decide)))))
              clear HBAD HGOOD
              go_upto_region 9 with (fail)
              have hth : W5.there w.heap.size 0 21 := by
                have h := HB.out.there
                rw [HZ.out] at h
                exact h
              have hput : Blk (W5.setCells w.heap.size 0 sgZ) w.heap.size 45 sgZ ∧ Ext w (W5.setCells w.heap.size 0 sgZ) := ⟨HB.out.put (by rw [HZ.out]; rfl), Ext.setCells (Nat.le_refl _) _ _ _ HX.out⟩
              refine wp_region_lit ?_
              refine wpList_val rfl (.agg sgZ.toArray) (run_buildZr _ _ rfl _) ?_
              refine wpList_store_mid rfl _ _ _ rfl w.heap.size 0 sgZ.toArray rfl rfl hth rfl (all_oneCell_toArray sgZ_one) ?_
              rw [List.toList_toArray]
              clear hth
              generalize W5.setCells w.heap.size 0 sgZ = W9 at *
              go_wp2
              exact ret_cell_tmp rfl hput.1 Tryz.underlying45 rfl rfl rfl rfl ⟨by rw [HPS.out]; exact rfl, hput.2⟩
          · have g9b : (e9 == 0) = false := beq_eq_false_iff_ne.2 g9
            have g9n : (e9 != 0) = true := by simp [g9]
            have HPS := Lib.hid (HBAD.out (.inr (.inl g9)))
            clear HBAD HGOOD
            go_upto_region 9 with (fail)
            have hth : W5.there w.heap.size 0 21 := by
              have h := HB.out.there
              rw [HZ.out] at h
              exact h
            have hput : Blk (W5.setCells w.heap.size 0 sgZ) w.heap.size 45 sgZ ∧ Ext w (W5.setCells w.heap.size 0 sgZ) := ⟨HB.out.put (by rw [HZ.out]; rfl), Ext.setCells (Nat.le_refl _) _ _ _ HX.out⟩
            refine wp_region_lit ?_
            refine wpList_val rfl (.agg sgZ.toArray) (run_buildZr _ _ rfl _) ?_
            refine wpList_store_mid rfl _ _ _ rfl w.heap.size 0 sgZ.toArray rfl rfl hth rfl (all_oneCell_toArray sgZ_one) ?_
            rw [List.toList_toArray]
            clear hth
            generalize W5.setCells w.heap.size 0 sgZ = W9 at *
            go_wp2
            exact ret_cell_tmp rfl hput.1 Tryz.underlying45 rfl rfl rfl rfl ⟨by rw [HPS.out]; exact rfl, hput.2⟩
        · have g7b : (e7 == 0) = false := beq_eq_false_iff_ne.2 g7
          have g7n : (e7 != 0) = true := by simp [g7]
          have HPS := Lib.hid (HBAD.out (.inl g7))
          clear HBAD HGOOD
          go_upto_region 9 with (fail)
          have hth : W5.there w.heap.size 0 21 := by
            have h := HB.out.there
            rw [HZ.out] at h
            exact h
          have hput : Blk (W5.setCells w.heap.size 0 sgZ) w.heap.size 45 sgZ ∧ Ext w (W5.setCells w.heap.size 0 sgZ) := ⟨HB.out.put (by rw [HZ.out]; rfl), Ext.setCells (Nat.le_refl _) _ _ _ HX.out⟩
          refine wp_region_lit ?_
          refine wpList_val rfl (.agg sgZ.toArray) (run_buildZr _ _ rfl _) ?_
          refine wpList_store_mid rfl _ _ _ rfl w.heap.size 0 sgZ.toArray rfl rfl hth rfl (all_oneCell_toArray sgZ_one) ?_
          rw [List.toList_toArray]
          clear hth
          generalize W5.setCells w.heap.size 0 sgZ = W9 at *
          go_wp2
          exact ret_cell_tmp rfl hput.1 Tryz.underlying45 rfl rfl rfl rfl ⟨by rw [HPS.out]; exact rfl, hput.2⟩
    · have h4b : ((l.length : Int) == 4) = false := beq_eq_false_iff_ne.2 (by omega)
      have h4n : ((l.length : Int) != 4) = true := by simp; omega
      have h4i : ¬ ((l.length : Int) = 4) := by omega
      have hbad : K.psigL l = none := by
        match l, h4 with
        | [], _ => rfl
        | [_], _ => rfl
        | [_, _], _ => rfl
        | [_, _, _], _ => rfl
        | [_, _, _, _], h => exact absurd rfl h
        | _ :: _ :: _ :: _ :: _ :: _, _ => rfl
      rw [hbad] at HPS
      clear hbad
      go_upto_region 3 with (fail)
      have hth : W1.there w.heap.size 0 21 := by
        have h := HB.out.there
        rw [HZ.out] at h
        exact h
      have hput : Blk (W1.setCells w.heap.size 0 sgZ) w.heap.size 45 sgZ ∧ Ext w (W1.setCells w.heap.size 0 sgZ) := ⟨HB.out.put (by rw [HZ.out]; rfl), Ext.setCells (Nat.le_refl _) _ _ _ HX.out⟩
      refine wp_region_lit ?_
      refine wpList_val rfl (.agg sgZ.toArray) (run_buildZr _ _ rfl _) ?_
      refine wpList_store_mid rfl _ _ _ rfl w.heap.size 0 sgZ.toArray rfl rfl hth rfl (all_oneCell_toArray sgZ_one) ?_
      rw [List.toList_toArray]
      clear hth
      generalize W1.setCells w.heap.size 0 sgZ = W9 at *
      go_wp2
      exact ret_cell_tmp rfl hput.1 Tryz.underlying45 rfl rfl rfl rfl ⟨by rw [HPS.out]; exact rfl, hput.2⟩
theorem cells1u : Tryz.prog.cellsOf 22 = 1 := by kernel_rfl
theorem cells18u : Tryz.prog.cellsOf 42 = 18 := by kernel_rfl
theorem lits18u (l : List Nat) (h : l.length = 18) (hl : ∀ x ∈ l, x < 18446744073709551616) : Tryz.prog.keyLits 2 42 (cDg l) = some (((List.range 18).map fun i => [Lit.int .u64 ((l.getD i 0 : Nat) : Int)]).flatten) := by
  unfold Program.keyLits
  rw [Tryz.underlying42]
  dsimp only
  rw [if_pos (by rw [cells18u, List.length_map, h]), mapM_some _ (fun i => [Lit.int .u64 ((l.getD i 0 : Nat) : Int)])]
  · rfl
  · intro i hi
    have hi := List.mem_range.1 hi
    have e : ((cDg l).drop (i * Tryz.prog.cellsOf 22)).take (Tryz.prog.cellsOf 22) = [cU64 (l.getD i 0)] := by
      rw [cells1u, Nat.mul_one, List.drop_eq_getElem_cons (by rw [List.length_map]; omega)]
      simp [List.getD, List.getElem?_eq_getElem (show i < l.length by omega)]
    rw [e]
    unfold Program.keyLits
    rw [Tryz.underlying22]
    dsimp only
    rw [if_pos ⟨rfl, wf_u64 _ (getD_lt hl i)⟩]
theorem eq18u (l : List Nat) (h : l.length = 18) (hl : ∀ x ∈ l, x < 18446744073709551616) (w : World) : (Op.equalIn 10000 42 (.agg (cDg l).toArray) (.agg (cDg l).toArray)).run Tryz.prog w = .ok true w := by
  have hd := run_equalIn_deep (P := Tryz.prog) 9998 2 42 (by kernel_rfl)
  have hf : (Value.agg (cDg l).toArray).formed Tryz.prog 42 = true := by
    simp [Value.formed, cells18u, h]
  have hc : (Value.agg (cDg l).toArray).cells.toList = cDg l := rfl
  obtain ⟨r, h1, h2⟩ := hd w 2 2 _ _ _ _ hf hf (by rw [hc]; exact lits18u l h hl) (by rw [hc]; exact lits18u l h hl)
  rw [h1, h2.2 rfl]
set_option maxRecDepth 100000 in
set_option maxHeartbeats 4000000 in
theorem rsame_calls (who leaf : Int) (one : List Nat) (ho : one.length = 18) (hol : ∀ x ∈ one, x < 18446744073709551616) (l : List Nat) (hn : l.length ≤ 100000) (A B : Option Addr) (c d : Nat) (w : World) (hA : Rd w A (cDg l)) (hB : Rd w B (cDg l)) :
    Calls Tryz.prog 24 #[.agg (sgV who leaf one A l.length c).toArray, .agg (sgV who leaf one B l.length d).toArray] w fun e w' => e = .returned (.bool true) ∧ Ext w w' := by
  have b0 := (Blk.new w 45 (sgV who leaf one A l.length c)).ext ((Ext.rfl' _).alloc (.cells (sgV who leaf one B l.length d).toArray 45))
  have b1 := Blk.new (w.alloc (.cells (sgV who leaf one A l.length c).toArray 45)) 45 (sgV who leaf one B l.length d)
  rw [World.size_alloc] at b1
  have hE := ((Ext.rfl' w).alloc (.cells (sgV who leaf one A l.length c).toArray 45)).alloc (.cells (sgV who leaf one B l.length d).toArray 45)
  have at0 := sgV_at who leaf one ho A l.length c
  have at1 := sgV_at who leaf one ho B l.length d
  have hs18 : (cDg one).length = 18 := by rw [List.length_map, ho]
  have hi18 : (Tryz.prog.info? 42).map (·.size) = some (cDg one).length := by rw [hs18]; rfl
  have heq := fun w' : World => eq18u one ho hol w'
  have HA := Lib.hid hA
  have HB := Lib.hid hB
  generalize sgV who leaf one A l.length c = SA at *
  generalize sgV who leaf one B l.length d = SB at *
  generalize cDg one = OS at *
  clear ho hol hA hB hs18
  go_enter Tryz.func24, Tryz.ntmps24
  go_upto_region 1 with (fail)
  generalize (w.alloc (.cells SA.toArray 45)).alloc (.cells SB.toArray 45) = W1 at *
  have a0 : W1.cell? ⟨w.heap.size, 0, none⟩ = some (.int .i64 who) := b0.cell at0.1
  have a1 : W1.cell? ⟨w.heap.size, 1, none⟩ = some (.int .i64 leaf) := b0.cell at0.2.1
  have a20 : W1.cell? ⟨w.heap.size, 20, none⟩ = some (.slice A l.length c) := b0.cell at0.2.2.1
  have c0 : W1.cell? ⟨w.heap.size + 1, 0, none⟩ = some (.int .i64 who) := b1.cell at1.1
  have c1 : W1.cell? ⟨w.heap.size + 1, 1, none⟩ = some (.int .i64 leaf) := b1.cell at1.2.1
  have c20 : W1.cell? ⟨w.heap.size + 1, 20, none⟩ = some (.slice B l.length d) := b1.cell at1.2.2.1
  have r0 : W1.rangeAt w.heap.size 2 OS := fun j v hj => by rw [Nat.add_comm 2 j]; exact b0.cell (at0.2.2.2 j v hj)
  have r1 : W1.rangeAt (w.heap.size + 1) 2 OS := fun j v hj => by rw [Nat.add_comm 2 j]; exact b1.cell (at1.2.2.2 j v hj)
  clear b0 b1 at0 at1
  have HE := Lib.hid hE
  clear hE
  have HC2 := Lib.hid (And.intro a20 c20)
  go_upto_region 3 with (first
    | (refine wpList_load_midw (by rfl) _ _ rfl w.heap.size 2 rfl OS _ r0 Tryz.underlying42 rfl hi18 ?_)
    | (refine wpList_load_midw (by rfl) _ _ rfl (w.heap.size + 1) 2 rfl OS _ r1 Tryz.underlying42 rfl hi18 ?_))
  clear a0 a1 a20 c0 c1 c20 r0 r1 heq hi18
  go_wp2
  go_loopw [5] (fun i wr => ∃ k : Nat, k ≤ l.length ∧ i = .int .i64 (k : Int) ∧ Ext W1 wr) (fun i _ => l.length - (intOf i).toNat)
  case atStart => exact ⟨0, by omega, rfl, Ext.rfl' _⟩
  case round =>
    obtain ⟨k, hk, rfl, hE⟩ := hrel
    have a20 := hE.cell HC2.out.1
    have c20 := hE.cell HC2.out.2
    by_cases hlt : k < l.length
    · obtain ⟨ad, rfl, _, hc⟩ := (HA.out.ext (HE.out.tr hE)).at_ (j := k) (u := cU64 l[k]) (by simp [hlt])
      obtain ⟨ad2, rfl, _, hc2⟩ := (HB.out.ext (HE.out.tr hE)).at_ (j := k) (u := cU64 l[k]) (by simp [hlt])
      have hk0 : (k : Int) < (l.length : Int) := by omega
      generalize l[k] = x at *
      have HX := Lib.hid hE.drew
      clear hE
      go_wp2
      go_region
      go_wp2
      go_roundw
      case rel => exact ⟨k + 1, hlt, by go_num, HX.out⟩
      case measure => simp [intOf]; omega
    · obtain rfl : k = l.length := by omega
      have HX := Lib.hid (HE.out.tr hE)
      clear hE
      go_wp2
      go_ret
      exact ⟨rfl, HX.out⟩
end Go.Proofs.YtbbgmlnfpnomiaaGreatDoor
