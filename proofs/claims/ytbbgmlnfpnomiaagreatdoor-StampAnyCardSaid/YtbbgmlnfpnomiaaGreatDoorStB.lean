/- Stamps: whether one is signed, valid; keys that may be; making one. -/
import Derived.Test.YtbbgmlnfpnomiaaGreatDoorStA
import Derived.Test.YtbbgmlnfpnomiaaGreatDoorKUse
set_option linter.unusedVariables false
set_option linter.unusedSimpArgs false
namespace Go.Proofs.YtbbgmlnfpnomiaaGreatDoor
open Go.RowKit Go.Sort
namespace K
/-- Whether a signature of a replica holds. -/
noncomputable def sgn (roots : List Nat) (ht who sw leaf : Int) (one path : List Nat) (d : Nat) : Bool := decide (sw = who ∧ 0 ≤ who ∧ who < (roots.length : Int)) && vsig (roots.getD who.toNat 0) d leaf one path ht
/-- What is wrong with a stamp. -/
noncomputable def validE (f : Int) (roots : List Nat) (ht : Int) (cmd : Nat) (who at_ sw leaf : Int) (one path : List Nat) : Int :=
  if whoE f who = 0 ∧ whenE at_ = 0 then (if sgn roots ht who sw leaf one path (stD cmd who at_) then 0 else 7) else 1
/-- What is wrong with keys. -/
def ckE (f : Int) (n : Nat) (ht : Int) : Int := if 1 ≤ f ∧ f ≤ 3 ∧ (n : Int) = 3 * f + 1 ∧ 0 ≤ ht ∧ ht ≤ 8 then 0 else 1
end K
theorem sgn_no {roots : List Nat} {ht who sw leaf : Int} {one path : List Nat} {d : Nat} (h : ¬ (sw = who ∧ 0 ≤ who ∧ who < (roots.length : Int))) : K.sgn roots ht who sw leaf one path d = false := by
  rw [K.sgn, decide_eq_false h, Bool.false_and]
theorem sgn_in {roots : List Nat} {ht sw leaf : Int} {one path : List Nat} {d k : Nat} (h : k < roots.length) (e : sw = (k : Int)) : K.sgn roots ht (k : Int) sw leaf one path d = K.vsig (roots.getD k 0) d leaf one path ht := by
  rw [K.sgn, decide_eq_true ⟨e, by omega, by omega⟩, Bool.true_and]
  rfl
set_option maxRecDepth 100000 in
set_option maxHeartbeats 2000000 in
theorem ssigned_calls (f : Int) (roots : List Nat) (hrt : ∀ x ∈ roots, x < 18446744073709551616) (A : Option Addr) (c : Nat) (ht who sw leaf : Int) (one : List Nat) (hone : one.length = 18) (hol : ∀ x ∈ one, x < 18446744073709551616) (P : Option Addr) (cp : Nat) (path : List Nat) (hpl : ∀ x ∈ path, x < 18446744073709551616) (d : Nat) (hd : d < 18446744073709551616) (w : World) (hA : Rd w A (cDg roots)) (hP : Rd w P (cDg path)) :
    Calls Tryz.prog 149 #[.agg (kyV f A roots.length c ht).toArray, .int .i64 who, .agg (sgV sw leaf one P path.length cp).toArray, cU64 d] w fun e w' => e = .returned (.int .i64 (if K.sgn roots ht who sw leaf one path d then 0 else 7)) ∧ Ext w w' := by
  have hb0 := (Blk.new w 77 (kyV f A roots.length c ht)).ext ((Ext.rfl' _).alloc (.cells (sgV sw leaf one P path.length cp).toArray 39))
  have hb1 := Blk.new (w.alloc (.cells (kyV f A roots.length c ht).toArray 77)) 39 (sgV sw leaf one P path.length cp)
  rw [World.size_alloc] at hb1
  have hE := ((Ext.rfl' w).alloc (.cells (kyV f A roots.length c ht).toArray 77)).alloc (.cells (sgV sw leaf one P path.length cp).toArray 39)
  have hs0 : (sgV sw leaf one P path.length cp)[0]? = some (.int .i64 sw) := rfl
  have hk1 : (kyV f A roots.length c ht)[1]? = some (.slice A roots.length c) := rfl
  have hk2 : (kyV f A roots.length c ht)[2]? = some (.int .i64 ht) := rfl
  have hs21 := sgV_len sw leaf one hone P path.length cp
  have HV := Lib.hid (fun r hr W (hx : Ext w W) => verify_all r d hr hd sw leaf one hone hol P cp path hpl ht W (hP.ext hx))
  generalize sgV sw leaf one P path.length cp = SV at *
  generalize kyV f A roots.length c ht = KV at *
  have p0 := fun z : ExtW ((w.alloc (.cells KV.toArray 77)).alloc (.cells SV.toArray 39)) => (hb1.ext z.2).cell hs0
  have p1 := fun z : ExtW ((w.alloc (.cells KV.toArray 77)).alloc (.cells SV.toArray 39)) => (hb0.ext z.2).cell hk1
  have p2 := fun z : ExtW ((w.alloc (.cells KV.toArray 77)).alloc (.cells SV.toArray 39)) => (hb0.ext z.2).cell hk2
  have HGS := Lib.hid (show ∀ w', (∃ z : ExtW ((w.alloc (.cells KV.toArray 77)).alloc (.cells SV.toArray 39)), w' = z.1) → w'.rangeAt (w.heap.size + 1) 0 SV from fun w' ⟨z, e⟩ => e ▸ (hb1.ext z.2).range)
  have hi21 : (Tryz.prog.info? 39).map (·.size) = some SV.length := by rw [hs21]; rfl
  clear hs0 hk1 hk2 hs21
  by_cases g1 : sw = who
  · subst g1
    have g1b : (sw == sw) = true := by simp
    have g1n : (sw != sw) = false := by simp
    by_cases g2 : 0 ≤ sw
    · by_cases g3 : sw < (roots.length : Int)
      · obtain ⟨k, rfl⟩ := Int.eq_ofNat_of_zero_le g2
        rw [sgn_in (show k < roots.length by omega) rfl]
        have hrk := getD_lt hrt k
        have hrc := fun W (hx : Ext w W) => (hA.ext hx).at_ (j := k) (u := cU64 (roots.getD k 0)) (by simp [List.getD, List.getElem?_eq_getElem (show k < roots.length by omega)])
        obtain ⟨ad, rfl, -, -⟩ := hrc w (Ext.rfl' w)
        have hrc2 : ∀ W, Ext w W → W.cell? (ad.add k) = some (cU64 (roots.getD k 0)) := fun W hx => by obtain ⟨_, e, _, h⟩ := hrc W hx; cases e; exact h
        have g3' : ¬ ((roots.length : Int) ≤ (k : Int)) := by omega
        have g2' : ¬ ((k : Int) < 0) := by omega
        have XV := Lib.hid (fun z : ExtW ((w.alloc (.cells KV.toArray 77)).alloc (.cells SV.toArray 39)) => HV.out _ hrk z.1 (hE.tr z.2))
        clear HV
        generalize roots.getD k 0 = r at *
        generalize K.vsig r d leaf one path ht = V at *
        have p3 := fun z : ExtW ((w.alloc (.cells KV.toArray 77)).alloc (.cells SV.toArray 39)) => hrc2 _ (hE.tr z.2)
        clear hrc hrc2 hrk hA hP hrt hol hone hpl hd
        cases V
        all_goals
          go_enter Tryz.func149, Tryz.ntmps149
          go_upto_region 1 with (fail)
          generalize (w.alloc (.cells KV.toArray 77)).alloc (.cells SV.toArray 39) = W1 at *
          have HE := Lib.hid hE
          clear hE hb0 hb1
          refine wp_region_grow (by kernel_rfl) (by kernel_rfl) ?_
          repeat (any_goals (first | (refine wpQuiet_load_mid _ _ rfl (by rfl) (w.heap.size + 1) 0 (by rfl) SV _ HGS.out Tryz.underlying39 rfl hi21 ?_; simp only [Act.put, List.setIfInBounds_toArray, List.set_cons_zero, List.set_cons_succ]) | (go_big_quiet_step ((go_at_call 111; exact grow_of (XV.out _))))))
          refine wpQuiet_nil ?_
          rintro W2 ⟨z, hz⟩
          have HX := Lib.hid (HE.out.tr (show Ext W1 W2 by rw [hz]; exact z.2))
          clear hz z p0 p1 p2 p3 XV HGS
          go_wp2
          go_ret
          exact ⟨by first | rfl | simp, HX.out⟩
      · rw [sgn_no (by omega)]
        have g3' : (roots.length : Int) ≤ sw := by omega
        have g2' : ¬ (sw < 0) := by omega
        clear HV hA hP hrt hol hone hpl hd HGS hi21 g2 g3
        go_enter Tryz.func149, Tryz.ntmps149
        go_upto_region 1 with (fail)
        generalize (w.alloc (.cells KV.toArray 77)).alloc (.cells SV.toArray 39) = W1 at *
        have HE := Lib.hid hE
        clear hE hb0 hb1
        refine wp_region_grow (by kernel_rfl) (by kernel_rfl) ?_
        repeat (any_goals (go_big_quiet_step (fail)))
        refine wpQuiet_nil ?_
        rintro W2 ⟨z, hz⟩
        have HX := Lib.hid (HE.out.tr (show Ext W1 W2 by rw [hz]; exact z.2))
        clear hz z p0 p1 p2
        go_wp2
        go_ret
        exact ⟨by first | rfl | simp, HX.out⟩
    · rw [sgn_no (by omega)]
      have g2' : sw < 0 := by omega
      clear HV hA hP hrt hol hone hpl hd HGS hi21 g2
      go_enter Tryz.func149, Tryz.ntmps149
      go_upto_region 1 with (fail)
      generalize (w.alloc (.cells KV.toArray 77)).alloc (.cells SV.toArray 39) = W1 at *
      have HE := Lib.hid hE
      clear hE hb0 hb1
      refine wp_region_grow (by kernel_rfl) (by kernel_rfl) ?_
      repeat (any_goals (go_big_quiet_step (fail)))
      refine wpQuiet_nil ?_
      rintro W2 ⟨z, hz⟩
      have HX := Lib.hid (HE.out.tr (show Ext W1 W2 by rw [hz]; exact z.2))
      clear hz z p0 p1 p2
      go_wp2
      go_ret
      exact ⟨by first | rfl | simp, HX.out⟩
  · rw [sgn_no (fun h => g1 h.1)]
    have g1b : (sw == who) = false := beq_eq_false_iff_ne.2 g1
    have g1n : (sw != who) = true := by simp [g1]
    clear HV hA hP hrt hol hone hpl hd HGS hi21
    go_enter Tryz.func149, Tryz.ntmps149
    go_upto_region 1 with (fail)
    generalize (w.alloc (.cells KV.toArray 77)).alloc (.cells SV.toArray 39) = W1 at *
    have HE := Lib.hid hE
    clear hE hb0 hb1
    refine wp_region_grow (by kernel_rfl) (by kernel_rfl) ?_
    repeat (any_goals (go_big_quiet_step (fail)))
    refine wpQuiet_nil ?_
    rintro W2 ⟨z, hz⟩
    have HX := Lib.hid (HE.out.tr (show Ext W1 W2 by rw [hz]; exact z.2))
    clear hz z p0 p1 p2
    go_wp2
    go_ret
    exact ⟨by first | rfl | simp, HX.out⟩
set_option maxRecDepth 100000 in
set_option maxHeartbeats 2000000 in
theorem scheck_bad1 (f : Int) (hf : f < 1 ∨ 3 < f) (w : World) : Calls Tryz.prog 142 #[.agg #[.int .i64 f]] w fun e w' => e = .returned (.int .i64 1) ∧ Ext w w' := by
  have hE := (Ext.rfl' w).alloc (.cells #[.int .i64 f] 75)
  rcases hf with hf | hf
  · go_enter Tryz.func142, Tryz.ntmps142
    go_wp2
    go_ret
    exact ⟨rfl, hE⟩
  · have h1 : ¬ (f < 1) := by omega
    go_enter Tryz.func142, Tryz.ntmps142
    go_wp2
    go_ret
    exact ⟨rfl, hE⟩
theorem scheck_ok1 (f : Int) (hf : 1 ≤ f ∧ f ≤ 3) (w : World) : Calls Tryz.prog 142 #[.agg #[.int .i64 f]] w fun e w' => e = .returned (.int .i64 0) ∧ Ext w w' := by
  have hE := (Ext.rfl' w).alloc (.cells #[.int .i64 f] 75)
  have h1 : ¬ (f < 1) := by omega
  have h2 : ¬ (3 < f) := by omega
  go_enter Tryz.func142, Tryz.ntmps142
  go_wp2
  go_ret
  exact ⟨rfl, hE⟩
set_option maxRecDepth 100000 in
set_option maxHeartbeats 2000000 in
theorem scheck_calls (f : Int) (A : Option Addr) (n c : Nat) (ht : Int) (w : World) :
    Calls Tryz.prog 45 #[.agg (kyV f A n c ht).toArray] w fun e w' => e = .returned (.int .i64 (K.ckE f n ht)) ∧ Ext w w' := by
  have hb := Blk.new w 77 (kyV f A n c ht)
  have hE := (Ext.rfl' w).alloc (.cells (kyV f A n c ht).toArray 77)
  have hrg : ∀ W, Ext (w.alloc (.cells (kyV f A n c ht).toArray 77)) W → W.rangeAt w.heap.size 0 [.int .i64 f] := fun W hx j v hj => by
    have hj0 : j = 0 := by
      have := (List.getElem?_eq_some_iff.1 hj).1
      simp at this
      exact this
    subst hj0
    cases hj
    exact (hb.ext hx).cell rfl
  have hk1 : ∀ W, Ext (w.alloc (.cells (kyV f A n c ht).toArray 77)) W → W.cell? ⟨w.heap.size, 1, none⟩ = some (.slice A n c) := fun W hx => (hb.ext hx).cell rfl
  have hk2 : ∀ W, Ext (w.alloc (.cells (kyV f A n c ht).toArray 77)) W → W.cell? ⟨w.heap.size, 2, none⟩ = some (.int .i64 ht) := fun W hx => (hb.ext hx).cell rfl
  have hrg0 := hrg _ (Ext.rfl' _)
  generalize kyV f A n c ht = KV at *
  by_cases g1 : 1 ≤ f ∧ f ≤ 3
  · have HC := Lib.hid (scheck_ok1 f g1)
    have HN := Lib.hid (qn_calls f (by omega))
    have HG := Lib.hid (And.intro hrg (And.intro hk1 hk2))
    clear hrg hk1 hk2
    go_enter Tryz.func45, Tryz.ntmps45
    go_upto_region 1 with (fail)
    generalize w.alloc (.cells KV.toArray 77) = W1 at *
    have HE := Lib.hid hE
    clear hE hb
    go_wp2_with (refine wpList_load_mid rfl _ _ rfl w.heap.size 0 rfl [.int .i64 f] _ hrg0 Tryz.underlying75 rfl rfl ?_)
    refine (HC.out _).mono ?_
    rintro e W2 ⟨rfl, hx⟩
    have HX := Lib.hid (HE.out.tr hx)
    have HGR := Lib.hid (show ∀ w', (∃ z : ExtW W2, w' = z.1) → w'.rangeAt w.heap.size 0 [.int .i64 f] from fun w' ⟨z, e⟩ => e ▸ HG.out.1 _ (Ext.tr hx z.2))
    have p1 := fun z : ExtW W2 => HG.out.2.1 _ (Ext.tr hx z.2)
    have p2 := fun z : ExtW W2 => HG.out.2.2 _ (Ext.tr hx z.2)
    have XN := Lib.hid (fun z : ExtW W2 => HN.out z.1)
    clear hx hrg0 HG HN HC
    by_cases g2 : (n : Int) = 3 * f + 1
    · have g2b : ((n : Int) == 3 * f + 1) = true := by rw [g2]; simp
      have g2n : ((n : Int) != 3 * f + 1) = false := by rw [g2]; simp
      by_cases g3 : ht < 0
      · have g3d : decide (ht < 0) = true := decide_eq_true g3
        have HCK := Lib.hid (show K.ckE f n ht = 1 by rw [K.ckE, if_neg (by omega)])
        clear g2
        generalize 3 * f + 1 = N at *
        go_upto_region 4 with (fail)
        refine wp_region_grow (by kernel_rfl) (by kernel_rfl) ?_
        repeat (any_goals (first | (refine wpQuiet_load_mid _ _ rfl (by rfl) w.heap.size 0 (by rfl) [.int .i64 f] _ HGR.out Tryz.underlying75 rfl rfl ?_; simp only [Act.put, List.setIfInBounds_toArray, List.set_cons_zero, List.set_cons_succ]) | (go_big_quiet_step ((go_at_call 143; exact grow_of (XN.out _))))))
        refine wpQuiet_nil ?_
        rintro W3 ⟨z, hz⟩
        have HY := Lib.hid (HX.out.tr (show Ext W2 W3 by rw [hz]; exact z.2))
        clear hz z p1 p2 XN HGR
        go_wp2
        go_ret
        exact ⟨by rw [HCK.out]; rfl, HY.out⟩
      · have g3d : decide (ht < 0) = false := decide_eq_false g3
        by_cases g4 : 8 < ht
        · have g4d : decide (8 < ht) = true := decide_eq_true g4
          have HCK := Lib.hid (show K.ckE f n ht = 1 by rw [K.ckE, if_neg (by omega)])
          clear g2
          generalize 3 * f + 1 = N at *
          go_upto_region 4 with (fail)
          refine wp_region_grow (by kernel_rfl) (by kernel_rfl) ?_
          repeat (any_goals (first | (refine wpQuiet_load_mid _ _ rfl (by rfl) w.heap.size 0 (by rfl) [.int .i64 f] _ HGR.out Tryz.underlying75 rfl rfl ?_; simp only [Act.put, List.setIfInBounds_toArray, List.set_cons_zero, List.set_cons_succ]) | (go_big_quiet_step ((go_at_call 143; exact grow_of (XN.out _))))))
          refine wpQuiet_nil ?_
          rintro W3 ⟨z, hz⟩
          have HY := Lib.hid (HX.out.tr (show Ext W2 W3 by rw [hz]; exact z.2))
          clear hz z p1 p2 XN HGR
          go_wp2
          go_ret
          exact ⟨by rw [HCK.out]; rfl, HY.out⟩
        · have g4d : decide (8 < ht) = false := decide_eq_false g4
          have HCK := Lib.hid (show K.ckE f n ht = 0 by rw [K.ckE, if_pos (by omega)])
          clear g2
          generalize 3 * f + 1 = N at *
          go_upto_region 4 with (fail)
          refine wp_region_grow (by kernel_rfl) (by kernel_rfl) ?_
          repeat (any_goals (first | (refine wpQuiet_load_mid _ _ rfl (by rfl) w.heap.size 0 (by rfl) [.int .i64 f] _ HGR.out Tryz.underlying75 rfl rfl ?_; simp only [Act.put, List.setIfInBounds_toArray, List.set_cons_zero, List.set_cons_succ]) | (go_big_quiet_step ((go_at_call 143; exact grow_of (XN.out _))))))
          refine wpQuiet_nil ?_
          rintro W3 ⟨z, hz⟩
          have HY := Lib.hid (HX.out.tr (show Ext W2 W3 by rw [hz]; exact z.2))
          clear hz z p1 p2 XN HGR
          go_wp2
          go_ret
          exact ⟨by rw [HCK.out]; rfl, HY.out⟩
    · have HCK := Lib.hid (show K.ckE f n ht = 1 by rw [K.ckE, if_neg (by omega)])
      have g2b : ((n : Int) == 3 * f + 1) = false := beq_eq_false_iff_ne.2 g2
      have g2n : ((n : Int) != 3 * f + 1) = true := by simp [g2]
      clear g2
      generalize 3 * f + 1 = N at *
      go_upto_region 4 with (fail)
      refine wp_region_grow (by kernel_rfl) (by kernel_rfl) ?_
      repeat (any_goals (first | (refine wpQuiet_load_mid _ _ rfl (by rfl) w.heap.size 0 (by rfl) [.int .i64 f] _ HGR.out Tryz.underlying75 rfl rfl ?_; simp only [Act.put, List.setIfInBounds_toArray, List.set_cons_zero, List.set_cons_succ]) | (go_big_quiet_step ((go_at_call 143; exact grow_of (XN.out _))))))
      refine wpQuiet_nil ?_
      rintro W3 ⟨z, hz⟩
      have HY := Lib.hid (HX.out.tr (show Ext W2 W3 by rw [hz]; exact z.2))
      clear hz z p1 p2 XN HGR
      go_wp2
      go_ret
      exact ⟨by rw [HCK.out]; rfl, HY.out⟩
  · have HCK := Lib.hid (show K.ckE f n ht = 1 by rw [K.ckE, if_neg (by omega)])
    have HC := Lib.hid (scheck_bad1 f (by omega))
    clear hrg hk1 hk2 g1
    go_enter Tryz.func45, Tryz.ntmps45
    go_upto_region 1 with (fail)
    generalize w.alloc (.cells KV.toArray 77) = W1 at *
    have HE := Lib.hid hE
    clear hE hb
    go_wp2_with (refine wpList_load_mid rfl _ _ rfl w.heap.size 0 rfl [.int .i64 f] _ hrg0 Tryz.underlying75 rfl rfl ?_)
    refine (HC.out _).mono ?_
    rintro e W2 ⟨rfl, hx⟩
    have HX := Lib.hid (HE.out.tr hx)
    clear hx hrg0 HC
    go_wp2
    go_ret
    exact ⟨by rw [HCK.out]; rfl, HX.out⟩
end Go.Proofs.YtbbgmlnfpnomiaaGreatDoor
