/- The reference's stamps: N, Who, Signed. -/
import Derived.Test.YtbbgmlnfpnomiaaGreatDoorStC
import Derived.Test.YtbbgmlnfpnomiaaGreatDoorKR2
set_option linter.unusedVariables false
set_option linter.unusedSimpArgs false
namespace Go.Proofs.YtbbgmlnfpnomiaaGreatDoor
open Go.RowKit Go.Sort
set_option maxRecDepth 100000 in
set_option maxHeartbeats 2000000 in
theorem rsigned_calls (f : Int) (roots : List Nat) (hrt : ∀ x ∈ roots, x < 18446744073709551616) (A : Option Addr) (c : Nat) (ht who sw leaf : Int) (one : List Nat) (hone : one.length = 18) (hol : ∀ x ∈ one, x < 18446744073709551616) (P : Option Addr) (cp : Nat) (path : List Nat) (hpl : ∀ x ∈ path, x < 18446744073709551616) (d : Nat) (hd : d < 18446744073709551616) (w : World) (hA : Rd w A (cDg roots)) (hP : Rd w P (cDg path)) :
    Calls Tryz.prog 151 #[.agg (kyV f A roots.length c ht).toArray, .int .i64 who, .agg (sgV sw leaf one P path.length cp).toArray, cU64 d] w fun e w' => e = .returned (.bool (K.sgn roots ht who sw leaf one path d)) ∧ Ext w w' := by
  have hb0 := (Blk.new w 71 (kyV f A roots.length c ht)).ext ((Ext.rfl' _).alloc (.cells (sgV sw leaf one P path.length cp).toArray 45))
  have hb1 := Blk.new (w.alloc (.cells (kyV f A roots.length c ht).toArray 71)) 45 (sgV sw leaf one P path.length cp)
  rw [World.size_alloc] at hb1
  have hE := ((Ext.rfl' w).alloc (.cells (kyV f A roots.length c ht).toArray 71)).alloc (.cells (sgV sw leaf one P path.length cp).toArray 45)
  have hs0 : (sgV sw leaf one P path.length cp)[0]? = some (.int .i64 sw) := rfl
  have hk1 : (kyV f A roots.length c ht)[1]? = some (.slice A roots.length c) := rfl
  have hk2 : (kyV f A roots.length c ht)[2]? = some (.int .i64 ht) := rfl
  have hs21 := sgV_len sw leaf one hone P path.length cp
  have HV := Lib.hid (fun r hr W (hx : Ext w W) => rvsig_all r d hr hd sw leaf one hone hol P cp path hpl ht W (hP.ext hx))
  generalize sgV sw leaf one P path.length cp = SV at *
  generalize kyV f A roots.length c ht = KV at *
  have p0 := fun z : ExtW ((w.alloc (.cells KV.toArray 71)).alloc (.cells SV.toArray 45)) => (hb1.ext z.2).cell hs0
  have p1 := fun z : ExtW ((w.alloc (.cells KV.toArray 71)).alloc (.cells SV.toArray 45)) => (hb0.ext z.2).cell hk1
  have p2 := fun z : ExtW ((w.alloc (.cells KV.toArray 71)).alloc (.cells SV.toArray 45)) => (hb0.ext z.2).cell hk2
  have HGS := Lib.hid (show ∀ w', (∃ z : ExtW ((w.alloc (.cells KV.toArray 71)).alloc (.cells SV.toArray 45)), w' = z.1) → w'.rangeAt (w.heap.size + 1) 0 SV from fun w' ⟨z, e⟩ => e ▸ (hb1.ext z.2).range)
  have hi21 : (Tryz.prog.info? 45).map (·.size) = some SV.length := by rw [hs21]; rfl
  clear hs0 hk1 hk2 hs21
  by_cases g1 : sw = who
  · subst g1
    have g1b : (sw == sw) = true := by simp
    have g1n : (sw != sw) = false := by simp
    by_cases g2 : 0 ≤ sw
    · by_cases g3 : sw < (roots.length : Int)
      · obtain ⟨k, rfl⟩ := Int.eq_ofNat_of_zero_le g2
        rw [sgn_in (show k < roots.length by omega) rfl]
        have hrk := getD_lt hrt k
        have hrc := fun W (hx : Ext w W) => (hA.ext hx).at_ (j := k) (u := cU64 (roots.getD k 0)) (by simp [List.getD, List.getElem?_eq_getElem (show k < roots.length by omega)])
        obtain ⟨ad, rfl, -, -⟩ := hrc w (Ext.rfl' w)
        have hrc2 : ∀ W, Ext w W → W.cell? (ad.add k) = some (cU64 (roots.getD k 0)) := fun W hx => by obtain ⟨_, e, _, h⟩ := hrc W hx; cases e; exact h
        have g3' : ¬ ((roots.length : Int) ≤ (k : Int)) := by omega
        have g2' : ¬ ((k : Int) < 0) := by omega
        have d2 : decide ((0 : Int) ≤ (k : Int)) = true := decide_eq_true (by omega)
        have d3 : decide ((k : Int) < (roots.length : Int)) = true := decide_eq_true (by omega)
        have n3 : (k : Int) < (roots.length : Int) := by omega
        have n2 : (0 : Int) ≤ (k : Int) := by omega
        have XV := Lib.hid (fun z : ExtW ((w.alloc (.cells KV.toArray 71)).alloc (.cells SV.toArray 45)) => HV.out _ hrk z.1 (hE.tr z.2))
        clear HV
        generalize roots.getD k 0 = r at *
        generalize K.vsig r d leaf one path ht = V at *
        have p3 := fun z : ExtW ((w.alloc (.cells KV.toArray 71)).alloc (.cells SV.toArray 45)) => hrc2 _ (hE.tr z.2)
        clear hrc hrc2 hrk hA hP hrt hol hone hpl hd
        cases V
        all_goals
          go_enter Tryz.func151, Tryz.ntmps151
          go_upto_region 1 with (fail)
          generalize (w.alloc (.cells KV.toArray 71)).alloc (.cells SV.toArray 45) = W1 at *
          have HE := Lib.hid hE
          clear hE hb0 hb1
          refine wp_region_grow (by kernel_rfl) (by kernel_rfl) ?_
          repeat (any_goals (first | (refine wpQuiet_load_mid _ _ rfl (by rfl) (w.heap.size + 1) 0 (by rfl) SV _ HGS.out Tryz.underlying45 rfl hi21 ?_; simp only [Act.put, List.setIfInBounds_toArray, List.set_cons_zero, List.set_cons_succ]) | (go_big_quiet_step ((go_at_call 219; exact grow_of (XV.out _))))))
          refine wpQuiet_nil ?_
          rintro W2 ⟨z, hz⟩
          have HX := Lib.hid (HE.out.tr (show Ext W1 W2 by rw [hz]; exact z.2))
          clear hz z p0 p1 p2 p3 XV HGS
          go_wp2
          go_ret
          exact ⟨ret_bool (by first | rfl | simp), HX.out⟩
      · rw [sgn_no (by omega)]
        have g3' : (roots.length : Int) ≤ sw := by omega
        have g2' : ¬ (sw < 0) := by omega
        have d2 : decide ((0 : Int) ≤ sw) = true := decide_eq_true (by omega)
        have d3 : decide (sw < (roots.length : Int)) = false := decide_eq_false (by omega)
        have n3 : ¬ (sw < (roots.length : Int)) := by omega
        have n2 : (0 : Int) ≤ sw := by omega
        clear HV hA hP hrt hol hone hpl hd HGS hi21 g2 g3
        go_enter Tryz.func151, Tryz.ntmps151
        go_upto_region 1 with (fail)
        generalize (w.alloc (.cells KV.toArray 71)).alloc (.cells SV.toArray 45) = W1 at *
        have HE := Lib.hid hE
        clear hE hb0 hb1
        refine wp_region_grow (by kernel_rfl) (by kernel_rfl) ?_
        repeat (any_goals (go_big_quiet_step (fail)))
        refine wpQuiet_nil ?_
        rintro W2 ⟨z, hz⟩
        have HX := Lib.hid (HE.out.tr (show Ext W1 W2 by rw [hz]; exact z.2))
        clear hz z p0 p1 p2
        go_wp2
        go_ret
        exact ⟨ret_bool (by first | rfl | simp), HX.out⟩
    · rw [sgn_no (by omega)]
      have g2' : sw < 0 := by omega
      have d2 : decide ((0 : Int) ≤ sw) = false := decide_eq_false (by omega)
      have n2 : ¬ ((0 : Int) ≤ sw) := by omega
      clear HV hA hP hrt hol hone hpl hd HGS hi21 g2
      go_enter Tryz.func151, Tryz.ntmps151
      go_upto_region 1 with (fail)
      generalize (w.alloc (.cells KV.toArray 71)).alloc (.cells SV.toArray 45) = W1 at *
      have HE := Lib.hid hE
      clear hE hb0 hb1
      refine wp_region_grow (by kernel_rfl) (by kernel_rfl) ?_
      repeat (any_goals (go_big_quiet_step (fail)))
      refine wpQuiet_nil ?_
      rintro W2 ⟨z, hz⟩
      have HX := Lib.hid (HE.out.tr (show Ext W1 W2 by rw [hz]; exact z.2))
      clear hz z p0 p1 p2
      go_wp2
      go_ret
      exact ⟨ret_bool (by first | rfl | simp), HX.out⟩
  · rw [sgn_no (fun h => g1 h.1)]
    have g1b : (sw == who) = false := beq_eq_false_iff_ne.2 g1
    have g1n : (sw != who) = true := by simp [g1]
    have d1 : decide (sw = who) = false := decide_eq_false g1
    clear HV hA hP hrt hol hone hpl hd HGS hi21
    go_enter Tryz.func151, Tryz.ntmps151
    go_upto_region 1 with (fail)
    generalize (w.alloc (.cells KV.toArray 71)).alloc (.cells SV.toArray 45) = W1 at *
    have HE := Lib.hid hE
    clear hE hb0 hb1
    refine wp_region_grow (by kernel_rfl) (by kernel_rfl) ?_
    repeat (any_goals (go_big_quiet_step (fail)))
    refine wpQuiet_nil ?_
    rintro W2 ⟨z, hz⟩
    have HX := Lib.hid (HE.out.tr (show Ext W1 W2 by rw [hz]; exact z.2))
    clear hz z p0 p1 p2
    go_wp2
    go_ret
    exact ⟨ret_bool (by first | rfl | simp), HX.out⟩
set_option maxRecDepth 100000 in
theorem r6n_calls (f : Int) (hf : 0 ≤ f ∧ f ≤ 1000) (w : World) : Calls Tryz.prog 141 #[.int .i64 f] w fun e w' => e = .returned (.int .i64 (3 * f + 1)) ∧ w = w' := by
  have h1 : IntKind.i64.wrap (3 * f) = 3 * f := IntWalk.i64_in _ (by omega)
  have h2 : IntKind.i64.wrap (3 * f + 1) = 3 * f + 1 := IntWalk.i64_in _ (by omega)
  go_enter Tryz.func141, Tryz.ntmps141
  go_wp2
  go_ret
  exact ⟨rfl, rfl⟩
set_option maxRecDepth 100000 in
set_option maxHeartbeats 2000000 in
theorem rwho_calls (f : Int) (hf : 0 ≤ f ∧ f ≤ 1000) (A : Option Addr) (n c : Nat) (ht who : Int) (w : World) :
    Calls Tryz.prog 150 #[.agg (kyV f A n c ht).toArray, .int .i64 who] w fun e w' => e = .returned (.bool (decide (K.whoE f who = 0))) ∧ Ext w w' := by
  have hb := Blk.new w 71 (kyV f A n c ht)
  have hE := (Ext.rfl' w).alloc (.cells (kyV f A n c ht).toArray 71)
  have HN := Lib.hid (fun W => r6n_calls f hf W)
  have hc0 : (kyV f A n c ht)[0]? = some (.int .i64 f) := rfl
  generalize kyV f A n c ht = KV at *
  have hc := hb.cell hc0
  clear hb hc0
  by_cases h1 : who < 0
  · rw [K.whoE, if_neg (by omega), decide_eq_false (by decide)]
    have d1 : decide ((0 : Int) ≤ who) = false := decide_eq_false (by omega)
    have n1 : ¬ (0 : Int) ≤ who := by omega
    go_enter Tryz.func150, Tryz.ntmps150
    go_upto_region 1 with (fail)
    generalize w.alloc (.cells KV.toArray 71) = W1 at *
    clear hc
    go_wp2
    go_ret
    exact ⟨rfl, hE⟩
  · have n1 : (0 : Int) ≤ who := by omega
    have d1 : decide ((0 : Int) ≤ who) = true := decide_eq_true n1
    by_cases h3 : who < 3 * f + 1
    · have hge : K.whoE f who = 0 := by rw [K.whoE, if_pos (by omega)]
      rw [hge, decide_eq_true rfl]
      go_enter Tryz.func150, Tryz.ntmps150
      go_upto_region 1 with (fail)
      generalize w.alloc (.cells KV.toArray 71) = W1 at *
      go_wp2_with fail
      refine (HN.out _).mono ?_
      rintro e _ ⟨rfl, rfl⟩
      clear hc
      go_wp2
      go_ret
      exact ⟨ret_bool (by first | rfl | simp [h3]), hE⟩
    · have hge : K.whoE f who = 1 := by rw [K.whoE, if_neg (by omega)]
      rw [hge, decide_eq_false (by decide)]
      go_enter Tryz.func150, Tryz.ntmps150
      go_upto_region 1 with (fail)
      generalize w.alloc (.cells KV.toArray 71) = W1 at *
      go_wp2_with fail
      refine (HN.out _).mono ?_
      rintro e _ ⟨rfl, rfl⟩
      clear hc
      go_wp2
      go_ret
      exact ⟨ret_bool (by first | rfl | simp [h3]), hE⟩
end Go.Proofs.YtbbgmlnfpnomiaaGreatDoor
