/- The reference's ValidStamp. -/
import Derived.Test.YtbbgmlnfpnomiaaGreatDoorStR
set_option linter.unusedVariables false
set_option linter.unusedSimpArgs false
namespace Go.Proofs.YtbbgmlnfpnomiaaGreatDoor
open Go.RowKit Go.Sort
set_option maxRecDepth 100000 in
set_option maxHeartbeats 2000000 in
theorem rvalid_calls (f : Int) (hf : 0 ≤ f ∧ f ≤ 1000) (roots : List Nat) (hrt : ∀ x ∈ roots, x < 18446744073709551616) (A : Option Addr) (c : Nat) (ht : Int) (cmd : Nat) (hcmd : cmd < 18446744073709551616) (who at_ : Int) (hwho : I64 who) (hat_ : I64 at_) (sw leaf : Int) (one : List Nat) (hone : one.length = 18) (hol : ∀ x ∈ one, x < 18446744073709551616) (P : Option Addr) (cp : Nat) (path : List Nat) (hpl : ∀ x ∈ path, x < 18446744073709551616) (w : World) (hA : Rd w A (cDg roots)) (hP : Rd w P (cDg path)) :
    Calls Tryz.prog 53 #[.agg (kyV f A roots.length c ht).toArray, .agg (stV cmd who at_ (sgV sw leaf one P path.length cp)).toArray] w fun e w' => e = .returned (.int .i64 (K.validE f roots ht cmd who at_ sw leaf one path)) ∧ Ext w w' := by
  have hb0 := (Blk.new w 71 (kyV f A roots.length c ht)).ext ((Ext.rfl' _).alloc (.cells (stV cmd who at_ (sgV sw leaf one P path.length cp)).toArray 73))
  have hb1 := Blk.new (w.alloc (.cells (kyV f A roots.length c ht).toArray 71)) 73 (stV cmd who at_ (sgV sw leaf one P path.length cp))
  rw [World.size_alloc] at hb1
  have hE := ((Ext.rfl' w).alloc (.cells (kyV f A roots.length c ht).toArray 71)).alloc (.cells (stV cmd who at_ (sgV sw leaf one P path.length cp)).toArray 73)
  have hs21 := sgV_len sw leaf one hone P path.length cp
  have hc0 : (stV cmd who at_ (sgV sw leaf one P path.length cp))[0]? = some (cU64 cmd) := rfl
  have hc1 : (stV cmd who at_ (sgV sw leaf one P path.length cp))[1]? = some (.int .i64 who) := rfl
  have hc2 : (stV cmd who at_ (sgV sw leaf one P path.length cp))[2]? = some (.int .i64 at_) := rfl
  have hsr : ∀ W, Blk W (w.heap.size + 1) 73 (stV cmd who at_ (sgV sw leaf one P path.length cp)) → W.rangeAt (w.heap.size + 1) 3 (sgV sw leaf one P path.length cp) := fun W h => stV_range h
  have HW := Lib.hid (fun W => rwho_calls f hf A roots.length c ht who W)
  have HD := Lib.hid (fun W (hx : Ext w W) => rsdigest_calls cmd hcmd who at_ hwho hat_ W)
  have HS := Lib.hid (fun W (hx : Ext w W) => rsigned_calls f roots hrt A c ht who sw leaf one hone hol P cp path hpl (K.stD cmd who at_) (K.stD_lt _ _ _) W (hA.ext hx) (hP.ext hx))
  have HVE : K.validE f roots ht cmd who at_ sw leaf one path = if K.whoE f who = 0 ∧ K.whenE at_ = 0 then (if K.sgn roots ht who sw leaf one path (K.stD cmd who at_) then 0 else 7) else 1 := rfl
  have hwe : K.whenE at_ = if 1 ≤ at_ ∧ at_ ≤ 1099511627776 then 0 else 1 := rfl
  rw [HVE]
  clear HVE
  generalize K.sgn roots ht who sw leaf one path (K.stD cmd who at_) = SB at *
  generalize hEV : decide (K.whoE f who = 0) = E1 at *
  generalize stV cmd who at_ (sgV sw leaf one P path.length cp) = SV at *
  generalize sgV sw leaf one P path.length cp = SS at *
  have hk3 : (kyV f A roots.length c ht).length = 3 := rfl
  generalize kyV f A roots.length c ht = KV at *
  have hi3 : (Tryz.prog.info? 71).map (·.size) = some KV.length := by rw [hk3]; rfl
  have hi21 : (Tryz.prog.info? 45).map (·.size) = some SS.length := by rw [hs21]; rfl
  clear hs21 hk3 hA hP hrt hol hpl hone hwho hat_ hcmd hf
  have r0 := hb0.range
  have q1 := hb1.cell hc1
  cases E1 with
  | false =>
    have hno : ¬ (K.whoE f who = 0 ∧ K.whenE at_ = 0) := fun h => (of_decide_eq_false hEV) h.1
    rw [if_neg hno]
    clear hno hEV hwe HD HS hsr
    go_enter Tryz.func53, Tryz.ntmps53
    go_upto_region 1 with (fail)
    generalize (w.alloc (.cells KV.toArray 71)).alloc (.cells SV.toArray 73) = W1 at *
    have HE := Lib.hid hE
    clear hE hb0 hb1
    go_wp2_with (refine wpList_load_midw (by rfl) _ _ rfl w.heap.size 0 rfl KV _ r0 Tryz.underlying71 rfl hi3 ?_)
    clear r0 q1
    refine (HW.out _).mono ?_
    rintro e W2 ⟨rfl, hx⟩
    have HX := Lib.hid (Ext.tr HE.out hx)
    clear hx HW
    go_wp2
    go_ret
    exact ⟨rfl, HX.out⟩
  | true =>
    have hw0 : K.whoE f who = 0 := of_decide_eq_true hEV
    by_cases hlo : at_ < 1
    · rw [if_neg (fun h => by rw [hwe] at h; split at h <;> omega)]
      clear hEV hwe HD HS hsr hw0
      go_enter Tryz.func53, Tryz.ntmps53
      go_upto_region 1 with (fail)
      generalize (w.alloc (.cells KV.toArray 71)).alloc (.cells SV.toArray 73) = W1 at *
      have HE := Lib.hid hE
      have HB1 := Lib.hid hb1
      clear hE hb0 hb1
      go_wp2_with (refine wpList_load_midw (by rfl) _ _ rfl w.heap.size 0 rfl KV _ r0 Tryz.underlying71 rfl hi3 ?_)
      clear r0 q1
      refine (HW.out _).mono ?_
      rintro e W2 ⟨rfl, hx⟩
      have HX := Lib.hid (Ext.tr HE.out hx)
      have q2 := (HB1.out.ext hx).cell hc2
      clear hx HW
      go_wp2
      go_ret
      exact ⟨rfl, HX.out⟩
    · by_cases hhi : 1099511627776 < at_
      · rw [if_neg (fun h => by rw [hwe] at h; split at h <;> omega)]
        clear hEV hwe HD HS hsr hw0
        go_enter Tryz.func53, Tryz.ntmps53
        go_upto_region 1 with (fail)
        generalize (w.alloc (.cells KV.toArray 71)).alloc (.cells SV.toArray 73) = W1 at *
        have HE := Lib.hid hE
        have HB1 := Lib.hid hb1
        clear hE hb0 hb1
        go_wp2_with (refine wpList_load_midw (by rfl) _ _ rfl w.heap.size 0 rfl KV _ r0 Tryz.underlying71 rfl hi3 ?_)
        clear r0 q1
        refine (HW.out _).mono ?_
        rintro e W2 ⟨rfl, hx⟩
        have HX := Lib.hid (Ext.tr HE.out hx)
        have q2 := (HB1.out.ext hx).cell hc2
        clear hx HW
        go_wp2
        go_ret
        exact ⟨rfl, HX.out⟩
      · rw [if_pos ⟨hw0, by rw [hwe, if_pos (by omega)]⟩]
        clear hEV hwe hw0
        obtain ⟨R, hR⟩ : ∃ R : Int, (if SB = true then (0 : Int) else 7) = R := ⟨_, rfl⟩
        rw [hR]
        go_enter Tryz.func53, Tryz.ntmps53
        go_upto_region 1 with (fail)
        generalize (w.alloc (.cells KV.toArray 71)).alloc (.cells SV.toArray 73) = W1 at *
        have HE := Lib.hid hE
        have HB0 := Lib.hid hb0
        have HB1 := Lib.hid hb1
        clear hE hb0 hb1
        go_wp2_with (refine wpList_load_midw (by rfl) _ _ rfl w.heap.size 0 rfl KV _ r0 Tryz.underlying71 rfl hi3 ?_)
        clear r0 q1
        refine (HW.out _).mono ?_
        rintro e W2 ⟨rfl, hx⟩
        have HX := Lib.hid (Ext.tr HE.out hx)
        replace HB0 := Lib.hid (HB0.out.ext hx)
        replace HB1 := Lib.hid (HB1.out.ext hx)
        have q2 := HB1.out.cell hc2
        clear hx HW
        go_upto_region 3 with (fail)
        clear q2
        have HGK := Lib.hid (show ∀ w', (∃ z : ExtW W2, w' = z.1) → w'.rangeAt w.heap.size 0 KV from fun w' ⟨z, e⟩ => e ▸ (HB0.out.ext z.2).range)
        have HGS := Lib.hid (show ∀ w', (∃ z : ExtW W2, w' = z.1) → w'.rangeAt (w.heap.size + 1) 3 SS from fun w' ⟨z, e⟩ => e ▸ hsr _ (HB1.out.ext z.2))
        have p0 := fun z : ExtW W2 => (HB1.out.ext z.2).cell hc0
        have p1 := fun z : ExtW W2 => (HB1.out.ext z.2).cell hc1
        have p2 := fun z : ExtW W2 => (HB1.out.ext z.2).cell hc2
        have XD := Lib.hid (fun z : ExtW W2 => HD.out z.1 (Ext.tr HX.out z.2))
        have XS := Lib.hid (fun z : ExtW W2 => HS.out z.1 (Ext.tr HX.out z.2))
        clear HD HS hc0 hc1 hc2 hsr
        cases SB
        all_goals
          simp only [Bool.false_eq_true, if_false, if_true] at hR
          subst hR
          refine wp_region_grow (by kernel_rfl) (by kernel_rfl) ?_
          repeat (any_goals (first
            | (refine wpQuiet_load_mid _ _ rfl (by rfl) w.heap.size 0 (by rfl) KV _ HGK.out Tryz.underlying71 rfl hi3 ?_; simp only [Act.put, List.setIfInBounds_toArray, List.set_cons_zero, List.set_cons_succ])
            | (refine wpQuiet_load_mid _ _ rfl (by rfl) (w.heap.size + 1) 3 (by rfl) SS _ HGS.out Tryz.underlying45 rfl hi21 ?_; simp only [Act.put, List.setIfInBounds_toArray, List.set_cons_zero, List.set_cons_succ])
            | (go_big_quiet_step (first
              | (go_at_call 47; exact grow_of (XD.out _))
              | (go_at_call 151; exact grow_of (XS.out _))))))
          refine wpQuiet_nil ?_
          rintro W3 ⟨z, hz⟩
          have HY := Lib.hid (Ext.tr HX.out (show Ext W2 W3 by rw [hz]; exact z.2))
          clear hz z p0 p1 p2 XD XS HGK HGS
          go_wp2
          go_ret
          exact ⟨rfl, HY.out⟩
end Go.Proofs.YtbbgmlnfpnomiaaGreatDoor
