/- Stamps: whether one is valid; making one. -/
import Derived.Test.YtbbgmlnfpnomiaaGreatDoorStB
set_option linter.unusedVariables false
set_option linter.unusedSimpArgs false
namespace Go.Proofs.YtbbgmlnfpnomiaaGreatDoor
open Go.RowKit Go.Sort
def stZ : List Value := [.int .u64 0, .int .i64 0, .int .i64 0, .int .i64 0, .int .i64 0, .int .u64 0, .int .u64 0, .int .u64 0, .int .u64 0, .int .u64 0, .int .u64 0, .int .u64 0, .int .u64 0, .int .u64 0, .int .u64 0, .int .u64 0, .int .u64 0, .int .u64 0, .int .u64 0, .int .u64 0, .int .u64 0, .int .u64 0, .int .u64 0, .slice none 0 0]
theorem stZ_len : stZ.length = 24 := rfl
theorem stZ_one : ∀ x ∈ stZ, x.oneCell' = true := by decide
theorem stV_len (cmd : Nat) (who at_ : Int) (sg : List Value) (h : sg.length = 21) : (stV cmd who at_ sg).length = 24 := by simp [stV, h]
theorem stV_one (cmd : Nat) (who at_ : Int) (sg : List Value) (h : ∀ x ∈ sg, x.oneCell' = true) : ∀ x ∈ stV cmd who at_ sg, x.oneCell' = true := fun x hx => by
  simp only [stV, List.mem_cons] at hx
  rcases hx with rfl | rfl | rfl | hx
  · rfl
  · rfl
  · rfl
  · exact h x hx
theorem stV_range {W : World} {B : Nat} {T : TypeId} {cmd : Nat} {who at_ : Int} {sg : List Value} (h : Blk W B T (stV cmd who at_ sg)) : W.rangeAt B 3 sg := fun j v hj => by
  rw [Nat.add_comm 3 j]
  exact h.cell hj
theorem list21 : ∀ L : List Value, L.length = 21 → ∃ l0 l1 l2 l3 l4 l5 l6 l7 l8 l9 l10 l11 l12 l13 l14 l15 l16 l17 l18 l19 l20, L = [l0, l1, l2, l3, l4, l5, l6, l7, l8, l9, l10, l11, l12, l13, l14, l15, l16, l17, l18, l19, l20]
  | [l0, l1, l2, l3, l4, l5, l6, l7, l8, l9, l10, l11, l12, l13, l14, l15, l16, l17, l18, l19, l20], _ => ⟨l0, l1, l2, l3, l4, l5, l6, l7, l8, l9, l10, l11, l12, l13, l14, l15, l16, l17, l18, l19, l20, rfl⟩
set_option maxRecDepth 100000 in
theorem run_buildSZ (f : Operand → Value) (o : Oper) (ho : o.op = .build 80 #[]) (w : World) : (execOp f o).run Tryz.prog w = .ok (.value (.agg stZ.toArray)) w := by
  unfold execOp
  simp only [ho]
  go_simp
  rfl
set_option maxRecDepth 100000 in
theorem run_buildS (f : Operand → Value) (x0 x1 x2 x3 : Operand) (o : Oper) (ho : o.op = .build 80 #[(0, x0), (1, x1), (2, x2), (3, x3)]) (cmd : Nat) (who at_ : Int) (L : List Value) (hL : L.length = 21) (h0 : f x0 = cU64 cmd) (h1 : f x1 = Value.int .i64 who) (h2 : f x2 = Value.int .i64 at_) (h3 : f x3 = .agg L.toArray) (w : World) :
    (execOp f o).run Tryz.prog w = .ok (.value (.agg (stV cmd who at_ L).toArray)) w := by
  obtain ⟨l0, l1, l2, l3, l4, l5, l6, l7, l8, l9, l10, l11, l12, l13, l14, l15, l16, l17, l18, l19, l20, rfl⟩ := list21 L hL
  unfold execOp
  simp only [ho]
  go_simp
  try simp only [h0, h1, h2, h3]
  try rfl
set_option maxRecDepth 100000 in
set_option maxHeartbeats 2000000 in
theorem svalid_calls (f : Int) (hf : 0 ≤ f ∧ f ≤ 1000) (roots : List Nat) (hrt : ∀ x ∈ roots, x < 18446744073709551616) (A : Option Addr) (c : Nat) (ht : Int) (cmd : Nat) (hcmd : cmd < 18446744073709551616) (who at_ : Int) (hwho : I64 who) (hat_ : I64 at_) (sw leaf : Int) (one : List Nat) (hone : one.length = 18) (hol : ∀ x ∈ one, x < 18446744073709551616) (P : Option Addr) (cp : Nat) (path : List Nat) (hpl : ∀ x ∈ path, x < 18446744073709551616) (w : World) (hA : Rd w A (cDg roots)) (hP : Rd w P (cDg path)) (htk : TOk w) :
    Calls Tryz.prog 52 #[.agg (kyV f A roots.length c ht).toArray, .agg (stV cmd who at_ (sgV sw leaf one P path.length cp)).toArray] w fun e w' => e = .returned (.int .i64 (K.validE f roots ht cmd who at_ sw leaf one path)) ∧ Ext w w' := by
  have hb0 := (Blk.new w 77 (kyV f A roots.length c ht)).ext ((Ext.rfl' _).alloc (.cells (stV cmd who at_ (sgV sw leaf one P path.length cp)).toArray 80))
  have hb1 := Blk.new (w.alloc (.cells (kyV f A roots.length c ht).toArray 77)) 80 (stV cmd who at_ (sgV sw leaf one P path.length cp))
  rw [World.size_alloc] at hb1
  have hE := ((Ext.rfl' w).alloc (.cells (kyV f A roots.length c ht).toArray 77)).alloc (.cells (stV cmd who at_ (sgV sw leaf one P path.length cp)).toArray 80)
  have hs21 := sgV_len sw leaf one hone P path.length cp
  have hc0 : (stV cmd who at_ (sgV sw leaf one P path.length cp))[0]? = some (cU64 cmd) := rfl
  have hc1 : (stV cmd who at_ (sgV sw leaf one P path.length cp))[1]? = some (.int .i64 who) := rfl
  have hc2 : (stV cmd who at_ (sgV sw leaf one P path.length cp))[2]? = some (.int .i64 at_) := rfl
  have hsr : ∀ W, Blk W (w.heap.size + 1) 80 (stV cmd who at_ (sgV sw leaf one P path.length cp)) → W.rangeAt (w.heap.size + 1) 3 (sgV sw leaf one P path.length cp) := fun W h => stV_range h
  have HW := Lib.hid (fun W => swho_calls f hf A roots.length c ht who W)
  have HT := Lib.hid (fun W => swhen_calls at_ W)
  have HD := Lib.hid (fun W (hx : Ext w W) => sdigest_calls cmd hcmd who at_ hwho hat_ W (htk.ext hx))
  have HS := Lib.hid (fun W (hx : Ext w W) => ssigned_calls f roots hrt A c ht who sw leaf one hone hol P cp path hpl (K.stD cmd who at_) (K.stD_lt _ _ _) W (hA.ext hx) (hP.ext hx))
  have HVE : K.validE f roots ht cmd who at_ sw leaf one path = if K.whoE f who = 0 ∧ K.whenE at_ = 0 then (if K.sgn roots ht who sw leaf one path (K.stD cmd who at_) then 0 else 7) else 1 := rfl
  have hw01 : K.whoE f who = 0 ∨ K.whoE f who = 1 := by unfold K.whoE; split <;> simp
  have ht01 : K.whenE at_ = 0 ∨ K.whenE at_ = 1 := by unfold K.whenE; split <;> simp
  rw [HVE]
  clear HVE
  generalize (if K.sgn roots ht who sw leaf one path (K.stD cmd who at_) then (0 : Int) else 7) = E3 at *
  generalize K.stD cmd who at_ = D at *
  generalize K.whoE f who = E1 at *
  generalize K.whenE at_ = E2 at *
  obtain ⟨R, hR⟩ : ∃ R : Int, (if E1 = 0 ∧ E2 = 0 then E3 else 1) = R := ⟨_, rfl⟩
  rw [hR]
  generalize stV cmd who at_ (sgV sw leaf one P path.length cp) = SV at *
  generalize sgV sw leaf one P path.length cp = SS at *
  have hk3 : (kyV f A roots.length c ht).length = 3 := rfl
  generalize kyV f A roots.length c ht = KV at *
  have hi3 : (Tryz.prog.info? 77).map (·.size) = some KV.length := by rw [hk3]; rfl
  have hi21 : (Tryz.prog.info? 39).map (·.size) = some SS.length := by rw [hs21]; rfl
  clear hs21 hk3 hA hP htk hrt hol hpl hone hwho hat_ hcmd hf
  go_enter Tryz.func52, Tryz.ntmps52
  go_upto_region 1 with (fail)
  generalize (w.alloc (.cells KV.toArray 77)).alloc (.cells SV.toArray 80) = W1 at *
  have HE := Lib.hid hE
  have HGK := Lib.hid (show ∀ w', (∃ z : ExtW W1, w' = z.1) → w'.rangeAt w.heap.size 0 KV from fun w' ⟨z, e⟩ => e ▸ (hb0.ext z.2).range)
  have p1 := fun z : ExtW W1 => (hb1.ext z.2).cell hc1
  have p2 := fun z : ExtW W1 => (hb1.ext z.2).cell hc2
  have XW := Lib.hid (fun z : ExtW W1 => HW.out z.1)
  have XT := Lib.hid (fun z : ExtW W1 => HT.out z.1)
  have HB0 := Lib.hid hb0
  have HB1 := Lib.hid hb1
  clear hE hb0 hb1 HW HT
  rcases hw01 with rfl | rfl
  · rcases ht01 with rfl | rfl
    · rw [if_pos ⟨rfl, rfl⟩] at hR
      subst hR
      refine wp_region_grow (by kernel_rfl) (by kernel_rfl) ?_
      repeat (any_goals (first
        | (refine wpQuiet_load_mid _ _ rfl (by rfl) w.heap.size 0 (by rfl) KV _ HGK.out Tryz.underlying77 rfl hi3 ?_; simp only [Act.put, List.setIfInBounds_toArray, List.set_cons_zero, List.set_cons_succ])
        | (go_big_quiet_step (first
          | (go_at_call 147; exact grow_of (XW.out _))
          | (go_at_call 148; exact grow_same (XT.out _))))))
      refine wpQuiet_nil ?_
      rintro W2 ⟨z, hz⟩
      have hx2 : Ext W1 W2 := by rw [hz]; exact z.2
      have HX := Lib.hid (Ext.tr HE.out hx2)
      clear hz z
      go_upto_region 3 with (fail)
      clear p1 p2 XW XT HGK
      have HGK := Lib.hid (show ∀ w', (∃ z : ExtW W2, w' = z.1) → w'.rangeAt w.heap.size 0 KV from fun w' ⟨z, e⟩ => e ▸ (HB0.out.ext (Ext.tr hx2 z.2)).range)
      have HGS := Lib.hid (show ∀ w', (∃ z : ExtW W2, w' = z.1) → w'.rangeAt (w.heap.size + 1) 3 SS from fun w' ⟨z, e⟩ => e ▸ hsr _ (HB1.out.ext (Ext.tr hx2 z.2)))
      have p0 := fun z : ExtW W2 => (HB1.out.ext (Ext.tr hx2 z.2)).cell hc0
      have p1 := fun z : ExtW W2 => (HB1.out.ext (Ext.tr hx2 z.2)).cell hc1
      have p2 := fun z : ExtW W2 => (HB1.out.ext (Ext.tr hx2 z.2)).cell hc2
      have XD := Lib.hid (fun z : ExtW W2 => HD.out z.1 (Ext.tr HX.out z.2))
      have XS := Lib.hid (fun z : ExtW W2 => HS.out z.1 (Ext.tr HX.out z.2))
      clear HD HS hc0 hc1 hc2 hsr hx2
      refine wp_region_grow (by kernel_rfl) (by kernel_rfl) ?_
      repeat (any_goals (first
        | (refine wpQuiet_load_mid _ _ rfl (by rfl) w.heap.size 0 (by rfl) KV _ HGK.out Tryz.underlying77 rfl hi3 ?_; simp only [Act.put, List.setIfInBounds_toArray, List.set_cons_zero, List.set_cons_succ])
        | (refine wpQuiet_load_mid _ _ rfl (by rfl) (w.heap.size + 1) 3 (by rfl) SS _ HGS.out Tryz.underlying39 rfl hi21 ?_; simp only [Act.put, List.setIfInBounds_toArray, List.set_cons_zero, List.set_cons_succ])
        | (go_big_quiet_step (first
          | (go_at_call 46; exact grow_of (XD.out _))
          | (go_at_call 149; exact grow_of (XS.out _))))))
      refine wpQuiet_nil ?_
      rintro W3 ⟨z, hz⟩
      have HY := Lib.hid (Ext.tr HX.out (show Ext W2 W3 by rw [hz]; exact z.2))
      clear hz z p0 p1 p2 XD XS HGK HGS
      go_wp2
      go_ret
      exact ⟨rfl, HY.out⟩
    · rw [if_neg (by simp)] at hR
      subst hR
      clear HD HS hc0 hsr
      refine wp_region_grow (by kernel_rfl) (by kernel_rfl) ?_
      repeat (any_goals (first
        | (refine wpQuiet_load_mid _ _ rfl (by rfl) w.heap.size 0 (by rfl) KV _ HGK.out Tryz.underlying77 rfl hi3 ?_; simp only [Act.put, List.setIfInBounds_toArray, List.set_cons_zero, List.set_cons_succ])
        | (go_big_quiet_step (first
          | (go_at_call 147; exact grow_of (XW.out _))
          | (go_at_call 148; exact grow_same (XT.out _))))))
      refine wpQuiet_nil ?_
      rintro W2 ⟨z, hz⟩
      have hx2 : Ext W1 W2 := by rw [hz]; exact z.2
      have HX := Lib.hid (Ext.tr HE.out hx2)
      clear hz z
      clear p1 p2 XW XT HGK hx2
      go_wp2
      go_ret
      exact ⟨rfl, HX.out⟩
  · rw [if_neg (by simp)] at hR
    subst hR
    clear HD HS hc0 hsr
    rcases ht01 with rfl | rfl
    all_goals
      refine wp_region_grow (by kernel_rfl) (by kernel_rfl) ?_
      repeat (any_goals (first
        | (refine wpQuiet_load_mid _ _ rfl (by rfl) w.heap.size 0 (by rfl) KV _ HGK.out Tryz.underlying77 rfl hi3 ?_; simp only [Act.put, List.setIfInBounds_toArray, List.set_cons_zero, List.set_cons_succ])
        | (go_big_quiet_step (first
          | (go_at_call 147; exact grow_of (XW.out _))
          | (go_at_call 148; exact grow_same (XT.out _))))))
      refine wpQuiet_nil ?_
      rintro W2 ⟨z, hz⟩
      have hx2 : Ext W1 W2 := by rw [hz]; exact z.2
      have HX := Lib.hid (Ext.tr HE.out hx2)
      clear hz z
      clear p1 p2 XW XT HGK hx2
      go_wp2
      go_ret
      exact ⟨rfl, HX.out⟩
set_option maxRecDepth 100000 in
set_option maxHeartbeats 2000000 in
theorem smake_when (kv : Value) (who : Int) (cmd : Nat) (at_ : Int) (hat_ : K.whenE at_ ≠ 0) (w : World) :
    Calls Tryz.prog 109 #[kv, .int .i64 who, cU64 cmd, .int .i64 at_] w fun e w' => e = .returned (.tuple #[.agg stZ.toArray, .int .i64 1]) ∧ Ext w w' := by
  have HT := Lib.hid (fun W => swhen_calls at_ W)
  have ht1 : K.whenE at_ = 1 := by
    have : K.whenE at_ = 0 ∨ K.whenE at_ = 1 := by unfold K.whenE; split <;> simp
    omega
  rw [ht1] at HT
  clear ht1 hat_
  have HB0 := Lib.hid (Blk.new w 80 [.int .u64 0, .int .i64 0, .int .i64 0, .int .i64 0, .int .i64 0, .int .u64 0, .int .u64 0, .int .u64 0, .int .u64 0, .int .u64 0, .int .u64 0, .int .u64 0, .int .u64 0, .int .u64 0, .int .u64 0, .int .u64 0, .int .u64 0, .int .u64 0, .int .u64 0, .int .u64 0, .int .u64 0, .int .u64 0, .int .u64 0, .slice none 0 0])
  have HX0 := Lib.hid ((Ext.rfl' w).alloc (.cells #[.int .u64 0, .int .i64 0, .int .i64 0, .int .i64 0, .int .i64 0, .int .u64 0, .int .u64 0, .int .u64 0, .int .u64 0, .int .u64 0, .int .u64 0, .int .u64 0, .int .u64 0, .int .u64 0, .int .u64 0, .int .u64 0, .int .u64 0, .int .u64 0, .int .u64 0, .int .u64 0, .int .u64 0, .int .u64 0, .int .u64 0, .slice none 0 0] 80))
  go_enter Tryz.func109, Tryz.ntmps109
  go_upto_region 1 with (fail)
  change Hid (Blk (w.alloc (.cells #[.int .u64 0, .int .i64 0, .int .i64 0, .int .i64 0, .int .i64 0, .int .u64 0, .int .u64 0, .int .u64 0, .int .u64 0, .int .u64 0, .int .u64 0, .int .u64 0, .int .u64 0, .int .u64 0, .int .u64 0, .int .u64 0, .int .u64 0, .int .u64 0, .int .u64 0, .int .u64 0, .int .u64 0, .int .u64 0, .int .u64 0, .slice none 0 0] 80)) w.heap.size 80 [.int .u64 0, .int .i64 0, .int .i64 0, .int .i64 0, .int .i64 0, .int .u64 0, .int .u64 0, .int .u64 0, .int .u64 0, .int .u64 0, .int .u64 0, .int .u64 0, .int .u64 0, .int .u64 0, .int .u64 0, .int .u64 0, .int .u64 0, .int .u64 0, .int .u64 0, .int .u64 0, .int .u64 0, .int .u64 0, .int .u64 0, .slice none 0 0]) at HB0
  generalize w.alloc (.cells #[.int .u64 0, .int .i64 0, .int .i64 0, .int .i64 0, .int .i64 0, .int .u64 0, .int .u64 0, .int .u64 0, .int .u64 0, .int .u64 0, .int .u64 0, .int .u64 0, .int .u64 0, .int .u64 0, .int .u64 0, .int .u64 0, .int .u64 0, .int .u64 0, .int .u64 0, .int .u64 0, .int .u64 0, .int .u64 0, .int .u64 0, .slice none 0 0] 80) = W0 at *
  generalize hZ : ([.int .u64 0, .int .i64 0, .int .i64 0, .int .i64 0, .int .i64 0, .int .u64 0, .int .u64 0, .int .u64 0, .int .u64 0, .int .u64 0, .int .u64 0, .int .u64 0, .int .u64 0, .int .u64 0, .int .u64 0, .int .u64 0, .int .u64 0, .int .u64 0, .int .u64 0, .int .u64 0, .int .u64 0, .int .u64 0, .int .u64 0, .slice none 0 0] : List Value) = ZL at HB0
  have HZ := Lib.hid (show ZL.length = 24 by rw [← hZ]; rfl)
  clear hZ
  go_wp2_with fail
  refine (HT.out _).mono ?_
  rintro e _ ⟨rfl, rfl⟩
  have HB := Lib.hid HB0.out
  have HX := Lib.hid HX0.out
  clear HB0 HX0
  go_upto_region 3 with (fail)
  have hth : W0.there w.heap.size 0 24 := by
    have h := HB.out.there
    rw [HZ.out] at h
    exact h
  have hput : Blk (W0.setCells w.heap.size 0 stZ) w.heap.size 80 stZ ∧ Ext w (W0.setCells w.heap.size 0 stZ) := ⟨HB.out.put (by rw [HZ.out]; rfl), Ext.setCells (Nat.le_refl _) _ _ _ HX.out⟩
  go_wp2_with (first
    | (refine wpList_val rfl (.agg stZ.toArray) (run_buildSZ _ _ rfl _) ?_)
    | (refine wpList_store_mid rfl _ _ _ rfl w.heap.size 0 stZ.toArray rfl rfl hth rfl (all_oneCell_toArray stZ_one) ?_; rw [List.toList_toArray]; generalize W0.setCells w.heap.size 0 stZ = W9 at *))
  exact ret_cell_tmp rfl hput.1 Tryz.underlying80 rfl rfl rfl rfl ⟨rfl, hput.2⟩
set_option maxRecDepth 100000 in
set_option maxHeartbeats 2000000 in
theorem smake_no (kv : Value) (who : Int) (hwho : I64 who) (cmd : Nat) (hcmd : cmd < 18446744073709551616) (at_ : Int) (hat_ : K.whenE at_ = 0) (w : World) (htk : TOk w) (ec : Int) (hec : ec ≠ 0) (hs : ∀ W, Ext w W → Calls Tryz.prog 22 #[kv, cU64 (K.stD cmd who at_)] W fun e w' => e = .returned (.tuple #[.agg sgZ.toArray, .int .i64 ec]) ∧ Ext W w') :
    Calls Tryz.prog 109 #[kv, .int .i64 who, cU64 cmd, .int .i64 at_] w fun e w' => e = .returned (.tuple #[.agg stZ.toArray, .int .i64 ec]) ∧ Ext w w' := by
  have HT := Lib.hid (fun W => swhen_calls at_ W)
  have hI : I64 at_ := by
    unfold K.whenE at hat_
    split at hat_
    · constructor <;> omega
    · cases hat_
  have HD := Lib.hid (fun W (hx : Ext w W) => sdigest_calls cmd hcmd who at_ hwho hI W (htk.ext hx))
  have HS := Lib.hid hs
  rw [hat_] at HT
  have hec1 : (ec == 0) = false := beq_eq_false_iff_ne.2 hec
  have hec2 : (ec != 0) = true := by simp [hec]
  generalize K.stD cmd who at_ = D at *
  clear hat_ hI hs hcmd hwho htk
  have HB0 := Lib.hid (Blk.new w 80 [.int .u64 0, .int .i64 0, .int .i64 0, .int .i64 0, .int .i64 0, .int .u64 0, .int .u64 0, .int .u64 0, .int .u64 0, .int .u64 0, .int .u64 0, .int .u64 0, .int .u64 0, .int .u64 0, .int .u64 0, .int .u64 0, .int .u64 0, .int .u64 0, .int .u64 0, .int .u64 0, .int .u64 0, .int .u64 0, .int .u64 0, .slice none 0 0])
  have HX0 := Lib.hid ((Ext.rfl' w).alloc (.cells #[.int .u64 0, .int .i64 0, .int .i64 0, .int .i64 0, .int .i64 0, .int .u64 0, .int .u64 0, .int .u64 0, .int .u64 0, .int .u64 0, .int .u64 0, .int .u64 0, .int .u64 0, .int .u64 0, .int .u64 0, .int .u64 0, .int .u64 0, .int .u64 0, .int .u64 0, .int .u64 0, .int .u64 0, .int .u64 0, .int .u64 0, .slice none 0 0] 80))
  go_enter Tryz.func109, Tryz.ntmps109
  go_upto_region 1 with (fail)
  change Hid (Blk (w.alloc (.cells #[.int .u64 0, .int .i64 0, .int .i64 0, .int .i64 0, .int .i64 0, .int .u64 0, .int .u64 0, .int .u64 0, .int .u64 0, .int .u64 0, .int .u64 0, .int .u64 0, .int .u64 0, .int .u64 0, .int .u64 0, .int .u64 0, .int .u64 0, .int .u64 0, .int .u64 0, .int .u64 0, .int .u64 0, .int .u64 0, .int .u64 0, .slice none 0 0] 80)) w.heap.size 80 [.int .u64 0, .int .i64 0, .int .i64 0, .int .i64 0, .int .i64 0, .int .u64 0, .int .u64 0, .int .u64 0, .int .u64 0, .int .u64 0, .int .u64 0, .int .u64 0, .int .u64 0, .int .u64 0, .int .u64 0, .int .u64 0, .int .u64 0, .int .u64 0, .int .u64 0, .int .u64 0, .int .u64 0, .int .u64 0, .int .u64 0, .slice none 0 0]) at HB0
  generalize w.alloc (.cells #[.int .u64 0, .int .i64 0, .int .i64 0, .int .i64 0, .int .i64 0, .int .u64 0, .int .u64 0, .int .u64 0, .int .u64 0, .int .u64 0, .int .u64 0, .int .u64 0, .int .u64 0, .int .u64 0, .int .u64 0, .int .u64 0, .int .u64 0, .int .u64 0, .int .u64 0, .int .u64 0, .int .u64 0, .int .u64 0, .int .u64 0, .slice none 0 0] 80) = W0 at *
  generalize hZ : ([.int .u64 0, .int .i64 0, .int .i64 0, .int .i64 0, .int .i64 0, .int .u64 0, .int .u64 0, .int .u64 0, .int .u64 0, .int .u64 0, .int .u64 0, .int .u64 0, .int .u64 0, .int .u64 0, .int .u64 0, .int .u64 0, .int .u64 0, .int .u64 0, .int .u64 0, .int .u64 0, .int .u64 0, .int .u64 0, .int .u64 0, .slice none 0 0] : List Value) = ZL at HB0
  have HZ := Lib.hid (show ZL.length = 24 by rw [← hZ]; rfl)
  clear hZ
  go_wp2_with fail
  refine (HT.out _).mono ?_
  rintro e _ ⟨rfl, rfl⟩
  go_wp2_with fail
  refine (HD.out _ HX0.out).mono ?_
  rintro e W1 ⟨rfl, hx⟩
  have HB := Lib.hid (HB0.out.ext hx)
  have HX := Lib.hid (HX0.out.tr hx)
  clear hx HB0 HX0 HD
  go_wp2_with fail
  refine (HS.out _ HX.out).mono ?_
  rintro e W2 ⟨rfl, hx⟩
  replace HB := Lib.hid (HB.out.ext hx)
  replace HX := Lib.hid (HX.out.tr hx)
  clear hx HS
  go_upto_region 5 with (refine wpList_store_new rfl _ _ _ rfl _ _ sgZ rfl rfl rfl rfl sgZ_one ?_; intro W3 hX hB; replace HX := Lib.hid (HX.out.tr hX); replace HB := Lib.hid (HB.out.ext hX); clear hX hB)
  go_upto_region 6 with (fail)
  have hth : W3.there w.heap.size 0 24 := by
    have h := HB.out.there
    rw [HZ.out] at h
    exact h
  have hput : Blk (W3.setCells w.heap.size 0 stZ) w.heap.size 80 stZ ∧ Ext w (W3.setCells w.heap.size 0 stZ) := ⟨HB.out.put (by rw [HZ.out]; rfl), Ext.setCells (Nat.le_refl _) _ _ _ HX.out⟩
  go_wp2_with (first
    | (refine wpList_val rfl (.agg stZ.toArray) (run_buildSZ _ _ rfl _) ?_)
    | (refine wpList_store_mid rfl _ _ _ rfl w.heap.size 0 stZ.toArray rfl rfl hth rfl (all_oneCell_toArray stZ_one) ?_; rw [List.toList_toArray]; generalize W3.setCells w.heap.size 0 stZ = W9 at *))
  exact ret_cell_tmp rfl hput.1 Tryz.underlying80 rfl rfl rfl rfl ⟨rfl, hput.2⟩
set_option maxRecDepth 100000 in
set_option maxHeartbeats 2000000 in
theorem smake_ok {kb : Nat} {kw : Int} {seed h : Nat} {A : Option Addr} {c : Nat} {bound : Int} (who : Int) (hwho : I64 who) (cmd : Nat) (hcmd : cmd < 18446744073709551616) (at_ : Int) (hat_ : K.whenE at_ = 0) (w : World) (htk : TOk w) (hh : h ≤ 8) (i : Nat) (hseed : seed < 18446744073709551616) (hn : i < 2 ^ h) (hb : (i : Int) < bound) (k : KA w kb kw seed h A c (i : Int) bound) :
    Calls Tryz.prog 109 #[kP kb, .int .i64 who, cU64 cmd, .int .i64 at_] w fun e w' => (∃ A' c', e = .returned (.tuple #[.agg (stV cmd who at_ (sgV kw (i : Int) (K.sign (K.secs seed i) (K.stD cmd who at_)) A' h c')).toArray, .int .i64 0]) ∧ Rd w' A' (cDg (K.path h (K.pubs seed h) i)) ∧ (∀ ad, A' = some ad → w.heap.size ≤ ad.block)) ∧ KA w' kb kw seed h A c ((i : Int) + 1) bound ∧ KG kb w w' := by
  have HT := Lib.hid (fun W => swhen_calls at_ W)
  have hI : I64 at_ := by
    unfold K.whenE at hat_
    split at hat_
    · constructor <;> omega
    · cases hat_
  have HD := Lib.hid (fun W (hx : Ext w W) => sdigest_calls cmd hcmd who at_ hwho hI W (htk.ext hx))
  have HS := Lib.hid (fun W (hx : Ext w W) => sign_ok W hh (K.stD cmd who at_) (K.stD_lt _ _ _) i hseed hn hb (k.ext hx))
  rw [hat_] at HT
  have hkw : kb < w.heap.size := k.blk.lt
  have hAw : ∀ ad, A = some ad → ad.block < w.heap.size := fun ad e => by
    rcases k.rd with h0 | ⟨ad', e', hb', _⟩
    · have := congrArg List.length h0
      simp [K.pubs_len] at this
    · rw [e] at e'; cases e'; exact hb'
  have HLN := Lib.hid (fun A' c' => sgV_len kw (i : Int) (K.sign (K.secs seed i) (K.stD cmd who at_)) (own_len _ _ _) A' h c')
  have HON := Lib.hid (fun A' c' => sgV_one kw (i : Int) (K.sign (K.secs seed i) (K.stD cmd who at_)) A' h c')
  obtain ⟨SG, hSG⟩ : ∃ SG : Option Addr → Nat → List Value, (fun A' c' => sgV kw (i : Int) (K.sign (K.secs seed i) (K.stD cmd who at_)) A' h c') = SG := ⟨_, rfl⟩
  have hsg : ∀ A' c', sgV kw (i : Int) (K.sign (K.secs seed i) (K.stD cmd who at_)) A' h c' = SG A' c' := fun A' c' => congrFun (congrFun hSG A') c'
  simp only [hsg] at HS HLN HON ⊢
  clear hsg hSG
  generalize K.stD cmd who at_ = D at *
  generalize cDg (K.path h (K.pubs seed h) i) = PT at *
  clear hat_ hI hcmd hwho htk k hb hn hseed hh
  have HB0 := Lib.hid (Blk.new w 80 [.int .u64 0, .int .i64 0, .int .i64 0, .int .i64 0, .int .i64 0, .int .u64 0, .int .u64 0, .int .u64 0, .int .u64 0, .int .u64 0, .int .u64 0, .int .u64 0, .int .u64 0, .int .u64 0, .int .u64 0, .int .u64 0, .int .u64 0, .int .u64 0, .int .u64 0, .int .u64 0, .int .u64 0, .int .u64 0, .int .u64 0, .slice none 0 0])
  have HX0 := Lib.hid ((Ext.rfl' w).alloc (.cells #[.int .u64 0, .int .i64 0, .int .i64 0, .int .i64 0, .int .i64 0, .int .u64 0, .int .u64 0, .int .u64 0, .int .u64 0, .int .u64 0, .int .u64 0, .int .u64 0, .int .u64 0, .int .u64 0, .int .u64 0, .int .u64 0, .int .u64 0, .int .u64 0, .int .u64 0, .int .u64 0, .int .u64 0, .int .u64 0, .int .u64 0, .slice none 0 0] 80))
  go_enter Tryz.func109, Tryz.ntmps109
  go_upto_region 1 with (fail)
  change Hid (Blk (w.alloc (.cells #[.int .u64 0, .int .i64 0, .int .i64 0, .int .i64 0, .int .i64 0, .int .u64 0, .int .u64 0, .int .u64 0, .int .u64 0, .int .u64 0, .int .u64 0, .int .u64 0, .int .u64 0, .int .u64 0, .int .u64 0, .int .u64 0, .int .u64 0, .int .u64 0, .int .u64 0, .int .u64 0, .int .u64 0, .int .u64 0, .int .u64 0, .slice none 0 0] 80)) w.heap.size 80 [.int .u64 0, .int .i64 0, .int .i64 0, .int .i64 0, .int .i64 0, .int .u64 0, .int .u64 0, .int .u64 0, .int .u64 0, .int .u64 0, .int .u64 0, .int .u64 0, .int .u64 0, .int .u64 0, .int .u64 0, .int .u64 0, .int .u64 0, .int .u64 0, .int .u64 0, .int .u64 0, .int .u64 0, .int .u64 0, .int .u64 0, .slice none 0 0]) at HB0
  generalize w.alloc (.cells #[.int .u64 0, .int .i64 0, .int .i64 0, .int .i64 0, .int .i64 0, .int .u64 0, .int .u64 0, .int .u64 0, .int .u64 0, .int .u64 0, .int .u64 0, .int .u64 0, .int .u64 0, .int .u64 0, .int .u64 0, .int .u64 0, .int .u64 0, .int .u64 0, .int .u64 0, .int .u64 0, .int .u64 0, .int .u64 0, .int .u64 0, .slice none 0 0] 80) = W0 at *
  generalize hZ : ([.int .u64 0, .int .i64 0, .int .i64 0, .int .i64 0, .int .i64 0, .int .u64 0, .int .u64 0, .int .u64 0, .int .u64 0, .int .u64 0, .int .u64 0, .int .u64 0, .int .u64 0, .int .u64 0, .int .u64 0, .int .u64 0, .int .u64 0, .int .u64 0, .int .u64 0, .int .u64 0, .int .u64 0, .int .u64 0, .int .u64 0, .slice none 0 0] : List Value) = ZL at HB0
  have HZ := Lib.hid (show ZL.length = 24 by rw [← hZ]; rfl)
  clear hZ
  go_wp2_with fail
  refine (HT.out _).mono ?_
  rintro e _ ⟨rfl, rfl⟩
  go_wp2_with fail
  refine (HD.out _ HX0.out).mono ?_
  rintro e W1 ⟨rfl, hx⟩
  have HB := Lib.hid (HB0.out.ext hx)
  have HX := Lib.hid (HX0.out.tr hx)
  have HWB : w.heap.size < W1.heap.size := HB.out.lt
  clear hx HB0 HX0 HD
  go_wp2_with fail
  refine (HS.out _ HX.out).mono ?_
  rintro e W2 ⟨⟨A', c', rfl, hr, hat⟩, hk, hx⟩
  have HG := Lib.hid ((KG.of_ext HX.out).tr hx)
  replace HB := Lib.hid (HB.out.kg hx (by omega))
  have HK := Lib.hid hk
  have HR := Lib.hid hr
  have HAT := Lib.hid (show ∀ ad, A' = some ad → w.heap.size < ad.block from fun ad e => by have := hat ad e; have := HX.out.size; have hlt := HWB; omega)
  clear hx hk hr hat HX HS
  have hlen1 := HLN.out A' c'
  have hone1 := HON.out A' c'
  go_upto_region 7 with (refine wpList_store_new rfl _ _ _ rfl _ _ (SG A' c') rfl rfl (by rw [hlen1]; rfl) (by rw [hlen1]; rfl) hone1 ?_; intro W3 hX hB; replace HG := Lib.hid (HG.out.tr (KG.of_ext hX)); replace HB := Lib.hid (HB.out.ext hX); replace HK := Lib.hid (HK.out.ext hX); replace HR := Lib.hid (HR.out.ext hX); have HBS := Lib.hid hB; clear hX hB; generalize W2.heap.size = sb at *)
  have hi21 : (Tryz.prog.info? 39).map (·.size) = some (SG A' c').length := by rw [hlen1]; rfl
  have hs24 : (stV cmd who at_ (SG A' c')).toArray.size = 24 := by rw [List.size_toArray]; exact stV_len _ _ _ _ hlen1
  have hth : W3.there w.heap.size 0 (stV cmd who at_ (SG A' c')).toArray.size := by
    have h := HB.out.there
    rw [HZ.out] at h
    rw [hs24]
    exact h
  have hi24 : (Tryz.prog.info? 80).map (·.size) = some (stV cmd who at_ (SG A' c')).toArray.size := by rw [hs24]; rfl
  have hon := all_oneCell_toArray (stV_one cmd who at_ _ hone1)
  have hrg := HBS.out.range
  have HFI := Lib.hid (show Blk (W3.setCells w.heap.size 0 (stV cmd who at_ (SG A' c'))) w.heap.size 80 (stV cmd who at_ (SG A' c')) ∧ Rd (W3.setCells w.heap.size 0 (stV cmd who at_ (SG A' c'))) A' PT ∧ KA (W3.setCells w.heap.size 0 (stV cmd who at_ (SG A' c'))) kb kw seed h A c ((i : Int) + 1) bound ∧ KG kb w (W3.setCells w.heap.size 0 (stV cmd who at_ (SG A' c'))) from
    ⟨HB.out.put (by rw [HZ.out]; exact stV_len _ _ _ _ hlen1), Rd.setCellsO (fun ad e => by have := HAT.out ad e; omega) _ _ _ HR.out, KA.setCells (W := W3) (by omega) (fun ad e => by have := hAw ad e; omega) _ _ _ HK.out, KG.setNew (w := w) (W := W3) (Nat.le_refl _) _ _ _ HG.out⟩)
  have HAT2 := Lib.hid (show ∀ ad, A' = some ad → w.heap.size ≤ ad.block from fun ad e => Nat.le_of_lt (HAT.out ad e))
  have HST := Lib.hid (fun f x0 x1 x2 x3 o ho h0 h1 h2 h3 W => run_buildS f x0 x1 x2 x3 o ho cmd who at_ (SG A' c') hlen1 h0 h1 h2 h3 W)
  clear HB HBS HK HR HG HAT hlen1 hone1 hs24 hAw
  generalize hSV : stV cmd who at_ (SG A' c') = SV at *
  have HSV := Lib.hid hSV
  clear hSV
  go_wp2_with (first
    | (refine wpList_load_mid rfl _ _ rfl sb 0 rfl (SG A' c') _ hrg Tryz.underlying39 rfl hi21 ?_)
    | (refine wpList_val rfl (.agg SV.toArray) (HST.out _ _ _ _ _ _ rfl rfl rfl rfl rfl _) ?_)
    | (refine wpList_store_mid rfl _ _ _ rfl w.heap.size 0 SV.toArray rfl rfl hth hi24 hon ?_; rw [List.toList_toArray]; generalize W3.setCells w.heap.size 0 SV = W9 at *))
  exact ret_cell_tmp rfl HFI.out.1 Tryz.underlying80 rfl (by simpa using hi24) rfl rfl ⟨⟨A', c', by rw [HSV.out]; rfl, HFI.out.2.1, HAT2.out⟩, HFI.out.2.2.1, HFI.out.2.2.2⟩
end Go.Proofs.YtbbgmlnfpnomiaaGreatDoor
