/- Whether a signature holds: for whatever place, way, height: the program's word and the reference's. -/
import Derived.Test.YtbbgmlnfpnomiaaGreatDoorKR1
import Derived.Test.YtbbgmlnfpnomiaaGreatDoorKKeyN
set_option linter.unusedVariables false
set_option linter.unusedSimpArgs false
namespace Go.Proofs.YtbbgmlnfpnomiaaGreatDoor
open Go.RowKit Go.Sort
namespace K
/-- Whether a way leads from a leaf to a root. -/
noncomputable def vpath (r x : Nat) (i : Int) (l : List Nat) : Bool := decide (l.length ≤ 8 ∧ 0 ≤ i ∧ i < ((2 ^ l.length : Nat) : Int)) && decide (climb x i.toNat l = r)
/-- Whether a signature holds. -/
noncomputable def vsig (r d : Nat) (leaf : Int) (one path : List Nat) (ht : Int) : Bool := decide ((path.length : Int) = ht) && vpath r (rec one d) leaf path
end K
theorem vpath_bad {r x : Nat} {i : Int} {l : List Nat} (h : ¬ (l.length ≤ 8 ∧ 0 ≤ i ∧ i < ((2 ^ l.length : Nat) : Int))) : K.vpath r x i l = false := by
  rw [K.vpath, decide_eq_false h, Bool.false_and]
theorem vpath_in {r x i : Nat} {l : List Nat} (h : l.length ≤ 8 ∧ i < 2 ^ l.length) : K.vpath r x (i : Int) l = decide (K.climb x i l = r) := by
  rw [K.vpath, decide_eq_true (by omega), Bool.true_and]
  rfl
theorem pow_sh {n : Nat} (hn : n ≤ 8) : IntKind.i64.wrap (1 * 2 ^ n) = ((2 ^ n : Nat) : Int) ∧ IntKind.i64.wrap (2 ^ n) = ((2 ^ n : Nat) : Int) := by
  have hp := pow_le8 hn
  rw [Int.one_mul, show ((2 : Int) ^ n) = ((2 ^ n : Nat) : Int) by norm_cast]
  obtain ⟨q, hq⟩ : ∃ q, 2 ^ n = q := ⟨_, rfl⟩
  rw [hq] at hp ⊢
  exact ⟨IntWalk.i64_in _ (by omega), IntWalk.i64_in _ (by omega)⟩
set_option maxRecDepth 100000 in
set_option maxHeartbeats 2000000 in
theorem mverify_all (r x : Nat) (hr : r < 18446744073709551616) (hx : x < 18446744073709551616) (i : Int) (l : List Nat) (hl : ∀ x ∈ l, x < 18446744073709551616) (A : Option Addr) (c : Nat) (w : World) (hA : Rd w A (cDg l)) :
    Calls Tryz.prog 186 #[cU64 r, cU64 x, .int .i64 i, .slice A l.length c] w fun e w' => e = .returned (.bool (K.vpath r x i l)) ∧ Ext w w' := by
  by_cases hg : l.length ≤ 8 ∧ 0 ≤ i ∧ i < ((2 ^ l.length : Nat) : Int)
  · obtain ⟨h1, h2, h3⟩ := hg
    obtain ⟨j, rfl⟩ := Int.eq_ofNat_of_zero_le h2
    rw [vpath_in ⟨h1, by omega⟩]
    exact mverify_calls r x j hr hx l hl h1 (by omega) A c w hA
  · rw [vpath_bad hg]
    by_cases h1 : l.length ≤ 8
    · by_cases h2 : 0 ≤ i
      · have h3 : ¬ (i < ((2 ^ l.length : Nat) : Int)) := fun h3 => hg ⟨h1, h2, h3⟩
        have hsh := (pow_sh h1).1
        have hsh2 := (pow_sh h1).2
        have hp := pow_le8 h1
        have g1 : (l.length : Int) ≤ 8 := by omega
        have g2 : (0 : Int) ≤ i := by omega
        have g3 : ¬ (i < ((2 ^ l.length : Nat) : Int)) := by omega
        have hl64 : ((l.length : Nat) : Int) ≤ 64 := by omega
        have hl0 : (0 : Int) ≤ ((l.length : Nat) : Int) := by omega
        clear hA hg h1 h2 h3
        generalize 2 ^ l.length = P2 at *
        go_enter Tryz.func186, Tryz.ntmps186
        go_wp2
        go_ret
        exact ⟨rfl, Ext.rfl' _⟩
      · have g1 : (l.length : Int) ≤ 8 := by omega
        have g2 : ¬ ((0 : Int) ≤ i) := by omega
        clear hA hg h1 h2
        go_enter Tryz.func186, Tryz.ntmps186
        go_wp2
        go_ret
        exact ⟨rfl, Ext.rfl' _⟩
    · have g1 : ¬ ((l.length : Int) ≤ 8) := by omega
      clear hA hg h1
      go_enter Tryz.func186, Tryz.ntmps186
      go_wp2
      go_ret
      exact ⟨rfl, Ext.rfl' _⟩
set_option maxRecDepth 100000 in
set_option maxHeartbeats 2000000 in
theorem rclimb_calls (x i : Nat) (hx : x < 18446744073709551616) (hi : i < 256) (l : List Nat) (hl : ∀ x ∈ l, x < 18446744073709551616) (hn : l.length ≤ 8) (A : Option Addr) (c : Nat) (w : World) (hA : Rd w A (cDg l)) :
    Calls Tryz.prog 303 #[cU64 x, .int .i64 (i : Int), .slice A l.length c] w fun e w' => e = .returned (cU64 (K.climb x i l)) ∧ w = w' := by
  have HA := Lib.hid hA
  clear hA
  go_enter Tryz.func303, Tryz.ntmps303
  go_wp2
  go_loop [7, 8] (fun v j => ∃ k X : Nat, k ≤ l.length ∧ j = .int .i64 (k : Int) ∧ v = cU64 X ∧ X < 18446744073709551616 ∧ K.climb X (i / 2 ^ k) (l.drop k) = K.climb x i l) (fun _ j => l.length - (intOf j).toNat)
  case atStart => exact ⟨0, x, by omega, rfl, rfl, hx, by simp⟩
  case round =>
    obtain ⟨k, X, hk, rfl, rfl, hX, hr⟩ := hrel
    by_cases hlt : k < l.length
    · obtain ⟨ad, rfl, _, hc⟩ := HA.out.at_ (j := k) (u := cU64 l[k]) (by simp [hlt])
      have hy := hl l[k] (by simp)
      have hik : i / 2 ^ k < 256 := Nat.lt_of_le_of_lt (Nat.div_le_self _ _) hi
      have hand := and_one ⟨i / 2 ^ k, hik⟩
      have hsh : (i : Int) / 2 ^ k = ((i / 2 ^ k : Nat) : Int) := by norm_cast
      have hd : l.drop k = l[k] :: l.drop (k + 1) := List.drop_eq_getElem_cons hlt
      have hdd : i / 2 ^ k / 2 = i / 2 ^ (k + 1) := by rw [Nat.div_div_eq_div_mul, Nat.pow_succ]
      rw [hd, climb_cons, hdd] at hr
      have HR := Lib.hid hr
      generalize l[k] = y at *
      have HC1 := Lib.hid (rtwo_calls tMT (by decide) X y hX hy w)
      have HC2 := Lib.hid (rtwo_calls tMT (by decide) y X hy hX w)
      simp only [] at hand
      clear hr hd hdd
      generalize i / 2 ^ k = Q at *
      by_cases hq : Q % 2 = 0
      · rw [hq] at hand
        rw [if_pos hq] at HR
        have HQ := Lib.hid hq
        clear hq
        go_wp2_with fail
        refine HC1.out.mono ?_
        rintro e w1 ⟨rfl, rfl⟩
        go_wp2
        go_round
        case rel => exact ⟨k + 1, _, hlt, by go_num, rfl, S.twoN_lt _ _ _, HR.out⟩
        case measure => simp [intOf]; omega
      · rw [show Q % 2 = 1 by omega] at hand
        rw [if_neg hq] at HR
        have HQ := Lib.hid hq
        clear hq
        go_wp2_with fail
        refine HC2.out.mono ?_
        rintro e w1 ⟨rfl, rfl⟩
        go_wp2
        go_round
        case rel => exact ⟨k + 1, _, hlt, by go_num, rfl, S.twoN_lt _ _ _, HR.out⟩
        case measure => simp [intOf]; omega
    · obtain rfl : k = l.length := by omega
      rw [List.drop_length, K.climb] at hr
      have HR := Lib.hid hr
      clear hr
      go_wp2
      go_ret
      exact ⟨by rw [← HR.out]; rfl, rfl⟩
set_option maxRecDepth 100000 in
set_option maxHeartbeats 2000000 in
theorem rvpath_calls (r x : Nat) (hr : r < 18446744073709551616) (hx : x < 18446744073709551616) (i : Int) (l : List Nat) (hl : ∀ x ∈ l, x < 18446744073709551616) (A : Option Addr) (c : Nat) (w : World) (hA : Rd w A (cDg l)) :
    Calls Tryz.prog 274 #[cU64 r, cU64 x, .int .i64 i, .slice A l.length c] w fun e w' => e = .returned (.bool (K.vpath r x i l)) ∧ Ext w w' := by
  by_cases hg : l.length ≤ 8 ∧ 0 ≤ i ∧ i < ((2 ^ l.length : Nat) : Int)
  · obtain ⟨h1, h2, h3⟩ := hg
    obtain ⟨j, rfl⟩ := Int.eq_ofNat_of_zero_le h2
    rw [vpath_in ⟨h1, by omega⟩]
    have hp := pow_le8 h1
    have HC := Lib.hid (rclimb_calls x j hx (by omega) l hl h1 A c w hA)
    have g1 : ¬ ((8 : Int) < (l.length : Int)) := by omega
    have g2 : ¬ ((j : Int) < 0) := by omega
    have g3 : ¬ (((2 ^ l.length : Nat) : Int) ≤ (j : Int)) := by omega
    have hsh := (pow_sh h1).1
    have hsh2 := (pow_sh h1).2
    have hl64 : ((l.length : Nat) : Int) ≤ 64 := by omega
    have hl0 : (0 : Int) ≤ ((l.length : Nat) : Int) := by omega
    have hlu : IntKind.u64.wrap ((l.length : Nat) : Int) = (l.length : Int) := IntWalk.u64_in _ (by omega)
    have hb : ((K.climb x j l : Int) == (r : Int)) = decide (K.climb x j l = r) := by
      rw [Bool.eq_iff_iff]
      simp only [beq_iff_eq, decide_eq_true_eq]
      omega
    clear hA h1 h2 h3
    generalize K.climb x j l = X at *
    generalize (decide (X = r)) = D at *
    generalize 2 ^ l.length = P2 at *
    go_enter Tryz.func274, Tryz.ntmps274
    go_wp2_with fail
    refine HC.out.mono ?_
    rintro e w1 ⟨rfl, rfl⟩
    go_wp2
    go_ret
    exact ⟨ret_bool (by first | rfl | simp [hb]), Ext.rfl' _⟩
  · rw [vpath_bad hg]
    by_cases h1 : l.length ≤ 8
    · by_cases h2 : 0 ≤ i
      · have h3 : ¬ (i < ((2 ^ l.length : Nat) : Int)) := fun h3 => hg ⟨h1, h2, h3⟩
        have hsh := (pow_sh h1).1
        have hsh2 := (pow_sh h1).2
        have hp := pow_le8 h1
        have g1 : ¬ ((8 : Int) < (l.length : Int)) := by omega
        have g2 : ¬ (i < 0) := by omega
        have g3 : ((2 ^ l.length : Nat) : Int) ≤ i := by omega
        have hl64 : ((l.length : Nat) : Int) ≤ 64 := by omega
        have hl0 : (0 : Int) ≤ ((l.length : Nat) : Int) := by omega
        clear hA hg h1 h2 h3
        generalize 2 ^ l.length = P2 at *
        go_enter Tryz.func274, Tryz.ntmps274
        go_wp2
        go_ret
        exact ⟨rfl, Ext.rfl' _⟩
      · have g1 : ¬ ((8 : Int) < (l.length : Int)) := by omega
        have g2 : i < 0 := by omega
        clear hA hg h1 h2
        go_enter Tryz.func274, Tryz.ntmps274
        go_wp2
        go_ret
        exact ⟨rfl, Ext.rfl' _⟩
    · have g1 : (8 : Int) < (l.length : Int) := by omega
      clear hA hg h1
      go_enter Tryz.func274, Tryz.ntmps274
      go_wp2
      go_ret
      exact ⟨rfl, Ext.rfl' _⟩
set_option maxRecDepth 100000 in
set_option maxHeartbeats 2000000 in
/-- Whether a signature holds. -/
theorem verify_all (r d : Nat) (hr : r < 18446744073709551616) (hd : d < 18446744073709551616) (who leaf : Int) (one : List Nat) (hone : one.length = 18) (hol : ∀ x ∈ one, x < 18446744073709551616) (A : Option Addr) (c : Nat) (l : List Nat) (hl : ∀ x ∈ l, x < 18446744073709551616) (ht : Int) (w : World) (hA : Rd w A (cDg l)) :
    Calls Tryz.prog 111 #[cU64 r, .agg (sgV who leaf one A l.length c).toArray, cU64 d, .int .i64 ht] w fun e w' => e = .returned (.bool (K.vsig r d leaf one l ht)) ∧ Ext w w' := by
  by_cases hn : (l.length : Int) = ht
  · rw [K.vsig, decide_eq_true hn, Bool.true_and]
    subst hn
    have hb := Blk.new w 39 (sgV who leaf one A l.length c)
    have hE := (Ext.rfl' w).alloc (.cells (sgV who leaf one A l.length c).toArray 39)
    have hat := sgV_at who leaf one hone A l.length c
    have hs18 : (cDg one).length = 18 := by rw [List.length_map, hone]
    have hi18 : (Tryz.prog.info? 36).map (·.size) = some (cDg one).length := by rw [hs18]; rfl
    have HRC := Lib.hid (recover_calls one hol hone d hd)
    have HMV := Lib.hid (fun W (hx : Ext w W) => mverify_all r (K.rec one d) hr (K.rec_lt one d) leaf l hl A c W (hA.ext hx))
    generalize sgV who leaf one A l.length c = SG at *
    generalize K.vpath r (K.rec one d) leaf l = D at *
    generalize K.rec one d = RC at *
    generalize cDg one = OS at *
    clear hl hol hone hA hs18 hr hd
    generalize l.length = n at *
    have hnn : ((n : Int) == (n : Int)) = true := by simp
    go_enter Tryz.func111, Tryz.ntmps111
    go_upto_region 1 with (fail)
    have c20 : ∀ x : ExtW (w.alloc (.cells SG.toArray 39)), x.1.cell? ⟨w.heap.size, 20, none⟩ = some (.slice A n c) := fun x => (hb.ext x.2).cell hat.2.2.1
    have c1 : ∀ x : ExtW (w.alloc (.cells SG.toArray 39)), x.1.cell? ⟨w.heap.size, 1, none⟩ = some (.int .i64 leaf) := fun x => (hb.ext x.2).cell hat.2.1
    have HRG := Lib.hid (show ∀ w', (∃ x : ExtW (w.alloc (.cells SG.toArray 39)), w' = x.1) → w'.rangeAt w.heap.size 2 OS from fun w' ⟨x, e⟩ j v hj => by rw [e, Nat.add_comm 2 j]; exact (hb.ext x.2).cell (hat.2.2.2 j v hj))
    have XR := Lib.hid (fun x : ExtW (w.alloc (.cells SG.toArray 39)) => HRC.out x.1)
    have XM := Lib.hid (fun x : ExtW (w.alloc (.cells SG.toArray 39)) => HMV.out x.1 (hE.tr x.2))
    clear hb hat HRC HMV
    generalize w.alloc (.cells SG.toArray 39) = W1 at *
    have HE := Lib.hid hE
    clear hE
    refine wp_region_grow (by kernel_rfl) (by kernel_rfl) ?_
    repeat (any_goals (first | (refine wpQuiet_load_mid _ _ rfl (by rfl) w.heap.size 2 (by rfl) OS _ HRG.out Tryz.underlying36 rfl hi18 ?_; simp only [Act.put, List.setIfInBounds_toArray, List.set_cons_zero, List.set_cons_succ]) | (go_big_quiet_step (first | (go_at_call 187; exact grow_of (XR.out _)) | (go_at_call 186; exact grow_of (XM.out _))))))
    refine wpQuiet_nil ?_
    rintro W2 ⟨x, hx⟩
    have HX := Lib.hid (HE.out.tr (show Ext W1 W2 by rw [hx]; exact x.2))
    clear hx x c20 c1 XR XM HRG
    go_wp2
    go_ret
    exact ⟨ret_bool (by first | rfl | simp), HX.out⟩
  · rw [K.vsig, decide_eq_false hn, Bool.false_and]
    exact verify_len r d who leaf one hone A l.length c ht hn w
set_option maxRecDepth 100000 in
set_option maxHeartbeats 2000000 in
theorem rvsig_len (r d : Nat) (who leaf : Int) (one : List Nat) (hone : one.length = 18) (A : Option Addr) (n c : Nat) (ht : Int) (hn : (n : Int) ≠ ht) (w : World) :
    Calls Tryz.prog 219 #[cU64 r, .agg (sgV who leaf one A n c).toArray, cU64 d, .int .i64 ht] w fun e w' => e = .returned (.bool false) ∧ Ext w w' := by
  have hb := Blk.new w 45 (sgV who leaf one A n c)
  have hE := (Ext.rfl' w).alloc (.cells (sgV who leaf one A n c).toArray 45)
  have hat := (sgV_at who leaf one hone A n c).2.2.1
  generalize sgV who leaf one A n c = SG at *
  have hne : ((n : Int) == ht) = false := beq_eq_false_iff_ne.2 hn
  clear hn hone
  go_enter Tryz.func219, Tryz.ntmps219
  go_upto_region 1 with (fail)
  have c20 : ∀ x : ExtW (w.alloc (.cells SG.toArray 45)), x.1.cell? ⟨w.heap.size, 20, none⟩ = some (.slice A n c) := fun x => (hb.ext x.2).cell hat
  clear hb hat
  generalize w.alloc (.cells SG.toArray 45) = W1 at *
  have HE := Lib.hid hE
  clear hE
  refine wp_region_grow (by kernel_rfl) (by kernel_rfl) ?_
  repeat (any_goals (go_big_quiet_step (fail)))
  refine wpQuiet_nil ?_
  rintro W2 ⟨x, hx⟩
  have HX := Lib.hid (HE.out.tr (show Ext W1 W2 by rw [hx]; exact x.2))
  clear hx x c20
  go_wp2
  go_ret
  exact ⟨rfl, HX.out⟩
set_option maxRecDepth 100000 in
set_option maxHeartbeats 2000000 in
/-- Whether a signature holds. -/
theorem rvsig_all (r d : Nat) (hr : r < 18446744073709551616) (hd : d < 18446744073709551616) (who leaf : Int) (one : List Nat) (hone : one.length = 18) (hol : ∀ x ∈ one, x < 18446744073709551616) (A : Option Addr) (c : Nat) (l : List Nat) (hl : ∀ x ∈ l, x < 18446744073709551616) (ht : Int) (w : World) (hA : Rd w A (cDg l)) :
    Calls Tryz.prog 219 #[cU64 r, .agg (sgV who leaf one A l.length c).toArray, cU64 d, .int .i64 ht] w fun e w' => e = .returned (.bool (K.vsig r d leaf one l ht)) ∧ Ext w w' := by
  by_cases hn : (l.length : Int) = ht
  · rw [K.vsig, decide_eq_true hn, Bool.true_and]
    subst hn
    have hb := Blk.new w 45 (sgV who leaf one A l.length c)
    have hE := (Ext.rfl' w).alloc (.cells (sgV who leaf one A l.length c).toArray 45)
    have hat := sgV_at who leaf one hone A l.length c
    have hs18 : (cDg one).length = 18 := by rw [List.length_map, hone]
    have hi18 : (Tryz.prog.info? 42).map (·.size) = some (cDg one).length := by rw [hs18]; rfl
    have HRC := Lib.hid (rrecover_calls one hol hone d hd)
    have HMV := Lib.hid (fun W (hx : Ext w W) => rvpath_calls r (K.rec one d) hr (K.rec_lt one d) leaf l hl A c W (hA.ext hx))
    generalize sgV who leaf one A l.length c = SG at *
    generalize K.vpath r (K.rec one d) leaf l = D at *
    generalize K.rec one d = RC at *
    generalize cDg one = OS at *
    clear hl hol hone hA hs18 hr hd
    generalize l.length = n at *
    have hnn : ((n : Int) == (n : Int)) = true := by simp
    go_enter Tryz.func219, Tryz.ntmps219
    go_upto_region 1 with (fail)
    have c20 : ∀ x : ExtW (w.alloc (.cells SG.toArray 45)), x.1.cell? ⟨w.heap.size, 20, none⟩ = some (.slice A n c) := fun x => (hb.ext x.2).cell hat.2.2.1
    have c1 : ∀ x : ExtW (w.alloc (.cells SG.toArray 45)), x.1.cell? ⟨w.heap.size, 1, none⟩ = some (.int .i64 leaf) := fun x => (hb.ext x.2).cell hat.2.1
    have HRG := Lib.hid (show ∀ w', (∃ x : ExtW (w.alloc (.cells SG.toArray 45)), w' = x.1) → w'.rangeAt w.heap.size 2 OS from fun w' ⟨x, e⟩ j v hj => by rw [e, Nat.add_comm 2 j]; exact (hb.ext x.2).cell (hat.2.2.2 j v hj))
    have XR := Lib.hid (fun x : ExtW (w.alloc (.cells SG.toArray 45)) => HRC.out x.1)
    have XM := Lib.hid (fun x : ExtW (w.alloc (.cells SG.toArray 45)) => HMV.out x.1 (hE.tr x.2))
    clear hb hat HRC HMV
    generalize w.alloc (.cells SG.toArray 45) = W1 at *
    have HE := Lib.hid hE
    clear hE
    refine wp_region_grow (by kernel_rfl) (by kernel_rfl) ?_
    repeat (any_goals (first | (refine wpQuiet_load_mid _ _ rfl (by rfl) w.heap.size 2 (by rfl) OS _ HRG.out Tryz.underlying42 rfl hi18 ?_; simp only [Act.put, List.setIfInBounds_toArray, List.set_cons_zero, List.set_cons_succ]) | (go_big_quiet_step (first | (go_at_call 275; exact grow_of (XR.out _)) | (go_at_call 274; exact grow_of (XM.out _))))))
    refine wpQuiet_nil ?_
    rintro W2 ⟨x, hx⟩
    have HX := Lib.hid (HE.out.tr (show Ext W1 W2 by rw [hx]; exact x.2))
    clear hx x c20 c1 XR XM HRG
    go_wp2
    go_ret
    exact ⟨ret_bool (by first | rfl | simp), HX.out⟩
  · rw [K.vsig, decide_eq_false hn, Bool.false_and]
    exact rvsig_len r d who leaf one hone A l.length c ht hn w
end Go.Proofs.YtbbgmlnfpnomiaaGreatDoor
