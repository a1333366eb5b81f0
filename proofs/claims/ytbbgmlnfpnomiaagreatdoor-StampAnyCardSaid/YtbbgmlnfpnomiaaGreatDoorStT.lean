/- The reference's CheckConf, CheckKeys. -/
import Derived.Test.YtbbgmlnfpnomiaaGreatDoorStR
set_option linter.unusedVariables false
set_option linter.unusedSimpArgs false
namespace Go.Proofs.YtbbgmlnfpnomiaaGreatDoor
open Go.RowKit Go.Sort
set_option maxRecDepth 100000 in
theorem rconf_calls (f : Int) (w : World) : Calls Tryz.prog 140 #[.int .i64 f] w fun e w' => e = .returned (.int .i64 (if 1 ≤ f ∧ f ≤ 3 then 0 else 1)) ∧ w = w' := by
  by_cases h1 : f < 1
  · rw [if_neg (by omega)]
    go_enter Tryz.func140, Tryz.ntmps140
    go_wp2
    go_ret
    exact ⟨rfl, rfl⟩
  · by_cases h2 : 3 < f
    · rw [if_neg (by omega)]
      go_enter Tryz.func140, Tryz.ntmps140
      go_wp2
      go_ret
      exact ⟨rfl, rfl⟩
    · rw [if_pos (by omega)]
      go_enter Tryz.func140, Tryz.ntmps140
      go_wp2
      go_ret
      exact ⟨rfl, rfl⟩
set_option maxRecDepth 100000 in
set_option maxHeartbeats 2000000 in
theorem rcheck_calls (f : Int) (A : Option Addr) (n c : Nat) (ht : Int) (w : World) :
    Calls Tryz.prog 44 #[.agg (kyV f A n c ht).toArray] w fun e w' => e = .returned (.int .i64 (K.ckE f n ht)) ∧ Ext w w' := by
  have hb := Blk.new w 71 (kyV f A n c ht)
  have hE := (Ext.rfl' w).alloc (.cells (kyV f A n c ht).toArray 71)
  have HC := Lib.hid (fun W => rconf_calls f W)
  have hk0 : (kyV f A n c ht)[0]? = some (.int .i64 f) := rfl
  have hk1 : (kyV f A n c ht)[1]? = some (.slice A n c) := rfl
  have hk2 : (kyV f A n c ht)[2]? = some (.int .i64 ht) := rfl
  generalize kyV f A n c ht = KV at *
  have q0 := hb.cell hk0
  by_cases g1 : 1 ≤ f ∧ f ≤ 3
  · have HN := Lib.hid (fun W => r6n_calls f (by omega) W)
    obtain ⟨R, hR⟩ : ∃ R, K.ckE f n ht = R := ⟨_, rfl⟩
    rw [hR]
    have HC := Lib.hid (show ∀ W, Calls Tryz.prog 140 #[.int .i64 f] W fun e w' => e = .returned (.int .i64 0) ∧ W = w' from fun W => by have h := HC.out W; rwa [if_pos g1] at h)
    go_enter Tryz.func44, Tryz.ntmps44
    go_upto_region 1 with (fail)
    generalize w.alloc (.cells KV.toArray 71) = W1 at *
    have HE := Lib.hid hE
    go_wp2_with fail
    refine (HC.out _).mono ?_
    rintro e _ ⟨rfl, rfl⟩
    have p0 := fun z : ExtW W1 => (hb.ext z.2).cell hk0
    have p1 := fun z : ExtW W1 => (hb.ext z.2).cell hk1
    have p2 := fun z : ExtW W1 => (hb.ext z.2).cell hk2
    have XN := Lib.hid (fun z : ExtW W1 => HN.out z.1)
    clear q0 hk0 hk1 hk2 hE HC HN hb
    go_upto_region 4 with (fail)
    by_cases g2 : (n : Int) = 3 * f + 1
    · have g2b : ((n : Int) == 3 * f + 1) = true := by rw [g2]; simp
      have g2n : ((n : Int) != 3 * f + 1) = false := by rw [g2]; simp
      by_cases g3 : ht < 0
      · have g3d : decide (ht < 0) = true := decide_eq_true g3
        obtain rfl : R = 1 := by rw [← hR, K.ckE, if_neg (by omega)]
        refine wp_region_grow (by kernel_rfl) (by kernel_rfl) ?_
        repeat (any_goals (go_big_quiet_step ((go_at_call 141; exact grow_same (XN.out _)))))
        refine wpQuiet_nil ?_
        rintro W2 ⟨z, hz⟩
        have HX := Lib.hid (HE.out.tr (show Ext W1 W2 by rw [hz]; exact z.2))
        clear hz z p0 p1 p2 XN
        go_wp2
        go_ret
        exact ⟨rfl, HX.out⟩
      · have g3d : decide (ht < 0) = false := decide_eq_false g3
        by_cases g4 : 8 < ht
        · have g4d : decide (8 < ht) = true := decide_eq_true g4
          obtain rfl : R = 1 := by rw [← hR, K.ckE, if_neg (by omega)]
          refine wp_region_grow (by kernel_rfl) (by kernel_rfl) ?_
          repeat (any_goals (go_big_quiet_step ((go_at_call 141; exact grow_same (XN.out _)))))
          refine wpQuiet_nil ?_
          rintro W2 ⟨z, hz⟩
          have HX := Lib.hid (HE.out.tr (show Ext W1 W2 by rw [hz]; exact z.2))
          clear hz z p0 p1 p2 XN
          go_wp2
          go_ret
          exact ⟨rfl, HX.out⟩
        · have g4d : decide (8 < ht) = false := decide_eq_false g4
          obtain rfl : R = 0 := by rw [← hR, K.ckE, if_pos (by omega)]
          refine wp_region_grow (by kernel_rfl) (by kernel_rfl) ?_
          repeat (any_goals (go_big_quiet_step ((go_at_call 141; exact grow_same (XN.out _)))))
          refine wpQuiet_nil ?_
          rintro W2 ⟨z, hz⟩
          have HX := Lib.hid (HE.out.tr (show Ext W1 W2 by rw [hz]; exact z.2))
          clear hz z p0 p1 p2 XN
          go_wp2
          go_ret
          exact ⟨rfl, HX.out⟩
    · have g2b : ((n : Int) == 3 * f + 1) = false := beq_eq_false_iff_ne.2 g2
      have g2n : ((n : Int) != 3 * f + 1) = true := by simp [g2]
      obtain rfl : R = 1 := by rw [← hR, K.ckE, if_neg (by omega)]
      refine wp_region_grow (by kernel_rfl) (by kernel_rfl) ?_
      repeat (any_goals (go_big_quiet_step ((go_at_call 141; exact grow_same (XN.out _)))))
      refine wpQuiet_nil ?_
      rintro W2 ⟨z, hz⟩
      have HX := Lib.hid (HE.out.tr (show Ext W1 W2 by rw [hz]; exact z.2))
      clear hz z p0 p1 p2 XN
      go_wp2
      go_ret
      exact ⟨rfl, HX.out⟩
  · rw [K.ckE, if_neg (by omega)]
    have HC := Lib.hid (show ∀ W, Calls Tryz.prog 140 #[.int .i64 f] W fun e w' => e = .returned (.int .i64 1) ∧ W = w' from fun W => by have h := HC.out W; rwa [if_neg g1] at h)
    go_enter Tryz.func44, Tryz.ntmps44
    go_upto_region 1 with (fail)
    generalize w.alloc (.cells KV.toArray 71) = W1 at *
    go_wp2_with fail
    refine (HC.out _).mono ?_
    rintro e _ ⟨rfl, rfl⟩
    clear q0
    go_wp2
    go_ret
    exact ⟨rfl, hE⟩
end Go.Proofs.YtbbgmlnfpnomiaaGreatDoor
