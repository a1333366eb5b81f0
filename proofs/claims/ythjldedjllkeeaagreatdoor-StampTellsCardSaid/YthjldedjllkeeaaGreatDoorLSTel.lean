/- The walk of the law StampTells. -/
import Derived.Test.YthjldedjllkeeaaGreatDoorStW
import Derived.Test.YthjldedjllkeeaaGreatDoorKUse
set_option linter.unusedVariables false
set_option linter.unusedSimpArgs false
namespace Go.Proofs.YthjldedjllkeeaaGreatDoor
open Go.RowKit Go.Sort
/-- Unlike ones are told unlike. -/
theorem stT_inj {c c' : Nat} {p q p' q' : Int} (hc : c < 18446744073709551616) (hc' : c' < 18446744073709551616) (hp : I64 p) (hq : I64 q) (hp' : I64 p') (hq' : I64 q') (h : K.stT c p q = K.stT c' p' q') : c = c' ∧ p = p' ∧ q = q' := by
  have h := J.join_inj h
  simp only [K.stW, List.cons.injEq, and_true, true_and] at h
  obtain ⟨h1, h2, h3⟩ := h
  refine ⟨?_, ?_, ?_⟩
  · have := K.parse_hexB c hc
    rw [h1, K.parse_hexB c' hc'] at this
    exact (Option.some.inj this).symm
  · have := J.pnum_itoa p hp.1 hp.2
    rw [h2, J.pnum_itoa p' hp'.1 hp'.2] at this
    injection this with this
    exact this.symm
  · have := J.pnum_itoa q hq.1 hq.2
    rw [h3, J.pnum_itoa q' hq'.1 hq'.2] at this
    injection this with this
    exact this.symm
theorem strOf_inj {a b : List UInt8} (h : strOf a = strOf b) : a = b := by
  have := congrArg bs h
  rwa [bs_strOf, bs_strOf] at this
theorem str_ne {S T : ByteArray} (h : S ≠ T) : (S == T) = false ∧ (S.toList == T.toList) = false := by
  refine ⟨?_, (Lib.bytes_beq_false_iff S T).2 h⟩
  cases hq : (S == T) with
  | false => rfl
  | true => exact absurd ((MapKept.bytes_beq S T).1 hq) h
set_option maxRecDepth 100000 in
set_option maxHeartbeats 4000000 in
theorem stells_walk (c1 : Nat) (hc1 : c1 < 18446744073709551616) (p1 q1 : Int) (hp1 : I64 p1) (hq1 : I64 q1) (c2 : Nat) (hc2 : c2 < 18446744073709551616) (p2 q2 : Int) (hp2 : I64 p2) (hq2 : I64 q2) (w : World) (hk : KOk w) :
    Calls Tryz.prog 12 #[cU64 c1, .int .i64 p1, .int .i64 q1, cU64 c2, .int .i64 p2, .int .i64 q2] w fun e w' => e = .returned (.bool true) ∧ Ext w w' := by
  have HKN := Lib.hid (known11_calls w hk.gl hk.rng hk.tok)
  have HT := Lib.hid hk.tok
  have hl := stT_len c1 hc1 p1 q1 hp1 hq1
  have HW1 := Lib.hid (fun W h => swords_calls c1 hc1 p1 q1 hp1 hq1 W h)
  have HW2 := Lib.hid (fun W h => swords_calls c2 hc2 p2 q2 hp2 hq2 W h)
  have HSP := Lib.hid (fun W => split_calls (strOf (K.stT c1 p1 q1)) (by rw [size_strOf]; omega) W)
  have hsp : J.split (bs (strOf (K.stT c1 p1 q1))) = .ok (K.stW c1 p1 q1) := by
    rw [bs_strOf, K.stT, J.split_join, J.most, if_neg (by simp [K.stW])]
  have HSE := Lib.hid (show ∀ e W, SplitEnd (J.split (bs (strOf (K.stT c1 p1 q1)))) e W → ∃ A c, e = .returned (.tuple #[.slice A 4 c, .int .i64 0]) ∧ Rd W A [.string bTag, .string (strOf (T.hexB c1)), .string (strOf (Lib.itoa p1)), .string (strOf (Lib.itoa q1))] from fun e W h => by rw [hsp] at h; exact h)
  have HTX := Lib.hid (show ∀ W, TOk W → Calls Tryz.prog 63 #[cU64 c1] W fun e w' => e = .returned (.string (strOf (T.hexB c1))) ∧ Ext W w' from fun W h => text_calls c1 hc1 W h.tz)
  have HN1 := Lib.hid (fun W (h : TOk W) => num_calls p1 hp1.1 hp1.2 W h.tab)
  have HN2 := Lib.hid (fun W (h : TOk W) => num_calls q1 hq1.1 hq1.2 W h.tab)
  have HD1 := Lib.hid (fun W h => sdigest_calls c1 hc1 p1 q1 hp1 hq1 W h)
  have HD2 := Lib.hid (fun W => rsdigest_calls c1 hc1 p1 q1 hp1 hq1 W)
  have HEQ := Lib.hid (show (c1 = c2 ∧ p1 = p2 ∧ q1 = q2 ∧ strOf (K.stT c1 p1 q1) = strOf (K.stT c2 p2 q2)) ∨ (¬ strOf (K.stT c1 p1 q1) = strOf (K.stT c2 p2 q2) ∧ (¬ (c1 : Int) = (c2 : Int) ∨ (c1 = c2 ∧ ¬ p1 = p2) ∨ (c1 = c2 ∧ p1 = p2 ∧ ¬ q1 = q2))) from by
    by_cases h1 : c1 = c2
    · by_cases h2 : p1 = p2
      · by_cases h3 : q1 = q2
        · subst h1; subst h2; subst h3
          exact .inl ⟨rfl, rfl, rfl, rfl⟩
        · have hn : ¬ strOf (K.stT c1 p1 q1) = strOf (K.stT c2 p2 q2) := fun h => h3 (stT_inj hc1 hc2 hp1 hq1 hp2 hq2 (strOf_inj h)).2.2
          exact .inr ⟨hn, .inr (.inr ⟨h1, h2, h3⟩)⟩
      · have hn : ¬ strOf (K.stT c1 p1 q1) = strOf (K.stT c2 p2 q2) := fun h => h2 (stT_inj hc1 hc2 hp1 hq1 hp2 hq2 (strOf_inj h)).2.1
        exact .inr ⟨hn, .inr (.inl ⟨h1, h2⟩)⟩
    · have hn : ¬ strOf (K.stT c1 p1 q1) = strOf (K.stT c2 p2 q2) := fun h => h1 (stT_inj hc1 hc2 hp1 hq1 hp2 hq2 (strOf_inj h)).1
      exact .inr ⟨hn, .inl (by omega)⟩)
  generalize strOf (K.stT c1 p1 q1) = X at *
  generalize strOf (K.stT c2 p2 q2) = Y at *
  generalize K.stD c1 p1 q1 = D at *
  generalize strOf (T.hexB c1) = s1 at *
  generalize strOf (Lib.itoa p1) = s2 at *
  generalize strOf (Lib.itoa q1) = s3 at *
  clear hl hsp hk hc1 hp1 hq1 hc2 hp2 hq2
  go_enter Tryz.func12, Tryz.ntmps12
  go_wp2_with fail
  refine HKN.out.mono ?_
  rintro e W1 ⟨rfl, hx⟩
  have HX := Lib.hid hx
  clear hx HKN
  go_wp2_with fail
  refine (HW1.out _ (HT.out.ext HX.out)).mono ?_
  rintro e W2 ⟨rfl, hx⟩
  replace HX := Lib.hid (HX.out.tr hx)
  clear hx HW1
  go_wp2_with fail
  refine (HW2.out _ (HT.out.ext HX.out)).mono ?_
  rintro e W3 ⟨rfl, hx⟩
  replace HX := Lib.hid (HX.out.tr hx)
  clear hx HW2
  go_wp2_with fail
  refine (HSP.out _).mono ?_
  rintro e W4 ⟨he, hx⟩
  replace HX := Lib.hid (HX.out.tr hx)
  obtain ⟨A, c, rfl, hrd⟩ := HSE.out _ _ he
  clear hx HSP HSE he
  obtain ⟨ad, rfl, -, hc0⟩ := hrd.at_ (j := 0) (u := .string bTag) rfl
  obtain ⟨_, e, -, hc1⟩ := hrd.at_ (j := 1) (u := .string s1) rfl; cases e
  obtain ⟨_, e, -, hc2⟩ := hrd.at_ (j := 2) (u := .string s2) rfl; cases e
  obtain ⟨_, e, -, hc3⟩ := hrd.at_ (j := 3) (u := .string s3) rfl; cases e
  clear hrd
  go_upto_region 7 with (fail)
  have z0 : ∀ x : ExtW W4, x.1.cell? ad = some (.string ⟨#[115, 116, 97, 109, 112]⟩) := fun x => x.2.cell hc0
  have z1 : ∀ x : ExtW W4, x.1.cell? { block := ad.block, off := ad.off + 1 } = some (.string s1) := fun x => x.2.cell hc1
  have z2 : ∀ x : ExtW W4, x.1.cell? { block := ad.block, off := ad.off + 2 } = some (.string s2) := fun x => x.2.cell hc2
  have z3 : ∀ x : ExtW W4, x.1.cell? { block := ad.block, off := ad.off + 3 } = some (.string s3) := fun x => x.2.cell hc3
  clear hc0 hc1 hc2 hc3
  have XT := Lib.hid (fun x : ExtW W4 => HTX.out x.1 (HT.out.ext (HX.out.tr x.2)))
  have XN1 := Lib.hid (fun x : ExtW W4 => HN1.out x.1 (HT.out.ext (HX.out.tr x.2)))
  have XN2 := Lib.hid (fun x : ExtW W4 => HN2.out x.1 (HT.out.ext (HX.out.tr x.2)))
  have XD1 := Lib.hid (fun x : ExtW W4 => HD1.out x.1 (HT.out.ext (HX.out.tr x.2)))
  have XD2 := Lib.hid (fun x : ExtW W4 => HD2.out x.1)
  clear HTX HN1 HN2 HD1 HD2 HT
  unfold cU64 at XT XD1 XD2
  rcases HEQ.out with ⟨rfl, rfl, rfl, rfl⟩ | ⟨hn, h | ⟨rfl, h⟩ | ⟨rfl, rfl, h⟩⟩
  · clear HEQ
    refine wp_region_grow (by kernel_rfl) (by kernel_rfl) ?_
    try simp only [List.append_eq, List.cons_append, List.nil_append]
    repeat (any_goals (go_big_quiet_step (first
      | (go_at_call 63; with_reducible exact grow_of (XT.out _))
      | (go_at_call 64; with_reducible exact grow_of (XN1.out _))
      | (go_at_call 64; with_reducible exact grow_of (XN2.out _))
      | (go_at_call 46; with_reducible exact grow_of (XD1.out _))
      | (go_at_call 47; with_reducible exact grow_of (XD2.out _)))))
    refine wpQuiet_nil ?_
    rintro W5 ⟨x, hx⟩
    have HFIN := Lib.hid (HX.out.tr (show Ext W4 W5 by rw [hx]; exact x.2))
    clear hx x z0 z1 z2 z3 XT XN1 XN2 XD1 XD2
    go_wp2
    go_ret
    exact ⟨ret_bool (by first | rfl | simp), HFIN.out⟩
  · have hd : decide ((c1 : Int) = (c2 : Int)) = false := decide_eq_false h
    have hd2 : (((c1 : Int)) == ((c2 : Int))) = false := beq_eq_false_iff_ne.2 h
    have hn2 := (str_ne hn).2
    clear HEQ
    refine wp_region_grow (by kernel_rfl) (by kernel_rfl) ?_
    try simp only [List.append_eq, List.cons_append, List.nil_append]
    repeat (any_goals (go_big_quiet_step (first
      | (go_at_call 63; with_reducible exact grow_of (XT.out _))
      | (go_at_call 64; with_reducible exact grow_of (XN1.out _))
      | (go_at_call 64; with_reducible exact grow_of (XN2.out _))
      | (go_at_call 46; with_reducible exact grow_of (XD1.out _))
      | (go_at_call 47; with_reducible exact grow_of (XD2.out _)))))
    refine wpQuiet_nil ?_
    rintro W5 ⟨x, hx⟩
    have HFIN := Lib.hid (HX.out.tr (show Ext W4 W5 by rw [hx]; exact x.2))
    clear hx x z0 z1 z2 z3 XT XN1 XN2 XD1 XD2
    go_wp2
    go_ret
    exact ⟨ret_bool (by first | rfl | simp), HFIN.out⟩
  · have hd : decide (p1 = p2) = false := decide_eq_false h
    have hd2 : ((p1) == (p2)) = false := beq_eq_false_iff_ne.2 h
    have hn2 := (str_ne hn).2
    clear HEQ
    refine wp_region_grow (by kernel_rfl) (by kernel_rfl) ?_
    try simp only [List.append_eq, List.cons_append, List.nil_append]
    repeat (any_goals (go_big_quiet_step (first
      | (go_at_call 63; with_reducible exact grow_of (XT.out _))
      | (go_at_call 64; with_reducible exact grow_of (XN1.out _))
      | (go_at_call 64; with_reducible exact grow_of (XN2.out _))
      | (go_at_call 46; with_reducible exact grow_of (XD1.out _))
      | (go_at_call 47; with_reducible exact grow_of (XD2.out _)))))
    refine wpQuiet_nil ?_
    rintro W5 ⟨x, hx⟩
    have HFIN := Lib.hid (HX.out.tr (show Ext W4 W5 by rw [hx]; exact x.2))
    clear hx x z0 z1 z2 z3 XT XN1 XN2 XD1 XD2
    go_wp2
    go_ret
    exact ⟨ret_bool (by first | rfl | simp), HFIN.out⟩
  · have hd : decide (q1 = q2) = false := decide_eq_false h
    have hd2 : ((q1) == (q2)) = false := beq_eq_false_iff_ne.2 h
    have hn2 := (str_ne hn).2
    clear HEQ
    refine wp_region_grow (by kernel_rfl) (by kernel_rfl) ?_
    try simp only [List.append_eq, List.cons_append, List.nil_append]
    repeat (any_goals (go_big_quiet_step (first
      | (go_at_call 63; with_reducible exact grow_of (XT.out _))
      | (go_at_call 64; with_reducible exact grow_of (XN1.out _))
      | (go_at_call 64; with_reducible exact grow_of (XN2.out _))
      | (go_at_call 46; with_reducible exact grow_of (XD1.out _))
      | (go_at_call 47; with_reducible exact grow_of (XD2.out _)))))
    refine wpQuiet_nil ?_
    rintro W5 ⟨x, hx⟩
    have HFIN := Lib.hid (HX.out.tr (show Ext W4 W5 by rw [hx]; exact x.2))
    clear hx x z0 z1 z2 z3 XT XN1 XN2 XD1 XD2
    go_wp2
    go_ret
    exact ⟨ret_bool (by first | rfl | simp), HFIN.out⟩
theorem stampTells_walk' {w : World} (a : Int) (wa : (Lit.int .u64 a).wf = true) (p : Int) (wp : (Lit.int .i64 p).wf = true) (q : Int) (wq : (Lit.int .i64 q).wf = true) (b : Int) (wb : (Lit.int .u64 b).wf = true) (r : Int) (wr : (Lit.int .i64 r).wf = true) (s : Int) (ws : (Lit.int .i64 s).wf = true) (h : KOk w) :
    Calls Tryz.prog 12 #[.int .u64 a, .int .i64 p, .int .i64 q, .int .u64 b, .int .i64 r, .int .i64 s] w fun e w' => e = .returned (.bool true) ∧ Ext w w' := by
  have h1 := bounds_u64 wa
  have h2 := bounds_u64 wb
  have := stells_walk a.toNat (by omega) p q (bounds_i64 wp) (bounds_i64 wq) b.toNat (by omega) r s (bounds_i64 wr) (bounds_i64 ws) w h
  unfold cU64 at this
  rw [Int.toNat_of_nonneg (by omega), Int.toNat_of_nonneg (by omega)] at this
  exact this
end Go.Proofs.YthjldedjllkeeaaGreatDoor
