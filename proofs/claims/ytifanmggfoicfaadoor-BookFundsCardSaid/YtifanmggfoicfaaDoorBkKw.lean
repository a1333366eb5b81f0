/- The walk of known() of the book's laws. -/
import Derived.Test.YtifanmggfoicfaaDoorBkKn
import Derived.Deep.RegionHeld3
import Derived.Test.YtifanmggfoicfaaDoorGrow
set_option linter.unusedVariables false
namespace Go.Proofs.YtifanmggfoicfaaDoor
open Go.RowKit Go.Sort
theorem bnew2_calls (x y : Int) (hx : OkHas x) (hy : OkHas y) (w : World) :
    Calls Tryd.prog 15 #[.slice (some ⟨w.heap.size, 0, none⟩) 2 2] (w.alloc (.cells #[.int .i64 x, .int .i64 y] 2)) fun e w' => e = .returned (.tuple #[.agg (cI64s (bh x y 0 0)).toArray, .int .i64 0]) ∧ Ext (w.alloc (.cells #[.int .i64 x, .int .i64 y] 2)) w' := by
  rw [← bh_new]
  exact bnew_ok [x, y] (fun n hn => by simp at hn; rcases hn with rfl | rfl <;> assumption) _ 2 _ (Rd.fresh w (cI64s [x, y]) _ (0, 0)) (by show 0 < 2; decide) (by show 2 ≤ 16; decide)
theorem bnew1_calls (w : World) :
    Calls Tryd.prog 15 #[.slice (some ⟨w.heap.size, 0, none⟩) 1 1] (w.alloc (.cells #[.int .i64 (-1)] 2)) fun e w' => e = .returned (.tuple #[.agg z32.toArray, .int .i64 1]) ∧ Ext (w.alloc (.cells #[.int .i64 (-1)] 2)) w' :=
  bnew_bad (-1) (by decide) _ 1 _ (Rd.fresh w (cI64s [-1]) _ (0, 0))
theorem z32_one' : ∀ v ∈ z32, v.oneCell' = true := fun v hv => by obtain rfl := List.eq_of_mem_replicate hv; rfl
theorem bnew17 (A : Option Addr) (c : Nat) (w : World) : Calls Tryd.prog 15 #[.slice A 17 c] w fun e w' => e = .returned (.tuple #[.agg z32.toArray, .int .i64 4]) ∧ Ext w w' :=
  bnew_long (List.replicate 17 0) A c w (by decide) (by decide)
theorem ap1 (w : World) : Calls Tryd.prog 16 #[.agg (cI64s (bh 10 20 0 0)).toArray, cV 1 0 0 1 4] w fun e w' => e = .returned (.tuple #[.agg (cI64s (bh 6 24 0 1)).toArray, .int .i64 0]) ∧ Ext w w' := by
  have h := bapply_ok (bh 10 20 0 0) rfl 1 (.inr rfl) 4 0 10 (by kernel_rfl) rfl (by decide) (by decide) rfl (by decide) (by decide) 20 rfl (by decide) (by decide) (by decide) (by decide) w
  exact h
theorem ap2 (w : World) : Calls Tryd.prog 16 #[.agg (cI64s (bh 6 24 0 1)).toArray, cV 1 1 0 1 7] w fun e w' => e = .returned (.tuple #[.agg (cI64s (bh 6 24 0 2)).toArray, .int .i64 17]) ∧ Ext w w' := by
  have h := bapply_funds (bh 6 24 0 1) rfl 1 (.inr rfl) 7 1 6 (by kernel_rfl) rfl (by decide) (by decide) rfl (by decide) w
  exact h
theorem ap3 (w : World) : Calls Tryd.prog 16 #[.agg (cI64s (bh 6 24 0 2)).toArray, cV 1 1 0 1 1] w fun e w' => e = .returned (.tuple #[.agg (cI64s (bh 6 24 0 2)).toArray, .int .i64 10]) ∧ Ext w w' := by
  have h := bapply_order (bh 6 24 0 2) rfl 1 (.inr rfl) 1 1 2 (by kernel_rfl) rfl (by decide) w
  exact h
theorem ap4 (w : World) : Calls Tryd.prog 16 #[.agg (cI64s (bh 6 24 0 2)).toArray, cV 1 2 1 1 1] w fun e w' => e = .returned (.tuple #[.agg (cI64s (bh 6 24 0 2)).toArray, .int .i64 1]) ∧ Ext w w' := by
  have h := bapply_bad (bh 6 24 0 2) rfl 1 2 1 1 1 (by kernel_rfl) w
  exact h
set_option maxRecDepth 100000 in
set_option maxHeartbeats 2000000 in
theorem known20_calls (w : World) (ht : TabOk w) : Calls Tryd.prog 14 #[] w fun e w' => e = .returned (.bool true) ∧ Ext w w' := by
  have HT := Lib.hid ht.all
  obtain ⟨i0, hi, hz0, hz1, hz2⟩ := info_parts bI64
  clear ht
  go_enter Tryd.func14, Tryd.ntmps14
  go_wp2_with fail
  have HW0 := Lib.hid (Ext.rfl' w)
  refine (bnew2_calls 10 20 (by unfold OkHas; decide) (by unfold OkHas; decide) _).mono ?_
  rintro e w1 ⟨rfl, hx⟩
  have HX0 := Lib.hid (((Ext.rfl' _).alloc _).tr hx)
  clear hx
  go_wp2_with (refine wpList_store_new rfl _ _ _ rfl _ _ (cI64s (bh 10 20 0 0)) rfl rfl rfl rfl (vI_one _) ?_; intro W2 hX hB; have HS0 := Lib.hid (HX0.out.tr hX); have HY0 := Lib.hid (HW0.out.tr HS0.out); have HBb1 := Lib.hid hB; clear hX hB HX0 HS0 HW0; generalize w1.heap.size = Ab1 at *)
  have HW1 := Lib.hid (HY0.out)
  refine (bnew1_calls _).mono ?_
  rintro e w1 ⟨rfl, hx⟩
  have HX1 := Lib.hid (((Ext.rfl' _).alloc _).tr hx)
  clear hx
  go_wp2_with (refine wpList_store_new rfl _ _ _ rfl _ _ z32 rfl rfl rfl rfl z32_one' ?_; intro W2 hX hB; have HS1 := Lib.hid (HX1.out.tr hX); have HY1 := Lib.hid (HW1.out.tr HS1.out); replace HBb1 := Lib.hid (HBb1.out.ext HS1.out); have HBb2 := Lib.hid hB; clear hX hB HX1 HS1 HW1; generalize w1.heap.size = Ab2 at *; have hmk := run_makeSlice (P := Tryd.prog) (w := W2) 70 2 i0 (.int .i64 0) Tryd.underlying70 hi hz0 .i64 .i64 17 17 (by decide) (by decide) (by rw [hz1]; decide) (by rw [hz2]; decide) (by decide))
  have HW2 := Lib.hid (HY1.out)
  refine (bnew17 _ _ _).mono ?_
  rintro e w1 ⟨rfl, hx⟩
  have HX2 := Lib.hid (((Ext.rfl' _).alloc _).tr hx)
  clear hx
  go_wp2_with (first | (refine wpList_store_new rfl _ _ _ rfl _ _ z32 rfl rfl rfl rfl z32_one' ?_; intro W2 hX hB; have HS2 := Lib.hid (HX2.out.tr hX); have HY2 := Lib.hid (HW2.out.tr HS2.out); replace HBb1 := Lib.hid (HBb1.out.ext HS2.out); replace HBb2 := Lib.hid (HBb2.out.ext HS2.out); have HBb3 := Lib.hid hB; clear hX hB HX2 HS2 HW2; generalize w1.heap.size = Ab3 at *) | (refine wpList_load_row rfl _ _ rfl Ab1 rfl 67 ((cI64s (bh 10 20 0 0))).toArray (0, 0) _ HBb1.out Tryd.underlying67 rfl rfl ?_))
  have HW3 := Lib.hid (HY2.out)
  refine (ap1 _).mono ?_
  rintro e w1 ⟨rfl, hx⟩
  have HX3 := Lib.hid (hx)
  clear hx
  go_wp2_with (first | (refine wpList_store_new rfl _ _ _ rfl _ _ (cI64s (bh 6 24 0 1)) rfl rfl rfl rfl (vI_one _) ?_; intro W2 hX hB; have HS3 := Lib.hid (HX3.out.tr hX); have HY3 := Lib.hid (HW3.out.tr HS3.out); replace HBb1 := Lib.hid (HBb1.out.ext HS3.out); replace HBb2 := Lib.hid (HBb2.out.ext HS3.out); replace HBb3 := Lib.hid (HBb3.out.ext HS3.out); have HBb4 := Lib.hid hB; clear hX hB HX3 HS3 HW3; generalize w1.heap.size = Ab4 at *) | (refine wpList_load_row rfl _ _ rfl Ab4 rfl 67 ((cI64s (bh 6 24 0 1))).toArray (0, 0) _ HBb4.out Tryd.underlying67 rfl rfl ?_))
  have HW4 := Lib.hid (HY3.out)
  refine (ap2 _).mono ?_
  rintro e w1 ⟨rfl, hx⟩
  have HX4 := Lib.hid (hx)
  clear hx
  go_wp2_with (first | (refine wpList_store_new rfl _ _ _ rfl _ _ (cI64s (bh 6 24 0 2)) rfl rfl rfl rfl (vI_one _) ?_; intro W2 hX hB; have HS4 := Lib.hid (HX4.out.tr hX); have HY4 := Lib.hid (HW4.out.tr HS4.out); replace HBb1 := Lib.hid (HBb1.out.ext HS4.out); replace HBb2 := Lib.hid (HBb2.out.ext HS4.out); replace HBb3 := Lib.hid (HBb3.out.ext HS4.out); replace HBb4 := Lib.hid (HBb4.out.ext HS4.out); have HBb5 := Lib.hid hB; clear hX hB HX4 HS4 HW4; generalize w1.heap.size = Ab5 at *) | (refine wpList_load_row rfl _ _ rfl Ab5 rfl 67 ((cI64s (bh 6 24 0 2))).toArray (0, 0) _ HBb5.out Tryd.underlying67 rfl rfl ?_))
  have HW5 := Lib.hid (HY4.out)
  refine (ap3 _).mono ?_
  rintro e w1 ⟨rfl, hx⟩
  have HX5 := Lib.hid (hx)
  clear hx
  go_wp2_with (first | (refine wpList_store_new rfl _ _ _ rfl _ _ (cI64s (bh 6 24 0 2)) rfl rfl rfl rfl (vI_one _) ?_; intro W2 hX hB; have HS5 := Lib.hid (HX5.out.tr hX); have HY5 := Lib.hid (HW5.out.tr HS5.out); replace HBb1 := Lib.hid (HBb1.out.ext HS5.out); replace HBb2 := Lib.hid (HBb2.out.ext HS5.out); replace HBb3 := Lib.hid (HBb3.out.ext HS5.out); replace HBb4 := Lib.hid (HBb4.out.ext HS5.out); replace HBb5 := Lib.hid (HBb5.out.ext HS5.out); have HBb6 := Lib.hid hB; clear hX hB HX5 HS5 HW5; generalize w1.heap.size = Ab6 at *) | (refine wpList_load_row rfl _ _ rfl Ab5 rfl 67 ((cI64s (bh 6 24 0 2))).toArray (0, 0) _ HBb5.out Tryd.underlying67 rfl rfl ?_))
  have HW6 := Lib.hid (HY5.out)
  refine (ap4 _).mono ?_
  rintro e w1 ⟨rfl, hx⟩
  have HX6 := Lib.hid (hx)
  clear hx
  go_wp2_with (refine wpList_store_new rfl _ _ _ rfl _ _ (cI64s (bh 6 24 0 2)) rfl rfl rfl rfl (vI_one _) ?_; intro W2 hX hB; have HS6 := Lib.hid (HX6.out.tr hX); have HY6 := Lib.hid (HW6.out.tr HS6.out); replace HBb1 := Lib.hid (HBb1.out.ext HS6.out); replace HBb2 := Lib.hid (HBb2.out.ext HS6.out); replace HBb3 := Lib.hid (HBb3.out.ext HS6.out); replace HBb4 := Lib.hid (HBb4.out.ext HS6.out); replace HBb5 := Lib.hid (HBb5.out.ext HS6.out); replace HBb6 := Lib.hid (HBb6.out.ext HS6.out); have HBb7 := Lib.hid hB; clear hX hB HX6 HS6 HW6; generalize w1.heap.size = Ab7 at *)
  have K4 : ∀ x : ExtW W2, Blk x.1 Ab4 67 (cI64s (bh 6 24 0 1)) := fun x => HBb4.out.ext x.2
  have K5 : ∀ x : ExtW W2, Blk x.1 Ab5 67 (cI64s (bh 6 24 0 2)) := fun x => HBb5.out.ext x.2
  have K6 : ∀ x : ExtW W2, Blk x.1 Ab6 67 (cI64s (bh 6 24 0 2)) := fun x => HBb6.out.ext x.2
  have HK4 := Lib.hid (show ∀ w', (∃ x : ExtW W2, w' = x.1) → Blk w' Ab4 67 (cI64s (bh 6 24 0 1)) from fun w' ⟨x, e⟩ => e ▸ K4 x)
  have HK5 := Lib.hid (show ∀ w', (∃ x : ExtW W2, w' = x.1) → Blk w' Ab5 67 (cI64s (bh 6 24 0 2)) from fun w' ⟨x, e⟩ => e ▸ K5 x)
  have HK6 := Lib.hid (show ∀ w', (∃ x : ExtW W2, w' = x.1) → Blk w' Ab6 67 (cI64s (bh 6 24 0 2)) from fun w' ⟨x, e⟩ => e ▸ K6 x)
  have p0 : ∀ x : ExtW W2, x.1.cell? ⟨Ab4, 0, none⟩ = some (.int .i64 6) := fun x => (K4 x).cell rfl
  have p1 : ∀ x : ExtW W2, x.1.cell? ⟨Ab4, 1, none⟩ = some (.int .i64 24) := fun x => (K4 x).cell rfl
  have p2 : ∀ x : ExtW W2, x.1.cell? ⟨Ab4, 17, none⟩ = some (.int .i64 1) := fun x => (K4 x).cell rfl
  have q0 : ∀ x : ExtW W2, x.1.cell? ⟨Ab5, 0, none⟩ = some (.int .i64 6) := fun x => (K5 x).cell rfl
  have q1 : ∀ x : ExtW W2, x.1.cell? ⟨Ab5, 17, none⟩ = some (.int .i64 2) := fun x => (K5 x).cell rfl
  clear K4 K5 K6 hmk
  have hD1 : ∀ n ∈ bh 6 24 0 1, I64 n := bh_mem (by unfold I64; decide) (by unfold I64; decide) (by unfold I64; decide) (by unfold I64; decide) (by unfold I64; decide)
  have hD2 : ∀ n ∈ bh 6 24 0 2, I64 n := bh_mem (by unfold I64; decide) (by unfold I64; decide) (by unfold I64; decide) (by unfold I64; decide) (by unfold I64; decide)
  have XD1 := Lib.hid (fun x : ExtW W2 => bdig_calls (bh 6 24 0 1) rfl hD1 x.1 (HT.out _ (HY6.out.tr x.2)))
  have XD2 := Lib.hid (fun x : ExtW W2 => bdig_calls (bh 6 24 0 2) rfl hD2 x.1 (HT.out _ (HY6.out.tr x.2)))
  have XT := Lib.hid (fun x : ExtW W2 => show Calls Tryd.prog 45 #[.agg (cI64s (bh 6 24 0 2)).toArray] x.1 fun e w' => e = .returned (.int .i64 30) ∧ Ext x.1 w' from total_calls (bh 6 24 0 2) rfl (by rw [bh_has]; decide) x.1)
  have hne : (((bkDig (bh 6 24 0 1) : Nat) : Int) != ((bkDig (bh 6 24 0 2) : Nat) : Int)) = true := by have := kb_dig; simp; omega
  have hne2 : (((bkDig (bh 6 24 0 1) : Nat) : Int) == ((bkDig (bh 6 24 0 2) : Nat) : Int)) = false := by have := kb_dig; simp; omega
  generalize bkDig (bh 6 24 0 1) = D1 at *
  generalize bkDig (bh 6 24 0 2) = D2 at *
  clear hD1 hD2
  refine wp_region_grow (by kernel_rfl) (by kernel_rfl) ?_
  simp only [List.append_eq, List.cons_append, List.nil_append]
  repeat (any_goals (first
    | (refine wpQuiet_load _ _ rfl (by rfl) Ab6 (by rfl) 67 (cI64s (bh 6 24 0 2)) _ HK6.out Tryd.underlying67 rfl rfl ?_; simp only [Act.put, List.setIfInBounds_toArray, List.set_cons_zero, List.set_cons_succ])
    | (refine wpQuiet_load _ _ rfl (by rfl) Ab5 (by rfl) 67 (cI64s (bh 6 24 0 2)) _ HK5.out Tryd.underlying67 rfl rfl ?_; simp only [Act.put, List.setIfInBounds_toArray, List.set_cons_zero, List.set_cons_succ])
    | (refine wpQuiet_load _ _ rfl (by rfl) Ab4 (by rfl) 67 (cI64s (bh 6 24 0 1)) _ HK4.out Tryd.underlying67 rfl rfl ?_; simp only [Act.put, List.setIfInBounds_toArray, List.set_cons_zero, List.set_cons_succ])
    | (go_big_quiet_step (first | (go_at_call 45; exact grow_of (XT.out _)) | (go_at_call 46; with_reducible exact grow_of (XD1.out _)) | (go_at_call 46; with_reducible exact grow_of (XD2.out _))))))
  refine wpQuiet_val (by rfl) (.bool true) (fun w => by kernel_rfl) ?_
  simp only [Act.put, List.setIfInBounds_toArray, List.set_cons_zero, List.set_cons_succ]
  repeat (any_goals (first
    | (refine wpQuiet_load _ _ rfl (by rfl) Ab6 (by rfl) 67 (cI64s (bh 6 24 0 2)) _ HK6.out Tryd.underlying67 rfl rfl ?_; simp only [Act.put, List.setIfInBounds_toArray, List.set_cons_zero, List.set_cons_succ])
    | (refine wpQuiet_load _ _ rfl (by rfl) Ab5 (by rfl) 67 (cI64s (bh 6 24 0 2)) _ HK5.out Tryd.underlying67 rfl rfl ?_; simp only [Act.put, List.setIfInBounds_toArray, List.set_cons_zero, List.set_cons_succ])
    | (refine wpQuiet_load _ _ rfl (by rfl) Ab4 (by rfl) 67 (cI64s (bh 6 24 0 1)) _ HK4.out Tryd.underlying67 rfl rfl ?_; simp only [Act.put, List.setIfInBounds_toArray, List.set_cons_zero, List.set_cons_succ])
    | (go_big_quiet_step (first | (go_at_call 45; exact grow_of (XT.out _)) | (go_at_call 46; with_reducible exact grow_of (XD1.out _)) | (go_at_call 46; with_reducible exact grow_of (XD2.out _))))))
  refine wpQuiet_nil ?_
  rintro _ ⟨⟨v2, hx⟩, rfl⟩
  have HZ := Lib.hid (HY6.out.tr hx)
  clear hx
  go_wp2
  go_ret
  exact ⟨ret_bool (by first | rfl | simp), HZ.out⟩
end Go.Proofs.YtifanmggfoicfaaDoor
