/- The walk of the law BookFunds. -/
import Derived.Test.YtifanmggfoicfaaDoorBkKw
import Derived.OpenShut
import Derived.Test.YtifanmggfoicfaaDoorTok
import Derived.ChangeKeysEq
set_option linter.unusedVariables false
set_option linter.unusedSimpArgs false
namespace Go.Proofs.YtifanmggfoicfaaDoor
open Go.RowKit Go.Sort
theorem bh_cells {W : World} {B : Nat} {x y p q : Int} (h : Blk W B 67 (cI64s (bh x y p q))) : W.cell? ⟨B, 0, none⟩ = some (.int .i64 x) ∧ W.cell? ⟨B, 1, none⟩ = some (.int .i64 y) ∧ W.cell? ⟨B, 2, none⟩ = some (.int .i64 0) ∧ W.cell? ⟨B, 3, none⟩ = some (.int .i64 0) ∧ W.cell? ⟨B, 4, none⟩ = some (.int .i64 0) ∧ W.cell? ⟨B, 5, none⟩ = some (.int .i64 0) ∧ W.cell? ⟨B, 6, none⟩ = some (.int .i64 0) ∧ W.cell? ⟨B, 7, none⟩ = some (.int .i64 0) ∧ W.cell? ⟨B, 8, none⟩ = some (.int .i64 0) ∧ W.cell? ⟨B, 9, none⟩ = some (.int .i64 0) ∧ W.cell? ⟨B, 10, none⟩ = some (.int .i64 0) ∧ W.cell? ⟨B, 11, none⟩ = some (.int .i64 0) ∧ W.cell? ⟨B, 12, none⟩ = some (.int .i64 0) ∧ W.cell? ⟨B, 13, none⟩ = some (.int .i64 0) ∧ W.cell? ⟨B, 14, none⟩ = some (.int .i64 0) ∧ W.cell? ⟨B, 15, none⟩ = some (.int .i64 0) :=
  ⟨h.cell rfl, h.cell rfl, h.cell rfl, h.cell rfl, h.cell rfl, h.cell rfl, h.cell rfl, h.cell rfl, h.cell rfl, h.cell rfl, h.cell rfl, h.cell rfl, h.cell rfl, h.cell rfl, h.cell rfl, h.cell rfl⟩
theorem eqItems_same (d : Nat) (w : World) (L : List Int) : ∀ is : List Nat, (∀ i ∈ is, i < L.length) → (Op.eqItems (d + 1) 2 (Tryd.prog.cellsOf 2) (cI64s L).toArray (cI64s L).toArray is).run Tryd.prog w = .ok true w
  | [], _ => by simp [Op.eqItems]
  | i :: is, h => by
    have hi := h i (by simp)
    have hp := run_part_plain (P := Tryd.prog) (e := 2) w (by kernel_rfl) (xs := (cI64s L).toArray) (off := i) (v := .int .i64 L[i]) (by simp [cI64s, hi])
    have hq : (Op.equalIn (d + 1) 2 (.int .i64 L[i]) (.int .i64 L[i])).run Tryd.prog w = .ok true w := by simp [Op.equalIn, run_underlying Tryd.underlying2]
    have ih := eqItems_same d w L is fun j hj => h j (by simp [hj])
    rw [show Tryd.prog.cellsOf 2 = 1 by kernel_rfl] at ih ⊢
    simp only [Op.eqItems, Nat.mul_one, Sem.run_bind, hp, hq, Result.andThen_ok]
    simpa using ih
set_option maxRecDepth 100000 in
theorem eq16 (x y : Int) (w : World) : (Op.equalIn 10000 64 (.agg #[Value.int IntKind.i64 x, Value.int IntKind.i64 y, Value.int IntKind.i64 0, Value.int IntKind.i64 0, Value.int IntKind.i64 0, Value.int IntKind.i64 0, Value.int IntKind.i64 0, Value.int IntKind.i64 0, Value.int IntKind.i64 0, Value.int IntKind.i64 0, Value.int IntKind.i64 0, Value.int IntKind.i64 0, Value.int IntKind.i64 0, Value.int IntKind.i64 0, Value.int IntKind.i64 0, Value.int IntKind.i64 0]) (.agg #[Value.int IntKind.i64 x, Value.int IntKind.i64 y, Value.int IntKind.i64 0, Value.int IntKind.i64 0, Value.int IntKind.i64 0, Value.int IntKind.i64 0, Value.int IntKind.i64 0, Value.int IntKind.i64 0, Value.int IntKind.i64 0, Value.int IntKind.i64 0, Value.int IntKind.i64 0, Value.int IntKind.i64 0, Value.int IntKind.i64 0, Value.int IntKind.i64 0, Value.int IntKind.i64 0, Value.int IntKind.i64 0])).run Tryd.prog w = .ok true w := by
  obtain ⟨i0, hi, hz0, hz1, hz2⟩ := info_parts bI64
  rw [run_equalIn_array w 9999 _ _ Tryd.underlying64 hi]
  have h := eqItems_same 9998 w ([x, y] ++ List.replicate 14 0) (List.range 16) (fun i hi => by simpa using List.mem_range.1 hi)
  exact h
theorem fund_code (a : Int) (h0 : 1 ≤ a) (h1 : a ≤ 65536) : codeC 0 0 0 1 a = 0 :=
  codeC_zero ⟨by omega, by omega, by omega, by omega, by omega, by omega, by omega⟩
theorem fd1 (x a : Int) (hx0 : 0 ≤ x) (hx1 : x ≤ 65535) (h0 : 1 ≤ a) (h1 : a ≤ 65536) (hlt : x < a) (w : World) : Calls Tryd.prog 16 #[.agg (cI64s (bh x 5 0 0)).toArray, cV 0 0 0 1 a] w fun e w' => e = .returned (.tuple #[.agg (cI64s (bh x 5 1 0)).toArray, .int .i64 17]) ∧ Ext w w' := by
  have h := bapply_funds (bh x 5 0 0) rfl 0 (.inl rfl) a 0 x (fund_code a h0 h1) rfl (by decide) (by decide) rfl hlt w
  exact h
theorem fd2 (x a : Int) (hx0 : 0 ≤ x) (hx1 : x ≤ 65535) (h0 : 1 ≤ a) (h1 : a ≤ 65536) (hle : a ≤ x) (w : World) : Calls Tryd.prog 16 #[.agg (cI64s (bh x 5 0 0)).toArray, cV 0 0 0 1 a] w fun e w' => e = .returned (.tuple #[.agg (cI64s (bh (x - a) (5 + a) 1 0)).toArray, .int .i64 0]) ∧ Ext w w' := by
  have h := bapply_ok (bh x 5 0 0) rfl 0 (.inl rfl) a 0 x (fund_code a h0 h1) rfl (by decide) (by decide) rfl hx0 (by omega) 5 rfl (by decide) (by decide) h0 hle w
  exact h
set_option maxRecDepth 100000 in
set_option maxHeartbeats 2000000 in
theorem funds_walk (x b : Int) (hx0 : 0 ≤ x) (hx1 : x ≤ 65535) (hb0 : 0 ≤ b) (hb1 : b ≤ 65535) (w : World) (ht : TabOk w) :
    Calls Tryd.prog 4 #[.int .u16 x, .int .u16 b] w fun e w' => e = .returned (.bool true) ∧ Ext w w' := by
  have HK := Lib.hid (known20_calls w ht)
  have HN := Lib.hid (bnew2_calls x 5 (by unfold OkHas; omega) (by unfold OkHas; decide))
  clear ht
  by_cases hlt : x < 1 + b
  · have HA := Lib.hid (fd1 x (1 + b) hx0 hx1 (by omega) (by omega) hlt)
    go_enter Tryd.func4, Tryd.ntmps4
    go_wp2_with fail
    refine HK.out.mono ?_
    rintro e w1 ⟨rfl, hx⟩
    have HX1 := Lib.hid hx
    clear hx
    go_wp2_with fail
    refine (HN.out _).mono ?_
    rintro e w2 ⟨rfl, hx⟩
    have HX2 := Lib.hid (HX1.out.tr (((Ext.rfl' _).alloc _).tr hx))
    clear hx
    go_wp2_with (first
      | (refine wpList_store_new rfl _ _ _ rfl _ _ (cI64s (bh x 5 0 0)) rfl rfl rfl rfl (vI_one _) ?_; intro W2 hX hB; have HX3 := Lib.hid (HX2.out.tr hX); have HB1 := Lib.hid hB; clear hX hB; generalize w2.heap.size = A1 at *)
      | (refine wpList_load_row rfl _ _ rfl A1 rfl 67 (cI64s (bh x 5 0 0)).toArray (0, 0) _ HB1.out Tryd.underlying67 rfl rfl ?_))
    refine (HA.out _).mono ?_
    rintro e w3 ⟨rfl, hx⟩
    have HX4 := Lib.hid (HX3.out.tr hx)
    have HB2 := Lib.hid (HB1.out.ext hx)
    clear hx
    go_wp2_with (refine wpList_store_new rfl _ _ _ rfl _ _ (cI64s (bh x 5 1 0)) rfl rfl rfl rfl (vI_one _) ?_; intro W3 hX hB; have HX5 := Lib.hid (HX4.out.tr hX); have HB3 := Lib.hid (HB2.out.ext hX); have HC3 := Lib.hid hB; have cn : W3.cell? ⟨w3.heap.size, 16, none⟩ = some (.int .i64 1) := hB.cell rfl; clear hX hB; generalize w3.heap.size = A2 at *; have heq := eq16 x 5 W3; obtain ⟨a0, a1, a2, a3, a4, a5, a6, a7, a8, a9, a10, a11, a12, a13, a14, a15⟩ := bh_cells HB3.out; obtain ⟨b0, b1, b2, b3, b4, b5, b6, b7, b8, b9, b10, b11, b12, b13, b14, b15⟩ := bh_cells HC3.out)
    go_ret
    exact ⟨ret_bool (by first | rfl | simp), HX5.out⟩
  · have HA := Lib.hid (fd2 x (1 + b) hx0 hx1 (by omega) (by omega) (by omega))
    have e0 : (x - (1 + b) == x - 1 - b) = true := by simp; omega
    have e1 : (5 + (1 + b) == 6 + b) = true := by simp; omega
    go_enter Tryd.func4, Tryd.ntmps4
    go_wp2_with fail
    refine HK.out.mono ?_
    rintro e w1 ⟨rfl, hx⟩
    have HX1 := Lib.hid hx
    clear hx
    go_wp2_with fail
    refine (HN.out _).mono ?_
    rintro e w2 ⟨rfl, hx⟩
    have HX2 := Lib.hid (HX1.out.tr (((Ext.rfl' _).alloc _).tr hx))
    clear hx
    go_wp2_with (first
      | (refine wpList_store_new rfl _ _ _ rfl _ _ (cI64s (bh x 5 0 0)) rfl rfl rfl rfl (vI_one _) ?_; intro W2 hX hB; have HX3 := Lib.hid (HX2.out.tr hX); have HB1 := Lib.hid hB; clear hX hB; generalize w2.heap.size = A1 at *)
      | (refine wpList_load_row rfl _ _ rfl A1 rfl 67 (cI64s (bh x 5 0 0)).toArray (0, 0) _ HB1.out Tryd.underlying67 rfl rfl ?_))
    refine (HA.out _).mono ?_
    rintro e w3 ⟨rfl, hx⟩
    have HX4 := Lib.hid (HX3.out.tr hx)
    clear hx
    generalize x - (1 + b) = X0 at *
    generalize 5 + (1 + b) = X1 at *
    go_wp2_with (refine wpList_store_new rfl _ _ _ rfl _ _ (cI64s (bh X0 X1 1 0)) rfl rfl rfl rfl (vI_one _) ?_; intro W3 hX hB; have HX5 := Lib.hid (HX4.out.tr hX); have cn : W3.cell? ⟨w3.heap.size, 16, none⟩ = some (.int .i64 1) := hB.cell rfl; have c0 : W3.cell? ⟨w3.heap.size, 0, none⟩ = some (.int .i64 X0) := hB.cell rfl; have c1 : W3.cell? ⟨w3.heap.size, 1, none⟩ = some (.int .i64 X1) := hB.cell rfl; clear hX hB; generalize w3.heap.size = A2 at *)
    go_ret
    exact ⟨ret_bool (by first | rfl | (simp; done) | (simp at *; omega)), HX5.out⟩
theorem bookFunds_walk' {w : World} (x : Int) (wx : (Lit.int .u16 x).wf = true) (b : Int) (wb : (Lit.int .u16 b).wf = true) (h : TOk w) :
    Calls Tryd.prog 4 #[.int .u16 x, .int .u16 b] w fun e w' => e = .returned (.bool true) ∧ Ext w w' := by
  have h1 := bounds_u16 wx
  have h2 := bounds_u16 wb
  exact funds_walk x b (by omega) (by omega) (by omega) (by omega) w h.tab
end Go.Proofs.YtifanmggfoicfaaDoor
