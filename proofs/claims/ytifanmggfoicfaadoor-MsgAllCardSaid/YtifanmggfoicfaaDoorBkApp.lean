/- The walk of book.Apply. -/
import Derived.Test.YtifanmggfoicfaaDoorBkNew
import Derived.BigQuiet
set_option linter.unusedVariables false
set_option linter.unusedSimpArgs false
namespace Go.Proofs.YtifanmggfoicfaaDoor
open Go.RowKit Go.Sort
theorem vI_len (H : List Int) : (cI64s H).length = H.length := by simp [cI64s]
theorem vI_get {H : List Int} {j : Nat} {x : Int} (h : H[j]? = some x) : (cI64s H)[j]? = some (.int .i64 x) := by simp [cI64s, h]
theorem vI_set (H : List Int) (j : Nat) (x : Int) : (cI64s H).set j (.int .i64 x) = cI64s (H.set j x) := by simp [cI64s, List.map_set]
theorem vI_one (H : List Int) : ∀ v ∈ cI64s H, v.oneCell' = true := fun v hv => by obtain ⟨n, _, rfl⟩ := List.mem_map.1 hv; rfl
theorem vI_size {H : List Int} (h : H.length = 32) : (cI64s H).toArray.size = 32 := by simp [cI64s, h]
def cL (c n f t a : Int) : List Value := [.int .i64 c, .int .i64 n, .int .i64 f, .int .i64 t, .int .i64 a]
theorem new3 (w : World) (L : List Value) (c n f t a : Int) : ∃ W, W = ((w.alloc (.cells L.toArray 67)).alloc (.cells #[.int .i64 c, .int .i64 n, .int .i64 f, .int .i64 t, .int .i64 a] 24)).alloc (.cells z32.toArray 67) ∧ Ext w W ∧
    Blk W w.heap.size 67 L ∧ Blk W (w.heap.size + 1) 24 (cL c n f t a) ∧ Blk W (w.heap.size + 1 + 1) 67 z32 := by
  refine ⟨_, rfl, (((Ext.rfl' w).alloc _).alloc _).alloc _, (Blk.new w 67 L).ext (((Ext.rfl' _).alloc _).alloc _), ?_, ?_⟩
  · have h := (Blk.new (w.alloc (.cells L.toArray 67)) 24 (cL c n f t a)).ext ((Ext.rfl' _).alloc (.cells z32.toArray 67))
    rw [show (w.alloc (.cells L.toArray 67)).heap.size = w.heap.size + 1 by simp] at h
    exact h
  · have h := Blk.new ((w.alloc (.cells L.toArray 67)).alloc (.cells #[.int .i64 c, .int .i64 n, .int .i64 f, .int .i64 t, .int .i64 a] 24)) 67 z32
    rw [show ((w.alloc (.cells L.toArray 67)).alloc (.cells #[.int .i64 c, .int .i64 n, .int .i64 f, .int .i64 t, .int .i64 a] 24)).heap.size = w.heap.size + 1 + 1 by simp] at h
    exact h
theorem cL_cells {W : World} {B : Nat} {c n f t a : Int} (h : Blk W B 24 (cL c n f t a)) :
    W.cell? ⟨B, 0, none⟩ = some (.int .i64 c) ∧ W.cell? ⟨B, 1, none⟩ = some (.int .i64 n) ∧ W.cell? ⟨B, 2, none⟩ = some (.int .i64 f) ∧ W.cell? ⟨B, 3, none⟩ = some (.int .i64 t) ∧ W.cell? ⟨B, 4, none⟩ = some (.int .i64 a) :=
  ⟨h.cell rfl, h.cell rfl, h.cell rfl, h.cell rfl, h.cell rfl⟩
set_option maxRecDepth 100000 in
set_option maxHeartbeats 1000000 in
theorem bapply_bad (H : List Int) (hH : H.length = 32) (c n f t a : Int) (hc : codeC c n f t a = 1) (w : World) :
    Calls Tryd.prog 16 #[.agg (cI64s H).toArray, cV c n f t a] w fun e w' => e = .returned (.tuple #[.agg (cI64s H).toArray, .int .i64 1]) ∧ Ext w w' := by
  have HCK := Lib.hid (ccheck_calls c n f t a)
  rw [hc] at HCK
  have HH := Lib.hid (vI_size hH)
  have HL := Lib.hid ((vI_len H).trans hH)
  clear hc hH
  go_enter Tryd.func16, Tryd.ntmps16
  go_upto_region 1 with (fail)
  rw [z32_lit]
  obtain ⟨W, hW, hX, h0, h1, h2⟩ := new3 w (cI64s H) c n f t a
  rw [← hW]
  have HX := Lib.hid hX
  have H0 := Lib.hid h0
  have H2 := Lib.hid h2
  obtain ⟨c0, c1, c2, c3, c4⟩ := cL_cells h1
  clear hX h0 h1 h2 hW
  go_wp2_with fail
  refine (HCK.out _).mono ?_
  rintro e w2 ⟨rfl, hx⟩
  have HX2 := Lib.hid (HX.out.tr hx)
  have H02 := Lib.hid (H0.out.ext hx)
  have H22 := Lib.hid (H2.out.ext hx)
  clear hx c0 c1 c2 c3 c4
  go_upto_region 3 with (fail)
  refine wp_region_lit ?_
  refine wpList_load_row rfl _ _ rfl w.heap.size rfl 67 (cI64s H).toArray (0, 0) _ H02.out Tryd.underlying67 rfl (by rw [HH.out]; rfl) ?_
  refine wpList_val rfl (.int .i64 1) rfl ?_
  refine wpList_store_mid rfl _ _ _ rfl (w.heap.size + 1 + 1) 0 (cI64s H).toArray rfl rfl (there32 H22.out HH.out) (by rw [HH.out]; rfl) (all_oneCell_toArray (vI_one H)) ?_
  rw [List.toList_toArray]
  have HX3 := Lib.hid (Ext.setCells (B := w.heap.size + 1 + 1) (by omega) (cI64s H) 0 _ HX2.out)
  have H3 := Lib.hid (H22.out.put (vs := cI64s H) HL.out)
  generalize w2.setCells (w.heap.size + 1 + 1) 0 (cI64s H) = W3 at *
  go_wp2
  exact ret_cell_tmp rfl H3.out Tryd.underlying67 rfl (by rw [HL.out]; rfl) rfl rfl ⟨rfl, HX3.out⟩
set_option maxRecDepth 100000 in
set_option maxHeartbeats 1000000 in
theorem bapply_order (H : List Int) (hH : H.length = 32) (c : Nat) (hc : c = 0 ∨ c = 1) (n a m : Int) (hok : codeC c n 0 1 a = 0) (hm : H[16 + c]? = some m) (hne : n ≠ m) (w : World) :
    Calls Tryd.prog 16 #[.agg (cI64s H).toArray, cV c n 0 1 a] w fun e w' => e = .returned (.tuple #[.agg (cI64s H).toArray, .int .i64 10]) ∧ Ext w w' := by
  have HCK := Lib.hid (ccheck_calls c n 0 1 a)
  rw [hok] at HCK
  have HH := Lib.hid (vI_size hH)
  have HL := Lib.hid ((vI_len H).trans hH)
  have hcc : c ≤ 1 := by omega
  have HM := Lib.hid (vI_get hm)
  have hn1 : (n != m) = true := by simpa using hne
  clear hok hH hm hne
  rcases hc with rfl | rfl
  all_goals
    go_enter Tryd.func16, Tryd.ntmps16
    go_upto_region 1 with (fail)
    rw [z32_lit]
    obtain ⟨W, hW, hX, h0, h1, h2⟩ := new3 w (cI64s H) _ n 0 1 a
    rw [← hW]
    have HX := Lib.hid hX
    have H0 := Lib.hid h0
    have H1 := Lib.hid h1
    have H2 := Lib.hid h2
    obtain ⟨c0, c1, c2, c3, c4⟩ := cL_cells h1
    clear hX h0 h1 h2 hW
    go_wp2_with fail
    refine (HCK.out _).mono ?_
    rintro e w2 ⟨rfl, hx⟩
    have HX2 := Lib.hid (HX.out.tr hx)
    have H02 := Lib.hid (H0.out.ext hx)
    have H12 := Lib.hid (H1.out.ext hx)
    have H22 := Lib.hid (H2.out.ext hx)
    clear hx c0 c1 c2 c3 c4
    obtain ⟨c0, c1, c2, c3, c4⟩ := cL_cells H12.out
    have cm := H02.out.cell HM.out
    simp only [Nat.reduceAdd, Nat.add_zero] at cm
    go_upto_region 4 with (fail)
    go_quiet (fail)
    have HX3 := Lib.hid (ext_drewN HX2.out nq)
    have H03 := Lib.hid (show Blk (w2.drewN nq) w.heap.size 67 (cI64s H) from H02.out)
    have H23 := Lib.hid (show Blk (w2.drewN nq) (w.heap.size + 1 + 1) 67 z32 from H22.out)
    clear c0 c1 c2 c3 c4 cm
    generalize w2.drewN nq = w3 at *
    go_upto_region 5 with (fail)
    refine wp_region_lit ?_
    refine wpList_load_row rfl _ _ rfl w.heap.size rfl 67 (cI64s H).toArray (0, 0) _ H03.out Tryd.underlying67 rfl (by rw [HH.out]; rfl) ?_
    refine wpList_store_mid rfl _ _ _ rfl (w.heap.size + 1 + 1) 0 (cI64s H).toArray rfl rfl (there32 H23.out HH.out) (by rw [HH.out]; rfl) (all_oneCell_toArray (vI_one H)) ?_
    rw [List.toList_toArray]
    have HX4 := Lib.hid (Ext.setCells (B := w.heap.size + 1 + 1) (by omega) (cI64s H) 0 _ HX3.out)
    have H4 := Lib.hid (H23.out.put (vs := cI64s H) HL.out)
    generalize w3.setCells (w.heap.size + 1 + 1) 0 (cI64s H) = W4 at *
    go_wp2
    exact ret_cell_tmp rfl H4.out Tryd.underlying67 rfl (by rw [HL.out]; rfl) rfl rfl ⟨rfl, HX4.out⟩
/-- What a turn leaves. -/
def turned (H : List Int) (c : Nat) (m : Int) : List Int := H.set (16 + c) (m + 1)
set_option maxRecDepth 100000 in
set_option maxHeartbeats 1000000 in
theorem bapply_funds (H : List Int) (hH : H.length = 32) (c : Nat) (hc : c = 0 ∨ c = 1) (a m x : Int) (hok : codeC c m 0 1 a = 0) (hm : H[16 + c]? = some m) (hm0 : 0 ≤ m) (hm1 : m ≤ 1048576) (hx : H[0]? = some x) (hlt : x < a) (w : World) :
    Calls Tryd.prog 16 #[.agg (cI64s H).toArray, cV c m 0 1 a] w fun e w' => e = .returned (.tuple #[.agg (cI64s (turned H c m)).toArray, .int .i64 17]) ∧ Ext w w' := by
  have HCK := Lib.hid (ccheck_calls c m 0 1 a)
  rw [hok] at HCK
  have HH := Lib.hid (vI_size hH)
  have HL := Lib.hid ((vI_len H).trans hH)
  have HT := Lib.hid (vI_size (H := turned H c m) (by rw [turned, List.length_set]; exact hH))
  have HTL := Lib.hid (show (cI64s (turned H c m)).length = 32 from (vI_len (turned H c m)).trans ((List.length_set ..).trans hH))
  have HS := Lib.hid (vI_set H (16 + c) (m + 1))
  have HM := Lib.hid (vI_get hm)
  have HXX := Lib.hid (vI_get (H := turned H c m) (j := 0) (x := x) ((List.getElem?_set_ne (by omega)).trans hx))
  change Hid (_ = cI64s (turned H c m)) at HS
  have hn1 : (m != m) = false := by simp
  clear hok hH hm hx
  rcases hc with rfl | rfl
  · generalize turned H _ m = H' at *
    go_enter Tryd.func16, Tryd.ntmps16
    go_upto_region 1 with (fail)
    rw [z32_lit]
    obtain ⟨W, hW, hX, h0, h1, h2⟩ := new3 w (cI64s H) _ m 0 1 a
    rw [← hW]
    have HX := Lib.hid hX
    have H0 := Lib.hid h0
    have H1 := Lib.hid h1
    have H2 := Lib.hid h2
    obtain ⟨c0, c1, c2, c3, c4⟩ := cL_cells h1
    clear hX h0 h1 h2 hW
    go_wp2_with fail
    refine (HCK.out _).mono ?_
    rintro e w2 ⟨rfl, hx⟩
    have HX2 := Lib.hid (HX.out.tr hx)
    have H02 := Lib.hid (H0.out.ext hx)
    have H12 := Lib.hid (H1.out.ext hx)
    have H22 := Lib.hid (H2.out.ext hx)
    clear hx c0 c1 c2 c3 c4
    obtain ⟨c0, c1, c2, c3, c4⟩ := cL_cells H12.out
    have cm := H02.out.cell HM.out
    simp only [Nat.reduceAdd, Nat.add_zero] at cm
    go_upto_region 4 with (fail)
    go_quiet (fail)
    have HX3 := Lib.hid (ext_drewN HX2.out nq)
    have H03 := Lib.hid (show Blk (w2.drewN nq) w.heap.size 67 (cI64s H) from H02.out)
    have H13 := Lib.hid (show Blk (w2.drewN nq) (w.heap.size + 1) 24 _ from H12.out)
    have H23 := Lib.hid (show Blk (w2.drewN nq) (w.heap.size + 1 + 1) 67 z32 from H22.out)
    clear c0 c1 c2 c3 c4 cm
    generalize w2.drewN nq = w3 at *
    obtain ⟨c0, c1, c2, c3, c4⟩ := cL_cells H13.out
    have cm := H03.out.cell HM.out
    have hfr := H03.out.frozen
    simp only [Nat.reduceAdd, Nat.add_zero] at cm
    go_upto_region 7 with (fail)
    have HX4 := Lib.hid (show Ext w (w3.setCell ⟨w.heap.size, 16, none⟩ (.int .i64 (m + 1))) from Below.setCell HX3.out (Nat.le_refl _) _)
    have h4 := H03.out.set 16 (.int .i64 (m + 1))
    rw [show (cI64s H).set 16 (.int .i64 (m + 1)) = cI64s H' from HS.out] at h4
    have H04 := Lib.hid h4
    have H14 := Lib.hid (H13.out.other (x := ⟨w.heap.size, 16, none⟩) (show w.heap.size + 1 ≠ w.heap.size by omega) (.int .i64 (m + 1)))
    have H24 := Lib.hid (H23.out.other (x := ⟨w.heap.size, 16, none⟩) (show w.heap.size + 1 + 1 ≠ w.heap.size by omega) (.int .i64 (m + 1)))
    clear c0 c1 c2 c3 c4 cm hfr h4
    generalize w3.setCell ⟨w.heap.size, 16, none⟩ (.int .i64 (m + 1)) = w4 at *
    obtain ⟨c0, c1, c2, c3, c4⟩ := cL_cells H14.out
    have cx := H04.out.cell HXX.out
    go_quiet (fail)
    have HX5 := Lib.hid (ext_drewN HX4.out nq)
    have H05 := Lib.hid (show Blk (w4.drewN nq) w.heap.size 67 (cI64s H') from H04.out)
    have H15 := Lib.hid (show Blk (w4.drewN nq) (w.heap.size + 1) 24 _ from H14.out)
    have H25 := Lib.hid (show Blk (w4.drewN nq) (w.heap.size + 1 + 1) 67 z32 from H24.out)
    clear c0 c1 c2 c3 c4 cx
    generalize w4.drewN nq = w5 at *
    go_upto_region 8 with (fail)
    refine wp_region_lit ?_
    refine wpList_load_row rfl _ _ rfl w.heap.size rfl 67 (cI64s H').toArray (0, 0) _ H05.out Tryd.underlying67 rfl (by rw [HT.out]; rfl) ?_
    refine wpList_store_mid rfl _ _ _ rfl (w.heap.size + 1 + 1) 0 (cI64s H').toArray rfl rfl (there32 H25.out HT.out) (by rw [HT.out]; rfl) (all_oneCell_toArray (vI_one H')) ?_
    rw [List.toList_toArray]
    have HX6 := Lib.hid (Ext.setCells (B := w.heap.size + 1 + 1) (by omega) (cI64s H') 0 _ HX5.out)
    have H6 := Lib.hid (H25.out.put (vs := cI64s H') HTL.out)
    generalize w5.setCells (w.heap.size + 1 + 1) 0 (cI64s H') = W6 at *
    go_wp2
    exact ret_cell_tmp rfl H6.out Tryd.underlying67 rfl (by rw [HTL.out]; rfl) rfl rfl ⟨rfl, HX6.out⟩
  · generalize turned H _ m = H' at *
    go_enter Tryd.func16, Tryd.ntmps16
    go_upto_region 1 with (fail)
    rw [z32_lit]
    obtain ⟨W, hW, hX, h0, h1, h2⟩ := new3 w (cI64s H) _ m 0 1 a
    rw [← hW]
    have HX := Lib.hid hX
    have H0 := Lib.hid h0
    have H1 := Lib.hid h1
    have H2 := Lib.hid h2
    obtain ⟨c0, c1, c2, c3, c4⟩ := cL_cells h1
    clear hX h0 h1 h2 hW
    go_wp2_with fail
    refine (HCK.out _).mono ?_
    rintro e w2 ⟨rfl, hx⟩
    have HX2 := Lib.hid (HX.out.tr hx)
    have H02 := Lib.hid (H0.out.ext hx)
    have H12 := Lib.hid (H1.out.ext hx)
    have H22 := Lib.hid (H2.out.ext hx)
    clear hx c0 c1 c2 c3 c4
    obtain ⟨c0, c1, c2, c3, c4⟩ := cL_cells H12.out
    have cm := H02.out.cell HM.out
    simp only [Nat.reduceAdd, Nat.add_zero] at cm
    go_upto_region 4 with (fail)
    go_quiet (fail)
    have HX3 := Lib.hid (ext_drewN HX2.out nq)
    have H03 := Lib.hid (show Blk (w2.drewN nq) w.heap.size 67 (cI64s H) from H02.out)
    have H13 := Lib.hid (show Blk (w2.drewN nq) (w.heap.size + 1) 24 _ from H12.out)
    have H23 := Lib.hid (show Blk (w2.drewN nq) (w.heap.size + 1 + 1) 67 z32 from H22.out)
    clear c0 c1 c2 c3 c4 cm
    generalize w2.drewN nq = w3 at *
    obtain ⟨c0, c1, c2, c3, c4⟩ := cL_cells H13.out
    have cm := H03.out.cell HM.out
    have hfr := H03.out.frozen
    simp only [Nat.reduceAdd, Nat.add_zero] at cm
    go_upto_region 7 with (fail)
    have HX4 := Lib.hid (show Ext w (w3.setCell ⟨w.heap.size, 17, none⟩ (.int .i64 (m + 1))) from Below.setCell HX3.out (Nat.le_refl _) _)
    have h4 := H03.out.set 17 (.int .i64 (m + 1))
    rw [show (cI64s H).set 17 (.int .i64 (m + 1)) = cI64s H' from HS.out] at h4
    have H04 := Lib.hid h4
    have H14 := Lib.hid (H13.out.other (x := ⟨w.heap.size, 17, none⟩) (show w.heap.size + 1 ≠ w.heap.size by omega) (.int .i64 (m + 1)))
    have H24 := Lib.hid (H23.out.other (x := ⟨w.heap.size, 17, none⟩) (show w.heap.size + 1 + 1 ≠ w.heap.size by omega) (.int .i64 (m + 1)))
    clear c0 c1 c2 c3 c4 cm hfr h4
    generalize w3.setCell ⟨w.heap.size, 17, none⟩ (.int .i64 (m + 1)) = w4 at *
    obtain ⟨c0, c1, c2, c3, c4⟩ := cL_cells H14.out
    have cx := H04.out.cell HXX.out
    go_quiet (fail)
    have HX5 := Lib.hid (ext_drewN HX4.out nq)
    have H05 := Lib.hid (show Blk (w4.drewN nq) w.heap.size 67 (cI64s H') from H04.out)
    have H15 := Lib.hid (show Blk (w4.drewN nq) (w.heap.size + 1) 24 _ from H14.out)
    have H25 := Lib.hid (show Blk (w4.drewN nq) (w.heap.size + 1 + 1) 67 z32 from H24.out)
    clear c0 c1 c2 c3 c4 cx
    generalize w4.drewN nq = w5 at *
    go_upto_region 8 with (fail)
    refine wp_region_lit ?_
    refine wpList_load_row rfl _ _ rfl w.heap.size rfl 67 (cI64s H').toArray (0, 0) _ H05.out Tryd.underlying67 rfl (by rw [HT.out]; rfl) ?_
    refine wpList_store_mid rfl _ _ _ rfl (w.heap.size + 1 + 1) 0 (cI64s H').toArray rfl rfl (there32 H25.out HT.out) (by rw [HT.out]; rfl) (all_oneCell_toArray (vI_one H')) ?_
    rw [List.toList_toArray]
    have HX6 := Lib.hid (Ext.setCells (B := w.heap.size + 1 + 1) (by omega) (cI64s H') 0 _ HX5.out)
    have H6 := Lib.hid (H25.out.put (vs := cI64s H') HTL.out)
    generalize w5.setCells (w.heap.size + 1 + 1) 0 (cI64s H') = W6 at *
    go_wp2
    exact ret_cell_tmp rfl H6.out Tryd.underlying67 rfl (by rw [HTL.out]; rfl) rfl rfl ⟨rfl, HX6.out⟩
set_option maxRecDepth 100000 in
set_option maxHeartbeats 1000000 in
theorem bapply_ok (H : List Int) (hH : H.length = 32) (c : Nat) (hc : c = 0 ∨ c = 1) (a m x : Int) (hok : codeC c m 0 1 a = 0) (hm : H[16 + c]? = some m) (hm0 : 0 ≤ m) (hm1 : m ≤ 1048576) (hx : H[0]? = some x) (hx0 : 0 ≤ x) (hx1 : x ≤ 4398046511104) (y : Int) (hy : H[1]? = some y) (hy0 : 0 ≤ y) (hy1 : y ≤ 4398046511104) (ha0 : 1 ≤ a) (hle : a ≤ x) (w : World) :
    Calls Tryd.prog 16 #[.agg (cI64s H).toArray, cV c m 0 1 a] w fun e w' => e = .returned (.tuple #[.agg (cI64s (((turned H c m).set 0 (x - a)).set 1 (y + a))).toArray, .int .i64 0]) ∧ Ext w w' := by
  have HCK := Lib.hid (ccheck_calls c m 0 1 a)
  rw [hok] at HCK
  have HH := Lib.hid (vI_size hH)
  have HL := Lib.hid ((vI_len H).trans hH)
  have HT := Lib.hid (vI_size (H := turned H c m) (by rw [turned, List.length_set]; exact hH))
  have HTL := Lib.hid (show (cI64s (turned H c m)).length = 32 from (vI_len (turned H c m)).trans ((List.length_set ..).trans hH))
  have HS := Lib.hid (vI_set H (16 + c) (m + 1))
  have HM := Lib.hid (vI_get hm)
  have HYY := Lib.hid (vI_get (H := (turned H c m).set 0 (x - a)) (j := 1) (x := y) ((List.getElem?_set_ne (by omega)).trans ((List.getElem?_set_ne (by omega)).trans hy)))
  have HS0 := Lib.hid (vI_set (turned H c m) 0 (x - a))
  have HS1 := Lib.hid (vI_set ((turned H c m).set 0 (x - a)) 1 (y + a))
  have HR := Lib.hid (vI_size (H := ((turned H c m).set 0 (x - a)).set 1 (y + a)) (by rw [turned, List.length_set, List.length_set, List.length_set]; exact hH))
  have HRL := Lib.hid (show (cI64s (((turned H c m).set 0 (x - a)).set 1 (y + a))).length = 32 from (vI_len _).trans (by rw [turned, List.length_set, List.length_set, List.length_set]; exact hH))
  have HXX := Lib.hid (vI_get (H := turned H c m) (j := 0) (x := x) ((List.getElem?_set_ne (by omega)).trans hx))
  change Hid (_ = cI64s (turned H c m)) at HS
  have hn1 : (m != m) = false := by simp
  clear hok hH hm hx hy
  rcases hc with rfl | rfl
  · generalize turned H _ m = H' at *
    generalize hA : H'.set 0 (x - a) = HA at *
    clear hA
    generalize hB : HA.set 1 (y + a) = HB at *
    clear hB
    go_enter Tryd.func16, Tryd.ntmps16
    go_upto_region 1 with (fail)
    rw [z32_lit]
    obtain ⟨W, hW, hX, h0, h1, h2⟩ := new3 w (cI64s H) _ m 0 1 a
    rw [← hW]
    have HX := Lib.hid hX
    have H0 := Lib.hid h0
    have H1 := Lib.hid h1
    have H2 := Lib.hid h2
    obtain ⟨c0, c1, c2, c3, c4⟩ := cL_cells h1
    clear hX h0 h1 h2 hW
    go_wp2_with fail
    refine (HCK.out _).mono ?_
    rintro e w2 ⟨rfl, hx⟩
    have HX2 := Lib.hid (HX.out.tr hx)
    have H02 := Lib.hid (H0.out.ext hx)
    have H12 := Lib.hid (H1.out.ext hx)
    have H22 := Lib.hid (H2.out.ext hx)
    clear hx c0 c1 c2 c3 c4
    obtain ⟨c0, c1, c2, c3, c4⟩ := cL_cells H12.out
    have cm := H02.out.cell HM.out
    simp only [Nat.reduceAdd, Nat.add_zero] at cm
    go_upto_region 4 with (fail)
    go_quiet (fail)
    have HX3 := Lib.hid (ext_drewN HX2.out nq)
    have H03 := Lib.hid (show Blk (w2.drewN nq) w.heap.size 67 (cI64s H) from H02.out)
    have H13 := Lib.hid (show Blk (w2.drewN nq) (w.heap.size + 1) 24 _ from H12.out)
    have H23 := Lib.hid (show Blk (w2.drewN nq) (w.heap.size + 1 + 1) 67 z32 from H22.out)
    clear c0 c1 c2 c3 c4 cm
    generalize w2.drewN nq = w3 at *
    obtain ⟨c0, c1, c2, c3, c4⟩ := cL_cells H13.out
    have cm := H03.out.cell HM.out
    have hfr := H03.out.frozen
    simp only [Nat.reduceAdd, Nat.add_zero] at cm
    go_upto_region 7 with (fail)
    have HX4 := Lib.hid (show Ext w (w3.setCell ⟨w.heap.size, 16, none⟩ (.int .i64 (m + 1))) from Below.setCell HX3.out (Nat.le_refl _) _)
    have h4 := H03.out.set 16 (.int .i64 (m + 1))
    rw [show (cI64s H).set 16 (.int .i64 (m + 1)) = cI64s H' from HS.out] at h4
    have H04 := Lib.hid h4
    have H14 := Lib.hid (H13.out.other (x := ⟨w.heap.size, 16, none⟩) (show w.heap.size + 1 ≠ w.heap.size by omega) (.int .i64 (m + 1)))
    have H24 := Lib.hid (H23.out.other (x := ⟨w.heap.size, 16, none⟩) (show w.heap.size + 1 + 1 ≠ w.heap.size by omega) (.int .i64 (m + 1)))
    clear c0 c1 c2 c3 c4 cm hfr h4
    generalize w3.setCell ⟨w.heap.size, 16, none⟩ (.int .i64 (m + 1)) = w4 at *
    obtain ⟨c0, c1, c2, c3, c4⟩ := cL_cells H14.out
    have cx := H04.out.cell HXX.out
    go_quiet (fail)
    have HX5 := Lib.hid (ext_drewN HX4.out nq)
    have H05 := Lib.hid (show Blk (w4.drewN nq) w.heap.size 67 (cI64s H') from H04.out)
    have H15 := Lib.hid (show Blk (w4.drewN nq) (w.heap.size + 1) 24 _ from H14.out)
    have H25 := Lib.hid (show Blk (w4.drewN nq) (w.heap.size + 1 + 1) 67 z32 from H24.out)
    clear c0 c1 c2 c3 c4 cx
    generalize w4.drewN nq = w5 at *
    obtain ⟨c0, c1, c2, c3, c4⟩ := cL_cells H15.out
    have cx := H05.out.cell HXX.out
    have hfr := H05.out.frozen
    go_upto_region 9 with (fail)
    go_region
    have HX6 := Lib.hid (show Ext w (w5.setCell ⟨w.heap.size, 0, none⟩ (.int .i64 (x - a))).drew from (Below.setCell HX5.out (Nat.le_refl _) _).drew)
    have h6 : Blk (w5.setCell ⟨w.heap.size, 0, none⟩ (.int .i64 (x - a))).drew w.heap.size 67 _ := H05.out.set 0 (.int .i64 (x - a))
    rw [show (cI64s H').set 0 (.int .i64 (x - a)) = cI64s HA from HS0.out] at h6
    have H06 := Lib.hid h6
    have H16 := Lib.hid (show Blk (w5.setCell ⟨w.heap.size, 0, none⟩ (.int .i64 (x - a))).drew _ _ _ from H15.out.other (x := ⟨w.heap.size, 0, none⟩) (show w.heap.size + 1 ≠ w.heap.size by omega) (.int .i64 (x - a)))
    have H26 := Lib.hid (show Blk (w5.setCell ⟨w.heap.size, 0, none⟩ (.int .i64 (x - a))).drew _ _ _ from H25.out.other (x := ⟨w.heap.size, 0, none⟩) (show w.heap.size + 1 + 1 ≠ w.heap.size by omega) (.int .i64 (x - a)))
    clear c0 c1 c2 c3 c4 cx hfr h6
    generalize (w5.setCell ⟨w.heap.size, 0, none⟩ (.int .i64 (x - a))).drew = w6 at *
    obtain ⟨c0, c1, c2, c3, c4⟩ := cL_cells H16.out
    have cy := H06.out.cell HYY.out
    have hfr := H06.out.frozen
    go_upto_region 10 with (fail)
    go_region
    have HX7 := Lib.hid (show Ext w (w6.setCell ⟨w.heap.size, 1, none⟩ (.int .i64 (y + a))).drew from (Below.setCell HX6.out (Nat.le_refl _) _).drew)
    have h7 : Blk (w6.setCell ⟨w.heap.size, 1, none⟩ (.int .i64 (y + a))).drew w.heap.size 67 _ := H06.out.set 1 (.int .i64 (y + a))
    rw [show (cI64s HA).set 1 (.int .i64 (y + a)) = cI64s HB from HS1.out] at h7
    have H07 := Lib.hid h7
    have H27 := Lib.hid (show Blk (w6.setCell ⟨w.heap.size, 1, none⟩ (.int .i64 (y + a))).drew _ _ _ from H26.out.other (x := ⟨w.heap.size, 1, none⟩) (show w.heap.size + 1 + 1 ≠ w.heap.size by omega) (.int .i64 (y + a)))
    clear c0 c1 c2 c3 c4 cy hfr h7
    generalize (w6.setCell ⟨w.heap.size, 1, none⟩ (.int .i64 (y + a))).drew = w7 at *
    go_upto_region 11 with (fail)
    refine wp_region_lit ?_
    refine wpList_load_row rfl _ _ rfl w.heap.size rfl 67 (cI64s HB).toArray (0, 0) _ H07.out Tryd.underlying67 rfl (by rw [HR.out]; rfl) ?_
    refine wpList_store_mid rfl _ _ _ rfl (w.heap.size + 1 + 1) 0 (cI64s HB).toArray rfl rfl (there32 H27.out HR.out) (by rw [HR.out]; rfl) (all_oneCell_toArray (vI_one HB)) ?_
    rw [List.toList_toArray]
    have HX8 := Lib.hid (Ext.setCells (B := w.heap.size + 1 + 1) (by omega) (cI64s HB) 0 _ HX7.out)
    have H8 := Lib.hid (H27.out.put (vs := cI64s HB) HRL.out)
    generalize w7.setCells (w.heap.size + 1 + 1) 0 (cI64s HB) = W8 at *
    go_wp2
    exact ret_cell_tmp rfl H8.out Tryd.underlying67 rfl (by rw [HRL.out]; rfl) rfl rfl ⟨rfl, HX8.out⟩
  · generalize turned H _ m = H' at *
    generalize hA : H'.set 0 (x - a) = HA at *
    clear hA
    generalize hB : HA.set 1 (y + a) = HB at *
    clear hB
    go_enter Tryd.func16, Tryd.ntmps16
    go_upto_region 1 with (fail)
    rw [z32_lit]
    obtain ⟨W, hW, hX, h0, h1, h2⟩ := new3 w (cI64s H) _ m 0 1 a
    rw [← hW]
    have HX := Lib.hid hX
    have H0 := Lib.hid h0
    have H1 := Lib.hid h1
    have H2 := Lib.hid h2
    obtain ⟨c0, c1, c2, c3, c4⟩ := cL_cells h1
    clear hX h0 h1 h2 hW
    go_wp2_with fail
    refine (HCK.out _).mono ?_
    rintro e w2 ⟨rfl, hx⟩
    have HX2 := Lib.hid (HX.out.tr hx)
    have H02 := Lib.hid (H0.out.ext hx)
    have H12 := Lib.hid (H1.out.ext hx)
    have H22 := Lib.hid (H2.out.ext hx)
    clear hx c0 c1 c2 c3 c4
    obtain ⟨c0, c1, c2, c3, c4⟩ := cL_cells H12.out
    have cm := H02.out.cell HM.out
    simp only [Nat.reduceAdd, Nat.add_zero] at cm
    go_upto_region 4 with (fail)
    go_quiet (fail)
    have HX3 := Lib.hid (ext_drewN HX2.out nq)
    have H03 := Lib.hid (show Blk (w2.drewN nq) w.heap.size 67 (cI64s H) from H02.out)
    have H13 := Lib.hid (show Blk (w2.drewN nq) (w.heap.size + 1) 24 _ from H12.out)
    have H23 := Lib.hid (show Blk (w2.drewN nq) (w.heap.size + 1 + 1) 67 z32 from H22.out)
    clear c0 c1 c2 c3 c4 cm
    generalize w2.drewN nq = w3 at *
    obtain ⟨c0, c1, c2, c3, c4⟩ := cL_cells H13.out
    have cm := H03.out.cell HM.out
    have hfr := H03.out.frozen
    simp only [Nat.reduceAdd, Nat.add_zero] at cm
    go_upto_region 7 with (fail)
    have HX4 := Lib.hid (show Ext w (w3.setCell ⟨w.heap.size, 17, none⟩ (.int .i64 (m + 1))) from Below.setCell HX3.out (Nat.le_refl _) _)
    have h4 := H03.out.set 17 (.int .i64 (m + 1))
    rw [show (cI64s H).set 17 (.int .i64 (m + 1)) = cI64s H' from HS.out] at h4
    have H04 := Lib.hid h4
    have H14 := Lib.hid (H13.out.other (x := ⟨w.heap.size, 17, none⟩) (show w.heap.size + 1 ≠ w.heap.size by omega) (.int .i64 (m + 1)))
    have H24 := Lib.hid (H23.out.other (x := ⟨w.heap.size, 17, none⟩) (show w.heap.size + 1 + 1 ≠ w.heap.size by omega) (.int .i64 (m + 1)))
    clear c0 c1 c2 c3 c4 cm hfr h4
    generalize w3.setCell ⟨w.heap.size, 17, none⟩ (.int .i64 (m + 1)) = w4 at *
    obtain ⟨c0, c1, c2, c3, c4⟩ := cL_cells H14.out
    have cx := H04.out.cell HXX.out
    go_quiet (fail)
    have HX5 := Lib.hid (ext_drewN HX4.out nq)
    have H05 := Lib.hid (show Blk (w4.drewN nq) w.heap.size 67 (cI64s H') from H04.out)
    have H15 := Lib.hid (show Blk (w4.drewN nq) (w.heap.size + 1) 24 _ from H14.out)
    have H25 := Lib.hid (show Blk (w4.drewN nq) (w.heap.size + 1 + 1) 67 z32 from H24.out)
    clear c0 c1 c2 c3 c4 cx
    generalize w4.drewN nq = w5 at *
    obtain ⟨c0, c1, c2, c3, c4⟩ := cL_cells H15.out
    have cx := H05.out.cell HXX.out
    have hfr := H05.out.frozen
    go_upto_region 9 with (fail)
    go_region
    have HX6 := Lib.hid (show Ext w (w5.setCell ⟨w.heap.size, 0, none⟩ (.int .i64 (x - a))).drew from (Below.setCell HX5.out (Nat.le_refl _) _).drew)
    have h6 : Blk (w5.setCell ⟨w.heap.size, 0, none⟩ (.int .i64 (x - a))).drew w.heap.size 67 _ := H05.out.set 0 (.int .i64 (x - a))
    rw [show (cI64s H').set 0 (.int .i64 (x - a)) = cI64s HA from HS0.out] at h6
    have H06 := Lib.hid h6
    have H16 := Lib.hid (show Blk (w5.setCell ⟨w.heap.size, 0, none⟩ (.int .i64 (x - a))).drew _ _ _ from H15.out.other (x := ⟨w.heap.size, 0, none⟩) (show w.heap.size + 1 ≠ w.heap.size by omega) (.int .i64 (x - a)))
    have H26 := Lib.hid (show Blk (w5.setCell ⟨w.heap.size, 0, none⟩ (.int .i64 (x - a))).drew _ _ _ from H25.out.other (x := ⟨w.heap.size, 0, none⟩) (show w.heap.size + 1 + 1 ≠ w.heap.size by omega) (.int .i64 (x - a)))
    clear c0 c1 c2 c3 c4 cx hfr h6
    generalize (w5.setCell ⟨w.heap.size, 0, none⟩ (.int .i64 (x - a))).drew = w6 at *
    obtain ⟨c0, c1, c2, c3, c4⟩ := cL_cells H16.out
    have cy := H06.out.cell HYY.out
    have hfr := H06.out.frozen
    go_upto_region 10 with (fail)
    go_region
    have HX7 := Lib.hid (show Ext w (w6.setCell ⟨w.heap.size, 1, none⟩ (.int .i64 (y + a))).drew from (Below.setCell HX6.out (Nat.le_refl _) _).drew)
    have h7 : Blk (w6.setCell ⟨w.heap.size, 1, none⟩ (.int .i64 (y + a))).drew w.heap.size 67 _ := H06.out.set 1 (.int .i64 (y + a))
    rw [show (cI64s HA).set 1 (.int .i64 (y + a)) = cI64s HB from HS1.out] at h7
    have H07 := Lib.hid h7
    have H27 := Lib.hid (show Blk (w6.setCell ⟨w.heap.size, 1, none⟩ (.int .i64 (y + a))).drew _ _ _ from H26.out.other (x := ⟨w.heap.size, 1, none⟩) (show w.heap.size + 1 + 1 ≠ w.heap.size by omega) (.int .i64 (y + a)))
    clear c0 c1 c2 c3 c4 cy hfr h7
    generalize (w6.setCell ⟨w.heap.size, 1, none⟩ (.int .i64 (y + a))).drew = w7 at *
    go_upto_region 11 with (fail)
    refine wp_region_lit ?_
    refine wpList_load_row rfl _ _ rfl w.heap.size rfl 67 (cI64s HB).toArray (0, 0) _ H07.out Tryd.underlying67 rfl (by rw [HR.out]; rfl) ?_
    refine wpList_store_mid rfl _ _ _ rfl (w.heap.size + 1 + 1) 0 (cI64s HB).toArray rfl rfl (there32 H27.out HR.out) (by rw [HR.out]; rfl) (all_oneCell_toArray (vI_one HB)) ?_
    rw [List.toList_toArray]
    have HX8 := Lib.hid (Ext.setCells (B := w.heap.size + 1 + 1) (by omega) (cI64s HB) 0 _ HX7.out)
    have H8 := Lib.hid (H27.out.put (vs := cI64s HB) HRL.out)
    generalize w7.setCells (w.heap.size + 1 + 1) 0 (cI64s HB) = W8 at *
    go_wp2
    exact ret_cell_tmp rfl H8.out Tryd.underlying67 rfl (by rw [HRL.out]; rfl) rfl rfl ⟨rfl, HX8.out⟩
end Go.Proofs.YtifanmggfoicfaaDoor
