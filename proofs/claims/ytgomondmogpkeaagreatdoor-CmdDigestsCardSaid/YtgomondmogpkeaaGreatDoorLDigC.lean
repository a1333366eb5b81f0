/- Ways of the law CmdDigests. -/
import Derived.Test.YtgomondmogpkeaaGreatDoorLDigT
set_option linter.unusedVariables false
namespace Go.Proofs.YtgomondmogpkeaaGreatDoor
open Go.RowKit Go.Sort
set_option maxHeartbeats 8000000 in
set_option maxRecDepth 100000 in
theorem dig_0_2 (c n f t a x b y : Int) (hb : I5 c n f t a) (ho : OkC c n f t a) (hx0 : 0 ≤ x) (hx1 : x ≤ 255) (h : x.tmod 5 = 0) (hz : (b == 0) = false) (hy : IntKind.i64.wrap (c + b) = y) (hne : (y == c) = false) (hb2 : I5 y n f t a) (q : Nat) (hq : ((q : Int) == 0) = false) (hp : parseC (bs (textC y n f t a)) = ((0, 0, 0, 0, 0), q)) (w : World) (hr : RngOk w) (ht : TabOk w) :
    Calls Tryz.prog 13 #[cV c n f t a, .int .u8 x, .int .i64 b] w fun e w' => e = .returned (.bool true) ∧ Ext w w' := by
  have HK := Lib.hid (fun W (hx : Ext w W) => known9_calls W (hr.ext hx) (ht.all _ hx))
  have HC := Lib.hid (show ∀ W, Calls Tryz.prog 39 #[cV c n f t a] W fun e w' => e = .returned (.int .i64 0) ∧ Ext W w' from fun W => by
    have hh := ccheck_calls c n f t a W
    rwa [codeC_zero ho] at hh)
  have HD := Lib.hid (fun W (hx : Ext w W) => cdig_calls c n f t a hb W (ht.all _ hx))
  have HN := Lib.hid (fun W (A : Option Addr) (cp : Nat) (hA : Rd W A (cI64s [c, n, f, t, a])) (hx : Ext w W) => show Calls Tryz.prog 21 #[.slice A 5 cp] W fun e w' => e = .returned (.string (textC c n f t a)) ∧ Ext W w' from nums_calls [c, n, f, t, a] hb.all A cp W hA (by show 5 ≤ _; decide) (ht.all _ hx))
  have hl := textC_len hb
  have HOF := Lib.hid (show ∀ W, Calls Tryz.prog 46 #[.string tagC, .string (textC c n f t a)] W fun e w' => e = .returned (cU64 (digC c n f t a)) ∧ Ext W w' from fun W => of_calls tagC (textC c n f t a) (by decide) (by omega) W)
  have HTX := Lib.hid (fun W (hx : Ext w W) => ctext_calls y n f t a hb2 W (ht.all _ hx))
  have HN2 := Lib.hid (fun W (A : Option Addr) (cp : Nat) (hA : Rd W A (cI64s [y, n, f, t, a])) (hx : Ext w W) => show Calls Tryz.prog 21 #[.slice A 5 cp] W fun e w' => e = .returned (.string (textC y n f t a)) ∧ Ext W w' from nums_calls [y, n, f, t, a] hb2.all A cp W hA (by show 5 ≤ _; decide) (ht.all _ hx))
  have hsz := textC_len hb2
  have HP := Lib.hid (show ∀ W, Ext w W → Calls Tryz.prog 37 #[.string (textC y n f t a)] W fun e w' => ParseCEnd ((0, 0, 0, 0, 0), q) e ∧ Ext W w' from fun W hx => by
    have hh := cparse_calls (textC y n f t a) (by rw [show (textC y n f t a).size = (textC y n f t a).data.toList.length from rfl]; omega) W (hr.ext hx)
    rwa [hp] at hh)
  have hne2 := bne_f hne
  have hz2 := bne_f hz
  have hq2 := bne_f hq
  clear hl hsz hr ht hb ho hb2 hp
  generalize digC c n f t a = D at *
  have h5 : x % 5 = 0 := by rw [← Int.tmod_eq_emod_of_nonneg hx0]; exact h
  go_enter Tryz.func13, Tryz.ntmps13
  go_wp2_with fail
  have HX0 := Lib.hid ((Ext.rfl' w).alloc (.cells #[.int .i64 c, .int .i64 n, .int .i64 f, .int .i64 t, .int .i64 a] 54))
  have H3 := Lib.hid (Five.new w 54 c n f t a)
  generalize w.alloc (.cells #[.int .i64 c, .int .i64 n, .int .i64 f, .int .i64 t, .int .i64 a] 54) = W0 at *
  refine (HK.out _ HX0.out).mono ?_
  rintro e w1 ⟨rfl, hx⟩
  have h3 := H3.out.ext hx
  have HX1 := Lib.hid (HX0.out.tr hx)
  clear H3 hx
  obtain ⟨c0, c1, c2, c3, c4⟩ := h3.cells
  have H3 := Lib.hid h3
  clear h3
  go_wp2_with fail
  refine (HC.out _).mono ?_
  rintro e w2 ⟨rfl, hx⟩
  have h3 := H3.out.ext hx
  have HX2 := Lib.hid (HX1.out.tr hx)
  clear H3 hx c0 c1 c2 c3 c4
  obtain ⟨c0, c1, c2, c3, c4⟩ := h3.cells
  have H3 := Lib.hid h3
  have h4 := h3.ext ((Ext.rfl' w2).alloc (.cells #[.int .i64 c, .int .i64 n, .int .i64 f, .int .i64 t, .int .i64 a] 2))
  have HX3 := Lib.hid (HX2.out.alloc (.cells #[.int .i64 c, .int .i64 n, .int .i64 f, .int .i64 t, .int .i64 a] 2))
  have h6 := Five.new w2 2 c n f t a
  obtain ⟨d0, d1, d2, d3, d4⟩ := h4.cells
  clear h3
  have hlt := h4.lt
  have H4 := Lib.hid h4
  have H6 := Lib.hid h6
  clear h4 h6
  go_wp2_with fail
  refine (HD.out _ HX3.out).mono ?_
  rintro e w3 ⟨rfl, hx⟩
  have h4 := H4.out.ext hx
  have h6 := H6.out.ext hx
  have HX4 := Lib.hid (HX3.out.tr hx)
  clear hx H4 H6 c0 c1 c2 c3 c4 d0 d1 d2 d3 d4 hlt
  have hB : w.heap.size < w2.heap.size := H3.out.lt
  have hNe : w.heap.size ≠ w2.heap.size := by omega
  generalize w2.heap.size = B at *
  go_wp2_with fail
  refine (HN.out _ _ _ (five_rd h6) HX4.out).mono ?_
  rintro e w4 ⟨rfl, hx⟩
  have h4 := h4.ext hx
  have h6 := h6.ext hx
  have HX5 := Lib.hid (HX4.out.tr hx)
  clear hx
  go_wp2_with fail
  refine (HOF.out _).mono ?_
  rintro e w5 ⟨rfl, hx⟩
  have h4 := h4.ext hx
  have h6 := h6.ext hx
  have HX6 := Lib.hid (HX5.out.tr hx)
  clear hx
  obtain ⟨e0, e1, e2, e3, e4⟩ := h6.cells
  have f0 := h6.frozen 0
  have H4 := Lib.hid h4
  have H6 := Lib.hid h6
  clear h4 h6
  go_wp2_with fail
  have h6 := five_at0 H6.out y
  have h4 : Five (w5.setCell ⟨B, 0, none⟩ (.int .i64 y)) w.heap.size 54 c n f t a := five_off H4.out hNe
  have HX7 := Lib.hid (show Ext w (w5.setCell ⟨B, 0, none⟩ (.int .i64 y)) from Below.setCell HX6.out (by show w.heap.size ≤ B; omega) _)
  clear H4 H6 e0 e1 e2 e3 e4 f0
  generalize w5.setCell ⟨B, 0, none⟩ (.int .i64 y) = w6 at *
  refine (HN2.out _ _ _ (five_rd h6) HX7.out).mono ?_
  rintro e w7 ⟨rfl, hx⟩
  have h4 := h4.ext hx
  have h6 := h6.ext hx
  have HX8 := Lib.hid (HX7.out.tr hx)
  clear hx
  go_wp2_with fail
  refine (HP.out _ HX8.out).mono ?_
  rintro e w8 ⟨he, hx⟩
  obtain rfl : e = .returned (.tuple #[cV 0 0 0 0 0, .int .i64 (q : Int)]) := he
  have hx' := hx.alloc (.cells #[.int .i64 0, .int .i64 0, .int .i64 0, .int .i64 0, .int .i64 0] 54)
  have h4 := h4.ext hx'
  have h6 := h6.ext hx'
  have h9 := Five.new w8 54 0 0 0 0 0
  have HX9 := Lib.hid (HX8.out.tr hx')
  clear hx hx'
  obtain ⟨c0, c1, c2, c3, c4⟩ := h4.cells
  obtain ⟨d0, d1, d2, d3, d4⟩ := h9.cells
  clear h4 h6 h9
  go_wp2
  go_ret
  exact ⟨rfl, HX9.out⟩
set_option maxHeartbeats 8000000 in
set_option maxRecDepth 100000 in
theorem dig_1_2 (c n f t a x b y : Int) (hb : I5 c n f t a) (ho : OkC c n f t a) (hx0 : 0 ≤ x) (hx1 : x ≤ 255) (h : x.tmod 5 = 1) (hz : (b == 0) = false) (hy : IntKind.i64.wrap (n + b) = y) (hne : (y == n) = false) (hb2 : I5 c y f t a) (q : Nat) (hq : ((q : Int) == 0) = false) (hp : parseC (bs (textC c y f t a)) = ((0, 0, 0, 0, 0), q)) (w : World) (hr : RngOk w) (ht : TabOk w) :
    Calls Tryz.prog 13 #[cV c n f t a, .int .u8 x, .int .i64 b] w fun e w' => e = .returned (.bool true) ∧ Ext w w' := by
  have HK := Lib.hid (fun W (hx : Ext w W) => known9_calls W (hr.ext hx) (ht.all _ hx))
  have HC := Lib.hid (show ∀ W, Calls Tryz.prog 39 #[cV c n f t a] W fun e w' => e = .returned (.int .i64 0) ∧ Ext W w' from fun W => by
    have hh := ccheck_calls c n f t a W
    rwa [codeC_zero ho] at hh)
  have HD := Lib.hid (fun W (hx : Ext w W) => cdig_calls c n f t a hb W (ht.all _ hx))
  have HN := Lib.hid (fun W (A : Option Addr) (cp : Nat) (hA : Rd W A (cI64s [c, n, f, t, a])) (hx : Ext w W) => show Calls Tryz.prog 21 #[.slice A 5 cp] W fun e w' => e = .returned (.string (textC c n f t a)) ∧ Ext W w' from nums_calls [c, n, f, t, a] hb.all A cp W hA (by show 5 ≤ _; decide) (ht.all _ hx))
  have hl := textC_len hb
  have HOF := Lib.hid (show ∀ W, Calls Tryz.prog 46 #[.string tagC, .string (textC c n f t a)] W fun e w' => e = .returned (cU64 (digC c n f t a)) ∧ Ext W w' from fun W => of_calls tagC (textC c n f t a) (by decide) (by omega) W)
  have HTX := Lib.hid (fun W (hx : Ext w W) => ctext_calls c y f t a hb2 W (ht.all _ hx))
  have HN2 := Lib.hid (fun W (A : Option Addr) (cp : Nat) (hA : Rd W A (cI64s [c, y, f, t, a])) (hx : Ext w W) => show Calls Tryz.prog 21 #[.slice A 5 cp] W fun e w' => e = .returned (.string (textC c y f t a)) ∧ Ext W w' from nums_calls [c, y, f, t, a] hb2.all A cp W hA (by show 5 ≤ _; decide) (ht.all _ hx))
  have hsz := textC_len hb2
  have HP := Lib.hid (show ∀ W, Ext w W → Calls Tryz.prog 37 #[.string (textC c y f t a)] W fun e w' => ParseCEnd ((0, 0, 0, 0, 0), q) e ∧ Ext W w' from fun W hx => by
    have hh := cparse_calls (textC c y f t a) (by rw [show (textC c y f t a).size = (textC c y f t a).data.toList.length from rfl]; omega) W (hr.ext hx)
    rwa [hp] at hh)
  have hne2 := bne_f hne
  have hz2 := bne_f hz
  have hq2 := bne_f hq
  clear hl hsz hr ht hb ho hb2 hp
  generalize digC c n f t a = D at *
  have h5 : x % 5 = 1 := by rw [← Int.tmod_eq_emod_of_nonneg hx0]; exact h
  go_enter Tryz.func13, Tryz.ntmps13
  go_wp2_with fail
  have HX0 := Lib.hid ((Ext.rfl' w).alloc (.cells #[.int .i64 c, .int .i64 n, .int .i64 f, .int .i64 t, .int .i64 a] 54))
  have H3 := Lib.hid (Five.new w 54 c n f t a)
  generalize w.alloc (.cells #[.int .i64 c, .int .i64 n, .int .i64 f, .int .i64 t, .int .i64 a] 54) = W0 at *
  refine (HK.out _ HX0.out).mono ?_
  rintro e w1 ⟨rfl, hx⟩
  have h3 := H3.out.ext hx
  have HX1 := Lib.hid (HX0.out.tr hx)
  clear H3 hx
  obtain ⟨c0, c1, c2, c3, c4⟩ := h3.cells
  have H3 := Lib.hid h3
  clear h3
  go_wp2_with fail
  refine (HC.out _).mono ?_
  rintro e w2 ⟨rfl, hx⟩
  have h3 := H3.out.ext hx
  have HX2 := Lib.hid (HX1.out.tr hx)
  clear H3 hx c0 c1 c2 c3 c4
  obtain ⟨c0, c1, c2, c3, c4⟩ := h3.cells
  have H3 := Lib.hid h3
  have h4 := h3.ext ((Ext.rfl' w2).alloc (.cells #[.int .i64 c, .int .i64 n, .int .i64 f, .int .i64 t, .int .i64 a] 2))
  have HX3 := Lib.hid (HX2.out.alloc (.cells #[.int .i64 c, .int .i64 n, .int .i64 f, .int .i64 t, .int .i64 a] 2))
  have h6 := Five.new w2 2 c n f t a
  obtain ⟨d0, d1, d2, d3, d4⟩ := h4.cells
  clear h3
  have hlt := h4.lt
  have H4 := Lib.hid h4
  have H6 := Lib.hid h6
  clear h4 h6
  go_wp2_with fail
  refine (HD.out _ HX3.out).mono ?_
  rintro e w3 ⟨rfl, hx⟩
  have h4 := H4.out.ext hx
  have h6 := H6.out.ext hx
  have HX4 := Lib.hid (HX3.out.tr hx)
  clear hx H4 H6 c0 c1 c2 c3 c4 d0 d1 d2 d3 d4 hlt
  have hB : w.heap.size < w2.heap.size := H3.out.lt
  have hNe : w.heap.size ≠ w2.heap.size := by omega
  generalize w2.heap.size = B at *
  go_wp2_with fail
  refine (HN.out _ _ _ (five_rd h6) HX4.out).mono ?_
  rintro e w4 ⟨rfl, hx⟩
  have h4 := h4.ext hx
  have h6 := h6.ext hx
  have HX5 := Lib.hid (HX4.out.tr hx)
  clear hx
  go_wp2_with fail
  refine (HOF.out _).mono ?_
  rintro e w5 ⟨rfl, hx⟩
  have h4 := h4.ext hx
  have h6 := h6.ext hx
  have HX6 := Lib.hid (HX5.out.tr hx)
  clear hx
  obtain ⟨e0, e1, e2, e3, e4⟩ := h6.cells
  have f1 := h6.frozen 1
  have H4 := Lib.hid h4
  have H6 := Lib.hid h6
  clear h4 h6
  go_wp2_with fail
  have h6 := five_at1 H6.out y
  have h4 : Five (w5.setCell ⟨B, 1, none⟩ (.int .i64 y)) w.heap.size 54 c n f t a := five_off H4.out hNe
  have HX7 := Lib.hid (show Ext w (w5.setCell ⟨B, 1, none⟩ (.int .i64 y)) from Below.setCell HX6.out (by show w.heap.size ≤ B; omega) _)
  clear H4 H6 e0 e1 e2 e3 e4 f1
  generalize w5.setCell ⟨B, 1, none⟩ (.int .i64 y) = w6 at *
  refine (HN2.out _ _ _ (five_rd h6) HX7.out).mono ?_
  rintro e w7 ⟨rfl, hx⟩
  have h4 := h4.ext hx
  have h6 := h6.ext hx
  have HX8 := Lib.hid (HX7.out.tr hx)
  clear hx
  go_wp2_with fail
  refine (HP.out _ HX8.out).mono ?_
  rintro e w8 ⟨he, hx⟩
  obtain rfl : e = .returned (.tuple #[cV 0 0 0 0 0, .int .i64 (q : Int)]) := he
  have hx' := hx.alloc (.cells #[.int .i64 0, .int .i64 0, .int .i64 0, .int .i64 0, .int .i64 0] 54)
  have h4 := h4.ext hx'
  have h6 := h6.ext hx'
  have h9 := Five.new w8 54 0 0 0 0 0
  have HX9 := Lib.hid (HX8.out.tr hx')
  clear hx hx'
  obtain ⟨c0, c1, c2, c3, c4⟩ := h4.cells
  obtain ⟨d0, d1, d2, d3, d4⟩ := h9.cells
  clear h4 h6 h9
  go_wp2
  go_ret
  exact ⟨rfl, HX9.out⟩
set_option maxHeartbeats 8000000 in
set_option maxRecDepth 100000 in
theorem dig_2_2 (c n f t a x b y : Int) (hb : I5 c n f t a) (ho : OkC c n f t a) (hx0 : 0 ≤ x) (hx1 : x ≤ 255) (h : x.tmod 5 = 2) (hz : (b == 0) = false) (hy : IntKind.i64.wrap (f + b) = y) (hne : (y == f) = false) (hb2 : I5 c n y t a) (q : Nat) (hq : ((q : Int) == 0) = false) (hp : parseC (bs (textC c n y t a)) = ((0, 0, 0, 0, 0), q)) (w : World) (hr : RngOk w) (ht : TabOk w) :
    Calls Tryz.prog 13 #[cV c n f t a, .int .u8 x, .int .i64 b] w fun e w' => e = .returned (.bool true) ∧ Ext w w' := by
  have HK := Lib.hid (fun W (hx : Ext w W) => known9_calls W (hr.ext hx) (ht.all _ hx))
  have HC := Lib.hid (show ∀ W, Calls Tryz.prog 39 #[cV c n f t a] W fun e w' => e = .returned (.int .i64 0) ∧ Ext W w' from fun W => by
    have hh := ccheck_calls c n f t a W
    rwa [codeC_zero ho] at hh)
  have HD := Lib.hid (fun W (hx : Ext w W) => cdig_calls c n f t a hb W (ht.all _ hx))
  have HN := Lib.hid (fun W (A : Option Addr) (cp : Nat) (hA : Rd W A (cI64s [c, n, f, t, a])) (hx : Ext w W) => show Calls Tryz.prog 21 #[.slice A 5 cp] W fun e w' => e = .returned (.string (textC c n f t a)) ∧ Ext W w' from nums_calls [c, n, f, t, a] hb.all A cp W hA (by show 5 ≤ _; decide) (ht.all _ hx))
  have hl := textC_len hb
  have HOF := Lib.hid (show ∀ W, Calls Tryz.prog 46 #[.string tagC, .string (textC c n f t a)] W fun e w' => e = .returned (cU64 (digC c n f t a)) ∧ Ext W w' from fun W => of_calls tagC (textC c n f t a) (by decide) (by omega) W)
  have HTX := Lib.hid (fun W (hx : Ext w W) => ctext_calls c n y t a hb2 W (ht.all _ hx))
  have HN2 := Lib.hid (fun W (A : Option Addr) (cp : Nat) (hA : Rd W A (cI64s [c, n, y, t, a])) (hx : Ext w W) => show Calls Tryz.prog 21 #[.slice A 5 cp] W fun e w' => e = .returned (.string (textC c n y t a)) ∧ Ext W w' from nums_calls [c, n, y, t, a] hb2.all A cp W hA (by show 5 ≤ _; decide) (ht.all _ hx))
  have hsz := textC_len hb2
  have HP := Lib.hid (show ∀ W, Ext w W → Calls Tryz.prog 37 #[.string (textC c n y t a)] W fun e w' => ParseCEnd ((0, 0, 0, 0, 0), q) e ∧ Ext W w' from fun W hx => by
    have hh := cparse_calls (textC c n y t a) (by rw [show (textC c n y t a).size = (textC c n y t a).data.toList.length from rfl]; omega) W (hr.ext hx)
    rwa [hp] at hh)
  have hne2 := bne_f hne
  have hz2 := bne_f hz
  have hq2 := bne_f hq
  clear hl hsz hr ht hb ho hb2 hp
  generalize digC c n f t a = D at *
  have h5 : x % 5 = 2 := by rw [← Int.tmod_eq_emod_of_nonneg hx0]; exact h
  go_enter Tryz.func13, Tryz.ntmps13
  go_wp2_with fail
  have HX0 := Lib.hid ((Ext.rfl' w).alloc (.cells #[.int .i64 c, .int .i64 n, .int .i64 f, .int .i64 t, .int .i64 a] 54))
  have H3 := Lib.hid (Five.new w 54 c n f t a)
  generalize w.alloc (.cells #[.int .i64 c, .int .i64 n, .int .i64 f, .int .i64 t, .int .i64 a] 54) = W0 at *
  refine (HK.out _ HX0.out).mono ?_
  rintro e w1 ⟨rfl, hx⟩
  have h3 := H3.out.ext hx
  have HX1 := Lib.hid (HX0.out.tr hx)
  clear H3 hx
  obtain ⟨c0, c1, c2, c3, c4⟩ := h3.cells
  have H3 := Lib.hid h3
  clear h3
  go_wp2_with fail
  refine (HC.out _).mono ?_
  rintro e w2 ⟨rfl, hx⟩
  have h3 := H3.out.ext hx
  have HX2 := Lib.hid (HX1.out.tr hx)
  clear H3 hx c0 c1 c2 c3 c4
  obtain ⟨c0, c1, c2, c3, c4⟩ := h3.cells
  have H3 := Lib.hid h3
  have h4 := h3.ext ((Ext.rfl' w2).alloc (.cells #[.int .i64 c, .int .i64 n, .int .i64 f, .int .i64 t, .int .i64 a] 2))
  have HX3 := Lib.hid (HX2.out.alloc (.cells #[.int .i64 c, .int .i64 n, .int .i64 f, .int .i64 t, .int .i64 a] 2))
  have h6 := Five.new w2 2 c n f t a
  obtain ⟨d0, d1, d2, d3, d4⟩ := h4.cells
  clear h3
  have hlt := h4.lt
  have H4 := Lib.hid h4
  have H6 := Lib.hid h6
  clear h4 h6
  go_wp2_with fail
  refine (HD.out _ HX3.out).mono ?_
  rintro e w3 ⟨rfl, hx⟩
  have h4 := H4.out.ext hx
  have h6 := H6.out.ext hx
  have HX4 := Lib.hid (HX3.out.tr hx)
  clear hx H4 H6 c0 c1 c2 c3 c4 d0 d1 d2 d3 d4 hlt
  have hB : w.heap.size < w2.heap.size := H3.out.lt
  have hNe : w.heap.size ≠ w2.heap.size := by omega
  generalize w2.heap.size = B at *
  go_wp2_with fail
  refine (HN.out _ _ _ (five_rd h6) HX4.out).mono ?_
  rintro e w4 ⟨rfl, hx⟩
  have h4 := h4.ext hx
  have h6 := h6.ext hx
  have HX5 := Lib.hid (HX4.out.tr hx)
  clear hx
  go_wp2_with fail
  refine (HOF.out _).mono ?_
  rintro e w5 ⟨rfl, hx⟩
  have h4 := h4.ext hx
  have h6 := h6.ext hx
  have HX6 := Lib.hid (HX5.out.tr hx)
  clear hx
  obtain ⟨e0, e1, e2, e3, e4⟩ := h6.cells
  have f2 := h6.frozen 2
  have H4 := Lib.hid h4
  have H6 := Lib.hid h6
  clear h4 h6
  go_wp2_with fail
  have h6 := five_at2 H6.out y
  have h4 : Five (w5.setCell ⟨B, 2, none⟩ (.int .i64 y)) w.heap.size 54 c n f t a := five_off H4.out hNe
  have HX7 := Lib.hid (show Ext w (w5.setCell ⟨B, 2, none⟩ (.int .i64 y)) from Below.setCell HX6.out (by show w.heap.size ≤ B; omega) _)
  clear H4 H6 e0 e1 e2 e3 e4 f2
  generalize w5.setCell ⟨B, 2, none⟩ (.int .i64 y) = w6 at *
  refine (HN2.out _ _ _ (five_rd h6) HX7.out).mono ?_
  rintro e w7 ⟨rfl, hx⟩
  have h4 := h4.ext hx
  have h6 := h6.ext hx
  have HX8 := Lib.hid (HX7.out.tr hx)
  clear hx
  go_wp2_with fail
  refine (HP.out _ HX8.out).mono ?_
  rintro e w8 ⟨he, hx⟩
  obtain rfl : e = .returned (.tuple #[cV 0 0 0 0 0, .int .i64 (q : Int)]) := he
  have hx' := hx.alloc (.cells #[.int .i64 0, .int .i64 0, .int .i64 0, .int .i64 0, .int .i64 0] 54)
  have h4 := h4.ext hx'
  have h6 := h6.ext hx'
  have h9 := Five.new w8 54 0 0 0 0 0
  have HX9 := Lib.hid (HX8.out.tr hx')
  clear hx hx'
  obtain ⟨c0, c1, c2, c3, c4⟩ := h4.cells
  obtain ⟨d0, d1, d2, d3, d4⟩ := h9.cells
  clear h4 h6 h9
  go_wp2
  go_ret
  exact ⟨rfl, HX9.out⟩
set_option maxHeartbeats 8000000 in
set_option maxRecDepth 100000 in
theorem dig_3_2 (c n f t a x b y : Int) (hb : I5 c n f t a) (ho : OkC c n f t a) (hx0 : 0 ≤ x) (hx1 : x ≤ 255) (h : x.tmod 5 = 3) (hz : (b == 0) = false) (hy : IntKind.i64.wrap (t + b) = y) (hne : (y == t) = false) (hb2 : I5 c n f y a) (q : Nat) (hq : ((q : Int) == 0) = false) (hp : parseC (bs (textC c n f y a)) = ((0, 0, 0, 0, 0), q)) (w : World) (hr : RngOk w) (ht : TabOk w) :
    Calls Tryz.prog 13 #[cV c n f t a, .int .u8 x, .int .i64 b] w fun e w' => e = .returned (.bool true) ∧ Ext w w' := by
  have HK := Lib.hid (fun W (hx : Ext w W) => known9_calls W (hr.ext hx) (ht.all _ hx))
  have HC := Lib.hid (show ∀ W, Calls Tryz.prog 39 #[cV c n f t a] W fun e w' => e = .returned (.int .i64 0) ∧ Ext W w' from fun W => by
    have hh := ccheck_calls c n f t a W
    rwa [codeC_zero ho] at hh)
  have HD := Lib.hid (fun W (hx : Ext w W) => cdig_calls c n f t a hb W (ht.all _ hx))
  have HN := Lib.hid (fun W (A : Option Addr) (cp : Nat) (hA : Rd W A (cI64s [c, n, f, t, a])) (hx : Ext w W) => show Calls Tryz.prog 21 #[.slice A 5 cp] W fun e w' => e = .returned (.string (textC c n f t a)) ∧ Ext W w' from nums_calls [c, n, f, t, a] hb.all A cp W hA (by show 5 ≤ _; decide) (ht.all _ hx))
  have hl := textC_len hb
  have HOF := Lib.hid (show ∀ W, Calls Tryz.prog 46 #[.string tagC, .string (textC c n f t a)] W fun e w' => e = .returned (cU64 (digC c n f t a)) ∧ Ext W w' from fun W => of_calls tagC (textC c n f t a) (by decide) (by omega) W)
  have HTX := Lib.hid (fun W (hx : Ext w W) => ctext_calls c n f y a hb2 W (ht.all _ hx))
  have HN2 := Lib.hid (fun W (A : Option Addr) (cp : Nat) (hA : Rd W A (cI64s [c, n, f, y, a])) (hx : Ext w W) => show Calls Tryz.prog 21 #[.slice A 5 cp] W fun e w' => e = .returned (.string (textC c n f y a)) ∧ Ext W w' from nums_calls [c, n, f, y, a] hb2.all A cp W hA (by show 5 ≤ _; decide) (ht.all _ hx))
  have hsz := textC_len hb2
  have HP := Lib.hid (show ∀ W, Ext w W → Calls Tryz.prog 37 #[.string (textC c n f y a)] W fun e w' => ParseCEnd ((0, 0, 0, 0, 0), q) e ∧ Ext W w' from fun W hx => by
    have hh := cparse_calls (textC c n f y a) (by rw [show (textC c n f y a).size = (textC c n f y a).data.toList.length from rfl]; omega) W (hr.ext hx)
    rwa [hp] at hh)
  have hne2 := bne_f hne
  have hz2 := bne_f hz
  have hq2 := bne_f hq
  clear hl hsz hr ht hb ho hb2 hp
  generalize digC c n f t a = D at *
  have h5 : x % 5 = 3 := by rw [← Int.tmod_eq_emod_of_nonneg hx0]; exact h
  go_enter Tryz.func13, Tryz.ntmps13
  go_wp2_with fail
  have HX0 := Lib.hid ((Ext.rfl' w).alloc (.cells #[.int .i64 c, .int .i64 n, .int .i64 f, .int .i64 t, .int .i64 a] 54))
  have H3 := Lib.hid (Five.new w 54 c n f t a)
  generalize w.alloc (.cells #[.int .i64 c, .int .i64 n, .int .i64 f, .int .i64 t, .int .i64 a] 54) = W0 at *
  refine (HK.out _ HX0.out).mono ?_
  rintro e w1 ⟨rfl, hx⟩
  have h3 := H3.out.ext hx
  have HX1 := Lib.hid (HX0.out.tr hx)
  clear H3 hx
  obtain ⟨c0, c1, c2, c3, c4⟩ := h3.cells
  have H3 := Lib.hid h3
  clear h3
  go_wp2_with fail
  refine (HC.out _).mono ?_
  rintro e w2 ⟨rfl, hx⟩
  have h3 := H3.out.ext hx
  have HX2 := Lib.hid (HX1.out.tr hx)
  clear H3 hx c0 c1 c2 c3 c4
  obtain ⟨c0, c1, c2, c3, c4⟩ := h3.cells
  have H3 := Lib.hid h3
  have h4 := h3.ext ((Ext.rfl' w2).alloc (.cells #[.int .i64 c, .int .i64 n, .int .i64 f, .int .i64 t, .int .i64 a] 2))
  have HX3 := Lib.hid (HX2.out.alloc (.cells #[.int .i64 c, .int .i64 n, .int .i64 f, .int .i64 t, .int .i64 a] 2))
  have h6 := Five.new w2 2 c n f t a
  obtain ⟨d0, d1, d2, d3, d4⟩ := h4.cells
  clear h3
  have hlt := h4.lt
  have H4 := Lib.hid h4
  have H6 := Lib.hid h6
  clear h4 h6
  go_wp2_with fail
  refine (HD.out _ HX3.out).mono ?_
  rintro e w3 ⟨rfl, hx⟩
  have h4 := H4.out.ext hx
  have h6 := H6.out.ext hx
  have HX4 := Lib.hid (HX3.out.tr hx)
  clear hx H4 H6 c0 c1 c2 c3 c4 d0 d1 d2 d3 d4 hlt
  have hB : w.heap.size < w2.heap.size := H3.out.lt
  have hNe : w.heap.size ≠ w2.heap.size := by omega
  generalize w2.heap.size = B at *
  go_wp2_with fail
  refine (HN.out _ _ _ (five_rd h6) HX4.out).mono ?_
  rintro e w4 ⟨rfl, hx⟩
  have h4 := h4.ext hx
  have h6 := h6.ext hx
  have HX5 := Lib.hid (HX4.out.tr hx)
  clear hx
  go_wp2_with fail
  refine (HOF.out _).mono ?_
  rintro e w5 ⟨rfl, hx⟩
  have h4 := h4.ext hx
  have h6 := h6.ext hx
  have HX6 := Lib.hid (HX5.out.tr hx)
  clear hx
  obtain ⟨e0, e1, e2, e3, e4⟩ := h6.cells
  have f3 := h6.frozen 3
  have H4 := Lib.hid h4
  have H6 := Lib.hid h6
  clear h4 h6
  go_wp2_with fail
  have h6 := five_at3 H6.out y
  have h4 : Five (w5.setCell ⟨B, 3, none⟩ (.int .i64 y)) w.heap.size 54 c n f t a := five_off H4.out hNe
  have HX7 := Lib.hid (show Ext w (w5.setCell ⟨B, 3, none⟩ (.int .i64 y)) from Below.setCell HX6.out (by show w.heap.size ≤ B; omega) _)
  clear H4 H6 e0 e1 e2 e3 e4 f3
  generalize w5.setCell ⟨B, 3, none⟩ (.int .i64 y) = w6 at *
  refine (HN2.out _ _ _ (five_rd h6) HX7.out).mono ?_
  rintro e w7 ⟨rfl, hx⟩
  have h4 := h4.ext hx
  have h6 := h6.ext hx
  have HX8 := Lib.hid (HX7.out.tr hx)
  clear hx
  go_wp2_with fail
  refine (HP.out _ HX8.out).mono ?_
  rintro e w8 ⟨he, hx⟩
  obtain rfl : e = .returned (.tuple #[cV 0 0 0 0 0, .int .i64 (q : Int)]) := he
  have hx' := hx.alloc (.cells #[.int .i64 0, .int .i64 0, .int .i64 0, .int .i64 0, .int .i64 0] 54)
  have h4 := h4.ext hx'
  have h6 := h6.ext hx'
  have h9 := Five.new w8 54 0 0 0 0 0
  have HX9 := Lib.hid (HX8.out.tr hx')
  clear hx hx'
  obtain ⟨c0, c1, c2, c3, c4⟩ := h4.cells
  obtain ⟨d0, d1, d2, d3, d4⟩ := h9.cells
  clear h4 h6 h9
  go_wp2
  go_ret
  exact ⟨rfl, HX9.out⟩
set_option maxHeartbeats 8000000 in
set_option maxRecDepth 100000 in
theorem dig_4_2 (c n f t a x b y : Int) (hb : I5 c n f t a) (ho : OkC c n f t a) (hx0 : 0 ≤ x) (hx1 : x ≤ 255) (h : x.tmod 5 = 4) (hz : (b == 0) = false) (hy : IntKind.i64.wrap (a + b) = y) (hne : (y == a) = false) (hb2 : I5 c n f t y) (q : Nat) (hq : ((q : Int) == 0) = false) (hp : parseC (bs (textC c n f t y)) = ((0, 0, 0, 0, 0), q)) (w : World) (hr : RngOk w) (ht : TabOk w) :
    Calls Tryz.prog 13 #[cV c n f t a, .int .u8 x, .int .i64 b] w fun e w' => e = .returned (.bool true) ∧ Ext w w' := by
  have HK := Lib.hid (fun W (hx : Ext w W) => known9_calls W (hr.ext hx) (ht.all _ hx))
  have HC := Lib.hid (show ∀ W, Calls Tryz.prog 39 #[cV c n f t a] W fun e w' => e = .returned (.int .i64 0) ∧ Ext W w' from fun W => by
    have hh := ccheck_calls c n f t a W
    rwa [codeC_zero ho] at hh)
  have HD := Lib.hid (fun W (hx : Ext w W) => cdig_calls c n f t a hb W (ht.all _ hx))
  have HN := Lib.hid (fun W (A : Option Addr) (cp : Nat) (hA : Rd W A (cI64s [c, n, f, t, a])) (hx : Ext w W) => show Calls Tryz.prog 21 #[.slice A 5 cp] W fun e w' => e = .returned (.string (textC c n f t a)) ∧ Ext W w' from nums_calls [c, n, f, t, a] hb.all A cp W hA (by show 5 ≤ _; decide) (ht.all _ hx))
  have hl := textC_len hb
  have HOF := Lib.hid (show ∀ W, Calls Tryz.prog 46 #[.string tagC, .string (textC c n f t a)] W fun e w' => e = .returned (cU64 (digC c n f t a)) ∧ Ext W w' from fun W => of_calls tagC (textC c n f t a) (by decide) (by omega) W)
  have HTX := Lib.hid (fun W (hx : Ext w W) => ctext_calls c n f t y hb2 W (ht.all _ hx))
  have HN2 := Lib.hid (fun W (A : Option Addr) (cp : Nat) (hA : Rd W A (cI64s [c, n, f, t, y])) (hx : Ext w W) => show Calls Tryz.prog 21 #[.slice A 5 cp] W fun e w' => e = .returned (.string (textC c n f t y)) ∧ Ext W w' from nums_calls [c, n, f, t, y] hb2.all A cp W hA (by show 5 ≤ _; decide) (ht.all _ hx))
  have hsz := textC_len hb2
  have HP := Lib.hid (show ∀ W, Ext w W → Calls Tryz.prog 37 #[.string (textC c n f t y)] W fun e w' => ParseCEnd ((0, 0, 0, 0, 0), q) e ∧ Ext W w' from fun W hx => by
    have hh := cparse_calls (textC c n f t y) (by rw [show (textC c n f t y).size = (textC c n f t y).data.toList.length from rfl]; omega) W (hr.ext hx)
    rwa [hp] at hh)
  have hne2 := bne_f hne
  have hz2 := bne_f hz
  have hq2 := bne_f hq
  clear hl hsz hr ht hb ho hb2 hp
  generalize digC c n f t a = D at *
  have h5 : x % 5 = 4 := by rw [← Int.tmod_eq_emod_of_nonneg hx0]; exact h
  go_enter Tryz.func13, Tryz.ntmps13
  go_wp2_with fail
  have HX0 := Lib.hid ((Ext.rfl' w).alloc (.cells #[.int .i64 c, .int .i64 n, .int .i64 f, .int .i64 t, .int .i64 a] 54))
  have H3 := Lib.hid (Five.new w 54 c n f t a)
  generalize w.alloc (.cells #[.int .i64 c, .int .i64 n, .int .i64 f, .int .i64 t, .int .i64 a] 54) = W0 at *
  refine (HK.out _ HX0.out).mono ?_
  rintro e w1 ⟨rfl, hx⟩
  have h3 := H3.out.ext hx
  have HX1 := Lib.hid (HX0.out.tr hx)
  clear H3 hx
  obtain ⟨c0, c1, c2, c3, c4⟩ := h3.cells
  have H3 := Lib.hid h3
  clear h3
  go_wp2_with fail
  refine (HC.out _).mono ?_
  rintro e w2 ⟨rfl, hx⟩
  have h3 := H3.out.ext hx
  have HX2 := Lib.hid (HX1.out.tr hx)
  clear H3 hx c0 c1 c2 c3 c4
  obtain ⟨c0, c1, c2, c3, c4⟩ := h3.cells
  have H3 := Lib.hid h3
  have h4 := h3.ext ((Ext.rfl' w2).alloc (.cells #[.int .i64 c, .int .i64 n, .int .i64 f, .int .i64 t, .int .i64 a] 2))
  have HX3 := Lib.hid (HX2.out.alloc (.cells #[.int .i64 c, .int .i64 n, .int .i64 f, .int .i64 t, .int .i64 a] 2))
  have h6 := Five.new w2 2 c n f t a
  obtain ⟨d0, d1, d2, d3, d4⟩ := h4.cells
  clear h3
  have hlt := h4.lt
  have H4 := Lib.hid h4
  have H6 := Lib.hid h6
  clear h4 h6
  go_wp2_with fail
  refine (HD.out _ HX3.out).mono ?_
  rintro e w3 ⟨rfl, hx⟩
  have h4 := H4.out.ext hx
  have h6 := H6.out.ext hx
  have HX4 := Lib.hid (HX3.out.tr hx)
  clear hx H4 H6 c0 c1 c2 c3 c4 d0 d1 d2 d3 d4 hlt
  have hB : w.heap.size < w2.heap.size := H3.out.lt
  have hNe : w.heap.size ≠ w2.heap.size := by omega
  generalize w2.heap.size = B at *
  go_wp2_with fail
  refine (HN.out _ _ _ (five_rd h6) HX4.out).mono ?_
  rintro e w4 ⟨rfl, hx⟩
  have h4 := h4.ext hx
  have h6 := h6.ext hx
  have HX5 := Lib.hid (HX4.out.tr hx)
  clear hx
  go_wp2_with fail
  refine (HOF.out _).mono ?_
  rintro e w5 ⟨rfl, hx⟩
  have h4 := h4.ext hx
  have h6 := h6.ext hx
  have HX6 := Lib.hid (HX5.out.tr hx)
  clear hx
  obtain ⟨e0, e1, e2, e3, e4⟩ := h6.cells
  have f4 := h6.frozen 4
  have H4 := Lib.hid h4
  have H6 := Lib.hid h6
  clear h4 h6
  go_wp2_with fail
  have h6 := five_at4 H6.out y
  have h4 : Five (w5.setCell ⟨B, 4, none⟩ (.int .i64 y)) w.heap.size 54 c n f t a := five_off H4.out hNe
  have HX7 := Lib.hid (show Ext w (w5.setCell ⟨B, 4, none⟩ (.int .i64 y)) from Below.setCell HX6.out (by show w.heap.size ≤ B; omega) _)
  clear H4 H6 e0 e1 e2 e3 e4 f4
  generalize w5.setCell ⟨B, 4, none⟩ (.int .i64 y) = w6 at *
  refine (HN2.out _ _ _ (five_rd h6) HX7.out).mono ?_
  rintro e w7 ⟨rfl, hx⟩
  have h4 := h4.ext hx
  have h6 := h6.ext hx
  have HX8 := Lib.hid (HX7.out.tr hx)
  clear hx
  go_wp2_with fail
  refine (HP.out _ HX8.out).mono ?_
  rintro e w8 ⟨he, hx⟩
  obtain rfl : e = .returned (.tuple #[cV 0 0 0 0 0, .int .i64 (q : Int)]) := he
  have hx' := hx.alloc (.cells #[.int .i64 0, .int .i64 0, .int .i64 0, .int .i64 0, .int .i64 0] 54)
  have h4 := h4.ext hx'
  have h6 := h6.ext hx'
  have h9 := Five.new w8 54 0 0 0 0 0
  have HX9 := Lib.hid (HX8.out.tr hx')
  clear hx hx'
  obtain ⟨c0, c1, c2, c3, c4⟩ := h4.cells
  obtain ⟨d0, d1, d2, d3, d4⟩ := h9.cells
  clear h4 h6 h9
  go_wp2
  go_ret
  exact ⟨rfl, HX9.out⟩
end Go.Proofs.YtgomondmogpkeaaGreatDoor
