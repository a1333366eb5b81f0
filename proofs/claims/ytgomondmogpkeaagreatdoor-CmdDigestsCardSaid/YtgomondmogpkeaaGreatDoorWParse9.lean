/- The walk of cmd.Parse. -/
import Derived.Test.YtgomondmogpkeaaGreatDoorWPar9
set_option linter.unusedVariables false
namespace Go.Proofs.YtgomondmogpkeaaGreatDoor
open Go.RowKit Go.Sort
theorem rd_one {w : World} {ad : Addr} {xs : List Value} (h : Rd w (some ad) xs) {j : Nat} {u : Value} (hj : xs[j]? = some u) : w.cell? (ad.add j) = some u := by
  obtain ⟨ad', e, _, hc⟩ := h.at_ (j := j) (u := u) hj
  cases e
  exact hc
set_option maxHeartbeats 4000000 in
set_option maxRecDepth 100000 in
theorem cparse_calls (s : ByteArray) (hs : s.size ≤ 1099511627776) (w : World) (hr : RngOk w) :
    Calls Tryz.prog 37 #[.string s] w fun e w' => ParseCEnd (parseC (bs s)) e ∧ Ext w w' := by
  have hE0 : Ext w (w.alloc (.cells #[.int .i64 0, .int .i64 0, .int .i64 0, .int .i64 0, .int .i64 0] 54)) := (Below.refl _ w).alloc (Nat.le_refl _) _
  have HP := Lib.hid (fun w hr => pnums_callsC s hs w hr)
  have HR := Lib.hid (hr.ext hE0)
  have HE0 := Lib.hid hE0
  have H5 := Lib.hid (Five.new w 54 0 0 0 0 0)
  clear hr hE0
  cases hp : J.pnums (bs s) with
  | error k =>
    have HC := Lib.hid (show parseC (bs s) = ((0, 0, 0, 0, 0), k) by rw [parseC, hp])
    have hk : ((k : Int) == 0) = false := by
      rcases pnums_cases (bs s) with ⟨n, hn, hn0⟩ | ⟨a, ha⟩
      · rw [hp] at hn; cases hn; exact hn0
      · rw [hp] at ha; cases ha
    have hk1 := bne_f hk
    rw [hp] at HP
    clear hp
    go_enter Tryz.func37, Tryz.ntmps37
    go_wp2_with fail
    refine (HP.out _ HR.out).mono ?_
    rintro e w1 ⟨he, hx⟩
    obtain rfl : e = .returned (.tuple #[.slice none 0 0, .int .i64 (k : Int)]) := he
    have h5 := H5.out.ext hx
    obtain ⟨c0, c1, c2, c3, c4⟩ := h5.cells
    have f0 := h5.frozen 0
    have f1 := h5.frozen 1
    have f2 := h5.frozen 2
    have f3 := h5.frozen 3
    have f4 := h5.frozen 4
    have H51 := Lib.hid (h5.set 0 0 0 0 0)
    have HX := Lib.hid ((HE0.out.tr hx).set5 (Nat.le_refl _) 0 0 0 0 0)
    clear hx h5
    go_wp2
    exact cparse_ret H51.out rfl rfl ⟨by rw [HC.out]; rfl, HX.out⟩
  | ok l =>
    rw [hp] at HP
    by_cases h5 : l.length = 5
    · obtain ⟨c, n, f, t, a, rfl⟩ : ∃ c n f t a, l = [c, n, f, t, a] := by
        match l, h5 with
        | [c, n, f, t, a], _ => exact ⟨c, n, f, t, a, rfl⟩
      have hcs : (smallB c = false ∧ parseC (bs s) = ((0, 0, 0, 0, 0), 2)) ∨ (smallB c = true ∧ smallB n = false ∧ parseC (bs s) = ((0, 0, 0, 0, 0), 2)) ∨ (smallB c = true ∧ smallB n = true ∧ smallB f = false ∧ parseC (bs s) = ((0, 0, 0, 0, 0), 2)) ∨
          (smallB c = true ∧ smallB n = true ∧ smallB f = true ∧ smallB t = false ∧ parseC (bs s) = ((0, 0, 0, 0, 0), 2)) ∨ (smallB c = true ∧ smallB n = true ∧ smallB f = true ∧ smallB t = true ∧ codeC c n f t a = 1 ∧ parseC (bs s) = ((0, 0, 0, 0, 0), 1)) ∨
          (smallB c = true ∧ smallB n = true ∧ smallB f = true ∧ smallB t = true ∧ codeC c n f t a = 0 ∧ parseC (bs s) = ((c, n, f, t, a), 0)) := by
        simp only [parseC, hp, codeC]
        cases smallB c <;> cases smallB n <;> cases smallB f <;> cases smallB t <;> cases okC c n f t a <;> simp
      have HW := Lib.hid (fun (m : Int) (b : Bool) (hm : smallB m = b) (W : World) => show Calls Tryz.prog 58 #[.int .i64 m, .int .i64 (-2147483648), .int .i64 2147483647] W fun e w' => e = .returned (.bool b) ∧ W = w' from by subst hm; exact win64_calls m _ _ W)
      clear hp h5
      rcases hcs with ⟨h1, hc⟩ | ⟨h1, h2, hc⟩ | ⟨h1, h2, h3, hc⟩ | ⟨h1, h2, h3, h4, hc⟩ | ⟨h1, h2, h3, h4, hk, hc⟩ | ⟨h1, h2, h3, h4, hk, hc⟩
      · have HC := Lib.hid hc
        have HW0 := Lib.hid (HW.out c _ h1)
        clear hc h1
        go_enter Tryz.func37, Tryz.ntmps37
        go_wp2_with fail
        refine (HP.out _ HR.out).mono ?_
        rintro e w1 ⟨he, hx⟩
        obtain ⟨A, cp, rfl, hA, hcp⟩ := he
        have hcp5 : 5 ≤ cp := hcp
        have h5 := H5.out.ext hx
        have f0 := h5.frozen 0
        have f1 := h5.frozen 1
        have f2 := h5.frozen 2
        have f3 := h5.frozen 3
        have f4 := h5.frozen 4
        obtain ⟨ad, rfl, had, q0⟩ := hA.at_ (j := 0) (u := .int .i64 c) rfl
        have q1 := (rd_one hA (j := 1) (u := .int .i64 n) rfl)
        have q2 := (rd_one hA (j := 2) (u := .int .i64 f) rfl)
        have q3 := (rd_one hA (j := 3) (u := .int .i64 t) rfl)
        have q4 := (rd_one hA (j := 4) (u := .int .i64 a) rfl)
        have p0 : w1.cell? ad = some (.int .i64 c) := q0
        have p1 : w1.cell? ⟨ad.block, ad.off + 1, none⟩ = some (.int .i64 n) := q1
        have p2 : w1.cell? ⟨ad.block, ad.off + 2, none⟩ = some (.int .i64 f) := q2
        have p3 : w1.cell? ⟨ad.block, ad.off + 3, none⟩ = some (.int .i64 t) := q3
        have p4 : w1.cell? ⟨ad.block, ad.off + 4, none⟩ = some (.int .i64 a) := q4
        obtain ⟨c0, c1, c2, c3, c4⟩ := h5.cells
        have H51 := Lib.hid (h5.set 0 0 0 0 0)
        have HX := Lib.hid ((HE0.out.tr hx).set5 (Nat.le_refl _) 0 0 0 0 0)
        clear hx h5 hA hcp
        go_wp2_with fail
        refine wp_loop_rounds 5 ?_
        rw [rounds_succ]
        go_wp2_with fail
        refine (HW0.out _).mono ?_
        rintro e w2 ⟨rfl, rfl⟩
        go_wp2
        exact cparse_ret H51.out rfl rfl ⟨by rw [HC.out]; rfl, HX.out⟩
      · have HC := Lib.hid hc
        have HW0 := Lib.hid (HW.out c _ h1)
        have HW1 := Lib.hid (HW.out n _ h2)
        clear hc h1 h2
        go_enter Tryz.func37, Tryz.ntmps37
        go_wp2_with fail
        refine (HP.out _ HR.out).mono ?_
        rintro e w1 ⟨he, hx⟩
        obtain ⟨A, cp, rfl, hA, hcp⟩ := he
        have hcp5 : 5 ≤ cp := hcp
        have h5 := H5.out.ext hx
        have f0 := h5.frozen 0
        have f1 := h5.frozen 1
        have f2 := h5.frozen 2
        have f3 := h5.frozen 3
        have f4 := h5.frozen 4
        obtain ⟨ad, rfl, had, q0⟩ := hA.at_ (j := 0) (u := .int .i64 c) rfl
        have q1 := (rd_one hA (j := 1) (u := .int .i64 n) rfl)
        have q2 := (rd_one hA (j := 2) (u := .int .i64 f) rfl)
        have q3 := (rd_one hA (j := 3) (u := .int .i64 t) rfl)
        have q4 := (rd_one hA (j := 4) (u := .int .i64 a) rfl)
        have p0 : w1.cell? ad = some (.int .i64 c) := q0
        have p1 : w1.cell? ⟨ad.block, ad.off + 1, none⟩ = some (.int .i64 n) := q1
        have p2 : w1.cell? ⟨ad.block, ad.off + 2, none⟩ = some (.int .i64 f) := q2
        have p3 : w1.cell? ⟨ad.block, ad.off + 3, none⟩ = some (.int .i64 t) := q3
        have p4 : w1.cell? ⟨ad.block, ad.off + 4, none⟩ = some (.int .i64 a) := q4
        obtain ⟨c0, c1, c2, c3, c4⟩ := h5.cells
        have H51 := Lib.hid (h5.set 0 0 0 0 0)
        have HX := Lib.hid ((HE0.out.tr hx).set5 (Nat.le_refl _) 0 0 0 0 0)
        clear hx h5 hA hcp
        go_wp2_with fail
        refine wp_loop_rounds 5 ?_
        rw [rounds_succ]
        go_wp2_with fail
        refine (HW0.out _).mono ?_
        rintro e w2 ⟨rfl, rfl⟩
        go_wp2_with fail
        rw [rounds_succ]
        go_wp2_with fail
        refine (HW1.out _).mono ?_
        rintro e w2 ⟨rfl, rfl⟩
        go_wp2
        exact cparse_ret H51.out rfl rfl ⟨by rw [HC.out]; rfl, HX.out⟩
      · have HC := Lib.hid hc
        have HW0 := Lib.hid (HW.out c _ h1)
        have HW1 := Lib.hid (HW.out n _ h2)
        have HW2 := Lib.hid (HW.out f _ h3)
        clear hc h1 h2 h3
        go_enter Tryz.func37, Tryz.ntmps37
        go_wp2_with fail
        refine (HP.out _ HR.out).mono ?_
        rintro e w1 ⟨he, hx⟩
        obtain ⟨A, cp, rfl, hA, hcp⟩ := he
        have hcp5 : 5 ≤ cp := hcp
        have h5 := H5.out.ext hx
        have f0 := h5.frozen 0
        have f1 := h5.frozen 1
        have f2 := h5.frozen 2
        have f3 := h5.frozen 3
        have f4 := h5.frozen 4
        obtain ⟨ad, rfl, had, q0⟩ := hA.at_ (j := 0) (u := .int .i64 c) rfl
        have q1 := (rd_one hA (j := 1) (u := .int .i64 n) rfl)
        have q2 := (rd_one hA (j := 2) (u := .int .i64 f) rfl)
        have q3 := (rd_one hA (j := 3) (u := .int .i64 t) rfl)
        have q4 := (rd_one hA (j := 4) (u := .int .i64 a) rfl)
        have p0 : w1.cell? ad = some (.int .i64 c) := q0
        have p1 : w1.cell? ⟨ad.block, ad.off + 1, none⟩ = some (.int .i64 n) := q1
        have p2 : w1.cell? ⟨ad.block, ad.off + 2, none⟩ = some (.int .i64 f) := q2
        have p3 : w1.cell? ⟨ad.block, ad.off + 3, none⟩ = some (.int .i64 t) := q3
        have p4 : w1.cell? ⟨ad.block, ad.off + 4, none⟩ = some (.int .i64 a) := q4
        obtain ⟨c0, c1, c2, c3, c4⟩ := h5.cells
        have H51 := Lib.hid (h5.set 0 0 0 0 0)
        have HX := Lib.hid ((HE0.out.tr hx).set5 (Nat.le_refl _) 0 0 0 0 0)
        clear hx h5 hA hcp
        go_wp2_with fail
        refine wp_loop_rounds 5 ?_
        rw [rounds_succ]
        go_wp2_with fail
        refine (HW0.out _).mono ?_
        rintro e w2 ⟨rfl, rfl⟩
        go_wp2_with fail
        rw [rounds_succ]
        go_wp2_with fail
        refine (HW1.out _).mono ?_
        rintro e w2 ⟨rfl, rfl⟩
        go_wp2_with fail
        rw [rounds_succ]
        go_wp2_with fail
        refine (HW2.out _).mono ?_
        rintro e w2 ⟨rfl, rfl⟩
        go_wp2
        exact cparse_ret H51.out rfl rfl ⟨by rw [HC.out]; rfl, HX.out⟩
      · have HC := Lib.hid hc
        have HW0 := Lib.hid (HW.out c _ h1)
        have HW1 := Lib.hid (HW.out n _ h2)
        have HW2 := Lib.hid (HW.out f _ h3)
        have HW3 := Lib.hid (HW.out t _ h4)
        clear hc h1 h2 h3 h4
        go_enter Tryz.func37, Tryz.ntmps37
        go_wp2_with fail
        refine (HP.out _ HR.out).mono ?_
        rintro e w1 ⟨he, hx⟩
        obtain ⟨A, cp, rfl, hA, hcp⟩ := he
        have hcp5 : 5 ≤ cp := hcp
        have h5 := H5.out.ext hx
        have f0 := h5.frozen 0
        have f1 := h5.frozen 1
        have f2 := h5.frozen 2
        have f3 := h5.frozen 3
        have f4 := h5.frozen 4
        obtain ⟨ad, rfl, had, q0⟩ := hA.at_ (j := 0) (u := .int .i64 c) rfl
        have q1 := (rd_one hA (j := 1) (u := .int .i64 n) rfl)
        have q2 := (rd_one hA (j := 2) (u := .int .i64 f) rfl)
        have q3 := (rd_one hA (j := 3) (u := .int .i64 t) rfl)
        have q4 := (rd_one hA (j := 4) (u := .int .i64 a) rfl)
        have p0 : w1.cell? ad = some (.int .i64 c) := q0
        have p1 : w1.cell? ⟨ad.block, ad.off + 1, none⟩ = some (.int .i64 n) := q1
        have p2 : w1.cell? ⟨ad.block, ad.off + 2, none⟩ = some (.int .i64 f) := q2
        have p3 : w1.cell? ⟨ad.block, ad.off + 3, none⟩ = some (.int .i64 t) := q3
        have p4 : w1.cell? ⟨ad.block, ad.off + 4, none⟩ = some (.int .i64 a) := q4
        obtain ⟨c0, c1, c2, c3, c4⟩ := h5.cells
        have H51 := Lib.hid (h5.set 0 0 0 0 0)
        have HX := Lib.hid ((HE0.out.tr hx).set5 (Nat.le_refl _) 0 0 0 0 0)
        clear hx h5 hA hcp
        go_wp2_with fail
        refine wp_loop_rounds 5 ?_
        rw [rounds_succ]
        go_wp2_with fail
        refine (HW0.out _).mono ?_
        rintro e w2 ⟨rfl, rfl⟩
        go_wp2_with fail
        rw [rounds_succ]
        go_wp2_with fail
        refine (HW1.out _).mono ?_
        rintro e w2 ⟨rfl, rfl⟩
        go_wp2_with fail
        rw [rounds_succ]
        go_wp2_with fail
        refine (HW2.out _).mono ?_
        rintro e w2 ⟨rfl, rfl⟩
        go_wp2_with fail
        rw [rounds_succ]
        go_wp2_with fail
        refine (HW3.out _).mono ?_
        rintro e w2 ⟨rfl, rfl⟩
        go_wp2
        exact cparse_ret H51.out rfl rfl ⟨by rw [HC.out]; rfl, HX.out⟩
      · have HC := Lib.hid hc
        have HW0 := Lib.hid (HW.out c _ h1)
        have HW1 := Lib.hid (HW.out n _ h2)
        have HW2 := Lib.hid (HW.out f _ h3)
        have HW3 := Lib.hid (HW.out t _ h4)
        clear hc h1 h2 h3 h4
        have HK := Lib.hid (show ∀ W, Calls Tryz.prog 39 #[cV c n f t a] W fun e w' => e = .returned (.int .i64 1) ∧ Ext W w' from fun W => by rw [← hk]; exact ccheck_calls c n f t a W)
        clear hk
        go_enter Tryz.func37, Tryz.ntmps37
        go_wp2_with fail
        refine (HP.out _ HR.out).mono ?_
        rintro e w1 ⟨he, hx⟩
        obtain ⟨A, cp, rfl, hA, hcp⟩ := he
        have hcp5 : 5 ≤ cp := hcp
        have h5 := H5.out.ext hx
        have f0 := h5.frozen 0
        have f1 := h5.frozen 1
        have f2 := h5.frozen 2
        have f3 := h5.frozen 3
        have f4 := h5.frozen 4
        obtain ⟨ad, rfl, had, q0⟩ := hA.at_ (j := 0) (u := .int .i64 c) rfl
        have q1 := (rd_one hA (j := 1) (u := .int .i64 n) rfl)
        have q2 := (rd_one hA (j := 2) (u := .int .i64 f) rfl)
        have q3 := (rd_one hA (j := 3) (u := .int .i64 t) rfl)
        have q4 := (rd_one hA (j := 4) (u := .int .i64 a) rfl)
        have p0 : w1.cell? ad = some (.int .i64 c) := q0
        have p1 : w1.cell? ⟨ad.block, ad.off + 1, none⟩ = some (.int .i64 n) := q1
        have p2 : w1.cell? ⟨ad.block, ad.off + 2, none⟩ = some (.int .i64 f) := q2
        have p3 : w1.cell? ⟨ad.block, ad.off + 3, none⟩ = some (.int .i64 t) := q3
        have p4 : w1.cell? ⟨ad.block, ad.off + 4, none⟩ = some (.int .i64 a) := q4
        obtain ⟨c0, c1, c2, c3, c4⟩ := h5.cells
        have H5x := Lib.hid h5
        have HXx := Lib.hid (HE0.out.tr hx)
        clear hx h5 hA hcp
        go_wp2_with fail
        refine wp_loop_rounds 5 ?_
        rw [rounds_succ]
        go_wp2_with fail
        refine (HW0.out _).mono ?_
        rintro e w2 ⟨rfl, rfl⟩
        go_wp2_with fail
        rw [rounds_succ]
        go_wp2_with fail
        refine (HW1.out _).mono ?_
        rintro e w2 ⟨rfl, rfl⟩
        go_wp2_with fail
        rw [rounds_succ]
        go_wp2_with fail
        refine (HW2.out _).mono ?_
        rintro e w2 ⟨rfl, rfl⟩
        go_wp2_with fail
        rw [rounds_succ]
        go_wp2_with fail
        refine (HW3.out _).mono ?_
        rintro e w2 ⟨rfl, rfl⟩
        go_wp2_with fail
        rw [rounds_succ]
        go_wp2_with fail

        have hcell := had
        go_region_held3 (fun w' => w'.cell? ad = some (.int .i64 c) ∧ w'.cell? ⟨ad.block, ad.off + 1, none⟩ = some (.int .i64 n) ∧ w'.cell? ⟨ad.block, ad.off + 2, none⟩ = some (.int .i64 f) ∧ w'.cell? ⟨ad.block, ad.off + 3, none⟩ = some (.int .i64 t) ∧ w'.cell? ⟨ad.block, ad.off + 4, none⟩ = some (.int .i64 a))
          (first | go_keep)
          (fail)
        have h8 : Five (w1.alloc (.cells #[.int .i64 c, .int .i64 n, .int .i64 f, .int .i64 t, .int .i64 a] 54)).drew w1.heap.size 54 c n f t a := Five.new w1 _ c n f t a
        have h5y : Five (w1.alloc (.cells #[.int .i64 c, .int .i64 n, .int .i64 f, .int .i64 t, .int .i64 a] 54)).drew w.heap.size 54 0 0 0 0 0 := H5x.out.ext (Ext.alloc (Ext.rfl' w1) _).drew
        have HX2 := Lib.hid (show Ext w (w1.alloc (.cells #[.int .i64 c, .int .i64 n, .int .i64 f, .int .i64 t, .int .i64 a] 54)).drew from (HXx.out.alloc _).drew)
        clear f0 f1 f2 f3 f4 q1 q2 q3 q4 p0 p1 p2 p3 p4 q0 c0 c1 c2 c3 c4 hcell
        have hne : w.heap.size ≠ w1.heap.size := by have := H5x.out.lt; omega
        generalize (w1.alloc (.cells #[.int .i64 c, .int .i64 n, .int .i64 f, .int .i64 t, .int .i64 a] 54)).drew = w3 at *
        generalize w1.heap.size = B8 at *
        obtain ⟨c0, c1, c2, c3, c4⟩ := h8.cells
        have f0 := h8.frozen 0
        go_wp2_with fail
        refine (HK.out _).mono ?_
        rintro e w4 ⟨rfl, hx4⟩
        have h8 := h8.ext hx4
        have h5 := h5y.ext hx4
        have f0 := h5.frozen 0
        have f1 := h5.frozen 1
        have f2 := h5.frozen 2
        have f3 := h5.frozen 3
        have f4 := h5.frozen 4
        obtain ⟨d0, d1, d2, d3, d4⟩ := h8.cells
        obtain ⟨c0, c1, c2, c3, c4⟩ := h5.cells
        have H51 := Lib.hid (h5.set 0 0 0 0 0)
        have HX := Lib.hid ((HX2.out.tr hx4).set5 (Nat.le_refl _) 0 0 0 0 0)
        clear hx4 h5 h8 h5y
        go_wp2
        exact cparse_ret H51.out rfl rfl ⟨by rw [HC.out]; rfl, HX.out⟩
      · have HC := Lib.hid hc
        have HW0 := Lib.hid (HW.out c _ h1)
        have HW1 := Lib.hid (HW.out n _ h2)
        have HW2 := Lib.hid (HW.out f _ h3)
        have HW3 := Lib.hid (HW.out t _ h4)
        clear hc h1 h2 h3 h4
        have HK := Lib.hid (show ∀ W, Calls Tryz.prog 39 #[cV c n f t a] W fun e w' => e = .returned (.int .i64 0) ∧ Ext W w' from fun W => by rw [← hk]; exact ccheck_calls c n f t a W)
        clear hk
        go_enter Tryz.func37, Tryz.ntmps37
        go_wp2_with fail
        refine (HP.out _ HR.out).mono ?_
        rintro e w1 ⟨he, hx⟩
        obtain ⟨A, cp, rfl, hA, hcp⟩ := he
        have hcp5 : 5 ≤ cp := hcp
        have h5 := H5.out.ext hx
        have f0 := h5.frozen 0
        have f1 := h5.frozen 1
        have f2 := h5.frozen 2
        have f3 := h5.frozen 3
        have f4 := h5.frozen 4
        obtain ⟨ad, rfl, had, q0⟩ := hA.at_ (j := 0) (u := .int .i64 c) rfl
        have q1 := (rd_one hA (j := 1) (u := .int .i64 n) rfl)
        have q2 := (rd_one hA (j := 2) (u := .int .i64 f) rfl)
        have q3 := (rd_one hA (j := 3) (u := .int .i64 t) rfl)
        have q4 := (rd_one hA (j := 4) (u := .int .i64 a) rfl)
        have p0 : w1.cell? ad = some (.int .i64 c) := q0
        have p1 : w1.cell? ⟨ad.block, ad.off + 1, none⟩ = some (.int .i64 n) := q1
        have p2 : w1.cell? ⟨ad.block, ad.off + 2, none⟩ = some (.int .i64 f) := q2
        have p3 : w1.cell? ⟨ad.block, ad.off + 3, none⟩ = some (.int .i64 t) := q3
        have p4 : w1.cell? ⟨ad.block, ad.off + 4, none⟩ = some (.int .i64 a) := q4
        obtain ⟨c0, c1, c2, c3, c4⟩ := h5.cells
        have H5x := Lib.hid h5
        have HXx := Lib.hid (HE0.out.tr hx)
        clear hx h5 hA hcp
        go_wp2_with fail
        refine wp_loop_rounds 5 ?_
        rw [rounds_succ]
        go_wp2_with fail
        refine (HW0.out _).mono ?_
        rintro e w2 ⟨rfl, rfl⟩
        go_wp2_with fail
        rw [rounds_succ]
        go_wp2_with fail
        refine (HW1.out _).mono ?_
        rintro e w2 ⟨rfl, rfl⟩
        go_wp2_with fail
        rw [rounds_succ]
        go_wp2_with fail
        refine (HW2.out _).mono ?_
        rintro e w2 ⟨rfl, rfl⟩
        go_wp2_with fail
        rw [rounds_succ]
        go_wp2_with fail
        refine (HW3.out _).mono ?_
        rintro e w2 ⟨rfl, rfl⟩
        go_wp2_with fail
        rw [rounds_succ]
        go_wp2_with fail

        have hcell := had
        go_region_held3 (fun w' => w'.cell? ad = some (.int .i64 c) ∧ w'.cell? ⟨ad.block, ad.off + 1, none⟩ = some (.int .i64 n) ∧ w'.cell? ⟨ad.block, ad.off + 2, none⟩ = some (.int .i64 f) ∧ w'.cell? ⟨ad.block, ad.off + 3, none⟩ = some (.int .i64 t) ∧ w'.cell? ⟨ad.block, ad.off + 4, none⟩ = some (.int .i64 a))
          (first | go_keep)
          (fail)
        have h8 : Five (w1.alloc (.cells #[.int .i64 c, .int .i64 n, .int .i64 f, .int .i64 t, .int .i64 a] 54)).drew w1.heap.size 54 c n f t a := Five.new w1 _ c n f t a
        have h5y : Five (w1.alloc (.cells #[.int .i64 c, .int .i64 n, .int .i64 f, .int .i64 t, .int .i64 a] 54)).drew w.heap.size 54 0 0 0 0 0 := H5x.out.ext (Ext.alloc (Ext.rfl' w1) _).drew
        have HX2 := Lib.hid (show Ext w (w1.alloc (.cells #[.int .i64 c, .int .i64 n, .int .i64 f, .int .i64 t, .int .i64 a] 54)).drew from (HXx.out.alloc _).drew)
        clear f0 f1 f2 f3 f4 q1 q2 q3 q4 p0 p1 p2 p3 p4 q0 c0 c1 c2 c3 c4 hcell
        have hne : w.heap.size ≠ w1.heap.size := by have := H5x.out.lt; omega
        generalize (w1.alloc (.cells #[.int .i64 c, .int .i64 n, .int .i64 f, .int .i64 t, .int .i64 a] 54)).drew = w3 at *
        generalize w1.heap.size = B8 at *
        obtain ⟨c0, c1, c2, c3, c4⟩ := h8.cells
        have f0 := h8.frozen 0
        go_wp2_with fail
        refine (HK.out _).mono ?_
        rintro e w4 ⟨rfl, hx4⟩
        have h8 := h8.ext hx4
        have h5 := h5y.ext hx4
        have f0 := h5.frozen 0
        have f1 := h5.frozen 1
        have f2 := h5.frozen 2
        have f3 := h5.frozen 3
        have f4 := h5.frozen 4
        obtain ⟨d0, d1, d2, d3, d4⟩ := h8.cells
        obtain ⟨c0, c1, c2, c3, c4⟩ := h5.cells
        have H51 := Lib.hid (h5.set c n f t a)
        have HX := Lib.hid ((HX2.out.tr hx4).set5 (Nat.le_refl _) c n f t a)
        clear hx4 h5 h8 h5y
        go_wp2
        exact cparse_ret H51.out rfl rfl ⟨by rw [HC.out]; rfl, HX.out⟩
    · have HC := Lib.hid (show parseC (bs s) = ((0, 0, 0, 0, 0), 2) by
        rw [parseC, hp]
        match l, h5 with
        | [], _ => rfl
        | [_], _ => rfl
        | [_, _], _ => rfl
        | [_, _, _], _ => rfl
        | [_, _, _, _], _ => rfl
        | _ :: _ :: _ :: _ :: _ :: _ :: _, _ => rfl)
      have hl1 : (((l.length : Nat) : Int) == 5) = false := by simp; omega
      have hl2 := bne_f hl1
      clear hp h5
      go_enter Tryz.func37, Tryz.ntmps37
      go_wp2_with fail
      refine (HP.out _ HR.out).mono ?_
      rintro e w1 ⟨he, hx⟩
      obtain ⟨A, cp, rfl, hA, hcp⟩ := he
      have h5 := H5.out.ext hx
      obtain ⟨c0, c1, c2, c3, c4⟩ := h5.cells
      have f0 := h5.frozen 0
      have f1 := h5.frozen 1
      have f2 := h5.frozen 2
      have f3 := h5.frozen 3
      have f4 := h5.frozen 4
      have H51 := Lib.hid (h5.set 0 0 0 0 0)
      have HX := Lib.hid ((HE0.out.tr hx).set5 (Nat.le_refl _) 0 0 0 0 0)
      clear hx h5 hA hcp
      go_wp2
      exact cparse_ret H51.out rfl rfl ⟨by rw [HC.out]; rfl, HX.out⟩
end Go.Proofs.YtgomondmogpkeaaGreatDoor
