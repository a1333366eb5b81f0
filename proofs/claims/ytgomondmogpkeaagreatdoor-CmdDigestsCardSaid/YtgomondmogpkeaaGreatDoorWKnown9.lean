/- known() of the laws of commands. -/
import Derived.Test.YtgomondmogpkeaaGreatDoorWParse9
set_option linter.unusedVariables false
namespace Go.Proofs.YtgomondmogpkeaaGreatDoor
open Go.RowKit Go.Sort
abbrev w5 : ByteArray := ⟨#[49, 44, 48, 44, 50, 44, 51, 44, 53, 48]⟩
theorem k_parse (s : ByteArray) (hs : s.size ≤ 1099511627776) (c n f t a : Int) (k : Nat) (h : parseC (bs s) = ((c, n, f, t, a), k)) (w : World) (hr : RngOk w) :
    Calls Tryz.prog 37 #[.string s] w fun e w' => e = .returned (.tuple #[cV c n f t a, .int .i64 (k : Int)]) ∧ Ext w w' := by
  have hh := cparse_calls s hs w hr
  rw [h] at hh
  exact hh
theorem k_5 : textC 1 0 2 3 50 = w5 := by
  have h := J.numsL_pnums (s := bs w5) (a := [1, 0, 2, 3, 50]) (by kernel_rfl)
  show strOf _ = _
  rw [h.1]
theorem k_i5 : I5 1 0 2 3 50 := by refine ⟨?_, ?_, ?_, ?_, ?_⟩ <;> (unfold I64; omega)
theorem k_code : codeC 1 0 2 3 50 = 0 := by kernel_rfl
set_option maxHeartbeats 2000000 in
set_option maxRecDepth 100000 in
theorem known9_calls (w : World) (hr : RngOk w) (ht : TabOk w) : Calls Tryz.prog 34 #[] w fun e w' => e = .returned (.bool true) ∧ Ext w w' := by
  have HR := Lib.hid hr
  have HT := Lib.hid ht.all
  have HTX := Lib.hid (fun W hT => k_5 ▸ ctext_calls 1 0 2 3 50 k_i5 W hT)
  have HDG := Lib.hid (fun W hT => cdig_calls 1 0 2 3 50 k_i5 W hT)
  have HOF := Lib.hid (show ∀ W, Calls Tryz.prog 57 #[.string tagC, .string w5] W fun e w' => e = .returned (cU64 (digC 1 0 2 3 50)) ∧ Ext W w' from fun W => by
    unfold digC
    rw [k_5]
    exact rof_calls tagC w5 (by decide) (by decide) W)
  generalize digC 1 0 2 3 50 = D at *
  clear hr ht
  go_enter Tryz.func34, Tryz.ntmps34
  go_wp2_with fail
  refine (k_parse ⟨#[49, 44, 48, 44, 50, 44, 51, 44, 53, 48]⟩ (by decide) 1 0 2 3 50 0 (by kernel_rfl) _ (HR.out.ext (Ext.rfl' w))).mono ?_
  rintro e w1 ⟨rfl, hx⟩
  have HX1 := Lib.hid (((Ext.rfl' w).tr hx).alloc (.cells #[.int .i64 1, .int .i64 0, .int .i64 2, .int .i64 3, .int .i64 50] 54))
  have H1 := Lib.hid (Five.new w1 54 1 0 2 3 50)
  clear hx
  go_wp2_with fail
  refine (k_parse ⟨#[49, 44, 48, 44, 50, 44, 50, 44, 53, 48]⟩ (by decide) 0 0 0 0 0 1 (by kernel_rfl) _ (HR.out.ext HX1.out)).mono ?_
  rintro e w2 ⟨rfl, hx⟩
  have HX2 := Lib.hid ((HX1.out.tr hx).alloc (.cells #[.int .i64 0, .int .i64 0, .int .i64 0, .int .i64 0, .int .i64 0] 54))
  have H2 := Lib.hid (H1.out.ext ((Ext.rfl' _).tr hx |>.alloc (.cells #[.int .i64 0, .int .i64 0, .int .i64 0, .int .i64 0, .int .i64 0] 54)))
  clear hx
  go_wp2_with fail
  refine (k_parse ⟨#[49, 44, 48, 44, 50]⟩ (by decide) 0 0 0 0 0 2 (by kernel_rfl) _ (HR.out.ext HX2.out)).mono ?_
  rintro e w3 ⟨rfl, hx⟩
  have HX3 := Lib.hid ((HX2.out.tr hx).alloc (.cells #[.int .i64 0, .int .i64 0, .int .i64 0, .int .i64 0, .int .i64 0] 54))
  have H3 := Lib.hid (H2.out.ext ((Ext.rfl' _).tr hx |>.alloc (.cells #[.int .i64 0, .int .i64 0, .int .i64 0, .int .i64 0, .int .i64 0] 54)))
  clear hx
  go_wp2_with fail
  refine (k_parse ⟨#[49, 44, 48, 44, 50, 44, 51, 44, 48]⟩ (by decide) 0 0 0 0 0 1 (by kernel_rfl) _ (HR.out.ext HX3.out)).mono ?_
  rintro e w4 ⟨rfl, hx⟩
  have HX4 := Lib.hid ((HX3.out.tr hx).alloc (.cells #[.int .i64 0, .int .i64 0, .int .i64 0, .int .i64 0, .int .i64 0] 54))
  have H4 := Lib.hid (H3.out.ext ((Ext.rfl' _).tr hx |>.alloc (.cells #[.int .i64 0, .int .i64 0, .int .i64 0, .int .i64 0, .int .i64 0] 54)))
  clear hx
  have h := H4.out
  have hsz := HX4.out
  obtain ⟨c0, c1, c2, c3, c4⟩ := h.cells
  clear h hsz
  go_wp2_with fail
  refine (HTX.out _ (HT.out _ HX4.out)).mono ?_
  rintro e v1 ⟨rfl, hx⟩
  have HY1 := Lib.hid (HX4.out.tr hx)
  have h := H4.out.ext hx
  have G1 := Lib.hid h
  clear c0 c1 c2 c3 c4 hx
  obtain ⟨c0, c1, c2, c3, c4⟩ := h.cells
  clear h
  go_wp2_with fail
  refine (show Calls Tryz.prog 39 #[cV 1 0 2 3 50] _ fun e w' => e = .returned (.int .i64 0) ∧ Ext _ w' from by rw [← k_code]; exact ccheck_calls 1 0 2 3 50 _).mono ?_
  rintro e v2 ⟨rfl, hx⟩
  have HY2 := Lib.hid (HY1.out.tr hx)
  have h := G1.out.ext hx
  have G2 := Lib.hid h
  clear c0 c1 c2 c3 c4 hx
  obtain ⟨c0, c1, c2, c3, c4⟩ := h.cells
  clear h
  go_wp2_with fail
  refine (show Calls Tryz.prog 43 #[cV 1 0 2 3 50, cV 1 0 0 0 0] _ fun e w' => e = .returned (.bool true) ∧ Ext _ w' from sameID_calls 1 0 2 3 50 1 0 0 0 0 _).mono ?_
  rintro e v3 ⟨rfl, hx⟩
  have HY3 := Lib.hid (HY2.out.tr hx)
  have h := G2.out.ext hx
  have G3 := Lib.hid h
  clear c0 c1 c2 c3 c4 hx
  obtain ⟨c0, c1, c2, c3, c4⟩ := h.cells
  clear h
  go_wp2_with fail
  refine (show Calls Tryz.prog 43 #[cV 1 0 2 3 50, cV 1 1 0 0 0] _ fun e w' => e = .returned (.bool false) ∧ Ext _ w' from sameID_calls 1 0 2 3 50 1 1 0 0 0 _).mono ?_
  rintro e v4 ⟨rfl, hx⟩
  have HY4 := Lib.hid (HY3.out.tr hx)
  have h := G3.out.ext hx
  have G4 := Lib.hid h
  clear c0 c1 c2 c3 c4 hx
  obtain ⟨c0, c1, c2, c3, c4⟩ := h.cells
  clear h
  go_wp2_with fail
  refine (HDG.out _ (HT.out _ HY4.out)).mono ?_
  rintro e v5 ⟨rfl, hx⟩
  have HY5 := Lib.hid (HY4.out.tr hx)
  have h := G4.out.ext hx
  have G5 := Lib.hid h
  clear c0 c1 c2 c3 c4 hx
  obtain ⟨c0, c1, c2, c3, c4⟩ := h.cells
  clear h
  go_wp2_with fail
  refine (HOF.out _).mono ?_
  rintro e v6 ⟨rfl, hx⟩
  have HY6 := Lib.hid (HY5.out.tr hx)
  have h := G5.out.ext hx
  have G6 := Lib.hid h
  clear c0 c1 c2 c3 c4 hx
  obtain ⟨c0, c1, c2, c3, c4⟩ := h.cells
  clear h
  go_wp2
  go_ret
  exact ⟨rfl, HY6.out⟩
end Go.Proofs.YtgomondmogpkeaaGreatDoor
