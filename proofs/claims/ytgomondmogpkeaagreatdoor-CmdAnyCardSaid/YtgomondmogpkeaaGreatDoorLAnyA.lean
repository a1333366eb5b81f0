/- The walk of the law CmdAny: its ways. -/
import Derived.Test.YtgomondmogpkeaaGreatDoorLAnyT
set_option linter.unusedVariables false
namespace Go.Proofs.YtgomondmogpkeaaGreatDoor
open Go.RowKit Go.Sort
set_option maxHeartbeats 8000000 in
set_option maxRecDepth 100000 in
theorem any_0_1 (c n f t a c' n' f' t' a' : Int) (h1 : (c == c') = false) (hb : I5 c n f t a) (hb' : I5 c' n' f' t' a') (ho : OkC c n f t a) (hp : parseC (bs (textC c n f t a)) = ((c, n, f, t, a), 0)) (w : World) (hr : RngOk w) (ht : TabOk w) :
    Calls Tryz.prog 9 #[cV c n f t a, cV c' n' f' t' a'] w fun e w' => e = .returned (.bool true) ∧ Ext w w' := by
  have hl := textC_len hb
  have hsz : (textC c n f t a).size ≤ 1099511627776 := by rw [show (textC c n f t a).size = (textC c n f t a).data.toList.length from rfl]; omega
  have HK := Lib.hid (fun W (hx : Ext w W) => known9_calls W (hr.ext hx) (ht.all _ hx))
  have HP := Lib.hid (show ∀ W, Ext w W → Calls Tryz.prog 37 #[.string (textC c n f t a)] W fun e w' => ParseCEnd ((c, n, f, t, a), 0) e ∧ Ext W w' from fun W hx => by
    have hh := cparse_calls (textC c n f t a) hsz W (hr.ext hx)
    rwa [hp] at hh)
  have HTX := Lib.hid (fun W (hx : Ext w W) => ctext_calls c n f t a hb W (ht.all _ hx))
  have HTY := Lib.hid (fun W (hx : Ext w W) => ctext_calls c' n' f' t' a' hb' W (ht.all _ hx))
  have HRT := Lib.hid (fun W => rctext_calls c n f t a hb W)
  have HD := Lib.hid (fun W (hx : Ext w W) => cdig_calls c n f t a hb W (ht.all _ hx))
  have HRD := Lib.hid (fun W => rcdig_calls c n f t a hb W)
  have HC := Lib.hid (show ∀ W, Calls Tryz.prog 39 #[cV c n f t a] W fun e w' => e = .returned (.int .i64 0) ∧ Ext W w' from fun W => by
    have hh := ccheck_calls c n f t a W
    rwa [codeC_zero ho] at hh)
  have HRC := Lib.hid (show ∀ W, Calls Tryz.prog 35 #[cV c n f t a] W fun e w' => e = .returned (.int .i64 0) ∧ Ext W w' from fun W => by
    have hh := rccheck_calls c n f t a W
    rwa [codeC_zero ho] at hh)
  have HS := Lib.hid (fun W => sameID_calls c n f t a c' n' f' t' a' W)
  have HRS := Lib.hid (fun W => rsameID_calls c n f t a c' n' f' t' a' W)
  have HO := Lib.hid (fun W => of9_calls c n f t a W)
  have h2 := bne_f h1
  have hT : (textC c n f t a).toList ≠ (textC c' n' f' t' a').toList := fun e => by
    have e2 := text_inj hb hb' (by rw [← Lib.bytes_beq_iff] at *; exact beq_iff_eq.1 (by simpa [Lib.bytes_beq_iff] using e))
    simp at e2
    simp [e2] at h1
  have hT1 : ((textC c n f t a).toList == (textC c' n' f' t' a').toList) = false := by simpa using hT
  clear hT
  clear hb hb' hr ht hl hsz ho hp
  generalize digC c n f t a = D at *
  generalize textC c' n' f' t' a' = T2 at *
  generalize textC c n f t a = T at *
  generalize sameB c n c' n' = B at *
  have hB0 : (B != B) = false := by simp
  go_enter Tryz.func9, Tryz.ntmps9
  go_wp2_with fail
  have h0 := Five.new w 54 c n f t a
  have h3 := h0.ext ((Ext.rfl' _).alloc (.cells #[.int .i64 c', .int .i64 n', .int .i64 f', .int .i64 t', .int .i64 a'] 54))
  have h4 := Five.new (w.alloc (.cells #[.int .i64 c, .int .i64 n, .int .i64 f, .int .i64 t, .int .i64 a] 54)) 54 c' n' f' t' a'
  rw [World.size_alloc] at h4
  have HX0 := Lib.hid (((Ext.rfl' w).alloc (.cells #[.int .i64 c, .int .i64 n, .int .i64 f, .int .i64 t, .int .i64 a] 54)).alloc (.cells #[.int .i64 c', .int .i64 n', .int .i64 f', .int .i64 t', .int .i64 a'] 54))
  clear h0
  generalize (w.alloc (.cells #[.int .i64 c, .int .i64 n, .int .i64 f, .int .i64 t, .int .i64 a] 54)).alloc (.cells #[.int .i64 c', .int .i64 n', .int .i64 f', .int .i64 t', .int .i64 a'] 54) = W0 at *
  have H3 := Lib.hid h3
  have H4 := Lib.hid h4
  clear h3 h4
  refine (HK.out _ HX0.out).mono ?_
  rintro e w1 ⟨rfl, hx⟩
  have h := H3.out.ext hx
  have k := H4.out.ext hx
  have HX1 := Lib.hid (HX0.out.tr hx)
  clear H3 H4 hx
  obtain ⟨c0, c1, c2, c3, c4⟩ := h.cells
  have H3 := Lib.hid h
  have H4 := Lib.hid k
  clear h k
  go_wp2_with fail
  refine (HO.out _).mono ?_
  rintro e w2 ⟨rfl, hx⟩
  have h := H3.out.ext hx
  have k := H4.out.ext hx
  have HX2 := Lib.hid (HX1.out.tr hx)
  clear H3 H4 hx c0 c1 c2 c3 c4
  go_wp2_with fail
  refine (HRC.out _).mono ?_
  rintro e w3 ⟨rfl, hx⟩
  have h := h.ext hx
  have k := k.ext hx
  have HX3 := Lib.hid (HX2.out.tr hx)
  clear hx
  obtain ⟨c0, c1, c2, c3, c4⟩ := h.cells
  have H3 := Lib.hid h
  have H4 := Lib.hid k
  clear h k
  go_wp2_with fail
  refine (HTX.out _ HX3.out).mono ?_
  rintro e w4 ⟨rfl, hx⟩
  have h := H3.out.ext hx
  have k := H4.out.ext hx
  have HX4 := Lib.hid (HX3.out.tr hx)
  clear H3 H4 hx c0 c1 c2 c3 c4
  go_wp2_with fail
  refine (HP.out _ HX4.out).mono ?_
  rintro e w5 ⟨he, hx⟩
  obtain rfl : e = .returned (.tuple #[cV c n f t a, .int .i64 0]) := he
  have hx' := hx.alloc (.cells #[.int .i64 c, .int .i64 n, .int .i64 f, .int .i64 t, .int .i64 a] 54)
  have h := h.ext hx'
  have k := k.ext hx'
  have h5 := Five.new w5 54 c n f t a
  have HX5 := Lib.hid (HX4.out.tr hx')
  clear hx hx'
  go_wp2_with fail
  generalize w5.alloc (.cells #[.int .i64 c, .int .i64 n, .int .i64 f, .int .i64 t, .int .i64 a] 54) = W at *
  have c_ : ∀ x : ExtW W, Five x.1 w.heap.size 54 c n f t a := fun x => h.ext x.2
  have d_ : ∀ x : ExtW W, Five x.1 (w.heap.size + 1) 54 c' n' f' t' a' := fun x => k.ext x.2
  have H5 := Lib.hid h5
  have H3 := Lib.hid h
  have H4 := Lib.hid k
  clear h k h5
  have c_0 : ∀ x : ExtW W, x.1.cell? ⟨w.heap.size, 0, none⟩ = some (.int .i64 c) := fun x => (c_ x).cells.1
  have c_1 : ∀ x : ExtW W, x.1.cell? ⟨w.heap.size, 1, none⟩ = some (.int .i64 n) := fun x => (c_ x).cells.2.1
  have c_2 : ∀ x : ExtW W, x.1.cell? ⟨w.heap.size, 2, none⟩ = some (.int .i64 f) := fun x => (c_ x).cells.2.2.1
  have c_3 : ∀ x : ExtW W, x.1.cell? ⟨w.heap.size, 3, none⟩ = some (.int .i64 t) := fun x => (c_ x).cells.2.2.2.1
  have c_4 : ∀ x : ExtW W, x.1.cell? ⟨w.heap.size, 4, none⟩ = some (.int .i64 a) := fun x => (c_ x).cells.2.2.2.2
  have d_0 : ∀ x : ExtW W, x.1.cell? ⟨w.heap.size + 1, 0, none⟩ = some (.int .i64 c') := fun x => (d_ x).cells.1
  have d_1 : ∀ x : ExtW W, x.1.cell? ⟨w.heap.size + 1, 1, none⟩ = some (.int .i64 n') := fun x => (d_ x).cells.2.1
  have d_2 : ∀ x : ExtW W, x.1.cell? ⟨w.heap.size + 1, 2, none⟩ = some (.int .i64 f') := fun x => (d_ x).cells.2.2.1
  have d_3 : ∀ x : ExtW W, x.1.cell? ⟨w.heap.size + 1, 3, none⟩ = some (.int .i64 t') := fun x => (d_ x).cells.2.2.2.1
  have d_4 : ∀ x : ExtW W, x.1.cell? ⟨w.heap.size + 1, 4, none⟩ = some (.int .i64 a') := fun x => (d_ x).cells.2.2.2.2
  clear c_ d_
  have XTX := Lib.hid (fun x : ExtW W => HTX.out x.1 (HX5.out.tr x.2))
  have XD := Lib.hid (fun x : ExtW W => HD.out x.1 (HX5.out.tr x.2))
  refine wp_region_grow (by kernel_rfl) (by kernel_rfl) ?_
  repeat (any_goals (go_big_quiet_step (first | (go_at_call 39; exact grow_of (HC.out _)) | (go_at_call 38; exact grow_of (XTX.out _)) | (go_at_call 36; exact grow_of (of9_calls _ _ _ _ _ _)) | (go_at_call 40; exact grow_of (HRT.out _)) | (go_at_call 41; exact grow_of (XD.out _)) | (go_at_call 42; exact grow_of (HRD.out _)) | (go_at_call 43; exact grow_of (HS.out _)) | (go_at_call 44; exact grow_of (HRS.out _)))))
  refine wpQuiet_nil ?_
  rintro v1 ⟨⟨_, hx⟩, rfl⟩
  have h := H3.out.ext hx
  have k := H4.out.ext hx
  have h5 := H5.out.ext hx
  have HX6 := Lib.hid (HX5.out.tr hx)
  clear hx H3 H4 H5 XTX XD c_0 c_1 c_2 c_3 c_4 d_0 d_1 d_2 d_3 d_4
  have c_ : ∀ x : ExtW v1, Five x.1 w.heap.size 54 c n f t a := fun x => h.ext x.2
  have d_ : ∀ x : ExtW v1, Five x.1 (w.heap.size + 1) 54 c' n' f' t' a' := fun x => k.ext x.2
  have e_ : ∀ x : ExtW v1, Five x.1 w5.heap.size 54 c n f t a := fun x => h5.ext x.2
  have c_0 : ∀ x : ExtW v1, x.1.cell? ⟨w.heap.size, 0, none⟩ = some (.int .i64 c) := fun x => (c_ x).cells.1
  have c_1 : ∀ x : ExtW v1, x.1.cell? ⟨w.heap.size, 1, none⟩ = some (.int .i64 n) := fun x => (c_ x).cells.2.1
  have c_2 : ∀ x : ExtW v1, x.1.cell? ⟨w.heap.size, 2, none⟩ = some (.int .i64 f) := fun x => (c_ x).cells.2.2.1
  have c_3 : ∀ x : ExtW v1, x.1.cell? ⟨w.heap.size, 3, none⟩ = some (.int .i64 t) := fun x => (c_ x).cells.2.2.2.1
  have c_4 : ∀ x : ExtW v1, x.1.cell? ⟨w.heap.size, 4, none⟩ = some (.int .i64 a) := fun x => (c_ x).cells.2.2.2.2
  have d_0 : ∀ x : ExtW v1, x.1.cell? ⟨w.heap.size + 1, 0, none⟩ = some (.int .i64 c') := fun x => (d_ x).cells.1
  have d_1 : ∀ x : ExtW v1, x.1.cell? ⟨w.heap.size + 1, 1, none⟩ = some (.int .i64 n') := fun x => (d_ x).cells.2.1
  have d_2 : ∀ x : ExtW v1, x.1.cell? ⟨w.heap.size + 1, 2, none⟩ = some (.int .i64 f') := fun x => (d_ x).cells.2.2.1
  have d_3 : ∀ x : ExtW v1, x.1.cell? ⟨w.heap.size + 1, 3, none⟩ = some (.int .i64 t') := fun x => (d_ x).cells.2.2.2.1
  have d_4 : ∀ x : ExtW v1, x.1.cell? ⟨w.heap.size + 1, 4, none⟩ = some (.int .i64 a') := fun x => (d_ x).cells.2.2.2.2
  have e_0 : ∀ x : ExtW v1, x.1.cell? ⟨w5.heap.size, 0, none⟩ = some (.int .i64 c) := fun x => (e_ x).cells.1
  have e_1 : ∀ x : ExtW v1, x.1.cell? ⟨w5.heap.size, 1, none⟩ = some (.int .i64 n) := fun x => (e_ x).cells.2.1
  have e_2 : ∀ x : ExtW v1, x.1.cell? ⟨w5.heap.size, 2, none⟩ = some (.int .i64 f) := fun x => (e_ x).cells.2.2.1
  have e_3 : ∀ x : ExtW v1, x.1.cell? ⟨w5.heap.size, 3, none⟩ = some (.int .i64 t) := fun x => (e_ x).cells.2.2.2.1
  have e_4 : ∀ x : ExtW v1, x.1.cell? ⟨w5.heap.size, 4, none⟩ = some (.int .i64 a) := fun x => (e_ x).cells.2.2.2.2
  clear c_ d_ e_ h k h5
  have XTZ := Lib.hid (show ∀ (x : ExtW v1) (v : Value) (s : ByteArray), (v = cV c n f t a ∧ s = T) ∨ (v = cV c' n' f' t' a' ∧ s = T2) → Calls Tryz.prog 38 #[v] x.1 fun e w' => e = .returned (.string s) ∧ Ext x.1 w' from fun x v s h => by
    rcases h with ⟨rfl, rfl⟩ | ⟨rfl, rfl⟩
    · exact HTX.out x.1 (HX6.out.tr x.2)
    · exact HTY.out x.1 (HX6.out.tr x.2))
  go_wp2_with fail
  refine wp_region_grow (by kernel_rfl) (by kernel_rfl) ?_
  repeat (any_goals (go_big_quiet_step ((go_at_call 38; first | exact grow_of (XTZ.out _ _ _ (.inl ⟨rfl, rfl⟩)) | exact grow_of (XTZ.out _ _ _ (.inr ⟨rfl, rfl⟩))))))
  refine wpQuiet_nil ?_
  rintro _ ⟨⟨v2, hx⟩, rfl⟩
  have HX7 := Lib.hid (HX6.out.tr hx)
  clear hx XTZ c_0 c_1 c_2 c_3 c_4 d_0 d_1 d_2 d_3 d_4 e_0 e_1 e_2 e_3 e_4
  go_wp2
  go_ret
  exact ⟨rfl, HX7.out⟩
set_option maxHeartbeats 8000000 in
set_option maxRecDepth 100000 in
theorem any_1_1 (c n f t a n' f' t' a' : Int) (h1 : (n == n') = false) (hb : I5 c n f t a) (hb' : I5 c n' f' t' a') (ho : OkC c n f t a) (hp : parseC (bs (textC c n f t a)) = ((c, n, f, t, a), 0)) (w : World) (hr : RngOk w) (ht : TabOk w) :
    Calls Tryz.prog 9 #[cV c n f t a, cV c n' f' t' a'] w fun e w' => e = .returned (.bool true) ∧ Ext w w' := by
  have hl := textC_len hb
  have hsz : (textC c n f t a).size ≤ 1099511627776 := by rw [show (textC c n f t a).size = (textC c n f t a).data.toList.length from rfl]; omega
  have HK := Lib.hid (fun W (hx : Ext w W) => known9_calls W (hr.ext hx) (ht.all _ hx))
  have HP := Lib.hid (show ∀ W, Ext w W → Calls Tryz.prog 37 #[.string (textC c n f t a)] W fun e w' => ParseCEnd ((c, n, f, t, a), 0) e ∧ Ext W w' from fun W hx => by
    have hh := cparse_calls (textC c n f t a) hsz W (hr.ext hx)
    rwa [hp] at hh)
  have HTX := Lib.hid (fun W (hx : Ext w W) => ctext_calls c n f t a hb W (ht.all _ hx))
  have HTY := Lib.hid (fun W (hx : Ext w W) => ctext_calls c n' f' t' a' hb' W (ht.all _ hx))
  have HRT := Lib.hid (fun W => rctext_calls c n f t a hb W)
  have HD := Lib.hid (fun W (hx : Ext w W) => cdig_calls c n f t a hb W (ht.all _ hx))
  have HRD := Lib.hid (fun W => rcdig_calls c n f t a hb W)
  have HC := Lib.hid (show ∀ W, Calls Tryz.prog 39 #[cV c n f t a] W fun e w' => e = .returned (.int .i64 0) ∧ Ext W w' from fun W => by
    have hh := ccheck_calls c n f t a W
    rwa [codeC_zero ho] at hh)
  have HRC := Lib.hid (show ∀ W, Calls Tryz.prog 35 #[cV c n f t a] W fun e w' => e = .returned (.int .i64 0) ∧ Ext W w' from fun W => by
    have hh := rccheck_calls c n f t a W
    rwa [codeC_zero ho] at hh)
  have HS := Lib.hid (fun W => sameID_calls c n f t a c n' f' t' a' W)
  have HRS := Lib.hid (fun W => rsameID_calls c n f t a c n' f' t' a' W)
  have HO := Lib.hid (fun W => of9_calls c n f t a W)
  have h2 := bne_f h1
  have hT : (textC c n f t a).toList ≠ (textC c n' f' t' a').toList := fun e => by
    have e2 := text_inj hb hb' (by rw [← Lib.bytes_beq_iff] at *; exact beq_iff_eq.1 (by simpa [Lib.bytes_beq_iff] using e))
    simp at e2
    simp [e2] at h1
  have hT1 : ((textC c n f t a).toList == (textC c n' f' t' a').toList) = false := by simpa using hT
  clear hT
  clear hb hb' hr ht hl hsz ho hp
  generalize digC c n f t a = D at *
  generalize textC c n' f' t' a' = T2 at *
  generalize textC c n f t a = T at *
  generalize sameB c n c n' = B at *
  have hB0 : (B != B) = false := by simp
  go_enter Tryz.func9, Tryz.ntmps9
  go_wp2_with fail
  have h0 := Five.new w 54 c n f t a
  have h3 := h0.ext ((Ext.rfl' _).alloc (.cells #[.int .i64 c, .int .i64 n', .int .i64 f', .int .i64 t', .int .i64 a'] 54))
  have h4 := Five.new (w.alloc (.cells #[.int .i64 c, .int .i64 n, .int .i64 f, .int .i64 t, .int .i64 a] 54)) 54 c n' f' t' a'
  rw [World.size_alloc] at h4
  have HX0 := Lib.hid (((Ext.rfl' w).alloc (.cells #[.int .i64 c, .int .i64 n, .int .i64 f, .int .i64 t, .int .i64 a] 54)).alloc (.cells #[.int .i64 c, .int .i64 n', .int .i64 f', .int .i64 t', .int .i64 a'] 54))
  clear h0
  generalize (w.alloc (.cells #[.int .i64 c, .int .i64 n, .int .i64 f, .int .i64 t, .int .i64 a] 54)).alloc (.cells #[.int .i64 c, .int .i64 n', .int .i64 f', .int .i64 t', .int .i64 a'] 54) = W0 at *
  have H3 := Lib.hid h3
  have H4 := Lib.hid h4
  clear h3 h4
  refine (HK.out _ HX0.out).mono ?_
  rintro e w1 ⟨rfl, hx⟩
  have h := H3.out.ext hx
  have k := H4.out.ext hx
  have HX1 := Lib.hid (HX0.out.tr hx)
  clear H3 H4 hx
  obtain ⟨c0, c1, c2, c3, c4⟩ := h.cells
  have H3 := Lib.hid h
  have H4 := Lib.hid k
  clear h k
  go_wp2_with fail
  refine (HO.out _).mono ?_
  rintro e w2 ⟨rfl, hx⟩
  have h := H3.out.ext hx
  have k := H4.out.ext hx
  have HX2 := Lib.hid (HX1.out.tr hx)
  clear H3 H4 hx c0 c1 c2 c3 c4
  go_wp2_with fail
  refine (HRC.out _).mono ?_
  rintro e w3 ⟨rfl, hx⟩
  have h := h.ext hx
  have k := k.ext hx
  have HX3 := Lib.hid (HX2.out.tr hx)
  clear hx
  obtain ⟨c0, c1, c2, c3, c4⟩ := h.cells
  have H3 := Lib.hid h
  have H4 := Lib.hid k
  clear h k
  go_wp2_with fail
  refine (HTX.out _ HX3.out).mono ?_
  rintro e w4 ⟨rfl, hx⟩
  have h := H3.out.ext hx
  have k := H4.out.ext hx
  have HX4 := Lib.hid (HX3.out.tr hx)
  clear H3 H4 hx c0 c1 c2 c3 c4
  go_wp2_with fail
  refine (HP.out _ HX4.out).mono ?_
  rintro e w5 ⟨he, hx⟩
  obtain rfl : e = .returned (.tuple #[cV c n f t a, .int .i64 0]) := he
  have hx' := hx.alloc (.cells #[.int .i64 c, .int .i64 n, .int .i64 f, .int .i64 t, .int .i64 a] 54)
  have h := h.ext hx'
  have k := k.ext hx'
  have h5 := Five.new w5 54 c n f t a
  have HX5 := Lib.hid (HX4.out.tr hx')
  clear hx hx'
  go_wp2_with fail
  generalize w5.alloc (.cells #[.int .i64 c, .int .i64 n, .int .i64 f, .int .i64 t, .int .i64 a] 54) = W at *
  have c_ : ∀ x : ExtW W, Five x.1 w.heap.size 54 c n f t a := fun x => h.ext x.2
  have d_ : ∀ x : ExtW W, Five x.1 (w.heap.size + 1) 54 c n' f' t' a' := fun x => k.ext x.2
  have H5 := Lib.hid h5
  have H3 := Lib.hid h
  have H4 := Lib.hid k
  clear h k h5
  have c_0 : ∀ x : ExtW W, x.1.cell? ⟨w.heap.size, 0, none⟩ = some (.int .i64 c) := fun x => (c_ x).cells.1
  have c_1 : ∀ x : ExtW W, x.1.cell? ⟨w.heap.size, 1, none⟩ = some (.int .i64 n) := fun x => (c_ x).cells.2.1
  have c_2 : ∀ x : ExtW W, x.1.cell? ⟨w.heap.size, 2, none⟩ = some (.int .i64 f) := fun x => (c_ x).cells.2.2.1
  have c_3 : ∀ x : ExtW W, x.1.cell? ⟨w.heap.size, 3, none⟩ = some (.int .i64 t) := fun x => (c_ x).cells.2.2.2.1
  have c_4 : ∀ x : ExtW W, x.1.cell? ⟨w.heap.size, 4, none⟩ = some (.int .i64 a) := fun x => (c_ x).cells.2.2.2.2
  have d_0 : ∀ x : ExtW W, x.1.cell? ⟨w.heap.size + 1, 0, none⟩ = some (.int .i64 c) := fun x => (d_ x).cells.1
  have d_1 : ∀ x : ExtW W, x.1.cell? ⟨w.heap.size + 1, 1, none⟩ = some (.int .i64 n') := fun x => (d_ x).cells.2.1
  have d_2 : ∀ x : ExtW W, x.1.cell? ⟨w.heap.size + 1, 2, none⟩ = some (.int .i64 f') := fun x => (d_ x).cells.2.2.1
  have d_3 : ∀ x : ExtW W, x.1.cell? ⟨w.heap.size + 1, 3, none⟩ = some (.int .i64 t') := fun x => (d_ x).cells.2.2.2.1
  have d_4 : ∀ x : ExtW W, x.1.cell? ⟨w.heap.size + 1, 4, none⟩ = some (.int .i64 a') := fun x => (d_ x).cells.2.2.2.2
  clear c_ d_
  have XTX := Lib.hid (fun x : ExtW W => HTX.out x.1 (HX5.out.tr x.2))
  have XD := Lib.hid (fun x : ExtW W => HD.out x.1 (HX5.out.tr x.2))
  refine wp_region_grow (by kernel_rfl) (by kernel_rfl) ?_
  repeat (any_goals (go_big_quiet_step (first | (go_at_call 39; exact grow_of (HC.out _)) | (go_at_call 38; exact grow_of (XTX.out _)) | (go_at_call 36; exact grow_of (of9_calls _ _ _ _ _ _)) | (go_at_call 40; exact grow_of (HRT.out _)) | (go_at_call 41; exact grow_of (XD.out _)) | (go_at_call 42; exact grow_of (HRD.out _)) | (go_at_call 43; exact grow_of (HS.out _)) | (go_at_call 44; exact grow_of (HRS.out _)))))
  refine wpQuiet_nil ?_
  rintro v1 ⟨⟨_, hx⟩, rfl⟩
  have h := H3.out.ext hx
  have k := H4.out.ext hx
  have h5 := H5.out.ext hx
  have HX6 := Lib.hid (HX5.out.tr hx)
  clear hx H3 H4 H5 XTX XD c_0 c_1 c_2 c_3 c_4 d_0 d_1 d_2 d_3 d_4
  have c_ : ∀ x : ExtW v1, Five x.1 w.heap.size 54 c n f t a := fun x => h.ext x.2
  have d_ : ∀ x : ExtW v1, Five x.1 (w.heap.size + 1) 54 c n' f' t' a' := fun x => k.ext x.2
  have e_ : ∀ x : ExtW v1, Five x.1 w5.heap.size 54 c n f t a := fun x => h5.ext x.2
  have c_0 : ∀ x : ExtW v1, x.1.cell? ⟨w.heap.size, 0, none⟩ = some (.int .i64 c) := fun x => (c_ x).cells.1
  have c_1 : ∀ x : ExtW v1, x.1.cell? ⟨w.heap.size, 1, none⟩ = some (.int .i64 n) := fun x => (c_ x).cells.2.1
  have c_2 : ∀ x : ExtW v1, x.1.cell? ⟨w.heap.size, 2, none⟩ = some (.int .i64 f) := fun x => (c_ x).cells.2.2.1
  have c_3 : ∀ x : ExtW v1, x.1.cell? ⟨w.heap.size, 3, none⟩ = some (.int .i64 t) := fun x => (c_ x).cells.2.2.2.1
  have c_4 : ∀ x : ExtW v1, x.1.cell? ⟨w.heap.size, 4, none⟩ = some (.int .i64 a) := fun x => (c_ x).cells.2.2.2.2
  have d_0 : ∀ x : ExtW v1, x.1.cell? ⟨w.heap.size + 1, 0, none⟩ = some (.int .i64 c) := fun x => (d_ x).cells.1
  have d_1 : ∀ x : ExtW v1, x.1.cell? ⟨w.heap.size + 1, 1, none⟩ = some (.int .i64 n') := fun x => (d_ x).cells.2.1
  have d_2 : ∀ x : ExtW v1, x.1.cell? ⟨w.heap.size + 1, 2, none⟩ = some (.int .i64 f') := fun x => (d_ x).cells.2.2.1
  have d_3 : ∀ x : ExtW v1, x.1.cell? ⟨w.heap.size + 1, 3, none⟩ = some (.int .i64 t') := fun x => (d_ x).cells.2.2.2.1
  have d_4 : ∀ x : ExtW v1, x.1.cell? ⟨w.heap.size + 1, 4, none⟩ = some (.int .i64 a') := fun x => (d_ x).cells.2.2.2.2
  have e_0 : ∀ x : ExtW v1, x.1.cell? ⟨w5.heap.size, 0, none⟩ = some (.int .i64 c) := fun x => (e_ x).cells.1
  have e_1 : ∀ x : ExtW v1, x.1.cell? ⟨w5.heap.size, 1, none⟩ = some (.int .i64 n) := fun x => (e_ x).cells.2.1
  have e_2 : ∀ x : ExtW v1, x.1.cell? ⟨w5.heap.size, 2, none⟩ = some (.int .i64 f) := fun x => (e_ x).cells.2.2.1
  have e_3 : ∀ x : ExtW v1, x.1.cell? ⟨w5.heap.size, 3, none⟩ = some (.int .i64 t) := fun x => (e_ x).cells.2.2.2.1
  have e_4 : ∀ x : ExtW v1, x.1.cell? ⟨w5.heap.size, 4, none⟩ = some (.int .i64 a) := fun x => (e_ x).cells.2.2.2.2
  clear c_ d_ e_ h k h5
  have XTZ := Lib.hid (show ∀ (x : ExtW v1) (v : Value) (s : ByteArray), (v = cV c n f t a ∧ s = T) ∨ (v = cV c n' f' t' a' ∧ s = T2) → Calls Tryz.prog 38 #[v] x.1 fun e w' => e = .returned (.string s) ∧ Ext x.1 w' from fun x v s h => by
    rcases h with ⟨rfl, rfl⟩ | ⟨rfl, rfl⟩
    · exact HTX.out x.1 (HX6.out.tr x.2)
    · exact HTY.out x.1 (HX6.out.tr x.2))
  go_wp2_with fail
  refine wp_region_grow (by kernel_rfl) (by kernel_rfl) ?_
  repeat (any_goals (go_big_quiet_step ((go_at_call 38; first | exact grow_of (XTZ.out _ _ _ (.inl ⟨rfl, rfl⟩)) | exact grow_of (XTZ.out _ _ _ (.inr ⟨rfl, rfl⟩))))))
  refine wpQuiet_nil ?_
  rintro _ ⟨⟨v2, hx⟩, rfl⟩
  have HX7 := Lib.hid (HX6.out.tr hx)
  clear hx XTZ c_0 c_1 c_2 c_3 c_4 d_0 d_1 d_2 d_3 d_4 e_0 e_1 e_2 e_3 e_4
  go_wp2
  go_ret
  exact ⟨rfl, HX7.out⟩
set_option maxHeartbeats 8000000 in
set_option maxRecDepth 100000 in
theorem any_2_1 (c n f t a f' t' a' : Int) (h1 : (f == f') = false) (hb : I5 c n f t a) (hb' : I5 c n f' t' a') (ho : OkC c n f t a) (hp : parseC (bs (textC c n f t a)) = ((c, n, f, t, a), 0)) (w : World) (hr : RngOk w) (ht : TabOk w) :
    Calls Tryz.prog 9 #[cV c n f t a, cV c n f' t' a'] w fun e w' => e = .returned (.bool true) ∧ Ext w w' := by
  have hl := textC_len hb
  have hsz : (textC c n f t a).size ≤ 1099511627776 := by rw [show (textC c n f t a).size = (textC c n f t a).data.toList.length from rfl]; omega
  have HK := Lib.hid (fun W (hx : Ext w W) => known9_calls W (hr.ext hx) (ht.all _ hx))
  have HP := Lib.hid (show ∀ W, Ext w W → Calls Tryz.prog 37 #[.string (textC c n f t a)] W fun e w' => ParseCEnd ((c, n, f, t, a), 0) e ∧ Ext W w' from fun W hx => by
    have hh := cparse_calls (textC c n f t a) hsz W (hr.ext hx)
    rwa [hp] at hh)
  have HTX := Lib.hid (fun W (hx : Ext w W) => ctext_calls c n f t a hb W (ht.all _ hx))
  have HTY := Lib.hid (fun W (hx : Ext w W) => ctext_calls c n f' t' a' hb' W (ht.all _ hx))
  have HRT := Lib.hid (fun W => rctext_calls c n f t a hb W)
  have HD := Lib.hid (fun W (hx : Ext w W) => cdig_calls c n f t a hb W (ht.all _ hx))
  have HRD := Lib.hid (fun W => rcdig_calls c n f t a hb W)
  have HC := Lib.hid (show ∀ W, Calls Tryz.prog 39 #[cV c n f t a] W fun e w' => e = .returned (.int .i64 0) ∧ Ext W w' from fun W => by
    have hh := ccheck_calls c n f t a W
    rwa [codeC_zero ho] at hh)
  have HRC := Lib.hid (show ∀ W, Calls Tryz.prog 35 #[cV c n f t a] W fun e w' => e = .returned (.int .i64 0) ∧ Ext W w' from fun W => by
    have hh := rccheck_calls c n f t a W
    rwa [codeC_zero ho] at hh)
  have HS := Lib.hid (fun W => sameID_calls c n f t a c n f' t' a' W)
  have HRS := Lib.hid (fun W => rsameID_calls c n f t a c n f' t' a' W)
  have HO := Lib.hid (fun W => of9_calls c n f t a W)
  have h2 := bne_f h1
  have hT : (textC c n f t a).toList ≠ (textC c n f' t' a').toList := fun e => by
    have e2 := text_inj hb hb' (by rw [← Lib.bytes_beq_iff] at *; exact beq_iff_eq.1 (by simpa [Lib.bytes_beq_iff] using e))
    simp at e2
    simp [e2] at h1
  have hT1 : ((textC c n f t a).toList == (textC c n f' t' a').toList) = false := by simpa using hT
  clear hT
  clear hb hb' hr ht hl hsz ho hp
  generalize digC c n f t a = D at *
  generalize textC c n f' t' a' = T2 at *
  generalize textC c n f t a = T at *
  generalize sameB c n c n = B at *
  have hB0 : (B != B) = false := by simp
  go_enter Tryz.func9, Tryz.ntmps9
  go_wp2_with fail
  have h0 := Five.new w 54 c n f t a
  have h3 := h0.ext ((Ext.rfl' _).alloc (.cells #[.int .i64 c, .int .i64 n, .int .i64 f', .int .i64 t', .int .i64 a'] 54))
  have h4 := Five.new (w.alloc (.cells #[.int .i64 c, .int .i64 n, .int .i64 f, .int .i64 t, .int .i64 a] 54)) 54 c n f' t' a'
  rw [World.size_alloc] at h4
  have HX0 := Lib.hid (((Ext.rfl' w).alloc (.cells #[.int .i64 c, .int .i64 n, .int .i64 f, .int .i64 t, .int .i64 a] 54)).alloc (.cells #[.int .i64 c, .int .i64 n, .int .i64 f', .int .i64 t', .int .i64 a'] 54))
  clear h0
  generalize (w.alloc (.cells #[.int .i64 c, .int .i64 n, .int .i64 f, .int .i64 t, .int .i64 a] 54)).alloc (.cells #[.int .i64 c, .int .i64 n, .int .i64 f', .int .i64 t', .int .i64 a'] 54) = W0 at *
  have H3 := Lib.hid h3
  have H4 := Lib.hid h4
  clear h3 h4
  refine (HK.out _ HX0.out).mono ?_
  rintro e w1 ⟨rfl, hx⟩
  have h := H3.out.ext hx
  have k := H4.out.ext hx
  have HX1 := Lib.hid (HX0.out.tr hx)
  clear H3 H4 hx
  obtain ⟨c0, c1, c2, c3, c4⟩ := h.cells
  have H3 := Lib.hid h
  have H4 := Lib.hid k
  clear h k
  go_wp2_with fail
  refine (HO.out _).mono ?_
  rintro e w2 ⟨rfl, hx⟩
  have h := H3.out.ext hx
  have k := H4.out.ext hx
  have HX2 := Lib.hid (HX1.out.tr hx)
  clear H3 H4 hx c0 c1 c2 c3 c4
  go_wp2_with fail
  refine (HRC.out _).mono ?_
  rintro e w3 ⟨rfl, hx⟩
  have h := h.ext hx
  have k := k.ext hx
  have HX3 := Lib.hid (HX2.out.tr hx)
  clear hx
  obtain ⟨c0, c1, c2, c3, c4⟩ := h.cells
  have H3 := Lib.hid h
  have H4 := Lib.hid k
  clear h k
  go_wp2_with fail
  refine (HTX.out _ HX3.out).mono ?_
  rintro e w4 ⟨rfl, hx⟩
  have h := H3.out.ext hx
  have k := H4.out.ext hx
  have HX4 := Lib.hid (HX3.out.tr hx)
  clear H3 H4 hx c0 c1 c2 c3 c4
  go_wp2_with fail
  refine (HP.out _ HX4.out).mono ?_
  rintro e w5 ⟨he, hx⟩
  obtain rfl : e = .returned (.tuple #[cV c n f t a, .int .i64 0]) := he
  have hx' := hx.alloc (.cells #[.int .i64 c, .int .i64 n, .int .i64 f, .int .i64 t, .int .i64 a] 54)
  have h := h.ext hx'
  have k := k.ext hx'
  have h5 := Five.new w5 54 c n f t a
  have HX5 := Lib.hid (HX4.out.tr hx')
  clear hx hx'
  go_wp2_with fail
  generalize w5.alloc (.cells #[.int .i64 c, .int .i64 n, .int .i64 f, .int .i64 t, .int .i64 a] 54) = W at *
  have c_ : ∀ x : ExtW W, Five x.1 w.heap.size 54 c n f t a := fun x => h.ext x.2
  have d_ : ∀ x : ExtW W, Five x.1 (w.heap.size + 1) 54 c n f' t' a' := fun x => k.ext x.2
  have H5 := Lib.hid h5
  have H3 := Lib.hid h
  have H4 := Lib.hid k
  clear h k h5
  have c_0 : ∀ x : ExtW W, x.1.cell? ⟨w.heap.size, 0, none⟩ = some (.int .i64 c) := fun x => (c_ x).cells.1
  have c_1 : ∀ x : ExtW W, x.1.cell? ⟨w.heap.size, 1, none⟩ = some (.int .i64 n) := fun x => (c_ x).cells.2.1
  have c_2 : ∀ x : ExtW W, x.1.cell? ⟨w.heap.size, 2, none⟩ = some (.int .i64 f) := fun x => (c_ x).cells.2.2.1
  have c_3 : ∀ x : ExtW W, x.1.cell? ⟨w.heap.size, 3, none⟩ = some (.int .i64 t) := fun x => (c_ x).cells.2.2.2.1
  have c_4 : ∀ x : ExtW W, x.1.cell? ⟨w.heap.size, 4, none⟩ = some (.int .i64 a) := fun x => (c_ x).cells.2.2.2.2
  have d_0 : ∀ x : ExtW W, x.1.cell? ⟨w.heap.size + 1, 0, none⟩ = some (.int .i64 c) := fun x => (d_ x).cells.1
  have d_1 : ∀ x : ExtW W, x.1.cell? ⟨w.heap.size + 1, 1, none⟩ = some (.int .i64 n) := fun x => (d_ x).cells.2.1
  have d_2 : ∀ x : ExtW W, x.1.cell? ⟨w.heap.size + 1, 2, none⟩ = some (.int .i64 f') := fun x => (d_ x).cells.2.2.1
  have d_3 : ∀ x : ExtW W, x.1.cell? ⟨w.heap.size + 1, 3, none⟩ = some (.int .i64 t') := fun x => (d_ x).cells.2.2.2.1
  have d_4 : ∀ x : ExtW W, x.1.cell? ⟨w.heap.size + 1, 4, none⟩ = some (.int .i64 a') := fun x => (d_ x).cells.2.2.2.2
  clear c_ d_
  have XTX := Lib.hid (fun x : ExtW W => HTX.out x.1 (HX5.out.tr x.2))
  have XD := Lib.hid (fun x : ExtW W => HD.out x.1 (HX5.out.tr x.2))
  refine wp_region_grow (by kernel_rfl) (by kernel_rfl) ?_
  repeat (any_goals (go_big_quiet_step (first | (go_at_call 39; exact grow_of (HC.out _)) | (go_at_call 38; exact grow_of (XTX.out _)) | (go_at_call 36; exact grow_of (of9_calls _ _ _ _ _ _)) | (go_at_call 40; exact grow_of (HRT.out _)) | (go_at_call 41; exact grow_of (XD.out _)) | (go_at_call 42; exact grow_of (HRD.out _)) | (go_at_call 43; exact grow_of (HS.out _)) | (go_at_call 44; exact grow_of (HRS.out _)))))
  refine wpQuiet_nil ?_
  rintro v1 ⟨⟨_, hx⟩, rfl⟩
  have h := H3.out.ext hx
  have k := H4.out.ext hx
  have h5 := H5.out.ext hx
  have HX6 := Lib.hid (HX5.out.tr hx)
  clear hx H3 H4 H5 XTX XD c_0 c_1 c_2 c_3 c_4 d_0 d_1 d_2 d_3 d_4
  have c_ : ∀ x : ExtW v1, Five x.1 w.heap.size 54 c n f t a := fun x => h.ext x.2
  have d_ : ∀ x : ExtW v1, Five x.1 (w.heap.size + 1) 54 c n f' t' a' := fun x => k.ext x.2
  have e_ : ∀ x : ExtW v1, Five x.1 w5.heap.size 54 c n f t a := fun x => h5.ext x.2
  have c_0 : ∀ x : ExtW v1, x.1.cell? ⟨w.heap.size, 0, none⟩ = some (.int .i64 c) := fun x => (c_ x).cells.1
  have c_1 : ∀ x : ExtW v1, x.1.cell? ⟨w.heap.size, 1, none⟩ = some (.int .i64 n) := fun x => (c_ x).cells.2.1
  have c_2 : ∀ x : ExtW v1, x.1.cell? ⟨w.heap.size, 2, none⟩ = some (.int .i64 f) := fun x => (c_ x).cells.2.2.1
  have c_3 : ∀ x : ExtW v1, x.1.cell? ⟨w.heap.size, 3, none⟩ = some (.int .i64 t) := fun x => (c_ x).cells.2.2.2.1
  have c_4 : ∀ x : ExtW v1, x.1.cell? ⟨w.heap.size, 4, none⟩ = some (.int .i64 a) := fun x => (c_ x).cells.2.2.2.2
  have d_0 : ∀ x : ExtW v1, x.1.cell? ⟨w.heap.size + 1, 0, none⟩ = some (.int .i64 c) := fun x => (d_ x).cells.1
  have d_1 : ∀ x : ExtW v1, x.1.cell? ⟨w.heap.size + 1, 1, none⟩ = some (.int .i64 n) := fun x => (d_ x).cells.2.1
  have d_2 : ∀ x : ExtW v1, x.1.cell? ⟨w.heap.size + 1, 2, none⟩ = some (.int .i64 f') := fun x => (d_ x).cells.2.2.1
  have d_3 : ∀ x : ExtW v1, x.1.cell? ⟨w.heap.size + 1, 3, none⟩ = some (.int .i64 t') := fun x => (d_ x).cells.2.2.2.1
  have d_4 : ∀ x : ExtW v1, x.1.cell? ⟨w.heap.size + 1, 4, none⟩ = some (.int .i64 a') := fun x => (d_ x).cells.2.2.2.2
  have e_0 : ∀ x : ExtW v1, x.1.cell? ⟨w5.heap.size, 0, none⟩ = some (.int .i64 c) := fun x => (e_ x).cells.1
  have e_1 : ∀ x : ExtW v1, x.1.cell? ⟨w5.heap.size, 1, none⟩ = some (.int .i64 n) := fun x => (e_ x).cells.2.1
  have e_2 : ∀ x : ExtW v1, x.1.cell? ⟨w5.heap.size, 2, none⟩ = some (.int .i64 f) := fun x => (e_ x).cells.2.2.1
  have e_3 : ∀ x : ExtW v1, x.1.cell? ⟨w5.heap.size, 3, none⟩ = some (.int .i64 t) := fun x => (e_ x).cells.2.2.2.1
  have e_4 : ∀ x : ExtW v1, x.1.cell? ⟨w5.heap.size, 4, none⟩ = some (.int .i64 a) := fun x => (e_ x).cells.2.2.2.2
  clear c_ d_ e_ h k h5
  have XTZ := Lib.hid (show ∀ (x : ExtW v1) (v : Value) (s : ByteArray), (v = cV c n f t a ∧ s = T) ∨ (v = cV c n f' t' a' ∧ s = T2) → Calls Tryz.prog 38 #[v] x.1 fun e w' => e = .returned (.string s) ∧ Ext x.1 w' from fun x v s h => by
    rcases h with ⟨rfl, rfl⟩ | ⟨rfl, rfl⟩
    · exact HTX.out x.1 (HX6.out.tr x.2)
    · exact HTY.out x.1 (HX6.out.tr x.2))
  go_wp2_with fail
  refine wp_region_grow (by kernel_rfl) (by kernel_rfl) ?_
  repeat (any_goals (go_big_quiet_step ((go_at_call 38; first | exact grow_of (XTZ.out _ _ _ (.inl ⟨rfl, rfl⟩)) | exact grow_of (XTZ.out _ _ _ (.inr ⟨rfl, rfl⟩))))))
  refine wpQuiet_nil ?_
  rintro _ ⟨⟨v2, hx⟩, rfl⟩
  have HX7 := Lib.hid (HX6.out.tr hx)
  clear hx XTZ c_0 c_1 c_2 c_3 c_4 d_0 d_1 d_2 d_3 d_4 e_0 e_1 e_2 e_3 e_4
  go_wp2
  go_ret
  exact ⟨rfl, HX7.out⟩
set_option maxHeartbeats 8000000 in
set_option maxRecDepth 100000 in
theorem any_3_1 (c n f t a t' a' : Int) (h1 : (t == t') = false) (hb : I5 c n f t a) (hb' : I5 c n f t' a') (ho : OkC c n f t a) (hp : parseC (bs (textC c n f t a)) = ((c, n, f, t, a), 0)) (w : World) (hr : RngOk w) (ht : TabOk w) :
    Calls Tryz.prog 9 #[cV c n f t a, cV c n f t' a'] w fun e w' => e = .returned (.bool true) ∧ Ext w w' := by
  have hl := textC_len hb
  have hsz : (textC c n f t a).size ≤ 1099511627776 := by rw [show (textC c n f t a).size = (textC c n f t a).data.toList.length from rfl]; omega
  have HK := Lib.hid (fun W (hx : Ext w W) => known9_calls W (hr.ext hx) (ht.all _ hx))
  have HP := Lib.hid (show ∀ W, Ext w W → Calls Tryz.prog 37 #[.string (textC c n f t a)] W fun e w' => ParseCEnd ((c, n, f, t, a), 0) e ∧ Ext W w' from fun W hx => by
    have hh := cparse_calls (textC c n f t a) hsz W (hr.ext hx)
    rwa [hp] at hh)
  have HTX := Lib.hid (fun W (hx : Ext w W) => ctext_calls c n f t a hb W (ht.all _ hx))
  have HTY := Lib.hid (fun W (hx : Ext w W) => ctext_calls c n f t' a' hb' W (ht.all _ hx))
  have HRT := Lib.hid (fun W => rctext_calls c n f t a hb W)
  have HD := Lib.hid (fun W (hx : Ext w W) => cdig_calls c n f t a hb W (ht.all _ hx))
  have HRD := Lib.hid (fun W => rcdig_calls c n f t a hb W)
  have HC := Lib.hid (show ∀ W, Calls Tryz.prog 39 #[cV c n f t a] W fun e w' => e = .returned (.int .i64 0) ∧ Ext W w' from fun W => by
    have hh := ccheck_calls c n f t a W
    rwa [codeC_zero ho] at hh)
  have HRC := Lib.hid (show ∀ W, Calls Tryz.prog 35 #[cV c n f t a] W fun e w' => e = .returned (.int .i64 0) ∧ Ext W w' from fun W => by
    have hh := rccheck_calls c n f t a W
    rwa [codeC_zero ho] at hh)
  have HS := Lib.hid (fun W => sameID_calls c n f t a c n f t' a' W)
  have HRS := Lib.hid (fun W => rsameID_calls c n f t a c n f t' a' W)
  have HO := Lib.hid (fun W => of9_calls c n f t a W)
  have h2 := bne_f h1
  have hT : (textC c n f t a).toList ≠ (textC c n f t' a').toList := fun e => by
    have e2 := text_inj hb hb' (by rw [← Lib.bytes_beq_iff] at *; exact beq_iff_eq.1 (by simpa [Lib.bytes_beq_iff] using e))
    simp at e2
    simp [e2] at h1
  have hT1 : ((textC c n f t a).toList == (textC c n f t' a').toList) = false := by simpa using hT
  clear hT
  clear hb hb' hr ht hl hsz ho hp
  generalize digC c n f t a = D at *
  generalize textC c n f t' a' = T2 at *
  generalize textC c n f t a = T at *
  generalize sameB c n c n = B at *
  have hB0 : (B != B) = false := by simp
  go_enter Tryz.func9, Tryz.ntmps9
  go_wp2_with fail
  have h0 := Five.new w 54 c n f t a
  have h3 := h0.ext ((Ext.rfl' _).alloc (.cells #[.int .i64 c, .int .i64 n, .int .i64 f, .int .i64 t', .int .i64 a'] 54))
  have h4 := Five.new (w.alloc (.cells #[.int .i64 c, .int .i64 n, .int .i64 f, .int .i64 t, .int .i64 a] 54)) 54 c n f t' a'
  rw [World.size_alloc] at h4
  have HX0 := Lib.hid (((Ext.rfl' w).alloc (.cells #[.int .i64 c, .int .i64 n, .int .i64 f, .int .i64 t, .int .i64 a] 54)).alloc (.cells #[.int .i64 c, .int .i64 n, .int .i64 f, .int .i64 t', .int .i64 a'] 54))
  clear h0
  generalize (w.alloc (.cells #[.int .i64 c, .int .i64 n, .int .i64 f, .int .i64 t, .int .i64 a] 54)).alloc (.cells #[.int .i64 c, .int .i64 n, .int .i64 f, .int .i64 t', .int .i64 a'] 54) = W0 at *
  have H3 := Lib.hid h3
  have H4 := Lib.hid h4
  clear h3 h4
  refine (HK.out _ HX0.out).mono ?_
  rintro e w1 ⟨rfl, hx⟩
  have h := H3.out.ext hx
  have k := H4.out.ext hx
  have HX1 := Lib.hid (HX0.out.tr hx)
  clear H3 H4 hx
  obtain ⟨c0, c1, c2, c3, c4⟩ := h.cells
  have H3 := Lib.hid h
  have H4 := Lib.hid k
  clear h k
  go_wp2_with fail
  refine (HO.out _).mono ?_
  rintro e w2 ⟨rfl, hx⟩
  have h := H3.out.ext hx
  have k := H4.out.ext hx
  have HX2 := Lib.hid (HX1.out.tr hx)
  clear H3 H4 hx c0 c1 c2 c3 c4
  go_wp2_with fail
  refine (HRC.out _).mono ?_
  rintro e w3 ⟨rfl, hx⟩
  have h := h.ext hx
  have k := k.ext hx
  have HX3 := Lib.hid (HX2.out.tr hx)
  clear hx
  obtain ⟨c0, c1, c2, c3, c4⟩ := h.cells
  have H3 := Lib.hid h
  have H4 := Lib.hid k
  clear h k
  go_wp2_with fail
  refine (HTX.out _ HX3.out).mono ?_
  rintro e w4 ⟨rfl, hx⟩
  have h := H3.out.ext hx
  have k := H4.out.ext hx
  have HX4 := Lib.hid (HX3.out.tr hx)
  clear H3 H4 hx c0 c1 c2 c3 c4
  go_wp2_with fail
  refine (HP.out _ HX4.out).mono ?_
  rintro e w5 ⟨he, hx⟩
  obtain rfl : e = .returned (.tuple #[cV c n f t a, .int .i64 0]) := he
  have hx' := hx.alloc (.cells #[.int .i64 c, .int .i64 n, .int .i64 f, .int .i64 t, .int .i64 a] 54)
  have h := h.ext hx'
  have k := k.ext hx'
  have h5 := Five.new w5 54 c n f t a
  have HX5 := Lib.hid (HX4.out.tr hx')
  clear hx hx'
  go_wp2_with fail
  generalize w5.alloc (.cells #[.int .i64 c, .int .i64 n, .int .i64 f, .int .i64 t, .int .i64 a] 54) = W at *
  have c_ : ∀ x : ExtW W, Five x.1 w.heap.size 54 c n f t a := fun x => h.ext x.2
  have d_ : ∀ x : ExtW W, Five x.1 (w.heap.size + 1) 54 c n f t' a' := fun x => k.ext x.2
  have H5 := Lib.hid h5
  have H3 := Lib.hid h
  have H4 := Lib.hid k
  clear h k h5
  have c_0 : ∀ x : ExtW W, x.1.cell? ⟨w.heap.size, 0, none⟩ = some (.int .i64 c) := fun x => (c_ x).cells.1
  have c_1 : ∀ x : ExtW W, x.1.cell? ⟨w.heap.size, 1, none⟩ = some (.int .i64 n) := fun x => (c_ x).cells.2.1
  have c_2 : ∀ x : ExtW W, x.1.cell? ⟨w.heap.size, 2, none⟩ = some (.int .i64 f) := fun x => (c_ x).cells.2.2.1
  have c_3 : ∀ x : ExtW W, x.1.cell? ⟨w.heap.size, 3, none⟩ = some (.int .i64 t) := fun x => (c_ x).cells.2.2.2.1
  have c_4 : ∀ x : ExtW W, x.1.cell? ⟨w.heap.size, 4, none⟩ = some (.int .i64 a) := fun x => (c_ x).cells.2.2.2.2
  have d_0 : ∀ x : ExtW W, x.1.cell? ⟨w.heap.size + 1, 0, none⟩ = some (.int .i64 c) := fun x => (d_ x).cells.1
  have d_1 : ∀ x : ExtW W, x.1.cell? ⟨w.heap.size + 1, 1, none⟩ = some (.int .i64 n) := fun x => (d_ x).cells.2.1
  have d_2 : ∀ x : ExtW W, x.1.cell? ⟨w.heap.size + 1, 2, none⟩ = some (.int .i64 f) := fun x => (d_ x).cells.2.2.1
  have d_3 : ∀ x : ExtW W, x.1.cell? ⟨w.heap.size + 1, 3, none⟩ = some (.int .i64 t') := fun x => (d_ x).cells.2.2.2.1
  have d_4 : ∀ x : ExtW W, x.1.cell? ⟨w.heap.size + 1, 4, none⟩ = some (.int .i64 a') := fun x => (d_ x).cells.2.2.2.2
  clear c_ d_
  have XTX := Lib.hid (fun x : ExtW W => HTX.out x.1 (HX5.out.tr x.2))
  have XD := Lib.hid (fun x : ExtW W => HD.out x.1 (HX5.out.tr x.2))
  refine wp_region_grow (by kernel_rfl) (by kernel_rfl) ?_
  repeat (any_goals (go_big_quiet_step (first | (go_at_call 39; exact grow_of (HC.out _)) | (go_at_call 38; exact grow_of (XTX.out _)) | (go_at_call 36; exact grow_of (of9_calls _ _ _ _ _ _)) | (go_at_call 40; exact grow_of (HRT.out _)) | (go_at_call 41; exact grow_of (XD.out _)) | (go_at_call 42; exact grow_of (HRD.out _)) | (go_at_call 43; exact grow_of (HS.out _)) | (go_at_call 44; exact grow_of (HRS.out _)))))
  refine wpQuiet_nil ?_
  rintro v1 ⟨⟨_, hx⟩, rfl⟩
  have h := H3.out.ext hx
  have k := H4.out.ext hx
  have h5 := H5.out.ext hx
  have HX6 := Lib.hid (HX5.out.tr hx)
  clear hx H3 H4 H5 XTX XD c_0 c_1 c_2 c_3 c_4 d_0 d_1 d_2 d_3 d_4
  have c_ : ∀ x : ExtW v1, Five x.1 w.heap.size 54 c n f t a := fun x => h.ext x.2
  have d_ : ∀ x : ExtW v1, Five x.1 (w.heap.size + 1) 54 c n f t' a' := fun x => k.ext x.2
  have e_ : ∀ x : ExtW v1, Five x.1 w5.heap.size 54 c n f t a := fun x => h5.ext x.2
  have c_0 : ∀ x : ExtW v1, x.1.cell? ⟨w.heap.size, 0, none⟩ = some (.int .i64 c) := fun x => (c_ x).cells.1
  have c_1 : ∀ x : ExtW v1, x.1.cell? ⟨w.heap.size, 1, none⟩ = some (.int .i64 n) := fun x => (c_ x).cells.2.1
  have c_2 : ∀ x : ExtW v1, x.1.cell? ⟨w.heap.size, 2, none⟩ = some (.int .i64 f) := fun x => (c_ x).cells.2.2.1
  have c_3 : ∀ x : ExtW v1, x.1.cell? ⟨w.heap.size, 3, none⟩ = some (.int .i64 t) := fun x => (c_ x).cells.2.2.2.1
  have c_4 : ∀ x : ExtW v1, x.1.cell? ⟨w.heap.size, 4, none⟩ = some (.int .i64 a) := fun x => (c_ x).cells.2.2.2.2
  have d_0 : ∀ x : ExtW v1, x.1.cell? ⟨w.heap.size + 1, 0, none⟩ = some (.int .i64 c) := fun x => (d_ x).cells.1
  have d_1 : ∀ x : ExtW v1, x.1.cell? ⟨w.heap.size + 1, 1, none⟩ = some (.int .i64 n) := fun x => (d_ x).cells.2.1
  have d_2 : ∀ x : ExtW v1, x.1.cell? ⟨w.heap.size + 1, 2, none⟩ = some (.int .i64 f) := fun x => (d_ x).cells.2.2.1
  have d_3 : ∀ x : ExtW v1, x.1.cell? ⟨w.heap.size + 1, 3, none⟩ = some (.int .i64 t') := fun x => (d_ x).cells.2.2.2.1
  have d_4 : ∀ x : ExtW v1, x.1.cell? ⟨w.heap.size + 1, 4, none⟩ = some (.int .i64 a') := fun x => (d_ x).cells.2.2.2.2
  have e_0 : ∀ x : ExtW v1, x.1.cell? ⟨w5.heap.size, 0, none⟩ = some (.int .i64 c) := fun x => (e_ x).cells.1
  have e_1 : ∀ x : ExtW v1, x.1.cell? ⟨w5.heap.size, 1, none⟩ = some (.int .i64 n) := fun x => (e_ x).cells.2.1
  have e_2 : ∀ x : ExtW v1, x.1.cell? ⟨w5.heap.size, 2, none⟩ = some (.int .i64 f) := fun x => (e_ x).cells.2.2.1
  have e_3 : ∀ x : ExtW v1, x.1.cell? ⟨w5.heap.size, 3, none⟩ = some (.int .i64 t) := fun x => (e_ x).cells.2.2.2.1
  have e_4 : ∀ x : ExtW v1, x.1.cell? ⟨w5.heap.size, 4, none⟩ = some (.int .i64 a) := fun x => (e_ x).cells.2.2.2.2
  clear c_ d_ e_ h k h5
  have XTZ := Lib.hid (show ∀ (x : ExtW v1) (v : Value) (s : ByteArray), (v = cV c n f t a ∧ s = T) ∨ (v = cV c n f t' a' ∧ s = T2) → Calls Tryz.prog 38 #[v] x.1 fun e w' => e = .returned (.string s) ∧ Ext x.1 w' from fun x v s h => by
    rcases h with ⟨rfl, rfl⟩ | ⟨rfl, rfl⟩
    · exact HTX.out x.1 (HX6.out.tr x.2)
    · exact HTY.out x.1 (HX6.out.tr x.2))
  go_wp2_with fail
  refine wp_region_grow (by kernel_rfl) (by kernel_rfl) ?_
  repeat (any_goals (go_big_quiet_step ((go_at_call 38; first | exact grow_of (XTZ.out _ _ _ (.inl ⟨rfl, rfl⟩)) | exact grow_of (XTZ.out _ _ _ (.inr ⟨rfl, rfl⟩))))))
  refine wpQuiet_nil ?_
  rintro _ ⟨⟨v2, hx⟩, rfl⟩
  have HX7 := Lib.hid (HX6.out.tr hx)
  clear hx XTZ c_0 c_1 c_2 c_3 c_4 d_0 d_1 d_2 d_3 d_4 e_0 e_1 e_2 e_3 e_4
  go_wp2
  go_ret
  exact ⟨rfl, HX7.out⟩
set_option maxHeartbeats 8000000 in
set_option maxRecDepth 100000 in
theorem any_4_1 (c n f t a a' : Int) (h1 : (a == a') = false) (hb : I5 c n f t a) (hb' : I5 c n f t a') (ho : OkC c n f t a) (hp : parseC (bs (textC c n f t a)) = ((c, n, f, t, a), 0)) (w : World) (hr : RngOk w) (ht : TabOk w) :
    Calls Tryz.prog 9 #[cV c n f t a, cV c n f t a'] w fun e w' => e = .returned (.bool true) ∧ Ext w w' := by
  have hl := textC_len hb
  have hsz : (textC c n f t a).size ≤ 1099511627776 := by rw [show (textC c n f t a).size = (textC c n f t a).data.toList.length from rfl]; omega
  have HK := Lib.hid (fun W (hx : Ext w W) => known9_calls W (hr.ext hx) (ht.all _ hx))
  have HP := Lib.hid (show ∀ W, Ext w W → Calls Tryz.prog 37 #[.string (textC c n f t a)] W fun e w' => ParseCEnd ((c, n, f, t, a), 0) e ∧ Ext W w' from fun W hx => by
    have hh := cparse_calls (textC c n f t a) hsz W (hr.ext hx)
    rwa [hp] at hh)
  have HTX := Lib.hid (fun W (hx : Ext w W) => ctext_calls c n f t a hb W (ht.all _ hx))
  have HTY := Lib.hid (fun W (hx : Ext w W) => ctext_calls c n f t a' hb' W (ht.all _ hx))
  have HRT := Lib.hid (fun W => rctext_calls c n f t a hb W)
  have HD := Lib.hid (fun W (hx : Ext w W) => cdig_calls c n f t a hb W (ht.all _ hx))
  have HRD := Lib.hid (fun W => rcdig_calls c n f t a hb W)
  have HC := Lib.hid (show ∀ W, Calls Tryz.prog 39 #[cV c n f t a] W fun e w' => e = .returned (.int .i64 0) ∧ Ext W w' from fun W => by
    have hh := ccheck_calls c n f t a W
    rwa [codeC_zero ho] at hh)
  have HRC := Lib.hid (show ∀ W, Calls Tryz.prog 35 #[cV c n f t a] W fun e w' => e = .returned (.int .i64 0) ∧ Ext W w' from fun W => by
    have hh := rccheck_calls c n f t a W
    rwa [codeC_zero ho] at hh)
  have HS := Lib.hid (fun W => sameID_calls c n f t a c n f t a' W)
  have HRS := Lib.hid (fun W => rsameID_calls c n f t a c n f t a' W)
  have HO := Lib.hid (fun W => of9_calls c n f t a W)
  have h2 := bne_f h1
  have hT : (textC c n f t a).toList ≠ (textC c n f t a').toList := fun e => by
    have e2 := text_inj hb hb' (by rw [← Lib.bytes_beq_iff] at *; exact beq_iff_eq.1 (by simpa [Lib.bytes_beq_iff] using e))
    simp at e2
    simp [e2] at h1
  have hT1 : ((textC c n f t a).toList == (textC c n f t a').toList) = false := by simpa using hT
  clear hT
  clear hb hb' hr ht hl hsz ho hp
  generalize digC c n f t a = D at *
  generalize textC c n f t a' = T2 at *
  generalize textC c n f t a = T at *
  generalize sameB c n c n = B at *
  have hB0 : (B != B) = false := by simp
  go_enter Tryz.func9, Tryz.ntmps9
  go_wp2_with fail
  have h0 := Five.new w 54 c n f t a
  have h3 := h0.ext ((Ext.rfl' _).alloc (.cells #[.int .i64 c, .int .i64 n, .int .i64 f, .int .i64 t, .int .i64 a'] 54))
  have h4 := Five.new (w.alloc (.cells #[.int .i64 c, .int .i64 n, .int .i64 f, .int .i64 t, .int .i64 a] 54)) 54 c n f t a'
  rw [World.size_alloc] at h4
  have HX0 := Lib.hid (((Ext.rfl' w).alloc (.cells #[.int .i64 c, .int .i64 n, .int .i64 f, .int .i64 t, .int .i64 a] 54)).alloc (.cells #[.int .i64 c, .int .i64 n, .int .i64 f, .int .i64 t, .int .i64 a'] 54))
  clear h0
  generalize (w.alloc (.cells #[.int .i64 c, .int .i64 n, .int .i64 f, .int .i64 t, .int .i64 a] 54)).alloc (.cells #[.int .i64 c, .int .i64 n, .int .i64 f, .int .i64 t, .int .i64 a'] 54) = W0 at *
  have H3 := Lib.hid h3
  have H4 := Lib.hid h4
  clear h3 h4
  refine (HK.out _ HX0.out).mono ?_
  rintro e w1 ⟨rfl, hx⟩
  have h := H3.out.ext hx
  have k := H4.out.ext hx
  have HX1 := Lib.hid (HX0.out.tr hx)
  clear H3 H4 hx
  obtain ⟨c0, c1, c2, c3, c4⟩ := h.cells
  have H3 := Lib.hid h
  have H4 := Lib.hid k
  clear h k
  go_wp2_with fail
  refine (HO.out _).mono ?_
  rintro e w2 ⟨rfl, hx⟩
  have h := H3.out.ext hx
  have k := H4.out.ext hx
  have HX2 := Lib.hid (HX1.out.tr hx)
  clear H3 H4 hx c0 c1 c2 c3 c4
  go_wp2_with fail
  refine (HRC.out _).mono ?_
  rintro e w3 ⟨rfl, hx⟩
  have h := h.ext hx
  have k := k.ext hx
  have HX3 := Lib.hid (HX2.out.tr hx)
  clear hx
  obtain ⟨c0, c1, c2, c3, c4⟩ := h.cells
  have H3 := Lib.hid h
  have H4 := Lib.hid k
  clear h k
  go_wp2_with fail
  refine (HTX.out _ HX3.out).mono ?_
  rintro e w4 ⟨rfl, hx⟩
  have h := H3.out.ext hx
  have k := H4.out.ext hx
  have HX4 := Lib.hid (HX3.out.tr hx)
  clear H3 H4 hx c0 c1 c2 c3 c4
  go_wp2_with fail
  refine (HP.out _ HX4.out).mono ?_
  rintro e w5 ⟨he, hx⟩
  obtain rfl : e = .returned (.tuple #[cV c n f t a, .int .i64 0]) := he
  have hx' := hx.alloc (.cells #[.int .i64 c, .int .i64 n, .int .i64 f, .int .i64 t, .int .i64 a] 54)
  have h := h.ext hx'
  have k := k.ext hx'
  have h5 := Five.new w5 54 c n f t a
  have HX5 := Lib.hid (HX4.out.tr hx')
  clear hx hx'
  go_wp2_with fail
  generalize w5.alloc (.cells #[.int .i64 c, .int .i64 n, .int .i64 f, .int .i64 t, .int .i64 a] 54) = W at *
  have c_ : ∀ x : ExtW W, Five x.1 w.heap.size 54 c n f t a := fun x => h.ext x.2
  have d_ : ∀ x : ExtW W, Five x.1 (w.heap.size + 1) 54 c n f t a' := fun x => k.ext x.2
  have H5 := Lib.hid h5
  have H3 := Lib.hid h
  have H4 := Lib.hid k
  clear h k h5
  have c_0 : ∀ x : ExtW W, x.1.cell? ⟨w.heap.size, 0, none⟩ = some (.int .i64 c) := fun x => (c_ x).cells.1
  have c_1 : ∀ x : ExtW W, x.1.cell? ⟨w.heap.size, 1, none⟩ = some (.int .i64 n) := fun x => (c_ x).cells.2.1
  have c_2 : ∀ x : ExtW W, x.1.cell? ⟨w.heap.size, 2, none⟩ = some (.int .i64 f) := fun x => (c_ x).cells.2.2.1
  have c_3 : ∀ x : ExtW W, x.1.cell? ⟨w.heap.size, 3, none⟩ = some (.int .i64 t) := fun x => (c_ x).cells.2.2.2.1
  have c_4 : ∀ x : ExtW W, x.1.cell? ⟨w.heap.size, 4, none⟩ = some (.int .i64 a) := fun x => (c_ x).cells.2.2.2.2
  have d_0 : ∀ x : ExtW W, x.1.cell? ⟨w.heap.size + 1, 0, none⟩ = some (.int .i64 c) := fun x => (d_ x).cells.1
  have d_1 : ∀ x : ExtW W, x.1.cell? ⟨w.heap.size + 1, 1, none⟩ = some (.int .i64 n) := fun x => (d_ x).cells.2.1
  have d_2 : ∀ x : ExtW W, x.1.cell? ⟨w.heap.size + 1, 2, none⟩ = some (.int .i64 f) := fun x => (d_ x).cells.2.2.1
  have d_3 : ∀ x : ExtW W, x.1.cell? ⟨w.heap.size + 1, 3, none⟩ = some (.int .i64 t) := fun x => (d_ x).cells.2.2.2.1
  have d_4 : ∀ x : ExtW W, x.1.cell? ⟨w.heap.size + 1, 4, none⟩ = some (.int .i64 a') := fun x => (d_ x).cells.2.2.2.2
  clear c_ d_
  have XTX := Lib.hid (fun x : ExtW W => HTX.out x.1 (HX5.out.tr x.2))
  have XD := Lib.hid (fun x : ExtW W => HD.out x.1 (HX5.out.tr x.2))
  refine wp_region_grow (by kernel_rfl) (by kernel_rfl) ?_
  repeat (any_goals (go_big_quiet_step (first | (go_at_call 39; exact grow_of (HC.out _)) | (go_at_call 38; exact grow_of (XTX.out _)) | (go_at_call 36; exact grow_of (of9_calls _ _ _ _ _ _)) | (go_at_call 40; exact grow_of (HRT.out _)) | (go_at_call 41; exact grow_of (XD.out _)) | (go_at_call 42; exact grow_of (HRD.out _)) | (go_at_call 43; exact grow_of (HS.out _)) | (go_at_call 44; exact grow_of (HRS.out _)))))
  refine wpQuiet_nil ?_
  rintro v1 ⟨⟨_, hx⟩, rfl⟩
  have h := H3.out.ext hx
  have k := H4.out.ext hx
  have h5 := H5.out.ext hx
  have HX6 := Lib.hid (HX5.out.tr hx)
  clear hx H3 H4 H5 XTX XD c_0 c_1 c_2 c_3 c_4 d_0 d_1 d_2 d_3 d_4
  have c_ : ∀ x : ExtW v1, Five x.1 w.heap.size 54 c n f t a := fun x => h.ext x.2
  have d_ : ∀ x : ExtW v1, Five x.1 (w.heap.size + 1) 54 c n f t a' := fun x => k.ext x.2
  have e_ : ∀ x : ExtW v1, Five x.1 w5.heap.size 54 c n f t a := fun x => h5.ext x.2
  have c_0 : ∀ x : ExtW v1, x.1.cell? ⟨w.heap.size, 0, none⟩ = some (.int .i64 c) := fun x => (c_ x).cells.1
  have c_1 : ∀ x : ExtW v1, x.1.cell? ⟨w.heap.size, 1, none⟩ = some (.int .i64 n) := fun x => (c_ x).cells.2.1
  have c_2 : ∀ x : ExtW v1, x.1.cell? ⟨w.heap.size, 2, none⟩ = some (.int .i64 f) := fun x => (c_ x).cells.2.2.1
  have c_3 : ∀ x : ExtW v1, x.1.cell? ⟨w.heap.size, 3, none⟩ = some (.int .i64 t) := fun x => (c_ x).cells.2.2.2.1
  have c_4 : ∀ x : ExtW v1, x.1.cell? ⟨w.heap.size, 4, none⟩ = some (.int .i64 a) := fun x => (c_ x).cells.2.2.2.2
  have d_0 : ∀ x : ExtW v1, x.1.cell? ⟨w.heap.size + 1, 0, none⟩ = some (.int .i64 c) := fun x => (d_ x).cells.1
  have d_1 : ∀ x : ExtW v1, x.1.cell? ⟨w.heap.size + 1, 1, none⟩ = some (.int .i64 n) := fun x => (d_ x).cells.2.1
  have d_2 : ∀ x : ExtW v1, x.1.cell? ⟨w.heap.size + 1, 2, none⟩ = some (.int .i64 f) := fun x => (d_ x).cells.2.2.1
  have d_3 : ∀ x : ExtW v1, x.1.cell? ⟨w.heap.size + 1, 3, none⟩ = some (.int .i64 t) := fun x => (d_ x).cells.2.2.2.1
  have d_4 : ∀ x : ExtW v1, x.1.cell? ⟨w.heap.size + 1, 4, none⟩ = some (.int .i64 a') := fun x => (d_ x).cells.2.2.2.2
  have e_0 : ∀ x : ExtW v1, x.1.cell? ⟨w5.heap.size, 0, none⟩ = some (.int .i64 c) := fun x => (e_ x).cells.1
  have e_1 : ∀ x : ExtW v1, x.1.cell? ⟨w5.heap.size, 1, none⟩ = some (.int .i64 n) := fun x => (e_ x).cells.2.1
  have e_2 : ∀ x : ExtW v1, x.1.cell? ⟨w5.heap.size, 2, none⟩ = some (.int .i64 f) := fun x => (e_ x).cells.2.2.1
  have e_3 : ∀ x : ExtW v1, x.1.cell? ⟨w5.heap.size, 3, none⟩ = some (.int .i64 t) := fun x => (e_ x).cells.2.2.2.1
  have e_4 : ∀ x : ExtW v1, x.1.cell? ⟨w5.heap.size, 4, none⟩ = some (.int .i64 a) := fun x => (e_ x).cells.2.2.2.2
  clear c_ d_ e_ h k h5
  have XTZ := Lib.hid (show ∀ (x : ExtW v1) (v : Value) (s : ByteArray), (v = cV c n f t a ∧ s = T) ∨ (v = cV c n f t a' ∧ s = T2) → Calls Tryz.prog 38 #[v] x.1 fun e w' => e = .returned (.string s) ∧ Ext x.1 w' from fun x v s h => by
    rcases h with ⟨rfl, rfl⟩ | ⟨rfl, rfl⟩
    · exact HTX.out x.1 (HX6.out.tr x.2)
    · exact HTY.out x.1 (HX6.out.tr x.2))
  go_wp2_with fail
  refine wp_region_grow (by kernel_rfl) (by kernel_rfl) ?_
  repeat (any_goals (go_big_quiet_step ((go_at_call 38; first | exact grow_of (XTZ.out _ _ _ (.inl ⟨rfl, rfl⟩)) | exact grow_of (XTZ.out _ _ _ (.inr ⟨rfl, rfl⟩))))))
  refine wpQuiet_nil ?_
  rintro _ ⟨⟨v2, hx⟩, rfl⟩
  have HX7 := Lib.hid (HX6.out.tr hx)
  clear hx XTZ c_0 c_1 c_2 c_3 c_4 d_0 d_1 d_2 d_3 d_4 e_0 e_1 e_2 e_3 e_4
  go_wp2
  go_ret
  exact ⟨rfl, HX7.out⟩
set_option maxHeartbeats 8000000 in
set_option maxRecDepth 100000 in
theorem any_5_1 (c n f t a : Int) (hb : I5 c n f t a) (hb' : I5 c n f t a) (ho : OkC c n f t a) (hp : parseC (bs (textC c n f t a)) = ((c, n, f, t, a), 0)) (w : World) (hr : RngOk w) (ht : TabOk w) :
    Calls Tryz.prog 9 #[cV c n f t a, cV c n f t a] w fun e w' => e = .returned (.bool true) ∧ Ext w w' := by
  have hl := textC_len hb
  have hsz : (textC c n f t a).size ≤ 1099511627776 := by rw [show (textC c n f t a).size = (textC c n f t a).data.toList.length from rfl]; omega
  have HK := Lib.hid (fun W (hx : Ext w W) => known9_calls W (hr.ext hx) (ht.all _ hx))
  have HP := Lib.hid (show ∀ W, Ext w W → Calls Tryz.prog 37 #[.string (textC c n f t a)] W fun e w' => ParseCEnd ((c, n, f, t, a), 0) e ∧ Ext W w' from fun W hx => by
    have hh := cparse_calls (textC c n f t a) hsz W (hr.ext hx)
    rwa [hp] at hh)
  have HTX := Lib.hid (fun W (hx : Ext w W) => ctext_calls c n f t a hb W (ht.all _ hx))
  have HTY := Lib.hid (fun W (hx : Ext w W) => ctext_calls c n f t a hb' W (ht.all _ hx))
  have HRT := Lib.hid (fun W => rctext_calls c n f t a hb W)
  have HD := Lib.hid (fun W (hx : Ext w W) => cdig_calls c n f t a hb W (ht.all _ hx))
  have HRD := Lib.hid (fun W => rcdig_calls c n f t a hb W)
  have HC := Lib.hid (show ∀ W, Calls Tryz.prog 39 #[cV c n f t a] W fun e w' => e = .returned (.int .i64 0) ∧ Ext W w' from fun W => by
    have hh := ccheck_calls c n f t a W
    rwa [codeC_zero ho] at hh)
  have HRC := Lib.hid (show ∀ W, Calls Tryz.prog 35 #[cV c n f t a] W fun e w' => e = .returned (.int .i64 0) ∧ Ext W w' from fun W => by
    have hh := rccheck_calls c n f t a W
    rwa [codeC_zero ho] at hh)
  have HS := Lib.hid (fun W => sameID_calls c n f t a c n f t a W)
  have HRS := Lib.hid (fun W => rsameID_calls c n f t a c n f t a W)
  have HO := Lib.hid (fun W => of9_calls c n f t a W)
  clear hb hb' hr ht hl hsz ho hp
  generalize digC c n f t a = D at *
  generalize textC c n f t a = T at *
  generalize sameB c n c n = B at *
  have hB0 : (B != B) = false := by simp
  go_enter Tryz.func9, Tryz.ntmps9
  go_wp2_with fail
  have h0 := Five.new w 54 c n f t a
  have h3 := h0.ext ((Ext.rfl' _).alloc (.cells #[.int .i64 c, .int .i64 n, .int .i64 f, .int .i64 t, .int .i64 a] 54))
  have h4 := Five.new (w.alloc (.cells #[.int .i64 c, .int .i64 n, .int .i64 f, .int .i64 t, .int .i64 a] 54)) 54 c n f t a
  rw [World.size_alloc] at h4
  have HX0 := Lib.hid (((Ext.rfl' w).alloc (.cells #[.int .i64 c, .int .i64 n, .int .i64 f, .int .i64 t, .int .i64 a] 54)).alloc (.cells #[.int .i64 c, .int .i64 n, .int .i64 f, .int .i64 t, .int .i64 a] 54))
  clear h0
  generalize (w.alloc (.cells #[.int .i64 c, .int .i64 n, .int .i64 f, .int .i64 t, .int .i64 a] 54)).alloc (.cells #[.int .i64 c, .int .i64 n, .int .i64 f, .int .i64 t, .int .i64 a] 54) = W0 at *
  have H3 := Lib.hid h3
  have H4 := Lib.hid h4
  clear h3 h4
  refine (HK.out _ HX0.out).mono ?_
  rintro e w1 ⟨rfl, hx⟩
  have h := H3.out.ext hx
  have k := H4.out.ext hx
  have HX1 := Lib.hid (HX0.out.tr hx)
  clear H3 H4 hx
  obtain ⟨c0, c1, c2, c3, c4⟩ := h.cells
  have H3 := Lib.hid h
  have H4 := Lib.hid k
  clear h k
  go_wp2_with fail
  refine (HO.out _).mono ?_
  rintro e w2 ⟨rfl, hx⟩
  have h := H3.out.ext hx
  have k := H4.out.ext hx
  have HX2 := Lib.hid (HX1.out.tr hx)
  clear H3 H4 hx c0 c1 c2 c3 c4
  go_wp2_with fail
  refine (HRC.out _).mono ?_
  rintro e w3 ⟨rfl, hx⟩
  have h := h.ext hx
  have k := k.ext hx
  have HX3 := Lib.hid (HX2.out.tr hx)
  clear hx
  obtain ⟨c0, c1, c2, c3, c4⟩ := h.cells
  have H3 := Lib.hid h
  have H4 := Lib.hid k
  clear h k
  go_wp2_with fail
  refine (HTX.out _ HX3.out).mono ?_
  rintro e w4 ⟨rfl, hx⟩
  have h := H3.out.ext hx
  have k := H4.out.ext hx
  have HX4 := Lib.hid (HX3.out.tr hx)
  clear H3 H4 hx c0 c1 c2 c3 c4
  go_wp2_with fail
  refine (HP.out _ HX4.out).mono ?_
  rintro e w5 ⟨he, hx⟩
  obtain rfl : e = .returned (.tuple #[cV c n f t a, .int .i64 0]) := he
  have hx' := hx.alloc (.cells #[.int .i64 c, .int .i64 n, .int .i64 f, .int .i64 t, .int .i64 a] 54)
  have h := h.ext hx'
  have k := k.ext hx'
  have h5 := Five.new w5 54 c n f t a
  have HX5 := Lib.hid (HX4.out.tr hx')
  clear hx hx'
  go_wp2_with fail
  generalize w5.alloc (.cells #[.int .i64 c, .int .i64 n, .int .i64 f, .int .i64 t, .int .i64 a] 54) = W at *
  have c_ : ∀ x : ExtW W, Five x.1 w.heap.size 54 c n f t a := fun x => h.ext x.2
  have d_ : ∀ x : ExtW W, Five x.1 (w.heap.size + 1) 54 c n f t a := fun x => k.ext x.2
  have H5 := Lib.hid h5
  have H3 := Lib.hid h
  have H4 := Lib.hid k
  clear h k h5
  have c_0 : ∀ x : ExtW W, x.1.cell? ⟨w.heap.size, 0, none⟩ = some (.int .i64 c) := fun x => (c_ x).cells.1
  have c_1 : ∀ x : ExtW W, x.1.cell? ⟨w.heap.size, 1, none⟩ = some (.int .i64 n) := fun x => (c_ x).cells.2.1
  have c_2 : ∀ x : ExtW W, x.1.cell? ⟨w.heap.size, 2, none⟩ = some (.int .i64 f) := fun x => (c_ x).cells.2.2.1
  have c_3 : ∀ x : ExtW W, x.1.cell? ⟨w.heap.size, 3, none⟩ = some (.int .i64 t) := fun x => (c_ x).cells.2.2.2.1
  have c_4 : ∀ x : ExtW W, x.1.cell? ⟨w.heap.size, 4, none⟩ = some (.int .i64 a) := fun x => (c_ x).cells.2.2.2.2
  have d_0 : ∀ x : ExtW W, x.1.cell? ⟨w.heap.size + 1, 0, none⟩ = some (.int .i64 c) := fun x => (d_ x).cells.1
  have d_1 : ∀ x : ExtW W, x.1.cell? ⟨w.heap.size + 1, 1, none⟩ = some (.int .i64 n) := fun x => (d_ x).cells.2.1
  have d_2 : ∀ x : ExtW W, x.1.cell? ⟨w.heap.size + 1, 2, none⟩ = some (.int .i64 f) := fun x => (d_ x).cells.2.2.1
  have d_3 : ∀ x : ExtW W, x.1.cell? ⟨w.heap.size + 1, 3, none⟩ = some (.int .i64 t) := fun x => (d_ x).cells.2.2.2.1
  have d_4 : ∀ x : ExtW W, x.1.cell? ⟨w.heap.size + 1, 4, none⟩ = some (.int .i64 a) := fun x => (d_ x).cells.2.2.2.2
  clear c_ d_
  have XTX := Lib.hid (fun x : ExtW W => HTX.out x.1 (HX5.out.tr x.2))
  have XD := Lib.hid (fun x : ExtW W => HD.out x.1 (HX5.out.tr x.2))
  refine wp_region_grow (by kernel_rfl) (by kernel_rfl) ?_
  repeat (any_goals (go_big_quiet_step (first | (go_at_call 39; exact grow_of (HC.out _)) | (go_at_call 38; exact grow_of (XTX.out _)) | (go_at_call 36; exact grow_of (of9_calls _ _ _ _ _ _)) | (go_at_call 40; exact grow_of (HRT.out _)) | (go_at_call 41; exact grow_of (XD.out _)) | (go_at_call 42; exact grow_of (HRD.out _)) | (go_at_call 43; exact grow_of (HS.out _)) | (go_at_call 44; exact grow_of (HRS.out _)))))
  refine wpQuiet_nil ?_
  rintro v1 ⟨⟨_, hx⟩, rfl⟩
  have h := H3.out.ext hx
  have k := H4.out.ext hx
  have h5 := H5.out.ext hx
  have HX6 := Lib.hid (HX5.out.tr hx)
  clear hx H3 H4 H5 XTX XD c_0 c_1 c_2 c_3 c_4 d_0 d_1 d_2 d_3 d_4
  have c_ : ∀ x : ExtW v1, Five x.1 w.heap.size 54 c n f t a := fun x => h.ext x.2
  have d_ : ∀ x : ExtW v1, Five x.1 (w.heap.size + 1) 54 c n f t a := fun x => k.ext x.2
  have e_ : ∀ x : ExtW v1, Five x.1 w5.heap.size 54 c n f t a := fun x => h5.ext x.2
  have c_0 : ∀ x : ExtW v1, x.1.cell? ⟨w.heap.size, 0, none⟩ = some (.int .i64 c) := fun x => (c_ x).cells.1
  have c_1 : ∀ x : ExtW v1, x.1.cell? ⟨w.heap.size, 1, none⟩ = some (.int .i64 n) := fun x => (c_ x).cells.2.1
  have c_2 : ∀ x : ExtW v1, x.1.cell? ⟨w.heap.size, 2, none⟩ = some (.int .i64 f) := fun x => (c_ x).cells.2.2.1
  have c_3 : ∀ x : ExtW v1, x.1.cell? ⟨w.heap.size, 3, none⟩ = some (.int .i64 t) := fun x => (c_ x).cells.2.2.2.1
  have c_4 : ∀ x : ExtW v1, x.1.cell? ⟨w.heap.size, 4, none⟩ = some (.int .i64 a) := fun x => (c_ x).cells.2.2.2.2
  have d_0 : ∀ x : ExtW v1, x.1.cell? ⟨w.heap.size + 1, 0, none⟩ = some (.int .i64 c) := fun x => (d_ x).cells.1
  have d_1 : ∀ x : ExtW v1, x.1.cell? ⟨w.heap.size + 1, 1, none⟩ = some (.int .i64 n) := fun x => (d_ x).cells.2.1
  have d_2 : ∀ x : ExtW v1, x.1.cell? ⟨w.heap.size + 1, 2, none⟩ = some (.int .i64 f) := fun x => (d_ x).cells.2.2.1
  have d_3 : ∀ x : ExtW v1, x.1.cell? ⟨w.heap.size + 1, 3, none⟩ = some (.int .i64 t) := fun x => (d_ x).cells.2.2.2.1
  have d_4 : ∀ x : ExtW v1, x.1.cell? ⟨w.heap.size + 1, 4, none⟩ = some (.int .i64 a) := fun x => (d_ x).cells.2.2.2.2
  have e_0 : ∀ x : ExtW v1, x.1.cell? ⟨w5.heap.size, 0, none⟩ = some (.int .i64 c) := fun x => (e_ x).cells.1
  have e_1 : ∀ x : ExtW v1, x.1.cell? ⟨w5.heap.size, 1, none⟩ = some (.int .i64 n) := fun x => (e_ x).cells.2.1
  have e_2 : ∀ x : ExtW v1, x.1.cell? ⟨w5.heap.size, 2, none⟩ = some (.int .i64 f) := fun x => (e_ x).cells.2.2.1
  have e_3 : ∀ x : ExtW v1, x.1.cell? ⟨w5.heap.size, 3, none⟩ = some (.int .i64 t) := fun x => (e_ x).cells.2.2.2.1
  have e_4 : ∀ x : ExtW v1, x.1.cell? ⟨w5.heap.size, 4, none⟩ = some (.int .i64 a) := fun x => (e_ x).cells.2.2.2.2
  clear c_ d_ e_ h k h5
  have XTZ := Lib.hid (show ∀ (x : ExtW v1) (v : Value) (s : ByteArray), (v = cV c n f t a ∧ s = T) ∨ (v = cV c n f t a ∧ s = T) → Calls Tryz.prog 38 #[v] x.1 fun e w' => e = .returned (.string s) ∧ Ext x.1 w' from fun x v s h => by
    rcases h with ⟨rfl, rfl⟩ | ⟨rfl, rfl⟩
    · exact HTX.out x.1 (HX6.out.tr x.2)
    · exact HTY.out x.1 (HX6.out.tr x.2))
  go_wp2_with fail
  refine wp_region_grow (by kernel_rfl) (by kernel_rfl) ?_
  repeat (any_goals (go_big_quiet_step ((go_at_call 38; first | exact grow_of (XTZ.out _ _ _ (.inl ⟨rfl, rfl⟩)) | exact grow_of (XTZ.out _ _ _ (.inr ⟨rfl, rfl⟩))))))
  refine wpQuiet_nil ?_
  rintro _ ⟨⟨v2, hx⟩, rfl⟩
  have HX7 := Lib.hid (HX6.out.tr hx)
  clear hx XTZ c_0 c_1 c_2 c_3 c_4 d_0 d_1 d_2 d_3 d_4 e_0 e_1 e_2 e_3 e_4
  go_wp2
  go_ret
  exact ⟨rfl, HX7.out⟩
end Go.Proofs.YtgomondmogpkeaaGreatDoor
