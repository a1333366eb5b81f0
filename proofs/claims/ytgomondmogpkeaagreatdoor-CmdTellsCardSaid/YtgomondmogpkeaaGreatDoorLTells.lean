/- The walk of the law CmdTells. -/
import Derived.Test.YtgomondmogpkeaaGreatDoorWKnown9
import Derived.Test.YtgomondmogpkeaaGreatDoorGrow
set_option linter.unusedVariables false
namespace Go.Proofs.YtgomondmogpkeaaGreatDoor
open Go.RowKit Go.Sort
theorem rd_oneT {w : World} {ad : Addr} {xs : List Value} (h : Rd w (some ad) xs) {j : Nat} {u : Value} (hj : xs[j]? = some u) : w.cell? (ad.add j) = some u := by
  obtain ⟨ad', e, _, hc⟩ := h.at_ (j := j) (u := u) hj
  cases e
  exact hc
set_option maxHeartbeats 4000000 in
set_option maxRecDepth 100000 in
theorem tells_0 (c n f t a c' n' f' t' a' : Int) (h1 : (c == c') = false) (hb : I5 c n f t a) (hb' : I5 c' n' f' t' a') (w : World) (hr : RngOk w) (ht : TabOk w) :
    Calls Tryz.prog 12 #[cV c n f t a, cV c' n' f' t' a'] w fun e w' => e = .returned (.bool true) ∧ Ext w w' := by
  have HK := Lib.hid (fun W (hx : Ext w W) => known9_calls W (hr.ext hx) (ht.all _ hx))
  have HT := Lib.hid ht.all
  have HR := Lib.hid hr
  have hl := textC_len hb
  have hsz : (textC c n f t a).size ≤ 1099511627776 := by rw [show (textC c n f t a).size = (textC c n f t a).data.toList.length from rfl]; omega
  have HP := Lib.hid (show ∀ W, RngOk W → Calls Tryz.prog 22 #[.string (textC c n f t a)] W fun e w' => NumsEnd (.ok [c, n, f, t, a]) e w' ∧ Ext W w' from fun W hW => by
    have hh := pnums_calls (textC c n f t a) hsz W hW
    rwa [show J.pnums (bs (textC c n f t a)) = .ok [c, n, f, t, a] from J.pnums_numsL _ hb.all] at hh)
  have HTX := Lib.hid (fun W hT => ctext_calls c n f t a hb W hT)
  have HD := Lib.hid (fun W hT => cdig_calls c n f t a hb W hT)
  have HS := Lib.hid (fun W => sameID_calls c n f t a c' n' f' t' a' W)
  have HSB := Lib.hid (show sameB c n c' n' = false from by unfold sameB; simp [show ¬ c = c' from by simpa using h1])
  have h2 := bne_f h1
  rw [HSB.out] at HS
  clear hb hb' hr ht hl hsz
  generalize digC c n f t a = D at *
  generalize textC c n f t a = T at *
  go_enter Tryz.func12, Tryz.ntmps12
  go_wp2_with fail
  have h0 := Five.new w 54 c n f t a
  have h3 := h0.ext ((Ext.rfl' _).alloc (.cells #[.int .i64 c', .int .i64 n', .int .i64 f', .int .i64 t', .int .i64 a'] 54))
  have h4 := Five.new (w.alloc (.cells #[.int .i64 c, .int .i64 n, .int .i64 f, .int .i64 t, .int .i64 a] 54)) 54 c' n' f' t' a'
  rw [World.size_alloc] at h4
  have HX0 := Lib.hid (((Ext.rfl' w).alloc (.cells #[.int .i64 c, .int .i64 n, .int .i64 f, .int .i64 t, .int .i64 a] 54)).alloc (.cells #[.int .i64 c', .int .i64 n', .int .i64 f', .int .i64 t', .int .i64 a'] 54))
  clear h0
  generalize (w.alloc (.cells #[.int .i64 c, .int .i64 n, .int .i64 f, .int .i64 t, .int .i64 a] 54)).alloc (.cells #[.int .i64 c', .int .i64 n', .int .i64 f', .int .i64 t', .int .i64 a'] 54) = W0 at *
  have H3 := Lib.hid h3
  have H4 := Lib.hid h4
  clear h3 h4
  refine (HK.out _ HX0.out).mono ?_
  rintro e w1 ⟨rfl, hx⟩
  have h := H3.out.ext hx
  have k := H4.out.ext hx
  have HX1 := Lib.hid (HX0.out.tr hx)
  clear H3 H4 hx
  obtain ⟨c0, c1, c2, c3, c4⟩ := h.cells
  have H3 := Lib.hid h
  have H4 := Lib.hid k
  clear h k
  go_wp2_with fail
  refine (HTX.out _ (HT.out _ HX1.out)).mono ?_
  rintro e w2 ⟨rfl, hx⟩
  have HX2 := Lib.hid (HX1.out.tr hx)
  have h := H3.out.ext hx
  have k := H4.out.ext hx
  clear H3 H4 hx c0 c1 c2 c3 c4
  go_wp2_with fail
  refine (HP.out _ (HR.out.ext HX2.out)).mono ?_
  rintro e w3 ⟨he, hx⟩
  obtain ⟨A, cp, rfl, hA⟩ := he
  have HX3 := Lib.hid (HX2.out.tr hx)
  obtain ⟨ad, rfl, had, q0⟩ := hA.at_ (j := 0) (u := .int .i64 c) rfl
  have q1 := (rd_oneT hA (j := 1) (u := .int .i64 n) rfl)
  have q2 := (rd_oneT hA (j := 2) (u := .int .i64 f) rfl)
  have q3 := (rd_oneT hA (j := 3) (u := .int .i64 t) rfl)
  have q4 := (rd_oneT hA (j := 4) (u := .int .i64 a) rfl)
  have p0 : ∀ x : ExtW w3, x.1.cell? ad = some (.int .i64 c) := fun x => x.2.cell q0
  have p1 : ∀ x : ExtW w3, x.1.cell? ⟨ad.block, ad.off + 1, none⟩ = some (.int .i64 n) := fun x => x.2.cell q1
  have p2 : ∀ x : ExtW w3, x.1.cell? ⟨ad.block, ad.off + 2, none⟩ = some (.int .i64 f) := fun x => x.2.cell q2
  have p3 : ∀ x : ExtW w3, x.1.cell? ⟨ad.block, ad.off + 3, none⟩ = some (.int .i64 t) := fun x => x.2.cell q3
  have p4 : ∀ x : ExtW w3, x.1.cell? ⟨ad.block, ad.off + 4, none⟩ = some (.int .i64 a) := fun x => x.2.cell q4
  have h := h.ext hx
  have k := k.ext hx
  clear hx q0 q1 q2 q3 q4 hA
  have c_ : ∀ x : ExtW w3, Five x.1 w.heap.size 54 c n f t a := fun x => h.ext x.2
  have d_ : ∀ x : ExtW w3, Five x.1 (w.heap.size + 1) 54 c' n' f' t' a' := fun x => k.ext x.2
  have c_0 : ∀ x : ExtW w3, x.1.cell? ⟨w.heap.size, 0, none⟩ = some (.int .i64 c) := fun x => (c_ x).cells.1
  have c_1 : ∀ x : ExtW w3, x.1.cell? ⟨w.heap.size, 1, none⟩ = some (.int .i64 n) := fun x => (c_ x).cells.2.1
  have c_2 : ∀ x : ExtW w3, x.1.cell? ⟨w.heap.size, 2, none⟩ = some (.int .i64 f) := fun x => (c_ x).cells.2.2.1
  have c_3 : ∀ x : ExtW w3, x.1.cell? ⟨w.heap.size, 3, none⟩ = some (.int .i64 t) := fun x => (c_ x).cells.2.2.2.1
  have c_4 : ∀ x : ExtW w3, x.1.cell? ⟨w.heap.size, 4, none⟩ = some (.int .i64 a) := fun x => (c_ x).cells.2.2.2.2
  have d_0 : ∀ x : ExtW w3, x.1.cell? ⟨w.heap.size + 1, 0, none⟩ = some (.int .i64 c') := fun x => (d_ x).cells.1
  have d_1 : ∀ x : ExtW w3, x.1.cell? ⟨w.heap.size + 1, 1, none⟩ = some (.int .i64 n') := fun x => (d_ x).cells.2.1
  have d_2 : ∀ x : ExtW w3, x.1.cell? ⟨w.heap.size + 1, 2, none⟩ = some (.int .i64 f') := fun x => (d_ x).cells.2.2.1
  have d_3 : ∀ x : ExtW w3, x.1.cell? ⟨w.heap.size + 1, 3, none⟩ = some (.int .i64 t') := fun x => (d_ x).cells.2.2.2.1
  have d_4 : ∀ x : ExtW w3, x.1.cell? ⟨w.heap.size + 1, 4, none⟩ = some (.int .i64 a') := fun x => (d_ x).cells.2.2.2.2
  clear c_ d_ h k
  have XD := Lib.hid (fun x : ExtW w3 => HD.out x.1 (HT.out _ (HX3.out.tr x.2)))
  go_wp2_with fail
  refine wp_region_grow (by kernel_rfl) (by kernel_rfl) ?_
  simp only [List.append_eq, List.cons_append, List.nil_append]
  repeat (any_goals (go_big_quiet_step (first | (go_at_call 43; exact grow_of (HS.out _)) | (go_at_call 41; exact grow_of (XD.out _)))))
  refine wpQuiet_nil ?_
  rintro _ ⟨⟨v2, hx⟩, rfl⟩
  have HX7 := Lib.hid (HX3.out.tr hx)
  clear hx XD c_0 c_1 c_2 c_3 c_4 d_0 d_1 d_2 d_3 d_4 p0 p1 p2 p3 p4
  go_wp2
  go_ret
  exact ⟨rfl, HX7.out⟩
set_option maxHeartbeats 4000000 in
set_option maxRecDepth 100000 in
theorem tells_1 (c n f t a n' f' t' a' : Int) (h1 : (n == n') = false) (hb : I5 c n f t a) (hb' : I5 c n' f' t' a') (w : World) (hr : RngOk w) (ht : TabOk w) :
    Calls Tryz.prog 12 #[cV c n f t a, cV c n' f' t' a'] w fun e w' => e = .returned (.bool true) ∧ Ext w w' := by
  have HK := Lib.hid (fun W (hx : Ext w W) => known9_calls W (hr.ext hx) (ht.all _ hx))
  have HT := Lib.hid ht.all
  have HR := Lib.hid hr
  have hl := textC_len hb
  have hsz : (textC c n f t a).size ≤ 1099511627776 := by rw [show (textC c n f t a).size = (textC c n f t a).data.toList.length from rfl]; omega
  have HP := Lib.hid (show ∀ W, RngOk W → Calls Tryz.prog 22 #[.string (textC c n f t a)] W fun e w' => NumsEnd (.ok [c, n, f, t, a]) e w' ∧ Ext W w' from fun W hW => by
    have hh := pnums_calls (textC c n f t a) hsz W hW
    rwa [show J.pnums (bs (textC c n f t a)) = .ok [c, n, f, t, a] from J.pnums_numsL _ hb.all] at hh)
  have HTX := Lib.hid (fun W hT => ctext_calls c n f t a hb W hT)
  have HD := Lib.hid (fun W hT => cdig_calls c n f t a hb W hT)
  have HS := Lib.hid (fun W => sameID_calls c n f t a c n' f' t' a' W)
  have HSB := Lib.hid (show sameB c n c n' = false from by unfold sameB; simp [show ¬ n = n' from by simpa using h1])
  have h2 := bne_f h1
  rw [HSB.out] at HS
  clear hb hb' hr ht hl hsz
  generalize digC c n f t a = D at *
  generalize textC c n f t a = T at *
  go_enter Tryz.func12, Tryz.ntmps12
  go_wp2_with fail
  have h0 := Five.new w 54 c n f t a
  have h3 := h0.ext ((Ext.rfl' _).alloc (.cells #[.int .i64 c, .int .i64 n', .int .i64 f', .int .i64 t', .int .i64 a'] 54))
  have h4 := Five.new (w.alloc (.cells #[.int .i64 c, .int .i64 n, .int .i64 f, .int .i64 t, .int .i64 a] 54)) 54 c n' f' t' a'
  rw [World.size_alloc] at h4
  have HX0 := Lib.hid (((Ext.rfl' w).alloc (.cells #[.int .i64 c, .int .i64 n, .int .i64 f, .int .i64 t, .int .i64 a] 54)).alloc (.cells #[.int .i64 c, .int .i64 n', .int .i64 f', .int .i64 t', .int .i64 a'] 54))
  clear h0
  generalize (w.alloc (.cells #[.int .i64 c, .int .i64 n, .int .i64 f, .int .i64 t, .int .i64 a] 54)).alloc (.cells #[.int .i64 c, .int .i64 n', .int .i64 f', .int .i64 t', .int .i64 a'] 54) = W0 at *
  have H3 := Lib.hid h3
  have H4 := Lib.hid h4
  clear h3 h4
  refine (HK.out _ HX0.out).mono ?_
  rintro e w1 ⟨rfl, hx⟩
  have h := H3.out.ext hx
  have k := H4.out.ext hx
  have HX1 := Lib.hid (HX0.out.tr hx)
  clear H3 H4 hx
  obtain ⟨c0, c1, c2, c3, c4⟩ := h.cells
  have H3 := Lib.hid h
  have H4 := Lib.hid k
  clear h k
  go_wp2_with fail
  refine (HTX.out _ (HT.out _ HX1.out)).mono ?_
  rintro e w2 ⟨rfl, hx⟩
  have HX2 := Lib.hid (HX1.out.tr hx)
  have h := H3.out.ext hx
  have k := H4.out.ext hx
  clear H3 H4 hx c0 c1 c2 c3 c4
  go_wp2_with fail
  refine (HP.out _ (HR.out.ext HX2.out)).mono ?_
  rintro e w3 ⟨he, hx⟩
  obtain ⟨A, cp, rfl, hA⟩ := he
  have HX3 := Lib.hid (HX2.out.tr hx)
  obtain ⟨ad, rfl, had, q0⟩ := hA.at_ (j := 0) (u := .int .i64 c) rfl
  have q1 := (rd_oneT hA (j := 1) (u := .int .i64 n) rfl)
  have q2 := (rd_oneT hA (j := 2) (u := .int .i64 f) rfl)
  have q3 := (rd_oneT hA (j := 3) (u := .int .i64 t) rfl)
  have q4 := (rd_oneT hA (j := 4) (u := .int .i64 a) rfl)
  have p0 : ∀ x : ExtW w3, x.1.cell? ad = some (.int .i64 c) := fun x => x.2.cell q0
  have p1 : ∀ x : ExtW w3, x.1.cell? ⟨ad.block, ad.off + 1, none⟩ = some (.int .i64 n) := fun x => x.2.cell q1
  have p2 : ∀ x : ExtW w3, x.1.cell? ⟨ad.block, ad.off + 2, none⟩ = some (.int .i64 f) := fun x => x.2.cell q2
  have p3 : ∀ x : ExtW w3, x.1.cell? ⟨ad.block, ad.off + 3, none⟩ = some (.int .i64 t) := fun x => x.2.cell q3
  have p4 : ∀ x : ExtW w3, x.1.cell? ⟨ad.block, ad.off + 4, none⟩ = some (.int .i64 a) := fun x => x.2.cell q4
  have h := h.ext hx
  have k := k.ext hx
  clear hx q0 q1 q2 q3 q4 hA
  have c_ : ∀ x : ExtW w3, Five x.1 w.heap.size 54 c n f t a := fun x => h.ext x.2
  have d_ : ∀ x : ExtW w3, Five x.1 (w.heap.size + 1) 54 c n' f' t' a' := fun x => k.ext x.2
  have c_0 : ∀ x : ExtW w3, x.1.cell? ⟨w.heap.size, 0, none⟩ = some (.int .i64 c) := fun x => (c_ x).cells.1
  have c_1 : ∀ x : ExtW w3, x.1.cell? ⟨w.heap.size, 1, none⟩ = some (.int .i64 n) := fun x => (c_ x).cells.2.1
  have c_2 : ∀ x : ExtW w3, x.1.cell? ⟨w.heap.size, 2, none⟩ = some (.int .i64 f) := fun x => (c_ x).cells.2.2.1
  have c_3 : ∀ x : ExtW w3, x.1.cell? ⟨w.heap.size, 3, none⟩ = some (.int .i64 t) := fun x => (c_ x).cells.2.2.2.1
  have c_4 : ∀ x : ExtW w3, x.1.cell? ⟨w.heap.size, 4, none⟩ = some (.int .i64 a) := fun x => (c_ x).cells.2.2.2.2
  have d_0 : ∀ x : ExtW w3, x.1.cell? ⟨w.heap.size + 1, 0, none⟩ = some (.int .i64 c) := fun x => (d_ x).cells.1
  have d_1 : ∀ x : ExtW w3, x.1.cell? ⟨w.heap.size + 1, 1, none⟩ = some (.int .i64 n') := fun x => (d_ x).cells.2.1
  have d_2 : ∀ x : ExtW w3, x.1.cell? ⟨w.heap.size + 1, 2, none⟩ = some (.int .i64 f') := fun x => (d_ x).cells.2.2.1
  have d_3 : ∀ x : ExtW w3, x.1.cell? ⟨w.heap.size + 1, 3, none⟩ = some (.int .i64 t') := fun x => (d_ x).cells.2.2.2.1
  have d_4 : ∀ x : ExtW w3, x.1.cell? ⟨w.heap.size + 1, 4, none⟩ = some (.int .i64 a') := fun x => (d_ x).cells.2.2.2.2
  clear c_ d_ h k
  have XD := Lib.hid (fun x : ExtW w3 => HD.out x.1 (HT.out _ (HX3.out.tr x.2)))
  go_wp2_with fail
  refine wp_region_grow (by kernel_rfl) (by kernel_rfl) ?_
  simp only [List.append_eq, List.cons_append, List.nil_append]
  repeat (any_goals (go_big_quiet_step (first | (go_at_call 43; exact grow_of (HS.out _)) | (go_at_call 41; exact grow_of (XD.out _)))))
  refine wpQuiet_nil ?_
  rintro _ ⟨⟨v2, hx⟩, rfl⟩
  have HX7 := Lib.hid (HX3.out.tr hx)
  clear hx XD c_0 c_1 c_2 c_3 c_4 d_0 d_1 d_2 d_3 d_4 p0 p1 p2 p3 p4
  go_wp2
  go_ret
  exact ⟨rfl, HX7.out⟩
set_option maxHeartbeats 4000000 in
set_option maxRecDepth 100000 in
theorem tells_2 (c n f t a f' t' a' : Int) (h1 : (f == f') = false) (hb : I5 c n f t a) (hb' : I5 c n f' t' a') (w : World) (hr : RngOk w) (ht : TabOk w) :
    Calls Tryz.prog 12 #[cV c n f t a, cV c n f' t' a'] w fun e w' => e = .returned (.bool true) ∧ Ext w w' := by
  have HK := Lib.hid (fun W (hx : Ext w W) => known9_calls W (hr.ext hx) (ht.all _ hx))
  have HT := Lib.hid ht.all
  have HR := Lib.hid hr
  have hl := textC_len hb
  have hsz : (textC c n f t a).size ≤ 1099511627776 := by rw [show (textC c n f t a).size = (textC c n f t a).data.toList.length from rfl]; omega
  have HP := Lib.hid (show ∀ W, RngOk W → Calls Tryz.prog 22 #[.string (textC c n f t a)] W fun e w' => NumsEnd (.ok [c, n, f, t, a]) e w' ∧ Ext W w' from fun W hW => by
    have hh := pnums_calls (textC c n f t a) hsz W hW
    rwa [show J.pnums (bs (textC c n f t a)) = .ok [c, n, f, t, a] from J.pnums_numsL _ hb.all] at hh)
  have HTX := Lib.hid (fun W hT => ctext_calls c n f t a hb W hT)
  have HD := Lib.hid (fun W hT => cdig_calls c n f t a hb W hT)
  have HS := Lib.hid (fun W => sameID_calls c n f t a c n f' t' a' W)
  have HSB := Lib.hid (show sameB c n c n = true from by unfold sameB; simp)
  have h2 := bne_f h1
  rw [HSB.out] at HS
  clear hb hb' hr ht hl hsz
  generalize digC c n f t a = D at *
  generalize textC c n f t a = T at *
  go_enter Tryz.func12, Tryz.ntmps12
  go_wp2_with fail
  have h0 := Five.new w 54 c n f t a
  have h3 := h0.ext ((Ext.rfl' _).alloc (.cells #[.int .i64 c, .int .i64 n, .int .i64 f', .int .i64 t', .int .i64 a'] 54))
  have h4 := Five.new (w.alloc (.cells #[.int .i64 c, .int .i64 n, .int .i64 f, .int .i64 t, .int .i64 a] 54)) 54 c n f' t' a'
  rw [World.size_alloc] at h4
  have HX0 := Lib.hid (((Ext.rfl' w).alloc (.cells #[.int .i64 c, .int .i64 n, .int .i64 f, .int .i64 t, .int .i64 a] 54)).alloc (.cells #[.int .i64 c, .int .i64 n, .int .i64 f', .int .i64 t', .int .i64 a'] 54))
  clear h0
  generalize (w.alloc (.cells #[.int .i64 c, .int .i64 n, .int .i64 f, .int .i64 t, .int .i64 a] 54)).alloc (.cells #[.int .i64 c, .int .i64 n, .int .i64 f', .int .i64 t', .int .i64 a'] 54) = W0 at *
  have H3 := Lib.hid h3
  have H4 := Lib.hid h4
  clear h3 h4
  refine (HK.out _ HX0.out).mono ?_
  rintro e w1 ⟨rfl, hx⟩
  have h := H3.out.ext hx
  have k := H4.out.ext hx
  have HX1 := Lib.hid (HX0.out.tr hx)
  clear H3 H4 hx
  obtain ⟨c0, c1, c2, c3, c4⟩ := h.cells
  have H3 := Lib.hid h
  have H4 := Lib.hid k
  clear h k
  go_wp2_with fail
  refine (HTX.out _ (HT.out _ HX1.out)).mono ?_
  rintro e w2 ⟨rfl, hx⟩
  have HX2 := Lib.hid (HX1.out.tr hx)
  have h := H3.out.ext hx
  have k := H4.out.ext hx
  clear H3 H4 hx c0 c1 c2 c3 c4
  go_wp2_with fail
  refine (HP.out _ (HR.out.ext HX2.out)).mono ?_
  rintro e w3 ⟨he, hx⟩
  obtain ⟨A, cp, rfl, hA⟩ := he
  have HX3 := Lib.hid (HX2.out.tr hx)
  obtain ⟨ad, rfl, had, q0⟩ := hA.at_ (j := 0) (u := .int .i64 c) rfl
  have q1 := (rd_oneT hA (j := 1) (u := .int .i64 n) rfl)
  have q2 := (rd_oneT hA (j := 2) (u := .int .i64 f) rfl)
  have q3 := (rd_oneT hA (j := 3) (u := .int .i64 t) rfl)
  have q4 := (rd_oneT hA (j := 4) (u := .int .i64 a) rfl)
  have p0 : ∀ x : ExtW w3, x.1.cell? ad = some (.int .i64 c) := fun x => x.2.cell q0
  have p1 : ∀ x : ExtW w3, x.1.cell? ⟨ad.block, ad.off + 1, none⟩ = some (.int .i64 n) := fun x => x.2.cell q1
  have p2 : ∀ x : ExtW w3, x.1.cell? ⟨ad.block, ad.off + 2, none⟩ = some (.int .i64 f) := fun x => x.2.cell q2
  have p3 : ∀ x : ExtW w3, x.1.cell? ⟨ad.block, ad.off + 3, none⟩ = some (.int .i64 t) := fun x => x.2.cell q3
  have p4 : ∀ x : ExtW w3, x.1.cell? ⟨ad.block, ad.off + 4, none⟩ = some (.int .i64 a) := fun x => x.2.cell q4
  have h := h.ext hx
  have k := k.ext hx
  clear hx q0 q1 q2 q3 q4 hA
  have c_ : ∀ x : ExtW w3, Five x.1 w.heap.size 54 c n f t a := fun x => h.ext x.2
  have d_ : ∀ x : ExtW w3, Five x.1 (w.heap.size + 1) 54 c n f' t' a' := fun x => k.ext x.2
  have c_0 : ∀ x : ExtW w3, x.1.cell? ⟨w.heap.size, 0, none⟩ = some (.int .i64 c) := fun x => (c_ x).cells.1
  have c_1 : ∀ x : ExtW w3, x.1.cell? ⟨w.heap.size, 1, none⟩ = some (.int .i64 n) := fun x => (c_ x).cells.2.1
  have c_2 : ∀ x : ExtW w3, x.1.cell? ⟨w.heap.size, 2, none⟩ = some (.int .i64 f) := fun x => (c_ x).cells.2.2.1
  have c_3 : ∀ x : ExtW w3, x.1.cell? ⟨w.heap.size, 3, none⟩ = some (.int .i64 t) := fun x => (c_ x).cells.2.2.2.1
  have c_4 : ∀ x : ExtW w3, x.1.cell? ⟨w.heap.size, 4, none⟩ = some (.int .i64 a) := fun x => (c_ x).cells.2.2.2.2
  have d_0 : ∀ x : ExtW w3, x.1.cell? ⟨w.heap.size + 1, 0, none⟩ = some (.int .i64 c) := fun x => (d_ x).cells.1
  have d_1 : ∀ x : ExtW w3, x.1.cell? ⟨w.heap.size + 1, 1, none⟩ = some (.int .i64 n) := fun x => (d_ x).cells.2.1
  have d_2 : ∀ x : ExtW w3, x.1.cell? ⟨w.heap.size + 1, 2, none⟩ = some (.int .i64 f') := fun x => (d_ x).cells.2.2.1
  have d_3 : ∀ x : ExtW w3, x.1.cell? ⟨w.heap.size + 1, 3, none⟩ = some (.int .i64 t') := fun x => (d_ x).cells.2.2.2.1
  have d_4 : ∀ x : ExtW w3, x.1.cell? ⟨w.heap.size + 1, 4, none⟩ = some (.int .i64 a') := fun x => (d_ x).cells.2.2.2.2
  clear c_ d_ h k
  have XD := Lib.hid (fun x : ExtW w3 => HD.out x.1 (HT.out _ (HX3.out.tr x.2)))
  go_wp2_with fail
  refine wp_region_grow (by kernel_rfl) (by kernel_rfl) ?_
  simp only [List.append_eq, List.cons_append, List.nil_append]
  repeat (any_goals (go_big_quiet_step (first | (go_at_call 43; exact grow_of (HS.out _)) | (go_at_call 41; exact grow_of (XD.out _)))))
  refine wpQuiet_nil ?_
  rintro _ ⟨⟨v2, hx⟩, rfl⟩
  have HX7 := Lib.hid (HX3.out.tr hx)
  clear hx XD c_0 c_1 c_2 c_3 c_4 d_0 d_1 d_2 d_3 d_4 p0 p1 p2 p3 p4
  go_wp2
  go_ret
  exact ⟨rfl, HX7.out⟩
set_option maxHeartbeats 4000000 in
set_option maxRecDepth 100000 in
theorem tells_3 (c n f t a t' a' : Int) (h1 : (t == t') = false) (hb : I5 c n f t a) (hb' : I5 c n f t' a') (w : World) (hr : RngOk w) (ht : TabOk w) :
    Calls Tryz.prog 12 #[cV c n f t a, cV c n f t' a'] w fun e w' => e = .returned (.bool true) ∧ Ext w w' := by
  have HK := Lib.hid (fun W (hx : Ext w W) => known9_calls W (hr.ext hx) (ht.all _ hx))
  have HT := Lib.hid ht.all
  have HR := Lib.hid hr
  have hl := textC_len hb
  have hsz : (textC c n f t a).size ≤ 1099511627776 := by rw [show (textC c n f t a).size = (textC c n f t a).data.toList.length from rfl]; omega
  have HP := Lib.hid (show ∀ W, RngOk W → Calls Tryz.prog 22 #[.string (textC c n f t a)] W fun e w' => NumsEnd (.ok [c, n, f, t, a]) e w' ∧ Ext W w' from fun W hW => by
    have hh := pnums_calls (textC c n f t a) hsz W hW
    rwa [show J.pnums (bs (textC c n f t a)) = .ok [c, n, f, t, a] from J.pnums_numsL _ hb.all] at hh)
  have HTX := Lib.hid (fun W hT => ctext_calls c n f t a hb W hT)
  have HD := Lib.hid (fun W hT => cdig_calls c n f t a hb W hT)
  have HS := Lib.hid (fun W => sameID_calls c n f t a c n f t' a' W)
  have HSB := Lib.hid (show sameB c n c n = true from by unfold sameB; simp)
  have h2 := bne_f h1
  rw [HSB.out] at HS
  clear hb hb' hr ht hl hsz
  generalize digC c n f t a = D at *
  generalize textC c n f t a = T at *
  go_enter Tryz.func12, Tryz.ntmps12
  go_wp2_with fail
  have h0 := Five.new w 54 c n f t a
  have h3 := h0.ext ((Ext.rfl' _).alloc (.cells #[.int .i64 c, .int .i64 n, .int .i64 f, .int .i64 t', .int .i64 a'] 54))
  have h4 := Five.new (w.alloc (.cells #[.int .i64 c, .int .i64 n, .int .i64 f, .int .i64 t, .int .i64 a] 54)) 54 c n f t' a'
  rw [World.size_alloc] at h4
  have HX0 := Lib.hid (((Ext.rfl' w).alloc (.cells #[.int .i64 c, .int .i64 n, .int .i64 f, .int .i64 t, .int .i64 a] 54)).alloc (.cells #[.int .i64 c, .int .i64 n, .int .i64 f, .int .i64 t', .int .i64 a'] 54))
  clear h0
  generalize (w.alloc (.cells #[.int .i64 c, .int .i64 n, .int .i64 f, .int .i64 t, .int .i64 a] 54)).alloc (.cells #[.int .i64 c, .int .i64 n, .int .i64 f, .int .i64 t', .int .i64 a'] 54) = W0 at *
  have H3 := Lib.hid h3
  have H4 := Lib.hid h4
  clear h3 h4
  refine (HK.out _ HX0.out).mono ?_
  rintro e w1 ⟨rfl, hx⟩
  have h := H3.out.ext hx
  have k := H4.out.ext hx
  have HX1 := Lib.hid (HX0.out.tr hx)
  clear H3 H4 hx
  obtain ⟨c0, c1, c2, c3, c4⟩ := h.cells
  have H3 := Lib.hid h
  have H4 := Lib.hid k
  clear h k
  go_wp2_with fail
  refine (HTX.out _ (HT.out _ HX1.out)).mono ?_
  rintro e w2 ⟨rfl, hx⟩
  have HX2 := Lib.hid (HX1.out.tr hx)
  have h := H3.out.ext hx
  have k := H4.out.ext hx
  clear H3 H4 hx c0 c1 c2 c3 c4
  go_wp2_with fail
  refine (HP.out _ (HR.out.ext HX2.out)).mono ?_
  rintro e w3 ⟨he, hx⟩
  obtain ⟨A, cp, rfl, hA⟩ := he
  have HX3 := Lib.hid (HX2.out.tr hx)
  obtain ⟨ad, rfl, had, q0⟩ := hA.at_ (j := 0) (u := .int .i64 c) rfl
  have q1 := (rd_oneT hA (j := 1) (u := .int .i64 n) rfl)
  have q2 := (rd_oneT hA (j := 2) (u := .int .i64 f) rfl)
  have q3 := (rd_oneT hA (j := 3) (u := .int .i64 t) rfl)
  have q4 := (rd_oneT hA (j := 4) (u := .int .i64 a) rfl)
  have p0 : ∀ x : ExtW w3, x.1.cell? ad = some (.int .i64 c) := fun x => x.2.cell q0
  have p1 : ∀ x : ExtW w3, x.1.cell? ⟨ad.block, ad.off + 1, none⟩ = some (.int .i64 n) := fun x => x.2.cell q1
  have p2 : ∀ x : ExtW w3, x.1.cell? ⟨ad.block, ad.off + 2, none⟩ = some (.int .i64 f) := fun x => x.2.cell q2
  have p3 : ∀ x : ExtW w3, x.1.cell? ⟨ad.block, ad.off + 3, none⟩ = some (.int .i64 t) := fun x => x.2.cell q3
  have p4 : ∀ x : ExtW w3, x.1.cell? ⟨ad.block, ad.off + 4, none⟩ = some (.int .i64 a) := fun x => x.2.cell q4
  have h := h.ext hx
  have k := k.ext hx
  clear hx q0 q1 q2 q3 q4 hA
  have c_ : ∀ x : ExtW w3, Five x.1 w.heap.size 54 c n f t a := fun x => h.ext x.2
  have d_ : ∀ x : ExtW w3, Five x.1 (w.heap.size + 1) 54 c n f t' a' := fun x => k.ext x.2
  have c_0 : ∀ x : ExtW w3, x.1.cell? ⟨w.heap.size, 0, none⟩ = some (.int .i64 c) := fun x => (c_ x).cells.1
  have c_1 : ∀ x : ExtW w3, x.1.cell? ⟨w.heap.size, 1, none⟩ = some (.int .i64 n) := fun x => (c_ x).cells.2.1
  have c_2 : ∀ x : ExtW w3, x.1.cell? ⟨w.heap.size, 2, none⟩ = some (.int .i64 f) := fun x => (c_ x).cells.2.2.1
  have c_3 : ∀ x : ExtW w3, x.1.cell? ⟨w.heap.size, 3, none⟩ = some (.int .i64 t) := fun x => (c_ x).cells.2.2.2.1
  have c_4 : ∀ x : ExtW w3, x.1.cell? ⟨w.heap.size, 4, none⟩ = some (.int .i64 a) := fun x => (c_ x).cells.2.2.2.2
  have d_0 : ∀ x : ExtW w3, x.1.cell? ⟨w.heap.size + 1, 0, none⟩ = some (.int .i64 c) := fun x => (d_ x).cells.1
  have d_1 : ∀ x : ExtW w3, x.1.cell? ⟨w.heap.size + 1, 1, none⟩ = some (.int .i64 n) := fun x => (d_ x).cells.2.1
  have d_2 : ∀ x : ExtW w3, x.1.cell? ⟨w.heap.size + 1, 2, none⟩ = some (.int .i64 f) := fun x => (d_ x).cells.2.2.1
  have d_3 : ∀ x : ExtW w3, x.1.cell? ⟨w.heap.size + 1, 3, none⟩ = some (.int .i64 t') := fun x => (d_ x).cells.2.2.2.1
  have d_4 : ∀ x : ExtW w3, x.1.cell? ⟨w.heap.size + 1, 4, none⟩ = some (.int .i64 a') := fun x => (d_ x).cells.2.2.2.2
  clear c_ d_ h k
  have XD := Lib.hid (fun x : ExtW w3 => HD.out x.1 (HT.out _ (HX3.out.tr x.2)))
  go_wp2_with fail
  refine wp_region_grow (by kernel_rfl) (by kernel_rfl) ?_
  simp only [List.append_eq, List.cons_append, List.nil_append]
  repeat (any_goals (go_big_quiet_step (first | (go_at_call 43; exact grow_of (HS.out _)) | (go_at_call 41; exact grow_of (XD.out _)))))
  refine wpQuiet_nil ?_
  rintro _ ⟨⟨v2, hx⟩, rfl⟩
  have HX7 := Lib.hid (HX3.out.tr hx)
  clear hx XD c_0 c_1 c_2 c_3 c_4 d_0 d_1 d_2 d_3 d_4 p0 p1 p2 p3 p4
  go_wp2
  go_ret
  exact ⟨rfl, HX7.out⟩
set_option maxHeartbeats 4000000 in
set_option maxRecDepth 100000 in
theorem tells_4 (c n f t a a' : Int) (h1 : (a == a') = false) (hb : I5 c n f t a) (hb' : I5 c n f t a') (w : World) (hr : RngOk w) (ht : TabOk w) :
    Calls Tryz.prog 12 #[cV c n f t a, cV c n f t a'] w fun e w' => e = .returned (.bool true) ∧ Ext w w' := by
  have HK := Lib.hid (fun W (hx : Ext w W) => known9_calls W (hr.ext hx) (ht.all _ hx))
  have HT := Lib.hid ht.all
  have HR := Lib.hid hr
  have hl := textC_len hb
  have hsz : (textC c n f t a).size ≤ 1099511627776 := by rw [show (textC c n f t a).size = (textC c n f t a).data.toList.length from rfl]; omega
  have HP := Lib.hid (show ∀ W, RngOk W → Calls Tryz.prog 22 #[.string (textC c n f t a)] W fun e w' => NumsEnd (.ok [c, n, f, t, a]) e w' ∧ Ext W w' from fun W hW => by
    have hh := pnums_calls (textC c n f t a) hsz W hW
    rwa [show J.pnums (bs (textC c n f t a)) = .ok [c, n, f, t, a] from J.pnums_numsL _ hb.all] at hh)
  have HTX := Lib.hid (fun W hT => ctext_calls c n f t a hb W hT)
  have HD := Lib.hid (fun W hT => cdig_calls c n f t a hb W hT)
  have HS := Lib.hid (fun W => sameID_calls c n f t a c n f t a' W)
  have HSB := Lib.hid (show sameB c n c n = true from by unfold sameB; simp)
  have h2 := bne_f h1
  rw [HSB.out] at HS
  clear hb hb' hr ht hl hsz
  generalize digC c n f t a = D at *
  generalize textC c n f t a = T at *
  go_enter Tryz.func12, Tryz.ntmps12
  go_wp2_with fail
  have h0 := Five.new w 54 c n f t a
  have h3 := h0.ext ((Ext.rfl' _).alloc (.cells #[.int .i64 c, .int .i64 n, .int .i64 f, .int .i64 t, .int .i64 a'] 54))
  have h4 := Five.new (w.alloc (.cells #[.int .i64 c, .int .i64 n, .int .i64 f, .int .i64 t, .int .i64 a] 54)) 54 c n f t a'
  rw [World.size_alloc] at h4
  have HX0 := Lib.hid (((Ext.rfl' w).alloc (.cells #[.int .i64 c, .int .i64 n, .int .i64 f, .int .i64 t, .int .i64 a] 54)).alloc (.cells #[.int .i64 c, .int .i64 n, .int .i64 f, .int .i64 t, .int .i64 a'] 54))
  clear h0
  generalize (w.alloc (.cells #[.int .i64 c, .int .i64 n, .int .i64 f, .int .i64 t, .int .i64 a] 54)).alloc (.cells #[.int .i64 c, .int .i64 n, .int .i64 f, .int .i64 t, .int .i64 a'] 54) = W0 at *
  have H3 := Lib.hid h3
  have H4 := Lib.hid h4
  clear h3 h4
  refine (HK.out _ HX0.out).mono ?_
  rintro e w1 ⟨rfl, hx⟩
  have h := H3.out.ext hx
  have k := H4.out.ext hx
  have HX1 := Lib.hid (HX0.out.tr hx)
  clear H3 H4 hx
  obtain ⟨c0, c1, c2, c3, c4⟩ := h.cells
  have H3 := Lib.hid h
  have H4 := Lib.hid k
  clear h k
  go_wp2_with fail
  refine (HTX.out _ (HT.out _ HX1.out)).mono ?_
  rintro e w2 ⟨rfl, hx⟩
  have HX2 := Lib.hid (HX1.out.tr hx)
  have h := H3.out.ext hx
  have k := H4.out.ext hx
  clear H3 H4 hx c0 c1 c2 c3 c4
  go_wp2_with fail
  refine (HP.out _ (HR.out.ext HX2.out)).mono ?_
  rintro e w3 ⟨he, hx⟩
  obtain ⟨A, cp, rfl, hA⟩ := he
  have HX3 := Lib.hid (HX2.out.tr hx)
  obtain ⟨ad, rfl, had, q0⟩ := hA.at_ (j := 0) (u := .int .i64 c) rfl
  have q1 := (rd_oneT hA (j := 1) (u := .int .i64 n) rfl)
  have q2 := (rd_oneT hA (j := 2) (u := .int .i64 f) rfl)
  have q3 := (rd_oneT hA (j := 3) (u := .int .i64 t) rfl)
  have q4 := (rd_oneT hA (j := 4) (u := .int .i64 a) rfl)
  have p0 : ∀ x : ExtW w3, x.1.cell? ad = some (.int .i64 c) := fun x => x.2.cell q0
  have p1 : ∀ x : ExtW w3, x.1.cell? ⟨ad.block, ad.off + 1, none⟩ = some (.int .i64 n) := fun x => x.2.cell q1
  have p2 : ∀ x : ExtW w3, x.1.cell? ⟨ad.block, ad.off + 2, none⟩ = some (.int .i64 f) := fun x => x.2.cell q2
  have p3 : ∀ x : ExtW w3, x.1.cell? ⟨ad.block, ad.off + 3, none⟩ = some (.int .i64 t) := fun x => x.2.cell q3
  have p4 : ∀ x : ExtW w3, x.1.cell? ⟨ad.block, ad.off + 4, none⟩ = some (.int .i64 a) := fun x => x.2.cell q4
  have h := h.ext hx
  have k := k.ext hx
  clear hx q0 q1 q2 q3 q4 hA
  have c_ : ∀ x : ExtW w3, Five x.1 w.heap.size 54 c n f t a := fun x => h.ext x.2
  have d_ : ∀ x : ExtW w3, Five x.1 (w.heap.size + 1) 54 c n f t a' := fun x => k.ext x.2
  have c_0 : ∀ x : ExtW w3, x.1.cell? ⟨w.heap.size, 0, none⟩ = some (.int .i64 c) := fun x => (c_ x).cells.1
  have c_1 : ∀ x : ExtW w3, x.1.cell? ⟨w.heap.size, 1, none⟩ = some (.int .i64 n) := fun x => (c_ x).cells.2.1
  have c_2 : ∀ x : ExtW w3, x.1.cell? ⟨w.heap.size, 2, none⟩ = some (.int .i64 f) := fun x => (c_ x).cells.2.2.1
  have c_3 : ∀ x : ExtW w3, x.1.cell? ⟨w.heap.size, 3, none⟩ = some (.int .i64 t) := fun x => (c_ x).cells.2.2.2.1
  have c_4 : ∀ x : ExtW w3, x.1.cell? ⟨w.heap.size, 4, none⟩ = some (.int .i64 a) := fun x => (c_ x).cells.2.2.2.2
  have d_0 : ∀ x : ExtW w3, x.1.cell? ⟨w.heap.size + 1, 0, none⟩ = some (.int .i64 c) := fun x => (d_ x).cells.1
  have d_1 : ∀ x : ExtW w3, x.1.cell? ⟨w.heap.size + 1, 1, none⟩ = some (.int .i64 n) := fun x => (d_ x).cells.2.1
  have d_2 : ∀ x : ExtW w3, x.1.cell? ⟨w.heap.size + 1, 2, none⟩ = some (.int .i64 f) := fun x => (d_ x).cells.2.2.1
  have d_3 : ∀ x : ExtW w3, x.1.cell? ⟨w.heap.size + 1, 3, none⟩ = some (.int .i64 t) := fun x => (d_ x).cells.2.2.2.1
  have d_4 : ∀ x : ExtW w3, x.1.cell? ⟨w.heap.size + 1, 4, none⟩ = some (.int .i64 a') := fun x => (d_ x).cells.2.2.2.2
  clear c_ d_ h k
  have XD := Lib.hid (fun x : ExtW w3 => HD.out x.1 (HT.out _ (HX3.out.tr x.2)))
  go_wp2_with fail
  refine wp_region_grow (by kernel_rfl) (by kernel_rfl) ?_
  simp only [List.append_eq, List.cons_append, List.nil_append]
  repeat (any_goals (go_big_quiet_step (first | (go_at_call 43; exact grow_of (HS.out _)) | (go_at_call 41; exact grow_of (XD.out _)))))
  refine wpQuiet_nil ?_
  rintro _ ⟨⟨v2, hx⟩, rfl⟩
  have HX7 := Lib.hid (HX3.out.tr hx)
  clear hx XD c_0 c_1 c_2 c_3 c_4 d_0 d_1 d_2 d_3 d_4 p0 p1 p2 p3 p4
  go_wp2
  go_ret
  exact ⟨rfl, HX7.out⟩
set_option maxHeartbeats 4000000 in
set_option maxRecDepth 100000 in
theorem tells_5 (c n f t a : Int) (hb : I5 c n f t a) (hb' : I5 c n f t a) (w : World) (hr : RngOk w) (ht : TabOk w) :
    Calls Tryz.prog 12 #[cV c n f t a, cV c n f t a] w fun e w' => e = .returned (.bool true) ∧ Ext w w' := by
  have HK := Lib.hid (fun W (hx : Ext w W) => known9_calls W (hr.ext hx) (ht.all _ hx))
  have HT := Lib.hid ht.all
  have HR := Lib.hid hr
  have hl := textC_len hb
  have hsz : (textC c n f t a).size ≤ 1099511627776 := by rw [show (textC c n f t a).size = (textC c n f t a).data.toList.length from rfl]; omega
  have HP := Lib.hid (show ∀ W, RngOk W → Calls Tryz.prog 22 #[.string (textC c n f t a)] W fun e w' => NumsEnd (.ok [c, n, f, t, a]) e w' ∧ Ext W w' from fun W hW => by
    have hh := pnums_calls (textC c n f t a) hsz W hW
    rwa [show J.pnums (bs (textC c n f t a)) = .ok [c, n, f, t, a] from J.pnums_numsL _ hb.all] at hh)
  have HTX := Lib.hid (fun W hT => ctext_calls c n f t a hb W hT)
  have HD := Lib.hid (fun W hT => cdig_calls c n f t a hb W hT)
  have HS := Lib.hid (fun W => sameID_calls c n f t a c n f t a W)
  have HSB := Lib.hid (show sameB c n c n = true from by unfold sameB; simp)
  rw [HSB.out] at HS
  clear hb hb' hr ht hl hsz
  generalize digC c n f t a = D at *
  generalize textC c n f t a = T at *
  go_enter Tryz.func12, Tryz.ntmps12
  go_wp2_with fail
  have h0 := Five.new w 54 c n f t a
  have h3 := h0.ext ((Ext.rfl' _).alloc (.cells #[.int .i64 c, .int .i64 n, .int .i64 f, .int .i64 t, .int .i64 a] 54))
  have h4 := Five.new (w.alloc (.cells #[.int .i64 c, .int .i64 n, .int .i64 f, .int .i64 t, .int .i64 a] 54)) 54 c n f t a
  rw [World.size_alloc] at h4
  have HX0 := Lib.hid (((Ext.rfl' w).alloc (.cells #[.int .i64 c, .int .i64 n, .int .i64 f, .int .i64 t, .int .i64 a] 54)).alloc (.cells #[.int .i64 c, .int .i64 n, .int .i64 f, .int .i64 t, .int .i64 a] 54))
  clear h0
  generalize (w.alloc (.cells #[.int .i64 c, .int .i64 n, .int .i64 f, .int .i64 t, .int .i64 a] 54)).alloc (.cells #[.int .i64 c, .int .i64 n, .int .i64 f, .int .i64 t, .int .i64 a] 54) = W0 at *
  have H3 := Lib.hid h3
  have H4 := Lib.hid h4
  clear h3 h4
  refine (HK.out _ HX0.out).mono ?_
  rintro e w1 ⟨rfl, hx⟩
  have h := H3.out.ext hx
  have k := H4.out.ext hx
  have HX1 := Lib.hid (HX0.out.tr hx)
  clear H3 H4 hx
  obtain ⟨c0, c1, c2, c3, c4⟩ := h.cells
  have H3 := Lib.hid h
  have H4 := Lib.hid k
  clear h k
  go_wp2_with fail
  refine (HTX.out _ (HT.out _ HX1.out)).mono ?_
  rintro e w2 ⟨rfl, hx⟩
  have HX2 := Lib.hid (HX1.out.tr hx)
  have h := H3.out.ext hx
  have k := H4.out.ext hx
  clear H3 H4 hx c0 c1 c2 c3 c4
  go_wp2_with fail
  refine (HP.out _ (HR.out.ext HX2.out)).mono ?_
  rintro e w3 ⟨he, hx⟩
  obtain ⟨A, cp, rfl, hA⟩ := he
  have HX3 := Lib.hid (HX2.out.tr hx)
  obtain ⟨ad, rfl, had, q0⟩ := hA.at_ (j := 0) (u := .int .i64 c) rfl
  have q1 := (rd_oneT hA (j := 1) (u := .int .i64 n) rfl)
  have q2 := (rd_oneT hA (j := 2) (u := .int .i64 f) rfl)
  have q3 := (rd_oneT hA (j := 3) (u := .int .i64 t) rfl)
  have q4 := (rd_oneT hA (j := 4) (u := .int .i64 a) rfl)
  have p0 : ∀ x : ExtW w3, x.1.cell? ad = some (.int .i64 c) := fun x => x.2.cell q0
  have p1 : ∀ x : ExtW w3, x.1.cell? ⟨ad.block, ad.off + 1, none⟩ = some (.int .i64 n) := fun x => x.2.cell q1
  have p2 : ∀ x : ExtW w3, x.1.cell? ⟨ad.block, ad.off + 2, none⟩ = some (.int .i64 f) := fun x => x.2.cell q2
  have p3 : ∀ x : ExtW w3, x.1.cell? ⟨ad.block, ad.off + 3, none⟩ = some (.int .i64 t) := fun x => x.2.cell q3
  have p4 : ∀ x : ExtW w3, x.1.cell? ⟨ad.block, ad.off + 4, none⟩ = some (.int .i64 a) := fun x => x.2.cell q4
  have h := h.ext hx
  have k := k.ext hx
  clear hx q0 q1 q2 q3 q4 hA
  have c_ : ∀ x : ExtW w3, Five x.1 w.heap.size 54 c n f t a := fun x => h.ext x.2
  have d_ : ∀ x : ExtW w3, Five x.1 (w.heap.size + 1) 54 c n f t a := fun x => k.ext x.2
  have c_0 : ∀ x : ExtW w3, x.1.cell? ⟨w.heap.size, 0, none⟩ = some (.int .i64 c) := fun x => (c_ x).cells.1
  have c_1 : ∀ x : ExtW w3, x.1.cell? ⟨w.heap.size, 1, none⟩ = some (.int .i64 n) := fun x => (c_ x).cells.2.1
  have c_2 : ∀ x : ExtW w3, x.1.cell? ⟨w.heap.size, 2, none⟩ = some (.int .i64 f) := fun x => (c_ x).cells.2.2.1
  have c_3 : ∀ x : ExtW w3, x.1.cell? ⟨w.heap.size, 3, none⟩ = some (.int .i64 t) := fun x => (c_ x).cells.2.2.2.1
  have c_4 : ∀ x : ExtW w3, x.1.cell? ⟨w.heap.size, 4, none⟩ = some (.int .i64 a) := fun x => (c_ x).cells.2.2.2.2
  have d_0 : ∀ x : ExtW w3, x.1.cell? ⟨w.heap.size + 1, 0, none⟩ = some (.int .i64 c) := fun x => (d_ x).cells.1
  have d_1 : ∀ x : ExtW w3, x.1.cell? ⟨w.heap.size + 1, 1, none⟩ = some (.int .i64 n) := fun x => (d_ x).cells.2.1
  have d_2 : ∀ x : ExtW w3, x.1.cell? ⟨w.heap.size + 1, 2, none⟩ = some (.int .i64 f) := fun x => (d_ x).cells.2.2.1
  have d_3 : ∀ x : ExtW w3, x.1.cell? ⟨w.heap.size + 1, 3, none⟩ = some (.int .i64 t) := fun x => (d_ x).cells.2.2.2.1
  have d_4 : ∀ x : ExtW w3, x.1.cell? ⟨w.heap.size + 1, 4, none⟩ = some (.int .i64 a) := fun x => (d_ x).cells.2.2.2.2
  clear c_ d_ h k
  have XD := Lib.hid (fun x : ExtW w3 => HD.out x.1 (HT.out _ (HX3.out.tr x.2)))
  go_wp2_with fail
  refine wp_region_grow (by kernel_rfl) (by kernel_rfl) ?_
  simp only [List.append_eq, List.cons_append, List.nil_append]
  repeat (any_goals (go_big_quiet_step (first | (go_at_call 43; exact grow_of (HS.out _)) | (go_at_call 41; exact grow_of (XD.out _)))))
  refine wpQuiet_nil ?_
  rintro _ ⟨⟨v2, hx⟩, rfl⟩
  have HX7 := Lib.hid (HX3.out.tr hx)
  clear hx XD c_0 c_1 c_2 c_3 c_4 d_0 d_1 d_2 d_3 d_4 p0 p1 p2 p3 p4
  go_wp2
  go_ret
  exact ⟨rfl, HX7.out⟩
theorem cmdTells_walk' {w : World} (c n f t a : Int) (h : I5 c n f t a) (c' n' f' t' a' : Int) (h' : I5 c' n' f' t' a') (hg : RngOk w ∧ TabOk w) :
    Calls Tryz.prog 12 #[cV c n f t a, cV c' n' f' t' a'] w fun e w' => e = .returned (.bool true) ∧ Ext w w' := by
  by_cases e0 : c = c'
  case neg => exact tells_0 c n f t a c' n' f' t' a' (by simpa using e0) h h' w hg.1 hg.2
  subst e0
  by_cases e1 : n = n'
  case neg => exact tells_1 c n f t a n' f' t' a' (by simpa using e1) h h' w hg.1 hg.2
  subst e1
  by_cases e2 : f = f'
  case neg => exact tells_2 c n f t a f' t' a' (by simpa using e2) h h' w hg.1 hg.2
  subst e2
  by_cases e3 : t = t'
  case neg => exact tells_3 c n f t a t' a' (by simpa using e3) h h' w hg.1 hg.2
  subst e3
  by_cases e4 : a = a'
  case neg => exact tells_4 c n f t a a' (by simpa using e4) h h' w hg.1 hg.2
  subst e4
  exact tells_5 c n f t a h h w hg.1 hg.2
end Go.Proofs.YtgomondmogpkeaaGreatDoor
