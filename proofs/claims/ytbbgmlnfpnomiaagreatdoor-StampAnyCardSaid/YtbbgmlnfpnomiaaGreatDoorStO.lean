/- A stamp as the document's, as the program's: Of and To of law 11. -/
import Derived.Test.YtbbgmlnfpnomiaaGreatDoorStR
import Derived.Test.YtbbgmlnfpnomiaaGreatDoorKCv
set_option linter.unusedVariables false
set_option linter.unusedSimpArgs false
namespace Go.Proofs.YtbbgmlnfpnomiaaGreatDoor
open Go.RowKit Go.Sort
set_option maxRecDepth 100000 in
theorem run_buildRS (f : Operand → Value) (x0 x1 x2 x3 : Operand) (o : Oper) (ho : o.op = .build 73 #[(0, x0), (1, x1), (2, x2), (3, x3)]) (cmd : Nat) (who at_ : Int) (L : List Value) (hL : L.length = 21) (h0 : f x0 = cU64 cmd) (h1 : f x1 = Value.int .i64 who) (h2 : f x2 = Value.int .i64 at_) (h3 : f x3 = .agg L.toArray) (w : World) :
    (execOp f o).run Tryz.prog w = .ok (.value (.agg (stV cmd who at_ L).toArray)) w := by
  obtain ⟨l0, l1, l2, l3, l4, l5, l6, l7, l8, l9, l10, l11, l12, l13, l14, l15, l16, l17, l18, l19, l20, rfl⟩ := list21 L hL
  unfold execOp
  simp only [ho]
  go_simp
  try simp only [h0, h1, h2, h3]
  try rfl
set_option maxRecDepth 100000 in
set_option maxHeartbeats 2000000 in
theorem sof_calls (cmd : Nat) (who at_ sw leaf : Int) (one : List Nat) (hone : one.length = 18) (l : List Nat) (hl : l.length ≤ 100000) (A : Option Addr) (c : Nat) (w : World) (hA : Rd w A (cDg l)) :
    Calls Tryz.prog 57 #[.agg (stV cmd who at_ (sgV sw leaf one A l.length c)).toArray] w fun e w' => (∃ A' c', e = .returned (.agg (stV cmd who at_ (sgV sw leaf one A' l.length c')).toArray) ∧ Rd w' A' (cDg l) ∧ (∀ ad, A' = some ad → w.heap.size ≤ ad.block)) ∧ Ext w w' := by
  have hs21 := sgV_len sw leaf one hone A l.length c
  have hc0 : (stV cmd who at_ (sgV sw leaf one A l.length c))[0]? = some (cU64 cmd) := rfl
  have hc1 : (stV cmd who at_ (sgV sw leaf one A l.length c))[1]? = some (.int .i64 who) := rfl
  have hc2 : (stV cmd who at_ (sgV sw leaf one A l.length c))[2]? = some (.int .i64 at_) := rfl
  have hsr : ∀ W, Blk W w.heap.size 80 (stV cmd who at_ (sgV sw leaf one A l.length c)) → W.rangeAt w.heap.size 3 (sgV sw leaf one A l.length c) := fun W h => stV_range h
  have H5 := Lib.hid (fun W (hx : Ext w W) => of5_calls sw leaf one hone l hl A c W (hA.ext hx))
  have HON := Lib.hid (fun A' c' => stV_one cmd who at_ _ (sgV_one sw leaf one A' l.length c'))
  have HLN := Lib.hid (fun A' c' => stV_len cmd who at_ _ (sgV_len sw leaf one hone A' l.length c'))
  have HL21 := Lib.hid (fun A' c' => sgV_len sw leaf one hone A' l.length c')
  generalize hSA : stV cmd who at_ (sgV sw leaf one A l.length c) = SA at *
  generalize hSS : sgV sw leaf one A l.length c = SS at *
  have hi21 : (Tryz.prog.info? 39).map (·.size) = some SS.length := by rw [hs21]; rfl
  obtain ⟨SG, hSG⟩ : ∃ SG : Option Addr → Nat → List Value, (fun A' c' => sgV sw leaf one A' l.length c') = SG := ⟨_, rfl⟩
  have hsg : ∀ A' c', sgV sw leaf one A' l.length c' = SG A' c' := fun A' c' => congrFun (congrFun hSG A') c'
  simp only [hsg] at H5 HON HLN HL21 ⊢
  clear hsg hSG hSA hSS hA hone hs21
  have HCE := Lib.hid (show ∀ W, Blk W w.heap.size 80 SA → (W.cell? ⟨w.heap.size, 0, none⟩ = some (cU64 cmd) ∧ W.cell? ⟨w.heap.size, 1, none⟩ = some (.int .i64 who) ∧ W.cell? ⟨w.heap.size, 2, none⟩ = some (.int .i64 at_) ∧ W.rangeAt w.heap.size 3 SS) from fun W hb => ⟨hb.cell hc0, hb.cell hc1, hb.cell hc2, hsr _ hb⟩)
  clear hc0 hc1 hc2 hsr
  generalize cDg l = CL at *
  generalize l.length = n at *
  go_enter Tryz.func57, Tryz.ntmps57
  go_upto_region 1 with (fail)
  have b0 := (Blk.new w 80 SA).ext ((Ext.rfl' _).alloc (.cells #[.int .u64 0, .int .i64 0, .int .i64 0, .int .i64 0, .int .i64 0, .int .u64 0, .int .u64 0, .int .u64 0, .int .u64 0, .int .u64 0, .int .u64 0, .int .u64 0, .int .u64 0, .int .u64 0, .int .u64 0, .int .u64 0, .int .u64 0, .int .u64 0, .int .u64 0, .int .u64 0, .int .u64 0, .int .u64 0, .int .u64 0, .slice none 0 0] 73))
  have b1 := Blk.new (w.alloc (.cells SA.toArray 80)) 73 [.int .u64 0, .int .i64 0, .int .i64 0, .int .i64 0, .int .i64 0, .int .u64 0, .int .u64 0, .int .u64 0, .int .u64 0, .int .u64 0, .int .u64 0, .int .u64 0, .int .u64 0, .int .u64 0, .int .u64 0, .int .u64 0, .int .u64 0, .int .u64 0, .int .u64 0, .int .u64 0, .int .u64 0, .int .u64 0, .int .u64 0, .slice none 0 0]
  have hE := ((Ext.rfl' w).alloc (.cells SA.toArray 80)).alloc (.cells #[.int .u64 0, .int .i64 0, .int .i64 0, .int .i64 0, .int .i64 0, .int .u64 0, .int .u64 0, .int .u64 0, .int .u64 0, .int .u64 0, .int .u64 0, .int .u64 0, .int .u64 0, .int .u64 0, .int .u64 0, .int .u64 0, .int .u64 0, .int .u64 0, .int .u64 0, .int .u64 0, .int .u64 0, .int .u64 0, .int .u64 0, .slice none 0 0] 73)
  rw [World.size_alloc] at b1
  change Blk ((w.alloc (.cells SA.toArray 80)).alloc (.cells #[.int .u64 0, .int .i64 0, .int .i64 0, .int .i64 0, .int .i64 0, .int .u64 0, .int .u64 0, .int .u64 0, .int .u64 0, .int .u64 0, .int .u64 0, .int .u64 0, .int .u64 0, .int .u64 0, .int .u64 0, .int .u64 0, .int .u64 0, .int .u64 0, .int .u64 0, .int .u64 0, .int .u64 0, .int .u64 0, .int .u64 0, .slice none 0 0] 73)) (w.heap.size + 1) 73 [.int .u64 0, .int .i64 0, .int .i64 0, .int .i64 0, .int .i64 0, .int .u64 0, .int .u64 0, .int .u64 0, .int .u64 0, .int .u64 0, .int .u64 0, .int .u64 0, .int .u64 0, .int .u64 0, .int .u64 0, .int .u64 0, .int .u64 0, .int .u64 0, .int .u64 0, .int .u64 0, .int .u64 0, .int .u64 0, .int .u64 0, .slice none 0 0] at b1
  change Blk ((w.alloc (.cells SA.toArray 80)).alloc (.cells #[.int .u64 0, .int .i64 0, .int .i64 0, .int .i64 0, .int .i64 0, .int .u64 0, .int .u64 0, .int .u64 0, .int .u64 0, .int .u64 0, .int .u64 0, .int .u64 0, .int .u64 0, .int .u64 0, .int .u64 0, .int .u64 0, .int .u64 0, .int .u64 0, .int .u64 0, .int .u64 0, .int .u64 0, .int .u64 0, .int .u64 0, .slice none 0 0] 73)) w.heap.size 80 SA at b0
  change Ext w ((w.alloc (.cells SA.toArray 80)).alloc (.cells #[.int .u64 0, .int .i64 0, .int .i64 0, .int .i64 0, .int .i64 0, .int .u64 0, .int .u64 0, .int .u64 0, .int .u64 0, .int .u64 0, .int .u64 0, .int .u64 0, .int .u64 0, .int .u64 0, .int .u64 0, .int .u64 0, .int .u64 0, .int .u64 0, .int .u64 0, .int .u64 0, .int .u64 0, .int .u64 0, .int .u64 0, .slice none 0 0] 73)) at hE
  generalize (w.alloc (.cells SA.toArray 80)).alloc (.cells #[.int .u64 0, .int .i64 0, .int .i64 0, .int .i64 0, .int .i64 0, .int .u64 0, .int .u64 0, .int .u64 0, .int .u64 0, .int .u64 0, .int .u64 0, .int .u64 0, .int .u64 0, .int .u64 0, .int .u64 0, .int .u64 0, .int .u64 0, .int .u64 0, .int .u64 0, .int .u64 0, .int .u64 0, .int .u64 0, .int .u64 0, .slice none 0 0] 73) = W0 at *
  generalize hZ : ([.int .u64 0, .int .i64 0, .int .i64 0, .int .i64 0, .int .i64 0, .int .u64 0, .int .u64 0, .int .u64 0, .int .u64 0, .int .u64 0, .int .u64 0, .int .u64 0, .int .u64 0, .int .u64 0, .int .u64 0, .int .u64 0, .int .u64 0, .int .u64 0, .int .u64 0, .int .u64 0, .int .u64 0, .int .u64 0, .int .u64 0, .slice none 0 0] : List Value) = ZL at b1
  have HZ := Lib.hid (show ZL.length = 24 by rw [← hZ]; rfl)
  have HB := Lib.hid (show Blk W0.drew w.heap.size 80 SA from b0.drew)
  have HRB := Lib.hid (show Blk W0.drew (w.heap.size + 1) 73 ZL from b1.drew)
  have HX := Lib.hid (show Ext w W0.drew from hE.drew)
  clear b0 b1 hE hZ
  refine wp_region_held_drew (S := fun W => W.cell? ⟨w.heap.size, 0, none⟩ = some (cU64 cmd) ∧ W.cell? ⟨w.heap.size, 1, none⟩ = some (.int .i64 who) ∧ W.cell? ⟨w.heap.size, 2, none⟩ = some (.int .i64 at_) ∧ W.rangeAt w.heap.size 3 SS) (by kernel_rfl) (HCE.out _ HB.out) (fun hHeld => ?_)
  generalize W0.drew = W1 at *
  refine wpAnyH_take (i := 0) (v := ?_) (by first | (simp only [List.getElem?_toArray, List.getElem?_cons_zero, List.getElem?_cons_succ]; done) | (simp only [List.getElem?_toArray, List.getElem?_cons_zero, List.getElem?_cons_succ]; rfl)) (by kernel_rfl) (by kernel_rfl) (by kernel_rfl) (by exact fun _ _ _ h => h) (Or.inl ⟨by rfl, ?hy0⟩) (by assumption) ?_
  case hy0 => (intro w' hSw; obtain ⟨hS0, hS1, hS2, -⟩ := hSw; go_simp; try with_reducible rfl)
  try simp only [Act.put, List.setIfInBounds_toArray, List.set_cons_zero, List.set_cons_succ]
  refine wpAnyH_take (i := 1) (v := ?_) (by first | (simp only [List.getElem?_toArray, List.getElem?_cons_zero, List.getElem?_cons_succ]; done) | (simp only [List.getElem?_toArray, List.getElem?_cons_zero, List.getElem?_cons_succ]; rfl)) (by kernel_rfl) (by kernel_rfl) (by kernel_rfl) (by exact fun _ _ _ h => h) (Or.inl ⟨by rfl, ?hy1⟩) (by assumption) ?_
  case hy1 => (intro w' hSw; obtain ⟨hS0, hS1, hS2, -⟩ := hSw; go_simp; try with_reducible rfl)
  try simp only [Act.put, List.setIfInBounds_toArray, List.set_cons_zero, List.set_cons_succ]
  refine wpAnyH_take (i := 2) (v := ?_) (by first | (simp only [List.getElem?_toArray, List.getElem?_cons_zero, List.getElem?_cons_succ]; done) | (simp only [List.getElem?_toArray, List.getElem?_cons_zero, List.getElem?_cons_succ]; rfl)) (by kernel_rfl) (by kernel_rfl) (by kernel_rfl) (by exact fun _ _ _ h => h) (Or.inl ⟨by rfl, ?hy2⟩) (by assumption) ?_
  case hy2 => (intro w' hSw; obtain ⟨hS0, hS1, hS2, -⟩ := hSw; go_simp; try with_reducible rfl)
  try simp only [Act.put, List.setIfInBounds_toArray, List.set_cons_zero, List.set_cons_succ]
  refine wpAnyH_take (i := 3) (v := ?_) (by first | (simp only [List.getElem?_toArray, List.getElem?_cons_zero, List.getElem?_cons_succ]; done) | (simp only [List.getElem?_toArray, List.getElem?_cons_zero, List.getElem?_cons_succ]; rfl)) (by kernel_rfl) (by kernel_rfl) (by kernel_rfl) (by exact fun _ _ _ h => h) (Or.inl ⟨by rfl, ?hy3⟩) (by assumption) ?_
  case hy3 => (intro w' hSw; obtain ⟨hS0, hS1, hS2, -⟩ := hSw; go_simp; try with_reducible rfl)
  try simp only [Act.put, List.setIfInBounds_toArray, List.set_cons_zero, List.set_cons_succ]
  refine wpAnyH_take (i := 4) (v := ?_) (by first | (simp only [List.getElem?_toArray, List.getElem?_cons_zero, List.getElem?_cons_succ]; done) | (simp only [List.getElem?_toArray, List.getElem?_cons_zero, List.getElem?_cons_succ]; rfl)) (by kernel_rfl) (by kernel_rfl) (by kernel_rfl) (by exact fun _ _ _ h => h) (Or.inl ⟨by rfl, ?hy4⟩) (by assumption) ?_
  case hy4 => (intro w' hSw; obtain ⟨hS0, hS1, hS2, -⟩ := hSw; go_simp; try with_reducible rfl)
  try simp only [Act.put, List.setIfInBounds_toArray, List.set_cons_zero, List.set_cons_succ]
  refine wpAnyH_take (i := 5) (v := ?_) (by first | (simp only [List.getElem?_toArray, List.getElem?_cons_zero, List.getElem?_cons_succ]; done) | (simp only [List.getElem?_toArray, List.getElem?_cons_zero, List.getElem?_cons_succ]; rfl)) (by kernel_rfl) (by kernel_rfl) (by kernel_rfl) (by exact fun _ _ _ h => h) (Or.inl ⟨by rfl, ?hy5⟩) (by assumption) ?_
  case hy5 => (intro w' hSw; obtain ⟨hS0, hS1, hS2, -⟩ := hSw; go_simp; try with_reducible rfl)
  try simp only [Act.put, List.setIfInBounds_toArray, List.set_cons_zero, List.set_cons_succ]
  refine wpAnyH_take (i := 6) (v := ?_) (by first | (simp only [List.getElem?_toArray, List.getElem?_cons_zero, List.getElem?_cons_succ]; done) | (simp only [List.getElem?_toArray, List.getElem?_cons_zero, List.getElem?_cons_succ]; rfl)) (by kernel_rfl) (by kernel_rfl) (by kernel_rfl) (by exact fun _ _ _ h => h) (Or.inl ⟨by rfl, ?hy6⟩) (by assumption) ?_
  case hy6 => (intro w' hSw; obtain ⟨hS0, hS1, hS2, -⟩ := hSw; go_simp; try with_reducible rfl)
  try simp only [Act.put, List.setIfInBounds_toArray, List.set_cons_zero, List.set_cons_succ]
  refine wpAnyH_take (i := 7) (v := .agg SS.toArray) (by first | (simp only [List.getElem?_toArray, List.getElem?_cons_zero, List.getElem?_cons_succ]; done) | (simp only [List.getElem?_toArray, List.getElem?_cons_zero, List.getElem?_cons_succ]; rfl)) (by kernel_rfl) (by kernel_rfl) (by kernel_rfl) (by exact fun _ _ _ h => h) (Or.inl ⟨by rfl, fun w' hSw => run_load_mid _ _ _ _ rfl w.heap.size 3 (by rfl) SS _ w' hSw.2.2.2 Tryz.underlying39 rfl hi21⟩) (by assumption) ?_
  try simp only [Act.put, List.setIfInBounds_toArray, List.set_cons_zero, List.set_cons_succ]
  refine wpAnyH_ready (rs := [8]) (by kernel_rfl) (by simp) ?_
  refine AllReadyH.cons (by first | (simp only [List.getElem?_toArray, List.getElem?_cons_zero, List.getElem?_cons_succ]; done) | (simp only [List.getElem?_toArray, List.getElem?_cons_zero, List.getElem?_cons_succ]; rfl)) (fun K hK => ?_) AllReadyH.nil
  go_simp
  refine (H5.out _ HX.out).mono ?_
  rintro e W4 ⟨⟨A', c', rfl, hr, hf⟩, hx⟩
  have HF := Lib.hid (show ∀ ad, A' = some ad → w.heap.size + 1 < ad.block from fun ad e => by have := hf ad e; have := HRB.out.lt; omega)
  have HR := Lib.hid hr
  clear hr hf
  replace HB := Lib.hid (HB.out.ext hx)
  replace HRB := Lib.hid (HRB.out.ext hx)
  replace HX := Lib.hid (show Ext w W4 from HX.out.tr hx)
  clear hx
  try (go_wp2_with fail)
  refine hK.out _ _ (HCE.out _ HB.out) (fun hHeld => ?_)
  clear hK K
  try simp only [Act.put, List.setIfInBounds_toArray, List.set_cons_zero, List.set_cons_succ]
  refine wpAnyH_take (i := 9) (v := .agg (stV cmd who at_ (SG A' c')).toArray) (by first | (simp only [List.getElem?_toArray, List.getElem?_cons_zero, List.getElem?_cons_succ]; done) | (simp only [List.getElem?_toArray, List.getElem?_cons_zero, List.getElem?_cons_succ]; rfl)) (by kernel_rfl) (by kernel_rfl) (by kernel_rfl) (by exact fun _ _ _ h => h) (Or.inl ⟨by rfl, fun w' _ => run_buildRS _ _ _ _ _ _ rfl cmd who at_ (SG A' c') (HL21.out _ _) rfl rfl rfl rfl w'⟩) (by assumption) ?_
  try simp only [Act.put, List.setIfInBounds_toArray, List.set_cons_zero, List.set_cons_succ]
  refine wpAnyH_ready (rs := [10]) (by kernel_rfl) (by simp) ?_
  refine AllReadyH.cons (by first | (simp only [List.getElem?_toArray, List.getElem?_cons_zero, List.getElem?_cons_succ]; done) | (simp only [List.getElem?_toArray, List.getElem?_cons_zero, List.getElem?_cons_succ]; rfl)) (fun K hK => ?_) AllReadyH.nil
  rw [if_pos (by rfl)]
  have hs24 : (stV cmd who at_ (SG A' c')).toArray.size = 24 := by rw [List.size_toArray]; exact HLN.out _ _
  have hth : W4.there (w.heap.size + 1) 0 (stV cmd who at_ (SG A' c')).toArray.size := by
    have h := HRB.out.there
    rw [HZ.out] at h
    rw [hs24]
    exact h
  refine wp_store_mid _ _ _ rfl (w.heap.size + 1) 0 (stV cmd who at_ (SG A' c')).toArray rfl rfl hth (by rw [hs24]; rfl) (all_oneCell_toArray (HON.out _ _)) ?_
  rw [List.toList_toArray]
  have hFB : Blk (W4.setCells (w.heap.size + 1) 0 (stV cmd who at_ (SG A' c'))) (w.heap.size + 1) 73 (stV cmd who at_ (SG A' c')) := HRB.out.put (by rw [HZ.out]; exact HLN.out _ _)
  have hFX : Ext w (W4.setCells (w.heap.size + 1) 0 (stV cmd who at_ (SG A' c'))) := Ext.setCells (by omega) _ _ _ HX.out
  have hFR : Rd (W4.setCells (w.heap.size + 1) 0 (stV cmd who at_ (SG A' c'))) A' CL := Rd.setCellsO (fun ad e => by have := HF.out ad e; omega) _ _ _ HR.out
  replace HB := Lib.hid (show Blk (W4.setCells (w.heap.size + 1) 0 (stV cmd who at_ (SG A' c'))) w.heap.size 80 SA from HB.out.others (by omega) _ _ _)
  refine hK.out _ _ (HCE.out _ HB.out) (fun hHeld => ?_)
  clear hK K
  try simp only [Act.put, List.setIfInBounds_toArray, List.set_cons_zero, List.set_cons_succ]
  refine wpAnyH_done (by kernel_rfl) ?_ _
  clear hHeld
  have hi24 : (Tryz.prog.info? 73).map (·.size) = some (stV cmd who at_ (SG A' c')).length := by rw [HLN.out]; rfl
  have HFF := Lib.hid (And.intro hFR hFX)
  have HFA := Lib.hid (show ∀ ad, A' = some ad → w.heap.size ≤ ad.block from fun ad e => by have := HF.out ad e; omega)
  clear hFR hFX HF HR HX HB HRB hs24 hth
  generalize hSZ : stV cmd who at_ (SG A' c') = SZ at *
  generalize W4.setCells (w.heap.size + 1) 0 SZ = W5 at *
  go_wp2
  exact ret_cell18 rfl hFB Tryz.underlying73 rfl hi24 rfl ⟨⟨_, _, by rw [hSZ], HFF.out.1, HFA.out⟩, HFF.out.2⟩
set_option maxRecDepth 100000 in
set_option maxHeartbeats 2000000 in
theorem sto_calls (cmd : Nat) (who at_ sw leaf : Int) (one : List Nat) (hone : one.length = 18) (l : List Nat) (hl : l.length ≤ 100000) (A : Option Addr) (c : Nat) (w : World) (hA : Rd w A (cDg l)) :
    Calls Tryz.prog 43 #[.agg (stV cmd who at_ (sgV sw leaf one A l.length c)).toArray] w fun e w' => (∃ A' c', e = .returned (.agg (stV cmd who at_ (sgV sw leaf one A' l.length c')).toArray) ∧ Rd w' A' (cDg l) ∧ (∀ ad, A' = some ad → w.heap.size ≤ ad.block)) ∧ Ext w w' := by
  have hs21 := sgV_len sw leaf one hone A l.length c
  have hc0 : (stV cmd who at_ (sgV sw leaf one A l.length c))[0]? = some (cU64 cmd) := rfl
  have hc1 : (stV cmd who at_ (sgV sw leaf one A l.length c))[1]? = some (.int .i64 who) := rfl
  have hc2 : (stV cmd who at_ (sgV sw leaf one A l.length c))[2]? = some (.int .i64 at_) := rfl
  have hsr : ∀ W, Blk W w.heap.size 73 (stV cmd who at_ (sgV sw leaf one A l.length c)) → W.rangeAt w.heap.size 3 (sgV sw leaf one A l.length c) := fun W h => stV_range h
  have H5 := Lib.hid (fun W (hx : Ext w W) => to5_calls sw leaf one hone l hl A c W (hA.ext hx))
  have HON := Lib.hid (fun A' c' => stV_one cmd who at_ _ (sgV_one sw leaf one A' l.length c'))
  have HLN := Lib.hid (fun A' c' => stV_len cmd who at_ _ (sgV_len sw leaf one hone A' l.length c'))
  have HL21 := Lib.hid (fun A' c' => sgV_len sw leaf one hone A' l.length c')
  generalize hSA : stV cmd who at_ (sgV sw leaf one A l.length c) = SA at *
  generalize hSS : sgV sw leaf one A l.length c = SS at *
  have hi21 : (Tryz.prog.info? 45).map (·.size) = some SS.length := by rw [hs21]; rfl
  obtain ⟨SG, hSG⟩ : ∃ SG : Option Addr → Nat → List Value, (fun A' c' => sgV sw leaf one A' l.length c') = SG := ⟨_, rfl⟩
  have hsg : ∀ A' c', sgV sw leaf one A' l.length c' = SG A' c' := fun A' c' => congrFun (congrFun hSG A') c'
  simp only [hsg] at H5 HON HLN HL21 ⊢
  clear hsg hSG hSA hSS hA hone hs21
  have HCE := Lib.hid (show ∀ W, Blk W w.heap.size 73 SA → (W.cell? ⟨w.heap.size, 0, none⟩ = some (cU64 cmd) ∧ W.cell? ⟨w.heap.size, 1, none⟩ = some (.int .i64 who) ∧ W.cell? ⟨w.heap.size, 2, none⟩ = some (.int .i64 at_) ∧ W.rangeAt w.heap.size 3 SS) from fun W hb => ⟨hb.cell hc0, hb.cell hc1, hb.cell hc2, hsr _ hb⟩)
  clear hc0 hc1 hc2 hsr
  generalize cDg l = CL at *
  generalize l.length = n at *
  go_enter Tryz.func43, Tryz.ntmps43
  go_upto_region 1 with (fail)
  have b0 := (Blk.new w 73 SA).ext ((Ext.rfl' _).alloc (.cells #[.int .u64 0, .int .i64 0, .int .i64 0, .int .i64 0, .int .i64 0, .int .u64 0, .int .u64 0, .int .u64 0, .int .u64 0, .int .u64 0, .int .u64 0, .int .u64 0, .int .u64 0, .int .u64 0, .int .u64 0, .int .u64 0, .int .u64 0, .int .u64 0, .int .u64 0, .int .u64 0, .int .u64 0, .int .u64 0, .int .u64 0, .slice none 0 0] 80))
  have b1 := Blk.new (w.alloc (.cells SA.toArray 73)) 80 [.int .u64 0, .int .i64 0, .int .i64 0, .int .i64 0, .int .i64 0, .int .u64 0, .int .u64 0, .int .u64 0, .int .u64 0, .int .u64 0, .int .u64 0, .int .u64 0, .int .u64 0, .int .u64 0, .int .u64 0, .int .u64 0, .int .u64 0, .int .u64 0, .int .u64 0, .int .u64 0, .int .u64 0, .int .u64 0, .int .u64 0, .slice none 0 0]
  have hE := ((Ext.rfl' w).alloc (.cells SA.toArray 73)).alloc (.cells #[.int .u64 0, .int .i64 0, .int .i64 0, .int .i64 0, .int .i64 0, .int .u64 0, .int .u64 0, .int .u64 0, .int .u64 0, .int .u64 0, .int .u64 0, .int .u64 0, .int .u64 0, .int .u64 0, .int .u64 0, .int .u64 0, .int .u64 0, .int .u64 0, .int .u64 0, .int .u64 0, .int .u64 0, .int .u64 0, .int .u64 0, .slice none 0 0] 80)
  rw [World.size_alloc] at b1
  change Blk ((w.alloc (.cells SA.toArray 73)).alloc (.cells #[.int .u64 0, .int .i64 0, .int .i64 0, .int .i64 0, .int .i64 0, .int .u64 0, .int .u64 0, .int .u64 0, .int .u64 0, .int .u64 0, .int .u64 0, .int .u64 0, .int .u64 0, .int .u64 0, .int .u64 0, .int .u64 0, .int .u64 0, .int .u64 0, .int .u64 0, .int .u64 0, .int .u64 0, .int .u64 0, .int .u64 0, .slice none 0 0] 80)) (w.heap.size + 1) 80 [.int .u64 0, .int .i64 0, .int .i64 0, .int .i64 0, .int .i64 0, .int .u64 0, .int .u64 0, .int .u64 0, .int .u64 0, .int .u64 0, .int .u64 0, .int .u64 0, .int .u64 0, .int .u64 0, .int .u64 0, .int .u64 0, .int .u64 0, .int .u64 0, .int .u64 0, .int .u64 0, .int .u64 0, .int .u64 0, .int .u64 0, .slice none 0 0] at b1
  change Blk ((w.alloc (.cells SA.toArray 73)).alloc (.cells #[.int .u64 0, .int .i64 0, .int .i64 0, .int .i64 0, .int .i64 0, .int .u64 0, .int .u64 0, .int .u64 0, .int .u64 0, .int .u64 0, .int .u64 0, .int .u64 0, .int .u64 0, .int .u64 0, .int .u64 0, .int .u64 0, .int .u64 0, .int .u64 0, .int .u64 0, .int .u64 0, .int .u64 0, .int .u64 0, .int .u64 0, .slice none 0 0] 80)) w.heap.size 73 SA at b0
  change Ext w ((w.alloc (.cells SA.toArray 73)).alloc (.cells #[.int .u64 0, .int .i64 0, .int .i64 0, .int .i64 0, .int .i64 0, .int .u64 0, .int .u64 0, .int .u64 0, .int .u64 0, .int .u64 0, .int .u64 0, .int .u64 0, .int .u64 0, .int .u64 0, .int .u64 0, .int .u64 0, .int .u64 0, .int .u64 0, .int .u64 0, .int .u64 0, .int .u64 0, .int .u64 0, .int .u64 0, .slice none 0 0] 80)) at hE
  generalize (w.alloc (.cells SA.toArray 73)).alloc (.cells #[.int .u64 0, .int .i64 0, .int .i64 0, .int .i64 0, .int .i64 0, .int .u64 0, .int .u64 0, .int .u64 0, .int .u64 0, .int .u64 0, .int .u64 0, .int .u64 0, .int .u64 0, .int .u64 0, .int .u64 0, .int .u64 0, .int .u64 0, .int .u64 0, .int .u64 0, .int .u64 0, .int .u64 0, .int .u64 0, .int .u64 0, .slice none 0 0] 80) = W0 at *
  generalize hZ : ([.int .u64 0, .int .i64 0, .int .i64 0, .int .i64 0, .int .i64 0, .int .u64 0, .int .u64 0, .int .u64 0, .int .u64 0, .int .u64 0, .int .u64 0, .int .u64 0, .int .u64 0, .int .u64 0, .int .u64 0, .int .u64 0, .int .u64 0, .int .u64 0, .int .u64 0, .int .u64 0, .int .u64 0, .int .u64 0, .int .u64 0, .slice none 0 0] : List Value) = ZL at b1
  have HZ := Lib.hid (show ZL.length = 24 by rw [← hZ]; rfl)
  have HB := Lib.hid (show Blk W0.drew w.heap.size 73 SA from b0.drew)
  have HRB := Lib.hid (show Blk W0.drew (w.heap.size + 1) 80 ZL from b1.drew)
  have HX := Lib.hid (show Ext w W0.drew from hE.drew)
  clear b0 b1 hE hZ
  refine wp_region_held_drew (S := fun W => W.cell? ⟨w.heap.size, 0, none⟩ = some (cU64 cmd) ∧ W.cell? ⟨w.heap.size, 1, none⟩ = some (.int .i64 who) ∧ W.cell? ⟨w.heap.size, 2, none⟩ = some (.int .i64 at_) ∧ W.rangeAt w.heap.size 3 SS) (by kernel_rfl) (HCE.out _ HB.out) (fun hHeld => ?_)
  generalize W0.drew = W1 at *
  refine wpAnyH_take (i := 0) (v := ?_) (by first | (simp only [List.getElem?_toArray, List.getElem?_cons_zero, List.getElem?_cons_succ]; done) | (simp only [List.getElem?_toArray, List.getElem?_cons_zero, List.getElem?_cons_succ]; rfl)) (by kernel_rfl) (by kernel_rfl) (by kernel_rfl) (by exact fun _ _ _ h => h) (Or.inl ⟨by rfl, ?hy0⟩) (by assumption) ?_
  case hy0 => (intro w' hSw; obtain ⟨hS0, hS1, hS2, -⟩ := hSw; go_simp; try with_reducible rfl)
  try simp only [Act.put, List.setIfInBounds_toArray, List.set_cons_zero, List.set_cons_succ]
  refine wpAnyH_take (i := 1) (v := ?_) (by first | (simp only [List.getElem?_toArray, List.getElem?_cons_zero, List.getElem?_cons_succ]; done) | (simp only [List.getElem?_toArray, List.getElem?_cons_zero, List.getElem?_cons_succ]; rfl)) (by kernel_rfl) (by kernel_rfl) (by kernel_rfl) (by exact fun _ _ _ h => h) (Or.inl ⟨by rfl, ?hy1⟩) (by assumption) ?_
  case hy1 => (intro w' hSw; obtain ⟨hS0, hS1, hS2, -⟩ := hSw; go_simp; try with_reducible rfl)
  try simp only [Act.put, List.setIfInBounds_toArray, List.set_cons_zero, List.set_cons_succ]
  refine wpAnyH_take (i := 2) (v := ?_) (by first | (simp only [List.getElem?_toArray, List.getElem?_cons_zero, List.getElem?_cons_succ]; done) | (simp only [List.getElem?_toArray, List.getElem?_cons_zero, List.getElem?_cons_succ]; rfl)) (by kernel_rfl) (by kernel_rfl) (by kernel_rfl) (by exact fun _ _ _ h => h) (Or.inl ⟨by rfl, ?hy2⟩) (by assumption) ?_
  case hy2 => (intro w' hSw; obtain ⟨hS0, hS1, hS2, -⟩ := hSw; go_simp; try with_reducible rfl)
  try simp only [Act.put, List.setIfInBounds_toArray, List.set_cons_zero, List.set_cons_succ]
  refine wpAnyH_take (i := 3) (v := ?_) (by first | (simp only [List.getElem?_toArray, List.getElem?_cons_zero, List.getElem?_cons_succ]; done) | (simp only [List.getElem?_toArray, List.getElem?_cons_zero, List.getElem?_cons_succ]; rfl)) (by kernel_rfl) (by kernel_rfl) (by kernel_rfl) (by exact fun _ _ _ h => h) (Or.inl ⟨by rfl, ?hy3⟩) (by assumption) ?_
  case hy3 => (intro w' hSw; obtain ⟨hS0, hS1, hS2, -⟩ := hSw; go_simp; try with_reducible rfl)
  try simp only [Act.put, List.setIfInBounds_toArray, List.set_cons_zero, List.set_cons_succ]
  refine wpAnyH_take (i := 4) (v := ?_) (by first | (simp only [List.getElem?_toArray, List.getElem?_cons_zero, List.getElem?_cons_succ]; done) | (simp only [List.getElem?_toArray, List.getElem?_cons_zero, List.getElem?_cons_succ]; rfl)) (by kernel_rfl) (by kernel_rfl) (by kernel_rfl) (by exact fun _ _ _ h => h) (Or.inl ⟨by rfl, ?hy4⟩) (by assumption) ?_
  case hy4 => (intro w' hSw; obtain ⟨hS0, hS1, hS2, -⟩ := hSw; go_simp; try with_reducible rfl)
  try simp only [Act.put, List.setIfInBounds_toArray, List.set_cons_zero, List.set_cons_succ]
  refine wpAnyH_take (i := 5) (v := ?_) (by first | (simp only [List.getElem?_toArray, List.getElem?_cons_zero, List.getElem?_cons_succ]; done) | (simp only [List.getElem?_toArray, List.getElem?_cons_zero, List.getElem?_cons_succ]; rfl)) (by kernel_rfl) (by kernel_rfl) (by kernel_rfl) (by exact fun _ _ _ h => h) (Or.inl ⟨by rfl, ?hy5⟩) (by assumption) ?_
  case hy5 => (intro w' hSw; obtain ⟨hS0, hS1, hS2, -⟩ := hSw; go_simp; try with_reducible rfl)
  try simp only [Act.put, List.setIfInBounds_toArray, List.set_cons_zero, List.set_cons_succ]
  refine wpAnyH_take (i := 6) (v := ?_) (by first | (simp only [List.getElem?_toArray, List.getElem?_cons_zero, List.getElem?_cons_succ]; done) | (simp only [List.getElem?_toArray, List.getElem?_cons_zero, List.getElem?_cons_succ]; rfl)) (by kernel_rfl) (by kernel_rfl) (by kernel_rfl) (by exact fun _ _ _ h => h) (Or.inl ⟨by rfl, ?hy6⟩) (by assumption) ?_
  case hy6 => (intro w' hSw; obtain ⟨hS0, hS1, hS2, -⟩ := hSw; go_simp; try with_reducible rfl)
  try simp only [Act.put, List.setIfInBounds_toArray, List.set_cons_zero, List.set_cons_succ]
  refine wpAnyH_take (i := 7) (v := .agg SS.toArray) (by first | (simp only [List.getElem?_toArray, List.getElem?_cons_zero, List.getElem?_cons_succ]; done) | (simp only [List.getElem?_toArray, List.getElem?_cons_zero, List.getElem?_cons_succ]; rfl)) (by kernel_rfl) (by kernel_rfl) (by kernel_rfl) (by exact fun _ _ _ h => h) (Or.inl ⟨by rfl, fun w' hSw => run_load_mid _ _ _ _ rfl w.heap.size 3 (by rfl) SS _ w' hSw.2.2.2 Tryz.underlying45 rfl hi21⟩) (by assumption) ?_
  try simp only [Act.put, List.setIfInBounds_toArray, List.set_cons_zero, List.set_cons_succ]
  refine wpAnyH_ready (rs := [8]) (by kernel_rfl) (by simp) ?_
  refine AllReadyH.cons (by first | (simp only [List.getElem?_toArray, List.getElem?_cons_zero, List.getElem?_cons_succ]; done) | (simp only [List.getElem?_toArray, List.getElem?_cons_zero, List.getElem?_cons_succ]; rfl)) (fun K hK => ?_) AllReadyH.nil
  go_simp
  refine (H5.out _ HX.out).mono ?_
  rintro e W4 ⟨⟨A', c', rfl, hr, hf⟩, hx⟩
  have HF := Lib.hid (show ∀ ad, A' = some ad → w.heap.size + 1 < ad.block from fun ad e => by have := hf ad e; have := HRB.out.lt; omega)
  have HR := Lib.hid hr
  clear hr hf
  replace HB := Lib.hid (HB.out.ext hx)
  replace HRB := Lib.hid (HRB.out.ext hx)
  replace HX := Lib.hid (show Ext w W4 from HX.out.tr hx)
  clear hx
  try (go_wp2_with fail)
  refine hK.out _ _ (HCE.out _ HB.out) (fun hHeld => ?_)
  clear hK K
  try simp only [Act.put, List.setIfInBounds_toArray, List.set_cons_zero, List.set_cons_succ]
  refine wpAnyH_take (i := 9) (v := .agg (stV cmd who at_ (SG A' c')).toArray) (by first | (simp only [List.getElem?_toArray, List.getElem?_cons_zero, List.getElem?_cons_succ]; done) | (simp only [List.getElem?_toArray, List.getElem?_cons_zero, List.getElem?_cons_succ]; rfl)) (by kernel_rfl) (by kernel_rfl) (by kernel_rfl) (by exact fun _ _ _ h => h) (Or.inl ⟨by rfl, fun w' _ => run_buildS _ _ _ _ _ _ rfl cmd who at_ (SG A' c') (HL21.out _ _) rfl rfl rfl rfl w'⟩) (by assumption) ?_
  try simp only [Act.put, List.setIfInBounds_toArray, List.set_cons_zero, List.set_cons_succ]
  refine wpAnyH_ready (rs := [10]) (by kernel_rfl) (by simp) ?_
  refine AllReadyH.cons (by first | (simp only [List.getElem?_toArray, List.getElem?_cons_zero, List.getElem?_cons_succ]; done) | (simp only [List.getElem?_toArray, List.getElem?_cons_zero, List.getElem?_cons_succ]; rfl)) (fun K hK => ?_) AllReadyH.nil
  rw [if_pos (by rfl)]
  have hs24 : (stV cmd who at_ (SG A' c')).toArray.size = 24 := by rw [List.size_toArray]; exact HLN.out _ _
  have hth : W4.there (w.heap.size + 1) 0 (stV cmd who at_ (SG A' c')).toArray.size := by
    have h := HRB.out.there
    rw [HZ.out] at h
    rw [hs24]
    exact h
  refine wp_store_mid _ _ _ rfl (w.heap.size + 1) 0 (stV cmd who at_ (SG A' c')).toArray rfl rfl hth (by rw [hs24]; rfl) (all_oneCell_toArray (HON.out _ _)) ?_
  rw [List.toList_toArray]
  have hFB : Blk (W4.setCells (w.heap.size + 1) 0 (stV cmd who at_ (SG A' c'))) (w.heap.size + 1) 80 (stV cmd who at_ (SG A' c')) := HRB.out.put (by rw [HZ.out]; exact HLN.out _ _)
  have hFX : Ext w (W4.setCells (w.heap.size + 1) 0 (stV cmd who at_ (SG A' c'))) := Ext.setCells (by omega) _ _ _ HX.out
  have hFR : Rd (W4.setCells (w.heap.size + 1) 0 (stV cmd who at_ (SG A' c'))) A' CL := Rd.setCellsO (fun ad e => by have := HF.out ad e; omega) _ _ _ HR.out
  replace HB := Lib.hid (show Blk (W4.setCells (w.heap.size + 1) 0 (stV cmd who at_ (SG A' c'))) w.heap.size 73 SA from HB.out.others (by omega) _ _ _)
  refine hK.out _ _ (HCE.out _ HB.out) (fun hHeld => ?_)
  clear hK K
  try simp only [Act.put, List.setIfInBounds_toArray, List.set_cons_zero, List.set_cons_succ]
  refine wpAnyH_done (by kernel_rfl) ?_ _
  clear hHeld
  have hi24 : (Tryz.prog.info? 80).map (·.size) = some (stV cmd who at_ (SG A' c')).length := by rw [HLN.out]; rfl
  have HFF := Lib.hid (And.intro hFR hFX)
  have HFA := Lib.hid (show ∀ ad, A' = some ad → w.heap.size ≤ ad.block from fun ad e => by have := HF.out ad e; omega)
  clear hFR hFX HF HR HX HB HRB hs24 hth
  generalize hSZ : stV cmd who at_ (SG A' c') = SZ at *
  generalize W4.setCells (w.heap.size + 1) 0 SZ = W5 at *
  go_wp2
  exact ret_cell18 rfl hFB Tryz.underlying80 rfl hi24 rfl ⟨⟨_, _, by rw [hSZ], HFF.out.1, HFA.out⟩, HFF.out.2⟩
set_option maxRecDepth 100000 in
theorem run_buildRK (g : Operand → Value) (x0 x1 x2 : Operand) (o : Oper) (ho : o.op = .build 71 #[(0, x0), (1, x1), (2, x2)]) (f ht : Int) (A : Option Addr) (n c : Nat) (h0 : g x0 = Value.int .i64 f) (h1 : g x1 = .slice A n c) (h2 : g x2 = Value.int .i64 ht) (w : World) :
    (execOp g o).run Tryz.prog w = .ok (.value (.agg (kyV f A n c ht).toArray)) w := by
  unfold execOp
  simp only [ho]
  go_simp
  try simp only [h0, h1, h2]
  try rfl
end Go.Proofs.YtbbgmlnfpnomiaaGreatDoor
