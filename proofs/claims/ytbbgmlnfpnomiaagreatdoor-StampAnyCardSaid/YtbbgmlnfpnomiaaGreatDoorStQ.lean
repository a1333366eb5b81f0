/- ToKeys of law 11; the reference's StampText. -/
import Derived.Test.YtbbgmlnfpnomiaaGreatDoorStO
import Derived.Test.YtbbgmlnfpnomiaaGreatDoorStD
set_option linter.unusedVariables false
set_option linter.unusedSimpArgs false
namespace Go.Proofs.YtbbgmlnfpnomiaaGreatDoor
open Go.RowKit Go.Sort
set_option maxRecDepth 100000 in
theorem run_buildCf (g : Operand → Value) (x0 : Operand) (o : Oper) (ho : o.op = .build 75 #[(0, x0)]) (f : Int) (h0 : g x0 = Value.int .i64 f) (w : World) :
    (execOp g o).run Tryz.prog w = .ok (.value (.agg #[.int .i64 f])) w := by
  unfold execOp
  simp only [ho]
  go_simp
  try simp only [h0]
  try rfl
set_option maxRecDepth 100000 in
theorem run_buildK (g : Operand → Value) (x0 x1 x2 : Operand) (o : Oper) (ho : o.op = .build 77 #[(0, x0), (1, x1), (2, x2)]) (f ht : Int) (A : Option Addr) (n c : Nat) (h0 : g x0 = .agg #[.int .i64 f]) (h1 : g x1 = .slice A n c) (h2 : g x2 = Value.int .i64 ht) (w : World) :
    (execOp g o).run Tryz.prog w = .ok (.value (.agg (kyV f A n c ht).toArray)) w := by
  unfold execOp
  simp only [ho]
  go_simp
  try simp only [h0, h1, h2]
  try rfl
set_option maxRecDepth 100000 in
set_option maxHeartbeats 2000000 in
theorem tokeys_calls (f ht : Int) (l : List Nat) (hl : l.length ≤ 100000) (A : Option Addr) (c : Nat) (w : World) (hA : Rd w A (cDg l)) :
    Calls Tryz.prog 42 #[.agg (kyV f A l.length c ht).toArray] w fun e w' => (∃ A' c', e = .returned (.agg (kyV f A' l.length c' ht).toArray) ∧ Rd w' A' (cDg l) ∧ (∀ ad, A' = some ad → w.heap.size ≤ ad.block)) ∧ Ext w w' := by
  have H4 := Lib.hid (fun W (hx : Ext w W) => to4_calls l A c W (hA.ext hx) hl)
  have HON := Lib.hid (show ∀ A' c', ∀ x ∈ kyV f A' l.length c' ht, x.oneCell' = true from fun A' c' x hx => by
    simp only [kyV, List.mem_cons, List.not_mem_nil, or_false] at hx
    rcases hx with rfl | rfl | rfl <;> rfl)
  have hc0 : (kyV f A l.length c ht)[0]? = some (.int .i64 f) := rfl
  have hc1 : (kyV f A l.length c ht)[1]? = some (.slice A l.length c) := rfl
  have hc2 : (kyV f A l.length c ht)[2]? = some (.int .i64 ht) := rfl
  generalize hKA : kyV f A l.length c ht = KA at *
  clear hKA hA
  have HCE := Lib.hid (show ∀ W, Blk W w.heap.size 71 KA → (W.cell? ⟨w.heap.size, 0, none⟩ = some (.int .i64 f) ∧ W.cell? ⟨w.heap.size, 1, none⟩ = some (.slice A l.length c) ∧ W.cell? ⟨w.heap.size, 2, none⟩ = some (.int .i64 ht)) from fun W hb => ⟨hb.cell hc0, hb.cell hc1, hb.cell hc2⟩)
  clear hc0 hc1 hc2
  generalize cDg l = CL at *
  generalize l.length = n at *
  go_enter Tryz.func42, Tryz.ntmps42
  go_upto_region 1 with (fail)
  have b0 := (Blk.new w 71 KA).ext ((Ext.rfl' _).alloc (.cells #[.int .i64 0, .slice none 0 0, .int .i64 0] 77))
  have b1 := Blk.new (w.alloc (.cells KA.toArray 71)) 77 [.int .i64 0, .slice none 0 0, .int .i64 0]
  have hE := ((Ext.rfl' w).alloc (.cells KA.toArray 71)).alloc (.cells #[.int .i64 0, .slice none 0 0, .int .i64 0] 77)
  rw [World.size_alloc] at b1
  change Blk ((w.alloc (.cells KA.toArray 71)).alloc (.cells #[.int .i64 0, .slice none 0 0, .int .i64 0] 77)) (w.heap.size + 1) 77 [.int .i64 0, .slice none 0 0, .int .i64 0] at b1
  change Blk ((w.alloc (.cells KA.toArray 71)).alloc (.cells #[.int .i64 0, .slice none 0 0, .int .i64 0] 77)) w.heap.size 71 KA at b0
  change Ext w ((w.alloc (.cells KA.toArray 71)).alloc (.cells #[.int .i64 0, .slice none 0 0, .int .i64 0] 77)) at hE
  generalize (w.alloc (.cells KA.toArray 71)).alloc (.cells #[.int .i64 0, .slice none 0 0, .int .i64 0] 77) = W0 at *
  generalize hZ : ([.int .i64 0, .slice none 0 0, .int .i64 0] : List Value) = ZL at b1
  have HZ := Lib.hid (show ZL.length = 3 by rw [← hZ]; rfl)
  have HB := Lib.hid (show Blk W0.drew w.heap.size 71 KA from b0.drew)
  have HRB := Lib.hid (show Blk W0.drew (w.heap.size + 1) 77 ZL from b1.drew)
  have HX := Lib.hid (show Ext w W0.drew from hE.drew)
  clear b0 b1 hE hZ
  refine wp_region_held_drew (S := fun W => W.cell? ⟨w.heap.size, 0, none⟩ = some (.int .i64 f) ∧ W.cell? ⟨w.heap.size, 1, none⟩ = some (.slice A n c) ∧ W.cell? ⟨w.heap.size, 2, none⟩ = some (.int .i64 ht)) (by kernel_rfl) (HCE.out _ HB.out) (fun hHeld => ?_)
  generalize W0.drew = W1 at *
  refine wpAnyH_take (i := 0) (v := ?_) (by first | (simp only [List.getElem?_toArray, List.getElem?_cons_zero, List.getElem?_cons_succ]; done) | (simp only [List.getElem?_toArray, List.getElem?_cons_zero, List.getElem?_cons_succ]; rfl)) (by kernel_rfl) (by kernel_rfl) (by kernel_rfl) (by exact fun _ _ _ h => h) (Or.inl ⟨by rfl, ?hy0⟩) (by assumption) ?_
  case hy0 => (intro w' hSw; obtain ⟨hS0, hS1, hS2⟩ := hSw; go_simp; try with_reducible rfl)
  try simp only [Act.put, List.setIfInBounds_toArray, List.set_cons_zero, List.set_cons_succ]
  refine wpAnyH_take (i := 1) (v := ?_) (by first | (simp only [List.getElem?_toArray, List.getElem?_cons_zero, List.getElem?_cons_succ]; done) | (simp only [List.getElem?_toArray, List.getElem?_cons_zero, List.getElem?_cons_succ]; rfl)) (by kernel_rfl) (by kernel_rfl) (by kernel_rfl) (by exact fun _ _ _ h => h) (Or.inl ⟨by rfl, ?hy1⟩) (by assumption) ?_
  case hy1 => (intro w' hSw; obtain ⟨hS0, hS1, hS2⟩ := hSw; go_simp; try with_reducible rfl)
  try simp only [Act.put, List.setIfInBounds_toArray, List.set_cons_zero, List.set_cons_succ]
  refine wpAnyH_take (i := 2) (v := .agg #[.int .i64 f]) (by first | (simp only [List.getElem?_toArray, List.getElem?_cons_zero, List.getElem?_cons_succ]; done) | (simp only [List.getElem?_toArray, List.getElem?_cons_zero, List.getElem?_cons_succ]; rfl)) (by kernel_rfl) (by kernel_rfl) (by kernel_rfl) (by exact fun _ _ _ h => h) (Or.inl ⟨by rfl, fun w' _ => run_buildCf _ _ _ rfl f rfl w'⟩) (by assumption) ?_
  try simp only [Act.put, List.setIfInBounds_toArray, List.set_cons_zero, List.set_cons_succ]
  refine wpAnyH_take (i := 3) (v := ?_) (by first | (simp only [List.getElem?_toArray, List.getElem?_cons_zero, List.getElem?_cons_succ]; done) | (simp only [List.getElem?_toArray, List.getElem?_cons_zero, List.getElem?_cons_succ]; rfl)) (by kernel_rfl) (by kernel_rfl) (by kernel_rfl) (by exact fun _ _ _ h => h) (Or.inl ⟨by rfl, ?hy3⟩) (by assumption) ?_
  case hy3 => (intro w' hSw; obtain ⟨hS0, hS1, hS2⟩ := hSw; go_simp; try with_reducible rfl)
  try simp only [Act.put, List.setIfInBounds_toArray, List.set_cons_zero, List.set_cons_succ]
  refine wpAnyH_take (i := 4) (v := ?_) (by first | (simp only [List.getElem?_toArray, List.getElem?_cons_zero, List.getElem?_cons_succ]; done) | (simp only [List.getElem?_toArray, List.getElem?_cons_zero, List.getElem?_cons_succ]; rfl)) (by kernel_rfl) (by kernel_rfl) (by kernel_rfl) (by exact fun _ _ _ h => h) (Or.inl ⟨by rfl, ?hy4⟩) (by assumption) ?_
  case hy4 => (intro w' hSw; obtain ⟨hS0, hS1, hS2⟩ := hSw; go_simp; try with_reducible rfl)
  try simp only [Act.put, List.setIfInBounds_toArray, List.set_cons_zero, List.set_cons_succ]
  refine wpAnyH_take (i := 6) (v := ?_) (by first | (simp only [List.getElem?_toArray, List.getElem?_cons_zero, List.getElem?_cons_succ]; done) | (simp only [List.getElem?_toArray, List.getElem?_cons_zero, List.getElem?_cons_succ]; rfl)) (by kernel_rfl) (by kernel_rfl) (by kernel_rfl) (by exact fun _ _ _ h => h) (Or.inl ⟨by rfl, ?hy6⟩) (by assumption) ?_
  case hy6 => (intro w' hSw; obtain ⟨hS0, hS1, hS2⟩ := hSw; go_simp; try with_reducible rfl)
  try simp only [Act.put, List.setIfInBounds_toArray, List.set_cons_zero, List.set_cons_succ]
  refine wpAnyH_take (i := 7) (v := ?_) (by first | (simp only [List.getElem?_toArray, List.getElem?_cons_zero, List.getElem?_cons_succ]; done) | (simp only [List.getElem?_toArray, List.getElem?_cons_zero, List.getElem?_cons_succ]; rfl)) (by kernel_rfl) (by kernel_rfl) (by kernel_rfl) (by exact fun _ _ _ h => h) (Or.inl ⟨by rfl, ?hy7⟩) (by assumption) ?_
  case hy7 => (intro w' hSw; obtain ⟨hS0, hS1, hS2⟩ := hSw; go_simp; try with_reducible rfl)
  try simp only [Act.put, List.setIfInBounds_toArray, List.set_cons_zero, List.set_cons_succ]
  refine wpAnyH_ready (rs := [5]) (by kernel_rfl) (by simp) ?_
  refine AllReadyH.cons (by first | (simp only [List.getElem?_toArray, List.getElem?_cons_zero, List.getElem?_cons_succ]; done) | (simp only [List.getElem?_toArray, List.getElem?_cons_zero, List.getElem?_cons_succ]; rfl)) (fun K hK => ?_) AllReadyH.nil
  go_simp
  refine (H4.out _ HX.out).mono ?_
  rintro e W4 ⟨⟨A', c', rfl, hr, hf⟩, hx⟩
  have HF := Lib.hid (show ∀ ad, A' = some ad → w.heap.size + 1 < ad.block from fun ad e => by have := hf ad e; have := HRB.out.lt; omega)
  have HR := Lib.hid hr
  clear hr hf
  replace HB := Lib.hid (HB.out.ext hx)
  replace HRB := Lib.hid (HRB.out.ext hx)
  replace HX := Lib.hid (show Ext w W4 from HX.out.tr hx)
  clear hx
  try (go_wp2_with fail)
  refine hK.out _ _ (HCE.out _ HB.out) (fun hHeld => ?_)
  clear hK K
  try simp only [Act.put, List.setIfInBounds_toArray, List.set_cons_zero, List.set_cons_succ]
  refine wpAnyH_take (i := 8) (v := .agg (kyV f A' n c' ht).toArray) (by first | (simp only [List.getElem?_toArray, List.getElem?_cons_zero, List.getElem?_cons_succ]; done) | (simp only [List.getElem?_toArray, List.getElem?_cons_zero, List.getElem?_cons_succ]; rfl)) (by kernel_rfl) (by kernel_rfl) (by kernel_rfl) (by exact fun _ _ _ h => h) (Or.inl ⟨by rfl, fun w' _ => run_buildK _ _ _ _ _ rfl f ht A' n c' rfl rfl rfl w'⟩) (by assumption) ?_
  try simp only [Act.put, List.setIfInBounds_toArray, List.set_cons_zero, List.set_cons_succ]
  refine wpAnyH_ready (rs := [9]) (by kernel_rfl) (by simp) ?_
  refine AllReadyH.cons (by first | (simp only [List.getElem?_toArray, List.getElem?_cons_zero, List.getElem?_cons_succ]; done) | (simp only [List.getElem?_toArray, List.getElem?_cons_zero, List.getElem?_cons_succ]; rfl)) (fun K hK => ?_) AllReadyH.nil
  rw [if_pos (by rfl)]
  have hth : W4.there (w.heap.size + 1) 0 (kyV f A' n c' ht).toArray.size := by
    have h := HRB.out.there
    rw [HZ.out] at h
    exact h
  refine wp_store_mid _ _ _ rfl (w.heap.size + 1) 0 (kyV f A' n c' ht).toArray rfl rfl hth rfl (all_oneCell_toArray (HON.out _ _)) ?_
  rw [List.toList_toArray]
  have hFB : Blk (W4.setCells (w.heap.size + 1) 0 (kyV f A' n c' ht)) (w.heap.size + 1) 77 (kyV f A' n c' ht) := HRB.out.put (by rw [HZ.out]; rfl)
  have hFX : Ext w (W4.setCells (w.heap.size + 1) 0 (kyV f A' n c' ht)) := Ext.setCells (by omega) _ _ _ HX.out
  have hFR : Rd (W4.setCells (w.heap.size + 1) 0 (kyV f A' n c' ht)) A' CL := Rd.setCellsO (fun ad e => by have := HF.out ad e; omega) _ _ _ HR.out
  replace HB := Lib.hid (show Blk (W4.setCells (w.heap.size + 1) 0 (kyV f A' n c' ht)) w.heap.size 71 KA from HB.out.others (by omega) _ _ _)
  refine hK.out _ _ (HCE.out _ HB.out) (fun hHeld => ?_)
  clear hK K
  try simp only [Act.put, List.setIfInBounds_toArray, List.set_cons_zero, List.set_cons_succ]
  refine wpAnyH_done (by kernel_rfl) ?_ _
  clear hHeld
  have hi3 : (Tryz.prog.info? 77).map (·.size) = some (kyV f A' n c' ht).length := rfl
  have HFF := Lib.hid (And.intro hFR hFX)
  have HFA := Lib.hid (show ∀ ad, A' = some ad → w.heap.size ≤ ad.block from fun ad e => by have := HF.out ad e; omega)
  clear hFR hFX HF HR HX HB HRB hth
  generalize hSZ : kyV f A' n c' ht = SZ at *
  generalize W4.setCells (w.heap.size + 1) 0 SZ = W5 at *
  go_wp2
  exact ret_cell18 rfl hFB Tryz.underlying77 rfl hi3 rfl ⟨⟨_, _, by rw [hSZ], HFF.out.1, HFA.out⟩, HFF.out.2⟩
set_option maxRecDepth 100000 in
set_option maxHeartbeats 4000000 in
theorem rstext_calls (s : K.St) (h : K.StOk s) (hp : s.sig.path.length ≤ 100) (A : Option Addr) (c : Nat) (w : World) (hA : Rd w A (cDg s.sig.path)) :
    Calls Tryz.prog 51 #[.agg (stC s A c).toArray] w fun e w' => e = .returned (.string (strOf (K.stx s))) ∧ Ext w w' := by
  have hb := Blk.new w 73 (stC s A c)
  have hE := (Ext.rfl' w).alloc (.cells (stC s A c).toArray 73)
  have hs21 := sgV_len s.sig.who s.sig.leaf s.sig.one h.sig.len A s.sig.path.length c
  have hi21 : (Tryz.prog.info? 45).map (·.size) = some (sgV s.sig.who s.sig.leaf s.sig.one A s.sig.path.length c).length := by rw [hs21]; rfl
  have e1 := Lib.itoa_length_le s.who h.who.1 h.who.2
  have e2 := Lib.itoa_length_le s.at_ h.at_.1 h.at_.2
  have e3 := K.hexB_len s.cmd h.cmd
  have e4 := sigT_len s.sig h.sig.who h.sig.leaf h.sig.one h.sig.path h.sig.len hp
  have hcs := h.cmd
  have HT := Lib.hid (show ∀ W, Ext (w.alloc (.cells (stC s A c).toArray 73)) W → Calls Tryz.prog 146 #[cU64 s.cmd] W fun e w' => e = .returned (.string (strOf (T.hexB s.cmd))) ∧ Ext W w' from fun W hx => rhexB_calls s.cmd hcs W)
  have HN1 := Lib.hid (show ∀ W, Ext (w.alloc (.cells (stC s A c).toArray 73)) W → Calls Tryz.prog 136 #[.int .i64 s.who] W fun e w' => e = .returned (.string (strOf (Lib.itoa s.who))) ∧ Ext W w' from fun W hx => rnum_calls s.who h.who W)
  have HN2 := Lib.hid (show ∀ W, Ext (w.alloc (.cells (stC s A c).toArray 73)) W → Calls Tryz.prog 136 #[.int .i64 s.at_] W fun e w' => e = .returned (.string (strOf (Lib.itoa s.at_))) ∧ Ext W w' from fun W hx => rnum_calls s.at_ h.at_ W)
  have HKT := Lib.hid (fun W (hx : Ext (w.alloc (.cells (stC s A c).toArray 73)) W) => rsigtext_calls s.sig h.sig.who h.sig.leaf h.sig.one h.sig.path h.sig.len hp A c W (hA.ext (hE.tr hx)))
  have HJ := Lib.hid (fun W => rjoin4 (strOf (T.hexB s.cmd)) (strOf (Lib.itoa s.who)) (strOf (Lib.itoa s.at_)) (strOf (K.sigT s.sig)) (Nat.le_trans (K.stx_len s h hp) (by decide)) (by rw [size_strOf]; omega) (by rw [size_strOf]; omega) (by rw [size_strOf]; omega) (by rw [size_strOf]; omega) W)
  change Hid (∀ W : World, Calls Tryz.prog 135 #[.slice (some ⟨W.heap.size, 0, none⟩) 4 4] (W.alloc (.cells #[.string (strOf (T.hexB s.cmd)), .string (strOf (Lib.itoa s.who)), .string (strOf (Lib.itoa s.at_)), .string (strOf (K.sigT s.sig))] 9)) fun e w' => e = .returned (.string (strOf (K.stx s))) ∧ Ext (W.alloc (.cells #[.string (strOf (T.hexB s.cmd)), .string (strOf (Lib.itoa s.who)), .string (strOf (Lib.itoa s.at_)), .string (strOf (K.sigT s.sig))] 9)) w') at HJ
  generalize strOf (K.stx s) = TT at *
  generalize strOf (T.hexB s.cmd) = s0 at *
  generalize strOf (Lib.itoa s.who) = s1 at *
  generalize strOf (Lib.itoa s.at_) = s2 at *
  generalize strOf (K.sigT s.sig) = s3 at *
  have HCE := Lib.hid (show ∀ W, Blk W w.heap.size 73 (stC s A c) → (W.cell? ⟨w.heap.size, 0, none⟩ = some (cU64 s.cmd) ∧ W.cell? ⟨w.heap.size, 1, none⟩ = some (.int .i64 s.who) ∧ W.cell? ⟨w.heap.size, 2, none⟩ = some (.int .i64 s.at_) ∧ W.rangeAt w.heap.size 3 (sgV s.sig.who s.sig.leaf s.sig.one A s.sig.path.length c)) from fun W hb => ⟨hb.cell rfl, hb.cell rfl, hb.cell rfl, stV_range hb⟩)
  generalize stC s A c = SV at *
  generalize sgV s.sig.who s.sig.leaf s.sig.one A s.sig.path.length c = SS at *
  clear e1 e2 e3 e4 hs21 hp hA hcs h
  obtain ⟨cmd, who, at_, sig⟩ := s
  dsimp only at *
  go_enter Tryz.func51, Tryz.ntmps51
  go_upto_region 1 with (fail)
  have HE := Lib.hid hE
  have HB := Lib.hid hb
  clear hE hb
  generalize w.alloc (.cells SV.toArray 73) = W1 at *
  have HX := Lib.hid (show Ext W1 W1.drew from (Ext.rfl' W1).drew)
  have HC := Lib.hid (fun W (hx : Ext W1 W) => HCE.out W (HB.out.ext hx))
  clear HB HCE
  refine wp_region_held_drew (S := fun w' => w'.cell? ⟨w.heap.size, 0, none⟩ = some (cU64 cmd) ∧ w'.cell? ⟨w.heap.size, 1, none⟩ = some (.int .i64 who) ∧ w'.cell? ⟨w.heap.size, 2, none⟩ = some (.int .i64 at_) ∧ w'.rangeAt w.heap.size 3 SS) (by kernel_rfl) (by (try dsimp only); exact HC.out _ HX.out) (fun hHeld => ?_)
  refine wpAnyH_take (i := 0) (v := ?_) (by first | (simp only [List.getElem?_toArray, List.getElem?_cons_zero, List.getElem?_cons_succ]; done) | (simp only [List.getElem?_toArray, List.getElem?_cons_zero, List.getElem?_cons_succ]; rfl)) (by kernel_rfl) (by kernel_rfl) (by kernel_rfl) (by exact fun _ _ _ h => h) (Or.inl ⟨by rfl, ?hy0⟩) (by assumption) ?_
  case hy0 => (intro w hSw; (try dsimp only at hSw); go_simp; try with_reducible rfl)
  try simp only [Act.put, List.setIfInBounds_toArray, List.set_cons_zero, List.set_cons_succ]
  refine wpAnyH_take (i := 1) (v := ?_) (by first | (simp only [List.getElem?_toArray, List.getElem?_cons_zero, List.getElem?_cons_succ]; done) | (simp only [List.getElem?_toArray, List.getElem?_cons_zero, List.getElem?_cons_succ]; rfl)) (by kernel_rfl) (by kernel_rfl) (by kernel_rfl) (by exact fun _ _ _ h => h) (Or.inl ⟨by rfl, ?hy1⟩) (by assumption) ?_
  case hy1 => (intro w hSw; (try dsimp only at hSw); go_simp; try with_reducible rfl)
  try simp only [Act.put, List.setIfInBounds_toArray, List.set_cons_zero, List.set_cons_succ]
  refine wpAnyH_take (i := 3) (v := ?_) (by first | (simp only [List.getElem?_toArray, List.getElem?_cons_zero, List.getElem?_cons_succ]; done) | (simp only [List.getElem?_toArray, List.getElem?_cons_zero, List.getElem?_cons_succ]; rfl)) (by kernel_rfl) (by kernel_rfl) (by kernel_rfl) (by exact fun _ _ _ h => h) (Or.inl ⟨by rfl, ?hy3⟩) (by assumption) ?_
  case hy3 => (intro w hSw; (try dsimp only at hSw); go_simp; try with_reducible rfl)
  try simp only [Act.put, List.setIfInBounds_toArray, List.set_cons_zero, List.set_cons_succ]
  refine wpAnyH_take (i := 4) (v := ?_) (by first | (simp only [List.getElem?_toArray, List.getElem?_cons_zero, List.getElem?_cons_succ]; done) | (simp only [List.getElem?_toArray, List.getElem?_cons_zero, List.getElem?_cons_succ]; rfl)) (by kernel_rfl) (by kernel_rfl) (by kernel_rfl) (by exact fun _ _ _ h => h) (Or.inl ⟨by rfl, ?hy4⟩) (by assumption) ?_
  case hy4 => (intro w hSw; (try dsimp only at hSw); go_simp; try with_reducible rfl)
  try simp only [Act.put, List.setIfInBounds_toArray, List.set_cons_zero, List.set_cons_succ]
  refine wpAnyH_take (i := 6) (v := ?_) (by first | (simp only [List.getElem?_toArray, List.getElem?_cons_zero, List.getElem?_cons_succ]; done) | (simp only [List.getElem?_toArray, List.getElem?_cons_zero, List.getElem?_cons_succ]; rfl)) (by kernel_rfl) (by kernel_rfl) (by kernel_rfl) (by exact fun _ _ _ h => h) (Or.inl ⟨by rfl, ?hy6⟩) (by assumption) ?_
  case hy6 => (intro w hSw; (try dsimp only at hSw); go_simp; try with_reducible rfl)
  try simp only [Act.put, List.setIfInBounds_toArray, List.set_cons_zero, List.set_cons_succ]
  refine wpAnyH_take (i := 7) (v := ?_) (by first | (simp only [List.getElem?_toArray, List.getElem?_cons_zero, List.getElem?_cons_succ]; done) | (simp only [List.getElem?_toArray, List.getElem?_cons_zero, List.getElem?_cons_succ]; rfl)) (by kernel_rfl) (by kernel_rfl) (by kernel_rfl) (by exact fun _ _ _ h => h) (Or.inl ⟨by rfl, ?hy7⟩) (by assumption) ?_
  case hy7 => (intro w hSw; (try dsimp only at hSw); go_simp; try with_reducible rfl)
  try simp only [Act.put, List.setIfInBounds_toArray, List.set_cons_zero, List.set_cons_succ]
  refine wpAnyH_take (i := 9) (v := ?_) (by first | (simp only [List.getElem?_toArray, List.getElem?_cons_zero, List.getElem?_cons_succ]; done) | (simp only [List.getElem?_toArray, List.getElem?_cons_zero, List.getElem?_cons_succ]; rfl)) (by kernel_rfl) (by kernel_rfl) (by kernel_rfl) (by exact fun _ _ _ h => h) (Or.inl ⟨by rfl, ?hy9⟩) (by assumption) ?_
  case hy9 => (intro w hSw; (try dsimp only at hSw); go_simp; try with_reducible rfl)
  try simp only [Act.put, List.setIfInBounds_toArray, List.set_cons_zero, List.set_cons_succ]
  refine wpAnyH_take (i := 10) (v := .agg SS.toArray) (by first | (simp only [List.getElem?_toArray, List.getElem?_cons_zero, List.getElem?_cons_succ]; done) | (simp only [List.getElem?_toArray, List.getElem?_cons_zero, List.getElem?_cons_succ]; rfl)) (by kernel_rfl) (by kernel_rfl) (by kernel_rfl) (by exact fun _ _ _ h => h) (Or.inl ⟨by rfl, fun w' hSw => run_load_mid _ _ _ _ rfl w.heap.size 3 (by rfl) SS _ w' hSw.2.2.2 Tryz.underlying45 rfl hi21⟩) (by assumption) ?_
  try simp only [Act.put, List.setIfInBounds_toArray, List.set_cons_zero, List.set_cons_succ]
  refine wpAnyH_ready (rs := [2]) (by kernel_rfl) (by simp) ?_
  refine AllReadyH.cons (by first | (simp only [List.getElem?_toArray, List.getElem?_cons_zero, List.getElem?_cons_succ]; done) | (simp only [List.getElem?_toArray, List.getElem?_cons_zero, List.getElem?_cons_succ]; rfl)) (fun K hK => ?_) AllReadyH.nil
  go_simp
  refine (HT.out _ HX.out).mono ?_; rintro e W4 ⟨rfl, hx⟩; replace HX := Lib.hid (show Ext W1 W4 from HX.out.tr hx); clear hx
  try (go_wp2_with fail)
  refine hK.out _ _ (by (try dsimp only); exact HC.out _ HX.out) (fun hHeld => ?_)
  clear hK K
  try simp only [Act.put, List.setIfInBounds_toArray, List.set_cons_zero, List.set_cons_succ]
  refine wpAnyH_ready (rs := [5]) (by kernel_rfl) (by simp) ?_
  refine AllReadyH.cons (by first | (simp only [List.getElem?_toArray, List.getElem?_cons_zero, List.getElem?_cons_succ]; done) | (simp only [List.getElem?_toArray, List.getElem?_cons_zero, List.getElem?_cons_succ]; rfl)) (fun K hK => ?_) AllReadyH.nil
  go_simp
  refine (HN1.out _ HX.out).mono ?_; rintro e W4 ⟨rfl, hx⟩; replace HX := Lib.hid (show Ext W1 W4 from HX.out.tr hx); clear hx
  try (go_wp2_with fail)
  refine hK.out _ _ (by (try dsimp only); exact HC.out _ HX.out) (fun hHeld => ?_)
  clear hK K
  try simp only [Act.put, List.setIfInBounds_toArray, List.set_cons_zero, List.set_cons_succ]
  refine wpAnyH_ready (rs := [8]) (by kernel_rfl) (by simp) ?_
  refine AllReadyH.cons (by first | (simp only [List.getElem?_toArray, List.getElem?_cons_zero, List.getElem?_cons_succ]; done) | (simp only [List.getElem?_toArray, List.getElem?_cons_zero, List.getElem?_cons_succ]; rfl)) (fun K hK => ?_) AllReadyH.nil
  go_simp
  refine (HN2.out _ HX.out).mono ?_; rintro e W4 ⟨rfl, hx⟩; replace HX := Lib.hid (show Ext W1 W4 from HX.out.tr hx); clear hx
  try (go_wp2_with fail)
  refine hK.out _ _ (by (try dsimp only); exact HC.out _ HX.out) (fun hHeld => ?_)
  clear hK K
  try simp only [Act.put, List.setIfInBounds_toArray, List.set_cons_zero, List.set_cons_succ]
  refine wpAnyH_ready (rs := [11]) (by kernel_rfl) (by simp) ?_
  refine AllReadyH.cons (by first | (simp only [List.getElem?_toArray, List.getElem?_cons_zero, List.getElem?_cons_succ]; done) | (simp only [List.getElem?_toArray, List.getElem?_cons_zero, List.getElem?_cons_succ]; rfl)) (fun K hK => ?_) AllReadyH.nil
  go_simp
  refine (HKT.out _ HX.out).mono ?_; rintro e W4 ⟨rfl, hx⟩; replace HX := Lib.hid (show Ext W1 W4 from HX.out.tr hx); clear hx
  try (go_wp2_with fail)
  refine hK.out _ _ (by (try dsimp only); exact HC.out _ HX.out) (fun hHeld => ?_)
  clear hK K
  try simp only [Act.put, List.setIfInBounds_toArray, List.set_cons_zero, List.set_cons_succ]
  refine wpAnyH_ready (rs := [12]) (by kernel_rfl) (by simp) ?_
  refine AllReadyH.cons (by first | (simp only [List.getElem?_toArray, List.getElem?_cons_zero, List.getElem?_cons_succ]; done) | (simp only [List.getElem?_toArray, List.getElem?_cons_zero, List.getElem?_cons_succ]; rfl)) (fun K hK => ?_) AllReadyH.nil
  go_simp
  have HX4 := Lib.hid HX.out; replace HX := Lib.hid (show Ext W1 (W4.alloc (.cells #[.string s0, .string s1, .string s2, .string s3] 9)) from HX.out.alloc _)
  try (go_wp2_with fail)
  refine hK.out _ _ (by (try dsimp only); exact HC.out _ HX.out) (fun hHeld => ?_)
  clear hK K
  try simp only [Act.put, List.setIfInBounds_toArray, List.set_cons_zero, List.set_cons_succ]
  refine wpAnyH_ready (rs := [13]) (by kernel_rfl) (by simp) ?_
  refine AllReadyH.cons (by first | (simp only [List.getElem?_toArray, List.getElem?_cons_zero, List.getElem?_cons_succ]; done) | (simp only [List.getElem?_toArray, List.getElem?_cons_zero, List.getElem?_cons_succ]; rfl)) (fun K hK => ?_) AllReadyH.nil
  go_simp
  refine (HJ.out W4).mono ?_; rintro e W5 ⟨rfl, hx⟩; replace HX := Lib.hid (show Ext W1 W5 from HX.out.tr hx); clear hx
  try (go_wp2_with fail)
  refine hK.out _ _ (by (try dsimp only); exact HC.out _ HX.out) (fun hHeld => ?_)
  clear hK K
  try simp only [Act.put, List.setIfInBounds_toArray, List.set_cons_zero, List.set_cons_succ]
  refine wpAnyH_take (i := 14) (v := ?_) (by first | (simp only [List.getElem?_toArray, List.getElem?_cons_zero, List.getElem?_cons_succ]; done) | (simp only [List.getElem?_toArray, List.getElem?_cons_zero, List.getElem?_cons_succ]; rfl)) (by kernel_rfl) (by kernel_rfl) (by kernel_rfl) (by exact fun _ _ _ h => h) (Or.inl ⟨by rfl, ?hy14⟩) (by assumption) ?_
  case hy14 => (intro w hSw; (try dsimp only at hSw); go_simp; try with_reducible rfl)
  try simp only [Act.put, List.setIfInBounds_toArray, List.set_cons_zero, List.set_cons_succ]
  refine wpAnyH_done (by kernel_rfl) ?_ _
  clear hHeld
  have HFIN := Lib.hid (HE.out.tr HX.out)
  go_wp2
  go_ret
  exact ⟨rfl, HFIN.out⟩
end Go.Proofs.YtbbgmlnfpnomiaaGreatDoor
