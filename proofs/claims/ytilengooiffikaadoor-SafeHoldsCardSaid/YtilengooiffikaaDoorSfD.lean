/- What becomes of one that votes for a block: Vote. -/
import Derived.Test.YtilengooiffikaaDoorSfC
set_option linter.unusedVariables false
set_option linter.unusedSimpArgs false
namespace Go.Proofs.YtilengooiffikaaDoor
open Go.RowKit Go.Sort Go.Maps
/-- Vote's own blocks. -/
structure VK (w W : World) (s : Sf) (b : T.B) : Prop where
  a : Blk W w.heap.size 89 (sV s)
  b : Blk W (w.heap.size + 1) 48 (bV b)
  c : Blk W (w.heap.size + 1 + 1) 89 [.int .i64 0, .int .i64 0, .int .u64 0, .slice none 0 0, .int .i64 0, .int .u64 0, .slice none 0 0]
  e : Ext w W
section
variable {w W W' : World} {s : Sf} {b : T.B}
theorem VK.ext (h : VK w W s b) (k : Ext W W') : VK w W' s b := ⟨h.a.ext k, h.b.ext k, h.c.ext k, h.e.tr k⟩
theorem VK.vo (h : VK w W s b) (v : Int) : VK w (W.setCell ⟨w.heap.size, 0, none⟩ (.int .i64 v)) ⟨v, s.lv, s.lb, s.hv, s.hb⟩ b :=
  ⟨h.a.set 0 _, h.b.other (by show w.heap.size + 1 ≠ w.heap.size; omega) _, h.c.other (by show w.heap.size + 1 + 1 ≠ w.heap.size; omega) _, Below.setCell h.e (Nat.le_refl _) _⟩
theorem VK.thC (h : VK w W s b) : W.there (w.heap.size + 1 + 1) 0 7 := h.c.there
theorem VK.out (h : VK w W s b) (f : Sf) : Blk (W.setCells (w.heap.size + 1 + 1) 0 (sV f)) (w.heap.size + 1 + 1) 89 (sV f) ∧ Ext w (W.setCells (w.heap.size + 1 + 1) 0 (sV f)) := ⟨h.c.put (by show 7 = 7; rfl), Ext.setCells (by omega) _ _ _ h.e⟩
end
theorem vk_new (w : World) (s : Sf) (b : T.B) : VK w (((w.alloc (.cells (sV s).toArray 89)).alloc (.cells (bV b).toArray 48)).alloc (.cells #[.int .i64 0, .int .i64 0, .int .u64 0, .slice none 0 0, .int .i64 0, .int .u64 0, .slice none 0 0] 89)) s b := by
  have h1 := Blk.new w 89 (sV s)
  have h2 := Blk.new (w.alloc (.cells (sV s).toArray 89)) 48 (bV b)
  have h3 := Blk.new ((w.alloc (.cells (sV s).toArray 89)).alloc (.cells (bV b).toArray 48)) 89 [.int .i64 0, .int .i64 0, .int .u64 0, .slice none 0 0, .int .i64 0, .int .u64 0, .slice none 0 0]
  rw [World.size_alloc] at h2
  rw [World.size_alloc, World.size_alloc] at h3
  exact ⟨(h1.ext ((Ext.rfl' _).alloc _)).ext ((Ext.rfl' _).alloc _), h2.ext ((Ext.rfl' _).alloc _), h3, (((Ext.rfl' w).alloc _).alloc _).alloc _⟩
set_option maxRecDepth 100000 in
set_option maxHeartbeats 1000000 in
theorem vote_no {tb mb : Nat} {L : List (Nat × T.B)} (w : World) (hT : Tr w tb mb L) (ht : TOk w) (s : Sf) (b : T.B) (hb : OkB b) (x : Bool)
    (hx : (T.get L (T.dig b)).isSome = true → ∀ W, Tr W tb mb L → Calls Tryd.prog 22 #[.pointer (some ⟨tb, 0, none⟩), cU64 (T.dig b), cU64 s.lb] W fun e w' => e = .returned (.bool x) ∧ Ext W w')
    (C : Int) (hc : ((mayC (T.get L (T.dig b)).isSome (decide (b.v ≤ s.vo)) x (decide (b.qv ≤ s.lv)) : Nat) : Int) = C) (hC : (C != 0) = true) :
    Calls Tryd.prog 29 #[.agg (sV s).toArray, .pointer (some ⟨tb, 0, none⟩), bA b] w fun e w' => e = .returned (.tuple #[.agg (sV s).toArray, .int .i64 C]) ∧ Ext w w' := by
  have HM := Lib.hid (fun W (hW : Ext w W) => may_calls W (hT.ext hW) (ht.ext hW) s b hb x hx)
  rw [hc] at HM
  have HS := Lib.hid (vk_new w s b)
  clear hx hc hT ht
  go_enter Tryd.func29, Tryd.ntmps29
  go_upto_region 1 with (fail)
  generalize ((w.alloc (.cells (sV s).toArray 89)).alloc (.cells (bV b).toArray 48)).alloc (.cells #[.int .i64 0, .int .i64 0, .int .u64 0, .slice none 0 0, .int .i64 0, .int .u64 0, .slice none 0 0] 89) = W0 at *
  go_wp2_with (first
    | (refine wpList_load_row rfl _ _ rfl w.heap.size rfl 89 (sV s).toArray (0, 0) _ HS.out.a Tryd.underlying89 rfl rfl ?_)
    | (refine wpList_load_row rfl _ _ rfl (w.heap.size + 1) rfl 48 (bV b).toArray (0, 0) _ HS.out.b Tryd.underlying48 rfl rfl ?_))
  refine (HM.out W0 HS.out.e).mono ?_
  rintro e w1 ⟨rfl, hx1⟩
  replace HS := Lib.hid (HS.out.ext hx1)
  clear hx1
  have hC2 : (C == 0) = false := by simpa [bne] using hC
  go_wp2_with (first
    | (refine wpList_load_row rfl _ _ rfl w.heap.size rfl 89 (sV s).toArray (0, 0) _ HS.out.a Tryd.underlying89 rfl rfl ?_)
    | (refine wpList_store_mid rfl _ _ _ rfl (w.heap.size + 1 + 1) 0 (sV s).toArray rfl rfl HS.out.thC rfl (all_oneCell_toArray (sV_one _)) ?_; rw [List.toList_toArray]; have hz := VK.out HS.out s; generalize w1.setCells (w.heap.size + 1 + 1) 0 (sV s) = W9 at *))
  exact ret_cell_tmp rfl hz.1 Tryd.underlying89 rfl rfl rfl rfl ⟨rfl, hz.2⟩
set_option maxRecDepth 100000 in
set_option maxHeartbeats 1000000 in
theorem vote_yes {tb mb : Nat} {L : List (Nat × T.B)} (w : World) (hT : Tr w tb mb L) (ht : TOk w) (s : Sf) (b : T.B) (hb : OkB b) (x : Bool)
    (hx : (T.get L (T.dig b)).isSome = true → ∀ W, Tr W tb mb L → Calls Tryd.prog 22 #[.pointer (some ⟨tb, 0, none⟩), cU64 (T.dig b), cU64 s.lb] W fun e w' => e = .returned (.bool x) ∧ Ext W w')
    (hc : mayC (T.get L (T.dig b)).isSome (decide (b.v ≤ s.vo)) x (decide (b.qv ≤ s.lv)) = 0) :
    Calls Tryd.prog 29 #[.agg (sV s).toArray, .pointer (some ⟨tb, 0, none⟩), bA b] w fun e w' => e = .returned (.tuple #[.agg (sV (sawF L ⟨b.v, s.lv, s.lb, s.hv, s.hb⟩ (b.qv, b.qb))).toArray, .int .i64 0]) ∧ Ext w w' := by
  have HM := Lib.hid (fun W (hW : Ext w W) => may_calls W (hT.ext hW) (ht.ext hW) s b hb x hx)
  rw [hc] at HM
  have HM' := Lib.hid (show ∀ W, Ext w W → Calls Tryd.prog 31 #[.agg (sV s).toArray, .pointer (some ⟨tb, 0, none⟩), bA b] W fun e w' => e = .returned (.int .i64 0) ∧ Ext W w' from HM.out)
  have HW := Lib.hid (fun W (hW : Ext w W) => saw_calls W (hT.ext hW) ⟨b.v, s.lv, s.lb, s.hv, s.hb⟩ b.qv b.qb hb.qb)
  have HS := Lib.hid (vk_new w s b)
  clear hx hc hT ht HM
  generalize sawF L ⟨b.v, s.lv, s.lb, s.hv, s.hb⟩ (b.qv, b.qb) = F at *
  go_enter Tryd.func29, Tryd.ntmps29
  go_upto_region 1 with (fail)
  generalize ((w.alloc (.cells (sV s).toArray 89)).alloc (.cells (bV b).toArray 48)).alloc (.cells #[.int .i64 0, .int .i64 0, .int .u64 0, .slice none 0 0, .int .i64 0, .int .u64 0, .slice none 0 0] 89) = W0 at *
  go_wp2_with (first
    | (refine wpList_load_row rfl _ _ rfl w.heap.size rfl 89 (sV s).toArray (0, 0) _ HS.out.a Tryd.underlying89 rfl rfl ?_)
    | (refine wpList_load_row rfl _ _ rfl (w.heap.size + 1) rfl 48 (bV b).toArray (0, 0) _ HS.out.b Tryd.underlying48 rfl rfl ?_))
  refine (HM'.out W0 HS.out.e).mono ?_
  rintro e w1 ⟨rfl, hx1⟩
  replace HS := Lib.hid (HS.out.ext hx1)
  clear hx1
  have a0 : w1.cell? ⟨w.heap.size, 0, none⟩ = some (.int .i64 s.vo) := HS.out.a.cell rfl
  have b0 : w1.cell? ⟨w.heap.size + 1, 0, none⟩ = some (.int .i64 b.v) := HS.out.b.cell rfl
  have f0 := HS.out.a.frozen 0
  go_upto_region 5 with (fail)
  replace HS := Lib.hid (HS.out.vo b.v)
  clear a0 b0 f0
  generalize w1.setCell ⟨w.heap.size, 0, none⟩ (.int .i64 b.v) = W2 at *
  go_wp2_with (first
    | (refine wpList_load_row rfl _ _ rfl w.heap.size rfl 89 (sV ⟨b.v, s.lv, s.lb, s.hv, s.hb⟩).toArray (0, 0) _ HS.out.a Tryd.underlying89 rfl rfl ?_)
    | (refine wpList_load_mid rfl _ _ rfl (w.heap.size + 1) 2 rfl (qV b.qv b.qb) _ (bV_qc HS.out.b) Tryd.underlying45 rfl rfl ?_))
  refine (HW.out W2 HS.out.e).mono ?_
  rintro e w3 ⟨rfl, hx3⟩
  replace HS := Lib.hid (HS.out.ext hx3)
  clear hx3
  go_wp2_with (refine wpList_store_mid rfl _ _ _ rfl (w.heap.size + 1 + 1) 0 (sV F).toArray rfl rfl HS.out.thC rfl (all_oneCell_toArray (sV_one _)) ?_; rw [List.toList_toArray]; have hz := VK.out HS.out F; generalize w3.setCells (w.heap.size + 1 + 1) 0 (sV F) = W9 at *)
  exact ret_cell_tmp rfl hz.1 Tryd.underlying89 rfl rfl rfl rfl ⟨rfl, hz.2⟩
end Go.Proofs.YtilengooiffikaaDoor
