/- What becomes of one that saw votes: Saw. -/
import Derived.Test.YtilengooiffikaaDoorSfB
set_option linter.unusedVariables false
set_option linter.unusedSimpArgs false
namespace Go.Proofs.YtilengooiffikaaDoor
open Go.RowKit Go.Sort Go.Maps
def hiF (s : Sf) (q : Int × Nat) : Sf := ⟨s.vo, s.lv, s.lb, (gtQ (s.hv, s.hb) q).1, (gtQ (s.hv, s.hb) q).2⟩
def loF (s : Sf) (q : Int × Nat) : Sf := ⟨s.vo, (gtQ (s.lv, s.lb) q).1, (gtQ (s.lv, s.lb) q).2, s.hv, s.hb⟩
/-- What becomes of it. -/
def sawF (L : List (Nat × T.B)) (s : Sf) (q : Int × Nat) : Sf :=
  if (T.get L q.2).isSome then loF (hiF s q) (((T.get L q.2).getD T.gen).qv, ((T.get L q.2).getD T.gen).qb) else hiF s q
/-- Saw's own blocks. -/
structure SK (w W : World) (s : Sf) (q : Int × Nat) : Prop where
  a : Blk W w.heap.size 89 (sV s)
  b : Blk W (w.heap.size + 1) 45 (qV q.1 q.2)
  c : Blk W (w.heap.size + 1 + 1) 89 [.int .i64 0, .int .i64 0, .int .u64 0, .slice none 0 0, .int .i64 0, .int .u64 0, .slice none 0 0]
  e : Ext w W
section
variable {w W W' : World} {s : Sf} {q : Int × Nat}
theorem SK.ext (h : SK w W s q) (k : Ext W W') : SK w W' s q := ⟨h.a.ext k, h.b.ext k, h.c.ext k, h.e.tr k⟩
theorem SK.hi (h : SK w W s q) (p : Int × Nat) : SK w (W.setCells w.heap.size 4 (qV p.1 p.2)) ⟨s.vo, s.lv, s.lb, p.1, p.2⟩ q :=
  ⟨set_all (qV p.1 p.2) (sV s) 4 W _ _ (by show 4 + 3 ≤ 7; decide) h.a, h.b.others (by omega) _ _ _, h.c.others (by omega) _ _ _, Ext.setCells (Nat.le_refl _) _ _ _ h.e⟩
theorem SK.lo (h : SK w W s q) (p : Int × Nat) : SK w (W.setCells w.heap.size 1 (qV p.1 p.2)) ⟨s.vo, p.1, p.2, s.hv, s.hb⟩ q :=
  ⟨set_all (qV p.1 p.2) (sV s) 1 W _ _ (by show 1 + 3 ≤ 7; decide) h.a, h.b.others (by omega) _ _ _, h.c.others (by omega) _ _ _, Ext.setCells (Nat.le_refl _) _ _ _ h.e⟩
theorem SK.out (h : SK w W s q) (f : Sf) : Blk (W.setCells (w.heap.size + 1 + 1) 0 (sV f)) (w.heap.size + 1 + 1) 89 (sV f) ∧ Ext w (W.setCells (w.heap.size + 1 + 1) 0 (sV f)) := ⟨h.c.put (by show 7 = 7; rfl), Ext.setCells (by omega) _ _ _ h.e⟩
theorem SK.thC (h : SK w W s q) : W.there (w.heap.size + 1 + 1) 0 7 := h.c.there
theorem SK.thH (h : SK w W s q) : W.there w.heap.size 4 3 := fun j hj => by have := h.a.there (4 + j) (by show 4 + j < 7; omega); simpa using this
theorem SK.thL (h : SK w W s q) : W.there w.heap.size 1 3 := fun j hj => by have := h.a.there (1 + j) (by show 1 + j < 7; omega); simpa using this
theorem SK.rH (h : SK w W s q) : W.rangeAt w.heap.size 4 (qV s.hv s.hb) := fun j v hj => h.a.cell (by rcases j with _ | _ | _ | j <;> first | exact hj | (simp [qV] at hj))
theorem SK.rL (h : SK w W s q) : W.rangeAt w.heap.size 1 (qV s.lv s.lb) := fun j v hj => h.a.cell (by rcases j with _ | _ | _ | j <;> first | exact hj | (simp [qV] at hj))
end
theorem sV_one (s : Sf) : ∀ x ∈ sV s, x.oneCell' = true := fun x hx => by
  simp only [sV, List.mem_cons, List.not_mem_nil, or_false] at hx
  rcases hx with rfl | rfl | rfl | rfl | rfl | rfl | rfl <;> rfl
theorem bV_qc {W : World} {D : Nat} {U : TypeId} {b : T.B} (h : Blk W D U (bV b)) : W.rangeAt D 2 (qV b.qv b.qb) := fun j v hj => h.cell (by rcases j with _ | _ | _ | j <;> first | exact hj | (simp [qV] at hj))
set_option maxRecDepth 100000 in
set_option maxHeartbeats 800000 in
theorem saw_calls {tb mb : Nat} {L : List (Nat × T.B)} (w : World) (hT : Tr w tb mb L) (s : Sf) (qv : Int) (qb : Nat) (hqb : qb < 18446744073709551616) :
    Calls Tryd.prog 30 #[.agg (sV s).toArray, .pointer (some ⟨tb, 0, none⟩), qA qv qb] w fun e w' => e = .returned (.agg (sV (sawF L s (qv, qb))).toArray) ∧ Ext w w' := by
  have hk : SK w (((w.alloc (.cells (sV s).toArray 89)).alloc (.cells (qV qv qb).toArray 45)).alloc (.cells #[.int .i64 0, .int .i64 0, .int .u64 0, .slice none 0 0, .int .i64 0, .int .u64 0, .slice none 0 0] 89)) s (qv, qb) := by
    have h1 := Blk.new w 89 (sV s)
    have h2 := Blk.new (w.alloc (.cells (sV s).toArray 89)) 45 (qV qv qb)
    have h3 := Blk.new ((w.alloc (.cells (sV s).toArray 89)).alloc (.cells (qV qv qb).toArray 45)) 89 [.int .i64 0, .int .i64 0, .int .u64 0, .slice none 0 0, .int .i64 0, .int .u64 0, .slice none 0 0]
    rw [World.size_alloc] at h2
    rw [World.size_alloc, World.size_alloc] at h3
    exact ⟨(h1.ext ((Ext.rfl' _).alloc _)).ext ((Ext.rfl' _).alloc _), h2.ext ((Ext.rfl' _).alloc _), h3, (((Ext.rfl' w).alloc _).alloc _).alloc _⟩
  have HS := Lib.hid hk
  have HT := Lib.hid hT
  have HG := Lib.hid (fun (W : World) (hW : Ext w W) => tget_calls W (hT.ext hW) qb hqb)
  have hF : sawF L s (qv, qb) = if (T.get L qb).isSome then loF (hiF s (qv, qb)) (((T.get L qb).getD T.gen).qv, ((T.get L qb).getD T.gen).qb) else hiF s (qv, qb) := rfl
  clear hk hT
  generalize sawF L s (qv, qb) = F at *
  generalize (T.get L qb).isSome = g at *
  generalize (T.get L qb).getD T.gen = bk at *
  have HF := Lib.hid hF
  clear hF
  go_enter Tryd.func30, Tryd.ntmps30
  go_upto_region 1 with (fail)
  generalize ((w.alloc (.cells (sV s).toArray 89)).alloc (.cells (qV qv qb).toArray 45)).alloc (.cells #[.int .i64 0, .int .i64 0, .int .u64 0, .slice none 0 0, .int .i64 0, .int .u64 0, .slice none 0 0] 89) = W0 at *
  go_wp2_with (first
    | (refine wpList_load_mid rfl _ _ rfl w.heap.size 4 rfl (qV s.hv s.hb) _ HS.out.rH Tryd.underlying45 rfl rfl ?_)
    | (refine wpList_load_row rfl _ _ rfl (w.heap.size + 1) rfl 45 (qV qv qb).toArray (0, 0) _ HS.out.b Tryd.underlying45 rfl rfl ?_))
  refine (greater_calls s.hv s.hb qv qb W0).mono ?_
  rintro e w1 ⟨rfl, hx1⟩
  replace HS := Lib.hid (HS.out.ext hx1)
  clear hx1
  go_upto_region 2 with (refine wpList_store_mid rfl _ _ _ rfl w.heap.size 4 (qV (gtQ (s.hv, s.hb) (qv, qb)).1 (gtQ (s.hv, s.hb) (qv, qb)).2).toArray rfl rfl HS.out.thH rfl (all_oneCell_toArray (qV_one _ _)) ?_)
  replace HS := Lib.hid (HS.out.hi (gtQ (s.hv, s.hb) (qv, qb)))
  generalize hp1 : gtQ (s.hv, s.hb) (qv, qb) = p at *
  have HP1 := Lib.hid hp1
  clear hp1
  generalize w1.setCells w.heap.size 4 (qV p.1 p.2) = W2 at *
  have b1 : W2.cell? ⟨w.heap.size + 1, 1, none⟩ = some (cU64 qb) := HS.out.b.cell rfl
  go_wp2_with fail
  refine (HG.out W2 HS.out.e).mono ?_
  rintro e w3 ⟨rfl, hx3⟩
  replace HS := Lib.hid (HS.out.ext hx3)
  clear hx3 b1
  go_upto_region 3 with (refine wpList_store_new rfl _ _ _ rfl _ _ (bV bk) rfl rfl rfl rfl (bV_one _) ?_; intro W4 hX4 hB4)
  replace HS := Lib.hid (HS.out.ext hX4)
  have HB := Lib.hid hB4
  clear hX4 hB4
  generalize w3.heap.size = D at *
  cases g with
  | false =>
    go_wp2_with (first
      | (refine wpList_load_row rfl _ _ rfl w.heap.size rfl 89 (sV ⟨s.vo, s.lv, s.lb, p.1, p.2⟩).toArray (0, 0) _ HS.out.a Tryd.underlying89 rfl rfl ?_)
      | (refine wpList_store_mid rfl _ _ _ rfl (w.heap.size + 1 + 1) 0 (sV ⟨s.vo, s.lv, s.lb, p.1, p.2⟩).toArray rfl rfl HS.out.thC rfl (all_oneCell_toArray (sV_one _)) ?_; rw [List.toList_toArray]; have hz := SK.out HS.out ⟨s.vo, s.lv, s.lb, p.1, p.2⟩; generalize W4.setCells (w.heap.size + 1 + 1) 0 (sV ⟨s.vo, s.lv, s.lb, p.1, p.2⟩) = W9 at *))
    exact ret_cell rfl hz.1 Tryd.underlying89 rfl rfl rfl ⟨by rw [HF.out, if_neg (by decide), hiF, HP1.out], hz.2⟩
  | true =>
    go_wp2_with (first
      | (refine wpList_load_mid rfl _ _ rfl w.heap.size 1 rfl (qV s.lv s.lb) _ HS.out.rL Tryd.underlying45 rfl rfl ?_)
      | (refine wpList_load_mid rfl _ _ rfl D 2 rfl (qV bk.qv bk.qb) _ (bV_qc HB.out) Tryd.underlying45 rfl rfl ?_))
    refine (greater_calls s.lv s.lb bk.qv bk.qb W4).mono ?_
    rintro e w5 ⟨rfl, hx5⟩
    replace HS := Lib.hid (HS.out.ext hx5)
    clear hx5
    generalize hp2 : gtQ (s.lv, s.lb) (bk.qv, bk.qb) = p2 at *
    have HP2 := Lib.hid hp2
    clear hp2
    go_upto_region 5 with (refine wpList_store_mid rfl _ _ _ rfl w.heap.size 1 (qV p2.1 p2.2).toArray rfl rfl HS.out.thL rfl (all_oneCell_toArray (qV_one _ _)) ?_)
    replace HS := Lib.hid (HS.out.lo p2)
    generalize w5.setCells w.heap.size 1 (qV p2.1 p2.2) = W6 at *
    go_wp2_with (first
      | (refine wpList_load_row rfl _ _ rfl w.heap.size rfl 89 (sV ⟨s.vo, p2.1, p2.2, p.1, p.2⟩).toArray (0, 0) _ HS.out.a Tryd.underlying89 rfl rfl ?_)
      | (refine wpList_store_mid rfl _ _ _ rfl (w.heap.size + 1 + 1) 0 (sV ⟨s.vo, p2.1, p2.2, p.1, p.2⟩).toArray rfl rfl HS.out.thC rfl (all_oneCell_toArray (sV_one _)) ?_; rw [List.toList_toArray]; have hz := SK.out HS.out ⟨s.vo, p2.1, p2.2, p.1, p.2⟩; generalize W6.setCells (w.heap.size + 1 + 1) 0 (sV ⟨s.vo, p2.1, p2.2, p.1, p.2⟩) = W9 at *))
    exact ret_cell rfl hz.1 Tryd.underlying89 rfl rfl rfl ⟨by rw [HF.out, if_pos trivial, hiF, HP1.out, loF, HP2.out], hz.2⟩
end Go.Proofs.YtilengooiffikaaDoor
