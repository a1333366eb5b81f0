/- What may be voted for: view, greater, New. -/
import Derived.Test.YtilengooiffikaaDoorTKb
import Derived.Test.YtilengooiffikaaDoorGrow
import Derived.Laws.Rows
import Derived.Deep.MidRow
import Derived.Deep.DeepCutAuto
set_option linter.unusedVariables false
set_option linter.unusedSimpArgs false
namespace Go.Proofs.YtilengooiffikaaDoor
open Go.RowKit
theorem there32 {W : World} {B n : Nat} {T : TypeId} {L : List Value} (h : Blk W B T L) (hn : n = L.length) : W.there B 0 n := hn ▸ h.there
/-- A store of a whole struct into a variable that was just made. -/
theorem wpList_store_new {P : Program} {ops : Array Oper} {rest : List Oper} {op : Oper} {a : Act} {w0 : World} {Q : Exit → Act → World → Prop} (hgd : op.guard = none) (ty : TypeId) (x y : Operand) (ho : op.op = .store ty x y) (C : Array Value) (T : TypeId) (L : List Value)
    (hx : a.eval x = .pointer (some ⟨w0.heap.size, 0, none⟩)) (hy : a.eval y = .agg L.toArray) (hC : C.size = L.length) (hi : (P.info? ty).map (·.size) = some L.length) (h1 : ∀ v ∈ L, v.oneCell' = true)
    (h : ∀ W', Ext w0 W' → Blk W' w0.heap.size T L → wpList P ops Q rest (a.put op.dst undef) W') : wpList P ops Q (op :: rest) a (w0.alloc (.cells C T)) := by
  have hb : Blk (w0.alloc (.cells C T)) w0.heap.size T C.toList := by
    have := Blk.new w0 T C.toList
    rwa [Array.toArray_toList] at this
  have hl : L.length = C.toList.length := by rw [Array.length_toList]; exact hC.symm
  refine wpList_store_mid hgd ty x y ho w0.heap.size 0 L.toArray hx hy (there32 hb (by rw [List.size_toArray]; exact hl)) (by rw [List.size_toArray]; exact hi) (all_oneCell_toArray h1) ?_
  rw [List.toList_toArray]
  exact h _ (Ext.setCells (Nat.le_refl _) L 0 _ ((Ext.rfl' w0).alloc _)) (hb.put hl)
theorem ret_cell {P : Program} {fn : Func} {R : Ending → World → Prop} {p : Tmp} {ty : TypeId} {d : TypeDesc} {W : World} {B : Nat} {T : TypeId} {L : List Value} {tm : Array Value} (hres : fn.results = #[.cell p ty]) (hb : Blk W B T L)
    (hu : P.underlying ty = some d) (hd : (match d with | .struct _ | .array _ _ => true | _ => false) = true) (hi : (P.info? ty).map (·.size) = some L.length) (hp : tm.getD p undef = .pointer (some ⟨B, 0, none⟩))
    (hR : R (.returned (.agg L.toArray)) W) : bodyPost P fn R .ret { tmps := tm, defers := [] } W := by
  refine bodyPost_ret (v := .agg L.toArray) ?_ rfl hR
  exact results_cell_row hres tm W B T L.toArray (0, 0) d hp hb hu hd (by simpa using hi)
def qV (v : Int) (b : Nat) : List Value := [.int .i64 v, cU64 b, .slice none 0 0]
abbrev qA (v : Int) (b : Nat) : Value := .agg (qV v b).toArray
/-- What a replica voted for, what holds it, what is highest. -/
structure Sf where
  vo : Int
  lv : Int
  lb : Nat
  hv : Int
  hb : Nat
deriving DecidableEq
def sV (s : Sf) : List Value := [.int .i64 s.vo, .int .i64 s.lv, cU64 s.lb, .slice none 0 0, .int .i64 s.hv, cU64 s.hb, .slice none 0 0]
def sA (s : Sf) : Value := .agg #[.int .i64 s.vo, .int .i64 s.lv, cU64 s.lb, .slice none 0 0, .int .i64 s.hv, cU64 s.hb, .slice none 0 0]
set_option maxRecDepth 100000 in
theorem view18_calls (v : Int) (b : Nat) (w : World) : Calls Tryd.prog 56 #[qA v b] w fun e w' => e = .returned (.int .i64 v) ∧ Ext w w' := by
  have HE := Lib.hid (show Ext w (w.alloc (.cells (qV v b).toArray 45)) from (Ext.rfl' w).alloc _)
  have c0 : (w.alloc (.cells (qV v b).toArray 45)).cell? ⟨w.heap.size, 0, none⟩ = some (.int .i64 v) := (Blk.new w 45 (qV v b)).cell rfl
  go_enter Tryd.func56, Tryd.ntmps56
  go_wp2
  go_ret
  exact ⟨rfl, HE.out⟩
set_option maxRecDepth 100000 in
theorem new18_calls (w : World) : Calls Tryd.prog 28 #[] w fun e w' => e = .returned (sA ⟨0, 0, 0, 0, 0⟩) ∧ Ext w w' := by
  go_enter Tryd.func28, Tryd.ntmps28
  go_wp2
  refine bodyPost_ret (v := sA ⟨0, 0, 0, 0, 0⟩) (by simp [results, Tryd.f28, go_sem, sA]) rfl ⟨rfl, ((Below.refl _ w).alloc (Nat.le_refl _) _)⟩
theorem qV_one (v : Int) (b : Nat) : ∀ x ∈ qV v b, x.oneCell' = true := fun x hx => by
  simp only [qV, List.mem_cons, List.not_mem_nil, or_false] at hx
  rcases hx with rfl | rfl | rfl <;> rfl
/-- The greater one of two. -/
def gtQ (a b : Int × Nat) : Int × Nat := if a.1 < b.1 then b else a
set_option maxRecDepth 100000 in
set_option maxHeartbeats 2000000 in
theorem greater_calls (v : Int) (b : Nat) (v' : Int) (b' : Nat) (w : World) : Calls Tryd.prog 55 #[qA v b, qA v' b', .func (.func 56) #[] #[]] w fun e w' => e = .returned (qA (gtQ (v, b) (v', b')).1 (gtQ (v, b) (v', b')).2) ∧ Ext w w' := by
  have hk0 := (Blk.new w 45 (qV v b)).ext ((Ext.rfl' _).alloc (.cells (qV v' b').toArray 45))
  have hk1 := Blk.new (w.alloc (.cells (qV v b).toArray 45)) 45 (qV v' b')
  rw [World.size_alloc] at hk1
  have hcs : (decide (v < v') = true ∧ gtQ (v, b) (v', b') = (v', b')) ∨ (decide (v < v') = false ∧ gtQ (v, b) (v', b') = (v, b)) := by
    unfold gtQ
    by_cases h : v < v' <;> simp [h]
  generalize gtQ (v, b) (v', b') = G at *
  have HK0 := Lib.hid hk0
  have HK1 := Lib.hid hk1
  have HV0 := Lib.hid (view18_calls v b)
  have HV1 := Lib.hid (view18_calls v' b')
  clear hk0 hk1
  go_enter Tryd.func55, Tryd.ntmps55
  go_upto_region 1 with (fail)
  have hz0 := (Blk.new ((w.alloc (.cells (qV v b).toArray 45)).alloc (.cells (qV v' b').toArray 45)) 45 [.int .i64 0, .int .u64 0, .slice none 0 0])
  rw [World.size_alloc, World.size_alloc] at hz0
  have hE0 : Ext w (((w.alloc (.cells (qV v b).toArray 45)).alloc (.cells (qV v' b').toArray 45)).alloc (.cells #[.int .i64 0, .int .u64 0, .slice none 0 0] 45)) := (((Ext.rfl' w).alloc _).alloc _).alloc _
  have hk0 := HK0.out.ext ((Ext.rfl' _).alloc (.cells #[.int .i64 0, .int .u64 0, .slice none 0 0] 45))
  have hk1 := HK1.out.ext ((Ext.rfl' _).alloc (.cells #[.int .i64 0, .int .u64 0, .slice none 0 0] 45))
  generalize ((w.alloc (.cells (qV v b).toArray 45)).alloc (.cells (qV v' b').toArray 45)).alloc (.cells #[.int .i64 0, .int .u64 0, .slice none 0 0] 45) = W at *
  have HZ := Lib.hid hz0
  have HE := Lib.hid hE0
  have HKA := Lib.hid (show ∀ w', (∃ x : ExtW W, w' = x.1) → Blk w' w.heap.size 45 (qV v b) from fun w' ⟨x, e⟩ => e ▸ hk0.ext x.2)
  have HKB := Lib.hid (show ∀ w', (∃ x : ExtW W, w' = x.1) → Blk w' (w.heap.size + 1) 45 (qV v' b') from fun w' ⟨x, e⟩ => e ▸ hk1.ext x.2)
  have XA := Lib.hid (fun x : ExtW W => HV0.out x.1)
  have XB := Lib.hid (fun x : ExtW W => HV1.out x.1)
  clear hz0 hE0 hk0 hk1 HK0 HK1 HV0 HV1
  have hfin : ∀ (x : ExtW W) (vv : Int) (bb : Nat), Blk (x.1.setCells (w.heap.size + 1 + 1) 0 (qV vv bb)) (w.heap.size + 1 + 1) 45 (qV vv bb) ∧ Ext w (x.1.setCells (w.heap.size + 1 + 1) 0 (qV vv bb)) := fun x vv bb =>
    ⟨(HZ.out.ext x.2).put rfl, Ext.setCells (by omega) _ _ _ (HE.out.tr x.2)⟩
  have hth : ∀ (x : ExtW W), x.1.there (w.heap.size + 1 + 1) 0 3 := fun x => (HZ.out.ext x.2).there
  have HF := Lib.hid hfin
  have HTH := Lib.hid hth
  clear hfin hth
  refine wp_region_grow (by kernel_rfl) (by kernel_rfl) ?_
  repeat (any_goals (first
    | (refine wpQuiet_load _ _ rfl (by rfl) w.heap.size (by rfl) 45 (qV v b) _ HKA.out Tryd.underlying45 rfl rfl ?_; simp only [Act.put, List.setIfInBounds_toArray, List.set_cons_zero, List.set_cons_succ])
    | (refine wpQuiet_load _ _ rfl (by rfl) (w.heap.size + 1) (by rfl) 45 (qV v' b') _ HKB.out Tryd.underlying45 rfl rfl ?_; simp only [Act.put, List.setIfInBounds_toArray, List.set_cons_zero, List.set_cons_succ])
    | (go_big_quiet_step (first | (go_at_call 56; with_reducible exact grow_of (XA.out _)) | (go_at_call 56; with_reducible exact grow_of (XB.out _))))))
  refine wpQuiet_nil ?_
  rintro w8 ⟨x, hx⟩
  have hx8 : Ext W w8 := by rw [hx]; exact x.2
  clear hx x
  have HF8 := Lib.hid (show ∀ vv bb, Blk (w8.setCells (w.heap.size + 1 + 1) 0 (qV vv bb)) (w.heap.size + 1 + 1) 45 (qV vv bb) ∧ Ext w (w8.setCells (w.heap.size + 1 + 1) 0 (qV vv bb)) from fun vv bb => HF.out ⟨w8, hx8⟩ vv bb)
  have HT8 := Lib.hid (show w8.there (w.heap.size + 1 + 1) 0 3 from HTH.out ⟨w8, hx8⟩)
  have HA8 := Lib.hid (show Blk w8 w.heap.size 45 (qV v b) from HKA.out _ ⟨⟨w8, hx8⟩, rfl⟩)
  have HB8 := Lib.hid (show Blk w8 (w.heap.size + 1) 45 (qV v' b') from HKB.out _ ⟨⟨w8, hx8⟩, rfl⟩)
  clear HF HTH HKA HKB XA XB HE HZ
  rcases hcs with ⟨h1, h2⟩ | ⟨h1, h2⟩
  · rw [h1]
    go_wp2_with (first
      | (refine wpList_load_row rfl _ _ rfl (w.heap.size + 1) rfl 45 (qV v' b').toArray (0, 0) _ HB8.out Tryd.underlying45 rfl rfl ?_)
      | (refine wpList_store_mid rfl _ _ _ rfl (w.heap.size + 1 + 1) 0 (qV v' b').toArray rfl rfl HT8.out rfl (all_oneCell_toArray (qV_one _ _)) ?_))
    exact ret_cell rfl (HF8.out v' b').1 Tryd.underlying45 rfl rfl rfl ⟨by rw [h2], (HF8.out v' b').2⟩
  · rw [h1]
    go_wp2_with (first
      | (refine wpList_load_row rfl _ _ rfl w.heap.size rfl 45 (qV v b).toArray (0, 0) _ HA8.out Tryd.underlying45 rfl rfl ?_)
      | (refine wpList_store_mid rfl _ _ _ rfl (w.heap.size + 1 + 1) 0 (qV v b).toArray rfl rfl HT8.out rfl (all_oneCell_toArray (qV_one _ _)) ?_))
    exact ret_cell rfl (HF8.out v b).1 Tryd.underlying45 rfl rfl rfl ⟨by rw [h2], (HF8.out v b).2⟩
end Go.Proofs.YtilengooiffikaaDoor
