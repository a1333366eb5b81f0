/- Blocks of cells as lists. -/
import Derived.Test.YthjldedjllkeeaaGreatDoorCore
import Derived.Deep.MidRow
import Derived.Laws.Rows
import Derived.RangeFuncRecord
import Derived.RangeFuncBox
import Derived.Laws.ResultCell
import Derived.BigQuiet
set_option linter.unusedVariables false
namespace Go.Proofs.YthjldedjllkeeaaGreatDoor
open Go.RowKit
/-- Block B holds these cells. -/
def Blk (W : World) (B : Nat) (T : TypeId) (L : List Value) : Prop := W.heap[B]? = some (.cells L.toArray T (0, 0))
section
variable {W : World} {B : Nat} {T : TypeId} {L : List Value}
theorem Blk.new (W : World) (T : TypeId) (L : List Value) : Blk (W.alloc (.cells L.toArray T)) W.heap.size T L := World.alloc_heap_new W _
theorem Blk.lt (h : Blk W B T L) : B < W.heap.size := (Array.getElem?_eq_some_iff.1 h).1
theorem Blk.ext {W' : World} (h : Blk W B T L) (k : Ext W W') : Blk W' B T L := (k.block _ h.lt).trans h
theorem Blk.cell (h : Blk W B T L) {j : Nat} {v : Value} (hj : L[j]? = some v) : W.cell? ⟨B, j, none⟩ = some v := by
  simp [World.cell?, show W.heap[B]? = _ from h, hj]
theorem Blk.range (h : Blk W B T L) : W.rangeAt B 0 L := fun j v hj => by rw [Nat.zero_add]; exact h.cell hj
theorem Blk.frozen (h : Blk W B T L) (j : Nat) : W.frozen? ⟨B, j, none⟩ = false := by simp [World.frozen?, show W.heap[B]? = _ from h]
theorem Blk.there (h : Blk W B T L) : W.there B 0 L.length := fun j hj => ⟨by rw [Nat.zero_add, h.cell (List.getElem?_eq_getElem hj)]; rfl, by rw [Nat.zero_add]; exact h.frozen j⟩
theorem Blk.set (h : Blk W B T L) (j : Nat) (v : Value) : Blk (W.setCell ⟨B, j, none⟩ v) B T (L.set j v) := by
  simp [Blk, World.setCell, Array.getElem?_modify, show W.heap[B]? = _ from h]
theorem Blk.other (h : Blk W B T L) {x : Addr} (hne : B ≠ x.block) (v : Value) : Blk (W.setCell x v) B T L := by
  unfold Blk
  rw [Below.heap_setCell _ _ _ _ hne]
  exact h
theorem Blk.others {b : Nat} (hne : B ≠ b) : ∀ (vs : List Value) (o : Nat) (W : World), Blk W B T L → Blk (W.setCells b o vs) B T L
  | [], _, _, h => h
  | v :: vs, o, W, h => Blk.others hne vs (o + 1) _ (h.other hne v)
theorem Blk.drew (h : Blk W B T L) : Blk W.drew B T L := h
end
theorem set_all : ∀ (vs L : List Value) (o : Nat) (W : World) (B : Nat) (T : TypeId), o + vs.length ≤ L.length → Blk W B T L → Blk (W.setCells B o vs) B T (L.take o ++ vs ++ L.drop (o + vs.length))
  | [], L, o, W, B, T, _, h => by simpa [World.setCells] using h
  | v :: vs, L, o, W, B, T, hl, h => by
    rw [List.length_cons] at hl
    have := set_all vs (L.set o v) (o + 1) _ B T (by rw [List.length_set]; omega) (h.set o v)
    rw [World.setCells]
    have e : (L.set o v).take (o + 1) ++ vs ++ (L.set o v).drop (o + 1 + vs.length) = L.take o ++ v :: vs ++ L.drop (o + (v :: vs).length) := by
      rw [List.take_set, List.take_succ_eq_append_getElem (by omega), List.set_append_right _ _ (by rw [List.length_take]; omega), List.drop_set_of_lt (by omega)]
      simp [List.length_take, Nat.min_eq_left (show o ≤ L.length by omega), Nat.add_assoc, Nat.add_comm 1]
    rw [← e]
    exact this
theorem Blk.put {W : World} {B : Nat} {T : TypeId} {L vs : List Value} (h : Blk W B T L) (hl : vs.length = L.length) : Blk (W.setCells B 0 vs) B T vs := by
  have := set_all vs L 0 W B T (by omega) h
  simpa [hl] using this
theorem Ext.setCells {w : World} {B : Nat} (hB : w.heap.size ≤ B) : ∀ (vs : List Value) (o : Nat) (W : World), Ext w W → Ext w (W.setCells B o vs)
  | [], _, _, h => h
  | v :: vs, o, W, h => Ext.setCells hB vs (o + 1) _ (Below.setCell h hB v)
theorem ext_drewN {w W : World} (h : Ext w W) (n : Nat) : Ext w (W.drewN n) := ⟨h.os, h.tape, h.output, h.size, h.block⟩
/-- An operation that yields a value and does nothing else. -/
theorem wpList_val {P : Program} {ops : Array Oper} {rest : List Oper} {op : Oper} {a : Act} {w : World} {Q : Exit → Act → World → Prop} (hgd : op.guard = none) (v : Value) (hr : (execOp a.eval op).run P w = .ok (.value v) w)
    (h : wpList P ops Q rest (a.put op.dst v) w) : wpList P ops Q (op :: rest) a w :=
  wpList_plain hgd fun _ hK => by unfold Oper.wp; simp only [hr, Oper.upon]; exact hK _ _ h
/-- A load of a whole block in a walk of a region that only reads. -/
theorem wpQuiet_load {P : Program} {ops : Array Oper} {C : World → Prop} {Q : Act → Prop} {a : Act} {o : Oper} {rest : List Oper} (ty : TypeId) (x : Operand) (ho : o.op = .load ty x) (hw : Region.wanted o (yielded ops a.tmps) = true) (B : Nat) (hx : a.eval x = .pointer (some ⟨B, 0, none⟩))
    (T : TypeId) (L : List Value) (d : TypeDesc) (hC : ∀ w, C w → Blk w B T L) (hu : P.underlying ty = some d) (hd : (match d with | .struct _ | .array _ _ => true | _ => false) = true) (hi : (P.info? ty).map (·.size) = some L.length)
    (h : wpQuiet P ops C Q rest (a.put o.dst (.agg L.toArray))) : wpQuiet P ops C Q (o :: rest) a :=
  BigFrame.wpQuiet_want hw fun K hK => ⟨.agg L.toArray, fun w hc => by
    unfold Oper.quietAt execOp
    simp only [ho, hx, Instr.loadAt, Instr.sureAddr, Sem.run_bind, Sem.run_pure, Result.andThen_ok, run_loadVar_row (P := P) w B T ty L.toArray (0, 0) d (hC w hc) hu hd (by rw [List.size_toArray]; exact hi)]
    exact ⟨rfl, rfl⟩, hK _ h⟩
/-- An operation that yields a value in whatever world. -/
theorem wpQuiet_val {P : Program} {ops : Array Oper} {C : World → Prop} {Q : Act → Prop} {a : Act} {o : Oper} {rest : List Oper} (hw : Region.wanted o (yielded ops a.tmps) = true) (v : Value) (hr : ∀ w, (execOp a.eval o).run P w = .ok (.value v) w)
    (h : wpQuiet P ops C Q rest (a.put o.dst v)) : wpQuiet P ops C Q (o :: rest) a :=
  BigFrame.wpQuiet_want hw fun K hK => ⟨v, fun w _ => by unfold Oper.quietAt; rw [hr]; exact ⟨rfl, rfl⟩, hK _ h⟩
/-- A function that hands back what lies in a block, and a slot. -/
theorem ret_cell_tmp {P : Program} {fn : Func} {R : Ending → World → Prop} {p u : Tmp} {ty : TypeId} {d : TypeDesc} {W : World} {B : Nat} {T : TypeId} {L : List Value} {tm : Array Value} {v : Value} (hres : fn.results = #[.cell p ty, .tmp u]) (hb : Blk W B T L)
    (hu : P.underlying ty = some d) (hd : (match d with | .struct _ | .array _ _ => true | _ => false) = true) (hi : (P.info? ty).map (·.size) = some L.length) (hp : tm.getD p undef = .pointer (some ⟨B, 0, none⟩)) (hk : tm.getD u undef = v)
    (hR : R (.returned (.tuple #[.agg L.toArray, v])) W) : bodyPost P fn R .ret { tmps := tm, defers := [] } W := by
  refine bodyPost_ret (v := .tuple #[.agg L.toArray, v]) ?_ rfl hR
  rw [results_cell_tmp hres, hp, hk]
  have h := run_loadVar_row (P := P) W B T ty L.toArray (0, 0) d hb hu hd (by simpa using hi)
  simp [asAddr, h]
end Go.Proofs.YthjldedjllkeeaaGreatDoor
