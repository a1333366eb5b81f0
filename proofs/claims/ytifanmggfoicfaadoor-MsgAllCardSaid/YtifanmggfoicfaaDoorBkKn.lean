/- known() of the book's laws. -/
import Derived.Test.YtifanmggfoicfaaDoorBkDig
set_option linter.unusedVariables false
namespace Go.Proofs.YtifanmggfoicfaaDoor
open Go.RowKit Go.Sort
/-- A store of a whole struct into a variable that was just made. -/
theorem wpList_store_new {P : Program} {ops : Array Oper} {rest : List Oper} {op : Oper} {a : Act} {w0 : World} {Q : Exit → Act → World → Prop} (hgd : op.guard = none) (ty : TypeId) (x y : Operand) (ho : op.op = .store ty x y) (C : Array Value) (T : TypeId) (L : List Value)
    (hx : a.eval x = .pointer (some ⟨w0.heap.size, 0, none⟩)) (hy : a.eval y = .agg L.toArray) (hC : C.size = L.length) (hi : (P.info? ty).map (·.size) = some L.length) (h1 : ∀ v ∈ L, v.oneCell' = true)
    (h : ∀ W', Ext w0 W' → Blk W' w0.heap.size T L → wpList P ops Q rest (a.put op.dst undef) W') : wpList P ops Q (op :: rest) a (w0.alloc (.cells C T)) := by
  have hb : Blk (w0.alloc (.cells C T)) w0.heap.size T C.toList := by
    have := Blk.new w0 T C.toList
    rwa [Array.toArray_toList] at this
  have hl : L.length = C.toList.length := by rw [Array.length_toList]; exact hC.symm
  refine wpList_store_mid hgd ty x y ho w0.heap.size 0 L.toArray hx hy (there32 hb (by rw [List.size_toArray]; exact hl)) (by rw [List.size_toArray]; exact hi) (all_oneCell_toArray h1) ?_
  rw [List.toList_toArray]
  exact h _ (Ext.setCells (Nat.le_refl _) L 0 _ ((Ext.rfl' w0).alloc _)) (hb.put hl)
/-- A book of two accounts, of two clients' turns. -/
def bh (x y p q : Int) : List Int := [x, y] ++ List.replicate 14 0 ++ [p, q] ++ List.replicate 14 0
theorem bh_len (x y p q : Int) : (bh x y p q).length = 32 := rfl
theorem bh_new (x y : Int) : bkOf [x, y] = cI64s (bh x y 0 0) := rfl
theorem bh_ok1 (x y q a : Int) : ((turned (bh x y 0 q) 1 q).set 0 (x - a)).set 1 (y + a) = bh (x - a) (y + a) 0 (q + 1) := rfl
theorem bh_funds1 (x y q : Int) : turned (bh x y 0 q) 1 q = bh x y 0 (q + 1) := rfl
theorem bh_ok0 (x y p a : Int) : ((turned (bh x y p 0) 0 p).set 0 (x - a)).set 1 (y + a) = bh (x - a) (y + a) (p + 1) 0 := rfl
theorem bh_funds0 (x y p : Int) : turned (bh x y p 0) 0 p = bh x y (p + 1) 0 := rfl
theorem bh_mem {x y p q : Int} {R : Int → Prop} (hx : R x) (hy : R y) (hp : R p) (hq : R q) (h0 : R 0) : ∀ n ∈ bh x y p q, R n := fun n hn => by
  simp only [bh, List.mem_append, List.mem_cons, List.not_mem_nil, or_false, List.mem_replicate] at hn
  rcases hn with ((( rfl | rfl) | ⟨_, rfl⟩) | (rfl | rfl)) | ⟨_, rfl⟩ <;> assumption
theorem bh_has (x y p q : Int) : hasL (bh x y p q) = [x, y] ++ List.replicate 14 0 := rfl
theorem bh_next (x y p q : Int) : nextL (bh x y p q) = [p, q] ++ List.replicate 14 0 := rfl
theorem kb_text1 : bs (bkText (bh 6 24 0 1)) = J.join [[54, 44, 50, 52, 44, 48, 44, 48, 44, 48, 44, 48, 44, 48, 44, 48, 44, 48, 44, 48, 44, 48, 44, 48, 44, 48, 44, 48, 44, 48, 44, 48], [48, 44, 49, 44, 48, 44, 48, 44, 48, 44, 48, 44, 48, 44, 48, 44, 48, 44, 48, 44, 48, 44, 48, 44, 48, 44, 48, 44, 48, 44, 48]] := by
  have h1 := J.numsL_pnums (s := [54, 44, 50, 52, 44, 48, 44, 48, 44, 48, 44, 48, 44, 48, 44, 48, 44, 48, 44, 48, 44, 48, 44, 48, 44, 48, 44, 48, 44, 48, 44, 48]) (a := hasL (bh 6 24 0 1)) (by kernel_rfl)
  have h2 := J.numsL_pnums (s := [48, 44, 49, 44, 48, 44, 48, 44, 48, 44, 48, 44, 48, 44, 48, 44, 48, 44, 48, 44, 48, 44, 48, 44, 48, 44, 48, 44, 48, 44, 48]) (a := nextL (bh 6 24 0 1)) (by kernel_rfl)
  show J.join _ = _
  rw [h1.1, h2.1]
theorem kb_text2 : bs (bkText (bh 6 24 0 2)) = J.join [[54, 44, 50, 52, 44, 48, 44, 48, 44, 48, 44, 48, 44, 48, 44, 48, 44, 48, 44, 48, 44, 48, 44, 48, 44, 48, 44, 48, 44, 48, 44, 48], [48, 44, 50, 44, 48, 44, 48, 44, 48, 44, 48, 44, 48, 44, 48, 44, 48, 44, 48, 44, 48, 44, 48, 44, 48, 44, 48, 44, 48, 44, 48]] := by
  have h1 := J.numsL_pnums (s := [54, 44, 50, 52, 44, 48, 44, 48, 44, 48, 44, 48, 44, 48, 44, 48, 44, 48, 44, 48, 44, 48, 44, 48, 44, 48, 44, 48, 44, 48, 44, 48]) (a := hasL (bh 6 24 0 2)) (by kernel_rfl)
  have h2 := J.numsL_pnums (s := [48, 44, 50, 44, 48, 44, 48, 44, 48, 44, 48, 44, 48, 44, 48, 44, 48, 44, 48, 44, 48, 44, 48, 44, 48, 44, 48, 44, 48, 44, 48]) (a := nextL (bh 6 24 0 2)) (by kernel_rfl)
  show J.join _ = _
  rw [h1.1, h2.1]
theorem kb_dig : bkDig (bh 6 24 0 1) ≠ bkDig (bh 6 24 0 2) := by
  unfold bkDig
  rw [kb_text1, kb_text2]
  simp only [S.sumN, S.tagN, S.mixN_C]
  decide +kernel
end Go.Proofs.YtifanmggfoicfaaDoor
