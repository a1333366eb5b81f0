/- The walks of field.Map at the functions that are handed to it, of Num, twice, doubled. -/
import Derived.Test.YthjldedjllkeeaaGreatDoorWNames
import Derived.Lib.AppendIntMem
set_option linter.unusedVariables false
namespace Go.Proofs.YthjldedjllkeeaaGreatDoor
open Go.RowKit Go.Sort
theorem bI64 : (Tryz.prog.info? 2).map (fun i => (i.zero, i.size, i.bytes)) = some (some (.int .i64 0), 1, 8) := by kernel_rfl
theorem drewN_heap (w : World) (k : Nat) : (w.drewN k).heap = w.heap := by cases w; rfl
theorem ext_grow (w : World) (k : Nat) (os : Array Obj) : Ext w (grow (w.drewN k) os) := by
  refine ⟨rfl, rfl, rfl, ?_, fun j hj => ?_⟩
  · show w.heap.size ≤ (w.heap ++ os).size
    simp
  · show (w.heap ++ os)[j]? = w.heap[j]?
    rw [Array.getElem?_append_left hj]
/-- Two times a number, as an int64 keeps it. -/
def dbl (n : Int) : Int := wrap64 (2 * n)
/-- What the walks of numbers in words read of the library's variables. -/
def TabOk (w : World) : Prop := Lib.TabIs Tryz.prog w "internal/strconv.uint64pow10" .u64 Lib.pow10Tab
theorem num_calls (n : Int) (h0 : -9223372036854775808 ≤ n) (h1 : n ≤ 9223372036854775807) (w : World) (ht : TabOk w) :
    Calls Tryz.prog 64 #[.int .i64 n] w fun e w' => e = .returned (.string (strOf (Lib.itoa n))) ∧ Ext w w' := by
  have HT := Lib.hid ht
  clear ht
  go_enter Tryz.func64, Tryz.ntmps64
  go_wp2_with fail
  refine (Tryz.strconv_FormatInt_10 n h0 h1 _ HT.out).mono ?_
  rintro e w' ⟨rfl, k, os, rfl⟩
  go_wp2
  go_ret
  refine ⟨rfl, ?_⟩
  exact ext_grow _ _ _
theorem ownsRow_kept {w w' : World} {B : Nat} {e : TypeId} {v : Value} {n : Nat} {xs : List Value} (h : w.ownsRow B e 1 v n xs) (hk : ∀ k, k < w.heap.size → w'.heap[k]? = w.heap[k]?) : w'.ownsRow B e 1 v n xs := by
  obtain ⟨hx, ho⟩ := h
  refine ⟨hx, ?_⟩
  rcases ho with ho | ⟨g, cap, cur, h1, h2, h3, h4⟩
  · exact .inl ho
  · refine .inr ⟨g, cap, cur, h1, h2, (hk g ?_).trans h3, h4⟩
    rcases Nat.lt_or_ge g w.heap.size with h' | h'
    · exact h'
    · simp [Array.getElem?_eq_none h'] at h3
/-- Numbers in words. -/
abbrev numB (n : Int) : ByteArray := strOf (Lib.itoa n)
theorem num_map (l : List Int) (k : Nat) (h : k < l.length) : (l.take (k + 1)).map numB = (l.take k).map numB ++ [numB l[k]] := by
  rw [List.take_succ_eq_append_getElem h, List.map_append]
  rfl
theorem TabOk.all {w : World} (h : TabOk w) : ∀ w', Ext w w' → TabOk w' := Lib.tabBelow_of_tabIs h
theorem dbl_map (l : List Int) (k : Nat) (h : k < l.length) : (l.take (k + 1)).map dbl = (l.take k).map dbl ++ [dbl l[k]] := by
  rw [List.take_succ_eq_append_getElem h, List.map_append]
  rfl
end Go.Proofs.YthjldedjllkeeaaGreatDoor
