/- The walk of the law CmdDigests. -/
import Derived.Test.YtgomondmogpkeaaGreatDoorLAnyT
set_option linter.unusedVariables false
namespace Go.Proofs.YtgomondmogpkeaaGreatDoor
open Go.RowKit Go.Sort
theorem five_rd {W : World} {B : Nat} {T : TypeId} {c n f t a : Int} (h : Five W B T c n f t a) : Rd W (some ⟨B, 0, none⟩) (cI64s [c, n, f, t, a]) := by
  refine .inr ⟨_, rfl, h.lt, fun j hj => ?_⟩
  obtain ⟨c0, c1, c2, c3, c4⟩ := h.cells
  match j, hj with
  | 0, _ => exact c0
  | 1, _ => exact c1
  | 2, _ => exact c2
  | 3, _ => exact c3
  | 4, _ => exact c4

theorem five_at0 {W : World} {B : Nat} {T : TypeId} {c n f t a : Int} (h : Five W B T c n f t a) (y : Int) : Five (W.setCell ⟨B, 0, none⟩ (.int .i64 y)) B T y n f t a := by
  simp [Five, World.setCell, Array.getElem?_modify, show W.heap[B]? = _ from h]
theorem five_at1 {W : World} {B : Nat} {T : TypeId} {c n f t a : Int} (h : Five W B T c n f t a) (y : Int) : Five (W.setCell ⟨B, 1, none⟩ (.int .i64 y)) B T c y f t a := by
  simp [Five, World.setCell, Array.getElem?_modify, show W.heap[B]? = _ from h]
theorem five_at2 {W : World} {B : Nat} {T : TypeId} {c n f t a : Int} (h : Five W B T c n f t a) (y : Int) : Five (W.setCell ⟨B, 2, none⟩ (.int .i64 y)) B T c n y t a := by
  simp [Five, World.setCell, Array.getElem?_modify, show W.heap[B]? = _ from h]
theorem five_at3 {W : World} {B : Nat} {T : TypeId} {c n f t a : Int} (h : Five W B T c n f t a) (y : Int) : Five (W.setCell ⟨B, 3, none⟩ (.int .i64 y)) B T c n f y a := by
  simp [Five, World.setCell, Array.getElem?_modify, show W.heap[B]? = _ from h]
theorem five_at4 {W : World} {B : Nat} {T : TypeId} {c n f t a : Int} (h : Five W B T c n f t a) (y : Int) : Five (W.setCell ⟨B, 4, none⟩ (.int .i64 y)) B T c n f t y := by
  simp [Five, World.setCell, Array.getElem?_modify, show W.heap[B]? = _ from h]
theorem five_off {W : World} {B B' j : Nat} {T : TypeId} {c n f t a : Int} {v : Value} (h : Five W B T c n f t a) (hne : B ≠ B') : Five (W.setCell ⟨B', j, none⟩ v) B T c n f t a := by
  unfold Five
  rw [Below.heap_setCell _ _ _ _ hne]
  exact h
theorem parse_text2 {c n f t a : Int} (hb : I5 c n f t a) : (OkC c n f t a ∧ parseC (bs (textC c n f t a)) = ((c, n, f, t, a), 0)) ∨ (¬ OkC c n f t a ∧ ∃ k : Nat, parseC (bs (textC c n f t a)) = ((0, 0, 0, 0, 0), k) ∧ ((k : Int) == 0) = false) := by
  have h : J.pnums (bs (textC c n f t a)) = .ok [c, n, f, t, a] := J.pnums_numsL _ hb.all
  rcases parse_text hb with h1 | ⟨ho, _⟩
  · exact .inl h1
  · refine .inr ⟨ho, ?_⟩
    have s5 : okC c n f t a = false := by
      cases hh : okC c n f t a with
      | false => rfl
      | true => exact absurd (okC_iff.1 hh) ho
    unfold parseC
    rw [h]
    dsimp only
    rw [s5]
    split
    · exact ⟨1, rfl, rfl⟩
    · exact ⟨2, rfl, rfl⟩
end Go.Proofs.YtgomondmogpkeaaGreatDoor
