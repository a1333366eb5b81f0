/- Words for memory: a slice that reads as a row of cells; what a world that only grew keeps of it. -/
import Derived.WalkKit
import Derived.Deep.Draws
import Derived.Lib.Hide
import Derived.Handy
import Derived.WalkSpells
namespace Go.Proofs.YthjldedjllkeeaaGreatDoor
open Go.RowKit
theorem ret_int {k : IntKind} {a b : Int} (h : a = b) : Ending.returned (.int k a) = .returned (.int k b) := by rw [h]
theorem ret_bool {a b : Bool} (h : a = b) : Ending.returned (.bool a) = .returned (.bool b) := by rw [h]
theorem add_block (a : Addr) (n : Nat) : (a.add n).block = a.block := by unfold Addr.add; split <;> rfl
theorem add_add (a : Addr) (i j : Nat) : (a.add i).add j = a.add (i + j) := by
  unfold Addr.add
  by_cases hi : i = 0 <;> by_cases hj : j = 0 <;> simp [hi, hj, Nat.add_assoc]
/-- What grew below its own size: nothing that was there has turned. -/
abbrev Ext (w w' : World) : Prop := Below w.heap.size w w'
theorem Ext.rfl' (w : World) : Ext w w := Below.refl _ _
theorem Ext.tr {a b c : World} (h : Ext a b) (k : Ext b c) : Ext a c := h.trans (k.mono h.size)
theorem Ext.cell {w w' : World} {a : Addr} {v : Value} (k : Ext w w') (h : w.cell? a = some v) : w'.cell? a = some v := cell_later k h
theorem Ext.alloc {w w' : World} (k : Ext w w') (o : Obj) : Ext w (w'.alloc o) := Below.alloc k k.size o
/-- The slice at A reads the cells xs. -/
def Rd (w : World) (A : Option Addr) (xs : List Value) : Prop :=
  xs = [] ∨ ∃ ad, A = some ad ∧ ad.block < w.heap.size ∧ ∀ j, j < xs.length → w.cell? (ad.add j) = xs[j]?
section
variable {w w' : World} {A : Option Addr} {xs : List Value}
theorem Rd.nil (w : World) (A : Option Addr) : Rd w A [] := .inl rfl
theorem Rd.below (h : Rd w A xs) {B : Nat} (hw : w.heap.size ≤ B) (k : Below B w w') : Rd w' A xs := by
  rcases h with h | ⟨ad, e, hb, hc⟩
  · exact .inl h
  · refine .inr ⟨ad, e, Nat.lt_of_lt_of_le hb k.size, fun j hj => ?_⟩
    rw [k.cell (by rw [add_block]; omega)]
    exact hc j hj
theorem Rd.ext (h : Rd w A xs) (k : Ext w w') : Rd w' A xs := h.below (Nat.le_refl _) k
theorem Rd.drew (h : Rd w A xs) : Rd w.drew A xs := h
theorem Rd.drewN (h : Rd w A xs) (n : Nat) : Rd (w.drewN n) A xs := h
theorem Rd.alloc (h : Rd w A xs) (o : Obj) : Rd (w.alloc o) A xs := h.ext ((Below.refl _ _).alloc (Nat.le_refl _) o)
theorem Rd.setCell (h : Rd w A xs) {p : Addr} (hp : ∀ ad, A = some ad → p.block ≠ ad.block) (u : Value) : Rd (w.setCell p u) A xs := by
  rcases h with h | ⟨ad, e, hb, hc⟩
  · exact .inl h
  · refine .inr ⟨ad, e, by simpa [World.setCell] using hb, fun j hj => ?_⟩
    rw [World.cell?_setCell_other _ _ _ _ (by intro e2; apply hp ad e; first | rw [e2, add_block] | rw [← e2, add_block])]
    exact hc j hj
theorem Rd.at_ (h : Rd w A xs) {j : Nat} {u : Value} (hj : xs[j]? = some u) : ∃ ad, A = some ad ∧ ad.block < w.heap.size ∧ w.cell? (ad.add j) = some u := by
  rcases h with rfl | ⟨ad, e, hb, hc⟩
  · simp at hj
  · exact ⟨ad, e, hb, (hc j (by rw [List.getElem?_eq_some_iff] at hj; exact hj.1)).trans hj⟩
/-- A block that was just laid reads its own cells. -/
theorem Rd.fresh (w : World) (l : List Value) (t : TypeId) (fr : Nat × Nat) : Rd (w.alloc (.cells l.toArray t fr)) (some ⟨w.heap.size, 0, none⟩) l := by
  refine .inr ⟨_, rfl, by simp, fun j hj => ?_⟩
  rw [show (⟨w.heap.size, 0, none⟩ : Addr).add j = ⟨w.heap.size, j, none⟩ from by unfold Addr.add; split <;> simp [*]]
  rw [World.cell?_alloc_mark]
  simp
end
/-- A byte's cell, a digest's cell. -/
abbrev cU8 (b : UInt8) : Value := .int .u8 (b.toNat : Int)
abbrev cU64 (n : Nat) : Value := .int .u64 (n : Int)
end Go.Proofs.YthjldedjllkeeaaGreatDoor
