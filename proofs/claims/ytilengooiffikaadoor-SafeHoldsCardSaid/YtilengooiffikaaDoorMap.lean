/- Maps from integers to whatever values that a call made: as functions. -/
import Derived.Test.YtilengooiffikaaDoorCore
import Derived.Maps.OwnSet
import Derived.Maps.Views
import Derived.Maps.Keyed
set_option linter.unusedVariables false
namespace Go.Proofs.YtilengooiffikaaDoor
open Go.RowKit Go.Maps
/-- A value as it stands. -/
def RH (v : Value) : Option (DataW Value × List MemPlace) := some (.held v, [])
theorem RH_inv {v u : Value} {ps : List MemPlace} (h : RH v = some (.held u, ps)) : v = u := by cases h; rfl
/-- Block b is a map (kt: its keys' type, of kind q) that tells f, of n entries. -/
def MapI (P : Program) (kt : TypeId) (q : IntKind) (w : World) (b : Nat) (f : Int → Option Value) (n : Nat) : Prop :=
  ∃ (D : DataW Value) (m : Nat), w.ownsMap P kt RH b m D ∧ m ≤ n + 4294967296 ∧ (∀ x, has D (.int q x) = (f x).isSome) ∧ (∀ x v, f x = some v → ∀ z, D.atKey (.int q x) z = .held v) ∧ Maps.size D = n ∧ m < maxLen
def upd (f : Int → Option Value) (k : Int) (v : Value) : Int → Option Value := fun x => if x = k then some v else f x
theorem upd_same (f : Int → Option Value) (k : Int) (v : Value) : upd f k v k = some v := by simp [upd]
theorem upd_other {f : Int → Option Value} {k x : Int} (v : Value) (h : x ≠ k) : upd f k v x = f x := by simp [upd, h]
section
variable {P : Program} {kt : TypeId} {q : IntKind} {w : World} {b : Nat} {f : Int → Option Value} {n : Nat}
theorem MapI.lt (h : MapI P kt q w b f n) : b < w.heap.size := by obtain ⟨D, m, h, _⟩ := h; exact h.lt
theorem MapI.kept {w' : World} {row : Option Nat} (h : MapI P kt q w b f n) (hg : w.grownBy w' row) (hne : some b ≠ row) : MapI P kt q w' b f n := by
  obtain ⟨D, m, h, r⟩ := h
  exact ⟨D, m, h.kept hg hne, r⟩
theorem MapI.ext {w' : World} (h : MapI P kt q w b f n) (k : Ext w w') : MapI P kt q w' b f n :=
  h.kept (row := none) ⟨k.os, k.tape, k.output, k.size, fun j hj _ => k.block j hj⟩ (by simp)
theorem MapI.new (P : Program) (kt : TypeId) (q : IntKind) (w : World) : MapI P kt q (w.alloc (.map #[] 0)) w.heap.size (fun _ => none) 0 :=
  ⟨.map [], 0, World.ownsMap_made w P kt RH, Nat.zero_le _, fun _ => rfl, fun x v h => by simp at h, rfl, by decide⟩
theorem MapI.look {t e : TypeId} (h : MapI P kt q w b f n) (hk : P.underlying kt = some (.int q)) (ht : P.underlying t = some (.map kt e)) {z : Value} (hz : (zeroValue e).run P w = .ok z w) {x : Int} (hx : (Lit.int q x).wf = true) :
    (Instr.lookup t (.map (some b)) (.int q x) true).run P w = .ok (.tuple #[(f x).getD z, .bool (f x).isSome]) w := by
  obtain ⟨D, m, h, _, h1, h2, _, _⟩ := h
  obtain ⟨v, ps, hr, hv⟩ := h.look_ok (int_keyed hk) ht hz (zd := .held z) (zp := []) rfl (keyOf_int_mk hk hx)
  rw [hr, h1]
  cases hf : f x with
  | none =>
    have h3 := h1 x
    rw [hf] at h3
    rw [atKey_of_not_has h3] at hv
    rw [RH_inv hv]
    rfl
  | some u =>
    rw [h2 x u hf] at hv
    rw [RH_inv hv]
    rfl
theorem MapI.look1 {t e : TypeId} (h : MapI P kt q w b f n) (hk : P.underlying kt = some (.int q)) (ht : P.underlying t = some (.map kt e)) {z : Value} (hz : (zeroValue e).run P w = .ok z w) {x : Int} (hx : (Lit.int q x).wf = true) :
    (Instr.lookup t (.map (some b)) (.int q x) false).run P w = .ok ((f x).getD z) w := by
  obtain ⟨D, m, h, _, h1, h2, _, _⟩ := h
  obtain ⟨v, ps, hr, hv⟩ := h.lookup (int_keyed hk) ht hz (zd := .held z) (zp := []) rfl (keyOf_int_mk hk hx)
  rw [hr]
  cases hf : f x with
  | none =>
    have h3 := h1 x
    rw [hf] at h3
    rw [atKey_of_not_has h3] at hv
    rw [RH_inv hv]
    rfl
  | some u =>
    rw [h2 x u hf] at hv
    rw [RH_inv hv]
    rfl
theorem MapI.len {t e : TypeId} (h : MapI P kt q w b f n) (ht : P.underlying t = some (.map kt e)) (ty : TypeId) : (Builtin.len_ #[t] ty #[.map (some b)]).run P w = .ok (.int .i64 n) w := by
  obtain ⟨D, m, h, _, _, _, h4, _⟩ := h
  rw [h.len ht ty, h4]
theorem MapI.update {t e : TypeId} (h : MapI P kt q w b f n) (hk : P.underlying kt = some (.int q)) (ht : P.underlying t = some (.map kt e)) (hn : n < 1099511627776) {x : Int} (hx : (Lit.int q x).wf = true) (v : Value) :
    ∃ w', (Instr.mapUpdate t (.map (some b)) (.int q x) v).run P w = .ok () w' ∧ w.grownBy w' (some b) ∧ ∃ m', m' = (if (f x).isSome then n else n + 1) ∧ MapI P kt q w' b (upd f x v) m' := by
  obtain ⟨D, m, h, hm, h1, h2, h3, h4⟩ := h
  obtain ⟨w', hr, hown, hg⟩ := h.update (int_keyed hk) ht h4 (keyOf_int_mk hk hx) (d := .held v) (ps := []) rfl
  have hmap := h.isMap
  have htidy := h.tidy (int_keyed hk)
  have hkl : WideAt.IsKeyLit (.int q x) := trivial
  refine ⟨w', hr, hg, _, rfl, D.put (.int q x) (.held v), Maps.size (D.put (.int q x) (.held v)), ?_, ?_, fun y => ?_, fun y u hy z => ?_, ?_, ?_⟩
  · obtain ⟨es, clock, r1, r2, r3, r4⟩ := hown
    refine ⟨es, clock, r1, r2, ?_, r4⟩
    rw [r4]
    simp [Maps.size, length_sorted]
  · rw [size_put htidy, h1, h3]
    split <;> omega
  · by_cases e : y = x
    · subst e; rw [has_put_same hmap hkl, upd_same]; rfl
    · rw [has_put_other (by simpa using e), h1, upd_other _ e]
  · by_cases e : y = x
    · subst e
      rw [upd_same] at hy
      cases hy
      exact atKey_put_same hmap hkl _ _
    · rw [upd_other _ e] at hy
      rw [atKey_put_other (by simpa using e)]
      exact h2 y u hy z
  · rw [size_put htidy, h1, h3]
  · rw [size_put htidy, h1, h3]
    unfold maxLen
    split <;> omega
end
end Go.Proofs.YtilengooiffikaaDoor
