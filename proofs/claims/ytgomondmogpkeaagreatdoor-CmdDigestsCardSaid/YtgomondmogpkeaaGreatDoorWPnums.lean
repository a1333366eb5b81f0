/- The walk of field.ParseNums. -/
import Derived.Test.YtgomondmogpkeaaGreatDoorWSeq
import Derived.Test.YtgomondmogpkeaaGreatDoorWPnum
import Derived.Test.YtgomondmogpkeaaGreatDoorAnyIn
set_option linter.unusedVariables false
namespace Go.Proofs.YtgomondmogpkeaaGreatDoor
open Go.RowKit Go.Shelf Go.Sort
attribute [local go_sem] Oper.semAt_some
def NumsEnd (r : Except Nat (List Int)) (e : Ending) (w : World) : Prop :=
  match r with
  | .ok l => ∃ A c, e = .returned (.tuple #[.slice A l.length c, .int .i64 0]) ∧ Rd w A (cI64s l)
  | .error n => e = .returned (.tuple #[.slice none 0 0, .int .i64 (n : Int)])
/-- The same, and the slice has room for its length. -/
def NumsEndC (r : Except Nat (List Int)) (e : Ending) (w : World) : Prop :=
  match r with
  | .ok l => ∃ A c, e = .returned (.tuple #[.slice A l.length c, .int .i64 0]) ∧ Rd w A (cI64s l) ∧ l.length ≤ c
  | .error n => e = .returned (.tuple #[.slice none 0 0, .int .i64 (n : Int)])
theorem NumsEndC.plain {r : Except Nat (List Int)} {e : Ending} {w : World} (h : NumsEndC r e w) : NumsEnd r e w := by
  cases r with
  | error n => exact h
  | ok l => obtain ⟨A, c, h1, h2, _⟩ := h; exact ⟨A, c, h1, h2⟩
theorem own_cap {w : World} {B : Nat} {e : TypeId} {A : Option Addr} {m c n : Nat} {xs : List Value} (h : w.ownsRow B e 1 (.slice A m c) n xs) : n ≤ c := by
  rcases h.2 with ⟨hv, h0⟩ | ⟨g, cap, cur, hv, _, _, hc, _⟩
  · omega
  · cases hv; exact hc
theorem boxed_turn {X Y : World} {row : Option Nat} {B : Nat} {t : TypeId} {v : Value} (h : Boxed X B t v) (hg : X.grownBy Y row) (hr : ∀ r, row = some r → ∃ o : Obj, X.heap[r]? = some o ∧ o.isCells = false) : Boxed Y B t v := by
  refine h.kept hg fun e => ?_
  obtain ⟨o, ho, hc⟩ := hr B e.symm
  rw [show X.heap[B]? = _ from h] at ho
  cases ho
  cases hc
theorem row_turn {X Y : World} {row : Option Nat} {n₀ : Nat} {e : TypeId} {v : Value} {n : Nat} {xs : List Value} (h : X.ownsRow n₀ e 1 v n xs) (hg : X.grownBy Y row) (hr : ∀ r, row = some r → ∃ o : Obj, X.heap[r]? = some o ∧ o.isCells = false) : Y.ownsRow n₀ e 1 v n xs := by
  refine h.kept hg ?_
  rcases h.2 with ⟨rfl, _⟩ | ⟨g, cap, cur, rfl, _, hgb, _⟩
  · exact .inl rfl
  · refine .inr fun e' => ?_
    obtain ⟨o, ho, hc⟩ := hr g (by simpa [Value.ownBlock] using e'.symm)
    rw [hgb] at ho
    cases ho
    cases hc
theorem row_set {X : World} {B n₀ : Nat} {t e : TypeId} {u : Value} {v : Value} {n : Nat} {xs : List Value} (h : X.ownsRow n₀ e 1 v n xs) (hb : Boxed X B t u) (hte : t ≠ e) (v' : Value) : (X.setCell ⟨B, 0, none⟩ v').ownsRow n₀ e 1 v n xs :=
  h.kept (grownBy_setCell' X B v') (.inr fun e' => hb.not_row hte h e'.symm)
theorem box_set {X : World} {B C : Nat} {t : TypeId} {u : Value} (h : Boxed X C t u) (hne : C ≠ B) (v' : Value) : Boxed (X.setCell ⟨B, 0, none⟩ v') C t u :=
  h.kept (grownBy_setCell' X B v') (by simpa using hne)
abbrev tSl : TypeId := 33
abbrev tEr : TypeId := 26
def errOf (long : Bool) : Int := if long then 4 else 0
/-- Between two rounds: what was read, whether a number was too long; the boxes. -/
def NumsI (w : World) (pre : List Pc) (W : World) : Prop :=
  ∃ (out : List Int) (long : Bool) (v u : Value), (∀ ps, J.pl ((pre.map fun x : Pc => bs x.1) ++ ps) [] false = J.pl ps out long) ∧ out.length = pre.length ∧
    Boxed W (w.heap.size + 1 + 1) tSl v ∧ W.ownsRow w.heap.size 2 1 v out.length (cI64s out) ∧ Boxed W (w.heap.size + 1 + 1 + 1) tEr (.int .i64 (errOf long)) ∧
    Boxed W w.heap.size tSl (.slice none 0 0) ∧ Boxed W (w.heap.size + 1) tEr (.int .i64 0) ∧ Boxed W (w.heap.size + 1 + 1 + 1 + 1) 9 u ∧ Boxed W (w.heap.size + 1 + 1 + 1 + 1 + 1) 9 (.string comma) ∧ Boxed W (w.heap.size + 1 + 1 + 1 + 1 + 2) 3 (.int .i64 0) ∧ Below w.heap.size w W
def NumsX (w : World) (pre : List Pc) (W : World) : Prop :=
  (∀ ps, J.pl ((pre.map fun x : Pc => bs x.1) ++ ps) [] false = .error 2) ∧ Boxed W w.heap.size tSl (.slice none 0 0) ∧ Boxed W (w.heap.size + 1) tEr (.int .i64 2) ∧ Below w.heap.size w W
theorem numsI_own (w : World) (B : Nat) (hB : w.heap.size ≤ B) : OwnFrom B (NumsI w) := by
  rintro pre X Y row ⟨out, long, v, u, h1, h2, h3, h4, h5, h6, h7, h8, h8a, h8b, h9⟩ hg hr
  have hr2 := fun r e => (hr r e).2
  exact ⟨out, long, v, u, h1, h2, boxed_turn h3 hg hr2, row_turn h4 hg hr2, boxed_turn h5 hg hr2, boxed_turn h6 hg hr2, boxed_turn h7 hg hr2, boxed_turn h8 hg hr2, boxed_turn h8a hg hr2, boxed_turn h8b hg hr2, h9.grown hg h9.size (fun k e => Nat.le_trans hB (hr k e).1)⟩
theorem numsX_own (w : World) (B : Nat) (hB : w.heap.size ≤ B) : OwnFrom B (NumsX w) := by
  rintro pre X Y row ⟨h1, h6, h7, h9⟩ hg hr
  have hr2 := fun r e => (hr r e).2
  exact ⟨h1, boxed_turn h6 hg hr2, boxed_turn h7 hg hr2, h9.grown hg h9.size (fun k e => Nat.le_trans hB (hr k e).1)⟩
theorem numsI_cell (w : World) (pre : List Pc) (W : World) (x : Value) (h : NumsI w pre W) : NumsI w pre (W.setCell ⟨w.heap.size + 1 + 1 + 1 + 1, 0, none⟩ x) := by
  obtain ⟨out, long, v, u, h1, h2, h3, h4, h5, h6, h7, h8, h8a, h8b, h9⟩ := h
  exact ⟨out, long, v, x, h1, h2, box_set h3 (by omega) _, row_set h4 h8 (by decide) _, box_set h5 (by omega) _, box_set h6 (by omega) _, box_set h7 (by omega) _, h8.set _, box_set h8a (by omega) _, box_set h8b (by omega) _, h9.setCell (p := ⟨w.heap.size + 1 + 1 + 1 + 1, 0, none⟩) (by show w.heap.size ≤ w.heap.size + 1 + 1 + 1 + 1; omega) _⟩
theorem keeps_own {X Y : World} {n₀ : Nat} {e : TypeId} {v : Value} {n : Nat} {xs : List Value} (h : X.ownsRow n₀ e 1 v n xs) (hg : X.grownBy Y v.ownBlock) : KeepsOthers X Y :=
  KeepsOthers.of_grownBy hg fun j o ej hj => by
    rcases h.2 with ⟨rfl, _⟩ | ⟨g, cap, cur, rfl, _, hgb, _⟩
    · simp [Value.ownBlock] at ej
    · obtain rfl : g = j := by simpa [Value.ownBlock] using ej
      rw [hgb] at hj
      cases hj
      rfl
theorem keepsFrom_ext {B : Nat} {W W' : World} (h : Ext W W') : KeepsFrom B W W' := ⟨h.size, fun k o _ hk _ => (h.block k (Array.getElem?_eq_some_iff.1 hk).1).trans hk⟩
/-- How far the region of field.ParseNums that draws its order has come: what is listed, the frame, the world. -/
inductive St10 (x0 x1 x2 x3 x6 x9 x10 x11 x12 x13 x14 x15 x16 x17 x18 x19 x20 x21 x22 x23 x24 x25 x26 x27 x28 x29 x30 x31 x32 : Value) (bo bf : Nat) (v m sl v1 e0 e mx : Value) (w0 w1 w2 w3 w4 : World) : Nat → Array Bool → Act → World → Prop
  | c : St10 x0 x1 x2 x3 x6 x9 x10 x11 x12 x13 x14 x15 x16 x17 x18 x19 x20 x21 x22 x23 x24 x25 x26 x27 x28 x29 x30 x31 x32 bo bf v m sl v1 e0 e mx w0 w1 w2 w3 w4 9 #[false, false, false, false, false, false, false, false, false] { tmps := #[x0, x1, x2, x3, (.pointer (some ⟨bo, 0, none⟩)), (.pointer (some ⟨bf, 0, none⟩)), x6, m, e, x9, x10, x11, x12, x13, x14, x15, x16, x17, x18, x19, x20, x21, x22, x23, x24, x25, x26, x27, x28, x29, x30, x31, x32], defers := [] } w0
  | c0 : St10 x0 x1 x2 x3 x6 x9 x10 x11 x12 x13 x14 x15 x16 x17 x18 x19 x20 x21 x22 x23 x24 x25 x26 x27 x28 x29 x30 x31 x32 bo bf v m sl v1 e0 e mx w0 w1 w2 w3 w4 8 #[true, false, false, false, false, false, false, false, false] { tmps := #[x0, x1, x2, x3, (.pointer (some ⟨bo, 0, none⟩)), (.pointer (some ⟨bf, 0, none⟩)), x6, m, e, x9, x10, x11, x12, x13, x14, x15, x16, x17, x18, x19, x20, x21, v, x23, x24, x25, x26, x27, x28, x29, x30, x31, x32], defers := [] } w0
  | c1 : St10 x0 x1 x2 x3 x6 x9 x10 x11 x12 x13 x14 x15 x16 x17 x18 x19 x20 x21 x22 x23 x24 x25 x26 x27 x28 x29 x30 x31 x32 bo bf v m sl v1 e0 e mx w0 w1 w2 w3 w4 8 #[false, true, false, false, false, false, false, false, false] { tmps := #[x0, x1, x2, x3, (.pointer (some ⟨bo, 0, none⟩)), (.pointer (some ⟨bf, 0, none⟩)), x6, m, e, x9, x10, x11, x12, x13, x14, x15, x16, x17, x18, x19, x20, x21, x22, m, x24, x25, x26, x27, x28, x29, x30, x31, x32], defers := [] } w0
  | c4 : St10 x0 x1 x2 x3 x6 x9 x10 x11 x12 x13 x14 x15 x16 x17 x18 x19 x20 x21 x22 x23 x24 x25 x26 x27 x28 x29 x30 x31 x32 bo bf v m sl v1 e0 e mx w0 w1 w2 w3 w4 8 #[false, false, false, false, true, false, false, false, false] { tmps := #[x0, x1, x2, x3, (.pointer (some ⟨bo, 0, none⟩)), (.pointer (some ⟨bf, 0, none⟩)), x6, m, e, x9, x10, x11, x12, x13, x14, x15, x16, x17, x18, x19, x20, x21, x22, x23, x24, x25, e0, x27, x28, x29, x30, x31, x32], defers := [] } w0
  | c5 : St10 x0 x1 x2 x3 x6 x9 x10 x11 x12 x13 x14 x15 x16 x17 x18 x19 x20 x21 x22 x23 x24 x25 x26 x27 x28 x29 x30 x31 x32 bo bf v m sl v1 e0 e mx w0 w1 w2 w3 w4 8 #[false, false, false, false, false, true, false, false, false] { tmps := #[x0, x1, x2, x3, (.pointer (some ⟨bo, 0, none⟩)), (.pointer (some ⟨bf, 0, none⟩)), x6, m, e, x9, x10, x11, x12, x13, x14, x15, x16, x17, x18, x19, x20, x21, x22, x23, x24, x25, x26, e, x28, x29, x30, x31, x32], defers := [] } w0
  | c01 : St10 x0 x1 x2 x3 x6 x9 x10 x11 x12 x13 x14 x15 x16 x17 x18 x19 x20 x21 x22 x23 x24 x25 x26 x27 x28 x29 x30 x31 x32 bo bf v m sl v1 e0 e mx w0 w1 w2 w3 w4 7 #[true, true, false, false, false, false, false, false, false] { tmps := #[x0, x1, x2, x3, (.pointer (some ⟨bo, 0, none⟩)), (.pointer (some ⟨bf, 0, none⟩)), x6, m, e, x9, x10, x11, x12, x13, x14, x15, x16, x17, x18, x19, x20, x21, v, m, x24, x25, x26, x27, x28, x29, x30, x31, x32], defers := [] } w0
  | c04 : St10 x0 x1 x2 x3 x6 x9 x10 x11 x12 x13 x14 x15 x16 x17 x18 x19 x20 x21 x22 x23 x24 x25 x26 x27 x28 x29 x30 x31 x32 bo bf v m sl v1 e0 e mx w0 w1 w2 w3 w4 7 #[true, false, false, false, true, false, false, false, false] { tmps := #[x0, x1, x2, x3, (.pointer (some ⟨bo, 0, none⟩)), (.pointer (some ⟨bf, 0, none⟩)), x6, m, e, x9, x10, x11, x12, x13, x14, x15, x16, x17, x18, x19, x20, x21, v, x23, x24, x25, e0, x27, x28, x29, x30, x31, x32], defers := [] } w0
  | c05 : St10 x0 x1 x2 x3 x6 x9 x10 x11 x12 x13 x14 x15 x16 x17 x18 x19 x20 x21 x22 x23 x24 x25 x26 x27 x28 x29 x30 x31 x32 bo bf v m sl v1 e0 e mx w0 w1 w2 w3 w4 7 #[true, false, false, false, false, true, false, false, false] { tmps := #[x0, x1, x2, x3, (.pointer (some ⟨bo, 0, none⟩)), (.pointer (some ⟨bf, 0, none⟩)), x6, m, e, x9, x10, x11, x12, x13, x14, x15, x16, x17, x18, x19, x20, x21, v, x23, x24, x25, x26, e, x28, x29, x30, x31, x32], defers := [] } w0
  | c12 : St10 x0 x1 x2 x3 x6 x9 x10 x11 x12 x13 x14 x15 x16 x17 x18 x19 x20 x21 x22 x23 x24 x25 x26 x27 x28 x29 x30 x31 x32 bo bf v m sl v1 e0 e mx w0 w1 w2 w3 w4 7 #[false, true, true, false, false, false, false, false, false] { tmps := #[x0, x1, x2, x3, (.pointer (some ⟨bo, 0, none⟩)), (.pointer (some ⟨bf, 0, none⟩)), x6, m, e, x9, x10, x11, x12, x13, x14, x15, x16, x17, x18, x19, x20, x21, x22, m, sl, x25, x26, x27, x28, x29, x30, x31, x32], defers := [] } w1
  | c14 : St10 x0 x1 x2 x3 x6 x9 x10 x11 x12 x13 x14 x15 x16 x17 x18 x19 x20 x21 x22 x23 x24 x25 x26 x27 x28 x29 x30 x31 x32 bo bf v m sl v1 e0 e mx w0 w1 w2 w3 w4 7 #[false, true, false, false, true, false, false, false, false] { tmps := #[x0, x1, x2, x3, (.pointer (some ⟨bo, 0, none⟩)), (.pointer (some ⟨bf, 0, none⟩)), x6, m, e, x9, x10, x11, x12, x13, x14, x15, x16, x17, x18, x19, x20, x21, x22, m, x24, x25, e0, x27, x28, x29, x30, x31, x32], defers := [] } w0
  | c15 : St10 x0 x1 x2 x3 x6 x9 x10 x11 x12 x13 x14 x15 x16 x17 x18 x19 x20 x21 x22 x23 x24 x25 x26 x27 x28 x29 x30 x31 x32 bo bf v m sl v1 e0 e mx w0 w1 w2 w3 w4 7 #[false, true, false, false, false, true, false, false, false] { tmps := #[x0, x1, x2, x3, (.pointer (some ⟨bo, 0, none⟩)), (.pointer (some ⟨bf, 0, none⟩)), x6, m, e, x9, x10, x11, x12, x13, x14, x15, x16, x17, x18, x19, x20, x21, x22, m, x24, x25, x26, e, x28, x29, x30, x31, x32], defers := [] } w0
  | c45 : St10 x0 x1 x2 x3 x6 x9 x10 x11 x12 x13 x14 x15 x16 x17 x18 x19 x20 x21 x22 x23 x24 x25 x26 x27 x28 x29 x30 x31 x32 bo bf v m sl v1 e0 e mx w0 w1 w2 w3 w4 7 #[false, false, false, false, true, true, false, false, false] { tmps := #[x0, x1, x2, x3, (.pointer (some ⟨bo, 0, none⟩)), (.pointer (some ⟨bf, 0, none⟩)), x6, m, e, x9, x10, x11, x12, x13, x14, x15, x16, x17, x18, x19, x20, x21, x22, x23, x24, x25, e0, e, x28, x29, x30, x31, x32], defers := [] } w0
  | c012 : St10 x0 x1 x2 x3 x6 x9 x10 x11 x12 x13 x14 x15 x16 x17 x18 x19 x20 x21 x22 x23 x24 x25 x26 x27 x28 x29 x30 x31 x32 bo bf v m sl v1 e0 e mx w0 w1 w2 w3 w4 6 #[true, true, true, false, false, false, false, false, false] { tmps := #[x0, x1, x2, x3, (.pointer (some ⟨bo, 0, none⟩)), (.pointer (some ⟨bf, 0, none⟩)), x6, m, e, x9, x10, x11, x12, x13, x14, x15, x16, x17, x18, x19, x20, x21, v, m, sl, x25, x26, x27, x28, x29, x30, x31, x32], defers := [] } w1
  | c014 : St10 x0 x1 x2 x3 x6 x9 x10 x11 x12 x13 x14 x15 x16 x17 x18 x19 x20 x21 x22 x23 x24 x25 x26 x27 x28 x29 x30 x31 x32 bo bf v m sl v1 e0 e mx w0 w1 w2 w3 w4 6 #[true, true, false, false, true, false, false, false, false] { tmps := #[x0, x1, x2, x3, (.pointer (some ⟨bo, 0, none⟩)), (.pointer (some ⟨bf, 0, none⟩)), x6, m, e, x9, x10, x11, x12, x13, x14, x15, x16, x17, x18, x19, x20, x21, v, m, x24, x25, e0, x27, x28, x29, x30, x31, x32], defers := [] } w0
  | c015 : St10 x0 x1 x2 x3 x6 x9 x10 x11 x12 x13 x14 x15 x16 x17 x18 x19 x20 x21 x22 x23 x24 x25 x26 x27 x28 x29 x30 x31 x32 bo bf v m sl v1 e0 e mx w0 w1 w2 w3 w4 6 #[true, true, false, false, false, true, false, false, false] { tmps := #[x0, x1, x2, x3, (.pointer (some ⟨bo, 0, none⟩)), (.pointer (some ⟨bf, 0, none⟩)), x6, m, e, x9, x10, x11, x12, x13, x14, x15, x16, x17, x18, x19, x20, x21, v, m, x24, x25, x26, e, x28, x29, x30, x31, x32], defers := [] } w0
  | c045 : St10 x0 x1 x2 x3 x6 x9 x10 x11 x12 x13 x14 x15 x16 x17 x18 x19 x20 x21 x22 x23 x24 x25 x26 x27 x28 x29 x30 x31 x32 bo bf v m sl v1 e0 e mx w0 w1 w2 w3 w4 6 #[true, false, false, false, true, true, false, false, false] { tmps := #[x0, x1, x2, x3, (.pointer (some ⟨bo, 0, none⟩)), (.pointer (some ⟨bf, 0, none⟩)), x6, m, e, x9, x10, x11, x12, x13, x14, x15, x16, x17, x18, x19, x20, x21, v, x23, x24, x25, e0, e, x28, x29, x30, x31, x32], defers := [] } w0
  | c124 : St10 x0 x1 x2 x3 x6 x9 x10 x11 x12 x13 x14 x15 x16 x17 x18 x19 x20 x21 x22 x23 x24 x25 x26 x27 x28 x29 x30 x31 x32 bo bf v m sl v1 e0 e mx w0 w1 w2 w3 w4 6 #[false, true, true, false, true, false, false, false, false] { tmps := #[x0, x1, x2, x3, (.pointer (some ⟨bo, 0, none⟩)), (.pointer (some ⟨bf, 0, none⟩)), x6, m, e, x9, x10, x11, x12, x13, x14, x15, x16, x17, x18, x19, x20, x21, x22, m, sl, x25, e0, x27, x28, x29, x30, x31, x32], defers := [] } w1
  | c125 : St10 x0 x1 x2 x3 x6 x9 x10 x11 x12 x13 x14 x15 x16 x17 x18 x19 x20 x21 x22 x23 x24 x25 x26 x27 x28 x29 x30 x31 x32 bo bf v m sl v1 e0 e mx w0 w1 w2 w3 w4 6 #[false, true, true, false, false, true, false, false, false] { tmps := #[x0, x1, x2, x3, (.pointer (some ⟨bo, 0, none⟩)), (.pointer (some ⟨bf, 0, none⟩)), x6, m, e, x9, x10, x11, x12, x13, x14, x15, x16, x17, x18, x19, x20, x21, x22, m, sl, x25, x26, e, x28, x29, x30, x31, x32], defers := [] } w1
  | c145 : St10 x0 x1 x2 x3 x6 x9 x10 x11 x12 x13 x14 x15 x16 x17 x18 x19 x20 x21 x22 x23 x24 x25 x26 x27 x28 x29 x30 x31 x32 bo bf v m sl v1 e0 e mx w0 w1 w2 w3 w4 6 #[false, true, false, false, true, true, false, false, false] { tmps := #[x0, x1, x2, x3, (.pointer (some ⟨bo, 0, none⟩)), (.pointer (some ⟨bf, 0, none⟩)), x6, m, e, x9, x10, x11, x12, x13, x14, x15, x16, x17, x18, x19, x20, x21, x22, m, x24, x25, e0, e, x28, x29, x30, x31, x32], defers := [] } w0
  | c456 : St10 x0 x1 x2 x3 x6 x9 x10 x11 x12 x13 x14 x15 x16 x17 x18 x19 x20 x21 x22 x23 x24 x25 x26 x27 x28 x29 x30 x31 x32 bo bf v m sl v1 e0 e mx w0 w1 w2 w3 w4 6 #[false, false, false, false, true, true, true, false, false] { tmps := #[x0, x1, x2, x3, (.pointer (some ⟨bo, 0, none⟩)), (.pointer (some ⟨bf, 0, none⟩)), x6, m, e, x9, x10, x11, x12, x13, x14, x15, x16, x17, x18, x19, x20, x21, x22, x23, x24, x25, e0, e, mx, x29, x30, x31, x32], defers := [] } w0
  | c0123 : St10 x0 x1 x2 x3 x6 x9 x10 x11 x12 x13 x14 x15 x16 x17 x18 x19 x20 x21 x22 x23 x24 x25 x26 x27 x28 x29 x30 x31 x32 bo bf v m sl v1 e0 e mx w0 w1 w2 w3 w4 5 #[true, true, true, true, false, false, false, false, false] { tmps := #[x0, x1, x2, x3, (.pointer (some ⟨bo, 0, none⟩)), (.pointer (some ⟨bf, 0, none⟩)), x6, m, e, x9, x10, x11, x12, x13, x14, x15, x16, x17, x18, x19, x20, x21, v, m, sl, v1, x26, x27, x28, x29, x30, x31, x32], defers := [] } w2
  | c0124 : St10 x0 x1 x2 x3 x6 x9 x10 x11 x12 x13 x14 x15 x16 x17 x18 x19 x20 x21 x22 x23 x24 x25 x26 x27 x28 x29 x30 x31 x32 bo bf v m sl v1 e0 e mx w0 w1 w2 w3 w4 5 #[true, true, true, false, true, false, false, false, false] { tmps := #[x0, x1, x2, x3, (.pointer (some ⟨bo, 0, none⟩)), (.pointer (some ⟨bf, 0, none⟩)), x6, m, e, x9, x10, x11, x12, x13, x14, x15, x16, x17, x18, x19, x20, x21, v, m, sl, x25, e0, x27, x28, x29, x30, x31, x32], defers := [] } w1
  | c0125 : St10 x0 x1 x2 x3 x6 x9 x10 x11 x12 x13 x14 x15 x16 x17 x18 x19 x20 x21 x22 x23 x24 x25 x26 x27 x28 x29 x30 x31 x32 bo bf v m sl v1 e0 e mx w0 w1 w2 w3 w4 5 #[true, true, true, false, false, true, false, false, false] { tmps := #[x0, x1, x2, x3, (.pointer (some ⟨bo, 0, none⟩)), (.pointer (some ⟨bf, 0, none⟩)), x6, m, e, x9, x10, x11, x12, x13, x14, x15, x16, x17, x18, x19, x20, x21, v, m, sl, x25, x26, e, x28, x29, x30, x31, x32], defers := [] } w1
  | c0145 : St10 x0 x1 x2 x3 x6 x9 x10 x11 x12 x13 x14 x15 x16 x17 x18 x19 x20 x21 x22 x23 x24 x25 x26 x27 x28 x29 x30 x31 x32 bo bf v m sl v1 e0 e mx w0 w1 w2 w3 w4 5 #[true, true, false, false, true, true, false, false, false] { tmps := #[x0, x1, x2, x3, (.pointer (some ⟨bo, 0, none⟩)), (.pointer (some ⟨bf, 0, none⟩)), x6, m, e, x9, x10, x11, x12, x13, x14, x15, x16, x17, x18, x19, x20, x21, v, m, x24, x25, e0, e, x28, x29, x30, x31, x32], defers := [] } w0
  | c0456 : St10 x0 x1 x2 x3 x6 x9 x10 x11 x12 x13 x14 x15 x16 x17 x18 x19 x20 x21 x22 x23 x24 x25 x26 x27 x28 x29 x30 x31 x32 bo bf v m sl v1 e0 e mx w0 w1 w2 w3 w4 5 #[true, false, false, false, true, true, true, false, false] { tmps := #[x0, x1, x2, x3, (.pointer (some ⟨bo, 0, none⟩)), (.pointer (some ⟨bf, 0, none⟩)), x6, m, e, x9, x10, x11, x12, x13, x14, x15, x16, x17, x18, x19, x20, x21, v, x23, x24, x25, e0, e, mx, x29, x30, x31, x32], defers := [] } w0
  | c1245 : St10 x0 x1 x2 x3 x6 x9 x10 x11 x12 x13 x14 x15 x16 x17 x18 x19 x20 x21 x22 x23 x24 x25 x26 x27 x28 x29 x30 x31 x32 bo bf v m sl v1 e0 e mx w0 w1 w2 w3 w4 5 #[false, true, true, false, true, true, false, false, false] { tmps := #[x0, x1, x2, x3, (.pointer (some ⟨bo, 0, none⟩)), (.pointer (some ⟨bf, 0, none⟩)), x6, m, e, x9, x10, x11, x12, x13, x14, x15, x16, x17, x18, x19, x20, x21, x22, m, sl, x25, e0, e, x28, x29, x30, x31, x32], defers := [] } w1
  | c1456 : St10 x0 x1 x2 x3 x6 x9 x10 x11 x12 x13 x14 x15 x16 x17 x18 x19 x20 x21 x22 x23 x24 x25 x26 x27 x28 x29 x30 x31 x32 bo bf v m sl v1 e0 e mx w0 w1 w2 w3 w4 5 #[false, true, false, false, true, true, true, false, false] { tmps := #[x0, x1, x2, x3, (.pointer (some ⟨bo, 0, none⟩)), (.pointer (some ⟨bf, 0, none⟩)), x6, m, e, x9, x10, x11, x12, x13, x14, x15, x16, x17, x18, x19, x20, x21, x22, m, x24, x25, e0, e, mx, x29, x30, x31, x32], defers := [] } w0
  | c01234 : St10 x0 x1 x2 x3 x6 x9 x10 x11 x12 x13 x14 x15 x16 x17 x18 x19 x20 x21 x22 x23 x24 x25 x26 x27 x28 x29 x30 x31 x32 bo bf v m sl v1 e0 e mx w0 w1 w2 w3 w4 4 #[true, true, true, true, true, false, false, false, false] { tmps := #[x0, x1, x2, x3, (.pointer (some ⟨bo, 0, none⟩)), (.pointer (some ⟨bf, 0, none⟩)), x6, m, e, x9, x10, x11, x12, x13, x14, x15, x16, x17, x18, x19, x20, x21, v, m, sl, v1, e0, x27, x28, x29, x30, x31, x32], defers := [] } w2
  | c01235 : St10 x0 x1 x2 x3 x6 x9 x10 x11 x12 x13 x14 x15 x16 x17 x18 x19 x20 x21 x22 x23 x24 x25 x26 x27 x28 x29 x30 x31 x32 bo bf v m sl v1 e0 e mx w0 w1 w2 w3 w4 4 #[true, true, true, true, false, true, false, false, false] { tmps := #[x0, x1, x2, x3, (.pointer (some ⟨bo, 0, none⟩)), (.pointer (some ⟨bf, 0, none⟩)), x6, m, e, x9, x10, x11, x12, x13, x14, x15, x16, x17, x18, x19, x20, x21, v, m, sl, v1, x26, e, x28, x29, x30, x31, x32], defers := [] } w2
  | c01237 : St10 x0 x1 x2 x3 x6 x9 x10 x11 x12 x13 x14 x15 x16 x17 x18 x19 x20 x21 x22 x23 x24 x25 x26 x27 x28 x29 x30 x31 x32 bo bf v m sl v1 e0 e mx w0 w1 w2 w3 w4 4 #[true, true, true, true, false, false, false, true, false] { tmps := #[x0, x1, x2, x3, (.pointer (some ⟨bo, 0, none⟩)), (.pointer (some ⟨bf, 0, none⟩)), x6, m, e, x9, x10, x11, x12, x13, x14, x15, x16, x17, x18, x19, x20, x21, v, m, sl, v1, x26, x27, x28, x29, x30, x31, x32], defers := [] } w3
  | c01245 : St10 x0 x1 x2 x3 x6 x9 x10 x11 x12 x13 x14 x15 x16 x17 x18 x19 x20 x21 x22 x23 x24 x25 x26 x27 x28 x29 x30 x31 x32 bo bf v m sl v1 e0 e mx w0 w1 w2 w3 w4 4 #[true, true, true, false, true, true, false, false, false] { tmps := #[x0, x1, x2, x3, (.pointer (some ⟨bo, 0, none⟩)), (.pointer (some ⟨bf, 0, none⟩)), x6, m, e, x9, x10, x11, x12, x13, x14, x15, x16, x17, x18, x19, x20, x21, v, m, sl, x25, e0, e, x28, x29, x30, x31, x32], defers := [] } w1
  | c01456 : St10 x0 x1 x2 x3 x6 x9 x10 x11 x12 x13 x14 x15 x16 x17 x18 x19 x20 x21 x22 x23 x24 x25 x26 x27 x28 x29 x30 x31 x32 bo bf v m sl v1 e0 e mx w0 w1 w2 w3 w4 4 #[true, true, false, false, true, true, true, false, false] { tmps := #[x0, x1, x2, x3, (.pointer (some ⟨bo, 0, none⟩)), (.pointer (some ⟨bf, 0, none⟩)), x6, m, e, x9, x10, x11, x12, x13, x14, x15, x16, x17, x18, x19, x20, x21, v, m, x24, x25, e0, e, mx, x29, x30, x31, x32], defers := [] } w0
  | c12456 : St10 x0 x1 x2 x3 x6 x9 x10 x11 x12 x13 x14 x15 x16 x17 x18 x19 x20 x21 x22 x23 x24 x25 x26 x27 x28 x29 x30 x31 x32 bo bf v m sl v1 e0 e mx w0 w1 w2 w3 w4 4 #[false, true, true, false, true, true, true, false, false] { tmps := #[x0, x1, x2, x3, (.pointer (some ⟨bo, 0, none⟩)), (.pointer (some ⟨bf, 0, none⟩)), x6, m, e, x9, x10, x11, x12, x13, x14, x15, x16, x17, x18, x19, x20, x21, x22, m, sl, x25, e0, e, mx, x29, x30, x31, x32], defers := [] } w1
  | c012345 : St10 x0 x1 x2 x3 x6 x9 x10 x11 x12 x13 x14 x15 x16 x17 x18 x19 x20 x21 x22 x23 x24 x25 x26 x27 x28 x29 x30 x31 x32 bo bf v m sl v1 e0 e mx w0 w1 w2 w3 w4 3 #[true, true, true, true, true, true, false, false, false] { tmps := #[x0, x1, x2, x3, (.pointer (some ⟨bo, 0, none⟩)), (.pointer (some ⟨bf, 0, none⟩)), x6, m, e, x9, x10, x11, x12, x13, x14, x15, x16, x17, x18, x19, x20, x21, v, m, sl, v1, e0, e, x28, x29, x30, x31, x32], defers := [] } w2
  | c012347 : St10 x0 x1 x2 x3 x6 x9 x10 x11 x12 x13 x14 x15 x16 x17 x18 x19 x20 x21 x22 x23 x24 x25 x26 x27 x28 x29 x30 x31 x32 bo bf v m sl v1 e0 e mx w0 w1 w2 w3 w4 3 #[true, true, true, true, true, false, false, true, false] { tmps := #[x0, x1, x2, x3, (.pointer (some ⟨bo, 0, none⟩)), (.pointer (some ⟨bf, 0, none⟩)), x6, m, e, x9, x10, x11, x12, x13, x14, x15, x16, x17, x18, x19, x20, x21, v, m, sl, v1, e0, x27, x28, x29, x30, x31, x32], defers := [] } w3
  | c012357 : St10 x0 x1 x2 x3 x6 x9 x10 x11 x12 x13 x14 x15 x16 x17 x18 x19 x20 x21 x22 x23 x24 x25 x26 x27 x28 x29 x30 x31 x32 bo bf v m sl v1 e0 e mx w0 w1 w2 w3 w4 3 #[true, true, true, true, false, true, false, true, false] { tmps := #[x0, x1, x2, x3, (.pointer (some ⟨bo, 0, none⟩)), (.pointer (some ⟨bf, 0, none⟩)), x6, m, e, x9, x10, x11, x12, x13, x14, x15, x16, x17, x18, x19, x20, x21, v, m, sl, v1, x26, e, x28, x29, x30, x31, x32], defers := [] } w3
  | c012456 : St10 x0 x1 x2 x3 x6 x9 x10 x11 x12 x13 x14 x15 x16 x17 x18 x19 x20 x21 x22 x23 x24 x25 x26 x27 x28 x29 x30 x31 x32 bo bf v m sl v1 e0 e mx w0 w1 w2 w3 w4 3 #[true, true, true, false, true, true, true, false, false] { tmps := #[x0, x1, x2, x3, (.pointer (some ⟨bo, 0, none⟩)), (.pointer (some ⟨bf, 0, none⟩)), x6, m, e, x9, x10, x11, x12, x13, x14, x15, x16, x17, x18, x19, x20, x21, v, m, sl, x25, e0, e, mx, x29, x30, x31, x32], defers := [] } w1
  | c0123456 : St10 x0 x1 x2 x3 x6 x9 x10 x11 x12 x13 x14 x15 x16 x17 x18 x19 x20 x21 x22 x23 x24 x25 x26 x27 x28 x29 x30 x31 x32 bo bf v m sl v1 e0 e mx w0 w1 w2 w3 w4 2 #[true, true, true, true, true, true, true, false, false] { tmps := #[x0, x1, x2, x3, (.pointer (some ⟨bo, 0, none⟩)), (.pointer (some ⟨bf, 0, none⟩)), x6, m, e, x9, x10, x11, x12, x13, x14, x15, x16, x17, x18, x19, x20, x21, v, m, sl, v1, e0, e, mx, x29, x30, x31, x32], defers := [] } w2
  | c0123457 : St10 x0 x1 x2 x3 x6 x9 x10 x11 x12 x13 x14 x15 x16 x17 x18 x19 x20 x21 x22 x23 x24 x25 x26 x27 x28 x29 x30 x31 x32 bo bf v m sl v1 e0 e mx w0 w1 w2 w3 w4 2 #[true, true, true, true, true, true, false, true, false] { tmps := #[x0, x1, x2, x3, (.pointer (some ⟨bo, 0, none⟩)), (.pointer (some ⟨bf, 0, none⟩)), x6, m, e, x9, x10, x11, x12, x13, x14, x15, x16, x17, x18, x19, x20, x21, v, m, sl, v1, e0, e, x28, x29, x30, x31, x32], defers := [] } w3
  | c01234567 : St10 x0 x1 x2 x3 x6 x9 x10 x11 x12 x13 x14 x15 x16 x17 x18 x19 x20 x21 x22 x23 x24 x25 x26 x27 x28 x29 x30 x31 x32 bo bf v m sl v1 e0 e mx w0 w1 w2 w3 w4 1 #[true, true, true, true, true, true, true, true, false] { tmps := #[x0, x1, x2, x3, (.pointer (some ⟨bo, 0, none⟩)), (.pointer (some ⟨bf, 0, none⟩)), x6, m, e, x9, x10, x11, x12, x13, x14, x15, x16, x17, x18, x19, x20, x21, v, m, sl, v1, e0, e, mx, x29, x30, x31, x32], defers := [] } w3
  | c012345678 : St10 x0 x1 x2 x3 x6 x9 x10 x11 x12 x13 x14 x15 x16 x17 x18 x19 x20 x21 x22 x23 x24 x25 x26 x27 x28 x29 x30 x31 x32 bo bf v m sl v1 e0 e mx w0 w1 w2 w3 w4 0 #[true, true, true, true, true, true, true, true, true] { tmps := #[x0, x1, x2, x3, (.pointer (some ⟨bo, 0, none⟩)), (.pointer (some ⟨bf, 0, none⟩)), x6, m, e, x9, x10, x11, x12, x13, x14, x15, x16, x17, x18, x19, x20, x21, v, m, sl, v1, e0, e, mx, x29, x30, x31, x32], defers := [] } w4
set_option maxRecDepth 100000 in
set_option maxHeartbeats 4000000 in
theorem pnums_callsC (s : ByteArray) (hs : s.size ≤ 1099511627776) (w : World) (hr : RngOk w) :
    Calls Tryz.prog 22 #[.string s] w fun e w' => NumsEndC (J.pnums (bs s)) e w' ∧ Ext w w' := by
  obtain ⟨i0, hi, hz0, hz1, hz2⟩ := info_parts bI64
  by_cases he : bs s = []
  · have e0 : s.toList.isEmpty = true := toList_empty.2 he
    have HB := Lib.hid (show J.pnums (bs s) = .ok [] by rw [J.pnums, if_pos he])
    clear he
    have q0 := ((Boxed.new w tSl (.slice none 0 0)).alloc (.cells #[.int .i64 0] tEr)).cell
    have q1 := Boxed.new (w.alloc (.cells #[.slice none 0 0] tSl)) tEr (.int .i64 0)
    rw [World.size_alloc] at q1
    have r1 := q1.cell
    go_enter Tryz.func22, Tryz.ntmps22
    go_wp2
    refine bodyPost_ret (v := .tuple #[.slice none 0 0, .int .i64 0]) (by simp [results, Tryz.f22, go_sem, q0, r1]) rfl ⟨?_, ((Below.refl _ w).alloc (Nat.le_refl _) _).alloc (by simp) _⟩
    rw [HB.out]
    exact ⟨none, 0, rfl, Rd.nil _ _, Nat.le_refl _⟩
  · have e0 : s.toList.isEmpty = false := by
      cases hh : s.toList.isEmpty with
      | false => rfl
      | true => exact absurd (toList_empty.1 hh) he
    have HB := Lib.hid (show J.pnums (bs s) = J.pl (J.parts (bs s)) [] false by rw [J.pnums, if_neg he])
    clear he
    refine (callsIn_wide (n := 4)).1 ?_
    refine callsIn_of_wp_marks Tryz.func22 rfl trivial ?_ rfl
    simp only [Tryz.ntmps22, List.size_toArray, List.length_cons, List.length_nil, Nat.reduceAdd, Nat.reduceSub, Array.replicate_succ, Array.replicate_zero, List.push_toArray, List.append_toArray, List.nil_append, List.cons_append]
    gi_wp2_with fail
    refine ⟨trivial, (callsIn_wide.2 (seq_calls s _)).mono ?_⟩
    rintro e w' ⟨rfl, rfl⟩
    have q0 := Boxed.new w tSl (.slice none 0 0)
    have q1 := Boxed.new (w.alloc (.cells #[.slice none 0 0] tSl)) tEr (.int .i64 0)
    have q2 := Boxed.new ((w.alloc (.cells #[.slice none 0 0] tSl)).alloc (.cells #[.int .i64 0] tEr)) tSl (.slice none 0 0)
    have q3 := Boxed.new (((w.alloc (.cells #[.slice none 0 0] tSl)).alloc (.cells #[.int .i64 0] tEr)).alloc (.cells #[.slice none 0 0] tSl)) tEr (.int .i64 0)
    have q4 := Boxed.new ((((w.alloc (.cells #[.slice none 0 0] tSl)).alloc (.cells #[.int .i64 0] tEr)).alloc (.cells #[.slice none 0 0] tSl)).alloc (.cells #[.int .i64 0] tEr)) 9 (.string s)
    have q5 := Boxed.new (((((w.alloc (.cells #[.slice none 0 0] tSl)).alloc (.cells #[.int .i64 0] tEr)).alloc (.cells #[.slice none 0 0] tSl)).alloc (.cells #[.int .i64 0] tEr)).alloc (.cells #[.string s] 9)) 9 (.string comma)
    have q6 := Boxed.new ((((((w.alloc (.cells #[.slice none 0 0] tSl)).alloc (.cells #[.int .i64 0] tEr)).alloc (.cells #[.slice none 0 0] tSl)).alloc (.cells #[.int .i64 0] tEr)).alloc (.cells #[.string s] 9)).alloc (.cells #[.string comma] 9)) 3 (.int .i64 0)
    simp only [World.size_alloc] at q1 q2 q3 q4 q5 q6
    replace q0 := (((((q0.alloc (.cells #[.int .i64 0] tEr)).alloc (.cells #[.slice none 0 0] tSl)).alloc (.cells #[.int .i64 0] tEr)).alloc (.cells #[.string s] 9)).alloc (.cells #[.string comma] 9)).alloc (.cells #[.int .i64 0] 3)
    replace q1 := ((((q1.alloc (.cells #[.slice none 0 0] tSl)).alloc (.cells #[.int .i64 0] tEr)).alloc (.cells #[.string s] 9)).alloc (.cells #[.string comma] 9)).alloc (.cells #[.int .i64 0] 3)
    replace q2 := (((q2.alloc (.cells #[.int .i64 0] tEr)).alloc (.cells #[.string s] 9)).alloc (.cells #[.string comma] 9)).alloc (.cells #[.int .i64 0] 3)
    replace q3 := ((q3.alloc (.cells #[.string s] 9)).alloc (.cells #[.string comma] 9)).alloc (.cells #[.int .i64 0] 3)
    replace q4 := (q4.alloc (.cells #[.string comma] 9)).alloc (.cells #[.int .i64 0] 3)
    replace q5 := q5.alloc (.cells #[.int .i64 0] 3)
    have hB0 : Below w.heap.size w (((((((w.alloc (.cells #[.slice none 0 0] tSl)).alloc (.cells #[.int .i64 0] tEr)).alloc (.cells #[.slice none 0 0] tSl)).alloc (.cells #[.int .i64 0] tEr)).alloc (.cells #[.string s] 9)).alloc (.cells #[.string comma] 9)).alloc (.cells #[.int .i64 0] 3)) :=
      (((((((Below.refl _ w).alloc (Nat.le_refl _) _).alloc (by simp) _).alloc (by simp; omega) _).alloc (by simp; omega) _).alloc (by simp; omega) _).alloc (by simp; omega) _).alloc (by simp; omega) _
    have hZ : (((((((w.alloc (.cells #[.slice none 0 0] tSl)).alloc (.cells #[.int .i64 0] tEr)).alloc (.cells #[.slice none 0 0] tSl)).alloc (.cells #[.int .i64 0] tEr)).alloc (.cells #[.string s] 9)).alloc (.cells #[.string comma] 9)).alloc (.cells #[.int .i64 0] 3)).heap.size = w.heap.size + 1 + 1 + 1 + 1 + 1 + 1 + 1 := by simp only [World.size_alloc]
    gi_wp2_with fail
    generalize (((((((w.alloc (.cells #[.slice none 0 0] tSl)).alloc (.cells #[.int .i64 0] tEr)).alloc (.cells #[.slice none 0 0] tSl)).alloc (.cells #[.int .i64 0] tEr)).alloc (.cells #[.string s] 9)).alloc (.cells #[.string comma] 9)).alloc (.cells #[.int .i64 0] 3)) = W0 at *
    have hzW : w.heap.size + 1 + 1 + 1 + 1 + 3 ≤ W0.heap.size := by omega
    clear hZ
    refine wp_range_cell (gf := 87) (lb := #[.pointer (some ⟨w.heap.size + 1 + 1 + 1 + 1 + 1, 0, none⟩), .pointer (some ⟨w.heap.size + 1 + 1 + 1 + 1, 0, none⟩), .pointer (some ⟨w.heap.size + 1 + 1 + 1 + 1 + 2, 0, none⟩)]) rfl (enters_of Tryz.func87 (by kernel_rfl) rfl)
      (pieces_word s hs w.heap.size (w.heap.size + 1 + 1 + 1 + 1) W0 q4 q5 q6) Kp3.trans (fun W k o o' hk hl ho => ⟨(Below.refl _ W).grown (grownBy_putObj' W k o') (by have := (Array.getElem?_eq_some_iff.1 hl).1; omega) (fun j e => by cases e; omega), fun j h1 h2 => World.putObj_heap_other (by omega)⟩)
      (Below.refl _ _) (fun _ => rfl) (NumsI w) (NumsX w) (numsI_own w _ (by omega)) (numsX_own w _ (by omega)) (numsI_cell w)
      ⟨[], false, _, _, fun ps => rfl, rfl, q2, World.ownsRow_nil _ _ _ _, q3, q0, q1, q4, q5, q6, hB0⟩
      (fun x => { tmps := #[.string s, undef, .pointer (some ⟨w.heap.size, 0, none⟩), .pointer (some ⟨w.heap.size + 1, 0, none⟩), .pointer (some ⟨w.heap.size + 1 + 1, 0, none⟩), .pointer (some ⟨w.heap.size + 1 + 1 + 1, 0, none⟩), .string x.1, undef, undef, .string s, .bool false, .string s,
          .func (.func 87) #[] #[.pointer (some ⟨w.heap.size + 1 + 1 + 1 + 1 + 1, 0, none⟩), .pointer (some ⟨w.heap.size + 1 + 1 + 1 + 1, 0, none⟩), .pointer (some ⟨w.heap.size + 1 + 1 + 1 + 1 + 2, 0, none⟩)], .string x.1,
          undef, undef, undef, undef, undef, undef, undef, undef, undef, undef, undef, undef, undef, undef, undef, undef, undef, undef, undef], defers := [] }) ?assign ?body ?done ?stop
    case assign =>
      intro l x W K hK
      gi_wp2
      exact hK
    case body =>
      rintro l pre x W ⟨out, long, v, u, h1, h2, h3, h4, h5, h6, h7, h8, h8a, h8b, h9⟩ hlt
      have hN : (J.parts (bs s)).length ≤ s.size + 1 := J.parts_length (bs s)
      have hRng := hr.ext h9
      have HP := Lib.hid (pnum_calls x.1 x.2 W hRng)
      clear hRng
      by_cases hp : J.pnum (bs x.1) = .error 2
      · have HX := Lib.hid (show ∀ ps, J.pl (((pre ++ [x]).map fun x : Pc => bs x.1) ++ ps) [] false = .error 2 from fun ps => by
          rw [List.map_append, List.append_assoc, h1]
          exact J.pl_bad hp _ _ _)
        rw [hp] at HP
        clear h1 hp h2 hlt hN h3 h4 h5 h8
        gi_wp2_with fail
        refine ⟨trivial, (CallsIn.inRound l (callsIn_wide.2 HP.out)).mono ?_⟩
        rintro e W1 ⟨he, hx⟩
        obtain rfl : e = .returned (.tuple #[.int .i64 0, .int .i64 2]) := he
        have b0 : Boxed W1 w.heap.size tSl (.slice none 0 0) := (hx.block _ h6.lt).trans h6
        have b1 : Boxed W1 (w.heap.size + 1) tEr (.int .i64 0) := (hx.block _ h7.lt).trans h7
        have hB1 := h9.trans (hx.mono h9.size)
        have c0 := b0.cell
        have c1 := b1.cell
        have f0 := b0.frozen
        have f1 := b1.frozen
        gi_wp2
        exact ⟨((keepsFrom_ext hx).trans ((KeepsOthers.setCell _ _ _).from _)).trans ((KeepsOthers.setCell _ _ _).from _), HX.out, box_set (b0.set _) (by omega) _, (box_set b1 (by omega) _).set _,
          (hB1.setCell (p := ⟨w.heap.size, 0, none⟩) (Nat.le_refl _) _).setCell (p := ⟨w.heap.size + 1, 0, none⟩) (by show w.heap.size ≤ w.heap.size + 1; omega) _⟩
      · obtain ⟨m, e, he4, hend, hcont⟩ : ∃ (m : Int) (e : Int), (e = 0 ∨ e = 4) ∧ (∀ en, NumEnd (J.pnum (bs x.1)) en → en = .returned (.tuple #[.int .i64 m, .int .i64 e])) ∧
            (∀ ps, J.pl (((pre ++ [x]).map fun x : Pc => bs x.1) ++ ps) [] false = J.pl ps (out ++ [m]) (long || decide (e = 4))) := by
          rcases J.pnum_cases (bs x.1) with h | h | ⟨m, h⟩
          · exact absurd h hp
          · refine ⟨0, 4, .inr rfl, fun en he => by rw [h] at he; exact he, fun ps => ?_⟩
            rw [List.map_append, List.append_assoc, h1]
            simpa using J.pl_long h ps out long
          · refine ⟨m, 0, .inl rfl, fun en he => by rw [h] at he; exact he, fun ps => ?_⟩
            rw [List.map_append, List.append_assoc, h1]
            simpa using J.pl_ok h ps out long
        have HL := Lib.hid h2
        have hol : out.length < s.size + 1 := by omega
        clear h2 hlt hN
        have HE := Lib.hid hend
        have HC := Lib.hid hcont
        clear h1 hp hend hcont
        obtain ⟨e0, mx, hmx, he0⟩ : ∃ e0 mx : Int, (errOf (long || decide (e = 4)) = mx) ∧ errOf long = e0 := ⟨_, _, rfl, rfl⟩
        rw [he0] at h5
        have HM := Lib.hid hmx
        have hcs : (e = 0 ∧ e0 = 0 ∧ mx = 0) ∨ (e = 0 ∧ e0 = 4 ∧ mx = 4) ∨ (e = 4 ∧ e0 = 0 ∧ mx = 4) ∨ (e = 4 ∧ e0 = 4 ∧ mx = 4) := by
          rcases he4 with rfl | rfl <;> cases long <;> simp [errOf] at hmx he0 <;> omega
        clear he4 hmx he0
        rcases hcs with ⟨rfl, rfl, rfl⟩ | ⟨rfl, rfl, rfl⟩ | ⟨rfl, rfl, rfl⟩ | ⟨rfl, rfl, rfl⟩
        · gi_wp2_with fail
          refine ⟨trivial, (CallsIn.inRound l (callsIn_wide.2 HP.out)).mono ?_⟩
          rintro en W1 ⟨he, hx⟩
          obtain rfl := HE.out _ he
          clear he
          have bO := show Boxed W1 _ _ _ from (hx.block _ h3.lt).trans h3
          have bF := show Boxed W1 _ _ _ from (hx.block _ h5.lt).trans h5
          have b0 := show Boxed W1 _ _ _ from (hx.block _ h6.lt).trans h6
          have b1 := show Boxed W1 _ _ _ from (hx.block _ h7.lt).trans h7
          have bS := show Boxed W1 _ _ _ from (hx.block _ h8.lt).trans h8
          have bS1 := show Boxed W1 _ _ _ from (hx.block _ h8a.lt).trans h8a
          have bS2 := show Boxed W1 _ _ _ from (hx.block _ h8b.lt).trans h8b
          have hrow := ownsRow_kept h4 hx.block
          have hB1 := h9.trans (hx.mono h9.size)
          have hKF := keepsFrom_ext (B := W0.heap.size) hx
          gi_wp2_with fail
          have hB2 : Below w.heap.size w ((W1.alloc (.cells #[.int .i64 m] 2)).drew) := ((hB1.alloc hB1.size _).drew)
          have hrow2 : ((W1.alloc (.cells #[.int .i64 m] 2)).drew).ownsRow w.heap.size 2 1 v out.length (cI64s out) := (hrow.alloc _).drew
          obtain ⟨v1, w2, happ, hown2, hgrow2, _⟩ := run_append_own (P := Tryz.prog) ((W1.alloc (.cells #[.int .i64 m] 2)).drew) w.heap.size 33 33 2 i0 (.int .i64 0) 1 8 Tryz.underlying33 hi hz0 hz1 hz2 rfl (by decide) v out.length (cI64s out) hrow2 ⟨W1.heap.size, 0, none⟩ 1 1 [.int .i64 m] rfl (cell_one_new W1 _ _) (fun x hx => by simp at hx; subst hx; rfl) (by unfold maxLen; omega) (by omega) hB2.size
          obtain ⟨g, cap, rfl⟩ := ownsRow_succ hown2
          have nO := bO.not_row (by decide) hrow
          have nF := bF.not_row (by decide) hrow
          have n0 := b0.not_row (by decide) hrow
          have n1 := b1.not_row (by decide) hrow
          have nS := bS.not_row (by decide) hrow
          have dO := show Boxed ((W1.alloc (.cells #[.int .i64 m] 2)).drew) _ _ _ from bO.alloc _
          have dF := show Boxed ((W1.alloc (.cells #[.int .i64 m] 2)).drew) _ _ _ from bF.alloc _
          have d0 := show Boxed ((W1.alloc (.cells #[.int .i64 m] 2)).drew) _ _ _ from b0.alloc _
          have d1 := show Boxed ((W1.alloc (.cells #[.int .i64 m] 2)).drew) _ _ _ from b1.alloc _
          have dS := show Boxed ((W1.alloc (.cells #[.int .i64 m] 2)).drew) _ _ _ from bS.alloc _
          have eO := dO.kept hgrow2 nO
          have eF := dF.kept hgrow2 nF
          have e0' := d0.kept hgrow2 n0
          have e1' := d1.kept hgrow2 n1
          have eS := dS.kept hgrow2 nS
          have eS1 := (show Boxed ((W1.alloc (.cells #[.int .i64 m] 2)).drew) _ _ _ from bS1.alloc _).kept hgrow2 (bS1.not_row (by decide) hrow)
          have eS2 := (show Boxed ((W1.alloc (.cells #[.int .i64 m] 2)).drew) _ _ _ from bS2.alloc _).kept hgrow2 (bS2.not_row (by decide) hrow)
          have HBX := Lib.hid (And.intro eS (And.intro eS1 (And.intro eS2 (And.intro e0' e1'))))
          have hKO := ((hKF.trans ((KeepsOthers.alloc W1 (.cells #[.int .i64 m] 2)).from _)).trans ((KeepsOthers.drew _).from _)).trans ((keeps_own hrow2 hgrow2).from _)
          have hBW := (((hx.mono h9.size).alloc hB1.size (.cells #[.int .i64 m] 2)).drew).grown hgrow2 hB2.size (fun k e => (hrow2.lt k e).1)
          have hB3 := hB2.grown hgrow2 hB2.size (fun k e => (hrow2.lt k e).1)
          have kO : Boxed W1.drew _ _ _ := bO
          have kF : Boxed W1.drew _ _ _ := bF
          have cO0 := kO.cell
          have cF0 := kF.cell
          have cO1 := dO.cell
          have cF1 := dF.cell
          have cO2 := eO.cell
          have cF2 := eF.cell
          have fO2 := eO.frozen
          have gF := box_set eF (B := w.heap.size + 1 + 1) (by omega) (.slice (some ⟨g, 0, none⟩) (out.length + 1) cap)
          have cF3 := gF.cell
          have fF3 := gF.frozen
          refine wpIn_region_any (by kernel_rfl) ?_
          refine wpAnyIn_inv (St10 _ _ _ _ _ _ _ _ _ _ _ _ _ _ _ _ _ _ _ _ _ _ _ _ _ _ _ _ _ (w.heap.size + 1 + 1) (w.heap.size + 1 + 1 + 1) v (.int .i64 m) (.slice (some ⟨W1.heap.size, 0, none⟩) 1 1) (.slice (some ⟨g, 0, none⟩) (out.length + 1) cap) (.int .i64 0) (.int .i64 0) (.int .i64 0) W1.drew ((W1.alloc (.cells #[.int .i64 m] 2)).drew) w2 (w2.setCell ⟨w.heap.size + 1 + 1, 0, none⟩ (.slice (some ⟨g, 0, none⟩) (out.length + 1) cap)) ((w2.setCell ⟨w.heap.size + 1 + 1, 0, none⟩ (.slice (some ⟨g, 0, none⟩) (out.length + 1) cap)).setCell ⟨w.heap.size + 1 + 1 + 1, 0, none⟩ (.int .i64 0))) ?h0 ?hs 9 _ _ _ St10.c
          case h0 =>
            intro l a w h
            cases h
            refine ⟨by kernel_rfl, ?_⟩
            obtain ⟨eS, eS1, eS2, e0', e1'⟩ := HBX.out
            have z4 := box_set (box_set eS (B := w.heap.size + 1 + 1) (by omega) (.slice (some ⟨g, 0, none⟩) (out.length + 1) cap)) (B := w.heap.size + 1 + 1 + 1) (by omega) (.int .i64 0)
            have z5 := box_set (box_set eS1 (B := w.heap.size + 1 + 1) (by omega) (.slice (some ⟨g, 0, none⟩) (out.length + 1) cap)) (B := w.heap.size + 1 + 1 + 1) (by omega) (.int .i64 0)
            have z6 := box_set (box_set eS2 (B := w.heap.size + 1 + 1) (by omega) (.slice (some ⟨g, 0, none⟩) (out.length + 1) cap)) (B := w.heap.size + 1 + 1 + 1) (by omega) (.int .i64 0)
            refine ⟨(hKO.trans ((KeepsOthers.setCell _ _ _).from _)).trans ((KeepsOthers.setCell _ _ _).from _), ⟨?_, fun k hk1 hk2 => ?_⟩, out ++ [m], _, _, _, HC.out, by simp [HL.out], box_set (eO.set _) (by omega) _, ?_, ?_, box_set (box_set e0' (by omega) _) (by omega) _, box_set (box_set e1' (by omega) _) (by omega) _, z4, z5, z6, ?_⟩
            · exact (hBW.setCell (p := ⟨w.heap.size + 1 + 1, 0, none⟩) (by show w.heap.size ≤ w.heap.size + 1 + 1; omega) _).setCell (p := ⟨w.heap.size + 1 + 1 + 1, 0, none⟩) (by show w.heap.size ≤ w.heap.size + 1 + 1 + 1; omega) _
            · rcases (show k = w.heap.size + 1 + 1 + 1 + 1 ∨ k = w.heap.size + 1 + 1 + 1 + 1 + 1 ∨ k = w.heap.size + 1 + 1 + 1 + 1 + 2 by omega) with rfl | rfl | rfl
              · exact z4.trans h8.symm
              · exact z5.trans h8a.symm
              · exact z6.trans h8b.symm
            · have := row_set (row_set hown2 eO (by decide) (.slice (some ⟨g, 0, none⟩) (out.length + 1) cap)) gF (by decide) (.int .i64 0)
              simpa [cI64s] using this
            · rw [HM.out]
              exact gF.set _
            · exact (hB3.setCell (p := ⟨w.heap.size + 1 + 1, 0, none⟩) (by show w.heap.size ≤ w.heap.size + 1 + 1; omega) _).setCell (p := ⟨w.heap.size + 1 + 1 + 1, 0, none⟩) (by show w.heap.size ≤ w.heap.size + 1 + 1 + 1; omega) _
          case hs =>
            intro k l a w h
            cases h with
            | c =>
              refine ready_all (rs := [0, 1, 4, 5]) (by kernel_rfl) (by simp) ?_
              refine List.forall_mem_cons.2 ⟨wpOpIn_step rfl (fun K hK => ?_), ?_⟩
              · go_simp; exact hK _ _ St10.c0
              refine List.forall_mem_cons.2 ⟨wpOpIn_step rfl (fun K hK => ?_), ?_⟩
              · go_simp; exact hK _ _ St10.c1
              refine List.forall_mem_cons.2 ⟨wpOpIn_step rfl (fun K hK => ?_), ?_⟩
              · go_simp; exact hK _ _ St10.c4
              refine List.forall_mem_cons.2 ⟨wpOpIn_step rfl (fun K hK => ?_), ?_⟩
              · go_simp; exact hK _ _ St10.c5
              exact fun _ h => by cases h
            | c0 =>
              refine ready_all (rs := [1, 4, 5]) (by kernel_rfl) (by simp) ?_
              refine List.forall_mem_cons.2 ⟨wpOpIn_step rfl (fun K hK => ?_), ?_⟩
              · go_simp; exact hK _ _ St10.c01
              refine List.forall_mem_cons.2 ⟨wpOpIn_step rfl (fun K hK => ?_), ?_⟩
              · go_simp; exact hK _ _ St10.c04
              refine List.forall_mem_cons.2 ⟨wpOpIn_step rfl (fun K hK => ?_), ?_⟩
              · go_simp; exact hK _ _ St10.c05
              exact fun _ h => by cases h
            | c1 =>
              refine ready_all (rs := [0, 2, 4, 5]) (by kernel_rfl) (by simp) ?_
              refine List.forall_mem_cons.2 ⟨wpOpIn_step rfl (fun K hK => ?_), ?_⟩
              · go_simp; exact hK _ _ St10.c01
              refine List.forall_mem_cons.2 ⟨wpOpIn_step rfl (fun K hK => ?_), ?_⟩
              · go_simp; exact hK _ _ St10.c12
              refine List.forall_mem_cons.2 ⟨wpOpIn_step rfl (fun K hK => ?_), ?_⟩
              · go_simp; exact hK _ _ St10.c14
              refine List.forall_mem_cons.2 ⟨wpOpIn_step rfl (fun K hK => ?_), ?_⟩
              · go_simp; exact hK _ _ St10.c15
              exact fun _ h => by cases h
            | c4 =>
              refine ready_all (rs := [0, 1, 5]) (by kernel_rfl) (by simp) ?_
              refine List.forall_mem_cons.2 ⟨wpOpIn_step rfl (fun K hK => ?_), ?_⟩
              · go_simp; exact hK _ _ St10.c04
              refine List.forall_mem_cons.2 ⟨wpOpIn_step rfl (fun K hK => ?_), ?_⟩
              · go_simp; exact hK _ _ St10.c14
              refine List.forall_mem_cons.2 ⟨wpOpIn_step rfl (fun K hK => ?_), ?_⟩
              · go_simp; exact hK _ _ St10.c45
              exact fun _ h => by cases h
            | c5 =>
              refine ready_all (rs := [0, 1, 4]) (by kernel_rfl) (by simp) ?_
              refine List.forall_mem_cons.2 ⟨wpOpIn_step rfl (fun K hK => ?_), ?_⟩
              · go_simp; exact hK _ _ St10.c05
              refine List.forall_mem_cons.2 ⟨wpOpIn_step rfl (fun K hK => ?_), ?_⟩
              · go_simp; exact hK _ _ St10.c15
              refine List.forall_mem_cons.2 ⟨wpOpIn_step rfl (fun K hK => ?_), ?_⟩
              · go_simp; exact hK _ _ St10.c45
              exact fun _ h => by cases h
            | c01 =>
              refine ready_all (rs := [2, 4, 5]) (by kernel_rfl) (by simp) ?_
              refine List.forall_mem_cons.2 ⟨wpOpIn_step rfl (fun K hK => ?_), ?_⟩
              · go_simp; exact hK _ _ St10.c012
              refine List.forall_mem_cons.2 ⟨wpOpIn_step rfl (fun K hK => ?_), ?_⟩
              · go_simp; exact hK _ _ St10.c014
              refine List.forall_mem_cons.2 ⟨wpOpIn_step rfl (fun K hK => ?_), ?_⟩
              · go_simp; exact hK _ _ St10.c015
              exact fun _ h => by cases h
            | c04 =>
              refine ready_all (rs := [1, 5]) (by kernel_rfl) (by simp) ?_
              refine List.forall_mem_cons.2 ⟨wpOpIn_step rfl (fun K hK => ?_), ?_⟩
              · go_simp; exact hK _ _ St10.c014
              refine List.forall_mem_cons.2 ⟨wpOpIn_step rfl (fun K hK => ?_), ?_⟩
              · go_simp; exact hK _ _ St10.c045
              exact fun _ h => by cases h
            | c05 =>
              refine ready_all (rs := [1, 4]) (by kernel_rfl) (by simp) ?_
              refine List.forall_mem_cons.2 ⟨wpOpIn_step rfl (fun K hK => ?_), ?_⟩
              · go_simp; exact hK _ _ St10.c015
              refine List.forall_mem_cons.2 ⟨wpOpIn_step rfl (fun K hK => ?_), ?_⟩
              · go_simp; exact hK _ _ St10.c045
              exact fun _ h => by cases h
            | c12 =>
              refine ready_all (rs := [0, 4, 5]) (by kernel_rfl) (by simp) ?_
              refine List.forall_mem_cons.2 ⟨wpOpIn_step rfl (fun K hK => ?_), ?_⟩
              · go_simp; exact hK _ _ St10.c012
              refine List.forall_mem_cons.2 ⟨wpOpIn_step rfl (fun K hK => ?_), ?_⟩
              · go_simp; exact hK _ _ St10.c124
              refine List.forall_mem_cons.2 ⟨wpOpIn_step rfl (fun K hK => ?_), ?_⟩
              · go_simp; exact hK _ _ St10.c125
              exact fun _ h => by cases h
            | c14 =>
              refine ready_all (rs := [0, 2, 5]) (by kernel_rfl) (by simp) ?_
              refine List.forall_mem_cons.2 ⟨wpOpIn_step rfl (fun K hK => ?_), ?_⟩
              · go_simp; exact hK _ _ St10.c014
              refine List.forall_mem_cons.2 ⟨wpOpIn_step rfl (fun K hK => ?_), ?_⟩
              · go_simp; exact hK _ _ St10.c124
              refine List.forall_mem_cons.2 ⟨wpOpIn_step rfl (fun K hK => ?_), ?_⟩
              · go_simp; exact hK _ _ St10.c145
              exact fun _ h => by cases h
            | c15 =>
              refine ready_all (rs := [0, 2, 4]) (by kernel_rfl) (by simp) ?_
              refine List.forall_mem_cons.2 ⟨wpOpIn_step rfl (fun K hK => ?_), ?_⟩
              · go_simp; exact hK _ _ St10.c015
              refine List.forall_mem_cons.2 ⟨wpOpIn_step rfl (fun K hK => ?_), ?_⟩
              · go_simp; exact hK _ _ St10.c125
              refine List.forall_mem_cons.2 ⟨wpOpIn_step rfl (fun K hK => ?_), ?_⟩
              · go_simp; exact hK _ _ St10.c145
              exact fun _ h => by cases h
            | c45 =>
              refine ready_all (rs := [0, 1, 6]) (by kernel_rfl) (by simp) ?_
              refine List.forall_mem_cons.2 ⟨wpOpIn_step rfl (fun K hK => ?_), ?_⟩
              · go_simp; exact hK _ _ St10.c045
              refine List.forall_mem_cons.2 ⟨wpOpIn_step rfl (fun K hK => ?_), ?_⟩
              · go_simp; exact hK _ _ St10.c145
              refine List.forall_mem_cons.2 ⟨wpOpIn_step rfl (fun K hK => ?_), ?_⟩
              · go_simp; exact hK _ _ St10.c456
              exact fun _ h => by cases h
            | c012 =>
              refine ready_all (rs := [3, 4, 5]) (by kernel_rfl) (by simp) ?_
              refine List.forall_mem_cons.2 ⟨wpOpIn_step rfl (fun K hK => ?_), ?_⟩
              · exact step_append_run rfl _ _ _ rfl _ rfl _ rfl happ (hK _ _ St10.c0123)
              refine List.forall_mem_cons.2 ⟨wpOpIn_step rfl (fun K hK => ?_), ?_⟩
              · go_simp; exact hK _ _ St10.c0124
              refine List.forall_mem_cons.2 ⟨wpOpIn_step rfl (fun K hK => ?_), ?_⟩
              · go_simp; exact hK _ _ St10.c0125
              exact fun _ h => by cases h
            | c014 =>
              refine ready_all (rs := [2, 5]) (by kernel_rfl) (by simp) ?_
              refine List.forall_mem_cons.2 ⟨wpOpIn_step rfl (fun K hK => ?_), ?_⟩
              · go_simp; exact hK _ _ St10.c0124
              refine List.forall_mem_cons.2 ⟨wpOpIn_step rfl (fun K hK => ?_), ?_⟩
              · go_simp; exact hK _ _ St10.c0145
              exact fun _ h => by cases h
            | c015 =>
              refine ready_all (rs := [2, 4]) (by kernel_rfl) (by simp) ?_
              refine List.forall_mem_cons.2 ⟨wpOpIn_step rfl (fun K hK => ?_), ?_⟩
              · go_simp; exact hK _ _ St10.c0125
              refine List.forall_mem_cons.2 ⟨wpOpIn_step rfl (fun K hK => ?_), ?_⟩
              · go_simp; exact hK _ _ St10.c0145
              exact fun _ h => by cases h
            | c045 =>
              refine ready_all (rs := [1, 6]) (by kernel_rfl) (by simp) ?_
              refine List.forall_mem_cons.2 ⟨wpOpIn_step rfl (fun K hK => ?_), ?_⟩
              · go_simp; exact hK _ _ St10.c0145
              refine List.forall_mem_cons.2 ⟨wpOpIn_step rfl (fun K hK => ?_), ?_⟩
              · go_simp; exact hK _ _ St10.c0456
              exact fun _ h => by cases h
            | c124 =>
              refine ready_all (rs := [0, 5]) (by kernel_rfl) (by simp) ?_
              refine List.forall_mem_cons.2 ⟨wpOpIn_step rfl (fun K hK => ?_), ?_⟩
              · go_simp; exact hK _ _ St10.c0124
              refine List.forall_mem_cons.2 ⟨wpOpIn_step rfl (fun K hK => ?_), ?_⟩
              · go_simp; exact hK _ _ St10.c1245
              exact fun _ h => by cases h
            | c125 =>
              refine ready_all (rs := [0, 4]) (by kernel_rfl) (by simp) ?_
              refine List.forall_mem_cons.2 ⟨wpOpIn_step rfl (fun K hK => ?_), ?_⟩
              · go_simp; exact hK _ _ St10.c0125
              refine List.forall_mem_cons.2 ⟨wpOpIn_step rfl (fun K hK => ?_), ?_⟩
              · go_simp; exact hK _ _ St10.c1245
              exact fun _ h => by cases h
            | c145 =>
              refine ready_all (rs := [0, 2, 6]) (by kernel_rfl) (by simp) ?_
              refine List.forall_mem_cons.2 ⟨wpOpIn_step rfl (fun K hK => ?_), ?_⟩
              · go_simp; exact hK _ _ St10.c0145
              refine List.forall_mem_cons.2 ⟨wpOpIn_step rfl (fun K hK => ?_), ?_⟩
              · go_simp; exact hK _ _ St10.c1245
              refine List.forall_mem_cons.2 ⟨wpOpIn_step rfl (fun K hK => ?_), ?_⟩
              · go_simp; exact hK _ _ St10.c1456
              exact fun _ h => by cases h
            | c456 =>
              refine ready_all (rs := [0, 1]) (by kernel_rfl) (by simp) ?_
              refine List.forall_mem_cons.2 ⟨wpOpIn_step rfl (fun K hK => ?_), ?_⟩
              · go_simp; exact hK _ _ St10.c0456
              refine List.forall_mem_cons.2 ⟨wpOpIn_step rfl (fun K hK => ?_), ?_⟩
              · go_simp; exact hK _ _ St10.c1456
              exact fun _ h => by cases h
            | c0123 =>
              refine ready_all (rs := [4, 5, 7]) (by kernel_rfl) (by simp) ?_
              refine List.forall_mem_cons.2 ⟨wpOpIn_step rfl (fun K hK => ?_), ?_⟩
              · go_simp; exact hK _ _ St10.c01234
              refine List.forall_mem_cons.2 ⟨wpOpIn_step rfl (fun K hK => ?_), ?_⟩
              · go_simp; exact hK _ _ St10.c01235
              refine List.forall_mem_cons.2 ⟨wpOpIn_step rfl (fun K hK => ?_), ?_⟩
              · go_simp; exact hK _ _ St10.c01237
              exact fun _ h => by cases h
            | c0124 =>
              refine ready_all (rs := [3, 5]) (by kernel_rfl) (by simp) ?_
              refine List.forall_mem_cons.2 ⟨wpOpIn_step rfl (fun K hK => ?_), ?_⟩
              · exact step_append_run rfl _ _ _ rfl _ rfl _ rfl happ (hK _ _ St10.c01234)
              refine List.forall_mem_cons.2 ⟨wpOpIn_step rfl (fun K hK => ?_), ?_⟩
              · go_simp; exact hK _ _ St10.c01245
              exact fun _ h => by cases h
            | c0125 =>
              refine ready_all (rs := [3, 4]) (by kernel_rfl) (by simp) ?_
              refine List.forall_mem_cons.2 ⟨wpOpIn_step rfl (fun K hK => ?_), ?_⟩
              · exact step_append_run rfl _ _ _ rfl _ rfl _ rfl happ (hK _ _ St10.c01235)
              refine List.forall_mem_cons.2 ⟨wpOpIn_step rfl (fun K hK => ?_), ?_⟩
              · go_simp; exact hK _ _ St10.c01245
              exact fun _ h => by cases h
            | c0145 =>
              refine ready_all (rs := [2, 6]) (by kernel_rfl) (by simp) ?_
              refine List.forall_mem_cons.2 ⟨wpOpIn_step rfl (fun K hK => ?_), ?_⟩
              · go_simp; exact hK _ _ St10.c01245
              refine List.forall_mem_cons.2 ⟨wpOpIn_step rfl (fun K hK => ?_), ?_⟩
              · go_simp; exact hK _ _ St10.c01456
              exact fun _ h => by cases h
            | c0456 =>
              refine ready_all (rs := [1]) (by kernel_rfl) (by simp) ?_
              refine List.forall_mem_cons.2 ⟨wpOpIn_step rfl (fun K hK => ?_), ?_⟩
              · go_simp; exact hK _ _ St10.c01456
              exact fun _ h => by cases h
            | c1245 =>
              refine ready_all (rs := [0, 6]) (by kernel_rfl) (by simp) ?_
              refine List.forall_mem_cons.2 ⟨wpOpIn_step rfl (fun K hK => ?_), ?_⟩
              · go_simp; exact hK _ _ St10.c01245
              refine List.forall_mem_cons.2 ⟨wpOpIn_step rfl (fun K hK => ?_), ?_⟩
              · go_simp; exact hK _ _ St10.c12456
              exact fun _ h => by cases h
            | c1456 =>
              refine ready_all (rs := [0, 2]) (by kernel_rfl) (by simp) ?_
              refine List.forall_mem_cons.2 ⟨wpOpIn_step rfl (fun K hK => ?_), ?_⟩
              · go_simp; exact hK _ _ St10.c01456
              refine List.forall_mem_cons.2 ⟨wpOpIn_step rfl (fun K hK => ?_), ?_⟩
              · go_simp; exact hK _ _ St10.c12456
              exact fun _ h => by cases h
            | c01234 =>
              refine ready_all (rs := [5, 7]) (by kernel_rfl) (by simp) ?_
              refine List.forall_mem_cons.2 ⟨wpOpIn_step rfl (fun K hK => ?_), ?_⟩
              · go_simp; exact hK _ _ St10.c012345
              refine List.forall_mem_cons.2 ⟨wpOpIn_step rfl (fun K hK => ?_), ?_⟩
              · go_simp; exact hK _ _ St10.c012347
              exact fun _ h => by cases h
            | c01235 =>
              refine ready_all (rs := [4, 7]) (by kernel_rfl) (by simp) ?_
              refine List.forall_mem_cons.2 ⟨wpOpIn_step rfl (fun K hK => ?_), ?_⟩
              · go_simp; exact hK _ _ St10.c012345
              refine List.forall_mem_cons.2 ⟨wpOpIn_step rfl (fun K hK => ?_), ?_⟩
              · go_simp; exact hK _ _ St10.c012357
              exact fun _ h => by cases h
            | c01237 =>
              refine ready_all (rs := [4, 5]) (by kernel_rfl) (by simp) ?_
              refine List.forall_mem_cons.2 ⟨wpOpIn_step rfl (fun K hK => ?_), ?_⟩
              · go_simp; exact hK _ _ St10.c012347
              refine List.forall_mem_cons.2 ⟨wpOpIn_step rfl (fun K hK => ?_), ?_⟩
              · go_simp; exact hK _ _ St10.c012357
              exact fun _ h => by cases h
            | c01245 =>
              refine ready_all (rs := [3, 6]) (by kernel_rfl) (by simp) ?_
              refine List.forall_mem_cons.2 ⟨wpOpIn_step rfl (fun K hK => ?_), ?_⟩
              · exact step_append_run rfl _ _ _ rfl _ rfl _ rfl happ (hK _ _ St10.c012345)
              refine List.forall_mem_cons.2 ⟨wpOpIn_step rfl (fun K hK => ?_), ?_⟩
              · go_simp; exact hK _ _ St10.c012456
              exact fun _ h => by cases h
            | c01456 =>
              refine ready_all (rs := [2]) (by kernel_rfl) (by simp) ?_
              refine List.forall_mem_cons.2 ⟨wpOpIn_step rfl (fun K hK => ?_), ?_⟩
              · go_simp; exact hK _ _ St10.c012456
              exact fun _ h => by cases h
            | c12456 =>
              refine ready_all (rs := [0]) (by kernel_rfl) (by simp) ?_
              refine List.forall_mem_cons.2 ⟨wpOpIn_step rfl (fun K hK => ?_), ?_⟩
              · go_simp; exact hK _ _ St10.c012456
              exact fun _ h => by cases h
            | c012345 =>
              refine ready_all (rs := [6, 7]) (by kernel_rfl) (by simp) ?_
              refine List.forall_mem_cons.2 ⟨wpOpIn_step rfl (fun K hK => ?_), ?_⟩
              · go_simp; exact hK _ _ St10.c0123456
              refine List.forall_mem_cons.2 ⟨wpOpIn_step rfl (fun K hK => ?_), ?_⟩
              · go_simp; exact hK _ _ St10.c0123457
              exact fun _ h => by cases h
            | c012347 =>
              refine ready_all (rs := [5]) (by kernel_rfl) (by simp) ?_
              refine List.forall_mem_cons.2 ⟨wpOpIn_step rfl (fun K hK => ?_), ?_⟩
              · go_simp; exact hK _ _ St10.c0123457
              exact fun _ h => by cases h
            | c012357 =>
              refine ready_all (rs := [4]) (by kernel_rfl) (by simp) ?_
              refine List.forall_mem_cons.2 ⟨wpOpIn_step rfl (fun K hK => ?_), ?_⟩
              · go_simp; exact hK _ _ St10.c0123457
              exact fun _ h => by cases h
            | c012456 =>
              refine ready_all (rs := [3]) (by kernel_rfl) (by simp) ?_
              refine List.forall_mem_cons.2 ⟨wpOpIn_step rfl (fun K hK => ?_), ?_⟩
              · exact step_append_run rfl _ _ _ rfl _ rfl _ rfl happ (hK _ _ St10.c0123456)
              exact fun _ h => by cases h
            | c0123456 =>
              refine ready_all (rs := [7]) (by kernel_rfl) (by simp) ?_
              refine List.forall_mem_cons.2 ⟨wpOpIn_step rfl (fun K hK => ?_), ?_⟩
              · go_simp; exact hK _ _ St10.c01234567
              exact fun _ h => by cases h
            | c0123457 =>
              refine ready_all (rs := [6]) (by kernel_rfl) (by simp) ?_
              refine List.forall_mem_cons.2 ⟨wpOpIn_step rfl (fun K hK => ?_), ?_⟩
              · go_simp; exact hK _ _ St10.c01234567
              exact fun _ h => by cases h
            | c01234567 =>
              refine ready_all (rs := [8]) (by kernel_rfl) (by simp) ?_
              refine List.forall_mem_cons.2 ⟨wpOpIn_step rfl (fun K hK => ?_), ?_⟩
              · go_simp; exact hK _ _ St10.c012345678
              exact fun _ h => by cases h
        · gi_wp2_with fail
          refine ⟨trivial, (CallsIn.inRound l (callsIn_wide.2 HP.out)).mono ?_⟩
          rintro en W1 ⟨he, hx⟩
          obtain rfl := HE.out _ he
          clear he
          have bO := show Boxed W1 _ _ _ from (hx.block _ h3.lt).trans h3
          have bF := show Boxed W1 _ _ _ from (hx.block _ h5.lt).trans h5
          have b0 := show Boxed W1 _ _ _ from (hx.block _ h6.lt).trans h6
          have b1 := show Boxed W1 _ _ _ from (hx.block _ h7.lt).trans h7
          have bS := show Boxed W1 _ _ _ from (hx.block _ h8.lt).trans h8
          have bS1 := show Boxed W1 _ _ _ from (hx.block _ h8a.lt).trans h8a
          have bS2 := show Boxed W1 _ _ _ from (hx.block _ h8b.lt).trans h8b
          have hrow := ownsRow_kept h4 hx.block
          have hB1 := h9.trans (hx.mono h9.size)
          have hKF := keepsFrom_ext (B := W0.heap.size) hx
          gi_wp2_with fail
          have hB2 : Below w.heap.size w ((W1.alloc (.cells #[.int .i64 m] 2)).drew) := ((hB1.alloc hB1.size _).drew)
          have hrow2 : ((W1.alloc (.cells #[.int .i64 m] 2)).drew).ownsRow w.heap.size 2 1 v out.length (cI64s out) := (hrow.alloc _).drew
          obtain ⟨v1, w2, happ, hown2, hgrow2, _⟩ := run_append_own (P := Tryz.prog) ((W1.alloc (.cells #[.int .i64 m] 2)).drew) w.heap.size 33 33 2 i0 (.int .i64 0) 1 8 Tryz.underlying33 hi hz0 hz1 hz2 rfl (by decide) v out.length (cI64s out) hrow2 ⟨W1.heap.size, 0, none⟩ 1 1 [.int .i64 m] rfl (cell_one_new W1 _ _) (fun x hx => by simp at hx; subst hx; rfl) (by unfold maxLen; omega) (by omega) hB2.size
          obtain ⟨g, cap, rfl⟩ := ownsRow_succ hown2
          have nO := bO.not_row (by decide) hrow
          have nF := bF.not_row (by decide) hrow
          have n0 := b0.not_row (by decide) hrow
          have n1 := b1.not_row (by decide) hrow
          have nS := bS.not_row (by decide) hrow
          have dO := show Boxed ((W1.alloc (.cells #[.int .i64 m] 2)).drew) _ _ _ from bO.alloc _
          have dF := show Boxed ((W1.alloc (.cells #[.int .i64 m] 2)).drew) _ _ _ from bF.alloc _
          have d0 := show Boxed ((W1.alloc (.cells #[.int .i64 m] 2)).drew) _ _ _ from b0.alloc _
          have d1 := show Boxed ((W1.alloc (.cells #[.int .i64 m] 2)).drew) _ _ _ from b1.alloc _
          have dS := show Boxed ((W1.alloc (.cells #[.int .i64 m] 2)).drew) _ _ _ from bS.alloc _
          have eO := dO.kept hgrow2 nO
          have eF := dF.kept hgrow2 nF
          have e0' := d0.kept hgrow2 n0
          have e1' := d1.kept hgrow2 n1
          have eS := dS.kept hgrow2 nS
          have eS1 := (show Boxed ((W1.alloc (.cells #[.int .i64 m] 2)).drew) _ _ _ from bS1.alloc _).kept hgrow2 (bS1.not_row (by decide) hrow)
          have eS2 := (show Boxed ((W1.alloc (.cells #[.int .i64 m] 2)).drew) _ _ _ from bS2.alloc _).kept hgrow2 (bS2.not_row (by decide) hrow)
          have HBX := Lib.hid (And.intro eS (And.intro eS1 (And.intro eS2 (And.intro e0' e1'))))
          have hKO := ((hKF.trans ((KeepsOthers.alloc W1 (.cells #[.int .i64 m] 2)).from _)).trans ((KeepsOthers.drew _).from _)).trans ((keeps_own hrow2 hgrow2).from _)
          have hBW := (((hx.mono h9.size).alloc hB1.size (.cells #[.int .i64 m] 2)).drew).grown hgrow2 hB2.size (fun k e => (hrow2.lt k e).1)
          have hB3 := hB2.grown hgrow2 hB2.size (fun k e => (hrow2.lt k e).1)
          have kO : Boxed W1.drew _ _ _ := bO
          have kF : Boxed W1.drew _ _ _ := bF
          have cO0 := kO.cell
          have cF0 := kF.cell
          have cO1 := dO.cell
          have cF1 := dF.cell
          have cO2 := eO.cell
          have cF2 := eF.cell
          have fO2 := eO.frozen
          have gF := box_set eF (B := w.heap.size + 1 + 1) (by omega) (.slice (some ⟨g, 0, none⟩) (out.length + 1) cap)
          have cF3 := gF.cell
          have fF3 := gF.frozen
          refine wpIn_region_any (by kernel_rfl) ?_
          refine wpAnyIn_inv (St10 _ _ _ _ _ _ _ _ _ _ _ _ _ _ _ _ _ _ _ _ _ _ _ _ _ _ _ _ _ (w.heap.size + 1 + 1) (w.heap.size + 1 + 1 + 1) v (.int .i64 m) (.slice (some ⟨W1.heap.size, 0, none⟩) 1 1) (.slice (some ⟨g, 0, none⟩) (out.length + 1) cap) (.int .i64 4) (.int .i64 0) (.int .i64 4) W1.drew ((W1.alloc (.cells #[.int .i64 m] 2)).drew) w2 (w2.setCell ⟨w.heap.size + 1 + 1, 0, none⟩ (.slice (some ⟨g, 0, none⟩) (out.length + 1) cap)) ((w2.setCell ⟨w.heap.size + 1 + 1, 0, none⟩ (.slice (some ⟨g, 0, none⟩) (out.length + 1) cap)).setCell ⟨w.heap.size + 1 + 1 + 1, 0, none⟩ (.int .i64 4))) ?h0 ?hs 9 _ _ _ St10.c
          case h0 =>
            intro l a w h
            cases h
            refine ⟨by kernel_rfl, ?_⟩
            obtain ⟨eS, eS1, eS2, e0', e1'⟩ := HBX.out
            have z4 := box_set (box_set eS (B := w.heap.size + 1 + 1) (by omega) (.slice (some ⟨g, 0, none⟩) (out.length + 1) cap)) (B := w.heap.size + 1 + 1 + 1) (by omega) (.int .i64 4)
            have z5 := box_set (box_set eS1 (B := w.heap.size + 1 + 1) (by omega) (.slice (some ⟨g, 0, none⟩) (out.length + 1) cap)) (B := w.heap.size + 1 + 1 + 1) (by omega) (.int .i64 4)
            have z6 := box_set (box_set eS2 (B := w.heap.size + 1 + 1) (by omega) (.slice (some ⟨g, 0, none⟩) (out.length + 1) cap)) (B := w.heap.size + 1 + 1 + 1) (by omega) (.int .i64 4)
            refine ⟨(hKO.trans ((KeepsOthers.setCell _ _ _).from _)).trans ((KeepsOthers.setCell _ _ _).from _), ⟨?_, fun k hk1 hk2 => ?_⟩, out ++ [m], _, _, _, HC.out, by simp [HL.out], box_set (eO.set _) (by omega) _, ?_, ?_, box_set (box_set e0' (by omega) _) (by omega) _, box_set (box_set e1' (by omega) _) (by omega) _, z4, z5, z6, ?_⟩
            · exact (hBW.setCell (p := ⟨w.heap.size + 1 + 1, 0, none⟩) (by show w.heap.size ≤ w.heap.size + 1 + 1; omega) _).setCell (p := ⟨w.heap.size + 1 + 1 + 1, 0, none⟩) (by show w.heap.size ≤ w.heap.size + 1 + 1 + 1; omega) _
            · rcases (show k = w.heap.size + 1 + 1 + 1 + 1 ∨ k = w.heap.size + 1 + 1 + 1 + 1 + 1 ∨ k = w.heap.size + 1 + 1 + 1 + 1 + 2 by omega) with rfl | rfl | rfl
              · exact z4.trans h8.symm
              · exact z5.trans h8a.symm
              · exact z6.trans h8b.symm
            · have := row_set (row_set hown2 eO (by decide) (.slice (some ⟨g, 0, none⟩) (out.length + 1) cap)) gF (by decide) (.int .i64 4)
              simpa [cI64s] using this
            · rw [HM.out]
              exact gF.set _
            · exact (hB3.setCell (p := ⟨w.heap.size + 1 + 1, 0, none⟩) (by show w.heap.size ≤ w.heap.size + 1 + 1; omega) _).setCell (p := ⟨w.heap.size + 1 + 1 + 1, 0, none⟩) (by show w.heap.size ≤ w.heap.size + 1 + 1 + 1; omega) _
          case hs =>
            intro k l a w h
            cases h with
            | c =>
              refine ready_all (rs := [0, 1, 4, 5]) (by kernel_rfl) (by simp) ?_
              refine List.forall_mem_cons.2 ⟨wpOpIn_step rfl (fun K hK => ?_), ?_⟩
              · go_simp; exact hK _ _ St10.c0
              refine List.forall_mem_cons.2 ⟨wpOpIn_step rfl (fun K hK => ?_), ?_⟩
              · go_simp; exact hK _ _ St10.c1
              refine List.forall_mem_cons.2 ⟨wpOpIn_step rfl (fun K hK => ?_), ?_⟩
              · go_simp; exact hK _ _ St10.c4
              refine List.forall_mem_cons.2 ⟨wpOpIn_step rfl (fun K hK => ?_), ?_⟩
              · go_simp; exact hK _ _ St10.c5
              exact fun _ h => by cases h
            | c0 =>
              refine ready_all (rs := [1, 4, 5]) (by kernel_rfl) (by simp) ?_
              refine List.forall_mem_cons.2 ⟨wpOpIn_step rfl (fun K hK => ?_), ?_⟩
              · go_simp; exact hK _ _ St10.c01
              refine List.forall_mem_cons.2 ⟨wpOpIn_step rfl (fun K hK => ?_), ?_⟩
              · go_simp; exact hK _ _ St10.c04
              refine List.forall_mem_cons.2 ⟨wpOpIn_step rfl (fun K hK => ?_), ?_⟩
              · go_simp; exact hK _ _ St10.c05
              exact fun _ h => by cases h
            | c1 =>
              refine ready_all (rs := [0, 2, 4, 5]) (by kernel_rfl) (by simp) ?_
              refine List.forall_mem_cons.2 ⟨wpOpIn_step rfl (fun K hK => ?_), ?_⟩
              · go_simp; exact hK _ _ St10.c01
              refine List.forall_mem_cons.2 ⟨wpOpIn_step rfl (fun K hK => ?_), ?_⟩
              · go_simp; exact hK _ _ St10.c12
              refine List.forall_mem_cons.2 ⟨wpOpIn_step rfl (fun K hK => ?_), ?_⟩
              · go_simp; exact hK _ _ St10.c14
              refine List.forall_mem_cons.2 ⟨wpOpIn_step rfl (fun K hK => ?_), ?_⟩
              · go_simp; exact hK _ _ St10.c15
              exact fun _ h => by cases h
            | c4 =>
              refine ready_all (rs := [0, 1, 5]) (by kernel_rfl) (by simp) ?_
              refine List.forall_mem_cons.2 ⟨wpOpIn_step rfl (fun K hK => ?_), ?_⟩
              · go_simp; exact hK _ _ St10.c04
              refine List.forall_mem_cons.2 ⟨wpOpIn_step rfl (fun K hK => ?_), ?_⟩
              · go_simp; exact hK _ _ St10.c14
              refine List.forall_mem_cons.2 ⟨wpOpIn_step rfl (fun K hK => ?_), ?_⟩
              · go_simp; exact hK _ _ St10.c45
              exact fun _ h => by cases h
            | c5 =>
              refine ready_all (rs := [0, 1, 4]) (by kernel_rfl) (by simp) ?_
              refine List.forall_mem_cons.2 ⟨wpOpIn_step rfl (fun K hK => ?_), ?_⟩
              · go_simp; exact hK _ _ St10.c05
              refine List.forall_mem_cons.2 ⟨wpOpIn_step rfl (fun K hK => ?_), ?_⟩
              · go_simp; exact hK _ _ St10.c15
              refine List.forall_mem_cons.2 ⟨wpOpIn_step rfl (fun K hK => ?_), ?_⟩
              · go_simp; exact hK _ _ St10.c45
              exact fun _ h => by cases h
            | c01 =>
              refine ready_all (rs := [2, 4, 5]) (by kernel_rfl) (by simp) ?_
              refine List.forall_mem_cons.2 ⟨wpOpIn_step rfl (fun K hK => ?_), ?_⟩
              · go_simp; exact hK _ _ St10.c012
              refine List.forall_mem_cons.2 ⟨wpOpIn_step rfl (fun K hK => ?_), ?_⟩
              · go_simp; exact hK _ _ St10.c014
              refine List.forall_mem_cons.2 ⟨wpOpIn_step rfl (fun K hK => ?_), ?_⟩
              · go_simp; exact hK _ _ St10.c015
              exact fun _ h => by cases h
            | c04 =>
              refine ready_all (rs := [1, 5]) (by kernel_rfl) (by simp) ?_
              refine List.forall_mem_cons.2 ⟨wpOpIn_step rfl (fun K hK => ?_), ?_⟩
              · go_simp; exact hK _ _ St10.c014
              refine List.forall_mem_cons.2 ⟨wpOpIn_step rfl (fun K hK => ?_), ?_⟩
              · go_simp; exact hK _ _ St10.c045
              exact fun _ h => by cases h
            | c05 =>
              refine ready_all (rs := [1, 4]) (by kernel_rfl) (by simp) ?_
              refine List.forall_mem_cons.2 ⟨wpOpIn_step rfl (fun K hK => ?_), ?_⟩
              · go_simp; exact hK _ _ St10.c015
              refine List.forall_mem_cons.2 ⟨wpOpIn_step rfl (fun K hK => ?_), ?_⟩
              · go_simp; exact hK _ _ St10.c045
              exact fun _ h => by cases h
            | c12 =>
              refine ready_all (rs := [0, 4, 5]) (by kernel_rfl) (by simp) ?_
              refine List.forall_mem_cons.2 ⟨wpOpIn_step rfl (fun K hK => ?_), ?_⟩
              · go_simp; exact hK _ _ St10.c012
              refine List.forall_mem_cons.2 ⟨wpOpIn_step rfl (fun K hK => ?_), ?_⟩
              · go_simp; exact hK _ _ St10.c124
              refine List.forall_mem_cons.2 ⟨wpOpIn_step rfl (fun K hK => ?_), ?_⟩
              · go_simp; exact hK _ _ St10.c125
              exact fun _ h => by cases h
            | c14 =>
              refine ready_all (rs := [0, 2, 5]) (by kernel_rfl) (by simp) ?_
              refine List.forall_mem_cons.2 ⟨wpOpIn_step rfl (fun K hK => ?_), ?_⟩
              · go_simp; exact hK _ _ St10.c014
              refine List.forall_mem_cons.2 ⟨wpOpIn_step rfl (fun K hK => ?_), ?_⟩
              · go_simp; exact hK _ _ St10.c124
              refine List.forall_mem_cons.2 ⟨wpOpIn_step rfl (fun K hK => ?_), ?_⟩
              · go_simp; exact hK _ _ St10.c145
              exact fun _ h => by cases h
            | c15 =>
              refine ready_all (rs := [0, 2, 4]) (by kernel_rfl) (by simp) ?_
              refine List.forall_mem_cons.2 ⟨wpOpIn_step rfl (fun K hK => ?_), ?_⟩
              · go_simp; exact hK _ _ St10.c015
              refine List.forall_mem_cons.2 ⟨wpOpIn_step rfl (fun K hK => ?_), ?_⟩
              · go_simp; exact hK _ _ St10.c125
              refine List.forall_mem_cons.2 ⟨wpOpIn_step rfl (fun K hK => ?_), ?_⟩
              · go_simp; exact hK _ _ St10.c145
              exact fun _ h => by cases h
            | c45 =>
              refine ready_all (rs := [0, 1, 6]) (by kernel_rfl) (by simp) ?_
              refine List.forall_mem_cons.2 ⟨wpOpIn_step rfl (fun K hK => ?_), ?_⟩
              · go_simp; exact hK _ _ St10.c045
              refine List.forall_mem_cons.2 ⟨wpOpIn_step rfl (fun K hK => ?_), ?_⟩
              · go_simp; exact hK _ _ St10.c145
              refine List.forall_mem_cons.2 ⟨wpOpIn_step rfl (fun K hK => ?_), ?_⟩
              · go_simp; exact hK _ _ St10.c456
              exact fun _ h => by cases h
            | c012 =>
              refine ready_all (rs := [3, 4, 5]) (by kernel_rfl) (by simp) ?_
              refine List.forall_mem_cons.2 ⟨wpOpIn_step rfl (fun K hK => ?_), ?_⟩
              · exact step_append_run rfl _ _ _ rfl _ rfl _ rfl happ (hK _ _ St10.c0123)
              refine List.forall_mem_cons.2 ⟨wpOpIn_step rfl (fun K hK => ?_), ?_⟩
              · go_simp; exact hK _ _ St10.c0124
              refine List.forall_mem_cons.2 ⟨wpOpIn_step rfl (fun K hK => ?_), ?_⟩
              · go_simp; exact hK _ _ St10.c0125
              exact fun _ h => by cases h
            | c014 =>
              refine ready_all (rs := [2, 5]) (by kernel_rfl) (by simp) ?_
              refine List.forall_mem_cons.2 ⟨wpOpIn_step rfl (fun K hK => ?_), ?_⟩
              · go_simp; exact hK _ _ St10.c0124
              refine List.forall_mem_cons.2 ⟨wpOpIn_step rfl (fun K hK => ?_), ?_⟩
              · go_simp; exact hK _ _ St10.c0145
              exact fun _ h => by cases h
            | c015 =>
              refine ready_all (rs := [2, 4]) (by kernel_rfl) (by simp) ?_
              refine List.forall_mem_cons.2 ⟨wpOpIn_step rfl (fun K hK => ?_), ?_⟩
              · go_simp; exact hK _ _ St10.c0125
              refine List.forall_mem_cons.2 ⟨wpOpIn_step rfl (fun K hK => ?_), ?_⟩
              · go_simp; exact hK _ _ St10.c0145
              exact fun _ h => by cases h
            | c045 =>
              refine ready_all (rs := [1, 6]) (by kernel_rfl) (by simp) ?_
              refine List.forall_mem_cons.2 ⟨wpOpIn_step rfl (fun K hK => ?_), ?_⟩
              · go_simp; exact hK _ _ St10.c0145
              refine List.forall_mem_cons.2 ⟨wpOpIn_step rfl (fun K hK => ?_), ?_⟩
              · go_simp; exact hK _ _ St10.c0456
              exact fun _ h => by cases h
            | c124 =>
              refine ready_all (rs := [0, 5]) (by kernel_rfl) (by simp) ?_
              refine List.forall_mem_cons.2 ⟨wpOpIn_step rfl (fun K hK => ?_), ?_⟩
              · go_simp; exact hK _ _ St10.c0124
              refine List.forall_mem_cons.2 ⟨wpOpIn_step rfl (fun K hK => ?_), ?_⟩
              · go_simp; exact hK _ _ St10.c1245
              exact fun _ h => by cases h
            | c125 =>
              refine ready_all (rs := [0, 4]) (by kernel_rfl) (by simp) ?_
              refine List.forall_mem_cons.2 ⟨wpOpIn_step rfl (fun K hK => ?_), ?_⟩
              · go_simp; exact hK _ _ St10.c0125
              refine List.forall_mem_cons.2 ⟨wpOpIn_step rfl (fun K hK => ?_), ?_⟩
              · go_simp; exact hK _ _ St10.c1245
              exact fun _ h => by cases h
            | c145 =>
              refine ready_all (rs := [0, 2, 6]) (by kernel_rfl) (by simp) ?_
              refine List.forall_mem_cons.2 ⟨wpOpIn_step rfl (fun K hK => ?_), ?_⟩
              · go_simp; exact hK _ _ St10.c0145
              refine List.forall_mem_cons.2 ⟨wpOpIn_step rfl (fun K hK => ?_), ?_⟩
              · go_simp; exact hK _ _ St10.c1245
              refine List.forall_mem_cons.2 ⟨wpOpIn_step rfl (fun K hK => ?_), ?_⟩
              · go_simp; exact hK _ _ St10.c1456
              exact fun _ h => by cases h
            | c456 =>
              refine ready_all (rs := [0, 1]) (by kernel_rfl) (by simp) ?_
              refine List.forall_mem_cons.2 ⟨wpOpIn_step rfl (fun K hK => ?_), ?_⟩
              · go_simp; exact hK _ _ St10.c0456
              refine List.forall_mem_cons.2 ⟨wpOpIn_step rfl (fun K hK => ?_), ?_⟩
              · go_simp; exact hK _ _ St10.c1456
              exact fun _ h => by cases h
            | c0123 =>
              refine ready_all (rs := [4, 5, 7]) (by kernel_rfl) (by simp) ?_
              refine List.forall_mem_cons.2 ⟨wpOpIn_step rfl (fun K hK => ?_), ?_⟩
              · go_simp; exact hK _ _ St10.c01234
              refine List.forall_mem_cons.2 ⟨wpOpIn_step rfl (fun K hK => ?_), ?_⟩
              · go_simp; exact hK _ _ St10.c01235
              refine List.forall_mem_cons.2 ⟨wpOpIn_step rfl (fun K hK => ?_), ?_⟩
              · go_simp; exact hK _ _ St10.c01237
              exact fun _ h => by cases h
            | c0124 =>
              refine ready_all (rs := [3, 5]) (by kernel_rfl) (by simp) ?_
              refine List.forall_mem_cons.2 ⟨wpOpIn_step rfl (fun K hK => ?_), ?_⟩
              · exact step_append_run rfl _ _ _ rfl _ rfl _ rfl happ (hK _ _ St10.c01234)
              refine List.forall_mem_cons.2 ⟨wpOpIn_step rfl (fun K hK => ?_), ?_⟩
              · go_simp; exact hK _ _ St10.c01245
              exact fun _ h => by cases h
            | c0125 =>
              refine ready_all (rs := [3, 4]) (by kernel_rfl) (by simp) ?_
              refine List.forall_mem_cons.2 ⟨wpOpIn_step rfl (fun K hK => ?_), ?_⟩
              · exact step_append_run rfl _ _ _ rfl _ rfl _ rfl happ (hK _ _ St10.c01235)
              refine List.forall_mem_cons.2 ⟨wpOpIn_step rfl (fun K hK => ?_), ?_⟩
              · go_simp; exact hK _ _ St10.c01245
              exact fun _ h => by cases h
            | c0145 =>
              refine ready_all (rs := [2, 6]) (by kernel_rfl) (by simp) ?_
              refine List.forall_mem_cons.2 ⟨wpOpIn_step rfl (fun K hK => ?_), ?_⟩
              · go_simp; exact hK _ _ St10.c01245
              refine List.forall_mem_cons.2 ⟨wpOpIn_step rfl (fun K hK => ?_), ?_⟩
              · go_simp; exact hK _ _ St10.c01456
              exact fun _ h => by cases h
            | c0456 =>
              refine ready_all (rs := [1]) (by kernel_rfl) (by simp) ?_
              refine List.forall_mem_cons.2 ⟨wpOpIn_step rfl (fun K hK => ?_), ?_⟩
              · go_simp; exact hK _ _ St10.c01456
              exact fun _ h => by cases h
            | c1245 =>
              refine ready_all (rs := [0, 6]) (by kernel_rfl) (by simp) ?_
              refine List.forall_mem_cons.2 ⟨wpOpIn_step rfl (fun K hK => ?_), ?_⟩
              · go_simp; exact hK _ _ St10.c01245
              refine List.forall_mem_cons.2 ⟨wpOpIn_step rfl (fun K hK => ?_), ?_⟩
              · go_simp; exact hK _ _ St10.c12456
              exact fun _ h => by cases h
            | c1456 =>
              refine ready_all (rs := [0, 2]) (by kernel_rfl) (by simp) ?_
              refine List.forall_mem_cons.2 ⟨wpOpIn_step rfl (fun K hK => ?_), ?_⟩
              · go_simp; exact hK _ _ St10.c01456
              refine List.forall_mem_cons.2 ⟨wpOpIn_step rfl (fun K hK => ?_), ?_⟩
              · go_simp; exact hK _ _ St10.c12456
              exact fun _ h => by cases h
            | c01234 =>
              refine ready_all (rs := [5, 7]) (by kernel_rfl) (by simp) ?_
              refine List.forall_mem_cons.2 ⟨wpOpIn_step rfl (fun K hK => ?_), ?_⟩
              · go_simp; exact hK _ _ St10.c012345
              refine List.forall_mem_cons.2 ⟨wpOpIn_step rfl (fun K hK => ?_), ?_⟩
              · go_simp; exact hK _ _ St10.c012347
              exact fun _ h => by cases h
            | c01235 =>
              refine ready_all (rs := [4, 7]) (by kernel_rfl) (by simp) ?_
              refine List.forall_mem_cons.2 ⟨wpOpIn_step rfl (fun K hK => ?_), ?_⟩
              · go_simp; exact hK _ _ St10.c012345
              refine List.forall_mem_cons.2 ⟨wpOpIn_step rfl (fun K hK => ?_), ?_⟩
              · go_simp; exact hK _ _ St10.c012357
              exact fun _ h => by cases h
            | c01237 =>
              refine ready_all (rs := [4, 5]) (by kernel_rfl) (by simp) ?_
              refine List.forall_mem_cons.2 ⟨wpOpIn_step rfl (fun K hK => ?_), ?_⟩
              · go_simp; exact hK _ _ St10.c012347
              refine List.forall_mem_cons.2 ⟨wpOpIn_step rfl (fun K hK => ?_), ?_⟩
              · go_simp; exact hK _ _ St10.c012357
              exact fun _ h => by cases h
            | c01245 =>
              refine ready_all (rs := [3, 6]) (by kernel_rfl) (by simp) ?_
              refine List.forall_mem_cons.2 ⟨wpOpIn_step rfl (fun K hK => ?_), ?_⟩
              · exact step_append_run rfl _ _ _ rfl _ rfl _ rfl happ (hK _ _ St10.c012345)
              refine List.forall_mem_cons.2 ⟨wpOpIn_step rfl (fun K hK => ?_), ?_⟩
              · go_simp; exact hK _ _ St10.c012456
              exact fun _ h => by cases h
            | c01456 =>
              refine ready_all (rs := [2]) (by kernel_rfl) (by simp) ?_
              refine List.forall_mem_cons.2 ⟨wpOpIn_step rfl (fun K hK => ?_), ?_⟩
              · go_simp; exact hK _ _ St10.c012456
              exact fun _ h => by cases h
            | c12456 =>
              refine ready_all (rs := [0]) (by kernel_rfl) (by simp) ?_
              refine List.forall_mem_cons.2 ⟨wpOpIn_step rfl (fun K hK => ?_), ?_⟩
              · go_simp; exact hK _ _ St10.c012456
              exact fun _ h => by cases h
            | c012345 =>
              refine ready_all (rs := [6, 7]) (by kernel_rfl) (by simp) ?_
              refine List.forall_mem_cons.2 ⟨wpOpIn_step rfl (fun K hK => ?_), ?_⟩
              · go_simp; exact hK _ _ St10.c0123456
              refine List.forall_mem_cons.2 ⟨wpOpIn_step rfl (fun K hK => ?_), ?_⟩
              · go_simp; exact hK _ _ St10.c0123457
              exact fun _ h => by cases h
            | c012347 =>
              refine ready_all (rs := [5]) (by kernel_rfl) (by simp) ?_
              refine List.forall_mem_cons.2 ⟨wpOpIn_step rfl (fun K hK => ?_), ?_⟩
              · go_simp; exact hK _ _ St10.c0123457
              exact fun _ h => by cases h
            | c012357 =>
              refine ready_all (rs := [4]) (by kernel_rfl) (by simp) ?_
              refine List.forall_mem_cons.2 ⟨wpOpIn_step rfl (fun K hK => ?_), ?_⟩
              · go_simp; exact hK _ _ St10.c0123457
              exact fun _ h => by cases h
            | c012456 =>
              refine ready_all (rs := [3]) (by kernel_rfl) (by simp) ?_
              refine List.forall_mem_cons.2 ⟨wpOpIn_step rfl (fun K hK => ?_), ?_⟩
              · exact step_append_run rfl _ _ _ rfl _ rfl _ rfl happ (hK _ _ St10.c0123456)
              exact fun _ h => by cases h
            | c0123456 =>
              refine ready_all (rs := [7]) (by kernel_rfl) (by simp) ?_
              refine List.forall_mem_cons.2 ⟨wpOpIn_step rfl (fun K hK => ?_), ?_⟩
              · go_simp; exact hK _ _ St10.c01234567
              exact fun _ h => by cases h
            | c0123457 =>
              refine ready_all (rs := [6]) (by kernel_rfl) (by simp) ?_
              refine List.forall_mem_cons.2 ⟨wpOpIn_step rfl (fun K hK => ?_), ?_⟩
              · go_simp; exact hK _ _ St10.c01234567
              exact fun _ h => by cases h
            | c01234567 =>
              refine ready_all (rs := [8]) (by kernel_rfl) (by simp) ?_
              refine List.forall_mem_cons.2 ⟨wpOpIn_step rfl (fun K hK => ?_), ?_⟩
              · go_simp; exact hK _ _ St10.c012345678
              exact fun _ h => by cases h
        · gi_wp2_with fail
          refine ⟨trivial, (CallsIn.inRound l (callsIn_wide.2 HP.out)).mono ?_⟩
          rintro en W1 ⟨he, hx⟩
          obtain rfl := HE.out _ he
          clear he
          have bO := show Boxed W1 _ _ _ from (hx.block _ h3.lt).trans h3
          have bF := show Boxed W1 _ _ _ from (hx.block _ h5.lt).trans h5
          have b0 := show Boxed W1 _ _ _ from (hx.block _ h6.lt).trans h6
          have b1 := show Boxed W1 _ _ _ from (hx.block _ h7.lt).trans h7
          have bS := show Boxed W1 _ _ _ from (hx.block _ h8.lt).trans h8
          have bS1 := show Boxed W1 _ _ _ from (hx.block _ h8a.lt).trans h8a
          have bS2 := show Boxed W1 _ _ _ from (hx.block _ h8b.lt).trans h8b
          have hrow := ownsRow_kept h4 hx.block
          have hB1 := h9.trans (hx.mono h9.size)
          have hKF := keepsFrom_ext (B := W0.heap.size) hx
          gi_wp2_with fail
          have hB2 : Below w.heap.size w ((W1.alloc (.cells #[.int .i64 m] 2)).drew) := ((hB1.alloc hB1.size _).drew)
          have hrow2 : ((W1.alloc (.cells #[.int .i64 m] 2)).drew).ownsRow w.heap.size 2 1 v out.length (cI64s out) := (hrow.alloc _).drew
          obtain ⟨v1, w2, happ, hown2, hgrow2, _⟩ := run_append_own (P := Tryz.prog) ((W1.alloc (.cells #[.int .i64 m] 2)).drew) w.heap.size 33 33 2 i0 (.int .i64 0) 1 8 Tryz.underlying33 hi hz0 hz1 hz2 rfl (by decide) v out.length (cI64s out) hrow2 ⟨W1.heap.size, 0, none⟩ 1 1 [.int .i64 m] rfl (cell_one_new W1 _ _) (fun x hx => by simp at hx; subst hx; rfl) (by unfold maxLen; omega) (by omega) hB2.size
          obtain ⟨g, cap, rfl⟩ := ownsRow_succ hown2
          have nO := bO.not_row (by decide) hrow
          have nF := bF.not_row (by decide) hrow
          have n0 := b0.not_row (by decide) hrow
          have n1 := b1.not_row (by decide) hrow
          have nS := bS.not_row (by decide) hrow
          have dO := show Boxed ((W1.alloc (.cells #[.int .i64 m] 2)).drew) _ _ _ from bO.alloc _
          have dF := show Boxed ((W1.alloc (.cells #[.int .i64 m] 2)).drew) _ _ _ from bF.alloc _
          have d0 := show Boxed ((W1.alloc (.cells #[.int .i64 m] 2)).drew) _ _ _ from b0.alloc _
          have d1 := show Boxed ((W1.alloc (.cells #[.int .i64 m] 2)).drew) _ _ _ from b1.alloc _
          have dS := show Boxed ((W1.alloc (.cells #[.int .i64 m] 2)).drew) _ _ _ from bS.alloc _
          have eO := dO.kept hgrow2 nO
          have eF := dF.kept hgrow2 nF
          have e0' := d0.kept hgrow2 n0
          have e1' := d1.kept hgrow2 n1
          have eS := dS.kept hgrow2 nS
          have eS1 := (show Boxed ((W1.alloc (.cells #[.int .i64 m] 2)).drew) _ _ _ from bS1.alloc _).kept hgrow2 (bS1.not_row (by decide) hrow)
          have eS2 := (show Boxed ((W1.alloc (.cells #[.int .i64 m] 2)).drew) _ _ _ from bS2.alloc _).kept hgrow2 (bS2.not_row (by decide) hrow)
          have HBX := Lib.hid (And.intro eS (And.intro eS1 (And.intro eS2 (And.intro e0' e1'))))
          have hKO := ((hKF.trans ((KeepsOthers.alloc W1 (.cells #[.int .i64 m] 2)).from _)).trans ((KeepsOthers.drew _).from _)).trans ((keeps_own hrow2 hgrow2).from _)
          have hBW := (((hx.mono h9.size).alloc hB1.size (.cells #[.int .i64 m] 2)).drew).grown hgrow2 hB2.size (fun k e => (hrow2.lt k e).1)
          have hB3 := hB2.grown hgrow2 hB2.size (fun k e => (hrow2.lt k e).1)
          have kO : Boxed W1.drew _ _ _ := bO
          have kF : Boxed W1.drew _ _ _ := bF
          have cO0 := kO.cell
          have cF0 := kF.cell
          have cO1 := dO.cell
          have cF1 := dF.cell
          have cO2 := eO.cell
          have cF2 := eF.cell
          have fO2 := eO.frozen
          have gF := box_set eF (B := w.heap.size + 1 + 1) (by omega) (.slice (some ⟨g, 0, none⟩) (out.length + 1) cap)
          have cF3 := gF.cell
          have fF3 := gF.frozen
          refine wpIn_region_any (by kernel_rfl) ?_
          refine wpAnyIn_inv (St10 _ _ _ _ _ _ _ _ _ _ _ _ _ _ _ _ _ _ _ _ _ _ _ _ _ _ _ _ _ (w.heap.size + 1 + 1) (w.heap.size + 1 + 1 + 1) v (.int .i64 m) (.slice (some ⟨W1.heap.size, 0, none⟩) 1 1) (.slice (some ⟨g, 0, none⟩) (out.length + 1) cap) (.int .i64 0) (.int .i64 4) (.int .i64 4) W1.drew ((W1.alloc (.cells #[.int .i64 m] 2)).drew) w2 (w2.setCell ⟨w.heap.size + 1 + 1, 0, none⟩ (.slice (some ⟨g, 0, none⟩) (out.length + 1) cap)) ((w2.setCell ⟨w.heap.size + 1 + 1, 0, none⟩ (.slice (some ⟨g, 0, none⟩) (out.length + 1) cap)).setCell ⟨w.heap.size + 1 + 1 + 1, 0, none⟩ (.int .i64 4))) ?h0 ?hs 9 _ _ _ St10.c
          case h0 =>
            intro l a w h
            cases h
            refine ⟨by kernel_rfl, ?_⟩
            obtain ⟨eS, eS1, eS2, e0', e1'⟩ := HBX.out
            have z4 := box_set (box_set eS (B := w.heap.size + 1 + 1) (by omega) (.slice (some ⟨g, 0, none⟩) (out.length + 1) cap)) (B := w.heap.size + 1 + 1 + 1) (by omega) (.int .i64 4)
            have z5 := box_set (box_set eS1 (B := w.heap.size + 1 + 1) (by omega) (.slice (some ⟨g, 0, none⟩) (out.length + 1) cap)) (B := w.heap.size + 1 + 1 + 1) (by omega) (.int .i64 4)
            have z6 := box_set (box_set eS2 (B := w.heap.size + 1 + 1) (by omega) (.slice (some ⟨g, 0, none⟩) (out.length + 1) cap)) (B := w.heap.size + 1 + 1 + 1) (by omega) (.int .i64 4)
            refine ⟨(hKO.trans ((KeepsOthers.setCell _ _ _).from _)).trans ((KeepsOthers.setCell _ _ _).from _), ⟨?_, fun k hk1 hk2 => ?_⟩, out ++ [m], _, _, _, HC.out, by simp [HL.out], box_set (eO.set _) (by omega) _, ?_, ?_, box_set (box_set e0' (by omega) _) (by omega) _, box_set (box_set e1' (by omega) _) (by omega) _, z4, z5, z6, ?_⟩
            · exact (hBW.setCell (p := ⟨w.heap.size + 1 + 1, 0, none⟩) (by show w.heap.size ≤ w.heap.size + 1 + 1; omega) _).setCell (p := ⟨w.heap.size + 1 + 1 + 1, 0, none⟩) (by show w.heap.size ≤ w.heap.size + 1 + 1 + 1; omega) _
            · rcases (show k = w.heap.size + 1 + 1 + 1 + 1 ∨ k = w.heap.size + 1 + 1 + 1 + 1 + 1 ∨ k = w.heap.size + 1 + 1 + 1 + 1 + 2 by omega) with rfl | rfl | rfl
              · exact z4.trans h8.symm
              · exact z5.trans h8a.symm
              · exact z6.trans h8b.symm
            · have := row_set (row_set hown2 eO (by decide) (.slice (some ⟨g, 0, none⟩) (out.length + 1) cap)) gF (by decide) (.int .i64 4)
              simpa [cI64s] using this
            · rw [HM.out]
              exact gF.set _
            · exact (hB3.setCell (p := ⟨w.heap.size + 1 + 1, 0, none⟩) (by show w.heap.size ≤ w.heap.size + 1 + 1; omega) _).setCell (p := ⟨w.heap.size + 1 + 1 + 1, 0, none⟩) (by show w.heap.size ≤ w.heap.size + 1 + 1 + 1; omega) _
          case hs =>
            intro k l a w h
            cases h with
            | c =>
              refine ready_all (rs := [0, 1, 4, 5]) (by kernel_rfl) (by simp) ?_
              refine List.forall_mem_cons.2 ⟨wpOpIn_step rfl (fun K hK => ?_), ?_⟩
              · go_simp; exact hK _ _ St10.c0
              refine List.forall_mem_cons.2 ⟨wpOpIn_step rfl (fun K hK => ?_), ?_⟩
              · go_simp; exact hK _ _ St10.c1
              refine List.forall_mem_cons.2 ⟨wpOpIn_step rfl (fun K hK => ?_), ?_⟩
              · go_simp; exact hK _ _ St10.c4
              refine List.forall_mem_cons.2 ⟨wpOpIn_step rfl (fun K hK => ?_), ?_⟩
              · go_simp; exact hK _ _ St10.c5
              exact fun _ h => by cases h
            | c0 =>
              refine ready_all (rs := [1, 4, 5]) (by kernel_rfl) (by simp) ?_
              refine List.forall_mem_cons.2 ⟨wpOpIn_step rfl (fun K hK => ?_), ?_⟩
              · go_simp; exact hK _ _ St10.c01
              refine List.forall_mem_cons.2 ⟨wpOpIn_step rfl (fun K hK => ?_), ?_⟩
              · go_simp; exact hK _ _ St10.c04
              refine List.forall_mem_cons.2 ⟨wpOpIn_step rfl (fun K hK => ?_), ?_⟩
              · go_simp; exact hK _ _ St10.c05
              exact fun _ h => by cases h
            | c1 =>
              refine ready_all (rs := [0, 2, 4, 5]) (by kernel_rfl) (by simp) ?_
              refine List.forall_mem_cons.2 ⟨wpOpIn_step rfl (fun K hK => ?_), ?_⟩
              · go_simp; exact hK _ _ St10.c01
              refine List.forall_mem_cons.2 ⟨wpOpIn_step rfl (fun K hK => ?_), ?_⟩
              · go_simp; exact hK _ _ St10.c12
              refine List.forall_mem_cons.2 ⟨wpOpIn_step rfl (fun K hK => ?_), ?_⟩
              · go_simp; exact hK _ _ St10.c14
              refine List.forall_mem_cons.2 ⟨wpOpIn_step rfl (fun K hK => ?_), ?_⟩
              · go_simp; exact hK _ _ St10.c15
              exact fun _ h => by cases h
            | c4 =>
              refine ready_all (rs := [0, 1, 5]) (by kernel_rfl) (by simp) ?_
              refine List.forall_mem_cons.2 ⟨wpOpIn_step rfl (fun K hK => ?_), ?_⟩
              · go_simp; exact hK _ _ St10.c04
              refine List.forall_mem_cons.2 ⟨wpOpIn_step rfl (fun K hK => ?_), ?_⟩
              · go_simp; exact hK _ _ St10.c14
              refine List.forall_mem_cons.2 ⟨wpOpIn_step rfl (fun K hK => ?_), ?_⟩
              · go_simp; exact hK _ _ St10.c45
              exact fun _ h => by cases h
            | c5 =>
              refine ready_all (rs := [0, 1, 4]) (by kernel_rfl) (by simp) ?_
              refine List.forall_mem_cons.2 ⟨wpOpIn_step rfl (fun K hK => ?_), ?_⟩
              · go_simp; exact hK _ _ St10.c05
              refine List.forall_mem_cons.2 ⟨wpOpIn_step rfl (fun K hK => ?_), ?_⟩
              · go_simp; exact hK _ _ St10.c15
              refine List.forall_mem_cons.2 ⟨wpOpIn_step rfl (fun K hK => ?_), ?_⟩
              · go_simp; exact hK _ _ St10.c45
              exact fun _ h => by cases h
            | c01 =>
              refine ready_all (rs := [2, 4, 5]) (by kernel_rfl) (by simp) ?_
              refine List.forall_mem_cons.2 ⟨wpOpIn_step rfl (fun K hK => ?_), ?_⟩
              · go_simp; exact hK _ _ St10.c012
              refine List.forall_mem_cons.2 ⟨wpOpIn_step rfl (fun K hK => ?_), ?_⟩
              · go_simp; exact hK _ _ St10.c014
              refine List.forall_mem_cons.2 ⟨wpOpIn_step rfl (fun K hK => ?_), ?_⟩
              · go_simp; exact hK _ _ St10.c015
              exact fun _ h => by cases h
            | c04 =>
              refine ready_all (rs := [1, 5]) (by kernel_rfl) (by simp) ?_
              refine List.forall_mem_cons.2 ⟨wpOpIn_step rfl (fun K hK => ?_), ?_⟩
              · go_simp; exact hK _ _ St10.c014
              refine List.forall_mem_cons.2 ⟨wpOpIn_step rfl (fun K hK => ?_), ?_⟩
              · go_simp; exact hK _ _ St10.c045
              exact fun _ h => by cases h
            | c05 =>
              refine ready_all (rs := [1, 4]) (by kernel_rfl) (by simp) ?_
              refine List.forall_mem_cons.2 ⟨wpOpIn_step rfl (fun K hK => ?_), ?_⟩
              · go_simp; exact hK _ _ St10.c015
              refine List.forall_mem_cons.2 ⟨wpOpIn_step rfl (fun K hK => ?_), ?_⟩
              · go_simp; exact hK _ _ St10.c045
              exact fun _ h => by cases h
            | c12 =>
              refine ready_all (rs := [0, 4, 5]) (by kernel_rfl) (by simp) ?_
              refine List.forall_mem_cons.2 ⟨wpOpIn_step rfl (fun K hK => ?_), ?_⟩
              · go_simp; exact hK _ _ St10.c012
              refine List.forall_mem_cons.2 ⟨wpOpIn_step rfl (fun K hK => ?_), ?_⟩
              · go_simp; exact hK _ _ St10.c124
              refine List.forall_mem_cons.2 ⟨wpOpIn_step rfl (fun K hK => ?_), ?_⟩
              · go_simp; exact hK _ _ St10.c125
              exact fun _ h => by cases h
            | c14 =>
              refine ready_all (rs := [0, 2, 5]) (by kernel_rfl) (by simp) ?_
              refine List.forall_mem_cons.2 ⟨wpOpIn_step rfl (fun K hK => ?_), ?_⟩
              · go_simp; exact hK _ _ St10.c014
              refine List.forall_mem_cons.2 ⟨wpOpIn_step rfl (fun K hK => ?_), ?_⟩
              · go_simp; exact hK _ _ St10.c124
              refine List.forall_mem_cons.2 ⟨wpOpIn_step rfl (fun K hK => ?_), ?_⟩
              · go_simp; exact hK _ _ St10.c145
              exact fun _ h => by cases h
            | c15 =>
              refine ready_all (rs := [0, 2, 4]) (by kernel_rfl) (by simp) ?_
              refine List.forall_mem_cons.2 ⟨wpOpIn_step rfl (fun K hK => ?_), ?_⟩
              · go_simp; exact hK _ _ St10.c015
              refine List.forall_mem_cons.2 ⟨wpOpIn_step rfl (fun K hK => ?_), ?_⟩
              · go_simp; exact hK _ _ St10.c125
              refine List.forall_mem_cons.2 ⟨wpOpIn_step rfl (fun K hK => ?_), ?_⟩
              · go_simp; exact hK _ _ St10.c145
              exact fun _ h => by cases h
            | c45 =>
              refine ready_all (rs := [0, 1, 6]) (by kernel_rfl) (by simp) ?_
              refine List.forall_mem_cons.2 ⟨wpOpIn_step rfl (fun K hK => ?_), ?_⟩
              · go_simp; exact hK _ _ St10.c045
              refine List.forall_mem_cons.2 ⟨wpOpIn_step rfl (fun K hK => ?_), ?_⟩
              · go_simp; exact hK _ _ St10.c145
              refine List.forall_mem_cons.2 ⟨wpOpIn_step rfl (fun K hK => ?_), ?_⟩
              · go_simp; exact hK _ _ St10.c456
              exact fun _ h => by cases h
            | c012 =>
              refine ready_all (rs := [3, 4, 5]) (by kernel_rfl) (by simp) ?_
              refine List.forall_mem_cons.2 ⟨wpOpIn_step rfl (fun K hK => ?_), ?_⟩
              · exact step_append_run rfl _ _ _ rfl _ rfl _ rfl happ (hK _ _ St10.c0123)
              refine List.forall_mem_cons.2 ⟨wpOpIn_step rfl (fun K hK => ?_), ?_⟩
              · go_simp; exact hK _ _ St10.c0124
              refine List.forall_mem_cons.2 ⟨wpOpIn_step rfl (fun K hK => ?_), ?_⟩
              · go_simp; exact hK _ _ St10.c0125
              exact fun _ h => by cases h
            | c014 =>
              refine ready_all (rs := [2, 5]) (by kernel_rfl) (by simp) ?_
              refine List.forall_mem_cons.2 ⟨wpOpIn_step rfl (fun K hK => ?_), ?_⟩
              · go_simp; exact hK _ _ St10.c0124
              refine List.forall_mem_cons.2 ⟨wpOpIn_step rfl (fun K hK => ?_), ?_⟩
              · go_simp; exact hK _ _ St10.c0145
              exact fun _ h => by cases h
            | c015 =>
              refine ready_all (rs := [2, 4]) (by kernel_rfl) (by simp) ?_
              refine List.forall_mem_cons.2 ⟨wpOpIn_step rfl (fun K hK => ?_), ?_⟩
              · go_simp; exact hK _ _ St10.c0125
              refine List.forall_mem_cons.2 ⟨wpOpIn_step rfl (fun K hK => ?_), ?_⟩
              · go_simp; exact hK _ _ St10.c0145
              exact fun _ h => by cases h
            | c045 =>
              refine ready_all (rs := [1, 6]) (by kernel_rfl) (by simp) ?_
              refine List.forall_mem_cons.2 ⟨wpOpIn_step rfl (fun K hK => ?_), ?_⟩
              · go_simp; exact hK _ _ St10.c0145
              refine List.forall_mem_cons.2 ⟨wpOpIn_step rfl (fun K hK => ?_), ?_⟩
              · go_simp; exact hK _ _ St10.c0456
              exact fun _ h => by cases h
            | c124 =>
              refine ready_all (rs := [0, 5]) (by kernel_rfl) (by simp) ?_
              refine List.forall_mem_cons.2 ⟨wpOpIn_step rfl (fun K hK => ?_), ?_⟩
              · go_simp; exact hK _ _ St10.c0124
              refine List.forall_mem_cons.2 ⟨wpOpIn_step rfl (fun K hK => ?_), ?_⟩
              · go_simp; exact hK _ _ St10.c1245
              exact fun _ h => by cases h
            | c125 =>
              refine ready_all (rs := [0, 4]) (by kernel_rfl) (by simp) ?_
              refine List.forall_mem_cons.2 ⟨wpOpIn_step rfl (fun K hK => ?_), ?_⟩
              · go_simp; exact hK _ _ St10.c0125
              refine List.forall_mem_cons.2 ⟨wpOpIn_step rfl (fun K hK => ?_), ?_⟩
              · go_simp; exact hK _ _ St10.c1245
              exact fun _ h => by cases h
            | c145 =>
              refine ready_all (rs := [0, 2, 6]) (by kernel_rfl) (by simp) ?_
              refine List.forall_mem_cons.2 ⟨wpOpIn_step rfl (fun K hK => ?_), ?_⟩
              · go_simp; exact hK _ _ St10.c0145
              refine List.forall_mem_cons.2 ⟨wpOpIn_step rfl (fun K hK => ?_), ?_⟩
              · go_simp; exact hK _ _ St10.c1245
              refine List.forall_mem_cons.2 ⟨wpOpIn_step rfl (fun K hK => ?_), ?_⟩
              · go_simp; exact hK _ _ St10.c1456
              exact fun _ h => by cases h
            | c456 =>
              refine ready_all (rs := [0, 1]) (by kernel_rfl) (by simp) ?_
              refine List.forall_mem_cons.2 ⟨wpOpIn_step rfl (fun K hK => ?_), ?_⟩
              · go_simp; exact hK _ _ St10.c0456
              refine List.forall_mem_cons.2 ⟨wpOpIn_step rfl (fun K hK => ?_), ?_⟩
              · go_simp; exact hK _ _ St10.c1456
              exact fun _ h => by cases h
            | c0123 =>
              refine ready_all (rs := [4, 5, 7]) (by kernel_rfl) (by simp) ?_
              refine List.forall_mem_cons.2 ⟨wpOpIn_step rfl (fun K hK => ?_), ?_⟩
              · go_simp; exact hK _ _ St10.c01234
              refine List.forall_mem_cons.2 ⟨wpOpIn_step rfl (fun K hK => ?_), ?_⟩
              · go_simp; exact hK _ _ St10.c01235
              refine List.forall_mem_cons.2 ⟨wpOpIn_step rfl (fun K hK => ?_), ?_⟩
              · go_simp; exact hK _ _ St10.c01237
              exact fun _ h => by cases h
            | c0124 =>
              refine ready_all (rs := [3, 5]) (by kernel_rfl) (by simp) ?_
              refine List.forall_mem_cons.2 ⟨wpOpIn_step rfl (fun K hK => ?_), ?_⟩
              · exact step_append_run rfl _ _ _ rfl _ rfl _ rfl happ (hK _ _ St10.c01234)
              refine List.forall_mem_cons.2 ⟨wpOpIn_step rfl (fun K hK => ?_), ?_⟩
              · go_simp; exact hK _ _ St10.c01245
              exact fun _ h => by cases h
            | c0125 =>
              refine ready_all (rs := [3, 4]) (by kernel_rfl) (by simp) ?_
              refine List.forall_mem_cons.2 ⟨wpOpIn_step rfl (fun K hK => ?_), ?_⟩
              · exact step_append_run rfl _ _ _ rfl _ rfl _ rfl happ (hK _ _ St10.c01235)
              refine List.forall_mem_cons.2 ⟨wpOpIn_step rfl (fun K hK => ?_), ?_⟩
              · go_simp; exact hK _ _ St10.c01245
              exact fun _ h => by cases h
            | c0145 =>
              refine ready_all (rs := [2, 6]) (by kernel_rfl) (by simp) ?_
              refine List.forall_mem_cons.2 ⟨wpOpIn_step rfl (fun K hK => ?_), ?_⟩
              · go_simp; exact hK _ _ St10.c01245
              refine List.forall_mem_cons.2 ⟨wpOpIn_step rfl (fun K hK => ?_), ?_⟩
              · go_simp; exact hK _ _ St10.c01456
              exact fun _ h => by cases h
            | c0456 =>
              refine ready_all (rs := [1]) (by kernel_rfl) (by simp) ?_
              refine List.forall_mem_cons.2 ⟨wpOpIn_step rfl (fun K hK => ?_), ?_⟩
              · go_simp; exact hK _ _ St10.c01456
              exact fun _ h => by cases h
            | c1245 =>
              refine ready_all (rs := [0, 6]) (by kernel_rfl) (by simp) ?_
              refine List.forall_mem_cons.2 ⟨wpOpIn_step rfl (fun K hK => ?_), ?_⟩
              · go_simp; exact hK _ _ St10.c01245
              refine List.forall_mem_cons.2 ⟨wpOpIn_step rfl (fun K hK => ?_), ?_⟩
              · go_simp; exact hK _ _ St10.c12456
              exact fun _ h => by cases h
            | c1456 =>
              refine ready_all (rs := [0, 2]) (by kernel_rfl) (by simp) ?_
              refine List.forall_mem_cons.2 ⟨wpOpIn_step rfl (fun K hK => ?_), ?_⟩
              · go_simp; exact hK _ _ St10.c01456
              refine List.forall_mem_cons.2 ⟨wpOpIn_step rfl (fun K hK => ?_), ?_⟩
              · go_simp; exact hK _ _ St10.c12456
              exact fun _ h => by cases h
            | c01234 =>
              refine ready_all (rs := [5, 7]) (by kernel_rfl) (by simp) ?_
              refine List.forall_mem_cons.2 ⟨wpOpIn_step rfl (fun K hK => ?_), ?_⟩
              · go_simp; exact hK _ _ St10.c012345
              refine List.forall_mem_cons.2 ⟨wpOpIn_step rfl (fun K hK => ?_), ?_⟩
              · go_simp; exact hK _ _ St10.c012347
              exact fun _ h => by cases h
            | c01235 =>
              refine ready_all (rs := [4, 7]) (by kernel_rfl) (by simp) ?_
              refine List.forall_mem_cons.2 ⟨wpOpIn_step rfl (fun K hK => ?_), ?_⟩
              · go_simp; exact hK _ _ St10.c012345
              refine List.forall_mem_cons.2 ⟨wpOpIn_step rfl (fun K hK => ?_), ?_⟩
              · go_simp; exact hK _ _ St10.c012357
              exact fun _ h => by cases h
            | c01237 =>
              refine ready_all (rs := [4, 5]) (by kernel_rfl) (by simp) ?_
              refine List.forall_mem_cons.2 ⟨wpOpIn_step rfl (fun K hK => ?_), ?_⟩
              · go_simp; exact hK _ _ St10.c012347
              refine List.forall_mem_cons.2 ⟨wpOpIn_step rfl (fun K hK => ?_), ?_⟩
              · go_simp; exact hK _ _ St10.c012357
              exact fun _ h => by cases h
            | c01245 =>
              refine ready_all (rs := [3, 6]) (by kernel_rfl) (by simp) ?_
              refine List.forall_mem_cons.2 ⟨wpOpIn_step rfl (fun K hK => ?_), ?_⟩
              · exact step_append_run rfl _ _ _ rfl _ rfl _ rfl happ (hK _ _ St10.c012345)
              refine List.forall_mem_cons.2 ⟨wpOpIn_step rfl (fun K hK => ?_), ?_⟩
              · go_simp; exact hK _ _ St10.c012456
              exact fun _ h => by cases h
            | c01456 =>
              refine ready_all (rs := [2]) (by kernel_rfl) (by simp) ?_
              refine List.forall_mem_cons.2 ⟨wpOpIn_step rfl (fun K hK => ?_), ?_⟩
              · go_simp; exact hK _ _ St10.c012456
              exact fun _ h => by cases h
            | c12456 =>
              refine ready_all (rs := [0]) (by kernel_rfl) (by simp) ?_
              refine List.forall_mem_cons.2 ⟨wpOpIn_step rfl (fun K hK => ?_), ?_⟩
              · go_simp; exact hK _ _ St10.c012456
              exact fun _ h => by cases h
            | c012345 =>
              refine ready_all (rs := [6, 7]) (by kernel_rfl) (by simp) ?_
              refine List.forall_mem_cons.2 ⟨wpOpIn_step rfl (fun K hK => ?_), ?_⟩
              · go_simp; exact hK _ _ St10.c0123456
              refine List.forall_mem_cons.2 ⟨wpOpIn_step rfl (fun K hK => ?_), ?_⟩
              · go_simp; exact hK _ _ St10.c0123457
              exact fun _ h => by cases h
            | c012347 =>
              refine ready_all (rs := [5]) (by kernel_rfl) (by simp) ?_
              refine List.forall_mem_cons.2 ⟨wpOpIn_step rfl (fun K hK => ?_), ?_⟩
              · go_simp; exact hK _ _ St10.c0123457
              exact fun _ h => by cases h
            | c012357 =>
              refine ready_all (rs := [4]) (by kernel_rfl) (by simp) ?_
              refine List.forall_mem_cons.2 ⟨wpOpIn_step rfl (fun K hK => ?_), ?_⟩
              · go_simp; exact hK _ _ St10.c0123457
              exact fun _ h => by cases h
            | c012456 =>
              refine ready_all (rs := [3]) (by kernel_rfl) (by simp) ?_
              refine List.forall_mem_cons.2 ⟨wpOpIn_step rfl (fun K hK => ?_), ?_⟩
              · exact step_append_run rfl _ _ _ rfl _ rfl _ rfl happ (hK _ _ St10.c0123456)
              exact fun _ h => by cases h
            | c0123456 =>
              refine ready_all (rs := [7]) (by kernel_rfl) (by simp) ?_
              refine List.forall_mem_cons.2 ⟨wpOpIn_step rfl (fun K hK => ?_), ?_⟩
              · go_simp; exact hK _ _ St10.c01234567
              exact fun _ h => by cases h
            | c0123457 =>
              refine ready_all (rs := [6]) (by kernel_rfl) (by simp) ?_
              refine List.forall_mem_cons.2 ⟨wpOpIn_step rfl (fun K hK => ?_), ?_⟩
              · go_simp; exact hK _ _ St10.c01234567
              exact fun _ h => by cases h
            | c01234567 =>
              refine ready_all (rs := [8]) (by kernel_rfl) (by simp) ?_
              refine List.forall_mem_cons.2 ⟨wpOpIn_step rfl (fun K hK => ?_), ?_⟩
              · go_simp; exact hK _ _ St10.c012345678
              exact fun _ h => by cases h
        · gi_wp2_with fail
          refine ⟨trivial, (CallsIn.inRound l (callsIn_wide.2 HP.out)).mono ?_⟩
          rintro en W1 ⟨he, hx⟩
          obtain rfl := HE.out _ he
          clear he
          have bO := show Boxed W1 _ _ _ from (hx.block _ h3.lt).trans h3
          have bF := show Boxed W1 _ _ _ from (hx.block _ h5.lt).trans h5
          have b0 := show Boxed W1 _ _ _ from (hx.block _ h6.lt).trans h6
          have b1 := show Boxed W1 _ _ _ from (hx.block _ h7.lt).trans h7
          have bS := show Boxed W1 _ _ _ from (hx.block _ h8.lt).trans h8
          have bS1 := show Boxed W1 _ _ _ from (hx.block _ h8a.lt).trans h8a
          have bS2 := show Boxed W1 _ _ _ from (hx.block _ h8b.lt).trans h8b
          have hrow := ownsRow_kept h4 hx.block
          have hB1 := h9.trans (hx.mono h9.size)
          have hKF := keepsFrom_ext (B := W0.heap.size) hx
          gi_wp2_with fail
          have hB2 : Below w.heap.size w ((W1.alloc (.cells #[.int .i64 m] 2)).drew) := ((hB1.alloc hB1.size _).drew)
          have hrow2 : ((W1.alloc (.cells #[.int .i64 m] 2)).drew).ownsRow w.heap.size 2 1 v out.length (cI64s out) := (hrow.alloc _).drew
          obtain ⟨v1, w2, happ, hown2, hgrow2, _⟩ := run_append_own (P := Tryz.prog) ((W1.alloc (.cells #[.int .i64 m] 2)).drew) w.heap.size 33 33 2 i0 (.int .i64 0) 1 8 Tryz.underlying33 hi hz0 hz1 hz2 rfl (by decide) v out.length (cI64s out) hrow2 ⟨W1.heap.size, 0, none⟩ 1 1 [.int .i64 m] rfl (cell_one_new W1 _ _) (fun x hx => by simp at hx; subst hx; rfl) (by unfold maxLen; omega) (by omega) hB2.size
          obtain ⟨g, cap, rfl⟩ := ownsRow_succ hown2
          have nO := bO.not_row (by decide) hrow
          have nF := bF.not_row (by decide) hrow
          have n0 := b0.not_row (by decide) hrow
          have n1 := b1.not_row (by decide) hrow
          have nS := bS.not_row (by decide) hrow
          have dO := show Boxed ((W1.alloc (.cells #[.int .i64 m] 2)).drew) _ _ _ from bO.alloc _
          have dF := show Boxed ((W1.alloc (.cells #[.int .i64 m] 2)).drew) _ _ _ from bF.alloc _
          have d0 := show Boxed ((W1.alloc (.cells #[.int .i64 m] 2)).drew) _ _ _ from b0.alloc _
          have d1 := show Boxed ((W1.alloc (.cells #[.int .i64 m] 2)).drew) _ _ _ from b1.alloc _
          have dS := show Boxed ((W1.alloc (.cells #[.int .i64 m] 2)).drew) _ _ _ from bS.alloc _
          have eO := dO.kept hgrow2 nO
          have eF := dF.kept hgrow2 nF
          have e0' := d0.kept hgrow2 n0
          have e1' := d1.kept hgrow2 n1
          have eS := dS.kept hgrow2 nS
          have eS1 := (show Boxed ((W1.alloc (.cells #[.int .i64 m] 2)).drew) _ _ _ from bS1.alloc _).kept hgrow2 (bS1.not_row (by decide) hrow)
          have eS2 := (show Boxed ((W1.alloc (.cells #[.int .i64 m] 2)).drew) _ _ _ from bS2.alloc _).kept hgrow2 (bS2.not_row (by decide) hrow)
          have HBX := Lib.hid (And.intro eS (And.intro eS1 (And.intro eS2 (And.intro e0' e1'))))
          have hKO := ((hKF.trans ((KeepsOthers.alloc W1 (.cells #[.int .i64 m] 2)).from _)).trans ((KeepsOthers.drew _).from _)).trans ((keeps_own hrow2 hgrow2).from _)
          have hBW := (((hx.mono h9.size).alloc hB1.size (.cells #[.int .i64 m] 2)).drew).grown hgrow2 hB2.size (fun k e => (hrow2.lt k e).1)
          have hB3 := hB2.grown hgrow2 hB2.size (fun k e => (hrow2.lt k e).1)
          have kO : Boxed W1.drew _ _ _ := bO
          have kF : Boxed W1.drew _ _ _ := bF
          have cO0 := kO.cell
          have cF0 := kF.cell
          have cO1 := dO.cell
          have cF1 := dF.cell
          have cO2 := eO.cell
          have cF2 := eF.cell
          have fO2 := eO.frozen
          have gF := box_set eF (B := w.heap.size + 1 + 1) (by omega) (.slice (some ⟨g, 0, none⟩) (out.length + 1) cap)
          have cF3 := gF.cell
          have fF3 := gF.frozen
          refine wpIn_region_any (by kernel_rfl) ?_
          refine wpAnyIn_inv (St10 _ _ _ _ _ _ _ _ _ _ _ _ _ _ _ _ _ _ _ _ _ _ _ _ _ _ _ _ _ (w.heap.size + 1 + 1) (w.heap.size + 1 + 1 + 1) v (.int .i64 m) (.slice (some ⟨W1.heap.size, 0, none⟩) 1 1) (.slice (some ⟨g, 0, none⟩) (out.length + 1) cap) (.int .i64 4) (.int .i64 4) (.int .i64 4) W1.drew ((W1.alloc (.cells #[.int .i64 m] 2)).drew) w2 (w2.setCell ⟨w.heap.size + 1 + 1, 0, none⟩ (.slice (some ⟨g, 0, none⟩) (out.length + 1) cap)) ((w2.setCell ⟨w.heap.size + 1 + 1, 0, none⟩ (.slice (some ⟨g, 0, none⟩) (out.length + 1) cap)).setCell ⟨w.heap.size + 1 + 1 + 1, 0, none⟩ (.int .i64 4))) ?h0 ?hs 9 _ _ _ St10.c
          case h0 =>
            intro l a w h
            cases h
            refine ⟨by kernel_rfl, ?_⟩
            obtain ⟨eS, eS1, eS2, e0', e1'⟩ := HBX.out
            have z4 := box_set (box_set eS (B := w.heap.size + 1 + 1) (by omega) (.slice (some ⟨g, 0, none⟩) (out.length + 1) cap)) (B := w.heap.size + 1 + 1 + 1) (by omega) (.int .i64 4)
            have z5 := box_set (box_set eS1 (B := w.heap.size + 1 + 1) (by omega) (.slice (some ⟨g, 0, none⟩) (out.length + 1) cap)) (B := w.heap.size + 1 + 1 + 1) (by omega) (.int .i64 4)
            have z6 := box_set (box_set eS2 (B := w.heap.size + 1 + 1) (by omega) (.slice (some ⟨g, 0, none⟩) (out.length + 1) cap)) (B := w.heap.size + 1 + 1 + 1) (by omega) (.int .i64 4)
            refine ⟨(hKO.trans ((KeepsOthers.setCell _ _ _).from _)).trans ((KeepsOthers.setCell _ _ _).from _), ⟨?_, fun k hk1 hk2 => ?_⟩, out ++ [m], _, _, _, HC.out, by simp [HL.out], box_set (eO.set _) (by omega) _, ?_, ?_, box_set (box_set e0' (by omega) _) (by omega) _, box_set (box_set e1' (by omega) _) (by omega) _, z4, z5, z6, ?_⟩
            · exact (hBW.setCell (p := ⟨w.heap.size + 1 + 1, 0, none⟩) (by show w.heap.size ≤ w.heap.size + 1 + 1; omega) _).setCell (p := ⟨w.heap.size + 1 + 1 + 1, 0, none⟩) (by show w.heap.size ≤ w.heap.size + 1 + 1 + 1; omega) _
            · rcases (show k = w.heap.size + 1 + 1 + 1 + 1 ∨ k = w.heap.size + 1 + 1 + 1 + 1 + 1 ∨ k = w.heap.size + 1 + 1 + 1 + 1 + 2 by omega) with rfl | rfl | rfl
              · exact z4.trans h8.symm
              · exact z5.trans h8a.symm
              · exact z6.trans h8b.symm
            · have := row_set (row_set hown2 eO (by decide) (.slice (some ⟨g, 0, none⟩) (out.length + 1) cap)) gF (by decide) (.int .i64 4)
              simpa [cI64s] using this
            · rw [HM.out]
              exact gF.set _
            · exact (hB3.setCell (p := ⟨w.heap.size + 1 + 1, 0, none⟩) (by show w.heap.size ≤ w.heap.size + 1 + 1; omega) _).setCell (p := ⟨w.heap.size + 1 + 1 + 1, 0, none⟩) (by show w.heap.size ≤ w.heap.size + 1 + 1 + 1; omega) _
          case hs =>
            intro k l a w h
            cases h with
            | c =>
              refine ready_all (rs := [0, 1, 4, 5]) (by kernel_rfl) (by simp) ?_
              refine List.forall_mem_cons.2 ⟨wpOpIn_step rfl (fun K hK => ?_), ?_⟩
              · go_simp; exact hK _ _ St10.c0
              refine List.forall_mem_cons.2 ⟨wpOpIn_step rfl (fun K hK => ?_), ?_⟩
              · go_simp; exact hK _ _ St10.c1
              refine List.forall_mem_cons.2 ⟨wpOpIn_step rfl (fun K hK => ?_), ?_⟩
              · go_simp; exact hK _ _ St10.c4
              refine List.forall_mem_cons.2 ⟨wpOpIn_step rfl (fun K hK => ?_), ?_⟩
              · go_simp; exact hK _ _ St10.c5
              exact fun _ h => by cases h
            | c0 =>
              refine ready_all (rs := [1, 4, 5]) (by kernel_rfl) (by simp) ?_
              refine List.forall_mem_cons.2 ⟨wpOpIn_step rfl (fun K hK => ?_), ?_⟩
              · go_simp; exact hK _ _ St10.c01
              refine List.forall_mem_cons.2 ⟨wpOpIn_step rfl (fun K hK => ?_), ?_⟩
              · go_simp; exact hK _ _ St10.c04
              refine List.forall_mem_cons.2 ⟨wpOpIn_step rfl (fun K hK => ?_), ?_⟩
              · go_simp; exact hK _ _ St10.c05
              exact fun _ h => by cases h
            | c1 =>
              refine ready_all (rs := [0, 2, 4, 5]) (by kernel_rfl) (by simp) ?_
              refine List.forall_mem_cons.2 ⟨wpOpIn_step rfl (fun K hK => ?_), ?_⟩
              · go_simp; exact hK _ _ St10.c01
              refine List.forall_mem_cons.2 ⟨wpOpIn_step rfl (fun K hK => ?_), ?_⟩
              · go_simp; exact hK _ _ St10.c12
              refine List.forall_mem_cons.2 ⟨wpOpIn_step rfl (fun K hK => ?_), ?_⟩
              · go_simp; exact hK _ _ St10.c14
              refine List.forall_mem_cons.2 ⟨wpOpIn_step rfl (fun K hK => ?_), ?_⟩
              · go_simp; exact hK _ _ St10.c15
              exact fun _ h => by cases h
            | c4 =>
              refine ready_all (rs := [0, 1, 5]) (by kernel_rfl) (by simp) ?_
              refine List.forall_mem_cons.2 ⟨wpOpIn_step rfl (fun K hK => ?_), ?_⟩
              · go_simp; exact hK _ _ St10.c04
              refine List.forall_mem_cons.2 ⟨wpOpIn_step rfl (fun K hK => ?_), ?_⟩
              · go_simp; exact hK _ _ St10.c14
              refine List.forall_mem_cons.2 ⟨wpOpIn_step rfl (fun K hK => ?_), ?_⟩
              · go_simp; exact hK _ _ St10.c45
              exact fun _ h => by cases h
            | c5 =>
              refine ready_all (rs := [0, 1, 4]) (by kernel_rfl) (by simp) ?_
              refine List.forall_mem_cons.2 ⟨wpOpIn_step rfl (fun K hK => ?_), ?_⟩
              · go_simp; exact hK _ _ St10.c05
              refine List.forall_mem_cons.2 ⟨wpOpIn_step rfl (fun K hK => ?_), ?_⟩
              · go_simp; exact hK _ _ St10.c15
              refine List.forall_mem_cons.2 ⟨wpOpIn_step rfl (fun K hK => ?_), ?_⟩
              · go_simp; exact hK _ _ St10.c45
              exact fun _ h => by cases h
            | c01 =>
              refine ready_all (rs := [2, 4, 5]) (by kernel_rfl) (by simp) ?_
              refine List.forall_mem_cons.2 ⟨wpOpIn_step rfl (fun K hK => ?_), ?_⟩
              · go_simp; exact hK _ _ St10.c012
              refine List.forall_mem_cons.2 ⟨wpOpIn_step rfl (fun K hK => ?_), ?_⟩
              · go_simp; exact hK _ _ St10.c014
              refine List.forall_mem_cons.2 ⟨wpOpIn_step rfl (fun K hK => ?_), ?_⟩
              · go_simp; exact hK _ _ St10.c015
              exact fun _ h => by cases h
            | c04 =>
              refine ready_all (rs := [1, 5]) (by kernel_rfl) (by simp) ?_
              refine List.forall_mem_cons.2 ⟨wpOpIn_step rfl (fun K hK => ?_), ?_⟩
              · go_simp; exact hK _ _ St10.c014
              refine List.forall_mem_cons.2 ⟨wpOpIn_step rfl (fun K hK => ?_), ?_⟩
              · go_simp; exact hK _ _ St10.c045
              exact fun _ h => by cases h
            | c05 =>
              refine ready_all (rs := [1, 4]) (by kernel_rfl) (by simp) ?_
              refine List.forall_mem_cons.2 ⟨wpOpIn_step rfl (fun K hK => ?_), ?_⟩
              · go_simp; exact hK _ _ St10.c015
              refine List.forall_mem_cons.2 ⟨wpOpIn_step rfl (fun K hK => ?_), ?_⟩
              · go_simp; exact hK _ _ St10.c045
              exact fun _ h => by cases h
            | c12 =>
              refine ready_all (rs := [0, 4, 5]) (by kernel_rfl) (by simp) ?_
              refine List.forall_mem_cons.2 ⟨wpOpIn_step rfl (fun K hK => ?_), ?_⟩
              · go_simp; exact hK _ _ St10.c012
              refine List.forall_mem_cons.2 ⟨wpOpIn_step rfl (fun K hK => ?_), ?_⟩
              · go_simp; exact hK _ _ St10.c124
              refine List.forall_mem_cons.2 ⟨wpOpIn_step rfl (fun K hK => ?_), ?_⟩
              · go_simp; exact hK _ _ St10.c125
              exact fun _ h => by cases h
            | c14 =>
              refine ready_all (rs := [0, 2, 5]) (by kernel_rfl) (by simp) ?_
              refine List.forall_mem_cons.2 ⟨wpOpIn_step rfl (fun K hK => ?_), ?_⟩
              · go_simp; exact hK _ _ St10.c014
              refine List.forall_mem_cons.2 ⟨wpOpIn_step rfl (fun K hK => ?_), ?_⟩
              · go_simp; exact hK _ _ St10.c124
              refine List.forall_mem_cons.2 ⟨wpOpIn_step rfl (fun K hK => ?_), ?_⟩
              · go_simp; exact hK _ _ St10.c145
              exact fun _ h => by cases h
            | c15 =>
              refine ready_all (rs := [0, 2, 4]) (by kernel_rfl) (by simp) ?_
              refine List.forall_mem_cons.2 ⟨wpOpIn_step rfl (fun K hK => ?_), ?_⟩
              · go_simp; exact hK _ _ St10.c015
              refine List.forall_mem_cons.2 ⟨wpOpIn_step rfl (fun K hK => ?_), ?_⟩
              · go_simp; exact hK _ _ St10.c125
              refine List.forall_mem_cons.2 ⟨wpOpIn_step rfl (fun K hK => ?_), ?_⟩
              · go_simp; exact hK _ _ St10.c145
              exact fun _ h => by cases h
            | c45 =>
              refine ready_all (rs := [0, 1, 6]) (by kernel_rfl) (by simp) ?_
              refine List.forall_mem_cons.2 ⟨wpOpIn_step rfl (fun K hK => ?_), ?_⟩
              · go_simp; exact hK _ _ St10.c045
              refine List.forall_mem_cons.2 ⟨wpOpIn_step rfl (fun K hK => ?_), ?_⟩
              · go_simp; exact hK _ _ St10.c145
              refine List.forall_mem_cons.2 ⟨wpOpIn_step rfl (fun K hK => ?_), ?_⟩
              · go_simp; exact hK _ _ St10.c456
              exact fun _ h => by cases h
            | c012 =>
              refine ready_all (rs := [3, 4, 5]) (by kernel_rfl) (by simp) ?_
              refine List.forall_mem_cons.2 ⟨wpOpIn_step rfl (fun K hK => ?_), ?_⟩
              · exact step_append_run rfl _ _ _ rfl _ rfl _ rfl happ (hK _ _ St10.c0123)
              refine List.forall_mem_cons.2 ⟨wpOpIn_step rfl (fun K hK => ?_), ?_⟩
              · go_simp; exact hK _ _ St10.c0124
              refine List.forall_mem_cons.2 ⟨wpOpIn_step rfl (fun K hK => ?_), ?_⟩
              · go_simp; exact hK _ _ St10.c0125
              exact fun _ h => by cases h
            | c014 =>
              refine ready_all (rs := [2, 5]) (by kernel_rfl) (by simp) ?_
              refine List.forall_mem_cons.2 ⟨wpOpIn_step rfl (fun K hK => ?_), ?_⟩
              · go_simp; exact hK _ _ St10.c0124
              refine List.forall_mem_cons.2 ⟨wpOpIn_step rfl (fun K hK => ?_), ?_⟩
              · go_simp; exact hK _ _ St10.c0145
              exact fun _ h => by cases h
            | c015 =>
              refine ready_all (rs := [2, 4]) (by kernel_rfl) (by simp) ?_
              refine List.forall_mem_cons.2 ⟨wpOpIn_step rfl (fun K hK => ?_), ?_⟩
              · go_simp; exact hK _ _ St10.c0125
              refine List.forall_mem_cons.2 ⟨wpOpIn_step rfl (fun K hK => ?_), ?_⟩
              · go_simp; exact hK _ _ St10.c0145
              exact fun _ h => by cases h
            | c045 =>
              refine ready_all (rs := [1, 6]) (by kernel_rfl) (by simp) ?_
              refine List.forall_mem_cons.2 ⟨wpOpIn_step rfl (fun K hK => ?_), ?_⟩
              · go_simp; exact hK _ _ St10.c0145
              refine List.forall_mem_cons.2 ⟨wpOpIn_step rfl (fun K hK => ?_), ?_⟩
              · go_simp; exact hK _ _ St10.c0456
              exact fun _ h => by cases h
            | c124 =>
              refine ready_all (rs := [0, 5]) (by kernel_rfl) (by simp) ?_
              refine List.forall_mem_cons.2 ⟨wpOpIn_step rfl (fun K hK => ?_), ?_⟩
              · go_simp; exact hK _ _ St10.c0124
              refine List.forall_mem_cons.2 ⟨wpOpIn_step rfl (fun K hK => ?_), ?_⟩
              · go_simp; exact hK _ _ St10.c1245
              exact fun _ h => by cases h
            | c125 =>
              refine ready_all (rs := [0, 4]) (by kernel_rfl) (by simp) ?_
              refine List.forall_mem_cons.2 ⟨wpOpIn_step rfl (fun K hK => ?_), ?_⟩
              · go_simp; exact hK _ _ St10.c0125
              refine List.forall_mem_cons.2 ⟨wpOpIn_step rfl (fun K hK => ?_), ?_⟩
              · go_simp; exact hK _ _ St10.c1245
              exact fun _ h => by cases h
            | c145 =>
              refine ready_all (rs := [0, 2, 6]) (by kernel_rfl) (by simp) ?_
              refine List.forall_mem_cons.2 ⟨wpOpIn_step rfl (fun K hK => ?_), ?_⟩
              · go_simp; exact hK _ _ St10.c0145
              refine List.forall_mem_cons.2 ⟨wpOpIn_step rfl (fun K hK => ?_), ?_⟩
              · go_simp; exact hK _ _ St10.c1245
              refine List.forall_mem_cons.2 ⟨wpOpIn_step rfl (fun K hK => ?_), ?_⟩
              · go_simp; exact hK _ _ St10.c1456
              exact fun _ h => by cases h
            | c456 =>
              refine ready_all (rs := [0, 1]) (by kernel_rfl) (by simp) ?_
              refine List.forall_mem_cons.2 ⟨wpOpIn_step rfl (fun K hK => ?_), ?_⟩
              · go_simp; exact hK _ _ St10.c0456
              refine List.forall_mem_cons.2 ⟨wpOpIn_step rfl (fun K hK => ?_), ?_⟩
              · go_simp; exact hK _ _ St10.c1456
              exact fun _ h => by cases h
            | c0123 =>
              refine ready_all (rs := [4, 5, 7]) (by kernel_rfl) (by simp) ?_
              refine List.forall_mem_cons.2 ⟨wpOpIn_step rfl (fun K hK => ?_), ?_⟩
              · go_simp; exact hK _ _ St10.c01234
              refine List.forall_mem_cons.2 ⟨wpOpIn_step rfl (fun K hK => ?_), ?_⟩
              · go_simp; exact hK _ _ St10.c01235
              refine List.forall_mem_cons.2 ⟨wpOpIn_step rfl (fun K hK => ?_), ?_⟩
              · go_simp; exact hK _ _ St10.c01237
              exact fun _ h => by cases h
            | c0124 =>
              refine ready_all (rs := [3, 5]) (by kernel_rfl) (by simp) ?_
              refine List.forall_mem_cons.2 ⟨wpOpIn_step rfl (fun K hK => ?_), ?_⟩
              · exact step_append_run rfl _ _ _ rfl _ rfl _ rfl happ (hK _ _ St10.c01234)
              refine List.forall_mem_cons.2 ⟨wpOpIn_step rfl (fun K hK => ?_), ?_⟩
              · go_simp; exact hK _ _ St10.c01245
              exact fun _ h => by cases h
            | c0125 =>
              refine ready_all (rs := [3, 4]) (by kernel_rfl) (by simp) ?_
              refine List.forall_mem_cons.2 ⟨wpOpIn_step rfl (fun K hK => ?_), ?_⟩
              · exact step_append_run rfl _ _ _ rfl _ rfl _ rfl happ (hK _ _ St10.c01235)
              refine List.forall_mem_cons.2 ⟨wpOpIn_step rfl (fun K hK => ?_), ?_⟩
              · go_simp; exact hK _ _ St10.c01245
              exact fun _ h => by cases h
            | c0145 =>
              refine ready_all (rs := [2, 6]) (by kernel_rfl) (by simp) ?_
              refine List.forall_mem_cons.2 ⟨wpOpIn_step rfl (fun K hK => ?_), ?_⟩
              · go_simp; exact hK _ _ St10.c01245
              refine List.forall_mem_cons.2 ⟨wpOpIn_step rfl (fun K hK => ?_), ?_⟩
              · go_simp; exact hK _ _ St10.c01456
              exact fun _ h => by cases h
            | c0456 =>
              refine ready_all (rs := [1]) (by kernel_rfl) (by simp) ?_
              refine List.forall_mem_cons.2 ⟨wpOpIn_step rfl (fun K hK => ?_), ?_⟩
              · go_simp; exact hK _ _ St10.c01456
              exact fun _ h => by cases h
            | c1245 =>
              refine ready_all (rs := [0, 6]) (by kernel_rfl) (by simp) ?_
              refine List.forall_mem_cons.2 ⟨wpOpIn_step rfl (fun K hK => ?_), ?_⟩
              · go_simp; exact hK _ _ St10.c01245
              refine List.forall_mem_cons.2 ⟨wpOpIn_step rfl (fun K hK => ?_), ?_⟩
              · go_simp; exact hK _ _ St10.c12456
              exact fun _ h => by cases h
            | c1456 =>
              refine ready_all (rs := [0, 2]) (by kernel_rfl) (by simp) ?_
              refine List.forall_mem_cons.2 ⟨wpOpIn_step rfl (fun K hK => ?_), ?_⟩
              · go_simp; exact hK _ _ St10.c01456
              refine List.forall_mem_cons.2 ⟨wpOpIn_step rfl (fun K hK => ?_), ?_⟩
              · go_simp; exact hK _ _ St10.c12456
              exact fun _ h => by cases h
            | c01234 =>
              refine ready_all (rs := [5, 7]) (by kernel_rfl) (by simp) ?_
              refine List.forall_mem_cons.2 ⟨wpOpIn_step rfl (fun K hK => ?_), ?_⟩
              · go_simp; exact hK _ _ St10.c012345
              refine List.forall_mem_cons.2 ⟨wpOpIn_step rfl (fun K hK => ?_), ?_⟩
              · go_simp; exact hK _ _ St10.c012347
              exact fun _ h => by cases h
            | c01235 =>
              refine ready_all (rs := [4, 7]) (by kernel_rfl) (by simp) ?_
              refine List.forall_mem_cons.2 ⟨wpOpIn_step rfl (fun K hK => ?_), ?_⟩
              · go_simp; exact hK _ _ St10.c012345
              refine List.forall_mem_cons.2 ⟨wpOpIn_step rfl (fun K hK => ?_), ?_⟩
              · go_simp; exact hK _ _ St10.c012357
              exact fun _ h => by cases h
            | c01237 =>
              refine ready_all (rs := [4, 5]) (by kernel_rfl) (by simp) ?_
              refine List.forall_mem_cons.2 ⟨wpOpIn_step rfl (fun K hK => ?_), ?_⟩
              · go_simp; exact hK _ _ St10.c012347
              refine List.forall_mem_cons.2 ⟨wpOpIn_step rfl (fun K hK => ?_), ?_⟩
              · go_simp; exact hK _ _ St10.c012357
              exact fun _ h => by cases h
            | c01245 =>
              refine ready_all (rs := [3, 6]) (by kernel_rfl) (by simp) ?_
              refine List.forall_mem_cons.2 ⟨wpOpIn_step rfl (fun K hK => ?_), ?_⟩
              · exact step_append_run rfl _ _ _ rfl _ rfl _ rfl happ (hK _ _ St10.c012345)
              refine List.forall_mem_cons.2 ⟨wpOpIn_step rfl (fun K hK => ?_), ?_⟩
              · go_simp; exact hK _ _ St10.c012456
              exact fun _ h => by cases h
            | c01456 =>
              refine ready_all (rs := [2]) (by kernel_rfl) (by simp) ?_
              refine List.forall_mem_cons.2 ⟨wpOpIn_step rfl (fun K hK => ?_), ?_⟩
              · go_simp; exact hK _ _ St10.c012456
              exact fun _ h => by cases h
            | c12456 =>
              refine ready_all (rs := [0]) (by kernel_rfl) (by simp) ?_
              refine List.forall_mem_cons.2 ⟨wpOpIn_step rfl (fun K hK => ?_), ?_⟩
              · go_simp; exact hK _ _ St10.c012456
              exact fun _ h => by cases h
            | c012345 =>
              refine ready_all (rs := [6, 7]) (by kernel_rfl) (by simp) ?_
              refine List.forall_mem_cons.2 ⟨wpOpIn_step rfl (fun K hK => ?_), ?_⟩
              · go_simp; exact hK _ _ St10.c0123456
              refine List.forall_mem_cons.2 ⟨wpOpIn_step rfl (fun K hK => ?_), ?_⟩
              · go_simp; exact hK _ _ St10.c0123457
              exact fun _ h => by cases h
            | c012347 =>
              refine ready_all (rs := [5]) (by kernel_rfl) (by simp) ?_
              refine List.forall_mem_cons.2 ⟨wpOpIn_step rfl (fun K hK => ?_), ?_⟩
              · go_simp; exact hK _ _ St10.c0123457
              exact fun _ h => by cases h
            | c012357 =>
              refine ready_all (rs := [4]) (by kernel_rfl) (by simp) ?_
              refine List.forall_mem_cons.2 ⟨wpOpIn_step rfl (fun K hK => ?_), ?_⟩
              · go_simp; exact hK _ _ St10.c0123457
              exact fun _ h => by cases h
            | c012456 =>
              refine ready_all (rs := [3]) (by kernel_rfl) (by simp) ?_
              refine List.forall_mem_cons.2 ⟨wpOpIn_step rfl (fun K hK => ?_), ?_⟩
              · exact step_append_run rfl _ _ _ rfl _ rfl _ rfl happ (hK _ _ St10.c0123456)
              exact fun _ h => by cases h
            | c0123456 =>
              refine ready_all (rs := [7]) (by kernel_rfl) (by simp) ?_
              refine List.forall_mem_cons.2 ⟨wpOpIn_step rfl (fun K hK => ?_), ?_⟩
              · go_simp; exact hK _ _ St10.c01234567
              exact fun _ h => by cases h
            | c0123457 =>
              refine ready_all (rs := [6]) (by kernel_rfl) (by simp) ?_
              refine List.forall_mem_cons.2 ⟨wpOpIn_step rfl (fun K hK => ?_), ?_⟩
              · go_simp; exact hK _ _ St10.c01234567
              exact fun _ h => by cases h
            | c01234567 =>
              refine ready_all (rs := [8]) (by kernel_rfl) (by simp) ?_
              refine List.forall_mem_cons.2 ⟨wpOpIn_step rfl (fun K hK => ?_), ?_⟩
              · go_simp; exact hK _ _ St10.c012345678
              exact fun _ h => by cases h
    case done =>
      rintro D ys W hD hS ⟨out, long, v, u, h1, h2, h3, h4, h5, h6, h7, h8, h8a, h8b, h9⟩ hK
      have hfin := h1 []
      rw [hS, List.append_nil] at hfin
      have HF := Lib.hid hfin
      clear h1 h2 hfin hS
      have c3 := h3.cell
      have c6 := h6.cell
      have c7 := h7.cell
      have f6 := h6.frozen
      have f7 := h7.frozen
      cases long with
      | true =>
        have h5' : Boxed W (w.heap.size + 1 + 1 + 1) tEr (.int .i64 4) := h5
        have c5 := h5'.cell
        gi_wp2
        gi_region
        all_goals gi_wp2
        all_goals
          have hK' := (KeepsOthers.setCell (W.setCell ⟨w.heap.size, 0, none⟩ (.slice none 0 0)) ⟨w.heap.size + 1, 0, none⟩ (.int .i64 4)).same D _ ((KeepsOthers.setCell W ⟨w.heap.size, 0, none⟩ (.slice none 0 0)).same D _ hK rfl) rfl
          have r0 := (boxed_turn (box_set (h6.set (.slice none 0 0)) (B := w.heap.size + 1) (by omega) (.int .i64 4)) (grownBy_putObj' _ D (.deferred none)) (fun r e => by cases e; exact ⟨_, hK', rfl⟩)).cell
          have r1 := (boxed_turn ((box_set h7 (B := w.heap.size) (by omega) (.slice none 0 0)).set (.int .i64 4)) (grownBy_putObj' _ D (.deferred none)) (fun r e => by cases e; exact ⟨_, hK', rfl⟩)).cell
          have hBB := (((h9.setCell (p := ⟨w.heap.size, 0, none⟩) (Nat.le_refl _) (.slice none 0 0)).setCell (p := ⟨w.heap.size + 1, 0, none⟩) (by show w.heap.size ≤ w.heap.size + 1; omega) (.int .i64 4)).drew).trans (belowK_b (w := w) (Nat.le_refl _) _ D _ (.deferred none) (by omega) hK' rfl rfl)
          refine ⟨by simp, .inl ⟨_, _, rfl, run_takeDeferred hK', ?_⟩⟩
          refine ⟨.tuple #[.slice none 0 0, .int .i64 4], ?_, ?_, hBB⟩
          · have r0' : ((((W.setCell ⟨w.heap.size, 0, none⟩ (.slice none 0 0)).setCell ⟨w.heap.size + 1, 0, none⟩ (.int .i64 4)).drew).putObj D (.deferred none)).cell? ⟨w.heap.size, 0, none⟩ = some (.slice none 0 0) := r0
            have r1' : ((((W.setCell ⟨w.heap.size, 0, none⟩ (.slice none 0 0)).setCell ⟨w.heap.size + 1, 0, none⟩ (.int .i64 4)).drew).putObj D (.deferred none)).cell? ⟨w.heap.size + 1, 0, none⟩ = some (.int .i64 4) := r1
            simp [results, Tryz.f22, go_sem, r0', r1']
          · rw [HB.out, HF.out]
            exact rfl
      | false =>
        have h5' : Boxed W (w.heap.size + 1 + 1 + 1) tEr (.int .i64 0) := h5
        have c5 := h5'.cell
        obtain ⟨A, c, rfl, hrd⟩ := rd_of_own h4
        gi_wp2
        have hK' := (KeepsOthers.setCell (W.setCell ⟨w.heap.size, 0, none⟩ (.slice A out.length c)) ⟨w.heap.size + 1, 0, none⟩ (.int .i64 0)).same D _ ((KeepsOthers.setCell W ⟨w.heap.size, 0, none⟩ (.slice A out.length c)).same D _ hK rfl) rfl
        have r0 := (boxed_turn (box_set (h6.set (.slice A out.length c)) (B := w.heap.size + 1) (by omega) (.int .i64 0)) (grownBy_putObj' _ D (.deferred none)) (fun r e => by cases e; exact ⟨_, hK', rfl⟩)).cell
        have r1 := (boxed_turn ((box_set h7 (B := w.heap.size) (by omega) (.slice A out.length c)).set (.int .i64 0)) (grownBy_putObj' _ D (.deferred none)) (fun r e => by cases e; exact ⟨_, hK', rfl⟩)).cell
        have hBB := ((h9.setCell (p := ⟨w.heap.size, 0, none⟩) (Nat.le_refl _) (.slice A out.length c)).setCell (p := ⟨w.heap.size + 1, 0, none⟩) (by show w.heap.size ≤ w.heap.size + 1; omega) (.int .i64 0)).trans (belowK_b (w := w) (Nat.le_refl _) _ D _ (.deferred none) (by omega) hK' rfl rfl)
        have hrow2 := ownsRow_putObj (row_set (row_set h4 h6 (by decide) (.slice A out.length c)) (box_set h7 (B := w.heap.size) (by omega) (.slice A out.length c)) (by decide) (.int .i64 0)) (.deferred none) hK' rfl
        refine ⟨by simp, .inl ⟨_, _, rfl, run_takeDeferred hK', ?_⟩⟩
        refine ⟨.tuple #[.slice A out.length c, .int .i64 0], ?_, ?_, hBB⟩
        · simp [results, Tryz.f22, go_sem, r0, r1]
        · rw [HB.out, HF.out]
          obtain ⟨A2, c2, e2, hrd2⟩ := rd_of_own hrow2
          have hcap := own_cap hrow2
          cases e2
          exact ⟨A, c, rfl, hrd2, hcap⟩
    case stop =>
      rintro D pre W hD hS ⟨h1, h6, h7, h9⟩ hK
      gi_wp2
      have r0 := (boxed_turn h6 (grownBy_putObj' _ D (.deferred none)) (fun r e => by cases e; exact ⟨_, hK, rfl⟩)).cell
      have r1 := (boxed_turn h7 (grownBy_putObj' _ D (.deferred none)) (fun r e => by cases e; exact ⟨_, hK, rfl⟩)).cell
      have hBB := h9.trans (belowK_b (w := w) (Nat.le_refl _) _ D _ (.deferred none) (by omega) hK rfl rfl)
      refine ⟨by simp, .inl ⟨_, _, rfl, run_takeDeferred hK, ?_⟩⟩
      refine ⟨.tuple #[.slice none 0 0, .int .i64 2], ?_, ?_, hBB⟩
      · simp [results, Tryz.f22, go_sem, r0, r1]
      · obtain ⟨ps, hps⟩ := hS
        rw [HB.out, ← hps, h1]
        exact rfl
theorem pnums_calls (s : ByteArray) (hs : s.size ≤ 1099511627776) (w : World) (hr : RngOk w) :
    Calls Tryz.prog 22 #[.string s] w fun e w' => NumsEnd (J.pnums (bs s)) e w' ∧ Ext w w' :=
  (pnums_callsC s hs w hr).mono fun _ _ h => ⟨h.1.plain, h.2⟩
end Go.Proofs.YtgomondmogpkeaaGreatDoor
