/- The walks of both digests of a command, of cmd.Parse, of the reference's ParseCmd. -/
import Derived.Test.YtgomondmogpkeaaGreatDoorWText9
import Derived.Test.YtgomondmogpkeaaGreatDoorWRPnums
import Derived.Test.YtgomondmogpkeaaGreatDoorLNums
import Derived.LoopN
import Derived.RangeFuncBox
set_option linter.unusedVariables false
namespace Go.Proofs.YtgomondmogpkeaaGreatDoor
open Go.RowKit Go.Sort
abbrev tagC : ByteArray := ⟨#[99, 109, 100]⟩
noncomputable def digC (c n f t a : Int) : Nat := S.sumN tagC.data.toList (bs (textC c n f t a))
theorem digC_lt (c n f t a : Int) : digC c n f t a < 18446744073709551616 := S.sumN_lt _ _
theorem textC_len {c n f t a : Int} (h : I5 c n f t a) : (textC c n f t a).data.toList.length ≤ 110 := numsL_len _ h.all
set_option maxRecDepth 100000 in
theorem cdig_calls (c n f t a : Int) (hb : I5 c n f t a) (w : World) (ht : TabOk w) : Calls Tryz.prog 41 #[cV c n f t a] w fun e w' => e = .returned (cU64 (digC c n f t a)) ∧ Ext w w' := by
  have HT := Lib.hid ht.all
  have hl := textC_len hb
  have HC := Lib.hid (fun w ht => ctext_calls c n f t a hb w ht)
  have HO := Lib.hid (show ∀ w, Calls Tryz.prog 46 #[.string tagC, .string (textC c n f t a)] w fun e w' => e = .returned (cU64 (digC c n f t a)) ∧ Ext w w' from fun w => of_calls tagC (textC c n f t a) (by decide) (by omega) w)
  clear hb ht hl
  generalize digC c n f t a = D at *
  generalize textC c n f t a = T at *
  go_enter Tryz.func41, Tryz.ntmps41
  go_wp2_with fail
  refine (HC.out _ (HT.out _ ((Below.refl _ w).alloc (Nat.le_refl _) _))).mono ?_
  rintro e w1 ⟨rfl, hx⟩
  have HX := Lib.hid (((Below.refl _ w).alloc (Nat.le_refl _) (.cells #[.int .i64 c, .int .i64 n, .int .i64 f, .int .i64 t, .int .i64 a] 54)).trans (hx.mono (by simp)))
  clear hx
  go_wp2_with fail
  refine (HO.out _).mono ?_
  rintro e w2 ⟨rfl, hx⟩
  have HX2 := Lib.hid (Ext.tr HX.out hx)
  clear hx
  go_wp2
  go_ret
  exact ⟨rfl, HX2.out⟩
set_option maxRecDepth 100000 in
theorem rcdig_calls (c n f t a : Int) (hb : I5 c n f t a) (w : World) : Calls Tryz.prog 42 #[cV c n f t a] w fun e w' => e = .returned (cU64 (digC c n f t a)) ∧ Ext w w' := by
  have hl := textC_len hb
  have HC := Lib.hid (fun w => rctext_calls c n f t a hb w)
  have HO := Lib.hid (show ∀ w, Calls Tryz.prog 57 #[.string tagC, .string (textC c n f t a)] w fun e w' => e = .returned (cU64 (digC c n f t a)) ∧ Ext w w' from fun w => rof_calls tagC (textC c n f t a) (by decide) (by omega) w)
  clear hb hl
  generalize digC c n f t a = D at *
  generalize textC c n f t a = T at *
  go_enter Tryz.func42, Tryz.ntmps42
  go_wp2_with fail
  refine (HC.out _).mono ?_
  rintro e w1 ⟨rfl, hx⟩
  have HX := Lib.hid (((Below.refl _ w).alloc (Nat.le_refl _) (.cells #[.int .i64 c, .int .i64 n, .int .i64 f, .int .i64 t, .int .i64 a] 56)).trans (hx.mono (by simp)))
  clear hx
  go_wp2_with fail
  refine (HO.out _).mono ?_
  rintro e w2 ⟨rfl, hx⟩
  have HX2 := Lib.hid (Ext.tr HX.out hx)
  clear hx
  go_wp2
  go_ret
  exact ⟨rfl, HX2.out⟩
/-- A block of five numbers. -/
def Five (W : World) (B : Nat) (T : TypeId) (c n f t a : Int) : Prop := W.heap[B]? = some (.cells #[.int .i64 c, .int .i64 n, .int .i64 f, .int .i64 t, .int .i64 a] T (0, 0))
theorem Five.new (W : World) (T : TypeId) (c n f t a : Int) : Five (W.alloc (.cells #[.int .i64 c, .int .i64 n, .int .i64 f, .int .i64 t, .int .i64 a] T)) W.heap.size T c n f t a := World.alloc_heap_new W _
theorem Five.lt {W : World} {B : Nat} {T : TypeId} {c n f t a : Int} (h : Five W B T c n f t a) : B < W.heap.size := (Array.getElem?_eq_some_iff.1 h).1
theorem Five.ext {W W' : World} {B : Nat} {T : TypeId} {c n f t a : Int} (h : Five W B T c n f t a) (k : Ext W W') : Five W' B T c n f t a := (k.block _ h.lt).trans h
theorem Five.cells {W : World} {B : Nat} {T : TypeId} {c n f t a : Int} (h : Five W B T c n f t a) :
    W.cell? ⟨B, 0, none⟩ = some (.int .i64 c) ∧ W.cell? ⟨B, 1, none⟩ = some (.int .i64 n) ∧ W.cell? ⟨B, 2, none⟩ = some (.int .i64 f) ∧ W.cell? ⟨B, 3, none⟩ = some (.int .i64 t) ∧ W.cell? ⟨B, 4, none⟩ = some (.int .i64 a) := by
  simp [World.cell?, show W.heap[B]? = _ from h]
theorem Five.frozen {W : World} {B : Nat} {T : TypeId} {c n f t a : Int} (h : Five W B T c n f t a) (j : Nat) : W.frozen? ⟨B, j, none⟩ = false := by simp [World.frozen?, show W.heap[B]? = _ from h]
abbrev set5 (W : World) (B : Nat) (c n f t a : Int) : World := ((((W.setCell ⟨B, 0, none⟩ (.int .i64 c)).setCell ⟨B, 1, none⟩ (.int .i64 n)).setCell ⟨B, 2, none⟩ (.int .i64 f)).setCell ⟨B, 3, none⟩ (.int .i64 t)).setCell ⟨B, 4, none⟩ (.int .i64 a)
theorem Five.set {W : World} {B : Nat} {T : TypeId} {c n f t a : Int} (h : Five W B T c n f t a) (c' n' f' t' a' : Int) : Five (set5 W B c' n' f' t' a') B T c' n' f' t' a' := by
  simp [Five, set5, World.setCell, Array.getElem?_modify, show W.heap[B]? = _ from h]
theorem Ext.set5 {w W : World} (h : Ext w W) {B : Nat} (hB : w.heap.size ≤ B) (c n f t a : Int) : Ext w (set5 W B c n f t a) := by
  refine Below.setCell (Below.setCell (Below.setCell (Below.setCell (Below.setCell h ?_ _) ?_ _) ?_ _) ?_ _) ?_ _ <;> exact hB
theorem Five.other {W : World} {B B' : Nat} {T : TypeId} {c n f t a : Int} (h : Five W B T c n f t a) (hne : B ≠ B') (c' n' f' t' a' : Int) : Five (set5 W B' c' n' f' t' a') B T c n f t a := by
  unfold Five set5
  rw [Below.heap_setCell _ _ _ _ hne, Below.heap_setCell _ _ _ _ hne, Below.heap_setCell _ _ _ _ hne, Below.heap_setCell _ _ _ _ hne, Below.heap_setCell _ _ _ _ hne]
  exact h
set_option maxRecDepth 100000 in
theorem cparse_ret {R : Ending → World → Prop} {W : World} {B : Nat} {c n f t a k : Int} {tm : Array Value} (h : Five W B 54 c n f t a) (hp : tm.getD 2 undef = .pointer (some ⟨B, 0, none⟩)) (hk : tm.getD 3 undef = .int .i64 k)
    (hR : R (.returned (.tuple #[cV c n f t a, .int .i64 k])) W) : bodyPost Tryz.prog Tryz.f37 R .ret { tmps := tm, defers := [] } W := by
  obtain ⟨c0, c1, c2, c3, c4⟩ := h.cells
  refine bodyPost_ret (v := .tuple #[cV c n f t a, .int .i64 k]) ?_ rfl hR
  rw [results_cell_tmp (p := 2) (u := 3) (ty := 54) rfl, hp, hk]
  simp [go_sem, c0, c1, c2, c3, c4]
set_option maxRecDepth 100000 in
theorem rparse_ret {R : Ending → World → Prop} {W : World} {B : Nat} {c n f t a k : Int} {tm : Array Value} (h : Five W B 56 c n f t a) (hp : tm.getD 2 undef = .pointer (some ⟨B, 0, none⟩)) (hk : tm.getD 3 undef = .int .i64 k)
    (hR : R (.returned (.tuple #[cV c n f t a, .int .i64 k])) W) : bodyPost Tryz.prog Tryz.f45 R .ret { tmps := tm, defers := [] } W := by
  obtain ⟨c0, c1, c2, c3, c4⟩ := h.cells
  refine bodyPost_ret (v := .tuple #[cV c n f t a, .int .i64 k]) ?_ rfl hR
  rw [results_cell_tmp (p := 2) (u := 3) (ty := 56) rfl, hp, hk]
  simp [go_sem, c0, c1, c2, c3, c4]
def ParseCEnd (r : (Int × Int × Int × Int × Int) × Nat) (e : Ending) : Prop := e = .returned (.tuple #[cV r.1.1 r.1.2.1 r.1.2.2.1 r.1.2.2.2.1 r.1.2.2.2.2, .int .i64 (r.2 : Int)])
end Go.Proofs.YtgomondmogpkeaaGreatDoor
