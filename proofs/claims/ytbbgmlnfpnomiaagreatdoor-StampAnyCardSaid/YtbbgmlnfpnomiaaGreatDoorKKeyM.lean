/- Texts put together: KKey1, KKey2. -/
import Derived.Test.YtbbgmlnfpnomiaaGreatDoorKMerM
import Derived.Test.YtbbgmlnfpnomiaaGreatDoorLA
import Derived.Deep.RegionHeld3
section
/- A key in memory; the walks of key.New, Root, Next, Left, Reserve, Skip, Twin. -/
set_option linter.unusedVariables false
set_option linter.unusedSimpArgs false
namespace Go.Proofs.YtbbgmlnfpnomiaaGreatDoor
open Go.RowKit Go.Sort
def kV (who : Int) (seed h : Nat) (A : Option Addr) (c : Nat) (next bound : Int) : List Value := [.int .i64 who, cU64 seed, .slice A (2 ^ h) c, .int .i64 next, .int .i64 bound]
/-- A key in memory: whose, of which seed and height, how many leaves are used, how many are promised. -/
structure KA (W : World) (kb : Nat) (who : Int) (seed h : Nat) (A : Option Addr) (c : Nat) (next bound : Int) : Prop where
  blk : Blk W kb 200 (kV who seed h A c next bound)
  rd : Rd W A (cDg (K.pubs seed h))
  ap : ∀ ad, A = some ad → ad.block ≠ kb
section
variable {W W' : World} {kb : Nat} {who : Int} {seed h : Nat} {A : Option Addr} {c : Nat} {next bound : Int}
theorem KA.ext (k : KA W kb who seed h A c next bound) (x : Ext W W') : KA W' kb who seed h A c next bound := ⟨k.blk.ext x, k.rd.ext x, k.ap⟩
theorem Rd.setOther {xs : List Value} (hr : Rd W A xs) {b j : Nat} (ha : ∀ ad, A = some ad → ad.block ≠ b) (v : Value) : Rd (W.setCell ⟨b, j, none⟩ v) A xs := by
  rcases hr with rfl | ⟨ad, e, hb, hc⟩
  · exact .inl rfl
  · refine .inr ⟨ad, e, by simpa [World.setCell] using hb, fun i hi => ?_⟩
    rw [World.cell?_setCell_other _ _ _ _ (by intro e2; exact ha ad e ((add_block ad i).symm.trans (congrArg Addr.block e2.symm)))]
    exact hc i hi
theorem KA.setN (k : KA W kb who seed h A c next bound) (n : Int) : KA (W.setCell ⟨kb, 3, none⟩ (.int .i64 n)) kb who seed h A c n bound := ⟨k.blk.set 3 _, k.rd.setOther k.ap _, k.ap⟩
theorem KA.setB (k : KA W kb who seed h A c next bound) (n : Int) : KA (W.setCell ⟨kb, 4, none⟩ (.int .i64 n)) kb who seed h A c next n := ⟨k.blk.set 4 _, k.rd.setOther k.ap _, k.ap⟩
theorem KA.other (k : KA W kb who seed h A c next bound) {b j : Nat} (h1 : kb ≠ b) (h2 : ∀ ad, A = some ad → ad.block ≠ b) (v : Value) : KA (W.setCell ⟨b, j, none⟩ v) kb who seed h A c next bound := ⟨k.blk.other h1 _, k.rd.setOther h2 _, k.ap⟩
theorem KA.c0 (k : KA W kb who seed h A c next bound) : W.cell? ⟨kb, 0, none⟩ = some (.int .i64 who) := k.blk.cell rfl
theorem KA.c1 (k : KA W kb who seed h A c next bound) : W.cell? ⟨kb, 1, none⟩ = some (cU64 seed) := k.blk.cell rfl
theorem KA.c2 (k : KA W kb who seed h A c next bound) : W.cell? ⟨kb, 2, none⟩ = some (.slice A (2 ^ h) c) := k.blk.cell rfl
theorem KA.c3 (k : KA W kb who seed h A c next bound) : W.cell? ⟨kb, 3, none⟩ = some (.int .i64 next) := k.blk.cell rfl
theorem KA.c4 (k : KA W kb who seed h A c next bound) : W.cell? ⟨kb, 4, none⟩ = some (.int .i64 bound) := k.blk.cell rfl
end
abbrev kP (kb : Nat) : Value := .pointer (some ⟨kb, 0, none⟩)
section
variable {kb : Nat} {who : Int} {seed h : Nat} {A : Option Addr} {c : Nat} {next bound : Int}
set_option maxRecDepth 100000 in
theorem knext_calls (w : World) (k : KA w kb who seed h A c next bound) : Calls Tryz.prog 31 #[kP kb] w fun e w' => e = .returned (.int .i64 next) ∧ w = w' := by
  have c3 := k.c3
  clear k
  go_enter Tryz.func31, Tryz.ntmps31
  go_wp2
  go_ret
  exact ⟨rfl, rfl⟩
set_option maxRecDepth 100000 in
theorem kleft_calls (w : World) (hh : h ≤ 8) (hn : 0 ≤ next ∧ next ≤ 100000) (k : KA w kb who seed h A c next bound) : Calls Tryz.prog 32 #[kP kb] w fun e w' => e = .returned (.int .i64 ((2 ^ h : Nat) - next)) ∧ Ext w w' := by
  have c3 := k.c3
  have c2 := k.c2
  have hp := pow_le8 hh
  generalize 2 ^ h = n at *
  have HW := Lib.hid (show IntKind.i64.wrap ((n : Int) - next) = (n : Int) - next from IntWalk.i64_in _ (by omega))
  clear k
  go_enter Tryz.func32, Tryz.ntmps32
  go_wp2
  go_region
  go_wp2
  go_ret
  exact ⟨by first | rfl | (rw [← HW.out]; rfl) | simp [HW.out], (Ext.rfl' _).drew⟩
set_option maxRecDepth 100000 in
theorem kroot_calls (w : World) (hh : h ≤ 8) (k : KA w kb who seed h A c next bound) : Calls Tryz.prog 33 #[kP kb] w fun e w' => e = .returned (cU64 (K.root h (K.pubs seed h))) ∧ Ext w w' := by
  have c2 := k.c2
  have HC := Lib.hid (root_calls h hh (K.pubs seed h) (K.pubs_lt seed h) (K.pubs_len seed h) A c w k.rd)
  rw [K.pubs_len] at HC
  clear k
  generalize 2 ^ h = n at *
  go_enter Tryz.func33, Tryz.ntmps33
  go_wp2_with fail
  refine HC.out.mono ?_
  rintro e w1 ⟨rfl, hx⟩
  have HX := Lib.hid hx
  clear hx
  go_wp2
  go_ret
  exact ⟨rfl, HX.out⟩
set_option maxRecDepth 100000 in
theorem ktwin_calls (w : World) (k : KA w kb who seed h A c next bound) : Calls Tryz.prog 30 #[kP kb] w fun e w' => (∃ kb', e = .returned (kP kb') ∧ KA w' kb' who seed h A c next bound ∧ w.heap.size ≤ kb') ∧ Ext w w' := by
  have hb := k.blk
  have HK := Lib.hid k
  clear k
  go_enter Tryz.func30, Tryz.ntmps30
  go_wp2_with (first
    | (refine wpList_load_row rfl _ _ rfl kb rfl 200 (kV who seed h A c next bound).toArray (0, 0) _ hb Tryz.underlying200 rfl rfl ?_)
    | (refine wpList_store_new rfl _ _ _ rfl _ _ (kV who seed h A c next bound) rfl rfl rfl rfl (fun x hx => by simp only [kV, List.mem_cons, List.not_mem_nil, or_false] at hx; rcases hx with rfl | rfl | rfl | rfl | rfl <;> rfl) ?_; intro W1 hX1 hB1))
  have HF := Lib.hid (show KA W1 w.heap.size who seed h A c next bound ∧ Ext w W1 from ⟨⟨hB1, HK.out.rd.ext hX1, fun ad e => by
    rcases HK.out.rd with h0 | ⟨ad', e', hb', _⟩
    · have := congrArg List.length h0
      simp [K.pubs_len] at this
    · rw [e] at e'; cases e'; exact Nat.ne_of_lt hb'⟩, hX1⟩)
  clear hX1 hB1
  go_ret
  exact ⟨⟨_, rfl, HF.out.1, Nat.le_refl _⟩, HF.out.2⟩
end
end Go.Proofs.YtbbgmlnfpnomiaaGreatDoor
end

section
/- The walks of key.Reserve, Skip, Sign. -/
set_option linter.unusedVariables false
set_option linter.unusedSimpArgs false
namespace Go.Proofs.YtbbgmlnfpnomiaaGreatDoor
open Go.RowKit Go.Sort
/-- Nothing that was there has changed but a key. -/
abbrev KG (kb : Nat) (w w' : World) : Prop := w.grownBy w' (some kb)
theorem KG.of_ext {kb : Nat} {w w' : World} (k : Ext w w') : KG kb w w' := ⟨k.os, k.tape, k.output, k.size, fun j hj _ => k.block j hj⟩
theorem KG.tr {kb : Nat} {a b c : World} (h : KG kb a b) (k : KG kb b c) : KG kb a c := World.grownBy.trans h k
theorem KG.set {w W : World} {g : Nat} (h : KG g w W) (o : Nat) (v : Value) : KG g w (W.setCell ⟨g, o, none⟩ v) :=
  ⟨h.os, h.tape, h.output, by simpa [World.setCell] using h.size, fun j hj hne => by
    rw [Below.heap_setCell _ _ _ _ (by intro e; exact hne (congrArg some e))]
    exact h.block j hj hne⟩
theorem KG.below {kb B : Nat} {a b c : World} (h : Below B a b) (k : KG kb b c) (hm : B ≤ kb) (hb : B ≤ b.heap.size) : Below B a c := h.grown k hb (fun q hq => by cases hq; exact hm)
section
variable {kb : Nat} {who : Int} {seed h : Nat} {A : Option Addr} {c : Nat} {next bound : Int}
set_option maxRecDepth 100000 in
theorem reserve_bad (w : World) (n : Int) (hn : n < 1) : Calls Tryz.prog 26 #[kP kb, .int .i64 n] w fun e w' => e = .returned (.tuple #[.int .i64 0, .int .i64 1]) ∧ w = w' := by
  go_enter Tryz.func26, Tryz.ntmps26
  go_wp2
  exact bodyPost_ret (v := .tuple #[.int .i64 0, .int .i64 1]) (by simp [results, Tryz.f26, go_sem]) rfl ⟨rfl, rfl⟩
set_option maxRecDepth 100000 in
theorem reserve_spent (w : World) (hh : h ≤ 8) (n : Int) (hn : 1 ≤ n) (hb : 0 ≤ bound ∧ bound ≤ 100000) (hs : ((2 ^ h : Nat) : Int) - bound < n) (k : KA w kb who seed h A c next bound) :
    Calls Tryz.prog 26 #[kP kb, .int .i64 n] w fun e w' => e = .returned (.tuple #[.int .i64 0, .int .i64 14]) ∧ Ext w w' := by
  have c2 := k.c2
  have c4 := k.c4
  have hp := pow_le8 hh
  generalize 2 ^ h = N at *
  have hw : IntKind.i64.wrap ((N : Int) - bound) = (N : Int) - bound := IntWalk.i64_in _ (by omega)
  have hge : ¬ (n < 1) := by omega
  clear k
  go_enter Tryz.func26, Tryz.ntmps26
  go_wp2
  go_region
  go_wp2
  exact bodyPost_ret (v := .tuple #[.int .i64 0, .int .i64 14]) (by simp [results, Tryz.f26, go_sem]) rfl ⟨rfl, (Ext.rfl' _).drew⟩
set_option maxRecDepth 100000 in
theorem reserve_ok (w : World) (hh : h ≤ 8) (n : Int) (hn : 1 ≤ n) (hb : 0 ≤ bound ∧ bound ≤ 100000) (hs : n ≤ ((2 ^ h : Nat) : Int) - bound) (k : KA w kb who seed h A c next bound) :
    Calls Tryz.prog 26 #[kP kb, .int .i64 n] w fun e w' => e = .returned (.tuple #[.int .i64 (bound + n), .int .i64 0]) ∧ KA w' kb who seed h A c next (bound + n) ∧ KG kb w w' := by
  have c2 := k.c2
  have c4 := k.c4
  have hp := pow_le8 hh
  have HF := Lib.hid (show KA (w.drew.setCell ⟨kb, 4, none⟩ (.int .i64 (bound + n))) kb who seed h A c next (bound + n) ∧ KG kb w (w.drew.setCell ⟨kb, 4, none⟩ (.int .i64 (bound + n))) from ⟨(k.ext (Ext.rfl' w).drew).setB _, (KG.of_ext (Ext.rfl' w).drew).set 4 _⟩)
  have f4 := k.blk.frozen 4
  generalize 2 ^ h = N at *
  have hw : IntKind.i64.wrap ((N : Int) - bound) = (N : Int) - bound := IntWalk.i64_in _ (by omega)
  have hw2 : IntKind.i64.wrap (bound + n) = bound + n := IntWalk.i64_in _ (by omega)
  have hge : ¬ (n < 1) := by omega
  have hge2 : ¬ ((N : Int) - bound < n) := by omega
  clear k
  go_enter Tryz.func26, Tryz.ntmps26
  go_wp2
  go_region
  go_wp2
  exact bodyPost_ret (v := .tuple #[.int .i64 (bound + n), .int .i64 0]) (by simp [results, Tryz.f26, go_sem]) rfl ⟨rfl, HF.out.1, HF.out.2⟩
set_option maxRecDepth 100000 in
theorem skip_bad (w : World) (tt : Int) (hs : tt < next ∨ ((2 ^ h : Nat) : Int) < tt) (k : KA w kb who seed h A c next bound) :
    Calls Tryz.prog 28 #[kP kb, .int .i64 tt] w fun e w' => e = .returned (.int .i64 1) ∧ w = w' := by
  have c2 := k.c2
  have c3 := k.c3
  generalize 2 ^ h = N at *
  clear k
  by_cases hc : tt < next
  · clear hs
    go_enter Tryz.func28, Tryz.ntmps28
    go_wp2
    go_ret
    exact ⟨rfl, rfl⟩
  · have hgt : (N : Int) < tt := by omega
    clear hs
    go_enter Tryz.func28, Tryz.ntmps28
    go_wp2
    go_ret
    exact ⟨rfl, rfl⟩
set_option maxRecDepth 100000 in
theorem skip_ok (w : World) (tt : Int) (hs1 : next ≤ tt) (hs2 : tt ≤ ((2 ^ h : Nat) : Int)) (k : KA w kb who seed h A c next bound) :
    Calls Tryz.prog 28 #[kP kb, .int .i64 tt] w fun e w' => e = .returned (.int .i64 0) ∧ KA w' kb who seed h A c tt (max bound tt) ∧ KG kb w w' := by
  have c2 := k.c2
  have c3 := k.c3
  have c4 := k.c4
  have f3 := k.blk.frozen 3
  have f4 := k.blk.frozen 4
  have HF := Lib.hid (show KA ((w.setCell ⟨kb, 3, none⟩ (.int .i64 tt)).setCell ⟨kb, 4, none⟩ (.int .i64 (max bound tt))) kb who seed h A c tt (max bound tt) ∧ KG kb w ((w.setCell ⟨kb, 3, none⟩ (.int .i64 tt)).setCell ⟨kb, 4, none⟩ (.int .i64 (max bound tt))) from ⟨(k.setN tt).setB _, ((KG.of_ext (Ext.rfl' w)).set 3 _).set 4 _⟩)
  have c4' := (k.setN tt).c4
  have f4' := (k.setN tt).blk.frozen 4
  generalize 2 ^ h = N at *
  have hge : ¬ (tt < next) := by omega
  have hge2 : ¬ ((N : Int) < tt) := by omega
  clear k
  rcases Int.le_total bound tt with hle | hle
  · rw [Int.max_eq_right hle] at HF ⊢
    have hm1 : max bound tt = tt := Int.max_eq_right hle
    go_enter Tryz.func28, Tryz.ntmps28
    go_wp2
    all_goals
      go_ret
      exact ⟨rfl, HF.out.1, HF.out.2⟩
  · rw [Int.max_eq_left hle] at HF ⊢
    have hm1 : max bound tt = bound := Int.max_eq_left hle
    go_enter Tryz.func28, Tryz.ntmps28
    go_wp2
    all_goals
      go_ret
      exact ⟨rfl, HF.out.1, HF.out.2⟩
end
end Go.Proofs.YtbbgmlnfpnomiaaGreatDoor
end
