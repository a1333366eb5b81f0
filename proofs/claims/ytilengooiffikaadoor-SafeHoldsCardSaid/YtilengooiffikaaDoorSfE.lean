/- The digests, the tree, the votes of known() of law 18. -/
import Derived.Test.YtilengooiffikaaDoorTKn
import Derived.Test.YtilengooiffikaaDoorSfD
set_option linter.unusedVariables false
namespace Go.Proofs.YtilengooiffikaaDoor
/-- A block whose QC has a view. -/
abbrev qB (v : Int) (p : Nat) (q : Int) (lo hi : Int) : T.B := ⟨v, p, q, p, lo, hi⟩
theorem dig_qb (b : T.B) (d : Nat) (h : (T.ok b && decide (T.digF b = d)) = true) : T.dig b = d := by
  rw [Bool.and_eq_true] at h
  rw [T.dig_fast _ h.1]
  exact of_decide_eq_true h.2
abbrev LS1 (da : Nat) : List (Nat × T.B) := (da, mkB 1 0 0 5) :: T.new
abbrev LS2 (da db : Nat) : List (Nat × T.B) := (db, qB 2 da 1 5 9) :: LS1 da
abbrev LS3 (da db dc : Nat) : List (Nat × T.B) := (dc, qB 3 db 2 9 12) :: LS2 da db
abbrev LS4 (da db dc dd : Nat) : List (Nat × T.B) := (dd, mkB 4 0 0 7) :: LS3 da db dc
structure Kn18 (da db dc dd de : Nat) : Prop where
  a : T.dig (mkB 1 0 0 5) = da
  b : T.dig (qB 2 da 1 5 9) = db
  c : T.dig (qB 3 db 2 9 12) = dc
  d : T.dig (mkB 4 0 0 7) = dd
  e : T.dig (mkB 9 0 0 99) = de
  lt : da < 18446744073709551616 ∧ db < 18446744073709551616 ∧ dc < 18446744073709551616 ∧ dd < 18446744073709551616 ∧ de < 18446744073709551616
  c1 : T.code T.new da (mkB 1 0 0 5) = 0
  c2 : T.code (LS1 da) db (qB 2 da 1 5 9) = 0
  c3 : T.code (LS2 da db) dc (qB 3 db 2 9 12) = 0
  c4 : T.code (LS3 da db dc) dd (mkB 4 0 0 7) = 0
  wa : T.way (LS4 da db dc dd) 9 da = some [da, 0]
  wb : T.way (LS4 da db dc dd) 9 db = some [db, da, 0]
  wc : T.way (LS4 da db dc dd) 9 dc = some [dc, db, da, 0]
  wd : T.way (LS4 da db dc dd) 9 dd = some [dd, 0]
  ga : (T.get (LS4 da db dc dd) da).isSome = true
  gb : (T.get (LS4 da db dc dd) db).isSome = true
  gc : (T.get (LS4 da db dc dd) dc).isSome = true
  gd : (T.get (LS4 da db dc dd) dd).isSome = true
  ge : (T.get (LS4 da db dc dd) de).isSome = false
  s1 : sawF (LS4 da db dc dd) ⟨1, 0, 0, 0, 0⟩ (0, 0) = ⟨1, 0, 0, 0, 0⟩
  s2 : sawF (LS4 da db dc dd) ⟨2, 0, 0, 0, 0⟩ (1, da) = ⟨2, 0, 0, 1, da⟩
  s3 : sawF (LS4 da db dc dd) ⟨3, 0, 0, 1, da⟩ (2, db) = ⟨3, 1, da, 2, db⟩
  i1 : decide (0 ∈ [da, 0]) = true
  i2 : decide (0 ∈ [db, da, 0]) = true
  i3 : decide (0 ∈ [dc, db, da, 0]) = true
  i4 : decide (da ∈ [dc, db, da, 0]) = true
  i5 : decide (da ∈ [dd, 0]) = false
theorem kn18 : ∃ da db dc dd de, Kn18 da db dc dd de :=
  ⟨3515922187238252777, 4300589690417165848, 7291215111155805340, 10132649056319210549, 16517825461125140006, ⟨dig_qb _ _ (by decide +kernel), dig_qb _ _ (by decide +kernel), dig_qb _ _ (by decide +kernel), dig_qb _ _ (by decide +kernel), dig_qb _ _ (by decide +kernel), by decide +kernel, by decide +kernel, by decide +kernel, by decide +kernel, by decide +kernel, by decide +kernel, by decide +kernel, by decide +kernel, by decide +kernel, by decide +kernel, by decide +kernel, by decide +kernel, by decide +kernel, by decide +kernel, by decide +kernel, by decide +kernel, by decide +kernel, by decide +kernel, by decide +kernel, by decide +kernel, by decide +kernel, by decide +kernel⟩⟩
end Go.Proofs.YtilengooiffikaaDoor
