/- The digests and the trees of known() of law 17. -/
import Derived.Test.YtilengooiffikaaDoorTSpec
import Derived.Test.YtilengooiffikaaDoorTW1
set_option linter.unusedVariables false
namespace Go.Proofs.YtilengooiffikaaDoor
theorem dig_mk (v : Int) (p : Nat) (lo hi : Int) (d : Nat) (h : (T.ok (mkB v p lo hi) && decide (T.digF (mkB v p lo hi) = d)) = true) : T.dig (mkB v p lo hi) = d := by
  rw [Bool.and_eq_true] at h
  rw [T.dig_fast _ h.1]
  exact of_decide_eq_true h.2
theorem get_all {P : T.B → Prop} : ∀ {L : List (Nat × T.B)}, (∀ p ∈ L, P p.2) → ∀ {x : Nat} {b : T.B}, T.get L x = some b → P b
  | [], _, _, _, h => by cases h
  | (k, c) :: L, hp, x, b, h => by
    unfold T.get at h
    split at h
    · cases h; exact hp (k, c) (by simp)
    · exact get_all (fun p hm => hp p (by simp [hm])) h
abbrev LK1 (da : Nat) : List (Nat × T.B) := (da, mkB 1 0 0 5) :: T.new
abbrev LK2 (da db : Nat) : List (Nat × T.B) := (db, mkB 2 da 5 9) :: LK1 da
abbrev LK3 (da db dc : Nat) : List (Nat × T.B) := (dc, mkB 3 db 9 12) :: LK2 da db
abbrev LK4 (da db dc dd : Nat) : List (Nat × T.B) := (dd, mkB 3 da 5 7) :: LK3 da db dc
abbrev LK5 (da db dc dd de : Nat) : List (Nat × T.B) := (de, mkB 5 dc 12 13) :: LK4 da db dc dd
/-- What known() of law 17 leans on. -/
structure Kn17 (da db dc dd de x1 x2 : Nat) : Prop where
  a : T.dig (mkB 1 0 0 5) = da
  b : T.dig (mkB 2 da 5 9) = db
  c : T.dig (mkB 3 db 9 12) = dc
  d : T.dig (mkB 3 da 5 7) = dd
  e : T.dig (mkB 5 dc 12 13) = de
  x : T.dig (mkB 1 da 5 6) = x1
  y : T.dig (mkB 9 da 6 7) = x2
  lt : da < 18446744073709551616 ∧ db < 18446744073709551616 ∧ dc < 18446744073709551616 ∧ dd < 18446744073709551616 ∧ de < 18446744073709551616
  c0 : T.code T.new db (mkB 2 da 5 9) = 11
  c1 : T.code T.new da (mkB 1 0 0 5) = 0
  c2 : T.code (LK1 da) db (mkB 2 da 5 9) = 0
  c3 : T.code (LK2 da db) dc (mkB 3 db 9 12) = 0
  c4 : T.code (LK3 da db dc) dd (mkB 3 da 5 7) = 0
  c5 : T.code (LK4 da db dc dd) de (mkB 5 dc 12 13) = 0
  w1 : T.way (LK5 da db dc dd de) 9 dc = some [dc, db, da, 0]
  w2 : T.way (LK5 da db dc dd de) 9 de = some [de, dc, db, da, 0]
  w3 : T.way (LK5 da db dc dd de) 9 dd = some [dd, da, 0]
  m1 : T.commit (LK5 da db dc dd de) [dc, db, da, 0] = some da
  m2 : T.commit (LK5 da db dc dd de) [de, dc, db, da, 0] = none
  g : T.get (LK5 da db dc dd de) dd = some (mkB 3 da 5 7)
  c6 : T.code (LK5 da db dc dd de) da (mkB 1 0 0 5) = 5
  c7 : T.code (LK5 da db dc dd de) x1 (mkB 1 da 5 6) = 12
  c8 : T.code (LK5 da db dc dd de) x2 (mkB 9 da 6 7) = 10
  i1 : decide (da ∈ [dc, db, da, 0]) = true
  i2 : decide (db ∈ [dd, da, 0]) = false
  i3 : decide (0 ∈ [dd, da, 0]) = true
theorem kn17 : ∃ da db dc dd de x1 x2, Kn17 da db dc dd de x1 x2 :=
  ⟨3515922187238252777, 10259852832537416713, 14701683749170986741, 85269892179537992, 16070208864198968256, 15800283372918010036, 7056641645609381088, ⟨dig_mk _ _ _ _ _ (by decide +kernel), dig_mk _ _ _ _ _ (by decide +kernel), dig_mk _ _ _ _ _ (by decide +kernel), dig_mk _ _ _ _ _ (by decide +kernel), dig_mk _ _ _ _ _ (by decide +kernel), dig_mk _ _ _ _ _ (by decide +kernel), dig_mk _ _ _ _ _ (by decide +kernel), by decide +kernel, by decide +kernel, by decide +kernel, by decide +kernel, by decide +kernel, by decide +kernel, by decide +kernel, by decide +kernel, by decide +kernel, by decide +kernel, by decide +kernel, by decide +kernel, rfl, by decide +kernel, by decide +kernel, by decide +kernel, by decide +kernel, by decide +kernel, by decide +kernel⟩⟩
end Go.Proofs.YtilengooiffikaaDoor
