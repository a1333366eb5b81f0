/- Opening of a command that came in. -/
import Derived.Test.YtgomondmogpkeaaGreatDoorLaidF
import Derived.Test.YtgomondmogpkeaaGreatDoorWText9
set_option linter.unusedVariables false
namespace Go.Proofs.YtgomondmogpkeaaGreatDoor
open Go.ChangeShapes Go.WideShapes Go.ChangeAt Go.RowKit
theorem int_at {H : Type} {enc : TypeId × Value → H} {W : World} {fuel : Nat} {t : TypeId} {v : Value} {x : Option (DataW H × List MemPlace)} (ht : Tryz.prog.underlying t = some (.int .i64))
    (h : DataW.trod enc Tryz.prog W 0 (fun _ => true) true fuel t [v] = x) (hx : x.isSome = true) : ∃ n, v = .int .i64 n ∧ I64 n := by
  obtain ⟨y, rfl⟩ := Option.isSome_iff_exists.1 hx
  obtain ⟨n, h1, _, hw⟩ := DataW.trod_int ht h
  cases h1
  exact ⟨n, rfl, bounds_i64 hw⟩
set_option maxRecDepth 100000 in
theorem open_cmd {H : Type} {enc : TypeId × Value → H} {W : World} {r : Reach} {base : Nat} {v : Value} {d : DataW H} {ps : List MemPlace}
    (hv : Value.okWide Tryz.prog W r base 54 v) (h : DataW.Trod enc Tryz.prog W 0 (fun _ => true) true 54 v d ps) :
    ∃ c n f t a, v = cV c n f t a ∧ I5 c n f t a := by
  obtain ⟨cs, rfl, hsz⟩ := okWide_struct Tryz.underlying54 hv
  obtain ⟨l⟩ := cs
  match l, hsz.trans (show Tryz.prog.cellsOf 54 = 5 by kernel_rfl) with
  | [v0, v1, v2, v3, v4], _ =>
    obtain ⟨fuel, hf⟩ := h
    obtain ⟨xs, m, _, _, _, hlen, hg⟩ := DataW.trod_struct Tryz.underlying54 hf
    have g0 := hg 0 _ rfl
    have g1 := hg 1 _ rfl
    have g2 := hg 2 _ rfl
    have g3 := hg 3 _ rfl
    have g4 := hg 4 _ rfl
    have hl5 : xs.length = 5 := hlen
    simp only [Value.cells] at g0 g1 g2 g3 g4
    obtain ⟨c, rfl, hc⟩ := int_at Tryz.underlying3 g0 (by simp; omega)
    obtain ⟨n, rfl, hn⟩ := int_at Tryz.underlying3 g1 (by simp; omega)
    obtain ⟨f, rfl, hf'⟩ := int_at Tryz.underlying3 g2 (by simp; omega)
    obtain ⟨t, rfl, ht⟩ := int_at Tryz.underlying3 g3 (by simp; omega)
    obtain ⟨a, rfl, ha⟩ := int_at Tryz.underlying2 g4 (by simp; omega)
    exact ⟨c, n, f, t, a, rfl, hc, hn, hf', ht, ha⟩
end Go.Proofs.YtgomondmogpkeaaGreatDoor
