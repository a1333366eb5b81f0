/- The law CmdDigests: all ways together. -/
import Derived.Test.YtgomondmogpkeaaGreatDoorLDigA
import Derived.Test.YtgomondmogpkeaaGreatDoorLDigB
import Derived.Test.YtgomondmogpkeaaGreatDoorLDigC
set_option linter.unusedVariables false
namespace Go.Proofs.YtgomondmogpkeaaGreatDoor
open Go.RowKit Go.Sort
theorem wrap_sum {x b : Int} (hx : I64 x) (hb : I64 b) : I64 (IntKind.i64.wrap (x + b)) ∧ (b = 0 → IntKind.i64.wrap (x + b) = x) ∧ (b ≠ 0 → (IntKind.i64.wrap (x + b) == x) = false) := by
  obtain ⟨h1, h2⟩ := hx
  obtain ⟨h3, h4⟩ := hb
  have e := IntKind.wrap_i64 (x + b)
  generalize IntKind.i64.wrap (x + b) = y at *
  refine ⟨⟨by omega, by omega⟩, fun h => by omega, fun h => ?_⟩
  rw [beq_eq_false_iff_ne]
  omega
theorem cmdDigests_walk' {w : World} (c n f t a : Int) (h : I5 c n f t a) (x : Int) (wx : (Lit.int .u8 x).wf = true) (b : Int) (wb : (Lit.int .i64 b).wf = true) (hg : RngOk w ∧ TabOk w) :
    Calls Tryz.prog 13 #[cV c n f t a, .int .u8 x, .int .i64 b] w fun e w' => e = .returned (.bool true) ∧ Ext w w' := by
  by_cases ho : OkC c n f t a
  case neg => exact dig_no c n f t a x b ho w hg.1 hg.2
  have hx := bounds_u8 wx
  have hb : I64 b := bounds_i64 wb
  have h5 : x.tmod 5 = x % 5 := Int.tmod_eq_emod_of_nonneg (by omega)
  have hx0 : 0 ≤ x := by omega
  have hx1 : x ≤ 255 := by omega
  have hj : x.tmod 5 = 0 ∨ x.tmod 5 = 1 ∨ x.tmod 5 = 2 ∨ x.tmod 5 = 3 ∨ x.tmod 5 = 4 := by omega
  clear h5 hx
  rcases hj with g | g | g | g | g
  · obtain ⟨h1, h2, h3⟩ := wrap_sum h.1 hb
    by_cases hz : b = 0
    · exact dig_0_0 c n f t a x b c h ho hx0 hx1 g (by simpa using hz) (h2 hz) w hg.1 hg.2
    · have h4 := h3 hz
      generalize hy : IntKind.i64.wrap (c + b) = y at *
      have hb2 : I5 y n f t a := ⟨h1, h.2.1, h.2.2.1, h.2.2.2.1, h.2.2.2.2⟩
      rcases parse_text2 hb2 with ⟨_, hp⟩ | ⟨_, q, hp, hq⟩
      · exact dig_0_1 c n f t a x b y h ho hx0 hx1 g (by simpa using hz) hy h4 hb2 hp w hg.1 hg.2
      · exact dig_0_2 c n f t a x b y h ho hx0 hx1 g (by simpa using hz) hy h4 hb2 q hq hp w hg.1 hg.2
  · obtain ⟨h1, h2, h3⟩ := wrap_sum h.2.1 hb
    by_cases hz : b = 0
    · exact dig_1_0 c n f t a x b n h ho hx0 hx1 g (by simpa using hz) (h2 hz) w hg.1 hg.2
    · have h4 := h3 hz
      generalize hy : IntKind.i64.wrap (n + b) = y at *
      have hb2 : I5 c y f t a := ⟨h.1, h1, h.2.2.1, h.2.2.2.1, h.2.2.2.2⟩
      rcases parse_text2 hb2 with ⟨_, hp⟩ | ⟨_, q, hp, hq⟩
      · exact dig_1_1 c n f t a x b y h ho hx0 hx1 g (by simpa using hz) hy h4 hb2 hp w hg.1 hg.2
      · exact dig_1_2 c n f t a x b y h ho hx0 hx1 g (by simpa using hz) hy h4 hb2 q hq hp w hg.1 hg.2
  · obtain ⟨h1, h2, h3⟩ := wrap_sum h.2.2.1 hb
    by_cases hz : b = 0
    · exact dig_2_0 c n f t a x b f h ho hx0 hx1 g (by simpa using hz) (h2 hz) w hg.1 hg.2
    · have h4 := h3 hz
      generalize hy : IntKind.i64.wrap (f + b) = y at *
      have hb2 : I5 c n y t a := ⟨h.1, h.2.1, h1, h.2.2.2.1, h.2.2.2.2⟩
      rcases parse_text2 hb2 with ⟨_, hp⟩ | ⟨_, q, hp, hq⟩
      · exact dig_2_1 c n f t a x b y h ho hx0 hx1 g (by simpa using hz) hy h4 hb2 hp w hg.1 hg.2
      · exact dig_2_2 c n f t a x b y h ho hx0 hx1 g (by simpa using hz) hy h4 hb2 q hq hp w hg.1 hg.2
  · obtain ⟨h1, h2, h3⟩ := wrap_sum h.2.2.2.1 hb
    by_cases hz : b = 0
    · exact dig_3_0 c n f t a x b t h ho hx0 hx1 g (by simpa using hz) (h2 hz) w hg.1 hg.2
    · have h4 := h3 hz
      generalize hy : IntKind.i64.wrap (t + b) = y at *
      have hb2 : I5 c n f y a := ⟨h.1, h.2.1, h.2.2.1, h1, h.2.2.2.2⟩
      rcases parse_text2 hb2 with ⟨_, hp⟩ | ⟨_, q, hp, hq⟩
      · exact dig_3_1 c n f t a x b y h ho hx0 hx1 g (by simpa using hz) hy h4 hb2 hp w hg.1 hg.2
      · exact dig_3_2 c n f t a x b y h ho hx0 hx1 g (by simpa using hz) hy h4 hb2 q hq hp w hg.1 hg.2
  · obtain ⟨h1, h2, h3⟩ := wrap_sum h.2.2.2.2 hb
    by_cases hz : b = 0
    · exact dig_4_0 c n f t a x b a h ho hx0 hx1 g (by simpa using hz) (h2 hz) w hg.1 hg.2
    · have h4 := h3 hz
      generalize hy : IntKind.i64.wrap (a + b) = y at *
      have hb2 : I5 c n f t y := ⟨h.1, h.2.1, h.2.2.1, h.2.2.2.1, h1⟩
      rcases parse_text2 hb2 with ⟨_, hp⟩ | ⟨_, q, hp, hq⟩
      · exact dig_4_1 c n f t a x b y h ho hx0 hx1 g (by simpa using hz) hy h4 hb2 hp w hg.1 hg.2
      · exact dig_4_2 c n f t a x b y h ho hx0 hx1 g (by simpa using hz) hy h4 hb2 q hq hp w hg.1 hg.2
end Go.Proofs.YtgomondmogpkeaaGreatDoor
