/- The walks of field.Nums, of the reference's Num and Nums. -/
import Derived.Test.YtilengooiffikaaDoorWMap
import Derived.Lib.ItoaLen
import Derived.Lib.Join
set_option linter.unusedVariables false
namespace Go.Proofs.YtilengooiffikaaDoor
open Go.RowKit Go.Sort
def I64 (n : Int) : Prop := -9223372036854775808 ≤ n ∧ n ≤ 9223372036854775807
/-- Numbers between commas. -/
def numsL (l : List Int) : List UInt8 := Lib.join (l.map Lib.itoa) [44]
theorem lens_le (l : List Int) (hb : ∀ n ∈ l, I64 n) : Lib.lens (l.map Lib.itoa) ≤ 21 * l.length := by
  induction l with
  | nil => exact Nat.le_refl 0
  | cons n l ih =>
    have h1 := Lib.itoa_length_le n (hb n (by simp)).1 (hb n (by simp)).2
    have h2 := ih (fun m hm => hb m (by simp [hm]))
    rw [List.map_cons, List.length_cons]
    have e : Lib.lens (Lib.itoa n :: l.map Lib.itoa) = (Lib.itoa n).length + Lib.lens (l.map Lib.itoa) := by simp [Lib.lens]
    omega
theorem numsL_len (l : List Int) (hb : ∀ n ∈ l, I64 n) : (numsL l).length ≤ 22 * l.length := by
  cases l with
  | nil => exact Nat.le_refl 0
  | cons n l =>
    have h := lens_le (n :: l) hb
    rw [List.map_cons] at h
    rw [numsL, List.map_cons, Lib.join_length, List.length_map]
    simp only [List.length_cons, List.length_nil] at h ⊢
    omega
set_option maxHeartbeats 1000000 in
set_option maxRecDepth 100000 in
theorem nums_calls (l : List Int) (hb : ∀ n ∈ l, I64 n) (A : Option Addr) (c : Nat) (w : World) (hA : Rd w A (cI64s l)) (hl : l.length ≤ 1099511627776) (ht : TabOk w) :
    Calls Tryd.prog 42 #[.slice A l.length c] w fun e w' => e = .returned (.string (strOf (numsL l))) ∧ Ext w w' := by
  have HM := Lib.hid (mapNum_calls l hb A c w hA hl ht.all)
  have hlen := numsL_len l hb
  have hmap : (l.map numB).map (·.data.toList) = l.map Lib.itoa := by rw [List.map_map]; rfl
  clear hA ht
  go_enter Tryd.func42, Tryd.ntmps42
  go_wp2_with fail
  refine HM.out.mono ?_
  rintro e w1 ⟨⟨v, rfl, hown⟩, hx⟩
  have HX := Lib.hid hx
  clear hx
  rcases hown.2 with ⟨rfl, h0⟩ | ⟨g, cap, cur, rfl, hbg, hg, hnc, _⟩
  · have hl0 : l = [] := List.eq_nil_of_length_eq_zero h0
    subst hl0
    go_wp2_with fail
    refine (Tryd.strings_Join_none none 0 _ _).mono ?_
    rintro e w2 ⟨rfl, rfl⟩
    go_wp2
    go_ret
    exact ⟨rfl, HX.out⟩
  · have hcells : ∀ (j : Nat) x, (l.map numB)[j]? = some x → w1.cell? ⟨g, 0 + j, none⟩ = some (.string x) := by
      intro j x hj
      have := hown.cells (g := g) rfl j (.string x) (by rw [List.getElem?_map, hj]; rfl)
      rw [show (⟨g, 0, none⟩ : Addr).add j = ⟨g, 0 + j, none⟩ from by unfold Addr.add; split <;> simp [*]] at this
      exact this
    have hgs : g < w1.heap.size := by
      rcases Nat.lt_or_ge g w1.heap.size with h' | h'
      · exact h'
      · simp [Array.getElem?_eq_none h'] at hg
    have HJ := Lib.hid (Tryd.strings_Join g 0 cap (l.map numB) ⟨#[44]⟩ w1 hcells hgs (by rw [List.length_map]; omega) (by rw [List.length_map]; exact hnc) (by rw [hmap]; exact Nat.le_trans hlen (by omega)))
    rw [hmap, List.length_map] at HJ
    clear hcells hown hg
    go_wp2_with fail
    refine HJ.out.mono ?_
    rintro e w2 ⟨rfl, hx⟩
    have HY := Lib.hid (HX.out.tr hx)
    clear hx
    go_wp2
    go_ret
    exact ⟨rfl, HY.out⟩
end Go.Proofs.YtilengooiffikaaDoor
