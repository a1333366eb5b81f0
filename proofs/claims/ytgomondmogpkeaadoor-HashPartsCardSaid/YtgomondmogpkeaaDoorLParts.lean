/- The walk of the law HashParts. -/
import Derived.Test.YtgomondmogpkeaaDoorWStr
import Derived.Test.YtgomondmogpkeaaDoorLaid
import Derived.Test.YtgomondmogpkeaaDoorGrow
namespace Go.Proofs.YtgomondmogpkeaaDoor
open Go.RowKit
set_option maxHeartbeats 2000000 in
set_option maxRecDepth 100000 in
theorem hashParts_walk (s : ByteArray) (a b : Int) (ha0 : 0 ≤ a) (ha1 : a ≤ 255) (hb0 : 0 ≤ b) (hb1 : b ≤ 255) (w : World) (hg : Gl w) (hbs : s.size ≤ 200) :
    Calls Tryd.prog 5 #[.string s, .int .u8 a, .int .u8 b] w fun e w' => e = .returned (.bool true) ∧ Ext w w' := by
  have HG := Lib.hid hg
  clear hg
  have hs2 : (s.size : Int) ≤ 200 := by omega
  have hz : ((s.size : Int) + 1 == 0) = false := beq_eq_false_iff_ne.2 (by omega)
  go_enter Tryd.func5, Tryd.ntmps5
  go_wp2_with fail
  refine (known2_calls _ HG.out).mono ?_
  rintro e w1 ⟨rfl, hx⟩
  have HX1 := Lib.hid hx
  clear hx
  go_wp2_with fail
  refine wp_region_grow (by kernel_rfl) (by kernel_rfl) ?_
  repeat (any_goals (go_big_quiet_step (fail)))
  refine wpQuiet_nil ?_
  rintro _ ⟨⟨w2, hx⟩, rfl⟩
  have HX2 := Lib.hid (HX1.out.tr hx)
  clear hx
  obtain ⟨i, hi⟩ : ∃ i : Int, i = a % ((s.size : Int) + 1) := ⟨_, rfl⟩
  obtain ⟨k, hk⟩ : ∃ k : Int, k = b % ((s.size : Int) + 1) := ⟨_, rfl⟩
  have hi0 : 0 ≤ i := by rw [hi]; exact Int.emod_nonneg _ (by omega)
  have hi1 : i ≤ s.size := by have := Int.emod_lt_of_pos a (show (0 : Int) < s.size + 1 by omega); omega
  have hk0 : 0 ≤ k := by rw [hk]; exact Int.emod_nonneg _ (by omega)
  have hk1 : k ≤ s.size := by have := Int.emod_lt_of_pos b (show (0 : Int) < s.size + 1 by omega); omega
  simp only [← hi, ← hk]
  clear hi hk
  have hlen : ∀ p q : Nat, (s.extract p q).data.toList.length ≤ 9223372036854775807 := fun p q => by
    show (s.extract p q).size ≤ _
    rw [ByteArray.size_extract]
    omega
  have HO := Lib.hid (fun (p q p' q' : Nat) (w : World) => of_calls (s.extract p q) (s.extract p' q') (hlen _ _) (hlen _ _) w)
  have HR := Lib.hid (fun (p q p' q' : Nat) (w : World) => rof_calls (s.extract p q) (s.extract p' q') (hlen _ _) (hlen _ _) w)
  clear hlen
  go_wp2_with fail
  refine wp_region_grow (by kernel_rfl) (by kernel_rfl) ?_
  repeat (any_goals (go_big_quiet_step ((go_at_call 14; exact grow_of (HO.out _ _ _ _ _)))))
  refine wpQuiet_nil ?_
  rintro _ ⟨⟨w3, hx⟩, rfl⟩
  have HX3 := Lib.hid (HX2.out.tr hx)
  clear hx
  by_cases hik : i = k
  · subst hik
    go_wp2_with fail
    refine wp_region_grow (by kernel_rfl) (by kernel_rfl) ?_
    repeat (any_goals (go_big_quiet_step ((go_at_call 15; exact grow_of (HR.out _ _ _ _ _)))))
    refine wpQuiet_nil ?_
    rintro _ ⟨⟨w4, hx⟩, rfl⟩
    have HX4 := Lib.hid (HX3.out.tr hx)
    clear hx
    go_wp2
    go_ret
    exact ⟨by first | rfl | simp, HX4.out⟩
  · have hne : (i == k) = false := beq_eq_false_iff_ne.2 hik
    have hne2 : (i != k) = true := bne_iff_ne.2 hik
    clear hik
    go_wp2_with fail
    refine wp_region_grow (by kernel_rfl) (by kernel_rfl) ?_
    repeat (any_goals (go_big_quiet_step ((go_at_call 15; exact grow_of (HR.out _ _ _ _ _)))))
    refine wpQuiet_nil ?_
    rintro _ ⟨⟨w4, hx⟩, rfl⟩
    have HX4 := Lib.hid (HX3.out.tr hx)
    clear hx
    go_wp2
    go_ret
    exact ⟨by first | rfl | simp, HX4.out⟩
set_option maxHeartbeats 1000000 in
theorem hashParts_all (s : ByteArray) (a b : Int) (ha0 : 0 ≤ a) (ha1 : a ≤ 255) (hb0 : 0 ≤ b) (hb1 : b ≤ 255) (w : World) (hg : Gl w) :
    Calls Tryd.prog 5 #[.string s, .int .u8 a, .int .u8 b] w fun e w' => e = .returned (.bool true) ∧ Ext w w' := by
  by_cases hbt : s.size ≤ 200
  · exact hashParts_walk s a b ha0 ha1 hb0 hb1 w hg hbt
  · have HG := Lib.hid hg
    have hb1 : (200 : Int) < s.size := by omega
    clear hg hbt
    go_enter Tryd.func5, Tryd.ntmps5
    go_wp2_with (go_at_call 8; refine (known2_calls _ HG.out).mono ?_; rintro e w1 ⟨rfl, hx⟩; have HX1 := Lib.hid hx; clear hx)
    go_ret
    exact ⟨rfl, HX1.out⟩
theorem hashParts_walk' {w : World} (s : ByteArray) (_ws : s.size ≤ maxLen) (a : Int) (wa : (Lit.int .u8 a).wf = true) (b : Int) (wb : (Lit.int .u8 b).wf = true) (hg : Gl w) :
    Calls Tryd.prog 5 #[.string s, .int .u8 a, .int .u8 b] w fun e w' => e = .returned (.bool true) ∧ Ext w w' := by
  have ha := bounds_u8 wa
  have hb := bounds_u8 wb
  exact hashParts_all s a b ha.1 ha.2 hb.1 hb.2 w hg
end Go.Proofs.YtgomondmogpkeaaDoor
