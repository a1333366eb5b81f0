/- The walk of the law FieldSplits. -/
import Derived.Test.YtgomondmogpkeaaGreatDoorWKnown1
set_option linter.unusedVariables false
namespace Go.Proofs.YtgomondmogpkeaaGreatDoor
open Go.RowKit
theorem cFs_cStrs (l : List (List UInt8)) : cFs l = cStrs (l.map strOf) := by simp [cFs, cStrs, List.map_map, Function.comp_def]
theorem map_bs (l : List (List UInt8)) : (l.map strOf).map bs = l := by
  rw [List.map_map]
  conv => rhs; rw [← List.map_id l]
  exact List.map_congr_left fun x _ => rfl
theorem names_sameF (l : List (List UInt8)) (A B : Option Addr) (c d : Nat) (w : World) (hA : Rd w A (cFs l)) (hB : Rd w B (cFs l)) (hl : l.length ≤ 9223372036854775807) :
    Calls Tryz.prog 19 #[.slice A l.length c, .slice B l.length d] w fun e w' => e = .returned (.bool true) ∧ Ext w w' := by
  have h := names_same (l.map strOf) A B c d w (by rw [← cFs_cStrs]; exact hA) (by rw [← cFs_cStrs]; exact hB) (by rw [List.length_map]; exact hl)
  rwa [List.length_map] at h
theorem joinF_calls (l : List (List UInt8)) (A : Option Addr) (c : Nat) (w : World) (hA : Rd w A (cFs l)) (hl : (J.join l).length ≤ 140737488355328) (hn : l.length ≤ 9223372036854775807) (hs : ∀ s ∈ l, s.length ≤ 9223372036854775807) :
    Calls Tryz.prog 16 #[.slice A l.length c] w fun e w' => e = .returned (.string (strOf (J.join l))) ∧ Ext w w' := by
  have h := join_calls (l.map strOf) A c w (by rw [← cFs_cStrs]; exact hA) (by rw [map_bs]; exact hl) (by rw [List.length_map]; exact hn) (fun s h => by
    obtain ⟨t, ht, rfl⟩ := List.mem_map.1 h
    exact hs t ht)
  rwa [List.length_map, map_bs] at h
theorem split_cases (l : List UInt8) : J.split l = .error 2 ∨ J.split l = .error 4 ∨ ∃ m, J.split l = .ok m := by
  cases l with
  | nil => exact .inr (.inr ⟨_, rfl⟩)
  | cons c l =>
    rw [J.split_cons]
    split
    · split
      · unfold J.most
        split
        · exact .inr (.inl rfl)
        · exact .inr (.inr ⟨_, rfl⟩)
      · exact .inl rfl
    · exact .inl rfl
theorem esc_len (s : List UInt8) : s.length ≤ (J.esc s).length := by
  induction s with
  | nil => exact Nat.le_refl _
  | cons c s ih =>
    rw [J.esc, List.length_append, List.length_cons]
    have : 1 ≤ (J.esc1 c).length := by unfold J.esc1; split <;> simp
    omega
theorem join_parts_len (l : List (List UInt8)) : l.length ≤ (J.join l).length ∧ ∀ s ∈ l, s.length ≤ (J.join l).length := by
  induction l with
  | nil => exact ⟨Nat.le_refl _, by simp⟩
  | cons s l ih =>
    have h := esc_len s
    rw [J.join, List.length_cons, List.length_cons, List.length_append]
    refine ⟨by omega, fun t ht => ?_⟩
    rcases List.mem_cons.1 ht with rfl | ht
    · omega
    · have := ih.2 t ht; omega
set_option maxHeartbeats 2000000 in
set_option maxRecDepth 100000 in
theorem fieldSplits_walk (s : ByteArray) (w : World) (hr : RngOk w) (ht : TabOk w) :
    Calls Tryz.prog 4 #[.string s] w fun e w' => e = .returned (.bool true) ∧ Ext w w' := by
  have HK := Lib.hid (known1_calls w hr ht)
  clear hr ht
  by_cases hbig : 9000 < s.size
  · have hb : (9000 : Int) < s.size := by omega
    clear hbig
    go_enter Tryz.func4, Tryz.ntmps4
    go_wp2_with fail
    refine HK.out.mono ?_
    rintro e w1 ⟨rfl, hx⟩
    have HX := Lib.hid hx
    clear hx
    go_wp2
    go_ret
    exact ⟨rfl, HX.out⟩
  · have hb : (s.size : Int) ≤ 9000 := by omega
    have HS := Lib.hid (fun w => split_calls s (by omega) w)
    have HR := Lib.hid (fun w => rsplit_calls s (by omega) w)
    have hrs := J.rsplit_split (bs s)
    rw [hrs] at HR
    clear hrs
    rcases split_cases (bs s) with h | h | ⟨l, h⟩
    · rw [h] at HS HR
      clear h hbig
      go_enter Tryz.func4, Tryz.ntmps4
      go_wp2_with fail
      refine HK.out.mono ?_
      rintro e w1 ⟨rfl, hx⟩
      have HX := Lib.hid hx
      clear hx
      go_wp2_with fail
      refine (HS.out _).mono ?_
      rintro e w2 ⟨he, hx⟩
      obtain rfl : e = .returned (.tuple #[.slice none 0 0, .int .i64 2]) := he
      have HX2 := Lib.hid (HX.out.tr hx)
      clear hx
      go_wp2_with fail
      refine (HR.out _).mono ?_
      rintro e w3 ⟨he, hx⟩
      obtain rfl : e = .returned (.tuple #[.slice none 0 0, .int .i64 2]) := he
      have HX3 := Lib.hid (HX2.out.tr hx)
      clear hx
      go_wp2_with fail
      refine (names_same [] none none 0 0 _ (Rd.nil _ _) (Rd.nil _ _) (by decide)).mono ?_
      rintro e w4 ⟨rfl, hx⟩
      have HX4 := Lib.hid (HX3.out.tr hx)
      clear hx
      go_wp2
      go_ret
      exact ⟨rfl, HX4.out⟩
    · rw [h] at HS HR
      clear h hbig
      go_enter Tryz.func4, Tryz.ntmps4
      go_wp2_with fail
      refine HK.out.mono ?_
      rintro e w1 ⟨rfl, hx⟩
      have HX := Lib.hid hx
      clear hx
      go_wp2_with fail
      refine (HS.out _).mono ?_
      rintro e w2 ⟨he, hx⟩
      obtain rfl : e = .returned (.tuple #[.slice none 0 0, .int .i64 4]) := he
      have HX2 := Lib.hid (HX.out.tr hx)
      clear hx
      go_wp2_with fail
      refine (HR.out _).mono ?_
      rintro e w3 ⟨he, hx⟩
      obtain rfl : e = .returned (.tuple #[.slice none 0 0, .int .i64 4]) := he
      have HX3 := Lib.hid (HX2.out.tr hx)
      clear hx
      go_wp2_with fail
      refine (names_same [] none none 0 0 _ (Rd.nil _ _) (Rd.nil _ _) (by decide)).mono ?_
      rintro e w4 ⟨rfl, hx⟩
      have HX4 := Lib.hid (HX3.out.tr hx)
      clear hx
      go_wp2
      go_ret
      exact ⟨rfl, HX4.out⟩
    · have hj := J.join_split h
      have hpl := join_parts_len l
      have hjl : (J.join l).length ≤ 9000 := by rw [hj]; show s.size ≤ _; omega
      have hll := hpl.1
      have HJ := Lib.hid (fun A c w hA => joinF_calls l A c w hA (by omega) (by omega) (fun t ht => by have := hpl.2 t ht; omega))
      have hs : strOf (J.join l) = s := by rw [hj]
      rw [hs] at HJ
      rw [h] at HS HR
      have hq : (s.toList == s.toList) = true := by simp
      clear h hbig hj hpl hs
      go_enter Tryz.func4, Tryz.ntmps4
      go_wp2_with fail
      refine HK.out.mono ?_
      rintro e w1 ⟨rfl, hx⟩
      have HX := Lib.hid hx
      clear hx
      go_wp2_with fail
      refine (HS.out _).mono ?_
      rintro e w2 ⟨⟨A, c, rfl, hA⟩, hx⟩
      have HX2 := Lib.hid (HX.out.tr hx)
      have HA := Lib.hid hA
      clear hx hA
      go_wp2_with fail
      refine (HR.out _).mono ?_
      rintro e w3 ⟨⟨B, d, rfl, hB⟩, hx⟩
      have HX3 := Lib.hid (HX2.out.tr hx)
      have HA3 := Lib.hid (HA.out.ext hx)
      have HB := Lib.hid hB
      clear hx hB
      go_wp2_with fail
      refine (names_sameF l _ _ _ _ _ HA3.out HB.out (by omega)).mono ?_
      rintro e w4 ⟨rfl, hx⟩
      have HX4 := Lib.hid (HX3.out.tr hx)
      have HA4 := Lib.hid (HA3.out.ext hx)
      clear hx
      go_wp2_with fail
      refine (HJ.out _ _ _ HA4.out).mono ?_
      rintro e w5 ⟨rfl, hx⟩
      have HX5 := Lib.hid (HX4.out.tr hx)
      clear hx
      go_wp2
      go_ret
      exact ⟨by first | rfl | simp, HX5.out⟩
theorem fieldSplits_walk' {w : World} (s : ByteArray) (_ws : s.size ≤ maxLen) (hg : RngOk w ∧ TabOk w) :
    Calls Tryz.prog 4 #[.string s] w fun e w' => e = .returned (.bool true) ∧ Ext w w' := fieldSplits_walk s w hg.1 hg.2
end Go.Proofs.YtgomondmogpkeaaGreatDoor
