/- The walk of the law FieldJoins. -/
import Derived.Test.YtgomondmogpkeaaGreatDoorLSplits
set_option linter.unusedVariables false
namespace Go.Proofs.YtgomondmogpkeaaGreatDoor
open Go.RowKit
theorem shortB_true {l : List ByteArray} (h : shortB l = true) : l.length ≤ 100 ∧ ∀ s ∈ l, s.size ≤ 200 := of_decide_eq_true h
theorem esc_le (s : List UInt8) : (J.esc s).length ≤ 2 * s.length := by
  induction s with
  | nil => exact Nat.le_refl _
  | cons c s ih =>
    rw [J.esc, List.length_append, List.length_cons]
    have : (J.esc1 c).length ≤ 2 := by unfold J.esc1; split <;> simp
    omega
theorem join_le (M : Nat) (l : List ByteArray) (h : ∀ s ∈ l, s.size ≤ M) : (J.join (l.map bs)).length ≤ (2 * M + 1) * l.length := by
  induction l with
  | nil => exact Nat.le_refl _
  | cons s l ih =>
    have h1 := esc_le (bs s)
    have h2 : (bs s).length ≤ M := h s (by simp)
    have h3 := ih (fun t ht => h t (by simp [ht]))
    rw [List.map_cons, J.join, List.length_cons, List.length_append, List.length_cons, Nat.mul_add]
    omega
theorem map_bs_inj {a b : List ByteArray} (h : a.map bs = b.map bs) : a = b := by
  have h2 := congrArg (List.map strOf) h
  rw [List.map_map, List.map_map] at h2
  have e : ∀ l : List ByteArray, l.map (strOf ∘ bs) = l := fun l => by
    conv => rhs; rw [← List.map_id l]
    exact List.map_congr_left fun x _ => rfl
  rwa [e, e] at h2
theorem joinB_calls (l : List ByteArray) (h1 : l.length ≤ 100) (h2 : ∀ s ∈ l, s.size ≤ 200) (A : Option Addr) (c : Nat) (w : World) (hA : Rd w A (cStrs l)) :
    Calls Tryz.prog 16 #[.slice A l.length c] w fun e w' => e = .returned (.string (strOf (J.join (l.map bs)))) ∧ Ext w w' := by
  have hb := join_le 200 l h2
  exact join_calls l A c w hA (by omega) (by omega) (fun s hs => by have := h2 s hs; omega)
theorem rjoinB_calls (l : List ByteArray) (h1 : l.length ≤ 100) (h2 : ∀ s ∈ l, s.size ≤ 200) (A : Option Addr) (c : Nat) (w : World) (hA : Rd w A (cStrs l)) :
    Calls Tryz.prog 18 #[.slice A l.length c] w fun e w' => e = .returned (.string (strOf (J.join (l.map bs)))) ∧ Ext w w' := by
  have hb := join_le 200 l h2
  exact rjoin_calls l A c w hA (by omega) (by omega) (fun s hs => by have := h2 s hs; omega)
theorem splitB_calls (l : List ByteArray) (h1 : l.length ≤ 4096) (h2 : (J.join (l.map bs)).length ≤ 1099511627776) (w : World) :
    Calls Tryz.prog 17 #[.string (strOf (J.join (l.map bs)))] w fun e w' => (∃ A c, e = .returned (.tuple #[.slice A l.length c, .int .i64 0]) ∧ Rd w' A (cStrs l)) ∧ Ext w w' := by
  have h := split_calls (strOf (J.join (l.map bs))) h2 w
  have e : J.split (bs (strOf (J.join (l.map bs)))) = .ok (l.map bs) := by
    show J.split (J.join (l.map bs)) = _
    rw [J.split_join, J.most, if_neg (by rw [List.length_map]; omega)]
  rw [e] at h
  refine h.mono fun e w' ⟨⟨A, c, h1, h2⟩, hx⟩ => ⟨⟨A, c, by rw [h1, List.length_map], ?_⟩, hx⟩
  have e2 : cFs (l.map bs) = cStrs l := by
    simp only [cFs, cStrs, List.map_map]
    exact List.map_congr_left fun x _ => rfl
  rwa [e2] at h2
theorem str_ne {S T : ByteArray} (h : S ≠ T) : (S == T) = false ∧ (S.toList == T.toList) = false := by
  refine ⟨?_, (Lib.bytes_beq_false_iff S T).2 h⟩
  cases hq : (S == T) with
  | false => rfl
  | true => exact absurd ((MapKept.bytes_beq S T).1 hq) h
set_option maxHeartbeats 2000000 in
set_option maxRecDepth 100000 in
theorem fieldJoins_walk (a b : List ByteArray) (A B : Option Addr) (c d : Nat) (w : World) (hA : Rd w A (cStrs a)) (hB : Rd w B (cStrs b)) (hla : a.length ≤ 9223372036854775807) (hlb : b.length ≤ 9223372036854775807)
    (hsa : ∀ s ∈ a, s.size ≤ 9223372036854775807) (hsb : ∀ s ∈ b, s.size ≤ 9223372036854775807) (hr : RngOk w) (ht : TabOk w) :
    Calls Tryz.prog 3 #[.slice A a.length c, .slice B b.length d] w fun e w' => e = .returned (.bool true) ∧ Ext w w' := by
  have HK := Lib.hid (known1_calls w hr ht)
  have HA := Lib.hid hA
  have HB := Lib.hid hB
  have HSA := Lib.hid (fun w h => short_calls a A c w h hla hsa)
  have HSB := Lib.hid (fun w h => short_calls b B d w h hlb hsb)
  clear hr ht hA hB hsa hsb
  cases ha : shortB a with
  | false =>
    rw [ha] at HSA
    clear ha
    go_enter Tryz.func3, Tryz.ntmps3
    go_wp2_with fail
    refine HK.out.mono ?_
    rintro e w1 ⟨rfl, hx⟩
    have HX := Lib.hid hx
    clear hx
    go_wp2_with fail
    refine (HSA.out _ (HA.out.ext HX.out)).mono ?_
    rintro e w2 ⟨rfl, rfl⟩
    go_wp2
    go_ret
    exact ⟨rfl, HX.out⟩
  | true =>
    rw [ha] at HSA
    obtain ⟨ha1, ha2⟩ := shortB_true ha
    clear ha
    cases hb : shortB b with
    | false =>
      rw [hb] at HSB
      clear hb ha2
      go_enter Tryz.func3, Tryz.ntmps3
      go_wp2_with fail
      refine HK.out.mono ?_
      rintro e w1 ⟨rfl, hx⟩
      have HX := Lib.hid hx
      clear hx
      go_wp2_with fail
      refine (HSA.out _ (HA.out.ext HX.out)).mono ?_
      rintro e w2 ⟨rfl, rfl⟩
      go_wp2_with fail
      refine (HSB.out _ (HB.out.ext HX.out)).mono ?_
      rintro e w2 ⟨rfl, rfl⟩
      go_wp2
      go_ret
      exact ⟨rfl, HX.out⟩
    | true =>
      rw [hb] at HSB
      obtain ⟨hb1, hb2⟩ := shortB_true hb
      clear hb
      have HJA := Lib.hid (fun w h => joinB_calls a ha1 ha2 A c w h)
      have HJB := Lib.hid (fun w h => joinB_calls b hb1 hb2 B d w h)
      have HRJ := Lib.hid (fun w h => rjoinB_calls a ha1 ha2 A c w h)
      have hlen := join_le 200 a ha2
      have HSP := Lib.hid (fun w => splitB_calls a (by omega) (by omega) w)
      have hdec : (a = b ∧ strOf (J.join (a.map bs)) = strOf (J.join (b.map bs))) ∨ (a ≠ b ∧ strOf (J.join (a.map bs)) ≠ strOf (J.join (b.map bs))) := by
        by_cases hab : a = b
        · exact .inl ⟨hab, by rw [hab]⟩
        · refine .inr ⟨hab, fun e => hab (map_bs_inj (J.join_inj ?_))⟩
          exact congrArg bs e
      clear ha2 hb2 hlen
      generalize strOf (J.join (a.map bs)) = S at *
      generalize strOf (J.join (b.map bs)) = T at *
      have HN1 := Lib.hid (fun (A' : Option Addr) (c' : Nat) (w : World) (h1 : Rd w A' (cStrs a)) (h2 : Rd w A (cStrs a)) => names_same a A' A c' c w h1 h2 hla)
      have HN2 := Lib.hid (fun (w : World) (h1 : Rd w A (cStrs a)) (h2 : Rd w B (cStrs b)) => names_calls a b A B c d w h1 h2 hla hlb)
      have hq : (S.toList == S.toList) = true := by simp
      rcases hdec with ⟨hab, rfl⟩ | ⟨hab, hST⟩
      · have hf := decide_eq_true hab
        rw [hf] at HN2
        clear hab hf
        go_enter Tryz.func3, Tryz.ntmps3
        go_wp2_with fail
        refine HK.out.mono ?_
        rintro e w1 ⟨rfl, hx⟩
        have HX := Lib.hid hx
        clear hx
        go_wp2_with fail
        refine (HSA.out _ (HA.out.ext HX.out)).mono ?_
        rintro e w2 ⟨rfl, rfl⟩
        go_wp2_with fail
        refine (HSB.out _ (HB.out.ext HX.out)).mono ?_
        rintro e w2 ⟨rfl, rfl⟩
        go_wp2_with fail
        refine (HJA.out _ (HA.out.ext HX.out)).mono ?_
        rintro e w2 ⟨rfl, hx⟩
        have HX2 := Lib.hid (HX.out.tr hx)
        clear hx
        go_wp2_with fail
        refine (HJB.out _ (HB.out.ext HX2.out)).mono ?_
        rintro e w3 ⟨rfl, hx⟩
        have HX3 := Lib.hid (HX2.out.tr hx)
        clear hx
        go_wp2_with fail
        refine (HSP.out _).mono ?_
        rintro e w4 ⟨⟨A4, c4, rfl, hl⟩, hx⟩
        have HX4 := Lib.hid (HX3.out.tr hx)
        have HL := Lib.hid hl
        clear hx hl
        go_wp2_with fail
        refine (HRJ.out _ (HA.out.ext HX4.out)).mono ?_
        rintro e w5 ⟨rfl, hx⟩
        have HX5 := Lib.hid (HX4.out.tr hx)
        have HL5 := Lib.hid (HL.out.ext hx)
        clear hx
        go_wp2_with fail
        refine (HN1.out _ _ _ HL5.out (HA.out.ext HX5.out)).mono ?_
        rintro e w6 ⟨rfl, hx⟩
        have HX6 := Lib.hid (HX5.out.tr hx)
        clear hx
        go_wp2_with fail
        refine (HN2.out _ (HA.out.ext HX6.out) (HB.out.ext HX6.out)).mono ?_
        rintro e w7 ⟨rfl, hx⟩
        have HX7 := Lib.hid (HX6.out.tr hx)
        clear hx
        go_wp2
        go_ret
        exact ⟨by first | rfl | simp, HX7.out⟩
      · have hf := decide_eq_false hab
        rw [hf] at HN2
        have hq2 := (str_ne hST).2
        clear hab hf hST
        go_enter Tryz.func3, Tryz.ntmps3
        go_wp2_with fail
        refine HK.out.mono ?_
        rintro e w1 ⟨rfl, hx⟩
        have HX := Lib.hid hx
        clear hx
        go_wp2_with fail
        refine (HSA.out _ (HA.out.ext HX.out)).mono ?_
        rintro e w2 ⟨rfl, rfl⟩
        go_wp2_with fail
        refine (HSB.out _ (HB.out.ext HX.out)).mono ?_
        rintro e w2 ⟨rfl, rfl⟩
        go_wp2_with fail
        refine (HJA.out _ (HA.out.ext HX.out)).mono ?_
        rintro e w2 ⟨rfl, hx⟩
        have HX2 := Lib.hid (HX.out.tr hx)
        clear hx
        go_wp2_with fail
        refine (HJB.out _ (HB.out.ext HX2.out)).mono ?_
        rintro e w3 ⟨rfl, hx⟩
        have HX3 := Lib.hid (HX2.out.tr hx)
        clear hx
        go_wp2_with fail
        refine (HSP.out _).mono ?_
        rintro e w4 ⟨⟨A4, c4, rfl, hl⟩, hx⟩
        have HX4 := Lib.hid (HX3.out.tr hx)
        have HL := Lib.hid hl
        clear hx hl
        go_wp2_with fail
        refine (HRJ.out _ (HA.out.ext HX4.out)).mono ?_
        rintro e w5 ⟨rfl, hx⟩
        have HX5 := Lib.hid (HX4.out.tr hx)
        have HL5 := Lib.hid (HL.out.ext hx)
        clear hx
        go_wp2_with fail
        refine (HN1.out _ _ _ HL5.out (HA.out.ext HX5.out)).mono ?_
        rintro e w6 ⟨rfl, hx⟩
        have HX6 := Lib.hid (HX5.out.tr hx)
        clear hx
        go_wp2_with fail
        refine (HN2.out _ (HA.out.ext HX6.out) (HB.out.ext HX6.out)).mono ?_
        rintro e w7 ⟨rfl, hx⟩
        have HX7 := Lib.hid (HX6.out.tr hx)
        clear hx
        go_wp2
        go_ret
        exact ⟨by first | rfl | simp, HX7.out⟩
theorem fieldJoins_walk' {w : World} (A : Option Addr) (a : List ByteArray) (c : Nat) (hA : Rd w A (cStrs a)) (hsa : ∀ s ∈ a, s.size ≤ maxLen) (hla : a.length ≤ maxLen) (B : Option Addr) (b : List ByteArray) (d : Nat) (hB : Rd w B (cStrs b)) (hsb : ∀ s ∈ b, s.size ≤ maxLen) (hlb : b.length ≤ maxLen) (hg : RngOk w ∧ TabOk w) :
    Calls Tryz.prog 3 #[.slice A a.length c, .slice B b.length d] w fun e w' => e = .returned (.bool true) ∧ Ext w w' :=
  fieldJoins_walk a b A B c d w hA hB hla hlb hsa hsb hg.1 hg.2
end Go.Proofs.YtgomondmogpkeaaGreatDoor
