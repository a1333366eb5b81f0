/- The walk of the law FieldNums. -/
import Derived.Test.YtgomondmogpkeaaGreatDoorLSplits
set_option linter.unusedVariables false
namespace Go.Proofs.YtgomondmogpkeaaGreatDoor
open Go.RowKit
def numV : Except Nat Int → Int
  | .ok v => v
  | .error _ => 0
def numC : Except Nat Int → Int
  | .ok _ => 0
  | .error n => (n : Int)
theorem numEnd_vc {r : Except Nat Int} {e : Ending} (h : NumEnd r e) : e = .returned (.tuple #[.int .i64 (numV r), .int .i64 (numC r)]) := by
  cases r <;> exact h
theorem pl_cases (ps : List (List UInt8)) : ∀ out long, J.pl ps out long = .error 2 ∨ J.pl ps out long = .error 4 ∨ ∃ a, J.pl ps out long = .ok a := by
  induction ps with
  | nil =>
    intro out long
    cases long
    · exact .inr (.inr ⟨_, rfl⟩)
    · exact .inr (.inl rfl)
  | cons p ps ih =>
    intro out long
    rcases J.pnum_cases p with h | h | ⟨v, h⟩
    · exact .inl (J.pl_bad h _ _ _)
    · rw [J.pl_long h]; exact ih _ _
    · rw [J.pl_ok h]; exact ih _ _
theorem pnums_cases (l : List UInt8) : (∃ n : Nat, J.pnums l = .error n ∧ ((n : Int) == 0) = false) ∨ ∃ a, J.pnums l = .ok a := by
  unfold J.pnums
  split
  · exact .inr ⟨_, rfl⟩
  · rcases pl_cases (J.parts l) [] false with h | h | ⟨a, h⟩
    · exact .inl ⟨2, h, rfl⟩
    · exact .inl ⟨4, h, rfl⟩
    · exact .inr ⟨a, h⟩
set_option maxHeartbeats 4000000 in
set_option maxRecDepth 100000 in
theorem fieldNums_walk (l : List Int) (hb : ∀ n ∈ l, I64 n) (s : ByteArray) (A : Option Addr) (c : Nat) (w : World) (hA : Rd w A (cI64s l)) (hl : l.length ≤ 9223372036854775807) (hs : s.size ≤ 9223372036854775807) (hr : RngOk w) (ht : TabOk w) :
    Calls Tryz.prog 5 #[.slice A l.length c, .string s] w fun e w' => e = .returned (.bool true) ∧ Ext w w' := by
  have HK := Lib.hid (known1_calls w hr ht)
  have HA := Lib.hid hA
  have HRR := Lib.hid hr
  have HT := Lib.hid ht.all
  have HBD := Lib.hid hb
  clear hr ht hA hb
  by_cases hbig : 100 < l.length
  · have hb : (100 : Int) < l.length := by omega
    clear hbig
    go_enter Tryz.func5, Tryz.ntmps5
    go_wp2_with fail
    refine HK.out.mono ?_
    rintro e w1 ⟨rfl, hx⟩
    have HX := Lib.hid hx
    clear hx
    go_wp2
    go_ret
    exact ⟨rfl, HX.out⟩
  · have hb : (l.length : Int) ≤ 100 := by omega
    by_cases hsb : 300 < s.size
    · have hb : (300 : Int) < s.size := by omega
      clear hbig hsb
      go_enter Tryz.func5, Tryz.ntmps5
      go_wp2_with fail
      refine HK.out.mono ?_
      rintro e w1 ⟨rfl, hx⟩
      have HX := Lib.hid hx
      clear hx
      go_wp2
      go_ret
      exact ⟨rfl, HX.out⟩
    · have hb2 : (s.size : Int) ≤ 300 := by omega
      have hlen : l.length ≤ 1099511627776 := by omega
      have hTs : (strOf (numsL l)).size ≤ 1099511627776 := Nat.le_trans (numsL_len l HBD.out) (by omega)
      have HNU := Lib.hid (fun w h ht => nums_calls l HBD.out A c w h hlen ht)
      have HRN := Lib.hid (fun w h => rnums_calls l HBD.out A c w h hlen)
      have HPT := Lib.hid (fun w hr => k_pnums (strOf (numsL l)) hTs l (J.pnums_numsL l HBD.out) w hr)
      have HPS := Lib.hid (fun w hr => pnums_calls s (by omega) w hr)
      have HRS := Lib.hid (fun w => rpnums_calls s (by omega) w)
      have HPN := Lib.hid (show ∀ w, RngOk w → Calls Tryz.prog 24 #[.string s] w fun e w' => e = .returned (.tuple #[.int .i64 (numV (J.pnum (bs s))), .int .i64 (numC (J.pnum (bs s)))]) ∧ Ext w w' from
        fun w hr => (pnum_calls s (by omega) w hr).mono fun _ _ ⟨a, b⟩ => ⟨numEnd_vc a, b⟩)
      have HRP := Lib.hid (show ∀ w, Calls Tryz.prog 25 #[.string s] w fun e w' => e = .returned (.tuple #[.int .i64 (numV (J.pnum (bs s))), .int .i64 (numC (J.pnum (bs s)))]) ∧ w = w' from
        fun w => (rpnum_calls s (by omega) w).mono fun _ _ ⟨a, b⟩ => ⟨numEnd_vc a, b⟩)
      have HIN := Lib.hid (fun (A' : Option Addr) (c' : Nat) (w : World) (h1 : Rd w A' (cI64s l)) (h2 : Rd w A (cI64s l)) => ints_same l A' A c' c w h1 h2 hl)
      clear hbig hsb hTs
      generalize strOf (numsL l) = T at *
      generalize numV (J.pnum (bs s)) = pv at *
      generalize numC (J.pnum (bs s)) = pc at *
      have hTT : (T.toList == T.toList) = true := by simp
      have hSS : (s.toList == s.toList) = true := by simp
      have hpc : (pc == pc) = true := by simp
      have hpv : (pv == pv) = true := by simp
      rcases pnums_cases (bs s) with ⟨n, hn, hn0⟩ | ⟨a, ha⟩
      · have HE := Lib.hid (show ∀ e w', NumsEnd (J.pnums (bs s)) e w' → e = .returned (.tuple #[.slice none 0 0, .int .i64 (n : Int)]) from fun e w' h => by rw [hn] at h; exact h)
        have hnn : ((n : Int) == (n : Int)) = true := by simp
        have hn1 := bne_f hn0
        clear hn
        go_enter Tryz.func5, Tryz.ntmps5
        go_wp2_with fail
        refine HK.out.mono ?_
        rintro e w1 ⟨rfl, hx⟩
        have HX1 := Lib.hid hx
        clear hx
        go_wp2_with fail
        refine (HNU.out _ (HA.out.ext HX1.out) (HT.out _ HX1.out)).mono ?_
        rintro e w2 ⟨rfl, hx⟩
        have HX2 := Lib.hid (HX1.out.tr hx)
        clear hx
        go_wp2_with fail
        refine (HPT.out _ (HRR.out.ext HX2.out)).mono ?_
        rintro e w3 ⟨⟨A3, c3, rfl, hl3⟩, hx⟩
        have HX3 := Lib.hid (HX2.out.tr hx)
        have HL3 := Lib.hid hl3
        clear hx hl3
        go_wp2_with fail
        refine (HPS.out _ (HRR.out.ext HX3.out)).mono ?_
        rintro e w4 ⟨he, hx⟩
        obtain rfl := HE.out _ _ he
        have HX4 := Lib.hid (HX3.out.tr hx)
        have HL4 := Lib.hid (HL3.out.ext hx)
        clear hx he
        go_wp2_with fail
        refine (HRS.out _).mono ?_
        rintro e w5 ⟨he, hx⟩
        obtain rfl := HE.out _ _ he
        have HX5 := Lib.hid (HX4.out.tr hx)
        have HL5 := Lib.hid (HL4.out.ext hx)
        clear hx he
        go_wp2_with fail
        refine (HPN.out _ (HRR.out.ext HX5.out)).mono ?_
        rintro e w6 ⟨rfl, hx⟩
        have HX6 := Lib.hid (HX5.out.tr hx)
        have HL6 := Lib.hid (HL5.out.ext hx)
        clear hx
        go_wp2_with fail
        refine (HRP.out _).mono ?_
        rintro e w6' ⟨rfl, rfl⟩
        go_wp2_with fail
        refine (HRN.out _ (HA.out.ext HX6.out)).mono ?_
        rintro e w7 ⟨rfl, hx⟩
        have HX7 := Lib.hid (HX6.out.tr hx)
        have HL7 := Lib.hid (HL6.out.ext hx)
        clear hx
        go_wp2_with fail
        refine (HIN.out _ _ _ HL7.out (HA.out.ext HX7.out)).mono ?_
        rintro e w8 ⟨rfl, hx⟩
        have HX8 := Lib.hid (HX7.out.tr hx)
        clear hx
        go_wp2_with fail
        refine (ints_same [] none none 0 0 _ (Rd.nil _ _) (Rd.nil _ _) (by decide)).mono ?_
        rintro e w9 ⟨rfl, hx⟩
        have HX9 := Lib.hid (HX8.out.tr hx)
        clear hx
        go_wp2_with fail
        refine (mapTwice_calls [] (by simp) none 0 _ (Rd.nil _ _) (by decide)).mono ?_
        rintro e w10 ⟨⟨B1, d1, rfl, hr1⟩, hx⟩
        have HX10 := Lib.hid (HX9.out.tr hx)
        clear hx hr1
        go_wp2_with fail
        refine (doubled_calls [] (by simp) none 0 _ (Rd.nil _ _) (by decide)).mono ?_
        rintro e w11 ⟨⟨B2, d2, rfl, hr2⟩, hx⟩
        have HX11 := Lib.hid (HX10.out.tr hx)
        clear hx hr2
        go_wp2_with fail
        refine (ints_same [] B1 B2 d1 d2 _ (Rd.nil _ _) (Rd.nil _ _) (by decide)).mono ?_
        rintro e w12 ⟨rfl, hx⟩
        have HX12 := Lib.hid (HX11.out.tr hx)
        clear hx
        go_wp2
        go_ret
        exact ⟨by first | rfl | simp, HX12.out⟩
      · have HE := Lib.hid (show ∀ e w', NumsEnd (J.pnums (bs s)) e w' → ∃ A c, e = .returned (.tuple #[.slice A a.length c, .int .i64 0]) ∧ Rd w' A (cI64s a) from fun e w' h => by rw [ha] at h; exact h)
        obtain ⟨hna, hba⟩ := J.numsL_pnums ha
        have hal : a.length ≤ 1099511627776 := Nat.le_trans (J.pnums_length ha) (by show s.size + 1 ≤ _; omega)
        have HNA := Lib.hid (show ∀ (A' : Option Addr) (c' : Nat) (w : World), Rd w A' (cI64s a) → TabOk w → Calls Tryz.prog 21 #[.slice A' a.length c'] w fun e w' => e = .returned (.string s) ∧ Ext w w' from
          fun A' c' w h ht => (nums_calls a hba A' c' w h hal ht).mono fun _ _ ⟨x, y⟩ => ⟨by rw [x, hna], y⟩)
        have HMT := Lib.hid (fun (A' : Option Addr) (c' : Nat) (w : World) (h : Rd w A' (cI64s a)) => mapTwice_calls a hba A' c' w h hal)
        have HDB := Lib.hid (fun (A' : Option Addr) (c' : Nat) (w : World) (h : Rd w A' (cI64s a)) => doubled_calls a hba A' c' w h hal)
        have HIA := Lib.hid (fun (A' B' : Option Addr) (c' d' : Nat) (w : World) (h1 : Rd w A' (cI64s a)) (h2 : Rd w B' (cI64s a)) => ints_same a A' B' c' d' w h1 h2 (by omega))
        have HID := Lib.hid (show ∀ (A' B' : Option Addr) (c' d' : Nat) (w : World), Rd w A' (cI64s (a.map dbl)) → Rd w B' (cI64s (a.map dbl)) → Calls Tryz.prog 27 #[.slice A' a.length c', .slice B' a.length d'] w fun e w' => e = .returned (.bool true) ∧ Ext w w' from
          fun A' B' c' d' w h1 h2 => by
            have := ints_same (a.map dbl) A' B' c' d' w h1 h2 (by rw [List.length_map]; omega)
            rwa [List.length_map] at this)
        clear ha hna hba
        go_enter Tryz.func5, Tryz.ntmps5
        go_wp2_with fail
        refine HK.out.mono ?_
        rintro e w1 ⟨rfl, hx⟩
        have HX1 := Lib.hid hx
        clear hx
        go_wp2_with fail
        refine (HNU.out _ (HA.out.ext HX1.out) (HT.out _ HX1.out)).mono ?_
        rintro e w2 ⟨rfl, hx⟩
        have HX2 := Lib.hid (HX1.out.tr hx)
        clear hx
        go_wp2_with fail
        refine (HPT.out _ (HRR.out.ext HX2.out)).mono ?_
        rintro e w3 ⟨⟨A3, c3, rfl, hl3⟩, hx⟩
        have HX3 := Lib.hid (HX2.out.tr hx)
        have HL3 := Lib.hid hl3
        clear hx hl3
        go_wp2_with fail
        refine (HPS.out _ (HRR.out.ext HX3.out)).mono ?_
        rintro e w4 ⟨he, hx⟩
        obtain ⟨A4, c4, rfl, ha4⟩ := HE.out _ _ he
        have HX4 := Lib.hid (HX3.out.tr hx)
        have HL4 := Lib.hid (HL3.out.ext hx)
        have HA4 := Lib.hid ha4
        clear hx he ha4
        go_wp2_with fail
        refine (HRS.out _).mono ?_
        rintro e w5 ⟨he, hx⟩
        obtain ⟨A5, c5, rfl, ha5⟩ := HE.out _ _ he
        have HX5 := Lib.hid (HX4.out.tr hx)
        have HL5 := Lib.hid (HL4.out.ext hx)
        have HA45 := Lib.hid (HA4.out.ext hx)
        have HA5 := Lib.hid ha5
        have HY5 := Lib.hid (Ext.rfl' w5)
        clear hx he ha5
        go_wp2_with fail
        refine (HPN.out _ (HRR.out.ext HX5.out)).mono ?_
        rintro e w6 ⟨rfl, hx⟩
        have HY6 := Lib.hid (HY5.out.tr hx)
        clear hx
        go_wp2_with fail
        refine (HRP.out _).mono ?_
        rintro e w6' ⟨rfl, rfl⟩
        go_wp2_with fail
        refine (HRN.out _ (HA.out.ext (HX5.out.tr HY6.out))).mono ?_
        rintro e w7 ⟨rfl, hx⟩
        have HY7 := Lib.hid (HY6.out.tr hx)
        clear hx
        go_wp2_with fail
        refine (HIN.out _ _ _ (HL5.out.ext HY7.out) (HA.out.ext (HX5.out.tr HY7.out))).mono ?_
        rintro e w8 ⟨rfl, hx⟩
        have HY8 := Lib.hid (HY7.out.tr hx)
        clear hx
        go_wp2_with fail
        refine (HIA.out _ _ _ _ _ (HA45.out.ext HY8.out) (HA5.out.ext HY8.out)).mono ?_
        rintro e w9 ⟨rfl, hx⟩
        have HY9 := Lib.hid (HY8.out.tr hx)
        clear hx
        go_wp2_with fail
        refine (HNA.out _ _ _ (HA45.out.ext HY9.out) (HT.out _ (HX5.out.tr HY9.out))).mono ?_
        rintro e w10 ⟨rfl, hx⟩
        have HY10 := Lib.hid (HY9.out.tr hx)
        clear hx
        go_wp2_with fail
        refine (HMT.out _ _ _ (HA45.out.ext HY10.out)).mono ?_
        rintro e w11 ⟨⟨B1, d1, rfl, hr1⟩, hx⟩
        have HY11 := Lib.hid (HY10.out.tr hx)
        have HR1 := Lib.hid hr1
        clear hx hr1
        go_wp2_with fail
        refine (HDB.out _ _ _ (HA5.out.ext HY11.out)).mono ?_
        rintro e w12 ⟨⟨B2, d2, rfl, hr2⟩, hx⟩
        have HY12 := Lib.hid (HY11.out.tr hx)
        have HR12 := Lib.hid (HR1.out.ext hx)
        have HR2 := Lib.hid hr2
        clear hx hr2
        go_wp2_with fail
        refine (HID.out _ _ _ _ _ HR12.out HR2.out).mono ?_
        rintro e w13 ⟨rfl, hx⟩
        have HX13 := Lib.hid (HX5.out.tr (HY12.out.tr hx))
        clear hx
        go_wp2
        go_ret
        exact ⟨by first | rfl | simp, HX13.out⟩
theorem fieldNums_walk' {w : World} (A : Option Addr) (l : List Int) (c : Nat) (hA : Rd w A (l.map (Value.int .i64))) (hb : ∀ n ∈ l, (Lit.int .i64 n).wf = true) (hl : l.length ≤ maxLen) (s : ByteArray) (hs : s.size ≤ maxLen) (hg : RngOk w ∧ TabOk w) :
    Calls Tryz.prog 5 #[.slice A l.length c, .string s] w fun e w' => e = .returned (.bool true) ∧ Ext w w' :=
  fieldNums_walk l (fun n hn => by have := bounds_i64 (hb n hn); exact ⟨by omega, by omega⟩) s A c w hA hl hs hg.1 hg.2
end Go.Proofs.YtgomondmogpkeaaGreatDoor
