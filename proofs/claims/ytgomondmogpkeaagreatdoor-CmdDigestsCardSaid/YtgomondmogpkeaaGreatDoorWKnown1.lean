/- The walk of folkmootlaw1.known: true. -/
import Derived.Test.YtgomondmogpkeaaGreatDoorWRPnums
import Derived.Test.YtgomondmogpkeaaGreatDoorLawJ
set_option linter.unusedVariables false
namespace Go.Proofs.YtgomondmogpkeaaGreatDoor
open Go.RowKit Go.Sort
abbrev kA : List ByteArray := [⟨#[97, 124, 98]⟩, ⟨#[]⟩, ⟨#[92]⟩]
abbrev kT : ByteArray := ⟨#[124, 97, 92, 124, 98, 124, 124, 92, 92]⟩
theorem k_join (w : World) (A : Option Addr) (c : Nat) (h : Rd w A (cStrs kA)) : Calls Tryz.prog 16 #[.slice A 3 c] w fun e w' => e = .returned (.string kT) ∧ Ext w w' :=
  join_calls kA A c w h (by decide) (by decide) (by decide)
theorem k_split (w : World) : Calls Tryz.prog 17 #[.string kT] w fun e w' => (∃ A c, e = .returned (.tuple #[.slice A 3 c, .int .i64 0]) ∧ Rd w' A (cStrs kA)) ∧ Ext w w' := by
  have h := split_calls kT (by decide) w
  rw [show J.split (bs kT) = .ok (kA.map bs) by kernel_rfl] at h
  exact h
theorem k_splitE (s : ByteArray) (hs : s.size ≤ 1099511627776) (h : J.split (bs s) = .error 2) (w : World) : Calls Tryz.prog 17 #[.string s] w fun e w' => e = .returned (.tuple #[.slice none 0 0, .int .i64 2]) ∧ Ext w w' := by
  have h2 := split_calls s hs w
  rw [h] at h2
  exact h2
theorem k_pnum (s : ByteArray) (hs : s.size ≤ 1099511627776) (n : Int) (h : J.pnum (bs s) = .ok n) (w : World) (hr : RngOk w) : Calls Tryz.prog 24 #[.string s] w fun e w' => e = .returned (.tuple #[.int .i64 n, .int .i64 0]) ∧ Ext w w' := by
  have h2 := pnum_calls s hs w hr
  rw [h] at h2
  exact h2
theorem k_pnumE (s : ByteArray) (hs : s.size ≤ 1099511627776) (n : Nat) (h : J.pnum (bs s) = .error n) (w : World) (hr : RngOk w) : Calls Tryz.prog 24 #[.string s] w fun e w' => e = .returned (.tuple #[.int .i64 0, .int .i64 (n : Int)]) ∧ Ext w w' := by
  have h2 := pnum_calls s hs w hr
  rw [h] at h2
  exact h2
theorem k_pnums (s : ByteArray) (hs : s.size ≤ 1099511627776) (l : List Int) (h : J.pnums (bs s) = .ok l) (w : World) (hr : RngOk w) : Calls Tryz.prog 22 #[.string s] w fun e w' => (∃ A c, e = .returned (.tuple #[.slice A l.length c, .int .i64 0]) ∧ Rd w' A (cI64s l)) ∧ Ext w w' := by
  have h2 := pnums_calls s hs w hr
  rw [h] at h2
  exact h2
theorem k_pnumsE (s : ByteArray) (hs : s.size ≤ 1099511627776) (n : Nat) (h : J.pnums (bs s) = .error n) (w : World) (hr : RngOk w) : Calls Tryz.prog 22 #[.string s] w fun e w' => e = .returned (.tuple #[.slice none 0 0, .int .i64 (n : Int)]) ∧ Ext w w' := by
  have h2 := pnums_calls s hs w hr
  rw [h] at h2
  exact h2
theorem names_same (l : List ByteArray) (A B : Option Addr) (c d : Nat) (w : World) (hA : Rd w A (cStrs l)) (hB : Rd w B (cStrs l)) (hl : l.length ≤ 9223372036854775807) :
    Calls Tryz.prog 19 #[.slice A l.length c, .slice B l.length d] w fun e w' => e = .returned (.bool true) ∧ Ext w w' :=
  (names_calls l l A B c d w hA hB hl hl).mono fun _ _ ⟨a, b⟩ => ⟨by rw [a, decide_eq_true rfl], b⟩
theorem ints_same (l : List Int) (A B : Option Addr) (c d : Nat) (w : World) (hA : Rd w A (cI64s l)) (hB : Rd w B (cI64s l)) (hl : l.length ≤ 9223372036854775807) :
    Calls Tryz.prog 27 #[.slice A l.length c, .slice B l.length d] w fun e w' => e = .returned (.bool true) ∧ Ext w w' :=
  (ints_calls l l A B c d w hA hB hl hl).mono fun _ _ ⟨a, b⟩ => ⟨by rw [a, decide_eq_true rfl], b⟩
abbrev kI : List Int := [1, -2, 3]
theorem kI_bd : ∀ n ∈ kI, I64 n := by unfold I64; decide
theorem k_least : J.pnum (bs ⟨#[45, 57, 50, 50, 51, 51, 55, 50, 48, 51, 54, 56, 53, 52, 55, 55, 53, 56, 48, 56]⟩) = .ok (-9223372036854775808) := by kernel_rfl
theorem itoa_1 : Lib.itoa 1 = [49] := by rw [show (1 : Int) = ((1 : Nat) : Int) from rfl, Lib.itoa_nonneg, J.dec_small (by decide)]; rfl
theorem itoa_3 : Lib.itoa 3 = [51] := by rw [show (3 : Int) = ((3 : Nat) : Int) from rfl, Lib.itoa_nonneg, J.dec_small (by decide)]; rfl
theorem itoa_m2 : Lib.itoa (-2) = [45, 50] := by rw [show (-2 : Int) = -((2 : Nat) : Int) from rfl, Lib.itoa_neg _ (by decide), J.dec_small (by decide)]; rfl
theorem itoa_0 : Lib.itoa 0 = [48] := by rw [show (0 : Int) = ((0 : Nat) : Int) from rfl, Lib.itoa_nonneg, J.dec_small (by decide)]; rfl
theorem k_numsL : strOf (numsL kI) = ⟨#[49, 44, 45, 50, 44, 51]⟩ := by
  unfold numsL kI
  rw [List.map_cons, List.map_cons, List.map_cons, itoa_1, itoa_m2, itoa_3]
  rfl
theorem k_nums (w : World) (A : Option Addr) (c : Nat) (h : Rd w A (cI64s kI)) (ht : TabOk w) : Calls Tryz.prog 21 #[.slice A 3 c] w fun e w' => e = .returned (.string ⟨#[49, 44, 45, 50, 44, 51]⟩) ∧ Ext w w' :=
  (nums_calls kI kI_bd A c w h (by decide) ht).mono fun _ _ ⟨a, b⟩ => ⟨by rw [a, k_numsL], b⟩
theorem k_num0 (w : World) (ht : TabOk w) : Calls Tryz.prog 32 #[.int .i64 0] w fun e w' => e = .returned (.string ⟨#[48]⟩) ∧ Ext w w' :=
  (num_calls 0 (by decide) (by decide) w ht).mono fun _ _ ⟨a, b⟩ => ⟨by rw [a, itoa_0], b⟩
theorem k_join0 (w : World) : Calls Tryz.prog 16 #[.slice none 0 0] w fun e w' => e = .returned (.string ⟨#[]⟩) ∧ Ext w w' :=
  join_calls [] none 0 w (Rd.nil _ _) (by decide) (by decide) (by simp)
theorem k_map (w : World) (A : Option Addr) (c : Nat) (h : Rd w A (cI64s kI)) : Calls Tryz.prog 28 #[.slice A 3 c, .func (.func 29) #[] #[]] w fun e w' => (∃ B d, e = .returned (.slice B 3 d) ∧ Rd w' B (cI64s [2, -4, 6])) ∧ Ext w w' :=
  (mapTwice_calls kI kI_bd A c w h (by decide)).mono fun _ _ ⟨⟨B, d, a, b⟩, x⟩ => ⟨⟨B, d, a, by rw [show ([2, -4, 6] : List Int) = kI.map dbl by simp [dbl, wrap64]]; exact b⟩, x⟩
set_option maxHeartbeats 2000000 in
set_option maxRecDepth 100000 in
theorem known1_calls (w : World) (hr : RngOk w) (ht : TabOk w) :
    Calls Tryz.prog 14 #[] w fun e w' => e = .returned (.bool true) ∧ Ext w w' := by
  have HR := Lib.hid hr
  have HT := Lib.hid ht.all
  clear hr ht
  go_enter Tryz.func14, Tryz.ntmps14
  go_wp2_with fail
  refine (k_join _ _ _ (Rd.fresh w (cStrs kA) 9 (0, 0))).mono ?_
  rintro e w1 ⟨rfl, hx⟩
  have HX1 := Lib.hid (((Ext.rfl' w).alloc (.cells (cStrs kA).toArray 9 (0, 0))).tr hx)
  clear hx
  go_wp2_with fail
  refine (k_split _).mono ?_
  rintro e w2 ⟨⟨A2, c2, rfl, hl⟩, hx⟩
  have HX2 := Lib.hid (HX1.out.tr hx)
  have HL := Lib.hid hl
  have HY2 := Lib.hid (Ext.rfl' w2)
  clear hx hl
  go_wp2_with fail
  refine (k_splitE ⟨#[97]⟩ (by decide) (by kernel_rfl) _).mono ?_
  rintro e w3 ⟨rfl, hx⟩
  have HY3 := Lib.hid (HY2.out.tr hx)
  clear hx
  go_wp2_with fail
  refine (k_splitE ⟨#[124, 97, 92, 98]⟩ (by decide) (by kernel_rfl) _).mono ?_
  rintro e w4 ⟨rfl, hx⟩
  have HY4 := Lib.hid (HY3.out.tr hx)
  clear hx
  go_wp2_with fail
  refine (k_pnum _ (by decide) _ k_least _ (HR.out.ext (HX2.out.tr HY4.out))).mono ?_
  rintro e w5 ⟨rfl, hx⟩
  have HY5 := Lib.hid (HY4.out.tr hx)
  clear hx
  go_wp2_with fail
  refine (k_pnumE ⟨#[45, 48]⟩ (by decide) 2 (by kernel_rfl) _ (HR.out.ext (HX2.out.tr HY5.out))).mono ?_
  rintro e w6 ⟨rfl, hx⟩
  have HY6 := Lib.hid (HY5.out.tr hx)
  clear hx
  go_wp2_with fail
  refine (k_pnumE ⟨#[57, 50, 50, 51, 51, 55, 50, 48, 51, 54, 56, 53, 52, 55, 55, 53, 56, 48, 56]⟩ (by decide) 4 (by kernel_rfl) _ (HR.out.ext (HX2.out.tr HY6.out))).mono ?_
  rintro e w7 ⟨rfl, hx⟩
  have HY7 := Lib.hid (HY6.out.tr hx)
  clear hx
  go_wp2_with fail
  refine (k_pnums ⟨#[49, 44, 45, 50, 44, 51]⟩ (by decide) kI (by kernel_rfl) _ (HR.out.ext (HX2.out.tr HY7.out))).mono ?_
  rintro e w8 ⟨⟨A8, c8, rfl, hl⟩, hx⟩
  have HY8 := Lib.hid (HY7.out.tr hx)
  have HM := Lib.hid hl
  have HZ8 := Lib.hid (Ext.rfl' w8)
  clear hx hl
  go_wp2_with fail
  refine (k_pnumsE ⟨#[57, 57, 57, 57, 57, 57, 57, 57, 57, 57, 57, 57, 57, 57, 57, 57, 57, 57, 57, 57, 44, 97]⟩ (by decide) 2 (by kernel_rfl) _ (HR.out.ext (HX2.out.tr HY8.out))).mono ?_
  rintro e w9 ⟨rfl, hx⟩
  have HZ9 := Lib.hid (HZ8.out.tr hx)
  clear hx
  have HL9 := Lib.hid (HL.out.ext ((HY8.out.tr HZ9.out).alloc (.cells (cStrs kA).toArray 9 (0, 0))))
  have HZ10 := Lib.hid (HZ9.out.alloc (.cells (cStrs kA).toArray 9 (0, 0)))
  go_wp2_with fail
  refine (names_same kA _ _ _ _ _ HL9.out (Rd.fresh w9 (cStrs kA) 9 (0, 0)) (by decide)).mono ?_
  rintro e w10 ⟨rfl, hx⟩
  have HZ11 := Lib.hid (HZ10.out.tr hx)
  clear hx
  have HM11 := Lib.hid (HM.out.ext (HZ11.out.alloc (.cells (cI64s kI).toArray 2 (0, 0))))
  have HZ12 := Lib.hid (HZ11.out.alloc (.cells (cI64s kI).toArray 2 (0, 0)))
  go_wp2_with fail
  refine (ints_same kI _ _ _ _ _ HM11.out (Rd.fresh w10 (cI64s kI) 2 (0, 0)) (by decide)).mono ?_
  rintro e w11 ⟨rfl, hx⟩
  have HZ13 := Lib.hid (HZ12.out.tr hx)
  clear hx
  go_wp2_with fail
  refine (k_nums _ _ _ (HM.out.ext HZ13.out) (HT.out _ ((HX2.out.tr HY8.out).tr HZ13.out))).mono ?_
  rintro e w12 ⟨rfl, hx⟩
  have HZ14 := Lib.hid (HZ13.out.tr hx)
  clear hx
  go_wp2_with fail
  refine (k_num0 _ (HT.out _ ((HX2.out.tr HY8.out).tr HZ14.out))).mono ?_
  rintro e w13 ⟨rfl, hx⟩
  have HZ15 := Lib.hid (HZ14.out.tr hx)
  clear hx
  go_wp2_with fail
  refine (k_join0 _).mono ?_
  rintro e w14 ⟨rfl, hx⟩
  have HZ16 := Lib.hid (HZ15.out.tr hx)
  clear hx
  go_wp2_with fail
  refine (k_map _ _ _ (HM.out.ext HZ16.out)).mono ?_
  rintro e w15 ⟨⟨A15, c15, rfl, hl⟩, hx⟩
  have HZ17 := Lib.hid ((HZ16.out.tr hx).alloc (.cells (cI64s [2, -4, 6]).toArray 2 (0, 0)))
  have HQ := Lib.hid (hl.alloc (.cells (cI64s [2, -4, 6]).toArray 2 (0, 0)))
  clear hx hl
  go_wp2_with fail
  refine (ints_same [2, -4, 6] _ _ _ _ _ HQ.out (Rd.fresh w15 (cI64s [2, -4, 6]) 2 (0, 0)) (by decide)).mono ?_
  rintro e w16 ⟨rfl, hx⟩
  have HZ18 := Lib.hid ((HX2.out.tr HY8.out).tr (HZ17.out.tr hx))
  clear hx
  go_wp2
  go_ret
  exact ⟨by first | rfl | simp, HZ18.out⟩
end Go.Proofs.YtgomondmogpkeaaGreatDoor
