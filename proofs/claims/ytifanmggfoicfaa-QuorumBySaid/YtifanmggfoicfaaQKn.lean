/- The walk of known() of law 6. -/
import Derived.Test.YtifanmggfoicfaaQLaw
set_option linter.unusedVariables false
namespace Go.Proofs.Ytifanmggfoicfaa
open Go.RowKit Go.Shelf Go.Sort
theorem en_is (f : Int) (l : List Int) (b : Bool) (h : renoughB f l = b) : enoughB f l = b := by rw [enough_ref, h]
theorem rd_new (W : World) (l : List Int) : Rd (W.alloc (.cells (cIs l).toArray 3)) (some ⟨W.heap.size, 0, none⟩) (cIs l) := Rd.fresh W (cIs l) _ (0, 0)
theorem rd_new2 (W : World) (o : Obj) (l : List Int) : Rd ((W.alloc o).alloc (.cells (cIs l).toArray 3)) (some ⟨W.heap.size + 1, 0, none⟩) (cIs l) := by
  have h := rd_new (W.alloc o) l
  rwa [World.size_alloc] at h
theorem box_ext {W W' : World} {B : Nat} {t : TypeId} {v : Value} (h : Boxed W B t v) (k : Ext W W') : Boxed W' B t v := (k.block _ h.lt).trans h
set_option maxRecDepth 100000 in
set_option maxHeartbeats 1000000 in
theorem known6_calls (w : World) : Calls Try.prog 22 #[] w fun e w' => e = .returned (.bool true) ∧ Ext w w' := by
  have HBY := Lib.hid (fun W (A : Option Addr) (hA : Rd W A (cIs [12, 25, 13])) => show Calls Try.prog 36 #[.slice A 3 3, .func (.func 37) #[] #[]] W fun e w' => (∃ b, e = .returned (.map (some b)) ∧ MapI Try.prog 3 .i64 w' b (firstOf [12, 25, 13]) (cntOf [12, 25, 13])) ∧ Ext W w' from by_calls [12, 25, 13] (by unfold I64'; decide) A 3 (by decide) W hA)
  have HN := Lib.hid (fun W => show Calls Try.prog 30 #[confV 1] W fun e w' => e = .returned (.int .i64 4) ∧ Ext W w' from n_calls 1 (by decide) (by decide) W)
  have HQ := Lib.hid (fun W => show Calls Try.prog 32 #[confV 1] W fun e w' => e = .returned (.int .i64 3) ∧ Ext W w' from q_calls 1 (by decide) (by decide) W)
  have HCK := Lib.hid (check_calls 1)
  have HCK4 := Lib.hid (check_calls 4)
  have HD := Lib.hid (fun W (A : Option Addr) (hA : Rd W A (cIs [3, 1, 3])) => show Calls Try.prog 26 #[.slice A 3 3] W fun e w' => (∃ v, e = .returned v ∧ w'.ownsRow W.heap.size 3 1 v 2 (cIs [1, 3])) ∧ Ext W w' from by
    have h := distinct_calls [3, 1, 3] A 3 (by decide) W hA
    rwa [show dst [3, 1, 3] = [1, 3] by rw [dst_rdst]; decide] at h)
  have HI := Lib.hid (fun W (A B : Option Addr) (c : Nat) (hA : Rd W A (cIs [1, 3])) (hB : Rd W B (cIs [1, 3])) => show Calls Try.prog 25 #[.slice A 2 c, .slice B 2 2] W fun e w' => e = .returned (.bool true) ∧ Ext W w' from ints_calls [1, 3] A c [1, 3] B 2 (by decide) (by decide) W hA hB)
  have HE1 := Lib.hid (fun W (A : Option Addr) (hA : Rd W A (cIs [0, 3, 1, 3])) => show Calls Try.prog 34 #[confV 1, .slice A 4 4] W fun e w' => e = .returned (.bool true) ∧ Ext W w' from by
    have h := enough_calls 1 (by decide) (by decide) [0, 3, 1, 3] A 4 (by decide) W hA
    rwa [en_is 1 [0, 3, 1, 3] true (by decide)] at h)
  have HE2 := Lib.hid (fun W (A : Option Addr) (hA : Rd W A (cIs [0, 4, 1, -1])) => show Calls Try.prog 34 #[confV 1, .slice A 4 4] W fun e w' => e = .returned (.bool false) ∧ Ext W w' from by
    have h := enough_calls 1 (by decide) (by decide) [0, 4, 1, -1] A 4 (by decide) W hA
    rwa [en_is 1 [0, 4, 1, -1] false (by decide)] at h)
  have HC := Lib.hid (fun W (A B : Option Addr) (hA : Rd W A (cIs [2, 1, 2])) (hB : Rd W B (cIs [3, 2])) => show Calls Try.prog 28 #[.slice A 3 3, .slice B 2 2] W fun e w' => (∃ v, e = .returned v ∧ w'.ownsRow W.heap.size 3 1 v 1 (cIs [2])) ∧ Ext W w' from by
    have h := common_calls [2, 1, 2] A 3 [3, 2] B 2 (by decide) (by decide) W hA hB
    rwa [show common [2, 1, 2] [3, 2] = [2] by rw [common_ref]; decide] at h)
  have HI2 := Lib.hid (fun W (A B : Option Addr) (c : Nat) (hA : Rd W A (cIs [2])) (hB : Rd W B (cIs [2])) => show Calls Try.prog 25 #[.slice A 1 c, .slice B 1 1] W fun e w' => e = .returned (.bool true) ∧ Ext W w' from ints_calls [2] A c [2] B 1 (by decide) (by decide) W hA hB)
  rw [show confC 1 = 0 by decide] at HCK
  rw [show confC 4 = 1 by decide] at HCK4
  have hF1 : firstOf [12, 25, 13] 1 = some (.int .i64 12) := by rfl
  have hF2 : firstOf [12, 25, 13] 2 = some (.int .i64 25) := by rfl
  have hC : cntOf [12, 25, 13] = 2 := by decide
  go_enter Try.func22, Try.ntmps22
  go_wp2_with fail
  refine (HBY.out _ _ (rd_new2 _ _ [12, 25, 13])).mono ?_
  rintro e w1 ⟨⟨b, rfl, hM⟩, hx⟩
  have HX1 := Lib.hid ((((Ext.rfl' w).alloc _).alloc _).tr hx)
  have HB1 := Lib.hid (box_ext ((Boxed.new w tConf (.int .i64 1)).alloc _) hx)
  have HM1 := Lib.hid hM
  have c0 := HB1.out.cell
  clear hM hx HBY
  go_wp2_with fail
  refine (HN.out _).mono ?_
  rintro e w2 ⟨rfl, hx⟩
  have HX2 := Lib.hid (HX1.out.tr (hx))
  have HB2 := Lib.hid (box_ext HB1.out (hx))
  have HM2 := Lib.hid (HM1.out.ext (hx))
  clear hx c0 HX1 HB1 HM1
  have c0 := HB2.out.cell
  go_wp2_with fail
  refine (HQ.out _).mono ?_
  rintro e w3 ⟨rfl, hx⟩
  have HX3 := Lib.hid (HX2.out.tr (hx))
  have HB3 := Lib.hid (box_ext HB2.out (hx))
  have HM3 := Lib.hid (HM2.out.ext (hx))
  clear hx c0 HX2 HB2 HM2
  have c0 := HB3.out.cell
  go_wp2_with fail
  refine (HD.out _ _ (rd_new _ [3, 1, 3])).mono ?_
  rintro e w4 ⟨⟨v4, rfl, hown4⟩, hx⟩
  obtain ⟨A4, cc4, rfl, hr4⟩ := rd_of_own hown4
  have HR4 := Lib.hid hr4
  clear hown4 hr4
  have HX4 := Lib.hid (HX3.out.tr (((Ext.rfl' _).alloc _).tr hx))
  have HB4 := Lib.hid (box_ext HB3.out (((Ext.rfl' _).alloc _).tr hx))
  have HM4 := Lib.hid (HM3.out.ext (((Ext.rfl' _).alloc _).tr hx))
  clear hx c0 HX3 HB3 HM3
  have c0 := HB4.out.cell
  go_wp2_with fail
  refine (HI.out _ _ _ _ (HR4.out.alloc _) (rd_new _ [1, 3])).mono ?_
  rintro e w5 ⟨rfl, hx⟩
  have HX5 := Lib.hid (HX4.out.tr (((Ext.rfl' _).alloc _).tr hx))
  have HB5 := Lib.hid (box_ext HB4.out (((Ext.rfl' _).alloc _).tr hx))
  have HM5 := Lib.hid (HM4.out.ext (((Ext.rfl' _).alloc _).tr hx))
  clear hx c0 HX4 HB4 HM4
  have c0 := HB5.out.cell
  go_wp2_with fail
  refine (HE1.out _ _ (rd_new _ [0, 3, 1, 3])).mono ?_
  rintro e w6 ⟨rfl, hx⟩
  have HX6 := Lib.hid (HX5.out.tr (((Ext.rfl' _).alloc _).tr hx))
  have HB6 := Lib.hid (box_ext HB5.out (((Ext.rfl' _).alloc _).tr hx))
  have HM6 := Lib.hid (HM5.out.ext (((Ext.rfl' _).alloc _).tr hx))
  clear hx c0 HX5 HB5 HM5
  have c0 := HB6.out.cell
  go_wp2_with fail
  refine (HE2.out _ _ (rd_new _ [0, 4, 1, -1])).mono ?_
  rintro e w7 ⟨rfl, hx⟩
  have HX7 := Lib.hid (HX6.out.tr (((Ext.rfl' _).alloc _).tr hx))
  have HB7 := Lib.hid (box_ext HB6.out (((Ext.rfl' _).alloc _).tr hx))
  have HM7 := Lib.hid (HM6.out.ext (((Ext.rfl' _).alloc _).tr hx))
  clear hx c0 HX6 HB6 HM6
  have c0 := HB7.out.cell
  go_wp2_with fail
  refine (HC.out _ _ _ ((rd_new _ [2, 1, 2]).alloc _) (rd_new2 _ _ [3, 2])).mono ?_
  rintro e w8 ⟨⟨v8, rfl, hown8⟩, hx⟩
  obtain ⟨A8, cc8, rfl, hr8⟩ := rd_of_own hown8
  have HR8 := Lib.hid hr8
  clear hown8 hr8
  have HX8 := Lib.hid (HX7.out.tr ((((Ext.rfl' _).alloc _).alloc _).tr hx))
  have HB8 := Lib.hid (box_ext HB7.out ((((Ext.rfl' _).alloc _).alloc _).tr hx))
  have HM8 := Lib.hid (HM7.out.ext ((((Ext.rfl' _).alloc _).alloc _).tr hx))
  clear hx c0 HX7 HB7 HM7
  have c0 := HB8.out.cell
  go_wp2_with fail
  refine (HI2.out _ _ _ _ (HR8.out.alloc _) (rd_new _ [2])).mono ?_
  rintro e w9 ⟨rfl, hx⟩
  have HX9 := Lib.hid (HX8.out.tr (((Ext.rfl' _).alloc _).tr hx))
  have HB9 := Lib.hid (box_ext HB8.out (((Ext.rfl' _).alloc _).tr hx))
  have HM9 := Lib.hid (HM8.out.ext (((Ext.rfl' _).alloc _).tr hx))
  clear hx c0 HX8 HB8 HM8
  have c0 := HB9.out.cell
  go_wp2_with fail
  refine (HCK.out _).mono ?_
  rintro e w10 ⟨rfl, hx⟩
  have HX10 := Lib.hid (HX9.out.tr (hx))
  have HB10 := Lib.hid (box_ext HB9.out (hx))
  have HM10 := Lib.hid (HM9.out.ext (hx))
  clear hx c0 HX9 HB9 HM9
  have c0 := HB10.out.cell
  go_wp2_with fail
  refine (HCK4.out _).mono ?_
  rintro e w11 ⟨rfl, hx⟩
  have HX11 := Lib.hid (HX10.out.tr (hx))
  have HB11 := Lib.hid (box_ext HB10.out (hx))
  have HM11 := Lib.hid (HM10.out.ext (hx))
  clear hx c0 HX10 HB10 HM10
  have c0 := HB11.out.cell
  have hl := HM11.out.len (t := 115) Try.underlying115 3
  have h1 := HM11.out.look1 (t := 115) Try.underlying3 Try.underlying115 (Try.zeroValue3 _) (x := 1) (by decide)
  have h2 := HM11.out.look1 (t := 115) Try.underlying3 Try.underlying115 (Try.zeroValue3 _) (x := 2) (by decide)
  rw [hF1] at h1
  rw [hF2] at h2
  rw [hC] at hl
  clear hF1 hF2 hC
  go_wp2
  go_ret
  exact ⟨rfl, HX11.out⟩
end Go.Proofs.Ytifanmggfoicfaa
