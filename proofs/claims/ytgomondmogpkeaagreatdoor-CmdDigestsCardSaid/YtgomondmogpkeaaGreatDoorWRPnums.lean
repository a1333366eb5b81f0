/- The walk of the reference's ParseNums. -/
import Derived.Test.YtgomondmogpkeaaGreatDoorWRParts
import Derived.Test.YtgomondmogpkeaaGreatDoorWPnums
set_option linter.unusedVariables false
namespace Go.Proofs.YtgomondmogpkeaaGreatDoor
open Go.RowKit Go.Sort
theorem parts_size (l : List UInt8) : ∀ p ∈ J.parts l, p.length ≤ l.length := by
  induction l with
  | nil => intro p hp; simp [J.parts] at hp; subst hp; simp
  | cons c l ih =>
    intro p hp
    by_cases hc : c = 44
    · rw [hc, J.parts_comma] at hp
      rcases List.mem_cons.1 hp with rfl | hp
      · simp
      · have := ih p hp; simp; omega
    · cases e : J.parts l with
      | nil => exact absurd e (J.parts_ne l)
      | cons q qs =>
        rw [J.parts_other hc l e] at hp
        rw [e] at ih
        rcases List.mem_cons.1 hp with rfl | hp
        · have := ih q (by simp); simp; omega
        · have := ih p (by simp [hp]); simp; omega
set_option maxHeartbeats 2000000 in
set_option maxRecDepth 100000 in
theorem rpnums_calls (s : ByteArray) (hs : s.size ≤ 1099511627776) (w : World) :
    Calls Tryz.prog 23 #[.string s] w fun e w' => NumsEnd (J.pnums (bs s)) e w' ∧ Ext w w' := by
  obtain ⟨i0, hi, hz0, hz1, hz2⟩ := info_parts bI64
  by_cases he : bs s = []
  · have e0 : s.toList.isEmpty = true := toList_empty.2 he
    have HB := Lib.hid (show J.pnums (bs s) = .ok [] by rw [J.pnums, if_pos he])
    clear he
    go_enter Tryz.func23, Tryz.ntmps23
    go_wp2
    go_ret2
    exact ⟨by rw [HB.out]; exact ⟨none, 0, rfl, Rd.nil _ _⟩, Ext.rfl' _⟩
  · have e0 : s.toList.isEmpty = false := by
      cases hh : s.toList.isEmpty with
      | false => rfl
      | true => exact absurd (toList_empty.1 hh) he
    have HB := Lib.hid (show J.pnums (bs s) = J.pl (J.parts (bs s)) [] false by rw [J.pnums, if_neg he])
    have HPS := Lib.hid (parts_size (bs s))
    have hplen := J.parts_length (bs s)
    have hks : (bs s).length ≤ 1099511627776 := hs
    have HPC := Lib.hid (parts_calls s hs w)
    clear he
    generalize J.parts (bs s) = L at *
    generalize J.pnums (bs s) = R at *
    go_enter Tryz.func23, Tryz.ntmps23
    go_wp2_with fail
    refine HPC.out.mono ?_
    rintro e w1 ⟨⟨A, c, rfl, hrd⟩, hx⟩
    have HX := Lib.hid hx
    have HR := Lib.hid hrd
    clear hx hrd
    go_wp2
    go_loopw [5, 6, 7] (fun v lg i wr => ∃ (k : Nat) (out : List Int) (long : Bool), k ≤ L.length ∧ i = .int .i64 k ∧ lg = .bool long ∧ J.pl L [] false = J.pl (L.drop k) out long ∧ out.length = k ∧
        wr.ownsRow w1.heap.size 2 1 v k (cI64s out) ∧ Below w1.heap.size w1 wr) (fun _ _ i _ => L.length - (intOf i).toNat)
    case atStart => exact ⟨0, [], false, Nat.zero_le _, rfl, rfl, rfl, rfl, World.ownsRow_nil _ _ _ _, Below.refl _ _⟩
    case round =>
      obtain ⟨k, out, long, hk, rfl, rfl, hpl, hol, hoo, hB⟩ := hrel
      by_cases hlt : k < L.length
      · obtain ⟨ad, rfl, _, hc⟩ := (HR.out.ext hB).at_ (j := k) (u := .string (strOf L[k])) (by simp [hlt])
        have hsz : (strOf L[k]).size ≤ 1099511627776 := Nat.le_trans (HPS.out L[k] (by simp)) hks
        have HP := Lib.hid (rpnum_calls (strOf L[k]) hsz wr)
        rw [List.drop_eq_getElem_cons hlt] at hpl
        have HBX := Lib.hid hB
        have HOO := Lib.hid hoo
        have HOL := Lib.hid hol
        clear hB hoo hol
        by_cases hp : J.pnum L[k] = .error 2
        · have HE := Lib.hid (show R = .error 2 by rw [HB.out, hpl]; exact J.pl_bad hp _ _ _)
          have HP2 := Lib.hid (show ∀ e, NumEnd (J.pnum (bs (strOf L[k]))) e → e = .returned (.tuple #[.int .i64 0, .int .i64 2]) from fun e he => by
            rw [show J.pnum (bs (strOf L[k])) = .error 2 from hp] at he
            exact he)
          clear hpl hp
          generalize L[k] = x at *
          go_wp2_with fail
          refine HP.out.mono ?_
          rintro e w' ⟨he, rfl⟩
          obtain rfl := HP2.out _ he
          clear he
          go_wp2
          go_ret2
          exact ⟨by rw [HE.out]; exact rfl, HX.out.tr HBX.out⟩
        · obtain ⟨m, e, he4, hend, hcont⟩ : ∃ (m : Int) (e : Int), (e = 0 ∨ e = 4) ∧ (∀ en, NumEnd (J.pnum (bs (strOf L[k]))) en → en = .returned (.tuple #[.int .i64 m, .int .i64 e])) ∧
              (J.pl L [] false = J.pl (L.drop (k + 1)) (out ++ [m]) (long || decide (e = 4))) := by
            rcases J.pnum_cases L[k] with h | h | ⟨m, h⟩
            · exact absurd h hp
            · refine ⟨0, 4, .inr rfl, fun en he => by rw [show J.pnum (bs (strOf L[k])) = .error 4 from h] at he; exact he, ?_⟩
              rw [hpl]
              exact (J.pl_long h _ out long).trans (by simp)
            · refine ⟨m, 0, .inl rfl, fun en he => by rw [show J.pnum (bs (strOf L[k])) = .ok m from h] at he; exact he, ?_⟩
              rw [hpl]
              exact (J.pl_ok h _ out long).trans (by simp)
          have HE := Lib.hid hend
          have HC := Lib.hid hcont
          clear hpl hp hend hcont
          generalize L[k] = x at *
          rcases he4 with rfl | rfl <;> cases long
          all_goals
            have hsz1 := HBX.out.size
            have hoo1 := HOO.out.alloc (.cells #[.int .i64 m] 2)
            go_wp2_with fail
            refine HP.out.mono ?_
            rintro en w' ⟨he, rfl⟩
            obtain rfl := HE.out _ he
            clear he
            go_wp2_with (at_builtin; (refine wpList_append_own _ rfl _ _ 33 rfl w1.heap.size 2 i0 (.int .i64 0) 1 8 Tryz.underlying33 hi hz0 hz1 hz2 rfl (by decide) _ _ _ rfl hoo1 ⟨wr.heap.size, 0, none⟩ 1 1 [.int .i64 m] rfl rfl (cell_one_new _ _ _) (fun x hx => by simp at hx; subst hx; rfl) (by unfold maxLen; omega) (by omega) (by simp; omega) ?_); intro v' w2 hown' hgrow _)
            have hB2 : Below w1.heap.size w1 w2 := (HBX.out.alloc hsz1 _).grown hgrow (by simp; omega) (fun q hq => (HOO.out.lt q hq).1)
            have HO2 := Lib.hid hown'
            have HB2 := Lib.hid hB2
            clear hown' hgrow hB2 hoo1
            go_wp2
            go_roundw
            case rel => exact ⟨k + 1, out ++ [m], _, hlt, by go_num, rfl, HC.out, by simp [HOL.out], by simpa [cI64s] using HO2.out, HB2.out⟩
            case measure => simp [intOf]; omega
      · obtain rfl : k = L.length := by omega
        rw [List.drop_length] at hpl
        have HBX := Lib.hid hB
        have HPL := Lib.hid (HB.out.trans hpl)
        obtain ⟨A2, c2, rfl, hrd⟩ := rd_of_own hoo
        have HRD := Lib.hid hrd
        have HOL := Lib.hid hol
        clear hpl hB hoo hrd hol
        cases long
        · go_wp2
          go_ret2
          exact ⟨by rw [HPL.out]; exact ⟨A2, c2, by rw [HOL.out]; rfl, HRD.out⟩, HX.out.tr HBX.out⟩
        · go_wp2
          go_ret2
          exact ⟨by rw [HPL.out]; exact rfl, HX.out.tr HBX.out⟩
end Go.Proofs.YtgomondmogpkeaaGreatDoor
