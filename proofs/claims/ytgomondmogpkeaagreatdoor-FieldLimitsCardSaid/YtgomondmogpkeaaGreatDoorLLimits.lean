/- The walk of the law FieldLimits. -/
import Derived.Test.YtgomondmogpkeaaGreatDoorLJoins
import Derived.Deep.OwnRows
set_option linter.unusedVariables false
namespace Go.Proofs.YtgomondmogpkeaaGreatDoor
open Go.RowKit
theorem set_rep {α : Type} (a b : α) (k m : Nat) (h : 0 < m) : (List.replicate k a ++ List.replicate m b).set k a = List.replicate (k + 1) a ++ List.replicate (m - 1) b := by
  obtain ⟨m, rfl⟩ : ∃ q, m = q + 1 := ⟨m - 1, by omega⟩
  rw [List.set_append_right _ _ (by simp), List.length_replicate, Nat.sub_self, List.replicate_succ (n := m), List.set_cons_zero, Nat.add_sub_cancel, List.replicate_succ', List.append_assoc]
  rfl
theorem made_rep (z : Value) (n : Nat) : (madeCells #[z] n).toList = List.replicate n z := by
  refine List.ext_getElem (by simp [madeCells]) fun i h1 h2 => ?_
  simp [madeCells, Nat.mod_one]
set_option maxHeartbeats 4000000 in
set_option maxRecDepth 100000 in
theorem fieldLimits_walk (deep : Int) (hd0 : 0 ≤ deep) (hd1 : deep < 256) (s : ByteArray) (w : World) (hr : RngOk w) (ht : TabOk w) :
    Calls Tryz.prog 6 #[.int .u8 deep, .string s] w fun e w' => e = .returned (.bool true) ∧ Ext w w' := by
  have HK := Lib.hid (known1_calls w hr ht)
  clear hr ht
  by_cases hbig : 20 < s.size
  · have hb : (20 : Int) < s.size := by omega
    clear hbig
    go_enter Tryz.func6, Tryz.ntmps6
    go_wp2_with fail
    refine HK.out.mono ?_
    rintro e w1 ⟨rfl, hx⟩
    have HX := Lib.hid hx
    clear hx
    go_wp2
    go_ret
    exact ⟨rfl, HX.out⟩
  · have hb : (s.size : Int) ≤ 20 := by omega
    obtain ⟨r, hr, hr4⟩ : ∃ r : Nat, deep % 5 = (r : Int) ∧ r ≤ 4 := ⟨(deep % 5).toNat, by omega, by omega⟩
    have hmk : ∀ w, (Instr.makeSlice 22 (.int .i64 (4094 + (r : Int))) (.int .i64 (4094 + (r : Int)))).run Tryz.prog w = .ok (.slice (some ⟨w.heap.size, 0, none⟩) (4094 + r) (4094 + r)) (w.alloc (.cells (madeCells #[.string ⟨#[]⟩] (4094 + r)) 9)) := fun w => by
      have := run_make_row' (P := Tryz.prog) 22 9 (.string ⟨#[]⟩) 16 Tryz.underlying22 bStr rfl .i64 .i64 (4094 + r) (by omega) (by omega) w
      rwa [show ((4094 + r : Nat) : Int) = 4094 + (r : Int) from by omega] at this
    have hjl := join_le 20 (List.replicate (4094 + r) s) (fun t ht => by rw [List.eq_of_mem_replicate ht]; omega)
    rw [List.length_replicate] at hjl
    have HJ := Lib.hid (show ∀ (A : Option Addr) (c : Nat) (w : World), Rd w A (cStrs (List.replicate (4094 + r) s)) → Calls Tryz.prog 16 #[.slice A (4094 + r) c] w fun e w' => e = .returned (.string (strOf (J.join ((List.replicate (4094 + r) s).map bs)))) ∧ Ext w w' from fun A c w h => by
      have := join_calls (List.replicate (4094 + r) s) A c w h (by omega) (by rw [List.length_replicate]; omega) (fun t ht => by rw [List.eq_of_mem_replicate ht]; omega)
      rwa [List.length_replicate] at this)
    have HSP := Lib.hid (fun w => split_calls (strOf (J.join ((List.replicate (4094 + r) s).map bs))) (show (J.join ((List.replicate (4094 + r) s).map bs)).length ≤ _ by omega) w)
    have hsj : J.split (bs (strOf (J.join ((List.replicate (4094 + r) s).map bs)))) = J.most ((List.replicate (4094 + r) s).map bs) := J.split_join _
    rw [hsj] at HSP
    have HNM := Lib.hid (show ∀ (A B : Option Addr) (c d : Nat) (w : World), Rd w A (cStrs (List.replicate (4094 + r) s)) → Rd w B (cStrs (List.replicate (4094 + r) s)) → Calls Tryz.prog 19 #[.slice A (4094 + r) c, .slice B (4094 + r) d] w fun e w' => e = .returned (.bool true) ∧ Ext w w' from fun A B c d w h1 h2 => by
      have := names_same (List.replicate (4094 + r) s) A B c d w h1 h2 (by rw [List.length_replicate]; omega)
      rwa [List.length_replicate] at this)
    have HMO := Lib.hid (show ∀ e w', SplitEnd (J.most ((List.replicate (4094 + r) s).map bs)) e w' → (4096 < 4094 + r → e = .returned (.tuple #[.slice none 0 0, .int .i64 4])) ∧ (¬ 4096 < 4094 + r → ∃ A c, e = .returned (.tuple #[.slice A (4094 + r) c, .int .i64 0]) ∧ Rd w' A (cStrs (List.replicate (4094 + r) s))) from fun e w' h => by
      unfold J.most at h
      rw [List.length_map, List.length_replicate] at h
      refine ⟨fun h1 => ?_, fun h1 => ?_⟩
      · rw [if_pos (by omega)] at h
        exact h
      · rw [if_neg (by omega)] at h
        obtain ⟨A, c, h2, h3⟩ := h
        rw [List.length_map, List.length_replicate] at h2
        refine ⟨A, c, h2, ?_⟩
        have e2 : cFs ((List.replicate (4094 + r) s).map bs) = cStrs (List.replicate (4094 + r) s) := by
          simp only [cFs, cStrs, List.map_map]
          exact List.map_congr_left fun x _ => rfl
        rwa [e2] at h3)
    clear hjl hsj hbig
    generalize strOf (J.join ((List.replicate (4094 + r) s).map bs)) = Z at *
    generalize J.most ((List.replicate (4094 + r) s).map bs) = M at *
    go_enter Tryz.func6, Tryz.ntmps6
    go_wp2_with fail
    refine HK.out.mono ?_
    rintro e w1 ⟨rfl, hx⟩
    have HX := Lib.hid hx
    clear hx
    go_wp2
    go_loopw [7] (fun i wr => ∃ k : Nat, k ≤ 4094 + r ∧ i = .int .i64 k ∧ wr.ownsRow w1.heap.size 9 1 (.slice (some ⟨w1.heap.size, 0, none⟩) (4094 + r) (4094 + r)) (4094 + r) (List.replicate k (.string s) ++ List.replicate (4094 + r - k) (.string ⟨#[]⟩)) ∧ Below w1.heap.size w1 wr) (fun i _ => 4094 + r - (intOf i).toNat)
    case atStart =>
      refine ⟨0, Nat.zero_le _, rfl, ?_, (Below.refl _ _).alloc (Nat.le_refl _) _⟩
      have h := World.ownsRow_lit (base := w1.heap.size) (e := 9) (size := 1) w1 (madeCells #[.string ⟨#[]⟩] (4094 + r)) (4094 + r) (Nat.le_refl _) (by unfold maxLen; omega) (by simp [madeCells])
      rw [made_rep] at h
      exact h
    case round =>
      obtain ⟨k, hk, rfl, hoo, hB⟩ := hrel
      by_cases hlt : k < 4094 + r
      · have hcell := hoo.cellAt k (by omega)
        rw [show (List.replicate k (Value.string s) ++ List.replicate (4094 + r - k) (.string ⟨#[]⟩))[k]? = some (.string ⟨#[]⟩) by
          rw [List.getElem?_append_right (by simp), List.length_replicate, Nat.sub_self, List.getElem?_replicate, if_pos (by omega)]] at hcell
        have hfro := hoo.frozenAt k
        have hst := hoo.stored k (.string s)
        rw [set_rep _ _ _ _ (by omega), show 4094 + r - k - 1 = 4094 + r - (k + 1) from by omega] at hst
        have HO2 := Lib.hid hst.1
        have HB2 := Lib.hid (hB.setCell (p := ⟨w1.heap.size, k, none⟩) (Nat.le_refl _) (.string s))
        clear hst hoo hB
        go_wp2
        go_roundw
        case rel => exact ⟨k + 1, hlt, by go_num, HO2.out, HB2.out⟩
        case measure => simp [intOf]; omega
      · obtain rfl : k = 4094 + r := by omega
        rw [Nat.sub_self, List.replicate_zero, List.append_nil] at hoo
        obtain ⟨A2, c2, hv2, hrd⟩ := rd_of_own hoo
        injection hv2 with e1 e2 e3
        subst e1 e3
        have hrd2 : Rd wr (some ⟨w1.heap.size, 0, none⟩) (cStrs (List.replicate (4094 + r) s)) := by
          rw [cStrs, List.map_replicate]
          exact hrd
        have HRD := Lib.hid hrd2
        have HB := Lib.hid hB
        clear hoo hB hrd hrd2 e2
        by_cases h96 : 4096 < 4094 + r
        · have h96' : (4096 : Int) < 4094 + (r : Int) := by omega
          go_wp2_with fail
          refine (HJ.out _ _ _ HRD.out).mono ?_
          rintro e w3 ⟨rfl, hx⟩
          have HX3 := Lib.hid ((HX.out.tr HB.out).tr hx)
          clear hx
          go_wp2_with fail
          refine (HSP.out _).mono ?_
          rintro e w4 ⟨he, hx⟩
          obtain rfl := (HMO.out _ _ he).1 h96
          have HX4 := Lib.hid (HX3.out.tr hx)
          clear hx he
          go_wp2
          go_ret
          exact ⟨rfl, HX4.out⟩
        · have h96' : 4094 + (r : Int) ≤ 4096 := by omega
          go_wp2_with fail
          refine (HJ.out _ _ _ HRD.out).mono ?_
          rintro e w3 ⟨rfl, hx⟩
          have HX3 := Lib.hid ((HX.out.tr HB.out).tr hx)
          have HRD3 := Lib.hid (HRD.out.ext hx)
          clear hx
          go_wp2_with fail
          refine (HSP.out _).mono ?_
          rintro e w4 ⟨he, hx⟩
          obtain ⟨A4, c4, rfl, hl⟩ := (HMO.out _ _ he).2 h96
          have HX4 := Lib.hid (HX3.out.tr hx)
          have HRD4 := Lib.hid (HRD3.out.ext hx)
          have HL := Lib.hid hl
          clear hx he hl
          go_wp2_with fail
          refine (HNM.out _ _ _ _ _ HL.out HRD4.out).mono ?_
          rintro e w5 ⟨rfl, hx⟩
          have HX5 := Lib.hid (HX4.out.tr hx)
          clear hx
          go_wp2
          go_ret
          exact ⟨rfl, HX5.out⟩
theorem fieldLimits_walk' {w : World} (deep : Int) (wd : (Lit.int .u8 deep).wf = true) (s : ByteArray) (_ws : s.size ≤ maxLen) (hg : RngOk w ∧ TabOk w) :
    Calls Tryz.prog 6 #[.int .u8 deep, .string s] w fun e w' => e = .returned (.bool true) ∧ Ext w w' := by
  have hb := bounds_u8 wd
  exact fieldLimits_walk deep (by omega) (by omega) s w hg.1 hg.2
end Go.Proofs.YtgomondmogpkeaaGreatDoor
