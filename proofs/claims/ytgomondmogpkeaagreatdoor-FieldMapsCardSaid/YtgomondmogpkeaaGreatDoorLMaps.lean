/- The walk of the law FieldMaps. -/
import Derived.Test.YtgomondmogpkeaaGreatDoorLSplits
set_option linter.unusedVariables false
namespace Go.Proofs.YtgomondmogpkeaaGreatDoor
open Go.RowKit
set_option maxHeartbeats 2000000 in
set_option maxRecDepth 100000 in
theorem fieldMaps_walk (l : List Int) (hb : ∀ n ∈ l, I64 n) (A : Option Addr) (c : Nat) (w : World) (hA : Rd w A (cI64s l)) (hl : l.length ≤ 9223372036854775807) (hr : RngOk w) (ht : TabOk w) :
    Calls Tryz.prog 8 #[.slice A l.length c] w fun e w' => e = .returned (.bool true) ∧ Ext w w' := by
  have HK := Lib.hid (known1_calls w hr ht)
  have HA := Lib.hid hA
  have HRR := Lib.hid hr
  have HT := Lib.hid ht.all
  have HBD := Lib.hid hb
  clear hr ht hA hb
  by_cases hbig : 200 < l.length
  · have hb : (200 : Int) < l.length := by omega
    clear hbig
    go_enter Tryz.func8, Tryz.ntmps8
    go_wp2_with fail
    refine HK.out.mono ?_
    rintro e w1 ⟨rfl, hx⟩
    have HX := Lib.hid hx
    clear hx
    go_wp2
    go_ret
    exact ⟨rfl, HX.out⟩
  · have hb : (l.length : Int) ≤ 200 := by omega
    have hlen : l.length ≤ 1099511627776 := by omega
    go_enter Tryz.func8, Tryz.ntmps8
    go_wp2_with fail
    refine HK.out.mono ?_
    rintro e w1 ⟨rfl, hx⟩
    have HX := Lib.hid hx
    clear hx
    go_wp2_with fail
    refine (mapNum_calls l HBD.out _ _ _ (HA.out.ext HX.out) hlen (fun w' hx => HT.out _ (HX.out.tr hx))).mono ?_
    rintro e w2 ⟨⟨v, rfl, hown⟩, hx⟩
    obtain ⟨A2, c2, rfl, hrd⟩ := rd_of_own hown
    have HX2 := Lib.hid (HX.out.tr hx)
    have HR := Lib.hid hrd
    clear hx hown hrd
    go_wp2
    go_loopw [4, 5, 6] (fun i n e wr => ∃ k : Nat, k ≤ l.length ∧ i = .int .i64 k ∧ Ext w2 wr) (fun i _ _ _ => l.length - (intOf i).toNat)
    case atStart => exact ⟨0, Nat.zero_le _, rfl, Ext.rfl' _⟩
    case round =>
      obtain ⟨k, hk, rfl, hx⟩ := hrel
      by_cases hlt : k < l.length
      · obtain ⟨ad, rfl, _, hc⟩ := (HR.out.ext hx).at_ (j := k) (u := .string (numB l[k])) (by simp [hlt])
        have HXR := Lib.hid hx
        obtain ⟨bd, rfl, _, hd⟩ := ((HA.out.ext HX2.out).ext hx).at_ (j := k) (u := .int .i64 l[k]) (by simp [hlt])
        have hnb := HBD.out l[k] (by simp)
        have hq1 := Lib.itoa_length_le l[k] hnb.1 hnb.2
        have hqs : (numB l[k]).size ≤ 1099511627776 := Nat.le_trans hq1 (by decide)
        have HP := Lib.hid (k_pnum (numB l[k]) hqs l[k] (J.pnum_itoa l[k] hnb.1 hnb.2) wr (HRR.out.ext (HX2.out.tr hx)))
        have HN := Lib.hid (fun w => rnum_calls l[k] hnb w)
        have hqq : ((numB l[k]).toList == (numB l[k]).toList) = true := by simp
        have hqn : ((numB l[k]) == (numB l[k])) = true := (MapKept.bytes_beq _ _).2 rfl
        have hqm : ((numB l[k]) != (numB l[k])) = false := by rw [bne, hqn]; rfl
        clear hx hnb hq1 hqs
        generalize numB l[k] = q at *
        generalize l[k] = n at *
        have hnn : (n != n) = false := by simp
        go_wp2_with fail
        refine HP.out.mono ?_
        rintro e w3 ⟨rfl, hx3⟩
        have HX3 := Lib.hid (HXR.out.tr hx3)
        have hS : ∀ x : ExtW w3, x.1.cell? (ad.add k) = some (.string q) := fun x => (hx3.tr x.2).cell hc
        have hL : ∀ x : ExtW w3, x.1.cell? (bd.add k) = some (.int .i64 n) := fun x => (hx3.tr x.2).cell hd
        clear hx3 hc hd
        go_wp2_with fail
        refine wp_region_grow (by kernel_rfl) (by kernel_rfl) ?_
        repeat (any_goals (go_big_quiet_step ((go_at_call 33; exact grow_of (HN.out _)))))
        refine wpQuiet_nil ?_
        rintro _ ⟨⟨w4, hx4⟩, rfl⟩
        have HX4 := Lib.hid (HX3.out.tr hx4)
        clear hx4 hS hL
        go_wp2
        go_roundw
        case rel => exact ⟨k + 1, hlt, by go_num, HX4.out⟩
        case measure => simp [intOf]; omega
      · obtain rfl : k = l.length := by omega
        have HXR := Lib.hid hx
        clear hx
        go_wp2
        go_ret
        exact ⟨rfl, HX2.out.tr HXR.out⟩
theorem fieldMaps_walk' {w : World} (A : Option Addr) (l : List Int) (c : Nat) (hA : Rd w A (l.map (Value.int .i64))) (hb : ∀ n ∈ l, (Lit.int .i64 n).wf = true) (hl : l.length ≤ maxLen) (hg : RngOk w ∧ TabOk w) :
    Calls Tryz.prog 8 #[.slice A l.length c] w fun e w' => e = .returned (.bool true) ∧ Ext w w' :=
  fieldMaps_walk l (fun n hn => by have := bounds_i64 (hb n hn); exact ⟨by omega, by omega⟩) A c w hA hl hg.1 hg.2
end Go.Proofs.YtgomondmogpkeaaGreatDoor
