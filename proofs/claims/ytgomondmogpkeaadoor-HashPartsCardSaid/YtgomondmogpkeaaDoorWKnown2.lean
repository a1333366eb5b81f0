/- The walk of folkmootlaw2.known: true. -/
import Derived.Test.YtgomondmogpkeaaDoorWRParse
import Derived.Test.YtgomondmogpkeaaDoorWRHex
import Derived.Test.YtgomondmogpkeaaDoorWRef2
import Derived.Lib.SlBytesConst
namespace Go.Proofs.YtgomondmogpkeaaDoor
open Go.RowKit
abbrev sa : ByteArray := ⟨#[97]⟩
abbrev sb : ByteArray := ⟨#[98]⟩
theorem kn_up : parseH (S.nums (⟨#[48, 49, 50, 51, 52, 53, 54, 55, 56, 57, 65, 66, 67, 68, 69, 70]⟩ : ByteArray).data.toList) = none := by
  rw [parseH_ref]; decide
theorem kn_short : parseH (S.nums (⟨#[48]⟩ : ByteArray).data.toList) = none := by
  rw [parseH_ref]; decide
theorem kn_mix : S.mixN 0 0 = 0 := by rw [S.mixN_eq]; decide
theorem kn_ff : S.bstr (S.hexT 255) = ⟨#[48, 48, 48, 48, 48, 48, 48, 48, 48, 48, 48, 48, 48, 48, 102, 102]⟩ := by
  rw [hexT_dgs (by decide)]; rfl
theorem kn_ne : (((S.sumN [97, 98] [] : Nat) : Int) != ((S.sumN [97] [98] : Nat) : Int)) = true := by
  unfold S.sumN S.tagN S.nums
  rw [S.mixN_C]
  decide +kernel
theorem kn_chain (h : Nat) : S.chainN h 5 (steps 0) = 5 := by
  rw [show steps 0 = 0 from by decide, S.chainN]
set_option maxHeartbeats 1000000 in
set_option maxRecDepth 100000 in
theorem known2_calls (w : World) (hg : Gl w) :
    Calls Tryd.prog 8 #[] w fun e w' => e = .returned (.bool true) ∧ Ext w w' := by
  have HG := Lib.hid hg
  clear hg
  have kc := fun (w : World) (C : Array Value) (n c : Nat) => Lib.run_convert_bytes_const (P := Tryd.prog) w 38 5 C n c Tryd.underlying38 Tryd.underlying5
  go_enter Tryd.func8, Tryd.ntmps8
  go_wp2_with fail
  refine (of_calls sa sb (by decide) (by decide) _).mono ?_
  rintro e w1 ⟨rfl, hx1⟩
  have HX1 := Lib.hid hx1
  clear hx1
  have hD : S.sumN sa.data.toList sb.data.toList < 18446744073709551616 := S.sumN_lt _ _
  have HN := Lib.hid kn_ne
  have HT := Lib.hid (parseH_of hD)
  have HB := Lib.hid (nums_bstr _ (hexT_bd hD))
  have HRO := Lib.hid (fun w => rof_calls sa sb (by decide) (by decide) w)
  have HSU := Lib.hid (fun (A : Option Addr) (c : Nat) (w : World) (h : Rd w A ([98].map cU8)) => sum_calls sa (by decide) [98] A c w h (by decide))
  have HTX := Lib.hid (fun w h => text_calls _ hD w h)
  have HO2 := Lib.hid (fun w => of_calls sa sb (by decide) (by decide) w)
  have e1 : S.sumN sa.data.toList sb.data.toList = S.sumN [97] [98] := rfl
  rw [e1] at *
  clear e1
  generalize S.sumN [97] [98] = D at *
  go_wp2_with fail
  refine (HTX.out _ (HG.out.ext HX1.out).tz).mono ?_
  rintro e w2 ⟨rfl, hx2⟩
  have HX2 := Lib.hid (HX1.out.tr hx2)
  clear hx2
  go_wp2_with fail
  refine (parse_calls _ (by rw [S.bstr_size, hexT_len hD]; decide) _ (HG.out.ext HX2.out)).mono ?_
  rintro e w3 ⟨he, hx3⟩
  obtain rfl : e = .returned (.tuple #[cU64 D, .int .i64 0]) := he.trans (by rw [HB.out, HT.out]; rfl)
  have HX3 := Lib.hid (HX2.out.tr hx3)
  clear hx3 he
  go_wp2_with fail
  refine (parse_calls _ (by decide) _ (HG.out.ext HX3.out)).mono ?_
  rintro e w4 ⟨he, hx4⟩
  obtain rfl : e = .returned (.tuple #[cU64 0, .int .i64 2]) := he.trans (by rw [kn_up]; rfl)
  have HX4 := Lib.hid (HX3.out.tr hx4)
  clear hx4 he
  go_wp2_with fail
  refine (parse_calls _ (by decide) _ (HG.out.ext HX4.out)).mono ?_
  rintro e w5 ⟨he, hx5⟩
  obtain rfl : e = .returned (.tuple #[cU64 0, .int .i64 2]) := he.trans (by rw [kn_short]; rfl)
  have HX5 := Lib.hid (HX4.out.tr hx5)
  clear hx5 he
  go_wp2_with fail
  refine (HRO.out _).mono ?_
  rintro e w6 ⟨rfl, hx6⟩
  have HX6 := Lib.hid (HX5.out.tr hx6)
  clear hx6
  go_wp2_with fail
  refine (mixN_calls 0 0 (by decide) (by decide) _).mono ?_
  rintro e w6' ⟨rfl, rfl⟩
  rw [kn_mix]
  go_wp2_with fail
  refine (text_calls 255 (by decide) _ (HG.out.ext HX6.out).tz).mono ?_
  rintro e w7 ⟨rfl, hx7⟩
  rw [kn_ff]
  have HX7 := Lib.hid (HX6.out.tr hx7)
  clear hx7
  go_wp2_with fail
  refine (HSU.out _ _ _ (Rd.fresh w7 [.int .u8 98] 5 (1, 2))).mono ?_
  rintro e w8 ⟨rfl, hx8⟩
  have HX8 := Lib.hid ((HX7.out.alloc (.cells #[.int .u8 98] 5 (1, 2))).tr hx8)
  clear hx8
  go_wp2_with fail
  refine (chain_calls sa (by decide) 5 (by decide) 0 _).mono ?_
  rintro e w9 ⟨rfl, hx9⟩
  rw [kn_chain]
  have HX9 := Lib.hid (HX8.out.tr hx9)
  clear hx9
  go_wp2_with fail
  refine (of_calls ⟨#[97, 98]⟩ ⟨#[]⟩ (by decide) (by decide) _).mono ?_
  rintro e w10 ⟨rfl, hx10⟩
  have HX10 := Lib.hid (HX9.out.tr hx10)
  clear hx10
  have HN2 := Lib.hid (show (((S.sumN (⟨#[97, 98]⟩ : ByteArray).data.toList (⟨#[]⟩ : ByteArray).data.toList : Nat) : Int) != ((D : Nat) : Int)) = true from HN.out)
  clear HN
  have hE : S.sumN (⟨#[97, 98]⟩ : ByteArray).data.toList (⟨#[]⟩ : ByteArray).data.toList < 18446744073709551616 := S.sumN_lt _ _
  generalize S.sumN (⟨#[97, 98]⟩ : ByteArray).data.toList (⟨#[]⟩ : ByteArray).data.toList = E at *
  go_wp2_with fail
  refine (HO2.out _).mono ?_
  rintro e w11 ⟨rfl, hx11⟩
  have HX11 := Lib.hid (HX10.out.tr hx11)
  clear hx11
  have hne := HN2.out
  go_wp2
  go_ret
  exact ⟨by first | rfl | simp, HX11.out⟩
end Go.Proofs.YtgomondmogpkeaaDoor
