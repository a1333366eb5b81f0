/- The walks of FormatUint at base 16, hash.Text. -/
import Derived.Test.YthjldedjllkeeaaGreatDoorWHex
import Derived.Test.YthjldedjllkeeaaGreatDoorShelf
namespace Go.Proofs.YthjldedjllkeeaaGreatDoor
open Go.RowKit
theorem strOf_nat (l : List Nat) : strOfNums (l.map (fun (n : Nat) => (n : Int))) = S.bstr l := by
  unfold strOfNums S.bstr
  rw [List.map_map]
  rfl
set_option maxHeartbeats 400000 in
theorem ifmt_calls (u : Nat) (hu : u < 18446744073709551616) (w : World) (hc : w.cell? ⟨7, 15, none⟩ = some (.int .u8 4)) :
    Calls Tryz.prog 148 #[.int .u64 (u : Int), .int .i64 16] w fun e w' => e = .returned (.string (S.bstr (S.hexA u))) ∧ Ext w w' := by
  have h := fmtbits u hu w hc
  rw [strOf_nat] at h
  have H := Lib.hid h
  clear h
  go_enter Tryz.func148, Tryz.ntmps148
  go_wp2_with fail
  refine H.out.mono ?_
  rintro e w' ⟨rfl, hx⟩
  have HX := Lib.hid hx
  clear hx
  go_wp2
  go_ret
  exact ⟨rfl, HX.out⟩
set_option maxHeartbeats 400000 in
theorem fmt_calls (u : Nat) (hu : u < 18446744073709551616) (w : World) (hc : w.cell? ⟨7, 15, none⟩ = some (.int .u8 4)) :
    Calls Tryz.prog 115 #[.int .u64 (u : Int), .int .i64 16] w fun e w' => e = .returned (.string (S.bstr (S.hexA u))) ∧ Ext w w' := by
  have H := Lib.hid (ifmt_calls u hu w hc)
  go_enter Tryz.func115, Tryz.ntmps115
  go_wp2_with fail
  refine H.out.mono ?_
  rintro e w' ⟨rfl, hx⟩
  have HX := Lib.hid hx
  clear hx
  go_wp2
  go_ret
  exact ⟨rfl, HX.out⟩
theorem repeat_zeros (c : Nat) : (⟨(Lib.repeatL (⟨#[48]⟩ : ByteArray).data.toList c).toArray⟩ : ByteArray) = S.bstr (List.replicate c 48) := by
  unfold S.bstr
  congr 2
  induction c with
  | zero => rfl
  | succ c ih => rw [Lib.repeatL, ih, List.replicate_succ]; rfl
set_option maxHeartbeats 400000 in
theorem text_calls (u : Nat) (hu : u < 18446744073709551616) (w : World) (hc : w.cell? ⟨7, 15, none⟩ = some (.int .u8 4)) :
    Calls Tryz.prog 63 #[.int .u64 (u : Int)] w fun e w' => e = .returned (.string (S.bstr (S.hexT u))) ∧ Ext w w' := by
  have H := Lib.hid (fmt_calls u hu w hc)
  have hl := S.hexA_len 15 u (by omega)
  have hp := S.hexA_pos u
  have hs := S.bstr_size (S.hexA u)
  have hsz : (S.bstr (S.hexA u)).size ≤ 16 := by omega
  have HS := Lib.hid hs
  clear hs
  go_enter Tryz.func63, Tryz.ntmps63
  go_wp2_with fail
  refine H.out.mono ?_
  rintro e w' ⟨rfl, hx⟩
  have HX := Lib.hid hx
  clear hx
  go_wp2_with fail
  rw [show (16 : Int) - ((S.bstr (S.hexA u)).size : Int) = ((16 - (S.bstr (S.hexA u)).size : Nat) : Int) from by omega]
  refine (Tryz.strings_Repeat ⟨#[48]⟩ (16 - (S.bstr (S.hexA u)).size) w' (by omega) (by show 1 * _ ≤ _; omega)).mono ?_
  rintro e w2 ⟨rfl, hx⟩
  have HY := Lib.hid (HX.out.tr hx)
  clear hx
  have HR := Lib.hid (repeat_zeros (16 - (S.bstr (S.hexA u)).size))
  have hz : (S.bstr (List.replicate (16 - (S.bstr (S.hexA u)).size) 48)).size ≤ 16 := by rw [S.bstr_size, List.length_replicate]; omega
  rw [← HR.out] at hz
  generalize (⟨(Lib.repeatL (⟨#[48]⟩ : ByteArray).data.toList (16 - (S.bstr (S.hexA u)).size)).toArray⟩ : ByteArray) = Z at *
  go_wp2
  go_ret
  refine ⟨?_, HY.out⟩
  rw [S.hexT, ← S.bstr_append, ← HS.out, ← HR.out]
  rfl
end Go.Proofs.YthjldedjllkeeaaGreatDoor
