/- The walk of the law HashAny. -/
import Derived.Test.YtgomondmogpkeaaDoorWStr
import Derived.Test.YtgomondmogpkeaaDoorLaid
import Derived.Test.YtgomondmogpkeaaDoorGrow
namespace Go.Proofs.YtgomondmogpkeaaDoor
open Go.RowKit
set_option maxHeartbeats 2000000 in
set_option maxRecDepth 100000 in
theorem hashAny_walk (a b : Nat) (ha : a < 18446744073709551616) (hb : b < 18446744073709551616) (tag : ByteArray) (l : List UInt8) (A : Option Addr) (c : Nat) (n : Int) (w : World) (hA : Rd w A (l.map cU8)) (hg : Gl w) (hbt : tag.size ≤ 50) (hbl : l.length ≤ 1000) :
    Calls Tryd.prog 6 #[.int .u64 (a : Int), .int .u64 (b : Int), .string tag, .slice A l.length c, .int .i64 n] w fun e w' => e = .returned (.bool true) ∧ Ext w w' := by
  have HG := Lib.hid hg
  have HA0 := Lib.hid hA
  clear hg hA
  have ht : tag.data.toList.length ≤ 9223372036854775807 := by show tag.size ≤ _; omega
  have hl : l.length ≤ 9223372036854775807 := by omega
  have H1 := Lib.hid (fun (w : World) => mixN_calls a b ha hb w)
  have H2 := Lib.hid (fun (w : World) => rmix_calls a b ha hb w)
  have H3 := Lib.hid (fun (w : World) (hA : Rd w A (l.map cU8)) => sum_calls tag ht l A c w hA hl)
  have H4 := Lib.hid (fun (w : World) (hA : Rd w A (l.map cU8)) => rsum_calls tag ht l A c w hA hl)
  have H5 := Lib.hid (fun (w : World) => of_calls tag (strOf l) ht hl w)
  have H6 := Lib.hid (fun (w : World) => rof_calls tag (strOf l) ht hl w)
  have H7 := Lib.hid (fun (w : World) => two_calls tag ht a b ha hb w)
  have H8 := Lib.hid (fun (w : World) => rtwo_calls tag ht a b ha hb w)
  have H9 := Lib.hid (fun (w : World) => chain_calls tag ht a ha n w)
  have H10 := Lib.hid (fun (w : World) => rchain_calls tag ht a ha n w)
  have hb1 : (tag.size : Int) ≤ 50 := by omega
  have hb2 : (l.length : Int) ≤ 1000 := by omega
  clear ht hl
  go_enter Tryd.func6, Tryd.ntmps6
  go_wp2_with fail
  refine (known2_calls _ HG.out).mono ?_
  rintro e w1 ⟨rfl, hx⟩
  have HX1 := Lib.hid hx
  have HA := Lib.hid (HA0.out.ext hx)
  clear hx HA0
  go_wp2_with fail
  have hcv : ∀ x : ExtW w1, (convert 38 9 (.slice A l.length c)).run Tryd.prog x.1 = .ok (.string (strOf l)) x.1 := fun x =>
    run_str (P := Tryd.prog) x.1 A l c 38 5 9 Tryd.underlying38 Tryd.underlying5 Tryd.underlying9 (HA.out.ext x.2)
  refine wp_region_grow (by kernel_rfl) (by kernel_rfl) ?_
  repeat (any_goals (go_big_quiet_step (first | (go_at_call 16; exact grow_same (H1.out _)) | (go_at_call 17; exact grow_same (H2.out _)) | (go_at_call 18; exact grow_of (H3.out _ (HA.out.ext (Subtype.property _)))) | (go_at_call 19; exact grow_same (H4.out _ (HA.out.ext (Subtype.property _)))) | (go_at_call 14; exact grow_of (H5.out _)) | (go_at_call 15; exact grow_of (H6.out _)) | (go_at_call 20; exact grow_of (H7.out _)) | (go_at_call 21; exact grow_same (H8.out _)) | (go_at_call 13; exact grow_of (H9.out _)) | (go_at_call 22; exact grow_same (H10.out _)))))
  refine wpQuiet_nil ?_
  rintro _ ⟨⟨w2, hx⟩, rfl⟩
  have HX := Lib.hid (HX1.out.tr hx)
  clear hx hcv
  go_wp2
  go_ret
  exact ⟨by first | rfl | simp, HX.out⟩
set_option maxHeartbeats 1000000 in
theorem hashAny_all (a b : Nat) (ha : a < 18446744073709551616) (hb : b < 18446744073709551616) (tag : ByteArray) (l : List UInt8) (A : Option Addr) (c : Nat) (n : Int) (w : World) (hA : Rd w A (l.map cU8)) (hg : Gl w) :
    Calls Tryd.prog 6 #[.int .u64 (a : Int), .int .u64 (b : Int), .string tag, .slice A l.length c, .int .i64 n] w fun e w' => e = .returned (.bool true) ∧ Ext w w' := by
  by_cases hbt : tag.size ≤ 50
  · by_cases hbl : l.length ≤ 1000
    · exact hashAny_walk a b ha hb tag l A c n w hA hg hbt hbl
    · have HG := Lib.hid hg
      have hb1 : (tag.size : Int) ≤ 50 := by omega
      have hb2 : (1000 : Int) < l.length := by omega
      clear hg hA hbt hbl
      go_enter Tryd.func6, Tryd.ntmps6
      go_wp2_with (go_at_call 8; refine (known2_calls _ HG.out).mono ?_; rintro e w1 ⟨rfl, hx⟩; have HX1 := Lib.hid hx; clear hx)
      go_ret
      exact ⟨rfl, HX1.out⟩
  · have HG := Lib.hid hg
    have hb1 : (50 : Int) < tag.size := by omega
    clear hg hA hbt
    go_enter Tryd.func6, Tryd.ntmps6
    go_wp2_with (go_at_call 8; refine (known2_calls _ HG.out).mono ?_; rintro e w1 ⟨rfl, hx⟩; have HX1 := Lib.hid hx; clear hx)
    go_ret
    exact ⟨rfl, HX1.out⟩
theorem hashAny_walk' {w : World} (a : Int) (wa : (Lit.int .u64 a).wf = true) (b : Int) (wb : (Lit.int .u64 b).wf = true) (tag : ByteArray) (_wt : tag.size ≤ maxLen) (A : Option Addr) (zs : List Int) (c : Nat) (hr : Rd w A (zs.map (Value.int .u8))) (wz : ∀ n ∈ zs, (Lit.int .u8 n).wf = true) (_hm : zs.length ≤ maxLen) (n : Int) (_wn : (Lit.int .i64 n).wf = true) (hg : Gl w) :
    Calls Tryd.prog 6 #[.int .u64 a, .int .u64 b, .string tag, .slice A zs.length c, .int .i64 n] w fun e w' => e = .returned (.bool true) ∧ Ext w w' := by
  have h0 := bounds_u64 wa
  have h1 := bounds_u64 wb
  have h := hashAny_all a.toNat b.toNat (by omega) (by omega) tag (zs.map fun z => UInt8.ofNat z.toNat) A c n w (by rw [bytes_of zs wz]; exact hr) hg
  rwa [List.length_map, show ((a.toNat : Nat) : Int) = a from by omega, show ((b.toNat : Nat) : Int) = b from by omega] at h
end Go.Proofs.YtgomondmogpkeaaDoor
