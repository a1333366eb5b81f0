/- The walk of the law HashWords. -/
import Derived.Test.YtgomondmogpkeaaDoorWKnown2
import Derived.OpenShut
namespace Go.Proofs.YtgomondmogpkeaaDoor
open Go.RowKit
theorem topN_dgs (u k : Nat) (hk : k ≤ 16) : topN u k = dgs (u / 16 ^ (16 - k)) k := by
  induction k with
  | zero => rfl
  | succ k ih =>
    rw [topN_succ, ih (by omega), dgs]
    have e : u / 16 ^ (16 - k) = u / 16 ^ (16 - (k + 1)) / 16 := by
      rw [Nat.div_div_eq_div_mul, ← Nat.pow_succ]
      congr 2
      omega
    rw [e, show 15 - k = 16 - (k + 1) from by omega]
theorem topN_text {u : Nat} (h : u < 18446744073709551616) : S.bstr (topN u 16) = S.bstr (S.hexT u) := by
  rw [topN_dgs u 16 (by decide), hexT_dgs h]
  simp
set_option maxHeartbeats 1000000 in
set_option maxRecDepth 100000 in
theorem hashWords_walk (u : Nat) (hu : u < 18446744073709551616) (s : ByteArray) (w : World) (hg : Gl w) :
    Calls Tryd.prog 3 #[.int .u64 (u : Int), .string s] w fun e w' => e = .returned (.bool true) ∧ Ext w w' := by
  have HG := Lib.hid hg
  clear hg
  have HT := Lib.hid (parseH_of hu)
  have HB := Lib.hid (nums_bstr _ (hexT_bd hu))
  have HTX := Lib.hid (fun w h => text_calls u hu w h)
  have HRH := Lib.hid (fun w => rhex_calls u hu w)
  have HTE := Lib.hid (topN_text hu)
  have HSZ := Lib.hid (show (S.bstr (S.hexT u)).size ≤ 281474976710656 by rw [S.bstr_size, hexT_len hu]; decide)
  by_cases hbig : 100 < s.size
  · have hb2 : (100 : Int) < s.size := by omega
    go_enter Tryd.func3, Tryd.ntmps3
    go_wp2_with (go_at_call 8; refine (known2_calls _ HG.out).mono ?_; rintro e w1 ⟨rfl, hx⟩; have HX1 := Lib.hid hx; clear hx)
    go_ret
    exact ⟨rfl, HX1.out⟩
  · have hb2 : (s.size : Int) ≤ 100 := by omega
    have HS2 := Lib.hid (show s.size ≤ 281474976710656 by omega)
    clear hbig
    go_enter Tryd.func3, Tryd.ntmps3
    go_wp2_with fail
    refine (known2_calls _ HG.out).mono ?_
    rintro e w1 ⟨rfl, hx⟩
    have HX1 := Lib.hid hx
    clear hx
    go_wp2_with fail
    refine (HTX.out _ (HG.out.ext HX1.out).tz).mono ?_
    rintro e w2 ⟨rfl, hx⟩
    have HX2 := Lib.hid (HX1.out.tr hx)
    clear hx
    go_wp2_with fail
    refine (parse_calls _ HSZ.out _ (HG.out.ext HX2.out)).mono ?_
    rintro e w3 ⟨he, hx⟩
    obtain rfl : e = .returned (.tuple #[cU64 u, .int .i64 0]) := he.trans (by rw [HB.out, HT.out]; rfl)
    have HX3 := Lib.hid (HX2.out.tr hx)
    clear hx he
    go_wp2_with fail
    refine (parse_calls s HS2.out _ (HG.out.ext HX3.out)).mono ?_
    rintro e w4 ⟨he, hx⟩
    have HX4 := Lib.hid (HX3.out.tr hx)
    have HE4 := Lib.hid he
    clear hx he
    cases hr : rparse (S.nums s.data.toList) with
    | none =>
      obtain rfl : e = .returned (.tuple #[cU64 0, .int .i64 2]) := HE4.out.trans (by rw [parseH_ref, hr]; rfl)
      have HR := Lib.hid hr
      clear hr
      go_wp2_with fail
      refine (rparse_calls s _).mono ?_
      rintro e w5 ⟨he, hx⟩
      obtain rfl : e = .returned (.tuple #[cU64 0, .int .i64 2]) := he.trans (by rw [HR.out]; rfl)
      have HX5 := Lib.hid (HX4.out.tr hx)
      clear hx he
      go_wp2_with fail
      refine (HTX.out _ (HG.out.ext HX5.out).tz).mono ?_
      rintro e w6 ⟨rfl, hx⟩
      have HX6 := Lib.hid (HX5.out.tr hx)
      clear hx
      go_wp2_with fail
      refine (HRH.out _).mono ?_
      rintro e w7 ⟨rfl, hx⟩
      rw [HTE.out]
      have HX7 := Lib.hid (HX6.out.tr hx)
      clear hx
      go_wp2
      go_ret
      exact ⟨by first | rfl | simp, HX7.out⟩
    | some n =>
      obtain ⟨hh, hn⟩ := rparse_text hr
      obtain rfl : e = .returned (.tuple #[cU64 n, .int .i64 0]) := HE4.out.trans (by rw [parseH_ref, hr]; rfl)
      have heq : ((S.bstr (S.hexT n)).toList == s.toList) = true := by rw [(text_eq hn s).2 hh]; simp
      have HR := Lib.hid hr
      clear hr hh
      have HTN := Lib.hid (fun w h => text_calls n hn w h)
      generalize S.bstr (S.hexT n) = Z at *
      go_wp2_with fail
      refine (rparse_calls s _).mono ?_
      rintro e w5 ⟨he, hx⟩
      obtain rfl : e = .returned (.tuple #[cU64 n, .int .i64 0]) := he.trans (by rw [HR.out]; rfl)
      have HX5 := Lib.hid (HX4.out.tr hx)
      clear hx he
      go_wp2_with fail
      refine (HTX.out _ (HG.out.ext HX5.out).tz).mono ?_
      rintro e w6 ⟨rfl, hx⟩
      have HX6 := Lib.hid (HX5.out.tr hx)
      clear hx
      go_wp2_with fail
      refine (HRH.out _).mono ?_
      rintro e w7 ⟨rfl, hx⟩
      rw [HTE.out]
      have HX7 := Lib.hid (HX6.out.tr hx)
      clear hx
      go_wp2_with fail
      refine (HTN.out _ (HG.out.ext HX7.out).tz).mono ?_
      rintro e w8 ⟨rfl, hx⟩
      have HX8 := Lib.hid (HX7.out.tr hx)
      clear hx
      go_wp2
      go_ret
      exact ⟨by first | rfl | simp, HX8.out⟩
theorem bd_u64 {a : Int} (h : (Lit.int .u64 a).wf = true) : 0 ≤ a ∧ a < 18446744073709551616 := by
  have := bounds_u64 h
  omega
theorem hashWords_walk' (a : Int) (wa : (Lit.int .u64 a).wf = true) (s : ByteArray) (_ws : s.size ≤ maxLen) (w : World) (hg : Gl w) :
    Calls Tryd.prog 3 #[.int .u64 a, .string s] w fun e w' => e = .returned (.bool true) ∧ Ext w w' := by
  obtain ⟨h0, h1⟩ := bd_u64 wa
  have h := hashWords_walk a.toNat (by omega) s w hg
  rwa [show ((a.toNat : Nat) : Int) = a from by omega] at h
end Go.Proofs.YtgomondmogpkeaaDoor
