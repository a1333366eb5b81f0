/- The walk of the law KeyRoots. -/
import Derived.Test.YthjldedjllkeeaaGreatDoorKKw
set_option linter.unusedVariables false
set_option linter.unusedSimpArgs false
namespace Go.Proofs.YthjldedjllkeeaaGreatDoor
open Go.RowKit Go.Sort
/-- What the key's laws read of the library's variables. -/
structure KOk (w : World) : Prop where
  gl : Gl w
  rng : RngOk w
  tok : TOk w
theorem KOk.ext {w w' : World} (h : KOk w) (k : Ext w w') : KOk w' := ⟨h.gl.ext k, h.rng.ext k, h.tok.ext k⟩
theorem pow_i64 {h N : Nat} (hN : 2 ^ h = N) (hp : N ≤ 256) : IntKind.i64.wrap (1 * 2 ^ h) = (N : Int) ∧ IntKind.i64.wrap (2 ^ h) = (N : Int) := by
  have hi2 : ((2 : Int) ^ h) = (N : Int) := by rw [← hN]; norm_cast
  rw [Int.one_mul, hi2]
  exact ⟨IntWalk.i64_in _ (by omega), IntWalk.i64_in _ (by omega)⟩
set_option maxRecDepth 100000 in
set_option maxHeartbeats 2000000 in
theorem roots_walk (x seed y : Nat) (hx : x ≤ 255) (hs : seed < 18446744073709551616) (hy : y ≤ 255) (w : World) (hk : KOk w) :
    Calls Tryz.prog 6 #[.int .u8 (x : Int), cU64 seed, .int .u8 (y : Int)] w fun e w' => e = .returned (.bool true) ∧ Ext w w' := by
  obtain ⟨i0, hi, hz0, hz1, hz2⟩ := info_parts bDg
  have HKN := Lib.hid (known5_calls w hk.gl hk.rng hk.tok)
  have hw1 : ((x : Int).tmod 16) = ((x % 16 : Nat) : Int) := by rw [Int.tmod_eq_emod_of_nonneg (by omega)]; omega
  have hw2 : ((y : Int).tmod 6) = ((y % 6 : Nat) : Int) := by rw [Int.tmod_eq_emod_of_nonneg (by omega)]; omega
  have hq1 : x % 16 < 16 := Nat.mod_lt _ (by decide)
  have hq2 : y % 6 < 6 := Nat.mod_lt _ (by decide)
  generalize x % 16 = who at *
  generalize y % 6 = h at *
  have HNW := Lib.hid (fun W => new_ok (who : Int) (by omega) seed h hs (by omega) W)
  clear hk
  go_enter Tryz.func6, Tryz.ntmps6
  go_wp2_with fail
  refine HKN.out.mono ?_
  rintro e W1 ⟨rfl, hx⟩
  have HX := Lib.hid hx
  clear hx HKN
  go_wp2_with fail
  refine (HNW.out _).mono ?_
  rintro e W2 ⟨⟨kb, A, c, rfl, hk, hlo⟩, hx⟩
  replace HX := Lib.hid (HX.out.tr hx)
  have hp := pow_le8 (h := h) (by omega)
  have XR := Lib.hid (fun W (hE : Ext W2 W) => kroot_calls W (by omega) (hk.ext hE))
  have XL := Lib.hid (fun W (hE : Ext W2 W) => kleft_calls W (by omega) ⟨by decide, by decide⟩ (hk.ext hE))
  have XN := Lib.hid (fun W (hE : Ext W2 W) => knext_calls W (hk.ext hE))
  have HRO := Lib.hid (fun A c W hr => root_calls h (by omega) (K.pubs seed h) (K.pubs_lt seed h) (K.pubs_len seed h) A c W hr)
  have HPT := Lib.hid (fun k hk => pubs_take seed h k hk)
  have HPL := Lib.hid (K.pubs_len seed h)
  have HSC := Lib.hid (fun (k : Nat) (hk : k ≤ 1000) => secrets_calls seed k hs hk)
  have HPB := Lib.hid (fun (k : Nat) => pub_calls (K.secs seed k) (K.secs_lt seed k) (K.secs_len seed k))
  clear hk hlo hx HNW hw1 hw2 hy
  obtain ⟨N, hN⟩ : ∃ N, 2 ^ h = N := ⟨_, rfl⟩
  have HN := Lib.hid hN
  rw [hN] at hp HPL XL
  rw [K.pubs_len, hN] at HRO
  have hsh := (pow_i64 hN hp).1
  have hsh2 := (pow_i64 hN hp).2
  clear hN
  have hb4 : ((h : Nat) : Int) ≤ 64 := by omega
  have hb6 : (0 : Int) ≤ (h : Int) := by omega
  have hb7 : ¬ ((h : Int) < 0) := by omega
  go_wp2_with fail
  go_loopw [10, 11] (fun v i wr => ∃ (k : Nat) (u : Value), k ≤ N ∧ i = .int .i64 (k : Int) ∧ u = v ∧ wr.ownsRow W2.heap.size 34 1 u k (cDg ((K.pubs seed h).take k)) ∧ Ext W2 wr) (fun _ i _ => N - (intOf i).toNat)
  case atStart => exact ⟨0, _, by omega, rfl, rfl, World.ownsRow_nil _ _ _ _, Ext.rfl' _⟩
  case round =>
    obtain ⟨k, v, hk, rfl, rfl, ho, hE⟩ := hrel
    by_cases hlt : k < N
    · have HS := Lib.hid (HPT.out k (by rw [HN.out]; exact hlt))
      have HC1 := Lib.hid (HSC.out k (by omega))
      have HC2 := Lib.hid (HPB.out k)
      generalize K.pub (K.secs seed k) = y at *
      generalize cDg (K.secs seed k) = OS at *
      have HO := Lib.hid ho
      have HE := Lib.hid hE
      clear ho hE
      go_wp2_with fail
      refine (HC1.out _).mono ?_
      rintro e W3 ⟨rfl, hx⟩
      replace HO := Lib.hid (ownsRow_kept HO.out hx.block)
      replace HE := Lib.hid (HE.out.tr hx)
      clear hx
      go_wp2_with fail
      refine (HC2.out _).mono ?_
      rintro e W4 ⟨rfl, hx⟩
      replace HO := Lib.hid (ownsRow_kept HO.out hx.block)
      replace HE := Lib.hid (HE.out.tr hx)
      clear hx
      have ho2 := HO.out.alloc (.cells #[cU64 y] 34)
      have hE2 := HE.out.alloc (.cells #[cU64 y] 34)
      go_upto_region 10 with (at_builtin; (refine wpList_append_own _ rfl _ _ 37 rfl W2.heap.size 34 i0 (.int .u64 0) 1 8 Tryz.underlying37 hi hz0 hz1 hz2 rfl (by decide) _ _ _ rfl ho2 ⟨W4.heap.size, 0, none⟩ 1 1 [cU64 y] rfl rfl (cell_one_new _ _ _) (fun x hx => by simp at hx; subst hx; rfl) (by unfold maxLen; omega) (by omega) hE2.size ?_); intro v' W5 hown' hgrow hnn; have HE5 := Lib.hid (show Ext W2 W5 from hE2.grown hgrow hE2.size (fun q hq => (ho2.lt q hq).1)); have HO5 := Lib.hid hown'; clear hown' hgrow hnn ho2 hE2 HO HE)
      go_wp2
      go_roundw
      case rel => exact ⟨k + 1, _, hlt, by go_num, rfl, by rw [HS.out]; simpa [cDg] using HO5.out, HE5.out⟩
      case measure => simp [intOf]; omega
    · obtain rfl : k = N := by omega
      have hl : (cDg ((K.pubs seed h).take k)) = cDg (K.pubs seed h) := by rw [List.take_of_length_le (by rw [HPL.out]; exact Nat.le_refl _)]
      rw [hl] at ho
      obtain ⟨A3, c3, rfl, hr, hat⟩ := rd_of_own_at ho
      have HR := Lib.hid hr
      have HE := Lib.hid hE
      clear ho hE hr hat hl HPT HPL HSC HPB
      go_wp2_with fail
      refine (HRO.out _ _ _ HR.out).mono ?_
      rintro e W4 ⟨rfl, hx⟩
      replace HE := Lib.hid (HE.out.tr hx)
      clear hx HR HRO
      generalize K.root h (K.pubs seed h) = RT at *
      go_wp2_with fail
      refine (XR.out _ HE.out).mono ?_
      rintro e W5 ⟨rfl, hx⟩
      replace HE := Lib.hid (HE.out.tr hx)
      clear hx XR
      go_wp2_with fail
      refine (XL.out _ HE.out).mono ?_
      rintro e W6 ⟨rfl, hx⟩
      replace HE := Lib.hid (HE.out.tr hx)
      clear hx XL
      go_wp2_with fail
      refine (XN.out _ HE.out).mono ?_
      rintro e _ ⟨rfl, rfl⟩
      have HZ := Lib.hid (HX.out.tr HE.out)
      go_wp2
      go_ret
      exact ⟨ret_bool (by first | rfl | simp | (simp; omega)), HZ.out⟩
theorem keyRoots_walk' {w : World} (x : Int) (wx : (Lit.int .u8 x).wf = true) (s : Int) (ws : (Lit.int .u64 s).wf = true) (y : Int) (wy : (Lit.int .u8 y).wf = true) (h : KOk w) :
    Calls Tryz.prog 6 #[.int .u8 x, .int .u64 s, .int .u8 y] w fun e w' => e = .returned (.bool true) ∧ Ext w w' := by
  have h1 := bounds_u8 wx
  have h2 := bounds_u64 ws
  have h3 := bounds_u8 wy
  have := roots_walk x.toNat s.toNat y.toNat (by omega) (by omega) (by omega) w h
  rw [Int.toNat_of_nonneg (by omega), Int.toNat_of_nonneg (by omega)] at this
  unfold cU64 at this
  rw [Int.toNat_of_nonneg (by omega)] at this
  exact this
end Go.Proofs.YthjldedjllkeeaaGreatDoor
