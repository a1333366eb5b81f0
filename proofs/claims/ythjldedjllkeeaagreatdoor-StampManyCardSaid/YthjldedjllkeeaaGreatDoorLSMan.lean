/- The walk of the law StampMany. -/
import Derived.Test.YthjldedjllkeeaaGreatDoorStW
import Derived.Test.YthjldedjllkeeaaGreatDoorKUse
import Derived.Lib.SliceRun
set_option linter.unusedVariables false
set_option linter.unusedSimpArgs false
namespace Go.Proofs.YthjldedjllkeeaaGreatDoor
open Go.RowKit Go.Sort
set_option maxRecDepth 100000 in
set_option maxHeartbeats 4000000 in
theorem smany_walk (seed : Nat) (hs : seed < 18446744073709551616) (y : Nat) (t : Nat) (ht : t ≤ 65535) (w : World) (hk : KOk w) :
    Calls Tryz.prog 13 #[cU64 seed, .int .u8 (y : Int), .int .u16 (t : Int)] w fun e w' => e = .returned (.bool true) ∧ Ext w w' := by
  have HKN := Lib.hid (known11_calls w hk.gl hk.rng hk.tok)
  have HT := Lib.hid hk.tok
  have HKS := Lib.hid (fun W => keys_calls seed hs 3 (by decide) W)
  have hz : (y : Int).tmod 12 = ((y % 12 : Nat) : Int) := nmod y 12
  have hz' : (y : Int) % 12 = ((y % 12 : Nat) : Int) := nmod' y 12
  have hm12 : y % 12 < 12 := Nat.mod_lt _ (by decide)
  generalize y % 12 = m at *
  have hwa : IntKind.i64.wrap (1 + (t : Int)) = 1 + (t : Int) := IntWalk.i64_in _ (by omega)
  have hwh : K.whenE (1 + (t : Int)) = 0 := by rw [K.whenE, if_pos (by omega)]
  have hwi : I64 (1 + (t : Int)) := by unfold I64; omega
  obtain ⟨T, hT⟩ : ∃ T, 1 + (t : Int) = T := ⟨_, rfl⟩
  rw [hT] at hwa hwh hwi
  have hT' : 1 + (t : Int) = T := hT
  clear hk
  go_enter Tryz.func13, Tryz.ntmps13
  go_wp2_with fail
  refine HKN.out.mono ?_
  rintro e W1 ⟨rfl, hx⟩
  have HX := Lib.hid hx
  clear hx HKN
  go_wp2_with fail
  refine (HKS.out _).mono ?_
  rintro e W2 ⟨⟨kb, A, c, L, cl, RA, rc, rfl, hl, hra, hks, hlo, hla, haa⟩, hx⟩
  have HLO := Lib.hid (Nat.le_trans HX.out.size (hlo 3 (by decide)))
  replace HX := Lib.hid (HX.out.tr hx)
  obtain ⟨aL, rfl, hL1, -⟩ := hl.at_ (j := 0) (u := kP (kb 0)) rfl
  obtain ⟨aR, rfl, hR1, -⟩ := hra.at_ (j := 0) (u := cU64 (kRoot seed 3 0)) rfl
  have HL := Lib.hid hl
  have HRA := Lib.hid hra
  have HAP := Lib.hid (And.intro (hla aL rfl 3 (by decide)) (haa aR rfl 3 (by decide)))
  have HK := Lib.hid (show KA W2 (kb 3) 3 (kSeed seed 3) 3 (A 3) (c 3) 0 8 from hks.ka 3 (by decide))
  have hkl := HK.out.blk.lt
  clear hx hl hra hks hlo hla haa HKS hL1 hR1
  go_upto_region 4 with (refine wpList_store_new rfl _ _ _ rfl _ _ (kyV 1 (some aR) 4 rc 3) rfl rfl rfl rfl (kyV_one _ _ _ _ _) ?_; intro W3 hX hB; replace HX := Lib.hid (HX.out.tr hX); replace HL := Lib.hid (HL.out.ext hX); replace HRA := Lib.hid (HRA.out.ext hX); replace HK := Lib.hid (HK.out.ext hX); have HB2 := Lib.hid hB; clear hX hB)
  have hne2 : W2.heap.size ≠ kb 3 := by omega
  generalize W2.heap.size = b2 at *
  have hi2 : (Tryz.prog.info? 91).map (·.size) = some (kyV 1 (some aR) 4 rc 3).length := rfl
  have HVV := Lib.hid (fun (k : Nat) (hk : k < 8) (P : Option Addr) (cp : Nat) W h1 h2 ht => svalid_calls 1 (by decide) (kRoots seed 3 4) (kRoots_lt _ _ _) (some aR) rc 3 k (by omega) 3 T (by unfold I64; decide) hwi 3 (k : Int) (K.sign (K.secs (kSeed seed 3) k) (K.stD k 3 T)) (own_len _ _ _) (own_lt _ _ _) P cp (K.path 3 (K.pubs (kSeed seed 3) 3) k) (path_lt _ _ _) W h1 h2 ht)
  have HVE := Lib.hid (show ∀ k : Nat, k < 8 → K.validE 1 (kRoots seed 3 4) 3 k 3 T 3 (k : Int) (K.sign (K.secs (kSeed seed 3) k) (K.stD k 3 T)) (K.path 3 (K.pubs (kSeed seed 3) 3) k) = 0 from fun k hk => validE_own seed 3 3 k (by decide) (show k < 2 ^ 3 from hk) (by decide) k T hwh)
  have HSV := Lib.hid (fun (k : Nat) (P : Option Addr) (cp : Nat) => (And.intro (stV_len k 3 T _ (sgV_len 3 (k : Int) (K.sign (K.secs (kSeed seed 3) k) (K.stD k 3 T)) (own_len _ _ _) P 3 cp)) (stV_one k 3 T _ (sgV_one 3 (k : Int) (K.sign (K.secs (kSeed seed 3) k) (K.stD k 3 T)) P 3 cp))))
  generalize HKV : kyV 1 (some aR) 4 rc 3 = KV at *
  go_wp2_with fail
  go_loopw [10] (fun i wr => ∃ (k : Nat), k ≤ m ∧ i = .int .i64 (k : Int) ∧ KA wr (kb 3) 3 (kSeed seed 3) 3 (A 3) (c 3) ((min k 8 : Nat) : Int) 8 ∧ Rd wr (some aL) (kPs kb 4) ∧ Rd wr (some aR) (cDg (kRoots seed 3 4)) ∧ Blk wr b2 91 KV ∧ Ext w wr) (fun i _ => m - (intOf i).toNat)
  case atStart => exact ⟨0, by omega, rfl, HK.out, HL.out, HRA.out, HB2.out, HX.out⟩
  case round =>
    obtain ⟨k, hk, rfl, hka, hl, hra, hb2, hE⟩ := hrel
    have hc3 : wr.cell? { block := aL.block, off := aL.off + 3 } = some (kP (kb 3)) := by obtain ⟨ad, e, _, hc⟩ := hl.at_ (j := 3) (u := kP (kb 3)) rfl; cases e; exact hc
    by_cases hlt : k < m
    · have hk0 : (k : Int) < (m : Int) := by omega
      have hwk : IntKind.u64.wrap (k : Int) = (k : Int) := by rw [IntKind.wrap_u64]; omega
      have HE := Lib.hid hE
      by_cases h8 : k < 8
      · have hmin : min k 8 = k := Nat.min_eq_left (by omega)
        rw [hmin] at hka
        have hmin2 : min (k + 1) 8 = k + 1 := Nat.min_eq_left (by omega)
        have h8i : ¬ (8 : Int) ≤ (k : Int) := by omega
        have HM := Lib.hid (smake_ok 3 (by unfold I64; decide) k (by omega) T hwh wr (HT.out.ext hE) (by decide) k (kSeed_lt _ _) (show k < 2 ^ 3 from h8) (by omega) hka)
        have HL := Lib.hid hl
        have HRA := Lib.hid hra
        have HB2 := Lib.hid hb2
        clear hka hl hra hb2 hE
        go_wp2_with fail
        refine HM.out.mono ?_
        rintro e V1 ⟨⟨P, cp, rfl, hrd, -⟩, hka, hx⟩
        replace HE := Lib.hid (HE.out.kg hx HLO.out)
        replace HL := Lib.hid (HL.out.kg hx (by rintro ad e; cases e; exact HAP.out.1))
        replace HRA := Lib.hid (HRA.out.kg hx (by rintro ad e; cases e; exact HAP.out.2))
        replace HB2 := Lib.hid (HB2.out.kg hx hne2)
        have HKA := Lib.hid hka
        have HRD := Lib.hid hrd
        clear hx hrd hka HM hc3
        have hpl := K.path_len 3 (K.pubs (kSeed seed 3) 3) k
        have HV := Lib.hid (fun W h1 h2 ht => HVV.out k h8 P cp W h1 h2 ht)
        rw [kRoots_len, hpl, HVE.out k h8, HKV] at HV
        have hsv := HSV.out k P cp
        have hs4 : (stV k 3 T (sgV 3 (k : Int) (K.sign (K.secs (kSeed seed 3) k) (K.stD k 3 T)) P 3 cp))[4]? = some (.int .i64 (k : Int)) := rfl
        generalize stV k 3 T (sgV 3 (k : Int) (K.sign (K.secs (kSeed seed 3) k) (K.stD k 3 T)) P 3 cp) = SA at *
        obtain ⟨hlen1, hone1⟩ := hsv
        go_upto_region 11 with (refine wpList_store_new rfl _ _ _ rfl _ _ SA rfl rfl (by rw [hlen1]; rfl) (by rw [hlen1]; rfl) hone1 ?_; intro V2 hX hB; replace HE := Lib.hid (HE.out.tr hX); replace HL := Lib.hid (HL.out.ext hX); replace HRA := Lib.hid (HRA.out.ext hX); replace HKA := Lib.hid (HKA.out.ext hX); replace HB2 := Lib.hid (HB2.out.ext hX); replace HRD := Lib.hid (HRD.out.ext hX); have HB := Lib.hid hB; clear hX hB; generalize V1.heap.size = sb at *)
        have hi3 : (Tryz.prog.info? 94).map (·.size) = some SA.length := by rw [hlen1]; rfl
        have hcl := HB.out.cell hs4
        have r2 := HB2.out.range
        have r3 := HB.out.range
        go_wp2_with (first
          | (refine wpList_load_midw (by rfl) _ _ rfl b2 0 rfl KV _ r2 Tryz.underlying91 rfl hi2 ?_)
          | (refine wpList_load_midw (by rfl) _ _ rfl sb 0 rfl SA _ r3 Tryz.underlying94 rfl hi3 ?_))
        refine (HV.out _ HRA.out HRD.out (HT.out.ext HE.out)).mono ?_
        rintro e V3 ⟨rfl, hx⟩
        replace HE := Lib.hid (HE.out.tr hx)
        replace HL := Lib.hid (HL.out.ext hx)
        replace HRA := Lib.hid (HRA.out.ext hx)
        replace HKA := Lib.hid (HKA.out.ext hx)
        replace HB2 := Lib.hid (HB2.out.ext hx)
        clear hx r2 r3 hcl
        go_wp2
        go_roundw
        case rel => exact ⟨k + 1, hlt, by go_num, by rw [hmin2, Int.natCast_add]; exact HKA.out, HL.out, HRA.out, HB2.out, HE.out⟩
        case measure => simp [intOf]; omega
      · have hmin : min k 8 = 8 := Nat.min_eq_right (by omega)
        rw [hmin] at hka
        have hmin2 : min (k + 1) 8 = 8 := Nat.min_eq_right (by omega)
        have h8i : (8 : Int) ≤ (k : Int) := by omega
        have HM := Lib.hid (smake_no (kP (kb 3)) 3 (by unfold I64; decide) k (by omega) T hwh wr (HT.out.ext hE) 14 (by decide) (fun W hx => sign_spent W (by decide) (K.stD k 3 T) (by decide) (hka.ext hx)))
        have HKA := Lib.hid hka
        have HL := Lib.hid hl
        have HRA := Lib.hid hra
        have HB2 := Lib.hid hb2
        clear hka hl hra hb2 hE
        go_wp2_with fail
        refine HM.out.mono ?_
        rintro e V1 ⟨rfl, hx⟩
        replace HE := Lib.hid (HE.out.tr hx)
        replace HL := Lib.hid (HL.out.ext hx)
        replace HRA := Lib.hid (HRA.out.ext hx)
        replace HKA := Lib.hid (HKA.out.ext hx)
        replace HB2 := Lib.hid (HB2.out.ext hx)
        clear hx hc3 HM
        go_wp2_with (refine wpList_store_new rfl _ _ _ rfl _ _ stZ rfl rfl rfl rfl stZ_one ?_; intro V2 hX hB; replace HE := Lib.hid (HE.out.tr hX); replace HL := Lib.hid (HL.out.ext hX); replace HRA := Lib.hid (HRA.out.ext hX); replace HKA := Lib.hid (HKA.out.ext hX); replace HB2 := Lib.hid (HB2.out.ext hX); clear hX hB)
        go_roundw
        case rel => exact ⟨k + 1, hlt, by go_num, by rw [hmin2]; exact HKA.out, HL.out, HRA.out, HB2.out, HE.out⟩
        case measure => simp [intOf]; omega
    · obtain rfl : k = m := by omega
      have hk0 : ¬ ((k : Int) < (k : Int)) := by omega
      have HE := Lib.hid hE
      have HC := Lib.hid (kleft_calls wr (by decide) (by omega) hka)
      clear hl hra hb2 hka hE
      go_wp2_with fail
      refine HC.out.mono ?_
      rintro e V1 ⟨rfl, hx⟩
      replace HE := Lib.hid (HE.out.tr hx)
      clear hx HC hc3
      have hmx : (((2 ^ 3 : Nat) : Int) - ((min k 8 : Nat) : Int)) = max 0 (8 - (k : Int)) := by omega
      have hwm : IntKind.i64.wrap (8 - (k : Int)) = 8 - (k : Int) := IntWalk.i64_in _ (by omega)
      go_wp2
      go_ret
      exact ⟨ret_bool (by first | rfl | (simp; omega)), HE.out⟩
theorem stampMany_walk' {w : World} (s : Int) (ws : (Lit.int .u64 s).wf = true) (y : Int) (wy : (Lit.int .u8 y).wf = true) (t : Int) (wt : (Lit.int .u16 t).wf = true) (h : KOk w) :
    Calls Tryz.prog 13 #[.int .u64 s, .int .u8 y, .int .u16 t] w fun e w' => e = .returned (.bool true) ∧ Ext w w' := by
  have h1 := bounds_u64 ws
  have h2 := bounds_u8 wy
  have h3 := wt
  have e0 : IntKind.min .u16 = 0 := by decide
  have e1 : IntKind.max .u16 = 65535 := by decide
  simp only [Lit.wf, e0, e1, Bool.and_eq_true, decide_eq_true_eq] at h3
  have := smany_walk s.toNat (by omega) y.toNat t.toNat (by omega) w h
  unfold cU64 at this
  rw [Int.toNat_of_nonneg (by omega), Int.toNat_of_nonneg (by omega), Int.toNat_of_nonneg (by omega)] at this
  exact this
end Go.Proofs.YthjldedjllkeeaaGreatDoor
