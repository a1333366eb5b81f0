/- The walk of the law KeyHolds. -/
import Derived.Test.YthjldedjllkeeaaGreatDoorKKw
import Derived.Test.YthjldedjllkeeaaGreatDoorKUse
import Derived.Test.YthjldedjllkeeaaGreatDoorKR2
import Derived.Test.YthjldedjllkeeaaGreatDoorKCv
set_option linter.unusedVariables false
set_option linter.unusedSimpArgs false
namespace Go.Proofs.YthjldedjllkeeaaGreatDoor
open Go.RowKit Go.Sort
set_option maxRecDepth 100000 in
set_option maxHeartbeats 20000000 in
theorem holds_walk (seed : Nat) (hs : seed < 18446744073709551616) (y : Nat) (l : List Nat) (hl : ∀ x ∈ l, x < 18446744073709551616) (A : Option Addr) (c : Nat) (w : World) (hA : Rd w A (cDg l)) (hk : KOk w) :
    Calls Tryz.prog 4 #[cU64 seed, .int .u8 (y : Int), .slice A l.length c] w fun e w' => e = .returned (.bool true) ∧ Ext w w' := by
  have HKN := Lib.hid (known5_calls w hk.gl hk.rng hk.tok)
  have HA := Lib.hid hA
  have HL := Lib.hid hl
  clear hA hk hl
  by_cases hbig : 40 < l.length
  · have hb : (40 : Int) < (l.length : Int) := by omega
    clear hbig
    go_enter Tryz.func4, Tryz.ntmps4
    go_wp2_with fail
    refine HKN.out.mono ?_
    rintro e w1 ⟨rfl, hx⟩
    have HX := Lib.hid hx
    clear hx
    go_wp2
    go_ret
    exact ⟨rfl, HX.out⟩
  · have hb : ¬ ((40 : Int) < (l.length : Int)) := by omega
    have hlen : l.length ≤ 40 := by omega
    clear hbig
    have hz : (y : Int).tmod 6 = ((y % 6 : Nat) : Int) := nmod y 6
    have hz' : (y : Int) % 6 = ((y % 6 : Nat) : Int) := nmod' y 6
    have hh6 : y % 6 < 6 := Nat.mod_lt _ (by decide)
    generalize y % 6 = h at *
    have HNW := Lib.hid (fun W => new_ok 1 (by decide) seed h hs (by omega) W)
    have hp := pow_le8 (h := h) (by omega)
    have hp1 : 1 ≤ 2 ^ h := Nat.one_le_two_pow
    obtain ⟨N, hN⟩ : ∃ N, 2 ^ h = N := ⟨_, rfl⟩
    have HN := Lib.hid hN
    rw [hN] at hp hp1
    have hsh := (pow_i64 hN hp).1
    have hsh2 := (pow_i64 hN hp).2
    clear hN
    have hb4 : ((h : Nat) : Int) ≤ 64 := by omega
    have hb6 : (0 : Int) ≤ (h : Int) := by omega
    have hb7 : ¬ ((h : Int) < 0) := by omega
    go_enter Tryz.func4, Tryz.ntmps4
    go_wp2_with fail
    refine HKN.out.mono ?_
    rintro e W1 ⟨rfl, hx⟩
    have HX := Lib.hid hx
    clear hx HKN
    go_wp2_with fail
    refine (HNW.out _).mono ?_
    rintro e W2 ⟨⟨kb, B, d, rfl, hk, hlo⟩, hx⟩
    have HLO := Lib.hid (show w.heap.size ≤ kb from Nat.le_trans HX.out.size hlo)
    replace HX := Lib.hid (HX.out.tr hx)
    have HRV := Lib.hid (show Calls Tryz.prog 21 #[kP kb, .int .i64 (N : Int)] W2 fun e w' => e = .returned (.tuple #[.int .i64 (0 + (N : Int)), .int .i64 0]) ∧ KA w' kb 1 seed h B d 0 (0 + (N : Int)) ∧ KG kb W2 w' from reserve_ok W2 (by omega) (N : Int) (by omega) ⟨by decide, by decide⟩ (by rw [HN.out]; omega) hk)
    clear hk hlo hx HNW
    go_wp2_with fail
    refine HRV.out.mono ?_
    rintro e W3 ⟨rfl, hk, hx⟩
    replace HX := Lib.hid (HX.out.kg hx HLO.out)
    have HK := Lib.hid (show KA W3 kb 1 seed h B d ((min 0 N : Nat) : Int) (N : Int) by rw [Nat.zero_min]; rw [Int.zero_add] at hk; exact hk)
    clear hk hx HRV
    go_wp2_with fail
    go_loopw [11, 12] (fun la i wr => ∃ (k : Nat), k ≤ l.length ∧ la = .int .i64 (((min k N : Nat) : Int) - 1) ∧ i = .int .i64 (k : Int) ∧ KA wr kb 1 seed h B d ((min k N : Nat) : Int) (N : Int) ∧ Ext w wr) (fun _ i _ => l.length - (intOf i).toNat)
    case atStart => exact ⟨0, by omega, by rw [Nat.zero_min]; rfl, rfl, HK.out, HX.out⟩
    case round =>
      obtain ⟨k, hk, rfl, rfl, hka, hE⟩ := hrel
      by_cases hlt : k < l.length
      · obtain ⟨ad, rfl, _, hc⟩ := (HA.out.ext hE).at_ (j := k) (u := cU64 l[k]) (by simp [hlt])
        have hxl := HL.out l[k] (by simp)
        have HAA := Lib.hid (fun W (hx : Ext w W) => by obtain ⟨ad2, e2, _, hc2⟩ := (HA.out.ext hx).at_ (j := k) (u := cU64 l[k]) (by simp [hlt]); cases e2; exact hc2)
        generalize l[k] = x at *
        have hk0 : (k : Int) < (l.length : Int) := by omega
        have HE := Lib.hid hE
        clear hE hb
        by_cases hkN : N ≤ k
        · have hmin : min k N = N := Nat.min_eq_right hkN
          rw [hmin] at hka
          have hmi : (N : Int) ≤ (k : Int) := by omega
          have HKA := Lib.hid hka
          have HC := Lib.hid (sign_spent wr (by omega) x (by rw [HN.out]) HKA.out)
          rw [hmin]
          clear hka hkN
          go_wp2_with fail
          refine HC.out.mono ?_
          rintro e W3 ⟨rfl, hx⟩
          replace HKA := Lib.hid (HKA.out.ext hx)
          replace HE := Lib.hid (HE.out.tr hx)
          clear hx hc
          have hmin2 : min (k + 1) N = N := Nat.min_eq_right (by omega)
          go_wp2_with (refine wpList_store_new rfl _ _ _ rfl _ _ sgZ rfl rfl rfl rfl sgZ_one ?_; intro W5 hX hB; replace HE := Lib.hid (HE.out.tr hX); replace HKA := Lib.hid (HKA.out.ext hX); clear hX hB)
          go_roundw
          case rel => exact ⟨k + 1, hlt, by rw [hmin2], by go_num, by rw [hmin2]; exact HKA.out, HE.out⟩
          case measure => simp [intOf]; omega
        · have hmin : min k N = k := Nat.min_eq_left (by omega)
          rw [hmin] at hka
          rw [hmin]
          have hkNi : ¬ ((N : Int) ≤ (k : Int)) := by omega
          have HKA := Lib.hid hka
          have HC := Lib.hid (sign_ok wr (by omega) x hxl k hs (by rw [HN.out]; omega) (by omega) HKA.out)
          clear hka
          go_wp2_with fail
          refine HC.out.mono ?_
          rintro e W3 ⟨⟨A1, c1, rfl, hr1, -⟩, hka, hx⟩
          have hmin2 : min (k + 1) N = k + 1 := Nat.min_eq_left (by omega)
          replace HKA := Lib.hid (show KA W3 kb 1 seed h B d ((min (k + 1) N : Nat) : Int) (N : Int) by rw [hmin2, Int.natCast_add]; exact hka)
          replace HE := Lib.hid (HE.out.kg hx HLO.out)
          have HR1 := Lib.hid hr1
          clear hx hka hr1 HC hc
          have HVF := Lib.hid (fun W hh => verify_own seed h k x (by rw [HN.out]; omega) (by omega) hxl 1 A1 c1 W hh)
          have hone1 := sgV_one 1 (k : Int) (K.sign (K.secs seed k) x) A1 h c1
          have hlen1 := sgV_len 1 (k : Int) (K.sign (K.secs seed k) x) (own_len _ _ _) A1 h c1
          have hs0 : (sgV 1 (k : Int) (K.sign (K.secs seed k) x) A1 h c1)[0]? = some (.int .i64 1) := rfl
          have hs1 : (sgV 1 (k : Int) (K.sign (K.secs seed k) x) A1 h c1)[1]? = some (.int .i64 (k : Int)) := rfl
          have HST := Lib.hid (show ∀ j : Int, (sgV 1 (k : Int) (K.sign (K.secs seed k) x) A1 h c1).set 1 (.int .i64 j) = sgV 1 j (K.sign (K.secs seed k) x) A1 h c1 from fun j => rfl)
          have hpl := K.path_len h (K.pubs seed h) k
          have HVT := Lib.hid (fun (j : Int) W hh => verify_all (K.root h (K.pubs seed h)) x (root_lt h seed) hxl 1 j (K.sign (K.secs seed k) x) (own_len _ _ _) (own_lt _ _ _) A1 c1 _ (path_lt h seed k) (h : Int) W hh)
          have HRT := Lib.hid (fun (j : Int) A2 c2 W hh => rvsig_all (K.root h (K.pubs seed h)) x (root_lt h seed) hxl 1 j (K.sign (K.secs seed k) x) (own_len _ _ _) (own_lt _ _ _) A2 c2 _ (path_lt h seed k) (h : Int) W hh)
          have HOF := Lib.hid (fun (j : Int) W hh => of5_calls 1 j (K.sign (K.secs seed k) x) (own_len _ _ _) (K.path h (K.pubs seed h) k) (by rw [hpl]; omega) A1 c1 W hh)
          rw [hpl] at HVT HRT HOF
          have HSL := Lib.hid (show ∀ (j : Int) A2 c2, (sgV 1 j (K.sign (K.secs seed k) x) A2 h c2).length = 21 ∧ ∀ v ∈ sgV 1 j (K.sign (K.secs seed k) x) A2 h c2, v.oneCell' = true from fun j A2 c2 => ⟨sgV_len _ _ _ (own_len _ _ _) _ _ _, sgV_one _ _ _ _ _ _⟩)
          obtain ⟨SG, hSG⟩ : ∃ SG : Int → Option Addr → Nat → List Value, (fun j A2 c2 => sgV 1 j (K.sign (K.secs seed k) x) A2 h c2) = SG := ⟨_, rfl⟩
          have hsg : ∀ j A2 c2, sgV 1 j (K.sign (K.secs seed k) x) A2 h c2 = SG j A2 c2 := fun j A2 c2 => congrFun (congrFun (congrFun hSG j) A2) c2
          obtain ⟨VS, hVS⟩ : ∃ VS : Int → Bool, (fun j => K.vsig (K.root h (K.pubs seed h)) x j (K.sign (K.secs seed k) x) (K.path h (K.pubs seed h) k) (h : Int)) = VS := ⟨_, rfl⟩
          have hvs : ∀ j, K.vsig (K.root h (K.pubs seed h)) x j (K.sign (K.secs seed k) x) (K.path h (K.pubs seed h) k) (h : Int) = VS j := fun j => congrFun hVS j
          simp only [hsg, hvs] at HVT HRT HOF HSL HST HVF hs0 hs1 hone1 hlen1 ⊢
          clear hsg hSG hvs hVS hpl
          have HRO := Lib.hid (fun W hh => kroot_calls W (by omega) (show KA W kb 1 seed h B d ((min (k + 1) N : Nat) : Int) (N : Int) from hh))
          generalize K.root h (K.pubs seed h) = RT at *
          generalize cDg (K.path h (K.pubs seed h) k) = PT at *
          go_upto_region 16 with (refine wpList_store_new rfl _ _ _ rfl _ _ (SG (k : Int) A1 c1) rfl rfl (by rw [hlen1]; rfl) (by rw [hlen1]; rfl) hone1 ?_; intro W5 hX hB; replace HE := Lib.hid (HE.out.tr hX); replace HKA := Lib.hid (HKA.out.ext hX); replace HR1 := Lib.hid (HR1.out.ext hX); have HB := Lib.hid hB; clear hX hB; generalize W3.heap.size = sb at *)
          have hi21 : (Tryz.prog.info? 39).map (·.size) = some (SG (k : Int) A1 c1).length := by rw [hlen1]; rfl
          go_upto_region 19 with (fail)
          have HGA := Lib.hid (show ∀ w', (∃ x : ExtW W5, w' = x.1) → w'.rangeAt sb 0 (SG (k : Int) A1 c1) from fun w' ⟨x, e⟩ => e ▸ (HB.out.ext x.2).range)
          have p0 : ∀ x : ExtW W5, x.1.cell? ⟨sb, 0, none⟩ = some (.int .i64 1) := fun x => (HB.out.ext x.2).cell hs0
          have p1 : ∀ x : ExtW W5, x.1.cell? ⟨sb, 1, none⟩ = some (.int .i64 (k : Int)) := fun x => (HB.out.ext x.2).cell hs1
          have pa : ∀ z : ExtW W5, z.1.cell? (ad.add k) = some (cU64 x) := fun z => HAA.out _ (Ext.tr HE.out z.2)
          have XR := Lib.hid (fun x : ExtW W5 => HRO.out x.1 (HKA.out.ext x.2))
          have XV := Lib.hid (fun x : ExtW W5 => HVF.out x.1 (HR1.out.ext x.2))
          have hle : ¬ ((k : Int) ≤ (k : Int) - 1) := by omega
          have hwle : IntKind.i64.wrap ((k : Int) - 1) = (k : Int) - 1 := IntWalk.i64_in _ (by omega)
          refine wp_region_grow (by kernel_rfl) (by kernel_rfl) ?_
          repeat (any_goals (first
            | (refine wpQuiet_load_mid _ _ rfl (by rfl) sb 0 (by rfl) (SG (k : Int) A1 c1) _ HGA.out Tryz.underlying39 rfl hi21 ?_; simp only [Act.put, List.setIfInBounds_toArray, List.set_cons_zero, List.set_cons_succ])
            | (go_big_quiet_step (first
              | (go_at_call 28; exact grow_of (XR.out _))
              | (go_at_call 30; exact grow_of (XV.out _))))))
          refine wpQuiet_nil ?_
          rintro W6 ⟨xw, hx⟩
          have hx2 : Ext W5 W6 := by rw [hx]; exact xw.2
          replace HE := Lib.hid (HE.out.tr hx2)
          replace HKA := Lib.hid (HKA.out.ext hx2)
          replace HR1 := Lib.hid (HR1.out.ext hx2)
          replace HB := Lib.hid (HB.out.ext hx2)
          clear hx hx2 xw p0 p1 pa XR XV HGA HVF hle hwle
          have c1' := HB.out.cell hs1
          have hrg := HB.out.range
          have HE6 := Lib.hid (show w.heap.size ≤ W6.heap.size from HE.out.size)
          have HK6 := Lib.hid (show kb < W6.heap.size from HKA.out.blk.lt)
          have HA6 := Lib.hid (show ∀ ad, A1 = some ad → PT ≠ [] → ad.block ≠ W6.heap.size from fun ad e hne => by
            rcases HR1.out with h0 | ⟨ad', e', hb', _⟩
            · exact absurd h0 hne
            · rw [e] at e'; cases e'; exact Nat.ne_of_lt hb')
          have HB6 := Lib.hid (show ∀ ad, B = some ad → ad.block ≠ W6.heap.size from fun ad e => by
            rcases HKA.out.rd with h0 | ⟨ad', e', hb', _⟩
            · have := congrArg List.length h0
              simp [K.pubs_len] at this
            · rw [e] at e'; cases e'; exact Nat.ne_of_lt hb')
          go_upto_region 23 with (first
            | (refine wpList_load_mid rfl _ _ rfl sb 0 rfl (SG (k : Int) A1 c1) _ hrg Tryz.underlying39 rfl hi21 ?_)
            | (refine wpList_store_new rfl _ _ _ rfl _ _ (SG (k : Int) A1 c1) rfl rfl (by rw [hlen1]; rfl) (by rw [hlen1]; rfl) hone1 ?_; intro W7 hX hB; replace HE := Lib.hid (HE.out.tr hX); replace HKA := Lib.hid (HKA.out.ext hX); replace HR1 := Lib.hid (HR1.out.ext hX); have c1'' := (HB.out.ext hX).cell hs1; have HBX := Lib.hid hB; have hlox : w.heap.size ≤ W6.heap.size := HE6.out; have hkx : kb < W6.heap.size := HK6.out; have har : ∀ ad, A1 = some ad → PT ≠ [] → ad.block ≠ W6.heap.size := HA6.out; have hab : ∀ ad, B = some ad → ad.block ≠ W6.heap.size := HB6.out; clear hX hB; generalize W6.heap.size = xb at *))
          clear hrg c1'
          have hj : (((k : Int) + 1).tmod (N : Int)) = (((k + 1) % N : Nat) : Int) := by rw [← nmod (k + 1) N]; norm_cast
          have hj' : (((k : Int) + 1) % (N : Int)) = (((k + 1) % N : Nat) : Int) := by rw [← nmod' (k + 1) N]; norm_cast
          have hjN : (k + 1) % N < N := Nat.mod_lt _ (by omega)
          generalize (k + 1) % N = j at *
          have hN0 : ¬ ((N : Int) = 0) := by omega
          have hN0b : ((N : Int) == 0) = false := beq_eq_false_iff_ne.2 hN0
          have hfx := HBX.out.frozen 1
          have hcx := HBX.out.cell hs1
          have hbx := HBX.out.set 1 (.int .i64 (j : Int))
          rw [HST.out] at hbx
          have hkx2 := KA.other HKA.out (b := xb) (j := 1) (by omega) hab (.int .i64 (j : Int))
          have hrx2 : Rd (W7.setCell ⟨xb, 1, none⟩ (.int .i64 (j : Int))) A1 PT := by
            by_cases hPT : PT = []
            · exact .inl hPT
            · exact HR1.out.setOther (b := xb) (j := 1) (fun ad e => har ad e hPT) (.int .i64 (j : Int))
          have hex2 := Below.setCell HE.out (p := ⟨xb, 1, none⟩) hlox (.int .i64 (j : Int))
          have HF := Lib.hid (And.intro hbx (And.intro hkx2 (And.intro hrx2 hex2)))
          clear hbx hkx2 hrx2 hex2 HKA HR1 HE HB HBX hab har hlox hkx
          go_upto_region 24 with (fail)
          clear hfx hcx c1''
          generalize W7.setCell ⟨xb, 1, none⟩ (.int .i64 (j : Int)) = W8 at *
          have HE := Lib.hid (show Ext w W8 from HF.out.2.2.2)
          have HKA := Lib.hid HF.out.2.1
          have HR1 := Lib.hid HF.out.2.2.1
          have HB := Lib.hid HF.out.1
          clear HF
          have hj21 : (Tryz.prog.info? 39).map (·.size) = some (SG (j : Int) A1 c1).length := by rw [(HSL.out _ _ _).1]; rfl
          have HGA := Lib.hid (show ∀ w', (∃ x : ExtW W8, w' = x.1) → w'.rangeAt xb 0 (SG (j : Int) A1 c1) from fun w' ⟨x, e⟩ => e ▸ (HB.out.ext x.2).range)
          have pa : ∀ z : ExtW W8, z.1.cell? (ad.add k) = some (cU64 x) := fun z => HAA.out _ (Ext.tr HE.out z.2)
          have XR := Lib.hid (fun x : ExtW W8 => HRO.out x.1 (HKA.out.ext x.2))
          have XV := Lib.hid (fun x : ExtW W8 => HVT.out (j : Int) x.1 (HR1.out.ext x.2))
          clear HSL
          by_cases hN1 : 1 < N
          · have hN1i : (1 : Int) < (N : Int) := by omega
            cases hV : VS (j : Int) with
            | false =>
              simp only [hV] at XV
              refine wp_region_grow (by kernel_rfl) (by kernel_rfl) ?_
              repeat (any_goals (first
                | (refine wpQuiet_load_mid _ _ rfl (by rfl) xb 0 (by rfl) (SG (j : Int) A1 c1) _ HGA.out Tryz.underlying39 rfl hj21 ?_; simp only [Act.put, List.setIfInBounds_toArray, List.set_cons_zero, List.set_cons_succ])
                | (go_big_quiet_step (first
                  | (go_at_call 28; exact grow_of (XR.out _))
                  | (go_at_call 30; exact grow_of (XV.out _))))))
              refine wpQuiet_nil ?_
              rintro W9 ⟨xw, hx⟩
              have hx2 : Ext W8 W9 := by rw [hx]; exact xw.2
              replace HE := Lib.hid (HE.out.tr hx2)
              replace HKA := Lib.hid (HKA.out.ext hx2)
              clear hx hx2 xw pa XR XV HGA HB HR1
              go_wp2
              go_roundw
              case rel => exact ⟨k + 1, hlt, by rw [hmin2]; exact congrArg (Value.int .i64) (by omega), by go_num, HKA.out, HE.out⟩
              case measure => simp [intOf]; omega
            | true =>
              simp only [hV] at XV
              refine wp_region_grow (by kernel_rfl) (by kernel_rfl) ?_
              repeat (any_goals (first
                | (refine wpQuiet_load_mid _ _ rfl (by rfl) xb 0 (by rfl) (SG (j : Int) A1 c1) _ HGA.out Tryz.underlying39 rfl hj21 ?_; simp only [Act.put, List.setIfInBounds_toArray, List.set_cons_zero, List.set_cons_succ])
                | (go_big_quiet_step (first
                  | (go_at_call 28; exact grow_of (XR.out _))
                  | (go_at_call 30; exact grow_of (XV.out _))))))
              refine wpQuiet_nil ?_
              rintro W9 ⟨xw, hx⟩
              have hx2 : Ext W8 W9 := by rw [hx]; exact xw.2
              replace HE := Lib.hid (HE.out.tr hx2)
              replace HKA := Lib.hid (HKA.out.ext hx2)
              replace HR1 := Lib.hid (HR1.out.ext hx2)
              replace HB := Lib.hid (HB.out.ext hx2)
              clear hx hx2 xw pa XR XV HGA
              go_upto_region 25 with (fail)
              replace HE := Lib.hid HE.out.drew
              replace HKA := Lib.hid (HKA.out.ext (Ext.rfl' _).drew)
              replace HR1 := Lib.hid (HR1.out.drew)
              replace HB := Lib.hid HB.out.drew
              have HCE := Lib.hid (show ∀ W, Ext W9.drew W → (W.rangeAt xb 0 (SG (j : Int) A1 c1) ∧ W.cell? (ad.add k) = some (cU64 x)) from fun W hx => ⟨(HB.out.ext hx).range, HAA.out _ (Ext.tr HE.out hx)⟩)
              have HX := Lib.hid (Ext.rfl' W9.drew)
              refine wp_region_held_drew (S := fun W => W.rangeAt xb 0 (SG (j : Int) A1 c1) ∧ W.cell? (ad.add k) = some (cU64 x)) (by kernel_rfl) (HCE.out _ HX.out) (fun hHeld => ?_)
              generalize W9.drew = W1 at *
              refine wpAnyH_take (i := 0) (v := ?_) (by first | (simp only [List.getElem?_toArray, List.getElem?_cons_zero, List.getElem?_cons_succ]; done) | (simp only [List.getElem?_toArray, List.getElem?_cons_zero, List.getElem?_cons_succ]; rfl)) (by kernel_rfl) (by kernel_rfl) (by kernel_rfl) (by exact fun _ _ _ h => h) (Or.inl ⟨by rfl, ?hy0⟩) (by assumption) ?_
              case hy0 => (intro w' hSw; obtain ⟨-, hS1⟩ := hSw; go_simp; try with_reducible rfl)
              try simp only [Act.put, List.setIfInBounds_toArray, List.set_cons_zero, List.set_cons_succ]
              refine wpAnyH_take (i := 2) (v := .agg (SG (j : Int) A1 c1).toArray) (by first | (simp only [List.getElem?_toArray, List.getElem?_cons_zero, List.getElem?_cons_succ]; done) | (simp only [List.getElem?_toArray, List.getElem?_cons_zero, List.getElem?_cons_succ]; rfl)) (by kernel_rfl) (by kernel_rfl) (by kernel_rfl) (by exact fun _ _ _ h => h) (Or.inl ⟨by rfl, fun w' hSw => run_load_mid _ _ _ _ rfl xb 0 (by rfl) _ _ w' hSw.1 Tryz.underlying39 rfl hj21⟩) (by assumption) ?_
              try simp only [Act.put, List.setIfInBounds_toArray, List.set_cons_zero, List.set_cons_succ]
              refine wpAnyH_take (i := 4) (v := ?_) (by first | (simp only [List.getElem?_toArray, List.getElem?_cons_zero, List.getElem?_cons_succ]; done) | (simp only [List.getElem?_toArray, List.getElem?_cons_zero, List.getElem?_cons_succ]; rfl)) (by kernel_rfl) (by kernel_rfl) (by kernel_rfl) (by exact fun _ _ _ h => h) (Or.inl ⟨by rfl, ?hy4⟩) (by assumption) ?_
              case hy4 => (intro w' hSw; obtain ⟨-, hS1⟩ := hSw; go_simp; try with_reducible rfl)
              try simp only [Act.put, List.setIfInBounds_toArray, List.set_cons_zero, List.set_cons_succ]
              refine wpAnyH_take (i := 5) (v := ?_) (by first | (simp only [List.getElem?_toArray, List.getElem?_cons_zero, List.getElem?_cons_succ]; done) | (simp only [List.getElem?_toArray, List.getElem?_cons_zero, List.getElem?_cons_succ]; rfl)) (by kernel_rfl) (by kernel_rfl) (by kernel_rfl) (by exact fun _ _ _ h => h) (Or.inl ⟨by rfl, ?hy5⟩) (by assumption) ?_
              case hy5 => (intro w' hSw; obtain ⟨-, hS1⟩ := hSw; go_simp; try with_reducible rfl)
              try simp only [Act.put, List.setIfInBounds_toArray, List.set_cons_zero, List.set_cons_succ]
              refine wpAnyH_take (i := 6) (v := ?_) (by first | (simp only [List.getElem?_toArray, List.getElem?_cons_zero, List.getElem?_cons_succ]; done) | (simp only [List.getElem?_toArray, List.getElem?_cons_zero, List.getElem?_cons_succ]; rfl)) (by kernel_rfl) (by kernel_rfl) (by kernel_rfl) (by exact fun _ _ _ h => h) (Or.inl ⟨by rfl, ?hy6⟩) (by assumption) ?_
              case hy6 => (intro w' hSw; obtain ⟨-, hS1⟩ := hSw; go_simp; try with_reducible rfl)
              try simp only [Act.put, List.setIfInBounds_toArray, List.set_cons_zero, List.set_cons_succ]
              refine wpAnyH_take (i := 7) (v := ?_) (by first | (simp only [List.getElem?_toArray, List.getElem?_cons_zero, List.getElem?_cons_succ]; done) | (simp only [List.getElem?_toArray, List.getElem?_cons_zero, List.getElem?_cons_succ]; rfl)) (by kernel_rfl) (by kernel_rfl) (by kernel_rfl) (by exact fun _ _ _ h => h) (Or.inl ⟨by rfl, ?hy7⟩) (by assumption) ?_
              case hy7 => (intro w' hSw; obtain ⟨-, hS1⟩ := hSw; go_simp; try with_reducible rfl)
              try simp only [Act.put, List.setIfInBounds_toArray, List.set_cons_zero, List.set_cons_succ]
              refine wpAnyH_take (i := 8) (v := ?_) (by first | (simp only [List.getElem?_toArray, List.getElem?_cons_zero, List.getElem?_cons_succ]; done) | (simp only [List.getElem?_toArray, List.getElem?_cons_zero, List.getElem?_cons_succ]; rfl)) (by kernel_rfl) (by kernel_rfl) (by kernel_rfl) (by exact fun _ _ _ h => h) (Or.inl ⟨by rfl, ?hy8⟩) (by assumption) ?_
              case hy8 => (intro w' hSw; obtain ⟨-, hS1⟩ := hSw; go_simp; try with_reducible rfl)
              try simp only [Act.put, List.setIfInBounds_toArray, List.set_cons_zero, List.set_cons_succ]
              refine wpAnyH_ready (rs := [1]) (by kernel_rfl) (by simp) ?_
              refine AllReadyH.cons (by first | (simp only [List.getElem?_toArray, List.getElem?_cons_zero, List.getElem?_cons_succ]; done) | (simp only [List.getElem?_toArray, List.getElem?_cons_zero, List.getElem?_cons_succ]; rfl)) (fun K hK => ?_) ?_
              · skip
                go_simp
                refine (HRO.out _ (HKA.out.ext HX.out)).mono ?_
                rintro e W4 ⟨rfl, hx⟩
                replace HX := Lib.hid (HX.out.tr hx)
                clear hx
                try (go_wp2_with fail)
                refine hK.out _ _ (HCE.out _ HX.out) (fun hHeld => ?_)
                clear hK K
                try simp only [Act.put, List.setIfInBounds_toArray, List.set_cons_zero, List.set_cons_succ]
                refine wpAnyH_ready (rs := [3]) (by kernel_rfl) (by simp) ?_
                refine AllReadyH.cons (by first | (simp only [List.getElem?_toArray, List.getElem?_cons_zero, List.getElem?_cons_succ]; done) | (simp only [List.getElem?_toArray, List.getElem?_cons_zero, List.getElem?_cons_succ]; rfl)) (fun K hK => ?_) ?_
                · skip
                  go_simp
                  refine (HOF.out (j : Int) _ (HR1.out.ext HX.out)).mono ?_
                  rintro e W4 ⟨⟨A2, c2, rfl, hr2, -⟩, hx⟩
                  have HR2 := Lib.hid hr2
                  clear hr2
                  replace HX := Lib.hid (HX.out.tr hx)
                  clear hx
                  try (go_wp2_with fail)
                  refine hK.out _ _ (HCE.out _ HX.out) (fun hHeld => ?_)
                  clear hK K
                  try simp only [Act.put, List.setIfInBounds_toArray, List.set_cons_zero, List.set_cons_succ]
                  refine wpAnyH_ready (rs := [9]) (by kernel_rfl) (by simp) ?_
                  refine AllReadyH.cons (by first | (simp only [List.getElem?_toArray, List.getElem?_cons_zero, List.getElem?_cons_succ]; done) | (simp only [List.getElem?_toArray, List.getElem?_cons_zero, List.getElem?_cons_succ]; rfl)) (fun K hK => ?_) ?_
                  · skip
                    go_simp
                    refine (HRT.out (j : Int) A2 c2 _ HR2.out).mono ?_
                    rintro e W4 ⟨rfl, hx⟩
                    rw [hV]
                    replace HX := Lib.hid (HX.out.tr hx)
                    clear hx
                    try (go_wp2_with fail)
                    refine hK.out _ _ (HCE.out _ HX.out) (fun hHeld => ?_)
                    clear hK K
                    try simp only [Act.put, List.setIfInBounds_toArray, List.set_cons_zero, List.set_cons_succ]
                    refine wpAnyH_take (i := 10) (v := ?_) (by first | (simp only [List.getElem?_toArray, List.getElem?_cons_zero, List.getElem?_cons_succ]; done) | (simp only [List.getElem?_toArray, List.getElem?_cons_zero, List.getElem?_cons_succ]; rfl)) (by kernel_rfl) (by kernel_rfl) (by kernel_rfl) (by exact fun _ _ _ h => h) (Or.inl ⟨by rfl, ?hy10⟩) (by assumption) ?_
                    case hy10 => (intro w' hSw; obtain ⟨-, hS1⟩ := hSw; go_simp; try with_reducible rfl)
                    try simp only [Act.put, List.setIfInBounds_toArray, List.set_cons_zero, List.set_cons_succ]
                    refine wpAnyH_done (by kernel_rfl) ?_ _
                    clear hHeld
                    have HFIN := Lib.hid (Ext.tr HE.out HX.out)
                    go_wp2
                    go_ret
                    exact ⟨rfl, HFIN.out⟩
                  exact AllReadyH.nil
                exact AllReadyH.nil
              exact AllReadyH.nil
          · have hN1i : ¬ ((1 : Int) < (N : Int)) := by omega
            have hN1d : decide ((1 : Int) < (N : Int)) = false := decide_eq_false hN1i
            refine wp_region_grow (by kernel_rfl) (by kernel_rfl) ?_
            repeat (any_goals (go_big_quiet_step (fail)))
            refine wpQuiet_nil ?_
            rintro W9 ⟨xw, hx⟩
            have hx2 : Ext W8 W9 := by rw [hx]; exact xw.2
            replace HE := Lib.hid (HE.out.tr hx2)
            replace HKA := Lib.hid (HKA.out.ext hx2)
            clear hx hx2 xw pa XR XV HGA HB HR1
            go_wp2
            go_roundw
            case rel => exact ⟨k + 1, hlt, by rw [hmin2]; exact congrArg (Value.int .i64) (by omega), by go_num, HKA.out, HE.out⟩
            case measure => simp [intOf]; omega
      · obtain rfl : k = l.length := by omega
        have HF := Lib.hid (show Calls Tryz.prog 27 #[kP kb] wr fun e w' => e = .returned (.int .i64 ((N : Int) - ((min l.length N : Nat) : Int))) ∧ Ext wr w' by
          have := kleft_calls wr (by omega) ⟨by omega, by omega⟩ hka
          rw [HN.out] at this
          exact this)
        have hmx : max (0 : Int) ((N : Int) - (l.length : Int)) = (N : Int) - ((min l.length N : Nat) : Int) := by omega
        have HE := Lib.hid hE
        clear hka hE
        have hrr : ((N : Int) - ((min l.length N : Nat) : Int) == (N : Int) - ((min l.length N : Nat) : Int)) = true := by simp
        go_wp2_with fail
        refine HF.out.mono ?_
        rintro e W3 ⟨rfl, hx⟩
        replace HE := Lib.hid (HE.out.tr hx)
        clear hx
        generalize (N : Int) - ((min l.length N : Nat) : Int) = Q at *
        go_wp2
        go_ret
        exact ⟨ret_bool (by first | rfl | simp), HE.out⟩
theorem keyHolds_walk' {w : World} (s : Int) (ws : (Lit.int .u64 s).wf = true) (y : Int) (wy : (Lit.int .u8 y).wf = true) (A : Option Addr) (l : List Int) (c : Nat) (hA : Rd w A (l.map (Value.int .u64))) (wl : ∀ n ∈ l, (Lit.int .u64 n).wf = true) (hm : l.length ≤ maxLen) (h : KOk w) :
    Calls Tryz.prog 4 #[.int .u64 s, .int .u8 y, .slice A l.length c] w fun e w' => e = .returned (.bool true) ∧ Ext w w' := by
  have h2 := bounds_u64 ws
  have h4 := bounds_u8 wy
  have h3 := cDg_of wl
  have := holds_walk s.toNat (by omega) y.toNat (l.map Int.toNat) h3.2 A c w (by rw [h3.1]; exact hA) h
  unfold cU64 at this
  rw [Int.toNat_of_nonneg (by omega), Int.toNat_of_nonneg (by omega), List.length_map] at this
  exact this
end Go.Proofs.YthjldedjllkeeaaGreatDoor
