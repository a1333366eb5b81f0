/- The walk of the law TreeForks. -/
import Derived.Test.YtifanmggfoicfaaDoorTFk
import Derived.Test.YtifanmggfoicfaaDoorTLo
set_option linter.unusedVariables false
set_option linter.unusedSimpArgs false
namespace Go.Proofs.YtifanmggfoicfaaDoor
open Go.RowKit Go.Sort Go.Maps
theorem own_grown {w w' : World} {B : Nat} {e : TypeId} {size : Nat} {v : Value} {n : Nat} {xs : List Value} {mb : Nat} (h : w.ownsRow B e size v n xs) (k : Gr mb w w') (hb : mb < B) : w'.ownsRow B e size v n xs := by
  refine ⟨h.1, ?_⟩
  rcases h.2 with h0 | ⟨g, cap, cur, h1, h2, h3, h4⟩
  · exact .inl h0
  · exact .inr ⟨g, cap, cur, h1, h2, (k.block g (Array.getElem?_eq_some_iff.1 h3).1 (by simp; omega)).trans h3, h4⟩
theorem add_ok {tb mb : Nat} {L : List (Nat × T.B)} {b : T.B} {d : Nat} (hd : T.dig b = d) (hc : T.code L d b = 0) (hb : OkB b) (hn : L.length < 1000000) (W : World) (hT : Tr W tb mb L) (ht : TOk W) :
    Calls Tryd.prog 20 #[.pointer (some ⟨tb, 0, none⟩), bA b] W fun e w' => e = .returned (.int .i64 0) ∧ Tr w' tb mb ((d, b) :: L) ∧ Gr mb W w' := by
  refine (add_calls W hT b hb ht hn).mono ?_
  rintro e w' ⟨rfl, h2, h3, h4⟩
  rw [hd] at h2 ⊢
  rw [T.add, hc, if_pos rfl] at h2
  rw [hc]
  exact ⟨rfl, h2, h3⟩
theorem dig_ok {b : T.B} {d : Nat} (hd : T.dig b = d) (hb : OkB b) (W : World) (ht : TOk W) : Calls Tryd.prog 21 #[bA b] W fun e w' => e = .returned (cU64 d) ∧ Ext W w' := by
  have h := blkdig_calls b hb W ht
  rwa [hd] at h
theorem own_cells1 {w : World} {B : Nat} {e : TypeId} {v : Value} {n : Nat} {xs : List Value} (h : w.ownsRow B e 1 v n xs) (hn : n ≠ 0) : ∃ g c, v = .slice (some ⟨g, 0, none⟩) n c ∧ B ≤ g ∧ g < w.heap.size ∧ ∀ j u, xs[j]? = some u → w.cell? ⟨g, j, none⟩ = some u := by
  rcases h.2 with ⟨_, h0⟩ | ⟨g, cap, cur, rfl, hbg, hg, hnc, hcm, hcs, htake⟩
  · exact absurd h0 hn
  · have hblk : Blk w g e cur.toList := by unfold Blk; rw [Array.toArray_toList]; exact hg
    refine ⟨g, cap, rfl, hbg, hblk.lt, fun j u hj => hblk.cell ?_⟩
    rw [← htake, List.getElem?_take] at hj
    split at hj
    · exact hj
    · cases hj
theorem tr_below {W W' : World} {tb mb B : Nat} {L : List (Nat × T.B)} (h : Tr W tb mb L) (k : Below B W W') (h1 : mb < B) (h2 : tb < B) : Tr W' tb mb L := by
  obtain ⟨hc, ⟨D, m, ⟨es, clock, hb, F, hs, hD⟩, r⟩, hlt, hne⟩ := h
  exact ⟨(k.cell (p := ⟨tb, 0, none⟩) h2).trans hc, ⟨D, m, ⟨es, clock, (k.block mb h1).trans hb, F, hs, hD⟩, r⟩, Nat.lt_of_lt_of_le hlt k.size, hne⟩
def uL (sd : Nat → Nat) (k : Nat) : List Nat := (List.range (k + 1)).map sd
theorem uL_succ (sd : Nat → Nat) (k : Nat) : uL sd (k + 1) = uL sd k ++ [sd (k + 1)] := by simp [uL, List.range_succ]
theorem hv_all {L : List (Nat × T.B)} (h : ∀ p ∈ L, 0 ≤ p.2.v ∧ p.2.v ≤ 1000) : ∀ x b, T.get L x = some b → -1000000000000 ≤ b.v ∧ b.v ≤ 1000000000000 := fun x b hx => by
  have := get_all (P := fun b => 0 ≤ b.v ∧ b.v ≤ 1000) h hx
  omega
theorem sT_v (sd : Nat → Nat) : ∀ m, m ≤ 7 → ∀ p ∈ sT sd m, 0 ≤ p.2.v ∧ p.2.v ≤ 1000
  | 0, _, p, hp => by
    simp only [sT, T.new, List.mem_singleton] at hp
    subst hp
    simp [T.gen]
  | m + 1, hm, p, hp => by
    rw [sT] at hp
    rcases List.mem_cons.1 hp with rfl | hp
    · simp only [fS, mkB]; omega
    · exact sT_v sd m (by omega) p hp
theorem oT_v (sd : Nat → Nat) (od : Nat → Nat → Nat) (s : Nat) (hs : s ≤ 7) : ∀ m, m ≤ 6 → ∀ p ∈ oT sd od s m, 0 ≤ p.2.v ∧ p.2.v ≤ 1000
  | 0, _, p, hp => sT_v sd s hs p hp
  | m + 1, hm, p, hp => by
    rw [oT] at hp
    rcases List.mem_cons.1 hp with rfl | hp
    · simp only [fO, mkB]; omega
    · exact oT_v sd od s hs m (by omega) p hp
theorem pT_v (sd : Nat → Nat) (od pd : Nat → Nat → Nat) (s q : Nat) (hs : s ≤ 7) (hq : q ≤ 6) : ∀ m, m ≤ 6 → ∀ p ∈ pT sd od pd s q m, 0 ≤ p.2.v ∧ p.2.v ≤ 1000
  | 0, _, p, hp => oT_v sd od s hs q hq p hp
  | m + 1, hm, p, hp => by
    rw [pT] at hp
    rcases List.mem_cons.1 hp with rfl | hp
    · simp only [fP, mkB]; omega
    · exact pT_v sd od pd s q hs hq m (by omega) p hp
set_option maxRecDepth 100000 in
set_option maxHeartbeats 4000000 in
theorem forks_walk (st a b : Int) (hs0 : 0 ≤ st ∧ st ≤ 255) (ha0 : 0 ≤ a ∧ a ≤ 255) (hb0 : 0 ≤ b ∧ b ≤ 255) (w : World) (ht : TOk w) :
    Calls Tryd.prog 5 #[.int .u8 st, .int .u8 a, .int .u8 b] w fun e w' => e = .returned (.bool true) ∧ Ext w w' := by
  obtain ⟨i0, hi, hz0, hz1, hz2⟩ := info_parts bDig
  obtain ⟨sd, od, pd, hF⟩ := fk17
  have HT := Lib.hid (show ∀ W, Ext w W → TOk W from fun W hx => ht.ext hx)
  have HK := Lib.hid (known17_calls w ht)
  obtain ⟨s, hs7, hsn⟩ : ∃ s : Nat, s < 8 ∧ st % 8 = (s : Int) := ⟨(st % 8).toNat, by omega, by omega⟩
  obtain ⟨P, hP6, p, hpP, hpn⟩ : ∃ P : Nat, P < 6 ∧ ∃ p : Nat, P + 1 = p ∧ 1 + a % 6 = (p : Int) := ⟨(a % 6).toNat, by omega, _, rfl, by omega⟩
  obtain ⟨Q, hQ6, q, hqQ, hqn⟩ : ∃ Q : Nat, Q < 6 ∧ ∃ q : Nat, Q + 1 = q ∧ 1 + b % 6 = (q : Int) := ⟨(b % 6).toNat, by omega, _, rfl, by omega⟩
  have HWO := Lib.hid (show T.way (pT sd od pd s p q) 20 (od s p) = some (oW sd od s p) by subst hpP hqQ; exact hF.wo s hs7 P hP6 Q hQ6)
  have HWP := Lib.hid (show T.way (pT sd od pd s p q) 20 (pd s q) = some (oW sd pd s q) by subst hpP hqQ; exact hF.wp s hs7 P hP6 Q hQ6)
  have HNO := Lib.hid (show decide (pd s q ∈ oW sd od s p) = false by subst hpP hqQ; exact decide_eq_false (hF.no s hs7 P hP6 Q hQ6))
  have HNP := Lib.hid (show decide (od s p ∈ oW sd pd s q) = false by subst hpP hqQ; exact decide_eq_false (hF.np s hs7 P hP6 Q hQ6))
  have HIO := Lib.hid (show ∀ i, i < s + 1 → decide (sd i ∈ oW sd od s p) = true by subst hpP; exact fun i hi => decide_eq_true (hF.io s hs7 P hP6 i hi))
  have HIP := Lib.hid (show ∀ i, i < s + 1 → decide (sd i ∈ oW sd pd s q) = true by subst hqQ; exact fun i hi => decide_eq_true (hF.ip s hs7 Q hQ6 i hi))
  have HMO := Lib.hid (show (T.commit (pT sd od pd s p q) (oW sd od s p)).isSome = (decide (P = 0) && decide (2 ≤ s)) by subst hpP hqQ; exact hF.mo s hs7 P hP6 Q hQ6)
  have HMP := Lib.hid (show (T.commit (pT sd od pd s p q) (oW sd pd s q)).isSome = false by subst hpP hqQ; exact hF.mp s hs7 P hP6 Q hQ6)
  have hlo := hF.lwo s hs7 p (by omega)
  have hlp := hF.lwp s hs7 q (by omega)
  have hv := hv_all (pT_v sd od pd s p (by omega) (by omega) q (by omega))
  have oS : ∀ k, k < 7 → OkB (fS sd k) := fun k hk => okB_mk _ _ _ _ (by omega) (hF.ls k (by omega)) (by omega) (by omega)
  have oO : ∀ k, k < 6 → OkB (fO od s k) := fun k hk => okB_mk _ _ _ _ (by omega) (hF.lo s hs7 k (by omega)) (by omega) (by omega)
  have oP : ∀ k, k < 6 → OkB (fP pd s k) := fun k hk => okB_mk _ _ _ _ (by omega) (hF.lp s hs7 k (by omega)) (by omega) (by omega)
  have HO := Lib.hid hF
  clear hF ht
  go_enter Tryd.func5, Tryd.ntmps5
  go_wp2_with fail
  refine HK.out.mono ?_
  rintro e w1 ⟨rfl, hx⟩
  have HX1 := Lib.hid hx
  clear hx HK
  go_wp2_with fail
  refine (tnew_calls w1).mono ?_
  rintro e w2 ⟨⟨tb, mb, rfl, hT, htb, hmb⟩, hx⟩
  have HX2 := Lib.hid (HX1.out.tr hx)
  have HTR := Lib.hid hT
  have hwmb : w.heap.size ≤ mb := Nat.le_trans HX1.out.size hmb
  have hmb2 : mb < w2.heap.size := hT.mlt
  have hww : w.heap.size ≤ w2.heap.size := HX2.out.size
  have hHtb := Lib.hid (show tb < w2.heap.size from hT.lt)
  have hnil := (World.ownsRow_nil w2 w2.heap.size 27 1).alloc (.cells #[.int .u64 0] 27)
  clear hx hT htb hmb
  go_wp2_with (at_builtin; (refine wpList_append_own _ rfl _ _ 30 rfl w2.heap.size 27 i0 (.int .u64 0) 1 8 Tryd.underlying30 hi hz0 hz1 hz2 rfl (by decide) _ _ _ rfl hnil ⟨w2.heap.size, 0, none⟩ 1 1 [.int .u64 0] rfl rfl (cell_one_new _ _ _) (fun x hx => by simp at hx; subst hx; rfl) (by decide) (by decide) (by simp) ?_); intro v1 w3 hown1 hgrow1 _)
  have hE3 : Ext w2 w3 := Below.grown ((Ext.rfl' w2).alloc _) hgrow1 (by simp) (fun q hq => by cases hq)
  have HOW := Lib.hid (show w3.ownsRow w2.heap.size 27 1 v1 1 (cDs (uL sd 0)) by have h := hown1; rw [show cDs (uL sd 0) = [] ++ [.int .u64 0] by simp [uL, HO.out.z]]; exact h)
  have HTR3 := Lib.hid (HTR.out.ext hE3)
  have HE3 := Lib.hid (HX2.out.tr hE3)
  have hs23 : w2.heap.size ≤ w3.heap.size := hE3.size
  clear hown1 hgrow1 hnil hE3
  go_wp2
  go_loopw [11, 12, 13, 14, 15] (fun d lo vw u i wr => ∃ k : Nat, k ≤ s ∧ i = .int .i64 k ∧ d = cU64 (sd k) ∧ lo = .int .i64 (10 * (k : Int)) ∧ vw = .int .i64 k ∧ wr.ownsRow w2.heap.size 27 1 u (k + 1) (cDs (uL sd k)) ∧ Tr wr tb mb (sT sd k) ∧ Ext w wr ∧ w2.heap.size ≤ wr.heap.size) (fun _ _ _ _ i _ => s - (intOf i).toNat)
  case atStart => exact ⟨0, by omega, rfl, by rw [HO.out.z]; rfl, rfl, rfl, HOW.out, HTR3.out, HE3.out, hs23⟩
  case round =>
    obtain ⟨k, hk, rfl, rfl, rfl, rfl, hoo, htr, hE, hsz2⟩ := hrel
    by_cases hlt : k < s
    · have HUS := Lib.hid (uL_succ sd k)
      have HADD := Lib.hid (fun W (hT : Tr W tb mb (sT sd k)) hW => add_ok (HO.out.ds k (by omega)) (HO.out.cs k (by omega)) (oS k (by omega)) (by rw [sT_len]; omega) W hT (HT.out W hW))
      have HDD := Lib.hid (fun W hW => dig_ok (HO.out.ds k (by omega)) (oS k (by omega)) W (HT.out W hW))
      have HTR4 := Lib.hid htr
      have HOO := Lib.hid hoo
      have HEE := Lib.hid hE
      have HSZ := Lib.hid hsz2
      clear htr hoo hE hsz2
      go_wp2_with fail
      refine (b17_calls ((k : Int) + 1) (sd k) (10 * k) (10 * k + 10) _).mono ?_
      rintro e w5 ⟨rfl, hx5⟩
      have hx6 : Ext wr (w5.alloc (.cells (bV (fS sd k)).toArray 48)) := hx5.alloc _
      have hk6 := Blk.new w5 48 (bV (fS sd k))
      have hbig : mb < w5.heap.size := by have := HTR4.out.mlt; have := hx5.size; omega
      clear hx5
      go_wp2_with fail
      refine (HADD.out _ (HTR4.out.ext hx6) (HEE.out.tr hx6)).mono ?_
      rintro e w7 ⟨rfl, hT7, hg7⟩
      have hs7' : w2.heap.size ≤ w7.heap.size := Nat.le_trans (Nat.le_trans HSZ.out hx6.size) hg7.size
      have hsx : wr.heap.size ≤ w7.heap.size := Nat.le_trans hx6.size hg7.size
      have hk7 : Blk w7 w5.heap.size 48 (bV (fS sd k)) := hk6.grown hg7 (by simp; omega)
      have hE7 : Ext w w7 := Gr.below (HEE.out.tr hx6) hg7 hwmb (HEE.out.tr hx6).size
      have ho7 : w7.ownsRow w2.heap.size 27 1 _ (k + 1) (cDs (uL sd k)) := own_grown (own_keep HOO.out hx6) hg7 hmb2
      clear hk6 hx6 hg7
      go_wp2_with (refine wpList_load_row rfl _ _ rfl w5.heap.size rfl 48 (bV (fS sd k)).toArray (0, 0) _ hk7 Tryd.underlying48 rfl rfl ?_)
      refine (HDD.out w7 hE7).mono ?_
      rintro e w8 ⟨rfl, hx8⟩
      have HT8 := Lib.hid (hT7.ext hx8)
      have HE8 := Lib.hid (hE7.tr hx8)
      have ho8 := own_keep ho7 hx8
      have hs8 : w2.heap.size ≤ w8.heap.size := Nat.le_trans hs7' hx8.size
      have hs78 : w7.heap.size ≤ w8.heap.size := hx8.size
      clear hT7 hk7 hE7 ho7 hx8
      have ho9 := ho8.alloc (.cells #[cU64 (sd (k + 1))] 27)
      go_wp2_with (at_builtin; (refine wpList_append_own _ rfl _ _ 30 rfl w2.heap.size 27 i0 (.int .u64 0) 1 8 Tryd.underlying30 hi hz0 hz1 hz2 rfl (by decide) _ _ _ rfl ho9 ⟨w8.heap.size, 0, none⟩ 1 1 [cU64 (sd (k + 1))] rfl rfl (cell_one_new _ _ _) (fun x hx => by simp at hx; subst hx; rfl) (by unfold maxLen; omega) (by omega) (by simp; omega) ?_); intro v' w9 hown' hgrow _)
      have hB9 : Below w2.heap.size w8 w9 := Below.grown ((Below.refl _ w8).alloc hs8 _) hgrow (by simp; omega) (fun q hq => (ho8.lt q hq).1)
      have hE9 : Ext w w9 := HE8.out.trans (hB9.mono hww)
      have hT9 : Tr w9 tb mb (sT sd (k + 1)) := tr_below HT8.out hB9 hmb2 hHtb.out
      have HF := Lib.hid (show w9.ownsRow w2.heap.size 27 1 v' (k + 1 + 1) (cDs (uL sd (k + 1))) from by rw [HUS.out]; simpa [cDs] using hown')
      have HG := Lib.hid (show Tr w9 tb mb (sT sd (k + 1)) ∧ Ext w w9 ∧ w2.heap.size ≤ w9.heap.size from ⟨hT9, hE9, Nat.le_trans hs8 hB9.size⟩)
      clear hown' hgrow hB9 hE9 hT9 ho8 ho9
      go_wp2
      go_roundw
      case rel => exact ⟨k + 1, hlt, by go_num, rfl, by rw [show (10 : Int) * ((k + 1 : Nat) : Int) = 10 * (k : Int) + 10 by omega], by go_num, HF.out, HG.out.1, HG.out.2.1, HG.out.2.2⟩
      case measure => simp [intOf]; omega
    · have hks : s = k := by omega
      subst hks
      obtain ⟨gu, cu, rfl, hgub, hgus, hcell⟩ := own_cells1 hoo (by omega)
      have hgm : gu ≠ mb := by omega
      have HUC := Lib.hid (show ∀ j, j < s + 1 → wr.cell? ⟨gu, j, none⟩ = some (cU64 (sd j)) from fun j hj => hcell j (cU64 (sd j)) (by simp [cDs, uL, hj]))
      have HTS := Lib.hid htr
      have HES := Lib.hid hE
      have hwrs : w2.heap.size ≤ wr.heap.size := hsz2
      clear hoo hcell htr hE hsz2 hk hlt
      obtain ⟨wo, hwo⟩ : ∃ wo : World, wo = wr := ⟨_, rfl⟩
      subst hwo
      go_wp2
      go_loopw [17, 19, 21] (fun d lo i wr => ∃ k : Nat, k ≤ p ∧ i = .int .i64 k ∧ d = cU64 (od s k) ∧ lo = .int .i64 (10 * (s : Int) + 3 * (k : Int)) ∧ (∀ j, j < s + 1 → wr.cell? ⟨gu, j, none⟩ = some (cU64 (sd j))) ∧ Tr wr tb mb (oT sd od s k) ∧ Ext w wr ∧ w2.heap.size ≤ wr.heap.size ∧ gu < wr.heap.size) (fun _ _ i _ => p - (intOf i).toNat)
      case atStart => exact ⟨0, by omega, rfl, by rw [HO.out.o0 s hs7], by simp, HUC.out, HTS.out, HES.out, hwrs, hgus⟩
      case round =>
        obtain ⟨k, hk, rfl, rfl, rfl, hoo, htr, hE, hsz2, hgw⟩ := hrel
        by_cases hlt : k < p
        · skip
          have HADD := Lib.hid (fun W (hT : Tr W tb mb (oT sd od s k)) hW => add_ok (HO.out.do_ s hs7 k (by omega)) (HO.out.co s hs7 k (by omega)) (oO k (by omega)) (by rw [oT_len]; omega) W hT (HT.out W hW))
          have HDD := Lib.hid (fun W hW => dig_ok (HO.out.do_ s hs7 k (by omega)) (oO k (by omega)) W (HT.out W hW))
          have HTR4 := Lib.hid htr
          have HOO := Lib.hid hoo
          have HEE := Lib.hid hE
          have HSZ := Lib.hid hsz2
          clear htr hoo hE hsz2
          go_wp2_with fail
          refine (b17_calls ((s : Int) + 1 + 2 * k) (od s k) (10 * s + 3 * k) (10 * s + 3 * k + 3) _).mono ?_
          rintro e w5 ⟨rfl, hx5⟩
          have hx6 : Ext wr (w5.alloc (.cells (bV (fO od s k)).toArray 48)) := hx5.alloc _
          have hk6 := Blk.new w5 48 (bV (fO od s k))
          have hbig : mb < w5.heap.size := by have := HTR4.out.mlt; have := hx5.size; omega
          clear hx5
          go_wp2_with fail
          refine (HADD.out _ (HTR4.out.ext hx6) (HEE.out.tr hx6)).mono ?_
          rintro e w7 ⟨rfl, hT7, hg7⟩
          have hs7' : w2.heap.size ≤ w7.heap.size := Nat.le_trans (Nat.le_trans HSZ.out hx6.size) hg7.size
          have hsx : wr.heap.size ≤ w7.heap.size := Nat.le_trans hx6.size hg7.size
          have hk7 : Blk w7 w5.heap.size 48 (bV (fO od s k)) := hk6.grown hg7 (by simp; omega)
          have hE7 : Ext w w7 := Gr.below (HEE.out.tr hx6) hg7 hwmb (HEE.out.tr hx6).size
          have ho7 : ∀ j, j < s + 1 → w7.cell? ⟨gu, j, none⟩ = some (cU64 (sd j)) := fun j hj => Gr.cell hg7 (Nat.lt_of_lt_of_le hgw hx6.size) hgm (hx6.cell (HOO.out j hj))
          clear hk6 hx6 hg7
          go_wp2_with (refine wpList_load_row rfl _ _ rfl w5.heap.size rfl 48 (bV (fO od s k)).toArray (0, 0) _ hk7 Tryd.underlying48 rfl rfl ?_)
          refine (HDD.out w7 hE7).mono ?_
          rintro e w8 ⟨rfl, hx8⟩
          have HT8 := Lib.hid (hT7.ext hx8)
          have HE8 := Lib.hid (hE7.tr hx8)
          have HO8 := Lib.hid (show ∀ j, j < s + 1 → w8.cell? ⟨gu, j, none⟩ = some (cU64 (sd j)) from fun j hj => hx8.cell (ho7 j hj))
          have hs8 : w2.heap.size ≤ w8.heap.size := Nat.le_trans hs7' hx8.size
          have hs78 : w7.heap.size ≤ w8.heap.size := hx8.size
          clear hT7 hk7 hE7 ho7 hx8
          have HG := Lib.hid (show w2.heap.size ≤ w8.heap.size ∧ gu < w8.heap.size from ⟨hs8, Nat.lt_of_lt_of_le (Nat.lt_of_lt_of_le hgw (Nat.le_trans hsx hs78)) (Nat.le_refl _)⟩)
          clear hs7' hs8
          go_wp2
          go_roundw
          case rel => exact ⟨k + 1, hlt, by go_num, rfl, by rw [show (10 : Int) * (s : Int) + 3 * ((k + 1 : Nat) : Int) = 10 * (s : Int) + 3 * (k : Int) + 3 by omega], HO8.out, HT8.out, HE8.out, HG.out.1, HG.out.2⟩
          case measure => simp [intOf]; omega
        · have hkp : p = k := by omega
          subst hkp
          have HUC2 := Lib.hid hoo
          have HTS2 := Lib.hid htr
          have HES2 := Lib.hid hE
          have hwrs2 : w2.heap.size ≤ wr.heap.size := hsz2
          have hgus2 : gu < wr.heap.size := hgw
          clear hoo htr hE hsz2 hk hlt hgw
          obtain ⟨wp, hwp⟩ : ∃ wp : World, wp = wr := ⟨_, rfl⟩
          subst hwp
          go_wp2
          go_loopw [18, 20, 23] (fun d lo i wr => ∃ k : Nat, k ≤ q ∧ i = .int .i64 k ∧ d = cU64 (pd s k) ∧ lo = .int .i64 (10 * (s : Int) + 4 * (k : Int)) ∧ (∀ j, j < s + 1 → wr.cell? ⟨gu, j, none⟩ = some (cU64 (sd j))) ∧ Tr wr tb mb (pT sd od pd s p k) ∧ Ext w wr ∧ w2.heap.size ≤ wr.heap.size ∧ gu < wr.heap.size) (fun _ _ i _ => q - (intOf i).toNat)
          case atStart => exact ⟨0, by omega, rfl, by rw [HO.out.p0 s hs7], by simp, HUC2.out, HTS2.out, HES2.out, hwrs2, hgus2⟩
          case round =>
            obtain ⟨k, hk, rfl, rfl, rfl, hoo, htr, hE, hsz2, hgw⟩ := hrel
            by_cases hlt : k < q
            · skip
              have HADD := Lib.hid (fun W (hT : Tr W tb mb (pT sd od pd s p k)) hW => add_ok (HO.out.dp s hs7 k (by omega)) (by subst hpP; exact HO.out.cp s hs7 P hP6 k (by omega)) (oP k (by omega)) (by rw [pT_len]; omega) W hT (HT.out W hW))
              have HDD := Lib.hid (fun W hW => dig_ok (HO.out.dp s hs7 k (by omega)) (oP k (by omega)) W (HT.out W hW))
              have HTR4 := Lib.hid htr
              have HOO := Lib.hid hoo
              have HEE := Lib.hid hE
              have HSZ := Lib.hid hsz2
              clear htr hoo hE hsz2
              go_wp2_with fail
              refine (b17_calls ((s : Int) + 2 + 2 * k) (pd s k) (10 * s + 4 * k) (10 * s + 4 * k + 4) _).mono ?_
              rintro e w5 ⟨rfl, hx5⟩
              have hx6 : Ext wr (w5.alloc (.cells (bV (fP pd s k)).toArray 48)) := hx5.alloc _
              have hk6 := Blk.new w5 48 (bV (fP pd s k))
              have hbig : mb < w5.heap.size := by have := HTR4.out.mlt; have := hx5.size; omega
              clear hx5
              go_wp2_with fail
              refine (HADD.out _ (HTR4.out.ext hx6) (HEE.out.tr hx6)).mono ?_
              rintro e w7 ⟨rfl, hT7, hg7⟩
              have hs7' : w2.heap.size ≤ w7.heap.size := Nat.le_trans (Nat.le_trans HSZ.out hx6.size) hg7.size
              have hsx : wr.heap.size ≤ w7.heap.size := Nat.le_trans hx6.size hg7.size
              have hk7 : Blk w7 w5.heap.size 48 (bV (fP pd s k)) := hk6.grown hg7 (by simp; omega)
              have hE7 : Ext w w7 := Gr.below (HEE.out.tr hx6) hg7 hwmb (HEE.out.tr hx6).size
              have ho7 : ∀ j, j < s + 1 → w7.cell? ⟨gu, j, none⟩ = some (cU64 (sd j)) := fun j hj => Gr.cell hg7 (Nat.lt_of_lt_of_le hgw hx6.size) hgm (hx6.cell (HOO.out j hj))
              clear hk6 hx6 hg7
              go_wp2_with (refine wpList_load_row rfl _ _ rfl w5.heap.size rfl 48 (bV (fP pd s k)).toArray (0, 0) _ hk7 Tryd.underlying48 rfl rfl ?_)
              refine (HDD.out w7 hE7).mono ?_
              rintro e w8 ⟨rfl, hx8⟩
              have HT8 := Lib.hid (hT7.ext hx8)
              have HE8 := Lib.hid (hE7.tr hx8)
              have HO8 := Lib.hid (show ∀ j, j < s + 1 → w8.cell? ⟨gu, j, none⟩ = some (cU64 (sd j)) from fun j hj => hx8.cell (ho7 j hj))
              have hs8 : w2.heap.size ≤ w8.heap.size := Nat.le_trans hs7' hx8.size
              have hs78 : w7.heap.size ≤ w8.heap.size := hx8.size
              clear hT7 hk7 hE7 ho7 hx8
              have HG := Lib.hid (show w2.heap.size ≤ w8.heap.size ∧ gu < w8.heap.size from ⟨hs8, Nat.lt_of_lt_of_le (Nat.lt_of_lt_of_le hgw (Nat.le_trans hsx hs78)) (Nat.le_refl _)⟩)
              clear hs7' hs8
              go_wp2
              go_roundw
              case rel => exact ⟨k + 1, hlt, by go_num, rfl, by rw [show (10 : Int) * (s : Int) + 4 * ((k + 1 : Nat) : Int) = 10 * (s : Int) + 4 * (k : Int) + 4 by omega], HO8.out, HT8.out, HE8.out, HG.out.1, HG.out.2⟩
              case measure => simp [intOf]; omega
            · have hkq : q = k := by omega
              subst hkq
              have HUC3 := Lib.hid hoo
              have HTS3 := Lib.hid htr
              have HES3 := Lib.hid hE
              have HXA := Lib.hid (fun W (hT : Tr W tb mb (pT sd od pd s p q)) (x : Nat) => extends_calls W hT 20 (od s p) _ HWO.out hlo (by decide) x)
              have HXB := Lib.hid (fun W (hT : Tr W tb mb (pT sd od pd s p q)) (x : Nat) => extends_calls W hT 20 (pd s q) _ HWP.out hlp (by decide) x)
              have HXN := Lib.hid (show ∀ W, Tr W tb mb (pT sd od pd s p q) → Calls Tryd.prog 22 #[.pointer (some ⟨tb, 0, none⟩), cU64 (od s p), cU64 (pd s q)] W fun e w' => e = .returned (.bool false) ∧ Ext W w' from fun W hT => by have h := HXA.out W hT (pd s q); rw [HNO.out] at h; exact h)
              have HXM := Lib.hid (show ∀ W, Tr W tb mb (pT sd od pd s p q) → Calls Tryd.prog 22 #[.pointer (some ⟨tb, 0, none⟩), cU64 (pd s q), cU64 (od s p)] W fun e w' => e = .returned (.bool false) ∧ Ext W w' from fun W hT => by have h := HXB.out W hT (od s p); rw [HNP.out] at h; exact h)
              have HLN := Lib.hid (show ∀ W, Tr W tb mb (pT sd od pd s p q) → Calls Tryd.prog 23 #[.pointer (some ⟨tb, 0, none⟩)] W fun e w' => e = .returned (.int .i64 (1 + (s : Int) + p + q)) ∧ W = w' from fun W hT => by have h := tlen_calls W hT; rw [pT_len, show ((s + 1 + p + q : Nat) : Int) = 1 + (s : Int) + p + q by omega] at h; exact h)
              have HPO := Lib.hid (show ∀ W, Tr W tb mb (pT sd od pd s p q) → Calls Tryd.prog 24 #[.pointer (some ⟨tb, 0, none⟩), cU64 (od s p)] W fun e w' => (∃ g c, ∃ n : Nat, e = .returned (.slice (some ⟨g, 0, none⟩) n c) ∧ (n : Int) = 1 + (s : Int) + p) ∧ Ext W w' from fun W hT => (path_calls W hT 20 (od s p) _ HWO.out hlo (by decide)).mono fun e w' ⟨⟨g, c, he, _⟩, hx⟩ => ⟨⟨g, c, _, he, by rw [oW_len]; omega⟩, hx⟩)
              have HPP := Lib.hid (show ∀ W, Tr W tb mb (pT sd od pd s p q) → Calls Tryd.prog 24 #[.pointer (some ⟨tb, 0, none⟩), cU64 (pd s q)] W fun e w' => (∃ g c, ∃ n : Nat, e = .returned (.slice (some ⟨g, 0, none⟩) n c) ∧ (n : Int) = 1 + (s : Int) + q) ∧ Ext W w' from fun W hT => (path_calls W hT 20 (pd s q) _ HWP.out hlp (by decide)).mono fun e w' ⟨⟨g, c, he, _⟩, hx⟩ => ⟨⟨g, c, _, he, by rw [oW_len]; omega⟩, hx⟩)
              have HCO := Lib.hid (show ∀ W, Tr W tb mb (pT sd od pd s p q) → Calls Tryd.prog 25 #[.pointer (some ⟨tb, 0, none⟩), cU64 (od s p)] W fun e w' => (∃ z, e = .returned (.tuple #[cU64 z, .bool (decide (P = 0) && decide (2 ≤ s))])) ∧ Ext W w' from fun W hT => by
                have h := commit_calls W hT 20 (od s p) _ HWO.out hlo (by decide) hv
                rw [HMO.out] at h
                exact h.mono fun e w' ⟨he, hx⟩ => ⟨⟨_, he⟩, hx⟩)
              have HCP := Lib.hid (show ∀ W, Tr W tb mb (pT sd od pd s p q) → Calls Tryd.prog 25 #[.pointer (some ⟨tb, 0, none⟩), cU64 (pd s q)] W fun e w' => (∃ z, e = .returned (.tuple #[cU64 z, .bool false])) ∧ Ext W w' from fun W hT => by
                have h := commit_calls W hT 20 (pd s q) _ HWP.out hlp (by decide) hv
                rw [HMP.out] at h
                exact h.mono fun e w' ⟨he, hx⟩ => ⟨⟨_, he⟩, hx⟩)
              have HXA2 := Lib.hid (show ∀ W, Tr W tb mb (pT sd od pd s p q) → ∀ k, k < s + 1 → Calls Tryd.prog 22 #[.pointer (some ⟨tb, 0, none⟩), cU64 (od s p), cU64 (sd k)] W fun e w' => e = .returned (.bool true) ∧ Ext W w' from fun W hT k hk => by have h := HXA.out W hT (sd k); rw [HIO.out k hk] at h; exact h)
              have HXB2 := Lib.hid (show ∀ W, Tr W tb mb (pT sd od pd s p q) → ∀ k, k < s + 1 → Calls Tryd.prog 22 #[.pointer (some ⟨tb, 0, none⟩), cU64 (pd s q), cU64 (sd k)] W fun e w' => e = .returned (.bool true) ∧ Ext W w' from fun W hT k hk => by have h := HXB.out W hT (sd k); rw [HIP.out k hk] at h; exact h)
              clear hoo htr hE hsz2 hk hlt hv hlo hlp HXA HXB
              go_wp2_with fail
              refine (HXN.out wr HTS3.out).mono ?_
              rintro e x1 ⟨rfl, hx1⟩
              have HT1 := Lib.hid (HTS3.out.ext hx1)
              have HE1 := Lib.hid hx1
              clear hx1
              go_wp2_with fail
              refine (HXM.out x1 HT1.out).mono ?_
              rintro e x2 ⟨rfl, hx2⟩
              have HT2 := Lib.hid (HT1.out.ext hx2)
              have HE2 := Lib.hid (HE1.out.tr hx2)
              clear hx2
              go_wp2_with fail
              refine (HLN.out x2 HT2.out).mono ?_
              rintro e x2' ⟨rfl, rfl⟩
              go_wp2_with fail
              refine (HPO.out x2 HT2.out).mono ?_
              rintro e x3 ⟨⟨g1, c1, n1, rfl, hn1⟩, hx3⟩
              have HT3 := Lib.hid (HT2.out.ext hx3)
              have HE3' := Lib.hid (HE2.out.tr hx3)
              clear hx3
              go_wp2_with fail
              refine (HPP.out x3 HT3.out).mono ?_
              rintro e x4 ⟨⟨g2, c2, n2, rfl, hn2⟩, hx4⟩
              have HT4 := Lib.hid (HT3.out.ext hx4)
              have HE4 := Lib.hid (HE3'.out.tr hx4)
              clear hx4
              have HU4 := Lib.hid (show ∀ j, j < s + 1 → x4.cell? ⟨gu, j, none⟩ = some (cU64 (sd j)) from fun j hj => HE4.out.cell (HUC3.out j hj))
              have HE5 := Lib.hid (HES3.out.tr HE4.out)
              go_wp2
              obtain ⟨wq, hwq⟩ : ∃ wq : World, wq = wr := ⟨_, rfl⟩
              subst hwq
              go_loopw [25] (fun i wr => ∃ k : Nat, k ≤ s + 1 ∧ i = .int .i64 k ∧ Ext x4 wr) (fun i _ => s + 1 - (intOf i).toNat)
              case atStart => exact ⟨0, by omega, rfl, Ext.rfl' _⟩
              case round =>
                obtain ⟨k, hk, rfl, hE6⟩ := hrel
                by_cases hlt : k < s + 1
                · have hcell := hE6.cell (HU4.out k hlt)
                  have HA := Lib.hid (HXA2.out wr (HT4.out.ext hE6) k hlt)
                  have HEX := Lib.hid hE6
                  have HTX := Lib.hid (HT4.out.ext hE6)
                  have hki : (k : Int) < (s : Int) + 1 := by omega
                  clear hE6
                  go_wp2_with fail
                  refine HA.out.mono ?_
                  rintro e y1 ⟨rfl, hy1⟩
                  have hcell2 := hy1.cell hcell
                  have HB := Lib.hid (HXB2.out y1 (HTX.out.ext hy1) k hlt)
                  have HEY := Lib.hid (HEX.out.tr hy1)
                  clear hy1 hcell
                  go_wp2_with fail
                  refine HB.out.mono ?_
                  rintro e y2 ⟨rfl, hy2⟩
                  have HEZ := Lib.hid (HEY.out.tr hy2)
                  clear hy2 hcell2
                  go_wp2
                  go_roundw
                  case rel => exact ⟨k + 1, hlt, by go_num, HEZ.out⟩
                  case measure => simp [intOf]; omega
                · have hks : s + 1 = k := by omega
                  have HEX := Lib.hid hE6
                  have HTX := Lib.hid (HT4.out.ext hE6)
                  subst hks
                  clear hE6 hk hlt
                  obtain ⟨X, hX, hcase⟩ : ∃ X : Bool, (decide (P = 0) && decide (2 ≤ s)) = X ∧ ((((p : Int) == 1) = false ∧ X = false) ∨ (((p : Int) == 1) = true ∧ decide ((2 : Int) ≤ (s : Int)) = false ∧ X = false) ∨ (((p : Int) == 1) = true ∧ decide ((2 : Int) ≤ (s : Int)) = true ∧ X = true)) := by
                    refine ⟨_, rfl, ?_⟩
                    by_cases e1 : P = 0
                    · have h1 : ((p : Int) == 1) = true := by simp; omega
                      by_cases e2 : 2 ≤ s
                      · exact .inr (.inr ⟨h1, decide_eq_true (by omega), by simp [e1, e2]⟩)
                      · exact .inr (.inl ⟨h1, decide_eq_false (by omega), by simp [e2]⟩)
                    · exact .inl ⟨by simp; omega, by simp [e1]⟩
                  rw [hX] at HCO
                  clear hX
                  rcases hcase with ⟨k1, rfl⟩ | ⟨k1, k2, rfl⟩ | ⟨k1, k2, rfl⟩
                  all_goals
                    go_wp2_with fail
                    refine (HCO.out wr HTX.out).mono ?_
                    rintro e y1 ⟨⟨z1, rfl⟩, hy1⟩
                    have HTY := Lib.hid (HTX.out.ext hy1)
                    have HEY := Lib.hid (HEX.out.tr hy1)
                    clear hy1
                    go_wp2_with fail
                    refine (HCP.out y1 HTY.out).mono ?_
                    rintro e y2 ⟨⟨z2, rfl⟩, hy2⟩
                    have HEZ := Lib.hid (HE5.out.tr (HEY.out.tr hy2))
                    clear hy2
                    go_wp2
                    go_ret
                    exact ⟨ret_bool (by first | rfl | (simp; done)), HEZ.out⟩
theorem treeForks_walk' {w : World} (st : Int) (ws : (Lit.int .u8 st).wf = true) (a : Int) (wa : (Lit.int .u8 a).wf = true) (b : Int) (wb : (Lit.int .u8 b).wf = true) (ht : TOk w) :
    Calls Tryd.prog 5 #[.int .u8 st, .int .u8 a, .int .u8 b] w fun e w' => e = .returned (.bool true) ∧ Ext w w' :=
  forks_walk st a b (bounds_u8 ws) (bounds_u8 wa) (bounds_u8 wb) w ht
end Go.Proofs.YtifanmggfoicfaaDoor
