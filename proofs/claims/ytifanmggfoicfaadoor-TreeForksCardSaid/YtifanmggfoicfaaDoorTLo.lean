/- The walk of the law TreeOrder. -/
import Derived.Test.YtifanmggfoicfaaDoorTOrd
import Derived.Test.YtifanmggfoicfaaDoorTKw
import Derived.Test.YtifanmggfoicfaaDoorTW3
import Derived.OpenShut
import Derived.Deep.MidRow
import Derived.Deep.OwnRows
set_option linter.unusedVariables false
set_option linter.unusedSimpArgs false
namespace Go.Proofs.YtifanmggfoicfaaDoor
open Go.RowKit Go.Sort Go.Maps
theorem bBlk : (Tryd.prog.info? 48).map (fun i => (i.zero, i.size, i.bytes)) = some (some (bA T.gen), 8, 96) := by kernel_rfl
/-- Blocks' cells, one behind the other. -/
def bCs (l : List T.B) : List Value := l.flatMap bV
theorem bCs_snoc (l : List T.B) (b : T.B) : bCs (l ++ [b]) = bCs l ++ bV b := by simp [bCs]
theorem bCs_len (l : List T.B) : (bCs l).length = 8 * l.length := by
  induction l with
  | nil => rfl
  | cons b l ih =>
    have e : bCs (b :: l) = bV b ++ bCs l := by simp [bCs]
    have e8 : (bV b).length = 8 := rfl
    have e9 : (b :: l).length = l.length + 1 := rfl
    rw [e, List.length_append, ih, e8, e9]
    omega
theorem bCs_at : ∀ (l : List T.B) (j : Nat) (b : T.B), l[j]? = some b → ∀ c v, (bV b)[c]? = some v → (bCs l)[8 * j + c]? = some v
  | [], j, b, h, _, _, _ => by simp at h
  | x :: l, 0, b, h, c, v, hc => by
    have e : x = b := by simpa using h
    subst e
    have hl : c < (bV x).length := (List.getElem?_eq_some_iff.1 hc).1
    rw [bCs, List.flatMap_cons, List.getElem?_append_left (by omega), Nat.mul_zero, Nat.zero_add]
    exact hc
  | x :: l, j + 1, b, h, c, v, hc => by
    have hx : (bV x).length = 8 := rfl
    rw [bCs, List.flatMap_cons, List.getElem?_append_right (by omega), ← bCs, hx, show 8 * (j + 1) + c - 8 = 8 * j + c by omega]
    exact bCs_at l j b (by simpa using h) c v hc
theorem Blk.grown {W W' : World} {B : Nat} {T : TypeId} {L : List Value} {row : Option Nat} (h : Blk W B T L) (g : W.grownBy W' row) (hne : some B ≠ row) : Blk W' B T L := (g.block B h.lt hne).trans h
theorem new_cells2 (W : World) (o : Obj) (L : List Value) (t : TypeId) : ∀ j u, L[j]? = some u → ((W.alloc o).alloc (.cells L.toArray t)).cell? ((⟨W.heap.size + 1, 0, none⟩ : Addr).add j) = some u := by
  intro j u h
  have h1 := (Blk.new (W.alloc o) t L).cell h
  rw [World.size_alloc] at h1
  rw [show (⟨W.heap.size + 1, 0, none⟩ : Addr).add j = ⟨W.heap.size + 1, j, none⟩ from by unfold Addr.add; split <;> simp [*]]
  exact h1
theorem own_keep {w w' : World} {B : Nat} {e : TypeId} {size : Nat} {v : Value} {n : Nat} {xs : List Value} (h : w.ownsRow B e size v n xs) (k : Ext w w') : w'.ownsRow B e size v n xs := by
  refine ⟨h.1, ?_⟩
  rcases h.2 with h0 | ⟨g, cap, cur, h1, h2, h3, h4⟩
  · exact .inl h0
  · exact .inr ⟨g, cap, cur, h1, h2, (k.block g (Array.getElem?_eq_some_iff.1 h3).1).trans h3, h4⟩
/-- The first blocks of the chain. -/
def cL (cd : Nat → Nat) (k : Nat) : List T.B := (List.range k).map (cB cd)
theorem cL_succ (cd : Nat → Nat) (k : Nat) : cL cd (k + 1) = cL cd k ++ [cB cd k] := by simp [cL, List.range_succ]
theorem cB_ok {cd : Nat → Nat} (h : Ord17 cd) (i : Nat) (hi : i < 8) : OkB (cB cd i) := okB_mk _ _ _ _ (by omega) (h.lt i (by omega)) (by omega) (by omega)
theorem own_cells8 {w : World} {B : Nat} {e : TypeId} {v : Value} {n : Nat} {xs : List Value} (h : w.ownsRow B e 8 v n xs) (hn : n ≠ 0) : ∃ g c, v = .slice (some ⟨g, 0, none⟩) n c ∧ B ≤ g ∧ g < w.heap.size ∧ ∀ j u, xs[j]? = some u → w.cell? ⟨g, j, none⟩ = some u := by
  rcases h.2 with ⟨_, h0⟩ | ⟨g, cap, cur, rfl, hbg, hg, hnc, hcm, hcs, htake⟩
  · exact absurd h0 hn
  · have hblk : Blk w g e cur.toList := by unfold Blk; rw [Array.toArray_toList]; exact hg
    refine ⟨g, cap, rfl, hbg, hblk.lt, fun j u hj => hblk.cell ?_⟩
    rw [← htake, List.getElem?_take] at hj
    split at hj
    · exact hj
    · cases hj
theorem made_one (z : Value) (n : Nat) : madeCells #[z] n = Array.replicate n z := by
  apply Array.ext
  · simp [madeCells]
  · intro i h1 h2
    simp [madeCells, Nat.mod_one]
theorem Tr.setCell {W : World} {tb mb : Nat} {L : List (Nat × T.B)} (h : Tr W tb mb L) {b : Nat} (h1 : b ≠ tb) (h2 : b ≠ mb) (j : Nat) (v : Value) : Tr (W.setCell ⟨b, j, none⟩ v) tb mb L :=
  ⟨(World.cell?_setCell_other _ _ _ _ (by intro e; exact h1 (congrArg Addr.block e))).trans h.cell, h.map.kept (row := some b) (gr_setCell ⟨rfl, rfl, rfl, Nat.le_refl _, fun _ _ _ => rfl⟩ _ _) (by simp; exact fun e => h2 e.symm), by simpa [World.setCell] using h.lt, h.ne⟩
/-- Which of the blocks are there. -/
def hadL (K m : Nat) : List Value := List.replicate m (.bool true) ++ List.replicate (K - m) (.bool false)
theorem hadL_at {K m j : Nat} (hm : m ≤ K) (hj : j < K) : (hadL K m)[j]? = some (.bool (decide (j < m))) := by
  unfold hadL
  by_cases h : j < m
  · rw [List.getElem?_append_left (by simpa using h), List.getElem?_replicate, if_pos h, decide_eq_true h]
  · rw [List.getElem?_append_right (by simp; omega), List.getElem?_replicate, List.length_replicate, if_pos (by omega), decide_eq_false h]
theorem hadL_set {K m : Nat} (hm : m < K) : (hadL K m).set m (.bool true) = hadL K (m + 1) := by
  unfold hadL
  rw [List.set_append_right _ _ (by simp), List.length_replicate, Nat.sub_self, show K - m = (K - (m + 1)) + 1 by omega, List.replicate_succ, List.set_cons_zero, List.replicate_succ' (n := m)]
  simp
set_option maxRecDepth 100000 in
set_option maxHeartbeats 4000000 in
theorem order_walk (n : Int) (hn0 : 0 ≤ n) (hn1 : n ≤ 255) (ts : List Int) (hts : ∀ x ∈ ts, 0 ≤ x ∧ x ≤ 255) (A : Option Addr) (c : Nat) (w : World) (hA : Rd w A (ts.map (Value.int .u8))) (hl : ts.length ≤ maxLen) (ht : TOk w) :
    Calls Tryd.prog 6 #[.int .u8 n, .slice A ts.length c] w fun e w' => e = .returned (.bool true) ∧ Ext w w' := by
  unfold maxLen at hl
  obtain ⟨i0, hi, hz0, hz1, hz2⟩ := info_parts bBlk
  obtain ⟨cd, hO⟩ := ord17
  have HT := Lib.hid (show ∀ W, Ext w W → TOk W from fun W hx => ht.ext hx)
  have HK := Lib.hid (known17_calls w ht)
  have HA := Lib.hid hA
  clear hA ht
  by_cases hbig : 60 < ts.length
  · go_enter Tryd.func6, Tryd.ntmps6
    go_wp2_with fail
    refine HK.out.mono ?_
    rintro e w1 ⟨rfl, hx⟩
    have HX := Lib.hid hx
    clear hx
    go_wp2
    go_ret
    exact ⟨rfl, HX.out⟩
  obtain ⟨K, hK1, hK8, hKn⟩ : ∃ K : Nat, 1 ≤ K ∧ K ≤ 8 ∧ 1 + n % 8 = (K : Int) := ⟨(1 + n % 8).toNat, by omega, by omega, by omega⟩
  have hsmall : ts.length ≤ 60 := by omega
  go_enter Tryd.func6, Tryd.ntmps6
  go_wp2_with fail
  refine HK.out.mono ?_
  rintro e w1 ⟨rfl, hx⟩
  have HX1 := Lib.hid hx
  clear hx HK
  go_wp2_with fail
  refine (tnew_calls w1).mono ?_
  rintro e w2 ⟨⟨tb, mb, rfl, hT, htb, hmb⟩, hx⟩
  have HX2 := Lib.hid (HX1.out.tr hx)
  have HTR := Lib.hid hT
  have HLB := Lib.hid (show w.heap.size ≤ tb ∧ w.heap.size ≤ mb from ⟨Nat.le_trans HX1.out.size htb, Nat.le_trans HX1.out.size hmb⟩)
  clear hx hT htb hmb
  go_wp2
  go_loopw [7, 8, 9] (fun v d i wr => ∃ k : Nat, k ≤ K ∧ i = .int .i64 k ∧ d = cU64 (cd k) ∧ wr.ownsRow w2.heap.size 48 8 v k (bCs (cL cd k)) ∧ Ext w2 wr) (fun _ _ i _ => K - (intOf i).toNat)
  case atStart => exact ⟨0, by omega, rfl, by rw [hO.z]; rfl, World.ownsRow_nil _ _ _ _, Ext.rfl' _⟩
  case round =>
    obtain ⟨k, hk, rfl, rfl, hoo, hB⟩ := hrel
    by_cases hlt : k < K
    · have hD := hO.d k (by omega)
      have HD := Lib.hid (fun (W : World) hW => blkdig_calls (cB cd k) (cB_ok hO k (by omega)) W hW)
      rw [hD] at HD
      have HOO := Lib.hid hoo
      have HBB := Lib.hid hB
      have HS := Lib.hid (cL_succ cd k)
      clear hoo hB hD
      go_wp2_with fail
      refine (b17_calls ((k : Int) + 1) (cd k) k ((k : Int) + 1) _).mono ?_
      rintro e w3 ⟨rfl, hx⟩
      have hB1 : Ext w2 w3 := HBB.out.tr hx
      have hoo1 : w3.ownsRow w2.heap.size 48 8 _ k (bCs (cL cd k)) := own_keep HOO.out hx
      have hsz1 := hB1.size
      have hoo2 := (hoo1.alloc (.cells (bV (cB cd k)).toArray 48)).alloc (.cells (bV (cB cd k)).toArray 48)
      clear hx
      go_wp2_with (first | (at_builtin; (refine wpList_append_own _ rfl _ _ 53 rfl w2.heap.size 48 i0 (bA T.gen) 8 96 Tryd.underlying53 hi hz0 hz1 hz2 rfl (by decide) _ _ _ rfl hoo2 ⟨w3.heap.size + 1, 0, none⟩ 1 1 (bV (cB cd k)) rfl rfl (new_cells2 _ _ _ _) (fun x hx => bV_one _ x hx) (by unfold maxLen; omega) (by omega) (by simp; omega) ?_); intro v' w4 hown' hgrow _; have hk4 : Blk w4 w3.heap.size 48 (bV (cB cd k)) := Blk.grown ((Blk.new w3 48 (bV (cB cd k))).ext ((Ext.rfl' _).alloc _)) hgrow (fun h => Nat.lt_irrefl _ (hoo1.lt _ h.symm).2)) | (refine wpList_load_row rfl _ _ rfl w3.heap.size rfl 48 (bV (cB cd k)).toArray (0, 0) _ hk4 Tryd.underlying48 rfl rfl ?_))
      have hB2 : Ext w2 w4 := Below.grown (Ext.alloc (Ext.alloc hB1 _) _) hgrow (by simp; omega) (fun q hq => (hoo1.lt q hq).1)
      refine (HD.out w4 (HT.out _ (HX2.out.tr hB2))).mono ?_
      rintro e w5 ⟨rfl, hx⟩
      have HO2 := Lib.hid (own_keep hown' hx)
      have HB2 := Lib.hid (hB2.tr hx)
      clear hown' hgrow hB1 hB2 hoo1 hoo2 hk4 hx
      go_wp2
      go_roundw
      case rel => exact ⟨k + 1, hlt, by go_num, rfl, by rw [HS.out, bCs_snoc]; exact HO2.out, HB2.out⟩
      case measure => simp [intOf]; omega
    · obtain rfl : k = K := by omega
      have HOO := Lib.hid hoo
      have HBB := Lib.hid hB
      clear hoo hB
      obtain ⟨g, cap, rfl, hgb, hgs, hcell⟩ := own_cells8 HOO.out (by omega)
      have hrange : ∀ j, j < k → wr.rangeAt g (j * 8) (bV (cB cd j)) := fun j hj c v hc => by rw [Nat.mul_comm j 8]; exact hcell (8 * j + c) v (bCs_at _ j (cB cd j) (by simp [cL, hj]) c v hc)
      have hmk := run_make_row' (P := Tryd.prog) 85 4 (.bool false) 1 Tryd.underlying85 (by kernel_rfl) rfl .i64 .i64 k (by omega) (by omega)
      have htr := HTR.out.ext HBB.out
      have hlb := HLB.out
      have htl := htr.lt
      have hml := htr.mlt
      have hEW : Ext w wr := HX2.out.tr HBB.out
      rw [made_one] at hmk
      clear HOO hcell
      have hE3 : Ext wr (wr.alloc (.cells (Array.replicate k (Value.bool false)) 4)) := (Ext.rfl' wr).alloc _
      have HI := Lib.hid (show Tr (wr.alloc (.cells (Array.replicate k (Value.bool false)) 4)) tb mb (cT cd 0) ∧ Blk (wr.alloc (.cells (Array.replicate k (Value.bool false)) 4)) wr.heap.size 4 (hadL k 0) ∧ (∀ j, j < k → (wr.alloc (.cells (Array.replicate k (Value.bool false)) 4)).rangeAt g (j * 8) (bV (cB cd j))) ∧ Ext w (wr.alloc (.cells (Array.replicate k (Value.bool false)) 4)) from
        ⟨htr.ext hE3, by have h := Blk.new wr 4 (List.replicate k (Value.bool false)); rw [List.toArray_replicate] at h; simpa [hadL] using h, fun j hj c v hc => hE3.cell (hrange j hj c v hc), hEW.tr hE3⟩)
      have hne1 : wr.heap.size ≠ tb := by omega
      have hne2 : wr.heap.size ≠ mb := by omega
      have hne3 : g ≠ wr.heap.size := by omega
      have hne4 : g ≠ mb := by have := HTR.out.mlt; omega
      have hwb : w.heap.size ≤ wr.heap.size := hEW.size
      have hmb0 : w.heap.size ≤ mb := HLB.out.2
      clear hrange htr hE3 hEW
      have HA5 := Lib.hid (show ∀ W m, Tr W tb mb (cT cd m) → Ext w W → m ≤ k → ∀ j, j < k → j < m → Calls Tryd.prog 20 #[.pointer (some ⟨tb, 0, none⟩), bA (cB cd j)] W fun e w' => e = .returned (.int .i64 5) ∧ Tr w' tb mb (cT cd m) ∧ Ext W w' from fun W m hT hE hm j hj hjm => by
        refine (add_calls W hT (cB cd j) (cB_ok hO j (by omega)) (HT.out _ hE) (by rw [cT_len]; omega)).mono ?_
        rintro e w' ⟨rfl, h2, h3, h4⟩
        have hc : T.code (cT cd m) (cd (j + 1)) (cB cd j) = 5 := by rw [hO.code m (by omega) j (by omega)]; rw [if_pos hjm]
        rw [hO.d j (by omega)] at h2 h4 ⊢
        rw [T.add, hc] at h2
        rw [hc] at h4 ⊢
        rw [if_neg (by decide)] at h2
        exact ⟨rfl, h2, h4 (by decide)⟩)
      have HA11 := Lib.hid (show ∀ W m, Tr W tb mb (cT cd m) → Ext w W → m ≤ k → ∀ j, j < k → m < j → Calls Tryd.prog 20 #[.pointer (some ⟨tb, 0, none⟩), bA (cB cd j)] W fun e w' => e = .returned (.int .i64 11) ∧ Tr w' tb mb (cT cd m) ∧ Ext W w' from fun W m hT hE hm j hj hjm => by
        refine (add_calls W hT (cB cd j) (cB_ok hO j (by omega)) (HT.out _ hE) (by rw [cT_len]; omega)).mono ?_
        rintro e w' ⟨rfl, h2, h3, h4⟩
        have hc : T.code (cT cd m) (cd (j + 1)) (cB cd j) = 11 := by rw [hO.code m (by omega) j (by omega)]; rw [if_neg (by omega), if_neg (by omega)]
        rw [hO.d j (by omega)] at h2 h4 ⊢
        rw [T.add, hc] at h2
        rw [hc] at h4 ⊢
        rw [if_neg (by decide)] at h2
        exact ⟨rfl, h2, h4 (by decide)⟩)
      have HA0 := Lib.hid (show ∀ W m, Tr W tb mb (cT cd m) → Ext w W → m ≤ k → ∀ j, j < k → j = m → Calls Tryd.prog 20 #[.pointer (some ⟨tb, 0, none⟩), bA (cB cd j)] W fun e w' => e = .returned (.int .i64 0) ∧ Tr w' tb mb (cT cd (m + 1)) ∧ Gr mb W w' from fun W m hT hE hm j hj hjm => by
        refine (add_calls W hT (cB cd j) (cB_ok hO j (by omega)) (HT.out _ hE) (by rw [cT_len]; omega)).mono ?_
        rintro e w' ⟨rfl, h2, h3, h4⟩
        have hc : T.code (cT cd m) (cd (j + 1)) (cB cd j) = 0 := by rw [hO.code m (by omega) j (by omega)]; rw [if_neg (by omega), if_pos hjm]
        rw [hO.d j (by omega)] at h2 h4 ⊢
        rw [T.add, hc] at h2
        rw [hc] at h4 ⊢
        rw [if_pos rfl] at h2
        subst hjm
        exact ⟨rfl, h2, h3⟩)
      go_wp2
      generalize wr.alloc (.cells (Array.replicate k (Value.bool false)) 4) = W3 at *
      generalize wr.heap.size = hb at *
      clear HBB
      obtain ⟨wo, hwo⟩ : ∃ wo : World, wo = wr := ⟨_, rfl⟩
      subst hwo
      go_loopw [12] (fun i wr => ∃ i' m : Nat, i' ≤ ts.length + k ∧ m ≤ k ∧ i' ≤ ts.length + m ∧ i = .int .i64 i' ∧ Tr wr tb mb (cT cd m) ∧ Blk wr hb 4 (hadL k m) ∧ (∀ j, j < k → wr.rangeAt g (j * 8) (bV (cB cd j))) ∧ Ext w wr) (fun i _ => ts.length + k - (intOf i).toNat)
      case atStart => exact ⟨0, 0, by omega, by omega, by omega, rfl, HI.out.1, HI.out.2.1, HI.out.2.2.1, HI.out.2.2.2⟩
      case round =>
        obtain ⟨i', m, hi', hm, him, rfl, htr, hbl, hrg, hE⟩ := hrel
        have hgw : g < wr.heap.size := Nat.lt_trans hgs hbl.lt
        by_cases hlt : i' < ts.length
        · obtain ⟨ad, hAd, _, hcx⟩ := (HA.out.ext hE).at_ (j := i') (u := .int .u8 ts[i']) (by simp [hlt])
          have hxb := hts ts[i'] (by simp)
          obtain ⟨J, hJ, hJk⟩ : ∃ J : Nat, (ts[i']).tmod (k : Int) = (J : Int) ∧ J < k := ⟨((ts[i']).tmod (k : Int)).toNat, by rw [Int.tmod_eq_emod_of_nonneg hxb.1]; have := Int.emod_nonneg ts[i'] (show (k : Int) ≠ 0 by omega); omega, by rw [Int.tmod_eq_emod_of_nonneg hxb.1]; have := Int.emod_lt_of_pos ts[i'] (show (0 : Int) < k by omega); have := Int.emod_nonneg ts[i'] (show (k : Int) ≠ 0 by omega); omega⟩
          have hii : (i' : Int) < (ts.length : Int) := by omega
          generalize ts[i'] = x at *
          subst hAd
          have hr := hrg J hJk
          have HADD := Lib.hid (And.intro (HA5.out wr m htr hE hm J hJk) (And.intro (HA0.out wr m htr hE hm J hJk) (HA11.out wr m htr hE hm J hJk)))
          have HI2 := Lib.hid (show Blk wr hb 4 (hadL k m) ∧ (∀ j, j < k → wr.rangeAt g (j * 8) (bV (cB cd j))) from ⟨hbl, hrg⟩)
          have HEE := Lib.hid hE
          clear htr hbl hrg hE
          rcases Nat.lt_trichotomy J m with hjm | hjm | hjm
          · go_wp2_with (refine wpList_load_mid rfl _ _ rfl g (J * 8) rfl (bV (cB cd J)) _ hr Tryd.underlying48 rfl rfl ?_)
            refine (HADD.out.1 hjm).mono ?_
            rintro e w7 ⟨rfl, hT7, hx7⟩
            have hb7 := HI2.out.1.ext hx7
            have hc7 := hb7.cell (hadL_at hm hJk)
            rw [decide_eq_true hjm] at hc7
            have HF := Lib.hid (show Tr w7 tb mb (cT cd m) ∧ Blk w7 hb 4 (hadL k m) ∧ (∀ j, j < k → w7.rangeAt g (j * 8) (bV (cB cd j))) ∧ Ext w w7 from ⟨hT7, hb7, fun j hj c v hc => hx7.cell (HI2.out.2 j hj c v hc), HEE.out.tr hx7⟩)
            clear hT7 hx7 hb7 HI2 hr
            go_wp2
            go_roundw
            case rel => exact ⟨i' + 1, m, by omega, hm, by omega, by go_num, HF.out.1, HF.out.2.1, HF.out.2.2.1, HF.out.2.2.2⟩
            case measure => simp [intOf]; omega
          · subst hjm
            go_wp2_with (refine wpList_load_mid rfl _ _ rfl g (J * 8) rfl (bV (cB cd J)) _ hr Tryd.underlying48 rfl rfl ?_)
            refine (HADD.out.2.1 (by first | trivial | rfl)).mono ?_
            rintro e w7 ⟨rfl, hT7, hg7⟩
            have hb7 : Blk w7 hb 4 (hadL k J) := HI2.out.1.grown hg7 (by simp; exact hne2)
            have hc7 := hb7.cell (hadL_at hm hJk)
            rw [decide_eq_false (Nat.lt_irrefl _)] at hc7
            have hf7 := hb7.frozen J
            have hr7 : ∀ j, j < k → w7.rangeAt g (j * 8) (bV (cB cd j)) := fun j hj c v hc => Gr.cell hg7 hgw hne4 (HI2.out.2 j hj c v hc)
            have hE7 : Ext w w7 := Gr.below HEE.out hg7 hmb0 HEE.out.size
            have hb8 := hb7.set J (.bool true)
            rw [hadL_set hJk] at hb8
            have hr8 : ∀ j, j < k → (w7.setCell ⟨hb, J, none⟩ (.bool true)).rangeAt g (j * 8) (bV (cB cd j)) := fun j hj c v hc => (World.cell?_setCell_other _ _ _ _ (by intro e; exact hne3 (congrArg Addr.block e).symm)).trans (hr7 j hj c v hc)
            have HF := Lib.hid (show Tr (w7.setCell ⟨hb, J, none⟩ (.bool true)) tb mb (cT cd (J + 1)) ∧ Blk (w7.setCell ⟨hb, J, none⟩ (.bool true)) hb 4 (hadL k (J + 1)) ∧ (∀ j, j < k → (w7.setCell ⟨hb, J, none⟩ (.bool true)).rangeAt g (j * 8) (bV (cB cd j))) ∧ Ext w (w7.setCell ⟨hb, J, none⟩ (.bool true)) from ⟨hT7.setCell hne1 hne2 _ _, hb8, hr8, Below.setCell hE7 hwb _⟩)
            by_cases hJ0 : J = 0
            · have hpos : decide ((0 : Int) < (J : Int)) = false := decide_eq_false (by omega)
              have hpos2 : ¬ (0 : Int) < (J : Int) := by omega
              have hpos3 : ¬ 0 < J := by omega
              clear hT7 hg7 hb7 HI2 hr hr7 hE7 hb8 hr8 hJ0
              go_wp2
              go_roundw
              case rel => exact ⟨i' + 1, J + 1, by omega, by omega, by omega, by go_num, HF.out.1, HF.out.2.1, HF.out.2.2.1, HF.out.2.2.2⟩
              case measure => simp [intOf]; omega
            · have hpos : decide ((0 : Int) < (J : Int)) = true := decide_eq_true (by omega)
              have hcp := hb7.cell (hadL_at hm (show J - 1 < k by omega))
              rw [decide_eq_true (show J - 1 < J by omega)] at hcp
              have hsub : (J : Int) - 1 = ((J - 1 : Nat) : Int) := by omega
              have hpk : J - 1 < k := by omega
              clear hT7 hg7 hb7 HI2 hr hr7 hE7 hb8 hr8
              go_wp2
              go_roundw
              case rel => exact ⟨i' + 1, J + 1, by omega, by omega, by omega, by go_num, HF.out.1, HF.out.2.1, HF.out.2.2.1, HF.out.2.2.2⟩
              case measure => simp [intOf]; omega
          · go_wp2_with (refine wpList_load_mid rfl _ _ rfl g (J * 8) rfl (bV (cB cd J)) _ hr Tryd.underlying48 rfl rfl ?_)
            refine (HADD.out.2.2 hjm).mono ?_
            rintro e w7 ⟨rfl, hT7, hx7⟩
            have hb7 := HI2.out.1.ext hx7
            have hc7 := hb7.cell (hadL_at hm hJk)
            rw [decide_eq_false (by omega)] at hc7
            have hcp := hb7.cell (hadL_at hm (show J - 1 < k by omega))
            rw [decide_eq_false (show ¬ J - 1 < m by omega)] at hcp
            have hpos : decide ((0 : Int) < (J : Int)) = true := decide_eq_true (by omega)
            have hsub : (J : Int) - 1 = ((J - 1 : Nat) : Int) := by omega
            have hpk : J - 1 < k := by omega
            have HF := Lib.hid (show Tr w7 tb mb (cT cd m) ∧ Blk w7 hb 4 (hadL k m) ∧ (∀ j, j < k → w7.rangeAt g (j * 8) (bV (cB cd j))) ∧ Ext w w7 from ⟨hT7, hb7, fun j hj c v hc => hx7.cell (HI2.out.2 j hj c v hc), HEE.out.tr hx7⟩)
            clear hT7 hx7 hb7 HI2 hr
            go_wp2
            go_roundw
            case rel => exact ⟨i' + 1, m, by omega, hm, by omega, by go_num, HF.out.1, HF.out.2.1, HF.out.2.2.1, HF.out.2.2.2⟩
            case measure => simp [intOf]; omega
        · by_cases hend : i' < ts.length + k
          · obtain ⟨J, hJ, hJk⟩ : ∃ J : Nat, (i' : Int) - (ts.length : Int) = (J : Int) ∧ J < k := ⟨i' - ts.length, by omega, by omega⟩
            have hii : ¬ (i' : Int) < (ts.length : Int) := by omega
            have hJm : J ≤ m := by omega
            have hr := hrg J hJk
            have HADD := Lib.hid (And.intro (HA5.out wr m htr hE hm J hJk) (And.intro (HA0.out wr m htr hE hm J hJk) (HA11.out wr m htr hE hm J hJk)))
            have HI2 := Lib.hid (show Blk wr hb 4 (hadL k m) ∧ (∀ j, j < k → wr.rangeAt g (j * 8) (bV (cB cd j))) from ⟨hbl, hrg⟩)
            have HEE := Lib.hid hE
            clear htr hbl hrg hE
            rcases Nat.lt_trichotomy J m with hjm | hjm | hjm
            · go_wp2_with (refine wpList_load_mid rfl _ _ rfl g (J * 8) rfl (bV (cB cd J)) _ hr Tryd.underlying48 rfl rfl ?_)
              refine (HADD.out.1 hjm).mono ?_
              rintro e w7 ⟨rfl, hT7, hx7⟩
              have hb7 := HI2.out.1.ext hx7
              have hc7 := hb7.cell (hadL_at hm hJk)
              rw [decide_eq_true hjm] at hc7
              have HF := Lib.hid (show Tr w7 tb mb (cT cd m) ∧ Blk w7 hb 4 (hadL k m) ∧ (∀ j, j < k → w7.rangeAt g (j * 8) (bV (cB cd j))) ∧ Ext w w7 from ⟨hT7, hb7, fun j hj c v hc => hx7.cell (HI2.out.2 j hj c v hc), HEE.out.tr hx7⟩)
              clear hT7 hx7 hb7 HI2 hr
              go_wp2
              go_roundw
              case rel => exact ⟨i' + 1, m, by omega, hm, by omega, by go_num, HF.out.1, HF.out.2.1, HF.out.2.2.1, HF.out.2.2.2⟩
              case measure => simp [intOf]; omega
            · subst hjm
              go_wp2_with (refine wpList_load_mid rfl _ _ rfl g (J * 8) rfl (bV (cB cd J)) _ hr Tryd.underlying48 rfl rfl ?_)
              refine (HADD.out.2.1 (by first | trivial | rfl)).mono ?_
              rintro e w7 ⟨rfl, hT7, hg7⟩
              have hb7 : Blk w7 hb 4 (hadL k J) := HI2.out.1.grown hg7 (by simp; exact hne2)
              have hc7 := hb7.cell (hadL_at hm hJk)
              rw [decide_eq_false (Nat.lt_irrefl _)] at hc7
              have hf7 := hb7.frozen J
              have hr7 : ∀ j, j < k → w7.rangeAt g (j * 8) (bV (cB cd j)) := fun j hj c v hc => Gr.cell hg7 hgw hne4 (HI2.out.2 j hj c v hc)
              have hE7 : Ext w w7 := Gr.below HEE.out hg7 hmb0 HEE.out.size
              have hb8 := hb7.set J (.bool true)
              rw [hadL_set hJk] at hb8
              have hr8 : ∀ j, j < k → (w7.setCell ⟨hb, J, none⟩ (.bool true)).rangeAt g (j * 8) (bV (cB cd j)) := fun j hj c v hc => (World.cell?_setCell_other _ _ _ _ (by intro e; exact hne3 (congrArg Addr.block e).symm)).trans (hr7 j hj c v hc)
              have HF := Lib.hid (show Tr (w7.setCell ⟨hb, J, none⟩ (.bool true)) tb mb (cT cd (J + 1)) ∧ Blk (w7.setCell ⟨hb, J, none⟩ (.bool true)) hb 4 (hadL k (J + 1)) ∧ (∀ j, j < k → (w7.setCell ⟨hb, J, none⟩ (.bool true)).rangeAt g (j * 8) (bV (cB cd j))) ∧ Ext w (w7.setCell ⟨hb, J, none⟩ (.bool true)) from ⟨hT7.setCell hne1 hne2 _ _, hb8, hr8, Below.setCell hE7 hwb _⟩)
              by_cases hJ0 : J = 0
              · have hpos : decide ((0 : Int) < (J : Int)) = false := decide_eq_false (by omega)
                have hpos2 : ¬ (0 : Int) < (J : Int) := by omega
                have hpos3 : ¬ 0 < J := by omega
                clear hT7 hg7 hb7 HI2 hr hr7 hE7 hb8 hr8 hJ0
                go_wp2
                go_roundw
                case rel => exact ⟨i' + 1, J + 1, by omega, by omega, by omega, by go_num, HF.out.1, HF.out.2.1, HF.out.2.2.1, HF.out.2.2.2⟩
                case measure => simp [intOf]; omega
              · have hpos : decide ((0 : Int) < (J : Int)) = true := decide_eq_true (by omega)
                have hcp := hb7.cell (hadL_at hm (show J - 1 < k by omega))
                rw [decide_eq_true (show J - 1 < J by omega)] at hcp
                have hsub : (J : Int) - 1 = ((J - 1 : Nat) : Int) := by omega
                have hpk : J - 1 < k := by omega
                clear hT7 hg7 hb7 HI2 hr hr7 hE7 hb8 hr8
                go_wp2
                go_roundw
                case rel => exact ⟨i' + 1, J + 1, by omega, by omega, by omega, by go_num, HF.out.1, HF.out.2.1, HF.out.2.2.1, HF.out.2.2.2⟩
                case measure => simp [intOf]; omega
            · exact absurd hjm (by omega)
          · obtain rfl : m = k := by omega
            obtain rfl : i' = ts.length + m := by omega
            have HLN := Lib.hid (tlen_calls wr htr)
            have HPA := Lib.hid (path_calls wr htr 9 (cd m) _ (hO.way m (by omega)) (cW_lt hO m (by omega)) (by decide))
            rw [cT_len] at HLN
            rw [cW_len] at HPA
            have HEE := Lib.hid hE
            clear htr hbl hrg hE
            go_wp2_with fail
            refine HLN.out.mono ?_
            rintro e w7 ⟨rfl, rfl⟩
            go_wp2_with fail
            refine HPA.out.mono ?_
            rintro e w8 ⟨⟨g8, c8, rfl, _⟩, hx8⟩
            have HX8 := Lib.hid (HEE.out.tr hx8)
            clear hx8
            go_wp2
            go_ret
            exact ⟨ret_bool (by first | rfl | (simp; done) | simp), HX8.out⟩
theorem treeOrder_walk' {w : World} (n : Int) (wn : (Lit.int .u8 n).wf = true) (A : Option Addr) (ts : List Int) (c : Nat) (hA : Rd w A (ts.map (Value.int .u8))) (wts : ∀ x ∈ ts, (Lit.int .u8 x).wf = true) (hl : ts.length ≤ maxLen) (ht : TOk w) :
    Calls Tryd.prog 6 #[.int .u8 n, .slice A ts.length c] w fun e w' => e = .returned (.bool true) ∧ Ext w w' := by
  have hn := bounds_u8 wn
  exact order_walk n hn.1 hn.2 ts (fun x hx => bounds_u8 (wts x hx)) A c w hA hl ht
end Go.Proofs.YtifanmggfoicfaaDoor
