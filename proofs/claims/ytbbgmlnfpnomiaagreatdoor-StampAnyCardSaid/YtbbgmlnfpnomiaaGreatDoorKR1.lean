/- The reference's one-time signatures: Digits, fold, Recover. -/
import Derived.Test.YtbbgmlnfpnomiaaGreatDoorKOtsM
import Derived.Test.YtbbgmlnfpnomiaaGreatDoorLR
import Derived.Deep.RegionHeld3
set_option linter.unusedVariables false
set_option linter.unusedSimpArgs false
namespace Go.Proofs.YtbbgmlnfpnomiaaGreatDoor
open Go.RowKit Go.Sort
/-- What has been turned till now. -/
def part (l l' : List Nat) (k : Nat) : List Nat := l'.take k ++ l.drop k
theorem part_len {l l' : List Nat} (h : l'.length = l.length) (k : Nat) (hk : k ≤ l.length) : (part l l' k).length = l.length := by
  simp [part, h]; omega
theorem part_zero (l l' : List Nat) : part l l' 0 = l := by simp [part]
theorem part_done {l l' : List Nat} {n : Nat} (h : l.length = n) (h' : l'.length = n) : part l l' n = l' := by
  rw [part, List.take_of_length_le (by omega), List.drop_of_length_le (by omega), List.append_nil]
theorem part_at {l l' : List Nat} (h : l'.length = l.length) {k : Nat} (hk : k < l.length) : (cDg (part l l' k))[k]? = some (cU64 (l.getD k 0)) := by
  rw [List.getElem?_map, part, List.getElem?_append_right (by rw [List.length_take]; omega), List.length_take, Nat.min_eq_left (by omega), Nat.sub_self, List.getElem?_drop]
  simp [List.getD, List.getElem?_eq_getElem hk]
theorem part_set {l l' : List Nat} (h : l'.length = l.length) {k : Nat} (hk : k < l.length) : (cDg (part l l' k)).set k (cU64 (l'.getD k 0)) = cDg (part l l' (k + 1)) := by
  rw [← List.map_set]
  congr 1
  rw [part, part, List.set_append_right _ _ (by rw [List.length_take]; omega), List.length_take, Nat.min_eq_left (by omega), Nat.sub_self, List.take_succ_eq_append_getElem (by omega), List.append_assoc, List.drop_eq_getElem_cons hk, List.set_cons_zero]
  simp [List.getD, List.getElem?_eq_getElem (show k < l'.length by omega)]
set_option maxRecDepth 100000 in
set_option maxHeartbeats 2000000 in
theorem rdigits_calls (d : Nat) (hd : d < 18446744073709551616) (w : World) :
    Calls Tryz.prog 203 #[cU64 d] w fun e w' => e = .returned (.agg (cIs (K.digs d)).toArray) ∧ Ext w w' := by
  have HD := Lib.hid (outI_digs d)
  go_enter Tryz.func203, Tryz.ntmps203
  go_upto_region 2 with (fail)
  have b0 := (Blk.new w 296 (outI (dgf d) 0)).ext ((Ext.rfl' _).alloc (.cells #[.int .i64 0, .int .i64 0, .int .i64 0, .int .i64 0, .int .i64 0, .int .i64 0, .int .i64 0, .int .i64 0, .int .i64 0, .int .i64 0, .int .i64 0, .int .i64 0, .int .i64 0, .int .i64 0, .int .i64 0, .int .i64 0, .int .i64 0, .int .i64 0] 296))
  have b1 := Blk.new (w.alloc (.cells #[.int .i64 0, .int .i64 0, .int .i64 0, .int .i64 0, .int .i64 0, .int .i64 0, .int .i64 0, .int .i64 0, .int .i64 0, .int .i64 0, .int .i64 0, .int .i64 0, .int .i64 0, .int .i64 0, .int .i64 0, .int .i64 0, .int .i64 0, .int .i64 0] 296)) 296 (outI (dgf d) 0)
  rw [World.size_alloc] at b1
  have hE := ((Ext.rfl' w).alloc (.cells #[.int .i64 0, .int .i64 0, .int .i64 0, .int .i64 0, .int .i64 0, .int .i64 0, .int .i64 0, .int .i64 0, .int .i64 0, .int .i64 0, .int .i64 0, .int .i64 0, .int .i64 0, .int .i64 0, .int .i64 0, .int .i64 0, .int .i64 0, .int .i64 0] 296)).alloc (.cells #[.int .i64 0, .int .i64 0, .int .i64 0, .int .i64 0, .int .i64 0, .int .i64 0, .int .i64 0, .int .i64 0, .int .i64 0, .int .i64 0, .int .i64 0, .int .i64 0, .int .i64 0, .int .i64 0, .int .i64 0, .int .i64 0, .int .i64 0, .int .i64 0] 296)
  change Blk ((w.alloc (.cells #[.int .i64 0, .int .i64 0, .int .i64 0, .int .i64 0, .int .i64 0, .int .i64 0, .int .i64 0, .int .i64 0, .int .i64 0, .int .i64 0, .int .i64 0, .int .i64 0, .int .i64 0, .int .i64 0, .int .i64 0, .int .i64 0, .int .i64 0, .int .i64 0] 296)).alloc (.cells #[.int .i64 0, .int .i64 0, .int .i64 0, .int .i64 0, .int .i64 0, .int .i64 0, .int .i64 0, .int .i64 0, .int .i64 0, .int .i64 0, .int .i64 0, .int .i64 0, .int .i64 0, .int .i64 0, .int .i64 0, .int .i64 0, .int .i64 0, .int .i64 0] 296)) w.heap.size 296 (outI (dgf d) 0) at b0
  change Blk ((w.alloc (.cells #[.int .i64 0, .int .i64 0, .int .i64 0, .int .i64 0, .int .i64 0, .int .i64 0, .int .i64 0, .int .i64 0, .int .i64 0, .int .i64 0, .int .i64 0, .int .i64 0, .int .i64 0, .int .i64 0, .int .i64 0, .int .i64 0, .int .i64 0, .int .i64 0] 296)).alloc (.cells #[.int .i64 0, .int .i64 0, .int .i64 0, .int .i64 0, .int .i64 0, .int .i64 0, .int .i64 0, .int .i64 0, .int .i64 0, .int .i64 0, .int .i64 0, .int .i64 0, .int .i64 0, .int .i64 0, .int .i64 0, .int .i64 0, .int .i64 0, .int .i64 0] 296)) (w.heap.size + 1) 296 (outI (dgf d) 0) at b1
  generalize (w.alloc (.cells #[.int .i64 0, .int .i64 0, .int .i64 0, .int .i64 0, .int .i64 0, .int .i64 0, .int .i64 0, .int .i64 0, .int .i64 0, .int .i64 0, .int .i64 0, .int .i64 0, .int .i64 0, .int .i64 0, .int .i64 0, .int .i64 0, .int .i64 0, .int .i64 0] 296)).alloc (.cells #[.int .i64 0, .int .i64 0, .int .i64 0, .int .i64 0, .int .i64 0, .int .i64 0, .int .i64 0, .int .i64 0, .int .i64 0, .int .i64 0, .int .i64 0, .int .i64 0, .int .i64 0, .int .i64 0, .int .i64 0, .int .i64 0, .int .i64 0, .int .i64 0] 296) = W0 at *
  have HI := Lib.hid (And.intro b0 (And.intro b1 hE))
  clear b0 b1 hE
  go_wp2
  go_loopw [4, 5] (fun s i wr => ∃ k : Nat, k ≤ 16 ∧ s = .int .i64 ((K.digS d k : Nat) : Int) ∧ i = .int .i64 (k : Int) ∧ Blk wr w.heap.size 296 (outI (dgf d) 0) ∧ Blk wr (w.heap.size + 1) 296 (outI (dgf d) k) ∧ Ext w wr) (fun _ i _ => 16 - (intOf i).toNat)
  case atStart => exact ⟨0, by omega, rfl, rfl, HI.out.1, HI.out.2.1, HI.out.2.2⟩
  case round =>
    obtain ⟨k, hk, rfl, rfl, h1, h2, hE⟩ := hrel
    by_cases hlt : k < 16
    · have hand : bits BinOp.and IntKind.u64 ((d : Int) / 2 ^ (60 - 4 * k)) 15 = ((dgf d k : Nat) : Int) := by
        rw [show 60 - 4 * k = 4 * (15 - k) by omega, pow16']
        have h := u64_and_nat (d / 16 ^ (15 - k)) 15 (Nat.lt_of_le_of_lt (Nat.div_le_self _ _) hd) (by decide)
        rw [show (d / 16 ^ (15 - k)) &&& 15 = (d / 16 ^ (15 - k)) % 16 from Nat.and_two_pow_sub_one_eq_mod _ 4] at h
        rw [dgf, if_pos hlt, K.dig16, ← h, Int.natCast_ediv]
        rfl
      have hr : dgf d k < 16 := by rw [dgf, if_pos hlt]; exact K.dig16_lt d k
      have hS := K.digS_le d k
      have HS := Lib.hid (show K.digS d (k + 1) = K.digS d k + (15 - dgf d k) by rw [K.digS, dgf, if_pos hlt])
      have hc := h2.cell (outI_at (dgf d) k k (by omega))
      have hfz := h2.frozen k
      have h3 := h2.set k (.int .i64 ((dgf d k : Nat) : Int))
      rw [outI_set (dgf d) k (by omega)] at h3
      have h4 := h1.other (x := ⟨w.heap.size + 1, k, none⟩) (by show w.heap.size ≠ w.heap.size + 1; omega) (.int .i64 ((dgf d k : Nat) : Int))
      have hE4 : Ext w (wr.setCell ⟨w.heap.size + 1, k, none⟩ (.int .i64 ((dgf d k : Nat) : Int))) := Below.setCell hE (by show w.heap.size ≤ w.heap.size + 1; omega) _
      have hc3 : (wr.setCell ⟨w.heap.size + 1, k, none⟩ (.int .i64 ((dgf d k : Nat) : Int))).cell? ⟨w.heap.size + 1, k, none⟩ = some (.int .i64 ((dgf d k : Nat) : Int)) := h3.cell (by rw [outI_at _ _ _ (by omega), if_pos (by omega)])
      have HF4 := Lib.hid (And.intro h4 (And.intro h3 hE4))
      clear h1 h2 h3 h4 hE4 hE
      generalize dgf d k = r at *
      generalize K.digS d k = F at *
      go_upto_region 7 with (fail)
      generalize wr.setCell ⟨w.heap.size + 1, k, none⟩ (.int .i64 (r : Int)) = W3 at *
      clear hc hfz
      go_wp2
      go_roundw
      case rel => exact ⟨k + 1, hlt, by rw [HS.out]; exact congrArg (Value.int .i64) (by omega), by go_num, HF4.out.1, HF4.out.2.1, HF4.out.2.2⟩
      case measure => simp [intOf]; omega
    · obtain rfl : k = 16 := by omega
      have hS := K.digS_le d 16
      have h16 : dgf d 16 = K.digS d 16 / 16 := rfl
      have h17 : dgf d 17 = K.digS d 16 % 16 := rfl
      have h3 := h2.set 16 (.int .i64 ((dgf d 16 : Nat) : Int))
      rw [outI_set (dgf d) 16 (by decide)] at h3
      have h4 := h3.set 17 (.int .i64 ((dgf d 17 : Nat) : Int))
      rw [outI_set (dgf d) 17 (by decide)] at h4
      have hc1 := h2.cell (outI_at (dgf d) 16 16 (by decide))
      have hc2 := h3.cell (outI_at (dgf d) 17 17 (by decide))
      have hf1 := h2.frozen 16
      have hf2 := h3.frozen 17
      rw [h16] at h3 h4 hc2 hf2
      rw [h17] at h4
      have h5 := h1.other (x := ⟨w.heap.size + 1, 16, none⟩) (by show w.heap.size ≠ w.heap.size + 1; omega) (.int .i64 ((K.digS d 16 / 16 : Nat) : Int))
      have h6 := h5.other (x := ⟨w.heap.size + 1, 17, none⟩) (by show w.heap.size ≠ w.heap.size + 1; omega) (.int .i64 ((K.digS d 16 % 16 : Nat) : Int))
      have hE5 : Ext w ((wr.setCell ⟨w.heap.size + 1, 16, none⟩ (.int .i64 ((K.digS d 16 / 16 : Nat) : Int))).setCell ⟨w.heap.size + 1, 17, none⟩ (.int .i64 ((K.digS d 16 % 16 : Nat) : Int))) := Below.setCell (Below.setCell hE (by show w.heap.size ≤ w.heap.size + 1; omega) _) (by show w.heap.size ≤ w.heap.size + 1; omega) _
      have HF4 := Lib.hid (And.intro h6 (And.intro h4 hE5))
      have hq1 : ((K.digS d 16 : Nat) : Int).tdiv 16 = ((K.digS d 16 / 16 : Nat) : Int) := by rw [Int.tdiv_eq_ediv_of_nonneg (by omega)]; omega
      have hq2 : ((K.digS d 16 : Nat) : Int).tmod 16 = ((K.digS d 16 % 16 : Nat) : Int) := by rw [Int.tmod_eq_emod_of_nonneg (by omega)]; omega
      clear h1 h2 h3 h4 h5 h6 hE5 hE h16 h17
      have hq3 : ((K.digS d 16 : Nat) : Int) / 16 = ((K.digS d 16 / 16 : Nat) : Int) := by omega
      have hq4 : ((K.digS d 16 : Nat) : Int) % 16 = ((K.digS d 16 % 16 : Nat) : Int) := by omega
      have hq5 : K.digS d 16 / 16 ≤ 15 := by omega
      have hq6 : K.digS d 16 % 16 ≤ 15 := by omega
      generalize K.digS d 16 = F at *
      generalize F / 16 = F1 at *
      generalize F % 16 = F2 at *
      rw [if_neg (by decide)] at hc1 hc2
      go_upto_region 10 with (fail)
      have h0 := HF4.out.1
      have h1 := HF4.out.2.1
      have hE := HF4.out.2.2
      clear HF4
      generalize (wr.setCell ⟨w.heap.size + 1, 16, none⟩ (.int .i64 (F1 : Int))).setCell ⟨w.heap.size + 1, 17, none⟩ (.int .i64 (F2 : Int)) = W9 at *
      have hs18 : (outI (dgf d) 18).toArray.size = 18 := by rw [List.size_toArray, outI_len]
      have hth := there18 h0 (outI_len _ _) hs18
      have hone : (outI (dgf d) 18).toArray.all (·.oneCell') = true := all_oneCell_toArray (by rw [HD.out]; exact cIs_one _)
      have hi18 : (Tryz.prog.info? 296).map (·.size) = some (outI (dgf d) 18).toArray.size := by rw [hs18]; rfl
      have hput : Blk (W9.setCells w.heap.size 0 (outI (dgf d) 18)) w.heap.size 296 (outI (dgf d) 18) ∧ Ext w (W9.setCells w.heap.size 0 (outI (dgf d) 18)) := ⟨h0.put (by rw [outI_len, outI_len]), Ext.setCells (Nat.le_refl _) _ _ _ hE⟩
      clear h0 hE hs18
      generalize outI (dgf d) 18 = O at *
      go_wp2_with (first
        | (refine wpList_store_mid rfl _ _ _ rfl w.heap.size 0 O.toArray rfl rfl hth hi18 hone ?_; rw [List.toList_toArray])
        | (refine wpList_load_row rfl _ _ rfl (w.heap.size + 1) rfl 296 O.toArray (0, 0) _ h1 Tryz.underlying296 rfl hi18 ?_))
      exact ret_cell18 rfl hput.1 Tryz.underlying296 rfl hi18 rfl ⟨by rw [HD.out], hput.2⟩
set_option maxRecDepth 100000 in
set_option maxHeartbeats 2000000 in
theorem rfold_calls (l : List Nat) (hl : ∀ x ∈ l, x < 18446744073709551616) (hn : l.length = 18) (w : World) :
    Calls Tryz.prog 196 #[.agg (cDg l).toArray] w fun e w' => e = .returned (cU64 (K.fold l)) ∧ Ext w w' := by
  have b0 := Blk.new w 42 (cDg l)
  have hE := (Ext.rfl' w).alloc (.cells (cDg l).toArray 42)
  go_enter Tryz.func196, Tryz.ntmps196
  go_upto_region 1 with (fail)
  generalize w.alloc (.cells (cDg l).toArray 42) = W0 at *
  have HB := Lib.hid b0
  have HE := Lib.hid hE
  clear b0 hE
  go_wp2
  go_loopw [3, 4] (fun x i wr => ∃ k : Nat, k ≤ 18 ∧ i = .int .i64 (k : Int) ∧ x = cU64 ((l.take k).foldl (S.twoN K.tPK) 0) ∧ wr = W0) (fun _ i _ => 18 - (intOf i).toNat)
  case atStart => exact ⟨0, by omega, rfl, rfl, rfl⟩
  case round =>
    obtain ⟨k, hk, rfl, rfl, rfl⟩ := hrel
    by_cases hlt : k < 18
    · have hc := HB.out.cell (j := k) (v := cU64 l[k]) (by rw [List.getElem?_map, List.getElem?_eq_getElem (by omega)]; rfl)
      have HS := Lib.hid (foldK_snoc l k (by omega))
      have hF := K.fold_lt' (l.take k) 0 (by decide)
      generalize (l.take k).foldl (S.twoN K.tPK) 0 = F at *
      have HC := Lib.hid (rtwo_calls tPK (by decide) F l[k] hF (hl l[k] (by simp)) wr)
      go_wp2_with fail
      refine HC.out.mono ?_
      rintro e _ ⟨rfl, rfl⟩
      clear hc
      go_wp2
      go_roundw
      case rel => exact ⟨k + 1, hlt, by go_num, by rw [HS.out]; rfl, by first | rfl | trivial⟩
      case measure => simp [intOf]; omega
    · obtain rfl : k = 18 := by omega
      have HF := Lib.hid (show (l.take 18).foldl (S.twoN K.tPK) 0 = K.fold l by rw [List.take_of_length_le (by omega)]; rfl)
      generalize (l.take 18).foldl (S.twoN K.tPK) 0 = F at *
      go_wp2
      go_ret
      exact ⟨by rw [← HF.out]; rfl, HE.out⟩
set_option maxRecDepth 100000 in
set_option maxHeartbeats 2000000 in
theorem rrecover_calls (l : List Nat) (hl : ∀ x ∈ l, x < 18446744073709551616) (hn : l.length = 18) (d : Nat) (hd : d < 18446744073709551616) (w : World) :
    Calls Tryz.prog 275 #[.agg (cDg l).toArray, cU64 d] w fun e w' => e = .returned (cU64 (K.rec l d)) ∧ Ext w w' := by
  obtain ⟨l', hl'⟩ : ∃ l', l' = List.zipWith (fun x n => K.chn x (15 - n)) l (K.digs d) := ⟨_, rfl⟩
  have hz : l'.length = l.length := by rw [hl', List.length_zipWith, K.digs_len]; omega
  have hz18 : l'.length = 18 := by omega
  have hat : ∀ k, k < 18 → l'.getD k 0 = K.chn (l.getD k 0) (15 - (K.digs d).getD k 0) := fun k hk => by
    rw [hl']
    simp [List.getD, List.getElem?_zipWith, List.getElem?_eq_getElem (show k < l.length by omega), List.getElem?_eq_getElem (show k < (K.digs d).length by rw [K.digs_len]; exact hk)]
  have hzl : ∀ x ∈ l', x < 18446744073709551616 := by
    intro x hx
    obtain ⟨i, hi⟩ := List.mem_iff_getElem?.1 hx
    have hi18 : i < 18 := by have := (List.getElem?_eq_some_iff.1 hi).1; omega
    have h := hat i hi18
    rw [List.getD_eq_getElem?_getD, hi] at h
    rw [show x = _ from h]
    exact K.chn_lt (getD_lt hl _) _
  have HFO := Lib.hid (rfold_calls l' hzl hz18)
  have hrec : K.fold l' = K.rec l d := by rw [hl']; rfl
  rw [hrec] at HFO
  clear hrec hl' hzl
  have b0 := Blk.new w 42 (cDg l)
  have hE := (Ext.rfl' w).alloc (.cells (cDg l).toArray 42)
  go_enter Tryz.func275, Tryz.ntmps275
  go_upto_region 1 with (fail)
  generalize w.alloc (.cells (cDg l).toArray 42) = W0 at *
  have HB := Lib.hid b0
  have HE := Lib.hid hE
  clear b0 hE
  go_wp2_with fail
  refine (rdigits_calls d hd W0).mono ?_
  rintro e w1 ⟨rfl, hx1⟩
  have hlt1 : w.heap.size < w1.heap.size := Nat.lt_of_lt_of_le HB.out.lt hx1.size
  have hd18 : (cIs (K.digs d)).length = 18 := by rw [List.length_map, K.digs_len]
  go_upto_region 2 with (refine wpList_store_new rfl _ _ _ rfl _ _ (cIs (K.digs d)) rfl rfl (by rw [hd18]; rfl) (by rw [hd18]; rfl) (cIs_one _) ?_; intro W2 hX2 hB2; replace HE := Lib.hid (HE.out.tr (hx1.tr hX2)); replace HB := Lib.hid (HB.out.ext (hx1.tr hX2)); have HD := Lib.hid hB2; clear hX2 hB2; generalize w1.heap.size = b2 at *)
  clear hx1 hd18
  go_wp2
  go_loopw [6] (fun i wr => ∃ k : Nat, k ≤ 18 ∧ i = .int .i64 (k : Int) ∧ Blk wr w.heap.size 42 (cDg (part l l' k)) ∧ Blk wr b2 296 (cIs (K.digs d)) ∧ Ext w wr) (fun i _ => 18 - (intOf i).toNat)
  case atStart => exact ⟨0, by omega, rfl, by rw [part_zero]; exact HB.out, HD.out, HE.out⟩
  case round =>
    obtain ⟨k, hk, rfl, hb, hd2, hE⟩ := hrel
    by_cases hlt : k < 18
    · have hc := (hb.drew).cell (part_at (l := l) (l' := l') hz (k := k) (by omega))
      have hdk := kdigs_at d k hlt
      have hfz := (hb.drew).frozen k
      have HPS := Lib.hid (part_set (l := l) (l' := l') hz (k := k) (by omega))
      rw [hat k hlt] at HPS
      have hx := getD_lt hl k
      generalize l.getD k 0 = x at *
      generalize (K.digs d).getD k 0 = n at *
      have e1 : (15 : Int) - (n : Int) = ((15 - n : Nat) : Int) := by omega
      have HC := Lib.hid (show ∀ W, Calls Tryz.prog 195 #[.string tOT, cU64 x, .int .i64 ((15 - n : Nat) : Int)] W fun e w' => e = .returned (cU64 (K.chn x (15 - n))) ∧ W = w' from fun W => rchain_mid tOT (by decide) x hx ((15 - n : Nat) : Int) (by omega) W)
      rw [← e1] at HC
      have hdc := hdk.1
      have hn16 := hdk.2
      have hwn : IntKind.i64.wrap (15 - (n : Int)) = 15 - (n : Int) := IntWalk.i64_in _ (by omega)
      have hS2 := (hd2.drew).cell hdc
      have HS2 := Lib.hid hS2
      replace HB := Lib.hid hb.drew
      have HD2 := Lib.hid hd2.drew
      replace HE := Lib.hid hE.drew
      clear hb hd2 hE e1 hdk
      generalize K.chn x (15 - n) = y at *
      go_upto_region 5 with (fail)
      refine wp_region_held_drew (S := fun w' => w'.cell? ⟨b2, k, none⟩ = some (.int .i64 (n : Int))) (by kernel_rfl) (by (try dsimp only); exact HS2.out) (fun hHeld => ?_)
      refine wpAnyH_take (i := 0) (v := ?_) (by first | (simp only [List.getElem?_toArray, List.getElem?_cons_zero, List.getElem?_cons_succ]; done) | (simp only [List.getElem?_toArray, List.getElem?_cons_zero, List.getElem?_cons_succ]; rfl)) (by kernel_rfl) (by kernel_rfl) (by kernel_rfl) (by exact fun _ _ _ h => h) (Or.inl ⟨by rfl, ?hy0⟩) (by assumption) ?_
      case hy0 => (intro w hSw; (try dsimp only at hSw); go_simp; try with_reducible rfl)
      try simp only [Act.put, List.setIfInBounds_toArray, List.set_cons_zero, List.set_cons_succ]
      refine wpAnyH_take (i := 1) (v := ?_) (by first | (simp only [List.getElem?_toArray, List.getElem?_cons_zero, List.getElem?_cons_succ]; done) | (simp only [List.getElem?_toArray, List.getElem?_cons_zero, List.getElem?_cons_succ]; rfl)) (by kernel_rfl) (by kernel_rfl) (by kernel_rfl) (by exact fun _ _ _ h => h) (Or.inl ⟨by rfl, ?hy1⟩) (by assumption) ?_
      case hy1 => (intro w hSw; (try dsimp only at hSw); go_simp; try with_reducible rfl)
      try simp only [Act.put, List.setIfInBounds_toArray, List.set_cons_zero, List.set_cons_succ]
      refine wpAnyH_take (i := 2) (v := ?_) (by first | (simp only [List.getElem?_toArray, List.getElem?_cons_zero, List.getElem?_cons_succ]; done) | (simp only [List.getElem?_toArray, List.getElem?_cons_zero, List.getElem?_cons_succ]; rfl)) (by kernel_rfl) (by kernel_rfl) (by kernel_rfl) (by exact fun _ _ _ h => h) (Or.inl ⟨by rfl, ?hy2⟩) (by assumption) ?_
      case hy2 => (intro w hSw; (try dsimp only at hSw); go_simp; try with_reducible rfl)
      try simp only [Act.put, List.setIfInBounds_toArray, List.set_cons_zero, List.set_cons_succ]
      refine wpAnyH_take (i := 4) (v := ?_) (by first | (simp only [List.getElem?_toArray, List.getElem?_cons_zero, List.getElem?_cons_succ]; done) | (simp only [List.getElem?_toArray, List.getElem?_cons_zero, List.getElem?_cons_succ]; rfl)) (by kernel_rfl) (by kernel_rfl) (by kernel_rfl) (by exact fun _ _ _ h => h) (Or.inl ⟨by rfl, ?hy4⟩) (by assumption) ?_
      case hy4 => (intro w hSw; (try dsimp only at hSw); go_simp; try with_reducible rfl)
      try simp only [Act.put, List.setIfInBounds_toArray, List.set_cons_zero, List.set_cons_succ]
      refine wpAnyH_take (i := 5) (v := ?_) (by first | (simp only [List.getElem?_toArray, List.getElem?_cons_zero, List.getElem?_cons_succ]; done) | (simp only [List.getElem?_toArray, List.getElem?_cons_zero, List.getElem?_cons_succ]; rfl)) (by kernel_rfl) (by kernel_rfl) (by kernel_rfl) (by exact fun _ _ _ h => h) (Or.inl ⟨by rfl, ?hy5⟩) (by assumption) ?_
      case hy5 => (intro w hSw; (try dsimp only at hSw); go_simp; try with_reducible rfl)
      try simp only [Act.put, List.setIfInBounds_toArray, List.set_cons_zero, List.set_cons_succ]
      refine wpAnyH_take (i := 6) (v := ?_) (by first | (simp only [List.getElem?_toArray, List.getElem?_cons_zero, List.getElem?_cons_succ]; done) | (simp only [List.getElem?_toArray, List.getElem?_cons_zero, List.getElem?_cons_succ]; rfl)) (by kernel_rfl) (by kernel_rfl) (by kernel_rfl) (by exact fun _ _ _ h => h) (Or.inl ⟨by rfl, ?hy6⟩) (by assumption) ?_
      case hy6 => (intro w hSw; (try dsimp only at hSw); go_simp; try with_reducible rfl)
      try simp only [Act.put, List.setIfInBounds_toArray, List.set_cons_zero, List.set_cons_succ]
      refine wpAnyH_take (i := 7) (v := ?_) (by first | (simp only [List.getElem?_toArray, List.getElem?_cons_zero, List.getElem?_cons_succ]; done) | (simp only [List.getElem?_toArray, List.getElem?_cons_zero, List.getElem?_cons_succ]; rfl)) (by kernel_rfl) (by kernel_rfl) (by kernel_rfl) (by exact fun _ _ _ h => h) (Or.inl ⟨by rfl, ?hy7⟩) (by assumption) ?_
      case hy7 => (intro w hSw; (try dsimp only at hSw); go_simp; try with_reducible rfl)
      try simp only [Act.put, List.setIfInBounds_toArray, List.set_cons_zero, List.set_cons_succ]
      refine wpAnyH_ready (rs := [3]) (by kernel_rfl) (by simp) ?_
      refine AllReadyH.cons (by first | (simp only [List.getElem?_toArray, List.getElem?_cons_zero, List.getElem?_cons_succ]; done) | (simp only [List.getElem?_toArray, List.getElem?_cons_zero, List.getElem?_cons_succ]; rfl)) (fun K hK => ?_) AllReadyH.nil
      go_simp
      skip
      try (go_wp2_with fail)
      refine hK.out _ _ (by (try dsimp only); exact HS2.out) (fun hHeld => ?_)
      clear hK K
      try simp only [Act.put, List.setIfInBounds_toArray, List.set_cons_zero, List.set_cons_succ]
      refine wpAnyH_ready (rs := [8]) (by kernel_rfl) (by simp) ?_
      refine AllReadyH.cons (by first | (simp only [List.getElem?_toArray, List.getElem?_cons_zero, List.getElem?_cons_succ]; done) | (simp only [List.getElem?_toArray, List.getElem?_cons_zero, List.getElem?_cons_succ]; rfl)) (fun K hK => ?_) AllReadyH.nil
      go_simp
      refine (HC.out _).mono ?_; rintro e _ ⟨rfl, rfl⟩
      try (go_wp2_with fail)
      refine hK.out _ _ (by (try dsimp only); exact HS2.out) (fun hHeld => ?_)
      clear hK K
      try simp only [Act.put, List.setIfInBounds_toArray, List.set_cons_zero, List.set_cons_succ]
      refine wpAnyH_take (i := 9) (v := ?_) (by first | (simp only [List.getElem?_toArray, List.getElem?_cons_zero, List.getElem?_cons_succ]; done) | (simp only [List.getElem?_toArray, List.getElem?_cons_zero, List.getElem?_cons_succ]; rfl)) (by kernel_rfl) (by kernel_rfl) (by kernel_rfl) (by exact fun _ _ _ h => h) (Or.inl ⟨by rfl, ?hy9⟩) (by assumption) ?_
      case hy9 => (intro w hSw; (try dsimp only at hSw); go_simp; try with_reducible rfl)
      try simp only [Act.put, List.setIfInBounds_toArray, List.set_cons_zero, List.set_cons_succ]
      refine wpAnyH_ready (rs := [10]) (by kernel_rfl) (by simp) ?_
      refine AllReadyH.cons (by first | (simp only [List.getElem?_toArray, List.getElem?_cons_zero, List.getElem?_cons_succ]; done) | (simp only [List.getElem?_toArray, List.getElem?_cons_zero, List.getElem?_cons_succ]; rfl)) (fun K hK => ?_) AllReadyH.nil
      go_simp
      have h4 := HB.out.set k (cU64 y); rw [HPS.out] at h4; have h5 := HD2.out.other (x := ⟨w.heap.size, k, none⟩) (by show b2 ≠ w.heap.size; omega) (cU64 y); have hE4 := Below.setCell HE.out (p := ⟨w.heap.size, k, none⟩) (Nat.le_refl _) (cU64 y); clear hc hfz; replace HB := Lib.hid h4; replace HS2 := Lib.hid (h5.cell hdc); replace HD2 := Lib.hid h5; replace HE := Lib.hid (show Ext w _ from hE4); clear h4 h5 hE4
      try (go_wp2_with fail)
      refine hK.out _ _ (by (try dsimp only); exact HS2.out) (fun hHeld => ?_)
      clear hK K
      try simp only [Act.put, List.setIfInBounds_toArray, List.set_cons_zero, List.set_cons_succ]
      refine wpAnyH_done (by kernel_rfl) ?_ _
      clear hHeld HC
      go_wp2
      go_roundw
      case rel => exact ⟨k + 1, hlt, by go_num, HB.out, HD2.out, HE.out⟩
      case measure => simp [intOf]; omega
    · obtain rfl : k = 18 := by omega
      rw [part_done hn hz18] at hb
      have hlen : (cDg l').toArray.size = 18 := by rw [List.size_toArray, List.length_map, hz18]
      have hi18 : (Tryz.prog.info? 42).map (·.size) = some (cDg l').toArray.size := by rw [hlen]; rfl
      have HE9 := Lib.hid hE
      clear HB HD HE hd2 hE hat hz hz18
      generalize cDg l' = O at *
      go_wp2_with (refine wpList_load_row rfl _ _ rfl w.heap.size rfl 42 O.toArray (0, 0) _ hb Tryz.underlying42 rfl hi18 ?_)
      refine (HFO.out _).mono ?_
      rintro e w5 ⟨rfl, hx⟩
      have HX := Lib.hid (HE9.out.tr hx)
      clear hx hb
      go_wp2
      go_ret
      exact ⟨rfl, HX.out⟩
end Go.Proofs.YtbbgmlnfpnomiaaGreatDoor
