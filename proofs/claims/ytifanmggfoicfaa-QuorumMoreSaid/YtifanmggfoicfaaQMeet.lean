/- The walk of the law QuorumMeet. -/
import Derived.Test.YtifanmggfoicfaaQKn
import Derived.Deep.RegionHeld3
import Derived.OpenShut
set_option linter.unusedVariables false
namespace Go.Proofs.Ytifanmggfoicfaa
open Go.RowKit Go.Shelf Go.Sort
/-- Is a bit not set? -/
def outB (a : Int) (k : Nat) : Bool := (bits BinOp.and IntKind.u16 (a / 2 ^ k) 1 == 0)
def ones (p : Nat → Bool) (k : Nat) : List Int := ((List.range k).filter p).map fun i : Nat => (i : Int)
theorem ones_succ (p : Nat → Bool) (k : Nat) : ones p (k + 1) = ones p k ++ if p k then [(k : Int)] else [] := by
  unfold ones
  rw [List.range_succ, List.filter_append, List.map_append]
  congr 1
  cases h : p k <;> simp [h]
theorem ones_len (p : Nat → Bool) (k : Nat) : (ones p k).length ≤ k := by
  unfold ones
  rw [List.length_map]
  have := List.length_filter_le p (List.range k)
  rwa [List.length_range] at this
theorem ones_mem (p : Nat → Bool) (k : Nat) (x : Int) : x ∈ ones p k ↔ ∃ i : Nat, i < k ∧ p i = true ∧ (i : Int) = x := by
  unfold ones
  simp [and_assoc]
theorem ones_rising (p : Nat → Bool) (k : Nat) : (ones p k).Pairwise (· < ·) := by
  unfold ones
  rw [List.pairwise_map]
  exact (List.Pairwise.filter p (List.pairwise_lt_range (n := k))).imp (fun h => by omega)
theorem ones_dst (p : Nat → Bool) (k : Nat) : dst (ones p k) = ones p k :=
  rising_ext (dst_props _).1 (ones_rising p k) (dst_props _).2
theorem ones_enough (p : Nat → Bool) (f : Int) (k : Nat) (hk : (k : Int) = 3 * f + 1) : enoughB f (ones p k) = decide (2 * f + 1 ≤ ((ones p k).length : Int)) := by
  unfold enoughB
  rw [ones_dst, List.filter_eq_self.2]
  intro x hx
  obtain ⟨i, hi, _, rfl⟩ := (ones_mem p k x).1 hx
  rw [outR_hi (by omega)]
  simp
  omega
theorem ones_common (p q : Nat → Bool) (k : Nat) : common (ones p k) (ones q k) = ones (fun i => p i && q i) k := by
  unfold common
  rw [ones_dst]
  refine rising_ext ((ones_rising p k).filter _) (ones_rising _ k) fun x => ?_
  rw [List.mem_filter, ones_mem, ones_mem]
  simp only [List.contains_iff_mem, ones_mem, Bool.and_eq_true]
  constructor
  · rintro ⟨⟨i, hi, hp, rfl⟩, j, hj, hq, e⟩
    obtain rfl : j = i := by omega
    exact ⟨j, hi, ⟨hp, hq⟩, rfl⟩
  · rintro ⟨i, hi, ⟨hp, hq⟩, rfl⟩
    exact ⟨⟨i, hi, hp, rfl⟩, i, hi, hq, rfl⟩
theorem ones_meet (p q : Nat → Bool) (k : Nat) : (ones p k).length + (ones q k).length ≤ (ones (fun i => p i && q i) k).length + k := by
  induction k with
  | zero => simp [ones]
  | succ k ih =>
    rw [ones_succ, ones_succ, ones_succ]
    simp only [List.length_append]
    cases p k <;> cases q k <;> simp <;> omega
/-- Rows that a call owns in blocks of their own. -/
def Apart (v u : Value) : Prop := ∀ k, v.ownBlock = some k → u.ownBlock ≠ some k
theorem Apart.symm {v u : Value} (h : Apart v u) : Apart u v := fun k hk hv => h k hv hk
theorem Apart.ne {v u : Value} (h : Apart v u) : v.ownBlock = none ∨ v.ownBlock ≠ u.ownBlock := by
  cases hv : v.ownBlock with
  | none => exact .inl rfl
  | some k => exact .inr fun e => h k hv e.symm
/-- What an append to the one does to the other. -/
theorem apart_append {w w' : World} {b : Nat} {e : TypeId} {size : Nat} {v v' u : Value} {m : Nat} {ys : List Value} (ha : Apart v u) (hu : w.ownsRow b e size u m ys) (hg : w.grownBy w' v.ownBlock) (hat : v'.ownBlock = v.ownBlock ∨ v'.ownBlock = some w.heap.size) :
    w'.ownsRow b e size u m ys ∧ Apart v' u := by
  refine ⟨hu.kept hg ha.symm.ne, fun k hk hku => ?_⟩
  rcases hat with e1 | e1
  · exact ha k (e1 ▸ hk) hku
  · rw [hk] at e1
    cases e1
    exact absurd (hu.lt _ hku).2 (Nat.lt_irrefl _)
set_option maxRecDepth 100000 in
set_option maxHeartbeats 4000000 in
theorem meet_walk (f a b : Int) (hf0 : 0 ≤ f) (hf1 : f ≤ 255) (ha0 : 0 ≤ a) (ha1 : a ≤ 65535) (hb0 : 0 ≤ b) (hb1 : b ≤ 65535) (F : Nat) (hFl : f % 3 ≤ F) (hFg : (F : Int) ≤ f % 3) (hF2 : F ≤ 2) (w : World) :
    Calls Try.prog 6 #[.int .u8 f, .int .u16 a, .int .u16 b] w fun e w' => e = .returned (.bool true) ∧ Ext w w' := by
  obtain ⟨i0, hi, hz0, hz1, hz2⟩ := info_parts bInt
  have HK := Lib.hid (known6_calls w)
  have HN := Lib.hid (n_calls (1 + f % 3) (by omega) (by omega))
  have HQ := Lib.hid (q_calls (1 + f % 3) (by omega) (by omega))
  go_enter Try.func6, Try.ntmps6
  go_wp2_with fail
  refine HK.out.mono ?_
  rintro e w1 ⟨rfl, hx⟩
  have HX1 := Lib.hid hx
  clear hx HK
  have hB1 := Boxed.new w1 tConf (.int .i64 (1 + f % 3))
  have hX2 := (Ext.rfl' w1).alloc (.cells #[.int .i64 (1 + f % 3)] tConf)
  go_wp2_with fail
  generalize w1.alloc (.cells #[.int .i64 (1 + f % 3)] tConf) = W0 at *
  have HB1 := Lib.hid hB1
  have HX2 := Lib.hid (HX1.out.tr hX2)
  have hz : w1.heap.size < W0.heap.size := hB1.lt
  clear hB1 hX2
  go_loopw [8, 9, 10] (fun x y i wr => ∃ k : Nat, i = .int .i64 k ∧ k ≤ 3 * F + 4 ∧ wr.ownsRow W0.heap.size 3 1 x (ones (outB a) k).length (cIs (ones (outB a) k)) ∧ wr.ownsRow W0.heap.size 3 1 y (ones (outB b) k).length (cIs (ones (outB b) k)) ∧ Apart x y ∧ Ext W0 wr) (fun _ _ i _ => 16 - (intOf i).toNat)
  case atStart => exact ⟨0, rfl, by omega, World.ownsRow_nil _ _ _ _, World.ownsRow_nil _ _ _ _, (fun k hk => by cases hk), Ext.rfl' _⟩
  case round =>
    obtain ⟨k, rfl, hk, hx, hy, hap, hX⟩ := hrel
    have hc := (box_ext HB1.out hX).cell
    have hx1 := ones_len (outB a) k
    have hy1 := ones_len (outB b) k
    by_cases hlt : k < 3 * F + 4
    · have hlt2 : (k : Int) < 3 * (1 + f % 3) + 1 := by omega
      have hlt3 : (k : Int) < 16 := by omega
      have HSX := Lib.hid (ones_succ (outB a) k)
      have HSY := Lib.hid (ones_succ (outB b) k)
      generalize ones (outB a) k = X at *
      generalize ones (outB b) k = Y at *
      have HOX := Lib.hid hx
      have HOY := Lib.hid hy
      have HAP := Lib.hid hap
      have HX := Lib.hid hX
      clear hx hy hap hX
      go_wp2_with fail
      refine (HN.out _).mono ?_
      rintro e w2 ⟨rfl, hx⟩
      have HOX2 := Lib.hid (own_ext HOX.out hx)
      have HOY2 := Lib.hid (own_ext HOY.out hx)
      have HX2b := Lib.hid (HX.out.tr hx)
      clear hx HOX HOY HX hc
      cases hA : outB a k
      all_goals cases hB : outB b k
      case false.false =>
        have ha2 : (bits BinOp.and IntKind.u16 (a / 2 ^ k) 1 == 0) = false := hA
        have hb2 : (bits BinOp.and IntKind.u16 (b / 2 ^ k) 1 == 0) = false := hB
        rw [hA] at HSX
        rw [hB] at HSY
        clear hA hB
        have HOX3 := Lib.hid (show w2.ownsRow W0.heap.size 3 1 u8 (ones (outB a) (k + 1)).length (cIs (ones (outB a) (k + 1))) by rw [HSX.out]; simpa using HOX2.out)
        have HOY3 := Lib.hid (show w2.ownsRow W0.heap.size 3 1 u9 (ones (outB b) (k + 1)).length (cIs (ones (outB b) (k + 1))) by rw [HSY.out]; simpa using HOY2.out)
        go_wp2
        go_roundw
        case rel => exact ⟨k + 1, by go_num, hlt, HOX3.out, HOY3.out, HAP.out, HX2b.out⟩
        case measure => simp [intOf]; omega
      case false.true =>
        have ha2 : (bits BinOp.and IntKind.u16 (a / 2 ^ k) 1 == 0) = false := hA
        have hb2 : (bits BinOp.and IntKind.u16 (b / 2 ^ k) 1 == 0) = true := hB
        rw [hA] at HSX
        rw [hB] at HSY
        clear hA hB
        have HOX3 := Lib.hid (show w2.ownsRow W0.heap.size 3 1 u8 (ones (outB a) (k + 1)).length (cIs (ones (outB a) (k + 1))) by rw [HSX.out]; simpa using HOX2.out)
        go_wp2_with (at_builtin; (refine wpList_append_own_at _ rfl _ _ tIs rfl W0.heap.size 3 i0 (.int .i64 0) 1 8 Try.underlying100 hi hz0 hz1 hz2 rfl (by decide) _ _ _ rfl (HOY2.out.alloc _) ⟨w2.heap.size, 0, none⟩ 1 1 [.int .i64 k] rfl rfl (cell_one_new _ _ _) (fun x hx => by simp at hx; subst hx; rfl) (by unfold maxLen; omega) (by omega) (by simp; have := HX2b.out.size; omega) ?_; intro v5 w5 hown5 hgrow5 _ hat5; obtain ⟨hox5, hap5⟩ := apart_append HAP.out.symm (HOX3.out.alloc _) hgrow5 hat5; have HX5 := Lib.hid (show Ext W0 w5 from (HX2b.out.alloc _).grown hgrow5 (HX2b.out.alloc _).size (fun q hq => (HOY2.out.lt q hq).1)); have HOY6 := Lib.hid (show w5.ownsRow W0.heap.size 3 1 v5 (ones (outB b) (k + 1)).length (cIs (ones (outB b) (k + 1))) by rw [HSY.out]; simpa [cIs] using hown5); have HOX6 := Lib.hid hox5; have HAP6 := Lib.hid hap5.symm; clear hown5 hgrow5 hat5 hox5 hap5))
        go_roundw
        case rel => exact ⟨k + 1, by go_num, hlt, HOX6.out, HOY6.out, HAP6.out, HX5.out⟩
        case measure => simp [intOf]; omega
      case true.false =>
        have ha2 : (bits BinOp.and IntKind.u16 (a / 2 ^ k) 1 == 0) = true := hA
        have hb2 : (bits BinOp.and IntKind.u16 (b / 2 ^ k) 1 == 0) = false := hB
        rw [hA] at HSX
        rw [hB] at HSY
        clear hA hB
        have HOY3 := Lib.hid (show w2.ownsRow W0.heap.size 3 1 u9 (ones (outB b) (k + 1)).length (cIs (ones (outB b) (k + 1))) by rw [HSY.out]; simpa using HOY2.out)
        go_wp2_with (at_builtin; (refine wpList_append_own_at _ rfl _ _ tIs rfl W0.heap.size 3 i0 (.int .i64 0) 1 8 Try.underlying100 hi hz0 hz1 hz2 rfl (by decide) _ _ _ rfl (HOX2.out.alloc _) ⟨w2.heap.size, 0, none⟩ 1 1 [.int .i64 k] rfl rfl (cell_one_new _ _ _) (fun x hx => by simp at hx; subst hx; rfl) (by unfold maxLen; omega) (by omega) (by simp; have := HX2b.out.size; omega) ?_; intro v3 w3 hown3 hgrow3 _ hat3; obtain ⟨hoy3, hap3⟩ := apart_append HAP.out (HOY3.out.alloc _) hgrow3 hat3; have HX3 := Lib.hid (show Ext W0 w3 from (HX2b.out.alloc _).grown hgrow3 (HX2b.out.alloc _).size (fun q hq => (HOX2.out.lt q hq).1)); have HOX4 := Lib.hid (show w3.ownsRow W0.heap.size 3 1 v3 (ones (outB a) (k + 1)).length (cIs (ones (outB a) (k + 1))) by rw [HSX.out]; simpa [cIs] using hown3); have HOY4 := Lib.hid hoy3; have HAP4 := Lib.hid hap3; clear hown3 hgrow3 hat3 hoy3 hap3))
        go_roundw
        case rel => exact ⟨k + 1, by go_num, hlt, HOX4.out, HOY4.out, HAP4.out, HX3.out⟩
        case measure => simp [intOf]; omega
      case true.true =>
        have ha2 : (bits BinOp.and IntKind.u16 (a / 2 ^ k) 1 == 0) = true := hA
        have hb2 : (bits BinOp.and IntKind.u16 (b / 2 ^ k) 1 == 0) = true := hB
        rw [hA] at HSX
        rw [hB] at HSY
        clear hA hB
        go_wp2_with (at_builtin; first | (refine wpList_append_own_at _ rfl _ _ tIs rfl W0.heap.size 3 i0 (.int .i64 0) 1 8 Try.underlying100 hi hz0 hz1 hz2 rfl (by decide) _ _ _ rfl (HOY4.out.alloc _) ⟨w3.heap.size, 0, none⟩ 1 1 [.int .i64 k] rfl rfl (cell_one_new _ _ _) (fun x hx => by simp at hx; subst hx; rfl) (by unfold maxLen; omega) (by omega) (by simp; have := HX3.out.size; omega) ?_; intro v5 w5 hown5 hgrow5 _ hat5; obtain ⟨hox5, hap5⟩ := apart_append HAP4.out.symm (HOX4.out.alloc _) hgrow5 hat5; have HX5 := Lib.hid (show Ext W0 w5 from (HX3.out.alloc _).grown hgrow5 (HX3.out.alloc _).size (fun q hq => (HOY4.out.lt q hq).1)); have HOY6 := Lib.hid (show w5.ownsRow W0.heap.size 3 1 v5 (ones (outB b) (k + 1)).length (cIs (ones (outB b) (k + 1))) by rw [HSY.out]; simpa [cIs] using hown5); have HOX6 := Lib.hid hox5; have HAP6 := Lib.hid hap5.symm; clear hown5 hgrow5 hat5 hox5 hap5) | (refine wpList_append_own_at _ rfl _ _ tIs rfl W0.heap.size 3 i0 (.int .i64 0) 1 8 Try.underlying100 hi hz0 hz1 hz2 rfl (by decide) _ _ _ rfl (HOX2.out.alloc _) ⟨w2.heap.size, 0, none⟩ 1 1 [.int .i64 k] rfl rfl (cell_one_new _ _ _) (fun x hx => by simp at hx; subst hx; rfl) (by unfold maxLen; omega) (by omega) (by simp; have := HX2b.out.size; omega) ?_; intro v3 w3 hown3 hgrow3 _ hat3; obtain ⟨hoy3, hap3⟩ := apart_append HAP.out (HOY2.out.alloc _) hgrow3 hat3; have HX3 := Lib.hid (show Ext W0 w3 from (HX2b.out.alloc _).grown hgrow3 (HX2b.out.alloc _).size (fun q hq => (HOX2.out.lt q hq).1)); have HOX4 := Lib.hid (show w3.ownsRow W0.heap.size 3 1 v3 (ones (outB a) (k + 1)).length (cIs (ones (outB a) (k + 1))) by rw [HSX.out]; simpa [cIs] using hown3); have HOY4 := Lib.hid hoy3; have HAP4 := Lib.hid hap3; clear hown3 hgrow3 hat3 hoy3 hap3))
        go_roundw
        case rel => exact ⟨k + 1, by go_num, hlt, HOX6.out, HOY6.out, HAP6.out, HX5.out⟩
        case measure => simp [intOf]; omega
    · obtain rfl : k = 3 * F + 4 := by omega
      have hge : 3 * (1 + f % 3) + 1 ≤ ((3 * F + 4 : Nat) : Int) := by omega
      have HEX := Lib.hid (ones_enough (outB a) (1 + f % 3) (3 * F + 4) (by omega))
      have HEY := Lib.hid (ones_enough (outB b) (1 + f % 3) (3 * F + 4) (by omega))
      have HCO := Lib.hid (ones_common (outB a) (outB b) (3 * F + 4))
      have hmeet := ones_meet (outB a) (outB b) (3 * F + 4)
      have hcl := ones_len (fun i => outB a i && outB b i) (3 * F + 4)
      obtain ⟨A, c, rfl, hrx⟩ := rd_of_own hx
      obtain ⟨B, d, rfl, hry⟩ := rd_of_own hy
      have HRX := Lib.hid hrx
      have HRY := Lib.hid hry
      have HX := Lib.hid hX
      clear hx hy hap hrx hry hX
      generalize ones (outB a) (3 * F + 4) = X at *
      generalize ones (outB b) (3 * F + 4) = Y at *
      generalize ones (fun i => outB a i && outB b i) (3 * F + 4) = Z at *
      generalize hNN : ((3 * F + 4 : Nat) : Int) = NN at *
      have HNN := Lib.hid hNN
      clear hNN
      go_wp2_with fail
      refine (HN.out _).mono ?_
      rintro e w2 ⟨rfl, hx⟩
      have HRX2 := Lib.hid (HRX.out.ext hx)
      have HRY2 := Lib.hid (HRY.out.ext hx)
      have HX2b := Lib.hid (HX.out.tr hx)
      clear hx HRX HRY HX hc
      have hc2 := (box_ext HB1.out HX2b.out).cell
      have HBX := Lib.hid (fun W (hx : Ext w2 W) => (box_ext HB1.out (HX2b.out.tr hx)).cell)
      have HE1 := Lib.hid (fun W (hx : Ext w2 W) => enough_calls (1 + f % 3) (by omega) (by omega) X A c (by omega) W (HRX2.out.ext hx))
      have HE2 := Lib.hid (fun W (hx : Ext w2 W) => enough_calls (1 + f % 3) (by omega) (by omega) Y B d (by omega) W (HRY2.out.ext hx))
      rw [HEX.out] at HE1
      rw [HEY.out] at HE2
      clear HEX HEY
      by_cases hx : 2 * (1 + f % 3) + 1 ≤ (X.length : Int)
      · rw [show decide (2 * (1 + f % 3) + 1 ≤ (X.length : Int)) = true by simpa using hx] at HE1
        by_cases hy : 2 * (1 + f % 3) + 1 ≤ (Y.length : Int)
        · rw [show decide (2 * (1 + f % 3) + 1 ≤ (Y.length : Int)) = true by simpa using hy] at HE2
          have HC := Lib.hid (fun W (hx : Ext w2 W) => common_calls X A c Y B d (by omega) (by omega) W (HRX2.out.ext hx) (HRY2.out.ext hx))
          rw [HCO.out] at HC
          have hzl : 1 + f % 3 + 1 ≤ (Z.length : Int) := by omega
          go_wp2_with fail
          refine (HE1.out _ (Ext.rfl' _)).mono ?_
          rintro e w3 ⟨rfl, hx3⟩
          have hc3 := HBX.out _ hx3
          have HY3 := Lib.hid hx3
          clear hx3 hc2
          go_wp2_with fail
          refine (HE2.out _ HY3.out).mono ?_
          rintro e w4 ⟨rfl, hx4⟩
          have hc4 := HBX.out _ (HY3.out.tr hx4)
          have HY4 := Lib.hid (HY3.out.tr hx4)
          clear hx4 hc3
          go_wp2
          have hlt4 : w1.heap.size < w4.heap.size := by have := HY4.out.size; have := HX2b.out.size; omega
          have hwr : IntKind.i64.wrap (1 + f % 3 + 1) = 1 + f % 3 + 1 := by rw [IntKind.wrap_i64]; omega
          go_region_held3 (fun w' => w'.cell? ⟨w1.heap.size, 0, none⟩ = some (.int .i64 (1 + f % 3))) (first | exact HBX.out _ (HY4.out.tr hx5) | exact HBX.out _ (HY4.out.drew.tr hx5) | go_keep)
            (first | (go_at_call 28; refine (HC.out _ (by first | exact HY4.out | exact HY4.out.drew)).mono ?_; rintro e w5 ⟨⟨v5, rfl, hown5⟩, hx5⟩; obtain ⟨A5, c5, rfl, hr5⟩ := rd_of_own hown5))
          all_goals
            go_wp2
            go_ret
            exact ⟨ret_bool (by first | rfl | (simp; omega)), by first | exact HX2.out.tr (HX2b.out.tr (HY4.out.tr hx5)) | exact HX2.out.tr (HX2b.out.tr (HY4.out.drew.tr hx5))⟩
        · rw [show decide (2 * (1 + f % 3) + 1 ≤ (Y.length : Int)) = false by simpa using hy] at HE2
          go_wp2_with fail
          refine (HE1.out _ (Ext.rfl' _)).mono ?_
          rintro e w3 ⟨rfl, hx3⟩
          have hc3 := HBX.out _ hx3
          have HY3 := Lib.hid hx3
          clear hx3 hc2
          go_wp2_with fail
          refine (HE2.out _ HY3.out).mono ?_
          rintro e w4 ⟨rfl, hx4⟩
          have hc4 := HBX.out _ (HY3.out.tr hx4)
          have HY4 := Lib.hid (HY3.out.tr hx4)
          clear hx4 hc3
          go_wp2_with fail
          refine (HQ.out _).mono ?_
          rintro e w5 ⟨rfl, hx5⟩
          have hc5 := HBX.out _ (HY4.out.tr hx5)
          have HY5 := Lib.hid (HY4.out.tr hx5)
          clear hx5 hc4
          go_wp2_with fail
          refine (HQ.out _).mono ?_
          rintro e w6 ⟨rfl, hx6⟩
          have HY6 := Lib.hid (HX2.out.tr (HX2b.out.tr (HY5.out.tr hx6)))
          clear hx6 hc5
          go_wp2
          go_ret
          exact ⟨ret_bool (by first | rfl | simp | (simp; omega)), HY6.out⟩
      · rw [show decide (2 * (1 + f % 3) + 1 ≤ (X.length : Int)) = false by simpa using hx] at HE1
        go_wp2_with fail
        refine (HE1.out _ (Ext.rfl' _)).mono ?_
        rintro e w3 ⟨rfl, hx3⟩
        have hc3 := HBX.out _ hx3
        have HY3 := Lib.hid hx3
        clear hx3 hc2
        go_wp2_with fail
        refine (HQ.out _).mono ?_
        rintro e w5 ⟨rfl, hx5⟩
        have HY5 := Lib.hid (HX2.out.tr (HX2b.out.tr (HY3.out.tr hx5)))
        clear hx5 hc3
        go_wp2
        go_ret
        exact ⟨rfl, HY5.out⟩
theorem quorumMeet_walk' {w : World} (f : Int) (wf : (Lit.int .u8 f).wf = true) (a : Int) (wa : (Lit.int .u16 a).wf = true) (b : Int) (wb : (Lit.int .u16 b).wf = true) :
    Calls Try.prog 6 #[.int .u8 f, .int .u16 a, .int .u16 b] w fun e w' => e = .returned (.bool true) ∧ Ext w w' := by
  have hf := bounds_u8 wf
  have ha := bounds_u16 wa
  have hb := bounds_u16 wb
  exact meet_walk f a b (by omega) (by omega) (by omega) (by omega) (by omega) (by omega) (f % 3).toNat (by omega) (by omega) (by omega) w
end Go.Proofs.Ytifanmggfoicfaa
