/- The walk of the law QuorumEdges. -/
import Derived.Test.YtifanmggfoicfaaQMeet
set_option linter.unusedVariables false
namespace Go.Proofs.Ytifanmggfoicfaa
open Go.RowKit Go.Shelf Go.Sort
theorem rd_cells_new (w : World) (l : List Value) (t : TypeId) : ∀ j u, l[j]? = some u → (w.alloc (.cells l.toArray t)).cell? ((⟨w.heap.size, 0, none⟩ : Addr).add j) = some u := by
  intro j u hj
  rw [add0, World.cell?_alloc_mark]
  simpa using hj
theorem dst_perm {l : List Int} (h : l.Nodup) : (dst l).Perm l :=
  (List.perm_ext_iff_of_nodup ((dst_props l).1.imp (fun h => by omega)) h).2 (dst_props l).2
def downs (N : Int) (k : Nat) : List Int := (List.range k).map fun i : Nat => N - 1 - (i : Int)
def strs (N : Int) (j : Nat) : List Int := (List.range j).flatMap fun i : Nat => [N + (i : Int), -1 - (i : Int)]
theorem downs_succ (N : Int) (k : Nat) : downs N (k + 1) = downs N k ++ [N - 1 - (k : Int)] := by
  unfold downs
  rw [List.range_succ, List.map_append]
  rfl
theorem strs_succ (N : Int) (j : Nat) : strs N (j + 1) = strs N j ++ [N + (j : Int), -1 - (j : Int)] := by
  unfold strs
  rw [List.range_succ, List.flatMap_append]
  simp
theorem downs_len (N : Int) (k : Nat) : (downs N k).length = k := by simp [downs]
theorem strs_len (N : Int) : ∀ j : Nat, (strs N j).length = 2 * j
  | 0 => rfl
  | j + 1 => by rw [strs_succ, List.length_append, strs_len N j]; simp; omega
theorem downs_mem {N : Int} {k : Nat} {x : Int} (h : x ∈ downs N k) : ∃ i : Nat, i < k ∧ x = N - 1 - (i : Int) := by
  simp [downs] at h
  obtain ⟨i, h1, h2⟩ := h
  exact ⟨i, h1, h2.symm⟩
theorem strs_mem {N : Int} {x : Int} : ∀ {j : Nat}, x ∈ strs N j → ∃ i : Nat, i < j ∧ (x = N + (i : Int) ∨ x = -1 - (i : Int))
  | 0, h => by simp [strs] at h
  | j + 1, h => by
    rw [strs_succ, List.mem_append] at h
    rcases h with h | h
    · obtain ⟨i, hi, e⟩ := strs_mem h
      exact ⟨i, by omega, e⟩
    · simp at h
      exact ⟨j, by omega, h⟩
theorem downs_nodup (N : Int) : ∀ k, (downs N k).Nodup
  | 0 => by simp [downs]
  | k + 1 => by
    rw [downs_succ, List.nodup_append]
    refine ⟨downs_nodup N k, by simp, fun a ha b hb => ?_⟩
    obtain ⟨i, hi, rfl⟩ := downs_mem ha
    simp at hb
    omega
theorem strs_nodup {N : Int} (hN : 1 ≤ N) : ∀ j, (strs N j).Nodup
  | 0 => by simp [strs]
  | j + 1 => by
    rw [strs_succ, List.nodup_append]
    refine ⟨strs_nodup hN j, by simp; omega, fun a ha b hb => ?_⟩
    obtain ⟨i, hi, h⟩ := strs_mem ha
    simp at hb
    omega
theorem edge_nodup {N : Int} (hN : 1 ≤ N) {k : Nat} (hk : (k : Int) ≤ N) (j : Nat) : (downs N k ++ strs N j).Nodup := by
  rw [List.nodup_append]
  refine ⟨downs_nodup N k, strs_nodup hN j, fun a ha b hb => ?_⟩
  obtain ⟨i, hi, rfl⟩ := downs_mem ha
  obtain ⟨i', hi', h⟩ := strs_mem hb
  omega
theorem edge_dst {N : Int} (hN : 1 ≤ N) {k : Nat} (hk : (k : Int) ≤ N) (j : Nat) : (dst (downs N k ++ strs N j)).length = (downs N k ++ strs N j).length := (dst_perm (edge_nodup hN hk j)).length_eq
theorem edge_enough {f : Int} (hf : 0 ≤ f) {k : Nat} (hk : (k : Int) ≤ 3 * f + 1) (j : Nat) : enoughB f (downs (3 * f + 1) k ++ strs (3 * f + 1) j) = decide (2 * f + 1 ≤ (k : Int)) := by
  unfold enoughB
  rw [((dst_perm (edge_nodup (by omega) hk j)).filter _).length_eq, List.filter_append, List.filter_eq_self.2, List.filter_eq_nil_iff.2, List.append_nil, downs_len]
  · intro x hx
    obtain ⟨i, hi, h⟩ := strs_mem hx
    rcases h with rfl | rfl
    · rw [outR_hi (by omega)]; simp; omega
    · rw [outR_lo (by omega)]; simp
  · intro x hx
    obtain ⟨i, hi, rfl⟩ := downs_mem hx
    rw [outR_hi (by omega)]
    simp
    omega
set_option maxRecDepth 100000 in
set_option maxHeartbeats 4000000 in
theorem edges_walk (f n s : Int) (hf0 : 0 ≤ f) (hf1 : f ≤ 255) (hn0 : 0 ≤ n) (hn1 : n ≤ 255) (hs0 : 0 ≤ s) (hs1 : s ≤ 255) (w : World) :
    Calls Try.prog 9 #[.int .u8 f, .int .u8 n, .int .u8 s] w fun e w' => e = .returned (.bool true) ∧ Ext w w' := by
  obtain ⟨i0, hi, hz0, hz1, hz2⟩ := info_parts bInt
  have HK := Lib.hid (known6_calls w)
  have HN := Lib.hid (n_calls (1 + f % 3) (by omega) (by omega))
  have HQ := Lib.hid (q_calls (1 + f % 3) (by omega) (by omega))
  go_enter Try.func9, Try.ntmps9
  go_wp2_with fail
  refine HK.out.mono ?_
  rintro e w1 ⟨rfl, hx⟩
  have HX1 := Lib.hid hx
  have HB1 := Lib.hid (Boxed.new w1 tConf (.int .i64 (1 + f % 3)))
  have hc0 := HB1.out.cell
  clear hx HK
  go_wp2_with fail
  refine (HN.out _).mono ?_
  rintro e W0 ⟨rfl, hx2⟩
  have HB0 := Lib.hid (box_ext HB1.out hx2)
  have hz : w1.heap.size < W0.heap.size := HB0.out.lt
  have HX0 := Lib.hid ((HX1.out.alloc _).tr hx2)
  clear hx2 hc0 HB1
  go_wp2_with fail
  have hg0 : 0 ≤ f % 3 := by omega
  have hg1 : f % 3 ≤ 2 := by omega
  generalize f % 3 = g at *
  have hk0 : 0 ≤ n % (3 * (1 + g) + 1 + 1) := Int.emod_nonneg _ (by omega)
  have hk1 : n % (3 * (1 + g) + 1 + 1) < 3 * (1 + g) + 1 + 1 := Int.emod_lt_of_pos _ (by omega)
  obtain ⟨K, hK⟩ : ∃ K : Nat, n % (3 * (1 + g) + 1 + 1) = K := ⟨_, (Int.toNat_of_nonneg hk0).symm⟩
  rw [hK] at hk0 hk1
  rw [hK]
  clear hK
  go_loopw [9, 10] (fun v i wr => ∃ k : Nat, k ≤ K ∧ i = .int .i64 k ∧ wr.ownsRow W0.heap.size 3 1 v (downs (3 * (1 + g) + 1) k).length (cIs (downs (3 * (1 + g) + 1) k)) ∧ Ext W0 wr) (fun _ i _ => K - (intOf i).toNat)
  case atStart => exact ⟨0, by omega, rfl, World.ownsRow_nil _ _ _ _, Ext.rfl' _⟩
  case round =>
    obtain ⟨k, hk, rfl, hown, hX⟩ := hrel
    have hc := (box_ext HB0.out hX).cell
    by_cases hlt : k < K
    · have HS := Lib.hid (show downs (3 * (1 + g) + 1) (k + 1) = downs (3 * (1 + g) + 1) k ++ [3 * (1 + g) - (k : Int)] by rw [downs_succ, show 3 * (1 + g) + 1 - 1 - (k : Int) = 3 * (1 + g) - (k : Int) by omega])
      have hl := downs_len (3 * (1 + g) + 1) k
      have hle : (downs (3 * (1 + g) + 1) k).length ≤ k := by omega
      clear hl
      generalize downs (3 * (1 + g) + 1) k = X at *
      have HO := Lib.hid hown
      have HX := Lib.hid hX
      clear hown hX
      go_wp2_with fail
      refine (HN.out _).mono ?_
      rintro e w2 ⟨rfl, hx⟩
      have HO2 := Lib.hid (own_ext HO.out hx)
      have HX2 := Lib.hid (HX.out.tr hx)
      clear hx HO HX hc
      go_wp2_with (at_builtin; (refine wpList_append_own _ rfl _ _ tIs rfl W0.heap.size 3 i0 (.int .i64 0) 1 8 Try.underlying100 hi hz0 hz1 hz2 rfl (by decide) _ _ _ rfl (HO2.out.alloc _) ⟨w2.heap.size, 0, none⟩ 1 1 [.int .i64 (3 * (1 + g) - k)] rfl rfl (cell_one_new _ _ _) (fun x hx => by simp at hx; subst hx; rfl) (by unfold maxLen; omega) (by omega) (by simp; have := HX2.out.size; omega) ?_); intro v3 w3 hown3 hgrow3 _)
      have HX3 := Lib.hid (show Ext W0 w3 from (HX2.out.alloc _).grown hgrow3 (HX2.out.alloc _).size (fun q hq => (HO2.out.lt q hq).1))
      have HO3 := Lib.hid hown3
      clear hown3 hgrow3
      go_wp2
      go_roundw
      case rel => exact ⟨k + 1, hlt, by go_num, by rw [HS.out]; simpa [cIs] using HO3.out, HX3.out⟩
      case measure => simp [intOf]; omega
    · obtain rfl : k = K := by omega
      have HL := Lib.hid (downs_len (3 * (1 + g) + 1) k)
      obtain ⟨j9, hj9⟩ : ∃ J : Nat, s % 9 = J := ⟨(s % 9).toNat, by omega⟩
      have hj1 : j9 ≤ 8 := by omega
      have HJ := Lib.hid hj9
      have hjle : s % 9 ≤ (j9 : Int) := by omega
      have hjge : (j9 : Int) ≤ s % 9 := by omega
      clear hj9
      have HO := Lib.hid hown
      have HX := Lib.hid hX
      obtain ⟨wo, hwo⟩ : ∃ wo : World, wo = wr := ⟨_, rfl⟩
      subst hwo
      clear hown hX hc
      go_wp2_with fail
      go_loopw [9, 11] (fun v i wi => ∃ j : Nat, j ≤ j9 ∧ i = .int .i64 j ∧ wi.ownsRow W0.heap.size 3 1 v (downs (3 * (1 + g) + 1) k ++ strs (3 * (1 + g) + 1) j).length (cIs (downs (3 * (1 + g) + 1) k ++ strs (3 * (1 + g) + 1) j)) ∧ Ext W0 wi) (fun _ i _ => j9 - (intOf i).toNat)
      case atStart => exact ⟨0, Nat.zero_le _, rfl, by simpa [strs] using HO.out, HX.out⟩
      case round =>
        obtain ⟨j, hj, rfl, hown, hX⟩ := hrel
        have hc := (box_ext HB0.out hX).cell
        have hl2 := strs_len (3 * (1 + g) + 1) j
        by_cases hjlt : j < j9
        · have HS := Lib.hid (strs_succ (3 * (1 + g) + 1) j)
          have hle : (downs (3 * (1 + g) + 1) k ++ strs (3 * (1 + g) + 1) j).length ≤ k + 16 := by rw [List.length_append, HL.out]; omega
          have hlt9 : (j : Int) < s % 9 := by omega
          clear hl2
          generalize strs (3 * (1 + g) + 1) j = Y at *
          generalize downs (3 * (1 + g) + 1) k = X at *
          have HO := Lib.hid hown
          have HX := Lib.hid hX
          clear hown hX
          go_wp2_with fail
          refine (HN.out _).mono ?_
          rintro e w2 ⟨rfl, hx⟩
          have HO2 := Lib.hid (own_ext HO.out hx)
          have HX2 := Lib.hid (HX.out.tr hx)
          clear hx HO HX hc
          go_wp2_with (at_builtin; (refine wpList_append_own _ rfl _ _ tIs rfl W0.heap.size 3 i0 (.int .i64 0) 1 8 Try.underlying100 hi hz0 hz1 hz2 rfl (by decide) _ _ _ rfl (HO2.out.alloc _) ⟨w2.heap.size, 0, none⟩ 2 2 [.int .i64 (3 * (1 + g) + 1 + j), .int .i64 (-1 - j)] rfl rfl (rd_cells_new _ _ _) (fun x hx => by simp at hx; rcases hx with rfl | rfl <;> rfl) (by unfold maxLen; omega) (by omega) (by simp; have := HX2.out.size; omega) ?_); intro v3 w3 hown3 hgrow3 _)
          have HX3 := Lib.hid (show Ext W0 w3 from (HX2.out.alloc _).grown hgrow3 (HX2.out.alloc _).size (fun q hq => (HO2.out.lt q hq).1))
          have HO3 := Lib.hid hown3
          clear hown3 hgrow3
          go_wp2
          go_roundw
          case rel => exact ⟨j + 1, hjlt, by go_num, by rw [HS.out]; simpa [cIs, Nat.add_assoc] using HO3.out, HX3.out⟩
          case measure => simp [intOf]; omega
        · obtain rfl : j = j9 := by omega
          have hge9 : s % 9 ≤ (j : Int) := by omega
          have HEN := Lib.hid (edge_enough (f := 1 + g) (by omega) (k := k) (by omega) j)
          have HED := Lib.hid (edge_dst (N := 3 * (1 + g) + 1) (by omega) (k := k) (by omega) j)
          have hll : (downs (3 * (1 + g) + 1) k ++ strs (3 * (1 + g) + 1) j).length ≤ k + 16 := by rw [List.length_append, HL.out]; omega
          generalize downs (3 * (1 + g) + 1) k ++ strs (3 * (1 + g) + 1) j = L at *
          obtain ⟨A, c, rfl, hr⟩ := rd_of_own hown
          have HR := Lib.hid hr
          have HX := Lib.hid hX
          clear hown hr hX hl2
          have HBX := Lib.hid (fun W (hx : Ext wr W) => (box_ext HB0.out (HX.out.tr hx)).cell)
          have HE := Lib.hid (fun W (hx : Ext wr W) => enough_calls (1 + g) (by omega) (by omega) L A c (by omega) W (HR.out.ext hx))
          have HD := Lib.hid (fun W (hx : Ext wr W) => distinct_calls L A c (by omega) W (HR.out.ext hx))
          rw [HEN.out] at HE
          rw [HED.out] at HD
          have hwr : IntKind.i64.wrap (3 * (1 + g)) = 3 * (1 + g) := by rw [IntKind.wrap_i64]; omega
          have hwr2 : IntKind.i64.wrap (3 * (1 + g) + 1) = 3 * (1 + g) + 1 := by rw [IntKind.wrap_i64]; omega
          have hwr3 : IntKind.i64.wrap (2 * (1 + g)) = 2 * (1 + g) := by rw [IntKind.wrap_i64]; omega
          have hwr4 : IntKind.i64.wrap (2 * (1 + g) + 1) = 2 * (1 + g) + 1 := by rw [IntKind.wrap_i64]; omega
          go_wp2
          have held2 : ∀ {W : World}, (W.cell? ⟨w1.heap.size, 0, none⟩ = some (.int .i64 (1 + g)) ∧ Ext wr W) → Ext wr W := fun h => h.2
          go_region_held3 (fun w' => w'.cell? ⟨w1.heap.size, 0, none⟩ = some (.int .i64 (1 + g)) ∧ Ext wr w')
            (first | exact ⟨HBX.out _ (Ext.rfl' wr).drew, (Ext.rfl' wr).drew⟩ | exact ⟨HBX.out _ hE1, hE1⟩)
            (first
              | (go_at_call 34; have hE0 := held2 (by assumption); refine (HE.out _ hE0).mono ?_; rintro e we ⟨rfl, hxx⟩; have hE1 := hE0.tr hxx)
              | (go_at_call 32; have hE0 := held2 (by assumption); refine (HQ.out _).mono ?_; rintro e we ⟨rfl, hxx⟩; have hE1 := hE0.tr hxx)
              | (go_at_call 30; have hE0 := held2 (by assumption); refine (HN.out _).mono ?_; rintro e we ⟨rfl, hxx⟩; have hE1 := hE0.tr hxx)
              | (go_at_call 26; have hE0 := held2 (by assumption); refine (HD.out _ hE0).mono ?_; rintro e we ⟨⟨vd, rfl, hownd⟩, hxx⟩; have hE1 := hE0.tr hxx; obtain ⟨Ad, cd, rfl, hrd⟩ := rd_of_own hownd))
          have HE9 := Lib.hid (HX0.out.tr (HX.out.tr hE1))
          clear hE1
          go_wp2
          go_ret
          exact ⟨ret_bool (by first | rfl | simp | (simp; omega)), HE9.out⟩
theorem quorumEdges_walk' {w : World} (f : Int) (wf : (Lit.int .u8 f).wf = true) (n : Int) (wn : (Lit.int .u8 n).wf = true) (s : Int) (ws : (Lit.int .u8 s).wf = true) :
    Calls Try.prog 9 #[.int .u8 f, .int .u8 n, .int .u8 s] w fun e w' => e = .returned (.bool true) ∧ Ext w w' := by
  have hf := bounds_u8 wf
  have hn := bounds_u8 wn
  have hs := bounds_u8 ws
  exact edges_walk f n s (by omega) (by omega) (by omega) (by omega) (by omega) (by omega) w
end Go.Proofs.Ytifanmggfoicfaa
