/- Texts put together: KOts, KOts2, KOts3. -/
import Derived.Test.YtbbgmlnfpnomiaaGreatDoorKAll1
import Derived.Test.YtbbgmlnfpnomiaaGreatDoorLC
import Derived.Test.YtbbgmlnfpnomiaaGreatDoorLA
import Derived.ChangeKeysEq
import Derived.Laws.Rows
import Derived.Deep.MidRow
import Derived.Deep.DeepCutAuto
section
/- The walks of package ots: secrets, digits, signatures, what they lead back to. -/
set_option linter.unusedVariables false
set_option linter.unusedSimpArgs false
namespace Go.Proofs.YtbbgmlnfpnomiaaGreatDoor
open Go.RowKit
/-- An element of an array by value. -/
theorem run_index_arr {P : Program} {w : World} (T E : TypeId) (n : Nat) (cs : Array Value) (k : IntKind) (j : Nat) (v : Value) (d : TypeDesc) (hT : P.underlying T = some (.array n E)) (hE : P.underlying E = some d) (hd : (match d with | .struct _ | .array _ _ => true | _ => false) = false) (hs : (P.info? E).map (·.size) = some 1) (hj : j < n) (hv : cs[j]? = some v) :
    (Instr.index T (.agg cs) (.int k (j : Int))).run P w = .ok v w := by
  obtain ⟨i, hi, hi1⟩ := Option.map_eq_some_iff.1 hs
  have ha : (isAgg E).run P w = .ok false w := by
    unfold isAgg
    simp only [Sem.run_bind, run_underlying hE, Result.andThen_ok]
    cases d <;> simp_all [go_sem]
  have ht := run_typeInfo (w := w) hi
  have hz : (sizeOf E).run P w = .ok 1 w := by
    unfold sizeOf
    simp only [Sem.run_bind, Sem.run_pure, ht, Result.andThen_ok, hi1, go_sem]
  simp [Instr.index, run_underlying hT, asIntOf, go_sem, hj, hz, ha, hv]
abbrev tSK : ByteArray := ⟨#[115, 107]⟩
abbrev tOT : ByteArray := ⟨#[111, 116]⟩
abbrev tPK : ByteArray := ⟨#[112, 107]⟩
abbrev tMT : ByteArray := ⟨#[109, 116]⟩
theorem otwo_calls (t : ByteArray) (ht : t.size ≤ 100) (a b : Nat) (ha : a < 18446744073709551616) (hb : b < 18446744073709551616) (w : World) :
    Calls Tryz.prog 194 #[.string t, cU64 a, cU64 b] w fun e w' => e = .returned (cU64 (S.twoN t.data.toList a b)) ∧ Ext w w' :=
  two_calls t (by have : t.data.toList.length = t.size := rfl; omega) a b ha hb w
set_option maxRecDepth 100000 in
theorem sec1_calls (seed leaf k : Nat) (hs : seed < 18446744073709551616) (hl : leaf ≤ 1000) (hk : k < 18) (b2 b3 : Nat) (w : World) (h2 : w.cell? ⟨b2, 0, none⟩ = some (cU64 seed)) (h3 : w.cell? ⟨b3, 0, none⟩ = some (.int .i64 (leaf : Int))) :
    Calls Tryz.prog 193 #[.int .i64 (k : Int), .bool false, .pointer (some ⟨b2, 0, none⟩), .pointer (some ⟨b3, 0, none⟩)] w fun e w' => e = .returned (cU64 (K.sec seed leaf k)) ∧ Ext w w' := by
  have H := Lib.hid (otwo_calls tSK (by decide) seed (leaf * 32 + k) hs (by omega) w)
  have e1 : IntKind.u64.wrap (leaf : Int) = (leaf : Int) := by rw [IntKind.wrap_u64]; omega
  have e2 : IntKind.u64.wrap ((leaf : Int) * 32) = (leaf : Int) * 32 := by rw [IntKind.wrap_u64]; omega
  have e3 : IntKind.u64.wrap (k : Int) = (k : Int) := by rw [IntKind.wrap_u64]; omega
  have e4 : IntKind.u64.wrap ((leaf : Int) * 32 + (k : Int)) = (leaf : Int) * 32 + (k : Int) := by rw [IntKind.wrap_u64]; omega
  have e5 : ((leaf * 32 + k : Nat) : Int) = (leaf : Int) * 32 + (k : Int) := by omega
  unfold cU64 at H
  rw [e5] at H
  clear e5
  go_enter Tryz.func193, Tryz.ntmps193
  go_wp2_with fail
  refine H.out.mono ?_
  rintro e w1 ⟨rfl, hx⟩
  have HX := Lib.hid hx
  clear hx
  go_wp2
  go_ret
  exact ⟨rfl, HX.out⟩
/-- What is laid till now. -/
def outL (g : Nat → Nat) (m : Nat) : List Value := (List.range 18).map fun j => if j < m then cU64 (g j) else cU64 0
theorem outL_len (g : Nat → Nat) (m : Nat) : (outL g m).length = 18 := by simp [outL]
theorem outL_set (g : Nat → Nat) (m : Nat) (hm : m < 18) : (outL g m).set m (cU64 (g m)) = outL g (m + 1) := by
  apply List.ext_getElem?
  intro j
  rw [List.getElem?_set, outL_len]
  by_cases hj : m = j
  · subst hj
    rw [if_pos rfl, if_pos hm]
    simp [outL, hm]
  · rw [if_neg hj]
    simp only [outL, List.getElem?_map]
    by_cases hl : j < 18
    · rw [List.getElem?_range hl]
      simp only [Option.map_some]
      congr 1
      by_cases h1 : j < m
      · rw [if_pos h1, if_pos (by omega)]
      · rw [if_neg h1, if_neg (by omega)]
    · rw [List.getElem?_eq_none (by simpa using hl)]
      rfl
theorem outL_done (g : Nat → Nat) : outL g 18 = ((List.range 18).map g).map cU64 := by
  unfold outL
  rw [List.map_map]
  refine List.map_congr_left fun j hj => ?_
  rw [if_pos (List.mem_range.1 hj)]
  rfl
theorem outL_one (g : Nat → Nat) (m : Nat) : ∀ x ∈ outL g m, x.oneCell' = true := fun x hx => by
  obtain ⟨j, _, rfl⟩ := List.mem_map.1 hx
  split <;> rfl
theorem outL_at (g : Nat → Nat) (m j : Nat) (hj : j < 18) : (outL g m)[j]? = some (if j < m then cU64 (g j) else cU64 0) := by simp [outL, hj]
theorem ret_cell18 {P : Program} {fn : Func} {R : Ending → World → Prop} {p : Tmp} {ty : TypeId} {d : TypeDesc} {W : World} {B : Nat} {T : TypeId} {L : List Value} {tm : Array Value} (hres : fn.results = #[.cell p ty]) (hb : Blk W B T L)
    (hu : P.underlying ty = some d) (hd : (match d with | .struct _ | .array _ _ => true | _ => false) = true) (hi : (P.info? ty).map (·.size) = some L.length) (hp : tm.getD p undef = .pointer (some ⟨B, 0, none⟩))
    (hR : R (.returned (.agg L.toArray)) W) : bodyPost P fn R .ret { tmps := tm, defers := [] } W := by
  refine bodyPost_ret (v := .agg L.toArray) ?_ rfl hR
  exact results_cell_row hres tm W B T L.toArray (0, 0) d hp hb hu hd (by simpa using hi)
set_option maxRecDepth 100000 in
set_option maxHeartbeats 1000000 in
theorem eachB_calls (b2 b3 : Nat) (g : Nat → Nat) (L : List Value) (hL : L.length = 18) (w : World)
    (hf : ∀ (k : Nat) (x : Value), k < 18 → L[k]? = some x → ∀ W, Ext w W → Calls Tryz.prog 193 #[.int .i64 (k : Int), x, .pointer (some ⟨b2, 0, none⟩), .pointer (some ⟨b3, 0, none⟩)] W fun e w' => e = .returned (cU64 (g k)) ∧ Ext W w') :
    Calls Tryz.prog 192 #[.agg L.toArray, .func (.func 193) #[] #[.pointer (some ⟨b2, 0, none⟩), .pointer (some ⟨b3, 0, none⟩)]] w fun e w' => e = .returned (.agg (outL g 18).toArray) ∧ Ext w w' := by
  have HF := Lib.hid hf
  clear hf
  go_enter Tryz.func192, Tryz.ntmps192
  go_upto_region 2 with (fail)
  have b0 := ((Blk.new w 290 L).ext ((Ext.rfl' _).alloc (.cells #[.int .u64 0, .int .u64 0, .int .u64 0, .int .u64 0, .int .u64 0, .int .u64 0, .int .u64 0, .int .u64 0, .int .u64 0, .int .u64 0, .int .u64 0, .int .u64 0, .int .u64 0, .int .u64 0, .int .u64 0, .int .u64 0, .int .u64 0, .int .u64 0] 35))).ext ((Ext.rfl' _).alloc (.cells #[.int .u64 0, .int .u64 0, .int .u64 0, .int .u64 0, .int .u64 0, .int .u64 0, .int .u64 0, .int .u64 0, .int .u64 0, .int .u64 0, .int .u64 0, .int .u64 0, .int .u64 0, .int .u64 0, .int .u64 0, .int .u64 0, .int .u64 0, .int .u64 0] 35))
  have b1 := (Blk.new (w.alloc (.cells L.toArray 290)) 35 (outL g 0)).ext ((Ext.rfl' _).alloc (.cells #[.int .u64 0, .int .u64 0, .int .u64 0, .int .u64 0, .int .u64 0, .int .u64 0, .int .u64 0, .int .u64 0, .int .u64 0, .int .u64 0, .int .u64 0, .int .u64 0, .int .u64 0, .int .u64 0, .int .u64 0, .int .u64 0, .int .u64 0, .int .u64 0] 35))
  have b2' := Blk.new ((w.alloc (.cells L.toArray 290)).alloc (.cells #[.int .u64 0, .int .u64 0, .int .u64 0, .int .u64 0, .int .u64 0, .int .u64 0, .int .u64 0, .int .u64 0, .int .u64 0, .int .u64 0, .int .u64 0, .int .u64 0, .int .u64 0, .int .u64 0, .int .u64 0, .int .u64 0, .int .u64 0, .int .u64 0] 35)) 35 (outL g 0)
  have hE := (((Ext.rfl' w).alloc (.cells L.toArray 290)).alloc (.cells #[.int .u64 0, .int .u64 0, .int .u64 0, .int .u64 0, .int .u64 0, .int .u64 0, .int .u64 0, .int .u64 0, .int .u64 0, .int .u64 0, .int .u64 0, .int .u64 0, .int .u64 0, .int .u64 0, .int .u64 0, .int .u64 0, .int .u64 0, .int .u64 0] 35)).alloc (.cells #[.int .u64 0, .int .u64 0, .int .u64 0, .int .u64 0, .int .u64 0, .int .u64 0, .int .u64 0, .int .u64 0, .int .u64 0, .int .u64 0, .int .u64 0, .int .u64 0, .int .u64 0, .int .u64 0, .int .u64 0, .int .u64 0, .int .u64 0, .int .u64 0] 35)
  rw [World.size_alloc] at b1
  rw [World.size_alloc, World.size_alloc] at b2'
  change Blk (((w.alloc (.cells L.toArray 290)).alloc (.cells #[.int .u64 0, .int .u64 0, .int .u64 0, .int .u64 0, .int .u64 0, .int .u64 0, .int .u64 0, .int .u64 0, .int .u64 0, .int .u64 0, .int .u64 0, .int .u64 0, .int .u64 0, .int .u64 0, .int .u64 0, .int .u64 0, .int .u64 0, .int .u64 0] 35)).alloc (.cells #[.int .u64 0, .int .u64 0, .int .u64 0, .int .u64 0, .int .u64 0, .int .u64 0, .int .u64 0, .int .u64 0, .int .u64 0, .int .u64 0, .int .u64 0, .int .u64 0, .int .u64 0, .int .u64 0, .int .u64 0, .int .u64 0, .int .u64 0, .int .u64 0] 35)) (w.heap.size + 1) 35 (outL g 0) at b1
  change Blk (((w.alloc (.cells L.toArray 290)).alloc (.cells #[.int .u64 0, .int .u64 0, .int .u64 0, .int .u64 0, .int .u64 0, .int .u64 0, .int .u64 0, .int .u64 0, .int .u64 0, .int .u64 0, .int .u64 0, .int .u64 0, .int .u64 0, .int .u64 0, .int .u64 0, .int .u64 0, .int .u64 0, .int .u64 0] 35)).alloc (.cells #[.int .u64 0, .int .u64 0, .int .u64 0, .int .u64 0, .int .u64 0, .int .u64 0, .int .u64 0, .int .u64 0, .int .u64 0, .int .u64 0, .int .u64 0, .int .u64 0, .int .u64 0, .int .u64 0, .int .u64 0, .int .u64 0, .int .u64 0, .int .u64 0] 35)) (w.heap.size + 1 + 1) 35 (outL g 0) at b2'
  generalize ((w.alloc (.cells L.toArray 290)).alloc (.cells #[.int .u64 0, .int .u64 0, .int .u64 0, .int .u64 0, .int .u64 0, .int .u64 0, .int .u64 0, .int .u64 0, .int .u64 0, .int .u64 0, .int .u64 0, .int .u64 0, .int .u64 0, .int .u64 0, .int .u64 0, .int .u64 0, .int .u64 0, .int .u64 0] 35)).alloc (.cells #[.int .u64 0, .int .u64 0, .int .u64 0, .int .u64 0, .int .u64 0, .int .u64 0, .int .u64 0, .int .u64 0, .int .u64 0, .int .u64 0, .int .u64 0, .int .u64 0, .int .u64 0, .int .u64 0, .int .u64 0, .int .u64 0, .int .u64 0, .int .u64 0] 35) = W0 at *
  have HB1 := Lib.hid b1
  have HB2 := Lib.hid b2'
  have HE := Lib.hid hE
  have hW : w.heap.size + 1 + 1 < W0.heap.size := b2'.lt
  clear b1 b2' hE
  go_wp2_with (refine wpList_load_row rfl _ _ rfl w.heap.size rfl 290 L.toArray (0, 0) _ b0 Tryz.underlying290 rfl (by rw [List.size_toArray, hL]; rfl) ?_)
  clear b0
  go_loopw [9] (fun i wr => ∃ k : Nat, k ≤ 18 ∧ i = .int .i64 (k : Int) ∧ Blk wr (w.heap.size + 1) 35 (outL g 0) ∧ Blk wr (w.heap.size + 1 + 1) 35 (outL g k) ∧ Ext w wr) (fun i _ => 18 - (intOf i).toNat)
  case atStart => exact ⟨0, by omega, rfl, HB1.out, HB2.out, HE.out⟩
  case round =>
    obtain ⟨k, hk, rfl, h1, h2, hE⟩ := hrel
    by_cases hlt : k < 18
    · obtain ⟨x, hx⟩ : ∃ x, L[k]? = some x := ⟨_, List.getElem?_eq_getElem (by omega)⟩
      have hix : ∀ w', (Instr.index 290 (.agg L.toArray) (.int .i64 (k : Int))).run Tryz.prog w' = .ok x w' := fun w' => run_index_arr 290 4 18 _ _ k x _ Tryz.underlying290 Tryz.underlying4 rfl rfl hlt (by simpa using hx)
      have HC := Lib.hid (HF.out k x hlt hx wr hE)
      have HS := Lib.hid (outL_set g k hlt)
      have H1 := Lib.hid h1
      have H2 := Lib.hid h2
      have HEE := Lib.hid hE
      clear h1 h2 hE
      go_wp2_with fail
      refine HC.out.mono ?_
      rintro e w1 ⟨rfl, hx1⟩
      have h2 := H2.out.ext hx1
      have h1 := H1.out.ext hx1
      have hE1 := HEE.out.tr hx1
      have hc := h2.cell (outL_at g k k hlt)
      have hfz := h2.frozen k
      clear hx1
      go_upto_region 6 with (fail)
      have h3 := h2.set k (cU64 (g k))
      rw [HS.out] at h3
      have h4 := h1.other (x := ⟨w.heap.size + 1 + 1, k, none⟩) (by show w.heap.size + 1 ≠ w.heap.size + 1 + 1; omega) (cU64 (g k))
      have hE4 : Ext w (w1.setCell ⟨w.heap.size + 1 + 1, k, none⟩ (cU64 (g k))) := Below.setCell hE1 (by show w.heap.size ≤ w.heap.size + 1 + 1; omega) _
      have HF4 := Lib.hid (And.intro h4 (And.intro h3 hE4))
      clear h1 h2 h3 h4 hE1 hE4 hc hfz
      go_wp2
      go_roundw
      case rel => exact ⟨k + 1, hlt, by go_num, HF4.out.1, HF4.out.2.1, HF4.out.2.2⟩
      case measure => simp [intOf]; omega
    · obtain rfl : k = 18 := by omega
      have hs18 : (outL g 18).toArray.size = 18 := by rw [List.size_toArray, outL_len]
      have hth : wr.there (w.heap.size + 1) 0 (outL g 18).toArray.size := by
        have h := h1.there
        rw [outL_len] at h
        rw [hs18]
        exact h
      have hone := all_oneCell_toArray (outL_one g 18)
      have hi18 : (Tryz.prog.info? 35).map (·.size) = some (outL g 18).toArray.size := by rw [hs18]; rfl
      have hput : Blk (wr.setCells (w.heap.size + 1) 0 (outL g 18)) (w.heap.size + 1) 35 (outL g 18) ∧ Ext w (wr.setCells (w.heap.size + 1) 0 (outL g 18)) := ⟨h1.put (by rw [outL_len, outL_len]), Ext.setCells (by omega) _ _ _ hE⟩
      have hlen18 := outL_len g 18
      generalize hO : outL g 18 = O at *
      have HO := Lib.hid hO
      clear hO
      clear HF hW HB1 HB2 HE h1 hE hs18
      go_wp2_with (first
        | (refine wpList_store_mid rfl _ _ _ rfl (w.heap.size + 1) 0 O.toArray rfl rfl hth hi18 hone ?_; rw [List.toList_toArray])
        | (refine wpList_load_row rfl _ _ rfl (w.heap.size + 1 + 1) rfl 35 O.toArray (0, 0) _ h2 Tryz.underlying35 rfl hi18 ?_))
      exact ret_cell18 rfl hput.1 Tryz.underlying35 rfl (by rw [hlen18]; rfl) rfl ⟨by rw [HO.out], hput.2⟩
set_option maxRecDepth 100000 in
set_option maxHeartbeats 1000000 in
theorem eachP_calls  (g : Nat → Nat) (L : List Value) (hL : L.length = 18) (w : World)
    (hf : ∀ (k : Nat) (x : Value), k < 18 → L[k]? = some x → ∀ W, Ext w W → Calls Tryz.prog 190 #[.int .i64 (k : Int), x] W fun e w' => e = .returned (cU64 (g k)) ∧ Ext W w') :
    Calls Tryz.prog 189 #[.agg L.toArray, .func (.func 190) #[] #[]] w fun e w' => e = .returned (.agg (outL g 18).toArray) ∧ Ext w w' := by
  have HF := Lib.hid hf
  clear hf
  go_enter Tryz.func189, Tryz.ntmps189
  go_upto_region 2 with (fail)
  have b0 := ((Blk.new w 35 L).ext ((Ext.rfl' _).alloc (.cells #[.int .u64 0, .int .u64 0, .int .u64 0, .int .u64 0, .int .u64 0, .int .u64 0, .int .u64 0, .int .u64 0, .int .u64 0, .int .u64 0, .int .u64 0, .int .u64 0, .int .u64 0, .int .u64 0, .int .u64 0, .int .u64 0, .int .u64 0, .int .u64 0] 35))).ext ((Ext.rfl' _).alloc (.cells #[.int .u64 0, .int .u64 0, .int .u64 0, .int .u64 0, .int .u64 0, .int .u64 0, .int .u64 0, .int .u64 0, .int .u64 0, .int .u64 0, .int .u64 0, .int .u64 0, .int .u64 0, .int .u64 0, .int .u64 0, .int .u64 0, .int .u64 0, .int .u64 0] 35))
  have b1 := (Blk.new (w.alloc (.cells L.toArray 35)) 35 (outL g 0)).ext ((Ext.rfl' _).alloc (.cells #[.int .u64 0, .int .u64 0, .int .u64 0, .int .u64 0, .int .u64 0, .int .u64 0, .int .u64 0, .int .u64 0, .int .u64 0, .int .u64 0, .int .u64 0, .int .u64 0, .int .u64 0, .int .u64 0, .int .u64 0, .int .u64 0, .int .u64 0, .int .u64 0] 35))
  have b2' := Blk.new ((w.alloc (.cells L.toArray 35)).alloc (.cells #[.int .u64 0, .int .u64 0, .int .u64 0, .int .u64 0, .int .u64 0, .int .u64 0, .int .u64 0, .int .u64 0, .int .u64 0, .int .u64 0, .int .u64 0, .int .u64 0, .int .u64 0, .int .u64 0, .int .u64 0, .int .u64 0, .int .u64 0, .int .u64 0] 35)) 35 (outL g 0)
  have hE := (((Ext.rfl' w).alloc (.cells L.toArray 35)).alloc (.cells #[.int .u64 0, .int .u64 0, .int .u64 0, .int .u64 0, .int .u64 0, .int .u64 0, .int .u64 0, .int .u64 0, .int .u64 0, .int .u64 0, .int .u64 0, .int .u64 0, .int .u64 0, .int .u64 0, .int .u64 0, .int .u64 0, .int .u64 0, .int .u64 0] 35)).alloc (.cells #[.int .u64 0, .int .u64 0, .int .u64 0, .int .u64 0, .int .u64 0, .int .u64 0, .int .u64 0, .int .u64 0, .int .u64 0, .int .u64 0, .int .u64 0, .int .u64 0, .int .u64 0, .int .u64 0, .int .u64 0, .int .u64 0, .int .u64 0, .int .u64 0] 35)
  rw [World.size_alloc] at b1
  rw [World.size_alloc, World.size_alloc] at b2'
  change Blk (((w.alloc (.cells L.toArray 35)).alloc (.cells #[.int .u64 0, .int .u64 0, .int .u64 0, .int .u64 0, .int .u64 0, .int .u64 0, .int .u64 0, .int .u64 0, .int .u64 0, .int .u64 0, .int .u64 0, .int .u64 0, .int .u64 0, .int .u64 0, .int .u64 0, .int .u64 0, .int .u64 0, .int .u64 0] 35)).alloc (.cells #[.int .u64 0, .int .u64 0, .int .u64 0, .int .u64 0, .int .u64 0, .int .u64 0, .int .u64 0, .int .u64 0, .int .u64 0, .int .u64 0, .int .u64 0, .int .u64 0, .int .u64 0, .int .u64 0, .int .u64 0, .int .u64 0, .int .u64 0, .int .u64 0] 35)) (w.heap.size + 1) 35 (outL g 0) at b1
  change Blk (((w.alloc (.cells L.toArray 35)).alloc (.cells #[.int .u64 0, .int .u64 0, .int .u64 0, .int .u64 0, .int .u64 0, .int .u64 0, .int .u64 0, .int .u64 0, .int .u64 0, .int .u64 0, .int .u64 0, .int .u64 0, .int .u64 0, .int .u64 0, .int .u64 0, .int .u64 0, .int .u64 0, .int .u64 0] 35)).alloc (.cells #[.int .u64 0, .int .u64 0, .int .u64 0, .int .u64 0, .int .u64 0, .int .u64 0, .int .u64 0, .int .u64 0, .int .u64 0, .int .u64 0, .int .u64 0, .int .u64 0, .int .u64 0, .int .u64 0, .int .u64 0, .int .u64 0, .int .u64 0, .int .u64 0] 35)) (w.heap.size + 1 + 1) 35 (outL g 0) at b2'
  generalize ((w.alloc (.cells L.toArray 35)).alloc (.cells #[.int .u64 0, .int .u64 0, .int .u64 0, .int .u64 0, .int .u64 0, .int .u64 0, .int .u64 0, .int .u64 0, .int .u64 0, .int .u64 0, .int .u64 0, .int .u64 0, .int .u64 0, .int .u64 0, .int .u64 0, .int .u64 0, .int .u64 0, .int .u64 0] 35)).alloc (.cells #[.int .u64 0, .int .u64 0, .int .u64 0, .int .u64 0, .int .u64 0, .int .u64 0, .int .u64 0, .int .u64 0, .int .u64 0, .int .u64 0, .int .u64 0, .int .u64 0, .int .u64 0, .int .u64 0, .int .u64 0, .int .u64 0, .int .u64 0, .int .u64 0] 35) = W0 at *
  have HB1 := Lib.hid b1
  have HB2 := Lib.hid b2'
  have HE := Lib.hid hE
  have hW : w.heap.size + 1 + 1 < W0.heap.size := b2'.lt
  clear b1 b2' hE
  go_wp2_with (refine wpList_load_row rfl _ _ rfl w.heap.size rfl 35 L.toArray (0, 0) _ b0 Tryz.underlying35 rfl (by rw [List.size_toArray, hL]; rfl) ?_)
  clear b0
  go_loopw [9] (fun i wr => ∃ k : Nat, k ≤ 18 ∧ i = .int .i64 (k : Int) ∧ Blk wr (w.heap.size + 1) 35 (outL g 0) ∧ Blk wr (w.heap.size + 1 + 1) 35 (outL g k) ∧ Ext w wr) (fun i _ => 18 - (intOf i).toNat)
  case atStart => exact ⟨0, by omega, rfl, HB1.out, HB2.out, HE.out⟩
  case round =>
    obtain ⟨k, hk, rfl, h1, h2, hE⟩ := hrel
    by_cases hlt : k < 18
    · obtain ⟨x, hx⟩ : ∃ x, L[k]? = some x := ⟨_, List.getElem?_eq_getElem (by omega)⟩
      have hix : ∀ w', (Instr.index 35 (.agg L.toArray) (.int .i64 (k : Int))).run Tryz.prog w' = .ok x w' := fun w' => run_index_arr 35 34 18 _ _ k x _ Tryz.underlying35 Tryz.underlying34 rfl rfl hlt (by simpa using hx)
      have HC := Lib.hid (HF.out k x hlt hx wr hE)
      have HS := Lib.hid (outL_set g k hlt)
      have H1 := Lib.hid h1
      have H2 := Lib.hid h2
      have HEE := Lib.hid hE
      clear h1 h2 hE
      go_wp2_with fail
      refine HC.out.mono ?_
      rintro e w1 ⟨rfl, hx1⟩
      have h2 := H2.out.ext hx1
      have h1 := H1.out.ext hx1
      have hE1 := HEE.out.tr hx1
      have hc := h2.cell (outL_at g k k hlt)
      have hfz := h2.frozen k
      clear hx1
      go_upto_region 6 with (fail)
      have h3 := h2.set k (cU64 (g k))
      rw [HS.out] at h3
      have h4 := h1.other (x := ⟨w.heap.size + 1 + 1, k, none⟩) (by show w.heap.size + 1 ≠ w.heap.size + 1 + 1; omega) (cU64 (g k))
      have hE4 : Ext w (w1.setCell ⟨w.heap.size + 1 + 1, k, none⟩ (cU64 (g k))) := Below.setCell hE1 (by show w.heap.size ≤ w.heap.size + 1 + 1; omega) _
      have HF4 := Lib.hid (And.intro h4 (And.intro h3 hE4))
      clear h1 h2 h3 h4 hE1 hE4 hc hfz
      go_wp2
      go_roundw
      case rel => exact ⟨k + 1, hlt, by go_num, HF4.out.1, HF4.out.2.1, HF4.out.2.2⟩
      case measure => simp [intOf]; omega
    · obtain rfl : k = 18 := by omega
      have hs18 : (outL g 18).toArray.size = 18 := by rw [List.size_toArray, outL_len]
      have hth : wr.there (w.heap.size + 1) 0 (outL g 18).toArray.size := by
        have h := h1.there
        rw [outL_len] at h
        rw [hs18]
        exact h
      have hone := all_oneCell_toArray (outL_one g 18)
      have hi18 : (Tryz.prog.info? 35).map (·.size) = some (outL g 18).toArray.size := by rw [hs18]; rfl
      have hput : Blk (wr.setCells (w.heap.size + 1) 0 (outL g 18)) (w.heap.size + 1) 35 (outL g 18) ∧ Ext w (wr.setCells (w.heap.size + 1) 0 (outL g 18)) := ⟨h1.put (by rw [outL_len, outL_len]), Ext.setCells (by omega) _ _ _ hE⟩
      have hlen18 := outL_len g 18
      generalize hO : outL g 18 = O at *
      have HO := Lib.hid hO
      clear hO
      clear HF hW HB1 HB2 HE h1 hE hs18
      go_wp2_with (first
        | (refine wpList_store_mid rfl _ _ _ rfl (w.heap.size + 1) 0 O.toArray rfl rfl hth hi18 hone ?_; rw [List.toList_toArray])
        | (refine wpList_load_row rfl _ _ rfl (w.heap.size + 1 + 1) rfl 35 O.toArray (0, 0) _ h2 Tryz.underlying35 rfl hi18 ?_))
      exact ret_cell18 rfl hput.1 Tryz.underlying35 rfl (by rw [hlen18]; rfl) rfl ⟨by rw [HO.out], hput.2⟩
set_option maxRecDepth 100000 in
set_option maxHeartbeats 1000000 in
theorem eachS_calls (b2 : Nat) (g : Nat → Nat) (L : List Value) (hL : L.length = 18) (w : World)
    (hf : ∀ (k : Nat) (x : Value), k < 18 → L[k]? = some x → ∀ W, Ext w W → Calls Tryz.prog 200 #[.int .i64 (k : Int), x, .pointer (some ⟨b2, 0, none⟩)] W fun e w' => e = .returned (cU64 (g k)) ∧ Ext W w') :
    Calls Tryz.prog 189 #[.agg L.toArray, .func (.func 200) #[] #[.pointer (some ⟨b2, 0, none⟩)]] w fun e w' => e = .returned (.agg (outL g 18).toArray) ∧ Ext w w' := by
  have HF := Lib.hid hf
  clear hf
  go_enter Tryz.func189, Tryz.ntmps189
  go_upto_region 2 with (fail)
  have b0 := ((Blk.new w 35 L).ext ((Ext.rfl' _).alloc (.cells #[.int .u64 0, .int .u64 0, .int .u64 0, .int .u64 0, .int .u64 0, .int .u64 0, .int .u64 0, .int .u64 0, .int .u64 0, .int .u64 0, .int .u64 0, .int .u64 0, .int .u64 0, .int .u64 0, .int .u64 0, .int .u64 0, .int .u64 0, .int .u64 0] 35))).ext ((Ext.rfl' _).alloc (.cells #[.int .u64 0, .int .u64 0, .int .u64 0, .int .u64 0, .int .u64 0, .int .u64 0, .int .u64 0, .int .u64 0, .int .u64 0, .int .u64 0, .int .u64 0, .int .u64 0, .int .u64 0, .int .u64 0, .int .u64 0, .int .u64 0, .int .u64 0, .int .u64 0] 35))
  have b1 := (Blk.new (w.alloc (.cells L.toArray 35)) 35 (outL g 0)).ext ((Ext.rfl' _).alloc (.cells #[.int .u64 0, .int .u64 0, .int .u64 0, .int .u64 0, .int .u64 0, .int .u64 0, .int .u64 0, .int .u64 0, .int .u64 0, .int .u64 0, .int .u64 0, .int .u64 0, .int .u64 0, .int .u64 0, .int .u64 0, .int .u64 0, .int .u64 0, .int .u64 0] 35))
  have b2' := Blk.new ((w.alloc (.cells L.toArray 35)).alloc (.cells #[.int .u64 0, .int .u64 0, .int .u64 0, .int .u64 0, .int .u64 0, .int .u64 0, .int .u64 0, .int .u64 0, .int .u64 0, .int .u64 0, .int .u64 0, .int .u64 0, .int .u64 0, .int .u64 0, .int .u64 0, .int .u64 0, .int .u64 0, .int .u64 0] 35)) 35 (outL g 0)
  have hE := (((Ext.rfl' w).alloc (.cells L.toArray 35)).alloc (.cells #[.int .u64 0, .int .u64 0, .int .u64 0, .int .u64 0, .int .u64 0, .int .u64 0, .int .u64 0, .int .u64 0, .int .u64 0, .int .u64 0, .int .u64 0, .int .u64 0, .int .u64 0, .int .u64 0, .int .u64 0, .int .u64 0, .int .u64 0, .int .u64 0] 35)).alloc (.cells #[.int .u64 0, .int .u64 0, .int .u64 0, .int .u64 0, .int .u64 0, .int .u64 0, .int .u64 0, .int .u64 0, .int .u64 0, .int .u64 0, .int .u64 0, .int .u64 0, .int .u64 0, .int .u64 0, .int .u64 0, .int .u64 0, .int .u64 0, .int .u64 0] 35)
  rw [World.size_alloc] at b1
  rw [World.size_alloc, World.size_alloc] at b2'
  change Blk (((w.alloc (.cells L.toArray 35)).alloc (.cells #[.int .u64 0, .int .u64 0, .int .u64 0, .int .u64 0, .int .u64 0, .int .u64 0, .int .u64 0, .int .u64 0, .int .u64 0, .int .u64 0, .int .u64 0, .int .u64 0, .int .u64 0, .int .u64 0, .int .u64 0, .int .u64 0, .int .u64 0, .int .u64 0] 35)).alloc (.cells #[.int .u64 0, .int .u64 0, .int .u64 0, .int .u64 0, .int .u64 0, .int .u64 0, .int .u64 0, .int .u64 0, .int .u64 0, .int .u64 0, .int .u64 0, .int .u64 0, .int .u64 0, .int .u64 0, .int .u64 0, .int .u64 0, .int .u64 0, .int .u64 0] 35)) (w.heap.size + 1) 35 (outL g 0) at b1
  change Blk (((w.alloc (.cells L.toArray 35)).alloc (.cells #[.int .u64 0, .int .u64 0, .int .u64 0, .int .u64 0, .int .u64 0, .int .u64 0, .int .u64 0, .int .u64 0, .int .u64 0, .int .u64 0, .int .u64 0, .int .u64 0, .int .u64 0, .int .u64 0, .int .u64 0, .int .u64 0, .int .u64 0, .int .u64 0] 35)).alloc (.cells #[.int .u64 0, .int .u64 0, .int .u64 0, .int .u64 0, .int .u64 0, .int .u64 0, .int .u64 0, .int .u64 0, .int .u64 0, .int .u64 0, .int .u64 0, .int .u64 0, .int .u64 0, .int .u64 0, .int .u64 0, .int .u64 0, .int .u64 0, .int .u64 0] 35)) (w.heap.size + 1 + 1) 35 (outL g 0) at b2'
  generalize ((w.alloc (.cells L.toArray 35)).alloc (.cells #[.int .u64 0, .int .u64 0, .int .u64 0, .int .u64 0, .int .u64 0, .int .u64 0, .int .u64 0, .int .u64 0, .int .u64 0, .int .u64 0, .int .u64 0, .int .u64 0, .int .u64 0, .int .u64 0, .int .u64 0, .int .u64 0, .int .u64 0, .int .u64 0] 35)).alloc (.cells #[.int .u64 0, .int .u64 0, .int .u64 0, .int .u64 0, .int .u64 0, .int .u64 0, .int .u64 0, .int .u64 0, .int .u64 0, .int .u64 0, .int .u64 0, .int .u64 0, .int .u64 0, .int .u64 0, .int .u64 0, .int .u64 0, .int .u64 0, .int .u64 0] 35) = W0 at *
  have HB1 := Lib.hid b1
  have HB2 := Lib.hid b2'
  have HE := Lib.hid hE
  have hW : w.heap.size + 1 + 1 < W0.heap.size := b2'.lt
  clear b1 b2' hE
  go_wp2_with (refine wpList_load_row rfl _ _ rfl w.heap.size rfl 35 L.toArray (0, 0) _ b0 Tryz.underlying35 rfl (by rw [List.size_toArray, hL]; rfl) ?_)
  clear b0
  go_loopw [9] (fun i wr => ∃ k : Nat, k ≤ 18 ∧ i = .int .i64 (k : Int) ∧ Blk wr (w.heap.size + 1) 35 (outL g 0) ∧ Blk wr (w.heap.size + 1 + 1) 35 (outL g k) ∧ Ext w wr) (fun i _ => 18 - (intOf i).toNat)
  case atStart => exact ⟨0, by omega, rfl, HB1.out, HB2.out, HE.out⟩
  case round =>
    obtain ⟨k, hk, rfl, h1, h2, hE⟩ := hrel
    by_cases hlt : k < 18
    · obtain ⟨x, hx⟩ : ∃ x, L[k]? = some x := ⟨_, List.getElem?_eq_getElem (by omega)⟩
      have hix : ∀ w', (Instr.index 35 (.agg L.toArray) (.int .i64 (k : Int))).run Tryz.prog w' = .ok x w' := fun w' => run_index_arr 35 34 18 _ _ k x _ Tryz.underlying35 Tryz.underlying34 rfl rfl hlt (by simpa using hx)
      have HC := Lib.hid (HF.out k x hlt hx wr hE)
      have HS := Lib.hid (outL_set g k hlt)
      have H1 := Lib.hid h1
      have H2 := Lib.hid h2
      have HEE := Lib.hid hE
      clear h1 h2 hE
      go_wp2_with fail
      refine HC.out.mono ?_
      rintro e w1 ⟨rfl, hx1⟩
      have h2 := H2.out.ext hx1
      have h1 := H1.out.ext hx1
      have hE1 := HEE.out.tr hx1
      have hc := h2.cell (outL_at g k k hlt)
      have hfz := h2.frozen k
      clear hx1
      go_upto_region 6 with (fail)
      have h3 := h2.set k (cU64 (g k))
      rw [HS.out] at h3
      have h4 := h1.other (x := ⟨w.heap.size + 1 + 1, k, none⟩) (by show w.heap.size + 1 ≠ w.heap.size + 1 + 1; omega) (cU64 (g k))
      have hE4 : Ext w (w1.setCell ⟨w.heap.size + 1 + 1, k, none⟩ (cU64 (g k))) := Below.setCell hE1 (by show w.heap.size ≤ w.heap.size + 1 + 1; omega) _
      have HF4 := Lib.hid (And.intro h4 (And.intro h3 hE4))
      clear h1 h2 h3 h4 hE1 hE4 hc hfz
      go_wp2
      go_roundw
      case rel => exact ⟨k + 1, hlt, by go_num, HF4.out.1, HF4.out.2.1, HF4.out.2.2⟩
      case measure => simp [intOf]; omega
    · obtain rfl : k = 18 := by omega
      have hs18 : (outL g 18).toArray.size = 18 := by rw [List.size_toArray, outL_len]
      have hth : wr.there (w.heap.size + 1) 0 (outL g 18).toArray.size := by
        have h := h1.there
        rw [outL_len] at h
        rw [hs18]
        exact h
      have hone := all_oneCell_toArray (outL_one g 18)
      have hi18 : (Tryz.prog.info? 35).map (·.size) = some (outL g 18).toArray.size := by rw [hs18]; rfl
      have hput : Blk (wr.setCells (w.heap.size + 1) 0 (outL g 18)) (w.heap.size + 1) 35 (outL g 18) ∧ Ext w (wr.setCells (w.heap.size + 1) 0 (outL g 18)) := ⟨h1.put (by rw [outL_len, outL_len]), Ext.setCells (by omega) _ _ _ hE⟩
      have hlen18 := outL_len g 18
      generalize hO : outL g 18 = O at *
      have HO := Lib.hid hO
      clear hO
      clear HF hW HB1 HB2 HE h1 hE hs18
      go_wp2_with (first
        | (refine wpList_store_mid rfl _ _ _ rfl (w.heap.size + 1) 0 O.toArray rfl rfl hth hi18 hone ?_; rw [List.toList_toArray])
        | (refine wpList_load_row rfl _ _ rfl (w.heap.size + 1 + 1) rfl 35 O.toArray (0, 0) _ h2 Tryz.underlying35 rfl hi18 ?_))
      exact ret_cell18 rfl hput.1 Tryz.underlying35 rfl (by rw [hlen18]; rfl) rfl ⟨by rw [HO.out], hput.2⟩
set_option maxRecDepth 100000 in
set_option maxHeartbeats 1000000 in
theorem eachR_calls (b2 : Nat) (g : Nat → Nat) (L : List Value) (hL : L.length = 18) (w : World)
    (hf : ∀ (k : Nat) (x : Value), k < 18 → L[k]? = some x → ∀ W, Ext w W → Calls Tryz.prog 242 #[.int .i64 (k : Int), x, .pointer (some ⟨b2, 0, none⟩)] W fun e w' => e = .returned (cU64 (g k)) ∧ Ext W w') :
    Calls Tryz.prog 189 #[.agg L.toArray, .func (.func 242) #[] #[.pointer (some ⟨b2, 0, none⟩)]] w fun e w' => e = .returned (.agg (outL g 18).toArray) ∧ Ext w w' := by
  have HF := Lib.hid hf
  clear hf
  go_enter Tryz.func189, Tryz.ntmps189
  go_upto_region 2 with (fail)
  have b0 := ((Blk.new w 35 L).ext ((Ext.rfl' _).alloc (.cells #[.int .u64 0, .int .u64 0, .int .u64 0, .int .u64 0, .int .u64 0, .int .u64 0, .int .u64 0, .int .u64 0, .int .u64 0, .int .u64 0, .int .u64 0, .int .u64 0, .int .u64 0, .int .u64 0, .int .u64 0, .int .u64 0, .int .u64 0, .int .u64 0] 35))).ext ((Ext.rfl' _).alloc (.cells #[.int .u64 0, .int .u64 0, .int .u64 0, .int .u64 0, .int .u64 0, .int .u64 0, .int .u64 0, .int .u64 0, .int .u64 0, .int .u64 0, .int .u64 0, .int .u64 0, .int .u64 0, .int .u64 0, .int .u64 0, .int .u64 0, .int .u64 0, .int .u64 0] 35))
  have b1 := (Blk.new (w.alloc (.cells L.toArray 35)) 35 (outL g 0)).ext ((Ext.rfl' _).alloc (.cells #[.int .u64 0, .int .u64 0, .int .u64 0, .int .u64 0, .int .u64 0, .int .u64 0, .int .u64 0, .int .u64 0, .int .u64 0, .int .u64 0, .int .u64 0, .int .u64 0, .int .u64 0, .int .u64 0, .int .u64 0, .int .u64 0, .int .u64 0, .int .u64 0] 35))
  have b2' := Blk.new ((w.alloc (.cells L.toArray 35)).alloc (.cells #[.int .u64 0, .int .u64 0, .int .u64 0, .int .u64 0, .int .u64 0, .int .u64 0, .int .u64 0, .int .u64 0, .int .u64 0, .int .u64 0, .int .u64 0, .int .u64 0, .int .u64 0, .int .u64 0, .int .u64 0, .int .u64 0, .int .u64 0, .int .u64 0] 35)) 35 (outL g 0)
  have hE := (((Ext.rfl' w).alloc (.cells L.toArray 35)).alloc (.cells #[.int .u64 0, .int .u64 0, .int .u64 0, .int .u64 0, .int .u64 0, .int .u64 0, .int .u64 0, .int .u64 0, .int .u64 0, .int .u64 0, .int .u64 0, .int .u64 0, .int .u64 0, .int .u64 0, .int .u64 0, .int .u64 0, .int .u64 0, .int .u64 0] 35)).alloc (.cells #[.int .u64 0, .int .u64 0, .int .u64 0, .int .u64 0, .int .u64 0, .int .u64 0, .int .u64 0, .int .u64 0, .int .u64 0, .int .u64 0, .int .u64 0, .int .u64 0, .int .u64 0, .int .u64 0, .int .u64 0, .int .u64 0, .int .u64 0, .int .u64 0] 35)
  rw [World.size_alloc] at b1
  rw [World.size_alloc, World.size_alloc] at b2'
  change Blk (((w.alloc (.cells L.toArray 35)).alloc (.cells #[.int .u64 0, .int .u64 0, .int .u64 0, .int .u64 0, .int .u64 0, .int .u64 0, .int .u64 0, .int .u64 0, .int .u64 0, .int .u64 0, .int .u64 0, .int .u64 0, .int .u64 0, .int .u64 0, .int .u64 0, .int .u64 0, .int .u64 0, .int .u64 0] 35)).alloc (.cells #[.int .u64 0, .int .u64 0, .int .u64 0, .int .u64 0, .int .u64 0, .int .u64 0, .int .u64 0, .int .u64 0, .int .u64 0, .int .u64 0, .int .u64 0, .int .u64 0, .int .u64 0, .int .u64 0, .int .u64 0, .int .u64 0, .int .u64 0, .int .u64 0] 35)) (w.heap.size + 1) 35 (outL g 0) at b1
  change Blk (((w.alloc (.cells L.toArray 35)).alloc (.cells #[.int .u64 0, .int .u64 0, .int .u64 0, .int .u64 0, .int .u64 0, .int .u64 0, .int .u64 0, .int .u64 0, .int .u64 0, .int .u64 0, .int .u64 0, .int .u64 0, .int .u64 0, .int .u64 0, .int .u64 0, .int .u64 0, .int .u64 0, .int .u64 0] 35)).alloc (.cells #[.int .u64 0, .int .u64 0, .int .u64 0, .int .u64 0, .int .u64 0, .int .u64 0, .int .u64 0, .int .u64 0, .int .u64 0, .int .u64 0, .int .u64 0, .int .u64 0, .int .u64 0, .int .u64 0, .int .u64 0, .int .u64 0, .int .u64 0, .int .u64 0] 35)) (w.heap.size + 1 + 1) 35 (outL g 0) at b2'
  generalize ((w.alloc (.cells L.toArray 35)).alloc (.cells #[.int .u64 0, .int .u64 0, .int .u64 0, .int .u64 0, .int .u64 0, .int .u64 0, .int .u64 0, .int .u64 0, .int .u64 0, .int .u64 0, .int .u64 0, .int .u64 0, .int .u64 0, .int .u64 0, .int .u64 0, .int .u64 0, .int .u64 0, .int .u64 0] 35)).alloc (.cells #[.int .u64 0, .int .u64 0, .int .u64 0, .int .u64 0, .int .u64 0, .int .u64 0, .int .u64 0, .int .u64 0, .int .u64 0, .int .u64 0, .int .u64 0, .int .u64 0, .int .u64 0, .int .u64 0, .int .u64 0, .int .u64 0, .int .u64 0, .int .u64 0] 35) = W0 at *
  have HB1 := Lib.hid b1
  have HB2 := Lib.hid b2'
  have HE := Lib.hid hE
  have hW : w.heap.size + 1 + 1 < W0.heap.size := b2'.lt
  clear b1 b2' hE
  go_wp2_with (refine wpList_load_row rfl _ _ rfl w.heap.size rfl 35 L.toArray (0, 0) _ b0 Tryz.underlying35 rfl (by rw [List.size_toArray, hL]; rfl) ?_)
  clear b0
  go_loopw [9] (fun i wr => ∃ k : Nat, k ≤ 18 ∧ i = .int .i64 (k : Int) ∧ Blk wr (w.heap.size + 1) 35 (outL g 0) ∧ Blk wr (w.heap.size + 1 + 1) 35 (outL g k) ∧ Ext w wr) (fun i _ => 18 - (intOf i).toNat)
  case atStart => exact ⟨0, by omega, rfl, HB1.out, HB2.out, HE.out⟩
  case round =>
    obtain ⟨k, hk, rfl, h1, h2, hE⟩ := hrel
    by_cases hlt : k < 18
    · obtain ⟨x, hx⟩ : ∃ x, L[k]? = some x := ⟨_, List.getElem?_eq_getElem (by omega)⟩
      have hix : ∀ w', (Instr.index 35 (.agg L.toArray) (.int .i64 (k : Int))).run Tryz.prog w' = .ok x w' := fun w' => run_index_arr 35 34 18 _ _ k x _ Tryz.underlying35 Tryz.underlying34 rfl rfl hlt (by simpa using hx)
      have HC := Lib.hid (HF.out k x hlt hx wr hE)
      have HS := Lib.hid (outL_set g k hlt)
      have H1 := Lib.hid h1
      have H2 := Lib.hid h2
      have HEE := Lib.hid hE
      clear h1 h2 hE
      go_wp2_with fail
      refine HC.out.mono ?_
      rintro e w1 ⟨rfl, hx1⟩
      have h2 := H2.out.ext hx1
      have h1 := H1.out.ext hx1
      have hE1 := HEE.out.tr hx1
      have hc := h2.cell (outL_at g k k hlt)
      have hfz := h2.frozen k
      clear hx1
      go_upto_region 6 with (fail)
      have h3 := h2.set k (cU64 (g k))
      rw [HS.out] at h3
      have h4 := h1.other (x := ⟨w.heap.size + 1 + 1, k, none⟩) (by show w.heap.size + 1 ≠ w.heap.size + 1 + 1; omega) (cU64 (g k))
      have hE4 : Ext w (w1.setCell ⟨w.heap.size + 1 + 1, k, none⟩ (cU64 (g k))) := Below.setCell hE1 (by show w.heap.size ≤ w.heap.size + 1 + 1; omega) _
      have HF4 := Lib.hid (And.intro h4 (And.intro h3 hE4))
      clear h1 h2 h3 h4 hE1 hE4 hc hfz
      go_wp2
      go_roundw
      case rel => exact ⟨k + 1, hlt, by go_num, HF4.out.1, HF4.out.2.1, HF4.out.2.2⟩
      case measure => simp [intOf]; omega
    · obtain rfl : k = 18 := by omega
      have hs18 : (outL g 18).toArray.size = 18 := by rw [List.size_toArray, outL_len]
      have hth : wr.there (w.heap.size + 1) 0 (outL g 18).toArray.size := by
        have h := h1.there
        rw [outL_len] at h
        rw [hs18]
        exact h
      have hone := all_oneCell_toArray (outL_one g 18)
      have hi18 : (Tryz.prog.info? 35).map (·.size) = some (outL g 18).toArray.size := by rw [hs18]; rfl
      have hput : Blk (wr.setCells (w.heap.size + 1) 0 (outL g 18)) (w.heap.size + 1) 35 (outL g 18) ∧ Ext w (wr.setCells (w.heap.size + 1) 0 (outL g 18)) := ⟨h1.put (by rw [outL_len, outL_len]), Ext.setCells (by omega) _ _ _ hE⟩
      have hlen18 := outL_len g 18
      generalize hO : outL g 18 = O at *
      have HO := Lib.hid hO
      clear hO
      clear HF hW HB1 HB2 HE h1 hE hs18
      go_wp2_with (first
        | (refine wpList_store_mid rfl _ _ _ rfl (w.heap.size + 1) 0 O.toArray rfl rfl hth hi18 hone ?_; rw [List.toList_toArray])
        | (refine wpList_load_row rfl _ _ rfl (w.heap.size + 1 + 1) rfl 35 O.toArray (0, 0) _ h2 Tryz.underlying35 rfl hi18 ?_))
      exact ret_cell18 rfl hput.1 Tryz.underlying35 rfl (by rw [hlen18]; rfl) rfl ⟨by rw [HO.out], hput.2⟩
end Go.Proofs.YtbbgmlnfpnomiaaGreatDoor
end

section
/- The walks of package ots above 'each': Secrets, Pub, Digits, Sign, Recover. -/
set_option linter.unusedVariables false
set_option linter.unusedSimpArgs false
namespace Go.Proofs.YtbbgmlnfpnomiaaGreatDoor
open Go.RowKit
abbrev cDg (l : List Nat) : List Value := l.map cU64
abbrev cIs (l : List Nat) : List Value := l.map fun (n : Nat) => Value.int .i64 (n : Int)
theorem cDg_one (l : List Nat) : ∀ x ∈ cDg l, x.oneCell' = true := fun x hx => by
  obtain ⟨j, _, rfl⟩ := List.mem_map.1 hx
  rfl
theorem cIs_one (l : List Nat) : ∀ x ∈ cIs l, x.oneCell' = true := fun x hx => by
  obtain ⟨j, _, rfl⟩ := List.mem_map.1 hx
  rfl
theorem outL_sec (seed leaf : Nat) : outL (K.sec seed leaf) 18 = cDg (K.secs seed leaf) := outL_done _
theorem list_of_getD (l : List Nat) (n : Nat) (h : l.length = n) : (List.range n).map (fun j => l.getD j 0) = l := by
  apply List.ext_getElem?
  intro j
  rw [List.getElem?_map]
  by_cases hj : j < n
  · rw [List.getElem?_range hj]
    simp [List.getD, List.getElem?_eq_getElem (show j < l.length by omega)]
  · rw [List.getElem?_eq_none (by simpa using hj), List.getElem?_eq_none (by omega)]
    rfl
theorem outL_of (l : List Nat) (h : l.length = 18) : outL (fun j => l.getD j 0) 18 = cDg l := by
  rw [outL_done, list_of_getD l 18 h]
/-- A function whose result lies in a variable of 18 cells, made by one call and one store. -/
theorem there18 {W : World} {B : Nat} {T : TypeId} {L : List Value} {O : Array Value} (h : Blk W B T L) (h1 : L.length = 18) (h2 : O.size = 18) : W.there B 0 O.size := by
  have := h.there
  rwa [h1, ← h2] at this
set_option maxRecDepth 100000 in
set_option maxHeartbeats 1000000 in
theorem secrets_calls (seed leaf : Nat) (hs : seed < 18446744073709551616) (hl : leaf ≤ 1000) (w : World) :
    Calls Tryz.prog 113 #[cU64 seed, .int .i64 (leaf : Int)] w fun e w' => e = .returned (.agg (cDg (K.secs seed leaf)).toArray) ∧ Ext w w' := by
  have HE := Lib.hid (fun (W : World) (h2 : ∀ W', Ext W W' → W'.cell? ⟨w.heap.size, 0, none⟩ = some (cU64 seed)) (h3 : ∀ W', Ext W W' → W'.cell? ⟨w.heap.size + 1, 0, none⟩ = some (.int .i64 (leaf : Int))) =>
    eachB_calls w.heap.size (w.heap.size + 1) (K.sec seed leaf) [.bool false, .bool false, .bool false, .bool false, .bool false, .bool false, .bool false, .bool false, .bool false, .bool false, .bool false, .bool false, .bool false, .bool false, .bool false, .bool false, .bool false, .bool false] rfl W (fun k x hk hx W' hW' => by
      rw [show ([.bool false, .bool false, .bool false, .bool false, .bool false, .bool false, .bool false, .bool false, .bool false, .bool false, .bool false, .bool false, .bool false, .bool false, .bool false, .bool false, .bool false, .bool false] : List Value) = List.replicate 18 (.bool false) from rfl, List.getElem?_replicate, if_pos hk] at hx
      cases hx
      exact sec1_calls seed leaf k hs hl hk _ _ W' (h2 W' hW') (h3 W' hW')))
  rw [outL_sec] at HE
  have hlen : (cDg (K.secs seed leaf)).toArray.size = 18 := by rw [List.size_toArray, List.length_map, K.secs_len]
  have hone := all_oneCell_toArray (cDg_one (K.secs seed leaf))
  generalize cDg (K.secs seed leaf) = O at *
  have hi18 : (Tryz.prog.info? 203).map (·.size) = some O.toArray.size := by rw [hlen]; rfl
  have b0 := ((Blk.new w 22 [cU64 seed]).ext ((Ext.rfl' _).alloc (.cells #[.int .i64 (leaf : Int)] 3))).ext ((Ext.rfl' _).alloc (.cells #[.int .u64 0, .int .u64 0, .int .u64 0, .int .u64 0, .int .u64 0, .int .u64 0, .int .u64 0, .int .u64 0, .int .u64 0, .int .u64 0, .int .u64 0, .int .u64 0, .int .u64 0, .int .u64 0, .int .u64 0, .int .u64 0, .int .u64 0, .int .u64 0] 203))
  have b1 := (Blk.new (w.alloc (.cells #[cU64 seed] 22)) 3 [.int .i64 (leaf : Int)]).ext ((Ext.rfl' _).alloc (.cells #[.int .u64 0, .int .u64 0, .int .u64 0, .int .u64 0, .int .u64 0, .int .u64 0, .int .u64 0, .int .u64 0, .int .u64 0, .int .u64 0, .int .u64 0, .int .u64 0, .int .u64 0, .int .u64 0, .int .u64 0, .int .u64 0, .int .u64 0, .int .u64 0] 203))
  have b2 := Blk.new ((w.alloc (.cells #[cU64 seed] 22)).alloc (.cells #[.int .i64 (leaf : Int)] 3)) 203 (outL (fun _ => 0) 0)
  rw [World.size_alloc] at b1
  rw [World.size_alloc, World.size_alloc] at b2
  have hE := (((Ext.rfl' w).alloc (.cells #[cU64 seed] 22)).alloc (.cells #[.int .i64 (leaf : Int)] 3)).alloc (.cells #[.int .u64 0, .int .u64 0, .int .u64 0, .int .u64 0, .int .u64 0, .int .u64 0, .int .u64 0, .int .u64 0, .int .u64 0, .int .u64 0, .int .u64 0, .int .u64 0, .int .u64 0, .int .u64 0, .int .u64 0, .int .u64 0, .int .u64 0, .int .u64 0] 203)
  go_enter Tryz.func113, Tryz.ntmps113
  go_upto_region 1 with (fail)
  change Blk (((w.alloc (.cells #[cU64 seed] 22)).alloc (.cells #[.int .i64 (leaf : Int)] 3)).alloc (.cells #[.int .u64 0, .int .u64 0, .int .u64 0, .int .u64 0, .int .u64 0, .int .u64 0, .int .u64 0, .int .u64 0, .int .u64 0, .int .u64 0, .int .u64 0, .int .u64 0, .int .u64 0, .int .u64 0, .int .u64 0, .int .u64 0, .int .u64 0, .int .u64 0] 203)) (w.heap.size + 1 + 1) 203 (outL (fun _ => 0) 0) at b2
  change Blk (((w.alloc (.cells #[cU64 seed] 22)).alloc (.cells #[.int .i64 (leaf : Int)] 3)).alloc (.cells #[.int .u64 0, .int .u64 0, .int .u64 0, .int .u64 0, .int .u64 0, .int .u64 0, .int .u64 0, .int .u64 0, .int .u64 0, .int .u64 0, .int .u64 0, .int .u64 0, .int .u64 0, .int .u64 0, .int .u64 0, .int .u64 0, .int .u64 0, .int .u64 0] 203)) w.heap.size 22 [cU64 seed] at b0
  change Blk (((w.alloc (.cells #[cU64 seed] 22)).alloc (.cells #[.int .i64 (leaf : Int)] 3)).alloc (.cells #[.int .u64 0, .int .u64 0, .int .u64 0, .int .u64 0, .int .u64 0, .int .u64 0, .int .u64 0, .int .u64 0, .int .u64 0, .int .u64 0, .int .u64 0, .int .u64 0, .int .u64 0, .int .u64 0, .int .u64 0, .int .u64 0, .int .u64 0, .int .u64 0] 203)) (w.heap.size + 1) 3 [.int .i64 (leaf : Int)] at b1
  generalize ((w.alloc (.cells #[cU64 seed] 22)).alloc (.cells #[.int .i64 (leaf : Int)] 3)).alloc (.cells #[.int .u64 0, .int .u64 0, .int .u64 0, .int .u64 0, .int .u64 0, .int .u64 0, .int .u64 0, .int .u64 0, .int .u64 0, .int .u64 0, .int .u64 0, .int .u64 0, .int .u64 0, .int .u64 0, .int .u64 0, .int .u64 0, .int .u64 0, .int .u64 0] 203) = W0 at *
  have HC := Lib.hid (HE.out W0 (fun W' h => (b0.ext h).cell rfl) (fun W' h => (b1.ext h).cell rfl))
  have HB := Lib.hid b2
  have HX := Lib.hid hE
  clear b0 b1 b2 hE HE
  go_wp2_with fail
  refine HC.out.mono ?_
  rintro e w1 ⟨rfl, hx⟩
  have hb := HB.out.ext hx
  have hth := there18 hb (outL_len _ _) hlen
  have hput : Blk (w1.setCells (w.heap.size + 1 + 1) 0 O) (w.heap.size + 1 + 1) 203 O ∧ Ext w (w1.setCells (w.heap.size + 1 + 1) 0 O) := ⟨hb.put (by rw [outL_len]; simpa using hlen), Ext.setCells (by omega) _ _ _ (HX.out.tr hx)⟩
  clear hx hb HB HC HX
  go_wp2_with (refine wpList_store_mid rfl _ _ _ rfl (w.heap.size + 1 + 1) 0 O.toArray rfl rfl hth hi18 hone ?_; rw [List.toList_toArray])
  exact ret_cell18 rfl hput.1 Tryz.underlying203 rfl hi18 rfl ⟨rfl, hput.2⟩
set_option maxRecDepth 100000 in
theorem pub1_calls (k x : Nat) (hx : x < 18446744073709551616) (w : World) :
    Calls Tryz.prog 190 #[.int .i64 (k : Int), cU64 x] w fun e w' => e = .returned (cU64 (K.chn x 15)) ∧ Ext w w' := by
  have H := Lib.hid (show Calls Tryz.prog 191 #[.string tOT, cU64 x, .int .i64 15] w fun e w' => e = .returned (cU64 (K.chn x 15)) ∧ Ext w w' from chain_calls tOT (by decide) x hx 15 w)
  go_enter Tryz.func190, Tryz.ntmps190
  go_wp2_with fail
  refine H.out.mono ?_
  rintro e w1 ⟨rfl, hx⟩
  have HX := Lib.hid hx
  clear hx
  go_wp2
  go_ret
  exact ⟨rfl, HX.out⟩
set_option maxRecDepth 100000 in
theorem fld1_calls (a b : Nat) (ha : a < 18446744073709551616) (hb : b < 18446744073709551616) (w : World) :
    Calls Tryz.prog 244 #[cU64 a, cU64 b] w fun e w' => e = .returned (cU64 (S.twoN K.tPK a b)) ∧ Ext w w' := by
  have H := Lib.hid (otwo_calls tPK (by decide) a b ha hb w)
  go_enter Tryz.func244, Tryz.ntmps244
  go_wp2_with fail
  refine H.out.mono ?_
  rintro e w1 ⟨rfl, hx⟩
  have HX := Lib.hid hx
  clear hx
  go_wp2
  go_ret
  exact ⟨rfl, HX.out⟩
theorem foldK_snoc (l : List Nat) (k : Nat) (hk : k < l.length) : (l.take (k + 1)).foldl (S.twoN K.tPK) 0 = S.twoN K.tPK ((l.take k).foldl (S.twoN K.tPK) 0) l[k] := by
  rw [List.take_succ_eq_append_getElem hk, List.foldl_append, List.foldl_cons, List.foldl_nil]
set_option maxRecDepth 100000 in
set_option maxHeartbeats 1000000 in
theorem fold_calls (l : List Nat) (hl : ∀ x ∈ l, x < 18446744073709551616) (A : Option Addr) (c : Nat) (w : World) (hA : Rd w A (cDg l)) (hn : l.length ≤ 1000) :
    Calls Tryz.prog 243 #[.slice A l.length c, .int .u64 0, .func (.func 244) #[] #[]] w fun e w' => e = .returned (cU64 (K.fold l)) ∧ Ext w w' := by
  have HA := Lib.hid hA
  clear hA
  go_enter Tryz.func243, Tryz.ntmps243
  go_wp2
  go_loopw [1, 11] (fun x i wr => ∃ k : Nat, k ≤ l.length ∧ i = .int .i64 (k : Int) ∧ x = cU64 ((l.take k).foldl (S.twoN K.tPK) 0) ∧ Ext w wr) (fun _ i _ => l.length - (intOf i).toNat)
  case atStart => exact ⟨0, by omega, rfl, rfl, Ext.rfl' _⟩
  case round =>
    obtain ⟨k, hk, rfl, rfl, hE⟩ := hrel
    by_cases hlt : k < l.length
    · obtain ⟨ad, rfl, _, hc⟩ := (HA.out.ext hE).at_ (j := k) (u := cU64 l[k]) (by simp [hlt])
      have HS := Lib.hid (foldK_snoc l k hlt)
      have hF := K.fold_lt' (l.take k) 0 (by decide)
      generalize (l.take k).foldl (S.twoN K.tPK) 0 = F at *
      have HC := Lib.hid (fld1_calls F l[k] hF (hl l[k] (by simp)) wr)
      have HEE := Lib.hid hE
      clear hE
      go_wp2_with fail
      refine HC.out.mono ?_
      rintro e w1 ⟨rfl, hx⟩
      have HX := Lib.hid (HEE.out.tr hx)
      clear hx
      go_wp2
      go_roundw
      case rel => exact ⟨k + 1, hlt, by go_num, by rw [HS.out], HX.out⟩
      case measure => simp [intOf]; omega
    · obtain rfl : k = l.length := by omega
      have HF := Lib.hid (show (l.take l.length).foldl (S.twoN K.tPK) 0 = K.fold l by rw [List.take_length]; rfl)
      generalize (l.take l.length).foldl (S.twoN K.tPK) 0 = F at *
      have HEE := Lib.hid hE
      clear hE
      go_wp2
      go_ret
      exact ⟨by rw [← HF.out]; rfl, HEE.out⟩
set_option maxRecDepth 100000 in
set_option maxHeartbeats 1000000 in
theorem folded_calls (l : List Nat) (hl : ∀ x ∈ l, x < 18446744073709551616) (hn : l.length = 18) (w : World) :
    Calls Tryz.prog 188 #[.agg (cDg l).toArray] w fun e w' => e = .returned (cU64 (K.fold l)) ∧ Ext w w' := by
  have b0 := Blk.new w 35 (cDg l)
  have hr : Rd (w.alloc (.cells (cDg l).toArray 35)) (some ⟨w.heap.size, 0, none⟩) (cDg l) := Rd.fresh w (cDg l) 35 (0, 0)
  have HC := Lib.hid (fold_calls l hl (some ⟨w.heap.size, 0, none⟩) 18 _ hr (by omega))
  rw [hn] at HC
  have HX := Lib.hid ((Ext.rfl' w).alloc (.cells (cDg l).toArray 35))
  clear hr b0
  generalize cDg l = O at *
  go_enter Tryz.func188, Tryz.ntmps188
  go_wp2_with fail
  refine HC.out.mono ?_
  rintro e w1 ⟨rfl, hx⟩
  have HZ := Lib.hid (HX.out.tr hx)
  clear hx
  go_wp2
  go_ret
  exact ⟨rfl, HZ.out⟩
theorem getD_at (l : List Nat) {k : Nat} {x : Value} (h : (cDg l)[k]? = some x) : x = cU64 (l.getD k 0) ∧ k < l.length := by
  rw [List.getElem?_map] at h
  cases e : l[k]? with
  | none => rw [e] at h; cases h
  | some y =>
    rw [e] at h
    cases h
    exact ⟨by simp [List.getD, e], (List.getElem?_eq_some_iff.1 e).1⟩
theorem getD_lt {l : List Nat} (hl : ∀ x ∈ l, x < 18446744073709551616) (k : Nat) : l.getD k 0 < 18446744073709551616 := by
  rw [List.getD_eq_getElem?_getD]
  cases e : l[k]? with
  | none => decide
  | some y => exact hl y (List.mem_of_getElem? e)
theorem map_getD (f : Nat → Nat) (l : List Nat) (h : l.length = 18) : outL (fun j => f (l.getD j 0)) 18 = cDg (l.map f) := by
  rw [outL_done]
  congr 1
  rw [show (List.range 18).map (fun j => f (l.getD j 0)) = ((List.range 18).map (fun j => l.getD j 0)).map f by rw [List.map_map]; rfl, list_of_getD l 18 h]
theorem zip_getD (f : Nat → Nat → Nat) (l n : List Nat) (h : l.length = 18) (hn : n.length = 18) : outL (fun j => f (l.getD j 0) (n.getD j 0)) 18 = cDg (List.zipWith f l n) := by
  rw [outL_done]
  congr 1
  apply List.ext_getElem?
  intro j
  rw [List.getElem?_map, List.getElem?_zipWith]
  by_cases hj : j < 18
  · rw [List.getElem?_range hj]
    simp [List.getD, List.getElem?_eq_getElem (show j < l.length by omega), List.getElem?_eq_getElem (show j < n.length by omega)]
  · rw [List.getElem?_eq_none (by simpa using hj), List.getElem?_eq_none (show l.length ≤ j by omega)]
    rfl
set_option maxRecDepth 100000 in
set_option maxHeartbeats 1000000 in
theorem pub_calls (l : List Nat) (hl : ∀ x ∈ l, x < 18446744073709551616) (hn : l.length = 18) (w : World) :
    Calls Tryz.prog 112 #[.agg (cDg l).toArray] w fun e w' => e = .returned (cU64 (K.pub l)) ∧ Ext w w' := by
  have b0 := Blk.new w 203 (cDg l)
  have HX := Lib.hid ((Ext.rfl' w).alloc (.cells (cDg l).toArray 203))
  have HE := Lib.hid (fun W => eachP_calls (fun j => K.chn (l.getD j 0) 15) (cDg l) (by rw [List.length_map, hn]) W (fun k x hk hx W' _ => by
    obtain ⟨rfl, _⟩ := getD_at l hx
    exact pub1_calls k _ (getD_lt hl k) W'))
  rw [map_getD (fun x => K.chn x 15) l hn] at HE
  have HF := Lib.hid (fun W => folded_calls (l.map fun x => K.chn x 15) (fun x hx => by
    obtain ⟨y, hy, rfl⟩ := List.mem_map.1 hx
    exact K.chn_lt (hl y hy) 15) (by rw [List.length_map, hn]) W)
  have HP := Lib.hid (show K.fold (l.map fun x => K.chn x 15) = K.pub l from rfl)
  have hlen : (cDg l).toArray.size = 18 := by rw [List.size_toArray, List.length_map, hn]
  have hi18 : (Tryz.prog.info? 203).map (·.size) = some (cDg l).toArray.size := by rw [hlen]; rfl
  generalize cDg (l.map fun x => K.chn x 15) = O2 at *
  generalize K.fold (l.map fun x => K.chn x 15) = F at *
  generalize cDg l = O at *
  go_enter Tryz.func112, Tryz.ntmps112
  go_wp2_with (refine wpList_load_row rfl _ _ rfl w.heap.size rfl 203 O.toArray (0, 0) _ b0 Tryz.underlying203 rfl hi18 ?_)
  refine (HE.out _).mono ?_
  rintro e w1 ⟨rfl, hx⟩
  have HX1 := Lib.hid (HX.out.tr hx)
  clear hx
  go_wp2_with fail
  refine (HF.out _).mono ?_
  rintro e w2 ⟨rfl, hx⟩
  have HX2 := Lib.hid (HX1.out.tr hx)
  clear hx
  go_wp2
  go_ret
  exact ⟨by rw [← HP.out]; rfl, HX2.out⟩
end Go.Proofs.YtbbgmlnfpnomiaaGreatDoor
end

section
/- The walks of ots.Digits, Sign, Recover. -/
set_option linter.unusedVariables false
set_option linter.unusedSimpArgs false
namespace Go.Proofs.YtbbgmlnfpnomiaaGreatDoor
open Go.RowKit
theorem there32 {W : World} {B n : Nat} {T : TypeId} {L : List Value} (h : Blk W B T L) (hn : n = L.length) : W.there B 0 n := hn ▸ h.there
/-- A store of a whole struct into a variable that was just made. -/
theorem wpList_store_new {P : Program} {ops : Array Oper} {rest : List Oper} {op : Oper} {a : Act} {w0 : World} {Q : Exit → Act → World → Prop} (hgd : op.guard = none) (ty : TypeId) (x y : Operand) (ho : op.op = .store ty x y) (C : Array Value) (T : TypeId) (L : List Value)
    (hx : a.eval x = .pointer (some ⟨w0.heap.size, 0, none⟩)) (hy : a.eval y = .agg L.toArray) (hC : C.size = L.length) (hi : (P.info? ty).map (·.size) = some L.length) (h1 : ∀ v ∈ L, v.oneCell' = true)
    (h : ∀ W', Ext w0 W' → Blk W' w0.heap.size T L → wpList P ops Q rest (a.put op.dst undef) W') : wpList P ops Q (op :: rest) a (w0.alloc (.cells C T)) := by
  have hb : Blk (w0.alloc (.cells C T)) w0.heap.size T C.toList := by
    have := Blk.new w0 T C.toList
    rwa [Array.toArray_toList] at this
  have hl : L.length = C.toList.length := by rw [Array.length_toList]; exact hC.symm
  refine wpList_store_mid hgd ty x y ho w0.heap.size 0 L.toArray hx hy (there32 hb (by rw [List.size_toArray]; exact hl)) (by rw [List.size_toArray]; exact hi) (all_oneCell_toArray h1) ?_
  rw [List.toList_toArray]
  exact h _ (Ext.setCells (Nat.le_refl _) L 0 _ ((Ext.rfl' w0).alloc _)) (hb.put hl)
theorem pow16' (m : Nat) : (2 : Int) ^ (4 * m) = ((16 ^ m : Nat) : Int) := by
  rw [show (16 : Nat) ^ m = 2 ^ (4 * m) from by rw [Nat.pow_mul]]
  norm_cast
def outI (g : Nat → Nat) (m : Nat) : List Value := (List.range 18).map fun j => if j < m then .int .i64 ((g j : Nat) : Int) else .int .i64 0
theorem Blk.rd {W : World} {B : Nat} {T : TypeId} {L : List Value} (h : Blk W B T L) (o n : Nat) : Rd W (some ⟨B, o, none⟩) ((L.drop o).take n) :=
  .inr ⟨_, rfl, h.lt, fun j hj => by
    rw [Addr.add_mid]
    rw [List.length_take, List.length_drop] at hj
    rw [List.getElem?_take, if_pos (by omega), List.getElem?_drop]
    have : o + j < L.length := by omega
    rw [h.cell (List.getElem?_eq_getElem this), List.getElem?_eq_getElem this]⟩
theorem outI_len (g : Nat → Nat) (m : Nat) : (outI g m).length = 18 := by simp [outI]
theorem outI_set (g : Nat → Nat) (m : Nat) (hm : m < 18) : (outI g m).set m (.int .i64 ((g m : Nat) : Int)) = outI g (m + 1) := by
  apply List.ext_getElem?
  intro j
  rw [List.getElem?_set, outI_len]
  by_cases hj : m = j
  · subst hj
    rw [if_pos rfl, if_pos hm]
    simp [outI, hm]
  · rw [if_neg hj]
    simp only [outI, List.getElem?_map]
    by_cases hl : j < 18
    · rw [List.getElem?_range hl]
      simp only [Option.map_some]
      congr 1
      by_cases h1 : j < m
      · rw [if_pos h1, if_pos (by omega)]
      · rw [if_neg h1, if_neg (by omega)]
    · rw [List.getElem?_eq_none (by simpa using hl)]
      rfl
theorem outI_at (g : Nat → Nat) (m j : Nat) (hj : j < 18) : (outI g m)[j]? = some (if j < m then .int .i64 ((g j : Nat) : Int) else .int .i64 0) := by simp [outI, hj]
/-- All the digits, as one function. -/
def dgf (d j : Nat) : Nat := if j < 16 then K.dig16 d j else if j = 16 then K.digS d 16 / 16 else K.digS d 16 % 16
theorem outI_digs (d : Nat) : outI (dgf d) 18 = cIs (K.digs d) := by
  have e : K.digs d = (List.range 18).map (dgf d) := by
    have e1 : (List.range 16).map (K.dig16 d) = (List.range 16).map (dgf d) := List.map_congr_left fun j hj => by rw [dgf, if_pos (List.mem_range.1 hj)]
    rw [show (18 : Nat) = 16 + 1 + 1 from rfl, List.range_succ, List.range_succ, List.map_append, List.map_append, K.digs, List.append_assoc, e1]
    rfl
  rw [e, outI, cIs, List.map_map]
  refine List.map_congr_left fun j hj => ?_
  rw [if_pos (List.mem_range.1 hj)]
  rfl
theorem outI_congr (f g : Nat → Nat) (m : Nat) (h : ∀ j, j < m → f j = g j) : outI f m = outI g m := by
  unfold outI
  refine List.map_congr_left fun j _ => ?_
  by_cases hj : j < m
  · rw [if_pos hj, if_pos hj, h j hj]
  · rw [if_neg hj, if_neg hj]
set_option maxRecDepth 100000 in
theorem dgs1_calls (n x : Nat) (hn : n ≤ 1000) (hx : x < 16) (w : World) :
    Calls Tryz.prog 251 #[.int .i64 (n : Int), .int .i64 (x : Int)] w fun e w' => e = .returned (.int .i64 ((n + (15 - x) : Nat) : Int)) ∧ w = w' := by
  have e1 : (n : Int) + 15 - (x : Int) = ((n + (15 - x) : Nat) : Int) := by omega
  have E1 := Lib.hid e1
  clear e1
  go_enter Tryz.func251, Tryz.ntmps251
  go_wp2
  go_ret
  exact ⟨by rw [← E1.out]; rfl, rfl⟩
set_option maxRecDepth 100000 in
set_option maxHeartbeats 1000000 in
theorem foldI_calls (d : Nat) (A : Option Addr) (c : Nat) (w : World) (hA : Rd w A (cIs ((List.range 16).map (K.dig16 d)))) :
    Calls Tryz.prog 250 #[.slice A 16 c, .int .i64 0, .func (.func 251) #[] #[]] w fun e w' => e = .returned (.int .i64 (K.digS d 16 : Nat)) ∧ w = w' := by
  have HA := Lib.hid hA
  clear hA
  go_enter Tryz.func250, Tryz.ntmps250
  go_wp2
  go_loop [1, 11] (fun x i => ∃ k : Nat, k ≤ 16 ∧ i = .int .i64 (k : Int) ∧ x = .int .i64 (K.digS d k : Nat)) (fun _ i => 16 - (intOf i).toNat)
  case atStart => exact ⟨0, by omega, rfl, rfl⟩
  case round =>
    obtain ⟨k, hk, rfl, rfl⟩ := hrel
    by_cases hlt : k < 16
    · obtain ⟨ad, rfl, _, hc⟩ := HA.out.at_ (j := k) (u := .int .i64 ((K.dig16 d k : Nat) : Int)) (by simp [hlt])
      have hS := K.digS_le d k
      have HS := Lib.hid (show K.digS d (k + 1) = K.digS d k + (15 - K.dig16 d k) from rfl)
      have hd := K.dig16_lt d k
      generalize K.digS d k = F at *
      generalize K.dig16 d k = x at *
      have HC := Lib.hid (dgs1_calls F x (by omega) hd w)
      clear hS hd
      go_wp2_with fail
      refine HC.out.mono ?_
      rintro e w1 ⟨rfl, rfl⟩
      go_wp2
      go_round
      case rel => exact ⟨k + 1, hlt, by go_num, by rw [HS.out]; exact congrArg (Value.int .i64) (by omega)⟩
      case measure => simp [intOf]; omega
    · obtain rfl : k = 16 := by omega
      go_wp2
      go_ret
      exact ⟨rfl, rfl⟩
set_option maxRecDepth 100000 in
set_option maxHeartbeats 1000000 in
theorem digits_calls (d : Nat) (hd : d < 18446744073709551616) (w : World) :
    Calls Tryz.prog 199 #[cU64 d] w fun e w' => e = .returned (.agg (cIs (K.digs d)).toArray) ∧ Ext w w' := by
  have HD := Lib.hid (outI_digs d)
  go_enter Tryz.func199, Tryz.ntmps199
  go_upto_region 2 with (fail)
  have b0 := (Blk.new w 296 (outI (dgf d) 0)).ext ((Ext.rfl' _).alloc (.cells #[.int .i64 0, .int .i64 0, .int .i64 0, .int .i64 0, .int .i64 0, .int .i64 0, .int .i64 0, .int .i64 0, .int .i64 0, .int .i64 0, .int .i64 0, .int .i64 0, .int .i64 0, .int .i64 0, .int .i64 0, .int .i64 0, .int .i64 0, .int .i64 0] 296))
  have b1 := Blk.new (w.alloc (.cells #[.int .i64 0, .int .i64 0, .int .i64 0, .int .i64 0, .int .i64 0, .int .i64 0, .int .i64 0, .int .i64 0, .int .i64 0, .int .i64 0, .int .i64 0, .int .i64 0, .int .i64 0, .int .i64 0, .int .i64 0, .int .i64 0, .int .i64 0, .int .i64 0] 296)) 296 (outI (dgf d) 0)
  rw [World.size_alloc] at b1
  have hE := ((Ext.rfl' w).alloc (.cells #[.int .i64 0, .int .i64 0, .int .i64 0, .int .i64 0, .int .i64 0, .int .i64 0, .int .i64 0, .int .i64 0, .int .i64 0, .int .i64 0, .int .i64 0, .int .i64 0, .int .i64 0, .int .i64 0, .int .i64 0, .int .i64 0, .int .i64 0, .int .i64 0] 296)).alloc (.cells #[.int .i64 0, .int .i64 0, .int .i64 0, .int .i64 0, .int .i64 0, .int .i64 0, .int .i64 0, .int .i64 0, .int .i64 0, .int .i64 0, .int .i64 0, .int .i64 0, .int .i64 0, .int .i64 0, .int .i64 0, .int .i64 0, .int .i64 0, .int .i64 0] 296)
  change Blk ((w.alloc (.cells #[.int .i64 0, .int .i64 0, .int .i64 0, .int .i64 0, .int .i64 0, .int .i64 0, .int .i64 0, .int .i64 0, .int .i64 0, .int .i64 0, .int .i64 0, .int .i64 0, .int .i64 0, .int .i64 0, .int .i64 0, .int .i64 0, .int .i64 0, .int .i64 0] 296)).alloc (.cells #[.int .i64 0, .int .i64 0, .int .i64 0, .int .i64 0, .int .i64 0, .int .i64 0, .int .i64 0, .int .i64 0, .int .i64 0, .int .i64 0, .int .i64 0, .int .i64 0, .int .i64 0, .int .i64 0, .int .i64 0, .int .i64 0, .int .i64 0, .int .i64 0] 296)) w.heap.size 296 (outI (dgf d) 0) at b0
  change Blk ((w.alloc (.cells #[.int .i64 0, .int .i64 0, .int .i64 0, .int .i64 0, .int .i64 0, .int .i64 0, .int .i64 0, .int .i64 0, .int .i64 0, .int .i64 0, .int .i64 0, .int .i64 0, .int .i64 0, .int .i64 0, .int .i64 0, .int .i64 0, .int .i64 0, .int .i64 0] 296)).alloc (.cells #[.int .i64 0, .int .i64 0, .int .i64 0, .int .i64 0, .int .i64 0, .int .i64 0, .int .i64 0, .int .i64 0, .int .i64 0, .int .i64 0, .int .i64 0, .int .i64 0, .int .i64 0, .int .i64 0, .int .i64 0, .int .i64 0, .int .i64 0, .int .i64 0] 296)) (w.heap.size + 1) 296 (outI (dgf d) 0) at b1
  generalize (w.alloc (.cells #[.int .i64 0, .int .i64 0, .int .i64 0, .int .i64 0, .int .i64 0, .int .i64 0, .int .i64 0, .int .i64 0, .int .i64 0, .int .i64 0, .int .i64 0, .int .i64 0, .int .i64 0, .int .i64 0, .int .i64 0, .int .i64 0, .int .i64 0, .int .i64 0] 296)).alloc (.cells #[.int .i64 0, .int .i64 0, .int .i64 0, .int .i64 0, .int .i64 0, .int .i64 0, .int .i64 0, .int .i64 0, .int .i64 0, .int .i64 0, .int .i64 0, .int .i64 0, .int .i64 0, .int .i64 0, .int .i64 0, .int .i64 0, .int .i64 0, .int .i64 0] 296) = W0 at *
  have HI := Lib.hid (And.intro b0 (And.intro b1 hE))
  clear b0 b1 hE
  go_wp2
  go_loopw [6] (fun i wr => ∃ k : Nat, k ≤ 16 ∧ i = .int .i64 (k : Int) ∧ Blk wr w.heap.size 296 (outI (dgf d) 0) ∧ Blk wr (w.heap.size + 1) 296 (outI (dgf d) k) ∧ Ext w wr) (fun i _ => 16 - (intOf i).toNat)
  case atStart => exact ⟨0, by omega, rfl, HI.out.1, HI.out.2.1, HI.out.2.2⟩
  case round =>
    obtain ⟨k, hk, rfl, h1, h2, hE⟩ := hrel
    by_cases hlt : k < 16
    · have hand : bits BinOp.and IntKind.u64 ((d : Int) / 2 ^ (60 - 4 * k)) 15 = ((dgf d k : Nat) : Int) := by
        rw [show 60 - 4 * k = 4 * (15 - k) by omega, pow16']
        have h := u64_and_nat (d / 16 ^ (15 - k)) 15 (Nat.lt_of_le_of_lt (Nat.div_le_self _ _) hd) (by decide)
        rw [show (d / 16 ^ (15 - k)) &&& 15 = (d / 16 ^ (15 - k)) % 16 from Nat.and_two_pow_sub_one_eq_mod _ 4] at h
        rw [dgf, if_pos hlt, K.dig16, ← h, Int.natCast_ediv]
        rfl
      have hr : dgf d k < 16 := by rw [dgf, if_pos hlt]; exact K.dig16_lt d k
      have hc := h2.cell (outI_at (dgf d) k k (by omega))
      have hfz := h2.frozen k
      have h3 := h2.set k (.int .i64 ((dgf d k : Nat) : Int))
      rw [outI_set (dgf d) k (by omega)] at h3
      have h4 := h1.other (x := ⟨w.heap.size + 1, k, none⟩) (by show w.heap.size ≠ w.heap.size + 1; omega) (.int .i64 ((dgf d k : Nat) : Int))
      have hE4 : Ext w (wr.setCell ⟨w.heap.size + 1, k, none⟩ (.int .i64 ((dgf d k : Nat) : Int))) := Below.setCell hE (by show w.heap.size ≤ w.heap.size + 1; omega) _
      have HF4 := Lib.hid (And.intro h4 (And.intro h3 hE4))
      clear h1 h2 h3 h4 hE4 hE
      generalize dgf d k = r at *
      go_wp2
      go_roundw
      case rel => exact ⟨k + 1, hlt, by go_num, HF4.out.1, HF4.out.2.1, HF4.out.2.2⟩
      case measure => simp [intOf]; omega
    · obtain rfl : k = 16 := by omega
      have hrd : Rd wr (some ⟨w.heap.size + 1, 0, none⟩) (cIs ((List.range 16).map (K.dig16 d))) := by
        have h := h2.rd 0 16
        rwa [List.drop_zero, show (outI (dgf d) 16).take 16 = cIs ((List.range 16).map (K.dig16 d)) from by
          rw [outI, ← List.map_take, List.take_range, cIs, List.map_map]
          refine List.map_congr_left fun j hj => ?_
          have hj := List.mem_range.1 hj
          rw [if_pos (by omega), dgf, if_pos (by omega)]
          rfl] at h
      have HC := Lib.hid (foldI_calls d (some ⟨w.heap.size + 1, 0, none⟩) 18 wr hrd)
      have hS := K.digS_le d 16
      have h16 : dgf d 16 = K.digS d 16 / 16 := rfl
      have h17 : dgf d 17 = K.digS d 16 % 16 := rfl
      have h3 := h2.set 16 (.int .i64 ((dgf d 16 : Nat) : Int))
      rw [outI_set (dgf d) 16 (by decide)] at h3
      have h4 := h3.set 17 (.int .i64 ((dgf d 17 : Nat) : Int))
      rw [outI_set (dgf d) 17 (by decide)] at h4
      have hc1 := h2.cell (outI_at (dgf d) 16 16 (by decide))
      have hc2 := h3.cell (outI_at (dgf d) 17 17 (by decide))
      have hf1 := h2.frozen 16
      have hf2 := h3.frozen 17
      rw [h16] at h3 h4 hc2 hf2
      rw [h17] at h4
      have h5 := h1.other (x := ⟨w.heap.size + 1, 16, none⟩) (by show w.heap.size ≠ w.heap.size + 1; omega) (.int .i64 ((K.digS d 16 / 16 : Nat) : Int))
      have h6 := h5.other (x := ⟨w.heap.size + 1, 17, none⟩) (by show w.heap.size ≠ w.heap.size + 1; omega) (.int .i64 ((K.digS d 16 % 16 : Nat) : Int))
      have hE5 : Ext w ((wr.setCell ⟨w.heap.size + 1, 16, none⟩ (.int .i64 ((K.digS d 16 / 16 : Nat) : Int))).setCell ⟨w.heap.size + 1, 17, none⟩ (.int .i64 ((K.digS d 16 % 16 : Nat) : Int))) := Below.setCell (Below.setCell hE (by show w.heap.size ≤ w.heap.size + 1; omega) _) (by show w.heap.size ≤ w.heap.size + 1; omega) _
      have HF4 := Lib.hid (And.intro h6 (And.intro h4 hE5))
      have hq1 : ((K.digS d 16 : Nat) : Int).tdiv 16 = ((K.digS d 16 / 16 : Nat) : Int) := by rw [Int.tdiv_eq_ediv_of_nonneg (by omega)]; omega
      have hq2 : ((K.digS d 16 : Nat) : Int).tmod 16 = ((K.digS d 16 % 16 : Nat) : Int) := by rw [Int.tmod_eq_emod_of_nonneg (by omega)]; omega
      clear h1 h2 h3 h4 h5 h6 hE5 hE hrd h16 h17
      have hq3 : ((K.digS d 16 : Nat) : Int) / 16 = ((K.digS d 16 / 16 : Nat) : Int) := by omega
      have hq4 : ((K.digS d 16 : Nat) : Int) % 16 = ((K.digS d 16 % 16 : Nat) : Int) := by omega
      have hq5 : K.digS d 16 / 16 ≤ 15 := by omega
      have hq6 : K.digS d 16 % 16 ≤ 15 := by omega
      generalize K.digS d 16 = F at *
      generalize F / 16 = F1 at *
      generalize F % 16 = F2 at *
      rw [if_neg (by decide)] at hc1 hc2
      go_wp2_with fail
      refine HC.out.mono ?_
      rintro e w1 ⟨rfl, rfl⟩
      go_upto_region 9 with (fail)
      have h0 := HF4.out.1
      have h1 := HF4.out.2.1
      have hE := HF4.out.2.2
      clear HF4
      generalize (wr.setCell ⟨w.heap.size + 1, 16, none⟩ (.int .i64 (F1 : Int))).setCell ⟨w.heap.size + 1, 17, none⟩ (.int .i64 (F2 : Int)) = W9 at *
      have hs18 : (outI (dgf d) 18).toArray.size = 18 := by rw [List.size_toArray, outI_len]
      have hth := there18 h0 (outI_len _ _) hs18
      have hone : (outI (dgf d) 18).toArray.all (·.oneCell') = true := all_oneCell_toArray (by rw [HD.out]; exact cIs_one _)
      have hi18 : (Tryz.prog.info? 296).map (·.size) = some (outI (dgf d) 18).toArray.size := by rw [hs18]; rfl
      have hput : Blk (W9.setCells w.heap.size 0 (outI (dgf d) 18)) w.heap.size 296 (outI (dgf d) 18) ∧ Ext w (W9.setCells w.heap.size 0 (outI (dgf d) 18)) := ⟨h0.put (by rw [outI_len, outI_len]), Ext.setCells (Nat.le_refl _) _ _ _ hE⟩
      clear h0 hE hs18
      generalize outI (dgf d) 18 = O at *
      go_wp2_with (first
        | (refine wpList_store_mid rfl _ _ _ rfl w.heap.size 0 O.toArray rfl rfl hth hi18 hone ?_; rw [List.toList_toArray])
        | (refine wpList_load_row rfl _ _ rfl (w.heap.size + 1) rfl 296 O.toArray (0, 0) _ h1 Tryz.underlying296 rfl hi18 ?_))
      exact ret_cell18 rfl hput.1 Tryz.underlying296 rfl hi18 rfl ⟨by rw [HD.out], hput.2⟩
set_option maxRecDepth 100000 in
theorem sgn1_calls (k x m : Nat) (hx : x < 18446744073709551616) (hm : m < 16) (b2 : Nat) (w : World) (hc : w.cell? ⟨b2, k, none⟩ = some (.int .i64 (m : Int))) (hk : k < 18) :
    Calls Tryz.prog 200 #[.int .i64 (k : Int), cU64 x, .pointer (some ⟨b2, 0, none⟩)] w fun e w' => e = .returned (cU64 (K.chn x m)) ∧ Ext w w' := by
  have H := Lib.hid (show Calls Tryz.prog 191 #[.string tOT, cU64 x, .int .i64 (m : Int)] w fun e w' => e = .returned (cU64 (K.chn x m)) ∧ Ext w w' from chain_mid tOT (by decide) x hx m (by omega) w)
  go_enter Tryz.func200, Tryz.ntmps200
  go_wp2_with fail
  refine H.out.mono ?_
  rintro e w1 ⟨rfl, hx⟩
  have HX := Lib.hid hx
  clear hx
  go_wp2
  go_ret
  exact ⟨rfl, HX.out⟩
set_option maxRecDepth 100000 in
theorem rcv1_calls (k x m : Nat) (hx : x < 18446744073709551616) (hm : m < 16) (b2 : Nat) (w : World) (hc : w.cell? ⟨b2, k, none⟩ = some (.int .i64 (m : Int))) (hk : k < 18) :
    Calls Tryz.prog 242 #[.int .i64 (k : Int), cU64 x, .pointer (some ⟨b2, 0, none⟩)] w fun e w' => e = .returned (cU64 (K.chn x (15 - m))) ∧ Ext w w' := by
  have e1 : (15 : Int) - (m : Int) = ((15 - m : Nat) : Int) := by omega
  have H := Lib.hid (show Calls Tryz.prog 191 #[.string tOT, cU64 x, .int .i64 ((15 - m : Nat) : Int)] w fun e w' => e = .returned (cU64 (K.chn x (15 - m))) ∧ Ext w w' from chain_mid tOT (by decide) x hx (15 - m) (by omega) w)
  rw [← e1] at H
  clear e1
  go_enter Tryz.func242, Tryz.ntmps242
  go_wp2_with fail
  refine H.out.mono ?_
  rintro e w1 ⟨rfl, hx⟩
  have HX := Lib.hid hx
  clear hx
  go_wp2
  go_ret
  exact ⟨rfl, HX.out⟩
theorem kdigs_at (d k : Nat) (hk : k < 18) : (cIs (K.digs d))[k]? = some (.int .i64 (((K.digs d).getD k 0 : Nat) : Int)) ∧ (K.digs d).getD k 0 < 16 := by
  have hl := K.digs_len d
  refine ⟨by simp [List.getD, List.getElem?_eq_getElem (show k < (K.digs d).length by omega)], ?_⟩
  rw [List.getD_eq_getElem?_getD, List.getElem?_eq_getElem (show k < (K.digs d).length by omega)]
  exact K.digs_lt d _ (List.getElem_mem _)
set_option maxRecDepth 100000 in
set_option maxHeartbeats 1000000 in
theorem sign_calls (l : List Nat) (hl : ∀ x ∈ l, x < 18446744073709551616) (hn : l.length = 18) (d : Nat) (hd : d < 18446744073709551616) (w : World) :
    Calls Tryz.prog 117 #[.agg (cDg l).toArray, cU64 d] w fun e w' => e = .returned (.agg (cDg (K.sign l d)).toArray) ∧ Ext w w' := by
  have HD := Lib.hid (digits_calls d hd)
  have HE := Lib.hid (fun (W : World) (B : Nat) (hB : Blk W B 296 (cIs (K.digs d))) => eachS_calls B (fun j => K.chn (l.getD j 0) ((K.digs d).getD j 0)) (cDg l) (by rw [List.length_map, hn]) W (fun k x hk hx W' hW' => by
    obtain ⟨rfl, _⟩ := getD_at l hx
    exact sgn1_calls k _ _ (getD_lt hl k) (kdigs_at d k hk).2 B W' ((hB.ext hW').cell (kdigs_at d k hk).1) hk))
  rw [zip_getD K.chn l (K.digs d) hn (K.digs_len d)] at HE
  have hd18 : (cIs (K.digs d)).toArray.size = 18 := by rw [List.size_toArray, List.length_map, K.digs_len]
  have hs18 : (cDg (K.sign l d)).toArray.size = 18 := by rw [List.size_toArray, List.length_map, K.sign_len l d hn]
  have hlen : (cDg l).toArray.size = 18 := by rw [List.size_toArray, List.length_map, hn]
  have hone := all_oneCell_toArray (cDg_one (K.sign l d))
  have hond := cIs_one (K.digs d)
  have hi0 : (Tryz.prog.info? 203).map (·.size) = some (cDg l).toArray.size := by rw [hlen]; rfl
  have hi1 : (Tryz.prog.info? 36).map (·.size) = some (cDg (K.sign l d)).toArray.size := by rw [hs18]; rfl
  have hi2 : (Tryz.prog.info? 296).map (·.size) = some (cIs (K.digs d)).toArray.size := by rw [hd18]; rfl
  change Hid (∀ (W : World) (B : Nat) (hB : Blk W B 296 (cIs (K.digs d))), Calls Tryz.prog 189 #[.agg (cDg l).toArray, .func (.func 200) #[] #[.pointer (some ⟨B, 0, none⟩)]] W fun e w' => e = .returned (.agg (cDg (K.sign l d)).toArray) ∧ Ext W w') at HE
  generalize cDg (K.sign l d) = O2 at *
  generalize cIs (K.digs d) = OD at *
  generalize cDg l = O at *
  have b0 := (Blk.new w 203 O).ext ((Ext.rfl' _).alloc (.cells #[.int .u64 0, .int .u64 0, .int .u64 0, .int .u64 0, .int .u64 0, .int .u64 0, .int .u64 0, .int .u64 0, .int .u64 0, .int .u64 0, .int .u64 0, .int .u64 0, .int .u64 0, .int .u64 0, .int .u64 0, .int .u64 0, .int .u64 0, .int .u64 0] 36))
  have b1 := Blk.new (w.alloc (.cells O.toArray 203)) 36 (outL (fun _ => 0) 0)
  rw [World.size_alloc] at b1
  have hE := ((Ext.rfl' w).alloc (.cells O.toArray 203)).alloc (.cells #[.int .u64 0, .int .u64 0, .int .u64 0, .int .u64 0, .int .u64 0, .int .u64 0, .int .u64 0, .int .u64 0, .int .u64 0, .int .u64 0, .int .u64 0, .int .u64 0, .int .u64 0, .int .u64 0, .int .u64 0, .int .u64 0, .int .u64 0, .int .u64 0] 36)
  change Blk ((w.alloc (.cells O.toArray 203)).alloc (.cells #[.int .u64 0, .int .u64 0, .int .u64 0, .int .u64 0, .int .u64 0, .int .u64 0, .int .u64 0, .int .u64 0, .int .u64 0, .int .u64 0, .int .u64 0, .int .u64 0, .int .u64 0, .int .u64 0, .int .u64 0, .int .u64 0, .int .u64 0, .int .u64 0] 36)) w.heap.size 203 O at b0
  change Blk ((w.alloc (.cells O.toArray 203)).alloc (.cells #[.int .u64 0, .int .u64 0, .int .u64 0, .int .u64 0, .int .u64 0, .int .u64 0, .int .u64 0, .int .u64 0, .int .u64 0, .int .u64 0, .int .u64 0, .int .u64 0, .int .u64 0, .int .u64 0, .int .u64 0, .int .u64 0, .int .u64 0, .int .u64 0] 36)) (w.heap.size + 1) 36 (outL (fun _ => 0) 0) at b1
  go_enter Tryz.func117, Tryz.ntmps117
  go_upto_region 1 with (fail)
  generalize (w.alloc (.cells O.toArray 203)).alloc (.cells #[.int .u64 0, .int .u64 0, .int .u64 0, .int .u64 0, .int .u64 0, .int .u64 0, .int .u64 0, .int .u64 0, .int .u64 0, .int .u64 0, .int .u64 0, .int .u64 0, .int .u64 0, .int .u64 0, .int .u64 0, .int .u64 0, .int .u64 0, .int .u64 0] 36) = W0 at *
  have HB0 := Lib.hid b0
  have HB1 := Lib.hid b1
  have HX := Lib.hid hE
  clear b0 b1 hE
  go_wp2_with fail
  refine (HD.out W0).mono ?_
  rintro e w1 ⟨rfl, hx1⟩
  go_upto_region 2 with (refine wpList_store_new rfl _ _ _ rfl _ _ OD rfl rfl (by rw [show OD.length = 18 by simpa using hd18]; rfl) (by simpa using hi2) hond ?_; intro W2 hX2 hB2)
  have hx2 := hx1.tr hX2
  have b0 := HB0.out.ext hx2
  have HE2 := Lib.hid (HE.out W2 w1.heap.size hB2)
  have HB3 := Lib.hid (HB1.out.ext hx2)
  have HX3 := Lib.hid (HX.out.tr hx2)
  clear hx1 hX2 hB2 hx2 HB0 HB1 HX
  go_wp2_with (refine wpList_load_row rfl _ _ rfl w.heap.size rfl 203 O.toArray (0, 0) _ b0 Tryz.underlying203 rfl hi0 ?_)
  refine HE2.out.mono ?_
  rintro e w4 ⟨rfl, hx⟩
  have hb := HB3.out.ext hx
  have hth := there18 hb (outL_len _ _) hs18
  have hput : Blk (w4.setCells (w.heap.size + 1) 0 O2) (w.heap.size + 1) 36 O2 ∧ Ext w (w4.setCells (w.heap.size + 1) 0 O2) := ⟨hb.put (by rw [outL_len]; simpa using hs18), Ext.setCells (by omega) _ _ _ (HX3.out.tr hx)⟩
  clear hx hb
  go_wp2_with (refine wpList_store_mid rfl _ _ _ rfl (w.heap.size + 1) 0 O2.toArray rfl rfl hth hi1 hone ?_; rw [List.toList_toArray])
  exact ret_cell18 rfl hput.1 Tryz.underlying36 rfl hi1 rfl ⟨rfl, hput.2⟩
set_option maxRecDepth 100000 in
set_option maxHeartbeats 1000000 in
theorem recover_calls (l : List Nat) (hl : ∀ x ∈ l, x < 18446744073709551616) (hn : l.length = 18) (d : Nat) (hd : d < 18446744073709551616) (w : World) :
    Calls Tryz.prog 187 #[.agg (cDg l).toArray, cU64 d] w fun e w' => e = .returned (cU64 (K.rec l d)) ∧ Ext w w' := by
  have HD := Lib.hid (digits_calls d hd)
  have HE := Lib.hid (fun (W : World) (B : Nat) (hB : Blk W B 296 (cIs (K.digs d))) => eachR_calls B (fun j => (fun x n => K.chn x (15 - n)) (l.getD j 0) ((K.digs d).getD j 0)) (cDg l) (by rw [List.length_map, hn]) W (fun k x hk hx W' hW' => by
    obtain ⟨rfl, _⟩ := getD_at l hx
    exact rcv1_calls k _ _ (getD_lt hl k) (kdigs_at d k hk).2 B W' ((hB.ext hW').cell (kdigs_at d k hk).1) hk))
  rw [zip_getD (fun x n => K.chn x (15 - n)) l (K.digs d) hn (K.digs_len d)] at HE
  have hz : (List.zipWith (fun x n => K.chn x (15 - n)) l (K.digs d)).length = 18 := by rw [List.length_zipWith, hn, K.digs_len]; rfl
  have hzl : ∀ x ∈ List.zipWith (fun x n => K.chn x (15 - n)) l (K.digs d), x < 18446744073709551616 := by
    intro x hx
    obtain ⟨i, hi⟩ := List.mem_iff_getElem?.1 hx
    rw [List.getElem?_zipWith] at hi
    cases e1 : l[i]? with
    | none => rw [e1] at hi; cases hi
    | some a =>
      cases e2 : (K.digs d)[i]? with
      | none => rw [e1, e2] at hi; cases hi
      | some b =>
        rw [e1, e2] at hi
        cases hi
        exact K.chn_lt (hl a (List.mem_of_getElem? e1)) _
  have HF := Lib.hid (folded_calls (List.zipWith (fun x n => K.chn x (15 - n)) l (K.digs d)) hzl hz)
  change Hid (∀ w : World, Calls Tryz.prog 188 #[.agg (cDg (List.zipWith (fun x n => K.chn x (15 - n)) l (K.digs d))).toArray] w fun e w' => e = .returned (cU64 (K.rec l d)) ∧ Ext w w') at HF
  have hd18 : (cIs (K.digs d)).toArray.size = 18 := by rw [List.size_toArray, List.length_map, K.digs_len]
  have hlen : (cDg l).toArray.size = 18 := by rw [List.size_toArray, List.length_map, hn]
  have hond := cIs_one (K.digs d)
  have hi0 : (Tryz.prog.info? 36).map (·.size) = some (cDg l).toArray.size := by rw [hlen]; rfl
  have hi2 : (Tryz.prog.info? 296).map (·.size) = some (cIs (K.digs d)).toArray.size := by rw [hd18]; rfl
  generalize cDg (List.zipWith (fun x n => K.chn x (15 - n)) l (K.digs d)) = O2 at *
  generalize cIs (K.digs d) = OD at *
  generalize K.rec l d = RR at *
  generalize cDg l = O at *
  have b0 := Blk.new w 36 O
  have hE := (Ext.rfl' w).alloc (.cells O.toArray 36)
  go_enter Tryz.func187, Tryz.ntmps187
  go_upto_region 1 with (fail)
  generalize w.alloc (.cells O.toArray 36) = W0 at *
  have HB0 := Lib.hid b0
  have HX := Lib.hid hE
  clear b0 hE
  go_wp2_with fail
  refine (HD.out W0).mono ?_
  rintro e w1 ⟨rfl, hx1⟩
  go_upto_region 2 with (refine wpList_store_new rfl _ _ _ rfl _ _ OD rfl rfl (by rw [show OD.length = 18 by simpa using hd18]; rfl) (by simpa using hi2) hond ?_; intro W2 hX2 hB2)
  have hx2 := hx1.tr hX2
  have b0 := HB0.out.ext hx2
  have HE2 := Lib.hid (HE.out W2 w1.heap.size hB2)
  have HX3 := Lib.hid (HX.out.tr hx2)
  clear hx1 hX2 hB2 hx2 HB0 HX
  go_wp2_with (refine wpList_load_row rfl _ _ rfl w.heap.size rfl 36 O.toArray (0, 0) _ b0 Tryz.underlying36 rfl hi0 ?_)
  refine HE2.out.mono ?_
  rintro e w4 ⟨rfl, hx⟩
  have HX4 := Lib.hid (HX3.out.tr hx)
  clear hx
  go_wp2_with fail
  refine (HF.out w4).mono ?_
  rintro e w5 ⟨rfl, hx⟩
  have HX5 := Lib.hid (HX4.out.tr hx)
  clear hx
  go_wp2
  go_ret
  exact ⟨rfl, HX5.out⟩
end Go.Proofs.YtbbgmlnfpnomiaaGreatDoor
end
