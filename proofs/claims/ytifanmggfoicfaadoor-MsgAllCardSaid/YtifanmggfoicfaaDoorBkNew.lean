/- The walks of the book. -/
import Derived.Test.YtifanmggfoicfaaDoorBlk
import Derived.Test.YtifanmggfoicfaaDoorWNums
import Derived.Test.YtifanmggfoicfaaDoorWCheck
import Derived.Deep.DeepCutAuto
set_option linter.unusedVariables false
namespace Go.Proofs.YtifanmggfoicfaaDoor
open Go.RowKit Go.Sort
def z32 : List Value := List.replicate 32 (Value.int .i64 0)
theorem z32_lit : (#[Value.int IntKind.i64 0, Value.int IntKind.i64 0, Value.int IntKind.i64 0, Value.int IntKind.i64 0, Value.int IntKind.i64 0, Value.int IntKind.i64 0, Value.int IntKind.i64 0, Value.int IntKind.i64 0, Value.int IntKind.i64 0, Value.int IntKind.i64 0, Value.int IntKind.i64 0, Value.int IntKind.i64 0, Value.int IntKind.i64 0, Value.int IntKind.i64 0, Value.int IntKind.i64 0, Value.int IntKind.i64 0, Value.int IntKind.i64 0, Value.int IntKind.i64 0, Value.int IntKind.i64 0, Value.int IntKind.i64 0, Value.int IntKind.i64 0, Value.int IntKind.i64 0, Value.int IntKind.i64 0, Value.int IntKind.i64 0, Value.int IntKind.i64 0, Value.int IntKind.i64 0, Value.int IntKind.i64 0, Value.int IntKind.i64 0, Value.int IntKind.i64 0, Value.int IntKind.i64 0, Value.int IntKind.i64 0, Value.int IntKind.i64 0] : Array Value) = z32.toArray := by kernel_rfl
theorem z32_one : z32.toArray.all (·.oneCell') = true := by kernel_rfl
def bkTy : TypeId := 67
theorem new2 (w : World) : ∃ W, W = (w.alloc (.cells z32.toArray 67)).alloc (.cells z32.toArray 67) ∧ Ext w W ∧ Blk W w.heap.size 67 z32 ∧ Blk W (w.heap.size + 1) 67 z32 := by
  refine ⟨_, rfl, ((Ext.rfl' w).alloc _).alloc _, (Blk.new w 67 z32).ext ((Ext.rfl' _).alloc _), ?_⟩
  have := Blk.new (w.alloc (.cells z32.toArray 67)) 67 z32
  simpa using this
set_option maxRecDepth 100000 in
set_option maxHeartbeats 1000000 in
theorem bnew_long (l : List Int) (A : Option Addr) (c : Nat) (w : World) (hl : 16 < l.length) (hl' : l.length ≤ 1099511627776) :
    Calls Tryd.prog 15 #[.slice A l.length c] w fun e w' => e = .returned (.tuple #[.agg z32.toArray, .int .i64 4]) ∧ Ext w w' := by
  go_enter Tryd.func15, Tryd.ntmps15
  go_upto_region 2 with (fail)
  rw [z32_lit]
  obtain ⟨W, hW, hX, h0, h1⟩ := new2 w
  have HX := Lib.hid hX
  have H0 := Lib.hid h0
  have H1 := Lib.hid h1
  rw [← hW]
  clear hX h0 h1 hW
  go_upto_region 3 with (fail)
  refine wp_region_lit ?_
  refine wpList_load_row rfl _ _ rfl (w.heap.size + 1) rfl 67 z32.toArray (0, 0) _ H1.out Tryd.underlying67 rfl rfl ?_
  refine wpList_store_mid rfl _ _ _ rfl w.heap.size 0 z32.toArray rfl rfl H0.out.there rfl z32_one ?_
  have HX2 := Lib.hid (Ext.setCells (Nat.le_refl _) z32 0 _ HX.out)
  have H2 := Lib.hid (H0.out.put (vs := z32) rfl)
  rw [show z32.toArray.toList = z32 from rfl]
  generalize W.setCells w.heap.size 0 z32 = W2 at *
  go_wp2
  exact ret_cell_tmp rfl H2.out Tryd.underlying67 rfl rfl rfl rfl ⟨rfl, HX2.out⟩
theorem addz (a : Addr) : a.add 0 = a := by unfold Addr.add; split <;> simp_all
def OkHas (n : Int) : Prop := 0 ≤ n ∧ n ≤ 1099511627776
set_option maxRecDepth 100000 in
set_option maxHeartbeats 1000000 in
theorem bnew_bad (n : Int) (hn : n < 0) (A : Addr) (c : Nat) (w : World) (hA : Rd w (some A) (cI64s [n])) :
    Calls Tryd.prog 15 #[.slice (some A) 1 c] w fun e w' => e = .returned (.tuple #[.agg z32.toArray, .int .i64 1]) ∧ Ext w w' := by
  have HA := Lib.hid hA
  clear hA
  go_enter Tryd.func15, Tryd.ntmps15
  go_upto_region 2 with (fail)
  rw [z32_lit]
  obtain ⟨W, hW, hX, h0, h1⟩ := new2 w
  have HX := Lib.hid hX
  have H0 := Lib.hid h0
  have H1 := Lib.hid h1
  rw [← hW]
  clear hX h0 h1 hW
  go_wp2
  go_loopw [13] (fun i wr => i = .int .i64 0 ∧ wr = W) (fun i _ => 0)
  case atStart => exact ⟨rfl, rfl⟩
  case round =>
    obtain ⟨rfl, rfl⟩ := hrel
    obtain ⟨ad, had, _, c1⟩ := (HA.out.ext HX.out).at_ (j := 0) (u := .int .i64 n) rfl
    obtain rfl : A = ad := Option.some.inj had
    rw [addz] at c1
    go_upto_region 8 with (fail)
    refine wp_region_lit ?_
    refine wpList_load_row rfl _ _ rfl (w.heap.size + 1) rfl 67 z32.toArray (0, 0) _ H1.out Tryd.underlying67 rfl rfl ?_
    refine wpList_store_mid rfl _ _ _ rfl w.heap.size 0 z32.toArray rfl rfl H0.out.there rfl z32_one ?_
    have HX2 := Lib.hid (Ext.setCells (Nat.le_refl _) z32 0 _ HX.out)
    have H2 := Lib.hid (H0.out.put (vs := z32) rfl)
    rw [show z32.toArray.toList = z32 from rfl]
    generalize World.setCells _ w.heap.size 0 z32 = W2 at *
    go_wp2
    exact ret_cell_tmp rfl H2.out Tryd.underlying67 rfl rfl rfl rfl ⟨rfl, HX2.out⟩
def bkOf (l : List Int) : List Value := cI64s l ++ List.replicate (32 - l.length) (Value.int .i64 0)
theorem bkOf_eq (l : List Int) : z32.take 0 ++ cI64s l ++ z32.drop (0 + l.length) = bkOf l := by
  unfold z32 bkOf
  rw [List.take_zero, List.nil_append, Nat.zero_add, List.drop_replicate]
theorem bkOf_len {l : List Int} (h : l.length ≤ 16) : (bkOf l).length = 32 := by simp [bkOf, cI64s]; omega
theorem bkOf_one (l : List Int) : ∀ v ∈ bkOf l, v.oneCell' = true := fun v hv => by
  rcases List.mem_append.1 hv with h | h
  · obtain ⟨n, _, rfl⟩ := List.mem_map.1 h; rfl
  · obtain rfl := List.eq_of_mem_replicate h; rfl
theorem there32 {W : World} {B n : Nat} {T : TypeId} {L : List Value} (h : Blk W B T L) (hn : n = L.length) : W.there B 0 n := hn ▸ h.there
set_option maxRecDepth 100000 in
set_option maxHeartbeats 1000000 in
theorem bnew_ok (l : List Int) (hb : ∀ n ∈ l, OkHas n) (A : Addr) (c : Nat) (w : World) (hA : Rd w (some A) (cI64s l)) (hl0 : 0 < l.length) (hl : l.length ≤ 16) :
    Calls Tryd.prog 15 #[.slice (some A) l.length c] w fun e w' => e = .returned (.tuple #[.agg (bkOf l).toArray, .int .i64 0]) ∧ Ext w w' := by
  have HA := Lib.hid hA
  have HB := Lib.hid hb
  clear hA hb
  go_enter Tryd.func15, Tryd.ntmps15
  go_upto_region 2 with (fail)
  rw [z32_lit]
  obtain ⟨W, hW, hX, h0, h1⟩ := new2 w
  have HX := Lib.hid hX
  have H0 := Lib.hid h0
  have H1 := Lib.hid h1
  rw [← hW]
  clear hX h0 h1 hW
  go_wp2
  go_loopw [13] (fun i wr => (∃ k : Nat, k ≤ l.length ∧ i = .int .i64 k) ∧ wr = W) (fun i _ => l.length - (intOf i).toNat)
  case atStart => exact ⟨⟨0, Nat.zero_le _, rfl⟩, rfl⟩
  case round =>
    obtain ⟨⟨k, hk, rfl⟩, rfl⟩ := hrel
    by_cases hlt : k < l.length
    · obtain ⟨ad, had, _, c1⟩ := (HA.out.ext HX.out).at_ (j := k) (u := .int .i64 l[k]) (by simp [hlt])
      obtain rfl : A = ad := Option.some.inj had
      have hn := HB.out l[k] (by simp)
      have hn0 := hn.1
      have hn1 := hn.2
      clear hn had
      generalize l[k] = n at *
      go_wp2
      go_roundw
      case rel => exact ⟨⟨k + 1, hlt, by go_num⟩, by trivial⟩
      case measure => simp [intOf]; omega
    · obtain rfl : k = l.length := by omega
      clear hk hlt
      have hlc : (cI64s l).length = l.length := by simp [cI64s]
      have hcopy := run_copy_cells (P := Tryd.prog) wr 70 70 3 2 (w.heap.size + 1) 0 16 16 A l.length c (cI64s l) Tryd.underlying70 rfl
        (by rw [hlc]; exact (Nat.min_eq_left hl).symm) (fun j v hj => by obtain ⟨ad, had, _, c1⟩ := (HA.out.ext HX.out).at_ hj; obtain rfl : A = ad := Option.some.inj had; exact c1)
        (fun j hj => (H1.out.there j (by rw [hlc] at hj; show j < 32; omega)).1) (fun j hj => by rw [Nat.zero_add]; exact H1.out.frozen j) (fun v hv => by obtain ⟨n, _, rfl⟩ := List.mem_map.1 hv; rfl)
      rw [hlc] at hcopy
      have HX2 := Lib.hid (Ext.setCells (Nat.le_succ _) (cI64s l) 0 _ HX.out)
      have H02 := Lib.hid (Blk.others (b := w.heap.size + 1) (by omega) (cI64s l) 0 _ H0.out)
      have h12 := set_all (cI64s l) z32 0 _ _ _ (by rw [hlc]; show 0 + l.length ≤ 32; omega) H1.out
      rw [hlc, bkOf_eq] at h12
      have H12 := Lib.hid h12
      clear h12 hlc
      generalize wr.setCells (w.heap.size + 1) 0 (cI64s l) = W2 at *
      go_upto_region 11 with (fail)
      have hbl := bkOf_len hl
      have hba : (bkOf l).toArray.size = 32 := by simpa using hbl
      refine wp_region_lit ?_
      refine wpList_load_row rfl _ _ rfl (w.heap.size + 1) rfl 67 (bkOf l).toArray (0, 0) _ H12.out Tryd.underlying67 rfl (by rw [hba]; rfl) ?_
      refine wpList_store_mid rfl _ _ _ rfl w.heap.size 0 (bkOf l).toArray rfl rfl (there32 H02.out hba) (by rw [hba]; rfl) (all_oneCell_toArray (bkOf_one l)) ?_
      rw [List.toList_toArray]
      have HX3 := Lib.hid (Ext.setCells (Nat.le_refl _) (bkOf l) 0 _ HX2.out)
      have H3 := Lib.hid (H02.out.put (vs := bkOf l) hbl)
      generalize W2.setCells w.heap.size 0 (bkOf l) = W3 at *
      have HBL := Lib.hid hbl
      clear hbl hcopy hba
      go_wp2
      exact ret_cell_tmp rfl H3.out Tryd.underlying67 rfl (by rw [HBL.out]; rfl) rfl rfl ⟨rfl, HX3.out⟩
end Go.Proofs.YtifanmggfoicfaaDoor
