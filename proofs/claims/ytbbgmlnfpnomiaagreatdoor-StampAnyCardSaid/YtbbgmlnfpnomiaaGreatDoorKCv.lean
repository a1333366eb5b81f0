/- A signature as the document's, as the program's: Of and To of the laws 3, 4 and 5. -/
import Derived.Test.YtbbgmlnfpnomiaaGreatDoorKR1
import Derived.Test.YtbbgmlnfpnomiaaGreatDoorKKeyN
set_option linter.unusedVariables false
set_option linter.unusedSimpArgs false
namespace Go.Proofs.YtbbgmlnfpnomiaaGreatDoor
open Go.RowKit Go.Sort
set_option maxRecDepth 100000 in
theorem run_build4r (f : Operand → Value) (x0 x1 x2 x3 : Operand) (o : Oper) (ho : o.op = .build 45 #[(0, x0), (1, x1), (2, x2), (3, x3)]) (a b q : Value) (o0 o1 o2 o3 o4 o5 o6 o7 o8 o9 o10 o11 o12 o13 o14 o15 o16 o17 : Value) (h0 : f x0 = a) (h1 : f x1 = b) (h2 : f x2 = .agg #[o0, o1, o2, o3, o4, o5, o6, o7, o8, o9, o10, o11, o12, o13, o14, o15, o16, o17]) (h3 : f x3 = q) (w : World)
    (ha : ∃ n, a = .int .i64 n) (hb : ∃ n, b = .int .i64 n) (hq : ∃ B n c, q = .slice B n c) :
    (execOp f o).run Tryz.prog w = .ok (.value (.agg #[a, b, o0, o1, o2, o3, o4, o5, o6, o7, o8, o9, o10, o11, o12, o13, o14, o15, o16, o17, q])) w := by
  obtain ⟨_, rfl⟩ := ha
  obtain ⟨_, rfl⟩ := hb
  obtain ⟨_, _, _, rfl⟩ := hq
  unfold execOp
  simp only [ho]
  go_simp
  try simp only [h0, h1, h2, h3]
  try rfl
theorem run_load_mid {P : Program} (f : Operand → Value) (o : Oper) (ty : TypeId) (x : Operand) (ho : o.op = .load ty x) (B k : Nat) (hx : f x = .pointer (some ⟨B, k, none⟩)) (L : List Value) (d : TypeDesc) (w : World) (hC : w.rangeAt B k L) (hu : P.underlying ty = some d) (hd : d.isRow = true) (hi : (P.info? ty).map (·.size) = some L.length) :
    (execOp f o).run P w = .ok (.value (.agg L.toArray)) w := by
  unfold execOp
  simp only [ho, hx, Instr.loadAt, Instr.sureAddr, Sem.run_bind, Sem.run_pure, Result.andThen_ok, run_loadVar_mid w B k ty L d hC hu hd hi]
set_option maxRecDepth 100000 in
set_option maxHeartbeats 2000000 in
theorem of3_calls (l : List Nat) (hn : l.length = 18) (w : World) :
    Calls Tryz.prog 120 #[.agg (cDg l).toArray] w fun e w' => e = .returned (.agg (cDg l).toArray) ∧ Ext w w' := by
  have HO := Lib.hid (outL_of l hn)
  have HAT := Lib.hid (show ∀ k, k < 18 → (cDg l)[k]? = some (cU64 (l.getD k 0)) from fun k hk => by simp [List.getD, List.getElem?_eq_getElem (show k < l.length by omega)])
  obtain ⟨g, hg⟩ : ∃ g : Nat → Nat, (fun j => l.getD j 0) = g := ⟨_, rfl⟩
  have hgk : ∀ k, l.getD k 0 = g k := fun k => congrFun hg k
  rw [hg] at HO
  simp only [hgk] at HAT
  clear hgk hg
  generalize cDg l = C at *
  go_enter Tryz.func120, Tryz.ntmps120
  go_upto_region 2 with (fail)
  have b0 := ((Blk.new w 35 C).ext ((Ext.rfl' _).alloc (.cells #[.int .u64 0, .int .u64 0, .int .u64 0, .int .u64 0, .int .u64 0, .int .u64 0, .int .u64 0, .int .u64 0, .int .u64 0, .int .u64 0, .int .u64 0, .int .u64 0, .int .u64 0, .int .u64 0, .int .u64 0, .int .u64 0, .int .u64 0, .int .u64 0] 42))).ext ((Ext.rfl' _).alloc (.cells #[.int .u64 0, .int .u64 0, .int .u64 0, .int .u64 0, .int .u64 0, .int .u64 0, .int .u64 0, .int .u64 0, .int .u64 0, .int .u64 0, .int .u64 0, .int .u64 0, .int .u64 0, .int .u64 0, .int .u64 0, .int .u64 0, .int .u64 0, .int .u64 0] 42))
  have b1 := (Blk.new (w.alloc (.cells C.toArray 35)) 42 (outL g 0)).ext ((Ext.rfl' _).alloc (.cells #[.int .u64 0, .int .u64 0, .int .u64 0, .int .u64 0, .int .u64 0, .int .u64 0, .int .u64 0, .int .u64 0, .int .u64 0, .int .u64 0, .int .u64 0, .int .u64 0, .int .u64 0, .int .u64 0, .int .u64 0, .int .u64 0, .int .u64 0, .int .u64 0] 42))
  have b2' := Blk.new ((w.alloc (.cells C.toArray 35)).alloc (.cells #[.int .u64 0, .int .u64 0, .int .u64 0, .int .u64 0, .int .u64 0, .int .u64 0, .int .u64 0, .int .u64 0, .int .u64 0, .int .u64 0, .int .u64 0, .int .u64 0, .int .u64 0, .int .u64 0, .int .u64 0, .int .u64 0, .int .u64 0, .int .u64 0] 42)) 42 (outL g 0)
  have hE := (((Ext.rfl' w).alloc (.cells C.toArray 35)).alloc (.cells #[.int .u64 0, .int .u64 0, .int .u64 0, .int .u64 0, .int .u64 0, .int .u64 0, .int .u64 0, .int .u64 0, .int .u64 0, .int .u64 0, .int .u64 0, .int .u64 0, .int .u64 0, .int .u64 0, .int .u64 0, .int .u64 0, .int .u64 0, .int .u64 0] 42)).alloc (.cells #[.int .u64 0, .int .u64 0, .int .u64 0, .int .u64 0, .int .u64 0, .int .u64 0, .int .u64 0, .int .u64 0, .int .u64 0, .int .u64 0, .int .u64 0, .int .u64 0, .int .u64 0, .int .u64 0, .int .u64 0, .int .u64 0, .int .u64 0, .int .u64 0] 42)
  rw [World.size_alloc] at b1
  rw [World.size_alloc, World.size_alloc] at b2'
  change Blk (((w.alloc (.cells C.toArray 35)).alloc (.cells #[.int .u64 0, .int .u64 0, .int .u64 0, .int .u64 0, .int .u64 0, .int .u64 0, .int .u64 0, .int .u64 0, .int .u64 0, .int .u64 0, .int .u64 0, .int .u64 0, .int .u64 0, .int .u64 0, .int .u64 0, .int .u64 0, .int .u64 0, .int .u64 0] 42)).alloc (.cells #[.int .u64 0, .int .u64 0, .int .u64 0, .int .u64 0, .int .u64 0, .int .u64 0, .int .u64 0, .int .u64 0, .int .u64 0, .int .u64 0, .int .u64 0, .int .u64 0, .int .u64 0, .int .u64 0, .int .u64 0, .int .u64 0, .int .u64 0, .int .u64 0] 42)) (w.heap.size + 1) 42 (outL g 0) at b1
  change Blk (((w.alloc (.cells C.toArray 35)).alloc (.cells #[.int .u64 0, .int .u64 0, .int .u64 0, .int .u64 0, .int .u64 0, .int .u64 0, .int .u64 0, .int .u64 0, .int .u64 0, .int .u64 0, .int .u64 0, .int .u64 0, .int .u64 0, .int .u64 0, .int .u64 0, .int .u64 0, .int .u64 0, .int .u64 0] 42)).alloc (.cells #[.int .u64 0, .int .u64 0, .int .u64 0, .int .u64 0, .int .u64 0, .int .u64 0, .int .u64 0, .int .u64 0, .int .u64 0, .int .u64 0, .int .u64 0, .int .u64 0, .int .u64 0, .int .u64 0, .int .u64 0, .int .u64 0, .int .u64 0, .int .u64 0] 42)) (w.heap.size + 1 + 1) 42 (outL g 0) at b2'
  generalize ((w.alloc (.cells C.toArray 35)).alloc (.cells #[.int .u64 0, .int .u64 0, .int .u64 0, .int .u64 0, .int .u64 0, .int .u64 0, .int .u64 0, .int .u64 0, .int .u64 0, .int .u64 0, .int .u64 0, .int .u64 0, .int .u64 0, .int .u64 0, .int .u64 0, .int .u64 0, .int .u64 0, .int .u64 0] 42)).alloc (.cells #[.int .u64 0, .int .u64 0, .int .u64 0, .int .u64 0, .int .u64 0, .int .u64 0, .int .u64 0, .int .u64 0, .int .u64 0, .int .u64 0, .int .u64 0, .int .u64 0, .int .u64 0, .int .u64 0, .int .u64 0, .int .u64 0, .int .u64 0, .int .u64 0] 42) = W0 at *
  have HI := Lib.hid (And.intro b0 (And.intro b1 (And.intro b2' hE)))
  clear b0 b1 b2' hE
  go_wp2
  go_loopw [4] (fun i wr => ∃ k : Nat, k ≤ 18 ∧ i = .int .i64 (k : Int) ∧ Blk wr w.heap.size 35 C ∧ Blk wr (w.heap.size + 1) 42 (outL g 0) ∧ Blk wr (w.heap.size + 1 + 1) 42 (outL g k) ∧ Ext w wr) (fun i _ => 18 - (intOf i).toNat)
  case atStart => exact ⟨0, by omega, rfl, HI.out.1, HI.out.2.1, HI.out.2.2.1, HI.out.2.2.2⟩
  case round =>
    obtain ⟨k, hk, rfl, h0, h1, h2, hE⟩ := hrel
    by_cases hlt : k < 18
    · have HS := Lib.hid (outL_set g k hlt)
      have hc0 := h0.cell (HAT.out k hlt)
      have hc := h2.cell (outL_at g k k hlt)
      have hfz := h2.frozen k
      have h3 := h2.set k (cU64 (g k))
      rw [HS.out] at h3
      have h4 := h1.other (x := ⟨w.heap.size + 1 + 1, k, none⟩) (by show w.heap.size + 1 ≠ w.heap.size + 1 + 1; omega) (cU64 (g k))
      have h5 := h0.other (x := ⟨w.heap.size + 1 + 1, k, none⟩) (by show w.heap.size ≠ w.heap.size + 1 + 1; omega) (cU64 (g k))
      have hE4 : Ext w (wr.setCell ⟨w.heap.size + 1 + 1, k, none⟩ (cU64 (g k))) := Below.setCell hE (by show w.heap.size ≤ w.heap.size + 1 + 1; omega) _
      have HF4 := Lib.hid (And.intro h5 (And.intro h4 (And.intro h3 hE4)))
      clear h0 h1 h2 h3 h4 h5 hE hE4
      go_wp2
      go_roundw
      case rel => exact ⟨k + 1, hlt, by go_num, HF4.out.1, HF4.out.2.1, HF4.out.2.2.1, HF4.out.2.2.2⟩
      case measure => simp [intOf]; omega
    · obtain rfl : k = 18 := by omega
      have hs18 : (outL g 18).toArray.size = 18 := by rw [List.size_toArray, outL_len]
      have hth : wr.there (w.heap.size + 1) 0 (outL g 18).toArray.size := by
        have h := h1.there
        rw [outL_len] at h
        rw [hs18]
        exact h
      have hone := all_oneCell_toArray (outL_one g 18)
      have hi18 : (Tryz.prog.info? 42).map (·.size) = some (outL g 18).toArray.size := by rw [hs18]; rfl
      have hput : Blk (wr.setCells (w.heap.size + 1) 0 (outL g 18)) (w.heap.size + 1) 42 (outL g 18) ∧ Ext w (wr.setCells (w.heap.size + 1) 0 (outL g 18)) := ⟨h1.put (by rw [outL_len, outL_len]), Ext.setCells (by omega) _ _ _ hE⟩
      have hlen18 := outL_len g 18
      generalize outL g 18 = O at *
      clear HI h0 h1 hE hs18
      go_wp2_with (first
        | (refine wpList_store_mid rfl _ _ _ rfl (w.heap.size + 1) 0 O.toArray rfl rfl hth hi18 hone ?_; rw [List.toList_toArray])
        | (refine wpList_load_row rfl _ _ rfl (w.heap.size + 1 + 1) rfl 42 O.toArray (0, 0) _ h2 Tryz.underlying42 rfl hi18 ?_))
      exact ret_cell18 rfl hput.1 Tryz.underlying42 rfl (by rw [hlen18]; rfl) rfl ⟨by rw [HO.out], hput.2⟩
set_option maxRecDepth 100000 in
set_option maxHeartbeats 2000000 in
theorem to3_calls (l : List Nat) (hn : l.length = 18) (w : World) :
    Calls Tryz.prog 133 #[.agg (cDg l).toArray] w fun e w' => e = .returned (.agg (cDg l).toArray) ∧ Ext w w' := by
  have HO := Lib.hid (outL_of l hn)
  have HAT := Lib.hid (show ∀ k, k < 18 → (cDg l)[k]? = some (cU64 (l.getD k 0)) from fun k hk => by simp [List.getD, List.getElem?_eq_getElem (show k < l.length by omega)])
  obtain ⟨g, hg⟩ : ∃ g : Nat → Nat, (fun j => l.getD j 0) = g := ⟨_, rfl⟩
  have hgk : ∀ k, l.getD k 0 = g k := fun k => congrFun hg k
  rw [hg] at HO
  simp only [hgk] at HAT
  clear hgk hg
  generalize cDg l = C at *
  go_enter Tryz.func133, Tryz.ntmps133
  go_upto_region 2 with (fail)
  have b0 := ((Blk.new w 42 C).ext ((Ext.rfl' _).alloc (.cells #[.int .u64 0, .int .u64 0, .int .u64 0, .int .u64 0, .int .u64 0, .int .u64 0, .int .u64 0, .int .u64 0, .int .u64 0, .int .u64 0, .int .u64 0, .int .u64 0, .int .u64 0, .int .u64 0, .int .u64 0, .int .u64 0, .int .u64 0, .int .u64 0] 35))).ext ((Ext.rfl' _).alloc (.cells #[.int .u64 0, .int .u64 0, .int .u64 0, .int .u64 0, .int .u64 0, .int .u64 0, .int .u64 0, .int .u64 0, .int .u64 0, .int .u64 0, .int .u64 0, .int .u64 0, .int .u64 0, .int .u64 0, .int .u64 0, .int .u64 0, .int .u64 0, .int .u64 0] 35))
  have b1 := (Blk.new (w.alloc (.cells C.toArray 42)) 35 (outL g 0)).ext ((Ext.rfl' _).alloc (.cells #[.int .u64 0, .int .u64 0, .int .u64 0, .int .u64 0, .int .u64 0, .int .u64 0, .int .u64 0, .int .u64 0, .int .u64 0, .int .u64 0, .int .u64 0, .int .u64 0, .int .u64 0, .int .u64 0, .int .u64 0, .int .u64 0, .int .u64 0, .int .u64 0] 35))
  have b2' := Blk.new ((w.alloc (.cells C.toArray 42)).alloc (.cells #[.int .u64 0, .int .u64 0, .int .u64 0, .int .u64 0, .int .u64 0, .int .u64 0, .int .u64 0, .int .u64 0, .int .u64 0, .int .u64 0, .int .u64 0, .int .u64 0, .int .u64 0, .int .u64 0, .int .u64 0, .int .u64 0, .int .u64 0, .int .u64 0] 35)) 35 (outL g 0)
  have hE := (((Ext.rfl' w).alloc (.cells C.toArray 42)).alloc (.cells #[.int .u64 0, .int .u64 0, .int .u64 0, .int .u64 0, .int .u64 0, .int .u64 0, .int .u64 0, .int .u64 0, .int .u64 0, .int .u64 0, .int .u64 0, .int .u64 0, .int .u64 0, .int .u64 0, .int .u64 0, .int .u64 0, .int .u64 0, .int .u64 0] 35)).alloc (.cells #[.int .u64 0, .int .u64 0, .int .u64 0, .int .u64 0, .int .u64 0, .int .u64 0, .int .u64 0, .int .u64 0, .int .u64 0, .int .u64 0, .int .u64 0, .int .u64 0, .int .u64 0, .int .u64 0, .int .u64 0, .int .u64 0, .int .u64 0, .int .u64 0] 35)
  rw [World.size_alloc] at b1
  rw [World.size_alloc, World.size_alloc] at b2'
  change Blk (((w.alloc (.cells C.toArray 42)).alloc (.cells #[.int .u64 0, .int .u64 0, .int .u64 0, .int .u64 0, .int .u64 0, .int .u64 0, .int .u64 0, .int .u64 0, .int .u64 0, .int .u64 0, .int .u64 0, .int .u64 0, .int .u64 0, .int .u64 0, .int .u64 0, .int .u64 0, .int .u64 0, .int .u64 0] 35)).alloc (.cells #[.int .u64 0, .int .u64 0, .int .u64 0, .int .u64 0, .int .u64 0, .int .u64 0, .int .u64 0, .int .u64 0, .int .u64 0, .int .u64 0, .int .u64 0, .int .u64 0, .int .u64 0, .int .u64 0, .int .u64 0, .int .u64 0, .int .u64 0, .int .u64 0] 35)) (w.heap.size + 1) 35 (outL g 0) at b1
  change Blk (((w.alloc (.cells C.toArray 42)).alloc (.cells #[.int .u64 0, .int .u64 0, .int .u64 0, .int .u64 0, .int .u64 0, .int .u64 0, .int .u64 0, .int .u64 0, .int .u64 0, .int .u64 0, .int .u64 0, .int .u64 0, .int .u64 0, .int .u64 0, .int .u64 0, .int .u64 0, .int .u64 0, .int .u64 0] 35)).alloc (.cells #[.int .u64 0, .int .u64 0, .int .u64 0, .int .u64 0, .int .u64 0, .int .u64 0, .int .u64 0, .int .u64 0, .int .u64 0, .int .u64 0, .int .u64 0, .int .u64 0, .int .u64 0, .int .u64 0, .int .u64 0, .int .u64 0, .int .u64 0, .int .u64 0] 35)) (w.heap.size + 1 + 1) 35 (outL g 0) at b2'
  generalize ((w.alloc (.cells C.toArray 42)).alloc (.cells #[.int .u64 0, .int .u64 0, .int .u64 0, .int .u64 0, .int .u64 0, .int .u64 0, .int .u64 0, .int .u64 0, .int .u64 0, .int .u64 0, .int .u64 0, .int .u64 0, .int .u64 0, .int .u64 0, .int .u64 0, .int .u64 0, .int .u64 0, .int .u64 0] 35)).alloc (.cells #[.int .u64 0, .int .u64 0, .int .u64 0, .int .u64 0, .int .u64 0, .int .u64 0, .int .u64 0, .int .u64 0, .int .u64 0, .int .u64 0, .int .u64 0, .int .u64 0, .int .u64 0, .int .u64 0, .int .u64 0, .int .u64 0, .int .u64 0, .int .u64 0] 35) = W0 at *
  have HI := Lib.hid (And.intro b0 (And.intro b1 (And.intro b2' hE)))
  clear b0 b1 b2' hE
  go_wp2
  go_loopw [4] (fun i wr => ∃ k : Nat, k ≤ 18 ∧ i = .int .i64 (k : Int) ∧ Blk wr w.heap.size 42 C ∧ Blk wr (w.heap.size + 1) 35 (outL g 0) ∧ Blk wr (w.heap.size + 1 + 1) 35 (outL g k) ∧ Ext w wr) (fun i _ => 18 - (intOf i).toNat)
  case atStart => exact ⟨0, by omega, rfl, HI.out.1, HI.out.2.1, HI.out.2.2.1, HI.out.2.2.2⟩
  case round =>
    obtain ⟨k, hk, rfl, h0, h1, h2, hE⟩ := hrel
    by_cases hlt : k < 18
    · have HS := Lib.hid (outL_set g k hlt)
      have hc0 := h0.cell (HAT.out k hlt)
      have hc := h2.cell (outL_at g k k hlt)
      have hfz := h2.frozen k
      have h3 := h2.set k (cU64 (g k))
      rw [HS.out] at h3
      have h4 := h1.other (x := ⟨w.heap.size + 1 + 1, k, none⟩) (by show w.heap.size + 1 ≠ w.heap.size + 1 + 1; omega) (cU64 (g k))
      have h5 := h0.other (x := ⟨w.heap.size + 1 + 1, k, none⟩) (by show w.heap.size ≠ w.heap.size + 1 + 1; omega) (cU64 (g k))
      have hE4 : Ext w (wr.setCell ⟨w.heap.size + 1 + 1, k, none⟩ (cU64 (g k))) := Below.setCell hE (by show w.heap.size ≤ w.heap.size + 1 + 1; omega) _
      have HF4 := Lib.hid (And.intro h5 (And.intro h4 (And.intro h3 hE4)))
      clear h0 h1 h2 h3 h4 h5 hE hE4
      go_wp2
      go_roundw
      case rel => exact ⟨k + 1, hlt, by go_num, HF4.out.1, HF4.out.2.1, HF4.out.2.2.1, HF4.out.2.2.2⟩
      case measure => simp [intOf]; omega
    · obtain rfl : k = 18 := by omega
      have hs18 : (outL g 18).toArray.size = 18 := by rw [List.size_toArray, outL_len]
      have hth : wr.there (w.heap.size + 1) 0 (outL g 18).toArray.size := by
        have h := h1.there
        rw [outL_len] at h
        rw [hs18]
        exact h
      have hone := all_oneCell_toArray (outL_one g 18)
      have hi18 : (Tryz.prog.info? 35).map (·.size) = some (outL g 18).toArray.size := by rw [hs18]; rfl
      have hput : Blk (wr.setCells (w.heap.size + 1) 0 (outL g 18)) (w.heap.size + 1) 35 (outL g 18) ∧ Ext w (wr.setCells (w.heap.size + 1) 0 (outL g 18)) := ⟨h1.put (by rw [outL_len, outL_len]), Ext.setCells (by omega) _ _ _ hE⟩
      have hlen18 := outL_len g 18
      generalize outL g 18 = O at *
      clear HI h0 h1 hE hs18
      go_wp2_with (first
        | (refine wpList_store_mid rfl _ _ _ rfl (w.heap.size + 1) 0 O.toArray rfl rfl hth hi18 hone ?_; rw [List.toList_toArray])
        | (refine wpList_load_row rfl _ _ rfl (w.heap.size + 1 + 1) rfl 35 O.toArray (0, 0) _ h2 Tryz.underlying35 rfl hi18 ?_))
      exact ret_cell18 rfl hput.1 Tryz.underlying35 rfl (by rw [hlen18]; rfl) rfl ⟨by rw [HO.out], hput.2⟩
set_option maxRecDepth 100000 in
set_option maxHeartbeats 2000000 in
theorem of4_calls (l : List Nat) (A : Option Addr) (c : Nat) (w : World) (hA : Rd w A (cDg l)) (hl : l.length ≤ 100000) :
    Calls Tryz.prog 121 #[.slice A l.length c] w fun e w' => (∃ A' c', e = .returned (.slice A' l.length c') ∧ Rd w' A' (cDg l) ∧ (∀ ad, A' = some ad → w.heap.size ≤ ad.block)) ∧ Ext w w' := by
  obtain ⟨i0, hi, hz0, hz1, hz2⟩ := info_parts (show (Tryz.prog.info? 22).map (fun i => (i.zero, i.size, i.bytes)) = some (some (.int .u64 0), 1, 8) by kernel_rfl)
  have HA := Lib.hid hA
  clear hA
  go_enter Tryz.func121, Tryz.ntmps121
  go_wp2
  go_loopw [3, 4] (fun v i wr => ∃ k : Nat, k ≤ l.length ∧ i = .int .i64 (k : Int) ∧ wr.ownsRow w.heap.size 22 1 v k (cDg (l.take k)) ∧ Ext w wr) (fun _ i _ => l.length - (intOf i).toNat)
  case atStart => exact ⟨0, by omega, rfl, World.ownsRow_nil _ _ _ _, Ext.rfl' _⟩
  case round =>
    obtain ⟨k, hk, rfl, hoo, hE⟩ := hrel
    by_cases hlt : k < l.length
    · obtain ⟨ad, rfl, _, hc⟩ := (HA.out.ext hE).at_ (j := k) (u := cU64 l[k]) (by simp [hlt])
      have HS := Lib.hid (show l.take (k + 1) = l.take k ++ [l[k]] from List.take_succ_eq_append_getElem hlt)
      generalize l[k] = y at *
      have hoo2 := hoo.alloc (.cells #[cU64 y] 22)
      have hE2 := hE.alloc (.cells #[cU64 y] 22)
      have hsz := hE.size
      clear hoo hE
      go_wp2_with (at_builtin; (refine wpList_append_own _ rfl _ _ 43 rfl w.heap.size 22 i0 (.int .u64 0) 1 8 Tryz.underlying43 hi hz0 hz1 hz2 rfl (by decide) _ _ _ rfl hoo2 ⟨wr.heap.size, 0, none⟩ 1 1 [cU64 y] rfl rfl (cell_one_new _ _ _) (fun x hx => by simp at hx; subst hx; rfl) (by unfold maxLen; omega) (by omega) (by simp; omega) ?_); intro v' w2 hown' hgrow _; have HO2 := Lib.hid hown'; have HB2 := Lib.hid (show Ext w w2 from hE2.grown hgrow (by simp; omega) (fun q hq => (hoo2.lt q hq).1)); clear hown' hgrow hoo2 hE2)
      go_wp2
      go_roundw
      case rel => exact ⟨k + 1, hlt, by go_num, by rw [HS.out]; simpa [cDg] using HO2.out, HB2.out⟩
      case measure => simp [intOf]; omega
    · obtain rfl : k = l.length := by omega
      rw [List.take_length] at hoo
      obtain ⟨A', c', rfl, hr, hat⟩ := rd_of_own_at hoo
      have HR := Lib.hid (And.intro hr (And.intro hat hE))
      clear hoo hr hat hE
      go_wp2
      go_ret
      exact ⟨⟨_, _, rfl, HR.out.1, fun ad e => (HR.out.2.1 ad e).1⟩, HR.out.2.2⟩
set_option maxRecDepth 100000 in
set_option maxHeartbeats 2000000 in
theorem to4_calls (l : List Nat) (A : Option Addr) (c : Nat) (w : World) (hA : Rd w A (cDg l)) (hl : l.length ≤ 100000) :
    Calls Tryz.prog 134 #[.slice A l.length c] w fun e w' => (∃ A' c', e = .returned (.slice A' l.length c') ∧ Rd w' A' (cDg l) ∧ (∀ ad, A' = some ad → w.heap.size ≤ ad.block)) ∧ Ext w w' := by
  obtain ⟨i0, hi, hz0, hz1, hz2⟩ := info_parts (show (Tryz.prog.info? 34).map (fun i => (i.zero, i.size, i.bytes)) = some (some (.int .u64 0), 1, 8) by kernel_rfl)
  have HA := Lib.hid hA
  clear hA
  go_enter Tryz.func134, Tryz.ntmps134
  go_wp2
  go_loopw [3, 4] (fun v i wr => ∃ k : Nat, k ≤ l.length ∧ i = .int .i64 (k : Int) ∧ wr.ownsRow w.heap.size 34 1 v k (cDg (l.take k)) ∧ Ext w wr) (fun _ i _ => l.length - (intOf i).toNat)
  case atStart => exact ⟨0, by omega, rfl, World.ownsRow_nil _ _ _ _, Ext.rfl' _⟩
  case round =>
    obtain ⟨k, hk, rfl, hoo, hE⟩ := hrel
    by_cases hlt : k < l.length
    · obtain ⟨ad, rfl, _, hc⟩ := (HA.out.ext hE).at_ (j := k) (u := cU64 l[k]) (by simp [hlt])
      have HS := Lib.hid (show l.take (k + 1) = l.take k ++ [l[k]] from List.take_succ_eq_append_getElem hlt)
      generalize l[k] = y at *
      have hoo2 := hoo.alloc (.cells #[cU64 y] 34)
      have hE2 := hE.alloc (.cells #[cU64 y] 34)
      have hsz := hE.size
      clear hoo hE
      go_wp2_with (at_builtin; (refine wpList_append_own _ rfl _ _ 37 rfl w.heap.size 34 i0 (.int .u64 0) 1 8 Tryz.underlying37 hi hz0 hz1 hz2 rfl (by decide) _ _ _ rfl hoo2 ⟨wr.heap.size, 0, none⟩ 1 1 [cU64 y] rfl rfl (cell_one_new _ _ _) (fun x hx => by simp at hx; subst hx; rfl) (by unfold maxLen; omega) (by omega) (by simp; omega) ?_); intro v' w2 hown' hgrow _; have HO2 := Lib.hid hown'; have HB2 := Lib.hid (show Ext w w2 from hE2.grown hgrow (by simp; omega) (fun q hq => (hoo2.lt q hq).1)); clear hown' hgrow hoo2 hE2)
      go_wp2
      go_roundw
      case rel => exact ⟨k + 1, hlt, by go_num, by rw [HS.out]; simpa [cDg] using HO2.out, HB2.out⟩
      case measure => simp [intOf]; omega
    · obtain rfl : k = l.length := by omega
      rw [List.take_length] at hoo
      obtain ⟨A', c', rfl, hr, hat⟩ := rd_of_own_at hoo
      have HR := Lib.hid (And.intro hr (And.intro hat hE))
      clear hoo hr hat hE
      go_wp2
      go_ret
      exact ⟨⟨_, _, rfl, HR.out.1, fun ad e => (HR.out.2.1 ad e).1⟩, HR.out.2.2⟩
set_option maxRecDepth 100000 in
set_option maxHeartbeats 2000000 in
theorem of5_calls (who leaf : Int) (one : List Nat) (hone : one.length = 18) (l : List Nat) (hl : l.length ≤ 100000) (A : Option Addr) (c : Nat) (w : World) (hA : Rd w A (cDg l)) :
    Calls Tryz.prog 25 #[.agg (sgV who leaf one A l.length c).toArray] w fun e w' => (∃ A' c', e = .returned (.agg (sgV who leaf one A' l.length c').toArray) ∧ Rd w' A' (cDg l) ∧ (∀ ad, A' = some ad → w.heap.size ≤ ad.block)) ∧ Ext w w' := by
  have hat := sgV_at who leaf one hone A l.length c
  have hs18 : (cDg one).length = 18 := by rw [List.length_map, hone]
  have hi18 : (Tryz.prog.info? 36).map (·.size) = some (cDg one).length := by rw [hs18]; rfl
  have H3 := Lib.hid (of3_calls one hone)
  have H4 := Lib.hid (fun W (hx : Ext w W) => of4_calls l A c W (hA.ext hx) hl)
  obtain ⟨o0, o1, o2, o3, o4, o5, o6, o7, o8, o9, o10, o11, o12, o13, o14, o15, o16, o17, hO⟩ := list18 (cDg one) hs18
  have HV := Lib.hid (show ∀ A' c', (sgV who leaf one A' l.length c').toArray = #[.int .i64 who, .int .i64 leaf, o0, o1, o2, o3, o4, o5, o6, o7, o8, o9, o10, o11, o12, o13, o14, o15, o16, o17, .slice A' l.length c'] from fun A' c' => by rw [sgV, hO]; rfl)
  have HO := Lib.hid hO
  have HON := Lib.hid (fun A' c' => sgV_one who leaf one A' l.length c')
  have HLN := Lib.hid (fun A' c' => sgV_len who leaf one hone A' l.length c')
  clear hO hA hone hs18
  generalize hSG : sgV who leaf one A l.length c = SA at *
  clear hSG
  obtain ⟨SG, hSG⟩ : ∃ SG : Option Addr → Nat → List Value, (fun A' c' => sgV who leaf one A' l.length c') = SG := ⟨_, rfl⟩
  have hsg : ∀ A' c', sgV who leaf one A' l.length c' = SG A' c' := fun A' c' => congrFun (congrFun hSG A') c'
  simp only [hsg] at HV HON HLN ⊢
  clear hsg hSG
  generalize cDg one = OS at *
  have HCE := Lib.hid (show ∀ W, Blk W w.heap.size 39 SA → (W.cell? ⟨w.heap.size, 0, none⟩ = some (.int .i64 who) ∧ W.cell? ⟨w.heap.size, 1, none⟩ = some (.int .i64 leaf) ∧ W.cell? ⟨w.heap.size, 20, none⟩ = some (.slice A l.length c) ∧ W.rangeAt w.heap.size 2 OS) from fun W hb => ⟨hb.cell hat.1, hb.cell hat.2.1, hb.cell hat.2.2.1, fun j v hj => by rw [Nat.add_comm 2 j]; exact hb.cell (hat.2.2.2 j v hj)⟩)
  clear hat
  generalize cDg l = CL at *
  generalize l.length = n at *
  go_enter Tryz.func25, Tryz.ntmps25
  go_upto_region 1 with (fail)
  have b0 := (Blk.new w 39 SA).ext ((Ext.rfl' _).alloc (.cells #[.int .i64 0, .int .i64 0, .int .u64 0, .int .u64 0, .int .u64 0, .int .u64 0, .int .u64 0, .int .u64 0, .int .u64 0, .int .u64 0, .int .u64 0, .int .u64 0, .int .u64 0, .int .u64 0, .int .u64 0, .int .u64 0, .int .u64 0, .int .u64 0, .int .u64 0, .int .u64 0, .slice none 0 0] 45))
  have b1 := Blk.new (w.alloc (.cells SA.toArray 39)) 45 [.int .i64 0, .int .i64 0, .int .u64 0, .int .u64 0, .int .u64 0, .int .u64 0, .int .u64 0, .int .u64 0, .int .u64 0, .int .u64 0, .int .u64 0, .int .u64 0, .int .u64 0, .int .u64 0, .int .u64 0, .int .u64 0, .int .u64 0, .int .u64 0, .int .u64 0, .int .u64 0, .slice none 0 0]
  have hE := ((Ext.rfl' w).alloc (.cells SA.toArray 39)).alloc (.cells #[.int .i64 0, .int .i64 0, .int .u64 0, .int .u64 0, .int .u64 0, .int .u64 0, .int .u64 0, .int .u64 0, .int .u64 0, .int .u64 0, .int .u64 0, .int .u64 0, .int .u64 0, .int .u64 0, .int .u64 0, .int .u64 0, .int .u64 0, .int .u64 0, .int .u64 0, .int .u64 0, .slice none 0 0] 45)
  rw [World.size_alloc] at b1
  change Blk ((w.alloc (.cells SA.toArray 39)).alloc (.cells #[.int .i64 0, .int .i64 0, .int .u64 0, .int .u64 0, .int .u64 0, .int .u64 0, .int .u64 0, .int .u64 0, .int .u64 0, .int .u64 0, .int .u64 0, .int .u64 0, .int .u64 0, .int .u64 0, .int .u64 0, .int .u64 0, .int .u64 0, .int .u64 0, .int .u64 0, .int .u64 0, .slice none 0 0] 45)) (w.heap.size + 1) 45 [.int .i64 0, .int .i64 0, .int .u64 0, .int .u64 0, .int .u64 0, .int .u64 0, .int .u64 0, .int .u64 0, .int .u64 0, .int .u64 0, .int .u64 0, .int .u64 0, .int .u64 0, .int .u64 0, .int .u64 0, .int .u64 0, .int .u64 0, .int .u64 0, .int .u64 0, .int .u64 0, .slice none 0 0] at b1
  change Blk ((w.alloc (.cells SA.toArray 39)).alloc (.cells #[.int .i64 0, .int .i64 0, .int .u64 0, .int .u64 0, .int .u64 0, .int .u64 0, .int .u64 0, .int .u64 0, .int .u64 0, .int .u64 0, .int .u64 0, .int .u64 0, .int .u64 0, .int .u64 0, .int .u64 0, .int .u64 0, .int .u64 0, .int .u64 0, .int .u64 0, .int .u64 0, .slice none 0 0] 45)) w.heap.size 39 SA at b0
  change Ext w ((w.alloc (.cells SA.toArray 39)).alloc (.cells #[.int .i64 0, .int .i64 0, .int .u64 0, .int .u64 0, .int .u64 0, .int .u64 0, .int .u64 0, .int .u64 0, .int .u64 0, .int .u64 0, .int .u64 0, .int .u64 0, .int .u64 0, .int .u64 0, .int .u64 0, .int .u64 0, .int .u64 0, .int .u64 0, .int .u64 0, .int .u64 0, .slice none 0 0] 45)) at hE
  generalize (w.alloc (.cells SA.toArray 39)).alloc (.cells #[.int .i64 0, .int .i64 0, .int .u64 0, .int .u64 0, .int .u64 0, .int .u64 0, .int .u64 0, .int .u64 0, .int .u64 0, .int .u64 0, .int .u64 0, .int .u64 0, .int .u64 0, .int .u64 0, .int .u64 0, .int .u64 0, .int .u64 0, .int .u64 0, .int .u64 0, .int .u64 0, .slice none 0 0] 45) = W0 at *
  generalize hZ : ([.int .i64 0, .int .i64 0, .int .u64 0, .int .u64 0, .int .u64 0, .int .u64 0, .int .u64 0, .int .u64 0, .int .u64 0, .int .u64 0, .int .u64 0, .int .u64 0, .int .u64 0, .int .u64 0, .int .u64 0, .int .u64 0, .int .u64 0, .int .u64 0, .int .u64 0, .int .u64 0, .slice none 0 0] : List Value) = ZL at b1
  have HZ := Lib.hid (show ZL.length = 21 by rw [← hZ]; rfl)
  have HB := Lib.hid (show Blk W0.drew w.heap.size 39 SA from b0.drew)
  have HRB := Lib.hid (show Blk W0.drew (w.heap.size + 1) 45 ZL from b1.drew)
  have HX := Lib.hid (show Ext w W0.drew from hE.drew)
  clear b0 b1 hE hZ
  refine wp_region_held_drew (S := fun W => W.cell? ⟨w.heap.size, 0, none⟩ = some (.int .i64 who) ∧ W.cell? ⟨w.heap.size, 1, none⟩ = some (.int .i64 leaf) ∧ W.cell? ⟨w.heap.size, 20, none⟩ = some (.slice A n c) ∧ W.rangeAt w.heap.size 2 OS) (by kernel_rfl) (HCE.out _ HB.out) (fun hHeld => ?_)
  generalize W0.drew = W1 at *
  refine wpAnyH_take (i := 0) (v := ?_) (by first | (simp only [List.getElem?_toArray, List.getElem?_cons_zero, List.getElem?_cons_succ]; done) | (simp only [List.getElem?_toArray, List.getElem?_cons_zero, List.getElem?_cons_succ]; rfl)) (by kernel_rfl) (by kernel_rfl) (by kernel_rfl) (by exact fun _ _ _ h => h) (Or.inl ⟨by rfl, ?hy0⟩) (by assumption) ?_
  case hy0 => (intro w' hSw; obtain ⟨hS0, hS1, hS2, -⟩ := hSw; go_simp; try with_reducible rfl)
  try simp only [Act.put, List.setIfInBounds_toArray, List.set_cons_zero, List.set_cons_succ]
  refine wpAnyH_take (i := 1) (v := ?_) (by first | (simp only [List.getElem?_toArray, List.getElem?_cons_zero, List.getElem?_cons_succ]; done) | (simp only [List.getElem?_toArray, List.getElem?_cons_zero, List.getElem?_cons_succ]; rfl)) (by kernel_rfl) (by kernel_rfl) (by kernel_rfl) (by exact fun _ _ _ h => h) (Or.inl ⟨by rfl, ?hy1⟩) (by assumption) ?_
  case hy1 => (intro w' hSw; obtain ⟨hS0, hS1, hS2, -⟩ := hSw; go_simp; try with_reducible rfl)
  try simp only [Act.put, List.setIfInBounds_toArray, List.set_cons_zero, List.set_cons_succ]
  refine wpAnyH_take (i := 2) (v := ?_) (by first | (simp only [List.getElem?_toArray, List.getElem?_cons_zero, List.getElem?_cons_succ]; done) | (simp only [List.getElem?_toArray, List.getElem?_cons_zero, List.getElem?_cons_succ]; rfl)) (by kernel_rfl) (by kernel_rfl) (by kernel_rfl) (by exact fun _ _ _ h => h) (Or.inl ⟨by rfl, ?hy2⟩) (by assumption) ?_
  case hy2 => (intro w' hSw; obtain ⟨hS0, hS1, hS2, -⟩ := hSw; go_simp; try with_reducible rfl)
  try simp only [Act.put, List.setIfInBounds_toArray, List.set_cons_zero, List.set_cons_succ]
  refine wpAnyH_take (i := 3) (v := ?_) (by first | (simp only [List.getElem?_toArray, List.getElem?_cons_zero, List.getElem?_cons_succ]; done) | (simp only [List.getElem?_toArray, List.getElem?_cons_zero, List.getElem?_cons_succ]; rfl)) (by kernel_rfl) (by kernel_rfl) (by kernel_rfl) (by exact fun _ _ _ h => h) (Or.inl ⟨by rfl, ?hy3⟩) (by assumption) ?_
  case hy3 => (intro w' hSw; obtain ⟨hS0, hS1, hS2, -⟩ := hSw; go_simp; try with_reducible rfl)
  try simp only [Act.put, List.setIfInBounds_toArray, List.set_cons_zero, List.set_cons_succ]
  refine wpAnyH_take (i := 4) (v := ?_) (by first | (simp only [List.getElem?_toArray, List.getElem?_cons_zero, List.getElem?_cons_succ]; done) | (simp only [List.getElem?_toArray, List.getElem?_cons_zero, List.getElem?_cons_succ]; rfl)) (by kernel_rfl) (by kernel_rfl) (by kernel_rfl) (by exact fun _ _ _ h => h) (Or.inl ⟨by rfl, ?hy4⟩) (by assumption) ?_
  case hy4 => (intro w' hSw; obtain ⟨hS0, hS1, hS2, -⟩ := hSw; go_simp; try with_reducible rfl)
  try simp only [Act.put, List.setIfInBounds_toArray, List.set_cons_zero, List.set_cons_succ]
  refine wpAnyH_take (i := 5) (v := .agg OS.toArray) (by first | (simp only [List.getElem?_toArray, List.getElem?_cons_zero, List.getElem?_cons_succ]; done) | (simp only [List.getElem?_toArray, List.getElem?_cons_zero, List.getElem?_cons_succ]; rfl)) (by kernel_rfl) (by kernel_rfl) (by kernel_rfl) (by exact fun _ _ _ h => h) (Or.inl ⟨by rfl, fun w' hSw => run_load_mid _ _ _ _ rfl w.heap.size 2 (by rfl) OS _ w' hSw.2.2.2 Tryz.underlying36 rfl hi18⟩) (by assumption) ?_
  try simp only [Act.put, List.setIfInBounds_toArray, List.set_cons_zero, List.set_cons_succ]
  refine wpAnyH_take (i := 7) (v := ?_) (by first | (simp only [List.getElem?_toArray, List.getElem?_cons_zero, List.getElem?_cons_succ]; done) | (simp only [List.getElem?_toArray, List.getElem?_cons_zero, List.getElem?_cons_succ]; rfl)) (by kernel_rfl) (by kernel_rfl) (by kernel_rfl) (by exact fun _ _ _ h => h) (Or.inl ⟨by rfl, ?hy7⟩) (by assumption) ?_
  case hy7 => (intro w' hSw; obtain ⟨hS0, hS1, hS2, -⟩ := hSw; go_simp; try with_reducible rfl)
  try simp only [Act.put, List.setIfInBounds_toArray, List.set_cons_zero, List.set_cons_succ]
  refine wpAnyH_take (i := 8) (v := ?_) (by first | (simp only [List.getElem?_toArray, List.getElem?_cons_zero, List.getElem?_cons_succ]; done) | (simp only [List.getElem?_toArray, List.getElem?_cons_zero, List.getElem?_cons_succ]; rfl)) (by kernel_rfl) (by kernel_rfl) (by kernel_rfl) (by exact fun _ _ _ h => h) (Or.inl ⟨by rfl, ?hy8⟩) (by assumption) ?_
  case hy8 => (intro w' hSw; obtain ⟨hS0, hS1, hS2, -⟩ := hSw; go_simp; try with_reducible rfl)
  try simp only [Act.put, List.setIfInBounds_toArray, List.set_cons_zero, List.set_cons_succ]
  refine wpAnyH_ready (rs := [6]) (by kernel_rfl) (by simp) ?_
  refine AllReadyH.cons (by first | (simp only [List.getElem?_toArray, List.getElem?_cons_zero, List.getElem?_cons_succ]; done) | (simp only [List.getElem?_toArray, List.getElem?_cons_zero, List.getElem?_cons_succ]; rfl)) (fun K hK => ?_) ?_
  · skip
    go_simp
    refine (H3.out _).mono ?_
    rintro e W4 ⟨rfl, hx⟩
    replace HB := Lib.hid (HB.out.ext hx)
    replace HRB := Lib.hid (HRB.out.ext hx)
    replace HX := Lib.hid (show Ext w W4 from HX.out.tr hx)
    clear hx
    try (go_wp2_with fail)
    refine hK.out _ _ (HCE.out _ HB.out) (fun hHeld => ?_)
    clear hK K
    try simp only [Act.put, List.setIfInBounds_toArray, List.set_cons_zero, List.set_cons_succ]
    refine wpAnyH_ready (rs := [9]) (by kernel_rfl) (by simp) ?_
    refine AllReadyH.cons (by first | (simp only [List.getElem?_toArray, List.getElem?_cons_zero, List.getElem?_cons_succ]; done) | (simp only [List.getElem?_toArray, List.getElem?_cons_zero, List.getElem?_cons_succ]; rfl)) (fun K hK => ?_) ?_
    · skip
      go_simp
      refine (H4.out _ HX.out).mono ?_
      rintro e W4 ⟨⟨A', c', rfl, hr, hf⟩, hx⟩
      have HF := Lib.hid (show ∀ ad, A' = some ad → w.heap.size + 1 < ad.block from fun ad e => by have := hf ad e; have := HRB.out.lt; omega)
      have HR := Lib.hid hr
      clear hr hf
      replace HB := Lib.hid (HB.out.ext hx)
      replace HRB := Lib.hid (HRB.out.ext hx)
      replace HX := Lib.hid (show Ext w W4 from HX.out.tr hx)
      clear hx
      try (go_wp2_with fail)
      refine hK.out _ _ (HCE.out _ HB.out) (fun hHeld => ?_)
      clear hK K
      try simp only [Act.put, List.setIfInBounds_toArray, List.set_cons_zero, List.set_cons_succ]
      refine wpAnyH_take (i := 10) (v := .agg (SG A' c').toArray) (by first | (simp only [List.getElem?_toArray, List.getElem?_cons_zero, List.getElem?_cons_succ]; done) | (simp only [List.getElem?_toArray, List.getElem?_cons_zero, List.getElem?_cons_succ]; rfl)) (by kernel_rfl) (by kernel_rfl) (by kernel_rfl) (by exact fun _ _ _ h => h) (Or.inl ⟨by rfl, fun w' _ => by rw [HV.out]; exact run_build4r _ _ _ _ _ _ rfl (.int .i64 who) (.int .i64 leaf) (.slice A' n c') o0 o1 o2 o3 o4 o5 o6 o7 o8 o9 o10 o11 o12 o13 o14 o15 o16 o17 rfl rfl (by show Value.agg OS.toArray = _; rw [HO.out]) rfl w' ⟨_, rfl⟩ ⟨_, rfl⟩ ⟨_, _, _, rfl⟩⟩) (by assumption) ?_
      try simp only [Act.put, List.setIfInBounds_toArray, List.set_cons_zero, List.set_cons_succ]
      refine wpAnyH_ready (rs := [11]) (by kernel_rfl) (by simp) ?_
      refine AllReadyH.cons (by first | (simp only [List.getElem?_toArray, List.getElem?_cons_zero, List.getElem?_cons_succ]; done) | (simp only [List.getElem?_toArray, List.getElem?_cons_zero, List.getElem?_cons_succ]; rfl)) (fun K hK => ?_) AllReadyH.nil
      rw [if_pos (by rfl)]
      have hs21 : (SG A' c').toArray.size = 21 := by rw [List.size_toArray]; exact HLN.out _ _
      have hth : W4.there (w.heap.size + 1) 0 (SG A' c').toArray.size := by
        have h := HRB.out.there
        rw [HZ.out] at h
        rw [hs21]
        exact h
      refine wp_store_mid _ _ _ rfl (w.heap.size + 1) 0 (SG A' c').toArray rfl rfl hth (by rw [hs21]; rfl) (all_oneCell_toArray (HON.out _ _)) ?_
      rw [List.toList_toArray]
      have hFB : Blk (W4.setCells (w.heap.size + 1) 0 (SG A' c')) (w.heap.size + 1) 45 (SG A' c') := HRB.out.put (by rw [HZ.out]; exact HLN.out _ _)
      have hFX : Ext w (W4.setCells (w.heap.size + 1) 0 (SG A' c')) := Ext.setCells (by omega) _ _ _ HX.out
      have hFR : Rd (W4.setCells (w.heap.size + 1) 0 (SG A' c')) A' CL := Rd.setCellsO (fun ad e => by have := HF.out ad e; omega) _ _ _ HR.out
      replace HB := Lib.hid (show Blk (W4.setCells (w.heap.size + 1) 0 (SG A' c')) w.heap.size 39 SA from HB.out.others (by omega) _ _ _)
      refine hK.out _ _ (HCE.out _ HB.out) (fun hHeld => ?_)
      clear hK K
      try simp only [Act.put, List.setIfInBounds_toArray, List.set_cons_zero, List.set_cons_succ]
      refine wpAnyH_done (by kernel_rfl) ?_ _
      clear hHeld
      have hi21 : (Tryz.prog.info? 45).map (·.size) = some (SG A' c').length := by rw [HLN.out]; rfl
      have HFF := Lib.hid (And.intro hFR hFX)
      have HFA := Lib.hid (show ∀ ad, A' = some ad → w.heap.size ≤ ad.block from fun ad e => by have := HF.out ad e; omega)
      clear hFR hFX HF HR HX HB HRB hs21 hth
      generalize W4.setCells (w.heap.size + 1) 0 (SG A' c') = W5 at *
      go_wp2
      exact ret_cell18 rfl hFB Tryz.underlying45 rfl hi21 rfl ⟨⟨_, _, rfl, HFF.out.1, HFA.out⟩, HFF.out.2⟩
    exact AllReadyH.nil
  exact AllReadyH.nil
set_option maxRecDepth 100000 in
set_option maxHeartbeats 2000000 in
theorem to5_calls (who leaf : Int) (one : List Nat) (hone : one.length = 18) (l : List Nat) (hl : l.length ≤ 100000) (A : Option Addr) (c : Nat) (w : World) (hA : Rd w A (cDg l)) :
    Calls Tryz.prog 38 #[.agg (sgV who leaf one A l.length c).toArray] w fun e w' => (∃ A' c', e = .returned (.agg (sgV who leaf one A' l.length c').toArray) ∧ Rd w' A' (cDg l) ∧ (∀ ad, A' = some ad → w.heap.size ≤ ad.block)) ∧ Ext w w' := by
  have hat := sgV_at who leaf one hone A l.length c
  have hs18 : (cDg one).length = 18 := by rw [List.length_map, hone]
  have hi18 : (Tryz.prog.info? 42).map (·.size) = some (cDg one).length := by rw [hs18]; rfl
  have H3 := Lib.hid (to3_calls one hone)
  have H4 := Lib.hid (fun W (hx : Ext w W) => to4_calls l A c W (hA.ext hx) hl)
  obtain ⟨o0, o1, o2, o3, o4, o5, o6, o7, o8, o9, o10, o11, o12, o13, o14, o15, o16, o17, hO⟩ := list18 (cDg one) hs18
  have HV := Lib.hid (show ∀ A' c', (sgV who leaf one A' l.length c').toArray = #[.int .i64 who, .int .i64 leaf, o0, o1, o2, o3, o4, o5, o6, o7, o8, o9, o10, o11, o12, o13, o14, o15, o16, o17, .slice A' l.length c'] from fun A' c' => by rw [sgV, hO]; rfl)
  have HO := Lib.hid hO
  have HON := Lib.hid (fun A' c' => sgV_one who leaf one A' l.length c')
  have HLN := Lib.hid (fun A' c' => sgV_len who leaf one hone A' l.length c')
  clear hO hA hone hs18
  generalize hSG : sgV who leaf one A l.length c = SA at *
  clear hSG
  obtain ⟨SG, hSG⟩ : ∃ SG : Option Addr → Nat → List Value, (fun A' c' => sgV who leaf one A' l.length c') = SG := ⟨_, rfl⟩
  have hsg : ∀ A' c', sgV who leaf one A' l.length c' = SG A' c' := fun A' c' => congrFun (congrFun hSG A') c'
  simp only [hsg] at HV HON HLN ⊢
  clear hsg hSG
  generalize cDg one = OS at *
  have HCE := Lib.hid (show ∀ W, Blk W w.heap.size 45 SA → (W.cell? ⟨w.heap.size, 0, none⟩ = some (.int .i64 who) ∧ W.cell? ⟨w.heap.size, 1, none⟩ = some (.int .i64 leaf) ∧ W.cell? ⟨w.heap.size, 20, none⟩ = some (.slice A l.length c) ∧ W.rangeAt w.heap.size 2 OS) from fun W hb => ⟨hb.cell hat.1, hb.cell hat.2.1, hb.cell hat.2.2.1, fun j v hj => by rw [Nat.add_comm 2 j]; exact hb.cell (hat.2.2.2 j v hj)⟩)
  clear hat
  generalize cDg l = CL at *
  generalize l.length = n at *
  go_enter Tryz.func38, Tryz.ntmps38
  go_upto_region 1 with (fail)
  have b0 := (Blk.new w 45 SA).ext ((Ext.rfl' _).alloc (.cells #[.int .i64 0, .int .i64 0, .int .u64 0, .int .u64 0, .int .u64 0, .int .u64 0, .int .u64 0, .int .u64 0, .int .u64 0, .int .u64 0, .int .u64 0, .int .u64 0, .int .u64 0, .int .u64 0, .int .u64 0, .int .u64 0, .int .u64 0, .int .u64 0, .int .u64 0, .int .u64 0, .slice none 0 0] 39))
  have b1 := Blk.new (w.alloc (.cells SA.toArray 45)) 39 [.int .i64 0, .int .i64 0, .int .u64 0, .int .u64 0, .int .u64 0, .int .u64 0, .int .u64 0, .int .u64 0, .int .u64 0, .int .u64 0, .int .u64 0, .int .u64 0, .int .u64 0, .int .u64 0, .int .u64 0, .int .u64 0, .int .u64 0, .int .u64 0, .int .u64 0, .int .u64 0, .slice none 0 0]
  have hE := ((Ext.rfl' w).alloc (.cells SA.toArray 45)).alloc (.cells #[.int .i64 0, .int .i64 0, .int .u64 0, .int .u64 0, .int .u64 0, .int .u64 0, .int .u64 0, .int .u64 0, .int .u64 0, .int .u64 0, .int .u64 0, .int .u64 0, .int .u64 0, .int .u64 0, .int .u64 0, .int .u64 0, .int .u64 0, .int .u64 0, .int .u64 0, .int .u64 0, .slice none 0 0] 39)
  rw [World.size_alloc] at b1
  change Blk ((w.alloc (.cells SA.toArray 45)).alloc (.cells #[.int .i64 0, .int .i64 0, .int .u64 0, .int .u64 0, .int .u64 0, .int .u64 0, .int .u64 0, .int .u64 0, .int .u64 0, .int .u64 0, .int .u64 0, .int .u64 0, .int .u64 0, .int .u64 0, .int .u64 0, .int .u64 0, .int .u64 0, .int .u64 0, .int .u64 0, .int .u64 0, .slice none 0 0] 39)) (w.heap.size + 1) 39 [.int .i64 0, .int .i64 0, .int .u64 0, .int .u64 0, .int .u64 0, .int .u64 0, .int .u64 0, .int .u64 0, .int .u64 0, .int .u64 0, .int .u64 0, .int .u64 0, .int .u64 0, .int .u64 0, .int .u64 0, .int .u64 0, .int .u64 0, .int .u64 0, .int .u64 0, .int .u64 0, .slice none 0 0] at b1
  change Blk ((w.alloc (.cells SA.toArray 45)).alloc (.cells #[.int .i64 0, .int .i64 0, .int .u64 0, .int .u64 0, .int .u64 0, .int .u64 0, .int .u64 0, .int .u64 0, .int .u64 0, .int .u64 0, .int .u64 0, .int .u64 0, .int .u64 0, .int .u64 0, .int .u64 0, .int .u64 0, .int .u64 0, .int .u64 0, .int .u64 0, .int .u64 0, .slice none 0 0] 39)) w.heap.size 45 SA at b0
  change Ext w ((w.alloc (.cells SA.toArray 45)).alloc (.cells #[.int .i64 0, .int .i64 0, .int .u64 0, .int .u64 0, .int .u64 0, .int .u64 0, .int .u64 0, .int .u64 0, .int .u64 0, .int .u64 0, .int .u64 0, .int .u64 0, .int .u64 0, .int .u64 0, .int .u64 0, .int .u64 0, .int .u64 0, .int .u64 0, .int .u64 0, .int .u64 0, .slice none 0 0] 39)) at hE
  generalize (w.alloc (.cells SA.toArray 45)).alloc (.cells #[.int .i64 0, .int .i64 0, .int .u64 0, .int .u64 0, .int .u64 0, .int .u64 0, .int .u64 0, .int .u64 0, .int .u64 0, .int .u64 0, .int .u64 0, .int .u64 0, .int .u64 0, .int .u64 0, .int .u64 0, .int .u64 0, .int .u64 0, .int .u64 0, .int .u64 0, .int .u64 0, .slice none 0 0] 39) = W0 at *
  generalize hZ : ([.int .i64 0, .int .i64 0, .int .u64 0, .int .u64 0, .int .u64 0, .int .u64 0, .int .u64 0, .int .u64 0, .int .u64 0, .int .u64 0, .int .u64 0, .int .u64 0, .int .u64 0, .int .u64 0, .int .u64 0, .int .u64 0, .int .u64 0, .int .u64 0, .int .u64 0, .int .u64 0, .slice none 0 0] : List Value) = ZL at b1
  have HZ := Lib.hid (show ZL.length = 21 by rw [← hZ]; rfl)
  have HB := Lib.hid (show Blk W0.drew w.heap.size 45 SA from b0.drew)
  have HRB := Lib.hid (show Blk W0.drew (w.heap.size + 1) 39 ZL from b1.drew)
  have HX := Lib.hid (show Ext w W0.drew from hE.drew)
  clear b0 b1 hE hZ
  refine wp_region_held_drew (S := fun W => W.cell? ⟨w.heap.size, 0, none⟩ = some (.int .i64 who) ∧ W.cell? ⟨w.heap.size, 1, none⟩ = some (.int .i64 leaf) ∧ W.cell? ⟨w.heap.size, 20, none⟩ = some (.slice A n c) ∧ W.rangeAt w.heap.size 2 OS) (by kernel_rfl) (HCE.out _ HB.out) (fun hHeld => ?_)
  generalize W0.drew = W1 at *
  refine wpAnyH_take (i := 0) (v := ?_) (by first | (simp only [List.getElem?_toArray, List.getElem?_cons_zero, List.getElem?_cons_succ]; done) | (simp only [List.getElem?_toArray, List.getElem?_cons_zero, List.getElem?_cons_succ]; rfl)) (by kernel_rfl) (by kernel_rfl) (by kernel_rfl) (by exact fun _ _ _ h => h) (Or.inl ⟨by rfl, ?hy0⟩) (by assumption) ?_
  case hy0 => (intro w' hSw; obtain ⟨hS0, hS1, hS2, -⟩ := hSw; go_simp; try with_reducible rfl)
  try simp only [Act.put, List.setIfInBounds_toArray, List.set_cons_zero, List.set_cons_succ]
  refine wpAnyH_take (i := 1) (v := ?_) (by first | (simp only [List.getElem?_toArray, List.getElem?_cons_zero, List.getElem?_cons_succ]; done) | (simp only [List.getElem?_toArray, List.getElem?_cons_zero, List.getElem?_cons_succ]; rfl)) (by kernel_rfl) (by kernel_rfl) (by kernel_rfl) (by exact fun _ _ _ h => h) (Or.inl ⟨by rfl, ?hy1⟩) (by assumption) ?_
  case hy1 => (intro w' hSw; obtain ⟨hS0, hS1, hS2, -⟩ := hSw; go_simp; try with_reducible rfl)
  try simp only [Act.put, List.setIfInBounds_toArray, List.set_cons_zero, List.set_cons_succ]
  refine wpAnyH_take (i := 2) (v := ?_) (by first | (simp only [List.getElem?_toArray, List.getElem?_cons_zero, List.getElem?_cons_succ]; done) | (simp only [List.getElem?_toArray, List.getElem?_cons_zero, List.getElem?_cons_succ]; rfl)) (by kernel_rfl) (by kernel_rfl) (by kernel_rfl) (by exact fun _ _ _ h => h) (Or.inl ⟨by rfl, ?hy2⟩) (by assumption) ?_
  case hy2 => (intro w' hSw; obtain ⟨hS0, hS1, hS2, -⟩ := hSw; go_simp; try with_reducible rfl)
  try simp only [Act.put, List.setIfInBounds_toArray, List.set_cons_zero, List.set_cons_succ]
  refine wpAnyH_take (i := 3) (v := ?_) (by first | (simp only [List.getElem?_toArray, List.getElem?_cons_zero, List.getElem?_cons_succ]; done) | (simp only [List.getElem?_toArray, List.getElem?_cons_zero, List.getElem?_cons_succ]; rfl)) (by kernel_rfl) (by kernel_rfl) (by kernel_rfl) (by exact fun _ _ _ h => h) (Or.inl ⟨by rfl, ?hy3⟩) (by assumption) ?_
  case hy3 => (intro w' hSw; obtain ⟨hS0, hS1, hS2, -⟩ := hSw; go_simp; try with_reducible rfl)
  try simp only [Act.put, List.setIfInBounds_toArray, List.set_cons_zero, List.set_cons_succ]
  refine wpAnyH_take (i := 4) (v := ?_) (by first | (simp only [List.getElem?_toArray, List.getElem?_cons_zero, List.getElem?_cons_succ]; done) | (simp only [List.getElem?_toArray, List.getElem?_cons_zero, List.getElem?_cons_succ]; rfl)) (by kernel_rfl) (by kernel_rfl) (by kernel_rfl) (by exact fun _ _ _ h => h) (Or.inl ⟨by rfl, ?hy4⟩) (by assumption) ?_
  case hy4 => (intro w' hSw; obtain ⟨hS0, hS1, hS2, -⟩ := hSw; go_simp; try with_reducible rfl)
  try simp only [Act.put, List.setIfInBounds_toArray, List.set_cons_zero, List.set_cons_succ]
  refine wpAnyH_take (i := 5) (v := .agg OS.toArray) (by first | (simp only [List.getElem?_toArray, List.getElem?_cons_zero, List.getElem?_cons_succ]; done) | (simp only [List.getElem?_toArray, List.getElem?_cons_zero, List.getElem?_cons_succ]; rfl)) (by kernel_rfl) (by kernel_rfl) (by kernel_rfl) (by exact fun _ _ _ h => h) (Or.inl ⟨by rfl, fun w' hSw => run_load_mid _ _ _ _ rfl w.heap.size 2 (by rfl) OS _ w' hSw.2.2.2 Tryz.underlying42 rfl hi18⟩) (by assumption) ?_
  try simp only [Act.put, List.setIfInBounds_toArray, List.set_cons_zero, List.set_cons_succ]
  refine wpAnyH_take (i := 7) (v := ?_) (by first | (simp only [List.getElem?_toArray, List.getElem?_cons_zero, List.getElem?_cons_succ]; done) | (simp only [List.getElem?_toArray, List.getElem?_cons_zero, List.getElem?_cons_succ]; rfl)) (by kernel_rfl) (by kernel_rfl) (by kernel_rfl) (by exact fun _ _ _ h => h) (Or.inl ⟨by rfl, ?hy7⟩) (by assumption) ?_
  case hy7 => (intro w' hSw; obtain ⟨hS0, hS1, hS2, -⟩ := hSw; go_simp; try with_reducible rfl)
  try simp only [Act.put, List.setIfInBounds_toArray, List.set_cons_zero, List.set_cons_succ]
  refine wpAnyH_take (i := 8) (v := ?_) (by first | (simp only [List.getElem?_toArray, List.getElem?_cons_zero, List.getElem?_cons_succ]; done) | (simp only [List.getElem?_toArray, List.getElem?_cons_zero, List.getElem?_cons_succ]; rfl)) (by kernel_rfl) (by kernel_rfl) (by kernel_rfl) (by exact fun _ _ _ h => h) (Or.inl ⟨by rfl, ?hy8⟩) (by assumption) ?_
  case hy8 => (intro w' hSw; obtain ⟨hS0, hS1, hS2, -⟩ := hSw; go_simp; try with_reducible rfl)
  try simp only [Act.put, List.setIfInBounds_toArray, List.set_cons_zero, List.set_cons_succ]
  refine wpAnyH_ready (rs := [6]) (by kernel_rfl) (by simp) ?_
  refine AllReadyH.cons (by first | (simp only [List.getElem?_toArray, List.getElem?_cons_zero, List.getElem?_cons_succ]; done) | (simp only [List.getElem?_toArray, List.getElem?_cons_zero, List.getElem?_cons_succ]; rfl)) (fun K hK => ?_) ?_
  · skip
    go_simp
    refine (H3.out _).mono ?_
    rintro e W4 ⟨rfl, hx⟩
    replace HB := Lib.hid (HB.out.ext hx)
    replace HRB := Lib.hid (HRB.out.ext hx)
    replace HX := Lib.hid (show Ext w W4 from HX.out.tr hx)
    clear hx
    try (go_wp2_with fail)
    refine hK.out _ _ (HCE.out _ HB.out) (fun hHeld => ?_)
    clear hK K
    try simp only [Act.put, List.setIfInBounds_toArray, List.set_cons_zero, List.set_cons_succ]
    refine wpAnyH_ready (rs := [9]) (by kernel_rfl) (by simp) ?_
    refine AllReadyH.cons (by first | (simp only [List.getElem?_toArray, List.getElem?_cons_zero, List.getElem?_cons_succ]; done) | (simp only [List.getElem?_toArray, List.getElem?_cons_zero, List.getElem?_cons_succ]; rfl)) (fun K hK => ?_) ?_
    · skip
      go_simp
      refine (H4.out _ HX.out).mono ?_
      rintro e W4 ⟨⟨A', c', rfl, hr, hf⟩, hx⟩
      have HF := Lib.hid (show ∀ ad, A' = some ad → w.heap.size + 1 < ad.block from fun ad e => by have := hf ad e; have := HRB.out.lt; omega)
      have HR := Lib.hid hr
      clear hr hf
      replace HB := Lib.hid (HB.out.ext hx)
      replace HRB := Lib.hid (HRB.out.ext hx)
      replace HX := Lib.hid (show Ext w W4 from HX.out.tr hx)
      clear hx
      try (go_wp2_with fail)
      refine hK.out _ _ (HCE.out _ HB.out) (fun hHeld => ?_)
      clear hK K
      try simp only [Act.put, List.setIfInBounds_toArray, List.set_cons_zero, List.set_cons_succ]
      refine wpAnyH_take (i := 10) (v := .agg (SG A' c').toArray) (by first | (simp only [List.getElem?_toArray, List.getElem?_cons_zero, List.getElem?_cons_succ]; done) | (simp only [List.getElem?_toArray, List.getElem?_cons_zero, List.getElem?_cons_succ]; rfl)) (by kernel_rfl) (by kernel_rfl) (by kernel_rfl) (by exact fun _ _ _ h => h) (Or.inl ⟨by rfl, fun w' _ => by rw [HV.out]; exact run_build4 _ _ _ _ _ _ rfl (.int .i64 who) (.int .i64 leaf) (.slice A' n c') o0 o1 o2 o3 o4 o5 o6 o7 o8 o9 o10 o11 o12 o13 o14 o15 o16 o17 rfl rfl (by show Value.agg OS.toArray = _; rw [HO.out]) rfl w' ⟨_, rfl⟩ ⟨_, rfl⟩ ⟨_, _, _, rfl⟩⟩) (by assumption) ?_
      try simp only [Act.put, List.setIfInBounds_toArray, List.set_cons_zero, List.set_cons_succ]
      refine wpAnyH_ready (rs := [11]) (by kernel_rfl) (by simp) ?_
      refine AllReadyH.cons (by first | (simp only [List.getElem?_toArray, List.getElem?_cons_zero, List.getElem?_cons_succ]; done) | (simp only [List.getElem?_toArray, List.getElem?_cons_zero, List.getElem?_cons_succ]; rfl)) (fun K hK => ?_) AllReadyH.nil
      rw [if_pos (by rfl)]
      have hs21 : (SG A' c').toArray.size = 21 := by rw [List.size_toArray]; exact HLN.out _ _
      have hth : W4.there (w.heap.size + 1) 0 (SG A' c').toArray.size := by
        have h := HRB.out.there
        rw [HZ.out] at h
        rw [hs21]
        exact h
      refine wp_store_mid _ _ _ rfl (w.heap.size + 1) 0 (SG A' c').toArray rfl rfl hth (by rw [hs21]; rfl) (all_oneCell_toArray (HON.out _ _)) ?_
      rw [List.toList_toArray]
      have hFB : Blk (W4.setCells (w.heap.size + 1) 0 (SG A' c')) (w.heap.size + 1) 39 (SG A' c') := HRB.out.put (by rw [HZ.out]; exact HLN.out _ _)
      have hFX : Ext w (W4.setCells (w.heap.size + 1) 0 (SG A' c')) := Ext.setCells (by omega) _ _ _ HX.out
      have hFR : Rd (W4.setCells (w.heap.size + 1) 0 (SG A' c')) A' CL := Rd.setCellsO (fun ad e => by have := HF.out ad e; omega) _ _ _ HR.out
      replace HB := Lib.hid (show Blk (W4.setCells (w.heap.size + 1) 0 (SG A' c')) w.heap.size 45 SA from HB.out.others (by omega) _ _ _)
      refine hK.out _ _ (HCE.out _ HB.out) (fun hHeld => ?_)
      clear hK K
      try simp only [Act.put, List.setIfInBounds_toArray, List.set_cons_zero, List.set_cons_succ]
      refine wpAnyH_done (by kernel_rfl) ?_ _
      clear hHeld
      have hi21 : (Tryz.prog.info? 39).map (·.size) = some (SG A' c').length := by rw [HLN.out]; rfl
      have HFF := Lib.hid (And.intro hFR hFX)
      have HFA := Lib.hid (show ∀ ad, A' = some ad → w.heap.size ≤ ad.block from fun ad e => by have := HF.out ad e; omega)
      clear hFR hFX HF HR HX HB HRB hs21 hth
      generalize W4.setCells (w.heap.size + 1) 0 (SG A' c') = W5 at *
      go_wp2
      exact ret_cell18 rfl hFB Tryz.underlying39 rfl hi21 rfl ⟨⟨_, _, rfl, HFF.out.1, HFA.out⟩, HFF.out.2⟩
    exact AllReadyH.nil
  exact AllReadyH.nil
end Go.Proofs.YtbbgmlnfpnomiaaGreatDoor
