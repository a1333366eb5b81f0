/- The walk of Add. -/
import Derived.Test.YtilengooiffikaaDoorTW2
import Derived.Deep.DeepCutAuto
set_option linter.unusedVariables false
set_option linter.unusedSimpArgs false
namespace Go.Proofs.YtilengooiffikaaDoor
open Go.RowKit Go.Sort Go.Maps
/-- What was refused has turned nothing. -/
def KeepIf (C : Nat) (w w' : World) : Prop := C ≠ 0 → Ext w w'
set_option maxHeartbeats 4000000 in
set_option maxRecDepth 100000 in
theorem add_calls {tb mb : Nat} {L : List (Nat × T.B)} (w : World) (h : Tr w tb mb L) (b : T.B) (hb : OkB b) (ht : TOk w) (hn : L.length < 1000000) :
    Calls Tryd.prog 20 #[.pointer (some ⟨tb, 0, none⟩), bA b] w fun e w' => e = .returned (.int .i64 (T.code L (T.dig b) b : Nat)) ∧ Tr w' tb mb (T.add L (T.dig b) b) ∧ Gr mb w w' ∧ KeepIf (T.code L (T.dig b) b) w w' := by
  have HE := Lib.hid (show Ext w (w.alloc (.cells (bV b).toArray 48)) from (Ext.rfl' w).alloc _)
  have HD := Lib.hid (fun (W : World) (hW : Ext w W) => blkdig_calls b hb W (ht.ext hW))
  have HK := Lib.hid (show ∀ W, Ext (w.alloc (.cells (bV b).toArray 48)) W → Blk W w.heap.size 48 (bV b) from fun W hW => (Blk.new w 48 (bV b)).ext hW)
  have hdl := T.dig_lt b
  have hpl := hb.p
  generalize hd : T.dig b = d at *
  have HL := Lib.hid (show ∀ W, Ext w W → W.cell? ⟨tb, 0, none⟩ = some (.map (some mb)) ∧ (Instr.lookup 114 (.map (some mb)) (.int .u64 (b.p : Int)) true).run Tryd.prog W = .ok (.tuple #[bA ((T.get L b.p).getD T.gen), .bool (T.get L b.p).isSome]) W ∧ (Instr.lookup 114 (.map (some mb)) (.int .u64 (d : Int)) true).run Tryd.prog W = .ok (.tuple #[bA ((T.get L d).getD T.gen), .bool (T.get L d).isSome]) W from fun W hW => ⟨(h.ext hW).cell, tr_look (h.ext hW) hpl, tr_look (h.ext hW) hdl⟩)
  have HTR := Lib.hid h
  obtain ⟨C, hC, hcase⟩ : ∃ C : Nat, T.code L d b = C ∧ (((T.get L d).isSome = true ∧ C = 5) ∨ ((T.get L d).isSome = false ∧ (T.get L b.p).isSome = false ∧ C = 11) ∨
      ((T.get L d).isSome = false ∧ (T.get L b.p).isSome = true ∧ (decide (b.v ≤ ((T.get L b.p).getD T.gen).v)) = true ∧ C = 12) ∨
      ((T.get L d).isSome = false ∧ (T.get L b.p).isSome = true ∧ (decide (b.v ≤ ((T.get L b.p).getD T.gen).v)) = false ∧ (b.lo != ((T.get L b.p).getD T.gen).hi) = true ∧ C = 10) ∨
      ((T.get L d).isSome = false ∧ (T.get L b.p).isSome = true ∧ (decide (b.v ≤ ((T.get L b.p).getD T.gen).v)) = false ∧ (b.lo != ((T.get L b.p).getD T.gen).hi) = false ∧ C = 0)) := by
    refine ⟨_, rfl, ?_⟩
    unfold T.code
    cases hg : T.get L d with
    | some x => exact .inl ⟨rfl, rfl⟩
    | none =>
      cases hp : T.get L b.p with
      | none => exact .inr (.inl ⟨rfl, rfl, rfl⟩)
      | some q =>
        by_cases e1 : b.v ≤ q.v
        · exact .inr (.inr (.inl ⟨rfl, rfl, by simpa using e1, by simp [e1]⟩))
        · by_cases e2 : b.lo = q.hi
          · exact .inr (.inr (.inr (.inr ⟨rfl, rfl, by simpa using e1, by simp [e2], by simp [e1, e2]⟩)))
          · exact .inr (.inr (.inr (.inl ⟨rfl, rfl, by simpa using e1, by simp [e2], by simp [e1, e2]⟩)))
  unfold T.add
  rw [hC]
  have HU := Lib.hid (show C = 0 → ∀ W, Ext w W → ∃ w2, (Instr.mapUpdate 114 (.map (some mb)) (.int .u64 (d : Int)) (bA b)).run Tryd.prog W = .ok () w2 ∧ Gr mb W w2 ∧ Tr w2 tb mb ((d, b) :: L) from fun h0 W hW => by
    have hT := h.ext hW
    have hnone : T.get L d = none := by
      rcases hcase with ⟨_, e⟩ | ⟨_, _, e⟩ | ⟨_, _, _, e⟩ | ⟨_, _, _, _, e⟩ | ⟨e, _, _, _, _⟩
      · omega
      · omega
      · omega
      · omega
      · simpa using e
    obtain ⟨w2, hup, hg, m', hm', hM2⟩ := hT.map.update (t := 114) Tryd.underlying27 Tryd.underlying114 (by omega) (x := (d : Int)) (u64_wf d hdl) (bA b)
    rw [tf_nat, hnone] at hm'
    obtain rfl : m' = L.length + 1 := hm'
    rw [tf_cons] at hM2
    exact ⟨w2, hup, hg, Gr.cell hg hT.lt hT.ne hT.cell, hM2, Nat.lt_of_lt_of_le hT.lt hg.size, hT.ne⟩)
  generalize (T.get L d).getD T.gen = x at *
  generalize (T.get L d).isSome = xs at *
  generalize (T.get L b.p).getD T.gen = q at *
  generalize (T.get L b.p).isSome = qs at *
  clear h hb ht hd hC
  obtain ⟨bv, bp, bqv, bqb, blo, bhi⟩ := b
  obtain ⟨xv, xp, xqv, xqb, xlo, xhi⟩ := x
  obtain ⟨qv, qp, qqv, qqb, qlo, qhi⟩ := q
  dsimp only at hcase hpl
  rcases hcase with ⟨k1, rfl⟩ | ⟨k1, k2, rfl⟩ | ⟨k1, k2, k3, rfl⟩ | ⟨k1, k2, k3, k4, rfl⟩ | ⟨k1, k2, k3, k4, rfl⟩
  · go_enter Tryd.func20, Tryd.ntmps20
    go_wp2_with (refine wpList_load_row rfl _ _ rfl w.heap.size rfl 48 (bV ⟨bv, bp, bqv, bqb, blo, bhi⟩).toArray (0, 0) _ (HK.out _ (Ext.rfl' _)) Tryd.underlying48 rfl rfl ?_)
    refine (HD.out _ HE.out).mono ?_
    rintro e w1 ⟨rfl, hx⟩
    have hX : Ext w w1 := HE.out.tr hx
    have hblk := HK.out _ hx
    have c0 : w1.cell? ⟨w.heap.size, 0, none⟩ = some (.int .i64 bv) := hblk.cell rfl
    have c1 : w1.cell? ⟨w.heap.size, 1, none⟩ = some (cU64 bp) := hblk.cell rfl
    have c5 : w1.cell? ⟨w.heap.size, 5, none⟩ = some (.int .i64 blo) := hblk.cell rfl
    have hG0 : Ext w1 w1 := Ext.rfl' w1
    have hG1 : ∀ c : Array Value, Ext w1 (w1.alloc (.cells c 48)) := fun _ => (Ext.rfl' w1).alloc _
    have t0 := (HL.out _ hX).1
    have t1 := (HL.out _ (hX.tr hG0.drew)).1
    have t2 := fun c => (HL.out _ (hX.tr (hG1 c))).1
    have t3 := fun c => (HL.out _ (hX.tr (hG1 c).drew)).1
    have l0 := (HL.out _ hX).2.1
    have l1 := (HL.out _ (hX.tr hG0.drew)).2.1
    have l2 := fun c => (HL.out _ (hX.tr (hG1 c))).2.1
    have l3 := fun c => (HL.out _ (hX.tr (hG1 c).drew)).2.1
    have m3 := fun c => (HL.out _ (hX.tr (hG1 c).drew)).2.2
    have d0 := cell_later hG0.drew c1
    have d1 := fun c => cell_later (hG1 c).drew c1
    have d2 := cell_later hG0.drew c0
    have d3 := fun c => cell_later (hG1 c).drew c0
    have d4 := cell_later hG0.drew c5
    have d5 := fun c => cell_later (hG1 c).drew c5
    have g0 := fun c c' : Array Value => cell_later (show Ext w1 (((w1.alloc (.cells c 48)).alloc (.cells c' 48)).drew) from ((hG1 c).alloc _).drew) c0
    have g5 := fun c c' : Array Value => cell_later (show Ext w1 (((w1.alloc (.cells c 48)).alloc (.cells c' 48)).drew) from ((hG1 c).alloc _).drew) c5
    have hq := Blk.new w1 48 (bV ⟨qv, qp, qqv, qqb, qlo, qhi⟩)
    have q0 := fun c' : Array Value => (hq.ext (((Ext.rfl' _).alloc (.cells c' 48)).drew)).cell (j := 0) rfl
    have q6 := fun c' : Array Value => (hq.ext (((Ext.rfl' _).alloc (.cells c' 48)).drew)).cell (j := 6) rfl
    clear hq
    have HX := Lib.hid hX
    have HBL := Lib.hid hblk
    clear hG0 hG1 hX hblk hx
    go_wp2
    go_region
    all_goals
     go_wp2
     go_ret
     have hF : Ext w (((w1.alloc (.cells (bV ⟨qv, qp, qqv, qqb, qlo, qhi⟩).toArray 48)).alloc (.cells (bV ⟨xv, xp, xqv, xqb, xlo, xhi⟩).toArray 48)).drew) := HX.out.tr ((((Ext.rfl' w1).alloc _).alloc _).drew)
     exact ⟨rfl, by first | exact HTR.out.ext hF | (rw [if_neg (by decide)]; exact HTR.out.ext hF), Gr.of_ext hF, fun _ => hF⟩
  · go_enter Tryd.func20, Tryd.ntmps20
    go_wp2_with (refine wpList_load_row rfl _ _ rfl w.heap.size rfl 48 (bV ⟨bv, bp, bqv, bqb, blo, bhi⟩).toArray (0, 0) _ (HK.out _ (Ext.rfl' _)) Tryd.underlying48 rfl rfl ?_)
    refine (HD.out _ HE.out).mono ?_
    rintro e w1 ⟨rfl, hx⟩
    have hX : Ext w w1 := HE.out.tr hx
    have hblk := HK.out _ hx
    have c0 : w1.cell? ⟨w.heap.size, 0, none⟩ = some (.int .i64 bv) := hblk.cell rfl
    have c1 : w1.cell? ⟨w.heap.size, 1, none⟩ = some (cU64 bp) := hblk.cell rfl
    have c5 : w1.cell? ⟨w.heap.size, 5, none⟩ = some (.int .i64 blo) := hblk.cell rfl
    have hG0 : Ext w1 w1 := Ext.rfl' w1
    have hG1 : ∀ c : Array Value, Ext w1 (w1.alloc (.cells c 48)) := fun _ => (Ext.rfl' w1).alloc _
    have t0 := (HL.out _ hX).1
    have t1 := (HL.out _ (hX.tr hG0.drew)).1
    have t2 := fun c => (HL.out _ (hX.tr (hG1 c))).1
    have t3 := fun c => (HL.out _ (hX.tr (hG1 c).drew)).1
    have l0 := (HL.out _ hX).2.1
    have l1 := (HL.out _ (hX.tr hG0.drew)).2.1
    have l2 := fun c => (HL.out _ (hX.tr (hG1 c))).2.1
    have l3 := fun c => (HL.out _ (hX.tr (hG1 c).drew)).2.1
    have m3 := fun c => (HL.out _ (hX.tr (hG1 c).drew)).2.2
    have d0 := cell_later hG0.drew c1
    have d1 := fun c => cell_later (hG1 c).drew c1
    have d2 := cell_later hG0.drew c0
    have d3 := fun c => cell_later (hG1 c).drew c0
    have d4 := cell_later hG0.drew c5
    have d5 := fun c => cell_later (hG1 c).drew c5
    have g0 := fun c c' : Array Value => cell_later (show Ext w1 (((w1.alloc (.cells c 48)).alloc (.cells c' 48)).drew) from ((hG1 c).alloc _).drew) c0
    have g5 := fun c c' : Array Value => cell_later (show Ext w1 (((w1.alloc (.cells c 48)).alloc (.cells c' 48)).drew) from ((hG1 c).alloc _).drew) c5
    have hq := Blk.new w1 48 (bV ⟨qv, qp, qqv, qqb, qlo, qhi⟩)
    have q0 := fun c' : Array Value => (hq.ext (((Ext.rfl' _).alloc (.cells c' 48)).drew)).cell (j := 0) rfl
    have q6 := fun c' : Array Value => (hq.ext (((Ext.rfl' _).alloc (.cells c' 48)).drew)).cell (j := 6) rfl
    clear hq
    have HX := Lib.hid hX
    have HBL := Lib.hid hblk
    clear hG0 hG1 hX hblk hx
    go_wp2
    go_region
    all_goals
     go_wp2
     go_ret
     have hF : Ext w (((w1.alloc (.cells (bV ⟨qv, qp, qqv, qqb, qlo, qhi⟩).toArray 48)).alloc (.cells (bV ⟨xv, xp, xqv, xqb, xlo, xhi⟩).toArray 48)).drew) := HX.out.tr ((((Ext.rfl' w1).alloc _).alloc _).drew)
     exact ⟨rfl, by first | exact HTR.out.ext hF | (rw [if_neg (by decide)]; exact HTR.out.ext hF), Gr.of_ext hF, fun _ => hF⟩
  · go_enter Tryd.func20, Tryd.ntmps20
    go_wp2_with (refine wpList_load_row rfl _ _ rfl w.heap.size rfl 48 (bV ⟨bv, bp, bqv, bqb, blo, bhi⟩).toArray (0, 0) _ (HK.out _ (Ext.rfl' _)) Tryd.underlying48 rfl rfl ?_)
    refine (HD.out _ HE.out).mono ?_
    rintro e w1 ⟨rfl, hx⟩
    have hX : Ext w w1 := HE.out.tr hx
    have hblk := HK.out _ hx
    have c0 : w1.cell? ⟨w.heap.size, 0, none⟩ = some (.int .i64 bv) := hblk.cell rfl
    have c1 : w1.cell? ⟨w.heap.size, 1, none⟩ = some (cU64 bp) := hblk.cell rfl
    have c5 : w1.cell? ⟨w.heap.size, 5, none⟩ = some (.int .i64 blo) := hblk.cell rfl
    have hG0 : Ext w1 w1 := Ext.rfl' w1
    have hG1 : ∀ c : Array Value, Ext w1 (w1.alloc (.cells c 48)) := fun _ => (Ext.rfl' w1).alloc _
    have t0 := (HL.out _ hX).1
    have t1 := (HL.out _ (hX.tr hG0.drew)).1
    have t2 := fun c => (HL.out _ (hX.tr (hG1 c))).1
    have t3 := fun c => (HL.out _ (hX.tr (hG1 c).drew)).1
    have l0 := (HL.out _ hX).2.1
    have l1 := (HL.out _ (hX.tr hG0.drew)).2.1
    have l2 := fun c => (HL.out _ (hX.tr (hG1 c))).2.1
    have l3 := fun c => (HL.out _ (hX.tr (hG1 c).drew)).2.1
    have m3 := fun c => (HL.out _ (hX.tr (hG1 c).drew)).2.2
    have d0 := cell_later hG0.drew c1
    have d1 := fun c => cell_later (hG1 c).drew c1
    have d2 := cell_later hG0.drew c0
    have d3 := fun c => cell_later (hG1 c).drew c0
    have d4 := cell_later hG0.drew c5
    have d5 := fun c => cell_later (hG1 c).drew c5
    have g0 := fun c c' : Array Value => cell_later (show Ext w1 (((w1.alloc (.cells c 48)).alloc (.cells c' 48)).drew) from ((hG1 c).alloc _).drew) c0
    have g5 := fun c c' : Array Value => cell_later (show Ext w1 (((w1.alloc (.cells c 48)).alloc (.cells c' 48)).drew) from ((hG1 c).alloc _).drew) c5
    have hq := Blk.new w1 48 (bV ⟨qv, qp, qqv, qqb, qlo, qhi⟩)
    have q0 := fun c' : Array Value => (hq.ext (((Ext.rfl' _).alloc (.cells c' 48)).drew)).cell (j := 0) rfl
    have q6 := fun c' : Array Value => (hq.ext (((Ext.rfl' _).alloc (.cells c' 48)).drew)).cell (j := 6) rfl
    clear hq
    have HX := Lib.hid hX
    have HBL := Lib.hid hblk
    clear hG0 hG1 hX hblk hx
    go_wp2
    go_region
    all_goals
     go_wp2
     go_ret
     have hF : Ext w (((w1.alloc (.cells (bV ⟨qv, qp, qqv, qqb, qlo, qhi⟩).toArray 48)).alloc (.cells (bV ⟨xv, xp, xqv, xqb, xlo, xhi⟩).toArray 48)).drew) := HX.out.tr ((((Ext.rfl' w1).alloc _).alloc _).drew)
     exact ⟨rfl, by first | exact HTR.out.ext hF | (rw [if_neg (by decide)]; exact HTR.out.ext hF), Gr.of_ext hF, fun _ => hF⟩
  · go_enter Tryd.func20, Tryd.ntmps20
    go_wp2_with (refine wpList_load_row rfl _ _ rfl w.heap.size rfl 48 (bV ⟨bv, bp, bqv, bqb, blo, bhi⟩).toArray (0, 0) _ (HK.out _ (Ext.rfl' _)) Tryd.underlying48 rfl rfl ?_)
    refine (HD.out _ HE.out).mono ?_
    rintro e w1 ⟨rfl, hx⟩
    have hX : Ext w w1 := HE.out.tr hx
    have hblk := HK.out _ hx
    have c0 : w1.cell? ⟨w.heap.size, 0, none⟩ = some (.int .i64 bv) := hblk.cell rfl
    have c1 : w1.cell? ⟨w.heap.size, 1, none⟩ = some (cU64 bp) := hblk.cell rfl
    have c5 : w1.cell? ⟨w.heap.size, 5, none⟩ = some (.int .i64 blo) := hblk.cell rfl
    have hG0 : Ext w1 w1 := Ext.rfl' w1
    have hG1 : ∀ c : Array Value, Ext w1 (w1.alloc (.cells c 48)) := fun _ => (Ext.rfl' w1).alloc _
    have t0 := (HL.out _ hX).1
    have t1 := (HL.out _ (hX.tr hG0.drew)).1
    have t2 := fun c => (HL.out _ (hX.tr (hG1 c))).1
    have t3 := fun c => (HL.out _ (hX.tr (hG1 c).drew)).1
    have l0 := (HL.out _ hX).2.1
    have l1 := (HL.out _ (hX.tr hG0.drew)).2.1
    have l2 := fun c => (HL.out _ (hX.tr (hG1 c))).2.1
    have l3 := fun c => (HL.out _ (hX.tr (hG1 c).drew)).2.1
    have m3 := fun c => (HL.out _ (hX.tr (hG1 c).drew)).2.2
    have d0 := cell_later hG0.drew c1
    have d1 := fun c => cell_later (hG1 c).drew c1
    have d2 := cell_later hG0.drew c0
    have d3 := fun c => cell_later (hG1 c).drew c0
    have d4 := cell_later hG0.drew c5
    have d5 := fun c => cell_later (hG1 c).drew c5
    have g0 := fun c c' : Array Value => cell_later (show Ext w1 (((w1.alloc (.cells c 48)).alloc (.cells c' 48)).drew) from ((hG1 c).alloc _).drew) c0
    have g5 := fun c c' : Array Value => cell_later (show Ext w1 (((w1.alloc (.cells c 48)).alloc (.cells c' 48)).drew) from ((hG1 c).alloc _).drew) c5
    have hq := Blk.new w1 48 (bV ⟨qv, qp, qqv, qqb, qlo, qhi⟩)
    have q0 := fun c' : Array Value => (hq.ext (((Ext.rfl' _).alloc (.cells c' 48)).drew)).cell (j := 0) rfl
    have q6 := fun c' : Array Value => (hq.ext (((Ext.rfl' _).alloc (.cells c' 48)).drew)).cell (j := 6) rfl
    clear hq
    have HX := Lib.hid hX
    have HBL := Lib.hid hblk
    clear hG0 hG1 hX hblk hx
    go_wp2
    go_region
    all_goals
     go_wp2
     go_ret
     have hF : Ext w (((w1.alloc (.cells (bV ⟨qv, qp, qqv, qqb, qlo, qhi⟩).toArray 48)).alloc (.cells (bV ⟨xv, xp, xqv, xqb, xlo, xhi⟩).toArray 48)).drew) := HX.out.tr ((((Ext.rfl' w1).alloc _).alloc _).drew)
     exact ⟨rfl, by first | exact HTR.out.ext hF | (rw [if_neg (by decide)]; exact HTR.out.ext hF), Gr.of_ext hF, fun _ => hF⟩
  · go_enter Tryd.func20, Tryd.ntmps20
    go_wp2_with (refine wpList_load_row rfl _ _ rfl w.heap.size rfl 48 (bV ⟨bv, bp, bqv, bqb, blo, bhi⟩).toArray (0, 0) _ (HK.out _ (Ext.rfl' _)) Tryd.underlying48 rfl rfl ?_)
    refine (HD.out _ HE.out).mono ?_
    rintro e w1 ⟨rfl, hx⟩
    have hX : Ext w w1 := HE.out.tr hx
    have hblk := HK.out _ hx
    have c0 : w1.cell? ⟨w.heap.size, 0, none⟩ = some (.int .i64 bv) := hblk.cell rfl
    have c1 : w1.cell? ⟨w.heap.size, 1, none⟩ = some (cU64 bp) := hblk.cell rfl
    have c5 : w1.cell? ⟨w.heap.size, 5, none⟩ = some (.int .i64 blo) := hblk.cell rfl
    have hG0 : Ext w1 w1 := Ext.rfl' w1
    have hG1 : ∀ c : Array Value, Ext w1 (w1.alloc (.cells c 48)) := fun _ => (Ext.rfl' w1).alloc _
    have t0 := (HL.out _ hX).1
    have t1 := (HL.out _ (hX.tr hG0.drew)).1
    have t2 := fun c => (HL.out _ (hX.tr (hG1 c))).1
    have t3 := fun c => (HL.out _ (hX.tr (hG1 c).drew)).1
    have l0 := (HL.out _ hX).2.1
    have l1 := (HL.out _ (hX.tr hG0.drew)).2.1
    have l2 := fun c => (HL.out _ (hX.tr (hG1 c))).2.1
    have l3 := fun c => (HL.out _ (hX.tr (hG1 c).drew)).2.1
    have m3 := fun c => (HL.out _ (hX.tr (hG1 c).drew)).2.2
    have d0 := cell_later hG0.drew c1
    have d1 := fun c => cell_later (hG1 c).drew c1
    have d2 := cell_later hG0.drew c0
    have d3 := fun c => cell_later (hG1 c).drew c0
    have d4 := cell_later hG0.drew c5
    have d5 := fun c => cell_later (hG1 c).drew c5
    have g0 := fun c c' : Array Value => cell_later (show Ext w1 (((w1.alloc (.cells c 48)).alloc (.cells c' 48)).drew) from ((hG1 c).alloc _).drew) c0
    have g5 := fun c c' : Array Value => cell_later (show Ext w1 (((w1.alloc (.cells c 48)).alloc (.cells c' 48)).drew) from ((hG1 c).alloc _).drew) c5
    have hq := Blk.new w1 48 (bV ⟨qv, qp, qqv, qqb, qlo, qhi⟩)
    have q0 := fun c' : Array Value => (hq.ext (((Ext.rfl' _).alloc (.cells c' 48)).drew)).cell (j := 0) rfl
    have q6 := fun c' : Array Value => (hq.ext (((Ext.rfl' _).alloc (.cells c' 48)).drew)).cell (j := 6) rfl
    clear hq
    have HX := Lib.hid hX
    have HBL := Lib.hid hblk
    clear hG0 hG1 hX hblk hx
    go_wp2
    go_region
    all_goals
     go_upto_region 12 with (fail)
     clear l0 l1 l2 l3 m3 t0 t1 t2 t3 d0 d1 d2 d3 d4 d5 g0 g5 q0 q6 c0 c1 c5
     have hW : Ext w1 (((w1.alloc (.cells #[Value.int .i64 qv, Value.int .u64 (qp : Int), Value.int .i64 qqv, Value.int .u64 (qqb : Int), .slice none 0 0, Value.int .i64 qlo, Value.int .i64 qhi, .slice none 0 0] 48)).alloc (.cells #[Value.int .i64 xv, Value.int .u64 (xp : Int), Value.int .i64 xqv, Value.int .u64 (xqb : Int), .slice none 0 0, Value.int .i64 xlo, Value.int .i64 xhi, .slice none 0 0] 48)).drew) := (((Ext.rfl' w1).alloc _).alloc _).drew
     generalize (((w1.alloc (.cells #[Value.int .i64 qv, Value.int .u64 (qp : Int), Value.int .i64 qqv, Value.int .u64 (qqb : Int), .slice none 0 0, Value.int .i64 qlo, Value.int .i64 qhi, .slice none 0 0] 48)).alloc (.cells #[Value.int .i64 xv, Value.int .u64 (xp : Int), Value.int .i64 xqv, Value.int .u64 (xqb : Int), .slice none 0 0, Value.int .i64 xlo, Value.int .i64 xhi, .slice none 0 0] 48)).drew) = W3 at *
     have hX3 : Ext w W3 := HX.out.tr hW
     have hb3 := HBL.out.ext hW
     have t3 := (HL.out _ hX3.drew).1
     have e0 : W3.drew.cell? ⟨w.heap.size, 0, none⟩ = some (.int .i64 bv) := (hb3.drew).cell rfl
     have e1 : W3.drew.cell? ⟨w.heap.size, 1, none⟩ = some (.int .u64 (bp : Int)) := (hb3.drew).cell rfl
     have e2 : W3.drew.cell? ⟨w.heap.size, 2, none⟩ = some (.int .i64 bqv) := (hb3.drew).cell rfl
     have e3 : W3.drew.cell? ⟨w.heap.size, 3, none⟩ = some (.int .u64 (bqb : Int)) := (hb3.drew).cell rfl
     have e4 : W3.drew.cell? ⟨w.heap.size, 4, none⟩ = some (.slice none 0 0) := (hb3.drew).cell rfl
     have e5 : W3.drew.cell? ⟨w.heap.size, 5, none⟩ = some (.int .i64 blo) := (hb3.drew).cell rfl
     have e6 : W3.drew.cell? ⟨w.heap.size, 6, none⟩ = some (.int .i64 bhi) := (hb3.drew).cell rfl
     have e7 : W3.drew.cell? ⟨w.heap.size, 7, none⟩ = some (.slice none 0 0) := (hb3.drew).cell rfl
     obtain ⟨w2, hup, hgr, htr⟩ := HU.out (by first | trivial | rfl) W3.drew hX3.drew
     have hup' : (Instr.mapUpdate 114 (.map (some mb)) (.int .u64 (d : Int)) (.agg #[Value.int .i64 bv, Value.int .u64 (bp : Int), Value.int .i64 bqv, Value.int .u64 (bqb : Int), .slice none 0 0, Value.int .i64 blo, Value.int .i64 bhi, .slice none 0 0])).run Tryd.prog W3.drew = .ok () w2 := hup
     have HG := Lib.hid (Gr.tr (Gr.of_ext hX3.drew) hgr)
     have HT2 := Lib.hid htr
     clear hup hgr htr hW hX3 hb3
     go_region
     all_goals
      go_wp2
      go_ret
      exact ⟨rfl, by first | exact HT2.out | (rw [if_pos rfl]; exact HT2.out), HG.out, fun h => absurd rfl h⟩
end Go.Proofs.YtilengooiffikaaDoor
