/- The walks of msg.Same at messages whose rows are empty. -/
import Derived.Test.YtifanmggfoicfaaMMsg
set_option linter.unusedVariables false
set_option linter.unusedSimpArgs false
namespace Go.Proofs.Ytifanmggfoicfaa
open Go.RowKit
set_option maxRecDepth 100000 in
theorem mL_p3 (k f t c n x y a lo hi : Int) (ch : Value) : ((mL k f t c n x y a lo hi ch).drop 3).take (vCmd c n x y a).length = (vCmd c n x y a) := rfl
set_option maxRecDepth 100000 in
theorem mL_p8 (k f t c n x y a lo hi : Int) (ch : Value) : ((mL k f t c n x y a lo hi ch).drop 8).take zStamp.length = zStamp := rfl
set_option maxRecDepth 100000 in
theorem mL_p32 (k f t c n x y a lo hi : Int) (ch : Value) : ((mL k f t c n x y a lo hi ch).drop 32).take zCert.length = zCert := rfl
set_option maxRecDepth 100000 in
theorem mL_p38 (k f t c n x y a lo hi : Int) (ch : Value) : ((mL k f t c n x y a lo hi ch).drop 38).take zAck.length = zAck := rfl
set_option maxRecDepth 100000 in
theorem mL_p63 (k f t c n x y a lo hi : Int) (ch : Value) : ((mL k f t c n x y a lo hi ch).drop 63).take zRep.length = zRep := rfl
set_option maxRecDepth 100000 in
theorem mL_p88 (k f t c n x y a lo hi : Int) (ch : Value) : ((mL k f t c n x y a lo hi ch).drop 88).take zBlk.length = zBlk := rfl
set_option maxRecDepth 100000 in
theorem mL_p96 (k f t c n x y a lo hi : Int) (ch : Value) : ((mL k f t c n x y a lo hi ch).drop 96).take zVote.length = zVote := rfl
set_option maxRecDepth 100000 in
theorem mL_p120 (k f t c n x y a lo hi : Int) (ch : Value) : ((mL k f t c n x y a lo hi ch).drop 120).take zView.length = zView := rfl
theorem vcmd_eq (c n x y a : Int) (w : World) : (Op.equalIn 10000 54 (.agg (vCmd c n x y a).toArray) (.agg (vCmd c n x y a).toArray)).run Try.prog w = .ok true w := by
  unfold vCmd
  simp [go_sem, Try.underlying54, Try.underlying3, Try.underlying2]
set_option maxRecDepth 100000 in
set_option maxHeartbeats 4000000 in
theorem same22_yes (k f t c n x y a lo hi : Int) (w : World) : Calls Try.prog 15 #[.agg (mL k f t c n x y a lo hi (.slice none 0 0)).toArray, .agg (mL k f t c n x y a lo hi (.slice none 0 0)).toArray] w fun e w' => e = .returned (.bool true) ∧ Ext w w' := by
  have HE := Lib.hid (show Ext w ((w.alloc (.cells ((mL k f t c n x y a lo hi (.slice none 0 0))).toArray 83)).alloc (.cells ((mL k f t c n x y a lo hi (.slice none 0 0))).toArray 83)) from ((Ext.rfl' w).alloc _).alloc _)
  have k0 := (Blk.new w 83 (mL k f t c n x y a lo hi (.slice none 0 0))).ext ((Ext.rfl' _).alloc (.cells ((mL k f t c n x y a lo hi (.slice none 0 0))).toArray 83))
  have k1 := Blk.new (w.alloc (.cells ((mL k f t c n x y a lo hi (.slice none 0 0))).toArray 83)) 83 (mL k f t c n x y a lo hi (.slice none 0 0))
  rw [World.size_alloc] at k1
  have HK := Lib.hid (show ∀ W, Ext ((w.alloc (.cells ((mL k f t c n x y a lo hi (.slice none 0 0))).toArray 83)).alloc (.cells ((mL k f t c n x y a lo hi (.slice none 0 0))).toArray 83)) W → Blk W w.heap.size 83 (mL k f t c n x y a lo hi (.slice none 0 0)) ∧ Blk W (w.heap.size + 1) 83 (mL k f t c n x y a lo hi (.slice none 0 0)) from fun W hx => ⟨k0.ext hx, k1.ext hx⟩)
  clear k0 k1
  have hq := vcmd_eq c n x y a
  go_enter Try.func15, Try.ntmps15
  simp only [List.append_eq, List.cons_append, List.nil_append]
  have a0 : ((w.alloc (.cells ((mL k f t c n x y a lo hi (.slice none 0 0))).toArray 83)).alloc (.cells ((mL k f t c n x y a lo hi (.slice none 0 0))).toArray 83)).cell? ⟨w.heap.size, 0, none⟩ = some (.int .i64 k) := (HK.out _ (Ext.rfl' _)).1.cell rfl
  have a1 : ((w.alloc (.cells ((mL k f t c n x y a lo hi (.slice none 0 0))).toArray 83)).alloc (.cells ((mL k f t c n x y a lo hi (.slice none 0 0))).toArray 83)).cell? ⟨w.heap.size, 1, none⟩ = some (.int .i64 f) := (HK.out _ (Ext.rfl' _)).1.cell rfl
  have a2 : ((w.alloc (.cells ((mL k f t c n x y a lo hi (.slice none 0 0))).toArray 83)).alloc (.cells ((mL k f t c n x y a lo hi (.slice none 0 0))).toArray 83)).cell? ⟨w.heap.size, 2, none⟩ = some (.int .i64 t) := (HK.out _ (Ext.rfl' _)).1.cell rfl
  have a3 : ((w.alloc (.cells ((mL k f t c n x y a lo hi (.slice none 0 0))).toArray 83)).alloc (.cells ((mL k f t c n x y a lo hi (.slice none 0 0))).toArray 83)).cell? ⟨w.heap.size, 3, none⟩ = some (.int .i64 c) := (HK.out _ (Ext.rfl' _)).1.cell rfl
  have a4 : ((w.alloc (.cells ((mL k f t c n x y a lo hi (.slice none 0 0))).toArray 83)).alloc (.cells ((mL k f t c n x y a lo hi (.slice none 0 0))).toArray 83)).cell? ⟨w.heap.size, 4, none⟩ = some (.int .i64 n) := (HK.out _ (Ext.rfl' _)).1.cell rfl
  have a5 : ((w.alloc (.cells ((mL k f t c n x y a lo hi (.slice none 0 0))).toArray 83)).alloc (.cells ((mL k f t c n x y a lo hi (.slice none 0 0))).toArray 83)).cell? ⟨w.heap.size, 5, none⟩ = some (.int .i64 x) := (HK.out _ (Ext.rfl' _)).1.cell rfl
  have a6 : ((w.alloc (.cells ((mL k f t c n x y a lo hi (.slice none 0 0))).toArray 83)).alloc (.cells ((mL k f t c n x y a lo hi (.slice none 0 0))).toArray 83)).cell? ⟨w.heap.size, 6, none⟩ = some (.int .i64 y) := (HK.out _ (Ext.rfl' _)).1.cell rfl
  have a7 : ((w.alloc (.cells ((mL k f t c n x y a lo hi (.slice none 0 0))).toArray 83)).alloc (.cells ((mL k f t c n x y a lo hi (.slice none 0 0))).toArray 83)).cell? ⟨w.heap.size, 7, none⟩ = some (.int .i64 a) := (HK.out _ (Ext.rfl' _)).1.cell rfl
  have b0 : ((w.alloc (.cells ((mL k f t c n x y a lo hi (.slice none 0 0))).toArray 83)).alloc (.cells ((mL k f t c n x y a lo hi (.slice none 0 0))).toArray 83)).cell? ⟨w.heap.size + 1, 0, none⟩ = some (.int .i64 k) := (HK.out _ (Ext.rfl' _)).2.cell rfl
  have b1 : ((w.alloc (.cells ((mL k f t c n x y a lo hi (.slice none 0 0))).toArray 83)).alloc (.cells ((mL k f t c n x y a lo hi (.slice none 0 0))).toArray 83)).cell? ⟨w.heap.size + 1, 1, none⟩ = some (.int .i64 f) := (HK.out _ (Ext.rfl' _)).2.cell rfl
  have b2 : ((w.alloc (.cells ((mL k f t c n x y a lo hi (.slice none 0 0))).toArray 83)).alloc (.cells ((mL k f t c n x y a lo hi (.slice none 0 0))).toArray 83)).cell? ⟨w.heap.size + 1, 2, none⟩ = some (.int .i64 t) := (HK.out _ (Ext.rfl' _)).2.cell rfl
  have b3 : ((w.alloc (.cells ((mL k f t c n x y a lo hi (.slice none 0 0))).toArray 83)).alloc (.cells ((mL k f t c n x y a lo hi (.slice none 0 0))).toArray 83)).cell? ⟨w.heap.size + 1, 3, none⟩ = some (.int .i64 c) := (HK.out _ (Ext.rfl' _)).2.cell rfl
  have b4 : ((w.alloc (.cells ((mL k f t c n x y a lo hi (.slice none 0 0))).toArray 83)).alloc (.cells ((mL k f t c n x y a lo hi (.slice none 0 0))).toArray 83)).cell? ⟨w.heap.size + 1, 4, none⟩ = some (.int .i64 n) := (HK.out _ (Ext.rfl' _)).2.cell rfl
  have b5 : ((w.alloc (.cells ((mL k f t c n x y a lo hi (.slice none 0 0))).toArray 83)).alloc (.cells ((mL k f t c n x y a lo hi (.slice none 0 0))).toArray 83)).cell? ⟨w.heap.size + 1, 5, none⟩ = some (.int .i64 x) := (HK.out _ (Ext.rfl' _)).2.cell rfl
  have b6 : ((w.alloc (.cells ((mL k f t c n x y a lo hi (.slice none 0 0))).toArray 83)).alloc (.cells ((mL k f t c n x y a lo hi (.slice none 0 0))).toArray 83)).cell? ⟨w.heap.size + 1, 6, none⟩ = some (.int .i64 y) := (HK.out _ (Ext.rfl' _)).2.cell rfl
  have b7 : ((w.alloc (.cells ((mL k f t c n x y a lo hi (.slice none 0 0))).toArray 83)).alloc (.cells ((mL k f t c n x y a lo hi (.slice none 0 0))).toArray 83)).cell? ⟨w.heap.size + 1, 7, none⟩ = some (.int .i64 a) := (HK.out _ (Ext.rfl' _)).2.cell rfl
  go_wp2_with (first | (refine wpList_load_midw (by rfl) _ _ rfl w.heap.size 8 rfl zStamp _ ((HK.out _ (Ext.rfl' _)).1.sub 8 zStamp (mL_p8 _ _ _ _ _ _ _ _ _ _ _)) Try.underlying62 rfl rfl ?_) | (refine wpList_load_midw (by rfl) _ _ rfl (w.heap.size + 1) 8 rfl zStamp _ ((HK.out _ (Ext.rfl' _)).2.sub 8 zStamp (mL_p8 _ _ _ _ _ _ _ _ _ _ _)) Try.underlying62 rfl rfl ?_))
  refine (stampSame_zero _).mono ?_
  rintro e w0 ⟨rfl, hx0⟩
  have hX := hx0
  clear hx0
  clear a0 a1 a2 a3 a4 a5 a6 a7 b0 b1 b2 b3 b4 b5 b6 b7
  go_wp2_with (first | (refine wpList_load_midw (by rfl) _ _ rfl w.heap.size 32 rfl zCert _ ((HK.out _ hX).1.sub 32 zCert (mL_p32 _ _ _ _ _ _ _ _ _ _ _)) Try.underlying65 rfl rfl ?_) | (refine wpList_load_midw (by rfl) _ _ rfl (w.heap.size + 1) 32 rfl zCert _ ((HK.out _ hX).2.sub 32 zCert (mL_p32 _ _ _ _ _ _ _ _ _ _ _)) Try.underlying65 rfl rfl ?_))
  refine (certSame_zero _).mono ?_
  rintro e w1 ⟨rfl, hx1⟩
  replace hX := Ext.tr hX hx1
  go_wp2_with (first | (refine wpList_load_midw (by rfl) _ _ rfl w.heap.size 38 rfl zAck _ ((HK.out _ hX).1.sub 38 zAck (mL_p38 _ _ _ _ _ _ _ _ _ _ _)) Try.underlying67 rfl rfl ?_) | (refine wpList_load_midw (by rfl) _ _ rfl (w.heap.size + 1) 38 rfl zAck _ ((HK.out _ hX).2.sub 38 zAck (mL_p38 _ _ _ _ _ _ _ _ _ _ _)) Try.underlying67 rfl rfl ?_))
  refine (ackSame_zero _).mono ?_
  rintro e w2 ⟨rfl, hx2⟩
  replace hX := Ext.tr hX hx2
  have a61 : w2.cell? ⟨w.heap.size, 61, none⟩ = some (.int .i64 lo) := (HK.out _ hX).1.cell rfl
  have a62 : w2.cell? ⟨w.heap.size, 62, none⟩ = some (.int .i64 hi) := (HK.out _ hX).1.cell rfl
  have b61 : w2.cell? ⟨w.heap.size + 1, 61, none⟩ = some (.int .i64 lo) := (HK.out _ hX).2.cell rfl
  have b62 : w2.cell? ⟨w.heap.size + 1, 62, none⟩ = some (.int .i64 hi) := (HK.out _ hX).2.cell rfl
  go_wp2_with (first | (refine wpList_load_midw (by rfl) _ _ rfl w.heap.size 63 rfl zRep _ ((HK.out _ hX).1.sub 63 zRep (mL_p63 _ _ _ _ _ _ _ _ _ _ _)) Try.underlying70 rfl rfl ?_) | (refine wpList_load_midw (by rfl) _ _ rfl (w.heap.size + 1) 63 rfl zRep _ ((HK.out _ hX).2.sub 63 zRep (mL_p63 _ _ _ _ _ _ _ _ _ _ _)) Try.underlying70 rfl rfl ?_))
  refine (repSame_zero _).mono ?_
  rintro e w3 ⟨rfl, hx3⟩
  replace hX := Ext.tr hX hx3
  clear a61 a62 b61 b62
  go_wp2_with (first | (refine wpList_load_midw (by rfl) _ _ rfl w.heap.size 88 rfl zBlk _ ((HK.out _ hX).1.sub 88 zBlk (mL_p88 _ _ _ _ _ _ _ _ _ _ _)) Try.underlying76 rfl rfl ?_) | (refine wpList_load_midw (by rfl) _ _ rfl (w.heap.size + 1) 88 rfl zBlk _ ((HK.out _ hX).2.sub 88 zBlk (mL_p88 _ _ _ _ _ _ _ _ _ _ _)) Try.underlying76 rfl rfl ?_))
  refine (blkSame_zero _).mono ?_
  rintro e w4 ⟨rfl, hx4⟩
  replace hX := Ext.tr hX hx4
  go_wp2_with (first | (refine wpList_load_midw (by rfl) _ _ rfl w.heap.size 96 rfl zVote _ ((HK.out _ hX).1.sub 96 zVote (mL_p96 _ _ _ _ _ _ _ _ _ _ _)) Try.underlying78 rfl rfl ?_) | (refine wpList_load_midw (by rfl) _ _ rfl (w.heap.size + 1) 96 rfl zVote _ ((HK.out _ hX).2.sub 96 zVote (mL_p96 _ _ _ _ _ _ _ _ _ _ _)) Try.underlying78 rfl rfl ?_))
  refine (voteSame_zero _).mono ?_
  rintro e w5 ⟨rfl, hx5⟩
  replace hX := Ext.tr hX hx5
  go_wp2_with (first | (refine wpList_load_midw (by rfl) _ _ rfl w.heap.size 120 rfl zView _ ((HK.out _ hX).1.sub 120 zView (mL_p120 _ _ _ _ _ _ _ _ _ _ _)) Try.underlying80 rfl rfl ?_) | (refine wpList_load_midw (by rfl) _ _ rfl (w.heap.size + 1) 120 rfl zView _ ((HK.out _ hX).2.sub 120 zView (mL_p120 _ _ _ _ _ _ _ _ _ _ _)) Try.underlying80 rfl rfl ?_))
  refine (viewSame_zero _).mono ?_
  rintro e w6 ⟨rfl, hx6⟩
  replace hX := Ext.tr hX hx6
  have a146 : w6.cell? ⟨w.heap.size, 146, none⟩ = some (.slice none 0 0) := (HK.out _ hX).1.cell rfl
  have b146 : w6.cell? ⟨w.heap.size + 1, 146, none⟩ = some (.slice none 0 0) := (HK.out _ hX).2.cell rfl
  go_wp2_with fail
  refine (rowsBlk_nil _).mono ?_
  rintro e w7 ⟨rfl, rfl⟩
  go_wp2_with fail
  go_ret
  exact ⟨ret_bool (by first | rfl | (simp; done)), HE.out.tr hX⟩

set_option maxRecDepth 100000 in
set_option maxHeartbeats 4000000 in
theorem same22_no (k f t c n x y a lo hi : Int) (t' : Int) (hne : t ≠ t') (w : World) : Calls Try.prog 15 #[.agg (mL k f t c n x y a lo hi (.slice none 0 0)).toArray, .agg (mL k f t' c n x y a lo hi (.slice none 0 0)).toArray] w fun e w' => e = .returned (.bool false) ∧ Ext w w' := by
  have HE := Lib.hid (show Ext w ((w.alloc (.cells ((mL k f t c n x y a lo hi (.slice none 0 0))).toArray 83)).alloc (.cells ((mL k f t' c n x y a lo hi (.slice none 0 0))).toArray 83)) from ((Ext.rfl' w).alloc _).alloc _)
  have k0 := (Blk.new w 83 (mL k f t c n x y a lo hi (.slice none 0 0))).ext ((Ext.rfl' _).alloc (.cells ((mL k f t' c n x y a lo hi (.slice none 0 0))).toArray 83))
  have k1 := Blk.new (w.alloc (.cells ((mL k f t c n x y a lo hi (.slice none 0 0))).toArray 83)) 83 (mL k f t' c n x y a lo hi (.slice none 0 0))
  rw [World.size_alloc] at k1
  have HK := Lib.hid (show ∀ W, Ext ((w.alloc (.cells ((mL k f t c n x y a lo hi (.slice none 0 0))).toArray 83)).alloc (.cells ((mL k f t' c n x y a lo hi (.slice none 0 0))).toArray 83)) W → Blk W w.heap.size 83 (mL k f t c n x y a lo hi (.slice none 0 0)) ∧ Blk W (w.heap.size + 1) 83 (mL k f t' c n x y a lo hi (.slice none 0 0)) from fun W hx => ⟨k0.ext hx, k1.ext hx⟩)
  clear k0 k1
  have hnq : (t == t') = false := by simpa using hne
  go_enter Try.func15, Try.ntmps15
  simp only [List.append_eq, List.cons_append, List.nil_append]
  have a0 : ((w.alloc (.cells ((mL k f t c n x y a lo hi (.slice none 0 0))).toArray 83)).alloc (.cells ((mL k f t' c n x y a lo hi (.slice none 0 0))).toArray 83)).cell? ⟨w.heap.size, 0, none⟩ = some (.int .i64 k) := (HK.out _ (Ext.rfl' _)).1.cell rfl
  have a1 : ((w.alloc (.cells ((mL k f t c n x y a lo hi (.slice none 0 0))).toArray 83)).alloc (.cells ((mL k f t' c n x y a lo hi (.slice none 0 0))).toArray 83)).cell? ⟨w.heap.size, 1, none⟩ = some (.int .i64 f) := (HK.out _ (Ext.rfl' _)).1.cell rfl
  have a2 : ((w.alloc (.cells ((mL k f t c n x y a lo hi (.slice none 0 0))).toArray 83)).alloc (.cells ((mL k f t' c n x y a lo hi (.slice none 0 0))).toArray 83)).cell? ⟨w.heap.size, 2, none⟩ = some (.int .i64 t) := (HK.out _ (Ext.rfl' _)).1.cell rfl
  have b0 : ((w.alloc (.cells ((mL k f t c n x y a lo hi (.slice none 0 0))).toArray 83)).alloc (.cells ((mL k f t' c n x y a lo hi (.slice none 0 0))).toArray 83)).cell? ⟨w.heap.size + 1, 0, none⟩ = some (.int .i64 k) := (HK.out _ (Ext.rfl' _)).2.cell rfl
  have b1 : ((w.alloc (.cells ((mL k f t c n x y a lo hi (.slice none 0 0))).toArray 83)).alloc (.cells ((mL k f t' c n x y a lo hi (.slice none 0 0))).toArray 83)).cell? ⟨w.heap.size + 1, 1, none⟩ = some (.int .i64 f) := (HK.out _ (Ext.rfl' _)).2.cell rfl
  have b2 : ((w.alloc (.cells ((mL k f t c n x y a lo hi (.slice none 0 0))).toArray 83)).alloc (.cells ((mL k f t' c n x y a lo hi (.slice none 0 0))).toArray 83)).cell? ⟨w.heap.size + 1, 2, none⟩ = some (.int .i64 t') := (HK.out _ (Ext.rfl' _)).2.cell rfl
  go_wp2_with fail
  go_ret
  exact ⟨ret_bool (by first | rfl | (simp; done)), HE.out⟩

end Go.Proofs.Ytifanmggfoicfaa
