/- Messages whose rows are empty: the walks of Same and of what it calls. -/
import Derived.Test.YtifanmggfoicfaaDoorCore
import Derived.Test.YtifanmggfoicfaaDoorProg
import Derived.Test.YtifanmggfoicfaaDoorBlk
import Derived.Deep.MidRow
import Derived.BigFrame
import Derived.ChangeKeysEq
set_option linter.unusedVariables false
set_option linter.unusedSimpArgs false
namespace Go.Proofs.YtifanmggfoicfaaDoor
open Go.RowKit
abbrev i0 : Value := .int .i64 0
abbrev u0 : Value := .int .u64 0
abbrev n0 : Value := .slice none 0 0
def zOne : List Value := List.replicate 18 (.int .u64 0)
def zSig : List Value := [.int .i64 0, .int .i64 0] ++ zOne ++ [.slice none 0 0]
def zStamp : List Value := [.int .u64 0, .int .i64 0, .int .i64 0] ++ zSig
def zCmd : List Value := List.replicate 5 (.int .i64 0)
def zCert : List Value := zCmd ++ [.slice none 0 0]
def zAck : List Value := [.int .u64 0, .int .i64 0] ++ zSig
def zQC : List Value := [.int .i64 0, .int .u64 0, .slice none 0 0]
def zRep : List Value := [.int .i64 0, .int .i64 0, .int .i64 0, .slice none 0 0] ++ zSig
def zBlk : List Value := [.int .i64 0, .int .u64 0] ++ zQC ++ [.int .i64 0, .int .i64 0, .slice none 0 0]
def zVote : List Value := [.int .i64 0, .int .u64 0, .int .i64 0] ++ zSig
def zView : List Value := [.int .i64 0, .int .i64 0] ++ zQC ++ zSig
theorem wpList_load_midw {P : Program} {ops : Array Oper} {rest : List Oper} {op : Oper} {a : Act} {w : World} {Q : Exit → Act → World → Prop} (hw : Region.wanted op (yielded ops a.tmps) = true) (ty : TypeId) (x : Operand) (ho : op.op = .load ty x)
    (b o : Nat) (hx : a.eval x = .pointer (some ⟨b, o, none⟩)) (cs : List Value) (d : TypeDesc) (hc : w.rangeAt b o cs)
    (hu : P.underlying ty = some d) (hd : d.isRow = true) (hi : (P.info? ty).map (·.size) = some cs.length)
    (h : wpList P ops Q rest (a.put op.dst (.agg cs.toArray)) w) : wpList P ops Q (op :: rest) a w :=
  BigFrame.wpList_want hw fun _ hK => wp_load_mid ty x ho b o hx cs d hc hu hd hi (hK _ _ h)
theorem Blk.sub {W : World} {B : Nat} {T : TypeId} {L : List Value} (h : Blk W B T L) (o : Nat) (cs : List Value) (e : (L.drop o).take cs.length = cs) : W.rangeAt B o cs := fun j v hj => by
  rw [← e, List.getElem?_take] at hj
  split at hj
  · rw [List.getElem?_drop] at hj
    exact h.cell hj
  · cases hj

theorem eqStamp_nil (w : World) : Calls Tryd.prog 58 #[.slice none 0 0, .slice none 0 0, .func (.func 34) #[] #[]] w fun e w' => e = .returned (.bool true) ∧ w = w' := by
  go_enter Tryd.func58, Tryd.ntmps58
  go_wp2
  go_loop [17] (fun i => i = .int .i64 0) (fun i => 0)
  case atStart => rfl
  case round =>
    subst hrel
    go_wp2
    go_ret
    exact ⟨rfl, rfl⟩

theorem eqCert_nil (w : World) : Calls Tryd.prog 59 #[.slice none 0 0, .slice none 0 0, .func (.func 35) #[] #[]] w fun e w' => e = .returned (.bool true) ∧ w = w' := by
  go_enter Tryd.func59, Tryd.ntmps59
  go_wp2
  go_loop [17] (fun i => i = .int .i64 0) (fun i => 0)
  case atStart => rfl
  case round =>
    subst hrel
    go_wp2
    go_ret
    exact ⟨rfl, rfl⟩

theorem eqBlk_nil (w : World) : Calls Tryd.prog 62 #[.slice none 0 0, .slice none 0 0, .func (.func 38) #[] #[]] w fun e w' => e = .returned (.bool true) ∧ w = w' := by
  go_enter Tryd.func62, Tryd.ntmps62
  go_wp2
  go_loop [17] (fun i => i = .int .i64 0) (fun i => 0)
  case atStart => rfl
  case round =>
    subst hrel
    go_wp2
    go_ret
    exact ⟨rfl, rfl⟩

theorem eqRep_nil (w : World) : Calls Tryd.prog 85 #[.slice none 0 0, .slice none 0 0, .func (.func 37) #[] #[]] w fun e w' => e = .returned (.bool true) ∧ w = w' := by
  go_enter Tryd.func85, Tryd.ntmps85
  go_wp2
  go_loop [17] (fun i => i = .int .i64 0) (fun i => 0)
  case atStart => rfl
  case round =>
    subst hrel
    go_wp2
    go_ret
    exact ⟨rfl, rfl⟩

theorem eqVote_nil (w : World) : Calls Tryd.prog 97 #[.slice none 0 0, .slice none 0 0, .func (.func 39) #[] #[]] w fun e w' => e = .returned (.bool true) ∧ w = w' := by
  go_enter Tryd.func97, Tryd.ntmps97
  go_wp2
  go_loop [17] (fun i => i = .int .i64 0) (fun i => 0)
  case atStart => rfl
  case round =>
    subst hrel
    go_wp2
    go_ret
    exact ⟨rfl, rfl⟩

theorem eqDig_nil (w : World) : Calls Tryd.prog 83 #[.slice none 0 0, .slice none 0 0] w fun e w' => e = .returned (.bool true) ∧ w = w' := by
  go_enter Tryd.func83, Tryd.ntmps83
  go_wp2
  go_loop [13] (fun i => i = .int .i64 0) (fun i => 0)
  case atStart => rfl
  case round =>
    subst hrel
    go_wp2
    go_ret
    exact ⟨rfl, rfl⟩

theorem rowsBlk_nil (w : World) : Calls Tryd.prog 41 #[.slice none 0 0, .slice none 0 0, .func (.func 38) #[] #[]] w fun e w' => e = .returned (.bool true) ∧ w = w' := by
  go_enter Tryd.func41, Tryd.ntmps41
  go_wp2_with fail
  refine (eqBlk_nil w).mono ?_
  rintro e w1 ⟨rfl, rfl⟩
  go_wp2
  go_ret
  exact ⟨rfl, rfl⟩

theorem rowsRep_nil (w : World) : Calls Tryd.prog 61 #[.slice none 0 0, .slice none 0 0, .func (.func 37) #[] #[]] w fun e w' => e = .returned (.bool true) ∧ w = w' := by
  go_enter Tryd.func61, Tryd.ntmps61
  go_wp2_with fail
  refine (eqRep_nil w).mono ?_
  rintro e w1 ⟨rfl, rfl⟩
  go_wp2
  go_ret
  exact ⟨rfl, rfl⟩

theorem rowsVote_nil (w : World) : Calls Tryd.prog 84 #[.slice none 0 0, .slice none 0 0, .func (.func 39) #[] #[]] w fun e w' => e = .returned (.bool true) ∧ w = w' := by
  go_enter Tryd.func84, Tryd.ntmps84
  go_wp2_with fail
  refine (eqVote_nil w).mono ?_
  rintro e w1 ⟨rfl, rfl⟩
  go_wp2
  go_ret
  exact ⟨rfl, rfl⟩

theorem one_eq (w : World) : (Op.equalIn 10000 29 (.agg zOne.toArray) (.agg zOne.toArray)).run Tryd.prog w = .ok true w := by kernel_rfl
theorem cmd_eq (w : World) : (Op.equalIn 10000 24 (.agg zCmd.toArray) (.agg zCmd.toArray)).run Tryd.prog w = .ok true w := by kernel_rfl

set_option maxRecDepth 100000 in
set_option maxHeartbeats 2000000 in
theorem keySame_zero (w : World) : Calls Tryd.prog 57 #[.agg (zSig).toArray, .agg (zSig).toArray] w fun e w' => e = .returned (.bool true) ∧ Ext w w' := by
  have HE := Lib.hid (show Ext w ((w.alloc (.cells (zSig).toArray 32)).alloc (.cells (zSig).toArray 32)) from ((Ext.rfl' w).alloc _).alloc _)
  have k0 := (Blk.new w 32 (zSig)).ext ((Ext.rfl' _).alloc (.cells (zSig).toArray 32))
  have k1 := Blk.new (w.alloc (.cells (zSig).toArray 32)) 32 (zSig)
  rw [World.size_alloc] at k1
  have HK := Lib.hid (show ∀ W, Ext ((w.alloc (.cells (zSig).toArray 32)).alloc (.cells (zSig).toArray 32)) W → Blk W w.heap.size 32 (zSig) ∧ Blk W (w.heap.size + 1) 32 (zSig) from fun W hx => ⟨k0.ext hx, k1.ext hx⟩)
  clear k0 k1
  have hq := one_eq
  go_enter Tryd.func57, Tryd.ntmps57
  have a0 : ((w.alloc (.cells (zSig).toArray 32)).alloc (.cells (zSig).toArray 32)).cell? ⟨w.heap.size, 0, none⟩ = some (Value.int .i64 0) := (HK.out _ (Ext.rfl' _)).1.cell rfl
  have a1 : ((w.alloc (.cells (zSig).toArray 32)).alloc (.cells (zSig).toArray 32)).cell? ⟨w.heap.size, 1, none⟩ = some (Value.int .i64 0) := (HK.out _ (Ext.rfl' _)).1.cell rfl
  have a20 : ((w.alloc (.cells (zSig).toArray 32)).alloc (.cells (zSig).toArray 32)).cell? ⟨w.heap.size, 20, none⟩ = some (Value.slice none 0 0) := (HK.out _ (Ext.rfl' _)).1.cell rfl
  have b0 : ((w.alloc (.cells (zSig).toArray 32)).alloc (.cells (zSig).toArray 32)).cell? ⟨w.heap.size + 1, 0, none⟩ = some (Value.int .i64 0) := (HK.out _ (Ext.rfl' _)).2.cell rfl
  have b1 : ((w.alloc (.cells (zSig).toArray 32)).alloc (.cells (zSig).toArray 32)).cell? ⟨w.heap.size + 1, 1, none⟩ = some (Value.int .i64 0) := (HK.out _ (Ext.rfl' _)).2.cell rfl
  have b20 : ((w.alloc (.cells (zSig).toArray 32)).alloc (.cells (zSig).toArray 32)).cell? ⟨w.heap.size + 1, 20, none⟩ = some (Value.slice none 0 0) := (HK.out _ (Ext.rfl' _)).2.cell rfl
  go_wp2_with (first | (refine wpList_load_midw (by rfl) _ _ rfl w.heap.size 2 rfl zOne _ ((HK.out _ (Ext.rfl' _)).1.sub 2 zOne rfl) Tryd.underlying29 rfl rfl ?_) | (refine wpList_load_midw (by rfl) _ _ rfl (w.heap.size + 1) 2 rfl zOne _ ((HK.out _ (Ext.rfl' _)).2.sub 2 zOne rfl) Tryd.underlying29 rfl rfl ?_))
  refine (eqDig_nil _).mono ?_
  rintro e w0 ⟨rfl, rfl⟩
  go_wp2_with (first | (refine wpList_load_midw (by rfl) _ _ rfl w.heap.size 2 rfl zOne _ ((HK.out _ (Ext.rfl' _)).1.sub 2 zOne rfl) Tryd.underlying29 rfl rfl ?_) | (refine wpList_load_midw (by rfl) _ _ rfl (w.heap.size + 1) 2 rfl zOne _ ((HK.out _ (Ext.rfl' _)).2.sub 2 zOne rfl) Tryd.underlying29 rfl rfl ?_))
  go_ret
  exact ⟨rfl, HE.out⟩

set_option maxRecDepth 100000 in
set_option maxHeartbeats 2000000 in
theorem stampSame_zero (w : World) : Calls Tryd.prog 34 #[.agg (zStamp).toArray, .agg (zStamp).toArray] w fun e w' => e = .returned (.bool true) ∧ Ext w w' := by
  have HE := Lib.hid (show Ext w ((w.alloc (.cells (zStamp).toArray 34)).alloc (.cells (zStamp).toArray 34)) from ((Ext.rfl' w).alloc _).alloc _)
  have k0 := (Blk.new w 34 (zStamp)).ext ((Ext.rfl' _).alloc (.cells (zStamp).toArray 34))
  have k1 := Blk.new (w.alloc (.cells (zStamp).toArray 34)) 34 (zStamp)
  rw [World.size_alloc] at k1
  have HK := Lib.hid (show ∀ W, Ext ((w.alloc (.cells (zStamp).toArray 34)).alloc (.cells (zStamp).toArray 34)) W → Blk W w.heap.size 34 (zStamp) ∧ Blk W (w.heap.size + 1) 34 (zStamp) from fun W hx => ⟨k0.ext hx, k1.ext hx⟩)
  clear k0 k1
  go_enter Tryd.func34, Tryd.ntmps34
  have a0 : ((w.alloc (.cells (zStamp).toArray 34)).alloc (.cells (zStamp).toArray 34)).cell? ⟨w.heap.size, 0, none⟩ = some (Value.int .u64 0) := (HK.out _ (Ext.rfl' _)).1.cell rfl
  have a1 : ((w.alloc (.cells (zStamp).toArray 34)).alloc (.cells (zStamp).toArray 34)).cell? ⟨w.heap.size, 1, none⟩ = some (Value.int .i64 0) := (HK.out _ (Ext.rfl' _)).1.cell rfl
  have a2 : ((w.alloc (.cells (zStamp).toArray 34)).alloc (.cells (zStamp).toArray 34)).cell? ⟨w.heap.size, 2, none⟩ = some (Value.int .i64 0) := (HK.out _ (Ext.rfl' _)).1.cell rfl
  have b0 : ((w.alloc (.cells (zStamp).toArray 34)).alloc (.cells (zStamp).toArray 34)).cell? ⟨w.heap.size + 1, 0, none⟩ = some (Value.int .u64 0) := (HK.out _ (Ext.rfl' _)).2.cell rfl
  have b1 : ((w.alloc (.cells (zStamp).toArray 34)).alloc (.cells (zStamp).toArray 34)).cell? ⟨w.heap.size + 1, 1, none⟩ = some (Value.int .i64 0) := (HK.out _ (Ext.rfl' _)).2.cell rfl
  have b2 : ((w.alloc (.cells (zStamp).toArray 34)).alloc (.cells (zStamp).toArray 34)).cell? ⟨w.heap.size + 1, 2, none⟩ = some (Value.int .i64 0) := (HK.out _ (Ext.rfl' _)).2.cell rfl
  go_wp2_with (first | (refine wpList_load_midw (by rfl) _ _ rfl w.heap.size 3 rfl zSig _ ((HK.out _ (Ext.rfl' _)).1.sub 3 zSig rfl) Tryd.underlying32 rfl rfl ?_) | (refine wpList_load_midw (by rfl) _ _ rfl (w.heap.size + 1) 3 rfl zSig _ ((HK.out _ (Ext.rfl' _)).2.sub 3 zSig rfl) Tryd.underlying32 rfl rfl ?_))
  refine (keySame_zero _).mono ?_
  rintro e w0 ⟨rfl, hx0⟩
  have hX := hx0
  clear a0 a1 a2 b0 b1 b2
  have a0 : w0.cell? ⟨w.heap.size, 0, none⟩ = some (Value.int .u64 0) := (HK.out _ hX).1.cell rfl
  have a1 : w0.cell? ⟨w.heap.size, 1, none⟩ = some (Value.int .i64 0) := (HK.out _ hX).1.cell rfl
  have a2 : w0.cell? ⟨w.heap.size, 2, none⟩ = some (Value.int .i64 0) := (HK.out _ hX).1.cell rfl
  have b0 : w0.cell? ⟨w.heap.size + 1, 0, none⟩ = some (Value.int .u64 0) := (HK.out _ hX).2.cell rfl
  have b1 : w0.cell? ⟨w.heap.size + 1, 1, none⟩ = some (Value.int .i64 0) := (HK.out _ hX).2.cell rfl
  have b2 : w0.cell? ⟨w.heap.size + 1, 2, none⟩ = some (Value.int .i64 0) := (HK.out _ hX).2.cell rfl
  go_wp2_with (first | (refine wpList_load_midw (by rfl) _ _ rfl w.heap.size 3 rfl zSig _ ((HK.out _ hX).1.sub 3 zSig rfl) Tryd.underlying32 rfl rfl ?_) | (refine wpList_load_midw (by rfl) _ _ rfl (w.heap.size + 1) 3 rfl zSig _ ((HK.out _ hX).2.sub 3 zSig rfl) Tryd.underlying32 rfl rfl ?_))
  go_ret
  exact ⟨rfl, HE.out.tr hX⟩

set_option maxRecDepth 100000 in
set_option maxHeartbeats 2000000 in
theorem certSame_zero (w : World) : Calls Tryd.prog 35 #[.agg (zCert).toArray, .agg (zCert).toArray] w fun e w' => e = .returned (.bool true) ∧ Ext w w' := by
  have HE := Lib.hid (show Ext w ((w.alloc (.cells (zCert).toArray 37)).alloc (.cells (zCert).toArray 37)) from ((Ext.rfl' w).alloc _).alloc _)
  have k0 := (Blk.new w 37 (zCert)).ext ((Ext.rfl' _).alloc (.cells (zCert).toArray 37))
  have k1 := Blk.new (w.alloc (.cells (zCert).toArray 37)) 37 (zCert)
  rw [World.size_alloc] at k1
  have HK := Lib.hid (show ∀ W, Ext ((w.alloc (.cells (zCert).toArray 37)).alloc (.cells (zCert).toArray 37)) W → Blk W w.heap.size 37 (zCert) ∧ Blk W (w.heap.size + 1) 37 (zCert) from fun W hx => ⟨k0.ext hx, k1.ext hx⟩)
  clear k0 k1
  have hq := cmd_eq
  go_enter Tryd.func35, Tryd.ntmps35
  have a5 : ((w.alloc (.cells (zCert).toArray 37)).alloc (.cells (zCert).toArray 37)).cell? ⟨w.heap.size, 5, none⟩ = some (Value.slice none 0 0) := (HK.out _ (Ext.rfl' _)).1.cell rfl
  have b5 : ((w.alloc (.cells (zCert).toArray 37)).alloc (.cells (zCert).toArray 37)).cell? ⟨w.heap.size + 1, 5, none⟩ = some (Value.slice none 0 0) := (HK.out _ (Ext.rfl' _)).2.cell rfl
  go_wp2_with (first | (refine wpList_load_midw (by rfl) _ _ rfl w.heap.size 0 rfl zCmd _ ((HK.out _ (Ext.rfl' _)).1.sub 0 zCmd rfl) Tryd.underlying24 rfl rfl ?_) | (refine wpList_load_midw (by rfl) _ _ rfl (w.heap.size + 1) 0 rfl zCmd _ ((HK.out _ (Ext.rfl' _)).2.sub 0 zCmd rfl) Tryd.underlying24 rfl rfl ?_))
  refine (eqStamp_nil _).mono ?_
  rintro e w0 ⟨rfl, rfl⟩
  go_wp2_with (first | (refine wpList_load_midw (by rfl) _ _ rfl w.heap.size 0 rfl zCmd _ ((HK.out _ (Ext.rfl' _)).1.sub 0 zCmd rfl) Tryd.underlying24 rfl rfl ?_) | (refine wpList_load_midw (by rfl) _ _ rfl (w.heap.size + 1) 0 rfl zCmd _ ((HK.out _ (Ext.rfl' _)).2.sub 0 zCmd rfl) Tryd.underlying24 rfl rfl ?_))
  go_ret
  exact ⟨rfl, HE.out⟩

set_option maxRecDepth 100000 in
set_option maxHeartbeats 2000000 in
theorem ackSame_zero (w : World) : Calls Tryd.prog 36 #[.agg (zAck).toArray, .agg (zAck).toArray] w fun e w' => e = .returned (.bool true) ∧ Ext w w' := by
  have HE := Lib.hid (show Ext w ((w.alloc (.cells (zAck).toArray 39)).alloc (.cells (zAck).toArray 39)) from ((Ext.rfl' w).alloc _).alloc _)
  have k0 := (Blk.new w 39 (zAck)).ext ((Ext.rfl' _).alloc (.cells (zAck).toArray 39))
  have k1 := Blk.new (w.alloc (.cells (zAck).toArray 39)) 39 (zAck)
  rw [World.size_alloc] at k1
  have HK := Lib.hid (show ∀ W, Ext ((w.alloc (.cells (zAck).toArray 39)).alloc (.cells (zAck).toArray 39)) W → Blk W w.heap.size 39 (zAck) ∧ Blk W (w.heap.size + 1) 39 (zAck) from fun W hx => ⟨k0.ext hx, k1.ext hx⟩)
  clear k0 k1
  go_enter Tryd.func36, Tryd.ntmps36
  have a0 : ((w.alloc (.cells (zAck).toArray 39)).alloc (.cells (zAck).toArray 39)).cell? ⟨w.heap.size, 0, none⟩ = some (Value.int .u64 0) := (HK.out _ (Ext.rfl' _)).1.cell rfl
  have a1 : ((w.alloc (.cells (zAck).toArray 39)).alloc (.cells (zAck).toArray 39)).cell? ⟨w.heap.size, 1, none⟩ = some (Value.int .i64 0) := (HK.out _ (Ext.rfl' _)).1.cell rfl
  have b0 : ((w.alloc (.cells (zAck).toArray 39)).alloc (.cells (zAck).toArray 39)).cell? ⟨w.heap.size + 1, 0, none⟩ = some (Value.int .u64 0) := (HK.out _ (Ext.rfl' _)).2.cell rfl
  have b1 : ((w.alloc (.cells (zAck).toArray 39)).alloc (.cells (zAck).toArray 39)).cell? ⟨w.heap.size + 1, 1, none⟩ = some (Value.int .i64 0) := (HK.out _ (Ext.rfl' _)).2.cell rfl
  go_wp2_with (first | (refine wpList_load_midw (by rfl) _ _ rfl w.heap.size 2 rfl zSig _ ((HK.out _ (Ext.rfl' _)).1.sub 2 zSig rfl) Tryd.underlying32 rfl rfl ?_) | (refine wpList_load_midw (by rfl) _ _ rfl (w.heap.size + 1) 2 rfl zSig _ ((HK.out _ (Ext.rfl' _)).2.sub 2 zSig rfl) Tryd.underlying32 rfl rfl ?_))
  refine (keySame_zero _).mono ?_
  rintro e w0 ⟨rfl, hx0⟩
  have hX := hx0
  clear a0 a1 b0 b1
  have a0 : w0.cell? ⟨w.heap.size, 0, none⟩ = some (Value.int .u64 0) := (HK.out _ hX).1.cell rfl
  have a1 : w0.cell? ⟨w.heap.size, 1, none⟩ = some (Value.int .i64 0) := (HK.out _ hX).1.cell rfl
  have b0 : w0.cell? ⟨w.heap.size + 1, 0, none⟩ = some (Value.int .u64 0) := (HK.out _ hX).2.cell rfl
  have b1 : w0.cell? ⟨w.heap.size + 1, 1, none⟩ = some (Value.int .i64 0) := (HK.out _ hX).2.cell rfl
  go_wp2_with (first | (refine wpList_load_midw (by rfl) _ _ rfl w.heap.size 2 rfl zSig _ ((HK.out _ hX).1.sub 2 zSig rfl) Tryd.underlying32 rfl rfl ?_) | (refine wpList_load_midw (by rfl) _ _ rfl (w.heap.size + 1) 2 rfl zSig _ ((HK.out _ hX).2.sub 2 zSig rfl) Tryd.underlying32 rfl rfl ?_))
  go_ret
  exact ⟨rfl, HE.out.tr hX⟩

set_option maxRecDepth 100000 in
set_option maxHeartbeats 2000000 in
theorem repSame_zero (w : World) : Calls Tryd.prog 37 #[.agg (zRep).toArray, .agg (zRep).toArray] w fun e w' => e = .returned (.bool true) ∧ Ext w w' := by
  have HE := Lib.hid (show Ext w ((w.alloc (.cells (zRep).toArray 42)).alloc (.cells (zRep).toArray 42)) from ((Ext.rfl' w).alloc _).alloc _)
  have k0 := (Blk.new w 42 (zRep)).ext ((Ext.rfl' _).alloc (.cells (zRep).toArray 42))
  have k1 := Blk.new (w.alloc (.cells (zRep).toArray 42)) 42 (zRep)
  rw [World.size_alloc] at k1
  have HK := Lib.hid (show ∀ W, Ext ((w.alloc (.cells (zRep).toArray 42)).alloc (.cells (zRep).toArray 42)) W → Blk W w.heap.size 42 (zRep) ∧ Blk W (w.heap.size + 1) 42 (zRep) from fun W hx => ⟨k0.ext hx, k1.ext hx⟩)
  clear k0 k1
  go_enter Tryd.func37, Tryd.ntmps37
  have a0 : ((w.alloc (.cells (zRep).toArray 42)).alloc (.cells (zRep).toArray 42)).cell? ⟨w.heap.size, 0, none⟩ = some (Value.int .i64 0) := (HK.out _ (Ext.rfl' _)).1.cell rfl
  have a1 : ((w.alloc (.cells (zRep).toArray 42)).alloc (.cells (zRep).toArray 42)).cell? ⟨w.heap.size, 1, none⟩ = some (Value.int .i64 0) := (HK.out _ (Ext.rfl' _)).1.cell rfl
  have a2 : ((w.alloc (.cells (zRep).toArray 42)).alloc (.cells (zRep).toArray 42)).cell? ⟨w.heap.size, 2, none⟩ = some (Value.int .i64 0) := (HK.out _ (Ext.rfl' _)).1.cell rfl
  have a3 : ((w.alloc (.cells (zRep).toArray 42)).alloc (.cells (zRep).toArray 42)).cell? ⟨w.heap.size, 3, none⟩ = some (Value.slice none 0 0) := (HK.out _ (Ext.rfl' _)).1.cell rfl
  have b0 : ((w.alloc (.cells (zRep).toArray 42)).alloc (.cells (zRep).toArray 42)).cell? ⟨w.heap.size + 1, 0, none⟩ = some (Value.int .i64 0) := (HK.out _ (Ext.rfl' _)).2.cell rfl
  have b1 : ((w.alloc (.cells (zRep).toArray 42)).alloc (.cells (zRep).toArray 42)).cell? ⟨w.heap.size + 1, 1, none⟩ = some (Value.int .i64 0) := (HK.out _ (Ext.rfl' _)).2.cell rfl
  have b2 : ((w.alloc (.cells (zRep).toArray 42)).alloc (.cells (zRep).toArray 42)).cell? ⟨w.heap.size + 1, 2, none⟩ = some (Value.int .i64 0) := (HK.out _ (Ext.rfl' _)).2.cell rfl
  have b3 : ((w.alloc (.cells (zRep).toArray 42)).alloc (.cells (zRep).toArray 42)).cell? ⟨w.heap.size + 1, 3, none⟩ = some (Value.slice none 0 0) := (HK.out _ (Ext.rfl' _)).2.cell rfl
  go_wp2_with (first | (refine wpList_load_midw (by rfl) _ _ rfl w.heap.size 4 rfl zSig _ ((HK.out _ (Ext.rfl' _)).1.sub 4 zSig rfl) Tryd.underlying32 rfl rfl ?_) | (refine wpList_load_midw (by rfl) _ _ rfl (w.heap.size + 1) 4 rfl zSig _ ((HK.out _ (Ext.rfl' _)).2.sub 4 zSig rfl) Tryd.underlying32 rfl rfl ?_))
  refine (eqCert_nil _).mono ?_
  rintro e w0 ⟨rfl, rfl⟩
  go_wp2_with (first | (refine wpList_load_midw (by rfl) _ _ rfl w.heap.size 4 rfl zSig _ ((HK.out _ (Ext.rfl' _)).1.sub 4 zSig rfl) Tryd.underlying32 rfl rfl ?_) | (refine wpList_load_midw (by rfl) _ _ rfl (w.heap.size + 1) 4 rfl zSig _ ((HK.out _ (Ext.rfl' _)).2.sub 4 zSig rfl) Tryd.underlying32 rfl rfl ?_))
  refine (keySame_zero _).mono ?_
  rintro e w1 ⟨rfl, hx1⟩
  have hX := hx1
  clear a0 a1 a2 a3 b0 b1 b2 b3
  have a0 : w1.cell? ⟨w.heap.size, 0, none⟩ = some (Value.int .i64 0) := (HK.out _ hX).1.cell rfl
  have a1 : w1.cell? ⟨w.heap.size, 1, none⟩ = some (Value.int .i64 0) := (HK.out _ hX).1.cell rfl
  have a2 : w1.cell? ⟨w.heap.size, 2, none⟩ = some (Value.int .i64 0) := (HK.out _ hX).1.cell rfl
  have a3 : w1.cell? ⟨w.heap.size, 3, none⟩ = some (Value.slice none 0 0) := (HK.out _ hX).1.cell rfl
  have b0 : w1.cell? ⟨w.heap.size + 1, 0, none⟩ = some (Value.int .i64 0) := (HK.out _ hX).2.cell rfl
  have b1 : w1.cell? ⟨w.heap.size + 1, 1, none⟩ = some (Value.int .i64 0) := (HK.out _ hX).2.cell rfl
  have b2 : w1.cell? ⟨w.heap.size + 1, 2, none⟩ = some (Value.int .i64 0) := (HK.out _ hX).2.cell rfl
  have b3 : w1.cell? ⟨w.heap.size + 1, 3, none⟩ = some (Value.slice none 0 0) := (HK.out _ hX).2.cell rfl
  go_wp2_with (first | (refine wpList_load_midw (by rfl) _ _ rfl w.heap.size 4 rfl zSig _ ((HK.out _ hX).1.sub 4 zSig rfl) Tryd.underlying32 rfl rfl ?_) | (refine wpList_load_midw (by rfl) _ _ rfl (w.heap.size + 1) 4 rfl zSig _ ((HK.out _ hX).2.sub 4 zSig rfl) Tryd.underlying32 rfl rfl ?_))
  go_ret
  exact ⟨rfl, HE.out.tr hX⟩

set_option maxRecDepth 100000 in
set_option maxHeartbeats 2000000 in
theorem qcSame_zero (w : World) : Calls Tryd.prog 60 #[.agg (zQC).toArray, .agg (zQC).toArray] w fun e w' => e = .returned (.bool true) ∧ Ext w w' := by
  have HE := Lib.hid (show Ext w ((w.alloc (.cells (zQC).toArray 45)).alloc (.cells (zQC).toArray 45)) from ((Ext.rfl' w).alloc _).alloc _)
  have k0 := (Blk.new w 45 (zQC)).ext ((Ext.rfl' _).alloc (.cells (zQC).toArray 45))
  have k1 := Blk.new (w.alloc (.cells (zQC).toArray 45)) 45 (zQC)
  rw [World.size_alloc] at k1
  have HK := Lib.hid (show ∀ W, Ext ((w.alloc (.cells (zQC).toArray 45)).alloc (.cells (zQC).toArray 45)) W → Blk W w.heap.size 45 (zQC) ∧ Blk W (w.heap.size + 1) 45 (zQC) from fun W hx => ⟨k0.ext hx, k1.ext hx⟩)
  clear k0 k1
  go_enter Tryd.func60, Tryd.ntmps60
  have a0 : ((w.alloc (.cells (zQC).toArray 45)).alloc (.cells (zQC).toArray 45)).cell? ⟨w.heap.size, 0, none⟩ = some (Value.int .i64 0) := (HK.out _ (Ext.rfl' _)).1.cell rfl
  have a1 : ((w.alloc (.cells (zQC).toArray 45)).alloc (.cells (zQC).toArray 45)).cell? ⟨w.heap.size, 1, none⟩ = some (Value.int .u64 0) := (HK.out _ (Ext.rfl' _)).1.cell rfl
  have a2 : ((w.alloc (.cells (zQC).toArray 45)).alloc (.cells (zQC).toArray 45)).cell? ⟨w.heap.size, 2, none⟩ = some (Value.slice none 0 0) := (HK.out _ (Ext.rfl' _)).1.cell rfl
  have b0 : ((w.alloc (.cells (zQC).toArray 45)).alloc (.cells (zQC).toArray 45)).cell? ⟨w.heap.size + 1, 0, none⟩ = some (Value.int .i64 0) := (HK.out _ (Ext.rfl' _)).2.cell rfl
  have b1 : ((w.alloc (.cells (zQC).toArray 45)).alloc (.cells (zQC).toArray 45)).cell? ⟨w.heap.size + 1, 1, none⟩ = some (Value.int .u64 0) := (HK.out _ (Ext.rfl' _)).2.cell rfl
  have b2 : ((w.alloc (.cells (zQC).toArray 45)).alloc (.cells (zQC).toArray 45)).cell? ⟨w.heap.size + 1, 2, none⟩ = some (Value.slice none 0 0) := (HK.out _ (Ext.rfl' _)).2.cell rfl
  go_wp2_with fail
  refine (rowsVote_nil _).mono ?_
  rintro e w0 ⟨rfl, rfl⟩
  go_wp2_with fail
  go_ret
  exact ⟨rfl, HE.out⟩

set_option maxRecDepth 100000 in
set_option maxHeartbeats 2000000 in
theorem blkSame_zero (w : World) : Calls Tryd.prog 38 #[.agg (zBlk).toArray, .agg (zBlk).toArray] w fun e w' => e = .returned (.bool true) ∧ Ext w w' := by
  have HE := Lib.hid (show Ext w ((w.alloc (.cells (zBlk).toArray 48)).alloc (.cells (zBlk).toArray 48)) from ((Ext.rfl' w).alloc _).alloc _)
  have k0 := (Blk.new w 48 (zBlk)).ext ((Ext.rfl' _).alloc (.cells (zBlk).toArray 48))
  have k1 := Blk.new (w.alloc (.cells (zBlk).toArray 48)) 48 (zBlk)
  rw [World.size_alloc] at k1
  have HK := Lib.hid (show ∀ W, Ext ((w.alloc (.cells (zBlk).toArray 48)).alloc (.cells (zBlk).toArray 48)) W → Blk W w.heap.size 48 (zBlk) ∧ Blk W (w.heap.size + 1) 48 (zBlk) from fun W hx => ⟨k0.ext hx, k1.ext hx⟩)
  clear k0 k1
  go_enter Tryd.func38, Tryd.ntmps38
  have a0 : ((w.alloc (.cells (zBlk).toArray 48)).alloc (.cells (zBlk).toArray 48)).cell? ⟨w.heap.size, 0, none⟩ = some (Value.int .i64 0) := (HK.out _ (Ext.rfl' _)).1.cell rfl
  have a1 : ((w.alloc (.cells (zBlk).toArray 48)).alloc (.cells (zBlk).toArray 48)).cell? ⟨w.heap.size, 1, none⟩ = some (Value.int .u64 0) := (HK.out _ (Ext.rfl' _)).1.cell rfl
  have a5 : ((w.alloc (.cells (zBlk).toArray 48)).alloc (.cells (zBlk).toArray 48)).cell? ⟨w.heap.size, 5, none⟩ = some (Value.int .i64 0) := (HK.out _ (Ext.rfl' _)).1.cell rfl
  have a6 : ((w.alloc (.cells (zBlk).toArray 48)).alloc (.cells (zBlk).toArray 48)).cell? ⟨w.heap.size, 6, none⟩ = some (Value.int .i64 0) := (HK.out _ (Ext.rfl' _)).1.cell rfl
  have a7 : ((w.alloc (.cells (zBlk).toArray 48)).alloc (.cells (zBlk).toArray 48)).cell? ⟨w.heap.size, 7, none⟩ = some (Value.slice none 0 0) := (HK.out _ (Ext.rfl' _)).1.cell rfl
  have b0 : ((w.alloc (.cells (zBlk).toArray 48)).alloc (.cells (zBlk).toArray 48)).cell? ⟨w.heap.size + 1, 0, none⟩ = some (Value.int .i64 0) := (HK.out _ (Ext.rfl' _)).2.cell rfl
  have b1 : ((w.alloc (.cells (zBlk).toArray 48)).alloc (.cells (zBlk).toArray 48)).cell? ⟨w.heap.size + 1, 1, none⟩ = some (Value.int .u64 0) := (HK.out _ (Ext.rfl' _)).2.cell rfl
  have b5 : ((w.alloc (.cells (zBlk).toArray 48)).alloc (.cells (zBlk).toArray 48)).cell? ⟨w.heap.size + 1, 5, none⟩ = some (Value.int .i64 0) := (HK.out _ (Ext.rfl' _)).2.cell rfl
  have b6 : ((w.alloc (.cells (zBlk).toArray 48)).alloc (.cells (zBlk).toArray 48)).cell? ⟨w.heap.size + 1, 6, none⟩ = some (Value.int .i64 0) := (HK.out _ (Ext.rfl' _)).2.cell rfl
  have b7 : ((w.alloc (.cells (zBlk).toArray 48)).alloc (.cells (zBlk).toArray 48)).cell? ⟨w.heap.size + 1, 7, none⟩ = some (Value.slice none 0 0) := (HK.out _ (Ext.rfl' _)).2.cell rfl
  go_wp2_with (first | (refine wpList_load_midw (by rfl) _ _ rfl w.heap.size 2 rfl zQC _ ((HK.out _ (Ext.rfl' _)).1.sub 2 zQC rfl) Tryd.underlying45 rfl rfl ?_) | (refine wpList_load_midw (by rfl) _ _ rfl (w.heap.size + 1) 2 rfl zQC _ ((HK.out _ (Ext.rfl' _)).2.sub 2 zQC rfl) Tryd.underlying45 rfl rfl ?_))
  refine (qcSame_zero _).mono ?_
  rintro e w0 ⟨rfl, hx0⟩
  have hX := hx0
  clear a0 a1 a5 a6 a7 b0 b1 b5 b6 b7
  have a0 : w0.cell? ⟨w.heap.size, 0, none⟩ = some (Value.int .i64 0) := (HK.out _ hX).1.cell rfl
  have a1 : w0.cell? ⟨w.heap.size, 1, none⟩ = some (Value.int .u64 0) := (HK.out _ hX).1.cell rfl
  have a5 : w0.cell? ⟨w.heap.size, 5, none⟩ = some (Value.int .i64 0) := (HK.out _ hX).1.cell rfl
  have a6 : w0.cell? ⟨w.heap.size, 6, none⟩ = some (Value.int .i64 0) := (HK.out _ hX).1.cell rfl
  have a7 : w0.cell? ⟨w.heap.size, 7, none⟩ = some (Value.slice none 0 0) := (HK.out _ hX).1.cell rfl
  have b0 : w0.cell? ⟨w.heap.size + 1, 0, none⟩ = some (Value.int .i64 0) := (HK.out _ hX).2.cell rfl
  have b1 : w0.cell? ⟨w.heap.size + 1, 1, none⟩ = some (Value.int .u64 0) := (HK.out _ hX).2.cell rfl
  have b5 : w0.cell? ⟨w.heap.size + 1, 5, none⟩ = some (Value.int .i64 0) := (HK.out _ hX).2.cell rfl
  have b6 : w0.cell? ⟨w.heap.size + 1, 6, none⟩ = some (Value.int .i64 0) := (HK.out _ hX).2.cell rfl
  have b7 : w0.cell? ⟨w.heap.size + 1, 7, none⟩ = some (Value.slice none 0 0) := (HK.out _ hX).2.cell rfl
  go_wp2_with (first | (refine wpList_load_midw (by rfl) _ _ rfl w.heap.size 2 rfl zQC _ ((HK.out _ hX).1.sub 2 zQC rfl) Tryd.underlying45 rfl rfl ?_) | (refine wpList_load_midw (by rfl) _ _ rfl (w.heap.size + 1) 2 rfl zQC _ ((HK.out _ hX).2.sub 2 zQC rfl) Tryd.underlying45 rfl rfl ?_))
  refine (rowsRep_nil _).mono ?_
  rintro e w1 ⟨rfl, rfl⟩
  go_wp2_with (first | (refine wpList_load_midw (by rfl) _ _ rfl w.heap.size 2 rfl zQC _ ((HK.out _ hX).1.sub 2 zQC rfl) Tryd.underlying45 rfl rfl ?_) | (refine wpList_load_midw (by rfl) _ _ rfl (w.heap.size + 1) 2 rfl zQC _ ((HK.out _ hX).2.sub 2 zQC rfl) Tryd.underlying45 rfl rfl ?_))
  go_ret
  exact ⟨rfl, HE.out.tr hX⟩

set_option maxRecDepth 100000 in
set_option maxHeartbeats 2000000 in
theorem voteSame_zero (w : World) : Calls Tryd.prog 39 #[.agg (zVote).toArray, .agg (zVote).toArray] w fun e w' => e = .returned (.bool true) ∧ Ext w w' := by
  have HE := Lib.hid (show Ext w ((w.alloc (.cells (zVote).toArray 50)).alloc (.cells (zVote).toArray 50)) from ((Ext.rfl' w).alloc _).alloc _)
  have k0 := (Blk.new w 50 (zVote)).ext ((Ext.rfl' _).alloc (.cells (zVote).toArray 50))
  have k1 := Blk.new (w.alloc (.cells (zVote).toArray 50)) 50 (zVote)
  rw [World.size_alloc] at k1
  have HK := Lib.hid (show ∀ W, Ext ((w.alloc (.cells (zVote).toArray 50)).alloc (.cells (zVote).toArray 50)) W → Blk W w.heap.size 50 (zVote) ∧ Blk W (w.heap.size + 1) 50 (zVote) from fun W hx => ⟨k0.ext hx, k1.ext hx⟩)
  clear k0 k1
  go_enter Tryd.func39, Tryd.ntmps39
  have a0 : ((w.alloc (.cells (zVote).toArray 50)).alloc (.cells (zVote).toArray 50)).cell? ⟨w.heap.size, 0, none⟩ = some (Value.int .i64 0) := (HK.out _ (Ext.rfl' _)).1.cell rfl
  have a1 : ((w.alloc (.cells (zVote).toArray 50)).alloc (.cells (zVote).toArray 50)).cell? ⟨w.heap.size, 1, none⟩ = some (Value.int .u64 0) := (HK.out _ (Ext.rfl' _)).1.cell rfl
  have a2 : ((w.alloc (.cells (zVote).toArray 50)).alloc (.cells (zVote).toArray 50)).cell? ⟨w.heap.size, 2, none⟩ = some (Value.int .i64 0) := (HK.out _ (Ext.rfl' _)).1.cell rfl
  have b0 : ((w.alloc (.cells (zVote).toArray 50)).alloc (.cells (zVote).toArray 50)).cell? ⟨w.heap.size + 1, 0, none⟩ = some (Value.int .i64 0) := (HK.out _ (Ext.rfl' _)).2.cell rfl
  have b1 : ((w.alloc (.cells (zVote).toArray 50)).alloc (.cells (zVote).toArray 50)).cell? ⟨w.heap.size + 1, 1, none⟩ = some (Value.int .u64 0) := (HK.out _ (Ext.rfl' _)).2.cell rfl
  have b2 : ((w.alloc (.cells (zVote).toArray 50)).alloc (.cells (zVote).toArray 50)).cell? ⟨w.heap.size + 1, 2, none⟩ = some (Value.int .i64 0) := (HK.out _ (Ext.rfl' _)).2.cell rfl
  go_wp2_with (first | (refine wpList_load_midw (by rfl) _ _ rfl w.heap.size 3 rfl zSig _ ((HK.out _ (Ext.rfl' _)).1.sub 3 zSig rfl) Tryd.underlying32 rfl rfl ?_) | (refine wpList_load_midw (by rfl) _ _ rfl (w.heap.size + 1) 3 rfl zSig _ ((HK.out _ (Ext.rfl' _)).2.sub 3 zSig rfl) Tryd.underlying32 rfl rfl ?_))
  refine (keySame_zero _).mono ?_
  rintro e w0 ⟨rfl, hx0⟩
  have hX := hx0
  clear a0 a1 a2 b0 b1 b2
  have a0 : w0.cell? ⟨w.heap.size, 0, none⟩ = some (Value.int .i64 0) := (HK.out _ hX).1.cell rfl
  have a1 : w0.cell? ⟨w.heap.size, 1, none⟩ = some (Value.int .u64 0) := (HK.out _ hX).1.cell rfl
  have a2 : w0.cell? ⟨w.heap.size, 2, none⟩ = some (Value.int .i64 0) := (HK.out _ hX).1.cell rfl
  have b0 : w0.cell? ⟨w.heap.size + 1, 0, none⟩ = some (Value.int .i64 0) := (HK.out _ hX).2.cell rfl
  have b1 : w0.cell? ⟨w.heap.size + 1, 1, none⟩ = some (Value.int .u64 0) := (HK.out _ hX).2.cell rfl
  have b2 : w0.cell? ⟨w.heap.size + 1, 2, none⟩ = some (Value.int .i64 0) := (HK.out _ hX).2.cell rfl
  go_wp2_with (first | (refine wpList_load_midw (by rfl) _ _ rfl w.heap.size 3 rfl zSig _ ((HK.out _ hX).1.sub 3 zSig rfl) Tryd.underlying32 rfl rfl ?_) | (refine wpList_load_midw (by rfl) _ _ rfl (w.heap.size + 1) 3 rfl zSig _ ((HK.out _ hX).2.sub 3 zSig rfl) Tryd.underlying32 rfl rfl ?_))
  go_ret
  exact ⟨rfl, HE.out.tr hX⟩

set_option maxRecDepth 100000 in
set_option maxHeartbeats 2000000 in
theorem viewSame_zero (w : World) : Calls Tryd.prog 40 #[.agg (zView).toArray, .agg (zView).toArray] w fun e w' => e = .returned (.bool true) ∧ Ext w w' := by
  have HE := Lib.hid (show Ext w ((w.alloc (.cells (zView).toArray 52)).alloc (.cells (zView).toArray 52)) from ((Ext.rfl' w).alloc _).alloc _)
  have k0 := (Blk.new w 52 (zView)).ext ((Ext.rfl' _).alloc (.cells (zView).toArray 52))
  have k1 := Blk.new (w.alloc (.cells (zView).toArray 52)) 52 (zView)
  rw [World.size_alloc] at k1
  have HK := Lib.hid (show ∀ W, Ext ((w.alloc (.cells (zView).toArray 52)).alloc (.cells (zView).toArray 52)) W → Blk W w.heap.size 52 (zView) ∧ Blk W (w.heap.size + 1) 52 (zView) from fun W hx => ⟨k0.ext hx, k1.ext hx⟩)
  clear k0 k1
  go_enter Tryd.func40, Tryd.ntmps40
  have a0 : ((w.alloc (.cells (zView).toArray 52)).alloc (.cells (zView).toArray 52)).cell? ⟨w.heap.size, 0, none⟩ = some (Value.int .i64 0) := (HK.out _ (Ext.rfl' _)).1.cell rfl
  have a1 : ((w.alloc (.cells (zView).toArray 52)).alloc (.cells (zView).toArray 52)).cell? ⟨w.heap.size, 1, none⟩ = some (Value.int .i64 0) := (HK.out _ (Ext.rfl' _)).1.cell rfl
  have b0 : ((w.alloc (.cells (zView).toArray 52)).alloc (.cells (zView).toArray 52)).cell? ⟨w.heap.size + 1, 0, none⟩ = some (Value.int .i64 0) := (HK.out _ (Ext.rfl' _)).2.cell rfl
  have b1 : ((w.alloc (.cells (zView).toArray 52)).alloc (.cells (zView).toArray 52)).cell? ⟨w.heap.size + 1, 1, none⟩ = some (Value.int .i64 0) := (HK.out _ (Ext.rfl' _)).2.cell rfl
  go_wp2_with (first | (refine wpList_load_midw (by rfl) _ _ rfl w.heap.size 2 rfl zQC _ ((HK.out _ (Ext.rfl' _)).1.sub 2 zQC rfl) Tryd.underlying45 rfl rfl ?_) | (refine wpList_load_midw (by rfl) _ _ rfl (w.heap.size + 1) 2 rfl zQC _ ((HK.out _ (Ext.rfl' _)).2.sub 2 zQC rfl) Tryd.underlying45 rfl rfl ?_) | (refine wpList_load_midw (by rfl) _ _ rfl w.heap.size 5 rfl zSig _ ((HK.out _ (Ext.rfl' _)).1.sub 5 zSig rfl) Tryd.underlying32 rfl rfl ?_) | (refine wpList_load_midw (by rfl) _ _ rfl (w.heap.size + 1) 5 rfl zSig _ ((HK.out _ (Ext.rfl' _)).2.sub 5 zSig rfl) Tryd.underlying32 rfl rfl ?_))
  refine (qcSame_zero _).mono ?_
  rintro e w0 ⟨rfl, hx0⟩
  have hX := hx0
  clear a0 a1 b0 b1
  have a0 : w0.cell? ⟨w.heap.size, 0, none⟩ = some (Value.int .i64 0) := (HK.out _ hX).1.cell rfl
  have a1 : w0.cell? ⟨w.heap.size, 1, none⟩ = some (Value.int .i64 0) := (HK.out _ hX).1.cell rfl
  have b0 : w0.cell? ⟨w.heap.size + 1, 0, none⟩ = some (Value.int .i64 0) := (HK.out _ hX).2.cell rfl
  have b1 : w0.cell? ⟨w.heap.size + 1, 1, none⟩ = some (Value.int .i64 0) := (HK.out _ hX).2.cell rfl
  go_wp2_with (first | (refine wpList_load_midw (by rfl) _ _ rfl w.heap.size 2 rfl zQC _ ((HK.out _ hX).1.sub 2 zQC rfl) Tryd.underlying45 rfl rfl ?_) | (refine wpList_load_midw (by rfl) _ _ rfl (w.heap.size + 1) 2 rfl zQC _ ((HK.out _ hX).2.sub 2 zQC rfl) Tryd.underlying45 rfl rfl ?_) | (refine wpList_load_midw (by rfl) _ _ rfl w.heap.size 5 rfl zSig _ ((HK.out _ hX).1.sub 5 zSig rfl) Tryd.underlying32 rfl rfl ?_) | (refine wpList_load_midw (by rfl) _ _ rfl (w.heap.size + 1) 5 rfl zSig _ ((HK.out _ hX).2.sub 5 zSig rfl) Tryd.underlying32 rfl rfl ?_))
  refine (keySame_zero _).mono ?_
  rintro e w1 ⟨rfl, hx1⟩
  replace hX := Ext.tr hX hx1
  clear a0 a1 b0 b1
  have a0 : w1.cell? ⟨w.heap.size, 0, none⟩ = some (Value.int .i64 0) := (HK.out _ hX).1.cell rfl
  have a1 : w1.cell? ⟨w.heap.size, 1, none⟩ = some (Value.int .i64 0) := (HK.out _ hX).1.cell rfl
  have b0 : w1.cell? ⟨w.heap.size + 1, 0, none⟩ = some (Value.int .i64 0) := (HK.out _ hX).2.cell rfl
  have b1 : w1.cell? ⟨w.heap.size + 1, 1, none⟩ = some (Value.int .i64 0) := (HK.out _ hX).2.cell rfl
  go_wp2_with (first | (refine wpList_load_midw (by rfl) _ _ rfl w.heap.size 2 rfl zQC _ ((HK.out _ hX).1.sub 2 zQC rfl) Tryd.underlying45 rfl rfl ?_) | (refine wpList_load_midw (by rfl) _ _ rfl (w.heap.size + 1) 2 rfl zQC _ ((HK.out _ hX).2.sub 2 zQC rfl) Tryd.underlying45 rfl rfl ?_) | (refine wpList_load_midw (by rfl) _ _ rfl w.heap.size 5 rfl zSig _ ((HK.out _ hX).1.sub 5 zSig rfl) Tryd.underlying32 rfl rfl ?_) | (refine wpList_load_midw (by rfl) _ _ rfl (w.heap.size + 1) 5 rfl zSig _ ((HK.out _ hX).2.sub 5 zSig rfl) Tryd.underlying32 rfl rfl ?_))
  go_ret
  exact ⟨rfl, HE.out.tr hX⟩

end Go.Proofs.YtifanmggfoicfaaDoor
