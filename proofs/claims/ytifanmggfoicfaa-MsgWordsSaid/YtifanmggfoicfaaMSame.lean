/- Messages whose rows are empty: the walks of Same and of what it calls. -/
import Derived.Test.YtifanmggfoicfaaCore
import Derived.Test.YtifanmggfoicfaaProg
import Derived.Test.YtifanmggfoicfaaBlk
import Derived.Deep.MidRow
import Derived.BigFrame
import Derived.ChangeKeysEq
set_option linter.unusedVariables false
set_option linter.unusedSimpArgs false
namespace Go.Proofs.Ytifanmggfoicfaa
open Go.RowKit
abbrev i0 : Value := .int .i64 0
abbrev u0 : Value := .int .u64 0
abbrev n0 : Value := .slice none 0 0
def zOne : List Value := List.replicate 18 (.int .u64 0)
def zSig : List Value := [.int .i64 0, .int .i64 0] ++ zOne ++ [.slice none 0 0]
def zStamp : List Value := [.int .u64 0, .int .i64 0, .int .i64 0] ++ zSig
def zCmd : List Value := List.replicate 5 (.int .i64 0)
def zCert : List Value := zCmd ++ [.slice none 0 0]
def zAck : List Value := [.int .u64 0, .int .i64 0] ++ zSig
def zQC : List Value := [.int .i64 0, .int .u64 0, .slice none 0 0]
def zRep : List Value := [.int .i64 0, .int .i64 0, .int .i64 0, .slice none 0 0] ++ zSig
def zBlk : List Value := [.int .i64 0, .int .u64 0] ++ zQC ++ [.int .i64 0, .int .i64 0, .slice none 0 0]
def zVote : List Value := [.int .i64 0, .int .u64 0, .int .i64 0] ++ zSig
def zView : List Value := [.int .i64 0, .int .i64 0] ++ zQC ++ zSig
theorem wpList_load_midw {P : Program} {ops : Array Oper} {rest : List Oper} {op : Oper} {a : Act} {w : World} {Q : Exit → Act → World → Prop} (hw : Region.wanted op (yielded ops a.tmps) = true) (ty : TypeId) (x : Operand) (ho : op.op = .load ty x)
    (b o : Nat) (hx : a.eval x = .pointer (some ⟨b, o, none⟩)) (cs : List Value) (d : TypeDesc) (hc : w.rangeAt b o cs)
    (hu : P.underlying ty = some d) (hd : d.isRow = true) (hi : (P.info? ty).map (·.size) = some cs.length)
    (h : wpList P ops Q rest (a.put op.dst (.agg cs.toArray)) w) : wpList P ops Q (op :: rest) a w :=
  BigFrame.wpList_want hw fun _ hK => wp_load_mid ty x ho b o hx cs d hc hu hd hi (hK _ _ h)
theorem Blk.sub {W : World} {B : Nat} {T : TypeId} {L : List Value} (h : Blk W B T L) (o : Nat) (cs : List Value) (e : (L.drop o).take cs.length = cs) : W.rangeAt B o cs := fun j v hj => by
  rw [← e, List.getElem?_take] at hj
  split at hj
  · rw [List.getElem?_drop] at hj
    exact h.cell hj
  · cases hj

theorem eqStamp_nil (w : World) : Calls Try.prog 83 #[.slice none 0 0, .slice none 0 0, .func (.func 52) #[] #[]] w fun e w' => e = .returned (.bool true) ∧ w = w' := by
  go_enter Try.func83, Try.ntmps83
  go_wp2
  go_loop [17] (fun i => i = .int .i64 0) (fun i => 0)
  case atStart => rfl
  case round =>
    subst hrel
    go_wp2
    go_ret
    exact ⟨rfl, rfl⟩

theorem eqCert_nil (w : World) : Calls Try.prog 84 #[.slice none 0 0, .slice none 0 0, .func (.func 53) #[] #[]] w fun e w' => e = .returned (.bool true) ∧ w = w' := by
  go_enter Try.func84, Try.ntmps84
  go_wp2
  go_loop [17] (fun i => i = .int .i64 0) (fun i => 0)
  case atStart => rfl
  case round =>
    subst hrel
    go_wp2
    go_ret
    exact ⟨rfl, rfl⟩

theorem eqBlk_nil (w : World) : Calls Try.prog 87 #[.slice none 0 0, .slice none 0 0, .func (.func 56) #[] #[]] w fun e w' => e = .returned (.bool true) ∧ w = w' := by
  go_enter Try.func87, Try.ntmps87
  go_wp2
  go_loop [17] (fun i => i = .int .i64 0) (fun i => 0)
  case atStart => rfl
  case round =>
    subst hrel
    go_wp2
    go_ret
    exact ⟨rfl, rfl⟩

theorem eqRep_nil (w : World) : Calls Try.prog 106 #[.slice none 0 0, .slice none 0 0, .func (.func 55) #[] #[]] w fun e w' => e = .returned (.bool true) ∧ w = w' := by
  go_enter Try.func106, Try.ntmps106
  go_wp2
  go_loop [17] (fun i => i = .int .i64 0) (fun i => 0)
  case atStart => rfl
  case round =>
    subst hrel
    go_wp2
    go_ret
    exact ⟨rfl, rfl⟩

theorem eqVote_nil (w : World) : Calls Try.prog 115 #[.slice none 0 0, .slice none 0 0, .func (.func 57) #[] #[]] w fun e w' => e = .returned (.bool true) ∧ w = w' := by
  go_enter Try.func115, Try.ntmps115
  go_wp2
  go_loop [17] (fun i => i = .int .i64 0) (fun i => 0)
  case atStart => rfl
  case round =>
    subst hrel
    go_wp2
    go_ret
    exact ⟨rfl, rfl⟩

theorem eqDig_nil (w : World) : Calls Try.prog 104 #[.slice none 0 0, .slice none 0 0] w fun e w' => e = .returned (.bool true) ∧ w = w' := by
  go_enter Try.func104, Try.ntmps104
  go_wp2
  go_loop [13] (fun i => i = .int .i64 0) (fun i => 0)
  case atStart => rfl
  case round =>
    subst hrel
    go_wp2
    go_ret
    exact ⟨rfl, rfl⟩

theorem rowsBlk_nil (w : World) : Calls Try.prog 59 #[.slice none 0 0, .slice none 0 0, .func (.func 56) #[] #[]] w fun e w' => e = .returned (.bool true) ∧ w = w' := by
  go_enter Try.func59, Try.ntmps59
  go_wp2_with fail
  refine (eqBlk_nil w).mono ?_
  rintro e w1 ⟨rfl, rfl⟩
  go_wp2
  go_ret
  exact ⟨rfl, rfl⟩

theorem rowsRep_nil (w : World) : Calls Try.prog 86 #[.slice none 0 0, .slice none 0 0, .func (.func 55) #[] #[]] w fun e w' => e = .returned (.bool true) ∧ w = w' := by
  go_enter Try.func86, Try.ntmps86
  go_wp2_with fail
  refine (eqRep_nil w).mono ?_
  rintro e w1 ⟨rfl, rfl⟩
  go_wp2
  go_ret
  exact ⟨rfl, rfl⟩

theorem rowsVote_nil (w : World) : Calls Try.prog 105 #[.slice none 0 0, .slice none 0 0, .func (.func 57) #[] #[]] w fun e w' => e = .returned (.bool true) ∧ w = w' := by
  go_enter Try.func105, Try.ntmps105
  go_wp2_with fail
  refine (eqVote_nil w).mono ?_
  rintro e w1 ⟨rfl, rfl⟩
  go_wp2
  go_ret
  exact ⟨rfl, rfl⟩

theorem one_eq (w : World) : (Op.equalIn 10000 57 (.agg zOne.toArray) (.agg zOne.toArray)).run Try.prog w = .ok true w := by kernel_rfl
theorem cmd_eq (w : World) : (Op.equalIn 10000 54 (.agg zCmd.toArray) (.agg zCmd.toArray)).run Try.prog w = .ok true w := by kernel_rfl

set_option maxRecDepth 100000 in
set_option maxHeartbeats 2000000 in
theorem keySame_zero (w : World) : Calls Try.prog 82 #[.agg (zSig).toArray, .agg (zSig).toArray] w fun e w' => e = .returned (.bool true) ∧ Ext w w' := by
  have HE := Lib.hid (show Ext w ((w.alloc (.cells (zSig).toArray 60)).alloc (.cells (zSig).toArray 60)) from ((Ext.rfl' w).alloc _).alloc _)
  have k0 := (Blk.new w 60 (zSig)).ext ((Ext.rfl' _).alloc (.cells (zSig).toArray 60))
  have k1 := Blk.new (w.alloc (.cells (zSig).toArray 60)) 60 (zSig)
  rw [World.size_alloc] at k1
  have HK := Lib.hid (show ∀ W, Ext ((w.alloc (.cells (zSig).toArray 60)).alloc (.cells (zSig).toArray 60)) W → Blk W w.heap.size 60 (zSig) ∧ Blk W (w.heap.size + 1) 60 (zSig) from fun W hx => ⟨k0.ext hx, k1.ext hx⟩)
  clear k0 k1
  have hq := one_eq
  go_enter Try.func82, Try.ntmps82
  have a0 : ((w.alloc (.cells (zSig).toArray 60)).alloc (.cells (zSig).toArray 60)).cell? ⟨w.heap.size, 0, none⟩ = some (Value.int .i64 0) := (HK.out _ (Ext.rfl' _)).1.cell rfl
  have a1 : ((w.alloc (.cells (zSig).toArray 60)).alloc (.cells (zSig).toArray 60)).cell? ⟨w.heap.size, 1, none⟩ = some (Value.int .i64 0) := (HK.out _ (Ext.rfl' _)).1.cell rfl
  have a20 : ((w.alloc (.cells (zSig).toArray 60)).alloc (.cells (zSig).toArray 60)).cell? ⟨w.heap.size, 20, none⟩ = some (Value.slice none 0 0) := (HK.out _ (Ext.rfl' _)).1.cell rfl
  have b0 : ((w.alloc (.cells (zSig).toArray 60)).alloc (.cells (zSig).toArray 60)).cell? ⟨w.heap.size + 1, 0, none⟩ = some (Value.int .i64 0) := (HK.out _ (Ext.rfl' _)).2.cell rfl
  have b1 : ((w.alloc (.cells (zSig).toArray 60)).alloc (.cells (zSig).toArray 60)).cell? ⟨w.heap.size + 1, 1, none⟩ = some (Value.int .i64 0) := (HK.out _ (Ext.rfl' _)).2.cell rfl
  have b20 : ((w.alloc (.cells (zSig).toArray 60)).alloc (.cells (zSig).toArray 60)).cell? ⟨w.heap.size + 1, 20, none⟩ = some (Value.slice none 0 0) := (HK.out _ (Ext.rfl' _)).2.cell rfl
  go_wp2_with (first | (refine wpList_load_midw (by rfl) _ _ rfl w.heap.size 2 rfl zOne _ ((HK.out _ (Ext.rfl' _)).1.sub 2 zOne rfl) Try.underlying57 rfl rfl ?_) | (refine wpList_load_midw (by rfl) _ _ rfl (w.heap.size + 1) 2 rfl zOne _ ((HK.out _ (Ext.rfl' _)).2.sub 2 zOne rfl) Try.underlying57 rfl rfl ?_))
  refine (eqDig_nil _).mono ?_
  rintro e w0 ⟨rfl, rfl⟩
  go_wp2_with (first | (refine wpList_load_midw (by rfl) _ _ rfl w.heap.size 2 rfl zOne _ ((HK.out _ (Ext.rfl' _)).1.sub 2 zOne rfl) Try.underlying57 rfl rfl ?_) | (refine wpList_load_midw (by rfl) _ _ rfl (w.heap.size + 1) 2 rfl zOne _ ((HK.out _ (Ext.rfl' _)).2.sub 2 zOne rfl) Try.underlying57 rfl rfl ?_))
  go_ret
  exact ⟨rfl, HE.out⟩

set_option maxRecDepth 100000 in
set_option maxHeartbeats 2000000 in
theorem stampSame_zero (w : World) : Calls Try.prog 52 #[.agg (zStamp).toArray, .agg (zStamp).toArray] w fun e w' => e = .returned (.bool true) ∧ Ext w w' := by
  have HE := Lib.hid (show Ext w ((w.alloc (.cells (zStamp).toArray 62)).alloc (.cells (zStamp).toArray 62)) from ((Ext.rfl' w).alloc _).alloc _)
  have k0 := (Blk.new w 62 (zStamp)).ext ((Ext.rfl' _).alloc (.cells (zStamp).toArray 62))
  have k1 := Blk.new (w.alloc (.cells (zStamp).toArray 62)) 62 (zStamp)
  rw [World.size_alloc] at k1
  have HK := Lib.hid (show ∀ W, Ext ((w.alloc (.cells (zStamp).toArray 62)).alloc (.cells (zStamp).toArray 62)) W → Blk W w.heap.size 62 (zStamp) ∧ Blk W (w.heap.size + 1) 62 (zStamp) from fun W hx => ⟨k0.ext hx, k1.ext hx⟩)
  clear k0 k1
  go_enter Try.func52, Try.ntmps52
  have a0 : ((w.alloc (.cells (zStamp).toArray 62)).alloc (.cells (zStamp).toArray 62)).cell? ⟨w.heap.size, 0, none⟩ = some (Value.int .u64 0) := (HK.out _ (Ext.rfl' _)).1.cell rfl
  have a1 : ((w.alloc (.cells (zStamp).toArray 62)).alloc (.cells (zStamp).toArray 62)).cell? ⟨w.heap.size, 1, none⟩ = some (Value.int .i64 0) := (HK.out _ (Ext.rfl' _)).1.cell rfl
  have a2 : ((w.alloc (.cells (zStamp).toArray 62)).alloc (.cells (zStamp).toArray 62)).cell? ⟨w.heap.size, 2, none⟩ = some (Value.int .i64 0) := (HK.out _ (Ext.rfl' _)).1.cell rfl
  have b0 : ((w.alloc (.cells (zStamp).toArray 62)).alloc (.cells (zStamp).toArray 62)).cell? ⟨w.heap.size + 1, 0, none⟩ = some (Value.int .u64 0) := (HK.out _ (Ext.rfl' _)).2.cell rfl
  have b1 : ((w.alloc (.cells (zStamp).toArray 62)).alloc (.cells (zStamp).toArray 62)).cell? ⟨w.heap.size + 1, 1, none⟩ = some (Value.int .i64 0) := (HK.out _ (Ext.rfl' _)).2.cell rfl
  have b2 : ((w.alloc (.cells (zStamp).toArray 62)).alloc (.cells (zStamp).toArray 62)).cell? ⟨w.heap.size + 1, 2, none⟩ = some (Value.int .i64 0) := (HK.out _ (Ext.rfl' _)).2.cell rfl
  go_wp2_with (first | (refine wpList_load_midw (by rfl) _ _ rfl w.heap.size 3 rfl zSig _ ((HK.out _ (Ext.rfl' _)).1.sub 3 zSig rfl) Try.underlying60 rfl rfl ?_) | (refine wpList_load_midw (by rfl) _ _ rfl (w.heap.size + 1) 3 rfl zSig _ ((HK.out _ (Ext.rfl' _)).2.sub 3 zSig rfl) Try.underlying60 rfl rfl ?_))
  refine (keySame_zero _).mono ?_
  rintro e w0 ⟨rfl, hx0⟩
  have hX := hx0
  clear a0 a1 a2 b0 b1 b2
  have a0 : w0.cell? ⟨w.heap.size, 0, none⟩ = some (Value.int .u64 0) := (HK.out _ hX).1.cell rfl
  have a1 : w0.cell? ⟨w.heap.size, 1, none⟩ = some (Value.int .i64 0) := (HK.out _ hX).1.cell rfl
  have a2 : w0.cell? ⟨w.heap.size, 2, none⟩ = some (Value.int .i64 0) := (HK.out _ hX).1.cell rfl
  have b0 : w0.cell? ⟨w.heap.size + 1, 0, none⟩ = some (Value.int .u64 0) := (HK.out _ hX).2.cell rfl
  have b1 : w0.cell? ⟨w.heap.size + 1, 1, none⟩ = some (Value.int .i64 0) := (HK.out _ hX).2.cell rfl
  have b2 : w0.cell? ⟨w.heap.size + 1, 2, none⟩ = some (Value.int .i64 0) := (HK.out _ hX).2.cell rfl
  go_wp2_with (first | (refine wpList_load_midw (by rfl) _ _ rfl w.heap.size 3 rfl zSig _ ((HK.out _ hX).1.sub 3 zSig rfl) Try.underlying60 rfl rfl ?_) | (refine wpList_load_midw (by rfl) _ _ rfl (w.heap.size + 1) 3 rfl zSig _ ((HK.out _ hX).2.sub 3 zSig rfl) Try.underlying60 rfl rfl ?_))
  go_ret
  exact ⟨rfl, HE.out.tr hX⟩

set_option maxRecDepth 100000 in
set_option maxHeartbeats 2000000 in
theorem certSame_zero (w : World) : Calls Try.prog 53 #[.agg (zCert).toArray, .agg (zCert).toArray] w fun e w' => e = .returned (.bool true) ∧ Ext w w' := by
  have HE := Lib.hid (show Ext w ((w.alloc (.cells (zCert).toArray 65)).alloc (.cells (zCert).toArray 65)) from ((Ext.rfl' w).alloc _).alloc _)
  have k0 := (Blk.new w 65 (zCert)).ext ((Ext.rfl' _).alloc (.cells (zCert).toArray 65))
  have k1 := Blk.new (w.alloc (.cells (zCert).toArray 65)) 65 (zCert)
  rw [World.size_alloc] at k1
  have HK := Lib.hid (show ∀ W, Ext ((w.alloc (.cells (zCert).toArray 65)).alloc (.cells (zCert).toArray 65)) W → Blk W w.heap.size 65 (zCert) ∧ Blk W (w.heap.size + 1) 65 (zCert) from fun W hx => ⟨k0.ext hx, k1.ext hx⟩)
  clear k0 k1
  have hq := cmd_eq
  go_enter Try.func53, Try.ntmps53
  have a5 : ((w.alloc (.cells (zCert).toArray 65)).alloc (.cells (zCert).toArray 65)).cell? ⟨w.heap.size, 5, none⟩ = some (Value.slice none 0 0) := (HK.out _ (Ext.rfl' _)).1.cell rfl
  have b5 : ((w.alloc (.cells (zCert).toArray 65)).alloc (.cells (zCert).toArray 65)).cell? ⟨w.heap.size + 1, 5, none⟩ = some (Value.slice none 0 0) := (HK.out _ (Ext.rfl' _)).2.cell rfl
  go_wp2_with (first | (refine wpList_load_midw (by rfl) _ _ rfl w.heap.size 0 rfl zCmd _ ((HK.out _ (Ext.rfl' _)).1.sub 0 zCmd rfl) Try.underlying54 rfl rfl ?_) | (refine wpList_load_midw (by rfl) _ _ rfl (w.heap.size + 1) 0 rfl zCmd _ ((HK.out _ (Ext.rfl' _)).2.sub 0 zCmd rfl) Try.underlying54 rfl rfl ?_))
  refine (eqStamp_nil _).mono ?_
  rintro e w0 ⟨rfl, rfl⟩
  go_wp2_with (first | (refine wpList_load_midw (by rfl) _ _ rfl w.heap.size 0 rfl zCmd _ ((HK.out _ (Ext.rfl' _)).1.sub 0 zCmd rfl) Try.underlying54 rfl rfl ?_) | (refine wpList_load_midw (by rfl) _ _ rfl (w.heap.size + 1) 0 rfl zCmd _ ((HK.out _ (Ext.rfl' _)).2.sub 0 zCmd rfl) Try.underlying54 rfl rfl ?_))
  go_ret
  exact ⟨rfl, HE.out⟩

set_option maxRecDepth 100000 in
set_option maxHeartbeats 2000000 in
theorem ackSame_zero (w : World) : Calls Try.prog 54 #[.agg (zAck).toArray, .agg (zAck).toArray] w fun e w' => e = .returned (.bool true) ∧ Ext w w' := by
  have HE := Lib.hid (show Ext w ((w.alloc (.cells (zAck).toArray 67)).alloc (.cells (zAck).toArray 67)) from ((Ext.rfl' w).alloc _).alloc _)
  have k0 := (Blk.new w 67 (zAck)).ext ((Ext.rfl' _).alloc (.cells (zAck).toArray 67))
  have k1 := Blk.new (w.alloc (.cells (zAck).toArray 67)) 67 (zAck)
  rw [World.size_alloc] at k1
  have HK := Lib.hid (show ∀ W, Ext ((w.alloc (.cells (zAck).toArray 67)).alloc (.cells (zAck).toArray 67)) W → Blk W w.heap.size 67 (zAck) ∧ Blk W (w.heap.size + 1) 67 (zAck) from fun W hx => ⟨k0.ext hx, k1.ext hx⟩)
  clear k0 k1
  go_enter Try.func54, Try.ntmps54
  have a0 : ((w.alloc (.cells (zAck).toArray 67)).alloc (.cells (zAck).toArray 67)).cell? ⟨w.heap.size, 0, none⟩ = some (Value.int .u64 0) := (HK.out _ (Ext.rfl' _)).1.cell rfl
  have a1 : ((w.alloc (.cells (zAck).toArray 67)).alloc (.cells (zAck).toArray 67)).cell? ⟨w.heap.size, 1, none⟩ = some (Value.int .i64 0) := (HK.out _ (Ext.rfl' _)).1.cell rfl
  have b0 : ((w.alloc (.cells (zAck).toArray 67)).alloc (.cells (zAck).toArray 67)).cell? ⟨w.heap.size + 1, 0, none⟩ = some (Value.int .u64 0) := (HK.out _ (Ext.rfl' _)).2.cell rfl
  have b1 : ((w.alloc (.cells (zAck).toArray 67)).alloc (.cells (zAck).toArray 67)).cell? ⟨w.heap.size + 1, 1, none⟩ = some (Value.int .i64 0) := (HK.out _ (Ext.rfl' _)).2.cell rfl
  go_wp2_with (first | (refine wpList_load_midw (by rfl) _ _ rfl w.heap.size 2 rfl zSig _ ((HK.out _ (Ext.rfl' _)).1.sub 2 zSig rfl) Try.underlying60 rfl rfl ?_) | (refine wpList_load_midw (by rfl) _ _ rfl (w.heap.size + 1) 2 rfl zSig _ ((HK.out _ (Ext.rfl' _)).2.sub 2 zSig rfl) Try.underlying60 rfl rfl ?_))
  refine (keySame_zero _).mono ?_
  rintro e w0 ⟨rfl, hx0⟩
  have hX := hx0
  clear a0 a1 b0 b1
  have a0 : w0.cell? ⟨w.heap.size, 0, none⟩ = some (Value.int .u64 0) := (HK.out _ hX).1.cell rfl
  have a1 : w0.cell? ⟨w.heap.size, 1, none⟩ = some (Value.int .i64 0) := (HK.out _ hX).1.cell rfl
  have b0 : w0.cell? ⟨w.heap.size + 1, 0, none⟩ = some (Value.int .u64 0) := (HK.out _ hX).2.cell rfl
  have b1 : w0.cell? ⟨w.heap.size + 1, 1, none⟩ = some (Value.int .i64 0) := (HK.out _ hX).2.cell rfl
  go_wp2_with (first | (refine wpList_load_midw (by rfl) _ _ rfl w.heap.size 2 rfl zSig _ ((HK.out _ hX).1.sub 2 zSig rfl) Try.underlying60 rfl rfl ?_) | (refine wpList_load_midw (by rfl) _ _ rfl (w.heap.size + 1) 2 rfl zSig _ ((HK.out _ hX).2.sub 2 zSig rfl) Try.underlying60 rfl rfl ?_))
  go_ret
  exact ⟨rfl, HE.out.tr hX⟩

set_option maxRecDepth 100000 in
set_option maxHeartbeats 2000000 in
theorem repSame_zero (w : World) : Calls Try.prog 55 #[.agg (zRep).toArray, .agg (zRep).toArray] w fun e w' => e = .returned (.bool true) ∧ Ext w w' := by
  have HE := Lib.hid (show Ext w ((w.alloc (.cells (zRep).toArray 70)).alloc (.cells (zRep).toArray 70)) from ((Ext.rfl' w).alloc _).alloc _)
  have k0 := (Blk.new w 70 (zRep)).ext ((Ext.rfl' _).alloc (.cells (zRep).toArray 70))
  have k1 := Blk.new (w.alloc (.cells (zRep).toArray 70)) 70 (zRep)
  rw [World.size_alloc] at k1
  have HK := Lib.hid (show ∀ W, Ext ((w.alloc (.cells (zRep).toArray 70)).alloc (.cells (zRep).toArray 70)) W → Blk W w.heap.size 70 (zRep) ∧ Blk W (w.heap.size + 1) 70 (zRep) from fun W hx => ⟨k0.ext hx, k1.ext hx⟩)
  clear k0 k1
  go_enter Try.func55, Try.ntmps55
  have a0 : ((w.alloc (.cells (zRep).toArray 70)).alloc (.cells (zRep).toArray 70)).cell? ⟨w.heap.size, 0, none⟩ = some (Value.int .i64 0) := (HK.out _ (Ext.rfl' _)).1.cell rfl
  have a1 : ((w.alloc (.cells (zRep).toArray 70)).alloc (.cells (zRep).toArray 70)).cell? ⟨w.heap.size, 1, none⟩ = some (Value.int .i64 0) := (HK.out _ (Ext.rfl' _)).1.cell rfl
  have a2 : ((w.alloc (.cells (zRep).toArray 70)).alloc (.cells (zRep).toArray 70)).cell? ⟨w.heap.size, 2, none⟩ = some (Value.int .i64 0) := (HK.out _ (Ext.rfl' _)).1.cell rfl
  have a3 : ((w.alloc (.cells (zRep).toArray 70)).alloc (.cells (zRep).toArray 70)).cell? ⟨w.heap.size, 3, none⟩ = some (Value.slice none 0 0) := (HK.out _ (Ext.rfl' _)).1.cell rfl
  have b0 : ((w.alloc (.cells (zRep).toArray 70)).alloc (.cells (zRep).toArray 70)).cell? ⟨w.heap.size + 1, 0, none⟩ = some (Value.int .i64 0) := (HK.out _ (Ext.rfl' _)).2.cell rfl
  have b1 : ((w.alloc (.cells (zRep).toArray 70)).alloc (.cells (zRep).toArray 70)).cell? ⟨w.heap.size + 1, 1, none⟩ = some (Value.int .i64 0) := (HK.out _ (Ext.rfl' _)).2.cell rfl
  have b2 : ((w.alloc (.cells (zRep).toArray 70)).alloc (.cells (zRep).toArray 70)).cell? ⟨w.heap.size + 1, 2, none⟩ = some (Value.int .i64 0) := (HK.out _ (Ext.rfl' _)).2.cell rfl
  have b3 : ((w.alloc (.cells (zRep).toArray 70)).alloc (.cells (zRep).toArray 70)).cell? ⟨w.heap.size + 1, 3, none⟩ = some (Value.slice none 0 0) := (HK.out _ (Ext.rfl' _)).2.cell rfl
  go_wp2_with (first | (refine wpList_load_midw (by rfl) _ _ rfl w.heap.size 4 rfl zSig _ ((HK.out _ (Ext.rfl' _)).1.sub 4 zSig rfl) Try.underlying60 rfl rfl ?_) | (refine wpList_load_midw (by rfl) _ _ rfl (w.heap.size + 1) 4 rfl zSig _ ((HK.out _ (Ext.rfl' _)).2.sub 4 zSig rfl) Try.underlying60 rfl rfl ?_))
  refine (eqCert_nil _).mono ?_
  rintro e w0 ⟨rfl, rfl⟩
  go_wp2_with (first | (refine wpList_load_midw (by rfl) _ _ rfl w.heap.size 4 rfl zSig _ ((HK.out _ (Ext.rfl' _)).1.sub 4 zSig rfl) Try.underlying60 rfl rfl ?_) | (refine wpList_load_midw (by rfl) _ _ rfl (w.heap.size + 1) 4 rfl zSig _ ((HK.out _ (Ext.rfl' _)).2.sub 4 zSig rfl) Try.underlying60 rfl rfl ?_))
  refine (keySame_zero _).mono ?_
  rintro e w1 ⟨rfl, hx1⟩
  have hX := hx1
  clear a0 a1 a2 a3 b0 b1 b2 b3
  have a0 : w1.cell? ⟨w.heap.size, 0, none⟩ = some (Value.int .i64 0) := (HK.out _ hX).1.cell rfl
  have a1 : w1.cell? ⟨w.heap.size, 1, none⟩ = some (Value.int .i64 0) := (HK.out _ hX).1.cell rfl
  have a2 : w1.cell? ⟨w.heap.size, 2, none⟩ = some (Value.int .i64 0) := (HK.out _ hX).1.cell rfl
  have a3 : w1.cell? ⟨w.heap.size, 3, none⟩ = some (Value.slice none 0 0) := (HK.out _ hX).1.cell rfl
  have b0 : w1.cell? ⟨w.heap.size + 1, 0, none⟩ = some (Value.int .i64 0) := (HK.out _ hX).2.cell rfl
  have b1 : w1.cell? ⟨w.heap.size + 1, 1, none⟩ = some (Value.int .i64 0) := (HK.out _ hX).2.cell rfl
  have b2 : w1.cell? ⟨w.heap.size + 1, 2, none⟩ = some (Value.int .i64 0) := (HK.out _ hX).2.cell rfl
  have b3 : w1.cell? ⟨w.heap.size + 1, 3, none⟩ = some (Value.slice none 0 0) := (HK.out _ hX).2.cell rfl
  go_wp2_with (first | (refine wpList_load_midw (by rfl) _ _ rfl w.heap.size 4 rfl zSig _ ((HK.out _ hX).1.sub 4 zSig rfl) Try.underlying60 rfl rfl ?_) | (refine wpList_load_midw (by rfl) _ _ rfl (w.heap.size + 1) 4 rfl zSig _ ((HK.out _ hX).2.sub 4 zSig rfl) Try.underlying60 rfl rfl ?_))
  go_ret
  exact ⟨rfl, HE.out.tr hX⟩

set_option maxRecDepth 100000 in
set_option maxHeartbeats 2000000 in
theorem qcSame_zero (w : World) : Calls Try.prog 85 #[.agg (zQC).toArray, .agg (zQC).toArray] w fun e w' => e = .returned (.bool true) ∧ Ext w w' := by
  have HE := Lib.hid (show Ext w ((w.alloc (.cells (zQC).toArray 73)).alloc (.cells (zQC).toArray 73)) from ((Ext.rfl' w).alloc _).alloc _)
  have k0 := (Blk.new w 73 (zQC)).ext ((Ext.rfl' _).alloc (.cells (zQC).toArray 73))
  have k1 := Blk.new (w.alloc (.cells (zQC).toArray 73)) 73 (zQC)
  rw [World.size_alloc] at k1
  have HK := Lib.hid (show ∀ W, Ext ((w.alloc (.cells (zQC).toArray 73)).alloc (.cells (zQC).toArray 73)) W → Blk W w.heap.size 73 (zQC) ∧ Blk W (w.heap.size + 1) 73 (zQC) from fun W hx => ⟨k0.ext hx, k1.ext hx⟩)
  clear k0 k1
  go_enter Try.func85, Try.ntmps85
  have a0 : ((w.alloc (.cells (zQC).toArray 73)).alloc (.cells (zQC).toArray 73)).cell? ⟨w.heap.size, 0, none⟩ = some (Value.int .i64 0) := (HK.out _ (Ext.rfl' _)).1.cell rfl
  have a1 : ((w.alloc (.cells (zQC).toArray 73)).alloc (.cells (zQC).toArray 73)).cell? ⟨w.heap.size, 1, none⟩ = some (Value.int .u64 0) := (HK.out _ (Ext.rfl' _)).1.cell rfl
  have a2 : ((w.alloc (.cells (zQC).toArray 73)).alloc (.cells (zQC).toArray 73)).cell? ⟨w.heap.size, 2, none⟩ = some (Value.slice none 0 0) := (HK.out _ (Ext.rfl' _)).1.cell rfl
  have b0 : ((w.alloc (.cells (zQC).toArray 73)).alloc (.cells (zQC).toArray 73)).cell? ⟨w.heap.size + 1, 0, none⟩ = some (Value.int .i64 0) := (HK.out _ (Ext.rfl' _)).2.cell rfl
  have b1 : ((w.alloc (.cells (zQC).toArray 73)).alloc (.cells (zQC).toArray 73)).cell? ⟨w.heap.size + 1, 1, none⟩ = some (Value.int .u64 0) := (HK.out _ (Ext.rfl' _)).2.cell rfl
  have b2 : ((w.alloc (.cells (zQC).toArray 73)).alloc (.cells (zQC).toArray 73)).cell? ⟨w.heap.size + 1, 2, none⟩ = some (Value.slice none 0 0) := (HK.out _ (Ext.rfl' _)).2.cell rfl
  go_wp2_with fail
  refine (rowsVote_nil _).mono ?_
  rintro e w0 ⟨rfl, rfl⟩
  go_wp2_with fail
  go_ret
  exact ⟨rfl, HE.out⟩

set_option maxRecDepth 100000 in
set_option maxHeartbeats 2000000 in
theorem blkSame_zero (w : World) : Calls Try.prog 56 #[.agg (zBlk).toArray, .agg (zBlk).toArray] w fun e w' => e = .returned (.bool true) ∧ Ext w w' := by
  have HE := Lib.hid (show Ext w ((w.alloc (.cells (zBlk).toArray 76)).alloc (.cells (zBlk).toArray 76)) from ((Ext.rfl' w).alloc _).alloc _)
  have k0 := (Blk.new w 76 (zBlk)).ext ((Ext.rfl' _).alloc (.cells (zBlk).toArray 76))
  have k1 := Blk.new (w.alloc (.cells (zBlk).toArray 76)) 76 (zBlk)
  rw [World.size_alloc] at k1
  have HK := Lib.hid (show ∀ W, Ext ((w.alloc (.cells (zBlk).toArray 76)).alloc (.cells (zBlk).toArray 76)) W → Blk W w.heap.size 76 (zBlk) ∧ Blk W (w.heap.size + 1) 76 (zBlk) from fun W hx => ⟨k0.ext hx, k1.ext hx⟩)
  clear k0 k1
  go_enter Try.func56, Try.ntmps56
  have a0 : ((w.alloc (.cells (zBlk).toArray 76)).alloc (.cells (zBlk).toArray 76)).cell? ⟨w.heap.size, 0, none⟩ = some (Value.int .i64 0) := (HK.out _ (Ext.rfl' _)).1.cell rfl
  have a1 : ((w.alloc (.cells (zBlk).toArray 76)).alloc (.cells (zBlk).toArray 76)).cell? ⟨w.heap.size, 1, none⟩ = some (Value.int .u64 0) := (HK.out _ (Ext.rfl' _)).1.cell rfl
  have a5 : ((w.alloc (.cells (zBlk).toArray 76)).alloc (.cells (zBlk).toArray 76)).cell? ⟨w.heap.size, 5, none⟩ = some (Value.int .i64 0) := (HK.out _ (Ext.rfl' _)).1.cell rfl
  have a6 : ((w.alloc (.cells (zBlk).toArray 76)).alloc (.cells (zBlk).toArray 76)).cell? ⟨w.heap.size, 6, none⟩ = some (Value.int .i64 0) := (HK.out _ (Ext.rfl' _)).1.cell rfl
  have a7 : ((w.alloc (.cells (zBlk).toArray 76)).alloc (.cells (zBlk).toArray 76)).cell? ⟨w.heap.size, 7, none⟩ = some (Value.slice none 0 0) := (HK.out _ (Ext.rfl' _)).1.cell rfl
  have b0 : ((w.alloc (.cells (zBlk).toArray 76)).alloc (.cells (zBlk).toArray 76)).cell? ⟨w.heap.size + 1, 0, none⟩ = some (Value.int .i64 0) := (HK.out _ (Ext.rfl' _)).2.cell rfl
  have b1 : ((w.alloc (.cells (zBlk).toArray 76)).alloc (.cells (zBlk).toArray 76)).cell? ⟨w.heap.size + 1, 1, none⟩ = some (Value.int .u64 0) := (HK.out _ (Ext.rfl' _)).2.cell rfl
  have b5 : ((w.alloc (.cells (zBlk).toArray 76)).alloc (.cells (zBlk).toArray 76)).cell? ⟨w.heap.size + 1, 5, none⟩ = some (Value.int .i64 0) := (HK.out _ (Ext.rfl' _)).2.cell rfl
  have b6 : ((w.alloc (.cells (zBlk).toArray 76)).alloc (.cells (zBlk).toArray 76)).cell? ⟨w.heap.size + 1, 6, none⟩ = some (Value.int .i64 0) := (HK.out _ (Ext.rfl' _)).2.cell rfl
  have b7 : ((w.alloc (.cells (zBlk).toArray 76)).alloc (.cells (zBlk).toArray 76)).cell? ⟨w.heap.size + 1, 7, none⟩ = some (Value.slice none 0 0) := (HK.out _ (Ext.rfl' _)).2.cell rfl
  go_wp2_with (first | (refine wpList_load_midw (by rfl) _ _ rfl w.heap.size 2 rfl zQC _ ((HK.out _ (Ext.rfl' _)).1.sub 2 zQC rfl) Try.underlying73 rfl rfl ?_) | (refine wpList_load_midw (by rfl) _ _ rfl (w.heap.size + 1) 2 rfl zQC _ ((HK.out _ (Ext.rfl' _)).2.sub 2 zQC rfl) Try.underlying73 rfl rfl ?_))
  refine (qcSame_zero _).mono ?_
  rintro e w0 ⟨rfl, hx0⟩
  have hX := hx0
  clear a0 a1 a5 a6 a7 b0 b1 b5 b6 b7
  have a0 : w0.cell? ⟨w.heap.size, 0, none⟩ = some (Value.int .i64 0) := (HK.out _ hX).1.cell rfl
  have a1 : w0.cell? ⟨w.heap.size, 1, none⟩ = some (Value.int .u64 0) := (HK.out _ hX).1.cell rfl
  have a5 : w0.cell? ⟨w.heap.size, 5, none⟩ = some (Value.int .i64 0) := (HK.out _ hX).1.cell rfl
  have a6 : w0.cell? ⟨w.heap.size, 6, none⟩ = some (Value.int .i64 0) := (HK.out _ hX).1.cell rfl
  have a7 : w0.cell? ⟨w.heap.size, 7, none⟩ = some (Value.slice none 0 0) := (HK.out _ hX).1.cell rfl
  have b0 : w0.cell? ⟨w.heap.size + 1, 0, none⟩ = some (Value.int .i64 0) := (HK.out _ hX).2.cell rfl
  have b1 : w0.cell? ⟨w.heap.size + 1, 1, none⟩ = some (Value.int .u64 0) := (HK.out _ hX).2.cell rfl
  have b5 : w0.cell? ⟨w.heap.size + 1, 5, none⟩ = some (Value.int .i64 0) := (HK.out _ hX).2.cell rfl
  have b6 : w0.cell? ⟨w.heap.size + 1, 6, none⟩ = some (Value.int .i64 0) := (HK.out _ hX).2.cell rfl
  have b7 : w0.cell? ⟨w.heap.size + 1, 7, none⟩ = some (Value.slice none 0 0) := (HK.out _ hX).2.cell rfl
  go_wp2_with (first | (refine wpList_load_midw (by rfl) _ _ rfl w.heap.size 2 rfl zQC _ ((HK.out _ hX).1.sub 2 zQC rfl) Try.underlying73 rfl rfl ?_) | (refine wpList_load_midw (by rfl) _ _ rfl (w.heap.size + 1) 2 rfl zQC _ ((HK.out _ hX).2.sub 2 zQC rfl) Try.underlying73 rfl rfl ?_))
  refine (rowsRep_nil _).mono ?_
  rintro e w1 ⟨rfl, rfl⟩
  go_wp2_with (first | (refine wpList_load_midw (by rfl) _ _ rfl w.heap.size 2 rfl zQC _ ((HK.out _ hX).1.sub 2 zQC rfl) Try.underlying73 rfl rfl ?_) | (refine wpList_load_midw (by rfl) _ _ rfl (w.heap.size + 1) 2 rfl zQC _ ((HK.out _ hX).2.sub 2 zQC rfl) Try.underlying73 rfl rfl ?_))
  go_ret
  exact ⟨rfl, HE.out.tr hX⟩

set_option maxRecDepth 100000 in
set_option maxHeartbeats 2000000 in
theorem voteSame_zero (w : World) : Calls Try.prog 57 #[.agg (zVote).toArray, .agg (zVote).toArray] w fun e w' => e = .returned (.bool true) ∧ Ext w w' := by
  have HE := Lib.hid (show Ext w ((w.alloc (.cells (zVote).toArray 78)).alloc (.cells (zVote).toArray 78)) from ((Ext.rfl' w).alloc _).alloc _)
  have k0 := (Blk.new w 78 (zVote)).ext ((Ext.rfl' _).alloc (.cells (zVote).toArray 78))
  have k1 := Blk.new (w.alloc (.cells (zVote).toArray 78)) 78 (zVote)
  rw [World.size_alloc] at k1
  have HK := Lib.hid (show ∀ W, Ext ((w.alloc (.cells (zVote).toArray 78)).alloc (.cells (zVote).toArray 78)) W → Blk W w.heap.size 78 (zVote) ∧ Blk W (w.heap.size + 1) 78 (zVote) from fun W hx => ⟨k0.ext hx, k1.ext hx⟩)
  clear k0 k1
  go_enter Try.func57, Try.ntmps57
  have a0 : ((w.alloc (.cells (zVote).toArray 78)).alloc (.cells (zVote).toArray 78)).cell? ⟨w.heap.size, 0, none⟩ = some (Value.int .i64 0) := (HK.out _ (Ext.rfl' _)).1.cell rfl
  have a1 : ((w.alloc (.cells (zVote).toArray 78)).alloc (.cells (zVote).toArray 78)).cell? ⟨w.heap.size, 1, none⟩ = some (Value.int .u64 0) := (HK.out _ (Ext.rfl' _)).1.cell rfl
  have a2 : ((w.alloc (.cells (zVote).toArray 78)).alloc (.cells (zVote).toArray 78)).cell? ⟨w.heap.size, 2, none⟩ = some (Value.int .i64 0) := (HK.out _ (Ext.rfl' _)).1.cell rfl
  have b0 : ((w.alloc (.cells (zVote).toArray 78)).alloc (.cells (zVote).toArray 78)).cell? ⟨w.heap.size + 1, 0, none⟩ = some (Value.int .i64 0) := (HK.out _ (Ext.rfl' _)).2.cell rfl
  have b1 : ((w.alloc (.cells (zVote).toArray 78)).alloc (.cells (zVote).toArray 78)).cell? ⟨w.heap.size + 1, 1, none⟩ = some (Value.int .u64 0) := (HK.out _ (Ext.rfl' _)).2.cell rfl
  have b2 : ((w.alloc (.cells (zVote).toArray 78)).alloc (.cells (zVote).toArray 78)).cell? ⟨w.heap.size + 1, 2, none⟩ = some (Value.int .i64 0) := (HK.out _ (Ext.rfl' _)).2.cell rfl
  go_wp2_with (first | (refine wpList_load_midw (by rfl) _ _ rfl w.heap.size 3 rfl zSig _ ((HK.out _ (Ext.rfl' _)).1.sub 3 zSig rfl) Try.underlying60 rfl rfl ?_) | (refine wpList_load_midw (by rfl) _ _ rfl (w.heap.size + 1) 3 rfl zSig _ ((HK.out _ (Ext.rfl' _)).2.sub 3 zSig rfl) Try.underlying60 rfl rfl ?_))
  refine (keySame_zero _).mono ?_
  rintro e w0 ⟨rfl, hx0⟩
  have hX := hx0
  clear a0 a1 a2 b0 b1 b2
  have a0 : w0.cell? ⟨w.heap.size, 0, none⟩ = some (Value.int .i64 0) := (HK.out _ hX).1.cell rfl
  have a1 : w0.cell? ⟨w.heap.size, 1, none⟩ = some (Value.int .u64 0) := (HK.out _ hX).1.cell rfl
  have a2 : w0.cell? ⟨w.heap.size, 2, none⟩ = some (Value.int .i64 0) := (HK.out _ hX).1.cell rfl
  have b0 : w0.cell? ⟨w.heap.size + 1, 0, none⟩ = some (Value.int .i64 0) := (HK.out _ hX).2.cell rfl
  have b1 : w0.cell? ⟨w.heap.size + 1, 1, none⟩ = some (Value.int .u64 0) := (HK.out _ hX).2.cell rfl
  have b2 : w0.cell? ⟨w.heap.size + 1, 2, none⟩ = some (Value.int .i64 0) := (HK.out _ hX).2.cell rfl
  go_wp2_with (first | (refine wpList_load_midw (by rfl) _ _ rfl w.heap.size 3 rfl zSig _ ((HK.out _ hX).1.sub 3 zSig rfl) Try.underlying60 rfl rfl ?_) | (refine wpList_load_midw (by rfl) _ _ rfl (w.heap.size + 1) 3 rfl zSig _ ((HK.out _ hX).2.sub 3 zSig rfl) Try.underlying60 rfl rfl ?_))
  go_ret
  exact ⟨rfl, HE.out.tr hX⟩

set_option maxRecDepth 100000 in
set_option maxHeartbeats 2000000 in
theorem viewSame_zero (w : World) : Calls Try.prog 58 #[.agg (zView).toArray, .agg (zView).toArray] w fun e w' => e = .returned (.bool true) ∧ Ext w w' := by
  have HE := Lib.hid (show Ext w ((w.alloc (.cells (zView).toArray 80)).alloc (.cells (zView).toArray 80)) from ((Ext.rfl' w).alloc _).alloc _)
  have k0 := (Blk.new w 80 (zView)).ext ((Ext.rfl' _).alloc (.cells (zView).toArray 80))
  have k1 := Blk.new (w.alloc (.cells (zView).toArray 80)) 80 (zView)
  rw [World.size_alloc] at k1
  have HK := Lib.hid (show ∀ W, Ext ((w.alloc (.cells (zView).toArray 80)).alloc (.cells (zView).toArray 80)) W → Blk W w.heap.size 80 (zView) ∧ Blk W (w.heap.size + 1) 80 (zView) from fun W hx => ⟨k0.ext hx, k1.ext hx⟩)
  clear k0 k1
  go_enter Try.func58, Try.ntmps58
  have a0 : ((w.alloc (.cells (zView).toArray 80)).alloc (.cells (zView).toArray 80)).cell? ⟨w.heap.size, 0, none⟩ = some (Value.int .i64 0) := (HK.out _ (Ext.rfl' _)).1.cell rfl
  have a1 : ((w.alloc (.cells (zView).toArray 80)).alloc (.cells (zView).toArray 80)).cell? ⟨w.heap.size, 1, none⟩ = some (Value.int .i64 0) := (HK.out _ (Ext.rfl' _)).1.cell rfl
  have b0 : ((w.alloc (.cells (zView).toArray 80)).alloc (.cells (zView).toArray 80)).cell? ⟨w.heap.size + 1, 0, none⟩ = some (Value.int .i64 0) := (HK.out _ (Ext.rfl' _)).2.cell rfl
  have b1 : ((w.alloc (.cells (zView).toArray 80)).alloc (.cells (zView).toArray 80)).cell? ⟨w.heap.size + 1, 1, none⟩ = some (Value.int .i64 0) := (HK.out _ (Ext.rfl' _)).2.cell rfl
  go_wp2_with (first | (refine wpList_load_midw (by rfl) _ _ rfl w.heap.size 2 rfl zQC _ ((HK.out _ (Ext.rfl' _)).1.sub 2 zQC rfl) Try.underlying73 rfl rfl ?_) | (refine wpList_load_midw (by rfl) _ _ rfl (w.heap.size + 1) 2 rfl zQC _ ((HK.out _ (Ext.rfl' _)).2.sub 2 zQC rfl) Try.underlying73 rfl rfl ?_) | (refine wpList_load_midw (by rfl) _ _ rfl w.heap.size 5 rfl zSig _ ((HK.out _ (Ext.rfl' _)).1.sub 5 zSig rfl) Try.underlying60 rfl rfl ?_) | (refine wpList_load_midw (by rfl) _ _ rfl (w.heap.size + 1) 5 rfl zSig _ ((HK.out _ (Ext.rfl' _)).2.sub 5 zSig rfl) Try.underlying60 rfl rfl ?_))
  refine (qcSame_zero _).mono ?_
  rintro e w0 ⟨rfl, hx0⟩
  have hX := hx0
  clear a0 a1 b0 b1
  have a0 : w0.cell? ⟨w.heap.size, 0, none⟩ = some (Value.int .i64 0) := (HK.out _ hX).1.cell rfl
  have a1 : w0.cell? ⟨w.heap.size, 1, none⟩ = some (Value.int .i64 0) := (HK.out _ hX).1.cell rfl
  have b0 : w0.cell? ⟨w.heap.size + 1, 0, none⟩ = some (Value.int .i64 0) := (HK.out _ hX).2.cell rfl
  have b1 : w0.cell? ⟨w.heap.size + 1, 1, none⟩ = some (Value.int .i64 0) := (HK.out _ hX).2.cell rfl
  go_wp2_with (first | (refine wpList_load_midw (by rfl) _ _ rfl w.heap.size 2 rfl zQC _ ((HK.out _ hX).1.sub 2 zQC rfl) Try.underlying73 rfl rfl ?_) | (refine wpList_load_midw (by rfl) _ _ rfl (w.heap.size + 1) 2 rfl zQC _ ((HK.out _ hX).2.sub 2 zQC rfl) Try.underlying73 rfl rfl ?_) | (refine wpList_load_midw (by rfl) _ _ rfl w.heap.size 5 rfl zSig _ ((HK.out _ hX).1.sub 5 zSig rfl) Try.underlying60 rfl rfl ?_) | (refine wpList_load_midw (by rfl) _ _ rfl (w.heap.size + 1) 5 rfl zSig _ ((HK.out _ hX).2.sub 5 zSig rfl) Try.underlying60 rfl rfl ?_))
  refine (keySame_zero _).mono ?_
  rintro e w1 ⟨rfl, hx1⟩
  replace hX := Ext.tr hX hx1
  clear a0 a1 b0 b1
  have a0 : w1.cell? ⟨w.heap.size, 0, none⟩ = some (Value.int .i64 0) := (HK.out _ hX).1.cell rfl
  have a1 : w1.cell? ⟨w.heap.size, 1, none⟩ = some (Value.int .i64 0) := (HK.out _ hX).1.cell rfl
  have b0 : w1.cell? ⟨w.heap.size + 1, 0, none⟩ = some (Value.int .i64 0) := (HK.out _ hX).2.cell rfl
  have b1 : w1.cell? ⟨w.heap.size + 1, 1, none⟩ = some (Value.int .i64 0) := (HK.out _ hX).2.cell rfl
  go_wp2_with (first | (refine wpList_load_midw (by rfl) _ _ rfl w.heap.size 2 rfl zQC _ ((HK.out _ hX).1.sub 2 zQC rfl) Try.underlying73 rfl rfl ?_) | (refine wpList_load_midw (by rfl) _ _ rfl (w.heap.size + 1) 2 rfl zQC _ ((HK.out _ hX).2.sub 2 zQC rfl) Try.underlying73 rfl rfl ?_) | (refine wpList_load_midw (by rfl) _ _ rfl w.heap.size 5 rfl zSig _ ((HK.out _ hX).1.sub 5 zSig rfl) Try.underlying60 rfl rfl ?_) | (refine wpList_load_midw (by rfl) _ _ rfl (w.heap.size + 1) 5 rfl zSig _ ((HK.out _ hX).2.sub 5 zSig rfl) Try.underlying60 rfl rfl ?_))
  go_ret
  exact ⟨rfl, HE.out.tr hX⟩

end Go.Proofs.Ytifanmggfoicfaa
