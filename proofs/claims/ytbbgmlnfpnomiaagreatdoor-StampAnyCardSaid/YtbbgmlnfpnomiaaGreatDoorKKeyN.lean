/- Texts put together: KKey3, KKey4, KKey5. -/
import Derived.Test.YtbbgmlnfpnomiaaGreatDoorKKeyM
import Derived.Test.YtbbgmlnfpnomiaaGreatDoorKAll1
section
/- The walk of key.Sign. -/
set_option linter.unusedVariables false
set_option linter.unusedSimpArgs false
namespace Go.Proofs.YtbbgmlnfpnomiaaGreatDoor
open Go.RowKit Go.Sort
/-- A signature's cells. -/
def sgV (who leaf : Int) (one : List Nat) (A : Option Addr) (n c : Nat) : List Value := .int .i64 who :: .int .i64 leaf :: (cDg one ++ [.slice A n c])
def sgZ : List Value := [.int .i64 0, .int .i64 0, .int .u64 0, .int .u64 0, .int .u64 0, .int .u64 0, .int .u64 0, .int .u64 0, .int .u64 0, .int .u64 0, .int .u64 0, .int .u64 0, .int .u64 0, .int .u64 0, .int .u64 0, .int .u64 0, .int .u64 0, .int .u64 0, .int .u64 0, .int .u64 0, .slice none 0 0]
theorem sgV_len (who leaf : Int) (one : List Nat) (h : one.length = 18) (A : Option Addr) (n c : Nat) : (sgV who leaf one A n c).length = 21 := by simp [sgV, h]
theorem sgV_one (who leaf : Int) (one : List Nat) (A : Option Addr) (n c : Nat) : ∀ x ∈ sgV who leaf one A n c, x.oneCell' = true := fun x hx => by
  rcases List.mem_cons.1 hx with rfl | hx
  · rfl
  rcases List.mem_cons.1 hx with rfl | hx
  · rfl
  rcases List.mem_append.1 hx with hx | hx
  · exact cDg_one one x hx
  · rw [List.mem_singleton] at hx; subst hx; rfl
theorem sgZ_one : ∀ x ∈ sgZ, x.oneCell' = true := by decide
theorem sgZ_len : sgZ.length = 21 := rfl
set_option maxRecDepth 100000 in
theorem run_buildZ (f : Operand → Value) (o : Oper) (ho : o.op = .build 39 #[]) (w : World) : (execOp f o).run Tryz.prog w = .ok (.value (.agg sgZ.toArray)) w := by
  unfold execOp
  simp only [ho]
  go_simp
  rfl
theorem list18 : ∀ O : List Value, O.length = 18 → ∃ o0 o1 o2 o3 o4 o5 o6 o7 o8 o9 o10 o11 o12 o13 o14 o15 o16 o17, O = [o0, o1, o2, o3, o4, o5, o6, o7, o8, o9, o10, o11, o12, o13, o14, o15, o16, o17]
  | [o0, o1, o2, o3, o4, o5, o6, o7, o8, o9, o10, o11, o12, o13, o14, o15, o16, o17], _ => ⟨o0, o1, o2, o3, o4, o5, o6, o7, o8, o9, o10, o11, o12, o13, o14, o15, o16, o17, rfl⟩
section
variable {kb : Nat} {who : Int} {seed h : Nat} {A : Option Addr} {c : Nat} {next bound : Int}
set_option maxRecDepth 100000 in
set_option maxHeartbeats 1000000 in
theorem sign_spent (w : World) (hh : h ≤ 8) (d : Nat) (hn : next = ((2 ^ h : Nat) : Int)) (k : KA w kb who seed h A c next bound) :
    Calls Tryz.prog 22 #[kP kb, cU64 d] w fun e w' => e = .returned (.tuple #[.agg sgZ.toArray, .int .i64 14]) ∧ Ext w w' := by
  have hp := pow_le8 hh
  have hnn : 0 ≤ next ∧ next ≤ 100000 := by rw [hn]; exact ⟨Int.natCast_nonneg _, by omega⟩
  have HL := Lib.hid (fun W (hx : Ext w W) => kleft_calls W hh hnn (k.ext hx))
  have HLE := Lib.hid (show ((2 ^ h : Nat) : Int) - next = 0 by omega)
  have HB := Lib.hid (Blk.new w 39 [.int .i64 0, .int .i64 0, .int .u64 0, .int .u64 0, .int .u64 0, .int .u64 0, .int .u64 0, .int .u64 0, .int .u64 0, .int .u64 0, .int .u64 0, .int .u64 0, .int .u64 0, .int .u64 0, .int .u64 0, .int .u64 0, .int .u64 0, .int .u64 0, .int .u64 0, .int .u64 0, .slice none 0 0])
  have HX := Lib.hid ((Ext.rfl' w).alloc (.cells #[.int .i64 0, .int .i64 0, .int .u64 0, .int .u64 0, .int .u64 0, .int .u64 0, .int .u64 0, .int .u64 0, .int .u64 0, .int .u64 0, .int .u64 0, .int .u64 0, .int .u64 0, .int .u64 0, .int .u64 0, .int .u64 0, .int .u64 0, .int .u64 0, .int .u64 0, .int .u64 0, .slice none 0 0] 39))
  rw [HLE.out] at HL
  clear k hn HLE hp hnn
  go_enter Tryz.func22, Tryz.ntmps22
  go_upto_region 1 with (fail)
  change Hid (Blk (w.alloc (.cells #[.int .i64 0, .int .i64 0, .int .u64 0, .int .u64 0, .int .u64 0, .int .u64 0, .int .u64 0, .int .u64 0, .int .u64 0, .int .u64 0, .int .u64 0, .int .u64 0, .int .u64 0, .int .u64 0, .int .u64 0, .int .u64 0, .int .u64 0, .int .u64 0, .int .u64 0, .int .u64 0, .slice none 0 0] 39)) w.heap.size 39 [.int .i64 0, .int .i64 0, .int .u64 0, .int .u64 0, .int .u64 0, .int .u64 0, .int .u64 0, .int .u64 0, .int .u64 0, .int .u64 0, .int .u64 0, .int .u64 0, .int .u64 0, .int .u64 0, .int .u64 0, .int .u64 0, .int .u64 0, .int .u64 0, .int .u64 0, .int .u64 0, .slice none 0 0]) at HB
  generalize w.alloc (.cells #[.int .i64 0, .int .i64 0, .int .u64 0, .int .u64 0, .int .u64 0, .int .u64 0, .int .u64 0, .int .u64 0, .int .u64 0, .int .u64 0, .int .u64 0, .int .u64 0, .int .u64 0, .int .u64 0, .int .u64 0, .int .u64 0, .int .u64 0, .int .u64 0, .int .u64 0, .int .u64 0, .slice none 0 0] 39) = W0 at *
  go_wp2_with fail
  refine (HL.out W0 HX.out).mono ?_
  rintro e w1 ⟨rfl, hx⟩
  have hb := HB.out.ext hx
  have hth : w1.there w.heap.size 0 21 := hb.there
  have hput : Blk (w1.setCells w.heap.size 0 sgZ) w.heap.size 39 sgZ ∧ Ext w (w1.setCells w.heap.size 0 sgZ) := ⟨hb.put rfl, Ext.setCells (Nat.le_refl _) _ _ _ (HX.out.tr hx)⟩
  clear hx hb HB HX HL
  go_upto_region 2 with (fail)
  refine wp_region_lit ?_
  refine wpList_val rfl (.agg sgZ.toArray) (run_buildZ _ _ rfl _) ?_
  refine wpList_store_mid rfl _ _ _ rfl w.heap.size 0 sgZ.toArray rfl rfl hth rfl (all_oneCell_toArray sgZ_one) ?_
  rw [List.toList_toArray]
  generalize w1.setCells w.heap.size 0 sgZ = W9 at *
  go_wp2
  exact ret_cell_tmp rfl hput.1 Tryz.underlying39 rfl rfl rfl rfl ⟨rfl, hput.2⟩
set_option maxRecDepth 100000 in
set_option maxHeartbeats 1000000 in
theorem sign_state (w : World) (hh : h ≤ 8) (d : Nat) (hn : 0 ≤ next ∧ next < ((2 ^ h : Nat) : Int)) (hb : bound ≤ next) (k : KA w kb who seed h A c next bound) :
    Calls Tryz.prog 22 #[kP kb, cU64 d] w fun e w' => e = .returned (.tuple #[.agg sgZ.toArray, .int .i64 16]) ∧ Ext w w' := by
  have hp := pow_le8 hh
  have HL := Lib.hid (fun W (hx : Ext w W) => kleft_calls W hh (by omega) (k.ext hx))
  have HB := Lib.hid (Blk.new w 39 [.int .i64 0, .int .i64 0, .int .u64 0, .int .u64 0, .int .u64 0, .int .u64 0, .int .u64 0, .int .u64 0, .int .u64 0, .int .u64 0, .int .u64 0, .int .u64 0, .int .u64 0, .int .u64 0, .int .u64 0, .int .u64 0, .int .u64 0, .int .u64 0, .int .u64 0, .int .u64 0, .slice none 0 0])
  have HX := Lib.hid ((Ext.rfl' w).alloc (.cells #[.int .i64 0, .int .i64 0, .int .u64 0, .int .u64 0, .int .u64 0, .int .u64 0, .int .u64 0, .int .u64 0, .int .u64 0, .int .u64 0, .int .u64 0, .int .u64 0, .int .u64 0, .int .u64 0, .int .u64 0, .int .u64 0, .int .u64 0, .int .u64 0, .int .u64 0, .int .u64 0, .slice none 0 0] 39))
  have HK := Lib.hid k
  have hz : (((2 ^ h : Nat) : Int) - next == 0) = false := by rw [beq_eq_false_iff_ne]; omega
  generalize ((2 ^ h : Nat) : Int) - next = LL at *
  clear k hp hn
  go_enter Tryz.func22, Tryz.ntmps22
  go_upto_region 1 with (fail)
  change Hid (Blk (w.alloc (.cells #[.int .i64 0, .int .i64 0, .int .u64 0, .int .u64 0, .int .u64 0, .int .u64 0, .int .u64 0, .int .u64 0, .int .u64 0, .int .u64 0, .int .u64 0, .int .u64 0, .int .u64 0, .int .u64 0, .int .u64 0, .int .u64 0, .int .u64 0, .int .u64 0, .int .u64 0, .int .u64 0, .slice none 0 0] 39)) w.heap.size 39 [.int .i64 0, .int .i64 0, .int .u64 0, .int .u64 0, .int .u64 0, .int .u64 0, .int .u64 0, .int .u64 0, .int .u64 0, .int .u64 0, .int .u64 0, .int .u64 0, .int .u64 0, .int .u64 0, .int .u64 0, .int .u64 0, .int .u64 0, .int .u64 0, .int .u64 0, .int .u64 0, .slice none 0 0]) at HB
  generalize w.alloc (.cells #[.int .i64 0, .int .i64 0, .int .u64 0, .int .u64 0, .int .u64 0, .int .u64 0, .int .u64 0, .int .u64 0, .int .u64 0, .int .u64 0, .int .u64 0, .int .u64 0, .int .u64 0, .int .u64 0, .int .u64 0, .int .u64 0, .int .u64 0, .int .u64 0, .int .u64 0, .int .u64 0, .slice none 0 0] 39) = W0 at *
  go_wp2_with fail
  refine (HL.out W0 HX.out).mono ?_
  rintro e w1 ⟨rfl, hx⟩
  have c3 := (HK.out.ext (HX.out.tr hx)).c3
  have c4 := (HK.out.ext (HX.out.tr hx)).c4
  go_wp2
  go_region
  have hb1 := (HB.out.ext hx).drew
  have hth : w1.drew.there w.heap.size 0 21 := hb1.there
  have hput : Blk (w1.drew.setCells w.heap.size 0 sgZ) w.heap.size 39 sgZ ∧ Ext w (w1.drew.setCells w.heap.size 0 sgZ) := ⟨hb1.put rfl, Ext.setCells (Nat.le_refl _) _ _ _ (HX.out.tr hx).drew⟩
  clear hx hb1 HB HX HL
  go_upto_region 4 with (fail)
  refine wp_region_lit ?_
  refine wpList_val rfl (.agg sgZ.toArray) (run_buildZ _ _ rfl _) ?_
  refine wpList_store_mid rfl _ _ _ rfl w.heap.size 0 sgZ.toArray rfl rfl hth rfl (all_oneCell_toArray sgZ_one) ?_
  rw [List.toList_toArray]
  generalize w1.drew.setCells w.heap.size 0 sgZ = W9 at *
  go_wp2
  exact ret_cell_tmp rfl hput.1 Tryz.underlying39 rfl rfl rfl rfl ⟨rfl, hput.2⟩
theorem KG.setNew {kb b : Nat} {w W : World} (hb : w.heap.size ≤ b) : ∀ (vs : List Value) (o : Nat) (W : World), KG kb w W → KG kb w (W.setCells b o vs)
  | [], _, _, h => h
  | v :: vs, o, W, h => KG.setNew (w := w) (W := W) hb vs (o + 1) _ ⟨h.os, h.tape, h.output, by simpa [World.setCell] using h.size, fun j hj hne => by
    rw [Below.heap_setCell _ _ _ _ (by show j ≠ b; omega)]
    exact h.block j hj hne⟩
theorem KA.setCells {W : World} {b : Nat} (h1 : kb ≠ b) (h2 : ∀ ad, A = some ad → ad.block ≠ b) : ∀ (vs : List Value) (o : Nat) (W : World), KA W kb who seed h A c next bound → KA (W.setCells b o vs) kb who seed h A c next bound
  | [], _, _, k => k
  | v :: vs, o, W, k => KA.setCells (W := W) h1 h2 vs (o + 1) _ (k.other h1 h2 v)
theorem Rd.setCellsO {B : Option Addr} {xs : List Value} {b : Nat} (h2 : ∀ ad, B = some ad → ad.block ≠ b) : ∀ (vs : List Value) (o : Nat) (W : World), Rd W B xs → Rd (W.setCells b o vs) B xs
  | [], _, _, k => k
  | v :: vs, o, W, k => Rd.setCellsO h2 vs (o + 1) _ (k.setOther h2 v)
set_option maxRecDepth 100000 in
theorem run_build4 (f : Operand → Value) (x0 x1 x2 x3 : Operand) (o : Oper) (ho : o.op = .build 39 #[(0, x0), (1, x1), (2, x2), (3, x3)]) (a b q : Value) (o0 o1 o2 o3 o4 o5 o6 o7 o8 o9 o10 o11 o12 o13 o14 o15 o16 o17 : Value) (h0 : f x0 = a) (h1 : f x1 = b) (h2 : f x2 = .agg #[o0, o1, o2, o3, o4, o5, o6, o7, o8, o9, o10, o11, o12, o13, o14, o15, o16, o17]) (h3 : f x3 = q) (w : World)
    (ha : ∃ n, a = .int .i64 n) (hb : ∃ n, b = .int .i64 n) (hq : ∃ B n c, q = .slice B n c) :
    (execOp f o).run Tryz.prog w = .ok (.value (.agg #[a, b, o0, o1, o2, o3, o4, o5, o6, o7, o8, o9, o10, o11, o12, o13, o14, o15, o16, o17, q])) w := by
  obtain ⟨_, rfl⟩ := ha
  obtain ⟨_, rfl⟩ := hb
  obtain ⟨_, _, _, rfl⟩ := hq
  unfold execOp
  simp only [ho]
  go_simp
  try simp only [h0, h1, h2, h3]
  try rfl
set_option maxRecDepth 100000 in
set_option maxHeartbeats 2000000 in
theorem sign_ok (w : World) (hh : h ≤ 8) (d : Nat) (hd : d < 18446744073709551616) (i : Nat) (hseed : seed < 18446744073709551616) (hn : i < 2 ^ h) (hb : (i : Int) < bound) (k : KA w kb who seed h A c (i : Int) bound) :
    Calls Tryz.prog 22 #[kP kb, cU64 d] w fun e w' => (∃ A' c', e = .returned (.tuple #[.agg (sgV who (i : Int) (K.sign (K.secs seed i) d) A' h c').toArray, .int .i64 0]) ∧ Rd w' A' (cDg (K.path h (K.pubs seed h) i)) ∧ (∀ ad, A' = some ad → w.heap.size ≤ ad.block)) ∧ KA w' kb who seed h A c ((i : Int) + 1) bound ∧ KG kb w w' := by
  have hp := pow_le8 hh
  have HL := Lib.hid (fun W (hx : Ext w W) => kleft_calls W hh (by omega) (k.ext hx))
  have HB := Lib.hid (Blk.new w 39 [.int .i64 0, .int .i64 0, .int .u64 0, .int .u64 0, .int .u64 0, .int .u64 0, .int .u64 0, .int .u64 0, .int .u64 0, .int .u64 0, .int .u64 0, .int .u64 0, .int .u64 0, .int .u64 0, .int .u64 0, .int .u64 0, .int .u64 0, .int .u64 0, .int .u64 0, .int .u64 0, .slice none 0 0])
  have HX := Lib.hid ((Ext.rfl' w).alloc (.cells #[.int .i64 0, .int .i64 0, .int .u64 0, .int .u64 0, .int .u64 0, .int .u64 0, .int .u64 0, .int .u64 0, .int .u64 0, .int .u64 0, .int .u64 0, .int .u64 0, .int .u64 0, .int .u64 0, .int .u64 0, .int .u64 0, .int .u64 0, .int .u64 0, .int .u64 0, .int .u64 0, .slice none 0 0] 39))
  have HKA := Lib.hid k
  have hAlt : ∀ ad, A = some ad → ad.block < w.heap.size := fun ad e => by
    rcases k.rd with h0 | ⟨ad', e', hb', _⟩
    · have := congrArg List.length h0
      simp [K.pubs_len] at this
    · rw [e] at e'; cases e'; exact hb'
  have HK := Lib.hid (show ∀ W, Ext w W → W.cell? ⟨kb, 0, none⟩ = some (.int .i64 who) ∧ W.cell? ⟨kb, 1, none⟩ = some (cU64 seed) ∧ W.cell? ⟨kb, 2, none⟩ = some (.slice A (2 ^ h) c) ∧ W.cell? ⟨kb, 3, none⟩ = some (.int .i64 (i : Int)) ∧ W.cell? ⟨kb, 4, none⟩ = some (.int .i64 bound) from fun W hx => ⟨(k.ext hx).c0, (k.ext hx).c1, (k.ext hx).c2, (k.ext hx).c3, (k.ext hx).c4⟩)
  have hz : (((2 ^ h : Nat) : Int) - (i : Int) == 0) = false := by rw [beq_eq_false_iff_ne]; omega
  have HP := Lib.hid (fun W (hx : Ext w W) => path_callsM h hh (K.pubs seed h) (K.pubs_lt seed h) (K.pubs_len seed h) i hn A c W (k.rd.ext hx))
  rw [K.pubs_len] at HP
  have HSC := Lib.hid (secrets_calls seed i hseed (by omega))
  have HSG := Lib.hid (sign_calls (K.secs seed i) (K.secs_lt seed i) (K.secs_len seed i) d hd)
  have hl18 : (cDg (K.sign (K.secs seed i) d)).length = 18 := by rw [List.length_map, K.sign_len _ _ (K.secs_len seed i)]
  have hkb := k.blk.lt
  have hi8 : i < 256 := by omega
  generalize ((2 ^ h : Nat) : Int) - (i : Int) = LL at *
  obtain ⟨SG, hSG⟩ : ∃ SG : Option Addr → Nat → List Value, ∀ A' c', SG A' c' = sgV who (i : Int) (K.sign (K.secs seed i) d) A' h c' := ⟨_, fun _ _ => rfl⟩
  have HLN := Lib.hid (show ∀ A' c', (SG A' c').length = 21 from fun A' c' => by rw [hSG]; exact sgV_len _ _ _ (K.sign_len _ _ (K.secs_len seed i)) _ _ _)
  have HON := Lib.hid (show ∀ A' c', ∀ x ∈ SG A' c', x.oneCell' = true from fun A' c' => by rw [hSG]; exact sgV_one _ _ _ _ _ _)
  obtain ⟨o0, o1, o2, o3, o4, o5, o6, o7, o8, o9, o10, o11, o12, o13, o14, o15, o16, o17, hO⟩ := list18 _ hl18
  rw [hO] at HSG
  have HV := Lib.hid (show ∀ A' c', SG A' c' = [.int .i64 who, .int .i64 (i : Int), o0, o1, o2, o3, o4, o5, o6, o7, o8, o9, o10, o11, o12, o13, o14, o15, o16, o17, .slice A' h c'] from fun A' c' => by rw [hSG, sgV, hO]; rfl)
  generalize K.path h (K.pubs seed h) i = PT at *
  generalize cDg (K.secs seed i) = OS at *
  simp only [← hSG]
  clear hO hl18 k hSG hp
  generalize 2 ^ h = N at *
  have hw1 : IntKind.i64.wrap ((i : Int) + 1) = (i : Int) + 1 := IntWalk.i64_in _ (by omega)
  have hbn : ¬ (bound ≤ (i : Int)) := by omega
  go_enter Tryz.func22, Tryz.ntmps22
  go_upto_region 1 with (fail)
  change Hid (Blk (w.alloc (.cells #[.int .i64 0, .int .i64 0, .int .u64 0, .int .u64 0, .int .u64 0, .int .u64 0, .int .u64 0, .int .u64 0, .int .u64 0, .int .u64 0, .int .u64 0, .int .u64 0, .int .u64 0, .int .u64 0, .int .u64 0, .int .u64 0, .int .u64 0, .int .u64 0, .int .u64 0, .int .u64 0, .slice none 0 0] 39)) w.heap.size 39 [.int .i64 0, .int .i64 0, .int .u64 0, .int .u64 0, .int .u64 0, .int .u64 0, .int .u64 0, .int .u64 0, .int .u64 0, .int .u64 0, .int .u64 0, .int .u64 0, .int .u64 0, .int .u64 0, .int .u64 0, .int .u64 0, .int .u64 0, .int .u64 0, .int .u64 0, .int .u64 0, .slice none 0 0]) at HB
  generalize w.alloc (.cells #[.int .i64 0, .int .i64 0, .int .u64 0, .int .u64 0, .int .u64 0, .int .u64 0, .int .u64 0, .int .u64 0, .int .u64 0, .int .u64 0, .int .u64 0, .int .u64 0, .int .u64 0, .int .u64 0, .int .u64 0, .int .u64 0, .int .u64 0, .int .u64 0, .int .u64 0, .int .u64 0, .slice none 0 0] 39) = W0 at *
  generalize hZ : ([.int .i64 0, .int .i64 0, .int .u64 0, .int .u64 0, .int .u64 0, .int .u64 0, .int .u64 0, .int .u64 0, .int .u64 0, .int .u64 0, .int .u64 0, .int .u64 0, .int .u64 0, .int .u64 0, .int .u64 0, .int .u64 0, .int .u64 0, .int .u64 0, .int .u64 0, .int .u64 0, .slice none 0 0] : List Value) = ZL at HB
  have HZ := Lib.hid (show ZL.length = 21 by rw [← hZ]; rfl)
  clear hZ
  go_wp2_with fail
  refine (HL.out W0 HX.out).mono ?_
  rintro e w1 ⟨rfl, hx⟩
  have c3 := (HK.out w1 (HX.out.tr hx)).2.2.2.1
  have c4 := (HK.out w1 (HX.out.tr hx)).2.2.2.2
  replace HB := Lib.hid (show Blk w1.drew w.heap.size 39 ZL from (HB.out.ext hx).drew)
  replace HX := Lib.hid (show Ext w w1.drew from (HX.out.tr hx).drew)
  clear hx HL
  go_wp2
  go_region
  clear c3 c4 hz
  generalize w1.drew = W1 at *
  go_upto_region 5 with (fail)
  replace HB := Lib.hid (show Blk W1.drew w.heap.size 39 ZL from HB.out.drew)
  replace HX := Lib.hid (show Ext w W1.drew from HX.out.drew)
  have hwW1 : w.heap.size < W1.drew.heap.size := HB.out.lt
  refine wp_region_held_drew (S := fun w' => w'.cell? ⟨kb, 0, none⟩ = some (.int .i64 who) ∧ w'.cell? ⟨kb, 1, none⟩ = some (cU64 seed) ∧ w'.cell? ⟨kb, 2, none⟩ = some (.slice A N c) ∧ w'.cell? ⟨kb, 3, none⟩ = some (.int .i64 (i : Int))) (by kernel_rfl) (by (try dsimp only); exact ⟨(HK.out _ HX.out).1, (HK.out _ HX.out).2.1, (HK.out _ HX.out).2.2.1, (HK.out _ HX.out).2.2.2.1⟩) (fun hHeld => ?_)
  refine wpAnyH_take (i := 0) (v := ?_) (by first | (simp only [List.getElem?_toArray, List.getElem?_cons_zero, List.getElem?_cons_succ]; done) | (simp only [List.getElem?_toArray, List.getElem?_cons_zero, List.getElem?_cons_succ]; rfl)) (by kernel_rfl) (by kernel_rfl) (by kernel_rfl) (by exact fun _ _ _ h => h) (Or.inl ⟨by rfl, ?hy0⟩) (by assumption) ?_
  case hy0 => (intro w hSw; (try dsimp only at hSw); go_simp; try with_reducible rfl)
  try simp only [Act.put, List.setIfInBounds_toArray, List.set_cons_zero, List.set_cons_succ]
  refine wpAnyH_take (i := 1) (v := ?_) (by first | (simp only [List.getElem?_toArray, List.getElem?_cons_zero, List.getElem?_cons_succ]; done) | (simp only [List.getElem?_toArray, List.getElem?_cons_zero, List.getElem?_cons_succ]; rfl)) (by kernel_rfl) (by kernel_rfl) (by kernel_rfl) (by exact fun _ _ _ h => h) (Or.inl ⟨by rfl, ?hy1⟩) (by assumption) ?_
  case hy1 => (intro w hSw; (try dsimp only at hSw); go_simp; try with_reducible rfl)
  try simp only [Act.put, List.setIfInBounds_toArray, List.set_cons_zero, List.set_cons_succ]
  refine wpAnyH_take (i := 2) (v := ?_) (by first | (simp only [List.getElem?_toArray, List.getElem?_cons_zero, List.getElem?_cons_succ]; done) | (simp only [List.getElem?_toArray, List.getElem?_cons_zero, List.getElem?_cons_succ]; rfl)) (by kernel_rfl) (by kernel_rfl) (by kernel_rfl) (by exact fun _ _ _ h => h) (Or.inl ⟨by rfl, ?hy2⟩) (by assumption) ?_
  case hy2 => (intro w hSw; (try dsimp only at hSw); go_simp; try with_reducible rfl)
  try simp only [Act.put, List.setIfInBounds_toArray, List.set_cons_zero, List.set_cons_succ]
  refine wpAnyH_take (i := 3) (v := ?_) (by first | (simp only [List.getElem?_toArray, List.getElem?_cons_zero, List.getElem?_cons_succ]; done) | (simp only [List.getElem?_toArray, List.getElem?_cons_zero, List.getElem?_cons_succ]; rfl)) (by kernel_rfl) (by kernel_rfl) (by kernel_rfl) (by exact fun _ _ _ h => h) (Or.inl ⟨by rfl, ?hy3⟩) (by assumption) ?_
  case hy3 => (intro w hSw; (try dsimp only at hSw); go_simp; try with_reducible rfl)
  try simp only [Act.put, List.setIfInBounds_toArray, List.set_cons_zero, List.set_cons_succ]
  refine wpAnyH_take (i := 4) (v := ?_) (by first | (simp only [List.getElem?_toArray, List.getElem?_cons_zero, List.getElem?_cons_succ]; done) | (simp only [List.getElem?_toArray, List.getElem?_cons_zero, List.getElem?_cons_succ]; rfl)) (by kernel_rfl) (by kernel_rfl) (by kernel_rfl) (by exact fun _ _ _ h => h) (Or.inl ⟨by rfl, ?hy4⟩) (by assumption) ?_
  case hy4 => (intro w hSw; (try dsimp only at hSw); go_simp; try with_reducible rfl)
  try simp only [Act.put, List.setIfInBounds_toArray, List.set_cons_zero, List.set_cons_succ]
  refine wpAnyH_take (i := 5) (v := ?_) (by first | (simp only [List.getElem?_toArray, List.getElem?_cons_zero, List.getElem?_cons_succ]; done) | (simp only [List.getElem?_toArray, List.getElem?_cons_zero, List.getElem?_cons_succ]; rfl)) (by kernel_rfl) (by kernel_rfl) (by kernel_rfl) (by exact fun _ _ _ h => h) (Or.inl ⟨by rfl, ?hy5⟩) (by assumption) ?_
  case hy5 => (intro w hSw; (try dsimp only at hSw); go_simp; try with_reducible rfl)
  try simp only [Act.put, List.setIfInBounds_toArray, List.set_cons_zero, List.set_cons_succ]
  refine wpAnyH_take (i := 6) (v := ?_) (by first | (simp only [List.getElem?_toArray, List.getElem?_cons_zero, List.getElem?_cons_succ]; done) | (simp only [List.getElem?_toArray, List.getElem?_cons_zero, List.getElem?_cons_succ]; rfl)) (by kernel_rfl) (by kernel_rfl) (by kernel_rfl) (by exact fun _ _ _ h => h) (Or.inl ⟨by rfl, ?hy6⟩) (by assumption) ?_
  case hy6 => (intro w hSw; (try dsimp only at hSw); go_simp; try with_reducible rfl)
  try simp only [Act.put, List.setIfInBounds_toArray, List.set_cons_zero, List.set_cons_succ]
  refine wpAnyH_take (i := 7) (v := ?_) (by first | (simp only [List.getElem?_toArray, List.getElem?_cons_zero, List.getElem?_cons_succ]; done) | (simp only [List.getElem?_toArray, List.getElem?_cons_zero, List.getElem?_cons_succ]; rfl)) (by kernel_rfl) (by kernel_rfl) (by kernel_rfl) (by exact fun _ _ _ h => h) (Or.inl ⟨by rfl, ?hy7⟩) (by assumption) ?_
  case hy7 => (intro w hSw; (try dsimp only at hSw); go_simp; try with_reducible rfl)
  try simp only [Act.put, List.setIfInBounds_toArray, List.set_cons_zero, List.set_cons_succ]
  refine wpAnyH_ready (rs := [8]) (by kernel_rfl) (by simp) ?_
  refine AllReadyH.cons (by first | (simp only [List.getElem?_toArray, List.getElem?_cons_zero, List.getElem?_cons_succ]; done) | (simp only [List.getElem?_toArray, List.getElem?_cons_zero, List.getElem?_cons_succ]; rfl)) (fun K hK => ?_) AllReadyH.nil
  go_simp
  refine (HP.out _ HX.out).mono ?_; rintro e W2 ⟨⟨A', c', rfl, hr, hat⟩, hx⟩; replace HB := Lib.hid (HB.out.ext hx); replace HX := Lib.hid (show Ext w W2 from HX.out.tr hx); have HR := Lib.hid hr; have HAT := Lib.hid (show ∀ ad, A' = some ad → w.heap.size < ad.block ∧ ad.block < W2.heap.size from fun ad e => ⟨Nat.lt_of_lt_of_le hwW1 (hat ad e).1, (hat ad e).2⟩); clear hx hr hat
  try (go_wp2_with fail)
  refine hK.out _ _ (by (try dsimp only); exact ⟨(HK.out _ HX.out).1, (HK.out _ HX.out).2.1, (HK.out _ HX.out).2.2.1, (HK.out _ HX.out).2.2.2.1⟩) (fun hHeld => ?_)
  clear hK K
  try simp only [Act.put, List.setIfInBounds_toArray, List.set_cons_zero, List.set_cons_succ]
  refine wpAnyH_take (i := 9) (v := ?_) (by first | (simp only [List.getElem?_toArray, List.getElem?_cons_zero, List.getElem?_cons_succ]; done) | (simp only [List.getElem?_toArray, List.getElem?_cons_zero, List.getElem?_cons_succ]; rfl)) (by kernel_rfl) (by kernel_rfl) (by kernel_rfl) (by exact fun _ _ _ h => h) (Or.inl ⟨by rfl, ?hy9⟩) (by assumption) ?_
  case hy9 => (intro w hSw; (try dsimp only at hSw); go_simp; try with_reducible rfl)
  try simp only [Act.put, List.setIfInBounds_toArray, List.set_cons_zero, List.set_cons_succ]
  refine wpAnyH_take (i := 10) (v := ?_) (by first | (simp only [List.getElem?_toArray, List.getElem?_cons_zero, List.getElem?_cons_succ]; done) | (simp only [List.getElem?_toArray, List.getElem?_cons_zero, List.getElem?_cons_succ]; rfl)) (by kernel_rfl) (by kernel_rfl) (by kernel_rfl) (by exact fun _ _ _ h => h) (Or.inl ⟨by rfl, ?hy10⟩) (by assumption) ?_
  case hy10 => (intro w hSw; (try dsimp only at hSw); go_simp; try with_reducible rfl)
  try simp only [Act.put, List.setIfInBounds_toArray, List.set_cons_zero, List.set_cons_succ]
  refine wpAnyH_take (i := 11) (v := ?_) (by first | (simp only [List.getElem?_toArray, List.getElem?_cons_zero, List.getElem?_cons_succ]; done) | (simp only [List.getElem?_toArray, List.getElem?_cons_zero, List.getElem?_cons_succ]; rfl)) (by kernel_rfl) (by kernel_rfl) (by kernel_rfl) (by exact fun _ _ _ h => h) (Or.inl ⟨by rfl, ?hy11⟩) (by assumption) ?_
  case hy11 => (intro w hSw; (try dsimp only at hSw); go_simp; try with_reducible rfl)
  try simp only [Act.put, List.setIfInBounds_toArray, List.set_cons_zero, List.set_cons_succ]
  refine wpAnyH_take (i := 12) (v := ?_) (by first | (simp only [List.getElem?_toArray, List.getElem?_cons_zero, List.getElem?_cons_succ]; done) | (simp only [List.getElem?_toArray, List.getElem?_cons_zero, List.getElem?_cons_succ]; rfl)) (by kernel_rfl) (by kernel_rfl) (by kernel_rfl) (by exact fun _ _ _ h => h) (Or.inl ⟨by rfl, ?hy12⟩) (by assumption) ?_
  case hy12 => (intro w hSw; (try dsimp only at hSw); go_simp; try with_reducible rfl)
  try simp only [Act.put, List.setIfInBounds_toArray, List.set_cons_zero, List.set_cons_succ]
  refine wpAnyH_take (i := 13) (v := ?_) (by first | (simp only [List.getElem?_toArray, List.getElem?_cons_zero, List.getElem?_cons_succ]; done) | (simp only [List.getElem?_toArray, List.getElem?_cons_zero, List.getElem?_cons_succ]; rfl)) (by kernel_rfl) (by kernel_rfl) (by kernel_rfl) (by exact fun _ _ _ h => h) (Or.inl ⟨by rfl, ?hy13⟩) (by assumption) ?_
  case hy13 => (intro w hSw; (try dsimp only at hSw); go_simp; try with_reducible rfl)
  try simp only [Act.put, List.setIfInBounds_toArray, List.set_cons_zero, List.set_cons_succ]
  refine wpAnyH_done (by kernel_rfl) ?_ _
  clear hHeld HP
  go_upto_region 6 with (fail)
  replace HB := Lib.hid (show Blk W2.drew w.heap.size 39 ZL from HB.out.drew)
  replace HX := Lib.hid (show Ext w W2.drew from HX.out.drew)
  replace HR := Lib.hid (show Rd W2.drew A' (cDg PT) from HR.out.drew)
  refine wp_region_held_drew (S := fun w' => w'.cell? ⟨kb, 0, none⟩ = some (.int .i64 who) ∧ w'.cell? ⟨kb, 1, none⟩ = some (cU64 seed) ∧ w'.cell? ⟨kb, 2, none⟩ = some (.slice A N c) ∧ w'.cell? ⟨kb, 3, none⟩ = some (.int .i64 (i : Int))) (by kernel_rfl) (by (try dsimp only); exact ⟨(HK.out _ HX.out).1, (HK.out _ HX.out).2.1, (HK.out _ HX.out).2.2.1, (HK.out _ HX.out).2.2.2.1⟩) (fun hHeld => ?_)
  have hs3 : W2.heap.size ≤ W2.drew.heap.size := Nat.le_refl _
  generalize W2.drew = W3 at *
  refine wpAnyH_take (i := 0) (v := ?_) (by first | (simp only [List.getElem?_toArray, List.getElem?_cons_zero, List.getElem?_cons_succ]; done) | (simp only [List.getElem?_toArray, List.getElem?_cons_zero, List.getElem?_cons_succ]; rfl)) (by kernel_rfl) (by kernel_rfl) (by kernel_rfl) (by exact fun _ _ _ h => h) (Or.inl ⟨by rfl, ?hy0⟩) (by assumption) ?_
  case hy0 => (intro w' hSw; (try dsimp only at hSw); go_simp; try with_reducible rfl)
  try simp only [Act.put, List.setIfInBounds_toArray, List.set_cons_zero, List.set_cons_succ]
  refine wpAnyH_take (i := 1) (v := ?_) (by first | (simp only [List.getElem?_toArray, List.getElem?_cons_zero, List.getElem?_cons_succ]; done) | (simp only [List.getElem?_toArray, List.getElem?_cons_zero, List.getElem?_cons_succ]; rfl)) (by kernel_rfl) (by kernel_rfl) (by kernel_rfl) (by exact fun _ _ _ h => h) (Or.inl ⟨by rfl, ?hy1⟩) (by assumption) ?_
  case hy1 => (intro w' hSw; (try dsimp only at hSw); go_simp; try with_reducible rfl)
  try simp only [Act.put, List.setIfInBounds_toArray, List.set_cons_zero, List.set_cons_succ]
  refine wpAnyH_take (i := 2) (v := ?_) (by first | (simp only [List.getElem?_toArray, List.getElem?_cons_zero, List.getElem?_cons_succ]; done) | (simp only [List.getElem?_toArray, List.getElem?_cons_zero, List.getElem?_cons_succ]; rfl)) (by kernel_rfl) (by kernel_rfl) (by kernel_rfl) (by exact fun _ _ _ h => h) (Or.inl ⟨by rfl, ?hy2⟩) (by assumption) ?_
  case hy2 => (intro w' hSw; (try dsimp only at hSw); go_simp; try with_reducible rfl)
  try simp only [Act.put, List.setIfInBounds_toArray, List.set_cons_zero, List.set_cons_succ]
  refine wpAnyH_take (i := 3) (v := ?_) (by first | (simp only [List.getElem?_toArray, List.getElem?_cons_zero, List.getElem?_cons_succ]; done) | (simp only [List.getElem?_toArray, List.getElem?_cons_zero, List.getElem?_cons_succ]; rfl)) (by kernel_rfl) (by kernel_rfl) (by kernel_rfl) (by exact fun _ _ _ h => h) (Or.inl ⟨by rfl, ?hy3⟩) (by assumption) ?_
  case hy3 => (intro w' hSw; (try dsimp only at hSw); go_simp; try with_reducible rfl)
  try simp only [Act.put, List.setIfInBounds_toArray, List.set_cons_zero, List.set_cons_succ]
  refine wpAnyH_take (i := 4) (v := ?_) (by first | (simp only [List.getElem?_toArray, List.getElem?_cons_zero, List.getElem?_cons_succ]; done) | (simp only [List.getElem?_toArray, List.getElem?_cons_zero, List.getElem?_cons_succ]; rfl)) (by kernel_rfl) (by kernel_rfl) (by kernel_rfl) (by exact fun _ _ _ h => h) (Or.inl ⟨by rfl, ?hy4⟩) (by assumption) ?_
  case hy4 => (intro w' hSw; (try dsimp only at hSw); go_simp; try with_reducible rfl)
  try simp only [Act.put, List.setIfInBounds_toArray, List.set_cons_zero, List.set_cons_succ]
  refine wpAnyH_take (i := 5) (v := ?_) (by first | (simp only [List.getElem?_toArray, List.getElem?_cons_zero, List.getElem?_cons_succ]; done) | (simp only [List.getElem?_toArray, List.getElem?_cons_zero, List.getElem?_cons_succ]; rfl)) (by kernel_rfl) (by kernel_rfl) (by kernel_rfl) (by exact fun _ _ _ h => h) (Or.inl ⟨by rfl, ?hy5⟩) (by assumption) ?_
  case hy5 => (intro w' hSw; (try dsimp only at hSw); go_simp; try with_reducible rfl)
  try simp only [Act.put, List.setIfInBounds_toArray, List.set_cons_zero, List.set_cons_succ]
  refine wpAnyH_take (i := 6) (v := ?_) (by first | (simp only [List.getElem?_toArray, List.getElem?_cons_zero, List.getElem?_cons_succ]; done) | (simp only [List.getElem?_toArray, List.getElem?_cons_zero, List.getElem?_cons_succ]; rfl)) (by kernel_rfl) (by kernel_rfl) (by kernel_rfl) (by exact fun _ _ _ h => h) (Or.inl ⟨by rfl, ?hy6⟩) (by assumption) ?_
  case hy6 => (intro w' hSw; (try dsimp only at hSw); go_simp; try with_reducible rfl)
  try simp only [Act.put, List.setIfInBounds_toArray, List.set_cons_zero, List.set_cons_succ]
  refine wpAnyH_take (i := 7) (v := ?_) (by first | (simp only [List.getElem?_toArray, List.getElem?_cons_zero, List.getElem?_cons_succ]; done) | (simp only [List.getElem?_toArray, List.getElem?_cons_zero, List.getElem?_cons_succ]; rfl)) (by kernel_rfl) (by kernel_rfl) (by kernel_rfl) (by exact fun _ _ _ h => h) (Or.inl ⟨by rfl, ?hy7⟩) (by assumption) ?_
  case hy7 => (intro w' hSw; (try dsimp only at hSw); go_simp; try with_reducible rfl)
  try simp only [Act.put, List.setIfInBounds_toArray, List.set_cons_zero, List.set_cons_succ]
  refine wpAnyH_take (i := 8) (v := ?_) (by first | (simp only [List.getElem?_toArray, List.getElem?_cons_zero, List.getElem?_cons_succ]; done) | (simp only [List.getElem?_toArray, List.getElem?_cons_zero, List.getElem?_cons_succ]; rfl)) (by kernel_rfl) (by kernel_rfl) (by kernel_rfl) (by exact fun _ _ _ h => h) (Or.inl ⟨by rfl, ?hy8⟩) (by assumption) ?_
  case hy8 => (intro w' hSw; (try dsimp only at hSw); go_simp; try with_reducible rfl)
  try simp only [Act.put, List.setIfInBounds_toArray, List.set_cons_zero, List.set_cons_succ]
  refine wpAnyH_take (i := 9) (v := ?_) (by first | (simp only [List.getElem?_toArray, List.getElem?_cons_zero, List.getElem?_cons_succ]; done) | (simp only [List.getElem?_toArray, List.getElem?_cons_zero, List.getElem?_cons_succ]; rfl)) (by kernel_rfl) (by kernel_rfl) (by kernel_rfl) (by exact fun _ _ _ h => h) (Or.inl ⟨by rfl, ?hy9⟩) (by assumption) ?_
  case hy9 => (intro w' hSw; (try dsimp only at hSw); go_simp; try with_reducible rfl)
  try simp only [Act.put, List.setIfInBounds_toArray, List.set_cons_zero, List.set_cons_succ]
  refine wpAnyH_take (i := 10) (v := ?_) (by first | (simp only [List.getElem?_toArray, List.getElem?_cons_zero, List.getElem?_cons_succ]; done) | (simp only [List.getElem?_toArray, List.getElem?_cons_zero, List.getElem?_cons_succ]; rfl)) (by kernel_rfl) (by kernel_rfl) (by kernel_rfl) (by exact fun _ _ _ h => h) (Or.inl ⟨by rfl, ?hy10⟩) (by assumption) ?_
  case hy10 => (intro w' hSw; (try dsimp only at hSw); go_simp; try with_reducible rfl)
  try simp only [Act.put, List.setIfInBounds_toArray, List.set_cons_zero, List.set_cons_succ]
  refine wpAnyH_take (i := 11) (v := ?_) (by first | (simp only [List.getElem?_toArray, List.getElem?_cons_zero, List.getElem?_cons_succ]; done) | (simp only [List.getElem?_toArray, List.getElem?_cons_zero, List.getElem?_cons_succ]; rfl)) (by kernel_rfl) (by kernel_rfl) (by kernel_rfl) (by exact fun _ _ _ h => h) (Or.inl ⟨by rfl, ?hy11⟩) (by assumption) ?_
  case hy11 => (intro w' hSw; (try dsimp only at hSw); go_simp; try with_reducible rfl)
  try simp only [Act.put, List.setIfInBounds_toArray, List.set_cons_zero, List.set_cons_succ]
  refine wpAnyH_take (i := 12) (v := ?_) (by first | (simp only [List.getElem?_toArray, List.getElem?_cons_zero, List.getElem?_cons_succ]; done) | (simp only [List.getElem?_toArray, List.getElem?_cons_zero, List.getElem?_cons_succ]; rfl)) (by kernel_rfl) (by kernel_rfl) (by kernel_rfl) (by exact fun _ _ _ h => h) (Or.inl ⟨by rfl, ?hy12⟩) (by assumption) ?_
  case hy12 => (intro w' hSw; (try dsimp only at hSw); go_simp; try with_reducible rfl)
  try simp only [Act.put, List.setIfInBounds_toArray, List.set_cons_zero, List.set_cons_succ]
  refine wpAnyH_take (i := 13) (v := ?_) (by first | (simp only [List.getElem?_toArray, List.getElem?_cons_zero, List.getElem?_cons_succ]; done) | (simp only [List.getElem?_toArray, List.getElem?_cons_zero, List.getElem?_cons_succ]; rfl)) (by kernel_rfl) (by kernel_rfl) (by kernel_rfl) (by exact fun _ _ _ h => h) (Or.inl ⟨by rfl, ?hy13⟩) (by assumption) ?_
  case hy13 => (intro w' hSw; (try dsimp only at hSw); go_simp; try with_reducible rfl)
  try simp only [Act.put, List.setIfInBounds_toArray, List.set_cons_zero, List.set_cons_succ]
  refine wpAnyH_take (i := 14) (v := ?_) (by first | (simp only [List.getElem?_toArray, List.getElem?_cons_zero, List.getElem?_cons_succ]; done) | (simp only [List.getElem?_toArray, List.getElem?_cons_zero, List.getElem?_cons_succ]; rfl)) (by kernel_rfl) (by kernel_rfl) (by kernel_rfl) (by exact fun _ _ _ h => h) (Or.inl ⟨by rfl, ?hy14⟩) (by assumption) ?_
  case hy14 => (intro w' hSw; (try dsimp only at hSw); go_simp; try with_reducible rfl)
  try simp only [Act.put, List.setIfInBounds_toArray, List.set_cons_zero, List.set_cons_succ]
  refine wpAnyH_take (i := 15) (v := ?_) (by first | (simp only [List.getElem?_toArray, List.getElem?_cons_zero, List.getElem?_cons_succ]; done) | (simp only [List.getElem?_toArray, List.getElem?_cons_zero, List.getElem?_cons_succ]; rfl)) (by kernel_rfl) (by kernel_rfl) (by kernel_rfl) (by exact fun _ _ _ h => h) (Or.inl ⟨by rfl, ?hy15⟩) (by assumption) ?_
  case hy15 => (intro w' hSw; (try dsimp only at hSw); go_simp; try with_reducible rfl)
  try simp only [Act.put, List.setIfInBounds_toArray, List.set_cons_zero, List.set_cons_succ]
  refine wpAnyH_take (i := 17) (v := ?_) (by first | (simp only [List.getElem?_toArray, List.getElem?_cons_zero, List.getElem?_cons_succ]; done) | (simp only [List.getElem?_toArray, List.getElem?_cons_zero, List.getElem?_cons_succ]; rfl)) (by kernel_rfl) (by kernel_rfl) (by kernel_rfl) (by exact fun _ _ _ h => h) (Or.inl ⟨by rfl, ?hy17⟩) (by assumption) ?_
  case hy17 => (intro w' hSw; (try dsimp only at hSw); go_simp; try with_reducible rfl)
  try simp only [Act.put, List.setIfInBounds_toArray, List.set_cons_zero, List.set_cons_succ]
  refine wpAnyH_take (i := 19) (v := ?_) (by first | (simp only [List.getElem?_toArray, List.getElem?_cons_zero, List.getElem?_cons_succ]; done) | (simp only [List.getElem?_toArray, List.getElem?_cons_zero, List.getElem?_cons_succ]; rfl)) (by kernel_rfl) (by kernel_rfl) (by kernel_rfl) (by exact fun _ _ _ h => h) (Or.inl ⟨by rfl, ?hy19⟩) (by assumption) ?_
  case hy19 => (intro w' hSw; (try dsimp only at hSw); go_simp; try with_reducible rfl)
  try simp only [Act.put, List.setIfInBounds_toArray, List.set_cons_zero, List.set_cons_succ]
  refine wpAnyH_ready (rs := [16, 21]) (by kernel_rfl) (by simp) ?_
  refine AllReadyH.cons (by first | (simp only [List.getElem?_toArray, List.getElem?_cons_zero, List.getElem?_cons_succ]; done) | (simp only [List.getElem?_toArray, List.getElem?_cons_zero, List.getElem?_cons_succ]; rfl)) (fun K hK => ?_) ?_
  · skip
    go_simp
    refine (HSC.out _).mono ?_
    rintro e W4 ⟨rfl, hx⟩
    replace HB := Lib.hid (HB.out.ext hx)
    replace HX := Lib.hid (show Ext w W4 from HX.out.tr hx)
    replace HR := Lib.hid (HR.out.ext hx)
    have hs3 := Nat.le_trans hs3 hx.size
    clear hx
    try (go_wp2_with fail)
    refine hK.out _ _ (by (try dsimp only); exact ⟨(HK.out _ HX.out).1, (HK.out _ HX.out).2.1, (HK.out _ HX.out).2.2.1, (HK.out _ HX.out).2.2.2.1⟩) (fun hHeld => ?_)
    clear hK K
    try simp only [Act.put, List.setIfInBounds_toArray, List.set_cons_zero, List.set_cons_succ]
    refine wpAnyH_ready (rs := [18, 21]) (by kernel_rfl) (by simp) ?_
    refine AllReadyH.cons (by first | (simp only [List.getElem?_toArray, List.getElem?_cons_zero, List.getElem?_cons_succ]; done) | (simp only [List.getElem?_toArray, List.getElem?_cons_zero, List.getElem?_cons_succ]; rfl)) (fun K hK => ?_) ?_
    · skip
      go_simp
      refine (HSG.out _).mono ?_
      rintro e W4 ⟨rfl, hx⟩
      replace HB := Lib.hid (HB.out.ext hx)
      replace HX := Lib.hid (show Ext w W4 from HX.out.tr hx)
      replace HR := Lib.hid (HR.out.ext hx)
      have hs3 := Nat.le_trans hs3 hx.size
      clear hx
      try (go_wp2_with fail)
      refine hK.out _ _ (by (try dsimp only); exact ⟨(HK.out _ HX.out).1, (HK.out _ HX.out).2.1, (HK.out _ HX.out).2.2.1, (HK.out _ HX.out).2.2.2.1⟩) (fun hHeld => ?_)
      clear hK K
      try simp only [Act.put, List.setIfInBounds_toArray, List.set_cons_zero, List.set_cons_succ]
      refine wpAnyH_take (i := 20) (v := .agg (SG A' c').toArray) (by first | (simp only [List.getElem?_toArray, List.getElem?_cons_zero, List.getElem?_cons_succ]; done) | (simp only [List.getElem?_toArray, List.getElem?_cons_zero, List.getElem?_cons_succ]; rfl)) (by kernel_rfl) (by kernel_rfl) (by kernel_rfl) (by exact fun _ _ _ h => h) (Or.inl ⟨by rfl, fun w' _ => by rw [HV.out]; exact run_build4 _ _ _ _ _ _ rfl (.int .i64 who) (.int .i64 (i : Int)) (.slice A' h c') o0 o1 o2 o3 o4 o5 o6 o7 o8 o9 o10 o11 o12 o13 o14 o15 o16 o17 rfl rfl rfl rfl w' ⟨_, rfl⟩ ⟨_, rfl⟩ ⟨_, _, _, rfl⟩⟩) (by assumption) ?_
      try simp only [Act.put, List.setIfInBounds_toArray, List.set_cons_zero, List.set_cons_succ]
      refine wpAnyH_ready (rs := [21]) (by kernel_rfl) (by simp) ?_
      refine AllReadyH.cons (by first | (simp only [List.getElem?_toArray, List.getElem?_cons_zero, List.getElem?_cons_succ]; done) | (simp only [List.getElem?_toArray, List.getElem?_cons_zero, List.getElem?_cons_succ]; rfl)) (fun K hK => ?_) ?_
      · skip
        go_simp
        have HS := Lib.hid (show Blk (W4.alloc (.cells #[.int .i64 0, .int .i64 0, .int .u64 0, .int .u64 0, .int .u64 0, .int .u64 0, .int .u64 0, .int .u64 0, .int .u64 0, .int .u64 0, .int .u64 0, .int .u64 0, .int .u64 0, .int .u64 0, .int .u64 0, .int .u64 0, .int .u64 0, .int .u64 0, .int .u64 0, .int .u64 0, .slice none 0 0] 39)) W4.heap.size 39 [.int .i64 0, .int .i64 0, .int .u64 0, .int .u64 0, .int .u64 0, .int .u64 0, .int .u64 0, .int .u64 0, .int .u64 0, .int .u64 0, .int .u64 0, .int .u64 0, .int .u64 0, .int .u64 0, .int .u64 0, .int .u64 0, .int .u64 0, .int .u64 0, .int .u64 0, .int .u64 0, .slice none 0 0] from Blk.new _ _ _)
        have hsb : w.heap.size ≤ W4.heap.size := HX.out.size
        have hsb2 : w.heap.size < W4.heap.size := HB.out.lt
        replace HB := Lib.hid (show Blk (W4.alloc (.cells #[.int .i64 0, .int .i64 0, .int .u64 0, .int .u64 0, .int .u64 0, .int .u64 0, .int .u64 0, .int .u64 0, .int .u64 0, .int .u64 0, .int .u64 0, .int .u64 0, .int .u64 0, .int .u64 0, .int .u64 0, .int .u64 0, .int .u64 0, .int .u64 0, .int .u64 0, .int .u64 0, .slice none 0 0] 39)) w.heap.size 39 ZL from HB.out.ext ((Ext.rfl' _).alloc _))
        replace HX := Lib.hid (show Ext w (W4.alloc (.cells #[.int .i64 0, .int .i64 0, .int .u64 0, .int .u64 0, .int .u64 0, .int .u64 0, .int .u64 0, .int .u64 0, .int .u64 0, .int .u64 0, .int .u64 0, .int .u64 0, .int .u64 0, .int .u64 0, .int .u64 0, .int .u64 0, .int .u64 0, .int .u64 0, .int .u64 0, .int .u64 0, .slice none 0 0] 39)) from HX.out.alloc _)
        replace HR := Lib.hid (show Rd (W4.alloc (.cells #[.int .i64 0, .int .i64 0, .int .u64 0, .int .u64 0, .int .u64 0, .int .u64 0, .int .u64 0, .int .u64 0, .int .u64 0, .int .u64 0, .int .u64 0, .int .u64 0, .int .u64 0, .int .u64 0, .int .u64 0, .int .u64 0, .int .u64 0, .int .u64 0, .int .u64 0, .int .u64 0, .slice none 0 0] 39)) A' (cDg PT) from HR.out.ext ((Ext.rfl' _).alloc _))
        refine hK.out _ _ (by (try dsimp only); exact ⟨(HK.out _ HX.out).1, (HK.out _ HX.out).2.1, (HK.out _ HX.out).2.2.1, (HK.out _ HX.out).2.2.2.1⟩) (fun hHeld => ?_)
        clear hK K
        try simp only [Act.put, List.setIfInBounds_toArray, List.set_cons_zero, List.set_cons_succ]
        obtain ⟨Sb, hSb⟩ : ∃ Sb, W4.heap.size = Sb := ⟨_, rfl⟩
        rw [hSb] at HS hsb hsb2 hs3 ⊢
        clear hSb
        generalize W4.alloc (.cells #[.int .i64 0, .int .i64 0, .int .u64 0, .int .u64 0, .int .u64 0, .int .u64 0, .int .u64 0, .int .u64 0, .int .u64 0, .int .u64 0, .int .u64 0, .int .u64 0, .int .u64 0, .int .u64 0, .int .u64 0, .int .u64 0, .int .u64 0, .int .u64 0, .int .u64 0, .int .u64 0, .slice none 0 0] 39) = W4 at *
        generalize hZ2 : ([.int .i64 0, .int .i64 0, .int .u64 0, .int .u64 0, .int .u64 0, .int .u64 0, .int .u64 0, .int .u64 0, .int .u64 0, .int .u64 0, .int .u64 0, .int .u64 0, .int .u64 0, .int .u64 0, .int .u64 0, .int .u64 0, .int .u64 0, .int .u64 0, .int .u64 0, .int .u64 0, .slice none 0 0] : List Value) = ZM at HS
        have HZ2 := Lib.hid (show ZM.length = 21 by rw [← hZ2]; rfl)
        clear hZ2
        refine wpAnyH_ready (rs := [22]) (by kernel_rfl) (by simp) ?_
        refine AllReadyH.cons (by first | (simp only [List.getElem?_toArray, List.getElem?_cons_zero, List.getElem?_cons_succ]; done) | (simp only [List.getElem?_toArray, List.getElem?_cons_zero, List.getElem?_cons_succ]; rfl)) (fun K hK => ?_) ?_
        · skip
          rw [if_pos (by rfl)]
          have hs21 : (SG A' c').toArray.size = 21 := by rw [List.size_toArray]; exact HLN.out _ _
          have hth : W4.there Sb 0 (SG A' c').toArray.size := by
            have h := HS.out.there
            rw [HZ2.out] at h
            rw [hs21]
            exact h
          refine wp_store_mid _ _ _ rfl Sb 0 (SG A' c').toArray rfl rfl hth (by rw [hs21]; rfl) (all_oneCell_toArray (HON.out _ _)) ?_
          rw [List.toList_toArray]
          replace HS := Lib.hid (show Blk (W4.setCells Sb 0 (SG A' c')) Sb 39 (SG A' c') from HS.out.put (by rw [HZ2.out]; exact HLN.out _ _))
          replace HB := Lib.hid (show Blk (W4.setCells Sb 0 (SG A' c')) w.heap.size 39 ZL from HB.out.others (by omega) _ _ _)
          replace HX := Lib.hid (show Ext w (W4.setCells Sb 0 (SG A' c')) from Ext.setCells hsb _ _ _ HX.out)
          have hpS : ∀ ad, A' = some ad → ad.block ≠ Sb := fun ad e => by have := (HAT.out ad e).2; omega
          replace HR := Lib.hid (show Rd (W4.setCells Sb 0 (SG A' c')) A' (cDg PT) from Rd.setCellsO hpS _ _ _ HR.out)
          clear hth hpS
          refine hK.out _ _ (by (try dsimp only); exact ⟨(HK.out _ HX.out).1, (HK.out _ HX.out).2.1, (HK.out _ HX.out).2.2.1, (HK.out _ HX.out).2.2.2.1⟩) (fun hHeld => ?_)
          clear hK K
          try simp only [Act.put, List.setIfInBounds_toArray, List.set_cons_zero, List.set_cons_succ]
          generalize W4.setCells Sb 0 (SG A' c') = W5 at *
          refine wpAnyH_done (by kernel_rfl) ?_ _
          clear hHeld
          have hc3 := (HK.out _ HX.out).2.2.2.1
          have hf3 := (HKA.out.ext HX.out).blk.frozen 3
          go_upto_region 8 with (fail)
          have hKA7 := (HKA.out.ext HX.out).setN ((i : Int) + 1)
          have hB7 := HB.out.other (x := ⟨kb, 3, none⟩) (by show w.heap.size ≠ kb; omega) (.int .i64 ((i : Int) + 1))
          have hS7 := HS.out.other (x := ⟨kb, 3, none⟩) (by show Sb ≠ kb; omega) (.int .i64 ((i : Int) + 1))
          have hR7 := HR.out.setOther (b := kb) (j := 3) (fun ad e => by have := (HAT.out ad e).1; omega) (.int .i64 ((i : Int) + 1))
          have hG7 : KG kb w (W5.setCell ⟨kb, 3, none⟩ (.int .i64 ((i : Int) + 1))) := (KG.of_ext HX.out).set 3 _
          clear hc3 hf3 HB HS HR HX HKA HK
          generalize W5.setCell ⟨kb, 3, none⟩ (.int .i64 ((i : Int) + 1)) = W7 at *
          have hs21 : (SG A' c').toArray.size = 21 := by rw [List.size_toArray]; exact HLN.out _ _
          have hth : W7.there w.heap.size 0 (SG A' c').toArray.size := by
            have h := hB7.there
            rw [HZ.out] at h
            rw [hs21]
            exact h
          have hi21 : (Tryz.prog.info? 39).map (·.size) = some (SG A' c').toArray.size := by rw [hs21]; rfl
          have hon := all_oneCell_toArray (HON.out A' c')
          have HFI := Lib.hid (show Blk (W7.setCells w.heap.size 0 (SG A' c')) w.heap.size 39 (SG A' c') ∧ Rd (W7.setCells w.heap.size 0 (SG A' c')) A' (cDg PT) ∧ KA (W7.setCells w.heap.size 0 (SG A' c')) kb who seed h A c ((i : Int) + 1) bound ∧ KG kb w (W7.setCells w.heap.size 0 (SG A' c')) from
            ⟨hB7.put (by rw [HZ.out]; exact HLN.out _ _), Rd.setCellsO (fun ad e => by have := (HAT.out ad e).1; omega) _ _ _ hR7, KA.setCells (W := W7) (by omega) (fun ad e => by have := hAlt ad e; omega) _ _ _ hKA7, KG.setNew (w := w) (W := W7) (Nat.le_refl _) _ _ _ hG7⟩)
          have HAT2 := Lib.hid (show ∀ ad, A' = some ad → w.heap.size ≤ ad.block from fun ad e => Nat.le_of_lt (HAT.out ad e).1)
          clear hB7 hR7 hKA7 hG7 HAT hs21 hAlt
          go_wp2_with (first
            | (refine wpList_store_mid rfl _ _ _ rfl w.heap.size 0 (SG A' c').toArray rfl rfl hth hi21 hon ?_; rw [List.toList_toArray]; generalize W7.setCells w.heap.size 0 (SG A' c') = W8 at *)
            | (refine wpList_load_row rfl _ _ rfl Sb rfl 39 (SG A' c').toArray (0, 0) _ hS7 Tryz.underlying39 rfl hi21 ?_))
          exact ret_cell_tmp rfl HFI.out.1 Tryz.underlying39 rfl (by simpa using hi21) rfl rfl ⟨⟨_, _, rfl, HFI.out.2.1, HAT2.out⟩, HFI.out.2.2.1, HFI.out.2.2.2⟩
        exact AllReadyH.nil
      exact AllReadyH.nil
    refine AllReadyH.cons (by first | (simp only [List.getElem?_toArray, List.getElem?_cons_zero, List.getElem?_cons_succ]; done) | (simp only [List.getElem?_toArray, List.getElem?_cons_zero, List.getElem?_cons_succ]; rfl)) (fun K hK => ?_) ?_
    · skip
      go_simp
      have HS := Lib.hid (show Blk (W4.alloc (.cells #[.int .i64 0, .int .i64 0, .int .u64 0, .int .u64 0, .int .u64 0, .int .u64 0, .int .u64 0, .int .u64 0, .int .u64 0, .int .u64 0, .int .u64 0, .int .u64 0, .int .u64 0, .int .u64 0, .int .u64 0, .int .u64 0, .int .u64 0, .int .u64 0, .int .u64 0, .int .u64 0, .slice none 0 0] 39)) W4.heap.size 39 [.int .i64 0, .int .i64 0, .int .u64 0, .int .u64 0, .int .u64 0, .int .u64 0, .int .u64 0, .int .u64 0, .int .u64 0, .int .u64 0, .int .u64 0, .int .u64 0, .int .u64 0, .int .u64 0, .int .u64 0, .int .u64 0, .int .u64 0, .int .u64 0, .int .u64 0, .int .u64 0, .slice none 0 0] from Blk.new _ _ _)
      have hsb : w.heap.size ≤ W4.heap.size := HX.out.size
      have hsb2 : w.heap.size < W4.heap.size := HB.out.lt
      replace HB := Lib.hid (show Blk (W4.alloc (.cells #[.int .i64 0, .int .i64 0, .int .u64 0, .int .u64 0, .int .u64 0, .int .u64 0, .int .u64 0, .int .u64 0, .int .u64 0, .int .u64 0, .int .u64 0, .int .u64 0, .int .u64 0, .int .u64 0, .int .u64 0, .int .u64 0, .int .u64 0, .int .u64 0, .int .u64 0, .int .u64 0, .slice none 0 0] 39)) w.heap.size 39 ZL from HB.out.ext ((Ext.rfl' _).alloc _))
      replace HX := Lib.hid (show Ext w (W4.alloc (.cells #[.int .i64 0, .int .i64 0, .int .u64 0, .int .u64 0, .int .u64 0, .int .u64 0, .int .u64 0, .int .u64 0, .int .u64 0, .int .u64 0, .int .u64 0, .int .u64 0, .int .u64 0, .int .u64 0, .int .u64 0, .int .u64 0, .int .u64 0, .int .u64 0, .int .u64 0, .int .u64 0, .slice none 0 0] 39)) from HX.out.alloc _)
      replace HR := Lib.hid (show Rd (W4.alloc (.cells #[.int .i64 0, .int .i64 0, .int .u64 0, .int .u64 0, .int .u64 0, .int .u64 0, .int .u64 0, .int .u64 0, .int .u64 0, .int .u64 0, .int .u64 0, .int .u64 0, .int .u64 0, .int .u64 0, .int .u64 0, .int .u64 0, .int .u64 0, .int .u64 0, .int .u64 0, .int .u64 0, .slice none 0 0] 39)) A' (cDg PT) from HR.out.ext ((Ext.rfl' _).alloc _))
      refine hK.out _ _ (by (try dsimp only); exact ⟨(HK.out _ HX.out).1, (HK.out _ HX.out).2.1, (HK.out _ HX.out).2.2.1, (HK.out _ HX.out).2.2.2.1⟩) (fun hHeld => ?_)
      clear hK K
      try simp only [Act.put, List.setIfInBounds_toArray, List.set_cons_zero, List.set_cons_succ]
      obtain ⟨Sb, hSb⟩ : ∃ Sb, W4.heap.size = Sb := ⟨_, rfl⟩
      rw [hSb] at HS hsb hsb2 hs3 ⊢
      clear hSb
      generalize W4.alloc (.cells #[.int .i64 0, .int .i64 0, .int .u64 0, .int .u64 0, .int .u64 0, .int .u64 0, .int .u64 0, .int .u64 0, .int .u64 0, .int .u64 0, .int .u64 0, .int .u64 0, .int .u64 0, .int .u64 0, .int .u64 0, .int .u64 0, .int .u64 0, .int .u64 0, .int .u64 0, .int .u64 0, .slice none 0 0] 39) = W4 at *
      generalize hZ2 : ([.int .i64 0, .int .i64 0, .int .u64 0, .int .u64 0, .int .u64 0, .int .u64 0, .int .u64 0, .int .u64 0, .int .u64 0, .int .u64 0, .int .u64 0, .int .u64 0, .int .u64 0, .int .u64 0, .int .u64 0, .int .u64 0, .int .u64 0, .int .u64 0, .int .u64 0, .int .u64 0, .slice none 0 0] : List Value) = ZM at HS
      have HZ2 := Lib.hid (show ZM.length = 21 by rw [← hZ2]; rfl)
      clear hZ2
      refine wpAnyH_ready (rs := [18]) (by kernel_rfl) (by simp) ?_
      refine AllReadyH.cons (by first | (simp only [List.getElem?_toArray, List.getElem?_cons_zero, List.getElem?_cons_succ]; done) | (simp only [List.getElem?_toArray, List.getElem?_cons_zero, List.getElem?_cons_succ]; rfl)) (fun K hK => ?_) ?_
      · skip
        go_simp
        refine (HSG.out _).mono ?_
        rintro e W4 ⟨rfl, hx⟩
        replace HB := Lib.hid (HB.out.ext hx)
        replace HX := Lib.hid (show Ext w W4 from HX.out.tr hx)
        replace HR := Lib.hid (HR.out.ext hx)
        replace HS := Lib.hid (HS.out.ext hx)
        clear hx
        try (go_wp2_with fail)
        refine hK.out _ _ (by (try dsimp only); exact ⟨(HK.out _ HX.out).1, (HK.out _ HX.out).2.1, (HK.out _ HX.out).2.2.1, (HK.out _ HX.out).2.2.2.1⟩) (fun hHeld => ?_)
        clear hK K
        try simp only [Act.put, List.setIfInBounds_toArray, List.set_cons_zero, List.set_cons_succ]
        refine wpAnyH_take (i := 20) (v := .agg (SG A' c').toArray) (by first | (simp only [List.getElem?_toArray, List.getElem?_cons_zero, List.getElem?_cons_succ]; done) | (simp only [List.getElem?_toArray, List.getElem?_cons_zero, List.getElem?_cons_succ]; rfl)) (by kernel_rfl) (by kernel_rfl) (by kernel_rfl) (by exact fun _ _ _ h => h) (Or.inl ⟨by rfl, fun w' _ => by rw [HV.out]; exact run_build4 _ _ _ _ _ _ rfl (.int .i64 who) (.int .i64 (i : Int)) (.slice A' h c') o0 o1 o2 o3 o4 o5 o6 o7 o8 o9 o10 o11 o12 o13 o14 o15 o16 o17 rfl rfl rfl rfl w' ⟨_, rfl⟩ ⟨_, rfl⟩ ⟨_, _, _, rfl⟩⟩) (by assumption) ?_
        try simp only [Act.put, List.setIfInBounds_toArray, List.set_cons_zero, List.set_cons_succ]
        refine wpAnyH_ready (rs := [22]) (by kernel_rfl) (by simp) ?_
        refine AllReadyH.cons (by first | (simp only [List.getElem?_toArray, List.getElem?_cons_zero, List.getElem?_cons_succ]; done) | (simp only [List.getElem?_toArray, List.getElem?_cons_zero, List.getElem?_cons_succ]; rfl)) (fun K hK => ?_) ?_
        · skip
          rw [if_pos (by rfl)]
          have hs21 : (SG A' c').toArray.size = 21 := by rw [List.size_toArray]; exact HLN.out _ _
          have hth : W4.there Sb 0 (SG A' c').toArray.size := by
            have h := HS.out.there
            rw [HZ2.out] at h
            rw [hs21]
            exact h
          refine wp_store_mid _ _ _ rfl Sb 0 (SG A' c').toArray rfl rfl hth (by rw [hs21]; rfl) (all_oneCell_toArray (HON.out _ _)) ?_
          rw [List.toList_toArray]
          replace HS := Lib.hid (show Blk (W4.setCells Sb 0 (SG A' c')) Sb 39 (SG A' c') from HS.out.put (by rw [HZ2.out]; exact HLN.out _ _))
          replace HB := Lib.hid (show Blk (W4.setCells Sb 0 (SG A' c')) w.heap.size 39 ZL from HB.out.others (by omega) _ _ _)
          replace HX := Lib.hid (show Ext w (W4.setCells Sb 0 (SG A' c')) from Ext.setCells hsb _ _ _ HX.out)
          have hpS : ∀ ad, A' = some ad → ad.block ≠ Sb := fun ad e => by have := (HAT.out ad e).2; omega
          replace HR := Lib.hid (show Rd (W4.setCells Sb 0 (SG A' c')) A' (cDg PT) from Rd.setCellsO hpS _ _ _ HR.out)
          clear hth hpS
          refine hK.out _ _ (by (try dsimp only); exact ⟨(HK.out _ HX.out).1, (HK.out _ HX.out).2.1, (HK.out _ HX.out).2.2.1, (HK.out _ HX.out).2.2.2.1⟩) (fun hHeld => ?_)
          clear hK K
          try simp only [Act.put, List.setIfInBounds_toArray, List.set_cons_zero, List.set_cons_succ]
          generalize W4.setCells Sb 0 (SG A' c') = W5 at *
          refine wpAnyH_done (by kernel_rfl) ?_ _
          clear hHeld
          have hc3 := (HK.out _ HX.out).2.2.2.1
          have hf3 := (HKA.out.ext HX.out).blk.frozen 3
          go_upto_region 8 with (fail)
          have hKA7 := (HKA.out.ext HX.out).setN ((i : Int) + 1)
          have hB7 := HB.out.other (x := ⟨kb, 3, none⟩) (by show w.heap.size ≠ kb; omega) (.int .i64 ((i : Int) + 1))
          have hS7 := HS.out.other (x := ⟨kb, 3, none⟩) (by show Sb ≠ kb; omega) (.int .i64 ((i : Int) + 1))
          have hR7 := HR.out.setOther (b := kb) (j := 3) (fun ad e => by have := (HAT.out ad e).1; omega) (.int .i64 ((i : Int) + 1))
          have hG7 : KG kb w (W5.setCell ⟨kb, 3, none⟩ (.int .i64 ((i : Int) + 1))) := (KG.of_ext HX.out).set 3 _
          clear hc3 hf3 HB HS HR HX HKA HK
          generalize W5.setCell ⟨kb, 3, none⟩ (.int .i64 ((i : Int) + 1)) = W7 at *
          have hs21 : (SG A' c').toArray.size = 21 := by rw [List.size_toArray]; exact HLN.out _ _
          have hth : W7.there w.heap.size 0 (SG A' c').toArray.size := by
            have h := hB7.there
            rw [HZ.out] at h
            rw [hs21]
            exact h
          have hi21 : (Tryz.prog.info? 39).map (·.size) = some (SG A' c').toArray.size := by rw [hs21]; rfl
          have hon := all_oneCell_toArray (HON.out A' c')
          have HFI := Lib.hid (show Blk (W7.setCells w.heap.size 0 (SG A' c')) w.heap.size 39 (SG A' c') ∧ Rd (W7.setCells w.heap.size 0 (SG A' c')) A' (cDg PT) ∧ KA (W7.setCells w.heap.size 0 (SG A' c')) kb who seed h A c ((i : Int) + 1) bound ∧ KG kb w (W7.setCells w.heap.size 0 (SG A' c')) from
            ⟨hB7.put (by rw [HZ.out]; exact HLN.out _ _), Rd.setCellsO (fun ad e => by have := (HAT.out ad e).1; omega) _ _ _ hR7, KA.setCells (W := W7) (by omega) (fun ad e => by have := hAlt ad e; omega) _ _ _ hKA7, KG.setNew (w := w) (W := W7) (Nat.le_refl _) _ _ _ hG7⟩)
          have HAT2 := Lib.hid (show ∀ ad, A' = some ad → w.heap.size ≤ ad.block from fun ad e => Nat.le_of_lt (HAT.out ad e).1)
          clear hB7 hR7 hKA7 hG7 HAT hs21 hAlt
          go_wp2_with (first
            | (refine wpList_store_mid rfl _ _ _ rfl w.heap.size 0 (SG A' c').toArray rfl rfl hth hi21 hon ?_; rw [List.toList_toArray]; generalize W7.setCells w.heap.size 0 (SG A' c') = W8 at *)
            | (refine wpList_load_row rfl _ _ rfl Sb rfl 39 (SG A' c').toArray (0, 0) _ hS7 Tryz.underlying39 rfl hi21 ?_))
          exact ret_cell_tmp rfl HFI.out.1 Tryz.underlying39 rfl (by simpa using hi21) rfl rfl ⟨⟨_, _, rfl, HFI.out.2.1, HAT2.out⟩, HFI.out.2.2.1, HFI.out.2.2.2⟩
        exact AllReadyH.nil
      exact AllReadyH.nil
    exact AllReadyH.nil
  refine AllReadyH.cons (by first | (simp only [List.getElem?_toArray, List.getElem?_cons_zero, List.getElem?_cons_succ]; done) | (simp only [List.getElem?_toArray, List.getElem?_cons_zero, List.getElem?_cons_succ]; rfl)) (fun K hK => ?_) ?_
  · skip
    go_simp
    have HS := Lib.hid (show Blk (W3.alloc (.cells #[.int .i64 0, .int .i64 0, .int .u64 0, .int .u64 0, .int .u64 0, .int .u64 0, .int .u64 0, .int .u64 0, .int .u64 0, .int .u64 0, .int .u64 0, .int .u64 0, .int .u64 0, .int .u64 0, .int .u64 0, .int .u64 0, .int .u64 0, .int .u64 0, .int .u64 0, .int .u64 0, .slice none 0 0] 39)) W3.heap.size 39 [.int .i64 0, .int .i64 0, .int .u64 0, .int .u64 0, .int .u64 0, .int .u64 0, .int .u64 0, .int .u64 0, .int .u64 0, .int .u64 0, .int .u64 0, .int .u64 0, .int .u64 0, .int .u64 0, .int .u64 0, .int .u64 0, .int .u64 0, .int .u64 0, .int .u64 0, .int .u64 0, .slice none 0 0] from Blk.new _ _ _)
    have hsb : w.heap.size ≤ W3.heap.size := HX.out.size
    have hsb2 : w.heap.size < W3.heap.size := HB.out.lt
    replace HB := Lib.hid (show Blk (W3.alloc (.cells #[.int .i64 0, .int .i64 0, .int .u64 0, .int .u64 0, .int .u64 0, .int .u64 0, .int .u64 0, .int .u64 0, .int .u64 0, .int .u64 0, .int .u64 0, .int .u64 0, .int .u64 0, .int .u64 0, .int .u64 0, .int .u64 0, .int .u64 0, .int .u64 0, .int .u64 0, .int .u64 0, .slice none 0 0] 39)) w.heap.size 39 ZL from HB.out.ext ((Ext.rfl' _).alloc _))
    replace HX := Lib.hid (show Ext w (W3.alloc (.cells #[.int .i64 0, .int .i64 0, .int .u64 0, .int .u64 0, .int .u64 0, .int .u64 0, .int .u64 0, .int .u64 0, .int .u64 0, .int .u64 0, .int .u64 0, .int .u64 0, .int .u64 0, .int .u64 0, .int .u64 0, .int .u64 0, .int .u64 0, .int .u64 0, .int .u64 0, .int .u64 0, .slice none 0 0] 39)) from HX.out.alloc _)
    replace HR := Lib.hid (show Rd (W3.alloc (.cells #[.int .i64 0, .int .i64 0, .int .u64 0, .int .u64 0, .int .u64 0, .int .u64 0, .int .u64 0, .int .u64 0, .int .u64 0, .int .u64 0, .int .u64 0, .int .u64 0, .int .u64 0, .int .u64 0, .int .u64 0, .int .u64 0, .int .u64 0, .int .u64 0, .int .u64 0, .int .u64 0, .slice none 0 0] 39)) A' (cDg PT) from HR.out.ext ((Ext.rfl' _).alloc _))
    refine hK.out _ _ (by (try dsimp only); exact ⟨(HK.out _ HX.out).1, (HK.out _ HX.out).2.1, (HK.out _ HX.out).2.2.1, (HK.out _ HX.out).2.2.2.1⟩) (fun hHeld => ?_)
    clear hK K
    try simp only [Act.put, List.setIfInBounds_toArray, List.set_cons_zero, List.set_cons_succ]
    obtain ⟨Sb, hSb⟩ : ∃ Sb, W3.heap.size = Sb := ⟨_, rfl⟩
    rw [hSb] at HS hsb hsb2 hs3 ⊢
    clear hSb
    generalize W3.alloc (.cells #[.int .i64 0, .int .i64 0, .int .u64 0, .int .u64 0, .int .u64 0, .int .u64 0, .int .u64 0, .int .u64 0, .int .u64 0, .int .u64 0, .int .u64 0, .int .u64 0, .int .u64 0, .int .u64 0, .int .u64 0, .int .u64 0, .int .u64 0, .int .u64 0, .int .u64 0, .int .u64 0, .slice none 0 0] 39) = W4 at *
    generalize hZ2 : ([.int .i64 0, .int .i64 0, .int .u64 0, .int .u64 0, .int .u64 0, .int .u64 0, .int .u64 0, .int .u64 0, .int .u64 0, .int .u64 0, .int .u64 0, .int .u64 0, .int .u64 0, .int .u64 0, .int .u64 0, .int .u64 0, .int .u64 0, .int .u64 0, .int .u64 0, .int .u64 0, .slice none 0 0] : List Value) = ZM at HS
    have HZ2 := Lib.hid (show ZM.length = 21 by rw [← hZ2]; rfl)
    clear hZ2
    refine wpAnyH_ready (rs := [16]) (by kernel_rfl) (by simp) ?_
    refine AllReadyH.cons (by first | (simp only [List.getElem?_toArray, List.getElem?_cons_zero, List.getElem?_cons_succ]; done) | (simp only [List.getElem?_toArray, List.getElem?_cons_zero, List.getElem?_cons_succ]; rfl)) (fun K hK => ?_) ?_
    · skip
      go_simp
      refine (HSC.out _).mono ?_
      rintro e W4 ⟨rfl, hx⟩
      replace HB := Lib.hid (HB.out.ext hx)
      replace HX := Lib.hid (show Ext w W4 from HX.out.tr hx)
      replace HR := Lib.hid (HR.out.ext hx)
      replace HS := Lib.hid (HS.out.ext hx)
      clear hx
      try (go_wp2_with fail)
      refine hK.out _ _ (by (try dsimp only); exact ⟨(HK.out _ HX.out).1, (HK.out _ HX.out).2.1, (HK.out _ HX.out).2.2.1, (HK.out _ HX.out).2.2.2.1⟩) (fun hHeld => ?_)
      clear hK K
      try simp only [Act.put, List.setIfInBounds_toArray, List.set_cons_zero, List.set_cons_succ]
      refine wpAnyH_ready (rs := [18]) (by kernel_rfl) (by simp) ?_
      refine AllReadyH.cons (by first | (simp only [List.getElem?_toArray, List.getElem?_cons_zero, List.getElem?_cons_succ]; done) | (simp only [List.getElem?_toArray, List.getElem?_cons_zero, List.getElem?_cons_succ]; rfl)) (fun K hK => ?_) ?_
      · skip
        go_simp
        refine (HSG.out _).mono ?_
        rintro e W4 ⟨rfl, hx⟩
        replace HB := Lib.hid (HB.out.ext hx)
        replace HX := Lib.hid (show Ext w W4 from HX.out.tr hx)
        replace HR := Lib.hid (HR.out.ext hx)
        replace HS := Lib.hid (HS.out.ext hx)
        clear hx
        try (go_wp2_with fail)
        refine hK.out _ _ (by (try dsimp only); exact ⟨(HK.out _ HX.out).1, (HK.out _ HX.out).2.1, (HK.out _ HX.out).2.2.1, (HK.out _ HX.out).2.2.2.1⟩) (fun hHeld => ?_)
        clear hK K
        try simp only [Act.put, List.setIfInBounds_toArray, List.set_cons_zero, List.set_cons_succ]
        refine wpAnyH_take (i := 20) (v := .agg (SG A' c').toArray) (by first | (simp only [List.getElem?_toArray, List.getElem?_cons_zero, List.getElem?_cons_succ]; done) | (simp only [List.getElem?_toArray, List.getElem?_cons_zero, List.getElem?_cons_succ]; rfl)) (by kernel_rfl) (by kernel_rfl) (by kernel_rfl) (by exact fun _ _ _ h => h) (Or.inl ⟨by rfl, fun w' _ => by rw [HV.out]; exact run_build4 _ _ _ _ _ _ rfl (.int .i64 who) (.int .i64 (i : Int)) (.slice A' h c') o0 o1 o2 o3 o4 o5 o6 o7 o8 o9 o10 o11 o12 o13 o14 o15 o16 o17 rfl rfl rfl rfl w' ⟨_, rfl⟩ ⟨_, rfl⟩ ⟨_, _, _, rfl⟩⟩) (by assumption) ?_
        try simp only [Act.put, List.setIfInBounds_toArray, List.set_cons_zero, List.set_cons_succ]
        refine wpAnyH_ready (rs := [22]) (by kernel_rfl) (by simp) ?_
        refine AllReadyH.cons (by first | (simp only [List.getElem?_toArray, List.getElem?_cons_zero, List.getElem?_cons_succ]; done) | (simp only [List.getElem?_toArray, List.getElem?_cons_zero, List.getElem?_cons_succ]; rfl)) (fun K hK => ?_) ?_
        · skip
          rw [if_pos (by rfl)]
          have hs21 : (SG A' c').toArray.size = 21 := by rw [List.size_toArray]; exact HLN.out _ _
          have hth : W4.there Sb 0 (SG A' c').toArray.size := by
            have h := HS.out.there
            rw [HZ2.out] at h
            rw [hs21]
            exact h
          refine wp_store_mid _ _ _ rfl Sb 0 (SG A' c').toArray rfl rfl hth (by rw [hs21]; rfl) (all_oneCell_toArray (HON.out _ _)) ?_
          rw [List.toList_toArray]
          replace HS := Lib.hid (show Blk (W4.setCells Sb 0 (SG A' c')) Sb 39 (SG A' c') from HS.out.put (by rw [HZ2.out]; exact HLN.out _ _))
          replace HB := Lib.hid (show Blk (W4.setCells Sb 0 (SG A' c')) w.heap.size 39 ZL from HB.out.others (by omega) _ _ _)
          replace HX := Lib.hid (show Ext w (W4.setCells Sb 0 (SG A' c')) from Ext.setCells hsb _ _ _ HX.out)
          have hpS : ∀ ad, A' = some ad → ad.block ≠ Sb := fun ad e => by have := (HAT.out ad e).2; omega
          replace HR := Lib.hid (show Rd (W4.setCells Sb 0 (SG A' c')) A' (cDg PT) from Rd.setCellsO hpS _ _ _ HR.out)
          clear hth hpS
          refine hK.out _ _ (by (try dsimp only); exact ⟨(HK.out _ HX.out).1, (HK.out _ HX.out).2.1, (HK.out _ HX.out).2.2.1, (HK.out _ HX.out).2.2.2.1⟩) (fun hHeld => ?_)
          clear hK K
          try simp only [Act.put, List.setIfInBounds_toArray, List.set_cons_zero, List.set_cons_succ]
          generalize W4.setCells Sb 0 (SG A' c') = W5 at *
          refine wpAnyH_done (by kernel_rfl) ?_ _
          clear hHeld
          have hc3 := (HK.out _ HX.out).2.2.2.1
          have hf3 := (HKA.out.ext HX.out).blk.frozen 3
          go_upto_region 8 with (fail)
          have hKA7 := (HKA.out.ext HX.out).setN ((i : Int) + 1)
          have hB7 := HB.out.other (x := ⟨kb, 3, none⟩) (by show w.heap.size ≠ kb; omega) (.int .i64 ((i : Int) + 1))
          have hS7 := HS.out.other (x := ⟨kb, 3, none⟩) (by show Sb ≠ kb; omega) (.int .i64 ((i : Int) + 1))
          have hR7 := HR.out.setOther (b := kb) (j := 3) (fun ad e => by have := (HAT.out ad e).1; omega) (.int .i64 ((i : Int) + 1))
          have hG7 : KG kb w (W5.setCell ⟨kb, 3, none⟩ (.int .i64 ((i : Int) + 1))) := (KG.of_ext HX.out).set 3 _
          clear hc3 hf3 HB HS HR HX HKA HK
          generalize W5.setCell ⟨kb, 3, none⟩ (.int .i64 ((i : Int) + 1)) = W7 at *
          have hs21 : (SG A' c').toArray.size = 21 := by rw [List.size_toArray]; exact HLN.out _ _
          have hth : W7.there w.heap.size 0 (SG A' c').toArray.size := by
            have h := hB7.there
            rw [HZ.out] at h
            rw [hs21]
            exact h
          have hi21 : (Tryz.prog.info? 39).map (·.size) = some (SG A' c').toArray.size := by rw [hs21]; rfl
          have hon := all_oneCell_toArray (HON.out A' c')
          have HFI := Lib.hid (show Blk (W7.setCells w.heap.size 0 (SG A' c')) w.heap.size 39 (SG A' c') ∧ Rd (W7.setCells w.heap.size 0 (SG A' c')) A' (cDg PT) ∧ KA (W7.setCells w.heap.size 0 (SG A' c')) kb who seed h A c ((i : Int) + 1) bound ∧ KG kb w (W7.setCells w.heap.size 0 (SG A' c')) from
            ⟨hB7.put (by rw [HZ.out]; exact HLN.out _ _), Rd.setCellsO (fun ad e => by have := (HAT.out ad e).1; omega) _ _ _ hR7, KA.setCells (W := W7) (by omega) (fun ad e => by have := hAlt ad e; omega) _ _ _ hKA7, KG.setNew (w := w) (W := W7) (Nat.le_refl _) _ _ _ hG7⟩)
          have HAT2 := Lib.hid (show ∀ ad, A' = some ad → w.heap.size ≤ ad.block from fun ad e => Nat.le_of_lt (HAT.out ad e).1)
          clear hB7 hR7 hKA7 hG7 HAT hs21 hAlt
          go_wp2_with (first
            | (refine wpList_store_mid rfl _ _ _ rfl w.heap.size 0 (SG A' c').toArray rfl rfl hth hi21 hon ?_; rw [List.toList_toArray]; generalize W7.setCells w.heap.size 0 (SG A' c') = W8 at *)
            | (refine wpList_load_row rfl _ _ rfl Sb rfl 39 (SG A' c').toArray (0, 0) _ hS7 Tryz.underlying39 rfl hi21 ?_))
          exact ret_cell_tmp rfl HFI.out.1 Tryz.underlying39 rfl (by simpa using hi21) rfl rfl ⟨⟨_, _, rfl, HFI.out.2.1, HAT2.out⟩, HFI.out.2.2.1, HFI.out.2.2.2⟩
        exact AllReadyH.nil
      exact AllReadyH.nil
    exact AllReadyH.nil
  exact AllReadyH.nil
end
end Go.Proofs.YtbbgmlnfpnomiaaGreatDoor
end

section
/- The walks of key.New, key.Verify. -/
set_option linter.unusedVariables false
set_option linter.unusedSimpArgs false
namespace Go.Proofs.YtbbgmlnfpnomiaaGreatDoor
open Go.RowKit Go.Sort
theorem own_setCell1 {B b : Nat} {e : TypeId} {size : Nat} {v : Value} {n : Nat} {xs : List Value} (hb : b < B) {w : World} (h : w.ownsRow B e size v n xs) (o : Nat) (u : Value) : (w.setCell ⟨b, o, none⟩ u).ownsRow B e size v n xs := by
  refine ⟨h.1, ?_⟩
  rcases h.2 with h0 | ⟨g, cap, cur, h1, h2, h3, h4⟩
  · exact .inl h0
  · have hblk : Blk w g e cur.toList := by unfold Blk; rw [Array.toArray_toList]; exact h3
    have hk := hblk.other (x := ⟨b, o, none⟩) (by show g ≠ b; omega) u
    refine .inr ⟨g, cap, cur, h1, h2, ?_, h4⟩
    unfold Blk at hk
    rw [Array.toArray_toList] at hk
    exact hk
theorem pubs_take (seed h k : Nat) (hk : k < 2 ^ h) : (K.pubs seed h).take (k + 1) = (K.pubs seed h).take k ++ [K.pub (K.secs seed k)] := by
  have hl : k < (K.pubs seed h).length := by rw [K.pubs_len]; exact hk
  rw [List.take_succ_eq_append_getElem hl]
  congr 2
  have := K.pubs_at seed h k hk
  rw [List.getD_eq_getElem?_getD, List.getElem?_eq_getElem hl] at this
  exact this
set_option maxRecDepth 100000 in
theorem new_bad (who : Int) (seed : Nat) (ht : Int) (hb : who < 0 ∨ 15 < who ∨ ht < 0 ∨ 8 < ht) (w : World) :
    Calls Tryz.prog 20 #[.int .i64 who, cU64 seed, .int .i64 ht] w fun e w' => e = .returned (.tuple #[.pointer none, .int .i64 1]) ∧ w = w' := by
  by_cases h1 : who < 0
  · go_enter Tryz.func20, Tryz.ntmps20
    go_wp2
    exact bodyPost_ret (v := .tuple #[.pointer none, .int .i64 1]) (by simp [results, Tryz.f20, go_sem]) rfl ⟨rfl, rfl⟩
  · by_cases h2 : 15 < who
    · go_enter Tryz.func20, Tryz.ntmps20
      go_wp2
      exact bodyPost_ret (v := .tuple #[.pointer none, .int .i64 1]) (by simp [results, Tryz.f20, go_sem]) rfl ⟨rfl, rfl⟩
    · by_cases h3 : ht < 0
      · go_enter Tryz.func20, Tryz.ntmps20
        go_wp2
        exact bodyPost_ret (v := .tuple #[.pointer none, .int .i64 1]) (by simp [results, Tryz.f20, go_sem]) rfl ⟨rfl, rfl⟩
      · have h4 : 8 < ht := by omega
        clear hb
        go_enter Tryz.func20, Tryz.ntmps20
        go_wp2
        exact bodyPost_ret (v := .tuple #[.pointer none, .int .i64 1]) (by simp [results, Tryz.f20, go_sem]) rfl ⟨rfl, rfl⟩
set_option maxRecDepth 100000 in
set_option maxHeartbeats 2000000 in
theorem new_okF (who : Int) (hw : 0 ≤ who ∧ who ≤ 15) (seed h : Nat) (hs : seed < 18446744073709551616) (hh : h ≤ 8) (w : World) :
    Calls Tryz.prog 20 #[.int .i64 who, cU64 seed, .int .i64 (h : Int)] w fun e w' => (∃ kb A c, e = .returned (.tuple #[kP kb, .int .i64 0]) ∧ KA w' kb who seed h A c 0 0 ∧ w.heap.size ≤ kb ∧ (∀ ad, A = some ad → w.heap.size ≤ ad.block)) ∧ Ext w w' := by
  obtain ⟨i0, hi, hz0, hz1, hz2⟩ := info_parts bDg
  have hp := pow_le8 hh
  have HPT := Lib.hid (fun k hk => pubs_take seed h k hk)
  have HPL := Lib.hid (K.pubs_len seed h)
  have HSC := Lib.hid (fun (k : Nat) (hk : k ≤ 1000) => secrets_calls seed k hs hk)
  have HPB := Lib.hid (fun (k : Nat) => pub_calls (K.secs seed k) (K.secs_lt seed k) (K.secs_len seed k))
  obtain ⟨N, hN⟩ : ∃ N, 2 ^ h = N := ⟨_, rfl⟩
  have HN := Lib.hid hN
  have hi2 : ((2 : Int) ^ h) = (N : Int) := by rw [← hN]; norm_cast
  rw [hN] at hp HPL
  have hsh : IntKind.i64.wrap (1 * 2 ^ h) = (N : Int) := by rw [Int.one_mul, hi2]; exact IntWalk.i64_in _ (by omega)
  have hsh2 : IntKind.i64.wrap (2 ^ h) = (N : Int) := by rw [hi2]; exact IntWalk.i64_in _ (by omega)
  clear hN hi2
  have hb1 : ¬ (who < 0) := by omega
  have hb2 : ¬ (15 < who) := by omega
  have hb3 : ¬ (8 < (h : Int)) := by omega
  have hb4 : ((h : Nat) : Int) ≤ 64 := by omega
  have hb5 : ¬ ((h : Int) < 0) := by omega
  have hb6 : (0 : Int) ≤ (h : Int) := by omega
  go_enter Tryz.func20, Tryz.ntmps20
  go_upto_region 4 with (fail)
  have HB := Lib.hid (show Blk (w.alloc (.cells #[.int .i64 who, cU64 seed, .slice none 0 0, .int .i64 0, .int .i64 0] 200)) w.heap.size 200 [.int .i64 who, cU64 seed, .slice none 0 0, .int .i64 0, .int .i64 0] from Blk.new _ _ _)
  have HX := Lib.hid ((Ext.rfl' w).alloc (.cells #[.int .i64 who, cU64 seed, .slice none 0 0, .int .i64 0, .int .i64 0] 200))
  generalize w.alloc (.cells #[.int .i64 who, cU64 seed, .slice none 0 0, .int .i64 0, .int .i64 0] 200) = W0 at *
  have hkb : w.heap.size < W0.heap.size := HB.out.lt
  go_wp2
  clear hb1 hb2 hb3 hb4 hb5 hb6 hsh hsh2
  go_loopw [30] (fun i wr => ∃ (k : Nat) (v : Value), k ≤ N ∧ i = .int .i64 (k : Int) ∧ Blk wr w.heap.size 200 [.int .i64 who, cU64 seed, v, .int .i64 0, .int .i64 0] ∧ wr.ownsRow (w.heap.size + 1) 34 1 v k (cDg ((K.pubs seed h).take k)) ∧ Ext w wr) (fun i _ => N - (intOf i).toNat)
  case atStart => exact ⟨0, _, by omega, rfl, HB.out, World.ownsRow_nil _ _ _ _, HX.out⟩
  case round =>
    obtain ⟨k, v, hk, rfl, hb, ho, hE⟩ := hrel
    by_cases hlt : k < N
    · have HS := Lib.hid (HPT.out k (by rw [HN.out]; exact hlt))
      have HC1 := Lib.hid (HSC.out k (by omega))
      have HC2 := Lib.hid (HPB.out k)
      generalize K.pub (K.secs seed k) = y at *
      generalize cDg (K.secs seed k) = OS at *
      have HB1 := Lib.hid (show Blk wr.drew w.heap.size 200 [.int .i64 who, cU64 seed, v, .int .i64 0, .int .i64 0] from hb.drew)
      have HO := Lib.hid (show wr.drew.ownsRow (w.heap.size + 1) 34 1 v k (cDg ((K.pubs seed h).take k)) from ownsRow_kept ho (fun _ _ => rfl))
      have HE := Lib.hid (show Ext w wr.drew from hE.drew)
      have hkw : w.heap.size < wr.drew.heap.size := hb.lt
      clear hb ho hE
      go_upto_region 7 with (fail)
      refine wp_region_held_drew (S := fun _ => True) (by kernel_rfl) trivial (fun hHeld => ?_)
      generalize wr.drew = W1 at *
      refine wpAnyH_take (i := 0) (v := ?_) (by first | (simp only [List.getElem?_toArray, List.getElem?_cons_zero, List.getElem?_cons_succ]; done) | (simp only [List.getElem?_toArray, List.getElem?_cons_zero, List.getElem?_cons_succ]; rfl)) (by kernel_rfl) (by kernel_rfl) (by kernel_rfl) (by exact fun _ _ _ h => h) (Or.inl ⟨by rfl, ?hy0⟩) (by assumption) ?_
      case hy0 => (intro w' hSw; clear hSw; go_simp; try with_reducible rfl)
      try simp only [Act.put, List.setIfInBounds_toArray, List.set_cons_zero, List.set_cons_succ]
      refine wpAnyH_take (i := 1) (v := ?_) (by first | (simp only [List.getElem?_toArray, List.getElem?_cons_zero, List.getElem?_cons_succ]; done) | (simp only [List.getElem?_toArray, List.getElem?_cons_zero, List.getElem?_cons_succ]; rfl)) (by kernel_rfl) (by kernel_rfl) (by kernel_rfl) (by exact fun _ _ _ h => h) (Or.inl ⟨by rfl, ?hy1⟩) (by assumption) ?_
      case hy1 => (intro w' hSw; clear hSw; go_simp; try with_reducible rfl)
      try simp only [Act.put, List.setIfInBounds_toArray, List.set_cons_zero, List.set_cons_succ]
      refine wpAnyH_take (i := 2) (v := ?_) (by first | (simp only [List.getElem?_toArray, List.getElem?_cons_zero, List.getElem?_cons_succ]; done) | (simp only [List.getElem?_toArray, List.getElem?_cons_zero, List.getElem?_cons_succ]; rfl)) (by kernel_rfl) (by kernel_rfl) (by kernel_rfl) (by exact fun _ _ _ h => h) (Or.inl ⟨by rfl, ?hy2⟩) (by assumption) ?_
      case hy2 => (intro w' hSw; clear hSw; go_simp; try with_reducible rfl)
      try simp only [Act.put, List.setIfInBounds_toArray, List.set_cons_zero, List.set_cons_succ]
      refine wpAnyH_take (i := 3) (v := ?_) (by first | (simp only [List.getElem?_toArray, List.getElem?_cons_zero, List.getElem?_cons_succ]; done) | (simp only [List.getElem?_toArray, List.getElem?_cons_zero, List.getElem?_cons_succ]; rfl)) (by kernel_rfl) (by kernel_rfl) (by kernel_rfl) (by exact fun _ _ _ h => h) (Or.inl ⟨by rfl, ?hy3⟩) (by assumption) ?_
      case hy3 => (intro w' hSw; clear hSw; go_simp; try with_reducible rfl)
      try simp only [Act.put, List.setIfInBounds_toArray, List.set_cons_zero, List.set_cons_succ]
      refine wpAnyH_take (i := 5) (v := ?_) (by first | (simp only [List.getElem?_toArray, List.getElem?_cons_zero, List.getElem?_cons_succ]; done) | (simp only [List.getElem?_toArray, List.getElem?_cons_zero, List.getElem?_cons_succ]; rfl)) (by kernel_rfl) (by kernel_rfl) (by kernel_rfl) (by exact fun _ _ _ h => h) (Or.inl ⟨by rfl, ?hy5⟩) (by assumption) ?_
      case hy5 => (intro w' hSw; clear hSw; go_simp; try with_reducible rfl)
      try simp only [Act.put, List.setIfInBounds_toArray, List.set_cons_zero, List.set_cons_succ]
      refine wpAnyH_take (i := 6) (v := ?_) (by first | (simp only [List.getElem?_toArray, List.getElem?_cons_zero, List.getElem?_cons_succ]; done) | (simp only [List.getElem?_toArray, List.getElem?_cons_zero, List.getElem?_cons_succ]; rfl)) (by kernel_rfl) (by kernel_rfl) (by kernel_rfl) (by exact fun _ _ _ h => h) (Or.inl ⟨by rfl, ?hy6⟩) (by assumption) ?_
      case hy6 => (intro w' hSw; clear hSw; go_simp; try with_reducible rfl)
      try simp only [Act.put, List.setIfInBounds_toArray, List.set_cons_zero, List.set_cons_succ]
      refine wpAnyH_ready (rs := [4, 7]) (by kernel_rfl) (by simp) ?_
      refine AllReadyH.cons (by first | (simp only [List.getElem?_toArray, List.getElem?_cons_zero, List.getElem?_cons_succ]; done) | (simp only [List.getElem?_toArray, List.getElem?_cons_zero, List.getElem?_cons_succ]; rfl)) (fun K hK => ?_) ?_
      · skip
        have hc4 := HB1.out.cell (j := 2) rfl
        go_simp
        clear hc4
        refine hK.out _ _ trivial (fun hHeld => ?_)
        clear hK K
        try simp only [Act.put, List.setIfInBounds_toArray, List.set_cons_zero, List.set_cons_succ]
        refine wpAnyH_ready (rs := [7]) (by kernel_rfl) (by simp) ?_
        refine AllReadyH.cons (by first | (simp only [List.getElem?_toArray, List.getElem?_cons_zero, List.getElem?_cons_succ]; done) | (simp only [List.getElem?_toArray, List.getElem?_cons_zero, List.getElem?_cons_succ]; rfl)) (fun K hK => ?_) ?_
        · skip
          go_simp
          refine (HC1.out _).mono ?_
          rintro e W4 ⟨rfl, hx⟩
          replace HB1 := Lib.hid (HB1.out.ext hx)
          replace HO := Lib.hid (ownsRow_kept HO.out hx.block)
          replace HE := Lib.hid (show Ext w W4 from HE.out.tr hx)
          have hkw := Nat.lt_of_lt_of_le hkw hx.size
          clear hx
          try (go_wp2_with fail)
          refine hK.out _ _ trivial (fun hHeld => ?_)
          clear hK K
          try simp only [Act.put, List.setIfInBounds_toArray, List.set_cons_zero, List.set_cons_succ]
          refine wpAnyH_ready (rs := [8]) (by kernel_rfl) (by simp) ?_
          refine AllReadyH.cons (by first | (simp only [List.getElem?_toArray, List.getElem?_cons_zero, List.getElem?_cons_succ]; done) | (simp only [List.getElem?_toArray, List.getElem?_cons_zero, List.getElem?_cons_succ]; rfl)) (fun K hK => ?_) ?_
          · skip
            go_simp
            refine (HC2.out _).mono ?_
            rintro e W4 ⟨rfl, hx⟩
            replace HB1 := Lib.hid (HB1.out.ext hx)
            replace HO := Lib.hid (ownsRow_kept HO.out hx.block)
            replace HE := Lib.hid (show Ext w W4 from HE.out.tr hx)
            have hkw := Nat.lt_of_lt_of_le hkw hx.size
            clear hx
            try (go_wp2_with fail)
            refine hK.out _ _ trivial (fun hHeld => ?_)
            clear hK K
            try simp only [Act.put, List.setIfInBounds_toArray, List.set_cons_zero, List.set_cons_succ]
            refine wpAnyH_ready (rs := [9]) (by kernel_rfl) (by simp) ?_
            refine AllReadyH.cons (by first | (simp only [List.getElem?_toArray, List.getElem?_cons_zero, List.getElem?_cons_succ]; done) | (simp only [List.getElem?_toArray, List.getElem?_cons_zero, List.getElem?_cons_succ]; rfl)) (fun K hK => ?_) ?_
            · skip
              go_simp
              have HO9 := Lib.hid (HO.out.alloc (.cells #[cU64 y] 34))
              replace HB1 := Lib.hid (show Blk (W4.alloc (.cells #[cU64 y] 34)) w.heap.size 200 [.int .i64 who, cU64 seed, v, .int .i64 0, .int .i64 0] from HB1.out.ext ((Ext.rfl' _).alloc _))
              replace HE := Lib.hid (show Ext w (W4.alloc (.cells #[cU64 y] 34)) from HE.out.alloc _)
              refine hK.out _ _ trivial (fun hHeld => ?_)
              clear hK K
              try simp only [Act.put, List.setIfInBounds_toArray, List.set_cons_zero, List.set_cons_succ]
              refine wpAnyH_ready (rs := [10]) (by kernel_rfl) (by simp) ?_
              refine AllReadyH.cons (by first | (simp only [List.getElem?_toArray, List.getElem?_cons_zero, List.getElem?_cons_succ]; done) | (simp only [List.getElem?_toArray, List.getElem?_cons_zero, List.getElem?_cons_succ]; rfl)) (fun K hK => ?_) ?_
              · skip
                refine step_append_own (by rfl) _ _ _ (by rfl) _ _ i0 (.int .u64 0) 1 8 Tryz.underlying37 hi hz0 hz1 hz2 rfl (by decide) _ k _ (by rfl) HO9.out ⟨W4.heap.size, 0, none⟩ 1 1 [cU64 y] (by rfl) (by rfl) (cell_one_new _ _ _) (fun x hx => by simp at hx; subst hx; rfl) (by unfold maxLen; omega) (by omega) (by simp; omega) ?_
                intro v' W5 hown' hgrow
                obtain ⟨A5, c5, rfl, hr5⟩ := rd_of_own hown'
                replace HB1 := Lib.hid (show Blk W5 w.heap.size 200 [.int .i64 who, cU64 seed, v, .int .i64 0, .int .i64 0] from (hgrow.block _ HB1.out.lt (fun e => absurd (HO9.out.lt _ e.symm).1 (by omega))).trans HB1.out)
                replace HE := Lib.hid (show Ext w W5 from HE.out.grown hgrow (by simp; omega) (fun q hq => Nat.le_trans (Nat.le_succ _) (HO9.out.lt q hq).1))
                replace HO := Lib.hid hown'
                clear hown' hgrow HO9 hr5
                refine hK.out _ _ trivial (fun hHeld => ?_)
                clear hK K
                try simp only [Act.put, List.setIfInBounds_toArray, List.set_cons_zero, List.set_cons_succ]
                refine wpAnyH_take (i := 11) (v := ?_) (by first | (simp only [List.getElem?_toArray, List.getElem?_cons_zero, List.getElem?_cons_succ]; done) | (simp only [List.getElem?_toArray, List.getElem?_cons_zero, List.getElem?_cons_succ]; rfl)) (by kernel_rfl) (by kernel_rfl) (by kernel_rfl) (by exact fun _ _ _ h => h) (Or.inl ⟨by rfl, ?hy11⟩) (by assumption) ?_
                case hy11 => (intro w' hSw; clear hSw; go_simp; try with_reducible rfl)
                try simp only [Act.put, List.setIfInBounds_toArray, List.set_cons_zero, List.set_cons_succ]
                refine wpAnyH_take (i := 12) (v := ?_) (by first | (simp only [List.getElem?_toArray, List.getElem?_cons_zero, List.getElem?_cons_succ]; done) | (simp only [List.getElem?_toArray, List.getElem?_cons_zero, List.getElem?_cons_succ]; rfl)) (by kernel_rfl) (by kernel_rfl) (by kernel_rfl) (by exact fun _ _ _ h => h) (Or.inl ⟨by rfl, ?hy12⟩) (by assumption) ?_
                case hy12 => (intro w' hSw; clear hSw; go_simp; try with_reducible rfl)
                try simp only [Act.put, List.setIfInBounds_toArray, List.set_cons_zero, List.set_cons_succ]
                refine wpAnyH_ready (rs := [13]) (by kernel_rfl) (by simp) ?_
                refine AllReadyH.cons (by first | (simp only [List.getElem?_toArray, List.getElem?_cons_zero, List.getElem?_cons_succ]; done) | (simp only [List.getElem?_toArray, List.getElem?_cons_zero, List.getElem?_cons_succ]; rfl)) (fun K hK => ?_) ?_
                · skip
                  have hc4 := HB1.out.cell (j := 2) rfl
                  have hf4 := HB1.out.frozen 2
                  go_simp
                  clear hc4 hf4
                  replace HB1 := Lib.hid (show Blk (W5.setCell ⟨w.heap.size, 2, none⟩ (.slice A5 (k + 1) c5)) w.heap.size 200 [.int .i64 who, cU64 seed, .slice A5 (k + 1) c5, .int .i64 0, .int .i64 0] from HB1.out.set 2 _)
                  replace HO := Lib.hid (own_setCell1 (Nat.lt_succ_self _) HO.out 2 (.slice A5 (k + 1) c5))
                  replace HE := Lib.hid (show Ext w (W5.setCell ⟨w.heap.size, 2, none⟩ (.slice A5 (k + 1) c5)) from Below.setCell HE.out (Nat.le_refl _) _)
                  refine hK.out _ _ trivial (fun hHeld => ?_)
                  clear hK K
                  try simp only [Act.put, List.setIfInBounds_toArray, List.set_cons_zero, List.set_cons_succ]
                  refine wpAnyH_done (by kernel_rfl) ?_ _
                  clear hHeld
                  go_wp2
                  go_roundw
                  case rel => exact ⟨k + 1, _, hlt, by go_num, HB1.out, by rw [HS.out]; simpa [cDg] using HO.out, HE.out⟩
                  case measure => simp [intOf]; omega
                exact AllReadyH.nil
              exact AllReadyH.nil
            exact AllReadyH.nil
          exact AllReadyH.nil
        exact AllReadyH.nil
      refine AllReadyH.cons (by first | (simp only [List.getElem?_toArray, List.getElem?_cons_zero, List.getElem?_cons_succ]; done) | (simp only [List.getElem?_toArray, List.getElem?_cons_zero, List.getElem?_cons_succ]; rfl)) (fun K hK => ?_) ?_
      · skip
        go_simp
        refine (HC1.out _).mono ?_
        rintro e W4 ⟨rfl, hx⟩
        replace HB1 := Lib.hid (HB1.out.ext hx)
        replace HO := Lib.hid (ownsRow_kept HO.out hx.block)
        replace HE := Lib.hid (show Ext w W4 from HE.out.tr hx)
        have hkw := Nat.lt_of_lt_of_le hkw hx.size
        clear hx
        try (go_wp2_with fail)
        refine hK.out _ _ trivial (fun hHeld => ?_)
        clear hK K
        try simp only [Act.put, List.setIfInBounds_toArray, List.set_cons_zero, List.set_cons_succ]
        refine wpAnyH_ready (rs := [4, 8]) (by kernel_rfl) (by simp) ?_
        refine AllReadyH.cons (by first | (simp only [List.getElem?_toArray, List.getElem?_cons_zero, List.getElem?_cons_succ]; done) | (simp only [List.getElem?_toArray, List.getElem?_cons_zero, List.getElem?_cons_succ]; rfl)) (fun K hK => ?_) ?_
        · skip
          have hc4 := HB1.out.cell (j := 2) rfl
          go_simp
          clear hc4
          refine hK.out _ _ trivial (fun hHeld => ?_)
          clear hK K
          try simp only [Act.put, List.setIfInBounds_toArray, List.set_cons_zero, List.set_cons_succ]
          refine wpAnyH_ready (rs := [8]) (by kernel_rfl) (by simp) ?_
          refine AllReadyH.cons (by first | (simp only [List.getElem?_toArray, List.getElem?_cons_zero, List.getElem?_cons_succ]; done) | (simp only [List.getElem?_toArray, List.getElem?_cons_zero, List.getElem?_cons_succ]; rfl)) (fun K hK => ?_) ?_
          · skip
            go_simp
            refine (HC2.out _).mono ?_
            rintro e W4 ⟨rfl, hx⟩
            replace HB1 := Lib.hid (HB1.out.ext hx)
            replace HO := Lib.hid (ownsRow_kept HO.out hx.block)
            replace HE := Lib.hid (show Ext w W4 from HE.out.tr hx)
            have hkw := Nat.lt_of_lt_of_le hkw hx.size
            clear hx
            try (go_wp2_with fail)
            refine hK.out _ _ trivial (fun hHeld => ?_)
            clear hK K
            try simp only [Act.put, List.setIfInBounds_toArray, List.set_cons_zero, List.set_cons_succ]
            refine wpAnyH_ready (rs := [9]) (by kernel_rfl) (by simp) ?_
            refine AllReadyH.cons (by first | (simp only [List.getElem?_toArray, List.getElem?_cons_zero, List.getElem?_cons_succ]; done) | (simp only [List.getElem?_toArray, List.getElem?_cons_zero, List.getElem?_cons_succ]; rfl)) (fun K hK => ?_) ?_
            · skip
              go_simp
              have HO9 := Lib.hid (HO.out.alloc (.cells #[cU64 y] 34))
              replace HB1 := Lib.hid (show Blk (W4.alloc (.cells #[cU64 y] 34)) w.heap.size 200 [.int .i64 who, cU64 seed, v, .int .i64 0, .int .i64 0] from HB1.out.ext ((Ext.rfl' _).alloc _))
              replace HE := Lib.hid (show Ext w (W4.alloc (.cells #[cU64 y] 34)) from HE.out.alloc _)
              refine hK.out _ _ trivial (fun hHeld => ?_)
              clear hK K
              try simp only [Act.put, List.setIfInBounds_toArray, List.set_cons_zero, List.set_cons_succ]
              refine wpAnyH_ready (rs := [10]) (by kernel_rfl) (by simp) ?_
              refine AllReadyH.cons (by first | (simp only [List.getElem?_toArray, List.getElem?_cons_zero, List.getElem?_cons_succ]; done) | (simp only [List.getElem?_toArray, List.getElem?_cons_zero, List.getElem?_cons_succ]; rfl)) (fun K hK => ?_) ?_
              · skip
                refine step_append_own (by rfl) _ _ _ (by rfl) _ _ i0 (.int .u64 0) 1 8 Tryz.underlying37 hi hz0 hz1 hz2 rfl (by decide) _ k _ (by rfl) HO9.out ⟨W4.heap.size, 0, none⟩ 1 1 [cU64 y] (by rfl) (by rfl) (cell_one_new _ _ _) (fun x hx => by simp at hx; subst hx; rfl) (by unfold maxLen; omega) (by omega) (by simp; omega) ?_
                intro v' W5 hown' hgrow
                obtain ⟨A5, c5, rfl, hr5⟩ := rd_of_own hown'
                replace HB1 := Lib.hid (show Blk W5 w.heap.size 200 [.int .i64 who, cU64 seed, v, .int .i64 0, .int .i64 0] from (hgrow.block _ HB1.out.lt (fun e => absurd (HO9.out.lt _ e.symm).1 (by omega))).trans HB1.out)
                replace HE := Lib.hid (show Ext w W5 from HE.out.grown hgrow (by simp; omega) (fun q hq => Nat.le_trans (Nat.le_succ _) (HO9.out.lt q hq).1))
                replace HO := Lib.hid hown'
                clear hown' hgrow HO9 hr5
                refine hK.out _ _ trivial (fun hHeld => ?_)
                clear hK K
                try simp only [Act.put, List.setIfInBounds_toArray, List.set_cons_zero, List.set_cons_succ]
                refine wpAnyH_take (i := 11) (v := ?_) (by first | (simp only [List.getElem?_toArray, List.getElem?_cons_zero, List.getElem?_cons_succ]; done) | (simp only [List.getElem?_toArray, List.getElem?_cons_zero, List.getElem?_cons_succ]; rfl)) (by kernel_rfl) (by kernel_rfl) (by kernel_rfl) (by exact fun _ _ _ h => h) (Or.inl ⟨by rfl, ?hy11⟩) (by assumption) ?_
                case hy11 => (intro w' hSw; clear hSw; go_simp; try with_reducible rfl)
                try simp only [Act.put, List.setIfInBounds_toArray, List.set_cons_zero, List.set_cons_succ]
                refine wpAnyH_take (i := 12) (v := ?_) (by first | (simp only [List.getElem?_toArray, List.getElem?_cons_zero, List.getElem?_cons_succ]; done) | (simp only [List.getElem?_toArray, List.getElem?_cons_zero, List.getElem?_cons_succ]; rfl)) (by kernel_rfl) (by kernel_rfl) (by kernel_rfl) (by exact fun _ _ _ h => h) (Or.inl ⟨by rfl, ?hy12⟩) (by assumption) ?_
                case hy12 => (intro w' hSw; clear hSw; go_simp; try with_reducible rfl)
                try simp only [Act.put, List.setIfInBounds_toArray, List.set_cons_zero, List.set_cons_succ]
                refine wpAnyH_ready (rs := [13]) (by kernel_rfl) (by simp) ?_
                refine AllReadyH.cons (by first | (simp only [List.getElem?_toArray, List.getElem?_cons_zero, List.getElem?_cons_succ]; done) | (simp only [List.getElem?_toArray, List.getElem?_cons_zero, List.getElem?_cons_succ]; rfl)) (fun K hK => ?_) ?_
                · skip
                  have hc4 := HB1.out.cell (j := 2) rfl
                  have hf4 := HB1.out.frozen 2
                  go_simp
                  clear hc4 hf4
                  replace HB1 := Lib.hid (show Blk (W5.setCell ⟨w.heap.size, 2, none⟩ (.slice A5 (k + 1) c5)) w.heap.size 200 [.int .i64 who, cU64 seed, .slice A5 (k + 1) c5, .int .i64 0, .int .i64 0] from HB1.out.set 2 _)
                  replace HO := Lib.hid (own_setCell1 (Nat.lt_succ_self _) HO.out 2 (.slice A5 (k + 1) c5))
                  replace HE := Lib.hid (show Ext w (W5.setCell ⟨w.heap.size, 2, none⟩ (.slice A5 (k + 1) c5)) from Below.setCell HE.out (Nat.le_refl _) _)
                  refine hK.out _ _ trivial (fun hHeld => ?_)
                  clear hK K
                  try simp only [Act.put, List.setIfInBounds_toArray, List.set_cons_zero, List.set_cons_succ]
                  refine wpAnyH_done (by kernel_rfl) ?_ _
                  clear hHeld
                  go_wp2
                  go_roundw
                  case rel => exact ⟨k + 1, _, hlt, by go_num, HB1.out, by rw [HS.out]; simpa [cDg] using HO.out, HE.out⟩
                  case measure => simp [intOf]; omega
                exact AllReadyH.nil
              exact AllReadyH.nil
            exact AllReadyH.nil
          exact AllReadyH.nil
        refine AllReadyH.cons (by first | (simp only [List.getElem?_toArray, List.getElem?_cons_zero, List.getElem?_cons_succ]; done) | (simp only [List.getElem?_toArray, List.getElem?_cons_zero, List.getElem?_cons_succ]; rfl)) (fun K hK => ?_) ?_
        · skip
          go_simp
          refine (HC2.out _).mono ?_
          rintro e W4 ⟨rfl, hx⟩
          replace HB1 := Lib.hid (HB1.out.ext hx)
          replace HO := Lib.hid (ownsRow_kept HO.out hx.block)
          replace HE := Lib.hid (show Ext w W4 from HE.out.tr hx)
          have hkw := Nat.lt_of_lt_of_le hkw hx.size
          clear hx
          try (go_wp2_with fail)
          refine hK.out _ _ trivial (fun hHeld => ?_)
          clear hK K
          try simp only [Act.put, List.setIfInBounds_toArray, List.set_cons_zero, List.set_cons_succ]
          refine wpAnyH_ready (rs := [4, 9]) (by kernel_rfl) (by simp) ?_
          refine AllReadyH.cons (by first | (simp only [List.getElem?_toArray, List.getElem?_cons_zero, List.getElem?_cons_succ]; done) | (simp only [List.getElem?_toArray, List.getElem?_cons_zero, List.getElem?_cons_succ]; rfl)) (fun K hK => ?_) ?_
          · skip
            have hc4 := HB1.out.cell (j := 2) rfl
            go_simp
            clear hc4
            refine hK.out _ _ trivial (fun hHeld => ?_)
            clear hK K
            try simp only [Act.put, List.setIfInBounds_toArray, List.set_cons_zero, List.set_cons_succ]
            refine wpAnyH_ready (rs := [9]) (by kernel_rfl) (by simp) ?_
            refine AllReadyH.cons (by first | (simp only [List.getElem?_toArray, List.getElem?_cons_zero, List.getElem?_cons_succ]; done) | (simp only [List.getElem?_toArray, List.getElem?_cons_zero, List.getElem?_cons_succ]; rfl)) (fun K hK => ?_) ?_
            · skip
              go_simp
              have HO9 := Lib.hid (HO.out.alloc (.cells #[cU64 y] 34))
              replace HB1 := Lib.hid (show Blk (W4.alloc (.cells #[cU64 y] 34)) w.heap.size 200 [.int .i64 who, cU64 seed, v, .int .i64 0, .int .i64 0] from HB1.out.ext ((Ext.rfl' _).alloc _))
              replace HE := Lib.hid (show Ext w (W4.alloc (.cells #[cU64 y] 34)) from HE.out.alloc _)
              refine hK.out _ _ trivial (fun hHeld => ?_)
              clear hK K
              try simp only [Act.put, List.setIfInBounds_toArray, List.set_cons_zero, List.set_cons_succ]
              refine wpAnyH_ready (rs := [10]) (by kernel_rfl) (by simp) ?_
              refine AllReadyH.cons (by first | (simp only [List.getElem?_toArray, List.getElem?_cons_zero, List.getElem?_cons_succ]; done) | (simp only [List.getElem?_toArray, List.getElem?_cons_zero, List.getElem?_cons_succ]; rfl)) (fun K hK => ?_) ?_
              · skip
                refine step_append_own (by rfl) _ _ _ (by rfl) _ _ i0 (.int .u64 0) 1 8 Tryz.underlying37 hi hz0 hz1 hz2 rfl (by decide) _ k _ (by rfl) HO9.out ⟨W4.heap.size, 0, none⟩ 1 1 [cU64 y] (by rfl) (by rfl) (cell_one_new _ _ _) (fun x hx => by simp at hx; subst hx; rfl) (by unfold maxLen; omega) (by omega) (by simp; omega) ?_
                intro v' W5 hown' hgrow
                obtain ⟨A5, c5, rfl, hr5⟩ := rd_of_own hown'
                replace HB1 := Lib.hid (show Blk W5 w.heap.size 200 [.int .i64 who, cU64 seed, v, .int .i64 0, .int .i64 0] from (hgrow.block _ HB1.out.lt (fun e => absurd (HO9.out.lt _ e.symm).1 (by omega))).trans HB1.out)
                replace HE := Lib.hid (show Ext w W5 from HE.out.grown hgrow (by simp; omega) (fun q hq => Nat.le_trans (Nat.le_succ _) (HO9.out.lt q hq).1))
                replace HO := Lib.hid hown'
                clear hown' hgrow HO9 hr5
                refine hK.out _ _ trivial (fun hHeld => ?_)
                clear hK K
                try simp only [Act.put, List.setIfInBounds_toArray, List.set_cons_zero, List.set_cons_succ]
                refine wpAnyH_take (i := 11) (v := ?_) (by first | (simp only [List.getElem?_toArray, List.getElem?_cons_zero, List.getElem?_cons_succ]; done) | (simp only [List.getElem?_toArray, List.getElem?_cons_zero, List.getElem?_cons_succ]; rfl)) (by kernel_rfl) (by kernel_rfl) (by kernel_rfl) (by exact fun _ _ _ h => h) (Or.inl ⟨by rfl, ?hy11⟩) (by assumption) ?_
                case hy11 => (intro w' hSw; clear hSw; go_simp; try with_reducible rfl)
                try simp only [Act.put, List.setIfInBounds_toArray, List.set_cons_zero, List.set_cons_succ]
                refine wpAnyH_take (i := 12) (v := ?_) (by first | (simp only [List.getElem?_toArray, List.getElem?_cons_zero, List.getElem?_cons_succ]; done) | (simp only [List.getElem?_toArray, List.getElem?_cons_zero, List.getElem?_cons_succ]; rfl)) (by kernel_rfl) (by kernel_rfl) (by kernel_rfl) (by exact fun _ _ _ h => h) (Or.inl ⟨by rfl, ?hy12⟩) (by assumption) ?_
                case hy12 => (intro w' hSw; clear hSw; go_simp; try with_reducible rfl)
                try simp only [Act.put, List.setIfInBounds_toArray, List.set_cons_zero, List.set_cons_succ]
                refine wpAnyH_ready (rs := [13]) (by kernel_rfl) (by simp) ?_
                refine AllReadyH.cons (by first | (simp only [List.getElem?_toArray, List.getElem?_cons_zero, List.getElem?_cons_succ]; done) | (simp only [List.getElem?_toArray, List.getElem?_cons_zero, List.getElem?_cons_succ]; rfl)) (fun K hK => ?_) ?_
                · skip
                  have hc4 := HB1.out.cell (j := 2) rfl
                  have hf4 := HB1.out.frozen 2
                  go_simp
                  clear hc4 hf4
                  replace HB1 := Lib.hid (show Blk (W5.setCell ⟨w.heap.size, 2, none⟩ (.slice A5 (k + 1) c5)) w.heap.size 200 [.int .i64 who, cU64 seed, .slice A5 (k + 1) c5, .int .i64 0, .int .i64 0] from HB1.out.set 2 _)
                  replace HO := Lib.hid (own_setCell1 (Nat.lt_succ_self _) HO.out 2 (.slice A5 (k + 1) c5))
                  replace HE := Lib.hid (show Ext w (W5.setCell ⟨w.heap.size, 2, none⟩ (.slice A5 (k + 1) c5)) from Below.setCell HE.out (Nat.le_refl _) _)
                  refine hK.out _ _ trivial (fun hHeld => ?_)
                  clear hK K
                  try simp only [Act.put, List.setIfInBounds_toArray, List.set_cons_zero, List.set_cons_succ]
                  refine wpAnyH_done (by kernel_rfl) ?_ _
                  clear hHeld
                  go_wp2
                  go_roundw
                  case rel => exact ⟨k + 1, _, hlt, by go_num, HB1.out, by rw [HS.out]; simpa [cDg] using HO.out, HE.out⟩
                  case measure => simp [intOf]; omega
                exact AllReadyH.nil
              exact AllReadyH.nil
            exact AllReadyH.nil
          refine AllReadyH.cons (by first | (simp only [List.getElem?_toArray, List.getElem?_cons_zero, List.getElem?_cons_succ]; done) | (simp only [List.getElem?_toArray, List.getElem?_cons_zero, List.getElem?_cons_succ]; rfl)) (fun K hK => ?_) ?_
          · skip
            go_simp
            have HO9 := Lib.hid (HO.out.alloc (.cells #[cU64 y] 34))
            replace HB1 := Lib.hid (show Blk (W4.alloc (.cells #[cU64 y] 34)) w.heap.size 200 [.int .i64 who, cU64 seed, v, .int .i64 0, .int .i64 0] from HB1.out.ext ((Ext.rfl' _).alloc _))
            replace HE := Lib.hid (show Ext w (W4.alloc (.cells #[cU64 y] 34)) from HE.out.alloc _)
            refine hK.out _ _ trivial (fun hHeld => ?_)
            clear hK K
            try simp only [Act.put, List.setIfInBounds_toArray, List.set_cons_zero, List.set_cons_succ]
            refine wpAnyH_ready (rs := [4]) (by kernel_rfl) (by simp) ?_
            refine AllReadyH.cons (by first | (simp only [List.getElem?_toArray, List.getElem?_cons_zero, List.getElem?_cons_succ]; done) | (simp only [List.getElem?_toArray, List.getElem?_cons_zero, List.getElem?_cons_succ]; rfl)) (fun K hK => ?_) ?_
            · skip
              have hc4 := HB1.out.cell (j := 2) rfl
              go_simp
              clear hc4
              refine hK.out _ _ trivial (fun hHeld => ?_)
              clear hK K
              try simp only [Act.put, List.setIfInBounds_toArray, List.set_cons_zero, List.set_cons_succ]
              refine wpAnyH_ready (rs := [10]) (by kernel_rfl) (by simp) ?_
              refine AllReadyH.cons (by first | (simp only [List.getElem?_toArray, List.getElem?_cons_zero, List.getElem?_cons_succ]; done) | (simp only [List.getElem?_toArray, List.getElem?_cons_zero, List.getElem?_cons_succ]; rfl)) (fun K hK => ?_) ?_
              · skip
                refine step_append_own (by rfl) _ _ _ (by rfl) _ _ i0 (.int .u64 0) 1 8 Tryz.underlying37 hi hz0 hz1 hz2 rfl (by decide) _ k _ (by rfl) HO9.out ⟨W4.heap.size, 0, none⟩ 1 1 [cU64 y] (by rfl) (by rfl) (cell_one_new _ _ _) (fun x hx => by simp at hx; subst hx; rfl) (by unfold maxLen; omega) (by omega) (by simp; omega) ?_
                intro v' W5 hown' hgrow
                obtain ⟨A5, c5, rfl, hr5⟩ := rd_of_own hown'
                replace HB1 := Lib.hid (show Blk W5 w.heap.size 200 [.int .i64 who, cU64 seed, v, .int .i64 0, .int .i64 0] from (hgrow.block _ HB1.out.lt (fun e => absurd (HO9.out.lt _ e.symm).1 (by omega))).trans HB1.out)
                replace HE := Lib.hid (show Ext w W5 from HE.out.grown hgrow (by simp; omega) (fun q hq => Nat.le_trans (Nat.le_succ _) (HO9.out.lt q hq).1))
                replace HO := Lib.hid hown'
                clear hown' hgrow HO9 hr5
                refine hK.out _ _ trivial (fun hHeld => ?_)
                clear hK K
                try simp only [Act.put, List.setIfInBounds_toArray, List.set_cons_zero, List.set_cons_succ]
                refine wpAnyH_take (i := 11) (v := ?_) (by first | (simp only [List.getElem?_toArray, List.getElem?_cons_zero, List.getElem?_cons_succ]; done) | (simp only [List.getElem?_toArray, List.getElem?_cons_zero, List.getElem?_cons_succ]; rfl)) (by kernel_rfl) (by kernel_rfl) (by kernel_rfl) (by exact fun _ _ _ h => h) (Or.inl ⟨by rfl, ?hy11⟩) (by assumption) ?_
                case hy11 => (intro w' hSw; clear hSw; go_simp; try with_reducible rfl)
                try simp only [Act.put, List.setIfInBounds_toArray, List.set_cons_zero, List.set_cons_succ]
                refine wpAnyH_take (i := 12) (v := ?_) (by first | (simp only [List.getElem?_toArray, List.getElem?_cons_zero, List.getElem?_cons_succ]; done) | (simp only [List.getElem?_toArray, List.getElem?_cons_zero, List.getElem?_cons_succ]; rfl)) (by kernel_rfl) (by kernel_rfl) (by kernel_rfl) (by exact fun _ _ _ h => h) (Or.inl ⟨by rfl, ?hy12⟩) (by assumption) ?_
                case hy12 => (intro w' hSw; clear hSw; go_simp; try with_reducible rfl)
                try simp only [Act.put, List.setIfInBounds_toArray, List.set_cons_zero, List.set_cons_succ]
                refine wpAnyH_ready (rs := [13]) (by kernel_rfl) (by simp) ?_
                refine AllReadyH.cons (by first | (simp only [List.getElem?_toArray, List.getElem?_cons_zero, List.getElem?_cons_succ]; done) | (simp only [List.getElem?_toArray, List.getElem?_cons_zero, List.getElem?_cons_succ]; rfl)) (fun K hK => ?_) ?_
                · skip
                  have hc4 := HB1.out.cell (j := 2) rfl
                  have hf4 := HB1.out.frozen 2
                  go_simp
                  clear hc4 hf4
                  replace HB1 := Lib.hid (show Blk (W5.setCell ⟨w.heap.size, 2, none⟩ (.slice A5 (k + 1) c5)) w.heap.size 200 [.int .i64 who, cU64 seed, .slice A5 (k + 1) c5, .int .i64 0, .int .i64 0] from HB1.out.set 2 _)
                  replace HO := Lib.hid (own_setCell1 (Nat.lt_succ_self _) HO.out 2 (.slice A5 (k + 1) c5))
                  replace HE := Lib.hid (show Ext w (W5.setCell ⟨w.heap.size, 2, none⟩ (.slice A5 (k + 1) c5)) from Below.setCell HE.out (Nat.le_refl _) _)
                  refine hK.out _ _ trivial (fun hHeld => ?_)
                  clear hK K
                  try simp only [Act.put, List.setIfInBounds_toArray, List.set_cons_zero, List.set_cons_succ]
                  refine wpAnyH_done (by kernel_rfl) ?_ _
                  clear hHeld
                  go_wp2
                  go_roundw
                  case rel => exact ⟨k + 1, _, hlt, by go_num, HB1.out, by rw [HS.out]; simpa [cDg] using HO.out, HE.out⟩
                  case measure => simp [intOf]; omega
                exact AllReadyH.nil
              exact AllReadyH.nil
            exact AllReadyH.nil
          exact AllReadyH.nil
        exact AllReadyH.nil
      exact AllReadyH.nil
    · obtain rfl : k = N := by omega
      have hl : (cDg ((K.pubs seed h).take k)) = cDg (K.pubs seed h) := by rw [List.take_of_length_le (by rw [HPL.out]; exact Nat.le_refl _)]
      rw [hl] at ho
      obtain ⟨A, c, rfl, hr, hat⟩ := rd_of_own_at ho
      have HF := Lib.hid (show KA wr w.heap.size who seed h A c 0 0 from ⟨by unfold kV; rw [HN.out]; exact hb, hr, fun ad e => by have := (hat ad e).1; omega⟩)
      have HA2 := Lib.hid (show ∀ ad, A = some ad → w.heap.size ≤ ad.block from fun ad e => by have := (hat ad e).1; omega)
      have HE := Lib.hid hE
      clear hb ho hE hr hat hl
      go_wp2
      refine bodyPost_ret (v := .tuple #[kP w.heap.size, .int .i64 0]) (by simp [results, Tryz.f20, go_sem]) rfl ?_
      exact ⟨⟨_, _, _, rfl, HF.out, Nat.le_refl _, HA2.out⟩, HE.out⟩
theorem new_ok (who : Int) (hw : 0 ≤ who ∧ who ≤ 15) (seed h : Nat) (hs : seed < 18446744073709551616) (hh : h ≤ 8) (w : World) :
    Calls Tryz.prog 20 #[.int .i64 who, cU64 seed, .int .i64 (h : Int)] w fun e w' => (∃ kb A c, e = .returned (.tuple #[kP kb, .int .i64 0]) ∧ KA w' kb who seed h A c 0 0 ∧ w.heap.size ≤ kb) ∧ Ext w w' :=
  (new_okF who hw seed h hs hh w).mono fun _ _ ⟨⟨kb, A, c, h1, h2, h3, _⟩, h4⟩ => ⟨⟨kb, A, c, h1, h2, h3⟩, h4⟩
end Go.Proofs.YtbbgmlnfpnomiaaGreatDoor
end

section
/- The walk of key.Verify. -/
set_option linter.unusedVariables false
set_option linter.unusedSimpArgs false
namespace Go.Proofs.YtbbgmlnfpnomiaaGreatDoor
open Go.RowKit Go.Sort
theorem wpQuiet_load_mid {P : Program} {ops : Array Oper} {C : World → Prop} {Q : Act → Prop} {a : Act} {o : Oper} {rest : List Oper} (ty : TypeId) (x : Operand) (ho : o.op = .load ty x) (hw : Region.wanted o (yielded ops a.tmps) = true) (B k : Nat) (hx : a.eval x = .pointer (some ⟨B, k, none⟩))
    (L : List Value) (d : TypeDesc) (hC : ∀ w, C w → w.rangeAt B k L) (hu : P.underlying ty = some d) (hd : d.isRow = true) (hi : (P.info? ty).map (·.size) = some L.length)
    (h : wpQuiet P ops C Q rest (a.put o.dst (.agg L.toArray))) : wpQuiet P ops C Q (o :: rest) a :=
  BigFrame.wpQuiet_want hw fun K hK => ⟨.agg L.toArray, fun w hc => by
    unfold Oper.quietAt execOp
    simp only [ho, hx, Instr.loadAt, Instr.sureAddr, Sem.run_bind, Sem.run_pure, Result.andThen_ok, run_loadVar_mid w B k ty L d (hC w hc) hu hd hi]
    exact ⟨rfl, rfl⟩, hK _ h⟩
theorem sgV_at (who leaf : Int) (one : List Nat) (h : one.length = 18) (A : Option Addr) (n c : Nat) : (sgV who leaf one A n c)[0]? = some (.int .i64 who) ∧ (sgV who leaf one A n c)[1]? = some (.int .i64 leaf) ∧ (sgV who leaf one A n c)[20]? = some (.slice A n c) ∧ ∀ j v, (cDg one)[j]? = some v → (sgV who leaf one A n c)[j + 2]? = some v := by
  have hl : (cDg one).length = 18 := by rw [List.length_map, h]
  refine ⟨rfl, rfl, ?_, fun j v hj => ?_⟩
  · show (cDg one ++ [Value.slice A n c])[18]? = _
    rw [List.getElem?_append_right (by omega), hl]
    rfl
  · show (cDg one ++ [Value.slice A n c])[j]? = _
    rw [List.getElem?_append_left (List.getElem?_eq_some_iff.1 hj).1]
    exact hj
set_option maxRecDepth 100000 in
set_option maxHeartbeats 1000000 in
theorem verify_len (r d : Nat) (who leaf : Int) (one : List Nat) (hone : one.length = 18) (A : Option Addr) (n c : Nat) (ht : Int) (hn : (n : Int) ≠ ht) (w : World) :
    Calls Tryz.prog 111 #[cU64 r, .agg (sgV who leaf one A n c).toArray, cU64 d, .int .i64 ht] w fun e w' => e = .returned (.bool false) ∧ Ext w w' := by
  have hb := Blk.new w 39 (sgV who leaf one A n c)
  have hE := (Ext.rfl' w).alloc (.cells (sgV who leaf one A n c).toArray 39)
  have hat := (sgV_at who leaf one hone A n c).2.2.1
  generalize sgV who leaf one A n c = SG at *
  have hne : ((n : Int) == ht) = false := beq_eq_false_iff_ne.2 hn
  clear hn hone
  go_enter Tryz.func111, Tryz.ntmps111
  go_upto_region 1 with (fail)
  have c20 : ∀ x : ExtW (w.alloc (.cells SG.toArray 39)), x.1.cell? ⟨w.heap.size, 20, none⟩ = some (.slice A n c) := fun x => (hb.ext x.2).cell hat
  clear hb hat
  generalize w.alloc (.cells SG.toArray 39) = W1 at *
  have HE := Lib.hid hE
  clear hE
  refine wp_region_grow (by kernel_rfl) (by kernel_rfl) ?_
  repeat (any_goals (go_big_quiet_step (fail)))
  refine wpQuiet_nil ?_
  rintro W2 ⟨x, hx⟩
  have HX := Lib.hid (HE.out.tr (show Ext W1 W2 by rw [hx]; exact x.2))
  clear hx x c20
  go_wp2
  go_ret
  exact ⟨rfl, HX.out⟩
set_option maxRecDepth 100000 in
set_option maxHeartbeats 1000000 in
/-- Whether a signature holds, its way being as long as the tree is high, its place one of the tree's. -/
theorem verify_in (r d : Nat) (hr : r < 18446744073709551616) (hd : d < 18446744073709551616) (who : Int) (i : Nat) (one : List Nat) (hone : one.length = 18) (hol : ∀ x ∈ one, x < 18446744073709551616) (A : Option Addr) (c : Nat) (l : List Nat) (hl : ∀ x ∈ l, x < 18446744073709551616) (hn : l.length ≤ 8) (hi : i < 2 ^ l.length) (w : World) (hA : Rd w A (cDg l)) :
    Calls Tryz.prog 111 #[cU64 r, .agg (sgV who (i : Int) one A l.length c).toArray, cU64 d, .int .i64 (l.length : Int)] w fun e w' => e = .returned (.bool (decide (K.climb (K.rec one d) i l = r))) ∧ Ext w w' := by
  have hb := Blk.new w 39 (sgV who (i : Int) one A l.length c)
  have hE := (Ext.rfl' w).alloc (.cells (sgV who (i : Int) one A l.length c).toArray 39)
  have hat := sgV_at who (i : Int) one hone A l.length c
  have hs18 : (cDg one).length = 18 := by rw [List.length_map, hone]
  have hi18 : (Tryz.prog.info? 36).map (·.size) = some (cDg one).length := by rw [hs18]; rfl
  have HRC := Lib.hid (recover_calls one hol hone d hd)
  have HMV := Lib.hid (fun W (hx : Ext w W) => mverify_calls r (K.rec one d) i hr (K.rec_lt one d) l hl hn hi A c W (hA.ext hx))
  generalize sgV who (i : Int) one A l.length c = SG at *
  generalize decide (K.climb (K.rec one d) i l = r) = D at *
  generalize K.rec one d = RC at *
  generalize cDg one = OS at *
  clear hi hn hl hol hone hA hs18 hr hd
  generalize l.length = n at *
  go_enter Tryz.func111, Tryz.ntmps111
  go_upto_region 1 with (fail)
  have c20 : ∀ x : ExtW (w.alloc (.cells SG.toArray 39)), x.1.cell? ⟨w.heap.size, 20, none⟩ = some (.slice A n c) := fun x => (hb.ext x.2).cell hat.2.2.1
  have c1 : ∀ x : ExtW (w.alloc (.cells SG.toArray 39)), x.1.cell? ⟨w.heap.size, 1, none⟩ = some (.int .i64 (i : Int)) := fun x => (hb.ext x.2).cell hat.2.1
  have HRG := Lib.hid (show ∀ w', (∃ x : ExtW (w.alloc (.cells SG.toArray 39)), w' = x.1) → w'.rangeAt w.heap.size 2 OS from fun w' ⟨x, e⟩ j v hj => by rw [e, Nat.add_comm 2 j]; exact (hb.ext x.2).cell (hat.2.2.2 j v hj))
  have XR := Lib.hid (fun x : ExtW (w.alloc (.cells SG.toArray 39)) => HRC.out x.1)
  have XM := Lib.hid (fun x : ExtW (w.alloc (.cells SG.toArray 39)) => HMV.out x.1 (hE.tr x.2))
  clear hb hat HRC HMV
  generalize w.alloc (.cells SG.toArray 39) = W1 at *
  have HE := Lib.hid hE
  clear hE
  refine wp_region_grow (by kernel_rfl) (by kernel_rfl) ?_
  repeat (any_goals (first | (refine wpQuiet_load_mid _ _ rfl (by rfl) w.heap.size 2 (by rfl) OS _ HRG.out Tryz.underlying36 rfl hi18 ?_; simp only [Act.put, List.setIfInBounds_toArray, List.set_cons_zero, List.set_cons_succ]) | (go_big_quiet_step (first | (go_at_call 187; exact grow_of (XR.out _)) | (go_at_call 186; exact grow_of (XM.out _))))))
  refine wpQuiet_nil ?_
  rintro W2 ⟨x, hx⟩
  have HX := Lib.hid (HE.out.tr (show Ext W1 W2 by rw [hx]; exact x.2))
  clear hx x c20 c1 XR XM HRG
  go_wp2
  go_ret
  exact ⟨ret_bool (by first | rfl | simp), HX.out⟩
end Go.Proofs.YtbbgmlnfpnomiaaGreatDoor
end
