/- Stamps: what is signed in words, its digest, who there may be, when: the program's and the reference's. -/
import Derived.Test.YtbbgmlnfpnomiaaGreatDoorKR4
import Derived.Test.YtbbgmlnfpnomiaaGreatDoorKR2
set_option linter.unusedVariables false
set_option linter.unusedSimpArgs false
namespace Go.Proofs.YtbbgmlnfpnomiaaGreatDoor
open Go.RowKit Go.Sort
namespace K
/-- What is signed of a stamp, in words. -/
def tagS : List UInt8 := [115, 116, 97, 109, 112]
def stW (c : Nat) (who at_ : Int) : List (List UInt8) := [tagS, T.hexB c, Lib.itoa who, Lib.itoa at_]
def stT (c : Nat) (who at_ : Int) : List UInt8 := J.join (stW c who at_)
noncomputable def stD (c : Nat) (who at_ : Int) : Nat := S.sumN tagS (stT c who at_)
theorem stD_lt (c : Nat) (who at_ : Int) : stD c who at_ < 18446744073709551616 := S.sumN_lt _ _
/-- Whether there is such a replica; whether a time may be. -/
def whoE (f who : Int) : Int := if 0 ≤ who ∧ who < 3 * f + 1 then 0 else 1
def whenE (t : Int) : Int := if 1 ≤ t ∧ t ≤ 1099511627776 then 0 else 1
end K
theorem stT_len (c : Nat) (hc : c < 18446744073709551616) (who at_ : Int) (hw : I64 who) (ha : I64 at_) : (K.stT c who at_).length ≤ 10000 := by
  have e1 := Lib.itoa_length_le who hw.1 hw.2
  have e2 := Lib.itoa_length_le at_ ha.1 ha.2
  have e3 := K.hexB_len c hc
  have f1 := esc_two (Lib.itoa who)
  have f2 := esc_two (Lib.itoa at_)
  have f3 := esc_two (T.hexB c)
  have f4 : (J.esc K.tagS).length ≤ 2 * 5 := esc_two K.tagS
  simp only [K.stT, K.stW, J.join, List.length_cons, List.length_append, List.length_nil]
  omega
abbrev bTag : ByteArray := ⟨#[115, 116, 97, 109, 112]⟩
theorem size_strOf (l : List UInt8) : (strOf l).size = l.length := by show l.toArray.size = _; simp
set_option maxRecDepth 100000 in
set_option maxHeartbeats 2000000 in
theorem swords_calls (c : Nat) (hc : c < 18446744073709551616) (who at_ : Int) (hw : I64 who) (ha : I64 at_) (w : World) (ht : TOk w) :
    Calls Tryz.prog 48 #[cU64 c, .int .i64 who, .int .i64 at_] w fun e w' => e = .returned (.string (strOf (K.stT c who at_))) ∧ Ext w w' := by
  have e1 := Lib.itoa_length_le who hw.1 hw.2
  have e2 := Lib.itoa_length_le at_ ha.1 ha.2
  have e3 := K.hexB_len c hc
  have HT := Lib.hid (show ∀ W, Ext w W → Calls Tryz.prog 145 #[cU64 c] W fun e w' => e = .returned (.string (strOf (T.hexB c))) ∧ Ext W w' from fun W hx => text_calls c hc W (ht.ext hx).tz)
  have HN1 := Lib.hid (show ∀ W, Ext w W → Calls Tryz.prog 131 #[.int .i64 who] W fun e w' => e = .returned (.string (strOf (Lib.itoa who))) ∧ Ext W w' from fun W hx => num_calls who hw.1 hw.2 W (ht.ext hx).tab)
  have HN2 := Lib.hid (show ∀ W, Ext w W → Calls Tryz.prog 131 #[.int .i64 at_] W fun e w' => e = .returned (.string (strOf (Lib.itoa at_))) ∧ Ext W w' from fun W hx => num_calls at_ ha.1 ha.2 W (ht.ext hx).tab)
  have HJ := Lib.hid (fun W => join4 bTag (strOf (T.hexB c)) (strOf (Lib.itoa who)) (strOf (Lib.itoa at_)) (Nat.le_trans (stT_len c hc who at_ hw ha) (by decide)) (by decide) (by rw [size_strOf]; omega) (by rw [size_strOf]; omega) (by rw [size_strOf]; omega) W)
  change Hid (∀ W : World, Calls Tryz.prog 130 #[.slice (some ⟨W.heap.size, 0, none⟩) 4 4] (W.alloc (.cells #[.string bTag, .string (strOf (T.hexB c)), .string (strOf (Lib.itoa who)), .string (strOf (Lib.itoa at_))] 9)) fun e w' => e = .returned (.string (strOf (K.stT c who at_))) ∧ Ext (W.alloc (.cells #[.string bTag, .string (strOf (T.hexB c)), .string (strOf (Lib.itoa who)), .string (strOf (Lib.itoa at_))] 9)) w') at HJ
  generalize strOf (K.stT c who at_) = TT at *
  generalize strOf (T.hexB c) = s1 at *
  generalize strOf (Lib.itoa who) = s2 at *
  generalize strOf (Lib.itoa at_) = s3 at *
  clear e1 e2 e3 hc hw ha ht
  go_enter Tryz.func48, Tryz.ntmps48
  go_wp2_with fail
  refine (HT.out _ (Ext.rfl' _)).mono ?_
  rintro e W1 ⟨rfl, hx⟩
  have HX := Lib.hid hx
  clear hx
  go_wp2_with fail
  refine (HN1.out _ HX.out).mono ?_
  rintro e W2 ⟨rfl, hx⟩
  replace HX := Lib.hid (HX.out.tr hx)
  clear hx
  go_wp2_with fail
  refine (HN2.out _ HX.out).mono ?_
  rintro e W3 ⟨rfl, hx⟩
  replace HX := Lib.hid (HX.out.tr hx)
  clear hx
  go_wp2_with fail
  refine (HJ.out W3).mono ?_
  rintro e W4 ⟨rfl, hx⟩
  have HY := Lib.hid (Ext.tr (HX.out.alloc (.cells #[.string bTag, .string s1, .string s2, .string s3] 9)) hx)
  clear hx
  go_wp2
  go_ret
  exact ⟨rfl, HY.out⟩
set_option maxRecDepth 100000 in
set_option maxHeartbeats 2000000 in
theorem rswords_calls (c : Nat) (hc : c < 18446744073709551616) (who at_ : Int) (hw : I64 who) (ha : I64 at_) (w : World) :
    Calls Tryz.prog 49 #[cU64 c, .int .i64 who, .int .i64 at_] w fun e w' => e = .returned (.string (strOf (K.stT c who at_))) ∧ Ext w w' := by
  have e1 := Lib.itoa_length_le who hw.1 hw.2
  have e2 := Lib.itoa_length_le at_ ha.1 ha.2
  have e3 := K.hexB_len c hc
  have HT := Lib.hid (show ∀ W, Ext w W → Calls Tryz.prog 146 #[cU64 c] W fun e w' => e = .returned (.string (strOf (T.hexB c))) ∧ Ext W w' from fun W hx => rhexB_calls c hc W)
  have HN1 := Lib.hid (show ∀ W, Ext w W → Calls Tryz.prog 136 #[.int .i64 who] W fun e w' => e = .returned (.string (strOf (Lib.itoa who))) ∧ Ext W w' from fun W hx => rnum_calls who hw W)
  have HN2 := Lib.hid (show ∀ W, Ext w W → Calls Tryz.prog 136 #[.int .i64 at_] W fun e w' => e = .returned (.string (strOf (Lib.itoa at_))) ∧ Ext W w' from fun W hx => rnum_calls at_ ha W)
  have HJ := Lib.hid (fun W => rjoin4 bTag (strOf (T.hexB c)) (strOf (Lib.itoa who)) (strOf (Lib.itoa at_)) (Nat.le_trans (stT_len c hc who at_ hw ha) (by decide)) (by decide) (by rw [size_strOf]; omega) (by rw [size_strOf]; omega) (by rw [size_strOf]; omega) W)
  change Hid (∀ W : World, Calls Tryz.prog 135 #[.slice (some ⟨W.heap.size, 0, none⟩) 4 4] (W.alloc (.cells #[.string bTag, .string (strOf (T.hexB c)), .string (strOf (Lib.itoa who)), .string (strOf (Lib.itoa at_))] 9)) fun e w' => e = .returned (.string (strOf (K.stT c who at_))) ∧ Ext (W.alloc (.cells #[.string bTag, .string (strOf (T.hexB c)), .string (strOf (Lib.itoa who)), .string (strOf (Lib.itoa at_))] 9)) w') at HJ
  generalize strOf (K.stT c who at_) = TT at *
  generalize strOf (T.hexB c) = s1 at *
  generalize strOf (Lib.itoa who) = s2 at *
  generalize strOf (Lib.itoa at_) = s3 at *
  clear e1 e2 e3 hc hw ha
  go_enter Tryz.func49, Tryz.ntmps49
  go_wp2_with fail
  refine (HT.out _ (Ext.rfl' _)).mono ?_
  rintro e W1 ⟨rfl, hx⟩
  have HX := Lib.hid hx
  clear hx
  go_wp2_with fail
  refine (HN1.out _ HX.out).mono ?_
  rintro e W2 ⟨rfl, hx⟩
  replace HX := Lib.hid (HX.out.tr hx)
  clear hx
  go_wp2_with fail
  refine (HN2.out _ HX.out).mono ?_
  rintro e W3 ⟨rfl, hx⟩
  replace HX := Lib.hid (HX.out.tr hx)
  clear hx
  go_wp2_with fail
  refine (HJ.out W3).mono ?_
  rintro e W4 ⟨rfl, hx⟩
  have HY := Lib.hid (Ext.tr (HX.out.alloc (.cells #[.string bTag, .string s1, .string s2, .string s3] 9)) hx)
  clear hx
  go_wp2
  go_ret
  exact ⟨rfl, HY.out⟩
set_option maxRecDepth 100000 in
set_option maxHeartbeats 2000000 in
theorem sdigest_calls (c : Nat) (hc : c < 18446744073709551616) (who at_ : Int) (hw : I64 who) (ha : I64 at_) (w : World) (ht : TOk w) :
    Calls Tryz.prog 46 #[cU64 c, .int .i64 who, .int .i64 at_] w fun e w' => e = .returned (cU64 (K.stD c who at_)) ∧ Ext w w' := by
  have HW := Lib.hid (swords_calls c hc who at_ hw ha w ht)
  have hl := stT_len c hc who at_ hw ha
  have HO := Lib.hid (fun W => of_calls bTag (strOf (K.stT c who at_)) (by decide) (by show (K.stT c who at_).length ≤ _; omega) W)
  change Hid (∀ W : World, Calls Tryz.prog 139 #[.string bTag, .string (strOf (K.stT c who at_))] W fun e w' => e = .returned (cU64 (K.stD c who at_)) ∧ Ext W w') at HO
  clear hl hc hw ha ht
  generalize K.stD c who at_ = D at *
  generalize strOf (K.stT c who at_) = TT at *
  go_enter Tryz.func46, Tryz.ntmps46
  go_wp2_with fail
  refine HW.out.mono ?_
  rintro e W1 ⟨rfl, hx⟩
  have HX := Lib.hid hx
  clear hx
  go_wp2_with fail
  refine (HO.out _).mono ?_
  rintro e W2 ⟨rfl, hx⟩
  replace HX := Lib.hid (HX.out.tr hx)
  clear hx
  go_wp2
  go_ret
  exact ⟨rfl, HX.out⟩
set_option maxRecDepth 100000 in
set_option maxHeartbeats 2000000 in
theorem rsdigest_calls (c : Nat) (hc : c < 18446744073709551616) (who at_ : Int) (hw : I64 who) (ha : I64 at_) (w : World) :
    Calls Tryz.prog 47 #[cU64 c, .int .i64 who, .int .i64 at_] w fun e w' => e = .returned (cU64 (K.stD c who at_)) ∧ Ext w w' := by
  have HW := Lib.hid (rswords_calls c hc who at_ hw ha w)
  have hl := stT_len c hc who at_ hw ha
  have HO := Lib.hid (fun W => rof_calls bTag (strOf (K.stT c who at_)) (by decide) (by show (K.stT c who at_).length ≤ _; omega) W)
  change Hid (∀ W : World, Calls Tryz.prog 144 #[.string bTag, .string (strOf (K.stT c who at_))] W fun e w' => e = .returned (cU64 (K.stD c who at_)) ∧ Ext W w') at HO
  clear hl hc hw ha
  generalize K.stD c who at_ = D at *
  generalize strOf (K.stT c who at_) = TT at *
  go_enter Tryz.func47, Tryz.ntmps47
  go_wp2_with fail
  refine HW.out.mono ?_
  rintro e W1 ⟨rfl, hx⟩
  have HX := Lib.hid hx
  clear hx
  go_wp2_with fail
  refine (HO.out _).mono ?_
  rintro e W2 ⟨rfl, hx⟩
  replace HX := Lib.hid (HX.out.tr hx)
  clear hx
  go_wp2
  go_ret
  exact ⟨rfl, HX.out⟩
/-- Keys' cells. -/
def kyV (f : Int) (A : Option Addr) (n c : Nat) (ht : Int) : List Value := [.int .i64 f, .slice A n c, .int .i64 ht]
/-- A stamp's cells. -/
def stV (cmd : Nat) (who at_ : Int) (sg : List Value) : List Value := cU64 cmd :: .int .i64 who :: .int .i64 at_ :: sg
set_option maxRecDepth 100000 in
set_option maxHeartbeats 2000000 in
theorem qn_calls (f : Int) (hf : 0 ≤ f ∧ f ≤ 1000) (w : World) :
    Calls Tryz.prog 143 #[.agg #[.int .i64 f]] w fun e w' => e = .returned (.int .i64 (3 * f + 1)) ∧ Ext w w' := by
  have hE := (Ext.rfl' w).alloc (.cells #[.int .i64 f] 75)
  have hw1 : IntKind.i64.wrap (3 * f) = 3 * f := IntWalk.i64_in _ (by omega)
  have hw2 : IntKind.i64.wrap (3 * f + 1) = 3 * f + 1 := IntWalk.i64_in _ (by omega)
  go_enter Tryz.func143, Tryz.ntmps143
  go_wp2
  go_ret
  exact ⟨rfl, hE⟩
set_option maxRecDepth 100000 in
set_option maxHeartbeats 2000000 in
theorem swhen_calls (t : Int) (w : World) :
    Calls Tryz.prog 148 #[.int .i64 t] w fun e w' => e = .returned (.int .i64 (K.whenE t)) ∧ w = w' := by
  by_cases h1 : t < 1
  · rw [K.whenE, if_neg (by omega)]
    go_enter Tryz.func148, Tryz.ntmps148
    go_wp2
    go_ret
    exact ⟨rfl, rfl⟩
  · by_cases h2 : 1099511627776 < t
    · rw [K.whenE, if_neg (by omega)]
      go_enter Tryz.func148, Tryz.ntmps148
      go_wp2
      go_ret
      exact ⟨rfl, rfl⟩
    · rw [K.whenE, if_pos (by omega)]
      go_enter Tryz.func148, Tryz.ntmps148
      go_wp2
      go_ret
      exact ⟨rfl, rfl⟩
set_option maxRecDepth 100000 in
set_option maxHeartbeats 2000000 in
theorem swho_calls (f : Int) (hf : 0 ≤ f ∧ f ≤ 1000) (A : Option Addr) (n c : Nat) (ht who : Int) (w : World) :
    Calls Tryz.prog 147 #[.agg (kyV f A n c ht).toArray, .int .i64 who] w fun e w' => e = .returned (.int .i64 (K.whoE f who)) ∧ Ext w w' := by
  have hb := Blk.new w 77 (kyV f A n c ht)
  have hE := (Ext.rfl' w).alloc (.cells (kyV f A n c ht).toArray 77)
  have HN := Lib.hid (qn_calls f hf)
  have hrg : (w.alloc (.cells (kyV f A n c ht).toArray 77)).rangeAt w.heap.size 0 [.int .i64 f] := fun j v hj => by
    have hj0 : j = 0 := by
      have := (List.getElem?_eq_some_iff.1 hj).1
      simp at this
      exact this
    subst hj0
    cases hj
    exact hb.cell rfl
  generalize kyV f A n c ht = KV at *
  clear hb
  by_cases h1 : who < 0
  · rw [K.whoE, if_neg (by omega)]
    go_enter Tryz.func147, Tryz.ntmps147
    go_upto_region 1 with (fail)
    generalize w.alloc (.cells KV.toArray 77) = W1 at *
    clear hrg
    go_wp2
    go_ret
    exact ⟨rfl, hE⟩
  · have hge : (K.whoE f who = 0 ∧ ¬ (3 * f + 1 ≤ who)) ∨ (K.whoE f who = 1 ∧ 3 * f + 1 ≤ who) := by
      unfold K.whoE
      split <;> omega
    rcases hge with ⟨h2, h3⟩ | ⟨h2, h3⟩
    all_goals
      rw [h2]
      clear h2
      go_enter Tryz.func147, Tryz.ntmps147
      go_upto_region 1 with (fail)
      generalize w.alloc (.cells KV.toArray 77) = W1 at *
      go_wp2_with (refine wpList_load_midw (by rfl) _ _ rfl w.heap.size 0 rfl [.int .i64 f] _ hrg Tryz.underlying75 rfl rfl ?_)
      refine (HN.out _).mono ?_
      rintro e W2 ⟨rfl, hx⟩
      have HX := Lib.hid (Ext.tr hE hx)
      clear hx hrg hE
      generalize 3 * f + 1 = N at *
      go_wp2
      go_ret
      exact ⟨rfl, HX.out⟩
end Go.Proofs.YtbbgmlnfpnomiaaGreatDoor
