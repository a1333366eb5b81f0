/- strings.SplitSeq at a comma: what it hands back, and that value's word: the pieces one by one. -/
import Derived.Test.YthjldedjllkeeaaGreatDoorRange
import Derived.Outline
import Derived.Test.YthjldedjllkeeaaGreatDoorProg
import Derived.Test.YthjldedjllkeeaaGreatDoorLawN
import Derived.Test.YthjldedjllkeeaaGreatDoorShelf
import Derived.Lib.IndexLaws
set_option linter.unusedVariables false
namespace Go.Proofs.YthjldedjllkeeaaGreatDoor
open Go.RowKit Go.Shelf
abbrev comma : ByteArray := ⟨#[44]⟩
set_option maxRecDepth 100000 in
theorem splitSeq_calls (s : ByteArray) (w : World) :
    Calls Tryz.prog 170 #[.string s, .string comma, .int .i64 0] w fun e w' => e = .returned (.func (.func 190) #[] #[.pointer (some ⟨w.heap.size + 1, 0, none⟩), .pointer (some ⟨w.heap.size, 0, none⟩), .pointer (some ⟨w.heap.size + 2, 0, none⟩)]) ∧
      w' = ((w.alloc (.cells #[.string s] 9)).alloc (.cells #[.string comma] 9)).alloc (.cells #[.int .i64 0] 3) := by
  go_enter Tryz.func170, Tryz.ntmps170
  go_wp2
  go_ret
  exact ⟨rfl, rfl⟩
set_option maxRecDepth 100000 in
theorem seq_calls (s : ByteArray) (w : World) :
    Calls Tryz.prog 133 #[.string s, .string comma] w fun e w' => e = .returned (.func (.func 190) #[] #[.pointer (some ⟨w.heap.size + 1, 0, none⟩), .pointer (some ⟨w.heap.size, 0, none⟩), .pointer (some ⟨w.heap.size + 2, 0, none⟩)]) ∧
      w' = ((w.alloc (.cells #[.string s] 9)).alloc (.cells #[.string comma] 9)).alloc (.cells #[.int .i64 0] 3) := by
  go_enter Tryz.func133, Tryz.ntmps133
  go_wp2_with fail
  refine (splitSeq_calls s _).mono ?_
  rintro e w' ⟨rfl, rfl⟩
  go_wp2
  go_ret
  exact ⟨rfl, rfl⟩
/-- Pieces of a text: short enough for what reads them. -/
abbrev Pc := { x : ByteArray // x.size ≤ 1099511627776 }
abbrev encPc (x : Pc) : Array Value := #[.string x.1]
/-- The iterator's own three boxes lie as they lay. -/
def Kp3 (n₀ B : Nat) (W W' : World) : Prop := Below n₀ W W' ∧ ∀ k, B ≤ k → k < B + 3 → W'.heap[k]? = W.heap[k]?
theorem Kp3.trans {n₀ B : Nat} {X Y Z : World} (h : Kp3 n₀ B X Y) (k : Kp3 n₀ B Y Z) : Kp3 n₀ B X Z := ⟨h.1.trans k.1, fun i a b => (k.2 i a b).trans (h.2 i a b)⟩
def restOf (W : World) (B : Nat) : Nat := match W.cell? ⟨B, 0, none⟩ with
  | some (.string r) => r.size
  | _ => 0
theorem restOf_eq {W : World} {B : Nat} {r : ByteArray} (h : W.cell? ⟨B, 0, none⟩ = some (.string r)) : restOf W B = r.size := by unfold restOf; rw [h]
theorem pieces_none {r : List UInt8} (h : Lib.indexByte r 44 = -1) : J.parts r = [r] := by
  refine J.parts_one r fun c hc e => ?_
  obtain ⟨j, hj, rfl⟩ := List.mem_iff_getElem.1 hc
  exact Lib.indexByte_none h j (by rw [List.getElem?_eq_getElem hj, e])
theorem pieces_some {r : List UInt8} {o : Nat} (h : Lib.indexByte r 44 = o) : o < r.length ∧ J.parts r = r.take o :: J.parts (r.drop (o + 1)) := by
  obtain ⟨h1, h2⟩ := Lib.indexByte_some h
  obtain ⟨hlt, h3⟩ := List.getElem?_eq_some_iff.1 h1
  refine ⟨hlt, ?_⟩
  have e : r = r.take o ++ 44 :: r.drop (o + 1) := by
    conv => lhs; rw [← List.take_append_drop o r, List.drop_eq_getElem_cons hlt, h3]
  conv => lhs; rw [e]
  refine J.parts_at _ _ fun c hc e => ?_
  obtain ⟨j, hj, rfl⟩ := List.mem_iff_getElem.1 hc
  rw [List.getElem_take] at e
  rw [List.length_take] at hj
  exact h2 j (by omega) (by rw [List.getElem?_eq_getElem (by omega), e])
theorem bs_take (r : ByteArray) (o : Nat) : bs (r.extract 0 o) = (bs r).take o := by
  simp [bs, ByteArray.data_extract]
theorem bs_drop (r : ByteArray) (o : Nat) : bs (r.extract o r.size) = (bs r).drop o := by
  simp [bs, ByteArray.data_extract]
  exact List.take_of_length_le (by simp)
set_option maxRecDepth 100000 in
set_option maxHeartbeats 2000000 in
theorem pieces_in (s : ByteArray) (hs : s.size ≤ 1099511627776) (n₀ B l : Nat) (Iv Ix : List Pc → World → Prop) (W : World) (b0 : Boxed W B 9 (.string s)) (b1 : Boxed W (B + 1) 9 (.string comma)) (b2 : Boxed W (B + 2) 3 (.int .i64 0))
    (hJ : ∀ s W v, Iv s W → Iv s (W.setCell ⟨B, 0, none⟩ v))
    (hY : ∀ pre x W1, Iv pre W1 → pre.length < (J.parts (bs s)).length → YieldAt Fence.wide 2 Tryz.prog l (encPc x) W1 fun e W' =>
      (e = .returned (.bool true) ∧ Iv (pre ++ [x]) W' ∧ Kp3 n₀ B W1 W') ∨ (e = .returned (.bool false) ∧ Ix (pre ++ [x]) W')) (h0 : Iv [] W) :
   CallsIn Fence.wide 3 Tryz.prog 190 #[.func (.yield l) #[] #[], .pointer (some ⟨B + 1, 0, none⟩), .pointer (some ⟨B, 0, none⟩), .pointer (some ⟨B + 2, 0, none⟩)] W fun e W' => (∃ v, e = .returned v) ∧
      ((∃ xs, (xs.map fun x : Pc => bs x.1) = J.parts (bs s) ∧ Iv xs W') ∨ (∃ pre, (pre.map fun x : Pc => bs x.1) <+: J.parts (bs s) ∧ Ix pre W')) := by
  refine callsIn_of_wp Tryz.func190 rfl trivial ?_ rfl
  simp only [Tryz.ntmps190, List.size_toArray, List.length_cons, List.length_nil, Nat.reduceAdd, Nat.reduceSub, Array.replicate_succ, Array.replicate_zero, List.push_toArray, List.append_toArray, List.nil_append, List.cons_append]
  have c1 := b1.cell
  gi_wp2
  clear c1
  gi_loopw [7] (fun i wr => ∃ (pre : List Pc) (rest : ByteArray), (pre.map fun x : Pc => bs x.1) ++ J.parts (bs rest) = J.parts (bs s) ∧ rest.size ≤ s.size ∧ Boxed wr B 9 (.string rest) ∧ Boxed wr (B + 1) 9 (.string comma) ∧ Boxed wr (B + 2) 3 (.int .i64 0) ∧ Iv pre wr)
    (fun i wr => restOf wr B)
  case atStart => exact ⟨[], s, rfl, Nat.le_refl _, b0, b1, b2, h0⟩
  case round =>
    obtain ⟨pre, rest, hp, hle, d0, d1, d2, hj⟩ := hrel
    have e0 := d0.cell
    have e1 := d1.cell
    have e2 := d2.cell
    have f0 := d0.frozen
    have hrm : rest.size ≤ 1099511627776 := Nat.le_trans hle hs
    have hge := Lib.indexByte_ge (bs rest) 44
    have HI := Lib.hid (show ∀ w, Calls Tryz.prog 191 #[.string rest, .string comma] w fun e w' => e = .returned (.int .i64 (Lib.indexByte (bs rest) 44)) ∧ w = w' from fun w => (Tryz.strings_Index_one rest 44 w).mono fun _ _ ⟨a, b⟩ => ⟨a, b.symm⟩)
    by_cases hno : Lib.indexByte (bs rest) 44 = -1
    · have HP := Lib.hid (show (pre.map fun x : Pc => bs x.1) ++ [bs rest] = J.parts (bs s) by rw [← pieces_none hno]; exact hp)
      have hlen : pre.length < (J.parts (bs s)).length := by rw [← HP.out, List.length_append, List.length_map]; simp
      obtain ⟨fn, tmps, assign, body, hy, hR⟩ := hY pre ⟨rest, hrm⟩ wr hj hlen
      dsimp only [encPc] at hy
      have HS := Lib.hid (show ((pre ++ [(⟨rest, hrm⟩ : Pc)]).map fun x : Pc => bs x.1) = J.parts (bs s) by rw [← HP.out]; simp)
      rw [hno] at HI
      clear hp hno hge HP hlen
      gi_wp2_with fail
      refine ⟨trivial, (callsIn_wide.2 (HI.out _)).mono ?_⟩
      rintro e w' ⟨rfl, rfl⟩
      gi_wp2_with fail
      refine hR.mono ?_
      rintro e W3 (⟨rfl, hJ3, hk3⟩ | ⟨rfl, hJx3⟩)
      · gi_wp2
        go_end0
        exact ⟨⟨_, rfl⟩, .inl ⟨_, HS.out, hJ3⟩⟩
      · gi_wp2
        go_end0
        exact ⟨⟨_, rfl⟩, .inr ⟨_, by rw [HS.out]; exact List.prefix_refl _, hJx3⟩⟩
    · obtain ⟨o, ho⟩ : ∃ o : Nat, Lib.indexByte (bs rest) 44 = o := ⟨(Lib.indexByte (bs rest) 44).toNat, by omega⟩
      obtain ⟨hlt, hps⟩ := pieces_some ho
      have hlt' : o < rest.size := hlt
      have hfr : (rest.extract 0 o).size ≤ 1099511627776 := by simp; omega
      rw [hps] at hp
      have HP := Lib.hid (show ((pre ++ [(⟨rest.extract 0 o, hfr⟩ : Pc)]).map fun x : Pc => bs x.1) ++ J.parts (bs (rest.extract (o + 1) rest.size)) = J.parts (bs s) by rw [← hp, bs_drop]; simp [bs_take])
      have hlen : pre.length < (J.parts (bs s)).length := by rw [← hp]; simp
      obtain ⟨fn, tmps, assign, body, hy, hR⟩ := hY pre ⟨rest.extract 0 o, hfr⟩ wr hj hlen
      dsimp only [encPc] at hy
      rw [ho] at HI
      clear hp hno hge hlen hps ho
      gi_wp2_with fail
      refine ⟨trivial, (callsIn_wide.2 (HI.out _)).mono ?_⟩
      rintro e w' ⟨rfl, rfl⟩
      gi_wp2_with fail
      refine hR.mono ?_
      rintro e W3 (⟨rfl, hJ3, hk3⟩ | ⟨rfl, hJx3⟩)
      · have g0 : Boxed W3 B 9 (.string rest) := (hk3.2 B (by omega) (by omega)).trans d0
        have g1 : Boxed W3 (B + 1) 9 (.string comma) := (hk3.2 (B + 1) (by omega) (by omega)).trans d1
        have g2 : Boxed W3 (B + 2) 3 (.int .i64 0) := (hk3.2 (B + 2) (by omega) (by omega)).trans d2
        have e0 := g0.cell
        have e1 := g1.cell
        have e2 := g2.cell
        have f0 := g0.frozen
        gi_wp2
        go_roundw
        case rel => exact ⟨_, rest.extract (o + 1) rest.size, HP.out, by simp; omega, g0.set _, g1.kept (grownBy_setCell' _ _ _) (by simp), g2.kept (grownBy_setCell' _ _ _) (by simp), hJ _ _ _ hJ3⟩
        case measure => rw [restOf_eq d0.cell, restOf_eq (g0.set _).cell]; simp; omega
      · gi_wp2
        refine bodyPost_ret (results_none rfl _ _ _) rfl ?_
        exact ⟨⟨_, rfl⟩, .inr ⟨_, ⟨_, HP.out⟩, hJx3⟩⟩
/-- What strings.SplitSeq hands back keeps the word. -/
theorem pieces_word (s : ByteArray) (hs : s.size ≤ 1099511627776) (n₀ B : Nat) (w : World) (b0 : Boxed w B 9 (.string s)) (b1 : Boxed w (B + 1) 9 (.string comma)) (b2 : Boxed w (B + 2) 3 (.int .i64 0)) :
    IterWord 3 Tryz.prog 190 #[.pointer (some ⟨B + 1, 0, none⟩), .pointer (some ⟨B, 0, none⟩), .pointer (some ⟨B + 2, 0, none⟩)] encPc ⟨B, 0, none⟩ (Kp3 n₀ B) (fun xs => (xs.map fun x : Pc => bs x.1) = J.parts (bs s)) (fun pre => (pre.map fun x : Pc => bs x.1) <+: J.parts (bs s)) (J.parts (bs s)).length w :=
  fun l Iv Ix W hW hJ _ hY h0 => pieces_in s hs n₀ B l Iv Ix W ((hW.block _ b0.lt).trans b0) ((hW.block _ b1.lt).trans b1) ((hW.block _ b2.lt).trans b2) hJ hY h0
end Go.Proofs.YthjldedjllkeeaaGreatDoor
