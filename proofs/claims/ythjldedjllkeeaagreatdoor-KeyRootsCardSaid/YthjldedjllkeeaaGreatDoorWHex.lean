/- The walk of strconv's hexadecimal: formatBits at base 16. -/
import Derived.Test.YthjldedjllkeeaaGreatDoorProg
import Derived.Test.YthjldedjllkeeaaGreatDoorCore
import Derived.Test.YthjldedjllkeeaaGreatDoorSpecX
import Derived.Laws.BytesArg
import Derived.BigQuiet
import Derived.Deep.QuietTactic
namespace Go.Proofs.YthjldedjllkeeaaGreatDoor
open Go.RowKit
set_option maxHeartbeats 400000 in
theorem tz64_16 (w : World) (hc : w.cell? ⟨7, 15, none⟩ = some (.int .u8 4)) :
    Calls Tryz.prog 209 #[.int .u64 16] w fun e w' => e = .returned (.int .i64 4) ∧ w = w' := by
  have key : IntKind.u64.wrap (bits BinOp.and IntKind.u64 16 (IntKind.u64.wrap (-16)) * 285870213051353865) / 288230376151711744 = 15 := by decide +kernel
  go_enter Tryz.func209, Tryz.ntmps209
  go_wp2
  go_ret
  exact ⟨rfl, rfl⟩
set_option maxHeartbeats 400000 in
theorem tz_16 (w : World) (hc : w.cell? ⟨7, 15, none⟩ = some (.int .u8 4)) :
    Calls Tryz.prog 199 #[.int .u64 16] w fun e w' => e = .returned (.int .i64 4) ∧ w = w' := by
  go_enter Tryz.func199, Tryz.ntmps199
  go_wp2_with (go_at_call 209; refine (tz64_16 _ hc).mono ?_; rintro e w' ⟨rfl, rfl⟩)
  go_ret
  exact ⟨rfl, rfl⟩
set_option maxHeartbeats 400000 in
theorem pow2_16 (w : World) :
    Calls Tryz.prog 198 #[.int .i64 16] w fun e w' => e = .returned (.bool true) ∧ w = w' := by
  go_enter Tryz.func198, Tryz.ntmps198
  go_wp2
  go_ret
  exact ⟨rfl, rfl⟩
/-- A block that is just these cells, none frozen. -/
def BkX (w : World) (g : Nat) (t : TypeId) (cs : List Value) : Prop := w.heap[g]? = some (.cells cs.toArray t (0, 0))
section
variable {w w' : World} {g : Nat} {t : TypeId} {cs : List Value}
theorem BkX.cell (h : BkX w g t cs) (j : Nat) : w.cell? ⟨g, j, none⟩ = cs[j]? := by
  unfold BkX at h
  simp [World.cell?, h]
theorem BkX.free (h : BkX w g t cs) (j : Nat) : w.frozen? ⟨g, j, none⟩ = false := by
  unfold BkX at h
  simp [World.frozen?, h]
theorem BkX.set (h : BkX w g t cs) (j : Nat) (u : Value) : BkX (w.setCell ⟨g, j, none⟩ u) g t (cs.set j u) := by
  unfold BkX at *
  simp [World.setCell, Array.getElem?_modify, h]
theorem BkX.new (w : World) (cs : List Value) (t : TypeId) : BkX (w.alloc (.cells cs.toArray t)) w.heap.size t cs := by
  unfold BkX
  show (w.heap.push _)[w.heap.size]? = _
  simp
theorem BkX.below (h : BkX w g t cs) {B : Nat} (hg : g < B) (k : Below B w w') : BkX w' g t cs := by
  unfold BkX at *
  rw [k.block g hg]; exact h
end
abbrev digs : ByteArray := ⟨#[48, 49, 50, 51, 52, 53, 54, 55, 56, 57, 97, 98, 99, 100, 101, 102, 103, 104, 105, 106, 107, 108, 109, 110, 111, 112, 113, 114, 115, 116, 117, 118, 119, 120, 121, 122]⟩
theorem digs_all : ∀ r : Fin 16, (digs.data.toList.getD r.val 0).toNat = S.dig r.val := by decide
theorem digs_at (r : Nat) (h : r < 16) : (digs[r]'(Nat.lt_trans h (by decide))).toNat = S.dig r := by
  have h1 := digs_all ⟨r, h⟩
  rw [← h1]
  have hl : r < digs.data.toList.length := Nat.lt_trans h (by decide)
  rw [List.getD_eq_getElem?_getD, List.getElem?_eq_getElem hl]
  rfl
theorem drop_set (cs : List Value) (j : Nat) (u : Value) (h : j < cs.length) : (cs.set j u).drop j = u :: cs.drop (j + 1) := by
  rw [List.drop_eq_getElem_cons (by rw [List.length_set]; exact h), List.getElem_set_self, List.drop_set_of_lt (by omega)]
set_option maxHeartbeats 400000 in
set_option maxRecDepth 100000 in
theorem fmtbits (u : Nat) (hu : u < 18446744073709551616) (w : World) (hc : w.cell? ⟨7, 15, none⟩ = some (.int .u8 4)) :
    Calls Tryz.prog 177 #[.slice none 0 0, .int .u64 (u : Int), .int .i64 16, .bool false, .bool false] w fun e w' => e = .returned (.tuple #[.slice none 0 0, .string (strOfNums (List.map (fun (n : Nat) => (n : Int)) (S.hexA u)))]) ∧ Ext w w' := by
  have hc2 := ((Ext.rfl' w).alloc (.cells Tryz.zeroCells283 283)).cell hc
  go_enter Tryz.func177, Tryz.ntmps177
  go_wp2_with (first | (go_at_call 198; refine (pow2_16 _).mono ?_; rintro e w' ⟨rfl, rfl⟩) | (go_at_call 199; refine (tz_16 _ hc2).mono ?_; rintro e w' ⟨rfl, rfl⟩))
  go_loopw [1, 13] (fun a b wr => ∃ (v i : Nat) (D : List Nat) (cs : List Value), a = .int .u64 (v : Int) ∧ b = .int .i64 (i : Int) ∧ S.hexA u = S.hexA v ++ D ∧ D.length + i = 65 ∧ cs.length = 65 ∧ cs.drop i = D.map (fun (n : Nat) => .int .u8 (n : Int)) ∧ v ≤ u ∧ BkX wr w.heap.size 283 cs ∧ Below w.heap.size w wr) (fun a _ _ => (intOf a).toNat)
  case atStart =>
    have hz : Tryz.zeroCells283.toList.length = 65 := by kernel_rfl
    exact ⟨u, 65, [], Tryz.zeroCells283.toList, rfl, rfl, by simp, rfl, hz, by rw [List.drop_of_length_le (by omega)]; rfl, Nat.le_refl _, BkX.new w _ _, (Below.refl _ _).alloc (Nat.le_refl _) _⟩
  case round =>
    obtain ⟨v, i, D, cs, rfl, rfl, hh, hD, hcs, hdr, hv, hb, hB⟩ := hrel
    have hl := S.hexA_len 15 u (by omega)
    have hp := S.hexA_pos v
    have hi : 50 ≤ i := by rw [hh, List.length_append] at hl; omega
    have hi2 : i ≤ 65 := by omega
    have hf := hb.free
    have hcell : ∀ j, wr.cell? ⟨w.heap.size, j, none⟩ = cs[j]? := hb.cell
    obtain ⟨j, rfl⟩ : ∃ j, i = j + 1 := ⟨i - 1, by omega⟩
    have hold := hcell j
    have hfj := hf j
    rw [List.getElem?_eq_getElem (show j < cs.length by omega)] at hold
    generalize cs[j] = old at hold
    clear hcell hf
    have HH := Lib.hid hh
    have HD := Lib.hid hD
    have HC := Lib.hid hcs
    have HR := Lib.hid hdr
    clear hh hD hcs hdr
    by_cases hlt : 16 ≤ v
    · have hand : bits BinOp.and IntKind.u64 (v : Int) 15 = ((v % 16 : Nat) : Int) := by
        have h := u64_and_nat v 15 (by omega) (by decide)
        rw [show v &&& 15 = v % 16 from Nat.and_two_pow_sub_one_eq_mod v 4] at h
        exact h
      have hr : v % 16 < 16 := by omega
      generalize hM : v % 16 = r at *
      have HM := Lib.hid hM
      clear hM
      go_wp2
      have hdg := digs_at r hr
      refine ⟨⟨v / 16, j, S.dig r :: D, cs.set j _, by simp, rfl, ?_, ?_, ?_, ?_, by omega, hb.set j _, hB.setCell (Nat.le_refl _) _⟩, ?_⟩
      · rw [HH.out, S.hexA_big hlt, HM.out, List.append_assoc]; rfl
      · have := HD.out; simp only [List.length_cons]; omega
      · rw [List.length_set]; exact HC.out
      · have h := HR.out
        have hlen := HC.out
        rw [drop_set cs j _ (by omega), h, List.map_cons]
        exact congrArg (fun n : Nat => Value.int .u8 (n : Int) :: List.map (fun (n : Nat) => Value.int .u8 (n : Int)) D) hdg
      · simp [intOf]; omega
    · have hdg := Lib.hid (digs_at v (by omega))
      have hj1 : j ≤ 65 := by omega
      have hj2 : (j : Int) ≤ 65 := by omega
      have hj3 : (65 = j) = False := by simp; omega
      have hv36 : v < 36 := by omega
      have hb2 := Lib.hid (hb.set j (.int .u8 ((digs[v]'hv36).toNat : Int)))
      have hB2 := Lib.hid (hB.setCell (p := ⟨w.heap.size, j, none⟩) (Nat.le_refl _) (.int .u8 ((digs[v]'hv36).toNat : Int)))
      have hlen : ((S.dig v :: D).map (fun (n : Nat) => (n : Int))).length = 65 - j := by have := HD.out; simp; omega
      have hcells : ∀ i, i < 65 - j → (wr.setCell ⟨w.heap.size, j, none⟩ (.int .u8 ((digs[v]'hv36).toNat : Int))).cell? ⟨w.heap.size, j + i, none⟩ = some (.int .u8 (((S.dig v :: D).map (fun (n : Nat) => (n : Int))).getD i 0)) := by
        intro i hi'
        rw [hb2.out.cell (j + i), ← List.getElem?_drop, drop_set cs j _ (by have := HC.out; omega), HR.out]
        cases i with
        | zero => exact congrArg (fun n : Nat => some (Value.int .u8 (n : Int))) hdg.out
        | succ i =>
          have hl2 : i < D.length := by have := HD.out; omega
          simp [hl2]
      have hconv := run_convert_bytes_arg (P := Tryz.prog) _ 82 5 Tryz.underlying82 Tryz.underlying5 w.heap.size j (65 - j) (65 - j) _ hlen hcells 9 Tryz.underlying9
      have HF := Lib.hid (show (S.dig v :: D) = S.hexA u by rw [HH.out, S.hexA_small (by omega)]; rfl)
      clear hcells hlen
      go_wp2
      refine bodyPost_ret (by simp [results, Tryz.results177, go_sem]; rfl) rfl ?_
      refine ⟨?_, hB2.out⟩
      rw [← HF.out]
      rfl
end Go.Proofs.YthjldedjllkeeaaGreatDoor
