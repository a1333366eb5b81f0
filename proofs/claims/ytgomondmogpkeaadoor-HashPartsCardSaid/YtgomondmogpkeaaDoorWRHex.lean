/- The walk of the reference's Hex. -/
import Derived.Test.YtgomondmogpkeaaDoorWText
import Derived.Maps.AppendAt
import Derived.Deep.DeepMust
namespace Go.Proofs.YtgomondmogpkeaaDoor
open Go.RowKit
/-- The k uppermost of sixteen digits. -/
def topN (u k : Nat) : List Nat := (List.range k).map fun j => S.dig (u / 16 ^ (15 - j) % 16)
theorem topN_succ (u k : Nat) : topN u (k + 1) = topN u k ++ [S.dig (u / 16 ^ (15 - k) % 16)] := by
  unfold topN
  rw [List.range_succ, List.map_append]
  rfl
theorem topN_len (u k : Nat) : (topN u k).length = k := by simp [topN]
theorem Tryd.infoU8 : (Tryd.prog.info? 5).map (fun i => (i.zero, i.size, i.bytes)) = some (some (.int .u8 0), 1, 1) := by kernel_rfl
abbrev digs16 : ByteArray := ⟨#[48, 49, 50, 51, 52, 53, 54, 55, 56, 57, 97, 98, 99, 100, 101, 102]⟩
theorem digs16_all : ∀ r : Fin 16, (digs16.data.toList.getD r.val 0).toNat = S.dig r.val := by decide
theorem digs16_at (r : Nat) (h : r < 16) : (digs16[r]'h).toNat = S.dig r := by
  have h1 := digs16_all ⟨r, h⟩
  rw [← h1]
  have hl : r < digs16.data.toList.length := h
  rw [List.getD_eq_getElem?_getD, List.getElem?_eq_getElem hl]
  rfl
theorem pow16 (m : Nat) : (2 : Int) ^ (4 * m) = ((16 ^ m : Nat) : Int) := by
  rw [show (16 : Nat) ^ m = 2 ^ (4 * m) from by rw [Nat.pow_mul]]
  norm_cast
abbrev cN (l : List Nat) : List Value := l.map fun (n : Nat) => Value.int .u8 (n : Int)
set_option maxHeartbeats 400000 in
set_option maxRecDepth 100000 in
theorem rhex_calls (u : Nat) (hu : u < 18446744073709551616) (w : World) :
    Calls Tryd.prog 12 #[.int .u64 (u : Int)] w fun e w' => e = .returned (.string (S.bstr (topN u 16))) ∧ Ext w w' := by
  obtain ⟨i0, hi, hz0, hz1, hz2⟩ := info_parts Tryd.infoU8
  go_enter Tryd.func12, Tryd.ntmps12
  go_wp2
  go_loopw [3, 4] (fun v i wr => ∃ k : Nat, k ≤ 16 ∧ i = .int .i64 (60 - 4 * (k : Int)) ∧ wr.ownsRow w.heap.size 5 1 v k (cN (topN u k)) ∧ Below w.heap.size w wr) (fun _ i _ => (intOf i + 4).toNat)
  case atStart => exact ⟨0, by omega, rfl, World.ownsRow_nil _ _ _ _, Below.refl _ _⟩
  case round =>
    obtain ⟨k, hk, rfl, hown, hB⟩ := hrel
    by_cases hlt : k < 16
    · have e1 : 60 - 4 * k = 4 * (15 - k) := by omega
      have hand : bits BinOp.and IntKind.u64 ((u : Int) / 2 ^ (60 - 4 * k)) 15 = ((u / 16 ^ (15 - k) % 16 : Nat) : Int) := by
        rw [e1, pow16]
        have h := u64_and_nat (u / 16 ^ (15 - k)) 15 (Nat.lt_of_le_of_lt (Nat.div_le_self _ _) hu) (by decide)
        rw [show (u / 16 ^ (15 - k)) &&& 15 = (u / 16 ^ (15 - k)) % 16 from Nat.and_two_pow_sub_one_eq_mod _ 4] at h
        rw [← h, Int.natCast_ediv]
        rfl
      have hr : u / 16 ^ (15 - k) % 16 < 16 := Nat.mod_lt _ (by decide)
      have HT := Lib.hid (topN_succ u k)
      generalize u / 16 ^ (15 - k) % 16 = r at *
      have hd := Lib.hid (digs16_at r hr)
      clear e1
      have hsz := hB.size
      go_wp2_with (at_builtin; (refine wpList_append_own _ rfl _ _ 38 rfl w.heap.size 5 i0 (.int .u8 0) 1 1 Tryd.underlying38 hi hz0 hz1 hz2 rfl (by decide) _ _ _ rfl (hown.alloc _) ⟨wr.heap.size, 0, none⟩ 1 1 [.int .u8 ((digs16[r]'hr).toNat : Int)] rfl rfl (cell_one_new _ _ _) (fun x hx => by simp at hx; subst hx; rfl) (by unfold maxLen; omega) (by omega) (by simp; omega) ?_); intro v' w1 hown' hgrow _)
      go_roundw
      case rel =>
        refine ⟨k + 1, by omega, by go_num, ?_, (hB.alloc hsz _).grown hgrow (by simp; omega) (fun q hq => (hown.lt q hq).1)⟩
        rw [HT.out, ← hd.out]
        show w1.ownsRow w.heap.size _ 1 v' (k + 1) ((topN u k ++ [_]).map _)
        rw [List.map_append]
        exact hown'
      case measure => simp [intOf]; omega
    · obtain rfl : k = 16 := by omega
      obtain ⟨g, cap, hu3⟩ : ∃ g cap, u3 = .slice (some ⟨g, 0, none⟩) 16 cap := by
        rcases hown.2 with ⟨_, h⟩ | ⟨g, cap, cur, hv, _⟩
        · omega
        · exact ⟨g, cap, hv⟩
      subst hu3
      have hcells := hown.cells (g := g) rfl
      have hlen : ((topN u 16).map (fun (n : Nat) => (n : Int))).length = 16 := by rw [List.length_map, topN_len]
      have hcv := run_convert_bytes_arg (P := Tryd.prog) wr 38 5 Tryd.underlying38 Tryd.underlying5 g 0 16 cap ((topN u 16).map (fun (n : Nat) => (n : Int))) hlen (fun i hi' => by
        have hl : i < (topN u 16).length := by rw [topN_len]; exact hi'
        have h := hcells i (.int .u8 (((topN u 16)[i] : Nat) : Int)) (by simp [hl])
        rw [show (⟨g, 0, none⟩ : Addr).add i = ⟨g, 0 + i, none⟩ from by unfold Addr.add; split <;> simp [*]] at h
        rw [h]
        simp [hl]) 9 Tryd.underlying9
      clear hcells hlen hlt
      go_wp2
      go_ret
      refine ⟨?_, hB⟩
      rw [← strOf_nat]
      rfl
end Go.Proofs.YtgomondmogpkeaaDoor
