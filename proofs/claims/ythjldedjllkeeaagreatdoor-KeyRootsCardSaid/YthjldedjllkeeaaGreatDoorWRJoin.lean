/- The walk of the reference's Join. -/
import Derived.Test.YthjldedjllkeeaaGreatDoorWJoin
import Derived.Maps.AppendAt
import Derived.Deep.DeepMust
import Derived.Test.YthjldedjllkeeaaGreatDoorBytes
namespace Go.Proofs.YthjldedjllkeeaaGreatDoor
open Go.RowKit
abbrev bC (l : List UInt8) : List Value := Lib.byteCells l
set_option maxHeartbeats 2000000 in
set_option maxRecDepth 100000 in
theorem rjoin_calls (l : List ByteArray) (A : Option Addr) (c : Nat) (w : World) (hA : Rd w A (cStrs l)) (hl : (J.join (l.map bs)).length ≤ 140737488355328) (hn : l.length ≤ 9223372036854775807) (hs : ∀ s ∈ l, s.size ≤ 9223372036854775807) :
    Calls Tryz.prog 87 #[.slice A l.length c] w fun e w' => e = .returned (.string ⟨(J.join (l.map bs)).toArray⟩) ∧ Ext w w' := by
  obtain ⟨i0, hi, hz0, hz1, hz2⟩ := info_parts bByte
  have HA := Lib.hid hA
  clear hA
  go_enter Tryz.func87, Tryz.ntmps87
  go_wp2
  go_loopw [3, 4] (fun v i wr => ∃ k : Nat, k ≤ l.length ∧ i = .int .i64 k ∧ wr.ownsRow w.heap.size tU8 1 v (J.join ((l.map bs).take k)).length (bC (J.join ((l.map bs).take k))) ∧ Below w.heap.size w wr) (fun _ i _ => l.length - (intOf i).toNat)
  case atStart => exact ⟨0, by omega, rfl, World.ownsRow_nil _ _ _ _, Below.refl _ _⟩
  case round =>
    obtain ⟨k, hk, rfl, hown, hB⟩ := hrel
    by_cases hlt : k < l.length
    · obtain ⟨ad, rfl, hab, hc⟩ := (HA.out.below (Nat.le_refl _) hB).at_ (j := k) (u := .string l[k]) (by simp [hlt])
      have hps : ∀ j, (J.pre (l.map bs) k j (bs l[k])).length ≤ 140737488355328 := fun j => by
        have := J.pre_len (l.map bs) k j (by simpa using hlt)
        rw [List.getElem_map] at this
        exact Nat.le_trans this hl
      have hsn := J.join_snoc (l.map bs) k (by simpa using hlt)
      rw [List.getElem_map] at hsn
      have HP := Lib.hid hps
      have HSN := Lib.hid hsn
      have hss := hs l[k] (by simp)
      have hlk : (cStrs l)[k]? = some (.string l[k]) := by simp [hlt]
      have HLK := Lib.hid hlk
      generalize hs0 : l[k] = s at *
      have hp0 := hps 0
      rw [J.pre_zero, List.length_append] at hp0
      simp only [List.length_singleton] at hp0
      have hz := J.pre_zero (l.map bs) k (bs s)
      have HZ := Lib.hid hz
      clear hz hps hsn hlk
      generalize J.join (List.take k (List.map bs l)) = p at *
      have hsz := hB.size
      go_wp2_with (at_builtin; (refine wpList_append_own _ rfl _ _ 82 rfl w.heap.size tU8 i0 (.int .u8 0) 1 1 Tryz.underlying82 hi hz0 hz1 hz2 rfl (by decide) _ _ _ rfl (hown.alloc _) ⟨wr.heap.size, 0, none⟩ 1 1 [.int .u8 124] rfl rfl (cell_one_new _ _ _) (fun x hx => by simp at hx; subst hx; rfl) (by unfold maxLen; omega) (by omega) (by simp; omega) ?_); intro v' w1 hown' hgrow _)
      have hB1 : Below w.heap.size w w1 := (hB.alloc hsz _).grown hgrow (by simp; omega) (fun q hq => (hown.lt q hq).1)
      have hown1 : w1.ownsRow w.heap.size tU8 1 v' (J.pre (l.map bs) k 0 (bs s)).length (bC (J.pre (l.map bs) k 0 (bs s))) := by
        rw [HZ.out]
        simpa [bC, Lib.byteCells] using hown'
      have HB1 := Lib.hid hB1
      have HO1 := Lib.hid hown1
      clear hown' hgrow hB1 hown1 hown hB hc
      go_wp2
      go_loopw [3, 5, 6] (fun v i _ wr => ∃ j : Nat, j ≤ (bs s).length ∧ i = .int .i64 j ∧ wr.ownsRow w.heap.size tU8 1 v (J.pre (l.map bs) k j (bs s)).length (bC (J.pre (l.map bs) k j (bs s))) ∧ Below w.heap.size w wr) (fun _ i _ _ => (bs s).length - (intOf i).toNat)
      case atStart => exact ⟨0, by omega, rfl, HO1.out, HB1.out⟩
      case round =>
        obtain ⟨j, hj, rfl, hown, hB⟩ := hrel
        obtain ⟨ad2, e2, _, hc⟩ := (HA.out.below (Nat.le_refl _) hB).at_ HLK.out
        injection e2 with e2
        subst e2
        by_cases hjt : j < (bs s).length
        · have hix : ∀ w, (Instr.index 9 (.string s) (.int .i64 j)).run Tryz.prog w = .ok (cU8 (bs s)[j]) w := by
            intro w
            have hjt' : j < s.size := hjt
            simp [go_sem, hjt']
            rfl
          have hes := J.pre_snoc (l.map bs) k j (bs s) hjt
          generalize hcc : (bs s)[j] = c8 at *
          have hp1 := HP.out (j + 1)
          rw [hes] at hp1
          have HES := Lib.hid hes
          clear hes hcc
          have hszr := hB.size
          have hp2 := HP.out j
          generalize hp1e : J.pre (l.map bs) k j (bs s) = p1 at *
          rcases special_cases c8 with ⟨h1, he⟩ | ⟨h1, h2, he⟩ | ⟨h1, h2, he⟩
          ·
            rw [he, List.length_append] at hp1
            simp only [List.length_cons, List.length_nil] at hp1
            have HE := Lib.hid he
            clear he
            go_wp2_with (at_builtin; first | ((refine wpList_append_own _ rfl _ _ 82 rfl w.heap.size tU8 i0 (.int .u8 0) 1 1 Tryz.underlying82 hi hz0 hz1 hz2 rfl (by decide) _ _ _ rfl (hown.alloc _) ⟨wr.heap.size, 0, none⟩ 1 1 [.int .u8 92] rfl rfl (cell_one_new _ _ _) (fun x hx => by simp at hx; subst hx; rfl) (by unfold maxLen; omega) (by omega) (by simp; omega) ?_); intro v2 w2 hown' hgrow _; have hB2 : Below w.heap.size w w2 := (hB.alloc hszr _).grown hgrow (by simp; omega) (fun q hq => (hown.lt q hq).1); have hsz2 := hB2.size; have hown2 : w2.ownsRow w.heap.size tU8 1 v2 (p1.length + 1) (bC (p1 ++ [92])) := (by simpa [bC, Lib.byteCells] using hown'); clear hown' hgrow) | ((refine wpList_append_own _ rfl _ _ 82 rfl w.heap.size tU8 i0 (.int .u8 0) 1 1 Tryz.underlying82 hi hz0 hz1 hz2 rfl (by decide) _ _ _ rfl (hown2.alloc _) ⟨w2.heap.size, 0, none⟩ 1 1 [.int .u8 (c8.toNat : Int)] rfl rfl (cell_one_new _ _ _) (fun x hx => by simp at hx; subst hx; rfl) (by unfold maxLen; omega) (by omega) (by simp; omega) ?_); intro v3 w3 hown' hgrow _))
            have hB3 : Below w.heap.size w w3 := (hB2.alloc hsz2 _).grown hgrow (by simp; omega) (fun q hq => (hown2.lt q hq).1)
            have hsz3 := hB3.size
            have hown3 : w3.ownsRow w.heap.size tU8 1 v3 (p1 ++ [92, c8]).length (bC (p1 ++ [92, c8])) := by
              simpa [bC, Lib.byteCells] using hown'
            clear hown' hgrow
            have HO3 := Lib.hid hown3
            have HB3 := Lib.hid hB3
            clear hown3 hB3 hown2 hB2 hown hB
            go_wp2
            go_roundw
            case rel => exact ⟨j + 1, hjt, by go_num, by rw [HES.out, HE.out]; exact HO3.out, HB3.out⟩
            case measure => simp [intOf]; omega
          ·
            rw [he, List.length_append] at hp1
            simp only [List.length_cons, List.length_nil] at hp1
            have HE := Lib.hid he
            clear he
            go_wp2_with (at_builtin; first | ((refine wpList_append_own _ rfl _ _ 82 rfl w.heap.size tU8 i0 (.int .u8 0) 1 1 Tryz.underlying82 hi hz0 hz1 hz2 rfl (by decide) _ _ _ rfl (hown.alloc _) ⟨wr.heap.size, 0, none⟩ 1 1 [.int .u8 92] rfl rfl (cell_one_new _ _ _) (fun x hx => by simp at hx; subst hx; rfl) (by unfold maxLen; omega) (by omega) (by simp; omega) ?_); intro v2 w2 hown' hgrow _; have hB2 : Below w.heap.size w w2 := (hB.alloc hszr _).grown hgrow (by simp; omega) (fun q hq => (hown.lt q hq).1); have hsz2 := hB2.size; have hown2 : w2.ownsRow w.heap.size tU8 1 v2 (p1.length + 1) (bC (p1 ++ [92])) := (by simpa [bC, Lib.byteCells] using hown'); clear hown' hgrow) | ((refine wpList_append_own _ rfl _ _ 82 rfl w.heap.size tU8 i0 (.int .u8 0) 1 1 Tryz.underlying82 hi hz0 hz1 hz2 rfl (by decide) _ _ _ rfl (hown2.alloc _) ⟨w2.heap.size, 0, none⟩ 1 1 [.int .u8 (c8.toNat : Int)] rfl rfl (cell_one_new _ _ _) (fun x hx => by simp at hx; subst hx; rfl) (by unfold maxLen; omega) (by omega) (by simp; omega) ?_); intro v3 w3 hown' hgrow _))
            have hB3 : Below w.heap.size w w3 := (hB2.alloc hsz2 _).grown hgrow (by simp; omega) (fun q hq => (hown2.lt q hq).1)
            have hsz3 := hB3.size
            have hown3 : w3.ownsRow w.heap.size tU8 1 v3 (p1 ++ [92, c8]).length (bC (p1 ++ [92, c8])) := by
              simpa [bC, Lib.byteCells] using hown'
            clear hown' hgrow
            have HO3 := Lib.hid hown3
            have HB3 := Lib.hid hB3
            clear hown3 hB3 hown2 hB2 hown hB
            go_wp2
            go_roundw
            case rel => exact ⟨j + 1, hjt, by go_num, by rw [HES.out, HE.out]; exact HO3.out, HB3.out⟩
            case measure => simp [intOf]; omega
          ·
            rw [he, List.length_append] at hp1
            simp only [List.length_cons, List.length_nil] at hp1
            have HE := Lib.hid he
            clear he
            go_wp2_with (at_builtin; (refine wpList_append_own _ rfl _ _ 82 rfl w.heap.size tU8 i0 (.int .u8 0) 1 1 Tryz.underlying82 hi hz0 hz1 hz2 rfl (by decide) _ _ _ rfl (hown.alloc _) ⟨wr.heap.size, 0, none⟩ 1 1 [.int .u8 (c8.toNat : Int)] rfl rfl (cell_one_new _ _ _) (fun x hx => by simp at hx; subst hx; rfl) (by unfold maxLen; omega) (by omega) (by simp; omega) ?_); intro v3 w3 hown' hgrow _)
            have hB3 : Below w.heap.size w w3 := (hB.alloc hszr _).grown hgrow (by simp; omega) (fun q hq => (hown.lt q hq).1)
            have hsz3 := hB3.size
            have hown3 : w3.ownsRow w.heap.size tU8 1 v3 (p1 ++ [c8]).length (bC (p1 ++ [c8])) := by
              simpa [bC, Lib.byteCells] using hown'
            clear hown' hgrow
            have HO3 := Lib.hid hown3
            have HB3 := Lib.hid hB3
            clear hown3 hB3 hown hB
            go_wp2
            go_roundw
            case rel => exact ⟨j + 1, hjt, by go_num, by rw [HES.out, HE.out]; exact HO3.out, HB3.out⟩
            case measure => simp [intOf]; omega
        · obtain rfl : j = (bs s).length := by omega
          have HB4 := Lib.hid hown
          have HB5 := Lib.hid hB
          clear hown hB
          go_wp2
          go_roundw
          case rel => exact ⟨k + 1, hlt, by go_num, by rw [HSN.out]; exact HB4.out, HB5.out⟩
          case measure => simp [intOf]; omega
    · obtain rfl : k = l.length := by omega
      rw [List.take_of_length_le (by simp)] at hown
      obtain ⟨A2, c2, rfl, hr⟩ := rd_of_own hown
      have hcv := run_str (P := Tryz.prog) wr A2 _ c2 82 tU8 9 Tryz.underlying82 Tryz.underlying5 Tryz.underlying9 hr
      have HB5 := Lib.hid hB
      clear hown hB hr
      go_wp2
      go_ret
      exact ⟨rfl, HB5.out⟩
end Go.Proofs.YthjldedjllkeeaaGreatDoor
