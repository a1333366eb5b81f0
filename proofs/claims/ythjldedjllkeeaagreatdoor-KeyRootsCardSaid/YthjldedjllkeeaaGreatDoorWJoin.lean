/- The walk of field.Join. -/
import Derived.Test.YthjldedjllkeeaaGreatDoorWBld
import Derived.Test.YthjldedjllkeeaaGreatDoorSpecJ
import Derived.Lib.ConvBytes
namespace Go.Proofs.YthjldedjllkeeaaGreatDoor
open Go.RowKit
abbrev bs (s : ByteArray) : List UInt8 := s.data.toList
abbrev cStrs (l : List ByteArray) : List Value := l.map Value.string
abbrev cBs (s : ByteArray) : List Value := (bs s).map cU8
theorem special_out {c : UInt8} : J.special c = true ↔ (c.toNat : Int) = 124 ∨ (c.toNat : Int) = 92 := by
  unfold J.special
  simp only [Bool.or_eq_true, beq_iff_eq]
  constructor
  · rintro (h | h) <;> subst h
    · exact .inl rfl
    · exact .inr rfl
  · rintro (h | h)
    · exact .inl (UInt8.toNat_inj.1 (by have : c.toNat = 124 := by omega
                                        exact this))
    · exact .inr (UInt8.toNat_inj.1 (by have : c.toNat = 92 := by omega
                                        exact this))
theorem special_cases (c : UInt8) : (((c.toNat : Int) == 124) = true ∧ J.esc1 c = [92, c]) ∨ (((c.toNat : Int) == 124) = false ∧ ((c.toNat : Int) == 92) = true ∧ J.esc1 c = [92, c]) ∨ (((c.toNat : Int) == 124) = false ∧ ((c.toNat : Int) == 92) = false ∧ J.esc1 c = [c]) := by
  unfold J.esc1
  have h := special_out (c := c)
  by_cases h1 : (c.toNat : Int) = 124
  · exact .inl ⟨by simpa using h1, by rw [h.2 (.inl h1)]; rfl⟩
  · by_cases h2 : (c.toNat : Int) = 92
    · exact .inr (.inl ⟨by simpa using h1, by simpa using h2, by rw [h.2 (.inr h2)]; rfl⟩)
    · refine .inr (.inr ⟨by simpa using h1, by simpa using h2, ?_⟩)
      rw [if_neg]
      intro e
      rcases h.1 e with e | e
      · exact h1 e
      · exact h2 e
/-- A new row of a string's bytes. -/
theorem bytesWorld_rd (w : World) (e : TypeId) (s : ByteArray) : Rd (Lib.bytesWorld w e s) (some ⟨w.heap.size, 0, none⟩) (cBs s) := by
  refine .inr ⟨_, rfl, by rw [Lib.bytesWorld_size]; exact Nat.lt_succ_self _, fun j hj => ?_⟩
  have hj' : j < s.size := by rw [List.length_map] at hj; exact hj
  rw [show (⟨w.heap.size, 0, none⟩ : Addr).add j = ⟨w.heap.size, j, none⟩ from by unfold Addr.add; split <;> simp [*]]
  rw [Lib.bytesWorld_cell w e s j hj']
  have : j < s.data.toList.length := by simpa using hj'
  simp [List.getD, hj']
theorem bytesWorld_ext (w : World) (e : TypeId) (s : ByteArray) : Ext w (Lib.bytesWorld w e s) :=
  ⟨rfl, rfl, rfl, by rw [Lib.bytesWorld_size]; omega, fun k hk => Lib.bytesWorld_at_old w e s k hk⟩
/-- '[]byte(s)': a new block of its own that reads as the string's bytes. -/
theorem run_bytes_at (w : World) (s : ByteArray) : ∃ w1 c, (convert 9 82 (.string s)).run Tryz.prog w = .ok (.slice (some ⟨w.heap.size, 0, none⟩) (bs s).length c) w1 ∧ Ext w w1 ∧ w.heap.size < w1.heap.size ∧ Rd w1 (some ⟨w.heap.size, 0, none⟩) (cBs s) :=
  ⟨_, _, by rw [show (bs s).length = s.size from rfl]; exact Lib.run_convert_string_bytes w 9 82 5 s (u := .string) Tryz.underlying9 Tryz.underlying82 Tryz.underlying5, bytesWorld_ext _ _ _, by rw [Lib.bytesWorld_size]; exact Nat.lt_succ_self _, bytesWorld_rd _ _ _⟩
theorem Rd.block {w w' : World} {K : Nat} {xs : List Value} (h : Rd w (some ⟨K, 0, none⟩) xs) (hk : w'.heap[K]? = w.heap[K]?) (hs : w.heap.size ≤ w'.heap.size) : Rd w' (some ⟨K, 0, none⟩) xs := by
  rcases h with h | ⟨ad, e, hb, hc⟩
  · exact .inl h
  · injection e with e
    subst e
    refine .inr ⟨_, rfl, Nat.lt_of_lt_of_le hb hs, fun j hj => ?_⟩
    rw [← hc j hj]
    exact World.cell?_of_block (by rw [add_block]; exact hk)
set_option maxHeartbeats 1000000 in
set_option maxRecDepth 100000 in
theorem join_calls (l : List ByteArray) (A : Option Addr) (c : Nat) (w : World) (hA : Rd w A (cStrs l)) (hl : (J.join (l.map bs)).length ≤ 140737488355328) (hn : l.length ≤ 9223372036854775807) (hs : ∀ s ∈ l, s.size ≤ 9223372036854775807) :
    Calls Tryz.prog 83 #[.slice A l.length c] w fun e w' => e = .returned (.string ⟨(J.join (l.map bs)).toArray⟩) ∧ Ext w w' := by
  have HA := Lib.hid hA
  clear hA
  go_enter Tryz.func83, Tryz.ntmps83
  go_wp2
  go_loopw [10] (fun i wr => ∃ k : Nat, k ≤ l.length ∧ i = .int .i64 k ∧ Lib.IsBuilder tB tU8 w.heap.size w.heap.size (Lib.byteCells (J.join ((l.map bs).take k))) wr ∧ Below w.heap.size w wr) (fun i _ => l.length - (intOf i).toNat)
  case atStart => exact ⟨0, by omega, rfl, Lib.fresh_isBuilder _ _ _, (Below.refl _ _).alloc (Nat.le_refl _) _⟩
  case round =>
    obtain ⟨k, hk, rfl, hb, hB⟩ := hrel
    by_cases hlt : k < l.length
    · obtain ⟨ad, rfl, _, hc⟩ := (HA.out.below (Nat.le_refl _) hB).at_ (j := k) (u := .string l[k]) (by simp [hlt])
      have hps : ∀ j, (J.pre (l.map bs) k j (bs l[k])).length ≤ 140737488355328 := fun j => by
        have := J.pre_len (l.map bs) k j (by simpa using hlt)
        rw [List.getElem_map] at this
        exact Nat.le_trans this hl
      have hsn := J.join_snoc (l.map bs) k (by simpa using hlt)
      rw [List.getElem_map] at hsn
      have HP := Lib.hid hps
      have HSN := Lib.hid hsn
      have hss := hs l[k] (by simp)
      generalize hs0 : l[k] = s at *
      have HBL := Lib.hid hb
      have HB := Lib.hid hB
      clear hb hB hps hsn
      go_wp2_with fail
      refine (wbyte_calls _ _ _ 124 124 rfl _ HBL.out (by have := HP.out 0; rw [J.pre_zero, List.length_append] at this; exact this) HB.out.size).mono ?_
      rintro e w1 ⟨rfl, hb1, hB1, -⟩
      rw [← J.pre_zero (l.map bs) k (bs s)] at hb1
      have hB2 := HB.out.trans hB1
      obtain ⟨w2, c2, hcv, hx, hsz, hr⟩ := run_bytes_at w1 s
      have hb2 := isBuilder_kept hb1 hx.block
      have hn2 := notOwn_new hb1 hx.block (Nat.le_refl _)
      have hB3 := hB2.trans (hx.mono hB2.size)
      have hKb : w1.heap.size ≠ w.heap.size := fun e => by have := isBuilder_lt hb1; omega
      generalize w1.heap.size = K at *
      have HR := Lib.hid hr
      have HBL2 := Lib.hid hb2
      have HN := Lib.hid hn2
      have HB3 := Lib.hid hB3
      clear hr hb2 hn2 hB3 hB2 hx hb1 hB1 HBL HB
      go_wp2
      go_loopw [18] (fun i wr => ∃ j : Nat, j ≤ (bs s).length ∧ i = .int .i64 j ∧ Lib.IsBuilder tB tU8 w.heap.size w.heap.size (Lib.byteCells (J.pre (l.map bs) k j (bs s))) wr ∧ Below w.heap.size w wr ∧ K < wr.heap.size ∧ NotOwn wr w.heap.size K ∧ Rd wr (some ⟨K, 0, none⟩) (cBs s)) (fun i _ => (bs s).length - (intOf i).toNat)
      case atStart => exact ⟨0, by omega, rfl, HBL2.out, HB3.out, hsz, HN.out, HR.out⟩
      case round =>
        obtain ⟨j, hj, rfl, hb, hB, hKs, hN, hR⟩ := hrel
        by_cases hjt : j < (bs s).length
        · obtain ⟨ad2, e2, _, hcj⟩ := hR.at_ (j := j) (u := cU8 (bs s)[j]) (by rw [List.getElem?_map, List.getElem?_eq_getElem hjt]; rfl)
          injection e2 with e2
          subst e2
          rw [show (⟨K, 0, none⟩ : Addr).add j = ⟨K, j, none⟩ from by unfold Addr.add; split <;> simp [*]] at hcj
          have hes := J.pre_snoc (l.map bs) k j (bs s) hjt
          generalize hcc : (bs s)[j] = c8 at *
          have HES := Lib.hid hes
          have HBJ := Lib.hid hb
          have HBB := Lib.hid hB
          have HNN := Lib.hid hN
          have HRR := Lib.hid hR
          clear hes hb hB hN hR hcc
          have hp1 := HP.out (j + 1)
          rw [HES.out] at hp1
          rcases special_cases c8 with ⟨h1, he⟩ | ⟨h1, h2, he⟩ | ⟨h1, h2, he⟩
          ·
            rw [he] at hp1
            go_wp2_with fail
            refine (wbyte_calls _ _ _ 92 92 rfl _ HBJ.out (by rw [List.length_append] at hp1; simp at hp1; omega) HBB.out.size).mono ?_
            rintro e w3 ⟨rfl, hb, hB, hk3⟩
            obtain ⟨hk4, hk5⟩ := hk3.2 K hKs hKb HNN.out
            have HBJ2 := Lib.hid hb
            have HBB2 := Lib.hid (HBB.out.trans hB)
            have HRR2 := Lib.hid (HRR.out.block hk4 hk3.1)
            have HNN2 := Lib.hid hk5
            have hKs2 := Nat.lt_of_lt_of_le hKs hk3.1
            clear hb hB hk3 hk4 hk5
            go_wp2_with fail
            refine (wbyte_calls _ _ _ c8 _ rfl _ HBJ2.out (by rw [List.length_append] at hp1 ⊢; simp at hp1 ⊢; omega) HBB2.out.size).mono ?_
            rintro e w4 ⟨rfl, hb, hB, hk3⟩
            obtain ⟨hk4, hk5⟩ := hk3.2 K hKs2 hKb HNN2.out
            have HBJ3 := Lib.hid hb
            have HBB3 := Lib.hid (HBB2.out.trans hB)
            have HRR3 := Lib.hid (HRR2.out.block hk4 hk3.1)
            have HNN3 := Lib.hid hk5
            have hKs3 := Nat.lt_of_lt_of_le hKs2 hk3.1
            clear hb hB hk3 hk4 hk5
            go_wp2
            go_roundw
            case rel => exact ⟨j + 1, hjt, by go_num, by rw [HES.out, he]; simpa using HBJ3.out, HBB3.out, hKs3, HNN3.out, HRR3.out⟩
            case measure => simp [intOf]; omega
          ·
            rw [he] at hp1
            go_wp2_with fail
            refine (wbyte_calls _ _ _ 92 92 rfl _ HBJ.out (by rw [List.length_append] at hp1; simp at hp1; omega) HBB.out.size).mono ?_
            rintro e w3 ⟨rfl, hb, hB, hk3⟩
            obtain ⟨hk4, hk5⟩ := hk3.2 K hKs hKb HNN.out
            have HBJ2 := Lib.hid hb
            have HBB2 := Lib.hid (HBB.out.trans hB)
            have HRR2 := Lib.hid (HRR.out.block hk4 hk3.1)
            have HNN2 := Lib.hid hk5
            have hKs2 := Nat.lt_of_lt_of_le hKs hk3.1
            clear hb hB hk3 hk4 hk5
            go_wp2_with fail
            refine (wbyte_calls _ _ _ c8 _ rfl _ HBJ2.out (by rw [List.length_append] at hp1 ⊢; simp at hp1 ⊢; omega) HBB2.out.size).mono ?_
            rintro e w4 ⟨rfl, hb, hB, hk3⟩
            obtain ⟨hk4, hk5⟩ := hk3.2 K hKs2 hKb HNN2.out
            have HBJ3 := Lib.hid hb
            have HBB3 := Lib.hid (HBB2.out.trans hB)
            have HRR3 := Lib.hid (HRR2.out.block hk4 hk3.1)
            have HNN3 := Lib.hid hk5
            have hKs3 := Nat.lt_of_lt_of_le hKs2 hk3.1
            clear hb hB hk3 hk4 hk5
            go_wp2
            go_roundw
            case rel => exact ⟨j + 1, hjt, by go_num, by rw [HES.out, he]; simpa using HBJ3.out, HBB3.out, hKs3, HNN3.out, HRR3.out⟩
            case measure => simp [intOf]; omega
          ·
            rw [he] at hp1
            go_wp2_with fail
            refine (wbyte_calls _ _ _ c8 _ rfl _ HBJ.out (by rw [List.length_append] at hp1; simp at hp1; omega) HBB.out.size).mono ?_
            rintro e w4 ⟨rfl, hb, hB, hk3⟩
            obtain ⟨hk4, hk5⟩ := hk3.2 K hKs hKb HNN.out
            have HBJ3 := Lib.hid hb
            have HBB3 := Lib.hid (HBB.out.trans hB)
            have HRR3 := Lib.hid (HRR.out.block hk4 hk3.1)
            have HNN3 := Lib.hid hk5
            have hKs3 := Nat.lt_of_lt_of_le hKs hk3.1
            clear hb hB hk3 hk4 hk5
            go_wp2
            go_roundw
            case rel => exact ⟨j + 1, hjt, by go_num, by rw [HES.out, he]; exact HBJ3.out, HBB3.out, hKs3, HNN3.out, HRR3.out⟩
            case measure => simp [intOf]; omega
        · obtain rfl : j = (bs s).length := by omega
          have HB4 := Lib.hid hb
          have HB5 := Lib.hid hB
          clear hb hB hN hR
          go_wp2
          go_roundw
          case rel => exact ⟨k + 1, hlt, by go_num, by rw [HSN.out]; exact HB4.out, HB5.out⟩
          case measure => simp [intOf]; omega
    · obtain rfl : k = l.length := by omega
      rw [List.take_of_length_le (by simp)] at hb
      have HB4 := Lib.hid hb
      have HB5 := Lib.hid hB
      clear hb hB
      go_wp2_with fail
      refine (Tryz.Builder_String_any _ _ _ _ HB4.out HB5.out.size).mono ?_
      rintro e w1 ⟨rfl, hx⟩
      have HX := Lib.hid (HB5.out.trans hx)
      clear hx
      go_wp2
      go_ret
      exact ⟨rfl, HX.out⟩
end Go.Proofs.YthjldedjllkeeaaGreatDoor
