/- The walk of strconv.ParseUint at base 16, 64 bits. -/
import Derived.Test.YthjldedjllkeeaaGreatDoorWSum
import Derived.Test.YthjldedjllkeeaaGreatDoorWText
namespace Go.Proofs.YthjldedjllkeeaaGreatDoor
open Go.RowKit
set_option maxHeartbeats 400000 in
theorem lower_calls (c : Nat) (hc : c < 256) (w : World) :
    Calls Tryz.prog 193 #[.int .u8 (c : Int)] w fun e w' => e = .returned (.int .u8 ((S.low c : Nat) : Int)) ∧ w = w' := by
  have h : bits BinOp.or IntKind.u8 (c : Int) 32 = ((S.low c : Nat) : Int) := u8_or_nat c 32 hc (by decide)
  go_enter Tryz.func193, Tryz.ntmps193
  go_wp2
  go_ret
  exact ⟨rfl, rfl⟩
theorem bytes_empty {s : ByteArray} (h : s.toList = []) : s.data.toList = [] := by
  rw [← ByteArray.toList_eq]; exact h
theorem bytes_full {s : ByteArray} (h : S.nums s.data.toList = []) : s.toList = [] := by
  rw [← ByteArray.toList_eq] at h
  unfold S.nums at h
  exact List.map_eq_nil_iff.1 h
theorem cBs_at (s : ByteArray) (k : Nat) (h : k < s.size) : (cBs s)[k]? = some (cU8 s[k]) := by
  rw [List.getElem?_map, List.getElem?_eq_getElem (show k < s.data.toList.length from h)]
  rfl
theorem nums_lt (s : ByteArray) (k : Nat) (h : k < s.size) : k < (S.nums s.data.toList).length := by unfold S.nums; rw [List.length_map]; exact h
theorem nums_at (s : ByteArray) (k : Nat) (h : k < s.size) : (S.nums s.data.toList)[k]'(nums_lt s k h) = s[k].toNat := by
  simp only [S.nums, List.getElem_map]
  rfl
/-- How ParseUint ends. -/
def PuEnd (r : Option Nat) (e : Ending) : Prop :=
  match r with
  | some n => e = .returned (.tuple #[cU64 n, .nilIface])
  | none => ∃ (x : Int) (c : Int), (c = 1 ∨ c = 2) ∧ 0 ≤ x ∧ x < 18446744073709551616 ∧ e = .returned (.tuple #[.int .u64 x, .iface 262 (.int .i64 c)])
theorem puEnd_syntax {r : Option Nat} (h : r = none) : PuEnd r (.returned (.tuple #[.int .u64 0, .iface 262 (.int .i64 2)])) := by
  subst h; exact ⟨0, 2, .inr rfl, by decide, by decide, rfl⟩
theorem puEnd_range {r : Option Nat} (h : r = none) {x : Int} (h0 : 0 ≤ x) (h1 : x ≤ 18446744073709551615) : PuEnd r (.returned (.tuple #[.int .u64 x, .iface 262 (.int .i64 1)])) := by
  subst h; exact ⟨x, 1, .inl rfl, h0, by omega, rfl⟩
theorem puTake (l : List Nat) (k : Nat) (hk : k < l.length) {n : Nat} (h : S.puFold (l.take k) 0 = some n) : S.puFold (l.take (k + 1)) 0 = S.puStep n l[k] := by
  rw [List.take_succ_eq_append_getElem hk, S.puFold_append, h]
  show (S.puStep n l[k]).bind (S.puFold []) = _
  cases S.puStep n l[k] <;> rfl
theorem puDead (l : List Nat) (k : Nat) (hk : k < l.length) {n : Nat} (h : S.puFold (l.take k) 0 = some n) (hs : S.puStep n l[k] = none) : S.pu l = none := by
  unfold S.pu
  rw [if_neg (by intro e; rw [e] at hk; simp at hk)]
  conv => lhs; rw [← List.take_append_drop (k + 1) l]
  rw [S.puFold_append, puTake l k hk h, hs]
  rfl
theorem lowerI_calls (c : Nat) (hc : c < 256) (q r : Int) (hq : q = (c : Int)) (hr : r = ((S.low c : Nat) : Int)) (w : World) :
    Calls Tryz.prog 193 #[.int .u8 q] w fun e w' => e = .returned (.int .u8 r) ∧ w = w' := by
  subst hq hr
  exact lower_calls c hc w
theorem puStep_dig {n c : Nat} (h : 48 ≤ c ∧ c ≤ 57) : S.puStep n c = if n < 1152921504606846976 then some (n * 16 + (c - 48)) else none := by
  unfold S.puStep S.hexv
  rw [if_pos h, Option.bind_some]
theorem puStep_let {n c : Nat} (h0 : ¬ (48 ≤ c ∧ c ≤ 57)) (h : 97 ≤ S.low c ∧ S.low c ≤ 102) : S.puStep n c = if n < 1152921504606846976 then some (n * 16 + (S.low c - 87)) else none := by
  unfold S.puStep S.hexv
  rw [if_neg h0, if_pos h, Option.bind_some]
theorem puStep_no {n c : Nat} (h0 : ¬ (48 ≤ c ∧ c ≤ 57)) (h : ¬ (97 ≤ S.low c ∧ S.low c ≤ 102)) : S.puStep n c = none := by
  unfold S.puStep S.hexv
  rw [if_neg h0, if_neg h]
  rfl
set_option maxHeartbeats 2000000 in
set_option maxRecDepth 100000 in
theorem ipu_calls (s : ByteArray) (hs : s.size ≤ 9223372036854775807) (w : World) :
    Calls Tryz.prog 173 #[.string s, .int .i64 16, .int .i64 64] w fun e w' => PuEnd (S.pu (S.nums s.data.toList)) e ∧ Ext w w' := by
  by_cases h0 : s.toList = []
  · have h0' : (s.toList.isEmpty) = true := by rw [h0]; rfl
    have HE := Lib.hid (show S.pu (S.nums s.data.toList) = none by
      unfold S.pu
      rw [if_pos (by rw [bytes_empty h0]; rfl)])
    clear h0
    go_enter Tryz.func173, Tryz.ntmps173
    go_wp2
    go_ret2
    exact ⟨puEnd_syntax HE.out, Below.refl _ _⟩
  · have HN := Lib.hid (show S.nums s.data.toList ≠ [] from fun e => h0 (bytes_full e))
    have h0' : (s.toList.isEmpty) = false := by cases hh : s.toList with | nil => exact absurd hh h0 | cons _ _ => rfl
    obtain ⟨w1, A1, c1, hcv, hx, hr⟩ := run_bytes w s
    have HR := Lib.hid hr
    have HX := Lib.hid hx
    clear hr hx h0
    go_enter Tryz.func173, Tryz.ntmps173
    go_wp2_with fail
    obtain ⟨M, hM0, hM1, hM2⟩ : ∃ M : Int, IntKind.u64.wrap (IntKind.u64.wrap 18446744073709551616 - 1) = M ∧ 18446744073709551615 ≤ M ∧ M ≤ 18446744073709551615 := ⟨_, rfl, by decide +kernel, by decide +kernel⟩
    rw [hM0]
    clear hM0
    clear h0'
    go_loop [12, 13, 101] (fun b x i => ∃ (k : Nat) (n : Int), k ≤ s.size ∧ b = .bool false ∧ x = .int .u64 n ∧ i = .int .i64 k ∧ Hid (S.puFold ((S.nums s.data.toList).take k) 0 = some n.toNat) ∧ 0 ≤ n ∧ n < 18446744073709551616) (fun _ _ i => s.size - (intOf i).toNat)
    case atStart => exact ⟨0, 0, by omega, rfl, rfl, rfl, rfl, by decide, by decide⟩
    case round =>
      obtain ⟨k, n, hk, rfl, rfl, rfl, HF, hn0, hn⟩ := hrel
      by_cases hlt : k < s.size
      · obtain ⟨ad, rfl, _, hc0⟩ := HR.out.at_ (cBs_at s k hlt)
        have hc : w1.cell? (ad.add k) = some (.int .u8 ((s[k].toNat : Nat) : Int)) := hc0
        clear hc0
        have hb : s[k].toNat < 256 := s[k].toNat_lt
        have hS0 : S.puStep n.toNat s[k].toNat = none → S.pu (S.nums s.data.toList) = none := fun h => puDead _ k (nums_lt s k hlt) HF.out (by rw [nums_at s k hlt]; exact h)
        have hT0 : ∀ m, S.puStep n.toNat s[k].toNat = some m → S.puFold ((S.nums s.data.toList).take (k + 1)) 0 = some m := fun m h => by rw [puTake _ k (nums_lt s k hlt) HF.out, nums_at s k hlt]; exact h
        have HS := Lib.hid hS0
        have HT := Lib.hid hT0
        clear hS0 hT0
        generalize s[k].toNat = c at *
        obtain ⟨q, hq⟩ : ∃ q : Int, q = (c : Int) := ⟨_, rfl⟩
        rw [← hq] at hc
        have hq0 : 0 ≤ q := by omega
        have hq1 : q < 256 := by omega
        have HQ := Lib.hid hq
        clear hq
        obtain ⟨r, hr⟩ : ∃ r : Int, r = ((S.low c : Nat) : Int) := ⟨_, rfl⟩
        have hlow := S.low_lt hb
        have hr0 : 0 ≤ r := by omega
        have hr1 : r < 256 := by omega
        have HRr := Lib.hid hr
        have HB := Lib.hid hb
        clear hr hb hlow
        have hcap : ∀ x : Int, n < 1152921504606846976 → 0 ≤ x → x < 16 → n * 16 + x < 18446744073709551616 := by intro x _ _ _; omega
        clear hcap
        by_cases hd : 48 ≤ q ∧ q ≤ 57
        · obtain ⟨hd1, hd2⟩ := hd
          have h95 : (q == 95) = false := beq_eq_false_iff_ne.2 (by omega)
          have hd16 : decide (16 ≤ q - 48) = false := decide_eq_false (by omega)
          have HP := Lib.hid (puStep_dig (n := n.toNat) (c := c) (by have := HQ.out; omega))
          by_cases hbig : n < 1152921504606846976
          · have hcut : decide (1152921504606846976 ≤ n) = false := decide_eq_false (by omega)
            go_wp2
            refine ⟨⟨k + 1, n * 16 + (q - 48), by omega, rfl, rfl, by go_num, Lib.hid (HT.out _ ?_), by omega, by omega⟩, by simp [intOf]; omega⟩
            have := HQ.out
            rw [HP.out, if_pos (by omega)]
            congr 1
            omega
          · have hcut : decide (1152921504606846976 ≤ n) = true := decide_eq_true (by omega)
            go_wp2
            go_ret2
            exact ⟨puEnd_range (HS.out (by rw [HP.out, if_neg (by omega)])) (by omega) hM2, HX.out⟩
        · have HD := Lib.hid (show ¬ (48 ≤ c ∧ c ≤ 57) by have := HQ.out; omega)
          by_cases hl : 97 ≤ r ∧ r ≤ 102
          · obtain ⟨hl1, hl2⟩ := hl
            have h95 : (q == 95) = false := by
              refine beq_eq_false_iff_ne.2 (fun e => ?_)
              have h1 := HQ.out
              have h2 := HRr.out
              have h3 : c = 95 := by omega
              rw [h3] at h2
              have h4 : S.low 95 = 127 := by decide
              omega
            have hl3 : r ≤ 122 := by omega
            have hd16 : decide (16 ≤ r - 97 + 10) = false := decide_eq_false (by omega)
            have HP := Lib.hid (puStep_let (n := n.toNat) (c := c) HD.out (by have := HRr.out; omega))
            by_cases hbig : n < 1152921504606846976
            · have hcut : decide (1152921504606846976 ≤ n) = false := decide_eq_false (by omega)
              have hsplit : q < 48 ∨ 57 < q := by omega
              clear hd
              rcases hsplit with hsp | hsp
              all_goals
                go_wp2_with (go_at_call 193; refine (lowerI_calls c HB.out q r HQ.out HRr.out _).mono ?_; rintro e w' ⟨rfl, rfl⟩)
                refine ⟨⟨k + 1, n * 16 + (r - 97 + 10), by omega, rfl, rfl, by go_num, Lib.hid (HT.out _ ?_), by omega, by omega⟩, by simp [intOf]; omega⟩
                have := HRr.out
                rw [HP.out, if_pos (by omega)]
                congr 1
                omega
            · have hcut : decide (1152921504606846976 ≤ n) = true := decide_eq_true (by omega)
              have hsplit : q < 48 ∨ 57 < q := by omega
              clear hd
              rcases hsplit with hsp | hsp
              all_goals
                go_wp2_with (go_at_call 193; refine (lowerI_calls c HB.out q r HQ.out HRr.out _).mono ?_; rintro e w' ⟨rfl, rfl⟩)
                go_ret2
                exact ⟨puEnd_range (HS.out (by rw [HP.out, if_neg (by omega)])) (by omega) hM2, HX.out⟩
          · have HP := Lib.hid (puStep_no (n := n.toNat) (c := c) HD.out (by have := HRr.out; omega))
            have hsplit : q < 48 ∨ 57 < q := by omega
            have hsplit2 : r < 97 ∨ 122 < r ∨ (97 ≤ r ∧ r ≤ 122 ∧ decide (16 ≤ r - 97 + 10) = true) := by
              rcases Int.lt_or_le r 97 with h | h
              · exact .inl h
              · rcases Int.lt_or_le 122 r with h2 | h2
                · exact .inr (.inl h2)
                · exact .inr (.inr ⟨h, h2, decide_eq_true (by omega)⟩)
            clear hd hl
            have h95 : (q == 95) = true ∨ (q == 95) = false := by cases q == 95 <;> simp
            rcases h95 with h95 | h95
            all_goals rcases hsplit with hsp | hsp
            all_goals rcases hsplit2 with hs2 | hs2 | ⟨hs2, hs3, hs4⟩
            all_goals
              go_wp2_with (go_at_call 193; refine (lowerI_calls c HB.out q r HQ.out HRr.out _).mono ?_; rintro e w' ⟨rfl, rfl⟩)
              go_ret2
              exact ⟨puEnd_syntax (HS.out HP.out), HX.out⟩
      · have hk2 : k = s.size := by omega
        have HE := Lib.hid (show S.pu (S.nums s.data.toList) = some n.toNat by
          have h := HF.out
          rw [hk2, List.take_of_length_le (by unfold S.nums; rw [List.length_map]; exact Nat.le_refl _)] at h
          unfold S.pu
          rw [if_neg HN.out, h])
        clear hk2
        go_wp2
        go_ret2
        refine ⟨?_, HX.out⟩
        unfold PuEnd
        rw [HE.out]
        show Ending.returned (.tuple #[.int .u64 n, .nilIface]) = Ending.returned (.tuple #[.int .u64 ((n.toNat : Nat) : Int), .nilIface])
        rw [Int.toNat_of_nonneg hn0]
end Go.Proofs.YthjldedjllkeeaaGreatDoor
