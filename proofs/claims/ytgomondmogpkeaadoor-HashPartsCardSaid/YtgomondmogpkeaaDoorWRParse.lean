/- The walk of the reference's ParseHex. -/
import Derived.Test.YtgomondmogpkeaaDoorSpecP
namespace Go.Proofs.YtgomondmogpkeaaDoor
open Go.RowKit
def RPEnd (r : Option Nat) : Ending := match r with
  | some n => .returned (.tuple #[cU64 n, .int .i64 0])
  | none => .returned (.tuple #[cU64 0, .int .i64 2])
theorem rDead (l : List Nat) (k : Nat) (hk : k < l.length) {n : Nat} (h : rfold (l.take k) 0 = some n) (hs : rstep n l[k] = none) : rparse l = none := by
  unfold rparse
  split
  · conv => lhs; rw [← List.take_append_drop (k + 1) l]
    rw [rfold_append, List.take_succ_eq_append_getElem hk, rfold_snoc, h, Option.bind_some, hs]
    rfl
  · rfl
theorem rTake (l : List Nat) (k : Nat) (hk : k < l.length) {n : Nat} (h : rfold (l.take k) 0 = some n) : rfold (l.take (k + 1)) 0 = rstep n l[k] := by
  rw [List.take_succ_eq_append_getElem hk, rfold_snoc, h, Option.bind_some]
theorem rstep_dig {n c : Nat} (h : 48 ≤ c ∧ c ≤ 57) : rstep n c = some (n * 16 + (c - 48)) := by
  unfold rstep rv
  rw [if_pos h, Option.map_some]
theorem rstep_let {n c : Nat} (h0 : ¬ (48 ≤ c ∧ c ≤ 57)) (h : 97 ≤ c ∧ c ≤ 102) : rstep n c = some (n * 16 + (c - 87)) := by
  unfold rstep rv
  rw [if_neg h0, if_pos h, Option.map_some]
theorem rstep_no {n c : Nat} (h0 : ¬ (48 ≤ c ∧ c ≤ 57)) (h : ¬ (97 ≤ c ∧ c ≤ 102)) : rstep n c = none := by
  unfold rstep rv
  rw [if_neg h0, if_neg h]
  rfl
theorem or16 (n x : Int) (h0 : 0 ≤ n) (h : n < 1152921504606846976) (hx : 0 ≤ x) (hx' : x < 16) : bits BinOp.or IntKind.u64 (n * 16) x = n * 16 + x := by
  have h1 := u64_or_nat (n.toNat * 16) x.toNat (by omega) (by omega)
  have e1 : ((n.toNat * 16 : Nat) : Int) = n * 16 := by omega
  have e2 : ((x.toNat : Nat) : Int) = x := by omega
  rw [e1, e2] at h1
  rw [h1]
  have h2 : n.toNat * 16 ||| x.toNat = n.toNat * 16 + x.toNat := by
    have := Nat.shiftLeft_add_eq_or_of_lt (i := 4) (b := x.toNat) (by omega) n.toNat
    rw [Nat.shiftLeft_eq] at this
    exact this.symm
  rw [h2]
  omega
set_option maxHeartbeats 1000000 in
set_option maxRecDepth 100000 in
theorem rparse_calls (s : ByteArray) (w : World) :
    Calls Tryd.prog 11 #[.string s] w fun e w' => e = RPEnd (rparse (S.nums s.data.toList)) ∧ Ext w w' := by
  have hnl : (S.nums s.data.toList).length = s.size := by unfold S.nums; rw [List.length_map]; rfl
  by_cases h16 : s.size = 16
  · have h1 : ((s.size : Int) != 16) = false := by rw [h16]; rfl
    have HN := Lib.hid h16
    clear h16
    go_enter Tryd.func11, Tryd.ntmps11
    go_wp2
    go_loop [4, 5] (fun x i => ∃ (k : Nat) (n : Int), k ≤ 16 ∧ x = .int .u64 n ∧ i = .int .i64 k ∧ Hid (rfold ((S.nums s.data.toList).take k) 0 = some n.toNat) ∧ 0 ≤ n ∧ n < 18446744073709551616) (fun _ i => 16 - (intOf i).toNat)
    case atStart => exact ⟨0, 0, by omega, rfl, rfl, rfl, by decide, by decide⟩
    case round =>
      obtain ⟨k, n, hk, rfl, rfl, HF, hn0, hn⟩ := hrel
      by_cases hlt : k < 16
      · have hlt2 : k < s.size := by have := HN.out; omega
        have hbig : n < 1152921504606846976 := by
          have h := (dgs_rfold (S.nums s.data.toList) k (by omega) _ HF.out).2
          have h2 : 16 ^ k ≤ 16 ^ 15 := Nat.pow_le_pow_right (by decide) (by omega)
          omega
        have hb : s[k].toNat < 256 := s[k].toNat_lt
        have hS0 : rstep n.toNat s[k].toNat = none → rparse (S.nums s.data.toList) = none := fun h => rDead _ k (nums_lt s k hlt2) HF.out (by rw [nums_at s k hlt2]; exact h)
        have hT0 : ∀ m, rstep n.toNat s[k].toNat = some m → rfold ((S.nums s.data.toList).take (k + 1)) 0 = some m := fun m h => by rw [rTake _ k (nums_lt s k hlt2) HF.out, nums_at s k hlt2]; exact h
        have HS := Lib.hid hS0
        have HT := Lib.hid hT0
        clear hS0 hT0 hnl
        have hix : ∀ w : World, (Instr.index 9 (.string s) (.int .i64 (k : Int))).run Tryd.prog w = .ok (.int .u8 ((s[k].toNat : Nat) : Int)) w := by
          intro w
          simp [go_sem, hlt2]
        generalize s[k].toNat = c at *
        obtain ⟨q, hq⟩ : ∃ q : Int, q = (c : Int) := ⟨_, rfl⟩
        rw [← hq] at hix
        have hq0 : 0 ≤ q := by omega
        have hq1 : q < 256 := by omega
        have HQ := Lib.hid hq
        clear hq hb
        have hbd : n * 16 < 18446744073709551616 := by omega
        by_cases hd : 48 ≤ q ∧ q ≤ 57
        · obtain ⟨hd1, hd2⟩ := hd
          have HP := Lib.hid (rstep_dig (n := n.toNat) (c := c) (by have := HQ.out; omega))
          have hor := or16 n (q - 48) hn0 hbig (by omega) (by omega)
          go_wp2
          refine ⟨⟨k + 1, n * 16 + (q - 48), by omega, rfl, by go_num, Lib.hid (HT.out _ ?_), by omega, by omega⟩, by simp [intOf]; omega⟩
          have := HQ.out
          rw [HP.out]
          congr 1
          omega
        · have HD := Lib.hid (show ¬ (48 ≤ c ∧ c ≤ 57) by have := HQ.out; omega)
          by_cases hl : 97 ≤ q ∧ q ≤ 102
          · obtain ⟨hl1, hl2⟩ := hl
            have hsp : 57 < q := by omega
            clear hd
            have HP := Lib.hid (rstep_let (n := n.toNat) (c := c) HD.out (by have := HQ.out; omega))
            have hor := or16 n (q - 97 + 10) hn0 hbig (by omega) (by omega)
            go_wp2
            refine ⟨⟨k + 1, n * 16 + (q - 97 + 10), by omega, rfl, by go_num, Lib.hid (HT.out _ ?_), by omega, by omega⟩, by simp [intOf]; omega⟩
            have := HQ.out
            rw [HP.out]
            congr 1
            omega
          · have HP := Lib.hid (rstep_no (n := n.toNat) (c := c) HD.out (by have := HQ.out; omega))
            have hsp : q < 48 ∨ (57 < q ∧ q < 97) ∨ 102 < q := by omega
            clear hd hl
            rcases hsp with hsp | ⟨hsp, hsp2⟩ | hsp
            all_goals
              go_wp2
              go_ret2
              refine ⟨?_, Below.refl _ _⟩
              rw [HS.out HP.out]
              rfl
      · have hk2 : k = 16 := by omega
        have HE := Lib.hid (show rparse (S.nums s.data.toList) = some n.toNat by
          have h := HF.out
          rw [hk2, List.take_of_length_le (by have := HN.out; omega)] at h
          unfold rparse
          rw [if_pos (by have := HN.out; omega), h])
        obtain rfl := hk2
        clear hnl
        go_wp2
        go_ret2
        refine ⟨?_, Below.refl _ _⟩
        rw [HE.out]
        show Ending.returned (.tuple #[.int .u64 n, .int .i64 0]) = Ending.returned (.tuple #[.int .u64 ((n.toNat : Nat) : Int), .int .i64 0])
        rw [Int.toNat_of_nonneg hn0]
  · have h1 : ((s.size : Int) != 16) = true := by rw [bne_iff_ne]; omega
    have HE := Lib.hid (show rparse (S.nums s.data.toList) = none by unfold rparse; rw [if_neg (by omega)])
    clear h16 hnl
    go_enter Tryd.func11, Tryd.ntmps11
    go_wp2
    go_ret2
    refine ⟨?_, Below.refl _ _⟩
    rw [HE.out]
    rfl
end Go.Proofs.YtgomondmogpkeaaDoor
