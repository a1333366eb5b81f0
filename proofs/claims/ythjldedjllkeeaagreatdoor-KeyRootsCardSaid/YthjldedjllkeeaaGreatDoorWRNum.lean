/- The walks of the reference's Num and Nums. -/
import Derived.Test.YthjldedjllkeeaaGreatDoorWNums
set_option linter.unusedVariables false
namespace Go.Proofs.YthjldedjllkeeaaGreatDoor
open Go.RowKit Go.Sort
/-- The digits ahead of the last. -/
def upper (n : Nat) : List UInt8 := if n < 10 then [] else Lib.decDigits (n / 10)
def lastD (n : Nat) : UInt8 := UInt8.ofNat (48 + n % 10)
theorem dec_split (n : Nat) : Lib.decDigits n = upper n ++ [lastD n] := by
  unfold upper lastD
  rw [Lib.decDigits]
  split
  · rename_i h
    rw [Nat.mod_eq_of_lt h]; rfl
  · rfl
theorem lastD_nat (n : Nat) : ((lastD n).toNat : Int) = 48 + (n : Int) % 10 := by
  unfold lastD
  rw [UInt8.toNat_ofNat_of_lt' (by have := Nat.mod_lt n (show 0 < 10 by decide); show 48 + n % 10 < 256; omega)]
  omega
theorem one_str (w : World) (x : Int) (b : UInt8) (h : x = (b.toNat : Int)) :
    (convert 82 9 (.slice (some ⟨w.heap.size, 0, none⟩) 1 1)).run Tryz.prog (w.alloc (.cells #[.int .u8 x] 5)) = .ok (.string (strOf [b])) (w.alloc (.cells #[.int .u8 x] 5)) := by
  subst h
  exact run_str (P := Tryz.prog) _ _ [b] 1 82 5 9 Tryz.underlying82 Tryz.underlying5 Tryz.underlying9 (Rd.fresh w [cU8 b] _ _)
theorem strOf_append (a b : List UInt8) : strOf a ++ strOf b = strOf (a ++ b) := by
  apply ByteArray.ext
  simp [strOf]
set_option maxHeartbeats 1000000 in
set_option maxRecDepth 100000 in
theorem rnum_pos (n : Nat) (h1 : n ≤ 9223372036854775807) (w : World) :
    Calls Tryz.prog 88 #[.int .i64 (n : Int)] w fun e w' => e = .returned (.string (strOf (Lib.decDigits n))) ∧ Ext w w' := by
  have hcv := one_str w (48 + (n : Int) % 10) (lastD n) (lastD_nat n).symm
  have hd := dec_split n
  have hDl : (Lib.decDigits n).length ≤ 21 := by
    have h := Lib.itoa_length_le (n : Int) (by omega) (by omega)
    rwa [Lib.itoa_nonneg] at h
  generalize Lib.decDigits n = D at *
  go_enter Tryz.func88, Tryz.ntmps88
  go_wp2
  go_loopw [0, 3] (fun x s wr => ∃ (m : Nat) (S : List UInt8), m ≤ n ∧ x = .int .i64 m ∧ s = .string (strOf S) ∧ upper m ++ S = D ∧ Ext w wr) (fun x _ _ => (intOf x).toNat)
  case atStart => exact ⟨n, [lastD n], Nat.le_refl _, rfl, rfl, hd.symm, (Ext.rfl' w).alloc _⟩
  case round =>
    obtain ⟨m, S, hm, rfl, rfl, hS, hx⟩ := hrel
    have hSl : S.length ≤ 21 := by
      rw [← hS, List.length_append] at hDl
      omega
    by_cases hlt : 10 ≤ m
    · have hcv2 := one_str wr (48 + (m : Int) / 10 % 10) (lastD (m / 10)) (by rw [lastD_nat]; rfl)
      have hu : upper m = upper (m / 10) ++ [lastD (m / 10)] := by
        rw [← dec_split]
        unfold upper
        rw [if_neg (by omega)]
      rw [hu, List.append_assoc] at hS
      have happ := strOf_append [lastD (m / 10)] S
      have HS := Lib.hid hS
      have HX := Lib.hid (hx.alloc (.cells #[.int .u8 (48 + (m : Int) / 10 % 10)] 5))
      have HAP := Lib.hid happ
      clear hS hx hu hd hcv happ
      generalize hg : lastD (m / 10) = g at *
      clear hg
      go_wp2
      go_roundw
      case rel => exact ⟨m / 10, [g] ++ S, by omega, by go_num, by rw [HAP.out], HS.out, HX.out⟩
      case measure => simp [intOf]; omega
    · have hu : upper m = [] := by unfold upper; rw [if_pos (by omega)]
      rw [hu, List.nil_append] at hS
      subst hS
      have HX := Lib.hid hx
      clear hx hd hcv hu
      go_wp2
      go_ret
      exact ⟨rfl, HX.out⟩
theorem itoa_neg' (n : Int) (h : n < 0) : Lib.itoa n = 45 :: Lib.decDigits n.natAbs := by rw [Lib.itoa, if_pos h]
set_option maxHeartbeats 1000000 in
set_option maxRecDepth 100000 in
theorem rnum_calls (n : Int) (hn : I64 n) (w : World) :
    Calls Tryz.prog 88 #[.int .i64 n] w fun e w' => e = .returned (.string (numB n)) ∧ Ext w w' := by
  by_cases h0 : 0 ≤ n
  · obtain ⟨m, rfl⟩ := Int.eq_ofNat_of_zero_le h0
    have h := rnum_pos m (by have := hn.2; omega) w
    show Calls _ _ _ _ fun e w' => e = .returned (.string (strOf (Lib.itoa (m : Int)))) ∧ Ext w w'
    rw [Lib.itoa_nonneg]
    exact h
  · have hlt : n < 0 := by omega
    by_cases hmin : n = -9223372036854775808
    · subst hmin
      have hd : numB (-9223372036854775808) = ⟨#[45, 57, 50, 50, 51, 51, 55, 50, 48, 51, 54, 56, 53, 52, 55, 55, 53, 56, 48, 56]⟩ := by
        show strOf (Lib.itoa _) = _
        rw [itoa_neg' _ (by decide)]
        simp [Lib.decDigits, strOf]
      rw [hd]
      go_enter Tryz.func88, Tryz.ntmps88
      go_wp2
      go_ret
      exact ⟨rfl, Ext.rfl' _⟩
    · have hr := hn.1
      have hR := Lib.hid (rnum_pos n.natAbs (by omega) w)
      have hneg : (0 : Int) - n = ((n.natAbs : Nat) : Int) := by omega
      have hneg2 : -n = ((n.natAbs : Nat) : Int) := by omega
      have happ := strOf_append [45] (Lib.decDigits n.natAbs)
      have hl := Lib.itoa_length_le n (by omega) (by omega)
      have hit : numB n = strOf (45 :: Lib.decDigits n.natAbs) := by show strOf (Lib.itoa n) = _; rw [itoa_neg' n hlt]
      rw [itoa_neg' n hlt] at hl
      rw [hit]
      generalize Lib.decDigits n.natAbs = D at *
      have hDl : D.length ≤ 21 := by rw [List.length_cons] at hl; omega
      have HAP := Lib.hid happ
      clear hl happ hit
      generalize hq : ((n.natAbs : Nat) : Int) = q at *
      have hmb : (n == -9223372036854775808) = false := by simpa using hmin
      go_enter Tryz.func88, Tryz.ntmps88
      go_wp2_with fail
      refine hR.out.mono ?_
      rintro e w1 ⟨rfl, hx⟩
      have HX := Lib.hid hx
      clear hx
      go_wp2
      go_ret
      exact ⟨by show Ending.returned (.string (strOf [45] ++ strOf D)) = _; rw [HAP.out]; rfl, HX.out⟩
end Go.Proofs.YthjldedjllkeeaaGreatDoor
