/- The walk of the reference's Nums. -/
import Derived.Test.YtgomondmogpkeaaGreatDoorWRNum
set_option linter.unusedVariables false
namespace Go.Proofs.YtgomondmogpkeaaGreatDoor
open Go.RowKit Go.Sort
theorem numsL_snoc (l : List Int) (n : Int) : numsL (l ++ [n]) = if l = [] then Lib.itoa n else numsL l ++ [44] ++ Lib.itoa n := by
  cases l with
  | nil => simp [numsL, Lib.join_one]
  | cons a l =>
    rw [if_neg (by simp), numsL, numsL, List.cons_append, List.map_cons, List.map_cons, Lib.join_cons, Lib.join_cons]
    simp [Lib.joinTail]
theorem numsL_take (l : List Int) (k : Nat) (h : k < l.length) : numsL (l.take (k + 1)) = if k = 0 then Lib.itoa l[k] else numsL (l.take k) ++ [44] ++ Lib.itoa l[k] := by
  rw [List.take_succ_eq_append_getElem h, numsL_snoc]
  by_cases hk : k = 0
  · subst hk; rfl
  · have hne : l.take k ≠ [] := fun e => by have := congrArg List.length e; rw [List.length_take, List.length_nil] at this; omega
    rw [if_neg hne, if_neg hk]
set_option maxHeartbeats 1000000 in
set_option maxRecDepth 100000 in
theorem rnums_calls (l : List Int) (hb : ∀ n ∈ l, I64 n) (A : Option Addr) (c : Nat) (w : World) (hA : Rd w A (cI64s l)) (hl : l.length ≤ 1099511627776) :
    Calls Tryz.prog 26 #[.slice A l.length c] w fun e w' => e = .returned (.string (strOf (numsL l))) ∧ Ext w w' := by
  have HA := Lib.hid hA
  have HBD := Lib.hid hb
  clear hA hb
  go_enter Tryz.func26, Tryz.ntmps26
  go_wp2
  go_loopw [3, 4] (fun s i wr => ∃ k : Nat, k ≤ l.length ∧ i = .int .i64 k ∧ s = .string (strOf (numsL (l.take k))) ∧ Ext w wr) (fun _ i _ => l.length - (intOf i).toNat)
  case atStart => exact ⟨0, by omega, rfl, rfl, Ext.rfl' _⟩
  case round =>
    obtain ⟨k, hk, rfl, rfl, hx⟩ := hrel
    by_cases hlt : k < l.length
    · obtain ⟨ad, rfl, _, hc⟩ := (HA.out.ext hx).at_ (j := k) (u := .int .i64 l[k]) (by simp [hlt])
      have hnb := HBD.out l[k] (by simp)
      have hn1 := Lib.itoa_length_le l[k] hnb.1 hnb.2
      have hpl := numsL_len (l.take k) (fun n hn => HBD.out n (List.mem_of_mem_take hn))
      have hpl2 : (numsL (l.take k)).length ≤ 30786325577728 := by
        refine Nat.le_trans hpl ?_
        rw [List.length_take]
        omega
      clear hpl
      have HS := Lib.hid (numsL_take l k hlt)
      have HX := Lib.hid hx
      clear hx
      have hqs : (numB l[k]).size ≤ 21 := hn1
      generalize hp : numsL (l.take k) = p at *
      have HN := Lib.hid (rnum_calls l[k] hnb wr)
      have HAP1 := Lib.hid (strOf_append p [44])
      have HAP2 := Lib.hid (strOf_append (p ++ [44]) (Lib.itoa l[k]))
      have HIT := Lib.hid (show numB l[k] = strOf (Lib.itoa l[k]) from rfl)
      clear hn1
      generalize Lib.itoa l[k] = t at *
      generalize numB l[k] = q at *
      generalize l[k] = n at *
      by_cases hk0 : k = 0
      · subst hk0
        rw [show ad.add 0 = ad from by unfold Addr.add; rfl] at hc
        have hp0 : p = [] := hp.symm
        have hs0 := HS.out
        rw [if_pos rfl] at hs0
        have HS0 := Lib.hid hs0
        have HQ := Lib.hid (show strOf [] ++ q = strOf t from by rw [HIT.out, strOf_append, List.nil_append])
        clear hs0 hp HAP1 HAP2
        subst hp0
        go_wp2_with fail
        refine HN.out.mono ?_
        rintro e w1 ⟨rfl, hx⟩
        have HX1 := Lib.hid (HX.out.tr hx)
        clear hx
        go_wp2
        go_roundw
        case rel => exact ⟨1, hlt, by go_num, by rw [HS0.out]; exact congrArg Value.string HQ.out, HX1.out⟩
        case measure => simp [intOf]; omega
      · clear hp
        go_wp2_with fail
        refine HN.out.mono ?_
        rintro e w1 ⟨rfl, hx⟩
        have HX1 := Lib.hid (HX.out.tr hx)
        clear hx
        go_wp2
        go_roundw
        case rel => exact ⟨k + 1, hlt, by go_num, by rw [HS.out, if_neg hk0, ← HAP2.out, ← HAP1.out, HIT.out], HX1.out⟩
        case measure => simp [intOf]; omega
    · obtain rfl : k = l.length := by omega
      rw [List.take_length]
      have HX := Lib.hid hx
      clear hx
      go_wp2
      go_ret
      exact ⟨rfl, HX.out⟩
end Go.Proofs.YtgomondmogpkeaaGreatDoor
