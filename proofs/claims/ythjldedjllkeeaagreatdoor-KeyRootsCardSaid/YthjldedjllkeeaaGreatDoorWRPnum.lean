/- The walk of the reference's ParseNum. -/
import Derived.Test.YthjldedjllkeeaaGreatDoorWRNums
import Derived.Test.YthjldedjllkeeaaGreatDoorSpecN
import Derived.Test.YthjldedjllkeeaaGreatDoorWSplit
set_option linter.unusedVariables false
namespace Go.Proofs.YthjldedjllkeeaaGreatDoor
open Go.RowKit Go.Sort
def NumEnd (r : Except Nat Int) (e : Ending) : Prop :=
  match r with
  | .ok v => e = .returned (.tuple #[.int .i64 v, .int .i64 0])
  | .error n => e = .returned (.tuple #[.int .i64 0, .int .i64 (n : Int)])
theorem hixg (t : ByteArray) : ∀ (j : Nat) (h : j < (bs t).length) (w : World), (Instr.index 9 (.string t) (.int .i64 (j : Int))).run Tryz.prog w = .ok (cU8 (bs t)[j]) w := by
  intro j h w
  have hjt' : j < t.size := h
  simp [go_sem, hjt']
  rfl
theorem empty_iff (t : ByteArray) : t.toList.isEmpty = (bs t).isEmpty := by rw [Lib.toList_data]
theorem tdiv_law (v d : Nat) (hd : d ≤ 9) : (-(v : Int) < Int.tdiv (-9223372036854775808 + (d : Int)) 10) ↔ 9223372036854775808 < 10 * v + d := by
  have e : (-9223372036854775808 + (d : Int)) = -((9223372036854775808 - d : Nat) : Int) := by omega
  rw [e, Int.neg_tdiv, Int.tdiv_eq_ediv_of_nonneg (by omega)]
  omega
theorem ne48 {c : UInt8} (h : c ≠ 48) : ((c.toNat : Int) == 48) = false := by
  have : ¬ (c.toNat : Int) = 48 := fun e => h (UInt8.toNat_inj.1 (by have : c.toNat = 48 := by omega
                                                                     exact this))
  simpa using this
theorem ne45 {c : UInt8} (h : c ≠ 45) : ((c.toNat : Int) == 45) = false := by
  have : ¬ (c.toNat : Int) = 45 := fun e => h (UInt8.toNat_inj.1 (by have : c.toNat = 45 := by omega
                                                                     exact this))
  simpa using this
set_option maxHeartbeats 2000000 in
set_option maxRecDepth 100000 in
theorem rpnum_calls (s : ByteArray) (hs : s.size ≤ 1099511627776) (w : World) :
    Calls Tryz.prog 81 #[.string s] w fun e w' => NumEnd (J.pnum (bs s)) e ∧ w = w' := by
  by_cases he : s.size = 0
  · have hb : bs s = [] := List.eq_nil_of_length_eq_zero he
    have hie : s.toList.isEmpty = true := by rw [empty_iff, hb]; rfl
    rw [hb]
    go_enter Tryz.func81, Tryz.ntmps81
    go_wp2
    go_ret2
    exact ⟨rfl, rfl⟩
  · have h0 : 0 < (bs s).length := Nat.pos_of_ne_zero he
    have hpos : 0 < s.size := h0
    have hie : s.toList.isEmpty = false := by
      rw [empty_iff]
      cases hh : bs s with
      | nil => rw [hh] at h0; cases h0
      | cons _ _ => rfl
    have hix : ∀ w : World, (Instr.index 9 (.string s) (.int .i64 0)).run Tryz.prog w = .ok (cU8 (bs s)[0]) w := hixg s 0 h0
    have hcons : bs s = (bs s)[0] :: bs (s.extract 1 s.size) := by
      rw [bs_tail]
      have := List.drop_eq_getElem_cons h0
      rw [List.drop_zero] at this
      exact this
    by_cases hm : (bs s)[0] = 45
    · have hspec : J.pnum (bs s) = J.tnum true (bs (s.extract 1 s.size)) := by
        rw [hcons, hm]; rfl
      have htl : (bs (s.extract 1 s.size)).length = s.size - 1 := by rw [bs_tail, List.length_drop]; rfl
      have htl2 : (s.extract 1 s.size).size = s.size - 1 := htl
      rw [hm] at hix
      rw [hspec]
      clear hspec hcons hm
      by_cases hTe : (bs (s.extract 1 s.size)).length = 0
      · have hTn : bs (s.extract 1 s.size) = [] := List.eq_nil_of_length_eq_zero hTe
        have hTi : ((s.extract 1 s.size)).toList.isEmpty = true := by rw [empty_iff, hTn]; rfl
        have HSP := Lib.hid (show J.tnum true (bs (s.extract 1 s.size)) = .error 2 from by rw [J.tnum, if_pos (.inl hTn)])
        clear hTn
        go_enter Tryz.func81, Tryz.ntmps81
        go_wp2
        go_ret2
        exact ⟨by rw [HSP.out]; exact rfl, rfl⟩
      · have hT0 : 0 < (bs (s.extract 1 s.size)).length := Nat.pos_of_ne_zero hTe
        have hTi : ((s.extract 1 s.size)).toList.isEmpty = false := by
          rw [empty_iff]
          cases hh : bs (s.extract 1 s.size) with
          | nil => rw [hh] at hT0; cases hT0
          | cons _ _ => rfl
        have hTx : ∀ w : World, (Instr.index 9 (.string (s.extract 1 s.size)) (.int .i64 0)).run Tryz.prog w = .ok (cU8 (bs (s.extract 1 s.size))[0]) w := hixg (s.extract 1 s.size) 0 hT0
        have hhead : (bs (s.extract 1 s.size)).head? = some (bs (s.extract 1 s.size))[0] := by
          rw [List.head?_eq_getElem?, List.getElem?_eq_getElem hT0]
        have hnn : bs (s.extract 1 s.size) ≠ [] := fun e => by rw [e] at hT0; cases hT0
        by_cases hz8 : (bs (s.extract 1 s.size))[0] = 48
        · have HSP := Lib.hid (show J.tnum true (bs (s.extract 1 s.size)) = .error 2 from by rw [J.tnum, if_pos (.inr (.inl ⟨by rw [hhead, hz8], .inr rfl⟩))])
          rw [hz8] at hTx
          clear hhead hnn hz8
          go_enter Tryz.func81, Tryz.ntmps81
          go_wp2
          all_goals (go_ret2; exact ⟨by rw [HSP.out]; exact rfl, rfl⟩)
        · have hz1 : (((bs (s.extract 1 s.size))[0].toNat : Int) == 48) = false := ne48 hz8
          have hcond : ¬ ((bs (s.extract 1 s.size)).head? = some 48 ∧ (1 < (bs (s.extract 1 s.size)).length ∨ true = true)) := fun h => hz8 (by rw [hhead] at h; exact Option.some.inj h.1)
          have HBAD := Lib.hid (show ¬ (∀ c ∈ bs (s.extract 1 s.size), J.isDig c) → J.tnum true (bs (s.extract 1 s.size)) = .error 2 from fun h => by rw [J.tnum, if_pos (.inr (.inr h))])
          have HOK := Lib.hid (show (∀ c ∈ bs (s.extract 1 s.size), J.isDig c) → J.tnum true (bs (s.extract 1 s.size)) = (if J.val (bs (s.extract 1 s.size)) ≤ 9223372036854775808 then .ok (-(J.val (bs (s.extract 1 s.size)) : Int)) else .error 4) from fun h => by rw [J.tnum, if_neg (fun h1 => h1.elim hnn (fun h1 => h1.elim hcond (fun h1 => h1 h))), if_pos rfl])
          generalize J.tnum true (bs (s.extract 1 s.size)) = R at *
          clear hcond hhead hnn hz8
          generalize (bs (s.extract 1 s.size))[0] = c1 at *
          go_enter Tryz.func81, Tryz.ntmps81
          go_wp2
          generalize s.extract 1 s.size = t at *
          go_loop [6] (fun i => ∃ k : Nat, k ≤ (bs t).length ∧ i = .int .i64 k ∧ ∀ j (h : j < (bs t).length), j < k → J.isDig (bs t)[j]) (fun i => (bs t).length - (intOf i).toNat)
          case atStart => exact ⟨0, by omega, rfl, fun j _ h => absurd h (Nat.not_lt_zero _)⟩
          case round =>
            obtain ⟨k, hk, rfl, hall⟩ := hrel
            by_cases hlt : k < (bs t).length
            · have hixk := hixg t k hlt
              have hno : ¬ J.isDig (bs t)[k] → R = .error 2 := fun h => HBAD.out fun h2 => h (h2 _ (List.getElem_mem hlt))
              have hyes : J.isDig (bs t)[k] → ∀ j (h : j < (bs t).length), j < k + 1 → J.isDig (bs t)[j] := fun h j hj hjk => by
                rcases Nat.lt_or_ge j k with h1 | h1
                · exact hall j hj h1
                · obtain rfl : j = k := by omega
                  exact h
              have HNO := Lib.hid hno
              have HYES := Lib.hid hyes
              clear hno hyes hall
              generalize (bs t)[k] = c8 at *
              by_cases hd1 : (c8.toNat : Int) < 48
              · have HSP := Lib.hid (HNO.out (fun h => by have := h.1; omega))
                go_wp2
                go_ret2
                exact ⟨by rw [HSP.out]; exact rfl, rfl⟩
              · by_cases hd2 : 57 < (c8.toNat : Int)
                · have HSP := Lib.hid (HNO.out (fun h => by have := h.2; omega))
                  go_wp2
                  go_ret2
                  exact ⟨by rw [HSP.out]; exact rfl, rfl⟩
                · have HD := Lib.hid (HYES.out ⟨by omega, by omega⟩)
                  go_wp2
                  go_round
                  case rel => exact ⟨k + 1, hlt, by go_num, HD.out⟩
                  case measure => simp [intOf]; omega
            · have hall2 : ∀ c ∈ bs t, J.isDig c := fun c hc => by
                obtain ⟨j, hj, rfl⟩ := List.mem_iff_getElem.1 hc
                exact hall j hj (by omega)
              have HALL := Lib.hid hall2
              clear hall hall2
              obtain rfl : k = (bs t).length := by omega
              go_wp2
              go_loop [7, 8] (fun n i => ∃ k : Nat, k ≤ (bs t).length ∧ i = .int .i64 k ∧ n = .int .i64 (-(J.val ((bs t).take k) : Int)) ∧ J.val ((bs t).take k) ≤ 9223372036854775808) (fun _ i => (bs t).length - (intOf i).toNat)
              case atStart => exact ⟨0, by omega, rfl, rfl, show J.val [] ≤ 9223372036854775808 from by decide⟩
              case round =>
                obtain ⟨k, hk, rfl, rfl, hv⟩ := hrel
                by_cases hlt : k < (bs t).length
                · have hixk := hixg t k hlt
                  have hdg := HALL.out _ (List.getElem_mem hlt)
                  have HSN := Lib.hid (J.val_snoc (bs t) k hlt)
                  have HMO := Lib.hid (J.val_take (bs t) (k + 1))
                  generalize (bs t)[k] = c8 at *
                  have hd1 := hdg.1
                  have hd2 := hdg.2
                  clear hdg
                  have HL := Lib.hid (tdiv_law (J.val ((bs t).take k)) (c8.toNat - 48) (by omega))
                  generalize J.val ((bs t).take k) = v at *
                  have hcast : ((c8.toNat - 48 : Nat) : Int) = (c8.toNat : Int) - 48 := by omega
                  by_cases hov : 9223372036854775808 < 10 * v + (c8.toNat - 48)
                  · have HSP := Lib.hid (show R = .error 4 from by
                      have h1 := HSN.out
                      have h2 := HMO.out
                      rw [HOK.out HALL.out]
                      rw [if_neg (by omega)])
                    have hq := HL.out.2 hov
                    rw [hcast] at hq
                    go_wp2
                    go_ret2
                    exact ⟨by rw [HSP.out]; exact rfl, rfl⟩
                  · have hq : ¬ (-(v : Int) < Int.tdiv (-9223372036854775808 + ((c8.toNat : Int) - 48)) 10) := fun h => hov (HL.out.1 (by rw [hcast]; exact h))
                    go_wp2
                    go_round
                    case rel => exact ⟨k + 1, hlt, by go_num, by rw [HSN.out]; congr 1; omega, by rw [HSN.out]; omega⟩
                    case measure => simp [intOf]; omega
                · obtain rfl : k = (bs t).length := by omega
                  rw [List.take_length] at hv ⊢
                  have hall := HALL.out
                  have HSP := Lib.hid (show R = .ok (-(J.val (bs t) : Int)) from by rw [HOK.out hall, if_pos hv])
                  go_wp2
                  go_ret2
                  exact ⟨by rw [HSP.out]; exact rfl, rfl⟩
        
    · have hspec : J.pnum (bs s) = J.tnum false (bs s) := by
        rw [hcons, J.pnum, if_neg hm]
      have hmb := ne45 hm
      rw [hspec]
      clear hspec hcons hm
      have hT0 : 0 < (bs s).length := h0
      have hTi : (s).toList.isEmpty = false := by
        rw [empty_iff]
        cases hh : bs s with
        | nil => rw [hh] at hT0; cases hT0
        | cons _ _ => rfl
      have hTx : ∀ w : World, (Instr.index 9 (.string s) (.int .i64 0)).run Tryz.prog w = .ok (cU8 (bs s)[0]) w := hixg s 0 hT0
      have hhead : (bs s).head? = some (bs s)[0] := by
        rw [List.head?_eq_getElem?, List.getElem?_eq_getElem hT0]
      have hnn : bs s ≠ [] := fun e => by rw [e] at hT0; cases hT0
      by_cases hz8 : (bs s)[0] = 48
      · by_cases hlong : 1 < (bs s).length
        · have HSP := Lib.hid (show J.tnum false (bs s) = .error 2 from by rw [J.tnum, if_pos (.inr (.inl ⟨by rw [hhead, hz8], .inl hlong⟩))])
          rw [hz8] at hTx hix hmb
          clear hhead hnn hz8
          have hlong2 : 1 < s.size := hlong
          go_enter Tryz.func81, Tryz.ntmps81
          go_wp2
          all_goals (go_ret2; exact ⟨by rw [HSP.out]; exact rfl, rfl⟩)
        · have hsh : ¬ 1 < s.size := hlong
          have hcond : ¬ ((bs s).head? = some 48 ∧ (1 < (bs s).length ∨ false = true)) := fun h => by rcases h.2 with h2 | h2; exact hlong h2; cases h2
          have HBAD := Lib.hid (show ¬ (∀ c ∈ bs s, J.isDig c) → J.tnum false (bs s) = .error 2 from fun h => by rw [J.tnum, if_pos (.inr (.inr h))])
          have HOK := Lib.hid (show (∀ c ∈ bs s, J.isDig c) → J.tnum false (bs s) = (if J.val (bs s) < 9223372036854775808 then .ok (J.val (bs s) : Int) else .error 4) from fun h => by rw [J.tnum, if_neg (fun h1 => h1.elim hnn (fun h1 => h1.elim hcond (fun h1 => h1 h))), if_neg (by decide)])
          generalize J.tnum false (bs s) = R at *
          rw [hz8] at hTx hix hmb
          clear hcond hhead hnn hz8 hlong
          have hsl := hs
          go_enter Tryz.func81, Tryz.ntmps81
          go_wp2
          generalize s = t at *
          go_loop [6] (fun i => ∃ k : Nat, k ≤ (bs t).length ∧ i = .int .i64 k ∧ ∀ j (h : j < (bs t).length), j < k → J.isDig (bs t)[j]) (fun i => (bs t).length - (intOf i).toNat)
          case atStart => exact ⟨0, by omega, rfl, fun j _ h => absurd h (Nat.not_lt_zero _)⟩
          case round =>
            obtain ⟨k, hk, rfl, hall⟩ := hrel
            by_cases hlt : k < (bs t).length
            · have hixk := hixg t k hlt
              have hno : ¬ J.isDig (bs t)[k] → R = .error 2 := fun h => HBAD.out fun h2 => h (h2 _ (List.getElem_mem hlt))
              have hyes : J.isDig (bs t)[k] → ∀ j (h : j < (bs t).length), j < k + 1 → J.isDig (bs t)[j] := fun h j hj hjk => by
                rcases Nat.lt_or_ge j k with h1 | h1
                · exact hall j hj h1
                · obtain rfl : j = k := by omega
                  exact h
              have HNO := Lib.hid hno
              have HYES := Lib.hid hyes
              clear hno hyes hall
              generalize (bs t)[k] = c8 at *
              by_cases hd1 : (c8.toNat : Int) < 48
              · have HSP := Lib.hid (HNO.out (fun h => by have := h.1; omega))
                go_wp2
                go_ret2
                exact ⟨by rw [HSP.out]; exact rfl, rfl⟩
              · by_cases hd2 : 57 < (c8.toNat : Int)
                · have HSP := Lib.hid (HNO.out (fun h => by have := h.2; omega))
                  go_wp2
                  go_ret2
                  exact ⟨by rw [HSP.out]; exact rfl, rfl⟩
                · have HD := Lib.hid (HYES.out ⟨by omega, by omega⟩)
                  go_wp2
                  go_round
                  case rel => exact ⟨k + 1, hlt, by go_num, HD.out⟩
                  case measure => simp [intOf]; omega
            · have hall2 : ∀ c ∈ bs t, J.isDig c := fun c hc => by
                obtain ⟨j, hj, rfl⟩ := List.mem_iff_getElem.1 hc
                exact hall j hj (by omega)
              have HALL := Lib.hid hall2
              clear hall hall2
              obtain rfl : k = (bs t).length := by omega
              go_wp2
              go_loop [7, 8] (fun n i => ∃ k : Nat, k ≤ (bs t).length ∧ i = .int .i64 k ∧ n = .int .i64 (-(J.val ((bs t).take k) : Int)) ∧ J.val ((bs t).take k) ≤ 9223372036854775808) (fun _ i => (bs t).length - (intOf i).toNat)
              case atStart => exact ⟨0, by omega, rfl, rfl, show J.val [] ≤ 9223372036854775808 from by decide⟩
              case round =>
                obtain ⟨k, hk, rfl, rfl, hv⟩ := hrel
                by_cases hlt : k < (bs t).length
                · have hixk := hixg t k hlt
                  have hdg := HALL.out _ (List.getElem_mem hlt)
                  have HSN := Lib.hid (J.val_snoc (bs t) k hlt)
                  have HMO := Lib.hid (J.val_take (bs t) (k + 1))
                  generalize (bs t)[k] = c8 at *
                  have hd1 := hdg.1
                  have hd2 := hdg.2
                  clear hdg
                  have HL := Lib.hid (tdiv_law (J.val ((bs t).take k)) (c8.toNat - 48) (by omega))
                  generalize J.val ((bs t).take k) = v at *
                  have hcast : ((c8.toNat - 48 : Nat) : Int) = (c8.toNat : Int) - 48 := by omega
                  by_cases hov : 9223372036854775808 < 10 * v + (c8.toNat - 48)
                  · have HSP := Lib.hid (show R = .error 4 from by
                      have h1 := HSN.out
                      have h2 := HMO.out
                      rw [HOK.out HALL.out]
                      rw [if_neg (by omega)])
                    have hq := HL.out.2 hov
                    rw [hcast] at hq
                    go_wp2
                    go_ret2
                    exact ⟨by rw [HSP.out]; exact rfl, rfl⟩
                  · have hq : ¬ (-(v : Int) < Int.tdiv (-9223372036854775808 + ((c8.toNat : Int) - 48)) 10) := fun h => hov (HL.out.1 (by rw [hcast]; exact h))
                    go_wp2
                    go_round
                    case rel => exact ⟨k + 1, hlt, by go_num, by rw [HSN.out]; congr 1; omega, by rw [HSN.out]; omega⟩
                    case measure => simp [intOf]; omega
                · obtain rfl : k = (bs t).length := by omega
                  rw [List.take_length] at hv ⊢
                  have hall := HALL.out
                  by_cases hmx : J.val (bs t) = 9223372036854775808
                  · have HSP := Lib.hid (show R = .error 4 from by rw [HOK.out hall, if_neg (by omega)])
                    rw [hmx] at hv ⊢
                    go_wp2
                    go_ret2
                    exact ⟨by rw [HSP.out]; exact rfl, rfl⟩
                  · have HSP := Lib.hid (show R = .ok (J.val (bs t) : Int) from by rw [HOK.out hall, if_pos (by omega)])
                    generalize J.val (bs t) = V at *
                    have hne : ((-(V : Int)) == -9223372036854775808) = false := by simp; omega
                    go_wp2
                    go_ret2
                    exact ⟨by rw [HSP.out]; exact congrArg (fun x => Ending.returned (.tuple #[.int .i64 x, .int .i64 0])) (by omega), rfl⟩
      
      · have hz1 : (((bs s)[0].toNat : Int) == 48) = false := ne48 hz8
        have hcond : ¬ ((bs s).head? = some 48 ∧ (1 < (bs s).length ∨ false = true)) := fun h => hz8 (by rw [hhead] at h; exact Option.some.inj h.1)
        have HBAD := Lib.hid (show ¬ (∀ c ∈ bs s, J.isDig c) → J.tnum false (bs s) = .error 2 from fun h => by rw [J.tnum, if_pos (.inr (.inr h))])
        have HOK := Lib.hid (show (∀ c ∈ bs s, J.isDig c) → J.tnum false (bs s) = (if J.val (bs s) < 9223372036854775808 then .ok (J.val (bs s) : Int) else .error 4) from fun h => by rw [J.tnum, if_neg (fun h1 => h1.elim hnn (fun h1 => h1.elim hcond (fun h1 => h1 h))), if_neg (by decide)])
        generalize J.tnum false (bs s) = R at *
        clear hcond hhead hnn hz8
        have hsl := hs
        generalize (bs s)[0] = c0 at *
        go_enter Tryz.func81, Tryz.ntmps81
        go_wp2
        generalize s = t at *
        go_loop [6] (fun i => ∃ k : Nat, k ≤ (bs t).length ∧ i = .int .i64 k ∧ ∀ j (h : j < (bs t).length), j < k → J.isDig (bs t)[j]) (fun i => (bs t).length - (intOf i).toNat)
        case atStart => exact ⟨0, by omega, rfl, fun j _ h => absurd h (Nat.not_lt_zero _)⟩
        case round =>
          obtain ⟨k, hk, rfl, hall⟩ := hrel
          by_cases hlt : k < (bs t).length
          · have hixk := hixg t k hlt
            have hno : ¬ J.isDig (bs t)[k] → R = .error 2 := fun h => HBAD.out fun h2 => h (h2 _ (List.getElem_mem hlt))
            have hyes : J.isDig (bs t)[k] → ∀ j (h : j < (bs t).length), j < k + 1 → J.isDig (bs t)[j] := fun h j hj hjk => by
              rcases Nat.lt_or_ge j k with h1 | h1
              · exact hall j hj h1
              · obtain rfl : j = k := by omega
                exact h
            have HNO := Lib.hid hno
            have HYES := Lib.hid hyes
            clear hno hyes hall
            generalize (bs t)[k] = c8 at *
            by_cases hd1 : (c8.toNat : Int) < 48
            · have HSP := Lib.hid (HNO.out (fun h => by have := h.1; omega))
              go_wp2
              go_ret2
              exact ⟨by rw [HSP.out]; exact rfl, rfl⟩
            · by_cases hd2 : 57 < (c8.toNat : Int)
              · have HSP := Lib.hid (HNO.out (fun h => by have := h.2; omega))
                go_wp2
                go_ret2
                exact ⟨by rw [HSP.out]; exact rfl, rfl⟩
              · have HD := Lib.hid (HYES.out ⟨by omega, by omega⟩)
                go_wp2
                go_round
                case rel => exact ⟨k + 1, hlt, by go_num, HD.out⟩
                case measure => simp [intOf]; omega
          · have hall2 : ∀ c ∈ bs t, J.isDig c := fun c hc => by
              obtain ⟨j, hj, rfl⟩ := List.mem_iff_getElem.1 hc
              exact hall j hj (by omega)
            have HALL := Lib.hid hall2
            clear hall hall2
            obtain rfl : k = (bs t).length := by omega
            go_wp2
            go_loop [7, 8] (fun n i => ∃ k : Nat, k ≤ (bs t).length ∧ i = .int .i64 k ∧ n = .int .i64 (-(J.val ((bs t).take k) : Int)) ∧ J.val ((bs t).take k) ≤ 9223372036854775808) (fun _ i => (bs t).length - (intOf i).toNat)
            case atStart => exact ⟨0, by omega, rfl, rfl, show J.val [] ≤ 9223372036854775808 from by decide⟩
            case round =>
              obtain ⟨k, hk, rfl, rfl, hv⟩ := hrel
              by_cases hlt : k < (bs t).length
              · have hixk := hixg t k hlt
                have hdg := HALL.out _ (List.getElem_mem hlt)
                have HSN := Lib.hid (J.val_snoc (bs t) k hlt)
                have HMO := Lib.hid (J.val_take (bs t) (k + 1))
                generalize (bs t)[k] = c8 at *
                have hd1 := hdg.1
                have hd2 := hdg.2
                clear hdg
                have HL := Lib.hid (tdiv_law (J.val ((bs t).take k)) (c8.toNat - 48) (by omega))
                generalize J.val ((bs t).take k) = v at *
                have hcast : ((c8.toNat - 48 : Nat) : Int) = (c8.toNat : Int) - 48 := by omega
                by_cases hov : 9223372036854775808 < 10 * v + (c8.toNat - 48)
                · have HSP := Lib.hid (show R = .error 4 from by
                    have h1 := HSN.out
                    have h2 := HMO.out
                    rw [HOK.out HALL.out]
                    rw [if_neg (by omega)])
                  have hq := HL.out.2 hov
                  rw [hcast] at hq
                  go_wp2
                  go_ret2
                  exact ⟨by rw [HSP.out]; exact rfl, rfl⟩
                · have hq : ¬ (-(v : Int) < Int.tdiv (-9223372036854775808 + ((c8.toNat : Int) - 48)) 10) := fun h => hov (HL.out.1 (by rw [hcast]; exact h))
                  go_wp2
                  go_round
                  case rel => exact ⟨k + 1, hlt, by go_num, by rw [HSN.out]; congr 1; omega, by rw [HSN.out]; omega⟩
                  case measure => simp [intOf]; omega
              · obtain rfl : k = (bs t).length := by omega
                rw [List.take_length] at hv ⊢
                have hall := HALL.out
                by_cases hmx : J.val (bs t) = 9223372036854775808
                · have HSP := Lib.hid (show R = .error 4 from by rw [HOK.out hall, if_neg (by omega)])
                  rw [hmx] at hv ⊢
                  go_wp2
                  go_ret2
                  exact ⟨by rw [HSP.out]; exact rfl, rfl⟩
                · have HSP := Lib.hid (show R = .ok (J.val (bs t) : Int) from by rw [HOK.out hall, if_pos (by omega)])
                  generalize J.val (bs t) = V at *
                  have hne : ((-(V : Int)) == -9223372036854775808) = false := by simp; omega
                  go_wp2
                  go_ret2
                  exact ⟨by rw [HSP.out]; exact congrArg (fun x => Ending.returned (.tuple #[.int .i64 x, .int .i64 0])) (by omega), rfl⟩
      
end Go.Proofs.YthjldedjllkeeaaGreatDoor
