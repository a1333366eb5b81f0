/- The walks of the law's own small functions. -/
import Derived.Test.YtgomondmogpkeaaGreatDoorWRSplit
import Derived.Test.YtgomondmogpkeaaGreatDoorGrow
import Derived.MapKept
import Derived.RegionTactic
import Derived.ChangeAlike
import Derived.Lib.SlicesS
set_option linter.unusedVariables false
namespace Go.Proofs.YtgomondmogpkeaaGreatDoor
open Go.RowKit
theorem take_eq_succ {α : Type} {a b : List α} {k : Nat} (h : a.take k = b.take k) (ha : k < a.length) (hb : k < b.length) (e : a[k] = b[k]) : a.take (k + 1) = b.take (k + 1) := by
  rw [List.take_succ_eq_append_getElem ha, List.take_succ_eq_append_getElem hb, h, e]
set_option maxHeartbeats 1000000 in
set_option maxRecDepth 100000 in
theorem names_calls (la lb : List ByteArray) (A B : Option Addr) (c d : Nat) (w : World) (hA : Rd w A (cStrs la)) (hB : Rd w B (cStrs lb)) (hla : la.length ≤ 9223372036854775807) (hlb : lb.length ≤ 9223372036854775807) :
    Calls Tryz.prog 19 #[.slice A la.length c, .slice B lb.length d] w fun e w' => e = .returned (.bool (decide (la = lb))) ∧ Ext w w' := by
  have HA := Lib.hid hA
  have HB := Lib.hid hB
  clear hA hB
  by_cases hll : la.length = lb.length
  · have hbe : ((la.length : Int) != (lb.length : Int)) = false := by rw [hll]; simp
    go_enter Tryz.func19, Tryz.ntmps19
    go_wp2
    go_loopw [5] (fun i wr => ∃ k : Nat, k ≤ la.length ∧ i = .int .i64 k ∧ la.take k = lb.take k ∧ Ext w wr) (fun i _ => la.length - (intOf i).toNat)
    case atStart => exact ⟨0, by omega, rfl, rfl, Ext.rfl' _⟩
    case round =>
      obtain ⟨k, hk, rfl, htk, hx⟩ := hrel
      by_cases hlt : k < la.length
      · obtain ⟨ad, rfl, _, hc⟩ := (HA.out.ext hx).at_ (j := k) (u := .string la[k]) (by simp [hlt])
        have hlt2 : k < lb.length := by omega
        obtain ⟨bd, rfl, _, hd⟩ := (HB.out.ext hx).at_ (j := k) (u := .string lb[k]) (by simp [hlt2])
        have HX := Lib.hid hx
        have HT := Lib.hid htk
        clear hx htk
        have htn := fun e => take_eq_succ HT.out hlt hlt2 e
        have hne : la[k] ≠ lb[k] → ¬ la = lb := fun h e => h (by simp [e])
        have HN := Lib.hid htn
        have HNE := Lib.hid hne
        clear htn hne
        generalize la[k] = x at *
        generalize lb[k] = y at *
        by_cases hxy : x = y
        · have h1 : (x == y) = true := (MapKept.bytes_beq x y).2 hxy
          have h2 : (x.toList == y.toList) = true := (Lib.bytes_beq_iff x y).2 hxy
          have h3 : (x != y) = false := by rw [bne, h1]; rfl
          have HXY := Lib.hid hxy
          clear hxy
          go_wp2
          go_region
          go_wp2
          go_roundw
          case rel => exact ⟨k + 1, hlt, by go_num, HN.out HXY.out, HX.out.drew⟩
          case measure => simp [intOf]; omega
        · have h1 : (x == y) = false := by
            cases hq : (x == y) with
            | false => rfl
            | true => exact absurd ((MapKept.bytes_beq x y).1 hq) hxy
          have h2 : (x.toList == y.toList) = false := (Lib.bytes_beq_false_iff x y).2 hxy
          have h3 : (x != y) = true := by rw [bne, h1]; rfl
          have hfin := decide_eq_false (HNE.out hxy)
          go_wp2
          go_region
          go_wp2
          go_ret
          exact ⟨by rw [hfin]; rfl, HX.out.drew⟩
      · obtain rfl : k = la.length := by omega
        have HX := Lib.hid hx
        rw [List.take_length, hll, List.take_length] at htk
        have hfin := decide_eq_true htk
        clear hx htk
        go_wp2
        go_ret
        exact ⟨by rw [hfin]; rfl, HX.out⟩
  · have hbe : ((la.length : Int) == (lb.length : Int)) = false := by simp; omega
    have hbn := bne_f hbe
    have hfin : decide (la = lb) = false := decide_eq_false fun e => hll (by rw [e])
    go_enter Tryz.func19, Tryz.ntmps19
    go_wp2
    go_ret
    exact ⟨by rw [hfin]; rfl, Ext.rfl' _⟩
abbrev cI64s (l : List Int) : List Value := l.map fun n => Value.int .i64 n
set_option maxHeartbeats 1000000 in
set_option maxRecDepth 100000 in
theorem ints_calls (la lb : List Int) (A B : Option Addr) (c d : Nat) (w : World) (hA : Rd w A (cI64s la)) (hB : Rd w B (cI64s lb)) (hla : la.length ≤ 9223372036854775807) (hlb : lb.length ≤ 9223372036854775807) :
    Calls Tryz.prog 27 #[.slice A la.length c, .slice B lb.length d] w fun e w' => e = .returned (.bool (decide (la = lb))) ∧ Ext w w' := by
  have HA := Lib.hid hA
  have HB := Lib.hid hB
  clear hA hB
  by_cases hll : la.length = lb.length
  · have hbe : ((la.length : Int) != (lb.length : Int)) = false := by rw [hll]; simp
    go_enter Tryz.func27, Tryz.ntmps27
    go_wp2
    go_loopw [5] (fun i wr => ∃ k : Nat, k ≤ la.length ∧ i = .int .i64 k ∧ la.take k = lb.take k ∧ Ext w wr) (fun i _ => la.length - (intOf i).toNat)
    case atStart => exact ⟨0, by omega, rfl, rfl, Ext.rfl' _⟩
    case round =>
      obtain ⟨k, hk, rfl, htk, hx⟩ := hrel
      by_cases hlt : k < la.length
      · obtain ⟨ad, rfl, _, hc⟩ := (HA.out.ext hx).at_ (j := k) (u := .int .i64 la[k]) (by simp [hlt])
        have hlt2 : k < lb.length := by omega
        obtain ⟨bd, rfl, _, hd⟩ := (HB.out.ext hx).at_ (j := k) (u := .int .i64 lb[k]) (by simp [hlt2])
        have HX := Lib.hid hx
        have HT := Lib.hid htk
        clear hx htk
        have htn := fun e => take_eq_succ HT.out hlt hlt2 e
        have hne : la[k] ≠ lb[k] → ¬ la = lb := fun h e => h (by simp [e])
        have HN := Lib.hid htn
        have HNE := Lib.hid hne
        clear htn hne
        generalize la[k] = x at *
        generalize lb[k] = y at *
        by_cases hxy : x = y
        · have h1 : (x == y) = true := by simpa using hxy
          have h3 : (x != y) = false := by rw [bne, h1]; rfl
          have HXY := Lib.hid hxy
          clear hxy
          go_wp2
          go_region
          go_wp2
          go_roundw
          case rel => exact ⟨k + 1, hlt, by go_num, HN.out HXY.out, HX.out.drew⟩
          case measure => simp [intOf]; omega
        · have h1 : (x == y) = false := by simpa using hxy
          have h3 : (x != y) = true := by rw [bne, h1]; rfl
          have hfin := decide_eq_false (HNE.out hxy)
          go_wp2
          go_region
          go_wp2
          go_ret
          exact ⟨by rw [hfin]; rfl, HX.out.drew⟩
      · obtain rfl : k = la.length := by omega
        have HX := Lib.hid hx
        rw [List.take_length, hll, List.take_length] at htk
        have hfin := decide_eq_true htk
        clear hx htk
        go_wp2
        go_ret
        exact ⟨by rw [hfin]; rfl, HX.out⟩
  · have hbe : ((la.length : Int) == (lb.length : Int)) = false := by simp; omega
    have hbn := bne_f hbe
    have hfin : decide (la = lb) = false := decide_eq_false fun e => hll (by rw [e])
    go_enter Tryz.func27, Tryz.ntmps27
    go_wp2
    go_ret
    exact ⟨by rw [hfin]; rfl, Ext.rfl' _⟩
/-- Are fields few, and short? -/
def shortB (l : List ByteArray) : Bool := decide (l.length ≤ 100 ∧ ∀ s ∈ l, s.size ≤ 200)
set_option maxHeartbeats 1000000 in
set_option maxRecDepth 100000 in
theorem short_calls (l : List ByteArray) (A : Option Addr) (c : Nat) (w : World) (hA : Rd w A (cStrs l)) (hl : l.length ≤ 9223372036854775807) (hs : ∀ s ∈ l, s.size ≤ 9223372036854775807) :
    Calls Tryz.prog 15 #[.slice A l.length c] w fun e w' => e = .returned (.bool (shortB l)) ∧ w = w' := by
  have HA := Lib.hid hA
  clear hA
  by_cases hbig : 100 < l.length
  · have hfin : shortB l = false := decide_eq_false fun h => by omega
    go_enter Tryz.func15, Tryz.ntmps15
    go_wp2
    go_ret
    exact ⟨by rw [hfin]; rfl, rfl⟩
  · go_enter Tryz.func15, Tryz.ntmps15
    go_wp2
    go_loop [3] (fun i => ∃ k : Nat, k ≤ l.length ∧ i = .int .i64 k ∧ ∀ j (h : j < l.length), j < k → l[j].size ≤ 200) (fun i => l.length - (intOf i).toNat)
    case atStart => exact ⟨0, by omega, rfl, fun j _ h => absurd h (Nat.not_lt_zero _)⟩
    case round =>
      obtain ⟨k, hk, rfl, hall⟩ := hrel
      by_cases hlt : k < l.length
      · obtain ⟨ad, rfl, _, hc⟩ := HA.out.at_ (j := k) (u := .string l[k]) (by simp [hlt])
        have hsz := hs l[k] (by simp)
        have hno : 200 < l[k].size → shortB l = false := fun h => decide_eq_false fun h2 => by have := h2.2 l[k] (by simp); omega
        have hyes : l[k].size ≤ 200 → ∀ j (h : j < l.length), j < k + 1 → l[j].size ≤ 200 := fun h j hj hjk => by
          rcases Nat.lt_or_ge j k with h1 | h1
          · exact hall j hj h1
          · obtain rfl : j = k := by omega
            exact h
        have HNO := Lib.hid hno
        have HYES := Lib.hid hyes
        clear hno hyes hall
        generalize l[k] = x at *
        by_cases hx : 200 < x.size
        · go_wp2
          go_ret
          exact ⟨by rw [HNO.out hx]; rfl, rfl⟩
        · go_wp2
          go_round
          case rel => exact ⟨k + 1, hlt, by go_num, HYES.out (by omega)⟩
          case measure => simp [intOf]; omega
      · have hfin : shortB l = true := decide_eq_true ⟨by omega, fun s hs => by
          obtain ⟨j, hj, rfl⟩ := List.mem_iff_getElem.1 hs
          exact hall j hj (by omega)⟩
        clear hall
        obtain rfl : k = l.length := by omega
        go_wp2
        go_ret
        exact ⟨rfl, rfl⟩
end Go.Proofs.YtgomondmogpkeaaGreatDoor
