/- The walks of the reference's N, Q, CheckConf, Enough, Common; of Ints, tens, By. -/
import Derived.Test.YtifanmggfoicfaaQRef
import Derived.Test.YtifanmggfoicfaaMap
set_option linter.unusedVariables false
namespace Go.Proofs.Ytifanmggfoicfaa
open Go.RowKit Go.Shelf Go.Sort
theorem rn_calls (f : Int) (h0 : 0 ≤ f) (h1 : f ≤ 100) (w : World) : Calls Try.prog 31 #[.int .i64 f] w fun e w' => e = .returned (.int .i64 (3 * f + 1)) ∧ w = w' := by
  go_enter Try.func31, Try.ntmps31
  go_wp2
  go_ret
  exact ⟨rfl, rfl⟩
theorem rq_calls (f : Int) (h0 : 0 ≤ f) (h1 : f ≤ 100) (w : World) : Calls Try.prog 33 #[.int .i64 f] w fun e w' => e = .returned (.int .i64 (2 * f + 1)) ∧ w = w' := by
  go_enter Try.func33, Try.ntmps33
  go_wp2
  go_ret
  exact ⟨rfl, rfl⟩
theorem rcheck_calls (f : Int) (w : World) : Calls Try.prog 23 #[.int .i64 f] w fun e w' => e = .returned (.int .i64 (confC f)) ∧ w = w' := by
  rcases confC_cases f with ⟨h1, hk⟩ | ⟨h1, h2, hk⟩ | ⟨h1, h2, hk⟩
  all_goals
    have HK := Lib.hid hk
    clear hk
    generalize confC f = K at *
    go_enter Try.func23, Try.ntmps23
    go_wp2
    go_ret
    exact ⟨by rw [HK.out]; rfl, rfl⟩
theorem tens_calls (x : Int) (h0 : -9223372036854775808 ≤ x) (h1 : x ≤ 9223372036854775807) (w : World) : Calls Try.prog 37 #[.int .i64 x] w fun e w' => e = .returned (.int .i64 (x.tdiv 10)) ∧ w = w' := by
  go_enter Try.func37, Try.ntmps37
  go_wp2
  go_ret
  exact ⟨rfl, rfl⟩
/-- Are rows alike? -/
def alikeB (a b : List Int) : Bool := decide (a = b)
theorem alike_len {a b : List Int} (h : ¬ a.length = b.length) : alikeB a b = false := by unfold alikeB; simp; intro e; exact h (by rw [e])
theorem alike_at {a b : List Int} {k : Nat} (ha : k < a.length) (hb : k < b.length) (h : ¬ a[k] = b[k]) : alikeB a b = false := by
  unfold alikeB
  simp
  intro e
  subst e
  exact h rfl
theorem alike_all {a b : List Int} (h : a.length = b.length) (ht : a.take a.length = b.take a.length) : alikeB a b = true := by
  unfold alikeB
  rw [List.take_length, h, List.take_length] at ht
  simpa using ht
set_option maxRecDepth 100000 in
set_option maxHeartbeats 1000000 in
theorem ints_calls (a : List Int) (A : Option Addr) (c : Nat) (b : List Int) (B : Option Addr) (d : Nat) (ha : a.length ≤ 1099511627776) (hb : b.length ≤ 1099511627776) (w : World) (hA : Rd w A (cIs a)) (hB : Rd w B (cIs b)) :
    Calls Try.prog 25 #[.slice A a.length c, .slice B b.length d] w fun e w' => e = .returned (.bool (alikeB a b)) ∧ Ext w w' := by
  have HA := Lib.hid hA
  have HB := Lib.hid hB
  clear hA hB
  by_cases hl : a.length = b.length
  · have hl1 : ((a.length : Int) != b.length) = false := by simp [hl]
    have HL := Lib.hid hl
    rw [← hl] at hb ⊢
    clear hl hl1
    go_enter Try.func25, Try.ntmps25
    go_wp2
    go_loopw [5] (fun i wr => ∃ k : Nat, k ≤ a.length ∧ i = .int .i64 k ∧ a.take k = b.take k ∧ Ext w wr) (fun i _ => a.length - (intOf i).toNat)
    case atStart => exact ⟨0, Nat.zero_le _, rfl, rfl, Ext.rfl' _⟩
    case round =>
      obtain ⟨k, hk, rfl, ht, hX⟩ := hrel
      by_cases hlt : k < a.length
      · have hlt2 : k < b.length := by rw [← HL.out]; exact hlt
        obtain ⟨ad, rfl, _, c1⟩ := (HA.out.ext hX).at_ (j := k) (u := .int .i64 a[k]) (by simp [hlt])
        obtain ⟨ad2, rfl, _, c2⟩ := (HB.out.ext hX).at_ (j := k) (u := .int .i64 b[k]) (by simp [hlt2])
        have HX := Lib.hid hX
        by_cases he : a[k] = b[k]
        · have HT := Lib.hid (show a.take (k + 1) = b.take (k + 1) by rw [List.take_succ_eq_append_getElem hlt, List.take_succ_eq_append_getElem hlt2, ht, he])
          have h1 : (a[k] != b[k]) = false := by simp [he]
          clear ht he hX
          generalize a[k] = x at *
          generalize b[k] = y at *
          go_wp2
          go_quiet (fail)
          go_wp2
          go_roundw
          case rel => exact ⟨k + 1, hlt, by go_num, HT.out, HX.out.drewN _⟩
          case measure => simp [intOf]; omega
        · have HF := Lib.hid (alike_at hlt hlt2 he)
          have h1 : (a[k] != b[k]) = true := by simpa using he
          clear ht he hX
          generalize a[k] = x at *
          generalize b[k] = y at *
          go_wp2
          go_quiet (fail)
          go_wp2
          go_ret
          exact ⟨by rw [HF.out]; rfl, HX.out.drewN _⟩
      · obtain rfl : k = a.length := by omega
        have HF := Lib.hid (alike_all HL.out ht)
        have HX := Lib.hid hX
        clear ht hX
        go_wp2
        go_ret
        exact ⟨by rw [HF.out]; rfl, HX.out⟩
  · have hl1 : ((a.length : Int) != b.length) = true := by simp; omega
    have HF := Lib.hid (alike_len hl)
    clear hl
    go_enter Try.func25, Try.ntmps25
    go_wp2
    go_ret
    exact ⟨by rw [HF.out]; rfl, Ext.rfl' _⟩
/-- How many stand there. -/
def cntR (f : Int) (l : List Int) : Nat := (l.filter fun x => !outR f x).length
theorem cntR_snoc (f : Int) (l : List Int) (k : Nat) (h : k < l.length) : cntR f (l.take (k + 1)) = cntR f (l.take k) + if outR f l[k] then 0 else 1 := by
  unfold cntR
  rw [List.take_succ_eq_append_getElem h, List.filter_append, List.length_append]
  congr 1
  cases h2 : outR f l[k] <;> simp [h2]
theorem cntR_le (f : Int) (l : List Int) : cntR f l ≤ l.length := List.length_filter_le _ _
def renoughB (f : Int) (l : List Int) : Bool := decide (2 * f + 1 ≤ (cntR f (rdst l) : Int))
set_option maxRecDepth 100000 in
set_option maxHeartbeats 1000000 in
theorem renough_calls (f : Int) (h0 : 0 ≤ f) (h1 : f ≤ 100) (ls : List Int) (A : Option Addr) (c : Nat) (hl : ls.length ≤ 1099511627776) (w : World) (hA : Rd w A (cIs ls)) :
    Calls Try.prog 35 #[.int .i64 f, .slice A ls.length c] w fun e w' => e = .returned (.bool (renoughB f ls)) ∧ Ext w w' := by
  have HD := Lib.hid (rdistinct_calls ls A c hl w hA)
  have HQ := Lib.hid (rq_calls f h0 h1)
  have HDEF := Lib.hid (show renoughB f ls = decide (2 * f + 1 ≤ (cntR f (rdst ls) : Int)) from rfl)
  have hdl := rdst_len ls
  clear hA
  go_enter Try.func35, Try.ntmps35
  go_wp2_with fail
  refine HD.out.mono ?_
  rintro e w1 ⟨⟨v, rfl, hown⟩, hx⟩
  obtain ⟨A1, c1, rfl, hr⟩ := rd_of_own hown
  have HR := Lib.hid hr
  have HX1 := Lib.hid hx
  clear hown hr hx HD
  generalize rdst ls = l at *
  go_wp2_with fail
  go_loopw [6, 7] (fun s i wr => ∃ k : Nat, k ≤ l.length ∧ i = .int .i64 k ∧ s = .int .i64 (cntR f (l.take k) : Nat) ∧ Ext w1 wr) (fun _ i _ => l.length - (intOf i).toNat)
  case atStart => exact ⟨0, Nat.zero_le _, rfl, rfl, Ext.rfl' _⟩
  case round =>
    obtain ⟨k, hk, rfl, rfl, hX⟩ := hrel
    have hcl := cntR_le f (l.take k)
    rw [List.length_take] at hcl
    by_cases hlt : k < l.length
    · obtain ⟨ad, rfl, _, c1⟩ := (HR.out.ext hX).at_ (j := k) (u := .int .i64 l[k]) (by simp [hlt])
      have HX := Lib.hid hX
      have HS := Lib.hid (cntR_snoc f l k hlt)
      clear hX
      generalize l[k] = x at *
      generalize cntR f (l.take k) = n at *
      by_cases hx0 : x < 0
      · have HO := Lib.hid (outR_lo (f := f) hx0)
        have hd : decide (0 ≤ x) = false := by simpa using hx0
        go_wp2
        go_quiet (fail)
        go_wp2
        go_roundw
        case rel => exact ⟨k + 1, hlt, by go_num, by rw [HS.out, HO.out]; rfl, HX.out.drewN _⟩
        case measure => simp [intOf]; omega
      · have hx1 : 0 ≤ x := by omega
        have HO := Lib.hid (outR_hi (f := f) hx1)
        by_cases hx2 : x < 3 * f + 1
        · have HO2 := Lib.hid (show outR f x = false by rw [HO.out]; simpa using hx2)
          go_wp2
          go_quiet ((go_at_call 31; exact quiet_same (rn_calls f h0 h1 _)))
          go_wp2
          go_roundw
          case rel => exact ⟨k + 1, hlt, by go_num, by rw [HS.out, HO2.out]; go_num, HX.out.drewN _⟩
          case measure => simp [intOf]; omega
        · have HO2 := Lib.hid (show outR f x = true by rw [HO.out]; simp; omega)
          have hd : decide (x < 3 * f + 1) = false := by simpa using hx2
          go_wp2
          go_quiet ((go_at_call 31; exact quiet_same (rn_calls f h0 h1 _)))
          go_wp2
          go_roundw
          case rel => exact ⟨k + 1, hlt, by go_num, by rw [HS.out, HO2.out]; rfl, HX.out.drewN _⟩
          case measure => simp [intOf]; omega
    · obtain rfl : k = l.length := by omega
      rw [List.take_length] at hcl ⊢
      have HX := Lib.hid (HX1.out.tr hX)
      clear hX
      generalize cntR f l = n at *
      go_wp2_with fail
      refine (HQ.out _).mono ?_
      rintro e w2 ⟨rfl, rfl⟩
      go_wp2
      go_ret
      exact ⟨by rw [HDEF.out]; rfl, HX.out⟩
end Go.Proofs.Ytifanmggfoicfaa
