/- The walks of the reference's Common, of By at ints. -/
import Derived.Test.YtifanmggfoicfaaQRef2
import Derived.Carry
set_option linter.unusedVariables false
namespace Go.Proofs.Ytifanmggfoicfaa
open Go.RowKit Go.Shelf Go.Sort
/-- One as often as a row has it. -/
def hits (x : Int) (b : List Int) : List Int := (b.filter fun y => x == y).map fun _ => x
def rcomm (a b : List Int) : List Int := a.flatMap fun x => hits x b
theorem hits_snoc (x : Int) (b : List Int) (k : Nat) (h : k < b.length) : hits x (b.take (k + 1)) = hits x (b.take k) ++ if x == b[k] then [x] else [] := by
  unfold hits
  rw [List.take_succ_eq_append_getElem h, List.filter_append, List.map_append]
  congr 1
  cases h2 : (x == b[k]) <;> simp [h2]
theorem rcomm_snoc (a b : List Int) (k : Nat) (h : k < a.length) : rcomm (a.take (k + 1)) b = rcomm (a.take k) b ++ hits a[k] b := by
  unfold rcomm
  rw [List.take_succ_eq_append_getElem h, List.flatMap_append]
  simp
theorem hits_len (x : Int) (b : List Int) : (hits x b).length ≤ b.length := by unfold hits; rw [List.length_map]; exact List.length_filter_le _ _
theorem rcomm_len (b : List Int) : ∀ a : List Int, (rcomm a b).length ≤ a.length * b.length
  | [] => by simp [rcomm]
  | x :: a => by
    have h := rcomm_len b a
    have h2 := hits_len x b
    have e : rcomm (x :: a) b = hits x b ++ rcomm a b := by simp [rcomm]
    rw [e, List.length_append, List.length_cons, Nat.add_mul]
    omega
set_option maxRecDepth 100000 in
set_option maxHeartbeats 2000000 in
theorem rcommon_calls (a : List Int) (A : Option Addr) (c : Nat) (b : List Int) (A' : Option Addr) (c' : Nat) (hl : a.length ≤ 1000000) (hl' : b.length ≤ 1000000) (w : World) (hA : Rd w A (cIs a)) (hA' : Rd w A' (cIs b)) :
    Calls Try.prog 29 #[.slice A a.length c, .slice A' b.length c'] w fun e w' => (∃ v, e = .returned v ∧ w'.ownsRow w.heap.size 3 1 v (rcomm (rdst a) (rdst b)).length (cIs (rcomm (rdst a) (rdst b)))) ∧ Ext w w' := by
  obtain ⟨i0, hi, hz0, hz1, hz2⟩ := info_parts bInt
  have HD := Lib.hid (rdistinct_calls a A c (by omega) w hA)
  have HR := Lib.hid hA'
  have hdl := rdst_len a
  have hdl' := rdst_len b
  clear hA hA'
  go_enter Try.func29, Try.ntmps29
  go_wp2_with fail
  refine HD.out.mono ?_
  rintro e w1 ⟨⟨v, rfl, hown⟩, hx⟩
  obtain ⟨A1, c1, rfl, hr⟩ := rd_of_own hown
  have HD2 := Lib.hid (rdistinct_calls b A' c' (by omega) w1 (HR.out.ext hx))
  have HR1 := Lib.hid hr
  have HX1 := Lib.hid hx
  clear hown hr hx HD
  go_wp2_with fail
  refine HD2.out.mono ?_
  rintro e w2 ⟨⟨v, rfl, hown⟩, hx⟩
  obtain ⟨A2, c2, rfl, hr⟩ := rd_of_own hown
  have HR2 := Lib.hid hr
  have HR3 := Lib.hid (HR1.out.ext hx)
  have HX2 := Lib.hid (HX1.out.tr hx)
  clear hown hr hx HD2 HR1 HX1
  generalize hp : rdst a = p at *
  generalize hq : rdst b = q at *
  have HPE := Lib.hid hp
  have HQE := Lib.hid hq
  clear hp hq
  have hpq : p.length * q.length ≤ 1000000000000 := Nat.le_trans (Nat.mul_le_mul (show p.length ≤ 1000000 by omega) (show q.length ≤ 1000000 by omega)) (by decide)
  have HPQ := Lib.hid hpq
  clear hpq
  go_wp2_with fail
  go_loopw [5, 8] (fun v i wr => ∃ k : Nat, k ≤ p.length ∧ i = .int .i64 k ∧ wr.ownsRow w2.heap.size 3 1 v (rcomm (p.take k) q).length (cIs (rcomm (p.take k) q)) ∧ Ext w2 wr) (fun _ i _ => p.length - (intOf i).toNat)
  case atStart => exact ⟨0, Nat.zero_le _, rfl, World.ownsRow_nil _ _ _ _, Ext.rfl' _⟩
  case round =>
    obtain ⟨k, hk, rfl, hown, hX⟩ := hrel
    by_cases hlt : k < p.length
    · obtain ⟨ad, rfl, hadl, hc⟩ := HR3.out.at_ (j := k) (u := .int .i64 p[k]) (by simp [hlt])
      have HLT := Lib.hid hadl
      have hc := hX.cell hc
      clear hadl
      have HS := Lib.hid (rcomm_snoc p q k hlt)
      have hrl := rcomm_len q (p.take k)
      have hrl2 : (rcomm (p.take k) q).length + q.length ≤ 2000000000000 := by
        have h3 : (p.take k).length ≤ p.length := by rw [List.length_take]; omega
        have h4 := Nat.mul_le_mul_right q.length h3
        have := HPQ.out
        omega
      clear hrl
      generalize rcomm (p.take k) q = out at *
      generalize p[k] = x at *
      have HC := Lib.hid hc
      have HO := Lib.hid hown
      have HX := Lib.hid hX
      obtain ⟨wo, hwo⟩ : ∃ wo : World, wo = wr := ⟨_, rfl⟩
      subst hwo
      clear hown hX hc
      go_wp2
      go_loopw [5, 9] (fun v j wi => ∃ J : Nat, J ≤ q.length ∧ j = .int .i64 J ∧ wi.ownsRow w2.heap.size 3 1 v (out ++ hits x (q.take J)).length (cIs (out ++ hits x (q.take J))) ∧ Ext w2 wi ∧ wi.cell? (ad.add k) = some (.int .i64 x)) (fun _ j _ => q.length - (intOf j).toNat)
      case atStart => exact ⟨0, Nat.zero_le _, rfl, by simpa [hits] using HO.out, HX.out, HC.out⟩
      case round =>
        obtain ⟨J, hJ, rfl, hown, hX, c1⟩ := hrel
        by_cases hJl : J < q.length
        · obtain ⟨ad2, rfl, _, c2⟩ := (HR2.out.ext hX).at_ (j := J) (u := .int .i64 q[J]) (by simp [hJl])
          have HH := Lib.hid (hits_snoc x q J hJl)
          have hhl := hits_len x (q.take J)
          rw [List.length_take] at hhl
          have hol : (out ++ hits x (q.take J)).length ≤ out.length + J := by rw [List.length_append]; omega
          generalize hits x (q.take J) = hs at *
          have HOO := Lib.hid hown
          have HXX := Lib.hid hX
          clear hown hX
          generalize q[J] = y at *
          have hc1 := c1
          have hc2 := c2
          cases hxy : (x == y) with
          | true =>
            rw [hxy] at HH
            go_wp2
            go_quiet (fail)
            have HX3 := Lib.hid (HXX.out.drewN nq)
            have HO3 := Lib.hid (show (wr.drewN nq).ownsRow w2.heap.size 3 1 u5 (out ++ hs).length (cIs (out ++ hs)) from HOO.out)
            have d1 : (wr.drewN nq).cell? (ad.add k) = some (.int .i64 x) := hc1
            clear c1 c2 hc1 hc2 HXX HOO
            generalize wr.drewN nq = wq at *
            go_wp2_with (at_builtin; (refine wpList_append_own _ rfl _ _ tIs rfl w2.heap.size 3 i0 (.int .i64 0) 1 8 Try.underlying100 hi hz0 hz1 hz2 rfl (by decide) _ _ _ rfl (HO3.out.alloc _) ⟨wq.heap.size, 0, none⟩ 1 1 [.int .i64 x] rfl rfl (cell_one_new _ _ _) (fun x hx => by simp at hx; subst hx; rfl) (by unfold maxLen; omega) (by omega) (by simp; have := HX3.out.size; omega) ?_); intro v' w3 hown' hgrow _)
            have HX4 := Lib.hid (show Ext w2 w3 from (HX3.out.alloc _).grown hgrow (HX3.out.alloc _).size (fun q hq => (HO3.out.lt q hq).1))
            have HC4 := Lib.hid (hgrow.cell (cell_later ((Ext.rfl' wq).alloc (.cells #[.int .i64 x] 3)) d1) (fun e => by have := (HO3.out.lt _ e.symm).1; rw [add_block] at this; have := HLT.out; omega))
            have HO4 := Lib.hid hown'
            clear hown' hgrow d1
            go_wp2
            go_roundw
            case rel =>
              refine ⟨J + 1, hJl, by go_num, ?_, HX4.out, HC4.out⟩
              rw [HH.out]
              simpa [cIs, Nat.add_assoc] using HO4.out
            case measure => simp [intOf]; omega
          | false =>
            rw [hxy] at HH
            go_wp2
            go_quiet (fail)
            have HX3 := Lib.hid (HXX.out.drewN nq)
            have HO3 := Lib.hid (show (wr.drewN nq).ownsRow w2.heap.size 3 1 u5 (out ++ hs).length (cIs (out ++ hs)) from HOO.out)
            have d1 : (wr.drewN nq).cell? (ad.add k) = some (.int .i64 x) := hc1
            clear c1 c2 hc1 hc2 HXX HOO
            generalize wr.drewN nq = wq at *
            go_wp2
            go_roundw
            case rel => exact ⟨J + 1, hJl, by go_num, by rw [HH.out]; simpa using HO3.out, HX3.out, d1⟩
            case measure => simp [intOf]; omega
        · obtain rfl : J = q.length := by omega
          rw [List.take_length] at hown
          have HOO := Lib.hid hown
          have HXX := Lib.hid hX
          clear hown hX c1
          go_wp2
          go_roundw
          case rel => exact ⟨k + 1, hlt, by go_num, by rw [HS.out]; exact HOO.out, HXX.out⟩
          case measure => simp [intOf]; omega
    · obtain rfl : k = p.length := by omega
      rw [List.take_length] at hown
      have HO := Lib.hid hown
      have HY := Lib.hid (HX2.out.tr hX)
      clear hown hX
      go_wp2
      go_ret
      rw [HPE.out, HQE.out]
      exact ⟨⟨_, rfl, own_base HO.out HX2.out.size⟩, HY.out⟩
/-- It fits an int. -/
def I64' (x : Int) : Prop := -9223372036854775808 ≤ x ∧ x ≤ 9223372036854775807
def tensOf (x : Int) : Int := x.tdiv 10
/-- The first of each. -/
def firstOf (l : List Int) (k : Int) : Option Value := (l.find? fun x => tensOf x == k).map (Value.int .i64)
def cntOf (l : List Int) : Nat := (l.map tensOf).eraseDups.length
theorem firstOf_snoc (l : List Int) (k : Nat) (h : k < l.length) : firstOf (l.take (k + 1)) = if (firstOf (l.take k) (tensOf l[k])).isSome then firstOf (l.take k) else upd (firstOf (l.take k)) (tensOf l[k]) (.int .i64 l[k]) := by
  funext y
  unfold firstOf
  rw [List.take_succ_eq_append_getElem h, List.find?_append]
  by_cases hy : y = tensOf l[k]
  · subst hy
    cases hf : (l.take k).find? (fun x => tensOf x == tensOf l[k]) with
    | none => simp [upd]
    | some u => simp [hf]
  · have h1 : (tensOf l[k] == y) = false := by simpa using fun e => hy e.symm
    simp only [List.find?_cons, h1, List.find?_nil, Option.or_none]
    split
    · rfl
    · rw [upd_other _ hy]
theorem firstOf_isSome (l : List Int) (y : Int) : (firstOf l y).isSome = (l.map tensOf).contains y := by
  unfold firstOf
  rw [Option.isSome_map, Bool.eq_iff_iff, List.find?_isSome, List.contains_eq_any_beq, List.any_map, List.any_eq_true]
  constructor
  · rintro ⟨x, hx, h⟩
    exact ⟨x, hx, by simpa using (eq_of_beq h).symm⟩
  · rintro ⟨x, hx, h⟩
    exact ⟨x, hx, by simpa using (show y = tensOf x by simpa using h).symm⟩
theorem erase_snoc (M : List Int) (y : Int) : (M ++ [y]).eraseDups.length = if M.contains y then M.eraseDups.length else M.eraseDups.length + 1 := by
  rw [List.eraseDups_append, List.length_append]
  unfold List.removeAll
  by_cases hc : y ∈ M
  · rw [if_pos (by simpa using hc), List.filter_cons, if_neg (by simpa using hc)]
    simp
  · rw [if_neg (by simpa using hc), List.filter_cons, if_pos (by simpa using hc)]
    simp [List.eraseDups_cons]
theorem cntOf_snoc (l : List Int) (k : Nat) (h : k < l.length) : cntOf (l.take (k + 1)) = if (firstOf (l.take k) (tensOf l[k])).isSome then cntOf (l.take k) else cntOf (l.take k) + 1 := by
  rw [firstOf_isSome]
  unfold cntOf
  rw [List.take_succ_eq_append_getElem h, List.map_append]
  exact erase_snoc _ _
theorem cntOf_le (l : List Int) : cntOf l ≤ l.length := by
  have : ∀ k, k ≤ l.length → cntOf (l.take k) ≤ k := by
    intro k
    induction k with
    | zero => intro _; simp [cntOf]
    | succ k ih =>
      intro hk
      rw [cntOf_snoc l k hk]
      have := ih (by omega)
      split <;> omega
  have h := this l.length (Nat.le_refl _)
  rwa [List.take_length] at h
theorem tens_wf {x : Int} (h : I64' x) : I64' (tensOf x) := by
  unfold tensOf I64' at *
  by_cases h0 : 0 ≤ x
  · rw [Int.tdiv_eq_ediv_of_nonneg h0]; omega
  · obtain ⟨y, rfl⟩ : ∃ y, x = -y := ⟨-x, by omega⟩
    rw [Int.neg_tdiv, Int.tdiv_eq_ediv_of_nonneg (by omega)]; omega
theorem wf_i64 {x : Int} (h : I64' x) : (Lit.int .i64 x).wf = true := by
  unfold I64' at h
  show (decide (IntKind.i64.min ≤ x) && decide (x ≤ IntKind.i64.max)) = true
  rw [Bool.and_eq_true]
  exact ⟨decide_eq_true h.1, decide_eq_true h.2⟩
set_option maxRecDepth 100000 in
set_option maxHeartbeats 1000000 in
theorem by_calls (l : List Int) (hb : ∀ x ∈ l, I64' x) (A : Option Addr) (c : Nat) (hl : l.length ≤ 1000000000) (w : World) (hA : Rd w A (cIs l)) :
    Calls Try.prog 36 #[.slice A l.length c, .func (.func 37) #[] #[]] w fun e w' => (∃ b, e = .returned (.map (some b)) ∧ MapI Try.prog 3 .i64 w' b (firstOf l) (cntOf l)) ∧ Ext w w' := by
  have hmm := @run_makeMap Try.prog
  have HA := Lib.hid hA
  have HB := Lib.hid hb
  clear hA hb
  go_enter Try.func36, Try.ntmps36
  go_wp2
  have hM := MapI.new Try.prog 3 .i64 w
  have hX := (Ext.rfl' w).alloc (.map #[] 0)
  have HM := Lib.hid hM
  have HX := Lib.hid hX
  clear hM hX hmm
  go_loopw [13] (fun i wr => ∃ k : Nat, k ≤ l.length ∧ i = .int .i64 k ∧ MapI Try.prog 3 .i64 wr w.heap.size (firstOf (l.take k)) (cntOf (l.take k)) ∧ Ext w wr) (fun i _ => l.length - (intOf i).toNat)
  case atStart => exact ⟨0, Nat.zero_le _, rfl, HM.out, HX.out⟩
  case round =>
    obtain ⟨k, hk, rfl, hM, hX⟩ := hrel
    by_cases hlt : k < l.length
    · obtain ⟨ad, rfl, _, c1⟩ := (HA.out.ext hX).at_ (j := k) (u := .int .i64 l[k]) (by simp [hlt])
      have HF := Lib.hid (firstOf_snoc l k hlt)
      have HN := Lib.hid (cntOf_snoc l k hlt)
      have hcl := cntOf_le (l.take k)
      rw [List.length_take] at hcl
      have hx := HB.out l[k] (by simp)
      generalize firstOf (l.take k) = F at *
      generalize cntOf (l.take k) = n at *
      generalize l[k] = x at *
      have ht := tens_wf hx
      have hlook := hM.look (t := 115) Try.underlying3 Try.underlying115 (Try.zeroValue3 _) (wf_i64 ht)
      obtain ⟨w2, hup, hg, m', hm', hM2⟩ := hM.update (t := 115) Try.underlying3 Try.underlying115 (by omega) (wf_i64 ht) (.int .i64 x)
      have HT := Lib.hid (tens_calls x hx.1 hx.2)
      have HX := Lib.hid hX
      have HX2 := Lib.hid (show Ext w w2 from hX.grown hg hX.size (fun j e => by cases e; exact Nat.le_refl _))
      have HM := Lib.hid hM
      change Hid (∀ w, Calls _ _ _ w fun e w' => e = .returned (.int .i64 (tensOf x)) ∧ w = w') at HT
      clear hX hM hg hx
      cases hh : (F (tensOf x)).isSome with
      | true =>
        rw [hh] at hlook
        have HF2 := Lib.hid (HF.out.trans (if_pos hh))
        have HN2 := Lib.hid (HN.out.trans (if_pos hh))
        clear hup hM2 hm' HX2 hh HF HN
        obtain ⟨u, hu⟩ : ∃ u, (F (tensOf x)).getD (.int .i64 0) = u := ⟨_, rfl⟩
        rw [hu] at hlook
        clear hu
        generalize tensOf x = tx at *
        go_wp2_with fail
        refine (HT.out _).mono ?_
        rintro e w3 ⟨rfl, rfl⟩
        go_wp2
        go_roundw
        case rel => exact ⟨k + 1, hlt, by go_num, by rw [HF2.out, HN2.out]; exact HM.out, HX.out⟩
        case measure => simp [intOf]; omega
      | false =>
        rw [hh] at hlook hm'
        have HF2 := Lib.hid (HF.out.trans (if_neg (by rw [hh]; simp)))
        have HN2 := Lib.hid (HN.out.trans (if_neg (by rw [hh]; simp)))
        have HM2 := Lib.hid hM2
        have HMM := Lib.hid hm'
        clear hM2 hm' HX hh HF HN HM
        obtain ⟨u, hu⟩ : ∃ u, (F (tensOf x)).getD (.int .i64 0) = u := ⟨_, rfl⟩
        rw [hu] at hlook
        clear hu
        generalize tensOf x = tx at *
        go_wp2_with fail
        refine (HT.out _).mono ?_
        rintro e w3 ⟨rfl, rfl⟩
        go_wp2_with fail
        refine (HT.out _).mono ?_
        rintro e w3 ⟨rfl, rfl⟩
        go_wp2
        go_roundw
        case rel => exact ⟨k + 1, hlt, by go_num, by rw [HF2.out, HN2.out]; have h := HM2.out; rw [HMM.out] at h; exact h, HX2.out⟩
        case measure => simp [intOf]; omega
    · obtain rfl : k = l.length := by omega
      rw [List.take_length] at hM
      have HX := Lib.hid hX
      have HM := Lib.hid hM
      clear hX hM
      go_wp2
      go_ret
      exact ⟨⟨_, rfl, HM.out⟩, HX.out⟩
end Go.Proofs.Ytifanmggfoicfaa
