/- The walks of slices.IndexFunc, DeleteFunc at ints: whatever function value that only makes memory. -/
import Derived.Test.YtifanmggfoicfaaQDist
import Derived.Lib.SliceRun
set_option linter.unusedVariables false
namespace Go.Proofs.Ytifanmggfoicfaa
open Go.RowKit Go.Shelf Go.Sort
/-- A function value that tells p of an int, and only makes memory. -/
def Tells (f : FuncId) (lb : Array Value) (p : Int → Bool) (w : World) (row : Option Nat) : Prop :=
  ∀ W, w.grownBy W row → ∀ x : Int, Calls Try.prog f (#[.int .i64 x] ++ lb) W fun e w' => e = .returned (.bool (p x)) ∧ Ext W w'
/-- The first that is so; none: -1. -/
def idxP (p : Int → Bool) (l : List Int) : Int := if l.all (fun x => !p x) then -1 else ((l.takeWhile fun x => !p x).length : Nat)
theorem idxP_stop (p : Int → Bool) (l : List Int) (k : Nat) (h : k < l.length) (ha : (l.take k).all (fun x => !p x) = true) (hk : p l[k] = true) : idxP p l = k := by
  have e : l = l.take k ++ l[k] :: l.drop (k + 1) := by rw [← List.drop_eq_getElem_cons h, List.take_append_drop]
  unfold idxP
  rw [if_neg, e, List.takeWhile_append_of_pos (by simpa using ha), List.takeWhile_cons, hk]
  · simp [List.length_take]; omega
  · rw [e, List.all_append, List.all_cons, hk]; simp
theorem idxP_none (p : Int → Bool) (l : List Int) (ha : l.all (fun x => !p x) = true) : idxP p l = -1 := if_pos ha
theorem idxP_cases (p : Int → Bool) (l : List Int) : (idxP p l = -1 ∧ l.all (fun x => !p x) = true) ∨ ∃ k : Nat, ∃ h : k < l.length, idxP p l = k ∧ (l.take k).all (fun x => !p x) = true ∧ p l[k] = true := by
  by_cases h : l.all (fun x => !p x) = true
  · exact .inl ⟨if_pos h, h⟩
  · right
    induction l with
    | nil => exact absurd rfl h
    | cons x l ih =>
      cases hx : p x with
      | true => exact ⟨0, by simp, by rw [idxP_stop p (x :: l) 0 (by simp) rfl hx], rfl, hx⟩
      | false =>
        have h' : ¬ l.all (fun x => !p x) = true := fun e => h (by rw [List.all_cons, hx, e]; rfl)
        obtain ⟨k, hk, e, ha, ht⟩ := ih h'
        have ha2 : ((x :: l).take (k + 1)).all (fun x => !p x) = true := by rw [List.take_succ_cons, List.all_cons, hx, ha]; rfl
        have hk2 : k + 1 < (x :: l).length := by simp; omega
        exact ⟨k + 1, hk2, idxP_stop p (x :: l) (k + 1) hk2 ha2 ht, ha2, ht⟩
theorem grow_ext {w W W' : World} {row : Option Nat} (h : w.grownBy W row) (k : Ext W W') : w.grownBy W' row :=
  ⟨k.os.trans h.os, k.tape.trans h.tape, k.output.trans h.output, Nat.le_trans h.size k.size, fun j hj hne => (k.block j (Nat.lt_of_lt_of_le hj h.size)).trans (h.block j hj hne)⟩
theorem grow_refl (w : World) (row : Option Nat) : w.grownBy w row := ⟨rfl, rfl, rfl, Nat.le_refl _, fun _ _ _ => rfl⟩
theorem ext_grown {w W : World} (h : Ext w W) (row : Option Nat) : w.grownBy W row := grow_ext (grow_refl _ _) h
theorem all_snoc {p : Int → Bool} {l : List Int} {k : Nat} (h : k < l.length) (ha : (l.take k).all (fun x => !p x) = true) (hk : p l[k] = false) : (l.take (k + 1)).all (fun x => !p x) = true := by
  rw [List.take_succ_eq_append_getElem h, List.all_append, ha]
  simp [hk]
set_option maxRecDepth 100000 in
set_option maxHeartbeats 1000000 in
theorem idxFunc_calls (f : FuncId) (lb : Array Value) (eg : ∀ args w, (callFunc f args).run Try.prog w = .ok (.enter f args) w) (p : Int → Bool) (l : List Int) (A : Option Addr) (c : Nat) (w : World) (row : Option Nat) (hA : Rd w A (cIs l)) (hl : l.length ≤ 1099511627776)
    (hp : Tells f lb p w row) :
    Calls Try.prog 99 #[.slice A l.length c, .func (.func f) #[] lb] w fun e w' => e = .returned (.int .i64 (idxP p l)) ∧ Ext w w' := by
  have HA := Lib.hid hA
  have HP := Lib.hid hp
  clear hA hp
  go_enter Try.func99, Try.ntmps99
  go_wp2
  go_loopw [8] (fun i wr => ∃ k : Nat, k ≤ l.length ∧ i = .int .i64 k ∧ (l.take k).all (fun x => !p x) = true ∧ Ext w wr) (fun i _ => l.length - (intOf i).toNat)
  case atStart => exact ⟨0, Nat.zero_le _, rfl, rfl, Ext.rfl' _⟩
  case round =>
    obtain ⟨k, hk, rfl, ha, hx⟩ := hrel
    by_cases hlt : k < l.length
    · obtain ⟨ad, rfl, _, hc⟩ := (HA.out.ext hx).at_ (j := k) (u := .int .i64 l[k]) (by simp [hlt])
      have hcall := HP.out wr (ext_grown hx _) l[k]
      cases hq : p l[k] with
      | true =>
        have HI := Lib.hid (idxP_stop p l k hlt ha hq)
        rw [hq] at hcall
        clear hq ha
        have HX := Lib.hid hx
        have HC := Lib.hid hcall
        clear hx hcall
        generalize l[k] = u at *
        go_wp2_with (go_at_fn f; refine HC.out.mono ?_; rintro e w1 ⟨rfl, hx⟩)
        have HX2 := Lib.hid (HX.out.tr hx)
        clear hx
        go_wp2
        go_ret
        exact ⟨by rw [HI.out]; rfl, HX2.out⟩
      | false =>
        have HI := Lib.hid (all_snoc hlt ha hq)
        rw [hq] at hcall
        clear hq ha
        have HX := Lib.hid hx
        have HC := Lib.hid hcall
        clear hx hcall
        generalize l[k] = u at *
        go_wp2_with (go_at_fn f; refine HC.out.mono ?_; rintro e w1 ⟨rfl, hx⟩)
        have HX2 := Lib.hid (HX.out.tr hx)
        clear hx
        go_wp2
        go_roundw
        case rel => exact ⟨k + 1, hlt, by go_num, HI.out, HX2.out⟩
        case measure => simp [intOf]; omega
    · obtain rfl : k = l.length := by omega
      rw [List.take_length] at ha
      have HI := Lib.hid (idxP_none p l ha)
      have HX := Lib.hid hx
      clear ha hx
      go_wp2
      go_ret
      exact ⟨by rw [HI.out]; rfl, HX.out⟩
/-- What is left of a row, cell by cell, behind j of its elements. -/
structure DelAt (p : Int → Bool) (l : List Int) (n i j : Nat) (cur : Array Value) : Prop where
  size : n ≤ cur.size
  len : i = ((l.take j).filter fun x => !p x).length
  le : i < j
  low : cur.toList.take i = cIs ((l.take j).filter fun x => !p x)
  high : ∀ k, j ≤ k → ∀ h : k < l.length, cur[k]? = some (.int .i64 l[k])
theorem DelAt.start {p : Int → Bool} {l : List Int} {cur : Array Value} {k : Nat} (hk : k < l.length) (hs : l.length ≤ cur.size) (ht : cur.toList.take l.length = cIs l) (ha : (l.take k).all (fun x => !p x) = true) (hp : p l[k] = true) : DelAt p l l.length k (k + 1) cur := by
  have e : (l.take (k + 1)).filter (fun x => !p x) = l.take k := by
    rw [List.take_succ_eq_append_getElem hk, List.filter_append, List.filter_eq_self.2 (by simpa using ha)]
    simp [hp]
  refine ⟨hs, ?_, Nat.lt_succ_self _, ?_, fun j _ h => ?_⟩
  · rw [e, List.length_take]; omega
  · rw [e, show k = min k l.length by omega, ← List.take_take, ht, cIs, ← List.map_take]
    congr 2
    omega
  · have h1 : (cur.toList.take l.length)[j]? = (cIs l)[j]? := by rw [ht]
    rw [List.getElem?_take_of_lt h] at h1
    rw [← Array.getElem?_toList, h1]
    simp [h]
theorem DelAt.skip {p : Int → Bool} {l : List Int} {n i j : Nat} {cur : Array Value} (h : DelAt p l n i j cur) (hj : j < l.length) (hp : p l[j] = true) : DelAt p l n i (j + 1) cur := by
  have e : (l.take (j + 1)).filter (fun x => !p x) = (l.take j).filter fun x => !p x := by
    rw [List.take_succ_eq_append_getElem hj, List.filter_append]
    simp [hp]
  exact ⟨h.size, by rw [e]; exact h.len, Nat.lt_succ_of_lt h.le, by rw [e]; exact h.low, fun k hk => h.high k (by omega)⟩
theorem DelAt.keep {p : Int → Bool} {l : List Int} {n i j : Nat} {cur : Array Value} (h : DelAt p l n i j cur) (hn : n = l.length) (hj : j < l.length) (hp : p l[j] = false) : DelAt p l n (i + 1) (j + 1) (cur.setIfInBounds i (.int .i64 l[j])) := by
  have e : (l.take (j + 1)).filter (fun x => !p x) = ((l.take j).filter fun x => !p x) ++ [l[j]] := by
    rw [List.take_succ_eq_append_getElem hj, List.filter_append]
    simp [hp]
  have hs := h.size
  have hle := h.le
  have hi : i < cur.size := by omega
  refine ⟨by simpa using h.size, by rw [e, List.length_append, ← h.len]; rfl, by omega, ?_, fun k hk hlt => ?_⟩
  · rw [e, Array.toList_setIfInBounds, List.take_succ_eq_append_getElem (by simpa using hi), List.take_set_of_le (Nat.le_refl _), h.low, List.getElem_set_self]
    simp [cIs]
  · rw [Array.getElem?_setIfInBounds_ne (by omega)]
    exact h.high k (by omega) hlt
theorem grow_set (w : World) (g i : Nat) (v : Value) : w.grownBy (w.setCell ⟨g, i, none⟩ v) (some g) :=
  ⟨rfl, rfl, rfl, by simp [World.setCell], fun k _ hk => Below.heap_setCell _ _ _ _ (fun e => hk (by rw [e]))⟩
theorem heap_set {w : World} {g i : Nat} {cs : Array Value} {t : TypeId} {v : Value} (h : w.heap[g]? = some (.cells cs t (0, 0))) : (w.setCell ⟨g, i, none⟩ v).heap[g]? = some (.cells (cs.setIfInBounds i v) t (0, 0)) := by
  simp [World.setCell, Array.getElem?_modify, h]
theorem heap_setCells (g : Nat) (t : TypeId) : ∀ (vs : List Value) (o : Nat) (w : World) (cs : Array Value), w.heap[g]? = some (.cells cs t (0, 0)) →
    ∃ cs', (w.setCells g o vs).heap[g]? = some (.cells cs' t (0, 0)) ∧ cs'.size = cs.size ∧ cs'.toList.take o = cs.toList.take o
  | [], o, w, cs, h => ⟨cs, h, rfl, rfl⟩
  | v :: r, o, w, cs, h => by
    obtain ⟨cs', h1, h2, h3⟩ := heap_setCells g t r (o + 1) (w.setCell ⟨g, o, none⟩ v) _ (heap_set h)
    refine ⟨cs', h1, by simpa using h2, ?_⟩
    have h4 := congrArg (List.take o) h3
    rw [List.take_take, List.take_take, show min o (o + 1) = o by omega, Array.toList_setIfInBounds, List.take_set_of_le (Nat.le_refl _)] at h4
    exact h4
theorem grow_setCells (g : Nat) : ∀ (vs : List Value) (o : Nat) (w : World), w.grownBy (w.setCells g o vs) (some g)
  | [], o, w => grow_refl _ _
  | v :: r, o, w => (grow_set w g o v).trans (grow_setCells g r (o + 1) _)
set_option maxRecDepth 100000 in
set_option maxHeartbeats 2000000 in
theorem delFunc_calls (f : FuncId) (lb : Array Value) (eg : ∀ args w, (callFunc f args).run Try.prog w = .ok (.enter f args) w) (p : Int → Bool) (l : List Int) (base : Nat) (v : Value) (w : World) (hown : w.ownsRow base 3 1 v l.length (cIs l)) (hl : l.length ≤ 1099511627776)
    (hp : Tells f lb p w v.ownBlock) :
    Calls Try.prog 71 #[v, .func (.func f) #[] lb] w fun e w' => (∃ v', e = .returned v' ∧ w'.ownsRow base 3 1 v' (l.filter fun x => !p x).length (cIs (l.filter fun x => !p x))) ∧ w.grownBy w' v.ownBlock := by
  obtain ⟨A0, c0, hv, hrd⟩ := rd_of_own hown
  have HI := Lib.hid (idxFunc_calls f lb eg p l A0 c0 w v.ownBlock hrd hl hp)
  rw [← hv] at HI
  rcases idxP_cases p l with ⟨e1, ha⟩ | ⟨k, hk, e1, ha, ht⟩
  · rw [e1] at HI
    have e2 : l.filter (fun x => !p x) = l := List.filter_eq_self.2 (by simpa using ha)
    rw [e2]
    have HO := Lib.hid hown
    clear hown hp e2 ha hv hrd e1
    go_enter Try.func71, Try.ntmps71
    go_wp2_with fail
    refine HI.out.mono ?_
    rintro e w1 ⟨rfl, hx⟩
    have HX := Lib.hid hx
    clear hx
    go_wp2
    go_ret
    exact ⟨⟨_, rfl, (ext_grown HX.out none) |> fun hg => HO.out.kept hg (by cases hh : v.ownBlock <;> simp)⟩, ext_grown HX.out _⟩
  · rw [e1] at HI
    have HP := Lib.hid hp
    rcases hown.2 with ⟨rfl, hz⟩ | ⟨g, cap, cur0, rfl, hbase, hgb, r1, r2, r3, r4⟩
    · omega
    have hD := DelAt.start hk (by rw [r3]; omega) (by simpa [cIs] using r4) ha ht
    have hglt : g < w.heap.size := (Array.getElem?_eq_some_iff.1 hgb).1
    have hne1 : ((k : Int) == -1) = false := beq_eq_false_iff_ne.2 (by omega)
    clear hown hp ha hv hrd e1 ht r4
    have HD := Lib.hid hD
    have HG := Lib.hid hgb
    have HR3 := Lib.hid r3
    clear hD hgb r3
    go_enter Try.func71, Try.ntmps71
    go_wp2_with fail
    refine HI.out.mono ?_
    rintro e w1 ⟨rfl, hx⟩
    have HX := Lib.hid hx
    clear hx
    go_wp2_with fail
    go_loopw [5, 6] (fun i j wr => ∃ (I J : Nat) (cur : Array Value), i = .int .i64 I ∧ j = .int .i64 J ∧ J ≤ l.length ∧ DelAt p l l.length I J cur ∧ wr.heap[g]? = some (.cells cur 3 (0, 0)) ∧ cur.size = cap * 1 ∧ w.grownBy wr (some g)) (fun _ j _ => l.length - (intOf j).toNat)
    case atStart => exact ⟨k, k + 1, cur0, rfl, by go_num, by omega, HD.out, (HX.out.block g hglt).trans HG.out, HR3.out, ext_grown HX.out _⟩
    case round =>
      obtain ⟨I, J, cur, rfl, rfl, hJ, hD, hb, hcs, hg⟩ := hrel
      have hIJ := hD.le
      have hIs := hD.size
      by_cases hlt : J < l.length
      · have cj : wr.cell? ⟨g, J, none⟩ = some (.int .i64 l[J]) := by rw [cell_of_row _ _ _ _ _ _ hb]; exact hD.high J (Nat.le_refl _) hlt
        have hcall := HP.out wr hg l[J]
        have hgl : g < wr.heap.size := (Array.getElem?_eq_some_iff.1 hb).1
        have HB := Lib.hid hb
        have HCS := Lib.hid hcs
        have HGG := Lib.hid hg
        clear hb hg hcs
        cases hq : p l[J] with
        | true =>
          have HDD := Lib.hid (hD.skip hlt hq)
          rw [hq] at hcall
          have HC := Lib.hid hcall
          clear hD hcall hq
          generalize l[J] = u at *
          go_wp2_with (go_at_fn f; refine HC.out.mono ?_; rintro e w2 ⟨rfl, hx⟩)
          have HX2 := Lib.hid hx
          clear hx cj
          go_wp2
          go_roundw
          case rel => exact ⟨I, J + 1, cur, rfl, by go_num, hlt, HDD.out, (HX2.out.block g hgl).trans HB.out, HCS.out, grow_ext HGG.out HX2.out⟩
          case measure => simp [intOf]; omega
        | false =>
          have HDD := Lib.hid (hD.keep rfl hlt hq)
          rw [hq] at hcall
          have HC := Lib.hid hcall
          clear hD hcall hq
          generalize l[J] = u at *
          have hI : I < cur.size := by omega
          go_wp2_with (go_at_fn f; refine HC.out.mono ?_; rintro e w2 ⟨rfl, hx⟩; have hb2 := (hx.block g hgl).trans HB.out; have HX2 := Lib.hid hx; have HB2 := Lib.hid hb2; have ci : w2.cell? ⟨g, I, none⟩ = some cur[I] := (by rw [cell_of_row _ _ _ _ _ _ hb2, Array.getElem?_eq_getElem hI]); have fi : w2.frozen? ⟨g, I, none⟩ = false := frozen_of_row _ _ _ _ _ hb2; clear hx hb2 cj)
          go_roundw
          case rel => exact ⟨I + 1, J + 1, _, by go_num, by go_num, hlt, HDD.out, heap_set HB2.out, by simpa using HCS.out, by have h := grow_ext HGG.out HX2.out; exact h.trans (grow_set _ _ _ _)⟩
          case measure => simp [intOf]; omega
      · obtain rfl : J = l.length := by omega
        have hcl : ∀ ty, (Builtin.clear_ #[tIs] ty #[.slice (some ⟨g, I, none⟩) (l.length - I) (cap - I)]).run Try.prog wr = .ok (.tuple #[]) (wr.setCells g I (List.replicate (l.length - I) (.int .i64 0))) :=
          fun ty => Lib.run_clear_slice wr _ _ ty _ Try.underlying100 Try.zeroValue3 rfl rfl g I _ _ (by omega) (fun t ht => by rw [cell_of_row _ _ _ _ _ _ hb, Array.getElem?_eq_getElem (by omega)]; rfl) (fun t ht => frozen_of_row _ _ _ _ _ hb)
        obtain ⟨cs', q1, q2, q3⟩ := heap_setCells g 3 (List.replicate (l.length - I) (.int .i64 0)) I wr cur hb
        have HQ := Lib.hid (hg.trans (grow_setCells g (List.replicate (l.length - I) (.int .i64 0)) I wr))
        have HQ1 := Lib.hid q1
        have HQ2 := Lib.hid (q2.trans hcs)
        have HQ3 := Lib.hid (q3.trans hD.low)
        have HL := Lib.hid hD.len
        clear q1 q2 q3 hb hcs hg hD
        go_wp2
        go_ret
        refine ⟨⟨_, rfl, ?_⟩, HQ.out⟩
        have hlen := HL.out
        have h3 := HQ3.out
        rw [List.take_length] at hlen h3
        refine ⟨by simp [cIs], .inr ⟨g, cap, cs', ?_, hbase, HQ1.out, by omega, r2, HQ2.out, by rw [← hlen, Nat.mul_one]; exact h3⟩⟩
        rw [← hlen]
        rfl
end Go.Proofs.Ytifanmggfoicfaa
