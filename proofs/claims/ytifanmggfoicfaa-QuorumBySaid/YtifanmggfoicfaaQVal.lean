/- The walks of slices.Values, AppendSeq, Collect, Sorted at a slice of ints: a row of the call's own, sorted. -/
import Derived.Test.YtifanmggfoicfaaRange
import Derived.Test.YtifanmggfoicfaaBytes
import Derived.Test.YtifanmggfoicfaaShelf
import Derived.Outline
import Derived.LoopTactic
import Derived.Sort.OwnSortedInts
set_option linter.unusedVariables false
namespace Go.Proofs.Ytifanmggfoicfaa
open Go.RowKit Go.Shelf Go.Sort
attribute [local go_sem] Oper.semAt_some
abbrev cIs (l : List Int) : List Value := l.map (Value.int .i64)
theorem bInt : (Try.prog.info? 3).map (fun i => (i.zero, i.size, i.bytes)) = some (some (.int .i64 0), 1, 8) := by kernel_rfl
abbrev tIs : TypeId := 100
/-- The iterator's box and all that lay before the call lie as they lay. -/
def KpV (n₀ B : Nat) (W W' : World) : Prop := Below n₀ W W' ∧ W'.heap[B]? = W.heap[B]?
theorem KpV.trans {n₀ B : Nat} {X Y Z : World} (h : KpV n₀ B X Y) (k : KpV n₀ B Y Z) : KpV n₀ B X Z := ⟨h.1.trans k.1, k.2.trans h.2⟩
theorem take_snocI (l : List Int) (k : Nat) (h : k < l.length) : l.take (k + 1) = l.take k ++ [l[k]] := List.take_succ_eq_append_getElem h
set_option maxRecDepth 100000 in
theorem values_calls (A : Option Addr) (n c : Nat) (w : World) :
    Calls Try.prog 70 #[.slice A n c] w fun e w' => e = .returned (.func (.func 98) #[] #[.pointer (some ⟨w.heap.size, 0, none⟩)]) ∧ w' = w.alloc (.cells #[.slice A n c] tIs) := by
  go_enter Try.func70, Try.ntmps70
  go_wp2
  go_ret
  exact ⟨rfl, rfl⟩
set_option maxRecDepth 100000 in
set_option maxHeartbeats 2000000 in
theorem values_in (ls : List Int) (A : Option Addr) (c : Nat) (n₀ B l : Nat) (hl : ls.length ≤ 9223372036854775807) (Iv Ix : List Int → World → Prop) (W : World) (hn : n₀ ≤ B)
    (b0 : Boxed W B tIs (.slice A ls.length c)) (hA : ∀ W', Below n₀ W W' → Rd W' A (cIs ls))
    (hY : ∀ pre x W1, Iv pre W1 → pre.length < ls.length → YieldAt Fence.wide 2 Try.prog l #[.int .i64 x] W1 fun e W' =>
      (e = .returned (.bool true) ∧ Iv (pre ++ [x]) W' ∧ KpV n₀ B W1 W') ∨ (e = .returned (.bool false) ∧ Ix (pre ++ [x]) W')) (h0 : Iv [] W) :
   CallsIn Fence.wide 3 Try.prog 98 #[.func (.yield l) #[] #[], .pointer (some ⟨B, 0, none⟩)] W fun e W' => (∃ v, e = .returned v) ∧
      ((∃ xs, xs = ls ∧ Iv xs W') ∨ (∃ pre, pre <+: ls ∧ Ix pre W')) := by
  refine callsIn_of_wp Try.func98 rfl trivial ?_ rfl
  simp only [Try.ntmps98, List.size_toArray, List.length_cons, List.length_nil, Nat.reduceAdd, Nat.reduceSub, Array.replicate_succ, Array.replicate_zero, List.push_toArray, List.append_toArray, List.nil_append, List.cons_append]
  have c1 := b0.cell
  have HA := Lib.hid hA
  clear hA
  gi_wp2
  clear c1
  gi_loopw [7] (fun i wr => ∃ k : Nat, k ≤ ls.length ∧ i = .int .i64 k ∧ KpV n₀ B W wr ∧ Iv (ls.take k) wr)
    (fun i _ => ls.length - (intOf i).toNat)
  case atStart => exact ⟨0, Nat.zero_le _, rfl, ⟨Below.refl _ _, rfl⟩, h0⟩
  case round =>
    obtain ⟨k, hk, rfl, hK, hi⟩ := hrel
    by_cases hlt : k < ls.length
    · obtain ⟨ad, rfl, _, hc⟩ := (HA.out _ hK.1).at_ (j := k) (u := .int .i64 ls[k]) (by simp [hlt])
      obtain ⟨fn, tmps, assign, body, hy, hR⟩ := hY (ls.take k) ls[k] wr hi (by rw [List.length_take]; omega)
      have HS := Lib.hid (take_snocI ls k hlt)
      have HK := Lib.hid hK
      clear hK hi
      generalize ls[k] = x at *
      gi_wp2_with fail
      refine hR.mono ?_
      rintro e W3 (⟨rfl, hJ3, hk3⟩ | ⟨rfl, hJx3⟩)
      · gi_wp2
        go_roundw
        case rel => exact ⟨k + 1, hlt, by go_num, HK.out.trans hk3, by rw [HS.out]; exact hJ3⟩
        case measure => simp [intOf]; omega
      · gi_wp2
        refine bodyPost_ret (results_none rfl _ _ _) rfl ?_
        exact ⟨⟨_, rfl⟩, .inr ⟨_, by rw [← HS.out]; exact List.take_prefix _ _, hJx3⟩⟩
    · obtain rfl : k = ls.length := by omega
      rw [List.take_length] at hi
      gi_wp2
      go_end0
      exact ⟨⟨_, rfl⟩, .inl ⟨_, rfl, hi⟩⟩
theorem values_word (ls : List Int) (A : Option Addr) (c : Nat) (n₀ B : Nat) (p : Addr) (hl : ls.length ≤ 9223372036854775807) (w : World) (hn : n₀ ≤ B) (hw : n₀ ≤ w.heap.size)
    (b0 : Boxed w B tIs (.slice A ls.length c)) (hA : ∀ W', Below n₀ w W' → Rd W' A (cIs ls)) :
    IterWord 3 Try.prog 98 #[.pointer (some ⟨B, 0, none⟩)] (fun x : Int => #[.int .i64 x]) p (KpV n₀ B) (fun xs => xs = ls) (fun pre => pre <+: ls) ls.length w :=
  fun l Iv Ix W hW hJ _ hY h0 => values_in ls A c n₀ B l hl Iv Ix W hn ((hW.block _ b0.lt).trans b0) (fun W' h => hA W' ((hW.mono hw).trans h)) hY h0
theorem setCell_spot (w : World) (b o : Nat) (s : Nat) (v : Value) : w.setCell ⟨b, o, some s⟩ v = w := by
  have h : w.heap.modify b (fun x : Obj => match x with
      | .cells c elem frozen => .cells (if (some s).isSome then c else c.setIfInBounds o v) elem frozen
      | o => o) = w.heap := by
    apply Array.ext_getElem?
    intro i
    rw [Array.getElem?_modify]
    split
    · cases w.heap[i]? with
      | none => rfl
      | some x => cases x <;> rfl
    · rfl
  exact congrArg (fun hp => ({ w with heap := hp } : World)) h
/-- Between two rounds. -/
def ApI (w : World) (pre : List Int) (W : World) : Prop :=
  ∃ v, Boxed W w.heap.size tIs v ∧ W.ownsRow w.heap.size 3 1 v pre.length (cIs pre) ∧ Below w.heap.size w W
theorem apI_own (w : World) (B : Nat) (hB : w.heap.size ≤ B) : OwnFrom B (ApI w) := by
  rintro pre X Y row ⟨v, h1, h2, h3⟩ hg hr
  have hr2 := fun r e => (hr r e).2
  refine ⟨v, h1.kept hg fun e => ?_, h2.kept hg ?_, h3.grown hg h3.size (fun k e => Nat.le_trans hB (hr k e).1)⟩
  · obtain ⟨o, ho, hc⟩ := hr2 _ e.symm
    rw [show X.heap[w.heap.size]? = _ from h1] at ho
    cases ho
    cases hc
  · rcases h2.2 with ⟨rfl, _⟩ | ⟨g, cap, cur, rfl, _, hgb, _⟩
    · exact .inl rfl
    · refine .inr fun e' => ?_
      obtain ⟨o, ho, hc⟩ := hr2 g (by simpa [Value.ownBlock] using e'.symm)
      rw [hgb] at ho
      cases ho
      cases hc
set_option maxRecDepth 100000 in
set_option maxHeartbeats 2000000 in
theorem appendSeq_calls (ls : List Int) (A : Option Addr) (c : Nat) (n₀ B : Nat) (hl : ls.length ≤ 1099511627776) (w : World) (hn : n₀ ≤ B) (hw : n₀ ≤ w.heap.size)
    (b0 : Boxed w B tIs (.slice A ls.length c)) (hA : ∀ W', Below n₀ w W' → Rd W' A (cIs ls)) :
    Calls Try.prog 112 #[.slice none 0 0, .func (.func 98) #[] #[.pointer (some ⟨B, 0, none⟩)]] w fun e w' => (∃ v, e = .returned v ∧ w'.ownsRow w.heap.size 3 1 v ls.length (cIs ls)) ∧ Ext w w' := by
  obtain ⟨i0, hi, hz0, hz1, hz2⟩ := info_parts bInt
  have q0 := Boxed.new w tIs (.slice none 0 0)
  have hB0 : Below w.heap.size w (w.alloc (.cells #[.slice none 0 0] tIs)) := (Below.refl _ w).alloc (Nat.le_refl _) _
  have hwd := values_word ls A c n₀ B ⟨0, 0, some 0⟩ (by omega) w hn hw b0 hA
  refine (callsIn_wide (n := 4)).1 ?_
  refine callsIn_of_wp_marks Try.func112 rfl trivial ?_ rfl
  simp only [Try.ntmps112, List.size_toArray, List.length_cons, List.length_nil, Nat.reduceAdd, Nat.reduceSub, Array.replicate_succ, Array.replicate_zero, List.push_toArray, List.append_toArray, List.nil_append, List.cons_append]
  gi_wp2_with fail
  generalize w.alloc (.cells #[.slice none 0 0] tIs) = W0 at *
  refine wp_range_cell (gf := 98) (lb := #[.pointer (some ⟨B, 0, none⟩)]) rfl (enters_of Try.func98 (by kernel_rfl) rfl)
    hwd KpV.trans (fun W k o o' hk hlk ho => ⟨(Below.refl _ W).grown (grownBy_putObj' W k o') (by have := (Array.getElem?_eq_some_iff.1 hlk).1; have := hB0.size; omega) (fun j e => by cases e; have := hB0.size; omega), World.putObj_heap_other (by have := hB0.size; have := b0.lt; omega)⟩)
    hB0 (fun _ => rfl) (ApI w) (fun _ _ => False) (apI_own w _ hB0.size) (fun _ _ _ _ h => h.elim) (fun _ _ _ h => by rw [setCell_spot]; exact h)
    ⟨_, q0, World.ownsRow_nil _ _ _ _, hB0⟩
    (fun x => { tmps := #[.slice none 0 0, .func (.func 98) #[] #[.pointer (some ⟨B, 0, none⟩)], .pointer (some ⟨w.heap.size, 0, none⟩), undef, .slice none 0 0, .int .i64 x, .func (.func 98) #[] #[.pointer (some ⟨B, 0, none⟩)], .int .i64 x,
          undef, undef, undef, undef, undef], defers := [] }) ?assign ?body ?done ?stop
  case assign =>
    intro l x W K hK
    gi_wp2
    exact hK
  case body =>
    rintro l pre x W ⟨v, h1, h2, h3⟩ hlt
    have c1 := h1.cell
    have hs3 := h3.size
    have hb0 := b0.lt
    gi_wp2_with (gi_at_builtin; refine wpListIn_append_own _ rfl _ _ tIs rfl w.heap.size 3 i0 (.int .i64 0) 1 8 Try.underlying100 hi hz0 hz1 hz2 rfl (by decide) _ _ _ rfl (h2.alloc _) ⟨W.heap.size, 0, none⟩ 1 1 [.int .i64 x] rfl rfl (cell_one_new _ _ _) (fun x hx => by simp at hx; subst hx; rfl) (by unfold maxLen; omega) (by omega) (by simp; omega) ?_; intro v' w2 hown' hgrow _; obtain ⟨g1, g2, g3, g4, g5⟩ := Boxed.appended h1 (by decide) h2 hs3 (Nat.le_refl _) hown' hgrow; have d1 := g1.cell; have f1 := g1.frozen; obtain ⟨A', c', rfl, _⟩ := rd_of_own hown')
    have hBB := h3.trans g5
    exact ⟨g4.from _, ⟨g5.mono hw, g5.block _ hb0⟩, ⟨_, g2, by simpa [cIs] using g3, hBB⟩⟩
  case done =>
    rintro D xs W hD rfl ⟨v, h1, h2, h3⟩ hK
    have c1 := h1.cell
    gi_wp2
    have hBB := h3.trans (belowK_b (w := w) (Nat.le_refl _) _ D _ (.deferred none) (by have := hB0.size; omega) hK rfl rfl)
    refine ⟨by simp, .inl ⟨_, _, rfl, run_takeDeferred hK, ?_⟩⟩
    refine ⟨v, ?_, ⟨v, rfl, ownsRow_putObj h2 (.deferred none) hK rfl⟩, hBB⟩
    simp [results, Try.f112, go_sem]
  case stop =>
    rintro D pre W hD hS h hK
    exact h.elim
end Go.Proofs.Ytifanmggfoicfaa
