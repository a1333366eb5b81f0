/- The walks of slices.Collect, Sorted, quorum.Distinct. -/
import Derived.Test.YtifanmggfoicfaaQVal
import Derived.Shelf.Slices.CompactI
set_option linter.unusedVariables false
namespace Go.Proofs.Ytifanmggfoicfaa
open Go.RowKit Go.Shelf Go.Sort
/-- A row, rising. -/
def srt (l : List Int) : List Int := l.mergeSort fun x y => decide (x ≤ y)
theorem srt_nil : srt [] = [] := by simp [srt]
theorem srt_len (l : List Int) : (srt l).length = l.length := List.length_mergeSort _
set_option maxRecDepth 100000 in
theorem collect_calls (ls : List Int) (A : Option Addr) (c : Nat) (n₀ B : Nat) (hl : ls.length ≤ 1099511627776) (w : World) (hn : n₀ ≤ B) (hw : n₀ ≤ w.heap.size)
    (b0 : Boxed w B tIs (.slice A ls.length c)) (hA : ∀ W', Below n₀ w W' → Rd W' A (cIs ls)) :
    Calls Try.prog 96 #[.func (.func 98) #[] #[.pointer (some ⟨B, 0, none⟩)]] w fun e w' => (∃ v, e = .returned v ∧ w'.ownsRow w.heap.size 3 1 v ls.length (cIs ls)) ∧ Ext w w' := by
  have HC := Lib.hid (appendSeq_calls ls A c n₀ B hl w hn hw b0 hA)
  clear hA b0
  go_enter Try.func96, Try.ntmps96
  go_wp2_with fail
  refine HC.out.mono ?_
  rintro e w1 ⟨⟨v, rfl, hown⟩, hx⟩
  have HX := Lib.hid hx
  have HO := Lib.hid hown
  clear hx hown
  go_wp2
  go_ret
  exact ⟨⟨_, rfl, HO.out⟩, HX.out⟩
theorem own_shrink {w : World} {base g cap n m : Nat} {e : TypeId} {xs : List Value} (h : w.ownsRow base e 1 (.slice (some ⟨g, 0, none⟩) n cap) n xs) (hm : m ≤ n) :
    w.ownsRow base e 1 (.slice (some ⟨g, 0, none⟩) m cap) m (xs.take m) := by
  obtain ⟨hx, ho⟩ := h
  refine ⟨by rw [List.length_take]; omega, .inr ?_⟩
  rcases ho with ⟨h1, _⟩ | ⟨g', cap', cur, hv, hb, hg, hc, hcm, hcs, ht⟩
  · cases h1
  · cases hv
    refine ⟨g, cap, cur, rfl, hb, hg, by omega, hcm, hcs, ?_⟩
    rw [← ht, List.take_take]
    congr 1
    omega
set_option maxRecDepth 100000 in
set_option maxHeartbeats 1000000 in
theorem sorted_calls (ls : List Int) (A : Option Addr) (c : Nat) (n₀ B : Nat) (hl : ls.length ≤ 1099511627776) (w : World) (hn : n₀ ≤ B) (hw : n₀ ≤ w.heap.size)
    (b0 : Boxed w B tIs (.slice A ls.length c)) (hA : ∀ W', Below n₀ w W' → Rd W' A (cIs ls)) :
    Calls Try.prog 69 #[.func (.func 98) #[] #[.pointer (some ⟨B, 0, none⟩)]] w fun e w' => (∃ v, e = .returned v ∧ w'.ownsRow w.heap.size 3 1 v ls.length (cIs (srt ls))) ∧ Ext w w' := by
  have HC := Lib.hid (collect_calls ls A c n₀ B hl w hn hw b0 hA)
  clear hA b0
  go_enter Try.func69, Try.ntmps69
  go_wp2_with fail
  refine HC.out.mono ?_
  rintro e w1 ⟨⟨v, rfl, hown⟩, hx⟩
  have HX := Lib.hid hx
  have HO := Lib.hid hown
  clear hx
  rcases hown.2 with ⟨rfl, hz⟩ | ⟨g, cap, cur, rfl, hbase, hgb, r1, r2, r3, r4⟩
  · have hls : ls = [] := List.eq_nil_of_length_eq_zero hz
    subst hls
    clear hown hz
    go_wp2_with fail
    refine (Try.slices_Sort_int_none _ _ _).mono ?_
    rintro e w2 ⟨rfl, rfl⟩
    go_wp2
    go_ret
    exact ⟨⟨_, rfl, by rw [srt_nil]; exact HO.out⟩, HX.out⟩
  · have hH : Holds (Value.int .i64) w1 g 0 ls.toArray := holds_of_blockI hgb (by simpa [cIs] using r4)
    have hgl : g < w1.heap.size := (Array.getElem?_eq_some_iff.1 hgb).1
    have HF := Lib.hid (fun (k : Nat) (os : Array Obj) => ownsRow_sortedI (n := k) (os := os) (ts := srt ls) (ss := ls) (srt_len ls) hbase hgb r1 r2 r3)
    have HS := Lib.hid (Try.slices_Sort_int g 0 cap ls w1 hH hgl (by omega))
    clear hown r1 r2 r3 r4 hgb hH
    go_wp2_with fail
    refine HS.out.mono ?_
    rintro e w2 ⟨rfl, k, os, rfl⟩
    have HG := Lib.hid (HX.out.grown (grownBy_sortedI (n := k) (os := os) (srt ls).toArray) HX.out.size (fun j hj => by cases hj; exact hbase))
    have HB := Lib.hid (HF.out k os)
    go_wp2
    go_ret
    exact ⟨⟨_, rfl, HB.out⟩, HG.out⟩
/-- Each once, rising. -/
def dst (l : List Int) : List Int := Lib.compact (srt l)
theorem dst_nil : dst [] = [] := by unfold dst; rw [srt_nil]; rfl
set_option maxRecDepth 100000 in
set_option maxHeartbeats 1000000 in
theorem distinct_calls (ls : List Int) (A : Option Addr) (c : Nat) (hl : ls.length ≤ 1099511627776) (w : World) (hA : Rd w A (cIs ls)) :
    Calls Try.prog 26 #[.slice A ls.length c] w fun e w' => (∃ v, e = .returned v ∧ w'.ownsRow w.heap.size 3 1 v (dst ls).length (cIs (dst ls))) ∧ Ext w w' := by
  have hb := Boxed.new w tIs (.slice A ls.length c)
  have hX0 : Ext w (w.alloc (.cells #[.slice A ls.length c] tIs)) := (Ext.rfl' w).alloc _
  have HC := Lib.hid (sorted_calls ls A c w.heap.size w.heap.size hl (w.alloc (.cells #[.slice A ls.length c] tIs)) (Nat.le_refl _) hX0.size hb (fun W' h => hA.below (Nat.le_refl _) (hX0.trans h)))
  have HX0 := Lib.hid hX0
  clear hA hb hX0
  go_enter Try.func26, Try.ntmps26
  go_wp2_with fail
  refine (values_calls _ _ _ _).mono ?_
  rintro e w1 ⟨rfl, rfl⟩
  go_wp2_with fail
  refine HC.out.mono ?_
  rintro e w1 ⟨⟨v, rfl, hown0⟩, hx⟩
  have HX := Lib.hid (HX0.out.tr hx)
  have hown : w1.ownsRow w.heap.size 3 1 v ls.length (cIs (srt ls)) := by
    refine ⟨hown0.1, ?_⟩
    rcases hown0.2 with h | ⟨g, cap, cur, h1, h2, h3⟩
    · exact .inl h
    · exact .inr ⟨g, cap, cur, h1, by simp at h2; omega, h3⟩
  clear hx hown0 HX0 HC
  rcases hown.2 with ⟨rfl, hz⟩ | ⟨g, cap, cur, rfl, hbase, hgb, r1, r2, r3, r4⟩
  · have hls : ls = [] := List.eq_nil_of_length_eq_zero hz
    subst hls
    clear hown hz
    go_wp2_with fail
    refine (Try.slices_Compact_int_empty _ _ _).mono ?_
    rintro e w2 ⟨rfl, rfl⟩
    go_wp2
    go_ret
    exact ⟨⟨_, rfl, by rw [dst_nil]; exact World.ownsRow_nil _ _ _ _⟩, HX.out⟩
  · have r1' : (srt ls).length ≤ cap := by rw [srt_len]; exact r1
    have hsl := srt_len ls
    have hH : Holds (Value.int .i64) w1 g 0 (srt ls).toArray := holds_of_blockI hgb (by rw [hsl]; simpa [cIs] using r4)
    have hgl : g < w1.heap.size := (Array.getElem?_eq_some_iff.1 hgb).1
    have hcl : (Lib.compact (srt ls)).length ≤ (srt ls).length := Lib.compact_length_le _
    have HF := Lib.hid (fun (k : Nat) => own_shrink (m := (Lib.compact (srt ls)).length) (ownsRow_sortedI (n := k) (os := #[]) (ts := Lib.compact (srt ls) ++ List.replicate ((srt ls).length - (Lib.compact (srt ls)).length) 0) (ss := srt ls) (by rw [List.length_append, List.length_replicate]; omega) hbase hgb r1' r2 r3) hcl)
    have HS := Lib.hid (Try.slices_Compact_int g 0 cap (srt ls) w1 hH (by omega) r1')
    rw [hsl] at HS
    clear hown r1 r1' r2 r3 r4 hgb hH hcl hsl
    go_wp2_with fail
    refine HS.out.mono ?_
    rintro e w2 ⟨rfl, k, rfl⟩
    have HG := Lib.hid (HX.out.grown (grownBy_sortedI (n := k) (os := #[]) (Lib.compact (srt ls) ++ List.replicate (ls.length - (Lib.compact (srt ls)).length) 0).toArray) HX.out.size (fun j hj => by cases hj; exact hbase))
    have HB := Lib.hid (HF.out k)
    rw [grow_empty] at HG
    rw [grow_empty, srt_len] at HB
    go_wp2
    go_ret
    refine ⟨⟨_, rfl, ?_⟩, HG.out⟩
    have h := HB.out
    unfold dst cIs
    rw [← List.map_take, List.take_left] at h
    exact h
end Go.Proofs.Ytifanmggfoicfaa
