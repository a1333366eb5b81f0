/- The walks of Extends, Path, of what they call. -/
import Derived.Test.YtilengooiffikaaDoorTW2
set_option linter.unusedVariables false
set_option linter.unusedSimpArgs false
namespace Go.Proofs.YtilengooiffikaaDoor
open Go.RowKit Go.Sort Go.Maps
set_option maxHeartbeats 1000000 in
theorem index_calls (l : List Nat) (A : Option Addr) (c : Nat) (x : Nat) (w : World) (hA : Rd w A (cDs l)) (hl : l.length ≤ 1000000) :
    Calls Tryd.prog 80 #[.slice A l.length c, cU64 x] w fun e w' => (∃ r : Int, e = .returned (.int .i64 r) ∧ decide (0 ≤ r) = decide (x ∈ l)) ∧ w = w' := by
  have HA := Lib.hid hA
  clear hA
  go_enter Tryd.func80, Tryd.ntmps80
  go_wp2
  go_loop [8] (fun i => ∃ k : Nat, k ≤ l.length ∧ i = .int .i64 k ∧ x ∉ l.take k) (fun i => l.length - (intOf i).toNat)
  case atStart => exact ⟨0, by omega, rfl, by simp⟩
  case round =>
    obtain ⟨k, hk, rfl, hno⟩ := hrel
    by_cases hlt : k < l.length
    · obtain ⟨ad, rfl, _, hc⟩ := HA.out.at_ (j := k) (u := cU64 l[k]) (by simp [hlt])
      have HN := Lib.hid hno
      have HS := Lib.hid (List.take_succ_eq_append_getElem hlt)
      have HM := Lib.hid (List.getElem_mem hlt)
      clear hno
      generalize l[k] = y at *
      by_cases hxy : x = y
      · have h1 : ((x : Int) == (y : Int)) = true := by simp [hxy]
        have hfin : decide ((0 : Int) ≤ (k : Int)) = decide (x ∈ l) := by rw [decide_eq_true (show (0 : Int) ≤ k by omega), decide_eq_true (show x ∈ l from hxy ▸ HM.out)]
        clear hxy
        go_wp2
        go_ret
        exact ⟨⟨_, rfl, by simpa using hfin⟩, rfl⟩
      · have h1 : ((x : Int) == (y : Int)) = false := by simp; omega
        have hn : x ∉ l.take (k + 1) := by rw [HS.out, List.mem_append]; simp [HN.out, hxy]
        have HN2 := Lib.hid hn
        clear hn hxy
        go_wp2
        go_round
        case rel => exact ⟨k + 1, hlt, by go_num, HN2.out⟩
        case measure => simp [intOf]; omega
    · obtain rfl : k = l.length := by omega
      rw [List.take_length] at hno
      have hfin : decide ((0 : Int) ≤ -1) = decide (x ∈ l) := by rw [decide_eq_false hno]; rfl
      clear hno
      go_wp2
      go_ret
      exact ⟨⟨_, rfl, by simpa using hfin⟩, rfl⟩
theorem contains_calls (l : List Nat) (A : Option Addr) (c : Nat) (x : Nat) (w : World) (hA : Rd w A (cDs l)) (hl : l.length ≤ 1000000) :
    Calls Tryd.prog 52 #[.slice A l.length c, cU64 x] w fun e w' => e = .returned (.bool (decide (x ∈ l))) ∧ w = w' := by
  have H := Lib.hid (index_calls l A c x w hA hl)
  clear hA
  go_enter Tryd.func52, Tryd.ntmps52
  go_wp2_with fail
  refine H.out.mono ?_
  rintro e w1 ⟨⟨r, rfl, hr⟩, rfl⟩
  have HR := Lib.hid hr
  clear hr
  go_wp2
  go_ret
  exact ⟨ret_bool HR.out, rfl⟩
theorem extends_calls {tb mb : Nat} {L : List (Nat × T.B)} (w : World) (h : Tr w tb mb L) (n d : Nat) (l : List Nat) (hl : T.way L n d = some l) (hb : ∀ x ∈ l, x < 18446744073709551616) (hn : n ≤ 100000) (x : Nat) :
    Calls Tryd.prog 22 #[.pointer (some ⟨tb, 0, none⟩), cU64 d, cU64 x] w fun e w' => e = .returned (.bool (decide (x ∈ l))) ∧ Ext w w' := by
  have H := Lib.hid (way_calls w h n d l hl hb hn)
  have hlen := (isWay_of n d l hl).2.2
  clear h hl hb
  go_enter Tryd.func22, Tryd.ntmps22
  go_wp2_with fail
  refine H.out.mono ?_
  rintro e w1 ⟨⟨v, rfl, hown⟩, hx⟩
  obtain ⟨A, c, rfl, hr⟩ := rd_of_own hown
  have HC := Lib.hid (contains_calls l A c x w1 hr (by omega))
  have HX := Lib.hid hx
  clear hown hr hx
  go_wp2_with fail
  refine HC.out.mono ?_
  rintro e w2 ⟨rfl, rfl⟩
  go_wp2
  go_ret
  exact ⟨rfl, HX.out⟩
theorem gr_setCell {w W : World} {g : Nat} (h : w.grownBy W (some g)) (o : Nat) (v : Value) : w.grownBy (W.setCell ⟨g, o, none⟩ v) (some g) :=
  ⟨h.os, h.tape, h.output, by simpa [World.setCell] using h.size, fun i hi hne => by
    rw [Below.heap_setCell _ _ _ _ (fun e => hne (by simpa using e))]
    exact h.block i hi hne⟩
theorem gr_drew {w W : World} {r : Option Nat} (h : w.grownBy W r) : w.grownBy W.drew r := ⟨h.os, h.tape, h.output, h.size, h.block⟩
set_option maxHeartbeats 2000000 in
theorem reverse_calls (l : List Nat) (g cap : Nat) (X : List Value) (w : World) (hb : Blk w g 27 X) (hX : X.length = cap) (hl : X.take l.length = cDs l) (hle : l.length ≤ cap) (hm : l.length ≤ 1000000) :
    Calls Tryd.prog 54 #[.slice (some ⟨g, 0, none⟩) l.length cap] w fun e w' => e = .returned (.tuple #[]) ∧ (∃ X', Blk w' g 27 X' ∧ X'.length = cap ∧ X'.take l.length = cDs l.reverse) ∧ w.grownBy w' (some g) := by
  have HB := Lib.hid hb
  have HL := Lib.hid hl
  clear hb hl
  go_enter Tryd.func54, Tryd.ntmps54
  go_wp2
  go_loopw [2, 3] (fun i j wr => ∃ (k : Nat) (X' : List Value), i = .int .i64 k ∧ j = .int .i64 ((l.length : Int) - 1 - k) ∧ 2 * k ≤ l.length ∧ Blk wr g 27 X' ∧ X'.length = cap ∧ (∀ p (hp : p < l.length), X'[p]? = some (cU64 (if p < k ∨ l.length ≤ p + k then l[l.length - 1 - p] else l[p]))) ∧ w.grownBy wr (some g)) (fun i _ _ => l.length - (intOf i).toNat)
  case atStart =>
    refine ⟨0, X, rfl, by simp, by omega, HB.out, hX, fun p hp => ?_, ⟨rfl, rfl, rfl, Nat.le_refl _, fun _ _ _ => rfl⟩⟩
    rw [if_neg (by omega)]
    have h1 := congrArg (fun q => q[p]?) HL.out
    simpa [List.getElem?_take, hp] using h1
  case round =>
    obtain ⟨k, X', rfl, rfl, hk2, hblk, hX', hall, hgr⟩ := hrel
    by_cases hlt : k < l.length - 1 - k
    · have hi1 : k < l.length := by omega
      have hi2 : l.length - 1 - k < l.length := by omega
      have e1 := hall k hi1
      have e2 := hall (l.length - 1 - k) hi2
      rw [if_neg (by omega)] at e1 e2
      have c1 := hblk.cell e1
      have c2 := hblk.cell e2
      have f1 := hblk.frozen k
      have f2 := hblk.frozen (l.length - 1 - k)
      have HBK := Lib.hid hblk
      have HALL := Lib.hid hall
      have HG := Lib.hid hgr
      have ej : (l.length : Int) - 1 - k = ((l.length - 1 - k : Nat) : Int) := by omega
      rw [ej]
      clear hblk hall hgr e1 e2 ej
      generalize hj : l.length - 1 - k = j at *
      go_wp2
      go_region
      go_wp2
      go_roundw
      case rel =>
        refine ⟨k + 1, (X'.set k (cU64 l[j])).set j (cU64 l[k]), by go_num, by rw [show (l.length : Int) - 1 - ((k + 1 : Nat) : Int) = (j : Int) - 1 by omega], by omega, ((HBK.out.set k _).set j _).drew, by simp [hX'], fun p hp => ?_, gr_drew (gr_setCell (gr_setCell HG.out _ _) _ _)⟩
        rw [List.getElem?_set, List.getElem?_set, List.length_set]
        by_cases hpj : j = p
        · subst hpj
          rw [if_pos rfl, if_pos (by omega), if_pos (by omega)]
          have e : l.length - 1 - j = k := by omega
          simp only [e]
        · rw [if_neg hpj]
          by_cases hpk : k = p
          · subst hpk
            rw [if_pos rfl, if_pos (by omega), if_pos (by omega)]
            simp only [hj]
          · rw [if_neg hpk, HALL.out p hp]
            have e : (p < k ∨ l.length ≤ p + k) ↔ (p < k + 1 ∨ l.length ≤ p + (k + 1)) := by omega
            simp only [e]
      case measure => simp [intOf]; omega
    · have HBK := Lib.hid hblk
      have HG := Lib.hid hgr
      have hfin : X'.take l.length = cDs l.reverse := by
        apply List.ext_getElem?
        intro p
        by_cases hp : p < l.length
        · rw [List.getElem?_take, if_pos hp, hall p hp]
          rw [List.getElem?_map, List.getElem?_reverse hp, List.getElem?_eq_getElem (by omega)]
          by_cases h : p < k ∨ l.length ≤ p + k
          · rw [if_pos h]; rfl
          · rw [if_neg h]
            have e : l.length - 1 - p = p := by omega
            simp only [e]
            rfl
        · rw [List.getElem?_take, if_neg hp, List.getElem?_eq_none (by simp; omega)]
      have HF := Lib.hid hfin
      have hnl : ((k : Int) < (l.length : Int) - 1 - k) = False := by simp; omega
      clear hblk hgr hall hfin
      go_wp2
      go_end0
      exact ⟨rfl, ⟨X', HBK.out, hX', HF.out⟩, HG.out⟩
set_option maxHeartbeats 1000000 in
theorem path_calls {tb mb : Nat} {L : List (Nat × T.B)} (w : World) (h : Tr w tb mb L) (n d : Nat) (l : List Nat) (hl : T.way L n d = some l) (hb : ∀ x ∈ l, x < 18446744073709551616) (hn : n ≤ 100000) :
    Calls Tryd.prog 24 #[.pointer (some ⟨tb, 0, none⟩), cU64 d] w fun e w' => (∃ g c, e = .returned (.slice (some ⟨g, 0, none⟩) l.length c) ∧ Rd w' (some ⟨g, 0, none⟩) (cDs l.reverse)) ∧ Ext w w' := by
  have H := Lib.hid (way_calls w h n d l hl hb hn)
  obtain ⟨⟨r, hr⟩, hway, hlen⟩ := isWay_of n d l hl
  have h1 : l.length ≠ 0 := by rw [hr]; simp
  clear h hl hb hr hway
  go_enter Tryd.func24, Tryd.ntmps24
  go_wp2_with fail
  refine H.out.mono ?_
  rintro e w1 ⟨⟨v, rfl, hown⟩, hx⟩
  rcases hown.2 with ⟨_, h0⟩ | ⟨g, cap, cur, rfl, hbg, hg, hnc, hcm, hcs, htake⟩
  · exact absurd h0 h1
  · have hblk : Blk w1 g 27 cur.toList := by unfold Blk; rw [Array.toArray_toList]; exact hg
    have HR := Lib.hid (reverse_calls l g cap cur.toList w1 hblk (by simp [hcs]) (by simpa using htake) hnc (by omega))
    have HX := Lib.hid hx
    have HBG := Lib.hid hbg
    clear hown hx hg hblk htake hbg
    go_wp2_with fail
    refine HR.out.mono ?_
    rintro e w2 ⟨rfl, ⟨X', hb2, hX', ht⟩, hgr⟩
    have HF := Lib.hid (show Ext w w2 from Gr.below HX.out hgr HBG.out HX.out.size)
    have HRD := Lib.hid (show Rd w2 (some ⟨g, 0, none⟩) (cDs l.reverse) from .inr ⟨_, rfl, hb2.lt, fun j hj => by
      have hj2 : j < l.length := by simpa using hj
      have e1 : (⟨g, 0, none⟩ : Addr).add j = ⟨g, j, none⟩ := by unfold Addr.add; split <;> simp [*]
      rw [e1, ← ht, List.getElem?_take, if_pos hj2]
      have hjx : j < X'.length := by omega
      rw [List.getElem?_eq_getElem hjx]
      exact hb2.cell (List.getElem?_eq_getElem hjx)⟩)
    clear hb2 ht hgr
    go_wp2
    go_ret
    exact ⟨⟨_, _, rfl, HRD.out⟩, HF.out⟩
theorem own_cells {w : World} {B : Nat} {e : TypeId} {v : Value} {n : Nat} {xs : List Value} (h : w.ownsRow B e 1 v n xs) (hn : n ≠ 0) : ∃ g c, v = .slice (some ⟨g, 0, none⟩) n c ∧ g < w.heap.size ∧ ∀ j u, xs[j]? = some u → w.cell? ⟨g, j, none⟩ = some u := by
  have hl := h.1
  rcases h.2 with ⟨_, h0⟩ | ⟨g, cap, cur, rfl, hbg, hg, hnc, hcm, hcs, htake⟩
  · exact absurd h0 hn
  · have hblk : Blk w g e cur.toList := by unfold Blk; rw [Array.toArray_toList]; exact hg
    refine ⟨g, cap, rfl, hblk.lt, fun j u hj => hblk.cell ?_⟩
    rw [← htake, List.getElem?_take] at hj
    split at hj
    · exact hj
    · cases hj
theorem isWay_get {L : List (Nat × T.B)} : ∀ {l : List Nat}, IsWay L l → ∀ k, k + 1 < l.length → ∃ b, T.get L (l.getD k 0) = some b
  | [x], _, k, h => by simp at h
  | x :: y :: r, hw, 0, _ => by obtain ⟨_, ⟨b, hb, _⟩, _⟩ := hw; exact ⟨b, by simpa using hb⟩
  | x :: y :: r, hw, k + 1, h => by
    have := isWay_get (l := y :: r) hw.2.2 k (by simpa using h)
    simpa using this
end Go.Proofs.YtilengooiffikaaDoor
