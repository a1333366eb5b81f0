/- The walk of Commit. -/
import Derived.Test.YtilengooiffikaaDoorTW3
import Derived.Deep.RegionHeld3
set_option linter.unusedVariables false
set_option linter.unusedSimpArgs false
namespace Go.Proofs.YtilengooiffikaaDoor
open Go.RowKit Go.Sort Go.Maps
set_option maxHeartbeats 4000000 in
set_option maxRecDepth 100000 in
theorem commit_calls {tb mb : Nat} {L : List (Nat × T.B)} (w : World) (h : Tr w tb mb L) (n d : Nat) (l : List Nat) (hl : T.way L n d = some l) (hb : ∀ x ∈ l, x < 18446744073709551616) (hn : n ≤ 100000) (hv : ∀ x b, T.get L x = some b → -1000000000000 ≤ b.v ∧ b.v ≤ 1000000000000) :
    Calls Tryd.prog 25 #[.pointer (some ⟨tb, 0, none⟩), cU64 d] w fun e w' => e = .returned (.tuple #[cU64 ((T.commit L l).getD 0), .bool (T.commit L l).isSome]) ∧ Ext w w' := by
  have H := Lib.hid (way_calls w h n d l hl hb hn)
  obtain ⟨_, hway, hlen⟩ := isWay_of n d l hl
  by_cases h4 : l.length < 4
  · have hc : T.commit L l = none := by
      match l, h4 with
      | [], _ => rfl
      | [_], _ => rfl
      | [_, _], _ => rfl
      | [_, _, _], _ => rfl
      | _ :: _ :: _ :: _ :: _, h4 => simp at h4; omega
    rw [hc]
    clear h hl hb hway hc hv
    go_enter Tryd.func25, Tryd.ntmps25
    go_wp2_with fail
    refine H.out.mono ?_
    rintro e w1 ⟨⟨v, rfl, hown⟩, hx⟩
    obtain ⟨A, c, rfl, hr⟩ := rd_of_own hown
    have HX := Lib.hid hx
    clear hown hr hx
    go_wp2
    go_ret2
    exact ⟨rfl, HX.out⟩
  · obtain ⟨x, y, z, u, r, rfl⟩ : ∃ x y z u r, l = x :: y :: z :: u :: r := by
      match l, h4 with
      | [], h4 => simp at h4
      | [_], h4 => simp at h4
      | [_, _], h4 => simp at h4
      | [_, _, _], h4 => simp at h4
      | x :: y :: z :: u :: r, _ => exact ⟨x, y, z, u, r, rfl⟩
    obtain ⟨a, ha⟩ := isWay_get hway 0 (by simp)
    obtain ⟨b, hb2⟩ := isWay_get hway 1 (by simp)
    obtain ⟨c, hc⟩ := isWay_get hway 2 (by simp)
    simp at ha hb2 hc
    have hva := hv x a ha
    have hvb := hv y b hb2
    have hvc := hv z c hc
    have hcm : T.commit L (x :: y :: z :: u :: r) = if a.v = b.v + 1 ∧ b.v = c.v + 1 then some z else none := by simp only [T.commit, ha, hb2, hc]
    have hx1 := hb x (by simp)
    have hy1 := hb y (by simp)
    have hz1 := hb z (by simp)
    have HK := Lib.hid (show ∀ W, Ext w W → W.cell? ⟨tb, 0, none⟩ = some (.map (some mb)) ∧ (Instr.lookup 114 (.map (some mb)) (.int .u64 (x : Int)) false).run Tryd.prog W = .ok (bA a) W ∧ (Instr.lookup 114 (.map (some mb)) (.int .u64 (y : Int)) false).run Tryd.prog W = .ok (bA b) W ∧ (Instr.lookup 114 (.map (some mb)) (.int .u64 (z : Int)) false).run Tryd.prog W = .ok (bA c) W from fun W hW => by
      have hT := h.ext hW
      have l1 := tr_look1 hT hx1
      have l2 := tr_look1 hT hy1
      have l3 := tr_look1 hT hz1
      rw [ha] at l1
      rw [hb2] at l2
      rw [hc] at l3
      exact ⟨hT.cell, l1, l2, l3⟩)
    rw [hcm]
    obtain ⟨av, ap, aqv, aqb, alo, ahi⟩ := a
    obtain ⟨bv, bp, bqv, bqb, blo, bhi⟩ := b
    obtain ⟨cv, cp, cqv, cqb, clo, chi⟩ := c
    dsimp only at hva hvb hvc hcm ⊢
    clear h hl hb hway hcm hv ha hb2 hc
    obtain ⟨R, hR, hcase⟩ : ∃ R : Option Nat, (if av = bv + 1 ∧ bv = cv + 1 then some z else none) = R ∧ (((av != bv + 1) = true ∧ R = none) ∨ ((av != bv + 1) = false ∧ (bv != cv + 1) = true ∧ R = none) ∨ ((av != bv + 1) = false ∧ (bv != cv + 1) = false ∧ R = some z)) := by
      refine ⟨_, rfl, ?_⟩
      by_cases e1 : av = bv + 1
      · by_cases e2 : bv = cv + 1
        · exact .inr (.inr ⟨by simp [e1], by simp [e2], if_pos ⟨e1, e2⟩⟩)
        · exact .inr (.inl ⟨by simp [e1], by simp [e2], if_neg fun h => e2 h.2⟩)
      · exact .inl ⟨by simp [e1], if_neg fun h => e1 h.1⟩
    rw [hR]
    clear hR
    go_enter Tryd.func25, Tryd.ntmps25
    go_wp2_with fail
    refine H.out.mono ?_
    rintro e w1 ⟨⟨v, rfl, hown⟩, hx⟩
    have h04 : (0 : Int) < (r.length : Int) + 1 + 1 + 1 + 1 := by omega
    have h14 : (1 : Int) < (r.length : Int) + 1 + 1 + 1 + 1 := by omega
    have h24 : (2 : Int) < (r.length : Int) + 1 + 1 + 1 + 1 := by omega
    obtain ⟨g, q, rfl, hg, hr⟩ := own_cells hown (by simp)
    have hc0 := hr 0 (cU64 x) rfl
    have hc1 := hr 1 (cU64 y) rfl
    have hc2 := hr 2 (cU64 z) rfl
    have HS := Lib.hid (show ∀ w', Ext w1 w' → (w'.cell? ⟨tb, 0, none⟩ = some (.map (some mb)) ∧ w'.cell? ⟨g, 0, none⟩ = some (cU64 x) ∧ w'.cell? ⟨g, 1, none⟩ = some (cU64 y) ∧ w'.cell? ⟨g, 2, none⟩ = some (cU64 z) ∧ (Instr.lookup 114 (.map (some mb)) (.int .u64 (x : Int)) false).run Tryd.prog w' = .ok (bA ⟨av, ap, aqv, aqb, alo, ahi⟩) w' ∧ (Instr.lookup 114 (.map (some mb)) (.int .u64 (y : Int)) false).run Tryd.prog w' = .ok (bA ⟨bv, bp, bqv, bqb, blo, bhi⟩) w' ∧ (Instr.lookup 114 (.map (some mb)) (.int .u64 (z : Int)) false).run Tryd.prog w' = .ok (bA ⟨cv, cp, cqv, cqb, clo, chi⟩) w') from fun w' hE => by
      obtain ⟨q1, q2, q3, q4⟩ := HK.out _ (hx.tr hE)
      exact ⟨q1, hE.cell hc0, hE.cell hc1, hE.cell hc2, q2, q3, q4⟩)
    have hz2 := fun c1 c2 c3 : Array Value => cell_later (show Ext w1 ((((w1.alloc (.cells c1 48)).alloc (.cells c2 48)).alloc (.cells c3 48)).drew) from (Ext.alloc (Ext.alloc (Ext.alloc (Ext.rfl' w1) _) _) _).drew) hc2
    have HX := Lib.hid hx
    have HR := Lib.hid hr
    clear hr hown hx HK
    go_wp2
    refine wp_region_held_drew (S := (fun w' => (w'.cell? ⟨tb, 0, none⟩ = some (.map (some mb)) ∧ w'.cell? ⟨g, 0, none⟩ = some (cU64 x) ∧ w'.cell? ⟨g, 1, none⟩ = some (cU64 y) ∧ w'.cell? ⟨g, 2, none⟩ = some (cU64 z) ∧ (Instr.lookup 114 (.map (some mb)) (.int .u64 (x : Int)) false).run Tryd.prog w' = .ok (bA ⟨av, ap, aqv, aqb, alo, ahi⟩) w' ∧ (Instr.lookup 114 (.map (some mb)) (.int .u64 (y : Int)) false).run Tryd.prog w' = .ok (bA ⟨bv, bp, bqv, bqb, blo, bhi⟩) w' ∧ (Instr.lookup 114 (.map (some mb)) (.int .u64 (z : Int)) false).run Tryd.prog w' = .ok (bA ⟨cv, cp, cqv, cqb, clo, chi⟩) w') ∧ Ext w1 w')) (by kernel_rfl) (by (try dsimp only); first | exact ⟨HS.out _ (Ext.rfl' w1).drew, (Ext.rfl' w1).drew⟩ | exact ⟨HS.out _ (Ext.alloc (Ext.rfl' w1) _).drew, (Ext.alloc (Ext.rfl' w1) _).drew⟩ | exact ⟨HS.out _ (Ext.alloc (Ext.alloc (Ext.rfl' w1) _) _).drew, (Ext.alloc (Ext.alloc (Ext.rfl' w1) _) _).drew⟩ | exact ⟨HS.out _ (Ext.alloc (Ext.alloc (Ext.alloc (Ext.rfl' w1) _) _) _).drew, (Ext.alloc (Ext.alloc (Ext.alloc (Ext.rfl' w1) _) _) _).drew⟩) (fun hHeld => ?_)
    refine wpAnyH_take (i := 0) (v := ?_) (by first | (simp only [List.getElem?_toArray, List.getElem?_cons_zero, List.getElem?_cons_succ]; done) | (simp only [List.getElem?_toArray, List.getElem?_cons_zero, List.getElem?_cons_succ]; rfl)) (by kernel_rfl) (by kernel_rfl) (by kernel_rfl) (by exact fun _ _ _ h => h) (Or.inl ⟨by rfl, ?hy0⟩) (by assumption) ?_
    case hy0 => (intro w hSw; (try dsimp only at hSw); obtain ⟨⟨hs0, hs1, hs2, hs3, hs4, hs5, hs6⟩, _⟩ := hSw; go_simp; try with_reducible rfl)
    try simp only [Act.put, List.setIfInBounds_toArray, List.set_cons_zero, List.set_cons_succ]
    refine wpAnyH_take (i := 1) (v := ?_) (by first | (simp only [List.getElem?_toArray, List.getElem?_cons_zero, List.getElem?_cons_succ]; done) | (simp only [List.getElem?_toArray, List.getElem?_cons_zero, List.getElem?_cons_succ]; rfl)) (by kernel_rfl) (by kernel_rfl) (by kernel_rfl) (by exact fun _ _ _ h => h) (Or.inl ⟨by rfl, ?hy1⟩) (by assumption) ?_
    case hy1 => (intro w hSw; (try dsimp only at hSw); obtain ⟨⟨hs0, hs1, hs2, hs3, hs4, hs5, hs6⟩, _⟩ := hSw; go_simp; try with_reducible rfl)
    try simp only [Act.put, List.setIfInBounds_toArray, List.set_cons_zero, List.set_cons_succ]
    refine wpAnyH_take (i := 2) (v := ?_) (by first | (simp only [List.getElem?_toArray, List.getElem?_cons_zero, List.getElem?_cons_succ]; done) | (simp only [List.getElem?_toArray, List.getElem?_cons_zero, List.getElem?_cons_succ]; rfl)) (by kernel_rfl) (by kernel_rfl) (by kernel_rfl) (by exact fun _ _ _ h => h) (Or.inl ⟨by rfl, ?hy2⟩) (by assumption) ?_
    case hy2 => (intro w hSw; (try dsimp only at hSw); obtain ⟨⟨hs0, hs1, hs2, hs3, hs4, hs5, hs6⟩, _⟩ := hSw; go_simp; try with_reducible rfl)
    try simp only [Act.put, List.setIfInBounds_toArray, List.set_cons_zero, List.set_cons_succ]
    refine wpAnyH_take (i := 3) (v := ?_) (by first | (simp only [List.getElem?_toArray, List.getElem?_cons_zero, List.getElem?_cons_succ]; done) | (simp only [List.getElem?_toArray, List.getElem?_cons_zero, List.getElem?_cons_succ]; rfl)) (by kernel_rfl) (by kernel_rfl) (by kernel_rfl) (by exact fun _ _ _ h => h) (Or.inl ⟨by rfl, ?hy3⟩) (by assumption) ?_
    case hy3 => (intro w hSw; (try dsimp only at hSw); obtain ⟨⟨hs0, hs1, hs2, hs3, hs4, hs5, hs6⟩, _⟩ := hSw; go_simp; try with_reducible rfl)
    try simp only [Act.put, List.setIfInBounds_toArray, List.set_cons_zero, List.set_cons_succ]
    refine wpAnyH_take (i := 4) (v := ?_) (by first | (simp only [List.getElem?_toArray, List.getElem?_cons_zero, List.getElem?_cons_succ]; done) | (simp only [List.getElem?_toArray, List.getElem?_cons_zero, List.getElem?_cons_succ]; rfl)) (by kernel_rfl) (by kernel_rfl) (by kernel_rfl) (by exact fun _ _ _ h => h) (Or.inl ⟨by rfl, ?hy4⟩) (by assumption) ?_
    case hy4 => (intro w hSw; (try dsimp only at hSw); obtain ⟨⟨hs0, hs1, hs2, hs3, hs4, hs5, hs6⟩, _⟩ := hSw; go_simp; try with_reducible rfl)
    try simp only [Act.put, List.setIfInBounds_toArray, List.set_cons_zero, List.set_cons_succ]
    refine wpAnyH_take (i := 5) (v := ?_) (by first | (simp only [List.getElem?_toArray, List.getElem?_cons_zero, List.getElem?_cons_succ]; done) | (simp only [List.getElem?_toArray, List.getElem?_cons_zero, List.getElem?_cons_succ]; rfl)) (by kernel_rfl) (by kernel_rfl) (by kernel_rfl) (by exact fun _ _ _ h => h) (Or.inl ⟨by rfl, ?hy5⟩) (by assumption) ?_
    case hy5 => (intro w hSw; (try dsimp only at hSw); obtain ⟨⟨hs0, hs1, hs2, hs3, hs4, hs5, hs6⟩, _⟩ := hSw; go_simp; try with_reducible rfl)
    try simp only [Act.put, List.setIfInBounds_toArray, List.set_cons_zero, List.set_cons_succ]
    refine wpAnyH_take (i := 6) (v := ?_) (by first | (simp only [List.getElem?_toArray, List.getElem?_cons_zero, List.getElem?_cons_succ]; done) | (simp only [List.getElem?_toArray, List.getElem?_cons_zero, List.getElem?_cons_succ]; rfl)) (by kernel_rfl) (by kernel_rfl) (by kernel_rfl) (by exact fun _ _ _ h => h) (Or.inl ⟨by rfl, ?hy6⟩) (by assumption) ?_
    case hy6 => (intro w hSw; (try dsimp only at hSw); obtain ⟨⟨hs0, hs1, hs2, hs3, hs4, hs5, hs6⟩, _⟩ := hSw; go_simp; try with_reducible rfl)
    try simp only [Act.put, List.setIfInBounds_toArray, List.set_cons_zero, List.set_cons_succ]
    refine wpAnyH_take (i := 7) (v := ?_) (by first | (simp only [List.getElem?_toArray, List.getElem?_cons_zero, List.getElem?_cons_succ]; done) | (simp only [List.getElem?_toArray, List.getElem?_cons_zero, List.getElem?_cons_succ]; rfl)) (by kernel_rfl) (by kernel_rfl) (by kernel_rfl) (by exact fun _ _ _ h => h) (Or.inl ⟨by rfl, ?hy7⟩) (by assumption) ?_
    case hy7 => (intro w hSw; (try dsimp only at hSw); obtain ⟨⟨hs0, hs1, hs2, hs3, hs4, hs5, hs6⟩, _⟩ := hSw; go_simp; try with_reducible rfl)
    try simp only [Act.put, List.setIfInBounds_toArray, List.set_cons_zero, List.set_cons_succ]
    refine wpAnyH_take (i := 8) (v := ?_) (by first | (simp only [List.getElem?_toArray, List.getElem?_cons_zero, List.getElem?_cons_succ]; done) | (simp only [List.getElem?_toArray, List.getElem?_cons_zero, List.getElem?_cons_succ]; rfl)) (by kernel_rfl) (by kernel_rfl) (by kernel_rfl) (by exact fun _ _ _ h => h) (Or.inl ⟨by rfl, ?hy8⟩) (by assumption) ?_
    case hy8 => (intro w hSw; (try dsimp only at hSw); obtain ⟨⟨hs0, hs1, hs2, hs3, hs4, hs5, hs6⟩, _⟩ := hSw; go_simp; try with_reducible rfl)
    try simp only [Act.put, List.setIfInBounds_toArray, List.set_cons_zero, List.set_cons_succ]
    refine wpAnyH_take (i := 9) (v := ?_) (by first | (simp only [List.getElem?_toArray, List.getElem?_cons_zero, List.getElem?_cons_succ]; done) | (simp only [List.getElem?_toArray, List.getElem?_cons_zero, List.getElem?_cons_succ]; rfl)) (by kernel_rfl) (by kernel_rfl) (by kernel_rfl) (by exact fun _ _ _ h => h) (Or.inl ⟨by rfl, ?hy9⟩) (by assumption) ?_
    case hy9 => (intro w hSw; (try dsimp only at hSw); obtain ⟨⟨hs0, hs1, hs2, hs3, hs4, hs5, hs6⟩, _⟩ := hSw; go_simp; try with_reducible rfl)
    try simp only [Act.put, List.setIfInBounds_toArray, List.set_cons_zero, List.set_cons_succ]
    refine wpAnyH_take (i := 10) (v := ?_) (by first | (simp only [List.getElem?_toArray, List.getElem?_cons_zero, List.getElem?_cons_succ]; done) | (simp only [List.getElem?_toArray, List.getElem?_cons_zero, List.getElem?_cons_succ]; rfl)) (by kernel_rfl) (by kernel_rfl) (by kernel_rfl) (by exact fun _ _ _ h => h) (Or.inl ⟨by rfl, ?hy10⟩) (by assumption) ?_
    case hy10 => (intro w hSw; (try dsimp only at hSw); obtain ⟨⟨hs0, hs1, hs2, hs3, hs4, hs5, hs6⟩, _⟩ := hSw; go_simp; try with_reducible rfl)
    try simp only [Act.put, List.setIfInBounds_toArray, List.set_cons_zero, List.set_cons_succ]
    refine wpAnyH_take (i := 11) (v := ?_) (by first | (simp only [List.getElem?_toArray, List.getElem?_cons_zero, List.getElem?_cons_succ]; done) | (simp only [List.getElem?_toArray, List.getElem?_cons_zero, List.getElem?_cons_succ]; rfl)) (by kernel_rfl) (by kernel_rfl) (by kernel_rfl) (by exact fun _ _ _ h => h) (Or.inl ⟨by rfl, ?hy11⟩) (by assumption) ?_
    case hy11 => (intro w hSw; (try dsimp only at hSw); obtain ⟨⟨hs0, hs1, hs2, hs3, hs4, hs5, hs6⟩, _⟩ := hSw; go_simp; try with_reducible rfl)
    try simp only [Act.put, List.setIfInBounds_toArray, List.set_cons_zero, List.set_cons_succ]
    refine wpAnyH_take (i := 12) (v := ?_) (by first | (simp only [List.getElem?_toArray, List.getElem?_cons_zero, List.getElem?_cons_succ]; done) | (simp only [List.getElem?_toArray, List.getElem?_cons_zero, List.getElem?_cons_succ]; rfl)) (by kernel_rfl) (by kernel_rfl) (by kernel_rfl) (by exact fun _ _ _ h => h) (Or.inl ⟨by rfl, ?hy12⟩) (by assumption) ?_
    case hy12 => (intro w hSw; (try dsimp only at hSw); obtain ⟨⟨hs0, hs1, hs2, hs3, hs4, hs5, hs6⟩, _⟩ := hSw; go_simp; try with_reducible rfl)
    try simp only [Act.put, List.setIfInBounds_toArray, List.set_cons_zero, List.set_cons_succ]
    refine wpAnyH_take (i := 13) (v := ?_) (by first | (simp only [List.getElem?_toArray, List.getElem?_cons_zero, List.getElem?_cons_succ]; done) | (simp only [List.getElem?_toArray, List.getElem?_cons_zero, List.getElem?_cons_succ]; rfl)) (by kernel_rfl) (by kernel_rfl) (by kernel_rfl) (by exact fun _ _ _ h => h) (Or.inl ⟨by rfl, ?hy13⟩) (by assumption) ?_
    case hy13 => (intro w hSw; (try dsimp only at hSw); obtain ⟨⟨hs0, hs1, hs2, hs3, hs4, hs5, hs6⟩, _⟩ := hSw; go_simp; try with_reducible rfl)
    try simp only [Act.put, List.setIfInBounds_toArray, List.set_cons_zero, List.set_cons_succ]
    refine wpAnyH_take (i := 14) (v := ?_) (by first | (simp only [List.getElem?_toArray, List.getElem?_cons_zero, List.getElem?_cons_succ]; done) | (simp only [List.getElem?_toArray, List.getElem?_cons_zero, List.getElem?_cons_succ]; rfl)) (by kernel_rfl) (by kernel_rfl) (by kernel_rfl) (by exact fun _ _ _ h => h) (Or.inl ⟨by rfl, ?hy14⟩) (by assumption) ?_
    case hy14 => (intro w hSw; (try dsimp only at hSw); obtain ⟨⟨hs0, hs1, hs2, hs3, hs4, hs5, hs6⟩, _⟩ := hSw; go_simp; try with_reducible rfl)
    try simp only [Act.put, List.setIfInBounds_toArray, List.set_cons_zero, List.set_cons_succ]
    refine wpAnyH_take (i := 15) (v := ?_) (by first | (simp only [List.getElem?_toArray, List.getElem?_cons_zero, List.getElem?_cons_succ]; done) | (simp only [List.getElem?_toArray, List.getElem?_cons_zero, List.getElem?_cons_succ]; rfl)) (by kernel_rfl) (by kernel_rfl) (by kernel_rfl) (by exact fun _ _ _ h => h) (Or.inl ⟨by rfl, ?hy15⟩) (by assumption) ?_
    case hy15 => (intro w hSw; (try dsimp only at hSw); obtain ⟨⟨hs0, hs1, hs2, hs3, hs4, hs5, hs6⟩, _⟩ := hSw; go_simp; try with_reducible rfl)
    try simp only [Act.put, List.setIfInBounds_toArray, List.set_cons_zero, List.set_cons_succ]
    refine wpAnyH_take (i := 16) (v := ?_) (by first | (simp only [List.getElem?_toArray, List.getElem?_cons_zero, List.getElem?_cons_succ]; done) | (simp only [List.getElem?_toArray, List.getElem?_cons_zero, List.getElem?_cons_succ]; rfl)) (by kernel_rfl) (by kernel_rfl) (by kernel_rfl) (by exact fun _ _ _ h => h) (Or.inl ⟨by rfl, ?hy16⟩) (by assumption) ?_
    case hy16 => (intro w hSw; (try dsimp only at hSw); obtain ⟨⟨hs0, hs1, hs2, hs3, hs4, hs5, hs6⟩, _⟩ := hSw; go_simp; try with_reducible rfl)
    try simp only [Act.put, List.setIfInBounds_toArray, List.set_cons_zero, List.set_cons_succ]
    refine wpAnyH_take (i := 17) (v := ?_) (by first | (simp only [List.getElem?_toArray, List.getElem?_cons_zero, List.getElem?_cons_succ]; done) | (simp only [List.getElem?_toArray, List.getElem?_cons_zero, List.getElem?_cons_succ]; rfl)) (by kernel_rfl) (by kernel_rfl) (by kernel_rfl) (by exact fun _ _ _ h => h) (Or.inl ⟨by rfl, ?hy17⟩) (by assumption) ?_
    case hy17 => (intro w hSw; (try dsimp only at hSw); obtain ⟨⟨hs0, hs1, hs2, hs3, hs4, hs5, hs6⟩, _⟩ := hSw; go_simp; try with_reducible rfl)
    try simp only [Act.put, List.setIfInBounds_toArray, List.set_cons_zero, List.set_cons_succ]
    refine wpAnyH_take (i := 18) (v := ?_) (by first | (simp only [List.getElem?_toArray, List.getElem?_cons_zero, List.getElem?_cons_succ]; done) | (simp only [List.getElem?_toArray, List.getElem?_cons_zero, List.getElem?_cons_succ]; rfl)) (by kernel_rfl) (by kernel_rfl) (by kernel_rfl) (by exact fun _ _ _ h => h) (Or.inl ⟨by rfl, ?hy18⟩) (by assumption) ?_
    case hy18 => (intro w hSw; (try dsimp only at hSw); obtain ⟨⟨hs0, hs1, hs2, hs3, hs4, hs5, hs6⟩, _⟩ := hSw; go_simp; try with_reducible rfl)
    try simp only [Act.put, List.setIfInBounds_toArray, List.set_cons_zero, List.set_cons_succ]
    refine wpAnyH_take (i := 19) (v := ?_) (by first | (simp only [List.getElem?_toArray, List.getElem?_cons_zero, List.getElem?_cons_succ]; done) | (simp only [List.getElem?_toArray, List.getElem?_cons_zero, List.getElem?_cons_succ]; rfl)) (by kernel_rfl) (by kernel_rfl) (by kernel_rfl) (by exact fun _ _ _ h => h) (Or.inl ⟨by rfl, ?hy19⟩) (by assumption) ?_
    case hy19 => (intro w hSw; (try dsimp only at hSw); obtain ⟨⟨hs0, hs1, hs2, hs3, hs4, hs5, hs6⟩, _⟩ := hSw; go_simp; try with_reducible rfl)
    try simp only [Act.put, List.setIfInBounds_toArray, List.set_cons_zero, List.set_cons_succ]
    refine wpAnyH_take (i := 20) (v := ?_) (by first | (simp only [List.getElem?_toArray, List.getElem?_cons_zero, List.getElem?_cons_succ]; done) | (simp only [List.getElem?_toArray, List.getElem?_cons_zero, List.getElem?_cons_succ]; rfl)) (by kernel_rfl) (by kernel_rfl) (by kernel_rfl) (by exact fun _ _ _ h => h) (Or.inl ⟨by rfl, ?hy20⟩) (by assumption) ?_
    case hy20 => (intro w hSw; (try dsimp only at hSw); obtain ⟨⟨hs0, hs1, hs2, hs3, hs4, hs5, hs6⟩, _⟩ := hSw; go_simp; try with_reducible rfl)
    try simp only [Act.put, List.setIfInBounds_toArray, List.set_cons_zero, List.set_cons_succ]
    refine wpAnyH_take (i := 21) (v := ?_) (by first | (simp only [List.getElem?_toArray, List.getElem?_cons_zero, List.getElem?_cons_succ]; done) | (simp only [List.getElem?_toArray, List.getElem?_cons_zero, List.getElem?_cons_succ]; rfl)) (by kernel_rfl) (by kernel_rfl) (by kernel_rfl) (by exact fun _ _ _ h => h) (Or.inl ⟨by rfl, ?hy21⟩) (by assumption) ?_
    case hy21 => (intro w hSw; (try dsimp only at hSw); obtain ⟨⟨hs0, hs1, hs2, hs3, hs4, hs5, hs6⟩, _⟩ := hSw; go_simp; try with_reducible rfl)
    try simp only [Act.put, List.setIfInBounds_toArray, List.set_cons_zero, List.set_cons_succ]
    refine wpAnyH_take (i := 22) (v := ?_) (by first | (simp only [List.getElem?_toArray, List.getElem?_cons_zero, List.getElem?_cons_succ]; done) | (simp only [List.getElem?_toArray, List.getElem?_cons_zero, List.getElem?_cons_succ]; rfl)) (by kernel_rfl) (by kernel_rfl) (by kernel_rfl) (by exact fun _ _ _ h => h) (Or.inl ⟨by rfl, ?hy22⟩) (by assumption) ?_
    case hy22 => (intro w hSw; (try dsimp only at hSw); obtain ⟨⟨hs0, hs1, hs2, hs3, hs4, hs5, hs6⟩, _⟩ := hSw; go_simp; try with_reducible rfl)
    try simp only [Act.put, List.setIfInBounds_toArray, List.set_cons_zero, List.set_cons_succ]
    refine wpAnyH_take (i := 23) (v := ?_) (by first | (simp only [List.getElem?_toArray, List.getElem?_cons_zero, List.getElem?_cons_succ]; done) | (simp only [List.getElem?_toArray, List.getElem?_cons_zero, List.getElem?_cons_succ]; rfl)) (by kernel_rfl) (by kernel_rfl) (by kernel_rfl) (by exact fun _ _ _ h => h) (Or.inl ⟨by rfl, ?hy23⟩) (by assumption) ?_
    case hy23 => (intro w hSw; (try dsimp only at hSw); obtain ⟨⟨hs0, hs1, hs2, hs3, hs4, hs5, hs6⟩, _⟩ := hSw; go_simp; try with_reducible rfl)
    try simp only [Act.put, List.setIfInBounds_toArray, List.set_cons_zero, List.set_cons_succ]
    refine wpAnyH_ready (rs := [24, 25, 26]) (by kernel_rfl) (by simp) ?_
    refine AllReadyH.cons (by first | (simp only [List.getElem?_toArray, List.getElem?_cons_zero, List.getElem?_cons_succ]; done) | (simp only [List.getElem?_toArray, List.getElem?_cons_zero, List.getElem?_cons_succ]; rfl)) (fun K hK => ?_) ?_
    · go_simp
      refine hK.out _ _ (by (try dsimp only); first | exact ⟨HS.out _ (Ext.rfl' w1).drew, (Ext.rfl' w1).drew⟩ | exact ⟨HS.out _ (Ext.alloc (Ext.rfl' w1) _).drew, (Ext.alloc (Ext.rfl' w1) _).drew⟩ | exact ⟨HS.out _ (Ext.alloc (Ext.alloc (Ext.rfl' w1) _) _).drew, (Ext.alloc (Ext.alloc (Ext.rfl' w1) _) _).drew⟩ | exact ⟨HS.out _ (Ext.alloc (Ext.alloc (Ext.alloc (Ext.rfl' w1) _) _) _).drew, (Ext.alloc (Ext.alloc (Ext.alloc (Ext.rfl' w1) _) _) _).drew⟩) (fun hHeld => ?_)
      clear hK K
      try simp only [Act.put, List.setIfInBounds_toArray, List.set_cons_zero, List.set_cons_succ]
      refine wpAnyH_ready (rs := [25, 26]) (by kernel_rfl) (by simp) ?_
      refine AllReadyH.cons (by first | (simp only [List.getElem?_toArray, List.getElem?_cons_zero, List.getElem?_cons_succ]; done) | (simp only [List.getElem?_toArray, List.getElem?_cons_zero, List.getElem?_cons_succ]; rfl)) (fun K hK => ?_) ?_
      · go_simp
        refine hK.out _ _ (by (try dsimp only); first | exact ⟨HS.out _ (Ext.rfl' w1).drew, (Ext.rfl' w1).drew⟩ | exact ⟨HS.out _ (Ext.alloc (Ext.rfl' w1) _).drew, (Ext.alloc (Ext.rfl' w1) _).drew⟩ | exact ⟨HS.out _ (Ext.alloc (Ext.alloc (Ext.rfl' w1) _) _).drew, (Ext.alloc (Ext.alloc (Ext.rfl' w1) _) _).drew⟩ | exact ⟨HS.out _ (Ext.alloc (Ext.alloc (Ext.alloc (Ext.rfl' w1) _) _) _).drew, (Ext.alloc (Ext.alloc (Ext.alloc (Ext.rfl' w1) _) _) _).drew⟩) (fun hHeld => ?_)
        clear hK K
        try simp only [Act.put, List.setIfInBounds_toArray, List.set_cons_zero, List.set_cons_succ]
        refine wpAnyH_ready (rs := [26]) (by kernel_rfl) (by simp) ?_
        refine AllReadyH.cons (by first | (simp only [List.getElem?_toArray, List.getElem?_cons_zero, List.getElem?_cons_succ]; done) | (simp only [List.getElem?_toArray, List.getElem?_cons_zero, List.getElem?_cons_succ]; rfl)) (fun K hK => ?_) ?_
        · go_simp
          refine hK.out _ _ (by (try dsimp only); first | exact ⟨HS.out _ (Ext.rfl' w1).drew, (Ext.rfl' w1).drew⟩ | exact ⟨HS.out _ (Ext.alloc (Ext.rfl' w1) _).drew, (Ext.alloc (Ext.rfl' w1) _).drew⟩ | exact ⟨HS.out _ (Ext.alloc (Ext.alloc (Ext.rfl' w1) _) _).drew, (Ext.alloc (Ext.alloc (Ext.rfl' w1) _) _).drew⟩ | exact ⟨HS.out _ (Ext.alloc (Ext.alloc (Ext.alloc (Ext.rfl' w1) _) _) _).drew, (Ext.alloc (Ext.alloc (Ext.alloc (Ext.rfl' w1) _) _) _).drew⟩) (fun hHeld => ?_)
          clear hK K
          try simp only [Act.put, List.setIfInBounds_toArray, List.set_cons_zero, List.set_cons_succ]
          refine wpAnyH_ready (rs := [27]) (by kernel_rfl) (by simp) ?_
          refine AllReadyH.cons (by first | (simp only [List.getElem?_toArray, List.getElem?_cons_zero, List.getElem?_cons_succ]; done) | (simp only [List.getElem?_toArray, List.getElem?_cons_zero, List.getElem?_cons_succ]; rfl)) (fun K hK => ?_) ?_
          · go_simp
            refine hK.out _ _ (by (try dsimp only); first | exact ⟨HS.out _ (Ext.rfl' w1).drew, (Ext.rfl' w1).drew⟩ | exact ⟨HS.out _ (Ext.alloc (Ext.rfl' w1) _).drew, (Ext.alloc (Ext.rfl' w1) _).drew⟩ | exact ⟨HS.out _ (Ext.alloc (Ext.alloc (Ext.rfl' w1) _) _).drew, (Ext.alloc (Ext.alloc (Ext.rfl' w1) _) _).drew⟩ | exact ⟨HS.out _ (Ext.alloc (Ext.alloc (Ext.alloc (Ext.rfl' w1) _) _) _).drew, (Ext.alloc (Ext.alloc (Ext.alloc (Ext.rfl' w1) _) _) _).drew⟩) (fun hHeld => ?_)
            clear hK K
            try simp only [Act.put, List.setIfInBounds_toArray, List.set_cons_zero, List.set_cons_succ]
            refine wpAnyH_ready (rs := [28]) (by kernel_rfl) (by simp) ?_
            refine AllReadyH.cons (by first | (simp only [List.getElem?_toArray, List.getElem?_cons_zero, List.getElem?_cons_succ]; done) | (simp only [List.getElem?_toArray, List.getElem?_cons_zero, List.getElem?_cons_succ]; rfl)) (fun K hK => ?_) ?_
            · go_simp
              refine hK.out _ _ (by (try dsimp only); first | exact ⟨HS.out _ (Ext.rfl' w1).drew, (Ext.rfl' w1).drew⟩ | exact ⟨HS.out _ (Ext.alloc (Ext.rfl' w1) _).drew, (Ext.alloc (Ext.rfl' w1) _).drew⟩ | exact ⟨HS.out _ (Ext.alloc (Ext.alloc (Ext.rfl' w1) _) _).drew, (Ext.alloc (Ext.alloc (Ext.rfl' w1) _) _).drew⟩ | exact ⟨HS.out _ (Ext.alloc (Ext.alloc (Ext.alloc (Ext.rfl' w1) _) _) _).drew, (Ext.alloc (Ext.alloc (Ext.alloc (Ext.rfl' w1) _) _) _).drew⟩) (fun hHeld => ?_)
              clear hK K
              try simp only [Act.put, List.setIfInBounds_toArray, List.set_cons_zero, List.set_cons_succ]
              refine wpAnyH_ready (rs := [29]) (by kernel_rfl) (by simp) ?_
              refine AllReadyH.cons (by first | (simp only [List.getElem?_toArray, List.getElem?_cons_zero, List.getElem?_cons_succ]; done) | (simp only [List.getElem?_toArray, List.getElem?_cons_zero, List.getElem?_cons_succ]; rfl)) (fun K hK => ?_) ?_
              · go_simp
                refine hK.out _ _ (by (try dsimp only); first | exact ⟨HS.out _ (Ext.rfl' w1).drew, (Ext.rfl' w1).drew⟩ | exact ⟨HS.out _ (Ext.alloc (Ext.rfl' w1) _).drew, (Ext.alloc (Ext.rfl' w1) _).drew⟩ | exact ⟨HS.out _ (Ext.alloc (Ext.alloc (Ext.rfl' w1) _) _).drew, (Ext.alloc (Ext.alloc (Ext.rfl' w1) _) _).drew⟩ | exact ⟨HS.out _ (Ext.alloc (Ext.alloc (Ext.alloc (Ext.rfl' w1) _) _) _).drew, (Ext.alloc (Ext.alloc (Ext.alloc (Ext.rfl' w1) _) _) _).drew⟩) (fun hHeld => ?_)
                clear hK K
                try simp only [Act.put, List.setIfInBounds_toArray, List.set_cons_zero, List.set_cons_succ]
                refine wpAnyH_done (by kernel_rfl) ?_ _
                rcases hcase with ⟨k1, k3⟩ | ⟨k1, k2, k3⟩ | ⟨k1, k2, k3⟩
                · have K3 := Lib.hid k3
                  clear k3 hHeld
                  go_wp2
                  go_ret2
                  exact ⟨by rw [K3.out]; rfl, HX.out.tr (Ext.alloc (Ext.alloc (Ext.alloc (Ext.rfl' w1) _) _) _).drew⟩
                · have K3 := Lib.hid k3
                  clear k3 hHeld
                  go_wp2
                  go_ret2
                  exact ⟨by rw [K3.out]; rfl, HX.out.tr (Ext.alloc (Ext.alloc (Ext.alloc (Ext.rfl' w1) _) _) _).drew⟩
                · have K3 := Lib.hid k3
                  clear k3 hHeld
                  go_wp2
                  go_ret2
                  exact ⟨by rw [K3.out]; rfl, HX.out.tr (Ext.alloc (Ext.alloc (Ext.alloc (Ext.rfl' w1) _) _) _).drew⟩
              exact AllReadyH.nil
            exact AllReadyH.nil
          exact AllReadyH.nil
        exact AllReadyH.nil
      refine AllReadyH.cons (by first | (simp only [List.getElem?_toArray, List.getElem?_cons_zero, List.getElem?_cons_succ]; done) | (simp only [List.getElem?_toArray, List.getElem?_cons_zero, List.getElem?_cons_succ]; rfl)) (fun K hK => ?_) ?_
      · go_simp
        refine hK.out _ _ (by (try dsimp only); first | exact ⟨HS.out _ (Ext.rfl' w1).drew, (Ext.rfl' w1).drew⟩ | exact ⟨HS.out _ (Ext.alloc (Ext.rfl' w1) _).drew, (Ext.alloc (Ext.rfl' w1) _).drew⟩ | exact ⟨HS.out _ (Ext.alloc (Ext.alloc (Ext.rfl' w1) _) _).drew, (Ext.alloc (Ext.alloc (Ext.rfl' w1) _) _).drew⟩ | exact ⟨HS.out _ (Ext.alloc (Ext.alloc (Ext.alloc (Ext.rfl' w1) _) _) _).drew, (Ext.alloc (Ext.alloc (Ext.alloc (Ext.rfl' w1) _) _) _).drew⟩) (fun hHeld => ?_)
        clear hK K
        try simp only [Act.put, List.setIfInBounds_toArray, List.set_cons_zero, List.set_cons_succ]
        refine wpAnyH_ready (rs := [25]) (by kernel_rfl) (by simp) ?_
        refine AllReadyH.cons (by first | (simp only [List.getElem?_toArray, List.getElem?_cons_zero, List.getElem?_cons_succ]; done) | (simp only [List.getElem?_toArray, List.getElem?_cons_zero, List.getElem?_cons_succ]; rfl)) (fun K hK => ?_) ?_
        · go_simp
          refine hK.out _ _ (by (try dsimp only); first | exact ⟨HS.out _ (Ext.rfl' w1).drew, (Ext.rfl' w1).drew⟩ | exact ⟨HS.out _ (Ext.alloc (Ext.rfl' w1) _).drew, (Ext.alloc (Ext.rfl' w1) _).drew⟩ | exact ⟨HS.out _ (Ext.alloc (Ext.alloc (Ext.rfl' w1) _) _).drew, (Ext.alloc (Ext.alloc (Ext.rfl' w1) _) _).drew⟩ | exact ⟨HS.out _ (Ext.alloc (Ext.alloc (Ext.alloc (Ext.rfl' w1) _) _) _).drew, (Ext.alloc (Ext.alloc (Ext.alloc (Ext.rfl' w1) _) _) _).drew⟩) (fun hHeld => ?_)
          clear hK K
          try simp only [Act.put, List.setIfInBounds_toArray, List.set_cons_zero, List.set_cons_succ]
          refine wpAnyH_ready (rs := [27]) (by kernel_rfl) (by simp) ?_
          refine AllReadyH.cons (by first | (simp only [List.getElem?_toArray, List.getElem?_cons_zero, List.getElem?_cons_succ]; done) | (simp only [List.getElem?_toArray, List.getElem?_cons_zero, List.getElem?_cons_succ]; rfl)) (fun K hK => ?_) ?_
          · go_simp
            refine hK.out _ _ (by (try dsimp only); first | exact ⟨HS.out _ (Ext.rfl' w1).drew, (Ext.rfl' w1).drew⟩ | exact ⟨HS.out _ (Ext.alloc (Ext.rfl' w1) _).drew, (Ext.alloc (Ext.rfl' w1) _).drew⟩ | exact ⟨HS.out _ (Ext.alloc (Ext.alloc (Ext.rfl' w1) _) _).drew, (Ext.alloc (Ext.alloc (Ext.rfl' w1) _) _).drew⟩ | exact ⟨HS.out _ (Ext.alloc (Ext.alloc (Ext.alloc (Ext.rfl' w1) _) _) _).drew, (Ext.alloc (Ext.alloc (Ext.alloc (Ext.rfl' w1) _) _) _).drew⟩) (fun hHeld => ?_)
            clear hK K
            try simp only [Act.put, List.setIfInBounds_toArray, List.set_cons_zero, List.set_cons_succ]
            refine wpAnyH_ready (rs := [28]) (by kernel_rfl) (by simp) ?_
            refine AllReadyH.cons (by first | (simp only [List.getElem?_toArray, List.getElem?_cons_zero, List.getElem?_cons_succ]; done) | (simp only [List.getElem?_toArray, List.getElem?_cons_zero, List.getElem?_cons_succ]; rfl)) (fun K hK => ?_) ?_
            · go_simp
              refine hK.out _ _ (by (try dsimp only); first | exact ⟨HS.out _ (Ext.rfl' w1).drew, (Ext.rfl' w1).drew⟩ | exact ⟨HS.out _ (Ext.alloc (Ext.rfl' w1) _).drew, (Ext.alloc (Ext.rfl' w1) _).drew⟩ | exact ⟨HS.out _ (Ext.alloc (Ext.alloc (Ext.rfl' w1) _) _).drew, (Ext.alloc (Ext.alloc (Ext.rfl' w1) _) _).drew⟩ | exact ⟨HS.out _ (Ext.alloc (Ext.alloc (Ext.alloc (Ext.rfl' w1) _) _) _).drew, (Ext.alloc (Ext.alloc (Ext.alloc (Ext.rfl' w1) _) _) _).drew⟩) (fun hHeld => ?_)
              clear hK K
              try simp only [Act.put, List.setIfInBounds_toArray, List.set_cons_zero, List.set_cons_succ]
              refine wpAnyH_ready (rs := [29]) (by kernel_rfl) (by simp) ?_
              refine AllReadyH.cons (by first | (simp only [List.getElem?_toArray, List.getElem?_cons_zero, List.getElem?_cons_succ]; done) | (simp only [List.getElem?_toArray, List.getElem?_cons_zero, List.getElem?_cons_succ]; rfl)) (fun K hK => ?_) ?_
              · go_simp
                refine hK.out _ _ (by (try dsimp only); first | exact ⟨HS.out _ (Ext.rfl' w1).drew, (Ext.rfl' w1).drew⟩ | exact ⟨HS.out _ (Ext.alloc (Ext.rfl' w1) _).drew, (Ext.alloc (Ext.rfl' w1) _).drew⟩ | exact ⟨HS.out _ (Ext.alloc (Ext.alloc (Ext.rfl' w1) _) _).drew, (Ext.alloc (Ext.alloc (Ext.rfl' w1) _) _).drew⟩ | exact ⟨HS.out _ (Ext.alloc (Ext.alloc (Ext.alloc (Ext.rfl' w1) _) _) _).drew, (Ext.alloc (Ext.alloc (Ext.alloc (Ext.rfl' w1) _) _) _).drew⟩) (fun hHeld => ?_)
                clear hK K
                try simp only [Act.put, List.setIfInBounds_toArray, List.set_cons_zero, List.set_cons_succ]
                refine wpAnyH_done (by kernel_rfl) ?_ _
                rcases hcase with ⟨k1, k3⟩ | ⟨k1, k2, k3⟩ | ⟨k1, k2, k3⟩
                · have K3 := Lib.hid k3
                  clear k3 hHeld
                  go_wp2
                  go_ret2
                  exact ⟨by rw [K3.out]; rfl, HX.out.tr (Ext.alloc (Ext.alloc (Ext.alloc (Ext.rfl' w1) _) _) _).drew⟩
                · have K3 := Lib.hid k3
                  clear k3 hHeld
                  go_wp2
                  go_ret2
                  exact ⟨by rw [K3.out]; rfl, HX.out.tr (Ext.alloc (Ext.alloc (Ext.alloc (Ext.rfl' w1) _) _) _).drew⟩
                · have K3 := Lib.hid k3
                  clear k3 hHeld
                  go_wp2
                  go_ret2
                  exact ⟨by rw [K3.out]; rfl, HX.out.tr (Ext.alloc (Ext.alloc (Ext.alloc (Ext.rfl' w1) _) _) _).drew⟩
              exact AllReadyH.nil
            exact AllReadyH.nil
          exact AllReadyH.nil
        exact AllReadyH.nil
      exact AllReadyH.nil
    refine AllReadyH.cons (by first | (simp only [List.getElem?_toArray, List.getElem?_cons_zero, List.getElem?_cons_succ]; done) | (simp only [List.getElem?_toArray, List.getElem?_cons_zero, List.getElem?_cons_succ]; rfl)) (fun K hK => ?_) ?_
    · go_simp
      refine hK.out _ _ (by (try dsimp only); first | exact ⟨HS.out _ (Ext.rfl' w1).drew, (Ext.rfl' w1).drew⟩ | exact ⟨HS.out _ (Ext.alloc (Ext.rfl' w1) _).drew, (Ext.alloc (Ext.rfl' w1) _).drew⟩ | exact ⟨HS.out _ (Ext.alloc (Ext.alloc (Ext.rfl' w1) _) _).drew, (Ext.alloc (Ext.alloc (Ext.rfl' w1) _) _).drew⟩ | exact ⟨HS.out _ (Ext.alloc (Ext.alloc (Ext.alloc (Ext.rfl' w1) _) _) _).drew, (Ext.alloc (Ext.alloc (Ext.alloc (Ext.rfl' w1) _) _) _).drew⟩) (fun hHeld => ?_)
      clear hK K
      try simp only [Act.put, List.setIfInBounds_toArray, List.set_cons_zero, List.set_cons_succ]
      refine wpAnyH_ready (rs := [24, 26]) (by kernel_rfl) (by simp) ?_
      refine AllReadyH.cons (by first | (simp only [List.getElem?_toArray, List.getElem?_cons_zero, List.getElem?_cons_succ]; done) | (simp only [List.getElem?_toArray, List.getElem?_cons_zero, List.getElem?_cons_succ]; rfl)) (fun K hK => ?_) ?_
      · go_simp
        refine hK.out _ _ (by (try dsimp only); first | exact ⟨HS.out _ (Ext.rfl' w1).drew, (Ext.rfl' w1).drew⟩ | exact ⟨HS.out _ (Ext.alloc (Ext.rfl' w1) _).drew, (Ext.alloc (Ext.rfl' w1) _).drew⟩ | exact ⟨HS.out _ (Ext.alloc (Ext.alloc (Ext.rfl' w1) _) _).drew, (Ext.alloc (Ext.alloc (Ext.rfl' w1) _) _).drew⟩ | exact ⟨HS.out _ (Ext.alloc (Ext.alloc (Ext.alloc (Ext.rfl' w1) _) _) _).drew, (Ext.alloc (Ext.alloc (Ext.alloc (Ext.rfl' w1) _) _) _).drew⟩) (fun hHeld => ?_)
        clear hK K
        try simp only [Act.put, List.setIfInBounds_toArray, List.set_cons_zero, List.set_cons_succ]
        refine wpAnyH_ready (rs := [26]) (by kernel_rfl) (by simp) ?_
        refine AllReadyH.cons (by first | (simp only [List.getElem?_toArray, List.getElem?_cons_zero, List.getElem?_cons_succ]; done) | (simp only [List.getElem?_toArray, List.getElem?_cons_zero, List.getElem?_cons_succ]; rfl)) (fun K hK => ?_) ?_
        · go_simp
          refine hK.out _ _ (by (try dsimp only); first | exact ⟨HS.out _ (Ext.rfl' w1).drew, (Ext.rfl' w1).drew⟩ | exact ⟨HS.out _ (Ext.alloc (Ext.rfl' w1) _).drew, (Ext.alloc (Ext.rfl' w1) _).drew⟩ | exact ⟨HS.out _ (Ext.alloc (Ext.alloc (Ext.rfl' w1) _) _).drew, (Ext.alloc (Ext.alloc (Ext.rfl' w1) _) _).drew⟩ | exact ⟨HS.out _ (Ext.alloc (Ext.alloc (Ext.alloc (Ext.rfl' w1) _) _) _).drew, (Ext.alloc (Ext.alloc (Ext.alloc (Ext.rfl' w1) _) _) _).drew⟩) (fun hHeld => ?_)
          clear hK K
          try simp only [Act.put, List.setIfInBounds_toArray, List.set_cons_zero, List.set_cons_succ]
          refine wpAnyH_ready (rs := [27]) (by kernel_rfl) (by simp) ?_
          refine AllReadyH.cons (by first | (simp only [List.getElem?_toArray, List.getElem?_cons_zero, List.getElem?_cons_succ]; done) | (simp only [List.getElem?_toArray, List.getElem?_cons_zero, List.getElem?_cons_succ]; rfl)) (fun K hK => ?_) ?_
          · go_simp
            refine hK.out _ _ (by (try dsimp only); first | exact ⟨HS.out _ (Ext.rfl' w1).drew, (Ext.rfl' w1).drew⟩ | exact ⟨HS.out _ (Ext.alloc (Ext.rfl' w1) _).drew, (Ext.alloc (Ext.rfl' w1) _).drew⟩ | exact ⟨HS.out _ (Ext.alloc (Ext.alloc (Ext.rfl' w1) _) _).drew, (Ext.alloc (Ext.alloc (Ext.rfl' w1) _) _).drew⟩ | exact ⟨HS.out _ (Ext.alloc (Ext.alloc (Ext.alloc (Ext.rfl' w1) _) _) _).drew, (Ext.alloc (Ext.alloc (Ext.alloc (Ext.rfl' w1) _) _) _).drew⟩) (fun hHeld => ?_)
            clear hK K
            try simp only [Act.put, List.setIfInBounds_toArray, List.set_cons_zero, List.set_cons_succ]
            refine wpAnyH_ready (rs := [28]) (by kernel_rfl) (by simp) ?_
            refine AllReadyH.cons (by first | (simp only [List.getElem?_toArray, List.getElem?_cons_zero, List.getElem?_cons_succ]; done) | (simp only [List.getElem?_toArray, List.getElem?_cons_zero, List.getElem?_cons_succ]; rfl)) (fun K hK => ?_) ?_
            · go_simp
              refine hK.out _ _ (by (try dsimp only); first | exact ⟨HS.out _ (Ext.rfl' w1).drew, (Ext.rfl' w1).drew⟩ | exact ⟨HS.out _ (Ext.alloc (Ext.rfl' w1) _).drew, (Ext.alloc (Ext.rfl' w1) _).drew⟩ | exact ⟨HS.out _ (Ext.alloc (Ext.alloc (Ext.rfl' w1) _) _).drew, (Ext.alloc (Ext.alloc (Ext.rfl' w1) _) _).drew⟩ | exact ⟨HS.out _ (Ext.alloc (Ext.alloc (Ext.alloc (Ext.rfl' w1) _) _) _).drew, (Ext.alloc (Ext.alloc (Ext.alloc (Ext.rfl' w1) _) _) _).drew⟩) (fun hHeld => ?_)
              clear hK K
              try simp only [Act.put, List.setIfInBounds_toArray, List.set_cons_zero, List.set_cons_succ]
              refine wpAnyH_ready (rs := [29]) (by kernel_rfl) (by simp) ?_
              refine AllReadyH.cons (by first | (simp only [List.getElem?_toArray, List.getElem?_cons_zero, List.getElem?_cons_succ]; done) | (simp only [List.getElem?_toArray, List.getElem?_cons_zero, List.getElem?_cons_succ]; rfl)) (fun K hK => ?_) ?_
              · go_simp
                refine hK.out _ _ (by (try dsimp only); first | exact ⟨HS.out _ (Ext.rfl' w1).drew, (Ext.rfl' w1).drew⟩ | exact ⟨HS.out _ (Ext.alloc (Ext.rfl' w1) _).drew, (Ext.alloc (Ext.rfl' w1) _).drew⟩ | exact ⟨HS.out _ (Ext.alloc (Ext.alloc (Ext.rfl' w1) _) _).drew, (Ext.alloc (Ext.alloc (Ext.rfl' w1) _) _).drew⟩ | exact ⟨HS.out _ (Ext.alloc (Ext.alloc (Ext.alloc (Ext.rfl' w1) _) _) _).drew, (Ext.alloc (Ext.alloc (Ext.alloc (Ext.rfl' w1) _) _) _).drew⟩) (fun hHeld => ?_)
                clear hK K
                try simp only [Act.put, List.setIfInBounds_toArray, List.set_cons_zero, List.set_cons_succ]
                refine wpAnyH_done (by kernel_rfl) ?_ _
                rcases hcase with ⟨k1, k3⟩ | ⟨k1, k2, k3⟩ | ⟨k1, k2, k3⟩
                · have K3 := Lib.hid k3
                  clear k3 hHeld
                  go_wp2
                  go_ret2
                  exact ⟨by rw [K3.out]; rfl, HX.out.tr (Ext.alloc (Ext.alloc (Ext.alloc (Ext.rfl' w1) _) _) _).drew⟩
                · have K3 := Lib.hid k3
                  clear k3 hHeld
                  go_wp2
                  go_ret2
                  exact ⟨by rw [K3.out]; rfl, HX.out.tr (Ext.alloc (Ext.alloc (Ext.alloc (Ext.rfl' w1) _) _) _).drew⟩
                · have K3 := Lib.hid k3
                  clear k3 hHeld
                  go_wp2
                  go_ret2
                  exact ⟨by rw [K3.out]; rfl, HX.out.tr (Ext.alloc (Ext.alloc (Ext.alloc (Ext.rfl' w1) _) _) _).drew⟩
              exact AllReadyH.nil
            exact AllReadyH.nil
          exact AllReadyH.nil
        exact AllReadyH.nil
      refine AllReadyH.cons (by first | (simp only [List.getElem?_toArray, List.getElem?_cons_zero, List.getElem?_cons_succ]; done) | (simp only [List.getElem?_toArray, List.getElem?_cons_zero, List.getElem?_cons_succ]; rfl)) (fun K hK => ?_) ?_
      · go_simp
        refine hK.out _ _ (by (try dsimp only); first | exact ⟨HS.out _ (Ext.rfl' w1).drew, (Ext.rfl' w1).drew⟩ | exact ⟨HS.out _ (Ext.alloc (Ext.rfl' w1) _).drew, (Ext.alloc (Ext.rfl' w1) _).drew⟩ | exact ⟨HS.out _ (Ext.alloc (Ext.alloc (Ext.rfl' w1) _) _).drew, (Ext.alloc (Ext.alloc (Ext.rfl' w1) _) _).drew⟩ | exact ⟨HS.out _ (Ext.alloc (Ext.alloc (Ext.alloc (Ext.rfl' w1) _) _) _).drew, (Ext.alloc (Ext.alloc (Ext.alloc (Ext.rfl' w1) _) _) _).drew⟩) (fun hHeld => ?_)
        clear hK K
        try simp only [Act.put, List.setIfInBounds_toArray, List.set_cons_zero, List.set_cons_succ]
        refine wpAnyH_ready (rs := [24]) (by kernel_rfl) (by simp) ?_
        refine AllReadyH.cons (by first | (simp only [List.getElem?_toArray, List.getElem?_cons_zero, List.getElem?_cons_succ]; done) | (simp only [List.getElem?_toArray, List.getElem?_cons_zero, List.getElem?_cons_succ]; rfl)) (fun K hK => ?_) ?_
        · go_simp
          refine hK.out _ _ (by (try dsimp only); first | exact ⟨HS.out _ (Ext.rfl' w1).drew, (Ext.rfl' w1).drew⟩ | exact ⟨HS.out _ (Ext.alloc (Ext.rfl' w1) _).drew, (Ext.alloc (Ext.rfl' w1) _).drew⟩ | exact ⟨HS.out _ (Ext.alloc (Ext.alloc (Ext.rfl' w1) _) _).drew, (Ext.alloc (Ext.alloc (Ext.rfl' w1) _) _).drew⟩ | exact ⟨HS.out _ (Ext.alloc (Ext.alloc (Ext.alloc (Ext.rfl' w1) _) _) _).drew, (Ext.alloc (Ext.alloc (Ext.alloc (Ext.rfl' w1) _) _) _).drew⟩) (fun hHeld => ?_)
          clear hK K
          try simp only [Act.put, List.setIfInBounds_toArray, List.set_cons_zero, List.set_cons_succ]
          refine wpAnyH_ready (rs := [27]) (by kernel_rfl) (by simp) ?_
          refine AllReadyH.cons (by first | (simp only [List.getElem?_toArray, List.getElem?_cons_zero, List.getElem?_cons_succ]; done) | (simp only [List.getElem?_toArray, List.getElem?_cons_zero, List.getElem?_cons_succ]; rfl)) (fun K hK => ?_) ?_
          · go_simp
            refine hK.out _ _ (by (try dsimp only); first | exact ⟨HS.out _ (Ext.rfl' w1).drew, (Ext.rfl' w1).drew⟩ | exact ⟨HS.out _ (Ext.alloc (Ext.rfl' w1) _).drew, (Ext.alloc (Ext.rfl' w1) _).drew⟩ | exact ⟨HS.out _ (Ext.alloc (Ext.alloc (Ext.rfl' w1) _) _).drew, (Ext.alloc (Ext.alloc (Ext.rfl' w1) _) _).drew⟩ | exact ⟨HS.out _ (Ext.alloc (Ext.alloc (Ext.alloc (Ext.rfl' w1) _) _) _).drew, (Ext.alloc (Ext.alloc (Ext.alloc (Ext.rfl' w1) _) _) _).drew⟩) (fun hHeld => ?_)
            clear hK K
            try simp only [Act.put, List.setIfInBounds_toArray, List.set_cons_zero, List.set_cons_succ]
            refine wpAnyH_ready (rs := [28]) (by kernel_rfl) (by simp) ?_
            refine AllReadyH.cons (by first | (simp only [List.getElem?_toArray, List.getElem?_cons_zero, List.getElem?_cons_succ]; done) | (simp only [List.getElem?_toArray, List.getElem?_cons_zero, List.getElem?_cons_succ]; rfl)) (fun K hK => ?_) ?_
            · go_simp
              refine hK.out _ _ (by (try dsimp only); first | exact ⟨HS.out _ (Ext.rfl' w1).drew, (Ext.rfl' w1).drew⟩ | exact ⟨HS.out _ (Ext.alloc (Ext.rfl' w1) _).drew, (Ext.alloc (Ext.rfl' w1) _).drew⟩ | exact ⟨HS.out _ (Ext.alloc (Ext.alloc (Ext.rfl' w1) _) _).drew, (Ext.alloc (Ext.alloc (Ext.rfl' w1) _) _).drew⟩ | exact ⟨HS.out _ (Ext.alloc (Ext.alloc (Ext.alloc (Ext.rfl' w1) _) _) _).drew, (Ext.alloc (Ext.alloc (Ext.alloc (Ext.rfl' w1) _) _) _).drew⟩) (fun hHeld => ?_)
              clear hK K
              try simp only [Act.put, List.setIfInBounds_toArray, List.set_cons_zero, List.set_cons_succ]
              refine wpAnyH_ready (rs := [29]) (by kernel_rfl) (by simp) ?_
              refine AllReadyH.cons (by first | (simp only [List.getElem?_toArray, List.getElem?_cons_zero, List.getElem?_cons_succ]; done) | (simp only [List.getElem?_toArray, List.getElem?_cons_zero, List.getElem?_cons_succ]; rfl)) (fun K hK => ?_) ?_
              · go_simp
                refine hK.out _ _ (by (try dsimp only); first | exact ⟨HS.out _ (Ext.rfl' w1).drew, (Ext.rfl' w1).drew⟩ | exact ⟨HS.out _ (Ext.alloc (Ext.rfl' w1) _).drew, (Ext.alloc (Ext.rfl' w1) _).drew⟩ | exact ⟨HS.out _ (Ext.alloc (Ext.alloc (Ext.rfl' w1) _) _).drew, (Ext.alloc (Ext.alloc (Ext.rfl' w1) _) _).drew⟩ | exact ⟨HS.out _ (Ext.alloc (Ext.alloc (Ext.alloc (Ext.rfl' w1) _) _) _).drew, (Ext.alloc (Ext.alloc (Ext.alloc (Ext.rfl' w1) _) _) _).drew⟩) (fun hHeld => ?_)
                clear hK K
                try simp only [Act.put, List.setIfInBounds_toArray, List.set_cons_zero, List.set_cons_succ]
                refine wpAnyH_done (by kernel_rfl) ?_ _
                rcases hcase with ⟨k1, k3⟩ | ⟨k1, k2, k3⟩ | ⟨k1, k2, k3⟩
                · have K3 := Lib.hid k3
                  clear k3 hHeld
                  go_wp2
                  go_ret2
                  exact ⟨by rw [K3.out]; rfl, HX.out.tr (Ext.alloc (Ext.alloc (Ext.alloc (Ext.rfl' w1) _) _) _).drew⟩
                · have K3 := Lib.hid k3
                  clear k3 hHeld
                  go_wp2
                  go_ret2
                  exact ⟨by rw [K3.out]; rfl, HX.out.tr (Ext.alloc (Ext.alloc (Ext.alloc (Ext.rfl' w1) _) _) _).drew⟩
                · have K3 := Lib.hid k3
                  clear k3 hHeld
                  go_wp2
                  go_ret2
                  exact ⟨by rw [K3.out]; rfl, HX.out.tr (Ext.alloc (Ext.alloc (Ext.alloc (Ext.rfl' w1) _) _) _).drew⟩
              exact AllReadyH.nil
            exact AllReadyH.nil
          exact AllReadyH.nil
        exact AllReadyH.nil
      exact AllReadyH.nil
    refine AllReadyH.cons (by first | (simp only [List.getElem?_toArray, List.getElem?_cons_zero, List.getElem?_cons_succ]; done) | (simp only [List.getElem?_toArray, List.getElem?_cons_zero, List.getElem?_cons_succ]; rfl)) (fun K hK => ?_) ?_
    · go_simp
      refine hK.out _ _ (by (try dsimp only); first | exact ⟨HS.out _ (Ext.rfl' w1).drew, (Ext.rfl' w1).drew⟩ | exact ⟨HS.out _ (Ext.alloc (Ext.rfl' w1) _).drew, (Ext.alloc (Ext.rfl' w1) _).drew⟩ | exact ⟨HS.out _ (Ext.alloc (Ext.alloc (Ext.rfl' w1) _) _).drew, (Ext.alloc (Ext.alloc (Ext.rfl' w1) _) _).drew⟩ | exact ⟨HS.out _ (Ext.alloc (Ext.alloc (Ext.alloc (Ext.rfl' w1) _) _) _).drew, (Ext.alloc (Ext.alloc (Ext.alloc (Ext.rfl' w1) _) _) _).drew⟩) (fun hHeld => ?_)
      clear hK K
      try simp only [Act.put, List.setIfInBounds_toArray, List.set_cons_zero, List.set_cons_succ]
      refine wpAnyH_ready (rs := [24, 25]) (by kernel_rfl) (by simp) ?_
      refine AllReadyH.cons (by first | (simp only [List.getElem?_toArray, List.getElem?_cons_zero, List.getElem?_cons_succ]; done) | (simp only [List.getElem?_toArray, List.getElem?_cons_zero, List.getElem?_cons_succ]; rfl)) (fun K hK => ?_) ?_
      · go_simp
        refine hK.out _ _ (by (try dsimp only); first | exact ⟨HS.out _ (Ext.rfl' w1).drew, (Ext.rfl' w1).drew⟩ | exact ⟨HS.out _ (Ext.alloc (Ext.rfl' w1) _).drew, (Ext.alloc (Ext.rfl' w1) _).drew⟩ | exact ⟨HS.out _ (Ext.alloc (Ext.alloc (Ext.rfl' w1) _) _).drew, (Ext.alloc (Ext.alloc (Ext.rfl' w1) _) _).drew⟩ | exact ⟨HS.out _ (Ext.alloc (Ext.alloc (Ext.alloc (Ext.rfl' w1) _) _) _).drew, (Ext.alloc (Ext.alloc (Ext.alloc (Ext.rfl' w1) _) _) _).drew⟩) (fun hHeld => ?_)
        clear hK K
        try simp only [Act.put, List.setIfInBounds_toArray, List.set_cons_zero, List.set_cons_succ]
        refine wpAnyH_ready (rs := [25]) (by kernel_rfl) (by simp) ?_
        refine AllReadyH.cons (by first | (simp only [List.getElem?_toArray, List.getElem?_cons_zero, List.getElem?_cons_succ]; done) | (simp only [List.getElem?_toArray, List.getElem?_cons_zero, List.getElem?_cons_succ]; rfl)) (fun K hK => ?_) ?_
        · go_simp
          refine hK.out _ _ (by (try dsimp only); first | exact ⟨HS.out _ (Ext.rfl' w1).drew, (Ext.rfl' w1).drew⟩ | exact ⟨HS.out _ (Ext.alloc (Ext.rfl' w1) _).drew, (Ext.alloc (Ext.rfl' w1) _).drew⟩ | exact ⟨HS.out _ (Ext.alloc (Ext.alloc (Ext.rfl' w1) _) _).drew, (Ext.alloc (Ext.alloc (Ext.rfl' w1) _) _).drew⟩ | exact ⟨HS.out _ (Ext.alloc (Ext.alloc (Ext.alloc (Ext.rfl' w1) _) _) _).drew, (Ext.alloc (Ext.alloc (Ext.alloc (Ext.rfl' w1) _) _) _).drew⟩) (fun hHeld => ?_)
          clear hK K
          try simp only [Act.put, List.setIfInBounds_toArray, List.set_cons_zero, List.set_cons_succ]
          refine wpAnyH_ready (rs := [27]) (by kernel_rfl) (by simp) ?_
          refine AllReadyH.cons (by first | (simp only [List.getElem?_toArray, List.getElem?_cons_zero, List.getElem?_cons_succ]; done) | (simp only [List.getElem?_toArray, List.getElem?_cons_zero, List.getElem?_cons_succ]; rfl)) (fun K hK => ?_) ?_
          · go_simp
            refine hK.out _ _ (by (try dsimp only); first | exact ⟨HS.out _ (Ext.rfl' w1).drew, (Ext.rfl' w1).drew⟩ | exact ⟨HS.out _ (Ext.alloc (Ext.rfl' w1) _).drew, (Ext.alloc (Ext.rfl' w1) _).drew⟩ | exact ⟨HS.out _ (Ext.alloc (Ext.alloc (Ext.rfl' w1) _) _).drew, (Ext.alloc (Ext.alloc (Ext.rfl' w1) _) _).drew⟩ | exact ⟨HS.out _ (Ext.alloc (Ext.alloc (Ext.alloc (Ext.rfl' w1) _) _) _).drew, (Ext.alloc (Ext.alloc (Ext.alloc (Ext.rfl' w1) _) _) _).drew⟩) (fun hHeld => ?_)
            clear hK K
            try simp only [Act.put, List.setIfInBounds_toArray, List.set_cons_zero, List.set_cons_succ]
            refine wpAnyH_ready (rs := [28]) (by kernel_rfl) (by simp) ?_
            refine AllReadyH.cons (by first | (simp only [List.getElem?_toArray, List.getElem?_cons_zero, List.getElem?_cons_succ]; done) | (simp only [List.getElem?_toArray, List.getElem?_cons_zero, List.getElem?_cons_succ]; rfl)) (fun K hK => ?_) ?_
            · go_simp
              refine hK.out _ _ (by (try dsimp only); first | exact ⟨HS.out _ (Ext.rfl' w1).drew, (Ext.rfl' w1).drew⟩ | exact ⟨HS.out _ (Ext.alloc (Ext.rfl' w1) _).drew, (Ext.alloc (Ext.rfl' w1) _).drew⟩ | exact ⟨HS.out _ (Ext.alloc (Ext.alloc (Ext.rfl' w1) _) _).drew, (Ext.alloc (Ext.alloc (Ext.rfl' w1) _) _).drew⟩ | exact ⟨HS.out _ (Ext.alloc (Ext.alloc (Ext.alloc (Ext.rfl' w1) _) _) _).drew, (Ext.alloc (Ext.alloc (Ext.alloc (Ext.rfl' w1) _) _) _).drew⟩) (fun hHeld => ?_)
              clear hK K
              try simp only [Act.put, List.setIfInBounds_toArray, List.set_cons_zero, List.set_cons_succ]
              refine wpAnyH_ready (rs := [29]) (by kernel_rfl) (by simp) ?_
              refine AllReadyH.cons (by first | (simp only [List.getElem?_toArray, List.getElem?_cons_zero, List.getElem?_cons_succ]; done) | (simp only [List.getElem?_toArray, List.getElem?_cons_zero, List.getElem?_cons_succ]; rfl)) (fun K hK => ?_) ?_
              · go_simp
                refine hK.out _ _ (by (try dsimp only); first | exact ⟨HS.out _ (Ext.rfl' w1).drew, (Ext.rfl' w1).drew⟩ | exact ⟨HS.out _ (Ext.alloc (Ext.rfl' w1) _).drew, (Ext.alloc (Ext.rfl' w1) _).drew⟩ | exact ⟨HS.out _ (Ext.alloc (Ext.alloc (Ext.rfl' w1) _) _).drew, (Ext.alloc (Ext.alloc (Ext.rfl' w1) _) _).drew⟩ | exact ⟨HS.out _ (Ext.alloc (Ext.alloc (Ext.alloc (Ext.rfl' w1) _) _) _).drew, (Ext.alloc (Ext.alloc (Ext.alloc (Ext.rfl' w1) _) _) _).drew⟩) (fun hHeld => ?_)
                clear hK K
                try simp only [Act.put, List.setIfInBounds_toArray, List.set_cons_zero, List.set_cons_succ]
                refine wpAnyH_done (by kernel_rfl) ?_ _
                rcases hcase with ⟨k1, k3⟩ | ⟨k1, k2, k3⟩ | ⟨k1, k2, k3⟩
                · have K3 := Lib.hid k3
                  clear k3 hHeld
                  go_wp2
                  go_ret2
                  exact ⟨by rw [K3.out]; rfl, HX.out.tr (Ext.alloc (Ext.alloc (Ext.alloc (Ext.rfl' w1) _) _) _).drew⟩
                · have K3 := Lib.hid k3
                  clear k3 hHeld
                  go_wp2
                  go_ret2
                  exact ⟨by rw [K3.out]; rfl, HX.out.tr (Ext.alloc (Ext.alloc (Ext.alloc (Ext.rfl' w1) _) _) _).drew⟩
                · have K3 := Lib.hid k3
                  clear k3 hHeld
                  go_wp2
                  go_ret2
                  exact ⟨by rw [K3.out]; rfl, HX.out.tr (Ext.alloc (Ext.alloc (Ext.alloc (Ext.rfl' w1) _) _) _).drew⟩
              exact AllReadyH.nil
            exact AllReadyH.nil
          exact AllReadyH.nil
        exact AllReadyH.nil
      refine AllReadyH.cons (by first | (simp only [List.getElem?_toArray, List.getElem?_cons_zero, List.getElem?_cons_succ]; done) | (simp only [List.getElem?_toArray, List.getElem?_cons_zero, List.getElem?_cons_succ]; rfl)) (fun K hK => ?_) ?_
      · go_simp
        refine hK.out _ _ (by (try dsimp only); first | exact ⟨HS.out _ (Ext.rfl' w1).drew, (Ext.rfl' w1).drew⟩ | exact ⟨HS.out _ (Ext.alloc (Ext.rfl' w1) _).drew, (Ext.alloc (Ext.rfl' w1) _).drew⟩ | exact ⟨HS.out _ (Ext.alloc (Ext.alloc (Ext.rfl' w1) _) _).drew, (Ext.alloc (Ext.alloc (Ext.rfl' w1) _) _).drew⟩ | exact ⟨HS.out _ (Ext.alloc (Ext.alloc (Ext.alloc (Ext.rfl' w1) _) _) _).drew, (Ext.alloc (Ext.alloc (Ext.alloc (Ext.rfl' w1) _) _) _).drew⟩) (fun hHeld => ?_)
        clear hK K
        try simp only [Act.put, List.setIfInBounds_toArray, List.set_cons_zero, List.set_cons_succ]
        refine wpAnyH_ready (rs := [24]) (by kernel_rfl) (by simp) ?_
        refine AllReadyH.cons (by first | (simp only [List.getElem?_toArray, List.getElem?_cons_zero, List.getElem?_cons_succ]; done) | (simp only [List.getElem?_toArray, List.getElem?_cons_zero, List.getElem?_cons_succ]; rfl)) (fun K hK => ?_) ?_
        · go_simp
          refine hK.out _ _ (by (try dsimp only); first | exact ⟨HS.out _ (Ext.rfl' w1).drew, (Ext.rfl' w1).drew⟩ | exact ⟨HS.out _ (Ext.alloc (Ext.rfl' w1) _).drew, (Ext.alloc (Ext.rfl' w1) _).drew⟩ | exact ⟨HS.out _ (Ext.alloc (Ext.alloc (Ext.rfl' w1) _) _).drew, (Ext.alloc (Ext.alloc (Ext.rfl' w1) _) _).drew⟩ | exact ⟨HS.out _ (Ext.alloc (Ext.alloc (Ext.alloc (Ext.rfl' w1) _) _) _).drew, (Ext.alloc (Ext.alloc (Ext.alloc (Ext.rfl' w1) _) _) _).drew⟩) (fun hHeld => ?_)
          clear hK K
          try simp only [Act.put, List.setIfInBounds_toArray, List.set_cons_zero, List.set_cons_succ]
          refine wpAnyH_ready (rs := [27]) (by kernel_rfl) (by simp) ?_
          refine AllReadyH.cons (by first | (simp only [List.getElem?_toArray, List.getElem?_cons_zero, List.getElem?_cons_succ]; done) | (simp only [List.getElem?_toArray, List.getElem?_cons_zero, List.getElem?_cons_succ]; rfl)) (fun K hK => ?_) ?_
          · go_simp
            refine hK.out _ _ (by (try dsimp only); first | exact ⟨HS.out _ (Ext.rfl' w1).drew, (Ext.rfl' w1).drew⟩ | exact ⟨HS.out _ (Ext.alloc (Ext.rfl' w1) _).drew, (Ext.alloc (Ext.rfl' w1) _).drew⟩ | exact ⟨HS.out _ (Ext.alloc (Ext.alloc (Ext.rfl' w1) _) _).drew, (Ext.alloc (Ext.alloc (Ext.rfl' w1) _) _).drew⟩ | exact ⟨HS.out _ (Ext.alloc (Ext.alloc (Ext.alloc (Ext.rfl' w1) _) _) _).drew, (Ext.alloc (Ext.alloc (Ext.alloc (Ext.rfl' w1) _) _) _).drew⟩) (fun hHeld => ?_)
            clear hK K
            try simp only [Act.put, List.setIfInBounds_toArray, List.set_cons_zero, List.set_cons_succ]
            refine wpAnyH_ready (rs := [28]) (by kernel_rfl) (by simp) ?_
            refine AllReadyH.cons (by first | (simp only [List.getElem?_toArray, List.getElem?_cons_zero, List.getElem?_cons_succ]; done) | (simp only [List.getElem?_toArray, List.getElem?_cons_zero, List.getElem?_cons_succ]; rfl)) (fun K hK => ?_) ?_
            · go_simp
              refine hK.out _ _ (by (try dsimp only); first | exact ⟨HS.out _ (Ext.rfl' w1).drew, (Ext.rfl' w1).drew⟩ | exact ⟨HS.out _ (Ext.alloc (Ext.rfl' w1) _).drew, (Ext.alloc (Ext.rfl' w1) _).drew⟩ | exact ⟨HS.out _ (Ext.alloc (Ext.alloc (Ext.rfl' w1) _) _).drew, (Ext.alloc (Ext.alloc (Ext.rfl' w1) _) _).drew⟩ | exact ⟨HS.out _ (Ext.alloc (Ext.alloc (Ext.alloc (Ext.rfl' w1) _) _) _).drew, (Ext.alloc (Ext.alloc (Ext.alloc (Ext.rfl' w1) _) _) _).drew⟩) (fun hHeld => ?_)
              clear hK K
              try simp only [Act.put, List.setIfInBounds_toArray, List.set_cons_zero, List.set_cons_succ]
              refine wpAnyH_ready (rs := [29]) (by kernel_rfl) (by simp) ?_
              refine AllReadyH.cons (by first | (simp only [List.getElem?_toArray, List.getElem?_cons_zero, List.getElem?_cons_succ]; done) | (simp only [List.getElem?_toArray, List.getElem?_cons_zero, List.getElem?_cons_succ]; rfl)) (fun K hK => ?_) ?_
              · go_simp
                refine hK.out _ _ (by (try dsimp only); first | exact ⟨HS.out _ (Ext.rfl' w1).drew, (Ext.rfl' w1).drew⟩ | exact ⟨HS.out _ (Ext.alloc (Ext.rfl' w1) _).drew, (Ext.alloc (Ext.rfl' w1) _).drew⟩ | exact ⟨HS.out _ (Ext.alloc (Ext.alloc (Ext.rfl' w1) _) _).drew, (Ext.alloc (Ext.alloc (Ext.rfl' w1) _) _).drew⟩ | exact ⟨HS.out _ (Ext.alloc (Ext.alloc (Ext.alloc (Ext.rfl' w1) _) _) _).drew, (Ext.alloc (Ext.alloc (Ext.alloc (Ext.rfl' w1) _) _) _).drew⟩) (fun hHeld => ?_)
                clear hK K
                try simp only [Act.put, List.setIfInBounds_toArray, List.set_cons_zero, List.set_cons_succ]
                refine wpAnyH_done (by kernel_rfl) ?_ _
                rcases hcase with ⟨k1, k3⟩ | ⟨k1, k2, k3⟩ | ⟨k1, k2, k3⟩
                · have K3 := Lib.hid k3
                  clear k3 hHeld
                  go_wp2
                  go_ret2
                  exact ⟨by rw [K3.out]; rfl, HX.out.tr (Ext.alloc (Ext.alloc (Ext.alloc (Ext.rfl' w1) _) _) _).drew⟩
                · have K3 := Lib.hid k3
                  clear k3 hHeld
                  go_wp2
                  go_ret2
                  exact ⟨by rw [K3.out]; rfl, HX.out.tr (Ext.alloc (Ext.alloc (Ext.alloc (Ext.rfl' w1) _) _) _).drew⟩
                · have K3 := Lib.hid k3
                  clear k3 hHeld
                  go_wp2
                  go_ret2
                  exact ⟨by rw [K3.out]; rfl, HX.out.tr (Ext.alloc (Ext.alloc (Ext.alloc (Ext.rfl' w1) _) _) _).drew⟩
              exact AllReadyH.nil
            exact AllReadyH.nil
          exact AllReadyH.nil
        exact AllReadyH.nil
      exact AllReadyH.nil
    exact AllReadyH.nil
end Go.Proofs.YtilengooiffikaaDoor
