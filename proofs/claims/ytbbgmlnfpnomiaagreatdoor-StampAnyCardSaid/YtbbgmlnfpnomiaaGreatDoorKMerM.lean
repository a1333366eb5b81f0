/- Texts put together: KMer, KMer2, KMer3. -/
import Derived.Test.YtbbgmlnfpnomiaaGreatDoorKOtsM
import Derived.Test.YtbbgmlnfpnomiaaGreatDoorLA
import Derived.Test.YtbbgmlnfpnomiaaGreatDoorLB
import Derived.Deep.RegionHeld3
section
/- The walks of package merkle. -/
set_option linter.unusedVariables false
set_option linter.unusedSimpArgs false
namespace Go.Proofs.YtbbgmlnfpnomiaaGreatDoor
open Go.RowKit Go.Sort
theorem bDg : (Tryz.prog.info? 34).map (fun i => (i.zero, i.size, i.bytes)) = some (some (.int .u64 0), 1, 8) := by kernel_rfl
theorem step_append_own {P : Program} {ops : Array Oper} {o : Oper} {a : Act} {w : World} {K : Act → World → Prop} {Q : Exit → Act → World → Prop} {E : Prop} (hg : o.guard = none) (s x : Operand) (t : TypeId)
    (hop : o.op = Op.call { callee := Callee.builtin Builtin.append, args := #[s, x], argTypes := #[t, t] })
    (base : Nat) (e : TypeId) (i : TypeInfo) (z : Value) (size bytes : Nat) (h1 : P.underlying t = some (.slice e)) (h2 : P.info? e = some i) (h3 : i.zero = some z) (h4 : i.size = size) (h5 : i.bytes = bytes) (h6 : z.cells.size = size) (h7 : 0 < size)
    (v : Value) (k : Nat) (xs : List Value) (hs : a.eval s = v) (hown : w.ownsRow base e size v k xs) (ad : Addr) (m c : Nat) (news : List Value) (hx : a.eval x = .slice (some ad) m c) (hn : news.length = m * size)
    (hc : ∀ j u, news[j]? = some u → w.cell? (ad.add j) = some u) (h1c : ∀ u ∈ news, u.oneCell' = true) (b1 : k + m ≤ maxLen) (b2 : (k + m) * bytes ≤ 140737488355328) (b3 : base ≤ w.heap.size)
    (hK : ∀ v' w', w'.ownsRow base e size v' (k + m) (xs ++ news) → w.grownBy w' v.ownBlock → K (a.put o.dst v') w') :
    if Region.wanted o (yielded ops a.tmps) = true then Oper.wp P o a w K Q else E := by
  have hw : Region.wanted o (yielded ops a.tmps) = true := by simp [Region.wanted, hg]
  rw [if_pos hw]
  obtain ⟨v', w', hrun, r1, r2, _⟩ := run_append_own (P := P) w base t o.type e i z size bytes h1 h2 h3 h4 h5 h6 h7 v k xs hown ad m c news hn hc h1c b1 b2 b3
  unfold Oper.wp
  simp [execOp, hop, resolve, invoke, builtin, hs, hx, hrun, Result.andThen]
  exact hK v' w' r1 r2
noncomputable abbrev twoM (a b : Nat) : Nat := S.twoN K.tMT a b
theorem up1_calls (a b : Nat) (ha : a < 18446744073709551616) (hb : b < 18446744073709551616) (w : World) :
    Calls Tryz.prog 249 #[cU64 a, cU64 b] w fun e w' => e = .returned (cU64 (S.twoN K.tMT a b)) ∧ Ext w w' := by
  have H := Lib.hid (otwo_calls tMT (by decide) a b ha hb w)
  go_enter Tryz.func249, Tryz.ntmps249
  go_wp2_with fail
  refine H.out.mono ?_
  rintro e w1 ⟨rfl, hx⟩
  have HX := Lib.hid hx
  clear hx
  go_wp2
  go_ret
  exact ⟨rfl, HX.out⟩
theorem up_take (l : List Nat) (k : Nat) (h : 2 * k + 1 < l.length) : (K.up l).take (k + 1) = (K.up l).take k ++ [S.twoN K.tMT (l.getD (2 * k) 0) (l.getD (2 * k + 1) 0)] := by
  have hk : k < (K.up l).length := by rw [K.up_len]; omega
  rw [List.take_succ_eq_append_getElem hk]
  congr 2
  have := K.up_at l k h
  rw [List.getD_eq_getElem?_getD, List.getElem?_eq_getElem hk] at this
  exact this
set_option maxRecDepth 100000 in
set_option maxHeartbeats 1000000 in
theorem pairs_calls (l : List Nat) (hl : ∀ x ∈ l, x < 18446744073709551616) (A : Option Addr) (c : Nat) (w : World) (hA : Rd w A (cDg l)) (hn : l.length ≤ 100000) :
    Calls Tryz.prog 248 #[.slice A l.length c, .func (.func 249) #[] #[]] w fun e w' => (∃ v, e = .returned v ∧ w'.ownsRow w.heap.size 34 1 v (K.up l).length (cDg (K.up l))) ∧ Ext w w' := by
  obtain ⟨i0, hi, hz0, hz1, hz2⟩ := info_parts bDg
  have HA := Lib.hid hA
  obtain ⟨m, hm⟩ : ∃ m, (K.up l).length = m := ⟨_, rfl⟩
  have hm1 : 2 * m ≤ l.length := by have := K.up_len l; omega
  have hm2 : l.length < 2 * m + 2 := by have := K.up_len l; omega
  rw [hm]
  have HM := Lib.hid hm
  clear hA hm
  go_enter Tryz.func248, Tryz.ntmps248
  go_wp2
  go_loopw [5, 6] (fun v i wr => ∃ k : Nat, k ≤ m ∧ i = .int .i64 (2 * (k : Int)) ∧ wr.ownsRow w.heap.size 34 1 v k (cDg ((K.up l).take k)) ∧ Ext w wr) (fun _ i _ => (l.length + 2 - (intOf i).toNat))
  case atStart => exact ⟨0, by omega, rfl, World.ownsRow_nil _ _ _ _, Ext.rfl' _⟩
  case round =>
    obtain ⟨k, hk, rfl, hoo, hE⟩ := hrel
    by_cases hlt : 2 * k + 1 < l.length
    · obtain ⟨ad, rfl, _, hc⟩ := HA.out.at_ (j := 2 * k) (u := cU64 (l.getD (2 * k) 0)) (by simp [List.getD, List.getElem?_eq_getElem (show 2 * k < l.length by omega)])
      obtain ⟨ad', had, _, hc2⟩ := HA.out.at_ (j := 2 * k + 1) (u := cU64 (l.getD (2 * k + 1) 0)) (by simp [List.getD, List.getElem?_eq_getElem hlt])
      cases had
      rw [show ad.add (2 * k + 1) = ⟨ad.block, ad.off + (2 * k + 1), none⟩ from by simp [Addr.add]] at hc2
      have hlt1 : 2 * (k : Int) + 1 < (l.length : Int) := by omega
      have hlt2 : 2 * (k : Int) < (l.length : Int) := by omega
      have h0 : (0 : Int) ≤ 2 * (k : Int) := by omega
      have h1 : (0 : Int) ≤ 2 * (k : Int) + 1 := by omega
      have ht1 : (2 * (k : Int)).toNat = 2 * k := by omega
      have ht2 : (2 * (k : Int) + 1).toNat = 2 * k + 1 := by omega
      have hw1 : IntKind.i64.wrap (2 * (k : Int) + 1) = 2 * (k : Int) + 1 := IntWalk.i64_in _ (by omega)
      have HS := Lib.hid (up_take l k hlt)
      have HC := Lib.hid (up1_calls _ _ (getD_lt hl (2 * k)) (getD_lt hl (2 * k + 1)))
      have hkl : k < m := by omega
      generalize l.getD (2 * k) 0 = a at *
      generalize l.getD (2 * k + 1) 0 = b at *
      have HP := Lib.hid (show ∀ W, Ext w W → W.cell? (ad.add (2 * k)) = some (cU64 a) ∧ W.cell? ⟨ad.block, ad.off + (2 * k + 1), none⟩ = some (cU64 b) from fun W hx => ⟨hx.cell hc, hx.cell hc2⟩)
      have HOO := Lib.hid hoo
      have HEE := Lib.hid hE
      have hszw : w.heap.size ≤ wr.heap.size := hE.size
      have HX := Lib.hid (show Ext wr wr.drew from (Ext.rfl' wr).drew)
      clear hoo hE hc hc2
      go_upto_region 5 with (fail)
      refine wp_region_held_drew (S := fun w' => w'.cell? (ad.add (2 * k)) = some (cU64 a) ∧ w'.cell? ⟨ad.block, ad.off + (2 * k + 1), none⟩ = some (cU64 b)) (by kernel_rfl) (by (try dsimp only); first | exact HP.out _ HF.out.2 | exact HP.out _ (HEE.out.tr HX.out)) (fun hHeld => ?_)
      refine wpAnyH_take (i := 0) (v := ?_) (by first | (simp only [List.getElem?_toArray, List.getElem?_cons_zero, List.getElem?_cons_succ]; done) | (simp only [List.getElem?_toArray, List.getElem?_cons_zero, List.getElem?_cons_succ]; rfl)) (by kernel_rfl) (by kernel_rfl) (by kernel_rfl) (by exact fun _ _ _ h => h) (Or.inl ⟨by rfl, ?hy0⟩) (by assumption) ?_
      case hy0 => (intro w hSw; (try dsimp only at hSw); go_simp; try with_reducible rfl)
      try simp only [Act.put, List.setIfInBounds_toArray, List.set_cons_zero, List.set_cons_succ]
      refine wpAnyH_take (i := 1) (v := ?_) (by first | (simp only [List.getElem?_toArray, List.getElem?_cons_zero, List.getElem?_cons_succ]; done) | (simp only [List.getElem?_toArray, List.getElem?_cons_zero, List.getElem?_cons_succ]; rfl)) (by kernel_rfl) (by kernel_rfl) (by kernel_rfl) (by exact fun _ _ _ h => h) (Or.inl ⟨by rfl, ?hy1⟩) (by assumption) ?_
      case hy1 => (intro w hSw; (try dsimp only at hSw); go_simp; try with_reducible rfl)
      try simp only [Act.put, List.setIfInBounds_toArray, List.set_cons_zero, List.set_cons_succ]
      refine wpAnyH_take (i := 2) (v := ?_) (by first | (simp only [List.getElem?_toArray, List.getElem?_cons_zero, List.getElem?_cons_succ]; done) | (simp only [List.getElem?_toArray, List.getElem?_cons_zero, List.getElem?_cons_succ]; rfl)) (by kernel_rfl) (by kernel_rfl) (by kernel_rfl) (by exact fun _ _ _ h => h) (Or.inl ⟨by rfl, ?hy2⟩) (by assumption) ?_
      case hy2 => (intro w hSw; (try dsimp only at hSw); go_simp; try with_reducible rfl)
      try simp only [Act.put, List.setIfInBounds_toArray, List.set_cons_zero, List.set_cons_succ]
      refine wpAnyH_take (i := 3) (v := ?_) (by first | (simp only [List.getElem?_toArray, List.getElem?_cons_zero, List.getElem?_cons_succ]; done) | (simp only [List.getElem?_toArray, List.getElem?_cons_zero, List.getElem?_cons_succ]; rfl)) (by kernel_rfl) (by kernel_rfl) (by kernel_rfl) (by exact fun _ _ _ h => h) (Or.inl ⟨by rfl, ?hy3⟩) (by assumption) ?_
      case hy3 => (intro w hSw; (try dsimp only at hSw); go_simp; try with_reducible rfl)
      try simp only [Act.put, List.setIfInBounds_toArray, List.set_cons_zero, List.set_cons_succ]
      refine wpAnyH_take (i := 4) (v := ?_) (by first | (simp only [List.getElem?_toArray, List.getElem?_cons_zero, List.getElem?_cons_succ]; done) | (simp only [List.getElem?_toArray, List.getElem?_cons_zero, List.getElem?_cons_succ]; rfl)) (by kernel_rfl) (by kernel_rfl) (by kernel_rfl) (by exact fun _ _ _ h => h) (Or.inl ⟨by rfl, ?hy4⟩) (by assumption) ?_
      case hy4 => (intro w hSw; (try dsimp only at hSw); go_simp; try with_reducible rfl)
      try simp only [Act.put, List.setIfInBounds_toArray, List.set_cons_zero, List.set_cons_succ]
      refine wpAnyH_take (i := 5) (v := ?_) (by first | (simp only [List.getElem?_toArray, List.getElem?_cons_zero, List.getElem?_cons_succ]; done) | (simp only [List.getElem?_toArray, List.getElem?_cons_zero, List.getElem?_cons_succ]; rfl)) (by kernel_rfl) (by kernel_rfl) (by kernel_rfl) (by exact fun _ _ _ h => h) (Or.inl ⟨by rfl, ?hy5⟩) (by assumption) ?_
      case hy5 => (intro w hSw; (try dsimp only at hSw); go_simp; try with_reducible rfl)
      try simp only [Act.put, List.setIfInBounds_toArray, List.set_cons_zero, List.set_cons_succ]
      refine wpAnyH_take (i := 6) (v := ?_) (by first | (simp only [List.getElem?_toArray, List.getElem?_cons_zero, List.getElem?_cons_succ]; done) | (simp only [List.getElem?_toArray, List.getElem?_cons_zero, List.getElem?_cons_succ]; rfl)) (by kernel_rfl) (by kernel_rfl) (by kernel_rfl) (by exact fun _ _ _ h => h) (Or.inl ⟨by rfl, ?hy6⟩) (by assumption) ?_
      case hy6 => (intro w hSw; (try dsimp only at hSw); go_simp; try with_reducible rfl)
      try simp only [Act.put, List.setIfInBounds_toArray, List.set_cons_zero, List.set_cons_succ]
      refine wpAnyH_take (i := 7) (v := ?_) (by first | (simp only [List.getElem?_toArray, List.getElem?_cons_zero, List.getElem?_cons_succ]; done) | (simp only [List.getElem?_toArray, List.getElem?_cons_zero, List.getElem?_cons_succ]; rfl)) (by kernel_rfl) (by kernel_rfl) (by kernel_rfl) (by exact fun _ _ _ h => h) (Or.inl ⟨by rfl, ?hy7⟩) (by assumption) ?_
      case hy7 => (intro w hSw; (try dsimp only at hSw); go_simp; try with_reducible rfl)
      try simp only [Act.put, List.setIfInBounds_toArray, List.set_cons_zero, List.set_cons_succ]
      refine wpAnyH_take (i := 8) (v := ?_) (by first | (simp only [List.getElem?_toArray, List.getElem?_cons_zero, List.getElem?_cons_succ]; done) | (simp only [List.getElem?_toArray, List.getElem?_cons_zero, List.getElem?_cons_succ]; rfl)) (by kernel_rfl) (by kernel_rfl) (by kernel_rfl) (by exact fun _ _ _ h => h) (Or.inl ⟨by rfl, ?hy8⟩) (by assumption) ?_
      case hy8 => (intro w hSw; (try dsimp only at hSw); go_simp; try with_reducible rfl)
      try simp only [Act.put, List.setIfInBounds_toArray, List.set_cons_zero, List.set_cons_succ]
      refine wpAnyH_take (i := 9) (v := ?_) (by first | (simp only [List.getElem?_toArray, List.getElem?_cons_zero, List.getElem?_cons_succ]; done) | (simp only [List.getElem?_toArray, List.getElem?_cons_zero, List.getElem?_cons_succ]; rfl)) (by kernel_rfl) (by kernel_rfl) (by kernel_rfl) (by exact fun _ _ _ h => h) (Or.inl ⟨by rfl, ?hy9⟩) (by assumption) ?_
      case hy9 => (intro w hSw; (try dsimp only at hSw); go_simp; try with_reducible rfl)
      try simp only [Act.put, List.setIfInBounds_toArray, List.set_cons_zero, List.set_cons_succ]
      refine wpAnyH_take (i := 10) (v := ?_) (by first | (simp only [List.getElem?_toArray, List.getElem?_cons_zero, List.getElem?_cons_succ]; done) | (simp only [List.getElem?_toArray, List.getElem?_cons_zero, List.getElem?_cons_succ]; rfl)) (by kernel_rfl) (by kernel_rfl) (by kernel_rfl) (by exact fun _ _ _ h => h) (Or.inl ⟨by rfl, ?hy10⟩) (by assumption) ?_
      case hy10 => (intro w hSw; (try dsimp only at hSw); go_simp; try with_reducible rfl)
      try simp only [Act.put, List.setIfInBounds_toArray, List.set_cons_zero, List.set_cons_succ]
      refine wpAnyH_ready (rs := [11]) (by kernel_rfl) (by simp) ?_
      refine AllReadyH.cons (by first | (simp only [List.getElem?_toArray, List.getElem?_cons_zero, List.getElem?_cons_succ]; done) | (simp only [List.getElem?_toArray, List.getElem?_cons_zero, List.getElem?_cons_succ]; rfl)) (fun K hK => ?_) AllReadyH.nil
      go_simp
      refine (HC.out _).mono ?_; rintro e W1 ⟨rfl, hx⟩; replace HX := Lib.hid (HX.out.tr hx); have HX1 := Lib.hid HX.out; clear hx
      try (go_wp2_with fail)
      refine hK.out _ _ (by (try dsimp only); first | exact HP.out _ HF.out.2 | exact HP.out _ (HEE.out.tr HX.out)) (fun hHeld => ?_)
      clear hK K
      try simp only [Act.put, List.setIfInBounds_toArray, List.set_cons_zero, List.set_cons_succ]
      refine wpAnyH_ready (rs := [12]) (by kernel_rfl) (by simp) ?_
      refine AllReadyH.cons (by first | (simp only [List.getElem?_toArray, List.getElem?_cons_zero, List.getElem?_cons_succ]; done) | (simp only [List.getElem?_toArray, List.getElem?_cons_zero, List.getElem?_cons_succ]; rfl)) (fun K hK => ?_) AllReadyH.nil
      go_simp
      replace HX := Lib.hid (show Ext wr (W1.alloc (.cells #[cU64 (twoM a b)] 34)) from HX.out.alloc _)
      try (go_wp2_with fail)
      refine hK.out _ _ (by (try dsimp only); first | exact HP.out _ HF.out.2 | exact HP.out _ (HEE.out.tr HX.out)) (fun hHeld => ?_)
      clear hK K
      try simp only [Act.put, List.setIfInBounds_toArray, List.set_cons_zero, List.set_cons_succ]
      refine wpAnyH_ready (rs := [13]) (by kernel_rfl) (by simp) ?_
      refine AllReadyH.cons (by first | (simp only [List.getElem?_toArray, List.getElem?_cons_zero, List.getElem?_cons_succ]; done) | (simp only [List.getElem?_toArray, List.getElem?_cons_zero, List.getElem?_cons_succ]; rfl)) (fun K hK => ?_) AllReadyH.nil
      have ho1 := (ownsRow_kept HOO.out HX1.out.block).alloc (.cells #[cU64 (twoM a b)] 34); have hsz1 := HX1.out.size; refine step_append_own (by rfl) _ _ _ (by rfl) _ _ i0 (.int .u64 0) 1 8 Tryz.underlying37 hi hz0 hz1 hz2 rfl (by decide) _ k _ (by rfl) ho1 ⟨W1.heap.size, 0, none⟩ 1 1 [cU64 (twoM a b)] (by rfl) (by rfl) (cell_one_new _ _ _) (fun x hx => by simp at hx; subst hx; rfl) (by unfold maxLen; omega) (by omega) (by simp; omega) ?_; intro v' W2 hown' hgrow; have hb2 : Below w.heap.size W1 W2 := ((Below.refl _ W1).alloc (by omega) _).grown hgrow (by simp; omega) (fun q hq => (ho1.lt q hq).1); have HF := Lib.hid (And.intro hown' ((HEE.out.tr HX1.out).trans hb2))
      try (go_wp2_with fail)
      refine hK.out _ _ (by (try dsimp only); first | exact HP.out _ HF.out.2 | exact HP.out _ (HEE.out.tr HX.out)) (fun hHeld => ?_)
      clear hK K
      try simp only [Act.put, List.setIfInBounds_toArray, List.set_cons_zero, List.set_cons_succ]
      refine wpAnyH_take (i := 14) (v := ?_) (by first | (simp only [List.getElem?_toArray, List.getElem?_cons_zero, List.getElem?_cons_succ]; done) | (simp only [List.getElem?_toArray, List.getElem?_cons_zero, List.getElem?_cons_succ]; rfl)) (by kernel_rfl) (by kernel_rfl) (by kernel_rfl) (by exact fun _ _ _ h => h) (Or.inl ⟨by rfl, ?hy14⟩) (by assumption) ?_
      case hy14 => (intro w hSw; (try dsimp only at hSw); go_simp; try with_reducible rfl)
      try simp only [Act.put, List.setIfInBounds_toArray, List.set_cons_zero, List.set_cons_succ]
      refine wpAnyH_done (by kernel_rfl) ?_ _

      go_wp2
      go_roundw
      case rel => exact ⟨k + 1, hkl, by first | go_num | (congr 1; omega), by rw [HS.out]; simpa [cDg] using HF.out.1, HF.out.2⟩
      case measure => simp [intOf]; omega
    · obtain rfl : k = m := by omega
      rw [← HM.out, List.take_length] at hoo
      rw [HM.out] at hoo
      have HOO := Lib.hid hoo
      have HEE := Lib.hid hE
      have hge : ¬ (2 * (k : Int) + 1 < (l.length : Int)) := by omega
      clear hoo hE
      go_wp2
      go_ret
      exact ⟨⟨_, rfl, HOO.out⟩, HEE.out⟩
set_option maxRecDepth 100000 in
theorem up_calls (l : List Nat) (hl : ∀ x ∈ l, x < 18446744073709551616) (A : Option Addr) (c : Nat) (w : World) (hA : Rd w A (cDg l)) (hn : l.length ≤ 100000) :
    Calls Tryz.prog 198 #[.slice A l.length c] w fun e w' => (∃ A' c', e = .returned (.slice A' (K.up l).length c') ∧ Rd w' A' (cDg (K.up l))) ∧ Ext w w' := by
  have H := Lib.hid (pairs_calls l hl A c w hA hn)
  go_enter Tryz.func198, Tryz.ntmps198
  go_wp2_with fail
  refine H.out.mono ?_
  rintro e w1 ⟨⟨v, rfl, hown⟩, hx⟩
  obtain ⟨A', c', rfl, hr⟩ := rd_of_own hown
  have HR := Lib.hid hr
  have HX := Lib.hid hx
  clear hr hx hown
  go_wp2
  go_ret
  exact ⟨⟨_, _, rfl, HR.out⟩, HX.out⟩
end Go.Proofs.YtbbgmlnfpnomiaaGreatDoor
end

section
/- The walks of merkle.Root, Path, Climb, Verify. -/
set_option linter.unusedVariables false
set_option linter.unusedSimpArgs false
namespace Go.Proofs.YtbbgmlnfpnomiaaGreatDoor
open Go.RowKit Go.Sort
/-- The length of a slice. -/
def slN : Value → Nat
  | .slice _ n _ => n
  | _ => 0
theorem pow_and : ∀ h : Fin 9, bits BinOp.and IntKind.i64 ((2 ^ h.val : Nat) : Int) (((2 ^ h.val : Nat) : Int) - 1) = 0 := by decide +kernel
theorem pow_le8 {h : Nat} (hh : h ≤ 8) : 2 ^ h ≤ 256 := by
  have : 2 ^ h ≤ 2 ^ 8 := Nat.pow_le_pow_right (by decide) hh
  simpa using this
theorem xor_sib : ∀ i : Fin 256, bits BinOp.xor IntKind.i64 ((i.val : Nat) : Int) 1 = ((K.sib i.val : Nat) : Int) := by decide +kernel
theorem and_one : ∀ i : Fin 256, bits BinOp.and IntKind.i64 ((i.val : Nat) : Int) 1 = ((i.val % 2 : Nat) : Int) := by decide +kernel
theorem sib_lt {i h : Nat} (hi : i < 2 ^ (h + 1)) : K.sib i < 2 ^ (h + 1) := by
  have h2 : 2 ^ (h + 1) = 2 * 2 ^ h := by rw [Nat.pow_succ]; omega
  unfold K.sib
  split <;> omega
set_option maxRecDepth 100000 in
set_option maxHeartbeats 1000000 in
theorem root_calls (h : Nat) (hh : h ≤ 8) (l : List Nat) (hl : ∀ x ∈ l, x < 18446744073709551616) (hn : l.length = 2 ^ h) (A : Option Addr) (c : Nat) (w : World) (hA : Rd w A (cDg l)) :
    Calls Tryz.prog 122 #[.slice A l.length c] w fun e w' => e = .returned (.tuple #[cU64 (K.root h l), .int .i64 0]) ∧ Ext w w' := by
  have hp := pow_le8 hh
  have hp1 : 1 ≤ 2 ^ h := Nat.one_le_two_pow
  have hb := pow_and ⟨h, by omega⟩
  have hUP := Lib.hid up_calls
  have HN := Lib.hid hn
  rw [hn]
  obtain ⟨n, hn2⟩ : ∃ n, 2 ^ h = n := ⟨_, rfl⟩
  have HN2 := Lib.hid hn2
  rw [hn2] at hp hp1
  change bits BinOp.and IntKind.i64 ((2 ^ h : Nat) : Int) (((2 ^ h : Nat) : Int) - 1) = 0 at hb
  rw [hn2] at hb
  rw [hn2]
  have hge1 : ¬ ((n : Int) < 1) := by omega
  have hle : ¬ (256 < (n : Int)) := by omega
  have hwr : IntKind.i64.wrap ((n : Int) - 1) = (n : Int) - 1 := IntWalk.i64_in _ (by omega)
  have HA := Lib.hid hA
  clear hA hn hn2
  go_enter Tryz.func122, Tryz.ntmps122
  go_wp2
  go_loopw [0] (fun v wr => ∃ (j : Nat) (L : List Nat) (B : Option Addr) (d : Nat), j ≤ h ∧ v = .slice B L.length d ∧ L.length = 2 ^ j ∧ (∀ x ∈ L, x < 18446744073709551616) ∧ K.root j L = K.root h l ∧ Rd wr B (cDg L) ∧ Ext w wr) (fun v _ => slN v)
  case atStart => exact ⟨h, l, A, c, Nat.le_refl _, by rw [HN.out, HN2.out], HN.out, hl, rfl, HA.out, Ext.rfl' _⟩
  case round =>
    obtain ⟨j, L, B, d, hj, rfl, hL, hLl, hr, hrd, hE⟩ := hrel
    cases j with
    | succ j =>
      have h2 : 2 ^ (j + 1) = 2 * 2 ^ j := by rw [Nat.pow_succ]; omega
      have hj1 : 1 ≤ 2 ^ j := Nat.one_le_two_pow
      have hjp := pow_le8 (show j + 1 ≤ 8 by omega)
      have hgt : (1 : Int) < (L.length : Int) := by omega
      have HC := Lib.hid (hUP.out L hLl B d wr hrd (by omega))
      have HR := Lib.hid hr
      have HL := Lib.hid hL
      have HE := Lib.hid hE
      clear hrd hE hL hr
      go_wp2_with fail
      refine HC.out.mono ?_
      rintro e w1 ⟨⟨A', c', rfl, hr1⟩, hx⟩
      have hul : (K.up L).length = 2 ^ j := by rw [K.up_len, HL.out, h2]; omega
      have HF := Lib.hid (show (K.up L).length = 2 ^ j ∧ Rd w1 A' (cDg (K.up L)) ∧ Ext w w1 from ⟨hul, hr1, HE.out.tr hx⟩)
      clear hr1 hx hul
      go_wp2
      go_roundw
      case rel => exact ⟨j, K.up L, A', c', by omega, rfl, HF.out.1, K.up_lt L, HR.out, HF.out.2.1, HF.out.2.2⟩
      case measure =>
        show slN (.slice A' (K.up L).length c') < slN (.slice B L.length d)
        show (K.up L).length < L.length
        rw [HF.out.1, HL.out]
        omega
    | zero =>
      have hL1 : L.length = 1 := by simpa using hL
      have hgt : ¬ ((1 : Int) < (L.length : Int)) := by omega
      obtain ⟨ad, rfl, _, hc⟩ := hrd.at_ (j := 0) (u := cU64 (L.getD 0 0)) (by simp [List.getD, List.getElem?_eq_getElem (show 0 < L.length by omega)])
      rw [show ad.add 0 = ad from by simp [Addr.add]] at hc
      have hc' : wr.cell? ⟨ad.block, ad.off, ad.spot⟩ = some (cU64 (L.getD 0 0)) := hc
      have hl0 : (0 : Int) < (L.length : Int) := by omega
      have HR := Lib.hid (show L.getD 0 0 = K.root h l from hr)
      have HE := Lib.hid hE
      clear hrd hE hL hr
      generalize L.getD 0 0 = R at *
      go_wp2
      refine bodyPost_ret (v := .tuple #[cU64 R, .int .i64 0]) (by simp [results, Tryz.f122, go_sem]) rfl ⟨by rw [← HR.out], HE.out⟩
theorem climb_take (x : Nat) (i : Nat) : ∀ (p : List Nat), K.climb x i p = K.climb x i p := fun _ => rfl
theorem climb_cons (x i y : Nat) (p : List Nat) : K.climb x i (y :: p) = K.climb (if i % 2 = 0 then S.twoN K.tMT x y else S.twoN K.tMT y x) (i / 2) p := by rw [K.climb]
set_option maxRecDepth 100000 in
set_option maxHeartbeats 1000000 in
theorem climb_calls (x i : Nat) (hx : x < 18446744073709551616) (hi : i < 256) (l : List Nat) (hl : ∀ x ∈ l, x < 18446744073709551616) (hn : l.length ≤ 8) (A : Option Addr) (c : Nat) (w : World) (hA : Rd w A (cDg l)) :
    Calls Tryz.prog 241 #[cU64 x, .int .i64 (i : Int), .slice A l.length c] w fun e w' => e = .returned (cU64 (K.climb x i l)) ∧ Ext w w' := by
  have HA := Lib.hid hA
  clear hA
  go_enter Tryz.func241, Tryz.ntmps241
  go_wp2
  go_loopw [0, 11] (fun v j wr => ∃ k X : Nat, k ≤ l.length ∧ j = .int .i64 (k : Int) ∧ v = cU64 X ∧ X < 18446744073709551616 ∧ K.climb X (i / 2 ^ k) (l.drop k) = K.climb x i l ∧ Ext w wr) (fun _ j _ => l.length - (intOf j).toNat)
  case atStart => exact ⟨0, x, by omega, rfl, rfl, hx, by simp, Ext.rfl' _⟩
  case round =>
    obtain ⟨k, X, hk, rfl, rfl, hX, hr, hE⟩ := hrel
    by_cases hlt : k < l.length
    · obtain ⟨ad, rfl, _, hc⟩ := (HA.out.ext hE).at_ (j := k) (u := cU64 l[k]) (by simp [hlt])
      have hy := hl l[k] (by simp)
      have hik : i / 2 ^ k < 256 := Nat.lt_of_le_of_lt (Nat.div_le_self _ _) hi
      have hand := and_one ⟨i / 2 ^ k, hik⟩
      have hsh : (i : Int) / 2 ^ k = ((i / 2 ^ k : Nat) : Int) := by norm_cast
      have hd : l.drop k = l[k] :: l.drop (k + 1) := List.drop_eq_getElem_cons hlt
      have hdd : i / 2 ^ k / 2 = i / 2 ^ (k + 1) := by rw [Nat.div_div_eq_div_mul, Nat.pow_succ]
      rw [hd, climb_cons, hdd] at hr
      have HR := Lib.hid hr
      have HE := Lib.hid hE
      generalize l[k] = y at *
      have HC1 := Lib.hid (otwo_calls tMT (by decide) X y hX hy wr)
      have HC2 := Lib.hid (otwo_calls tMT (by decide) y X hy hX wr)
      simp only [] at hand
      clear hr hE hd hdd
      generalize i / 2 ^ k = Q at *
      by_cases hq : Q % 2 = 0
      · rw [hq] at hand
        rw [if_pos hq] at HR
        have HQ := Lib.hid hq
        clear hq
        go_wp2_with fail
        refine HC1.out.mono ?_
        rintro e w1 ⟨rfl, hx1⟩
        have HX := Lib.hid (HE.out.tr hx1)
        clear hx1
        go_wp2
        go_roundw
        case rel => exact ⟨k + 1, _, hlt, by go_num, rfl, S.twoN_lt _ _ _, HR.out, HX.out⟩
        case measure => simp [intOf]; omega
      · rw [show Q % 2 = 1 by omega] at hand
        rw [if_neg hq] at HR
        have HQ := Lib.hid hq
        clear hq
        go_wp2_with fail
        refine HC2.out.mono ?_
        rintro e w1 ⟨rfl, hx1⟩
        have HX := Lib.hid (HE.out.tr hx1)
        clear hx1
        go_wp2
        go_roundw
        case rel => exact ⟨k + 1, _, hlt, by go_num, rfl, S.twoN_lt _ _ _, HR.out, HX.out⟩
        case measure => simp [intOf]; omega
    · obtain rfl : k = l.length := by omega
      rw [List.drop_length, K.climb] at hr
      have HR := Lib.hid hr
      have HE := Lib.hid hE
      clear hr hE
      go_wp2
      go_ret
      exact ⟨by rw [← HR.out]; rfl, HE.out⟩
set_option maxRecDepth 100000 in
set_option maxHeartbeats 1000000 in
/-- Whether a leaf's way leads to a root, the place being one of the tree's. -/
theorem mverify_calls (r x i : Nat) (hr : r < 18446744073709551616) (hx : x < 18446744073709551616) (l : List Nat) (hl : ∀ x ∈ l, x < 18446744073709551616) (hn : l.length ≤ 8) (hi : i < 2 ^ l.length) (A : Option Addr) (c : Nat) (w : World) (hA : Rd w A (cDg l)) :
    Calls Tryz.prog 186 #[cU64 r, cU64 x, .int .i64 (i : Int), .slice A l.length c] w fun e w' => e = .returned (.bool (decide (K.climb x i l = r))) ∧ Ext w w' := by
  have hp := pow_le8 hn
  have HC := Lib.hid (climb_calls x i hx (by omega) l hl hn A c w hA)
  have hlt := (by omega : (l.length : Int) ≤ 8)
  have hil : (i : Int) < ((2 ^ l.length : Nat) : Int) := by omega
  have hsh : IntKind.i64.wrap (1 * 2 ^ l.length) = ((2 ^ l.length : Nat) : Int) := by
    rw [Int.one_mul, show ((2 : Int) ^ l.length) = ((2 ^ l.length : Nat) : Int) by norm_cast]
    exact IntWalk.i64_in _ (by omega)
  have hsh2 : IntKind.i64.wrap (2 ^ l.length) = ((2 ^ l.length : Nat) : Int) := by
    rw [show ((2 : Int) ^ l.length) = ((2 ^ l.length : Nat) : Int) by norm_cast]
    exact IntWalk.i64_in _ (by omega)
  have hb : ((K.climb x i l : Int) == (r : Int)) = decide (K.climb x i l = r) := by
    rw [Bool.eq_iff_iff]
    simp only [beq_iff_eq, decide_eq_true_eq]
    omega
  have hl64 : ((l.length : Nat) : Int) ≤ 64 := by omega
  have hl0 : (0 : Int) ≤ ((l.length : Nat) : Int) := by omega
  clear hA
  generalize K.climb x i l = X at *
  generalize (decide (X = r)) = D at *
  generalize 2 ^ l.length = P2 at *
  go_enter Tryz.func186, Tryz.ntmps186
  go_wp2_with fail
  refine HC.out.mono ?_
  rintro e w1 ⟨rfl, hx1⟩
  have HX := Lib.hid hx1
  clear hx1
  go_wp2
  go_ret
  exact ⟨ret_bool (by first | rfl | simp [hb]), HX.out⟩
end Go.Proofs.YtbbgmlnfpnomiaaGreatDoor
end

section
/- The walk of merkle.Path. -/
set_option linter.unusedVariables false
set_option linter.unusedSimpArgs false
namespace Go.Proofs.YtbbgmlnfpnomiaaGreatDoor
open Go.RowKit Go.Sort
theorem Rd.grownApart {w w' : World} {A : Option Addr} {xs : List Value} {row : Option Nat} (h : Rd w A xs) (g : w.grownBy w' row) (hne : ∀ ad, A = some ad → some ad.block ≠ row) : Rd w' A xs := by
  rcases h with rfl | ⟨ad, e, hb, hc⟩
  · exact .inl rfl
  · refine .inr ⟨ad, e, Nat.lt_of_lt_of_le hb g.size, fun j hj => ?_⟩
    rw [← hc j hj]
    have := g.block ad.block hb (hne ad e)
    simp only [World.cell?, add_block] at *
    rw [this]
theorem rd_of_own_at {w : World} {B : Nat} {e : TypeId} {v : Value} {n : Nat} {xs : List Value} (h : w.ownsRow B e 1 v n xs) : ∃ A c, v = .slice A n c ∧ Rd w A xs ∧ ∀ ad, A = some ad → B ≤ ad.block ∧ ad.block < w.heap.size := by
  obtain ⟨A, c, rfl, hr⟩ := rd_of_own h
  refine ⟨A, c, rfl, hr, fun ad e => ?_⟩
  subst e
  rcases h.2 with ⟨hv, _⟩ | ⟨g, cap, cur, hv, hb, hg, _⟩
  · cases hv
  · cases hv; exact ⟨hb, (Array.getElem?_eq_some_iff.1 hg).1⟩
set_option maxRecDepth 100000 in
theorem up2_calls (l : List Nat) (hl : ∀ x ∈ l, x < 18446744073709551616) (A : Option Addr) (c : Nat) (w : World) (hA : Rd w A (cDg l)) (hn : l.length ≤ 100000) :
    Calls Tryz.prog 198 #[.slice A l.length c] w fun e w' => (∃ A' c', e = .returned (.slice A' (K.up l).length c') ∧ Rd w' A' (cDg (K.up l)) ∧ ∀ ad, A' = some ad → w.heap.size ≤ ad.block) ∧ Ext w w' := by
  have H := Lib.hid (pairs_calls l hl A c w hA hn)
  go_enter Tryz.func198, Tryz.ntmps198
  go_wp2_with fail
  refine H.out.mono ?_
  rintro e w1 ⟨⟨v, rfl, hown⟩, hx⟩
  obtain ⟨A', c', rfl, hr1, hr2⟩ := rd_of_own_at hown
  have HR := Lib.hid (And.intro hr1 (fun ad e => (hr2 ad e).1))
  have HX := Lib.hid hx
  clear hr1 hr2 hx hown
  go_wp2
  go_ret
  exact ⟨⟨_, _, rfl, HR.out⟩, HX.out⟩
/-- Between two levels of Path: the level, the place, what was gathered. -/
def PRel (h : Nat) (l : List Nat) (i : Nat) (w0 : World) (v iv ov : Value) (wr : World) : Prop :=
  ∃ (j : Nat) (L : List Nat) (B : Option Addr) (d I : Nat) (out : List Nat), j ≤ h ∧ v = .slice B L.length d ∧ iv = .int .i64 (I : Int) ∧ L.length = 2 ^ j ∧ I < 2 ^ j ∧ (∀ x ∈ L, x < 18446744073709551616) ∧ wr.ownsRow w0.heap.size 34 1 ov out.length (cDg out) ∧ out ++ K.path j L I = K.path h l i ∧ out.length + j = h ∧ Rd wr B (cDg L) ∧ (∀ ad, B = some ad → some ad.block ≠ ov.ownBlock) ∧ Ext w0 wr
set_option maxRecDepth 100000 in
set_option maxHeartbeats 1000000 in
theorem path_callsM (h : Nat) (hh : h ≤ 8) (l : List Nat) (hl : ∀ x ∈ l, x < 18446744073709551616) (hn : l.length = 2 ^ h) (i : Nat) (hi : i < 2 ^ h) (A : Option Addr) (c : Nat) (w : World) (hA : Rd w A (cDg l)) :
    Calls Tryz.prog 116 #[.slice A l.length c, .int .i64 (i : Int)] w fun e w' => (∃ A' c', e = .returned (.tuple #[.slice A' h c', .int .i64 0]) ∧ Rd w' A' (cDg (K.path h l i)) ∧ ∀ ad, A' = some ad → w.heap.size ≤ ad.block ∧ ad.block < w'.heap.size) ∧ Ext w w' := by
  obtain ⟨i0, hif, hz0, hz1, hz2⟩ := info_parts bDg
  have hp := pow_le8 hh
  have HRO := Lib.hid (root_calls h hh l hl hn A c w hA)
  have hlo : (i : Int) < (l.length : Int) := by omega
  have hnb : ¬ ((l.length : Int) ≤ (i : Int)) := by omega
  have HN := Lib.hid hn
  have HA := Lib.hid hA
  have hi2 := Lib.hid hi
  clear hA hn hi
  go_enter Tryz.func116, Tryz.ntmps116
  go_wp2_with fail
  refine HRO.out.mono ?_
  rintro e w0 ⟨rfl, hx0⟩
  have HX0 := Lib.hid hx0
  have HA0 := Lib.hid (HA.out.ext hx0)
  have hsz0 := hx0.size
  clear hx0 HRO HA
  go_wp2
  clear hnb hlo
  generalize decide (l.length ≤ i) = bz
  go_loopw [0, 1, 8] (fun v iv ov wr => PRel h l i w0 v iv ov wr) (fun v _ _ _ => slN v)
  case atStart => exact ⟨h, l, A, c, i, [], Nat.le_refl _, rfl, rfl, HN.out, hi2.out, hl, World.ownsRow_nil _ _ _ _, by simp, by simp, HA0.out, fun ad _ => by simp [Value.ownBlock], Ext.rfl' _⟩
  case round =>
    obtain ⟨j, L, B, d, I, out, hj, rfl, rfl, hL, hI, hLl, hoo, hpa, hol, hrd, hap, hE⟩ := hrel
    cases j with
    | succ j =>
      have h2 : 2 ^ (j + 1) = 2 * 2 ^ j := by rw [Nat.pow_succ]; omega
      have hj1 : 1 ≤ 2 ^ j := Nat.one_le_two_pow
      have hjp := pow_le8 (show j + 1 ≤ 8 by omega)
      have hgt : (1 : Int) < (L.length : Int) := by omega
      have hsl := sib_lt hI
      have hx1 := xor_sib ⟨I, by omega⟩
      simp only [] at hx1
      have hsl2 : (K.sib I : Int) < (L.length : Int) := by omega
      obtain ⟨ad, rfl, _, hc⟩ := hrd.at_ (j := K.sib I) (u := cU64 (L.getD (K.sib I) 0)) (by simp [List.getD, List.getElem?_eq_getElem (show K.sib I < L.length by omega)])
      have hdiv : (I : Int).tdiv 2 = ((I / 2 : Nat) : Int) := by rw [Int.tdiv_eq_ediv_of_nonneg (by omega)]; omega
      have hdiv2 : (I : Int) / 2 = ((I / 2 : Nat) : Int) := by omega
      have HS := Lib.hid (show (out ++ [L.getD (K.sib I) 0]) ++ K.path j (K.up L) (I / 2) = K.path h l i by rw [List.append_assoc, ← hpa]; rfl)
      have HUL := Lib.hid (show (K.up L).length = 2 ^ j by rw [K.up_len, hL, h2]; omega)
      generalize L.getD (K.sib I) 0 = y at *
      have HC := Lib.hid (fun W (hA : Rd W (some ad) (cDg L)) => up2_calls L hLl (some ad) d W hA (by omega))
      have HL := Lib.hid hL
      have HI := Lib.hid (show I / 2 < 2 ^ j by omega)
      have HOL := Lib.hid hol
      have HR := Lib.hid hrd
      have HAP := Lib.hid hap
      have HE := Lib.hid hE
      have HOO := Lib.hid hoo
      have hszr := hE.size
      have hob : out.length ≤ 8 := by omega
      generalize K.sib I = sI at *
      generalize I / 2 = I2 at *
      clear hrd hE hL hoo hap hpa hsl h2
      have ho2 := HOO.out.alloc (.cells #[cU64 y] 34)
      go_upto_region 8 with (at_builtin; (refine wpList_append_own _ rfl _ _ 37 rfl w0.heap.size 34 i0 (.int .u64 0) 1 8 Tryz.underlying37 hif hz0 hz1 hz2 rfl (by decide) _ _ _ rfl ho2 ⟨wr.heap.size, 0, none⟩ 1 1 [cU64 y] rfl rfl (cell_one_new _ _ _) (fun x hx => by simp at hx; subst hx; rfl) (by unfold maxLen; omega) (by omega) (by simp; omega) ?_); intro v' w2 hown' hgrow _)
      have hb2 : Below w0.heap.size wr w2 := ((Below.refl _ wr).alloc (by omega) _).grown hgrow (by simp; omega) (fun q hq => (ho2.lt q hq).1)
      have hE2 : Ext w0 w2 := HE.out.trans hb2
      have hr2 : Rd w2 (some ad) (cDg L) := (HR.out.alloc _).grownApart hgrow HAP.out
      have HO2 := Lib.hid hown'
      have HE2 := Lib.hid hE2
      have HR2 := Lib.hid (HC.out w2 hr2)
      clear hb2 hE2 hr2 ho2 hgrow hown' HR HC
      go_wp2_with fail
      refine HR2.out.mono ?_
      rintro e w3 ⟨⟨A', c', rfl, hr3, hf3⟩, hx3⟩
      have HF := Lib.hid (show w3.ownsRow w0.heap.size 34 1 v' (out ++ [y]).length (cDg (out ++ [y])) ∧ Rd w3 A' (cDg (K.up L)) ∧ (∀ ad, A' = some ad → some ad.block ≠ v'.ownBlock) ∧ Ext w0 w3 from
        ⟨by have := ownsRow_kept HO2.out hx3.block; simpa [cDg] using this, hr3, fun ad e he => by
          have h1 := hf3 ad e
          have h2 := (HO2.out.lt ad.block he.symm).2
          omega, HE2.out.tr hx3⟩)
      clear hr3 hf3 hx3
      go_wp2
      go_roundw
      case rel => exact ⟨j, K.up L, A', c', I2, out ++ [y], by omega, rfl, rfl, HUL.out, HI.out, K.up_lt L, HF.out.1, HS.out, by have := HOL.out; simp; omega, HF.out.2.1, HF.out.2.2.1, HF.out.2.2.2⟩
      case measure =>
        show (K.up L).length < L.length
        have e1 := HUL.out
        have e2 := HL.out
        have h2 : 2 ^ (j + 1) = 2 * 2 ^ j := by rw [Nat.pow_succ]; omega
        have hj1 : 1 ≤ 2 ^ j := Nat.one_le_two_pow
        omega
    | zero =>
      have hL1 : L.length = 1 := by simpa using hL
      have hgt : ¬ ((1 : Int) < (L.length : Int)) := by omega
      rw [K.path, List.append_nil] at hpa
      obtain ⟨A', c', rfl, hr, hat⟩ := rd_of_own_at hoo
      have HAT := Lib.hid (show ∀ ad, A' = some ad → w.heap.size ≤ ad.block ∧ ad.block < wr.heap.size from fun ad e => ⟨Nat.le_trans hsz0 (hat ad e).1, (hat ad e).2⟩)
      rw [hpa] at hr
      have hoh : out.length = h := by omega
      have HR := Lib.hid hr
      have HE := Lib.hid (HX0.out.tr hE)
      rw [hoh]
      clear hrd hE hL hr hoo hpa hol hap hoh hat
      go_wp2
      refine bodyPost_ret (v := .tuple #[.slice A' h c', .int .i64 0]) (by simp [results, Tryz.f116, go_sem]) rfl ⟨⟨_, ⟨_, rfl⟩, HR.out, HAT.out⟩, HE.out⟩
end Go.Proofs.YtbbgmlnfpnomiaaGreatDoor
end
