/- The walks of cmd.Text, of the reference's CmdText, of both digests. -/
import Derived.Test.YtifanmggfoicfaaDoorWOf9
import Derived.Test.YtifanmggfoicfaaDoorHash
import Derived.Test.YtifanmggfoicfaaDoorWRNums
import Derived.Deep.RegionHeld3
set_option linter.unusedVariables false
namespace Go.Proofs.YtifanmggfoicfaaDoor
open Go.RowKit Go.Sort
theorem step_append_own {P : Program} {ops : Array Oper} {o : Oper} {a : Act} {w : World} {K : Act → World → Prop} {Q : Exit → Act → World → Prop} {E : Prop} (hg : o.guard = none) (s x : Operand) (t : TypeId)
    (hop : o.op = Op.call { callee := Callee.builtin Builtin.append, args := #[s, x], argTypes := #[t, t] })
    (base : Nat) (e : TypeId) (i : TypeInfo) (z : Value) (size bytes : Nat) (h1 : P.underlying t = some (.slice e)) (h2 : P.info? e = some i) (h3 : i.zero = some z) (h4 : i.size = size) (h5 : i.bytes = bytes) (h6 : z.cells.size = size) (h7 : 0 < size)
    (v : Value) (k : Nat) (xs : List Value) (hs : a.eval s = v) (hown : w.ownsRow base e size v k xs) (ad : Addr) (m c : Nat) (news : List Value) (hx : a.eval x = .slice (some ad) m c) (hn : news.length = m * size)
    (hc : ∀ j u, news[j]? = some u → w.cell? (ad.add j) = some u) (h1c : ∀ u ∈ news, u.oneCell' = true) (b1 : k + m ≤ maxLen) (b2 : (k + m) * bytes ≤ 140737488355328) (b3 : base ≤ w.heap.size)
    (hK : ∀ v' w', w'.ownsRow base e size v' (k + m) (xs ++ news) → w.grownBy w' v.ownBlock → K (a.put o.dst v') w') :
    if Region.wanted o (yielded ops a.tmps) = true then Oper.wp P o a w K Q else E := by
  have hw : Region.wanted o (yielded ops a.tmps) = true := by simp [Region.wanted, hg]
  rw [if_pos hw]
  obtain ⟨v', w', hrun, r1, r2, _⟩ := run_append_own (P := P) w base t o.type e i z size bytes h1 h2 h3 h4 h5 h6 h7 v k xs hown ad m c news hn hc h1c b1 b2 b3
  unfold Oper.wp
  simp [execOp, hop, resolve, invoke, builtin, hs, hx, hrun, Result.andThen]
  exact hK v' w' r1 r2
set_option maxHeartbeats 1000000 in
set_option maxRecDepth 100000 in
theorem mapInt_calls (l : List Int) (hb : ∀ n ∈ l, -9223372036854775808 ≤ n ∧ n ≤ 9223372036854775807) (A : Option Addr) (c : Nat) (w : World) (hA : Rd w A (cI64s l)) (hl : l.length ≤ 1099511627776) :
    Calls Tryd.prog 43 #[.slice A l.length c, .func (.func 44) #[] #[]] w fun e w' => (∃ v, e = .returned v ∧ w'.ownsRow w.heap.size 2 1 v l.length (cI64s l)) ∧ Ext w w' := by
  obtain ⟨j0, hj, hy0, hy1, hy2⟩ := info_parts bI64
  have HA := Lib.hid hA
  have HBD := Lib.hid hb
  clear hA hb
  go_enter Tryd.func43, Tryd.ntmps43
  go_wp2
  go_loopw [5, 10] (fun v i wr => ∃ k : Nat, k ≤ l.length ∧ i = .int .i64 k ∧ wr.ownsRow w.heap.size 2 1 v k (cI64s (l.take k)) ∧ Below w.heap.size w wr) (fun _ i _ => l.length - (intOf i).toNat)
  case atStart => exact ⟨0, by omega, rfl, World.ownsRow_nil _ _ _ _, Below.refl _ _⟩
  case round =>
    obtain ⟨k, hk, rfl, hoo, hB⟩ := hrel
    by_cases hlt : k < l.length
    · obtain ⟨ad, rfl, _, hc⟩ := (HA.out.ext hB).at_ (j := k) (u := .int .i64 l[k]) (by simp [hlt])
      have hnb := HBD.out l[k] (by simp)
      have HS := Lib.hid (List.take_succ_eq_append_getElem hlt)
      have HOO := Lib.hid hoo
      have HBB := Lib.hid hB
      clear hoo hB
      generalize l[k] = n at *
      go_wp2_with fail
      refine (textId_calls n _).mono ?_
      rintro e w1 ⟨rfl, rfl⟩
      have hB1 := HBB.out
      have hoo1 := HOO.out
      have hsz1 := hB1.size
      have hoo2 := hoo1.alloc (.cells #[.int .i64 n] 2)
      go_wp2_with (at_builtin; (refine wpList_append_own _ rfl _ _ 70 rfl w.heap.size 2 j0 (.int .i64 0) 1 8 Tryd.underlying70 hj hy0 hy1 hy2 rfl (by decide) _ _ _ rfl hoo2 ⟨wr.heap.size, 0, none⟩ 1 1 [.int .i64 n] rfl rfl (cell_one_new _ _ _) (fun x hx => by simp at hx; subst hx; rfl) (by unfold maxLen; omega) (by omega) (by simp; omega) ?_); intro v' w2 hown' hgrow _)
      have hB2 : Below w.heap.size w w2 := (hB1.alloc hsz1 _).grown hgrow (by simp; omega) (fun q hq => (hoo1.lt q hq).1)
      have HO2 := Lib.hid hown'
      have HB2 := Lib.hid hB2
      clear hown' hgrow hB1 hB2 hoo1 hoo2
      go_wp2
      go_roundw
      case rel => exact ⟨k + 1, hlt, by go_num, by rw [HS.out]; simpa [cI64s] using HO2.out, HB2.out⟩
      case measure => simp [intOf]; omega
    · obtain rfl : k = l.length := by omega
      rw [List.take_length] at hoo
      have HR := Lib.hid hoo
      have HB2 := Lib.hid hB
      clear hoo hB
      go_wp2
      go_ret
      exact ⟨⟨_, rfl, HR.out⟩, HB2.out⟩
theorem Rd.fresh2 (w : World) (o : Obj) (l : List Value) (t : TypeId) (fr : Nat × Nat) : Rd ((w.alloc o).alloc (.cells l.toArray t fr)) (some ⟨w.heap.size + 1, 0, none⟩) l := by
  have h := Rd.fresh (w.alloc o) l t fr
  rwa [World.size_alloc] at h
theorem new_at (W : World) (o : Obj) (u : Value) (t : TypeId) : ∀ j x, [u][j]? = some x → ((W.alloc o).alloc (.cells #[u] t)).cell? ((⟨W.heap.size + 1, 0, none⟩ : Addr).add j) = some x := by
  have h := cell_one_new (W.alloc o) u t
  rwa [World.size_alloc] at h
theorem old_at (W : World) (o : Obj) (u : Value) (t : TypeId) : ∀ j x, [u][j]? = some x → ((W.alloc (.cells #[u] t)).alloc o).cell? ((⟨W.heap.size, 0, none⟩ : Addr).add j) = some x := fun j x h =>
  cell_later ((Below.refl _ _).alloc (Nat.le_refl _) o) (cell_one_new W u t j x h)
abbrev I5 (c n f t a : Int) : Prop := I64 c ∧ I64 n ∧ I64 f ∧ I64 t ∧ I64 a
theorem I5.all {c n f t a : Int} (h : I5 c n f t a) : ∀ x ∈ [c, n, f, t, a], I64 x := by
  intro x hx
  simp only [List.mem_cons, List.not_mem_nil, or_false] at hx
  rcases hx with rfl | rfl | rfl | rfl | rfl
  · exact h.1
  · exact h.2.1
  · exact h.2.2.1
  · exact h.2.2.2.1
  · exact h.2.2.2.2
abbrev textC (c n f t a : Int) : ByteArray := strOf (numsL [c, n, f, t, a])
set_option maxHeartbeats 2000000 in
set_option maxRecDepth 100000 in
theorem ctext_calls (c n f t a : Int) (hb : I5 c n f t a) (w : World) (ht : TabOk w) : Calls Tryd.prog 13 #[cV c n f t a] w fun e w' => e = .returned (.string (textC c n f t a)) ∧ Ext w w' := by
  have HB := Lib.hid hb.all
  have HT := Lib.hid ht.all
  have HB4 := Lib.hid (show ∀ x ∈ [c, n, f, t], I64 x from fun x hx => hb.all x (by simp at hx ⊢; rcases hx with h | h | h | h <;> simp [h]))
  clear hb ht
  obtain ⟨i0, hi, hz0, hz1, hz2⟩ := info_parts bI64
  go_enter Tryd.func13, Tryd.ntmps13
  go_wp2_with fail
  have k0 := cell5 w #[.int .i64 c, .int .i64 n, .int .i64 f, .int .i64 t, .int .i64 a] 24
  have c0 : (w.alloc (.cells #[.int .i64 c, .int .i64 n, .int .i64 f, .int .i64 t, .int .i64 a] 24)).cell? ⟨w.heap.size, 0, none⟩ = some (.int .i64 c) := k0 0
  have c1 : (w.alloc (.cells #[.int .i64 c, .int .i64 n, .int .i64 f, .int .i64 t, .int .i64 a] 24)).cell? ⟨w.heap.size, 1, none⟩ = some (.int .i64 n) := k0 1
  have c2 : (w.alloc (.cells #[.int .i64 c, .int .i64 n, .int .i64 f, .int .i64 t, .int .i64 a] 24)).cell? ⟨w.heap.size, 2, none⟩ = some (.int .i64 f) := k0 2
  have c3 : (w.alloc (.cells #[.int .i64 c, .int .i64 n, .int .i64 f, .int .i64 t, .int .i64 a] 24)).cell? ⟨w.heap.size, 3, none⟩ = some (.int .i64 t) := k0 3
  have c4 : (w.alloc (.cells #[.int .i64 c, .int .i64 n, .int .i64 f, .int .i64 t, .int .i64 a] 24)).cell? ⟨w.heap.size, 4, none⟩ = some (.int .i64 a) := k0 4
  clear k0
  have hE : Ext w (w.alloc (.cells #[.int .i64 c, .int .i64 n, .int .i64 f, .int .i64 t, .int .i64 a] 24)) := (Below.refl _ w).alloc (Nat.le_refl _) _
  have hsz : (w.alloc (.cells #[.int .i64 c, .int .i64 n, .int .i64 f, .int .i64 t, .int .i64 a] 24)).heap.size = w.heap.size + 1 := by simp
  have HE := Lib.hid hE
  have HSZ := Lib.hid hsz
  have hwlt : w.heap.size < (w.alloc (.cells #[.int .i64 c, .int .i64 n, .int .i64 f, .int .i64 t, .int .i64 a] 24)).heap.size := by omega
  clear hE hsz
  generalize w.alloc (.cells #[.int .i64 c, .int .i64 n, .int .i64 f, .int .i64 t, .int .i64 a] 24) = W0 at *
  go_region_held3 (fun w' => w'.cell? ⟨w.heap.size, 0, none⟩ = some (.int .i64 c) ∧ w'.cell? ⟨w.heap.size, 1, none⟩ = some (.int .i64 n) ∧ w'.cell? ⟨w.heap.size, 2, none⟩ = some (.int .i64 f) ∧ w'.cell? ⟨w.heap.size, 3, none⟩ = some (.int .i64 t) ∧ w'.cell? ⟨w.heap.size, 4, none⟩ = some (.int .i64 a))
    (first | exact ⟨cell_later hB4 c0, cell_later hB4 c1, cell_later hB4 c2, cell_later hB4 c3, cell_later hB4 c4⟩ | exact ⟨cell_later hB3 c0, cell_later hB3 c1, cell_later hB3 c2, cell_later hB3 c3, cell_later hB3 c4⟩ | exact ⟨cell_later hB2 c0, cell_later hB2 c1, cell_later hB2 c2, cell_later hB2 c3, cell_later hB2 c4⟩ | go_keep)
    (first
      | (go_at_call 43; refine (mapInt_calls [c, n, f, t] HB4.out _ _ _ (by first | exact Rd.fresh _ (cI64s [c, n, f, t]) _ (0, 0) | exact Rd.drew (Rd.fresh _ (cI64s [c, n, f, t]) _ (0, 0)) | exact Rd.drew (Rd.alloc (Rd.fresh _ (cI64s [c, n, f, t]) _ (0, 0)) _) | exact Rd.drew (Rd.fresh2 _ _ (cI64s [c, n, f, t]) _ (0, 0))) (by show 4 ≤ _; decide)).mono ?_; rintro e w2 ⟨⟨v, rfl, hown⟩, hx⟩; have hB2 : Ext W0 w2 := (by first | exact Ext.tr (Ext.alloc (Ext.rfl' W0) _).drew hx | exact Ext.tr (Ext.alloc (Ext.alloc (Ext.rfl' W0) _) _).drew hx))
      | (refine step_append_own (by rfl) _ _ _ (by rfl) _ _ i0 (.int .i64 0) 1 8 Tryd.underlying70 hi hz0 hz1 hz2 rfl (by decide) _ 4 (cI64s [c, n, f, t]) (by rfl) (hown.alloc _) ⟨w2.heap.size, 0, none⟩ 1 1 [.int .i64 a] (by rfl) (by rfl) (cell_one_new w2 _ _) (fun x hx => by simp at hx; subst hx; rfl) (by decide) (by decide) (by simp; have := hx.size; simp at this; omega) ?_; intro v' w3 hown' hgrow; obtain ⟨A3, cc3, rfl, hrd⟩ := rd_of_own hown'; have hB3 : Ext W0 w3 := Below.grown (Ext.alloc hB2 _) hgrow (by simp; have := hB2.size; omega) (fun q hq => by have h2 := (hown.lt q hq).1; simp at h2; omega))
      | (refine step_append_own (by rfl) _ _ _ (by rfl) _ _ i0 (.int .i64 0) 1 8 Tryd.underlying70 hi hz0 hz1 hz2 rfl (by decide) _ 4 (cI64s [c, n, f, t]) (by rfl) hown ⟨_, 0, none⟩ 1 1 [.int .i64 a] (by rfl) (by rfl) (by first | exact fun j u h => cell_later hx (new_at W0 _ _ _ j u h) | exact fun j u h => cell_later hx (old_at W0 _ _ _ j u h)) (fun x hx => by simp at hx; subst hx; rfl) (by decide) (by decide) hx.size ?_; intro v' w3 hown' hgrow; obtain ⟨A3, cc3, rfl, hrd⟩ := rd_of_own hown'; have hB3 : Ext W0 w3 := Below.grown hB2 hgrow hB2.size (fun q hq => by have h2 := (hown.lt q hq).1; simp at h2; omega))
      | (go_at_call 42; refine (nums_calls [c, n, f, t, a] HB.out _ _ _ hrd (by show 5 ≤ _; decide) (HT.out _ (HE.out.tr hB3))).mono ?_; rintro e w4 ⟨rfl, hx4⟩; have hB4 : Ext W0 w4 := Ext.tr hB3 hx4))
  all_goals
    go_wp2
    go_ret
    exact ⟨rfl, (HE.out.tr hB3).tr hx4⟩
end Go.Proofs.YtifanmggfoicfaaDoor
