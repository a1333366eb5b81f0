/- The walk of the reference's Distinct: each put into its place. -/
import Derived.Test.YtifanmggfoicfaaQEn
import Derived.Test.YtifanmggfoicfaaGrow
import Derived.Laws.AppendOwnNone
import Derived.Deep.RegionHeld3
import Derived.Deep.DeepCutAuto
import Derived.BigQuiet
import Derived.Deep.QuietTactic
set_option linter.unusedVariables false
namespace Go.Proofs.Ytifanmggfoicfaa
open Go.RowKit Go.Shelf Go.Sort
theorem add0 (g k : Nat) : (⟨g, 0, none⟩ : Addr).add k = ⟨g, k, none⟩ := by unfold Addr.add; split <;> simp [*]
/-- One put into its place. -/
def insD (x : Int) : List Int → List Int
  | [] => [x]
  | y :: ys => if y < x then y :: insD x ys else if y = x then y :: ys else x :: y :: ys
theorem insD_at (x : Int) : ∀ (l : List Int) (k : Nat), k ≤ l.length → (∀ j (h : j < l.length), j < k → l[j] < x) → (∀ h : k < l.length, ¬ l[k] < x) →
    insD x l = if l[k]? = some x then l else l.take k ++ x :: l.drop k
  | [], k, hk, _, _ => by
    have : k = 0 := by simpa using hk
    subst this
    rfl
  | y :: ys, 0, _, _, h2 => by
    have h := h2 (by simp)
    simp only [List.getElem_cons_zero] at h
    unfold insD
    rw [if_neg h]
    simp only [List.getElem?_cons_zero, Option.some.injEq, List.take_zero, List.drop_zero, List.nil_append]
  | y :: ys, k + 1, hk, h1, h2 => by
    have h := h1 0 (by simp) (by omega)
    simp only [List.getElem_cons_zero] at h
    unfold insD
    rw [if_pos h, insD_at x ys k (by simpa using hk) (fun j hj hjk => h1 (j + 1) (by simpa using hj) (by omega)) (fun h => h2 (by simpa using h))]
    simp only [List.getElem?_cons_succ, List.take_succ_cons, List.drop_succ_cons]
    split <;> rfl
theorem insD_len (x : Int) : ∀ l : List Int, (insD x l).length ≤ l.length + 1
  | [] => Nat.le_refl _
  | y :: ys => by
    unfold insD
    have := insD_len x ys
    split
    · simp; omega
    · split
      · simp
      · simp
def rdst (l : List Int) : List Int := l.foldl (fun a x => insD x a) []
theorem rdst_snoc (l : List Int) (k : Nat) (h : k < l.length) : rdst (l.take (k + 1)) = insD l[k] (rdst (l.take k)) := by
  unfold rdst
  rw [List.take_succ_eq_append_getElem h, List.foldl_append]
  rfl
theorem rdst_len (l : List Int) : (rdst l).length ≤ l.length := by
  have : ∀ (l a : List Int), (l.foldl (fun a x => insD x a) a).length ≤ a.length + l.length := by
    intro l
    induction l with
    | nil => intro a; simp
    | cons x l ih =>
      intro a
      have h1 := ih (insD x a)
      have h2 := insD_len x a
      simp only [List.foldl_cons, List.length_cons]
      omega
  have h := this l []
  simpa [rdst] using h
theorem Ext.drewN {w W : World} (h : Ext w W) (n : Nat) : Ext w (W.drewN n) := ⟨h.os, h.tape, h.output, h.size, h.block⟩
theorem Ext.drew {w W : World} (h : Ext w W) : Ext w W.drew := ⟨h.os, h.tape, h.output, h.size, h.block⟩
theorem new_at (W : World) (o : Obj) (u : Value) (t : TypeId) : ∀ j x, [u][j]? = some x → ((W.alloc o).alloc (.cells #[u] t)).cell? ((⟨W.heap.size + 1, 0, none⟩ : Addr).add j) = some x := by
  have h := cell_one_new (W.alloc o) u t
  rwa [World.size_alloc] at h
theorem old_at (W : World) (o : Obj) (u : Value) (t : TypeId) : ∀ j x, [u][j]? = some x → ((W.alloc (.cells #[u] t)).alloc o).cell? ((⟨W.heap.size, 0, none⟩ : Addr).add j) = some x := fun j x h =>
  cell_later ((Below.refl _ _).alloc (Nat.le_refl _) o) (cell_one_new W u t j x h)
theorem addK (g k j : Nat) : (⟨g, k, none⟩ : Addr).add j = ⟨g, k + j, none⟩ := by unfold Addr.add; split <;> simp [*]
theorem step_append_none {P : Program} {ops : Array Oper} {o : Oper} {a : Act} {W : World} {K : Act → World → Prop} {Q : Exit → Act → World → Prop} {E : Prop} (hg : o.guard = none) (s x : Operand) (t : TypeId)
    (hop : o.op = Op.call { callee := Callee.builtin Builtin.append, args := #[s, x], argTypes := #[t, t] })
    (base : Nat) (e : TypeId) (i : TypeInfo) (size : Nat) (ht : P.underlying t = some (.slice e)) (hi : P.info? e = some i)
    (v : Value) (n : Nat) (xs : List Value) (hs : a.eval s = v) (hown : W.ownsRow base e size v n xs) (hx : a.eval x = .slice none 0 0)
    (hK : K (a.put o.dst v) W) :
    if Region.wanted o (yielded ops a.tmps) = true then Oper.wp P o a W K Q else E := by
  have hw : Region.wanted o (yielded ops a.tmps) = true := by simp [Region.wanted, hg]
  rw [if_pos hw]
  have hrun := run_append_owned_none (P := P) (w := W) base t o.type e i size ht hi v n xs hown
  unfold Oper.wp
  simp [execOp, hop, resolve, invoke, builtin, hs, hx, hrun, Result.andThen]
  exact hK
theorem own_base {w : World} {b b' : Nat} {e : TypeId} {size : Nat} {v : Value} {n : Nat} {xs : List Value} (h : w.ownsRow b e size v n xs) (hb : b' ≤ b) : w.ownsRow b' e size v n xs := by
  refine ⟨h.1, ?_⟩
  rcases h.2 with h | ⟨g, cap, cur, h1, h2, h3⟩
  · exact .inl h
  · exact .inr ⟨g, cap, cur, h1, by omega, h3⟩
theorem own_ext {w w' : World} {b : Nat} {e : TypeId} {size : Nat} {v : Value} {n : Nat} {xs : List Value} (h : w.ownsRow b e size v n xs) (k : Ext w w') : w'.ownsRow b e size v n xs :=
  h.kept (ext_grown k none) (by cases hh : v.ownBlock <;> simp)
theorem step_append_ext {P : Program} {ops : Array Oper} {o : Oper} {a : Act} {W : World} {K : Act → World → Prop} {Q : Exit → Act → World → Prop} {E : Prop} (hg : o.guard = none) (s x : Operand) (t : TypeId)
    (hop : o.op = Op.call { callee := Callee.builtin Builtin.append, args := #[s, x], argTypes := #[t, t] })
    (w : World) (hE : Ext w W) (e : TypeId) (i : TypeInfo) (z : Value) (size bytes : Nat) (h1 : P.underlying t = some (.slice e)) (h2 : P.info? e = some i) (h3 : i.zero = some z) (h4 : i.size = size) (h5 : i.bytes = bytes) (h6 : z.cells.size = size) (h7 : 0 < size)
    (v : Value) (k : Nat) (xs : List Value) (hs : a.eval s = v) (hown : W.ownsRow w.heap.size e size v k xs) (ad : Addr) (m c : Nat) (news : List Value) (hx : a.eval x = .slice (some ad) m c) (hn : news.length = m * size)
    (hc : ∀ j u, news[j]? = some u → W.cell? (ad.add j) = some u) (h1c : ∀ u ∈ news, u.oneCell' = true) (b1 : k + m ≤ maxLen) (b2 : (k + m) * bytes ≤ 140737488355328)
    (hK : ∀ v' w', w'.ownsRow w.heap.size e size v' (k + m) (xs ++ news) → W.grownBy w' v.ownBlock → Ext w w' → K (a.put o.dst v') w') :
    if Region.wanted o (yielded ops a.tmps) = true then Oper.wp P o a W K Q else E := by
  have hw : Region.wanted o (yielded ops a.tmps) = true := by simp [Region.wanted, hg]
  rw [if_pos hw]
  obtain ⟨v', w', hrun, r1, r2, _⟩ := run_append_own (P := P) W w.heap.size t o.type e i z size bytes h1 h2 h3 h4 h5 h6 h7 v k xs hown ad m c news hn hc h1c b1 b2 hE.size
  unfold Oper.wp
  simp [execOp, hop, resolve, invoke, builtin, hs, hx, hrun, Result.andThen]
  exact hK v' w' r1 r2 (hE.grown r2 hE.size (fun q hq => (hown.lt q hq).1))
set_option maxRecDepth 100000 in
set_option maxHeartbeats 4000000 in
theorem rdistinct_calls (ls : List Int) (A : Option Addr) (c : Nat) (hl : ls.length ≤ 1099511627776) (w : World) (hA : Rd w A (cIs ls)) :
    Calls Try.prog 27 #[.slice A ls.length c] w fun e w' => (∃ v, e = .returned v ∧ w'.ownsRow w.heap.size 3 1 v (rdst ls).length (cIs (rdst ls))) ∧ Ext w w' := by
  obtain ⟨i0, hi, hz0, hz1, hz2⟩ := info_parts bInt
  have HA := Lib.hid hA
  clear hA
  go_enter Try.func27, Try.ntmps27
  go_wp2
  go_loopw [3, 4] (fun v i wr => ∃ k : Nat, k ≤ ls.length ∧ i = .int .i64 k ∧ wr.ownsRow w.heap.size 3 1 v (rdst (ls.take k)).length (cIs (rdst (ls.take k))) ∧ Ext w wr) (fun _ i _ => ls.length - (intOf i).toNat)
  case atStart => exact ⟨0, Nat.zero_le _, rfl, World.ownsRow_nil _ _ _ _, Ext.rfl' _⟩
  case round =>
    obtain ⟨k, hk, rfl, hown, hX⟩ := hrel
    by_cases hlt : k < ls.length
    · have HS := Lib.hid (rdst_snoc ls k hlt)
      have hol := rdst_len (ls.take k)
      rw [List.length_take] at hol
      generalize rdst (ls.take k) = out at *
      obtain ⟨ad, rfl, hadl, hc⟩ := HA.out.at_ (j := k) (u := .int .i64 ls[k]) (by simp [hlt])
      generalize ls[k] = x at *
      have HC := Lib.hid hc
      clear hc
      rcases hown.2 with ⟨rfl, hz⟩ | ⟨g, cap, cur, rfl, hbase, hgb, r1, r2, r3, r4⟩
      · have hn : out = [] := List.eq_nil_of_length_eq_zero hz
        subst hn
        have HI := Lib.hid (show insD x [] = [x] from rfl)
        have HX2 := Lib.hid hX
        clear hown hX
        obtain ⟨wo, hwo⟩ : ∃ wo : World, wo = wr := ⟨_, rfl⟩
        subst hwo
        go_wp2
        go_loopw [5] (fun s wi => s = .int .i64 (0 : Nat) ∧ Ext w wi) (fun s _ => 0)
        case atStart => exact ⟨rfl, HX2.out⟩
        case round =>
          obtain ⟨rfl, hX⟩ := hrel
          have HX2 := Lib.hid hX
          have c2 := hX.cell HC.out
          clear hX
          go_wp2
          go_quiet (fail)
          have HX3 := Lib.hid (HX2.out.drewN nq)
          have d2 : (wr.drewN nq).cell? (ad.add k) = some (.int .i64 x) := c2
          clear c2 HX2
          generalize wr.drewN nq = wq at *
          go_wp2
          go_quiet (fail)
          have HX2 := Lib.hid (HX3.out.drewN nq)
          have c2 : (wq.drewN nq).cell? (ad.add k) = some (.int .i64 x) := d2
          clear d2 HX3
          generalize wq.drewN nq = wz at *
          go_wp2
          have HOM := Lib.hid (show ((wz.alloc (.cells #[.int .i64 x] 3)).alloc (.cells #[] 3)).ownsRow wz.heap.size 3 1 (.slice (some ⟨wz.heap.size + 1, 0, none⟩) 0 0) 0 [] from by have h := World.ownsRow_made (e := 3) (size := 1) (base := wz.heap.size) (wz.alloc (.cells #[.int .i64 x] 3)) #[] 0 ((Ext.rfl' wz).alloc _).size (by decide) rfl; rwa [World.size_alloc] at h)
          go_region_held3 (fun w' => w'.cell? (ad.add k) = some (.int .i64 x)) (first | exact hE2.cell c2 | go_keep) (first
            | (refine step_append_none (by rfl) _ _ _ (by rfl) wz.heap.size 3 i0 1 Try.underlying100 hi (.slice (some ⟨wz.heap.size, 0, none⟩) 0 0) 0 [] (by rfl) (World.ownsRow_made _ #[] 0 (Nat.le_refl _) (by decide) rfl) (by rfl) ?_)
            | (refine step_append_none (by rfl) _ _ _ (by rfl) wz.heap.size 3 i0 1 Try.underlying100 hi (.slice (some ⟨wz.heap.size, 0, none⟩) 0 0) 0 [] (by rfl) ((World.ownsRow_made _ #[] 0 (Nat.le_refl _) (by decide) rfl).alloc _) (by rfl) ?_)
            | (refine step_append_none (by rfl) _ _ _ (by rfl) wz.heap.size 3 i0 1 Try.underlying100 hi (.slice (some ⟨wz.heap.size + 1, 0, none⟩) 0 0) 0 [] (by rfl) HOM.out (by rfl) ?_)
            | (refine step_append_ext (by rfl) _ _ _ (by rfl) wz (((Ext.rfl' wz).alloc _).alloc _).drew 3 i0 (.int .i64 0) 1 8 Try.underlying100 hi hz0 hz1 hz2 rfl (by decide) (.slice (some ⟨wz.heap.size, 0, none⟩) 0 0) 0 [] (by rfl) ((World.ownsRow_made _ #[] 0 (Nat.le_refl _) (by decide) rfl).alloc _)
                ⟨wz.heap.size + 1, 0, none⟩ 1 1 [.int .i64 x] (by rfl) (by rfl) (new_at wz _ _ _) (fun x hx => by simp at hx; subst hx; rfl) (by decide) (by decide) ?_; intro v2 w2 hown2 hgrow2 hE2)
            | (refine step_append_ext (by rfl) _ _ _ (by rfl) wz (((Ext.rfl' wz).alloc _).alloc _).drew 3 i0 (.int .i64 0) 1 8 Try.underlying100 hi hz0 hz1 hz2 rfl (by decide) (.slice (some ⟨wz.heap.size + 1, 0, none⟩) 0 0) 0 [] (by rfl) HOM.out
                ⟨wz.heap.size, 0, none⟩ 1 1 [.int .i64 x] (by rfl) (by rfl) (old_at wz _ _ _) (fun x hx => by simp at hx; subst hx; rfl) (by decide) (by decide) ?_; intro v2 w2 hown2 hgrow2 hE2))
          all_goals
            have HE := Lib.hid (HX2.out.tr hE2)
            have HO3 := Lib.hid (own_base hown2 HX2.out.size)
            clear hown2 hgrow2 hE2 c2
            go_wp2_with (at_builtin; (refine wpList_append_own_none rfl _ _ tIs rfl w.heap.size 3 i0 1 Try.underlying100 hi _ _ _ rfl HO3.out rfl ?_))
            go_roundw
            case rel => exact ⟨k + 1, hlt, by go_num, by rw [HS.out, HI.out]; exact HO3.out, HE.out⟩
            case measure => simp [intOf]; omega
      · have HO := Lib.hid hown
        have HX := Lib.hid hX
        obtain ⟨wo, hwo⟩ : ∃ wo : World, wo = wr := ⟨_, rfl⟩
        subst hwo
        clear hown hX r2 r3 r4 hgb
        go_wp2
        go_loopw [5] (fun s wi => ∃ K : Nat, K ≤ out.length ∧ s = .int .i64 K ∧ (∀ j (h : j < out.length), j < K → out[j] < x) ∧ wi.ownsRow w.heap.size 3 1 (.slice (some ⟨g, 0, none⟩) out.length cap) out.length (cIs out) ∧ Ext w wi) (fun s _ => out.length - (intOf s).toNat)
        case atStart => exact ⟨0, Nat.zero_le _, rfl, fun j h hj => absurd hj (Nat.not_lt_zero _), HO.out, HX.out⟩
        case round =>
          obtain ⟨K, hK, rfl, hlow, hown, hX⟩ := hrel
          have c2 := hX.cell HC.out
          by_cases hKl : K < out.length
          · have c1 : wr.cell? ⟨g, K, none⟩ = some (.int .i64 out[K]) := by
              have := hown.cells (g := g) rfl K _ (by rw [List.getElem?_map, List.getElem?_eq_getElem hKl]; rfl)
              rwa [add0] at this
            by_cases hx : out[K] < x
            · have HL := Lib.hid (show ∀ j (h : j < out.length), j < K + 1 → out[j] < x from fun j h hj => by
                by_cases e : j = K
                · subst e; exact hx
                · exact hlow j h (by omega))
              have HO2 := Lib.hid hown
              have HX2 := Lib.hid hX
              clear hlow hown hX
              generalize out[K] = y at *
              go_wp2
              go_quiet (fail)
              go_wp2
              go_roundw
              case rel => exact ⟨K + 1, hKl, by go_num, HL.out, HO2.out, HX2.out.drewN _⟩
              case measure => simp [intOf]; omega
            · by_cases hxe : out[K] = x
              · have HI := Lib.hid (show insD x out = out by rw [insD_at x out K hK hlow (fun _ => hx), if_pos (by rw [List.getElem?_eq_getElem hKl, hxe])])
                have HO2 := Lib.hid hown
                have HX2 := Lib.hid hX
                have h1 : (out[K] == x) = true := by simpa using hxe
                clear hlow hown hX hxe
                generalize out[K] = y at *
                go_wp2
                go_quiet (fail)
                go_wp2
                go_quiet (fail)
                go_wp2
                go_roundw
                case rel => exact ⟨k + 1, hlt, by go_num, by rw [HS.out, HI.out]; exact HO2.out, HX2.out.drewN _⟩
                case measure => simp [intOf]; omega
              · have HI := Lib.hid (show insD x out = out.take K ++ x :: out.drop K by rw [insD_at x out K hK hlow (fun _ => hx), if_neg (by rw [List.getElem?_eq_getElem hKl]; simpa using hxe)])
                have h1 : (out[K] == x) = false := by simpa using hxe
                have HO2 := Lib.hid hown
                have HX2 := Lib.hid hX
                clear hlow hown hX hxe
                generalize out[K] = y at *
                go_wp2
                go_quiet (fail)
                have HX3 := Lib.hid (HX2.out.drewN nq)
                have HO3 := Lib.hid (show (wr.drewN nq).ownsRow w.heap.size 3 1 (.slice (some ⟨g, 0, none⟩) out.length cap) out.length (cIs out) from HO2.out)
                have d1 : (wr.drewN nq).cell? ⟨g, K, none⟩ = some (.int .i64 y) := c1
                have d2 : (wr.drewN nq).cell? (ad.add k) = some (.int .i64 x) := c2
                clear c1 c2 HX2 HO2
                generalize wr.drewN nq = wq at *
                go_wp2
                go_quiet (fail)
                have HX2 := Lib.hid (HX3.out.drewN nq)
                have HO2 := Lib.hid (show (wq.drewN nq).ownsRow w.heap.size 3 1 (.slice (some ⟨g, 0, none⟩) out.length cap) out.length (cIs out) from HO3.out)
                have c2 : (wq.drewN nq).cell? (ad.add k) = some (.int .i64 x) := d2
                clear d1 d2 HX3 HO3
                generalize wq.drewN nq = wz at *
                go_wp2
                have hK0 : (0 : Int) ≤ (K : Int) := by omega
                have hKc : (K : Int) ≤ (cap : Int) := by omega
                have HCE := Lib.hid (fun (j : Nat) (u : Value) (h : (cIs (out.take K))[j]? = some u) => HO2.out.cells (g := g) rfl j u (by rw [cIs, List.map_take, List.getElem?_take] at h; split at h; exact h; cases h))
                have HOM := Lib.hid (show ((wz.alloc (.cells #[.int .i64 x] 3)).alloc (.cells #[] 3)).ownsRow wz.heap.size 3 1 (.slice (some ⟨wz.heap.size + 1, 0, none⟩) 0 0) 0 [] from by have h := World.ownsRow_made (e := 3) (size := 1) (base := wz.heap.size) (wz.alloc (.cells #[.int .i64 x] 3)) #[] 0 ((Ext.rfl' wz).alloc _).size (by decide) rfl; rwa [World.size_alloc] at h)
                have htl : (out.take K).length = K := by rw [List.length_take]; omega
                go_region_held3 (fun w' => w'.cell? (ad.add k) = some (.int .i64 x)) (first | exact hE1.cell c2 | exact hE2.cell c2 | go_keep) (first
                  | (refine step_append_ext (by rfl) _ _ _ (by rfl) wz ((Ext.rfl' wz).alloc _).drew 3 i0 (.int .i64 0) 1 8 Try.underlying100 hi hz0 hz1 hz2 rfl (by decide) (.slice (some ⟨wz.heap.size, 0, none⟩) 0 0) 0 [] (by rfl)
                      (World.ownsRow_made _ #[] 0 (Nat.le_refl _) (by decide) rfl) ⟨g, 0, none⟩ K cap (cIs (out.take K)) (by rfl) (by rw [cIs, List.length_map, htl]; omega) (fun j u h => cell_later ((Ext.rfl' wz).alloc _).drew (HCE.out j u h)) (fun u hu => by obtain ⟨y, _, rfl⟩ := List.mem_map.1 hu; rfl) (by unfold maxLen; omega) (by omega) ?_; intro v1 w1 hown1 hgrow1 hE1; simp only [Nat.zero_add, List.nil_append] at hown1)
                  | (refine step_append_ext (by rfl) _ _ _ (by rfl) wz (((Ext.rfl' wz).alloc _).alloc _).drew 3 i0 (.int .i64 0) 1 8 Try.underlying100 hi hz0 hz1 hz2 rfl (by decide) (.slice (some ⟨wz.heap.size, 0, none⟩) 0 0) 0 [] (by rfl)
                      ((World.ownsRow_made _ #[] 0 (Nat.le_refl _) (by decide) rfl).alloc _) ⟨g, 0, none⟩ K cap (cIs (out.take K)) (by rfl) (by rw [cIs, List.length_map, htl]; omega) (fun j u h => cell_later (((Ext.rfl' wz).alloc _).alloc _).drew (HCE.out j u h)) (fun u hu => by obtain ⟨y, _, rfl⟩ := List.mem_map.1 hu; rfl) (by unfold maxLen; omega) (by omega) ?_; intro v1 w1 hown1 hgrow1 hE1; simp only [Nat.zero_add, List.nil_append] at hown1)
                  | (refine step_append_ext (by rfl) _ _ _ (by rfl) wz (((Ext.rfl' wz).alloc _).alloc _).drew 3 i0 (.int .i64 0) 1 8 Try.underlying100 hi hz0 hz1 hz2 rfl (by decide) (.slice (some ⟨wz.heap.size + 1, 0, none⟩) 0 0) 0 [] (by rfl)
                      HOM.out ⟨g, 0, none⟩ K cap (cIs (out.take K)) (by rfl) (by rw [cIs, List.length_map, htl]; omega) (fun j u h => cell_later (((Ext.rfl' wz).alloc _).alloc _).drew (HCE.out j u h)) (fun u hu => by obtain ⟨y, _, rfl⟩ := List.mem_map.1 hu; rfl) (by unfold maxLen; omega) (by omega) ?_; intro v1 w1 hown1 hgrow1 hE1; simp only [Nat.zero_add, List.nil_append] at hown1)
                  | (refine step_append_ext (by rfl) _ _ _ (by rfl) wz (hE1.alloc _) 3 i0 (.int .i64 0) 1 8 Try.underlying100 hi hz0 hz1 hz2 rfl (by decide) _ K (cIs (out.take K)) (by rfl) (hown1.alloc _)
                      ⟨w1.heap.size, 0, none⟩ 1 1 [.int .i64 x] (by rfl) (by rfl) (cell_one_new w1 _ _) (fun x hx => by simp at hx; subst hx; rfl) (by unfold maxLen; omega) (by omega) ?_; intro v2 w2 hown2 hgrow2 hE2)
                  | (refine step_append_ext (by rfl) _ _ _ (by rfl) wz hE1 3 i0 (.int .i64 0) 1 8 Try.underlying100 hi hz0 hz1 hz2 rfl (by decide) _ K (cIs (out.take K)) (by rfl) hown1
                      ⟨_, 0, none⟩ 1 1 [.int .i64 x] (by rfl) (by rfl) (fun j u h => by first | exact hgrow1.cell (new_at wz _ _ _ j u h) (by rw [add_block]; simp [Value.ownBlock]) | exact hgrow1.cell (old_at wz _ _ _ j u h) (by rw [add_block]; simp [Value.ownBlock])) (fun x hx => by simp at hx; subst hx; rfl) (by unfold maxLen; omega) (by omega) ?_; intro v2 w2 hown2 hgrow2 hE2))
                all_goals
                  have HE := Lib.hid (HX2.out.tr hE2)
                  have HO3 := Lib.hid (own_base hown2 HX2.out.size)
                  have HO4 := Lib.hid (own_ext HO2.out hE2)
                  have hKcap : (K : Int) < (cap : Int) := by omega
                  have hKn : (K : Int) ≤ (out.length : Int) := by omega
                  clear hown1 hgrow1 hE1 hown2 hgrow2 hE2 c2
                  have HCD := Lib.hid (fun (j : Nat) (u : Value) (h : (cIs (out.drop K))[j]? = some u) => show w2.cell? ((⟨g, K, none⟩ : Addr).add j) = some u by
                    have h2 := HO4.out.cells (g := g) rfl (K + j) u (by rw [cIs, List.map_drop, List.getElem?_drop] at h; exact h)
                    rw [add0] at h2
                    rw [addK]
                    exact h2)
                  go_wp2_with (at_builtin; (refine wpList_append_own _ rfl _ _ tIs rfl w.heap.size 3 i0 (.int .i64 0) 1 8 Try.underlying100 hi hz0 hz1 hz2 rfl (by decide) _ _ _ rfl HO3.out ⟨g, K, none⟩ (out.length - K) (cap - K) (cIs (out.drop K)) rfl (by simp [cIs]) HCD.out (fun u hu => by obtain ⟨y, _, rfl⟩ := List.mem_map.1 hu; rfl) (by unfold maxLen; omega) (by omega) HE.out.size ?_); intro v3 w3 hown3 hgrow3 _)
                  have HE3 := Lib.hid (show Ext w w3 from HE.out.grown hgrow3 HE.out.size (fun q hq => (HO3.out.lt q hq).1))
                  have HO5 := Lib.hid hown3
                  clear hown3 hgrow3 HO4 HO3
                  go_wp2
                  go_roundw
                  case rel =>
                    refine ⟨k + 1, hlt, by go_num, ?_, HE3.out⟩
                    rw [HS.out, HI.out]
                    have h5 := HO5.out
                    have e1 : K + 1 + (out.length - K) = (out.take K ++ x :: out.drop K).length := by simp; omega
                    rw [e1] at h5
                    simpa [cIs] using h5
                  case measure => simp [intOf]; omega
          · obtain rfl : K = out.length := by omega
            have HI := Lib.hid (show insD x out = out.take out.length ++ x :: out.drop out.length by rw [insD_at x out out.length hK hlow (fun h => absurd h (Nat.lt_irrefl _)), if_neg (by rw [List.getElem?_eq_none (Nat.le_refl _)]; simp)])
            have HO2 := Lib.hid hown
            have HX2 := Lib.hid hX
            clear hlow hown hX
            go_wp2
            go_quiet (fail)
            have HX3 := Lib.hid (HX2.out.drewN nq)
            have HO3 := Lib.hid (show (wr.drewN nq).ownsRow w.heap.size 3 1 (.slice (some ⟨g, 0, none⟩) out.length cap) out.length (cIs out) from HO2.out)
            have d2 : (wr.drewN nq).cell? (ad.add k) = some (.int .i64 x) := c2
            clear c2 HX2 HO2
            generalize wr.drewN nq = wq at *
            go_wp2
            go_quiet (fail)
            have HX2 := Lib.hid (HX3.out.drewN nq)
            have HO2 := Lib.hid (show (wq.drewN nq).ownsRow w.heap.size 3 1 (.slice (some ⟨g, 0, none⟩) out.length cap) out.length (cIs out) from HO3.out)
            have c2 : (wq.drewN nq).cell? (ad.add k) = some (.int .i64 x) := d2
            clear d2 HX3 HO3
            generalize wq.drewN nq = wz at *
            go_wp2
            have hK0 : (0 : Int) ≤ (out.length : Int) := by omega
            have hKc : (out.length : Int) ≤ (cap : Int) := by omega
            have HCE := Lib.hid (fun (j : Nat) (u : Value) (h : (cIs (out.take out.length))[j]? = some u) => HO2.out.cells (g := g) rfl j u (by rw [cIs, List.map_take, List.getElem?_take] at h; split at h; exact h; cases h))
            have HOM := Lib.hid (show ((wz.alloc (.cells #[.int .i64 x] 3)).alloc (.cells #[] 3)).ownsRow wz.heap.size 3 1 (.slice (some ⟨wz.heap.size + 1, 0, none⟩) 0 0) 0 [] from by have h := World.ownsRow_made (e := 3) (size := 1) (base := wz.heap.size) (wz.alloc (.cells #[.int .i64 x] 3)) #[] 0 ((Ext.rfl' wz).alloc _).size (by decide) rfl; rwa [World.size_alloc] at h)
            have htl : (out.take out.length).length = out.length := by rw [List.length_take]; omega
            go_region_held3 (fun w' => w'.cell? (ad.add k) = some (.int .i64 x)) (first | exact hE1.cell c2 | exact hE2.cell c2 | go_keep) (first
              | (refine step_append_ext (by rfl) _ _ _ (by rfl) wz ((Ext.rfl' wz).alloc _).drew 3 i0 (.int .i64 0) 1 8 Try.underlying100 hi hz0 hz1 hz2 rfl (by decide) (.slice (some ⟨wz.heap.size, 0, none⟩) 0 0) 0 [] (by rfl)
                  (World.ownsRow_made _ #[] 0 (Nat.le_refl _) (by decide) rfl) ⟨g, 0, none⟩ out.length cap (cIs (out.take out.length)) (by rfl) (by rw [cIs, List.length_map, htl]; omega) (fun j u h => cell_later ((Ext.rfl' wz).alloc _).drew (HCE.out j u h)) (fun u hu => by obtain ⟨y, _, rfl⟩ := List.mem_map.1 hu; rfl) (by unfold maxLen; omega) (by omega) ?_; intro v1 w1 hown1 hgrow1 hE1; simp only [Nat.zero_add, List.nil_append] at hown1)
              | (refine step_append_ext (by rfl) _ _ _ (by rfl) wz (((Ext.rfl' wz).alloc _).alloc _).drew 3 i0 (.int .i64 0) 1 8 Try.underlying100 hi hz0 hz1 hz2 rfl (by decide) (.slice (some ⟨wz.heap.size, 0, none⟩) 0 0) 0 [] (by rfl)
                  ((World.ownsRow_made _ #[] 0 (Nat.le_refl _) (by decide) rfl).alloc _) ⟨g, 0, none⟩ out.length cap (cIs (out.take out.length)) (by rfl) (by rw [cIs, List.length_map, htl]; omega) (fun j u h => cell_later (((Ext.rfl' wz).alloc _).alloc _).drew (HCE.out j u h)) (fun u hu => by obtain ⟨y, _, rfl⟩ := List.mem_map.1 hu; rfl) (by unfold maxLen; omega) (by omega) ?_; intro v1 w1 hown1 hgrow1 hE1; simp only [Nat.zero_add, List.nil_append] at hown1)
              | (refine step_append_ext (by rfl) _ _ _ (by rfl) wz (((Ext.rfl' wz).alloc _).alloc _).drew 3 i0 (.int .i64 0) 1 8 Try.underlying100 hi hz0 hz1 hz2 rfl (by decide) (.slice (some ⟨wz.heap.size + 1, 0, none⟩) 0 0) 0 [] (by rfl)
                  HOM.out ⟨g, 0, none⟩ out.length cap (cIs (out.take out.length)) (by rfl) (by rw [cIs, List.length_map, htl]; omega) (fun j u h => cell_later (((Ext.rfl' wz).alloc _).alloc _).drew (HCE.out j u h)) (fun u hu => by obtain ⟨y, _, rfl⟩ := List.mem_map.1 hu; rfl) (by unfold maxLen; omega) (by omega) ?_; intro v1 w1 hown1 hgrow1 hE1; simp only [Nat.zero_add, List.nil_append] at hown1)
              | (refine step_append_ext (by rfl) _ _ _ (by rfl) wz (hE1.alloc _) 3 i0 (.int .i64 0) 1 8 Try.underlying100 hi hz0 hz1 hz2 rfl (by decide) _ out.length (cIs (out.take out.length)) (by rfl) (hown1.alloc _)
                  ⟨w1.heap.size, 0, none⟩ 1 1 [.int .i64 x] (by rfl) (by rfl) (cell_one_new w1 _ _) (fun x hx => by simp at hx; subst hx; rfl) (by unfold maxLen; omega) (by omega) ?_; intro v2 w2 hown2 hgrow2 hE2)
              | (refine step_append_ext (by rfl) _ _ _ (by rfl) wz hE1 3 i0 (.int .i64 0) 1 8 Try.underlying100 hi hz0 hz1 hz2 rfl (by decide) _ out.length (cIs (out.take out.length)) (by rfl) hown1
                  ⟨_, 0, none⟩ 1 1 [.int .i64 x] (by rfl) (by rfl) (fun j u h => by first | exact hgrow1.cell (new_at wz _ _ _ j u h) (by rw [add_block]; simp [Value.ownBlock]) | exact hgrow1.cell (old_at wz _ _ _ j u h) (by rw [add_block]; simp [Value.ownBlock])) (fun x hx => by simp at hx; subst hx; rfl) (by unfold maxLen; omega) (by omega) ?_; intro v2 w2 hown2 hgrow2 hE2))
            all_goals
              have HE := Lib.hid (HX2.out.tr hE2)
              have HO3 := Lib.hid (own_base hown2 HX2.out.size)
              have HO4 := Lib.hid (own_ext HO2.out hE2)
              rcases Nat.lt_or_ge out.length cap with hcp | hcp
              · have hKcap : (out.length : Int) < (cap : Int) := by omega
                have hKn : (out.length : Int) ≤ (out.length : Int) := by omega
                clear hown1 hgrow1 hE1 hown2 hgrow2 hE2 c2
                go_wp2_with (at_builtin; (refine wpList_append_own _ rfl _ _ tIs rfl w.heap.size 3 i0 (.int .i64 0) 1 8 Try.underlying100 hi hz0 hz1 hz2 rfl (by decide) _ _ _ rfl HO3.out ⟨g, out.length, none⟩ 0 (cap - out.length) [] rfl rfl (fun j u h => by cases h) (fun u hu => by cases hu) (by unfold maxLen; omega) (by omega) HE.out.size ?_); intro v3 w3 hown3 hgrow3 _)
                have HE3 := Lib.hid (show Ext w w3 from HE.out.grown hgrow3 HE.out.size (fun q hq => (HO3.out.lt q hq).1))
                have HO5 := Lib.hid hown3
                clear hown3 hgrow3 HO4 HO3
                go_wp2
                go_roundw
                case rel =>
                  refine ⟨k + 1, hlt, by go_num, ?_, HE3.out⟩
                  rw [HS.out, HI.out]
                  have h5 := HO5.out
                  have e1 : out.length + 1 + 0 = (out.take out.length ++ x :: out.drop out.length).length := by simp
                  rw [e1] at h5
                  simpa [cIs] using h5
                case measure => simp [intOf]; omega
              · obtain rfl : cap = out.length := by omega
                have hKn : (out.length : Int) ≤ (out.length : Int) := by omega
                clear hown1 hgrow1 hE1 hown2 hgrow2 hE2 c2
                go_wp2_with (at_builtin; (refine wpList_append_own _ rfl _ _ tIs rfl w.heap.size 3 i0 (.int .i64 0) 1 8 Try.underlying100 hi hz0 hz1 hz2 rfl (by decide) _ _ _ rfl HO3.out ⟨g, 0, none⟩ 0 0 [] rfl rfl (fun j u h => by cases h) (fun u hu => by cases hu) (by unfold maxLen; omega) (by omega) HE.out.size ?_); intro v3 w3 hown3 hgrow3 _)
                have HE3 := Lib.hid (show Ext w w3 from HE.out.grown hgrow3 HE.out.size (fun q hq => (HO3.out.lt q hq).1))
                have HO5 := Lib.hid hown3
                clear hown3 hgrow3 HO4 HO3
                go_wp2
                go_roundw
                case rel =>
                  refine ⟨k + 1, hlt, by go_num, ?_, HE3.out⟩
                  rw [HS.out, HI.out]
                  have h5 := HO5.out
                  have e1 : out.length + 1 + 0 = (out.take out.length ++ x :: out.drop out.length).length := by simp
                  rw [e1] at h5
                  simpa [cIs] using h5
                case measure => simp [intOf]; omega
    · obtain rfl : k = ls.length := by omega
      rw [List.take_length] at hown
      have HO := Lib.hid hown
      have HX := Lib.hid hX
      clear hown hX
      go_wp2
      go_ret
      exact ⟨⟨_, rfl, HO.out⟩, HX.out⟩
end Go.Proofs.Ytifanmggfoicfaa
