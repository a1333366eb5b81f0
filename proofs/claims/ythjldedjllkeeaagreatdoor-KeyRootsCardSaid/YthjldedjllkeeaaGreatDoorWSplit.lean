/- The walk of field.Split. -/
import Derived.Test.YthjldedjllkeeaaGreatDoorWRJoin
import Derived.Test.YthjldedjllkeeaaGreatDoorSpecS
namespace Go.Proofs.YthjldedjllkeeaaGreatDoor
open Go.RowKit
theorem bStr : (Tryz.prog.info? 9).map (fun i => (i.zero, i.size, i.bytes)) = some (some (.string ⟨#[]⟩), 1, 16) := by kernel_rfl
abbrev cFs (l : List (List UInt8)) : List Value := l.map fun s => Value.string (strOf s)
def SplitEnd (r : Except Nat (List (List UInt8))) (e : Ending) (w : World) : Prop :=
  match r with
  | .ok l => ∃ A c, e = .returned (.tuple #[.slice A l.length c, .int .i64 0]) ∧ Rd w A (cFs l)
  | .error n => e = .returned (.tuple #[.slice none 0 0, .int .i64 (n : Int)])
/-- Rows of unlike types that a call owns lie apart. -/
theorem own_apart {w w' : World} {B B2 : Nat} {e e2 : TypeId} {v v2 : Value} {n m : Nat} {xs ys : List Value} (h : w.ownsRow B e 1 v n xs) (h2 : w.ownsRow B2 e2 1 v2 m ys) (he : e ≠ e2) (hg : w.grownBy w' v2.ownBlock) : w'.ownsRow B e 1 v n xs := by
  refine h.kept hg ?_
  rcases h.2 with ⟨hv, _⟩ | ⟨g, cap, cur, hv, _, hgb, _⟩
  · exact .inl (by rw [hv]; rfl)
  · right
    rw [hv]
    show some g ≠ v2.ownBlock
    exact fun e3 => Lib.ownBlock_ne h2 hgb he e3.symm
theorem bs_tail (s : ByteArray) : bs (s.extract 1 s.size) = (bs s).drop 1 := by
  simp [bs, ByteArray.data_extract]
  exact List.take_of_length_le (by simp)
theorem kinds (c : UInt8) : (((c.toNat : Int) == 124) = true ∧ c = 124) ∨ (((c.toNat : Int) == 124) = false ∧ ((c.toNat : Int) == 92) = true ∧ c = 92) ∨ (((c.toNat : Int) == 124) = false ∧ ((c.toNat : Int) == 92) = false ∧ J.special c = false ∧ (c == 124) = false ∧ (c == 92) = false) := by
  by_cases h1 : c = 124
  · subst h1; exact .inl ⟨rfl, rfl⟩
  · by_cases h2 : c = 92
    · subst h2; exact .inr (.inl ⟨rfl, rfl, rfl⟩)
    · have e1 : (c == 124) = false := by simpa using h1
      have e2 : (c == 92) = false := by simpa using h2
      have n1 : ¬ (c.toNat : Int) = 124 := fun e => h1 (UInt8.toNat_inj.1 (by have : c.toNat = 124 := by omega
                                                                              exact this))
      have n2 : ¬ (c.toNat : Int) = 92 := fun e => h2 (UInt8.toNat_inj.1 (by have : c.toNat = 92 := by omega
                                                                             exact this))
      exact .inr (.inr ⟨by simpa using n1, by simpa using n2, by rw [J.special, e1, e2]; rfl, e1, e2⟩)
theorem step_sp {o f c} (h : J.special c = true) : J.step (o, f, true) c = some (o, f ++ [c], false) := by simp [J.step, h]
theorem step_no {o f c} (h : J.special c = false) : J.step (o, f, true) c = none := by simp [J.step, h]
theorem step_other {o f c} (h1 : (c == 124) = false) (h2 : (c == 92) = false) : J.step (o, f, false) c = some (o, f ++ [c], false) := by simp [J.step, h1, h2]
theorem bne_t {x y : Int} (h : (x == y) = true) : (x != y) = false := by rw [bne, h]; rfl
theorem bne_f {x y : Int} (h : (x == y) = false) : (x != y) = true := by rw [bne, h]; rfl
/-- What comes of a state at the text's end. -/
def fin (r : Option J.St) : Except Nat (List (List UInt8)) := match r with
  | some (out, f, false) => J.most (out ++ [f])
  | _ => .error 2
set_option maxHeartbeats 4000000 in
set_option maxRecDepth 100000 in
theorem split_calls (s : ByteArray) (hs : s.size ≤ 1099511627776) (w : World) :
    Calls Tryz.prog 62 #[.string s] w fun e w' => SplitEnd (J.split (bs s)) e w' ∧ Ext w w' := by
  obtain ⟨i0, hi, hz0, hz1, hz2⟩ := info_parts bByte
  obtain ⟨j0, hj, hy0, hy1, hy2⟩ := info_parts bStr
  by_cases he : s = ⟨#[]⟩
  · subst he
    go_enter Tryz.func62, Tryz.ntmps62
    go_wp2
    go_ret2
    exact ⟨⟨none, 0, rfl, .inl rfl⟩, Ext.rfl' _⟩
  · have hsz : 0 < s.size := by
      rcases Nat.eq_zero_or_pos s.size with h | h
      · exact absurd (by cases s with | mk d => cases d with | mk l => cases l with | nil => rfl | cons a l => cases h) he
      · exact h
    have hbe : s.toList.isEmpty = false := by
      rw [Lib.toList_data]
      have h : 0 < s.data.toList.length := hsz
      cases hh : s.data.toList with
      | nil => rw [hh] at h; cases h
      | cons _ _ => rfl
    have hix : ∀ w, (Instr.index 9 (.string s) (.int .i64 0)).run Tryz.prog w = .ok (cU8 s[0]) w := by
      intro w
      simp [go_sem, hsz]
    have hcons : bs s = s[0] :: bs (s.extract 1 s.size) := by
      rw [bs_tail]
      have h : 0 < (bs s).length := hsz
      have := List.drop_eq_getElem_cons h
      rw [List.drop_zero] at this
      exact this
    by_cases h0 : s[0] = 124
    · have hspl : J.split (bs s) = fin (J.run (bs (s.extract 1 s.size)) ([], [], false)) := by
        rw [hcons, h0]
        show (match J.run _ _ with
          | some (out, f, false) => J.most (out ++ [f])
          | _ => Except.error 2) = _
        rfl
      rw [h0] at hix
      obtain ⟨w1, c1, hcv, hx, hsz1, hr⟩ := run_bytes_at w (s.extract 1 s.size)
      have hlt : (bs (s.extract 1 s.size)).length < s.size := by rw [bs_tail, List.length_drop]; show s.size - 1 < _; omega
      have htl : (bs (s.extract 1 s.size)).length = s.size - 1 := by rw [bs_tail, List.length_drop]; rfl
      have htl2 : (s.extract 1 s.size).size = s.size - 1 := htl
      rw [hspl]
      generalize hR : J.run (bs (s.extract 1 s.size)) ([], [], false) = R
      have HX := Lib.hid hx
      have HR := Lib.hid hr
      have HRR := Lib.hid hR
      clear hx hr hspl hcons hR
      go_enter Tryz.func62, Tryz.ntmps62
      go_wp2
      generalize s.extract 1 s.size = t at *
      go_loopw [4, 5, 6, 18] (fun vo vf vb i wr => ∃ k : Nat, k ≤ (bs t).length ∧ i = .int .i64 k ∧ ∃ out f b, J.run ((bs t).drop k) (out, f, b) = R ∧ out.length ≤ k ∧ f.length ≤ k ∧ wr.ownsRow w1.heap.size 9 1 vo out.length (cFs out) ∧ wr.ownsRow w1.heap.size tU8 1 vf f.length (bC f) ∧ vb = .bool b ∧ Below w1.heap.size w1 wr) (fun _ _ _ i _ => (bs t).length - (intOf i).toNat)
      case atStart => exact ⟨0, by omega, rfl, [], [], false, HRR.out, Nat.le_refl _, Nat.le_refl _, World.ownsRow_nil _ _ _ _, World.ownsRow_nil _ _ _ _, rfl, Below.refl _ _⟩
      case round =>
        obtain ⟨k, hk, rfl, out, f, b, hrun, hol, hfl, hoo, hof, rfl, hB⟩ := hrel
        by_cases hkt : k < (bs t).length
        · obtain ⟨ad2, e2, _, hcj⟩ := (HR.out.below (Nat.le_refl _) hB).at_ (j := k) (u := cU8 (bs t)[k]) (by rw [List.getElem?_map, List.getElem?_eq_getElem hkt]; rfl)
          injection e2 with e2
          subst e2
          rw [show (⟨w.heap.size, 0, none⟩ : Addr).add k = ⟨w.heap.size, k, none⟩ from by unfold Addr.add; split <;> simp [*]] at hcj
          rw [List.drop_eq_getElem_cons hkt] at hrun
          generalize hcc : (bs t)[k] = c8 at *
          change (J.step (out, f, b) c8).bind (J.run ((bs t).drop (k + 1))) = R at hrun
          have hszr := hB.size
          cases b with
          | true =>
            rcases kinds c8 with ⟨h1, he⟩ | ⟨h1, h2, he⟩ | ⟨h1, h2, he, e1, e2⟩
            · rw [step_sp (by rw [he]; rfl), Option.bind_some] at hrun
              have hn1 := bne_t h1
              clear he
              have hoo1 := hoo.alloc (.cells #[cU8 c8] tU8)
              have hof1 := hof.alloc (.cells #[cU8 c8] tU8)
              go_wp2_with (at_builtin; (refine wpList_append_own _ rfl _ _ 82 rfl w1.heap.size tU8 i0 (.int .u8 0) 1 1 Tryz.underlying82 hi hz0 hz1 hz2 rfl (by decide) _ _ _ rfl hof1 ⟨wr.heap.size, 0, none⟩ 1 1 [cU8 c8] rfl rfl (cell_one_new _ _ _) (fun x hx => by simp at hx; subst hx; rfl) (by unfold maxLen; omega) (by omega) (by simp; omega) ?_); intro v' w2 hown' hgrow _)
              have hB2 : Below w1.heap.size w1 w2 := (hB.alloc hszr _).grown hgrow (by simp; omega) (fun q hq => (hof.lt q hq).1)
              have hoo2 := own_apart hoo1 hof1 (by decide) hgrow
              have hof2 : w2.ownsRow w1.heap.size tU8 1 v' (f ++ [c8]).length (bC (f ++ [c8])) := by simpa [bC, Lib.byteCells] using hown'
              have HO2 := Lib.hid hoo2
              have HF2 := Lib.hid hof2
              have HB2 := Lib.hid hB2
              clear hoo1 hof1 hown' hgrow hoo hof hB hB2 hoo2 hof2
              go_wp2
              go_roundw
              case rel => exact ⟨k + 1, hkt, by go_num, out, f ++ [c8], false, hrun, by omega, by rw [List.length_append]; exact Nat.succ_le_succ hfl, HO2.out, HF2.out, rfl, HB2.out⟩
              case measure => simp [intOf]; omega
            · rw [step_sp (by rw [he]; rfl), Option.bind_some] at hrun
              have hn1 := bne_f h1
              have hn2 := bne_t h2
              clear he
              have hoo1 := hoo.alloc (.cells #[cU8 c8] tU8)
              have hof1 := hof.alloc (.cells #[cU8 c8] tU8)
              go_wp2_with (at_builtin; (refine wpList_append_own _ rfl _ _ 82 rfl w1.heap.size tU8 i0 (.int .u8 0) 1 1 Tryz.underlying82 hi hz0 hz1 hz2 rfl (by decide) _ _ _ rfl hof1 ⟨wr.heap.size, 0, none⟩ 1 1 [cU8 c8] rfl rfl (cell_one_new _ _ _) (fun x hx => by simp at hx; subst hx; rfl) (by unfold maxLen; omega) (by omega) (by simp; omega) ?_); intro v' w2 hown' hgrow _)
              have hB2 : Below w1.heap.size w1 w2 := (hB.alloc hszr _).grown hgrow (by simp; omega) (fun q hq => (hof.lt q hq).1)
              have hoo2 := own_apart hoo1 hof1 (by decide) hgrow
              have hof2 : w2.ownsRow w1.heap.size tU8 1 v' (f ++ [c8]).length (bC (f ++ [c8])) := by simpa [bC, Lib.byteCells] using hown'
              have HO2 := Lib.hid hoo2
              have HF2 := Lib.hid hof2
              have HB2 := Lib.hid hB2
              clear hoo1 hof1 hown' hgrow hoo hof hB hB2 hoo2 hof2
              go_wp2
              go_roundw
              case rel => exact ⟨k + 1, hkt, by go_num, out, f ++ [c8], false, hrun, by omega, by rw [List.length_append]; exact Nat.succ_le_succ hfl, HO2.out, HF2.out, rfl, HB2.out⟩
              case measure => simp [intOf]; omega
            · rw [step_no he, Option.bind_none] at hrun
              have hn1 := bne_f h1
              have hn2 := bne_f h2
              obtain rfl : none = R := hrun
              have HB2 := Lib.hid hB
              clear hoo hof hB
              go_wp2
              go_ret2
              exact ⟨rfl, HX.out.tr HB2.out⟩
          | false =>
            rcases kinds c8 with ⟨h1, he⟩ | ⟨h1, h2, he⟩ | ⟨h1, h2, he, e1, e2⟩
            · rw [show J.step (out, f, false) c8 = some (out ++ [f], [], false) from by rw [he]; rfl, Option.bind_some] at hrun
              clear he
              have h2 : ((c8.toNat : Int) == 92) = false := by have := eq_of_beq h1; rw [this]; rfl
              obtain ⟨A2, c2, rfl, hr2⟩ := rd_of_own hof
              have hstr := run_str (P := Tryz.prog) wr A2 _ c2 82 tU8 9 Tryz.underlying82 Tryz.underlying5 Tryz.underlying9 hr2
              have hoo1 := hoo.alloc (.cells #[.string (strOf f)] 9)
              go_wp2_with (at_builtin; (refine wpList_append_own _ rfl _ _ 121 rfl w1.heap.size 9 j0 (.string ⟨#[]⟩) 1 16 Tryz.underlying121 hj hy0 hy1 hy2 rfl (by decide) _ _ _ rfl hoo1 ⟨wr.heap.size, 0, none⟩ 1 1 [.string (strOf f)] rfl rfl (cell_one_new _ _ _) (fun x hx => by simp at hx; subst hx; rfl) (by unfold maxLen; omega) (by omega) (by simp; omega) ?_); intro v' w2 hown' hgrow _)
              have hB2 : Below w1.heap.size w1 w2 := (hB.alloc hszr _).grown hgrow (by simp; omega) (fun q hq => (hoo.lt q hq).1)
              have hoo2 : w2.ownsRow w1.heap.size 9 1 v' (out ++ [f]).length (cFs (out ++ [f])) := by simpa [cFs] using hown'
              have HO2 := Lib.hid hoo2
              have HB2 := Lib.hid hB2
              clear hoo1 hown' hgrow hoo hof hB hB2 hoo2 hr2
              go_wp2
              go_roundw
              case rel => exact ⟨k + 1, hkt, by go_num, out ++ [f], [], false, hrun, by rw [List.length_append]; exact Nat.succ_le_succ hol, Nat.zero_le _, HO2.out, World.ownsRow_nil _ _ _ _, rfl, HB2.out⟩
              case measure => simp [intOf]; omega
            · rw [show J.step (out, f, false) c8 = some (out, f, true) from by rw [he]; rfl, Option.bind_some] at hrun
              clear he
              have HO2 := Lib.hid hoo
              have HF2 := Lib.hid hof
              have HB2 := Lib.hid hB
              clear hoo hof hB
              go_wp2
              go_roundw
              case rel => exact ⟨k + 1, hkt, by go_num, out, f, true, hrun, by omega, by omega, HO2.out, HF2.out, rfl, HB2.out⟩
              case measure => simp [intOf]; omega
            · rw [step_other e1 e2, Option.bind_some] at hrun
              clear he e1 e2
              have hoo1 := hoo.alloc (.cells #[cU8 c8] tU8)
              have hof1 := hof.alloc (.cells #[cU8 c8] tU8)
              go_wp2_with (at_builtin; (refine wpList_append_own _ rfl _ _ 82 rfl w1.heap.size tU8 i0 (.int .u8 0) 1 1 Tryz.underlying82 hi hz0 hz1 hz2 rfl (by decide) _ _ _ rfl hof1 ⟨wr.heap.size, 0, none⟩ 1 1 [cU8 c8] rfl rfl (cell_one_new _ _ _) (fun x hx => by simp at hx; subst hx; rfl) (by unfold maxLen; omega) (by omega) (by simp; omega) ?_); intro v' w2 hown' hgrow _)
              have hB2 : Below w1.heap.size w1 w2 := (hB.alloc hszr _).grown hgrow (by simp; omega) (fun q hq => (hof.lt q hq).1)
              have hoo2 := own_apart hoo1 hof1 (by decide) hgrow
              have hof2 : w2.ownsRow w1.heap.size tU8 1 v' (f ++ [c8]).length (bC (f ++ [c8])) := by simpa [bC, Lib.byteCells] using hown'
              have HO2 := Lib.hid hoo2
              have HF2 := Lib.hid hof2
              have HB2 := Lib.hid hB2
              clear hoo1 hof1 hown' hgrow hoo hof hB hB2 hoo2 hof2
              go_wp2
              go_roundw
              case rel => exact ⟨k + 1, hkt, by go_num, out, f ++ [c8], false, hrun, by omega, by rw [List.length_append]; exact Nat.succ_le_succ hfl, HO2.out, HF2.out, rfl, HB2.out⟩
              case measure => simp [intOf]; omega
        · obtain rfl : k = (bs t).length := by omega
          rw [List.drop_length] at hrun
          obtain rfl : some (out, f, b) = R := hrun
          have hszr := hB.size
          cases b with
          | true =>
            have HB2 := Lib.hid hB
            clear hoo hof hB
            go_wp2
            go_ret2
            exact ⟨rfl, HX.out.tr HB2.out⟩
          | false =>
            obtain ⟨A2, c2, rfl, hr2⟩ := rd_of_own hof
            have hlen : (out ++ [f]).length = out.length + 1 := by simp
            by_cases hbig : 4096 < out.length + 1
            · have hmm : J.most (out ++ [f]) = .error 4 := by rw [J.most, if_pos (by omega)]
              have hstr := run_str (P := Tryz.prog) wr A2 _ c2 82 tU8 9 Tryz.underlying82 Tryz.underlying5 Tryz.underlying9 hr2
              have hoo1 := hoo.alloc (.cells #[.string (strOf f)] 9)
              go_wp2_with (at_builtin; (refine wpList_append_own _ rfl _ _ 121 rfl w1.heap.size 9 j0 (.string ⟨#[]⟩) 1 16 Tryz.underlying121 hj hy0 hy1 hy2 rfl (by decide) _ _ _ rfl hoo1 ⟨wr.heap.size, 0, none⟩ 1 1 [.string (strOf f)] rfl rfl (cell_one_new _ _ _) (fun x hx => by simp at hx; subst hx; rfl) (by unfold maxLen; omega) (by omega) (by simp; omega) ?_); intro v' w2 hown' hgrow _; obtain ⟨A3, c3, rfl, hr3⟩ := rd_of_own hown')
              have hB2 : Below w1.heap.size w1 w2 := (hB.alloc hszr _).grown hgrow (by simp; omega) (fun q hq => (hoo.lt q hq).1)
              have hoo2 : w2.ownsRow w1.heap.size 9 1 (.slice A3 (out.length + 1) c3) (out ++ [f]).length (cFs (out ++ [f])) := by simpa [cFs] using hown'
              have HO2 := Lib.hid hoo2
              have HB2 := Lib.hid hB2
              clear hoo1 hown' hgrow hoo hof hB hB2 hoo2 hr2
              have HR3 := Lib.hid hr3
              clear hr3
              go_wp2
              go_ret2
              exact ⟨by show SplitEnd (J.most (out ++ [f])) _ _; rw [hmm]; exact rfl, HX.out.tr HB2.out⟩
            · have hmm : J.most (out ++ [f]) = .ok (out ++ [f]) := by rw [J.most, if_neg (by omega)]
              have hstr := run_str (P := Tryz.prog) wr A2 _ c2 82 tU8 9 Tryz.underlying82 Tryz.underlying5 Tryz.underlying9 hr2
              have hoo1 := hoo.alloc (.cells #[.string (strOf f)] 9)
              go_wp2_with (at_builtin; (refine wpList_append_own _ rfl _ _ 121 rfl w1.heap.size 9 j0 (.string ⟨#[]⟩) 1 16 Tryz.underlying121 hj hy0 hy1 hy2 rfl (by decide) _ _ _ rfl hoo1 ⟨wr.heap.size, 0, none⟩ 1 1 [.string (strOf f)] rfl rfl (cell_one_new _ _ _) (fun x hx => by simp at hx; subst hx; rfl) (by unfold maxLen; omega) (by omega) (by simp; omega) ?_); intro v' w2 hown' hgrow _; obtain ⟨A3, c3, rfl, hr3⟩ := rd_of_own hown')
              have hB2 : Below w1.heap.size w1 w2 := (hB.alloc hszr _).grown hgrow (by simp; omega) (fun q hq => (hoo.lt q hq).1)
              have hoo2 : w2.ownsRow w1.heap.size 9 1 (.slice A3 (out.length + 1) c3) (out ++ [f]).length (cFs (out ++ [f])) := by simpa [cFs] using hown'
              have HO2 := Lib.hid hoo2
              have HB2 := Lib.hid hB2
              clear hoo1 hown' hgrow hoo hof hB hB2 hoo2 hr2
              have HR3 := Lib.hid hr3
              clear hr3
              go_wp2
              go_ret2
              exact ⟨by show SplitEnd (J.most (out ++ [f])) _ _; rw [hmm]; exact ⟨A3, c3, by rw [hlen]; rfl, by simpa [cFs] using HR3.out⟩, HX.out.tr HB2.out⟩
    · have hb0 : ((s[0].toNat : Int) == 124) = false := by
        rcases kinds s[0] with ⟨h1, he⟩ | ⟨h1, h2, he⟩ | ⟨h1, h2, he, e1, e2⟩
        · exact absurd he h0
        · exact h1
        · exact h1
      have hspl : J.split (bs s) = .error 2 := by
        rw [hcons]
        show (if (s[0] == 124) = true then _ else _) = _
        rw [if_neg (by simpa using h0)]
      rw [hspl]
      clear hspl hcons h0
      generalize s[0] = c0 at *
      go_enter Tryz.func62, Tryz.ntmps62
      go_wp2
      go_ret2
      exact ⟨rfl, Ext.rfl' _⟩
end Go.Proofs.YthjldedjllkeeaaGreatDoor
