/- The walk of the reference's Split. -/
import Derived.Test.YthjldedjllkeeaaGreatDoorSpecS2
namespace Go.Proofs.YthjldedjllkeeaaGreatDoor
open Go.RowKit
def rfin (r : Option (List (List UInt8))) : Except Nat (List (List UInt8)) := match r with
  | some out => J.most out
  | none => .error 2
theorem rr_no {c l out one} (h : (c == 124) = false) : J.rrun (c :: l) out one false = none := by rw [J.rr_cons, if_pos ⟨rfl, h⟩]
theorem rr_bar {c l out one on} (h : (c == 124) = true) : J.rrun (c :: l) out one on = J.rrun l (if on then out ++ [one] else out) [] true := by rw [J.rr_cons, if_neg (by rw [h]; simp), if_pos h]
theorem rr_end {c out one} (h : (c == 124) = false) (h2 : (c == 92) = true) : J.rrun [c] out one true = none := by rw [J.rr_cons, if_neg (by simp), if_neg (by simp [h]), if_pos h2]
theorem rr_esc {c d l out one} (h : (c == 124) = false) (h2 : (c == 92) = true) : J.rrun (c :: d :: l) out one true = if J.special d then J.rrun l out (one ++ [d]) true else none := by rw [J.rr_cons, if_neg (by simp), if_neg (by simp [h]), if_pos h2]
theorem rr_other {c l out one} (h : (c == 124) = false) (h2 : (c == 92) = false) : J.rrun (c :: l) out one true = J.rrun l out (one ++ [c]) true := by rw [J.rr_cons, if_neg (by simp), if_neg (by simp [h]), if_neg (by simp [h2])]
set_option maxHeartbeats 4000000 in
set_option maxRecDepth 100000 in
theorem rsplit_calls (s : ByteArray) (hs : s.size ≤ 1099511627776) (w : World) :
    Calls Tryz.prog 80 #[.string s] w fun e w' => SplitEnd (J.rsplit (bs s)) e w' ∧ Ext w w' := by
  obtain ⟨i0, hi, hz0, hz1, hz2⟩ := info_parts bByte
  obtain ⟨j0, hj, hy0, hy1, hy2⟩ := info_parts bStr
  have hixg : ∀ (j : Nat) (h : j < (bs s).length) (w : World), (Instr.index 9 (.string s) (.int .i64 (j : Int))).run Tryz.prog w = .ok (cU8 (bs s)[j]) w := by
    intro j h w
    have hjt' : j < s.size := h
    simp [go_sem, hjt']
    rfl
  have hls : (bs s).length = s.size := rfl
  have hspl : J.rsplit (bs s) = rfin (J.rrun (bs s) [] [] false) := rfl
  rw [hspl]
  generalize hR : J.rrun (bs s) [] [] false = R
  have HRR := Lib.hid hR
  have HIX := Lib.hid hixg
  clear hspl hR hixg
  go_enter Tryz.func80, Tryz.ntmps80
  go_wp2
  go_loopw [4, 5, 6, 7] (fun vo vf vb i wr => ∃ k : Nat, k ≤ (bs s).length ∧ i = .int .i64 k ∧ ∃ out one on, J.rrun ((bs s).drop k) out one on = R ∧ out.length ≤ k ∧ one.length ≤ k ∧ wr.ownsRow w.heap.size 9 1 vo out.length (cFs out) ∧ wr.ownsRow w.heap.size tU8 1 vf one.length (bC one) ∧ vb = .bool on ∧ Below w.heap.size w wr) (fun _ _ _ i _ => (bs s).length - (intOf i).toNat)
  case atStart => exact ⟨0, by omega, rfl, [], [], false, HRR.out, Nat.le_refl _, Nat.le_refl _, World.ownsRow_nil _ _ _ _, World.ownsRow_nil _ _ _ _, rfl, Below.refl _ _⟩
  case round =>
    obtain ⟨k, hk, rfl, out, one, on, hrun, hol, hfl, hoo, hof, rfl, hB⟩ := hrel
    have hszr := hB.size
    by_cases hkt : k < (bs s).length
    · have hix := HIX.out k hkt
      rw [List.drop_eq_getElem_cons hkt] at hrun
      generalize hcc : (bs s)[k] = c8 at *
      rcases kinds c8 with ⟨h1, he⟩ | ⟨h1, h2, he⟩ | ⟨h1, h2, he, e1, e2⟩
      · rw [rr_bar (by rw [he]; rfl)] at hrun
        have hn1 := bne_t h1
        clear he hcc
        cases on with
        | false =>
          have HO2 := Lib.hid hoo
          have HB2 := Lib.hid hB
          clear hoo hof hB
          go_wp2
          go_roundw
          case rel => exact ⟨k + 1, hkt, by go_num, out, [], true, hrun, by omega, Nat.zero_le _, HO2.out, World.ownsRow_nil _ _ _ _, rfl, HB2.out⟩
          case measure => simp [intOf]; omega
        | true =>
          obtain ⟨A2, c2, rfl, hr2⟩ := rd_of_own hof
          have hstr := run_str (P := Tryz.prog) wr A2 _ c2 82 tU8 9 Tryz.underlying82 Tryz.underlying5 Tryz.underlying9 hr2
          have hoo1 := hoo.alloc (.cells #[.string (strOf one)] 9)
          go_wp2_with (at_builtin; (refine wpList_append_own _ rfl _ _ 121 rfl w.heap.size 9 j0 (.string ⟨#[]⟩) 1 16 Tryz.underlying121 hj hy0 hy1 hy2 rfl (by decide) _ _ _ rfl hoo1 ⟨wr.heap.size, 0, none⟩ 1 1 [.string (strOf one)] rfl rfl (cell_one_new _ _ _) (fun x hx => by simp at hx; subst hx; rfl) (by unfold maxLen; omega) (by omega) (by simp; omega) ?_); intro v' w2 hown' hgrow _)
          have hB2 : Below w.heap.size w w2 := (hB.alloc hszr _).grown hgrow (by simp; omega) (fun q hq => (hoo.lt q hq).1)
          have hoo2 : w2.ownsRow w.heap.size 9 1 v' (out ++ [one]).length (cFs (out ++ [one])) := by simpa [cFs] using hown'
          have HO2 := Lib.hid hoo2
          have HB2 := Lib.hid hB2
          clear hoo1 hown' hgrow hoo hof hB hB2 hoo2 hr2
          go_wp2
          go_roundw
          case rel => exact ⟨k + 1, hkt, by go_num, out ++ [one], [], true, hrun, by rw [List.length_append]; exact Nat.succ_le_succ hol, Nat.zero_le _, HO2.out, World.ownsRow_nil _ _ _ _, rfl, HB2.out⟩
          case measure => simp [intOf]; omega
      · have hn1 := bne_f h1
        cases on with
        | false =>
          rw [rr_no (by rw [he]; rfl)] at hrun
          clear he hcc
          obtain rfl : none = R := hrun
          have HB2 := Lib.hid hB
          clear hoo hof hB
          go_wp2
          go_ret2
          exact ⟨rfl, HB2.out⟩
        | true =>
          by_cases hk1 : k + 1 < (bs s).length
          · rw [List.drop_eq_getElem_cons hk1, rr_esc (by rw [he]; rfl) (by rw [he]; rfl)] at hrun
            have hix1 := HIX.out (k + 1) hk1
            rw [Int.natCast_add, Int.natCast_one] at hix1
            clear he hcc
            generalize (bs s)[k + 1] = d8 at *
            rcases kinds d8 with ⟨g1, ge⟩ | ⟨g1, g2, ge⟩ | ⟨g1, g2, ge, -, -⟩
            · rw [if_pos (by rw [ge]; rfl)] at hrun
              have gn1 := bne_t g1
              clear ge
              have hoo1 := hoo.alloc (.cells #[cU8 d8] tU8)
              have hof1 := hof.alloc (.cells #[cU8 d8] tU8)
              go_wp2_with (at_builtin; (refine wpList_append_own _ rfl _ _ 82 rfl w.heap.size tU8 i0 (.int .u8 0) 1 1 Tryz.underlying82 hi hz0 hz1 hz2 rfl (by decide) _ _ _ rfl hof1 ⟨wr.heap.size, 0, none⟩ 1 1 [cU8 d8] rfl rfl (cell_one_new _ _ _) (fun x hx => by simp at hx; subst hx; rfl) (by unfold maxLen; omega) (by omega) (by simp; omega) ?_); intro v' w2 hown' hgrow _)
              have hB2 : Below w.heap.size w w2 := (hB.alloc hszr _).grown hgrow (by simp; omega) (fun q hq => (hof.lt q hq).1)
              have hoo2 := own_apart hoo1 hof1 (by decide) hgrow
              have hof2 : w2.ownsRow w.heap.size tU8 1 v' (one ++ [d8]).length (bC (one ++ [d8])) := by simpa [bC, Lib.byteCells] using hown'
              have HO2 := Lib.hid hoo2
              have HF2 := Lib.hid hof2
              have HB2 := Lib.hid hB2
              clear hoo1 hof1 hown' hgrow hoo hof hB hB2 hoo2 hof2
              go_wp2
              go_roundw
              case rel => exact ⟨k + 2, hk1, by go_num, out, one ++ [d8], true, hrun, by omega, by rw [List.length_append]; exact Nat.le_succ_of_le (Nat.succ_le_succ hfl), HO2.out, HF2.out, rfl, HB2.out⟩
              case measure => simp [intOf]; omega
            · rw [if_pos (by rw [ge]; rfl)] at hrun
              have gn1 := bne_f g1
              have gn2 := bne_t g2
              clear ge
              have hoo1 := hoo.alloc (.cells #[cU8 d8] tU8)
              have hof1 := hof.alloc (.cells #[cU8 d8] tU8)
              go_wp2_with (at_builtin; (refine wpList_append_own _ rfl _ _ 82 rfl w.heap.size tU8 i0 (.int .u8 0) 1 1 Tryz.underlying82 hi hz0 hz1 hz2 rfl (by decide) _ _ _ rfl hof1 ⟨wr.heap.size, 0, none⟩ 1 1 [cU8 d8] rfl rfl (cell_one_new _ _ _) (fun x hx => by simp at hx; subst hx; rfl) (by unfold maxLen; omega) (by omega) (by simp; omega) ?_); intro v' w2 hown' hgrow _)
              have hB2 : Below w.heap.size w w2 := (hB.alloc hszr _).grown hgrow (by simp; omega) (fun q hq => (hof.lt q hq).1)
              have hoo2 := own_apart hoo1 hof1 (by decide) hgrow
              have hof2 : w2.ownsRow w.heap.size tU8 1 v' (one ++ [d8]).length (bC (one ++ [d8])) := by simpa [bC, Lib.byteCells] using hown'
              have HO2 := Lib.hid hoo2
              have HF2 := Lib.hid hof2
              have HB2 := Lib.hid hB2
              clear hoo1 hof1 hown' hgrow hoo hof hB hB2 hoo2 hof2
              go_wp2
              go_roundw
              case rel => exact ⟨k + 2, hk1, by go_num, out, one ++ [d8], true, hrun, by omega, by rw [List.length_append]; exact Nat.le_succ_of_le (Nat.succ_le_succ hfl), HO2.out, HF2.out, rfl, HB2.out⟩
              case measure => simp [intOf]; omega
            · rw [if_neg (by rw [ge]; simp)] at hrun
              have gn1 := bne_f g1
              have gn2 := bne_f g2
              clear ge
              obtain rfl : none = R := hrun
              have HB2 := Lib.hid hB
              clear hoo hof hB
              go_wp2
              go_ret2
              exact ⟨rfl, HB2.out⟩
          · have hd : (bs s).drop (k + 1) = [] := List.drop_of_length_le (by omega)
            rw [hd, rr_end (by rw [he]; rfl) (by rw [he]; rfl)] at hrun
            clear he hcc hd
            obtain rfl : none = R := hrun
            have HB2 := Lib.hid hB
            clear hoo hof hB
            go_wp2
            go_ret2
            exact ⟨rfl, HB2.out⟩
      · have hn1 := bne_f h1
        clear hcc
        cases on with
        | false =>
          rw [rr_no e1] at hrun
          clear he e1 e2
          obtain rfl : none = R := hrun
          have HB2 := Lib.hid hB
          clear hoo hof hB
          go_wp2
          go_ret2
          exact ⟨rfl, HB2.out⟩
        | true =>
          rw [rr_other e1 e2] at hrun
          clear he e1 e2
          have hoo1 := hoo.alloc (.cells #[cU8 c8] tU8)
          have hof1 := hof.alloc (.cells #[cU8 c8] tU8)
          go_wp2_with (at_builtin; (refine wpList_append_own _ rfl _ _ 82 rfl w.heap.size tU8 i0 (.int .u8 0) 1 1 Tryz.underlying82 hi hz0 hz1 hz2 rfl (by decide) _ _ _ rfl hof1 ⟨wr.heap.size, 0, none⟩ 1 1 [cU8 c8] rfl rfl (cell_one_new _ _ _) (fun x hx => by simp at hx; subst hx; rfl) (by unfold maxLen; omega) (by omega) (by simp; omega) ?_); intro v' w2 hown' hgrow _)
          have hB2 : Below w.heap.size w w2 := (hB.alloc hszr _).grown hgrow (by simp; omega) (fun q hq => (hof.lt q hq).1)
          have hoo2 := own_apart hoo1 hof1 (by decide) hgrow
          have hof2 : w2.ownsRow w.heap.size tU8 1 v' (one ++ [c8]).length (bC (one ++ [c8])) := by simpa [bC, Lib.byteCells] using hown'
          have HO2 := Lib.hid hoo2
          have HF2 := Lib.hid hof2
          have HB2 := Lib.hid hB2
          clear hoo1 hof1 hown' hgrow hoo hof hB hB2 hoo2 hof2
          go_wp2
          go_roundw
          case rel => exact ⟨k + 1, hkt, by go_num, out, one ++ [c8], true, hrun, by omega, by rw [List.length_append]; exact Nat.succ_le_succ hfl, HO2.out, HF2.out, rfl, HB2.out⟩
          case measure => simp [intOf]; omega
    · obtain rfl : k = (bs s).length := by omega
      rw [List.drop_length] at hrun
      obtain rfl : some (if on then out ++ [one] else out) = R := hrun
      cases on with
      | false =>
        have hm : rfin (some out) = J.most out := rfl
        obtain ⟨A3, c3, rfl, hr3⟩ := rd_of_own hoo
        have HR3 := Lib.hid hr3
        have HB2 := Lib.hid hB
        clear hoo hof hB hr3
        by_cases hbig : 4096 < out.length
        · have hmm : J.most out = .error 4 := by rw [J.most, if_pos (by omega)]
          go_wp2
          go_ret2
          exact ⟨rfl, HB2.out⟩
        · have hmm : J.most out = .ok out := by rw [J.most, if_neg (by omega)]
          go_wp2
          go_ret2
          exact ⟨⟨A3, c3, rfl, HR3.out⟩, HB2.out⟩
      | true =>
        obtain ⟨A2, c2, rfl, hr2⟩ := rd_of_own hof
        have hlen : (out ++ [one]).length = out.length + 1 := by simp
        by_cases hbig : 4096 < out.length + 1
        · have hmm : J.most (out ++ [one]) = .error 4 := by rw [J.most, if_pos (by omega)]
          have hstr := run_str (P := Tryz.prog) wr A2 _ c2 82 tU8 9 Tryz.underlying82 Tryz.underlying5 Tryz.underlying9 hr2
          have hoo1 := hoo.alloc (.cells #[.string (strOf one)] 9)
          go_wp2_with (at_builtin; (refine wpList_append_own _ rfl _ _ 121 rfl w.heap.size 9 j0 (.string ⟨#[]⟩) 1 16 Tryz.underlying121 hj hy0 hy1 hy2 rfl (by decide) _ _ _ rfl hoo1 ⟨wr.heap.size, 0, none⟩ 1 1 [.string (strOf one)] rfl rfl (cell_one_new _ _ _) (fun x hx => by simp at hx; subst hx; rfl) (by unfold maxLen; omega) (by omega) (by simp; omega) ?_); intro v' w2 hown' hgrow _; obtain ⟨A3, c3, rfl, hr3⟩ := rd_of_own hown')
          have hB2 : Below w.heap.size w w2 := (hB.alloc hszr _).grown hgrow (by simp; omega) (fun q hq => (hoo.lt q hq).1)
          have hoo2 : w2.ownsRow w.heap.size 9 1 (.slice A3 (out.length + 1) c3) (out ++ [one]).length (cFs (out ++ [one])) := by simpa [cFs] using hown'
          have HO2 := Lib.hid hoo2
          have HB2 := Lib.hid hB2
          clear hoo1 hown' hgrow hoo hof hB hB2 hoo2 hr2
          have HR3 := Lib.hid hr3
          clear hr3
          go_wp2
          go_ret2
          exact ⟨by show SplitEnd (J.most (out ++ [one])) _ _; rw [hmm]; exact rfl, HB2.out⟩
        · have hmm : J.most (out ++ [one]) = .ok (out ++ [one]) := by rw [J.most, if_neg (by omega)]
          have hstr := run_str (P := Tryz.prog) wr A2 _ c2 82 tU8 9 Tryz.underlying82 Tryz.underlying5 Tryz.underlying9 hr2
          have hoo1 := hoo.alloc (.cells #[.string (strOf one)] 9)
          go_wp2_with (at_builtin; (refine wpList_append_own _ rfl _ _ 121 rfl w.heap.size 9 j0 (.string ⟨#[]⟩) 1 16 Tryz.underlying121 hj hy0 hy1 hy2 rfl (by decide) _ _ _ rfl hoo1 ⟨wr.heap.size, 0, none⟩ 1 1 [.string (strOf one)] rfl rfl (cell_one_new _ _ _) (fun x hx => by simp at hx; subst hx; rfl) (by unfold maxLen; omega) (by omega) (by simp; omega) ?_); intro v' w2 hown' hgrow _; obtain ⟨A3, c3, rfl, hr3⟩ := rd_of_own hown')
          have hB2 : Below w.heap.size w w2 := (hB.alloc hszr _).grown hgrow (by simp; omega) (fun q hq => (hoo.lt q hq).1)
          have hoo2 : w2.ownsRow w.heap.size 9 1 (.slice A3 (out.length + 1) c3) (out ++ [one]).length (cFs (out ++ [one])) := by simpa [cFs] using hown'
          have HO2 := Lib.hid hoo2
          have HB2 := Lib.hid hB2
          clear hoo1 hown' hgrow hoo hof hB hB2 hoo2 hr2
          have HR3 := Lib.hid hr3
          clear hr3
          go_wp2
          go_ret2
          exact ⟨by show SplitEnd (J.most (out ++ [one])) _ _; rw [hmm]; exact ⟨A3, c3, by rw [hlen]; rfl, by simpa [cFs] using HR3.out⟩, HB2.out⟩
end Go.Proofs.YthjldedjllkeeaaGreatDoor
