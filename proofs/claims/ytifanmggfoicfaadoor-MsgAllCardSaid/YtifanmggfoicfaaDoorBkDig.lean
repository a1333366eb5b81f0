/- The walk of book.Digest. -/
import Derived.Test.YtifanmggfoicfaaDoorBkTot
set_option linter.unusedVariables false
namespace Go.Proofs.YtifanmggfoicfaaDoor
open Go.RowKit Go.Sort
abbrev tagB : ByteArray := ⟨#[98, 111, 111, 107]⟩
def bkText (H : List Int) : ByteArray := ⟨(J.join [numsL (hasL H), numsL (nextL H)]).toArray⟩
noncomputable def bkDig (H : List Int) : Nat := S.sumN tagB.data.toList (bs (bkText H))
theorem esc_two (s : List UInt8) : (J.esc s).length ≤ 2 * s.length := by
  induction s with
  | nil => exact Nat.le_refl 0
  | cons b s ih =>
    rw [show J.esc (b :: s) = J.esc [b] ++ J.esc s from J.esc_append [b] s, List.length_append, List.length_cons]
    have : (J.esc [b]).length ≤ 2 := by simp only [J.esc, J.esc1]; split <;> simp
    omega
theorem bkText_len (H : List Int) (hH : H.length = 32) (hb : ∀ n ∈ H, I64 n) : (J.join [numsL (hasL H), numsL (nextL H)]).length ≤ 2000 := by
  have h1 := numsL_len (hasL H) (fun n hn => hb n (List.mem_of_mem_take hn))
  have h2 := numsL_len (nextL H) (fun n hn => hb n (List.mem_of_mem_drop (List.mem_of_mem_take hn)))
  have e1 : (hasL H).length = 16 := by simp [hasL, hH]
  have e2 : (nextL H).length = 16 := by simp [nextL, hH]
  have h3 := esc_two (numsL (hasL H))
  have h4 := esc_two (numsL (nextL H))
  simp only [J.join, List.length_cons, List.length_append, List.length_nil]
  omega
theorem join2 (a b : ByteArray) (hl : (J.join [bs a, bs b]).length ≤ 140737488355328) (ha : a.size ≤ 9223372036854775807) (hb : b.size ≤ 9223372036854775807) (W : World) :
    Calls Tryd.prog 69 #[.slice (some ⟨W.heap.size, 0, none⟩) 2 2] (W.alloc (.cells #[.string a, .string b] 9)) fun e w' => e = .returned (.string ⟨(J.join [bs a, bs b]).toArray⟩) ∧ Ext (W.alloc (.cells #[.string a, .string b] 9)) w' :=
  join_calls [a, b] (some ⟨W.heap.size, 0, none⟩) 2 (W.alloc (.cells #[.string a, .string b] 9)) (Rd.fresh W (cStrs [a, b]) 9 (0, 0)) hl (by show 2 ≤ _; decide) (fun s hs => by
    simp at hs
    rcases hs with rfl | rfl <;> assumption)
set_option maxRecDepth 100000 in
set_option maxHeartbeats 1000000 in
theorem bdig_calls (H : List Int) (hH : H.length = 32) (hb : ∀ n ∈ H, I64 n) (w : World) (ht : TabOk w) :
    Calls Tryd.prog 46 #[.agg (cI64s H).toArray] w fun e w' => e = .returned (cU64 (bkDig H)) ∧ Ext w w' := by
  have HT := Lib.hid ht.all
  have e1 : (hasL H).length = 16 := by simp [hasL, hH]
  have e2 : (nextL H).length = 16 := by simp [nextL, hH]
  have hb1 : ∀ n ∈ hasL H, I64 n := fun n hn => hb n (List.mem_of_mem_take hn)
  have hb2 : ∀ n ∈ nextL H, I64 n := fun n hn => hb n (List.mem_of_mem_drop (List.mem_of_mem_take hn))
  have hl1 := numsL_len (hasL H) hb1
  have hl2 := numsL_len (nextL H) hb2
  have HM := Lib.hid (fun (W : World) hA => bkMap_calls (nextL H) hb2 (some ⟨w.heap.size, 16, none⟩) 16 W hA (by omega))
  have HN1 := Lib.hid (fun (W : World) hA hT => nums_calls (hasL H) hb1 (some ⟨w.heap.size, 0, none⟩) 16 W hA (by omega) hT)
  have HN2 := Lib.hid (fun A c (W : World) hA hT => nums_calls (nextL H) hb2 A c W hA (by omega) hT)
  rw [e1] at HN1
  rw [e2] at HM HN2
  have HJ := Lib.hid (fun W => join2 (strOf (numsL (hasL H))) (strOf (numsL (nextL H))) (Nat.le_trans (bkText_len H hH hb) (by decide)) (by show (numsL (hasL H)).toArray.size ≤ _; simp; omega) (by show (numsL (nextL H)).toArray.size ≤ _; simp; omega) W)
  change Hid (∀ W : World, Calls Tryd.prog 69 #[.slice (some ⟨W.heap.size, 0, none⟩) 2 2] (W.alloc (.cells #[.string (strOf (numsL (hasL H))), .string (strOf (numsL (nextL H)))] 9)) fun e w' => e = .returned (.string (bkText H)) ∧ Ext (W.alloc (.cells #[.string (strOf (numsL (hasL H))), .string (strOf (numsL (nextL H)))] 9)) w') at HJ
  have HO := Lib.hid (show ∀ W, Calls Tryd.prog 50 #[.string tagB, .string (bkText H)] W fun e w' => e = .returned (cU64 (bkDig H)) ∧ Ext W w' from fun W => of_calls tagB (bkText H) (by decide) (Nat.le_trans (by exact bkText_len H hH hb) (by decide)) W)
  have h0 := Blk.new w 67 (cI64s H)
  have h1 := h0.rd 0 16
  have h2 := h0.rd 16 16
  rw [show ((cI64s H).drop 0).take 16 = cI64s (hasL H) by simp [cI64s, hasL, List.map_take]] at h1
  rw [show ((cI64s H).drop 16).take 16 = cI64s (nextL H) by simp [cI64s, nextL, List.map_take, List.map_drop]] at h2
  have HR1 := Lib.hid h1
  have HR2 := Lib.hid h2
  have HX := Lib.hid ((Ext.rfl' w).alloc (.cells (cI64s H).toArray 67))
  clear h0 h1 h2 hb hH hl1 hl2 hb1 hb2 ht
  generalize bkDig H = D at *
  generalize bkText H = T at *
  generalize hs1 : strOf (numsL (hasL H)) = s1 at *
  generalize hs2 : strOf (numsL (nextL H)) = s2 at *
  clear hs1 hs2 e1 e2
  go_enter Tryd.func46, Tryd.ntmps46
  go_wp2_with fail
  refine (HM.out _ HR2.out).mono ?_
  rintro e w1 ⟨⟨v, rfl, hown⟩, hx⟩
  obtain ⟨A1, c1, rfl, hr⟩ := rd_of_own hown
  have HX1 := Lib.hid (HX.out.tr hx)
  have HR3 := Lib.hid hr
  have HR4 := Lib.hid (HR1.out.ext hx)
  clear hown hr hx
  go_wp2_with fail
  refine (HN1.out _ HR4.out (HT.out _ HX1.out)).mono ?_
  rintro e w2 ⟨rfl, hx⟩
  have HX2 := Lib.hid (HX1.out.tr hx)
  have HR5 := Lib.hid (HR3.out.ext hx)
  clear hx
  go_wp2_with fail
  refine (HN2.out _ _ _ HR5.out (HT.out _ HX2.out)).mono ?_
  rintro e w3 ⟨rfl, hx⟩
  have HX3 := Lib.hid (HX2.out.tr hx)
  clear hx
  go_wp2_with fail
  refine (HJ.out w3).mono ?_
  rintro e w4 ⟨rfl, hx⟩
  have HX4 := Lib.hid ((HX3.out.alloc _).tr hx)
  clear hx
  go_wp2_with fail
  refine (HO.out _).mono ?_
  rintro e w5 ⟨rfl, hx⟩
  have HX5 := Lib.hid (HX4.out.tr hx)
  clear hx
  go_wp2
  go_ret
  exact ⟨rfl, HX5.out⟩
end Go.Proofs.YtifanmggfoicfaaDoor
