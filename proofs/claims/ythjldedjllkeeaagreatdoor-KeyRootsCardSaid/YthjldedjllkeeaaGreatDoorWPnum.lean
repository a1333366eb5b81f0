/- The walk of field.ParseNum. -/
import Derived.Test.YthjldedjllkeeaaGreatDoorLawN
import Derived.Test.YthjldedjllkeeaaGreatDoorWIs2
import Derived.Lib.AtoiErrMem
set_option linter.unusedVariables false
namespace Go.Proofs.YthjldedjllkeeaaGreatDoor
open Go.RowKit Go.Sort
/-- What the walks of numbers in words read of the library's error. -/
def RngOk (w : World) : Prop := ∃ b : Addr, b.block < w.heap.size ∧ 0 < w.heap.size ∧ w.cell? ⟨0, 0, none⟩ = some (.iface 298 (.pointer (some b)))
theorem RngOk.ext {w w' : World} (h : RngOk w) (k : Ext w w') : RngOk w' := by
  obtain ⟨b, h1, h2, h3⟩ := h
  exact ⟨b, Nat.lt_of_lt_of_le h1 k.size, Nat.lt_of_lt_of_le h2 k.size, k.cell h3⟩
/-- The stroke ahead is left out. -/
def cutM (s : ByteArray) : ByteArray := ⟨(Lib.trimPrefix (bs s) [45]).toArray⟩
theorem hasPrefix_one (c : UInt8) (t : List UInt8) (d : UInt8) : Lib.hasPrefix (c :: t) [d] = (d == c) := by
  simp [Lib.hasPrefix, List.isPrefixOf]
theorem cutM_minus {s : ByteArray} {t : List UInt8} (h : bs s = 45 :: t) : bs (cutM s) = t := by
  show Lib.trimPrefix (bs s) [45] = t
  rw [h, Lib.trimPrefix, hasPrefix_one, if_pos (by rfl)]
  rfl
theorem cutM_plain {s : ByteArray} (h : (bs s).head? ≠ some 45) : bs (cutM s) = bs s := by
  show Lib.trimPrefix (bs s) [45] = bs s
  cases hs : bs s with
  | nil => rfl
  | cons c t =>
    rw [hs] at h
    rw [Lib.trimPrefix, hasPrefix_one, if_neg]
    intro e
    have : 45 = c := by simpa using e
    exact h (by rw [← this]; rfl)
/-- Whether a text is that of nought alone. -/
theorem nought_iff (s : ByteArray) : s = ⟨#[48]⟩ ↔ bs s = [48] := by
  constructor
  · intro e; rw [e]
  · intro e
    cases s with
    | mk d => cases d with
      | mk l => exact congrArg (fun l : List UInt8 => ByteArray.mk ⟨l⟩) e
/-- What is the matter with a text, ahead of strconv. -/
def badN (s : ByteArray) : Prop := bs (cutM s) = [] ∨ ¬ (∀ c ∈ bs (cutM s), J.isDig c) ∨ ((bs (cutM s)).head? = some 48 ∧ bs s ≠ [48])
theorem pnum_bad {s : ByteArray} (h : badN s) : J.pnum (bs s) = .error 2 := by
  cases hs : bs s with
  | nil => rfl
  | cons c t =>
    rw [J.pnum]
    by_cases hc : c = 45
    · subst hc
      rw [if_pos rfl]
      rw [badN, cutM_minus hs, hs] at h
      rw [J.tnum, if_pos]
      rcases h with h | h | ⟨h, _⟩
      · exact .inl h
      · exact .inr (.inr h)
      · exact .inr (.inl ⟨h, .inr rfl⟩)
    · rw [if_neg hc]
      rw [badN, cutM_plain (by rw [hs]; intro e; exact hc (Option.some.inj e)), hs] at h
      rw [J.tnum, if_pos]
      rcases h with h | h | ⟨h, h2⟩
      · exact .inl h
      · exact .inr (.inr h)
      · refine .inr (.inl ⟨h, .inl ?_⟩)
        cases t with
        | nil => exact absurd (by rw [Option.some.inj h]) h2
        | cons d t => simp
theorem pnum_good {s : ByteArray} (h : ¬ badN s) : (∃ v, J.pnum (bs s) = .ok v ∧ Lib.parseIntB 64 (bs s) = .ok v) ∨ (J.pnum (bs s) = .error 4 ∧ Lib.parseIntB 64 (bs s) = .range) := by
  have h1 : bs (cutM s) ≠ [] := fun e => h (.inl e)
  have h2 : ∀ c ∈ bs (cutM s), J.isDig c := Decidable.not_not.1 fun e => h (.inr (.inl e))
  have h3 : (bs (cutM s)).head? = some 48 → bs s = [48] := fun e => Decidable.not_not.1 fun e2 => h (.inr (.inr ⟨e, e2⟩))
  cases hs : bs s with
  | nil => exact absurd (by rw [cutM_plain (by rw [hs]; simp), hs]) h1
  | cons c t =>
    rw [J.pnum]
    by_cases hc : c = 45
    · subst hc
      rw [cutM_minus hs] at h1 h2 h3
      rw [hs] at h3
      have hno : ¬ (t = [] ∨ (t.head? = some 48 ∧ (1 < t.length ∨ true = true)) ∨ ¬ (∀ c ∈ t, J.isDig c)) := by
        rintro (e | ⟨e, _⟩ | e)
        · exact h1 e
        · exact absurd (h3 e) (by simp)
        · exact e h2
      rw [if_pos rfl, J.tnum, if_neg hno, if_pos rfl, J.parse_neg t h1 h2]
      by_cases hv : J.val t ≤ 9223372036854775808
      · rw [if_pos hv, if_pos hv]; exact .inl ⟨_, rfl, rfl⟩
      · rw [if_neg hv, if_neg hv]; exact .inr ⟨rfl, rfl⟩
    · rw [cutM_plain (by rw [hs]; intro e; exact hc (Option.some.inj e)), hs] at h1 h2 h3
      have hno : ¬ ((c :: t) = [] ∨ ((c :: t).head? = some 48 ∧ (1 < (c :: t).length ∨ false = true)) ∨ ¬ (∀ x ∈ c :: t, J.isDig x)) := by
        rintro (e | ⟨e, e2⟩ | e)
        · exact h1 e
        · have := congrArg List.length (h3 e)
          rcases e2 with e2 | e2
          · rw [this] at e2; exact absurd e2 (by decide)
          · cases e2
        · exact e h2
      rw [if_neg hc, J.tnum, if_neg hno, if_neg (by decide), J.parse_pos _ h1 h2]
      by_cases hv : J.val (c :: t) < 9223372036854775808
      · rw [if_pos hv, if_pos hv]; exact .inl ⟨_, rfl, rfl⟩
      · rw [if_neg hv, if_neg hv]; exact .inr ⟨rfl, rfl⟩
theorem lit48 : (⟨#[48]⟩ : ByteArray).toList = [48] := by rw [Lib.toList_data]
theorem toList_empty {t : ByteArray} : t.toList.isEmpty = true ↔ bs t = [] := by rw [empty_iff]; exact List.isEmpty_iff
set_option maxHeartbeats 2000000 in
set_option maxRecDepth 100000 in
theorem pnum_calls (s : ByteArray) (hs : s.size ≤ 1099511627776) (w : World) (hr : RngOk w) :
    Calls Tryz.prog 78 #[.string s] w fun e w' => NumEnd (J.pnum (bs s)) e ∧ Ext w w' := by
  have HRR := Lib.hid hr
  clear hr
  have HTP := Lib.hid (show ∀ w, Calls Tryz.prog 129 #[.string s, .string ⟨#[45]⟩] w fun e w' => e = .returned (.string (cutM s)) ∧ w = w' from fun w => (Tryz.strings_TrimPrefix s ⟨#[45]⟩ w).mono fun _ _ ⟨a, b⟩ => ⟨a, b.symm⟩)
  have hDs : (cutM s).size ≤ s.size := Lib.trimPrefix_le (bs s) [45]
  have HTR := Lib.hid (fun w => trim_calls (cutM s) (by omega) w)
  have HBAD := Lib.hid (fun h => pnum_bad (s := s) h)
  have HGOOD := Lib.hid (fun h => pnum_good (s := s) h)
  by_cases h1 : bs (cutM s) = []
  · have e1 := toList_empty.2 h1
    have HB := Lib.hid (HBAD.out (.inl h1))
    clear h1
    go_enter Tryz.func78, Tryz.ntmps78
    go_wp2_with fail
    refine (HTP.out _).mono ?_
    rintro e w' ⟨rfl, rfl⟩
    go_wp2
    go_ret2
    exact ⟨by rw [HB.out]; exact rfl, Ext.rfl' _⟩
  · have e1 : (cutM s).toList.isEmpty = false := by
      cases hh : (cutM s).toList.isEmpty with
      | false => rfl
      | true => exact absurd (toList_empty.1 hh) h1
    have hlen : 0 < (bs (cutM s)).length := List.length_pos_iff.2 h1
    have hix : ∀ w : World, (Instr.index 9 (.string (cutM s)) (.int .i64 0)).run Tryz.prog w = .ok (cU8 (bs (cutM s))[0]) w := hixg (cutM s) 0 hlen
    have hhd : (bs (cutM s)).head? = some (bs (cutM s))[0] := by rw [List.head?_eq_getElem?, List.getElem?_eq_getElem hlen]
    have htl : Lib.trimS (cutM s).data.toList tens.data.toList = [] ↔ ∀ c ∈ bs (cutM s), J.isDig c := trim_digits _
    have hzl : (⟨(Lib.trimS (cutM s).data.toList tens.data.toList).toArray⟩ : ByteArray).toList.isEmpty = true ↔ ∀ c ∈ bs (cutM s), J.isDig c := toList_empty.trans htl
    clear htl
    have HZ := Lib.hid hzl
    clear hzl
    generalize (⟨(Lib.trimS (cutM s).data.toList tens.data.toList).toArray⟩ : ByteArray) = Z at *
    by_cases h2 : ∀ c ∈ bs (cutM s), J.isDig c
    · have ez := HZ.out.2 h2
      have hcase : ((((bs (cutM s))[0].toNat : Int) == 48) = true ∧ ¬ s = ⟨#[48]⟩ ∧ badN s) ∨ ((((bs (cutM s))[0].toNat : Int) == 48) = true ∧ s = ⟨#[48]⟩ ∧ ¬ badN s) ∨ ((((bs (cutM s))[0].toNat : Int) == 48) = false ∧ ¬ badN s) := by
        by_cases h3 : (bs (cutM s))[0] = 48
        · by_cases h4 : bs s = [48]
          · refine .inr (.inl ⟨by rw [h3]; rfl, (nought_iff s).2 h4, ?_⟩)
            rintro (h | h | ⟨_, h⟩)
            · exact h1 h
            · exact h h2
            · exact h h4
          · exact .inl ⟨by rw [h3]; rfl, fun e => h4 ((nought_iff s).1 e), .inr (.inr ⟨by rw [hhd, h3], h4⟩)⟩
        · refine .inr (.inr ⟨ne48 h3, ?_⟩)
          rintro (h | h | ⟨h, _⟩)
          · exact h1 h
          · exact h h2
          · exact h3 (by rw [hhd] at h; exact Option.some.inj h)
      clear h1 h2 hhd HZ
      generalize (bs (cutM s))[0] = c0 at *
      rcases hcase with ⟨h3, h4, hbad⟩ | hcase
      · have HB := Lib.hid (HBAD.out hbad)
        have q1 : (s == ⟨#[48]⟩) = false := by
          cases hq : (s == ⟨#[48]⟩) with
          | false => rfl
          | true => exact absurd ((MapKept.bytes_beq s ⟨#[48]⟩).1 hq) h4
        have q2 : (s.toList == [48]) = false := lit48 ▸ (Lib.bytes_beq_false_iff s ⟨#[48]⟩).2 h4
        have q3 : (s != ⟨#[48]⟩) = true := by rw [bne, q1]; rfl
        clear hbad h4
        go_enter Tryz.func78, Tryz.ntmps78
        go_wp2_with fail
        refine (HTP.out _).mono ?_
        rintro e w' ⟨rfl, rfl⟩
        go_wp2_with fail
        refine (HTR.out _).mono ?_
        rintro e w1 ⟨rfl, hx⟩
        have HX := Lib.hid hx
        clear hx
        go_wp2
        go_ret2
        exact ⟨by rw [HB.out]; exact rfl, HX.out⟩
      · have hgood : ¬ badN s := hcase.elim (fun h => h.2.2) (fun h => h.2)
        have hq : (((c0.toNat : Int) == 48) = true ∧ (s.toList == [48]) = true) ∨ ((c0.toNat : Int) == 48) = false := by
          rcases hcase with ⟨h3, h4, _⟩ | ⟨h3, _⟩
          · exact .inl ⟨h3, by rw [h4, lit48]; rfl⟩
          · exact .inr h3
        rcases HGOOD.out hgood with ⟨v, hv1, hv2⟩ | ⟨hv1, hv2⟩
        · have HV := Lib.hid hv1
          have HPI := Lib.hid (fun w => Tryz.strconv_ParseInt_10_at64_ok s (by omega) v hv2 w)
          clear hv1 hv2 hgood hcase
          rcases hq with ⟨hq1, hq2⟩ | hq1
          all_goals
            go_enter Tryz.func78, Tryz.ntmps78
            go_wp2_with fail
            refine (HTP.out _).mono ?_
            rintro e w' ⟨rfl, rfl⟩
            go_wp2_with fail
            refine (HTR.out _).mono ?_
            rintro e w1 ⟨rfl, hx⟩
            have HX := Lib.hid hx
            have HR1 := Lib.hid (HRR.out.ext hx)
            clear hx
            go_wp2_with fail
            refine (HPI.out _).mono ?_
            rintro e w2 ⟨rfl, hx⟩
            have hx2 : Ext w1 w2 := by
              rcases hx with rfl | ⟨t, rfl⟩
              · exact Ext.rfl' _
              · exact Lib.bytesWorld_below _ _ _
            have HX2 := Lib.hid (HX.out.tr hx2)
            obtain ⟨b, hb1, hb2, hb3⟩ := HR1.out.ext hx2
            clear hx hx2
            go_wp2_with fail
            refine (is_nil _ _ _).mono ?_
            rintro e w3 ⟨rfl, rfl⟩
            go_wp2
            go_ret2
            exact ⟨by rw [HV.out]; exact rfl, HX2.out⟩
        · have HV := Lib.hid hv1
          have HPI := Lib.hid (fun ev w h h2 => Tryz.strconv_ParseInt_10_at64_range s (by omega) hv2 ev w h h2)
          clear hv1 hv2 hgood hcase
          rcases hq with ⟨hq1, hq2⟩ | hq1
          all_goals
            go_enter Tryz.func78, Tryz.ntmps78
            go_wp2_with fail
            refine (HTP.out _).mono ?_
            rintro e w' ⟨rfl, rfl⟩
            go_wp2_with fail
            refine (HTR.out _).mono ?_
            rintro e w1 ⟨rfl, hx⟩
            have HX := Lib.hid hx
            obtain ⟨b, hb1, hb2, hb3⟩ := HRR.out.ext hx
            clear hx
            have HB3 := Lib.hid hb3
            clear hb3
            go_wp2_with fail
            refine (HPI.out _ _ HB3.out (.inr ⟨_, _, rfl⟩)).mono ?_
            rintro e w2 ⟨N, rfl, hN1, hN2, hx⟩
            have HX2 := Lib.hid (HX.out.tr hx)
            have hb4 := hx.cell (p := ⟨0, 0, none⟩) hb2 |>.trans HB3.out
            have HN := Lib.hid (show w2.cell? ⟨N, 2, none⟩ = some (.iface 298 (.pointer (some b))) by simp [World.cell?, hN2])
            clear hx hN2
            go_wp2_with fail
            refine (is_range N b _ HN.out).mono ?_
            rintro e w3 ⟨rfl, rfl⟩
            go_wp2
            go_ret2
            exact ⟨by rw [HV.out]; exact rfl, HX2.out⟩
    · have ez : Z.toList.isEmpty = false := by
        cases hh : Z.toList.isEmpty with
        | false => rfl
        | true => exact absurd (HZ.out.1 hh) h2
      have HB := Lib.hid (HBAD.out (.inr (.inl h2)))
      clear h1 h2 hhd HZ hix
      go_enter Tryz.func78, Tryz.ntmps78
      go_wp2_with fail
      refine (HTP.out _).mono ?_
      rintro e w' ⟨rfl, rfl⟩
      go_wp2_with fail
      refine (HTR.out _).mono ?_
      rintro e w1 ⟨rfl, hx⟩
      have HX := Lib.hid hx
      clear hx
      go_wp2
      go_ret2
      exact ⟨by rw [HB.out]; exact rfl, HX.out⟩
end Go.Proofs.YthjldedjllkeeaaGreatDoor
