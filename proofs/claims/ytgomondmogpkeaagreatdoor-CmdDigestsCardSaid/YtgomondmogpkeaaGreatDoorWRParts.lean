/- The walk of the reference's parts. -/
import Derived.Test.YtgomondmogpkeaaGreatDoorLawN
import Derived.Test.YtgomondmogpkeaaGreatDoorWSplit
import Derived.Test.YtgomondmogpkeaaGreatDoorWRPnum
import Derived.Laws.OwnMore
import Derived.RangeFuncBox
import Derived.RegionTactic
import Derived.ChangeAlike
set_option linter.unusedVariables false
namespace Go.Proofs.YtgomondmogpkeaaGreatDoor
open Go.RowKit Go.Sort
theorem bs_at (s : ByteArray) (k : Nat) (h : k < (bs s).length) : bs (s.extract k (k + 1)) = [(bs s)[k]] := by
  have e : bs (s.extract k (k + 1)) = ((bs s).drop k).take 1 := by
    simp [bs, ByteArray.data_extract]
  rw [e, List.drop_eq_getElem_cons h]
  rfl
theorem cat_bs (b : List UInt8) (t : ByteArray) : strOf b ++ t = strOf (b ++ bs t) := by
  have : t = strOf (bs t) := rfl
  conv => lhs; rw [this]
  exact strOf_append b (bs t)
set_option maxHeartbeats 2000000 in
set_option maxRecDepth 100000 in
theorem parts_calls (s : ByteArray) (hs : s.size ≤ 1099511627776) (w : World) :
    Calls Tryz.prog 51 #[.string s] w fun e w' => (∃ A c, e = .returned (.slice A (J.parts (bs s)).length c) ∧ Rd w' A (cFs (J.parts (bs s)))) ∧ Ext w w' := by
  obtain ⟨j0, hj, hy0, hy1, hy2⟩ := info_parts bStr
  go_enter Tryz.func51, Tryz.ntmps51
  go_wp2
  go_loopw [3, 4] (fun v i wr => ∃ (k : Nat) (a : List (List UInt8)) (b p : List UInt8) (ps : List (List UInt8)), k ≤ (bs s).length ∧ i = .int .i64 k ∧ J.parts ((bs s).drop k) = p :: ps ∧ a ++ (b ++ p) :: ps = J.parts (bs s) ∧ a.length ≤ k ∧ b.length ≤ k ∧
      wr.ownsRow w.heap.size 9 1 v (a.length + 1) (cFs (a ++ [b])) ∧ Below w.heap.size w wr) (fun _ i _ => (bs s).length - (intOf i).toNat)
  case atStart =>
    cases h : J.parts (bs s) with
    | nil => exact absurd h (J.parts_ne _)
    | cons p ps => exact ⟨0, [], [], p, ps, Nat.zero_le _, rfl, h, rfl, Nat.le_refl _, Nat.le_refl _, World.ownsRow_lit w #[.string ⟨#[]⟩] 1 (Nat.le_refl _) (by decide) rfl, (Below.refl _ _).alloc (Nat.le_refl _) _⟩
  case round =>
    obtain ⟨k, a, b, p, ps, hk, rfl, hp, hx, hla, hlb, hoo, hB⟩ := hrel
    have hks : (bs s).length = s.size := rfl
    by_cases hlt : k < (bs s).length
    · have hixk := hixg s k hlt
      have hdr := List.drop_eq_getElem_cons hlt
      have hlt2 : k < s.size := hlt
      have hat := bs_at s k hlt
      by_cases hc : (bs s)[k] = 44
      · have hc1 : (((bs s)[k].toNat : Int) == 44) = true := by rw [hc]; rfl
        obtain ⟨p', ps', h1, h2⟩ : ∃ p' ps', J.parts ((bs s).drop (k + 1)) = p' :: ps' ∧ (a ++ [b]) ++ ([] ++ p') :: ps' = J.parts (bs s) := by
          rw [hdr, hc, J.parts_comma] at hp
          cases h : J.parts ((bs s).drop (k + 1)) with
          | nil => exact absurd h (J.parts_ne _)
          | cons p' ps' =>
            rw [h] at hp
            injection hp with e1 e2
            refine ⟨p', ps', rfl, ?_⟩
            rw [← hx, ← e1, ← e2]
            simp
        have H1 := Lib.hid h1
        have H2 := Lib.hid h2
        have HOO := Lib.hid hoo
        have HB := Lib.hid hB
        clear hp hx hdr hat hc h1 h2 hoo hB
        generalize (bs s)[k] = c8 at *
        have hsz := HB.out.size
        have hoo2 := HOO.out.alloc (.cells #[.string ⟨#[]⟩] 9)
        go_wp2_with (at_builtin; (refine wpList_append_own _ rfl _ _ 22 rfl w.heap.size 9 j0 (.string ⟨#[]⟩) 1 16 Tryz.underlying22 hj hy0 hy1 hy2 rfl (by decide) _ _ _ rfl hoo2 ⟨wr.heap.size, 0, none⟩ 1 1 [.string ⟨#[]⟩] rfl rfl (cell_one_new _ _ _) (fun x hx => by simp at hx; subst hx; rfl) (by unfold maxLen; omega) (by omega) (by simp; omega) ?_); intro v' w2 hown' hgrow _)
        have hB2 : Below w.heap.size w w2 := (HB.out.alloc hsz _).grown hgrow (by simp; omega) (fun q hq => (HOO.out.lt q hq).1)
        have HO2 := Lib.hid hown'
        have HB2 := Lib.hid hB2
        clear hown' hgrow hB2 hoo2
        go_wp2
        go_roundw
        case rel => exact ⟨k + 1, a ++ [b], [], _, _, hlt, by go_num, H1.out, H2.out, by simp; omega, Nat.zero_le _, by simpa [cFs] using HO2.out, HB2.out⟩
        case measure => simp [intOf]; omega
      · have hc1 : (((bs s)[k].toNat : Int) == 44) = false := by
          have : ¬ ((bs s)[k].toNat : Int) = 44 := fun e => hc (UInt8.toNat_inj.1 (by have : (bs s)[k].toNat = 44 := by omega
                                                                                      exact this))
          simpa using this
        obtain ⟨g, cap, hv⟩ := ownsRow_succ hoo
        subst hv
        have hcell := hoo.cellAt a.length (by omega)
        have hfro := hoo.frozenAt a.length
        rw [show (cFs (a ++ [b]))[a.length]? = some (.string (strOf b)) by simp [cFs]] at hcell
        obtain ⟨p', ps', h1, h2⟩ : ∃ p' ps', J.parts ((bs s).drop (k + 1)) = p' :: ps' ∧ a ++ ((b ++ bs (s.extract k (k + 1))) ++ p') :: ps' = J.parts (bs s) := by
          cases h : J.parts ((bs s).drop (k + 1)) with
          | nil => exact absurd h (J.parts_ne _)
          | cons p' ps' =>
            rw [hdr, J.parts_other hc _ h] at hp
            injection hp with e1 e2
            refine ⟨p', ps', rfl, ?_⟩
            rw [← hx, ← e1, ← e2, hat]
            simp
        have HT := Lib.hid (show (b ++ bs (s.extract k (k + 1))).length ≤ k + 1 by rw [hat]; simp; omega)
        have H1 := Lib.hid h1
        have H2 := Lib.hid h2
        have HOO := Lib.hid hoo
        have HB := Lib.hid hB
        have HCA := Lib.hid (cat_bs b (s.extract k (k + 1)))
        have hbs : (strOf b).size ≤ 1099511627776 := by show b.length ≤ _; omega
        clear hp hx hdr hat hc h1 h2 hoo hB hks
        generalize (bs s)[k] = c8 at *
        go_wp2_with fail
        go_region
        have hst := HOO.out.stored a.length (.string (strOf b ++ s.extract k (k + 1)))
        have hset : (cFs (a ++ [b])).set a.length (.string (strOf b ++ s.extract k (k + 1))) = cFs (a ++ [b ++ bs (s.extract k (k + 1))]) := by
          rw [HCA.out]
          simp [cFs]
        rw [hset] at hst
        have hB2 : Below w.heap.size w (wr.setCell ⟨g, a.length, none⟩ (.string (strOf b ++ s.extract k (k + 1)))).drew := (HB.out.setCell (p := ⟨g, a.length, none⟩) (HOO.out.lt g rfl).1 _).drew
        have HO2 := Lib.hid hst.1
        have HB2 := Lib.hid hB2
        clear hst hset hB2 hcell hfro
        go_wp2
        go_roundw
        case rel => exact ⟨k + 1, a, b ++ bs (s.extract k (k + 1)), p', ps', hlt, by go_num, H1.out, H2.out, by omega, HT.out, HO2.out, HB2.out⟩
        case measure => simp [intOf]; omega
    · obtain rfl : k = (bs s).length := by omega
      rw [List.drop_length] at hp
      injection hp with e1 e2
      subst e1 e2
      rw [List.append_nil] at hx
      obtain ⟨A, c, hv, hrd⟩ := rd_of_own hoo
      have hlen : a.length + 1 = (J.parts (bs s)).length := by rw [← hx]; simp
      rw [hx] at hrd
      have HR := Lib.hid hrd
      have HB := Lib.hid hB
      have HV := Lib.hid hv
      have HL := Lib.hid hlen
      clear hx hoo hB hrd hv hlen
      go_wp2
      go_ret
      exact ⟨⟨A, c, congrArg Ending.returned (HV.out.trans (by rw [HL.out])), HR.out⟩, HB.out⟩
end Go.Proofs.YtgomondmogpkeaaGreatDoor
