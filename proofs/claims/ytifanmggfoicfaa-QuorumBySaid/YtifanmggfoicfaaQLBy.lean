/- The walk of the law QuorumBy. -/
import Derived.Test.YtifanmggfoicfaaQKn
import Derived.Test.YtifanmggfoicfaaQBy
import Derived.OpenShut
import Derived.BigQuiet
set_option linter.unusedVariables false
namespace Go.Proofs.Ytifanmggfoicfaa
open Go.RowKit Go.Shelf Go.Sort
/-- Has one of a row this number's tens? -/
def anyT (l : List Int) (t : Int) : Bool := l.any fun y => y.tdiv 10 == t
theorem anyT_snoc (l : List Int) (t : Int) (k : Nat) (h : k < l.length) : anyT (l.take (k + 1)) t = (anyT (l.take k) t || (l[k].tdiv 10 == t)) := by
  unfold anyT
  rw [List.take_succ_eq_append_getElem h, List.any_append]
  simp
theorem anyT_first (l : List Int) (t : Int) : anyT l t = (firstOf l t).isSome := by
  unfold anyT firstOf
  rw [Option.isSome_map, Bool.eq_iff_iff, List.any_eq_true, List.find?_isSome]
  rfl
theorem first_there (l : List Int) (k : Nat) (h : k < l.length) : ∃ y, firstOf l (tensOf l[k]) = some (.int .i64 y) ∧ (anyT (l.take k) (tensOf l[k]) = false → y = l[k]) := by
  have h1 : firstOf l (tensOf l[k]) = if anyT (l.take k) (tensOf l[k]) then firstOf (l.take k) (tensOf l[k]) else some (.int .i64 l[k]) := by
    have h2 : ∀ t, tensOf l[k] = t → firstOf l t = if anyT (l.take k) t then firstOf (l.take k) t else some (.int .i64 l[k]) := by
      intro t ht
      have h3 : l = l.take k ++ l[k] :: l.drop (k + 1) := by rw [← List.drop_eq_getElem_cons h, List.take_append_drop]
      generalize l[k] = x at *
      generalize l.take k = p at *
      generalize l.drop (k + 1) = q at *
      subst h3
      rw [anyT_first]
      unfold firstOf
      rw [List.find?_append, List.find?_cons]
      simp only [ht, beq_self_eq_true]
      cases List.find? (fun x => tensOf x == t) p <;> simp
    exact h2 _ rfl
  cases ha : anyT (l.take k) (tensOf l[k]) with
  | false =>
    rw [ha] at h1
    exact ⟨l[k], h1, fun _ => rfl⟩
  | true =>
    rw [ha] at h1
    rw [anyT_first] at ha
    rw [h1]
    unfold firstOf at ha ⊢
    rw [Option.isSome_map] at ha
    obtain ⟨y, hy⟩ := Option.isSome_iff_exists.1 ha
    exact ⟨y, by simp [hy], fun e => by cases e⟩
theorem tens_wrap {x : Int} (h : I64' x) : wrap64 (x.tdiv 10) = x.tdiv 10 := by
  have h2 := tens_wf h
  unfold I64' tensOf at h2
  unfold wrap64
  omega
theorem cntOf_any (l : List Int) (k : Nat) (h : k < l.length) : cntOf (l.take (k + 1)) = if anyT (l.take k) (tensOf l[k]) then cntOf (l.take k) else cntOf (l.take k) + 1 := by
  rw [anyT_first]
  exact cntOf_snoc l k h
set_option maxRecDepth 100000 in
set_option maxHeartbeats 4000000 in
theorem lby_walk (l : List Int) (hb : ∀ x ∈ l, I64' x) (A : Option Addr) (c : Nat) (hl : l.length ≤ 60) (w : World) (hA : Rd w A (cIs l)) :
    Calls Try.prog 7 #[.slice A l.length c] w fun e w' => e = .returned (.bool true) ∧ Ext w w' := by
  have HK := Lib.hid (known6_calls w)
  have HA := Lib.hid hA
  have HB := Lib.hid hb
  clear hA hb
  go_enter Try.func7, Try.ntmps7
  go_wp2_with fail
  refine HK.out.mono ?_
  rintro e w1 ⟨rfl, hx⟩
  have HX1 := Lib.hid hx
  have HA1 := Lib.hid (HA.out.ext hx)
  have HBY := Lib.hid (by_calls l HB.out A c (by omega) w1 HA1.out)
  clear hx HK HA
  go_wp2_with fail
  refine HBY.out.mono ?_
  rintro e w2 ⟨⟨b, rfl, hM⟩, hx⟩
  have HX2 := Lib.hid (HX1.out.tr hx)
  have HA2 := Lib.hid (HA1.out.ext hx)
  have HM := Lib.hid hM
  clear hx hM HBY HA1 HX1
  go_wp2_with fail
  go_loopw [4, 5] (fun n i wr => ∃ k : Nat, k ≤ l.length ∧ i = .int .i64 k ∧ n = .int .i64 (cntOf (l.take k) : Nat) ∧ Ext w2 wr) (fun _ i _ => l.length - (intOf i).toNat)
  case atStart => exact ⟨0, Nat.zero_le _, rfl, by simp [cntOf], Ext.rfl' _⟩
  case round =>
    obtain ⟨k, hk, rfl, rfl, hX⟩ := hrel
    by_cases hlt : k < l.length
    · obtain ⟨ad, rfl, _, c1⟩ := (HA2.out.ext hX).at_ (j := k) (u := .int .i64 l[k]) (by simp [hlt])
      obtain ⟨y, hy, hyx⟩ := first_there l k hlt
      have HN := Lib.hid (cntOf_any l k hlt)
      have hcl := cntOf_le (l.take k)
      rw [List.length_take] at hcl
      have hx := HB.out l[k] (by simp)
      have HSN := Lib.hid (anyT_snoc l (tensOf l[k]))
      obtain ⟨t, ht⟩ : ∃ t, anyT (l.take k) (tensOf l[k]) = t := ⟨_, rfl⟩
      have HT := Lib.hid ht
      rw [ht] at HN hyx
      generalize hnn : cntOf (l.take k) = n at *
      generalize hxx : l[k] = x at *
      have HXX := Lib.hid hxx
      have htw := tens_wf hx
      have hwx := tens_wrap hx
      have HLOOK := Lib.hid (fun W (hW : Ext wr W) => (HM.out.ext (hX.tr hW)).look (t := 115) Try.underlying3 Try.underlying115 (Try.zeroValue3 _) (wf_i64 htw))
      rw [hy] at HLOOK
      have HC1 := Lib.hid c1
      have HX := Lib.hid hX
      have HAk := Lib.hid (HA2.out.ext hX)
      have HYX := Lib.hid hyx
      have hnk : n ≤ 60 := by omega
      have hk60 : k < 60 := by omega
      obtain ⟨wo, hwo⟩ : ∃ wo : World, wo = wr := ⟨_, rfl⟩
      subst hwo
      clear hX c1 ht hy hyx hxx hx htw hnn hcl
      go_wp2
      go_loopw [6, 7] (fun f j wi => ∃ J : Nat, J ≤ k ∧ j = .int .i64 J ∧ f = .bool (!anyT (l.take J) (tensOf x)) ∧ Ext wo wi) (fun _ j _ => k - (intOf j).toNat)
      case atStart => exact ⟨0, Nat.zero_le _, rfl, by simp [anyT], Ext.rfl' _⟩
      case round =>
        obtain ⟨J, hJ, rfl, rfl, hX⟩ := hrel
        by_cases hJl : J < k
        · have hJ2 : J < l.length := by omega
          have c1 := hX.cell HC1.out
          obtain ⟨ad2, hae, _, c2⟩ := (HAk.out.ext hX).at_ (j := J) (u := .int .i64 l[J]) (by simp [hJ2])
          obtain rfl : ad = ad2 := Option.some.inj hae
          have HS := Lib.hid (HSN.out J hJ2)
          have hwz := tens_wrap (HB.out l[J] (by simp))
          generalize anyT (l.take J) (tensOf x) = s at *
          generalize l[J] = z at *
          have HXi := Lib.hid hX
          clear hX
          cases hz : (z.tdiv 10 == x.tdiv 10) with
          | true =>
            go_wp2
            go_quiet (fail)
            go_wp2
            go_roundw
            case rel => exact ⟨J + 1, hJl, by go_num, by rw [HS.out]; unfold tensOf; rw [hz]; simp, HXi.out.drewN _⟩
            case measure => simp [intOf]; omega
          | false =>
            go_wp2
            go_quiet (fail)
            go_wp2
            go_roundw
            case rel => exact ⟨J + 1, hJl, by go_num, by rw [HS.out]; unfold tensOf; rw [hz]; simp, HXi.out.drewN _⟩
            case measure => simp [intOf]; omega
        · obtain rfl : J = k := by omega
          rw [HT.out]
          have c1 := hX.cell HC1.out
          have hlook := HLOOK.out _ hX
          unfold tensOf at hlook
          have HXi := Lib.hid (HX.out.tr hX)
          clear hX
          cases t with
          | true =>
            go_wp2
            go_roundw
            case rel => exact ⟨J + 1, by omega, by go_num, by rw [show cntOf (l.take (J + 1)) = n by simpa using HN.out], HXi.out⟩
            case measure => simp [intOf]; omega
          | false =>
            obtain rfl := HYX.out rfl
            go_wp2
            go_roundw
            case rel => exact ⟨J + 1, by omega, by go_num, by rw [show cntOf (l.take (J + 1)) = n + 1 by simpa using HN.out]; first | rfl | go_num, HXi.out⟩
            case measure => simp [intOf]; omega
    · obtain rfl : k = l.length := by omega
      rw [List.take_length]
      have hlen := (HM.out.ext hX).len (t := 115) Try.underlying115 3
      have HX3 := Lib.hid (HX2.out.tr hX)
      clear hX
      go_wp2
      go_ret
      exact ⟨ret_bool (by first | rfl | simp), HX3.out⟩
theorem lby_long (l : List Int) (A : Option Addr) (c : Nat) (hl : 60 < l.length) (hm : l.length ≤ maxLen) (w : World) :
    Calls Try.prog 7 #[.slice A l.length c] w fun e w' => e = .returned (.bool true) ∧ Ext w w' := by
  have HK := Lib.hid (known6_calls w)
  unfold maxLen at hm
  go_enter Try.func7, Try.ntmps7
  go_wp2_with fail
  refine HK.out.mono ?_
  rintro e w1 ⟨rfl, hx⟩
  have HX := Lib.hid hx
  clear hx
  go_wp2
  go_ret
  exact ⟨rfl, HX.out⟩
theorem quorumBy_walk' {w : World} (A : Option Addr) (l : List Int) (c : Nat) (hA : Rd w A (cIs l)) (wl : ∀ n ∈ l, (Lit.int .i64 n).wf = true) (hm : l.length ≤ maxLen) :
    Calls Try.prog 7 #[.slice A l.length c] w fun e w' => e = .returned (.bool true) ∧ Ext w w' := by
  by_cases h : 60 < l.length
  · exact lby_long l A c h hm w
  · exact lby_walk l (fun x hx => bounds_i64 (wl x hx)) A c (by omega) w hA
end Go.Proofs.Ytifanmggfoicfaa
