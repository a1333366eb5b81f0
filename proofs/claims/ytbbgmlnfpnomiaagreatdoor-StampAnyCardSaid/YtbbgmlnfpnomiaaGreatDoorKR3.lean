/- The reference's signatures in words, and back; whether two are the same. -/
import Derived.Test.YtbbgmlnfpnomiaaGreatDoorKSameM
import Derived.Test.YtbbgmlnfpnomiaaGreatDoorKR1
import Derived.Test.YtbbgmlnfpnomiaaGreatDoorLR
import Derived.Test.YtbbgmlnfpnomiaaGreatDoorKCv
set_option linter.unusedVariables false
set_option linter.unusedSimpArgs false
namespace Go.Proofs.YtbbgmlnfpnomiaaGreatDoor
open Go.RowKit Go.Sort
theorem topN_dgsK (u k : Nat) (hk : k ≤ 16) : topN u k = dgs (u / 16 ^ (16 - k)) k := by
  induction k with
  | zero => rfl
  | succ k ih =>
    rw [topN_succ, ih (by omega), dgs]
    have e : u / 16 ^ (16 - k) = u / 16 ^ (16 - (k + 1)) / 16 := by
      rw [Nat.div_div_eq_div_mul, ← Nat.pow_succ]
      congr 2
      omega
    rw [e, show 15 - k = 16 - (k + 1) from by omega]
theorem rhexB_calls (u : Nat) (hu : u < 18446744073709551616) (w : World) : Calls Tryz.prog 146 #[cU64 u] w fun e w' => e = .returned (.string (strOf (T.hexB u))) ∧ Ext w w' := by
  have h := rhex_calls u hu w
  rw [topN_dgsK u 16 (by decide), show u / 16 ^ (16 - 16) = u by simp, ← hexT_dgs hu] at h
  exact h
theorem hexsL_snoc (l : List Nat) (n : Nat) : K.hexsL (l ++ [n]) = if l = [] then T.hexB n else K.hexsL l ++ [44] ++ T.hexB n := by
  cases l with
  | nil => simp [K.hexsL, Lib.join_one]
  | cons a l =>
    rw [if_neg (by simp), K.hexsL, K.hexsL, List.cons_append, List.map_cons, List.map_cons, Lib.join_cons, Lib.join_cons]
    simp [Lib.joinTail]
theorem hexsL_take (l : List Nat) (k : Nat) (h : k < l.length) : K.hexsL (l.take (k + 1)) = if k = 0 then T.hexB l[k] else K.hexsL (l.take k) ++ [44] ++ T.hexB l[k] := by
  rw [List.take_succ_eq_append_getElem h, hexsL_snoc]
  by_cases hk : k = 0
  · subst hk; rfl
  · have hne : l.take k ≠ [] := fun e => by have := congrArg List.length e; rw [List.length_take, List.length_nil] at this; omega
    rw [if_neg hne, if_neg hk]
set_option maxRecDepth 100000 in
set_option maxHeartbeats 4000000 in
theorem rhexes_calls (l : List Nat) (hb : ∀ n ∈ l, n < 18446744073709551616) (A : Option Addr) (c : Nat) (w : World) (hA : Rd w A (cDg l)) (hl : l.length ≤ 100000) :
    Calls Tryz.prog 137 #[.slice A l.length c] w fun e w' => e = .returned (.string (strOf (K.hexsL l))) ∧ Ext w w' := by
  have HA := Lib.hid hA
  have HBD := Lib.hid hb
  clear hA hb
  go_enter Tryz.func137, Tryz.ntmps137
  go_wp2
  go_loopw [3, 4] (fun s i wr => ∃ k : Nat, k ≤ l.length ∧ i = .int .i64 k ∧ s = .string (strOf (K.hexsL (l.take k))) ∧ Ext w wr) (fun _ i _ => l.length - (intOf i).toNat)
  case atStart => exact ⟨0, by omega, rfl, rfl, Ext.rfl' _⟩
  case round =>
    obtain ⟨k, hk, rfl, rfl, hx⟩ := hrel
    by_cases hlt : k < l.length
    · obtain ⟨ad, rfl, _, hc⟩ := (HA.out.ext hx).at_ (j := k) (u := cU64 l[k]) (by simp [hlt])
      have hnb := HBD.out l[k] (by simp)
      have hn1 := K.hexB_len l[k] hnb
      have hpl := K.hexsL_len (l.take k) (fun n hn => HBD.out n (List.mem_of_mem_take hn))
      have hpl2 : (K.hexsL (l.take k)).length ≤ 1700000 := by
        refine Nat.le_trans hpl ?_
        rw [List.length_take]
        omega
      clear hpl
      have HS := Lib.hid (hexsL_take l k hlt)
      have HX := Lib.hid hx
      clear hx
      have hqs : (strOf (T.hexB l[k])).size = 16 := by show (T.hexB l[k]).toArray.size = 16; rw [List.size_toArray]; exact hn1
      generalize hp : K.hexsL (l.take k) = p at *
      have HN := Lib.hid (rhexB_calls l[k] hnb wr)
      have HAP1 := Lib.hid (strOf_append p [44])
      have HAP2 := Lib.hid (strOf_append (p ++ [44]) (T.hexB l[k]))
      have HIT := Lib.hid (show strOf (T.hexB l[k]) = strOf (T.hexB l[k]) from rfl)
      clear hn1
      obtain ⟨q, hq⟩ : ∃ q, strOf (T.hexB l[k]) = q := ⟨_, rfl⟩
      rw [hq] at hqs HN
      have HQ0 := Lib.hid hq
      clear hq HIT
      generalize T.hexB l[k] = t at *
      generalize l[k] = n at *
      by_cases hk0 : k = 0
      · subst hk0
        rw [show ad.add 0 = ad from by unfold Addr.add; rfl] at hc
        have hp0 : p = [] := hp.symm
        have hs0 := HS.out
        rw [if_pos rfl] at hs0
        have HS0 := Lib.hid hs0
        have HQ := Lib.hid (show strOf [] ++ q = strOf t from by rw [← HQ0.out, strOf_append, List.nil_append])
        clear hs0 hp HAP1 HAP2
        subst hp0
        go_wp2_with fail
        refine HN.out.mono ?_
        rintro e w1 ⟨rfl, hx⟩
        have HX1 := Lib.hid (HX.out.tr hx)
        clear hx
        go_wp2
        go_roundw
        case rel => exact ⟨1, hlt, by go_num, by rw [HS0.out]; exact congrArg Value.string HQ.out, HX1.out⟩
        case measure => simp [intOf]; omega
      · clear hp
        go_wp2_with fail
        refine HN.out.mono ?_
        rintro e w1 ⟨rfl, hx⟩
        have HX1 := Lib.hid (HX.out.tr hx)
        clear hx
        go_wp2
        go_roundw
        case rel => exact ⟨k + 1, hlt, by go_num, by rw [HS.out, if_neg hk0, ← HAP2.out, ← HAP1.out, HQ0.out], HX1.out⟩
        case measure => simp [intOf]; omega
    · obtain rfl : k = l.length := by omega
      rw [List.take_length]
      have HX := Lib.hid hx
      clear hx
      go_wp2
      go_ret
      exact ⟨rfl, HX.out⟩
def RHexEnd (n0 : Nat) (r : Option (List Nat)) (e : Ending) (w : World) : Prop :=
  match r with
  | some l => ∃ A c, e = .returned (.tuple #[.slice A l.length c, .bool true]) ∧ Rd w A (cDg l) ∧ (∀ ad, A = some ad → n0 ≤ ad.block)
  | none => e = .returned (.tuple #[.slice none 0 0, .bool false])
theorem parts_sizeK (l : List UInt8) : ∀ p ∈ J.parts l, p.length ≤ l.length := by
  induction l with
  | nil => intro p hp; simp [J.parts] at hp; subst hp; simp
  | cons c l ih =>
    intro p hp
    by_cases hc : c = 44
    · rw [hc, J.parts_comma] at hp
      rcases List.mem_cons.1 hp with rfl | hp
      · simp
      · have := ih p hp; simp; omega
    · cases e : J.parts l with
      | nil => exact absurd e (J.parts_ne l)
      | cons q qs =>
        rw [J.parts_other hc l e] at hp
        rw [e] at ih
        rcases List.mem_cons.1 hp with rfl | hp
        · have := ih q (by simp); simp; omega
        · have := ih p (by simp [hp]); simp; omega
set_option maxRecDepth 100000 in
set_option maxHeartbeats 4000000 in
theorem rphex_calls (s : ByteArray) (hs : s.size ≤ 1099511627776) (w : World) :
    Calls Tryz.prog 129 #[.string s] w fun e w' => RHexEnd w.heap.size (K.phex (bs s)) e w' ∧ Ext w w' := by
  obtain ⟨i0, hi, hz0, hz1, hz2⟩ := info_parts (show (Tryz.prog.info? 22).map (fun i => (i.zero, i.size, i.bytes)) = some (some (.int .u64 0), 1, 8) by kernel_rfl)
  by_cases he : bs s = []
  · have e0 : s.toList.isEmpty = true := toList_empty.2 he
    have HB := Lib.hid (show K.phex (bs s) = some [] by rw [K.phex, if_pos he])
    clear he
    go_enter Tryz.func129, Tryz.ntmps129
    go_wp2
    go_ret2
    exact ⟨by rw [HB.out]; exact ⟨none, 0, rfl, Rd.nil _ _, fun ad e => by cases e⟩, Ext.rfl' _⟩
  · have e0 : s.toList.isEmpty = false := by
      cases hh : s.toList.isEmpty with
      | false => rfl
      | true => exact absurd (toList_empty.1 hh) he
    have HB := Lib.hid (show K.phex (bs s) = K.prs (J.parts (bs s)) [] by rw [K.phex, if_neg he])
    have HPS := Lib.hid (parts_sizeK (bs s))
    have hplen := J.parts_length (bs s)
    have hks : (bs s).length ≤ 1099511627776 := hs
    have HPC := Lib.hid (parts_calls s hs w)
    clear he
    generalize J.parts (bs s) = L at *
    generalize K.phex (bs s) = R at *
    go_enter Tryz.func129, Tryz.ntmps129
    go_wp2_with fail
    refine HPC.out.mono ?_
    rintro e w1 ⟨⟨A, c, rfl, hrd⟩, hx⟩
    have HX := Lib.hid hx
    have HR := Lib.hid hrd
    clear hx hrd
    go_wp2
    go_loopw [5, 6] (fun v i wr => ∃ (k : Nat) (out : List Nat), k ≤ L.length ∧ i = .int .i64 k ∧ K.prs L [] = K.prs (L.drop k) out ∧ out.length = k ∧
        wr.ownsRow w1.heap.size 22 1 v k (cDg out) ∧ Below w1.heap.size w1 wr) (fun _ i _ => L.length - (intOf i).toNat)
    case atStart => exact ⟨0, [], Nat.zero_le _, rfl, rfl, rfl, World.ownsRow_nil _ _ _ _, Below.refl _ _⟩
    case round =>
      obtain ⟨k, out, hk, rfl, hpl, hol, hoo, hB⟩ := hrel
      by_cases hlt : k < L.length
      · obtain ⟨ad, rfl, _, hc⟩ := (HR.out.ext hB).at_ (j := k) (u := .string (strOf L[k])) (by simp [hlt])
        have HP := Lib.hid (rparse_calls (strOf L[k]) wr)
        have hpr : rparse (S.nums (strOf L[k]).data.toList) = parseH (S.nums L[k]) := (parseH_ref _).symm
        rw [hpr] at HP
        rw [List.drop_eq_getElem_cons hlt] at hpl
        have HBX := Lib.hid hB
        have HOO := Lib.hid hoo
        have HOL := Lib.hid hol
        clear hB hoo hol hpr
        cases hp : parseH (S.nums L[k]) with
        | none =>
          have HE := Lib.hid (show R = none by rw [HB.out, hpl]; exact prs_none hp _ _)
          rw [hp] at HP
          clear hpl hp
          generalize L[k] = x at *
          go_wp2_with fail
          refine HP.out.mono ?_
          rintro e w' ⟨he, hx⟩
          obtain rfl : e = .returned (.tuple #[cU64 0, .int .i64 2]) := he
          have HY := Lib.hid (HX.out.tr (show Ext w1 w' from Ext.tr HBX.out hx))
          clear hx
          go_wp2
          go_ret2
          exact ⟨by rw [HE.out]; exact rfl, HY.out⟩
        | some d =>
          have HC := Lib.hid (show K.prs L [] = K.prs (L.drop (k + 1)) (out ++ [d]) by rw [hpl]; exact prs_some hp _ _)
          rw [hp] at HP
          clear hpl hp
          generalize L[k] = x at *
          go_wp2_with fail
          refine HP.out.mono ?_
          rintro e w' ⟨he, hx⟩
          obtain rfl : e = .returned (.tuple #[cU64 d, .int .i64 0]) := he
          have hB1 : Ext w1 w' := Ext.tr HBX.out hx
          have hsz1 := hB1.size
          have hoo0 := ownsRow_kept HOO.out hx.block
          have hoo1 := hoo0.alloc (.cells #[cU64 d] 22)
          clear hx
          go_wp2_with (at_builtin; (refine wpList_append_own _ rfl _ _ 43 rfl w1.heap.size 22 i0 (.int .u64 0) 1 8 Tryz.underlying43 hi hz0 hz1 hz2 rfl (by decide) _ _ _ rfl hoo1 ⟨w'.heap.size, 0, none⟩ 1 1 [cU64 d] rfl rfl (cell_one_new _ _ _) (fun x hx => by simp at hx; subst hx; rfl) (by unfold maxLen; omega) (by omega) (by simp; omega) ?_); intro v' w2 hown' hgrow _)
          have hB2 : Below w1.heap.size w1 w2 := (hB1.alloc _).grown hgrow (by simp; omega) (fun q hq => (hoo0.lt q hq).1)
          have HO2 := Lib.hid hown'
          have HB2 := Lib.hid hB2
          clear hown' hgrow hB2 hB1 hoo1 hoo0
          go_wp2
          go_roundw
          case rel => exact ⟨k + 1, out ++ [d], hlt, by go_num, HC.out, by simp [HOL.out], by simpa [cDg] using HO2.out, HB2.out⟩
          case measure => simp [intOf]; omega
      · obtain rfl : k = L.length := by omega
        rw [List.drop_length] at hpl
        have HBX := Lib.hid hB
        have HPL := Lib.hid (HB.out.trans hpl)
        obtain ⟨A2, c2, rfl, hrd, hat⟩ := rd_of_own_at hoo
        have HRD := Lib.hid hrd
        have HAT := Lib.hid (show ∀ ad, A2 = some ad → w.heap.size ≤ ad.block from fun ad e => Nat.le_trans HX.out.size (hat ad e).1)
        have HOL := Lib.hid hol
        clear hpl hB hoo hrd hol hat
        go_wp2
        go_ret2
        exact ⟨by rw [HPL.out]; exact ⟨A2, c2, by rw [HOL.out]; rfl, HRD.out, HAT.out⟩, HX.out.tr HBX.out⟩
theorem rjoin4 (a b c d : ByteArray) (hl : (J.join [bs a, bs b, bs c, bs d]).length ≤ 140737488355328) (ha : a.size ≤ 1000000) (hb : b.size ≤ 1000000) (hc : c.size ≤ 1000000) (hd : d.size ≤ 1000000) (W : World) :
    Calls Tryz.prog 135 #[.slice (some ⟨W.heap.size, 0, none⟩) 4 4] (W.alloc (.cells #[.string a, .string b, .string c, .string d] 9)) fun e w' => e = .returned (.string ⟨(J.join [bs a, bs b, bs c, bs d]).toArray⟩) ∧ Ext (W.alloc (.cells #[.string a, .string b, .string c, .string d] 9)) w' :=
  rjoin_calls [a, b, c, d] (some ⟨W.heap.size, 0, none⟩) 4 (W.alloc (.cells #[.string a, .string b, .string c, .string d] 9)) (Rd.fresh W (cStrs [a, b, c, d]) 9 (0, 0)) hl (by show 4 ≤ _; decide) (fun s hs => by
    simp at hs
    rcases hs with rfl | rfl | rfl | rfl <;> omega)
set_option maxRecDepth 100000 in
set_option maxHeartbeats 4000000 in
theorem rsigtext_calls (g : K.Sg) (hw : I64 g.who) (hn : I64 g.leaf) (h1 : ∀ x ∈ g.one, x < 18446744073709551616) (h2 : ∀ x ∈ g.path, x < 18446744073709551616) (ho : g.one.length = 18) (hp : g.path.length ≤ 100) (A : Option Addr) (c : Nat) (w : World) (hA : Rd w A (cDg g.path)) :
    Calls Tryz.prog 39 #[.agg (sgV g.who g.leaf g.one A g.path.length c).toArray] w fun e w' => e = .returned (.string (strOf (K.sigT g))) ∧ Ext w w' := by
  obtain ⟨i0, hi, hz0, hz1, hz2⟩ := info_parts (show (Tryz.prog.info? 22).map (fun i => (i.zero, i.size, i.bytes)) = some (some (.int .u64 0), 1, 8) by kernel_rfl)
  have hb := Blk.new w 45 (sgV g.who g.leaf g.one A g.path.length c)
  have hE := (Ext.rfl' w).alloc (.cells (sgV g.who g.leaf g.one A g.path.length c).toArray 45)
  have hat := sgV_at g.who g.leaf g.one ho A g.path.length c
  have HN1 := Lib.hid (fun W => rnum_calls g.who hw W)
  have HN2 := Lib.hid (fun W => rnum_calls g.leaf hn W)
  have HD1 := Lib.hid (fun A1 c1 W hr => rhexes_calls g.one h1 A1 c1 W hr (by omega))
  have HD2 := Lib.hid (fun W (hx : Ext (w.alloc (.cells (sgV g.who g.leaf g.one A g.path.length c).toArray 45)) W) => rhexes_calls g.path h2 A c W (hA.ext (hE.tr hx)) (by omega))
  rw [ho] at HD1
  have e3 := K.hexsL_len g.one h1
  have e4 := K.hexsL_len g.path h2
  have e1 := Lib.itoa_length_le g.who hw.1 hw.2
  have e2 := Lib.itoa_length_le g.leaf hn.1 hn.2
  have HJ := Lib.hid (fun W => rjoin4 (strOf (Lib.itoa g.who)) (strOf (Lib.itoa g.leaf)) (strOf (K.hexsL g.one)) (strOf (K.hexsL g.path)) (Nat.le_trans (sigT_len g hw hn h1 h2 ho hp) (by decide)) (by show (Lib.itoa g.who).toArray.size ≤ _; simp; omega) (by show (Lib.itoa g.leaf).toArray.size ≤ _; simp; omega) (by show (K.hexsL g.one).toArray.size ≤ _; simp; omega) (by show (K.hexsL g.path).toArray.size ≤ _; simp; omega) W)
  change Hid (∀ W : World, Calls Tryz.prog 135 #[.slice (some ⟨W.heap.size, 0, none⟩) 4 4] (W.alloc (.cells #[.string (strOf (Lib.itoa g.who)), .string (strOf (Lib.itoa g.leaf)), .string (strOf (K.hexsL g.one)), .string (strOf (K.hexsL g.path))] 9)) fun e w' => e = .returned (.string (strOf (K.sigT g))) ∧ Ext (W.alloc (.cells #[.string (strOf (Lib.itoa g.who)), .string (strOf (Lib.itoa g.leaf)), .string (strOf (K.hexsL g.one)), .string (strOf (K.hexsL g.path))] 9)) w') at HJ
  change Hid (∀ W : World, Calls Tryz.prog 136 #[.int .i64 g.who] W fun e w' => e = .returned (.string (strOf (Lib.itoa g.who))) ∧ Ext W w') at HN1
  change Hid (∀ W : World, Calls Tryz.prog 136 #[.int .i64 g.leaf] W fun e w' => e = .returned (.string (strOf (Lib.itoa g.leaf))) ∧ Ext W w') at HN2
  generalize strOf (K.sigT g) = TT at *
  generalize strOf (Lib.itoa g.who) = s0 at *
  generalize strOf (Lib.itoa g.leaf) = s1 at *
  generalize strOf (K.hexsL g.one) = s2 at *
  generalize strOf (K.hexsL g.path) = s3 at *
  generalize sgV g.who g.leaf g.one A g.path.length c = SG at *
  clear e1 e2 e3 e4 hw hn h1 h2 hp hA
  generalize g.path.length = n at *
  obtain ⟨who, leaf, one, path⟩ := g
  dsimp only at *
  go_enter Tryz.func39, Tryz.ntmps39
  go_upto_region 1 with (fail)
  have HC0 := Lib.hid (show ∀ W, Ext (w.alloc (.cells SG.toArray 45)) W → (W.cell? ⟨w.heap.size, 0, none⟩ = some (.int .i64 who) ∧ W.cell? ⟨w.heap.size, 1, none⟩ = some (.int .i64 leaf) ∧ W.cell? ⟨w.heap.size, 20, none⟩ = some (.slice A n c)) from fun W hx => ⟨(hb.ext hx).cell hat.1, (hb.ext hx).cell hat.2.1, (hb.ext hx).cell hat.2.2.1⟩)
  have HCO := Lib.hid (show ∀ W, Ext (w.alloc (.cells SG.toArray 45)) W → ∀ k, k < 18 → W.cell? ⟨w.heap.size, 2 + k, none⟩ = some (cU64 (one.getD k 0)) from fun W hx k hk => by rw [Nat.add_comm 2 k]; exact (hb.ext hx).cell (hat.2.2.2 k _ (by simp [List.getD, List.getElem?_eq_getElem (show k < one.length by omega)])))
  have HE := Lib.hid hE
  clear hE hb hat
  generalize w.alloc (.cells SG.toArray 45) = W0 at *
  go_wp2
  go_loopw [3, 4] (fun v i wr => ∃ k : Nat, k ≤ 18 ∧ i = .int .i64 (k : Int) ∧ wr.ownsRow W0.heap.size 22 1 v k (cDg (one.take k)) ∧ Ext W0 wr) (fun _ i _ => 18 - (intOf i).toNat)
  case atStart => exact ⟨0, by omega, rfl, World.ownsRow_nil _ _ _ _, Ext.rfl' _⟩
  case round =>
    obtain ⟨k, hk, rfl, hoo, hE⟩ := hrel
    by_cases hlt : k < 18
    · have hc := HCO.out _ hE k hlt
      have HS := Lib.hid (show one.take (k + 1) = one.take k ++ [one.getD k 0] from by
        rw [List.take_succ_eq_append_getElem (show k < one.length by omega)]
        simp [List.getD, List.getElem?_eq_getElem (show k < one.length by omega)])
      generalize one.getD k 0 = y at *
      have hoo2 := hoo.alloc (.cells #[cU64 y] 22)
      have hE2 := hE.alloc (.cells #[cU64 y] 22)
      have hsz := hE.size
      clear hoo hE
      go_wp2_with (at_builtin; (refine wpList_append_own _ rfl _ _ 43 rfl W0.heap.size 22 i0 (.int .u64 0) 1 8 Tryz.underlying43 hi hz0 hz1 hz2 rfl (by decide) _ _ _ rfl hoo2 ⟨wr.heap.size, 0, none⟩ 1 1 [cU64 y] rfl rfl (cell_one_new _ _ _) (fun x hx => by simp at hx; subst hx; rfl) (by unfold maxLen; omega) (by omega) (by simp; omega) ?_); intro v' w2 hown' hgrow _; have HO2 := Lib.hid hown'; have HB2 := Lib.hid (show Ext W0 w2 from hE2.grown hgrow (by simp; omega) (fun q hq => (hoo2.lt q hq).1)); clear hown' hgrow hoo2 hE2)
      go_wp2
      go_roundw
      case rel => exact ⟨k + 1, hlt, by go_num, by rw [HS.out]; simpa [cDg] using HO2.out, HB2.out⟩
      case measure => simp [intOf]; omega
    · obtain rfl : k = 18 := by omega
      rw [List.take_of_length_le (by omega)] at hoo
      obtain ⟨A1, c1, rfl, hr⟩ := rd_of_own hoo
      have HR := Lib.hid hr
      replace HD1 := Lib.hid (show ∀ W, Ext wr W → _ from fun W hx => HD1.out A1 c1 W (HR.out.ext hx))
      replace HD2 := Lib.hid (show ∀ W, Ext wr W → _ from fun W hx => HD2.out W (Ext.tr hE hx))
      have HC := Lib.hid (show (∀ W, Ext wr W → W.cell? ⟨w.heap.size, 0, none⟩ = some (.int .i64 who)) ∧ (∀ W, Ext wr W → W.cell? ⟨w.heap.size, 1, none⟩ = some (.int .i64 leaf)) ∧ (∀ W, Ext wr W → W.cell? ⟨w.heap.size, 20, none⟩ = some (.slice A n c)) from ⟨fun W hx => (HC0.out W (Ext.tr hE hx)).1, fun W hx => (HC0.out W (Ext.tr hE hx)).2.1, fun W hx => (HC0.out W (Ext.tr hE hx)).2.2⟩)
      replace HE := Lib.hid (show Ext w wr from HE.out.tr hE)
      clear hoo hr hE HC0 HCO HR
      go_upto_region 6 with (fail)
      have HX := Lib.hid (show Ext wr wr.drew from (Ext.rfl' wr).drew)
      refine wp_region_held_drew (S := fun w' => w'.cell? ⟨w.heap.size, 0, none⟩ = some (.int .i64 who) ∧ w'.cell? ⟨w.heap.size, 1, none⟩ = some (.int .i64 leaf) ∧ w'.cell? ⟨w.heap.size, 20, none⟩ = some (.slice A n c)) (by kernel_rfl) (by (try dsimp only); exact ⟨HC.out.1 _ HX.out, HC.out.2.1 _ HX.out, HC.out.2.2 _ HX.out⟩) (fun hHeld => ?_)
      refine wpAnyH_take (i := 0) (v := ?_) (by first | (simp only [List.getElem?_toArray, List.getElem?_cons_zero, List.getElem?_cons_succ]; done) | (simp only [List.getElem?_toArray, List.getElem?_cons_zero, List.getElem?_cons_succ]; rfl)) (by kernel_rfl) (by kernel_rfl) (by kernel_rfl) (by exact fun _ _ _ h => h) (Or.inl ⟨by rfl, ?hy0⟩) (by assumption) ?_
      case hy0 => (intro w hSw; (try dsimp only at hSw); go_simp; try with_reducible rfl)
      try simp only [Act.put, List.setIfInBounds_toArray, List.set_cons_zero, List.set_cons_succ]
      refine wpAnyH_take (i := 1) (v := ?_) (by first | (simp only [List.getElem?_toArray, List.getElem?_cons_zero, List.getElem?_cons_succ]; done) | (simp only [List.getElem?_toArray, List.getElem?_cons_zero, List.getElem?_cons_succ]; rfl)) (by kernel_rfl) (by kernel_rfl) (by kernel_rfl) (by exact fun _ _ _ h => h) (Or.inl ⟨by rfl, ?hy1⟩) (by assumption) ?_
      case hy1 => (intro w hSw; (try dsimp only at hSw); go_simp; try with_reducible rfl)
      try simp only [Act.put, List.setIfInBounds_toArray, List.set_cons_zero, List.set_cons_succ]
      refine wpAnyH_take (i := 3) (v := ?_) (by first | (simp only [List.getElem?_toArray, List.getElem?_cons_zero, List.getElem?_cons_succ]; done) | (simp only [List.getElem?_toArray, List.getElem?_cons_zero, List.getElem?_cons_succ]; rfl)) (by kernel_rfl) (by kernel_rfl) (by kernel_rfl) (by exact fun _ _ _ h => h) (Or.inl ⟨by rfl, ?hy3⟩) (by assumption) ?_
      case hy3 => (intro w hSw; (try dsimp only at hSw); go_simp; try with_reducible rfl)
      try simp only [Act.put, List.setIfInBounds_toArray, List.set_cons_zero, List.set_cons_succ]
      refine wpAnyH_take (i := 4) (v := ?_) (by first | (simp only [List.getElem?_toArray, List.getElem?_cons_zero, List.getElem?_cons_succ]; done) | (simp only [List.getElem?_toArray, List.getElem?_cons_zero, List.getElem?_cons_succ]; rfl)) (by kernel_rfl) (by kernel_rfl) (by kernel_rfl) (by exact fun _ _ _ h => h) (Or.inl ⟨by rfl, ?hy4⟩) (by assumption) ?_
      case hy4 => (intro w hSw; (try dsimp only at hSw); go_simp; try with_reducible rfl)
      try simp only [Act.put, List.setIfInBounds_toArray, List.set_cons_zero, List.set_cons_succ]
      refine wpAnyH_take (i := 6) (v := ?_) (by first | (simp only [List.getElem?_toArray, List.getElem?_cons_zero, List.getElem?_cons_succ]; done) | (simp only [List.getElem?_toArray, List.getElem?_cons_zero, List.getElem?_cons_succ]; rfl)) (by kernel_rfl) (by kernel_rfl) (by kernel_rfl) (by exact fun _ _ _ h => h) (Or.inl ⟨by rfl, ?hy6⟩) (by assumption) ?_
      case hy6 => (intro w hSw; (try dsimp only at hSw); go_simp; try with_reducible rfl)
      try simp only [Act.put, List.setIfInBounds_toArray, List.set_cons_zero, List.set_cons_succ]
      refine wpAnyH_take (i := 8) (v := ?_) (by first | (simp only [List.getElem?_toArray, List.getElem?_cons_zero, List.getElem?_cons_succ]; done) | (simp only [List.getElem?_toArray, List.getElem?_cons_zero, List.getElem?_cons_succ]; rfl)) (by kernel_rfl) (by kernel_rfl) (by kernel_rfl) (by exact fun _ _ _ h => h) (Or.inl ⟨by rfl, ?hy8⟩) (by assumption) ?_
      case hy8 => (intro w hSw; (try dsimp only at hSw); go_simp; try with_reducible rfl)
      try simp only [Act.put, List.setIfInBounds_toArray, List.set_cons_zero, List.set_cons_succ]
      refine wpAnyH_take (i := 9) (v := ?_) (by first | (simp only [List.getElem?_toArray, List.getElem?_cons_zero, List.getElem?_cons_succ]; done) | (simp only [List.getElem?_toArray, List.getElem?_cons_zero, List.getElem?_cons_succ]; rfl)) (by kernel_rfl) (by kernel_rfl) (by kernel_rfl) (by exact fun _ _ _ h => h) (Or.inl ⟨by rfl, ?hy9⟩) (by assumption) ?_
      case hy9 => (intro w hSw; (try dsimp only at hSw); go_simp; try with_reducible rfl)
      try simp only [Act.put, List.setIfInBounds_toArray, List.set_cons_zero, List.set_cons_succ]
      refine wpAnyH_ready (rs := [2]) (by kernel_rfl) (by simp) ?_
      refine AllReadyH.cons (by first | (simp only [List.getElem?_toArray, List.getElem?_cons_zero, List.getElem?_cons_succ]; done) | (simp only [List.getElem?_toArray, List.getElem?_cons_zero, List.getElem?_cons_succ]; rfl)) (fun K hK => ?_) AllReadyH.nil
      go_simp
      refine (HN1.out _).mono ?_; rintro e W4 ⟨rfl, hx⟩; replace HX := Lib.hid (show Ext wr W4 from HX.out.tr hx); clear hx
      try (go_wp2_with fail)
      refine hK.out _ _ (by (try dsimp only); exact ⟨HC.out.1 _ HX.out, HC.out.2.1 _ HX.out, HC.out.2.2 _ HX.out⟩) (fun hHeld => ?_)
      clear hK K
      try simp only [Act.put, List.setIfInBounds_toArray, List.set_cons_zero, List.set_cons_succ]
      refine wpAnyH_ready (rs := [5]) (by kernel_rfl) (by simp) ?_
      refine AllReadyH.cons (by first | (simp only [List.getElem?_toArray, List.getElem?_cons_zero, List.getElem?_cons_succ]; done) | (simp only [List.getElem?_toArray, List.getElem?_cons_zero, List.getElem?_cons_succ]; rfl)) (fun K hK => ?_) AllReadyH.nil
      go_simp
      refine (HN2.out _).mono ?_; rintro e W4 ⟨rfl, hx⟩; replace HX := Lib.hid (show Ext wr W4 from HX.out.tr hx); clear hx
      try (go_wp2_with fail)
      refine hK.out _ _ (by (try dsimp only); exact ⟨HC.out.1 _ HX.out, HC.out.2.1 _ HX.out, HC.out.2.2 _ HX.out⟩) (fun hHeld => ?_)
      clear hK K
      try simp only [Act.put, List.setIfInBounds_toArray, List.set_cons_zero, List.set_cons_succ]
      refine wpAnyH_ready (rs := [7]) (by kernel_rfl) (by simp) ?_
      refine AllReadyH.cons (by first | (simp only [List.getElem?_toArray, List.getElem?_cons_zero, List.getElem?_cons_succ]; done) | (simp only [List.getElem?_toArray, List.getElem?_cons_zero, List.getElem?_cons_succ]; rfl)) (fun K hK => ?_) AllReadyH.nil
      go_simp
      refine (HD1.out _ HX.out).mono ?_; rintro e W4 ⟨rfl, hx⟩; replace HX := Lib.hid (show Ext wr W4 from HX.out.tr hx); clear hx
      try (go_wp2_with fail)
      refine hK.out _ _ (by (try dsimp only); exact ⟨HC.out.1 _ HX.out, HC.out.2.1 _ HX.out, HC.out.2.2 _ HX.out⟩) (fun hHeld => ?_)
      clear hK K
      try simp only [Act.put, List.setIfInBounds_toArray, List.set_cons_zero, List.set_cons_succ]
      refine wpAnyH_ready (rs := [10]) (by kernel_rfl) (by simp) ?_
      refine AllReadyH.cons (by first | (simp only [List.getElem?_toArray, List.getElem?_cons_zero, List.getElem?_cons_succ]; done) | (simp only [List.getElem?_toArray, List.getElem?_cons_zero, List.getElem?_cons_succ]; rfl)) (fun K hK => ?_) AllReadyH.nil
      go_simp
      refine (HD2.out _ HX.out).mono ?_; rintro e W4 ⟨rfl, hx⟩; replace HX := Lib.hid (show Ext wr W4 from HX.out.tr hx); clear hx
      try (go_wp2_with fail)
      refine hK.out _ _ (by (try dsimp only); exact ⟨HC.out.1 _ HX.out, HC.out.2.1 _ HX.out, HC.out.2.2 _ HX.out⟩) (fun hHeld => ?_)
      clear hK K
      try simp only [Act.put, List.setIfInBounds_toArray, List.set_cons_zero, List.set_cons_succ]
      refine wpAnyH_ready (rs := [11]) (by kernel_rfl) (by simp) ?_
      refine AllReadyH.cons (by first | (simp only [List.getElem?_toArray, List.getElem?_cons_zero, List.getElem?_cons_succ]; done) | (simp only [List.getElem?_toArray, List.getElem?_cons_zero, List.getElem?_cons_succ]; rfl)) (fun K hK => ?_) AllReadyH.nil
      go_simp
      have HX4 := Lib.hid HX.out; replace HX := Lib.hid (show Ext wr (W4.alloc (.cells #[.string s0, .string s1, .string s2, .string s3] 9)) from HX.out.alloc _)
      try (go_wp2_with fail)
      refine hK.out _ _ (by (try dsimp only); exact ⟨HC.out.1 _ HX.out, HC.out.2.1 _ HX.out, HC.out.2.2 _ HX.out⟩) (fun hHeld => ?_)
      clear hK K
      try simp only [Act.put, List.setIfInBounds_toArray, List.set_cons_zero, List.set_cons_succ]
      refine wpAnyH_ready (rs := [12]) (by kernel_rfl) (by simp) ?_
      refine AllReadyH.cons (by first | (simp only [List.getElem?_toArray, List.getElem?_cons_zero, List.getElem?_cons_succ]; done) | (simp only [List.getElem?_toArray, List.getElem?_cons_zero, List.getElem?_cons_succ]; rfl)) (fun K hK => ?_) AllReadyH.nil
      go_simp
      refine (HJ.out W4).mono ?_; rintro e W5 ⟨rfl, hx⟩; replace HX := Lib.hid (show Ext wr W5 from HX.out.tr hx); clear hx
      try (go_wp2_with fail)
      refine hK.out _ _ (by (try dsimp only); exact ⟨HC.out.1 _ HX.out, HC.out.2.1 _ HX.out, HC.out.2.2 _ HX.out⟩) (fun hHeld => ?_)
      clear hK K
      try simp only [Act.put, List.setIfInBounds_toArray, List.set_cons_zero, List.set_cons_succ]
      refine wpAnyH_take (i := 13) (v := ?_) (by first | (simp only [List.getElem?_toArray, List.getElem?_cons_zero, List.getElem?_cons_succ]; done) | (simp only [List.getElem?_toArray, List.getElem?_cons_zero, List.getElem?_cons_succ]; rfl)) (by kernel_rfl) (by kernel_rfl) (by kernel_rfl) (by exact fun _ _ _ h => h) (Or.inl ⟨by rfl, ?hy13⟩) (by assumption) ?_
      case hy13 => (intro w hSw; (try dsimp only at hSw); go_simp; try with_reducible rfl)
      try simp only [Act.put, List.setIfInBounds_toArray, List.set_cons_zero, List.set_cons_succ]
      refine wpAnyH_done (by kernel_rfl) ?_ _
      clear hHeld
      have HFIN := Lib.hid (HE.out.tr HX.out)
      go_wp2
      go_ret
      exact ⟨rfl, HFIN.out⟩
end Go.Proofs.YtbbgmlnfpnomiaaGreatDoor
