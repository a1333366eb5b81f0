/- Texts put together: KTxt1, KTxt2, KTxt3. -/
import Derived.Test.YtbbgmlnfpnomiaaGreatDoorKKeyN
import Derived.Test.YtbbgmlnfpnomiaaGreatDoorLB
import Derived.Test.YtbbgmlnfpnomiaaGreatDoorLD
import Derived.Test.YtbbgmlnfpnomiaaGreatDoorLA
import Derived.OwnWalkIn
import Derived.Test.YtbbgmlnfpnomiaaGreatDoorLE
import Derived.Laws.Cover3
section
/- The walks of key.digests, key.Text. -/
set_option linter.unusedVariables false
set_option linter.unusedSimpArgs false
namespace Go.Proofs.YtbbgmlnfpnomiaaGreatDoor
open Go.RowKit Go.Sort
/-- A digest in words. -/
def hexS (u : Nat) : ByteArray := S.bstr (S.hexT u)
theorem hexS_list (u : Nat) : (hexS u).data.toList = T.hexB u := rfl
theorem hex_map (l : List Nat) (k : Nat) (h : k < l.length) : (l.take (k + 1)).map hexS = (l.take k).map hexS ++ [hexS l[k]] := by
  rw [List.take_succ_eq_append_getElem h, List.map_append]
  rfl
set_option maxHeartbeats 1000000 in
set_option maxRecDepth 100000 in
theorem mapHex_calls (l : List Nat) (hb : ∀ n ∈ l, n < 18446744073709551616) (A : Option Addr) (c : Nat) (w : World) (hA : Rd w A (cDg l)) (hl : l.length ≤ 100000) (ht : TOk w) :
    Calls Tryz.prog 214 #[.slice A l.length c, .func (.func 145) #[] #[]] w fun e w' => (∃ v, e = .returned v ∧ w'.ownsRow w.heap.size 9 1 v l.length (cStrs (l.map hexS))) ∧ Ext w w' := by
  obtain ⟨j0, hj, hy0, hy1, hy2⟩ := info_parts bStr
  have HA := Lib.hid hA
  have HT := Lib.hid (fun w' (hx : Ext w w') => (ht.ext hx).tz)
  have HBD := Lib.hid hb
  clear hA ht hb
  go_enter Tryz.func214, Tryz.ntmps214
  go_wp2
  go_loopw [5, 10] (fun v i wr => ∃ k : Nat, k ≤ l.length ∧ i = .int .i64 k ∧ wr.ownsRow w.heap.size 9 1 v k (cStrs ((l.take k).map hexS)) ∧ Below w.heap.size w wr) (fun _ i _ => l.length - (intOf i).toNat)
  case atStart => exact ⟨0, by omega, rfl, World.ownsRow_nil _ _ _ _, Below.refl _ _⟩
  case round =>
    obtain ⟨k, hk, rfl, hoo, hB⟩ := hrel
    by_cases hlt : k < l.length
    · obtain ⟨ad, rfl, _, hc⟩ := (HA.out.ext hB).at_ (j := k) (u := cU64 l[k]) (by simp [hlt])
      have hnb := HBD.out l[k] (by simp)
      have HS := Lib.hid (hex_map l k hlt)
      have HOO := Lib.hid hoo
      have HBB := Lib.hid hB
      have hT := HT.out _ hB
      generalize l[k] = n at *
      have HTX := Lib.hid (show Calls Tryz.prog 145 #[cU64 n] wr fun e w' => e = .returned (.string (hexS n)) ∧ Ext wr w' from text_calls n hnb wr hT)
      clear hoo hB hT
      go_wp2_with fail
      refine HTX.out.mono ?_
      rintro e w1 ⟨rfl, hx⟩
      have hsz0 := HBB.out.size
      have hB1 := HBB.out.trans (hx.mono hsz0)
      have hoo1 := ownsRow_kept HOO.out hx.block
      have hsz1 := hB1.size
      clear hx
      have hoo2 := hoo1.alloc (.cells #[.string (hexS n)] 9)
      go_wp2_with (at_builtin; (refine wpList_append_own _ rfl _ _ 219 rfl w.heap.size 9 j0 (.string ⟨#[]⟩) 1 16 Tryz.underlying219 hj hy0 hy1 hy2 rfl (by decide) _ _ _ rfl hoo2 ⟨w1.heap.size, 0, none⟩ 1 1 [.string (hexS n)] rfl rfl (cell_one_new _ _ _) (fun x hx => by simp at hx; subst hx; rfl) (by unfold maxLen; omega) (by omega) (by simp; omega) ?_); intro v' w2 hown' hgrow _)
      have hB2 : Below w.heap.size w w2 := (hB1.alloc hsz1 _).grown hgrow (by simp; omega) (fun q hq => (hoo1.lt q hq).1)
      have HO2 := Lib.hid hown'
      have HB2 := Lib.hid hB2
      clear hown' hgrow hB1 hB2 hoo1 hoo2
      go_wp2
      go_roundw
      case rel => exact ⟨k + 1, hlt, by go_num, by rw [HS.out]; simpa [cStrs] using HO2.out, HB2.out⟩
      case measure => simp [intOf]; omega
    · obtain rfl : k = l.length := by omega
      rw [List.take_length] at hoo
      have HR := Lib.hid hoo
      have HB2 := Lib.hid hB
      clear hoo hB
      go_wp2
      go_ret
      exact ⟨⟨_, rfl, HR.out⟩, HB2.out⟩
set_option maxHeartbeats 1000000 in
set_option maxRecDepth 100000 in
theorem digests_calls (l : List Nat) (hb : ∀ n ∈ l, n < 18446744073709551616) (A : Option Addr) (c : Nat) (w : World) (hA : Rd w A (cDg l)) (hl : l.length ≤ 1000) (ht : TOk w) :
    Calls Tryz.prog 132 #[.slice A l.length c] w fun e w' => e = .returned (.string (strOf (K.hexsL l))) ∧ Ext w w' := by
  have HM := Lib.hid (mapHex_calls l hb A c w hA (by omega) ht)
  have hlen := K.hexsL_len l hb
  have hmap : (l.map hexS).map (·.data.toList) = l.map T.hexB := by rw [List.map_map]; rfl
  clear hA ht
  go_enter Tryz.func132, Tryz.ntmps132
  go_wp2_with fail
  refine HM.out.mono ?_
  rintro e w1 ⟨⟨v, rfl, hown⟩, hx⟩
  have HX := Lib.hid hx
  clear hx
  rcases hown.2 with ⟨rfl, h0⟩ | ⟨g, cap, cur, rfl, hbg, hg, hnc, _⟩
  · have hl0 : l = [] := List.eq_nil_of_length_eq_zero h0
    subst hl0
    go_wp2_with fail
    refine (Tryz.strings_Join_none none 0 _ _).mono ?_
    rintro e w2 ⟨rfl, rfl⟩
    go_wp2
    go_ret
    exact ⟨rfl, HX.out⟩
  · have hcells : ∀ (j : Nat) x, (l.map hexS)[j]? = some x → w1.cell? ⟨g, 0 + j, none⟩ = some (.string x) := by
      intro j x hj
      have := hown.cells (g := g) rfl j (.string x) (by rw [List.getElem?_map, hj]; rfl)
      rw [show (⟨g, 0, none⟩ : Addr).add j = ⟨g, 0 + j, none⟩ from by unfold Addr.add; split <;> simp [*]] at this
      exact this
    have hgs : g < w1.heap.size := by
      rcases Nat.lt_or_ge g w1.heap.size with h' | h'
      · exact h'
      · simp [Array.getElem?_eq_none h'] at hg
    have HJ := Lib.hid (Tryz.strings_Join g 0 cap (l.map hexS) ⟨#[44]⟩ w1 hcells hgs (by rw [List.length_map]; omega) (by rw [List.length_map]; exact hnc) (by rw [hmap]; exact Nat.le_trans hlen (by omega)))
    rw [hmap, List.length_map] at HJ
    clear hcells hown hg
    go_wp2_with fail
    refine HJ.out.mono ?_
    rintro e w2 ⟨rfl, hx⟩
    have HY := Lib.hid (HX.out.tr hx)
    clear hx
    go_wp2
    go_ret
    exact ⟨rfl, HY.out⟩
theorem esc_two (s : List UInt8) : (J.esc s).length ≤ 2 * s.length := by
  induction s with
  | nil => exact Nat.le_refl 0
  | cons b s ih =>
    rw [show J.esc (b :: s) = J.esc [b] ++ J.esc s from J.esc_append [b] s, List.length_append, List.length_cons]
    have : (J.esc [b]).length ≤ 2 := by simp only [J.esc, J.esc1]; split <;> simp
    omega
theorem join4 (a b c d : ByteArray) (hl : (J.join [bs a, bs b, bs c, bs d]).length ≤ 140737488355328) (ha : a.size ≤ 1000000) (hb : b.size ≤ 1000000) (hc : c.size ≤ 1000000) (hd : d.size ≤ 1000000) (W : World) :
    Calls Tryz.prog 130 #[.slice (some ⟨W.heap.size, 0, none⟩) 4 4] (W.alloc (.cells #[.string a, .string b, .string c, .string d] 9)) fun e w' => e = .returned (.string ⟨(J.join [bs a, bs b, bs c, bs d]).toArray⟩) ∧ Ext (W.alloc (.cells #[.string a, .string b, .string c, .string d] 9)) w' :=
  join_calls [a, b, c, d] (some ⟨W.heap.size, 0, none⟩) 4 (W.alloc (.cells #[.string a, .string b, .string c, .string d] 9)) (Rd.fresh W (cStrs [a, b, c, d]) 9 (0, 0)) hl (by show 4 ≤ _; decide) (fun s hs => by
    simp at hs
    rcases hs with rfl | rfl | rfl | rfl <;> omega)
theorem sigT_len (g : K.Sg) (hw : I64 g.who) (hn : I64 g.leaf) (h1 : ∀ x ∈ g.one, x < 18446744073709551616) (h2 : ∀ x ∈ g.path, x < 18446744073709551616) (ho : g.one.length = 18) (hp : g.path.length ≤ 100) : (K.sigT g).length ≤ 10000 := by
  have e1 := Lib.itoa_length_le g.who hw.1 hw.2
  have e2 := Lib.itoa_length_le g.leaf hn.1 hn.2
  have e3 := K.hexsL_len g.one h1
  have e4 := K.hexsL_len g.path h2
  have f1 := esc_two (Lib.itoa g.who)
  have f2 := esc_two (Lib.itoa g.leaf)
  have f3 := esc_two (K.hexsL g.one)
  have f4 := esc_two (K.hexsL g.path)
  simp only [K.sigT, K.sigW, J.join, List.length_cons, List.length_append, List.length_nil]
  omega
set_option maxHeartbeats 1000000 in
set_option maxRecDepth 100000 in
theorem ktext_calls (g : K.Sg) (hw : I64 g.who) (hn : I64 g.leaf) (h1 : ∀ x ∈ g.one, x < 18446744073709551616) (h2 : ∀ x ∈ g.path, x < 18446744073709551616) (ho : g.one.length = 18) (hp : g.path.length ≤ 100) (A : Option Addr) (c : Nat) (w : World) (hA : Rd w A (cDg g.path)) (ht : TOk w) :
    Calls Tryz.prog 37 #[.agg (sgV g.who g.leaf g.one A g.path.length c).toArray] w fun e w' => e = .returned (.string (strOf (K.sigT g))) ∧ Ext w w' := by
  have hb := Blk.new w 39 (sgV g.who g.leaf g.one A g.path.length c)
  have hE := (Ext.rfl' w).alloc (.cells (sgV g.who g.leaf g.one A g.path.length c).toArray 39)
  have hat := sgV_at g.who g.leaf g.one ho A g.path.length c
  have hr1 : ∀ W, Ext (w.alloc (.cells (sgV g.who g.leaf g.one A g.path.length c).toArray 39)) W → Rd W (some ⟨w.heap.size, 2, none⟩) (cDg g.one) := fun W hx => by
    have h := (hb.ext hx).rd 2 18
    have e : ((sgV g.who g.leaf g.one A g.path.length c).drop 2).take 18 = cDg g.one := by
      show (cDg g.one ++ [_]).take 18 = _
      rw [List.take_append_of_le_length (by rw [List.length_map, ho]; exact Nat.le_refl _), List.take_of_length_le (by rw [List.length_map, ho]; exact Nat.le_refl _)]
    rwa [e] at h
  have HN1 := Lib.hid (fun W (hx : Ext (w.alloc (.cells (sgV g.who g.leaf g.one A g.path.length c).toArray 39)) W) => num_calls g.who hw.1 hw.2 W (ht.ext (hE.tr hx)).tab)
  have HN2 := Lib.hid (fun W (hx : Ext (w.alloc (.cells (sgV g.who g.leaf g.one A g.path.length c).toArray 39)) W) => num_calls g.leaf hn.1 hn.2 W (ht.ext (hE.tr hx)).tab)
  have HD1 := Lib.hid (fun W (hx : Ext (w.alloc (.cells (sgV g.who g.leaf g.one A g.path.length c).toArray 39)) W) => digests_calls g.one h1 (some ⟨w.heap.size, 2, none⟩) 18 W (hr1 W hx) (by omega) (ht.ext (hE.tr hx)))
  have HD2 := Lib.hid (fun W (hx : Ext (w.alloc (.cells (sgV g.who g.leaf g.one A g.path.length c).toArray 39)) W) => digests_calls g.path h2 A c W (hA.ext (hE.tr hx)) (by omega) (ht.ext (hE.tr hx)))
  rw [ho] at HD1
  have e3 := K.hexsL_len g.one h1
  have e4 := K.hexsL_len g.path h2
  have e1 := Lib.itoa_length_le g.who hw.1 hw.2
  have e2 := Lib.itoa_length_le g.leaf hn.1 hn.2
  have HJ := Lib.hid (fun W => join4 (strOf (Lib.itoa g.who)) (strOf (Lib.itoa g.leaf)) (strOf (K.hexsL g.one)) (strOf (K.hexsL g.path)) (Nat.le_trans (sigT_len g hw hn h1 h2 ho hp) (by decide)) (by show (Lib.itoa g.who).toArray.size ≤ _; simp; omega) (by show (Lib.itoa g.leaf).toArray.size ≤ _; simp; omega) (by show (K.hexsL g.one).toArray.size ≤ _; simp; omega) (by show (K.hexsL g.path).toArray.size ≤ _; simp; omega) W)
  change Hid (∀ W : World, Calls Tryz.prog 130 #[.slice (some ⟨W.heap.size, 0, none⟩) 4 4] (W.alloc (.cells #[.string (strOf (Lib.itoa g.who)), .string (strOf (Lib.itoa g.leaf)), .string (strOf (K.hexsL g.one)), .string (strOf (K.hexsL g.path))] 9)) fun e w' => e = .returned (.string (strOf (K.sigT g))) ∧ Ext (W.alloc (.cells #[.string (strOf (Lib.itoa g.who)), .string (strOf (Lib.itoa g.leaf)), .string (strOf (K.hexsL g.one)), .string (strOf (K.hexsL g.path))] 9)) w') at HJ
  generalize strOf (K.sigT g) = TT at *
  generalize strOf (Lib.itoa g.who) = s0 at *
  generalize strOf (Lib.itoa g.leaf) = s1 at *
  generalize strOf (K.hexsL g.one) = s2 at *
  generalize strOf (K.hexsL g.path) = s3 at *
  generalize sgV g.who g.leaf g.one A g.path.length c = SG at *
  clear e1 e2 e3 e4 hr1 hw hn h1 h2 ho hp hA ht
  generalize g.path.length = n at *
  obtain ⟨who, leaf, one, path⟩ := g
  dsimp only at *
  have HC := Lib.hid (show (∀ W, Ext (w.alloc (.cells SG.toArray 39)) W → W.cell? ⟨w.heap.size, 0, none⟩ = some (.int .i64 who)) ∧ (∀ W, Ext (w.alloc (.cells SG.toArray 39)) W → W.cell? ⟨w.heap.size, 1, none⟩ = some (.int .i64 leaf)) ∧ (∀ W, Ext (w.alloc (.cells SG.toArray 39)) W → W.cell? ⟨w.heap.size, 20, none⟩ = some (.slice A n c)) from ⟨fun W hx => (hb.ext hx).cell hat.1, fun W hx => (hb.ext hx).cell hat.2.1, fun W hx => (hb.ext hx).cell hat.2.2.1⟩)
  clear hat hb
  go_enter Tryz.func37, Tryz.ntmps37
  go_upto_region 1 with (fail)
  have HE := Lib.hid hE
  generalize w.alloc (.cells SG.toArray 39) = W1 at *
  have HX := Lib.hid (show Ext W1 W1.drew from (Ext.rfl' W1).drew)
  clear hE
  refine wp_region_held_drew (S := fun w' => w'.cell? ⟨w.heap.size, 0, none⟩ = some (.int .i64 who) ∧ w'.cell? ⟨w.heap.size, 1, none⟩ = some (.int .i64 leaf) ∧ w'.cell? ⟨w.heap.size, 20, none⟩ = some (.slice A n c)) (by kernel_rfl) (by (try dsimp only); exact ⟨HC.out.1 _ HX.out, HC.out.2.1 _ HX.out, HC.out.2.2 _ HX.out⟩) (fun hHeld => ?_)
  refine wpAnyH_take (i := 0) (v := ?_) (by first | (simp only [List.getElem?_toArray, List.getElem?_cons_zero, List.getElem?_cons_succ]; done) | (simp only [List.getElem?_toArray, List.getElem?_cons_zero, List.getElem?_cons_succ]; rfl)) (by kernel_rfl) (by kernel_rfl) (by kernel_rfl) (by exact fun _ _ _ h => h) (Or.inl ⟨by rfl, ?hy0⟩) (by assumption) ?_
  case hy0 => (intro w hSw; (try dsimp only at hSw); go_simp; try with_reducible rfl)
  try simp only [Act.put, List.setIfInBounds_toArray, List.set_cons_zero, List.set_cons_succ]
  refine wpAnyH_take (i := 1) (v := ?_) (by first | (simp only [List.getElem?_toArray, List.getElem?_cons_zero, List.getElem?_cons_succ]; done) | (simp only [List.getElem?_toArray, List.getElem?_cons_zero, List.getElem?_cons_succ]; rfl)) (by kernel_rfl) (by kernel_rfl) (by kernel_rfl) (by exact fun _ _ _ h => h) (Or.inl ⟨by rfl, ?hy1⟩) (by assumption) ?_
  case hy1 => (intro w hSw; (try dsimp only at hSw); go_simp; try with_reducible rfl)
  try simp only [Act.put, List.setIfInBounds_toArray, List.set_cons_zero, List.set_cons_succ]
  refine wpAnyH_take (i := 3) (v := ?_) (by first | (simp only [List.getElem?_toArray, List.getElem?_cons_zero, List.getElem?_cons_succ]; done) | (simp only [List.getElem?_toArray, List.getElem?_cons_zero, List.getElem?_cons_succ]; rfl)) (by kernel_rfl) (by kernel_rfl) (by kernel_rfl) (by exact fun _ _ _ h => h) (Or.inl ⟨by rfl, ?hy3⟩) (by assumption) ?_
  case hy3 => (intro w hSw; (try dsimp only at hSw); go_simp; try with_reducible rfl)
  try simp only [Act.put, List.setIfInBounds_toArray, List.set_cons_zero, List.set_cons_succ]
  refine wpAnyH_take (i := 4) (v := ?_) (by first | (simp only [List.getElem?_toArray, List.getElem?_cons_zero, List.getElem?_cons_succ]; done) | (simp only [List.getElem?_toArray, List.getElem?_cons_zero, List.getElem?_cons_succ]; rfl)) (by kernel_rfl) (by kernel_rfl) (by kernel_rfl) (by exact fun _ _ _ h => h) (Or.inl ⟨by rfl, ?hy4⟩) (by assumption) ?_
  case hy4 => (intro w hSw; (try dsimp only at hSw); go_simp; try with_reducible rfl)
  try simp only [Act.put, List.setIfInBounds_toArray, List.set_cons_zero, List.set_cons_succ]
  refine wpAnyH_take (i := 6) (v := ?_) (by first | (simp only [List.getElem?_toArray, List.getElem?_cons_zero, List.getElem?_cons_succ]; done) | (simp only [List.getElem?_toArray, List.getElem?_cons_zero, List.getElem?_cons_succ]; rfl)) (by kernel_rfl) (by kernel_rfl) (by kernel_rfl) (by exact fun _ _ _ h => h) (Or.inl ⟨by rfl, ?hy6⟩) (by assumption) ?_
  case hy6 => (intro w hSw; (try dsimp only at hSw); go_simp; try with_reducible rfl)
  try simp only [Act.put, List.setIfInBounds_toArray, List.set_cons_zero, List.set_cons_succ]
  refine wpAnyH_take (i := 7) (v := ?_) (by first | (simp only [List.getElem?_toArray, List.getElem?_cons_zero, List.getElem?_cons_succ]; done) | (simp only [List.getElem?_toArray, List.getElem?_cons_zero, List.getElem?_cons_succ]; rfl)) (by kernel_rfl) (by kernel_rfl) (by kernel_rfl) (by exact fun _ _ _ h => h) (Or.inl ⟨by rfl, ?hy7⟩) (by assumption) ?_
  case hy7 => (intro w hSw; (try dsimp only at hSw); go_simp; try with_reducible rfl)
  try simp only [Act.put, List.setIfInBounds_toArray, List.set_cons_zero, List.set_cons_succ]
  refine wpAnyH_take (i := 9) (v := ?_) (by first | (simp only [List.getElem?_toArray, List.getElem?_cons_zero, List.getElem?_cons_succ]; done) | (simp only [List.getElem?_toArray, List.getElem?_cons_zero, List.getElem?_cons_succ]; rfl)) (by kernel_rfl) (by kernel_rfl) (by kernel_rfl) (by exact fun _ _ _ h => h) (Or.inl ⟨by rfl, ?hy9⟩) (by assumption) ?_
  case hy9 => (intro w hSw; (try dsimp only at hSw); go_simp; try with_reducible rfl)
  try simp only [Act.put, List.setIfInBounds_toArray, List.set_cons_zero, List.set_cons_succ]
  refine wpAnyH_take (i := 10) (v := ?_) (by first | (simp only [List.getElem?_toArray, List.getElem?_cons_zero, List.getElem?_cons_succ]; done) | (simp only [List.getElem?_toArray, List.getElem?_cons_zero, List.getElem?_cons_succ]; rfl)) (by kernel_rfl) (by kernel_rfl) (by kernel_rfl) (by exact fun _ _ _ h => h) (Or.inl ⟨by rfl, ?hy10⟩) (by assumption) ?_
  case hy10 => (intro w hSw; (try dsimp only at hSw); go_simp; try with_reducible rfl)
  try simp only [Act.put, List.setIfInBounds_toArray, List.set_cons_zero, List.set_cons_succ]
  refine wpAnyH_ready (rs := [2]) (by kernel_rfl) (by simp) ?_
  refine AllReadyH.cons (by first | (simp only [List.getElem?_toArray, List.getElem?_cons_zero, List.getElem?_cons_succ]; done) | (simp only [List.getElem?_toArray, List.getElem?_cons_zero, List.getElem?_cons_succ]; rfl)) (fun K hK => ?_) AllReadyH.nil
  go_simp
  refine (HN1.out _ HX.out).mono ?_; rintro e W4 ⟨rfl, hx⟩; replace HX := Lib.hid (show Ext W1 W4 from HX.out.tr hx); clear hx
  try (go_wp2_with fail)
  refine hK.out _ _ (by (try dsimp only); exact ⟨HC.out.1 _ HX.out, HC.out.2.1 _ HX.out, HC.out.2.2 _ HX.out⟩) (fun hHeld => ?_)
  clear hK K
  try simp only [Act.put, List.setIfInBounds_toArray, List.set_cons_zero, List.set_cons_succ]
  refine wpAnyH_ready (rs := [5]) (by kernel_rfl) (by simp) ?_
  refine AllReadyH.cons (by first | (simp only [List.getElem?_toArray, List.getElem?_cons_zero, List.getElem?_cons_succ]; done) | (simp only [List.getElem?_toArray, List.getElem?_cons_zero, List.getElem?_cons_succ]; rfl)) (fun K hK => ?_) AllReadyH.nil
  go_simp
  refine (HN2.out _ HX.out).mono ?_; rintro e W4 ⟨rfl, hx⟩; replace HX := Lib.hid (show Ext W1 W4 from HX.out.tr hx); clear hx
  try (go_wp2_with fail)
  refine hK.out _ _ (by (try dsimp only); exact ⟨HC.out.1 _ HX.out, HC.out.2.1 _ HX.out, HC.out.2.2 _ HX.out⟩) (fun hHeld => ?_)
  clear hK K
  try simp only [Act.put, List.setIfInBounds_toArray, List.set_cons_zero, List.set_cons_succ]
  refine wpAnyH_ready (rs := [8]) (by kernel_rfl) (by simp) ?_
  refine AllReadyH.cons (by first | (simp only [List.getElem?_toArray, List.getElem?_cons_zero, List.getElem?_cons_succ]; done) | (simp only [List.getElem?_toArray, List.getElem?_cons_zero, List.getElem?_cons_succ]; rfl)) (fun K hK => ?_) AllReadyH.nil
  go_simp
  refine (HD1.out _ HX.out).mono ?_; rintro e W4 ⟨rfl, hx⟩; replace HX := Lib.hid (show Ext W1 W4 from HX.out.tr hx); clear hx
  try (go_wp2_with fail)
  refine hK.out _ _ (by (try dsimp only); exact ⟨HC.out.1 _ HX.out, HC.out.2.1 _ HX.out, HC.out.2.2 _ HX.out⟩) (fun hHeld => ?_)
  clear hK K
  try simp only [Act.put, List.setIfInBounds_toArray, List.set_cons_zero, List.set_cons_succ]
  refine wpAnyH_ready (rs := [11]) (by kernel_rfl) (by simp) ?_
  refine AllReadyH.cons (by first | (simp only [List.getElem?_toArray, List.getElem?_cons_zero, List.getElem?_cons_succ]; done) | (simp only [List.getElem?_toArray, List.getElem?_cons_zero, List.getElem?_cons_succ]; rfl)) (fun K hK => ?_) AllReadyH.nil
  go_simp
  refine (HD2.out _ HX.out).mono ?_; rintro e W4 ⟨rfl, hx⟩; replace HX := Lib.hid (show Ext W1 W4 from HX.out.tr hx); clear hx
  try (go_wp2_with fail)
  refine hK.out _ _ (by (try dsimp only); exact ⟨HC.out.1 _ HX.out, HC.out.2.1 _ HX.out, HC.out.2.2 _ HX.out⟩) (fun hHeld => ?_)
  clear hK K
  try simp only [Act.put, List.setIfInBounds_toArray, List.set_cons_zero, List.set_cons_succ]
  refine wpAnyH_ready (rs := [12]) (by kernel_rfl) (by simp) ?_
  refine AllReadyH.cons (by first | (simp only [List.getElem?_toArray, List.getElem?_cons_zero, List.getElem?_cons_succ]; done) | (simp only [List.getElem?_toArray, List.getElem?_cons_zero, List.getElem?_cons_succ]; rfl)) (fun K hK => ?_) AllReadyH.nil
  go_simp
  have HX4 := Lib.hid HX.out; replace HX := Lib.hid (show Ext W1 (W4.alloc (.cells #[.string s0, .string s1, .string s2, .string s3] 9)) from HX.out.alloc _)
  try (go_wp2_with fail)
  refine hK.out _ _ (by (try dsimp only); exact ⟨HC.out.1 _ HX.out, HC.out.2.1 _ HX.out, HC.out.2.2 _ HX.out⟩) (fun hHeld => ?_)
  clear hK K
  try simp only [Act.put, List.setIfInBounds_toArray, List.set_cons_zero, List.set_cons_succ]
  refine wpAnyH_ready (rs := [13]) (by kernel_rfl) (by simp) ?_
  refine AllReadyH.cons (by first | (simp only [List.getElem?_toArray, List.getElem?_cons_zero, List.getElem?_cons_succ]; done) | (simp only [List.getElem?_toArray, List.getElem?_cons_zero, List.getElem?_cons_succ]; rfl)) (fun K hK => ?_) AllReadyH.nil
  go_simp
  refine (HJ.out W4).mono ?_; rintro e W5 ⟨rfl, hx⟩; replace HX := Lib.hid (show Ext W1 W5 from HX.out.tr hx); clear hx
  try (go_wp2_with fail)
  refine hK.out _ _ (by (try dsimp only); exact ⟨HC.out.1 _ HX.out, HC.out.2.1 _ HX.out, HC.out.2.2 _ HX.out⟩) (fun hHeld => ?_)
  clear hK K
  try simp only [Act.put, List.setIfInBounds_toArray, List.set_cons_zero, List.set_cons_succ]
  refine wpAnyH_take (i := 14) (v := ?_) (by first | (simp only [List.getElem?_toArray, List.getElem?_cons_zero, List.getElem?_cons_succ]; done) | (simp only [List.getElem?_toArray, List.getElem?_cons_zero, List.getElem?_cons_succ]; rfl)) (by kernel_rfl) (by kernel_rfl) (by kernel_rfl) (by exact fun _ _ _ h => h) (Or.inl ⟨by rfl, ?hy14⟩) (by assumption) ?_
  case hy14 => (intro w hSw; (try dsimp only at hSw); go_simp; try with_reducible rfl)
  try simp only [Act.put, List.setIfInBounds_toArray, List.set_cons_zero, List.set_cons_succ]
  refine wpAnyH_done (by kernel_rfl) ?_ _
  clear hHeld
  go_wp2
  go_ret
  exact ⟨rfl, HE.out.tr HX.out⟩
end Go.Proofs.YtbbgmlnfpnomiaaGreatDoor
end

section
/- The walk of key.parsed. -/
set_option linter.unusedVariables false
set_option linter.unusedSimpArgs false
namespace Go.Proofs.YtbbgmlnfpnomiaaGreatDoor
open Go.RowKit Go.Shelf Go.Sort
attribute [local go_sem] Oper.semAt_some
theorem own_cap {w : World} {B : Nat} {e : TypeId} {A : Option Addr} {m c n : Nat} {xs : List Value} (h : w.ownsRow B e 1 (.slice A m c) n xs) : n ≤ c := by
  rcases h.2 with ⟨hv, h0⟩ | ⟨g, cap, cur, hv, _, _, hc, _⟩
  · omega
  · cases hv; exact hc
theorem boxed_turn {X Y : World} {row : Option Nat} {B : Nat} {t : TypeId} {v : Value} (h : Boxed X B t v) (hg : X.grownBy Y row) (hr : ∀ r, row = some r → ∃ o : Obj, X.heap[r]? = some o ∧ o.isCells = false) : Boxed Y B t v := by
  refine h.kept hg fun e => ?_
  obtain ⟨o, ho, hc⟩ := hr B e.symm
  rw [show X.heap[B]? = _ from h] at ho
  cases ho
  cases hc
theorem row_turn {X Y : World} {row : Option Nat} {n₀ : Nat} {e : TypeId} {v : Value} {n : Nat} {xs : List Value} (h : X.ownsRow n₀ e 1 v n xs) (hg : X.grownBy Y row) (hr : ∀ r, row = some r → ∃ o : Obj, X.heap[r]? = some o ∧ o.isCells = false) : Y.ownsRow n₀ e 1 v n xs := by
  refine h.kept hg ?_
  rcases h.2 with ⟨rfl, _⟩ | ⟨g, cap, cur, rfl, _, hgb, _⟩
  · exact .inl rfl
  · refine .inr fun e' => ?_
    obtain ⟨o, ho, hc⟩ := hr g (by simpa [Value.ownBlock] using e'.symm)
    rw [hgb] at ho
    cases ho
    cases hc
theorem row_set {X : World} {B n₀ : Nat} {t e : TypeId} {u : Value} {v : Value} {n : Nat} {xs : List Value} (h : X.ownsRow n₀ e 1 v n xs) (hb : Boxed X B t u) (hte : t ≠ e) (v' : Value) : (X.setCell ⟨B, 0, none⟩ v').ownsRow n₀ e 1 v n xs :=
  h.kept (grownBy_setCell' X B v') (.inr fun e' => hb.not_row hte h e'.symm)
theorem box_set {X : World} {B C : Nat} {t : TypeId} {u : Value} (h : Boxed X C t u) (hne : C ≠ B) (v' : Value) : Boxed (X.setCell ⟨B, 0, none⟩ v') C t u :=
  h.kept (grownBy_setCell' X B v') (by simpa using hne)
theorem own_addr {w : World} {B : Nat} {e : TypeId} {A : Option Addr} {m c n : Nat} {xs : List Value} (h : w.ownsRow B e 1 (.slice A m c) n xs) : ∀ ad, A = some ad → ∃ g, ad = ⟨g, 0, none⟩ ∧ B ≤ g := fun ad ha => by
  rcases h.2 with ⟨hv, _⟩ | ⟨g, cap, cur, hv, hb, _⟩
  · cases hv; cases ha
  · cases hv; cases ha; exact ⟨g, rfl, hb⟩
abbrev tSd : TypeId := 37
abbrev tEn : TypeId := 26
def HexEnd (n0 : Nat) (r : Option (List Nat)) (e : Ending) (w : World) : Prop :=
  match r with
  | some l => ∃ A c, e = .returned (.tuple #[.slice A l.length c, .int .i64 0]) ∧ Rd w A (cDg l) ∧ l.length ≤ c ∧ ∀ ad, A = some ad → ∃ g, ad = ⟨g, 0, none⟩ ∧ n0 ≤ g
  | none => e = .returned (.tuple #[.slice none 0 0, .int .i64 2])
theorem prs_some {p : List UInt8} {d : Nat} (h : parseH (S.nums p) = some d) (ps : List (List UInt8)) (out : List Nat) : K.prs (p :: ps) out = K.prs ps (out ++ [d]) := by rw [K.prs, h]
theorem prs_none {p : List UInt8} (h : parseH (S.nums p) = none) (ps : List (List UInt8)) (out : List Nat) : K.prs (p :: ps) out = none := by rw [K.prs, h]
/-- Between two rounds: what was read; the boxes. -/
def HexI (w : World) (pre : List Pc) (W : World) : Prop :=
  ∃ (out : List Nat) (v u : Value), (∀ ps, K.prs ((pre.map fun x : Pc => bs x.1) ++ ps) [] = K.prs ps out) ∧ out.length = pre.length ∧
    Boxed W (w.heap.size + 1 + 1) tSd v ∧ W.ownsRow w.heap.size 34 1 v out.length (cDg out) ∧
    Boxed W w.heap.size tSd (.slice none 0 0) ∧ Boxed W (w.heap.size + 1) tEn (.int .i64 0) ∧ Boxed W (w.heap.size + 1 + 1 + 1) 9 u ∧ Boxed W (w.heap.size + 1 + 1 + 1 + 1) 9 (.string comma) ∧ Boxed W (w.heap.size + 1 + 1 + 1 + 2) 3 (.int .i64 0) ∧ Below w.heap.size w W
def HexX (w : World) (pre : List Pc) (W : World) : Prop :=
  (∀ ps, K.prs ((pre.map fun x : Pc => bs x.1) ++ ps) [] = none) ∧ Boxed W w.heap.size tSd (.slice none 0 0) ∧ Boxed W (w.heap.size + 1) tEn (.int .i64 2) ∧ Below w.heap.size w W
theorem hexI_own (w : World) (B : Nat) (hB : w.heap.size ≤ B) : OwnFrom B (HexI w) := by
  rintro pre X Y row ⟨out, v, u, h1, h2, h3, h4, h6, h7, h8, h8a, h8b, h9⟩ hg hr
  have hr2 := fun r e => (hr r e).2
  exact ⟨out, v, u, h1, h2, boxed_turn h3 hg hr2, row_turn h4 hg hr2, boxed_turn h6 hg hr2, boxed_turn h7 hg hr2, boxed_turn h8 hg hr2, boxed_turn h8a hg hr2, boxed_turn h8b hg hr2, h9.grown hg h9.size (fun k e => Nat.le_trans hB (hr k e).1)⟩
theorem hexX_own (w : World) (B : Nat) (hB : w.heap.size ≤ B) : OwnFrom B (HexX w) := by
  rintro pre X Y row ⟨h1, h6, h7, h9⟩ hg hr
  have hr2 := fun r e => (hr r e).2
  exact ⟨h1, boxed_turn h6 hg hr2, boxed_turn h7 hg hr2, h9.grown hg h9.size (fun k e => Nat.le_trans hB (hr k e).1)⟩
theorem hexI_cell (w : World) (pre : List Pc) (W : World) (x : Value) (h : HexI w pre W) : HexI w pre (W.setCell ⟨w.heap.size + 1 + 1 + 1, 0, none⟩ x) := by
  obtain ⟨out, v, u, h1, h2, h3, h4, h6, h7, h8, h8a, h8b, h9⟩ := h
  exact ⟨out, v, x, h1, h2, box_set h3 (by omega) _, row_set h4 h8 (by decide) _, box_set h6 (by omega) _, box_set h7 (by omega) _, h8.set _, box_set h8a (by omega) _, box_set h8b (by omega) _, h9.setCell (p := ⟨w.heap.size + 1 + 1 + 1, 0, none⟩) (by show w.heap.size ≤ w.heap.size + 1 + 1 + 1; omega) _⟩
theorem keeps_own {X Y : World} {n₀ : Nat} {e : TypeId} {v : Value} {n : Nat} {xs : List Value} (h : X.ownsRow n₀ e 1 v n xs) (hg : X.grownBy Y v.ownBlock) : KeepsOthers X Y :=
  KeepsOthers.of_grownBy hg fun j o ej hj => by
    rcases h.2 with ⟨rfl, _⟩ | ⟨g, cap, cur, rfl, _, hgb, _⟩
    · simp [Value.ownBlock] at ej
    · obtain rfl : g = j := by simpa [Value.ownBlock] using ej
      rw [hgb] at hj
      cases hj
      rfl
theorem keepsFrom_ext {B : Nat} {W W' : World} (h : Ext W W') : KeepsFrom B W W' := ⟨h.size, fun k o _ hk _ => (h.block k (Array.getElem?_eq_some_iff.1 hk).1).trans hk⟩
set_option maxRecDepth 100000 in
set_option maxHeartbeats 4000000 in
theorem parsed_calls (s : ByteArray) (hs : s.size ≤ 1099511627776) (w : World) (hg : Gl w) :
    Calls Tryz.prog 126 #[.string s] w fun e w' => HexEnd w.heap.size (K.phex (bs s)) e w' ∧ Ext w w' := by
  obtain ⟨i0, hi, hz0, hz1, hz2⟩ := info_parts bDg
  by_cases he : bs s = []
  · have e0 : s.toList.isEmpty = true := toList_empty.2 he
    have HB := Lib.hid (show K.phex (bs s) = some [] by rw [K.phex, if_pos he])
    clear he
    have q0 := ((Boxed.new w tSd (.slice none 0 0)).alloc (.cells #[.int .i64 0] tEn)).cell
    have q1 := Boxed.new (w.alloc (.cells #[.slice none 0 0] tSd)) tEn (.int .i64 0)
    rw [World.size_alloc] at q1
    have hf0 := ((Boxed.new w tSd (.slice none 0 0)).alloc (.cells #[.int .i64 0] tEn)).frozen
    have hf1 := q1.frozen
    have hb0 := ((Boxed.new w tSd (.slice none 0 0)).alloc (.cells #[.int .i64 0] tEn)).set (.slice none 0 0)
    have hb1 := box_set q1 (B := w.heap.size) (by omega) (.slice none 0 0)
    have q1c := q1.cell
    have q2c := hb1.cell
    have hf2 := hb1.frozen
    have q3 := (box_set hb0 (B := w.heap.size + 1) (by omega) (.int .i64 0)).cell
    have q4 := (hb1.set (.int .i64 0)).cell
    have HX := Lib.hid (Ext.alloc (Ext.alloc (Ext.rfl' w) (.cells #[.slice none 0 0] tSd)) (.cells #[.int .i64 0] tEn))
    clear q3 q4 q2c hf2 hb0 hb1
    have q3 := ((Boxed.new w tSd (.slice none 0 0)).alloc (.cells #[.int .i64 0] tEn)).cell
    have q4 := q1.cell
    go_enter Tryz.func126, Tryz.ntmps126
    go_wp2
    refine bodyPost_ret (v := .tuple #[.slice none 0 0, .int .i64 0]) (by simp [results, Tryz.f126, go_sem, q3, q4]) rfl ⟨?_, HX.out⟩
    rw [HB.out]
    exact ⟨none, 0, rfl, Rd.nil _ _, Nat.le_refl _, fun _ h => by cases h⟩
  · have e0 : s.toList.isEmpty = false := by
      cases hh : s.toList.isEmpty with
      | false => rfl
      | true => exact absurd (toList_empty.1 hh) he
    have HB := Lib.hid (show K.phex (bs s) = K.prs (J.parts (bs s)) [] by rw [K.phex, if_neg he])
    clear he
    refine (callsIn_wide (n := 4)).1 ?_
    refine callsIn_of_wp_marks Tryz.func126 rfl trivial ?_ rfl
    simp only [Tryz.ntmps126, List.size_toArray, List.length_cons, List.length_nil, Nat.reduceAdd, Nat.reduceSub, Array.replicate_succ, Array.replicate_zero, List.push_toArray, List.append_toArray, List.nil_append, List.cons_append]
    gi_wp2_with fail
    refine ⟨trivial, (callsIn_wide.2 (seq_calls s _)).mono ?_⟩
    rintro e w' ⟨rfl, rfl⟩
    have q0 := Boxed.new w tSd (.slice none 0 0)
    have q1 := Boxed.new (w.alloc (.cells #[.slice none 0 0] tSd)) tEn (.int .i64 0)
    have q2 := Boxed.new ((w.alloc (.cells #[.slice none 0 0] tSd)).alloc (.cells #[.int .i64 0] tEn)) tSd (.slice none 0 0)
    have q4 := Boxed.new (((w.alloc (.cells #[.slice none 0 0] tSd)).alloc (.cells #[.int .i64 0] tEn)).alloc (.cells #[.slice none 0 0] tSd)) 9 (.string s)
    have q5 := Boxed.new ((((w.alloc (.cells #[.slice none 0 0] tSd)).alloc (.cells #[.int .i64 0] tEn)).alloc (.cells #[.slice none 0 0] tSd)).alloc (.cells #[.string s] 9)) 9 (.string comma)
    have q6 := Boxed.new (((((w.alloc (.cells #[.slice none 0 0] tSd)).alloc (.cells #[.int .i64 0] tEn)).alloc (.cells #[.slice none 0 0] tSd)).alloc (.cells #[.string s] 9)).alloc (.cells #[.string comma] 9)) 3 (.int .i64 0)
    simp only [World.size_alloc] at q1 q2 q4 q5 q6
    replace q0 := ((((q0.alloc (.cells #[.int .i64 0] tEn)).alloc (.cells #[.slice none 0 0] tSd)).alloc (.cells #[.string s] 9)).alloc (.cells #[.string comma] 9)).alloc (.cells #[.int .i64 0] 3)
    replace q1 := (((q1.alloc (.cells #[.slice none 0 0] tSd)).alloc (.cells #[.string s] 9)).alloc (.cells #[.string comma] 9)).alloc (.cells #[.int .i64 0] 3)
    replace q2 := ((q2.alloc (.cells #[.string s] 9)).alloc (.cells #[.string comma] 9)).alloc (.cells #[.int .i64 0] 3)
    replace q4 := (q4.alloc (.cells #[.string comma] 9)).alloc (.cells #[.int .i64 0] 3)
    replace q5 := q5.alloc (.cells #[.int .i64 0] 3)
    have hB0 : Below w.heap.size w ((((((w.alloc (.cells #[.slice none 0 0] tSd)).alloc (.cells #[.int .i64 0] tEn)).alloc (.cells #[.slice none 0 0] tSd)).alloc (.cells #[.string s] 9)).alloc (.cells #[.string comma] 9)).alloc (.cells #[.int .i64 0] 3)) :=
      ((((((Below.refl _ w).alloc (Nat.le_refl _) _).alloc (by simp) _).alloc (by simp; omega) _).alloc (by simp; omega) _).alloc (by simp; omega) _).alloc (by simp; omega) _
    have hZ : ((((((w.alloc (.cells #[.slice none 0 0] tSd)).alloc (.cells #[.int .i64 0] tEn)).alloc (.cells #[.slice none 0 0] tSd)).alloc (.cells #[.string s] 9)).alloc (.cells #[.string comma] 9)).alloc (.cells #[.int .i64 0] 3)).heap.size = w.heap.size + 1 + 1 + 1 + 1 + 1 + 1 := by simp only [World.size_alloc]
    gi_wp2_with fail
    generalize ((((((w.alloc (.cells #[.slice none 0 0] tSd)).alloc (.cells #[.int .i64 0] tEn)).alloc (.cells #[.slice none 0 0] tSd)).alloc (.cells #[.string s] 9)).alloc (.cells #[.string comma] 9)).alloc (.cells #[.int .i64 0] 3)) = W0 at *
    have hzW : w.heap.size + 1 + 1 + 1 + 3 ≤ W0.heap.size := by omega
    clear hZ
    refine wp_range_cell (gf := 293) (lb := #[.pointer (some ⟨w.heap.size + 1 + 1 + 1 + 1, 0, none⟩), .pointer (some ⟨w.heap.size + 1 + 1 + 1, 0, none⟩), .pointer (some ⟨w.heap.size + 1 + 1 + 1 + 2, 0, none⟩)]) rfl (enters_of Tryz.func293 (by kernel_rfl) rfl)
      (pieces_word s hs w.heap.size (w.heap.size + 1 + 1 + 1) W0 q4 q5 q6) Kp3.trans (fun W k o o' hk hl ho => ⟨(Below.refl _ W).grown (grownBy_putObj' W k o') (by have := (Array.getElem?_eq_some_iff.1 hl).1; omega) (fun j e => by cases e; omega), fun j h1 h2 => World.putObj_heap_other (by omega)⟩)
      (Below.refl _ _) (fun _ => rfl) (HexI w) (HexX w) (hexI_own w _ (by omega)) (hexX_own w _ (by omega)) (hexI_cell w)
      ⟨[], _, _, fun ps => rfl, rfl, q2, World.ownsRow_nil _ _ _ _, q0, q1, q4, q5, q6, hB0⟩
      (fun x => { tmps := #[.string s, undef, .pointer (some ⟨w.heap.size, 0, none⟩), .pointer (some ⟨w.heap.size + 1, 0, none⟩), .pointer (some ⟨w.heap.size + 1 + 1, 0, none⟩), .string x.1, undef, undef, .string s, .bool false, .string s,
          .func (.func 293) #[] #[.pointer (some ⟨w.heap.size + 1 + 1 + 1 + 1, 0, none⟩), .pointer (some ⟨w.heap.size + 1 + 1 + 1, 0, none⟩), .pointer (some ⟨w.heap.size + 1 + 1 + 1 + 2, 0, none⟩)], .string x.1,
          undef, undef, undef, undef, undef, undef, undef, undef, undef, undef, undef, undef, undef], defers := [] }) ?assign ?body ?done ?stop
    case assign =>
      intro l x W K hK
      gi_wp2
      exact hK
    case body =>
      rintro l pre x W ⟨out, v, u, h1, h2, h3, h4, h6, h7, h8, h8a, h8b, h9⟩ hlt
      have hN : (J.parts (bs s)).length ≤ s.size + 1 := J.parts_length (bs s)
      have HP := Lib.hid (parse_calls x.1 (Nat.le_trans x.2 (by decide)) W (hg.ext h9))
      rw [show S.nums x.1.data.toList = S.nums (bs x.1) from rfl] at HP
      cases hp : parseH (S.nums (bs x.1)) with
      | none =>
        have HX := Lib.hid (show ∀ ps, K.prs (((pre ++ [x]).map fun x : Pc => bs x.1) ++ ps) [] = none from fun ps => by
          rw [List.map_append, List.append_assoc, h1]
          exact prs_none hp _ _)
        rw [hp] at HP
        clear h1 hp h2 hlt hN h3 h4 h8
        gi_wp2_with fail
        refine ⟨trivial, (CallsIn.inRound l (callsIn_wide.2 HP.out)).mono ?_⟩
        rintro e W1 ⟨he, hx⟩
        obtain rfl : e = .returned (.tuple #[cU64 0, .int .i64 2]) := he
        have b0 : Boxed W1 w.heap.size tSd (.slice none 0 0) := (hx.block _ h6.lt).trans h6
        have b1 : Boxed W1 (w.heap.size + 1) tEn (.int .i64 0) := (hx.block _ h7.lt).trans h7
        have hB1 := h9.trans (hx.mono h9.size)
        have c0 := b0.cell
        have c1 := b1.cell
        have f0 := b0.frozen
        have f1 := b1.frozen
        gi_wp2
        exact ⟨((keepsFrom_ext hx).trans ((KeepsOthers.setCell _ _ _).from _)).trans ((KeepsOthers.setCell _ _ _).from _), HX.out, box_set (b0.set _) (by omega) _, (box_set b1 (by omega) _).set _,
          (hB1.setCell (p := ⟨w.heap.size, 0, none⟩) (Nat.le_refl _) _).setCell (p := ⟨w.heap.size + 1, 0, none⟩) (by show w.heap.size ≤ w.heap.size + 1; omega) _⟩
      | some m =>
        have HC := Lib.hid (show ∀ ps, K.prs (((pre ++ [x]).map fun x : Pc => bs x.1) ++ ps) [] = K.prs ps (out ++ [m]) from fun ps => by
          rw [List.map_append, List.append_assoc, h1]
          exact prs_some hp _ _)
        rw [hp] at HP
        have HL := Lib.hid h2
        have hol : out.length < s.size + 1 := by omega
        clear h1 hp h2 hlt hN
        gi_wp2_with fail
        refine ⟨trivial, (CallsIn.inRound l (callsIn_wide.2 HP.out)).mono ?_⟩
        rintro en W1 ⟨he, hx⟩
        obtain rfl : en = .returned (.tuple #[cU64 m, .int .i64 0]) := he
        have bO := show Boxed W1 _ _ _ from (hx.block _ h3.lt).trans h3
        have b0 := show Boxed W1 _ _ _ from (hx.block _ h6.lt).trans h6
        have b1 := show Boxed W1 _ _ _ from (hx.block _ h7.lt).trans h7
        have bS := show Boxed W1 _ _ _ from (hx.block _ h8.lt).trans h8
        have bS1 := show Boxed W1 _ _ _ from (hx.block _ h8a.lt).trans h8a
        have bS2 := show Boxed W1 _ _ _ from (hx.block _ h8b.lt).trans h8b
        have hrow := ownsRow_kept h4 hx.block
        have hB1 := h9.trans (hx.mono h9.size)
        have hKF := keepsFrom_ext (B := W0.heap.size) hx
        have hB2 : Below w.heap.size w (W1.alloc (.cells #[cU64 m] 34)) := hB1.alloc hB1.size _
        have hrow2 : (W1.alloc (.cells #[cU64 m] 34)).ownsRow w.heap.size 34 1 v out.length (cDg out) := hrow.alloc _
        have nO := bO.not_row (by decide) hrow
        have n0 := b0.not_row (by decide) hrow
        have n1 := b1.not_row (by decide) hrow
        have nS := bS.not_row (by decide) hrow
        have nS1 := bS1.not_row (by decide) hrow
        have nS2 := bS2.not_row (by decide) hrow
        have dO := show Boxed (W1.alloc (.cells #[cU64 m] 34)) _ _ _ from bO.alloc _
        have d0 := show Boxed (W1.alloc (.cells #[cU64 m] 34)) _ _ _ from b0.alloc _
        have d1 := show Boxed (W1.alloc (.cells #[cU64 m] 34)) _ _ _ from b1.alloc _
        have dS := show Boxed (W1.alloc (.cells #[cU64 m] 34)) _ _ _ from bS.alloc _
        have dS1 := show Boxed (W1.alloc (.cells #[cU64 m] 34)) _ _ _ from bS1.alloc _
        have dS2 := show Boxed (W1.alloc (.cells #[cU64 m] 34)) _ _ _ from bS2.alloc _
        have cO0 := bO.cell
        have HXX := Lib.hid hx
        have H9 := Lib.hid h9
        have HKF := Lib.hid hKF
        have HH := Lib.hid (And.intro h8 (And.intro h8a h8b))
        clear hx h9 hKF h8 h8a h8b h3 h4 h6 h7
        gi_wp2_with (gi_at_builtin; (refine wpListIn_append_own _ rfl _ _ 37 rfl w.heap.size 34 i0 (.int .u64 0) 1 8 Tryz.underlying37 hi hz0 hz1 hz2 rfl (by decide) _ _ _ rfl hrow2 ⟨W1.heap.size, 0, none⟩ 1 1 [cU64 m] rfl rfl (cell_one_new W1 _ _) (fun x hx => by simp at hx; subst hx; rfl) (by unfold maxLen; omega) (by omega) hB2.size ?_); intro v1 w2 hown2 hgrow2 _; obtain ⟨g, cap, rfl⟩ := ownsRow_succ hown2; have eO := dO.kept hgrow2 nO; have cO2 := eO.cell; have fO2 := eO.frozen; have HG := Lib.hid hgrow2; have HW := Lib.hid hown2; clear hgrow2 hown2 cO0)
        have hgrow2 := HG.out
        have hown2 := HW.out
        have e0' := d0.kept hgrow2 n0
        have e1' := d1.kept hgrow2 n1
        have eS := dS.kept hgrow2 nS
        have eS1 := dS1.kept hgrow2 nS1
        have eS2 := dS2.kept hgrow2 nS2
        have hKO := (HKF.out.trans ((KeepsOthers.alloc W1 (.cells #[cU64 m] 34)).from _)).trans ((keeps_own hrow2 hgrow2).from _)
        have hBW := ((HXX.out.mono H9.out.size).alloc hB1.size (.cells #[cU64 m] 34)).grown hgrow2 hB2.size (fun k e => (hrow2.lt k e).1)
        have hB3 := hB2.grown hgrow2 hB2.size (fun k e => (hrow2.lt k e).1)
        have z4 := box_set eS (B := w.heap.size + 1 + 1) (by omega) (.slice (some ⟨g, 0, none⟩) (out.length + 1) cap)
        have z5 := box_set eS1 (B := w.heap.size + 1 + 1) (by omega) (.slice (some ⟨g, 0, none⟩) (out.length + 1) cap)
        have z6 := box_set eS2 (B := w.heap.size + 1 + 1) (by omega) (.slice (some ⟨g, 0, none⟩) (out.length + 1) cap)
        refine ⟨hKO.trans ((KeepsOthers.setCell _ _ _).from _), ⟨?_, fun k hk1 hk2 => ?_⟩, out ++ [m], _, _, HC.out, by simp [HL.out], eO.set _, ?_, box_set e0' (by omega) _, box_set e1' (by omega) _, z4, z5, z6, ?_⟩
        · exact hBW.setCell (p := ⟨w.heap.size + 1 + 1, 0, none⟩) (by show w.heap.size ≤ w.heap.size + 1 + 1; omega) _
        · rcases (show k = w.heap.size + 1 + 1 + 1 ∨ k = w.heap.size + 1 + 1 + 1 + 1 ∨ k = w.heap.size + 1 + 1 + 1 + 2 by omega) with rfl | rfl | rfl
          · exact z4.trans HH.out.1.symm
          · exact z5.trans HH.out.2.1.symm
          · exact z6.trans HH.out.2.2.symm
        · have := row_set hown2 eO (by decide) (.slice (some ⟨g, 0, none⟩) (out.length + 1) cap)
          simpa [cDg] using this
        · exact hB3.setCell (p := ⟨w.heap.size + 1 + 1, 0, none⟩) (by show w.heap.size ≤ w.heap.size + 1 + 1; omega) _
    case done =>
      rintro D ys W hD hS ⟨out, v, u, h1, h2, h3, h4, h6, h7, h8, h8a, h8b, h9⟩ hK
      have hfin := h1 []
      rw [hS, List.append_nil] at hfin
      have HF := Lib.hid hfin
      clear h1 h2 hfin hS
      have c3 := h3.cell
      have c6 := h6.cell
      have c7 := h7.cell
      have f6 := h6.frozen
      have f7 := h7.frozen
      obtain ⟨A, c, rfl, hrd⟩ := rd_of_own h4
      have c7' := (box_set h7 (B := w.heap.size) (by omega) (.slice A out.length c)).cell
      have f7' := (box_set h7 (B := w.heap.size) (by omega) (.slice A out.length c)).frozen
      gi_wp2
      have hK' := (KeepsOthers.setCell (W.setCell ⟨w.heap.size, 0, none⟩ (.slice A out.length c)) ⟨w.heap.size + 1, 0, none⟩ (.int .i64 0)).same D _ ((KeepsOthers.setCell W ⟨w.heap.size, 0, none⟩ (.slice A out.length c)).same D _ hK rfl) rfl
      have r0 := (boxed_turn (box_set (h6.set (.slice A out.length c)) (B := w.heap.size + 1) (by omega) (.int .i64 0)) (grownBy_putObj' _ D (.deferred none)) (fun r e => by cases e; exact ⟨_, hK', rfl⟩)).cell
      have r1 := (boxed_turn ((box_set h7 (B := w.heap.size) (by omega) (.slice A out.length c)).set (.int .i64 0)) (grownBy_putObj' _ D (.deferred none)) (fun r e => by cases e; exact ⟨_, hK', rfl⟩)).cell
      have hBB := ((h9.setCell (p := ⟨w.heap.size, 0, none⟩) (Nat.le_refl _) (.slice A out.length c)).setCell (p := ⟨w.heap.size + 1, 0, none⟩) (by show w.heap.size ≤ w.heap.size + 1; omega) (.int .i64 0)).trans (belowK_b (w := w) (Nat.le_refl _) _ D _ (.deferred none) (by omega) hK' rfl rfl)
      have hrow2 := ownsRow_putObj (row_set (row_set h4 h6 (by decide) (.slice A out.length c)) (box_set h7 (B := w.heap.size) (by omega) (.slice A out.length c)) (by decide) (.int .i64 0)) (.deferred none) hK' rfl
      refine ⟨by simp, .inl ⟨_, _, rfl, run_takeDeferred hK', ?_⟩⟩
      refine ⟨.tuple #[.slice A out.length c, .int .i64 0], ?_, ?_, hBB⟩
      · simp [results, Tryz.f126, go_sem, r0, r1]
      · rw [HB.out, HF.out]
        obtain ⟨A2, c2, e2, hrd2⟩ := rd_of_own hrow2
        have hcap := own_cap hrow2
        cases e2
        exact ⟨A, c, rfl, hrd2, hcap, own_addr hrow2⟩
    case stop =>
      rintro D pre W hD hS ⟨h1, h6, h7, h9⟩ hK
      gi_wp2
      have r0 := (boxed_turn h6 (grownBy_putObj' _ D (.deferred none)) (fun r e => by cases e; exact ⟨_, hK, rfl⟩)).cell
      have r1 := (boxed_turn h7 (grownBy_putObj' _ D (.deferred none)) (fun r e => by cases e; exact ⟨_, hK, rfl⟩)).cell
      have hBB := h9.trans (belowK_b (w := w) (Nat.le_refl _) _ D _ (.deferred none) (by omega) hK rfl rfl)
      refine ⟨by simp, .inl ⟨_, _, rfl, run_takeDeferred hK, ?_⟩⟩
      refine ⟨.tuple #[.slice none 0 0, .int .i64 2], ?_, ?_, hBB⟩
      · simp [results, Tryz.f126, go_sem, r0, r1]
      · obtain ⟨ps, hps⟩ := hS
        rw [HB.out, ← hps, h1]
        exact rfl
end Go.Proofs.YtbbgmlnfpnomiaaGreatDoor
end

section
/- The walk of key.Parse. -/
set_option linter.unusedVariables false
set_option linter.unusedSimpArgs false
namespace Go.Proofs.YtbbgmlnfpnomiaaGreatDoor
open Go.RowKit Go.Sort
def SigEnd (n0 : Nat) (r : Option K.Sg) (e : Ending) (w : World) : Prop :=
  match r with
  | some g => ∃ A c, e = .returned (.tuple #[.agg (sgV g.who g.leaf g.one A g.path.length c).toArray, .int .i64 0]) ∧ Rd w A (cDg g.path) ∧ (∀ ad, A = some ad → n0 ≤ ad.block)
  | none => e = .returned (.tuple #[.agg sgZ.toArray, .int .i64 2])
def mx4 (x y z u : Int) : Int := if u > (if z > (if y > x then y else x) then z else (if y > x then y else x)) then u else (if z > (if y > x then y else x) then z else (if y > x then y else x))
theorem run_max_int4 {P : Program} {w : World} (ts : Array TypeId) (t : TypeId) (k k' k'' k3 : IntKind) (x y z u : Int) : (Builtin.max_ ts t #[.int k x, .int k' y, .int k'' z, .int k3 u]).run P w = .ok (.int k (mx4 x y z u)) w := by
  unfold mx4
  simp [Builtin.max_, Builtin.max2]
theorem mx4_zero : mx4 0 0 0 0 = 0 := rfl
theorem mx4_pos {x y z u : Int} (hx : 0 ≤ x) (hy : 0 ≤ y) (hz : 0 ≤ z) (hu : 0 ≤ u) (h : x ≠ 0 ∨ y ≠ 0 ∨ z ≠ 0 ∨ u ≠ 0) : mx4 x y z u ≠ 0 := by
  unfold mx4
  split <;> split <;> split <;> omega
theorem split_err {s : List UInt8} {n : Nat} (h : J.split s = .error n) : n ≠ 0 := by
  have hm : ∀ l, J.most l = .error n → n ≠ 0 := fun l h => by
    unfold J.most at h
    split at h
    · injection h with h; omega
    · cases h
  cases s with
  | nil => cases h
  | cons c s =>
    generalize hr : J.split (c :: s) = r at h
    rw [J.split] at hr
    split at hr
    · split at hr
      · subst h; exact hm _ hr
      · subst h; injection hr with hr; omega
    · subst h; injection hr with hr; omega
/-- What a number's reading tells, in one form. -/
theorem num_form {p : List UInt8} {e : Ending} (h : NumEnd (J.pnum p) e) : ∃ v x : Int, e = .returned (.tuple #[.int .i64 v, .int .i64 x]) ∧ 0 ≤ x ∧ ((x = 0 ∧ J.pnum p = .ok v) ∨ (x ≠ 0 ∧ ∃ n, J.pnum p = .error n)) := by
  rcases J.pnum_cases p with hp | hp | ⟨v, hp⟩
  · rw [hp] at h; exact ⟨0, 2, h, by decide, .inr ⟨by decide, _, hp⟩⟩
  · rw [hp] at h; exact ⟨0, 4, h, by decide, .inr ⟨by decide, _, hp⟩⟩
  · rw [hp] at h; exact ⟨v, 0, h, by decide, .inl ⟨rfl, hp⟩⟩
/-- What a row of digests' reading tells, in one form. -/
theorem hex_form {n0 : Nat} {p : List UInt8} {e : Ending} {w : World} (h : HexEnd n0 (K.phex p) e w) : ∃ (l : List Nat) (A : Option Addr) (c : Nat) (x : Int), e = .returned (.tuple #[.slice A l.length c, .int .i64 x]) ∧ 0 ≤ x ∧ Rd w A (cDg l) ∧ (∀ ad, A = some ad → ∃ g, ad = ⟨g, 0, none⟩ ∧ n0 ≤ g) ∧ ((x = 0 ∧ K.phex p = some l) ∨ (x ≠ 0 ∧ K.phex p = none)) := by
  cases hp : K.phex p with
  | none => rw [hp] at h; exact ⟨[], none, 0, 2, h, by decide, Rd.nil _ _, (fun _ h => by cases h), .inr ⟨by decide, rfl⟩⟩
  | some l => rw [hp] at h; obtain ⟨A, c, h1, h2, h3, h4⟩ := h; exact ⟨l, A, c, 0, h1, by decide, h2, h4, .inl ⟨rfl, rfl⟩⟩
theorem sig4_bad {fa fb fc fd : List UInt8} {v6 e7 v8 e9 e11 e13 : Int} {l1 l2 : List Nat} (h1 : (e7 = 0 ∧ J.pnum fa = .ok v6) ∨ (e7 ≠ 0 ∧ ∃ n, J.pnum fa = .error n)) (h2 : (e9 = 0 ∧ J.pnum fb = .ok v8) ∨ (e9 ≠ 0 ∧ ∃ n, J.pnum fb = .error n)) (h3 : (e11 = 0 ∧ K.phex fc = some l1) ∨ (e11 ≠ 0 ∧ K.phex fc = none)) (h4 : (e13 = 0 ∧ K.phex fd = some l2) ∨ (e13 ≠ 0 ∧ K.phex fd = none))
    (hb : e7 ≠ 0 ∨ e9 ≠ 0 ∨ e11 ≠ 0 ∨ e13 ≠ 0 ∨ ¬ K.okSg v6 v8 l1 l2) : K.psig4 fa fb fc fd = none := by
  unfold K.psig4
  rcases h1 with ⟨a1, b1⟩ | ⟨a1, n, b1⟩
  · rcases h2 with ⟨a2, b2⟩ | ⟨a2, n, b2⟩
    · rcases h3 with ⟨a3, b3⟩ | ⟨a3, b3⟩
      · rcases h4 with ⟨a4, b4⟩ | ⟨a4, b4⟩
        · rw [b1, b2, b3, b4]
          dsimp only
          rw [if_neg]
          rcases hb with h | h | h | h | h
          · exact absurd a1 h
          · exact absurd a2 h
          · exact absurd a3 h
          · exact absurd a4 h
          · exact h
        · rw [b1, b2, b3, b4]
      · rw [b1, b2, b3]
    · rw [b1, b2]
  · rw [b1]
theorem sig4_good {fa fb fc fd : List UInt8} {v6 e7 v8 e9 e11 e13 : Int} {l1 l2 : List Nat} (h1 : (e7 = 0 ∧ J.pnum fa = .ok v6) ∨ (e7 ≠ 0 ∧ ∃ n, J.pnum fa = .error n)) (h2 : (e9 = 0 ∧ J.pnum fb = .ok v8) ∨ (e9 ≠ 0 ∧ ∃ n, J.pnum fb = .error n)) (h3 : (e11 = 0 ∧ K.phex fc = some l1) ∨ (e11 ≠ 0 ∧ K.phex fc = none)) (h4 : (e13 = 0 ∧ K.phex fd = some l2) ∨ (e13 ≠ 0 ∧ K.phex fd = none))
    (g1 : e7 = 0) (g2 : e9 = 0) (g3 : e11 = 0) (g4 : e13 = 0) (g5 : K.okSg v6 v8 l1 l2) : K.psig4 fa fb fc fd = some ⟨v6, v8, l1, l2⟩ := by
  unfold K.psig4
  rcases h1 with ⟨_, b1⟩ | ⟨a, _⟩
  · rcases h2 with ⟨_, b2⟩ | ⟨a, _⟩
    · rcases h3 with ⟨_, b3⟩ | ⟨a, _⟩
      · rcases h4 with ⟨_, b4⟩ | ⟨a, _⟩
        · rw [b1, b2, b3, b4]
          dsimp only
          rw [if_pos g5]
        · exact absurd g4 a
      · exact absurd g3 a
    · exact absurd g2 a
  · exact absurd g1 a
/-- The way out where it is no signature. -/
theorem esc_ge (s : List UInt8) : s.length ≤ (J.esc s).length := by
  induction s with
  | nil => exact Nat.le_refl 0
  | cons b s ih =>
    rw [show J.esc (b :: s) = J.esc [b] ++ J.esc s from J.esc_append [b] s, List.length_append, List.length_cons]
    have : 1 ≤ (J.esc [b]).length := by simp only [J.esc, J.esc1]; split <;> simp
    omega
theorem bs_strOf (l : List UInt8) : bs (strOf l) = l := by simp [bs]
set_option maxRecDepth 100000 in
set_option maxHeartbeats 4000000 in
theorem kparse_calls (s : ByteArray) (hs : s.size ≤ 1000000) (w : World) (hg : Gl w) (hr : RngOk w) :
    Calls Tryz.prog 35 #[.string s] w fun e w' => SigEnd w.heap.size (K.psig (bs s)) e w' ∧ Ext w w' := by
  have HSP := Lib.hid (fun W => split_calls s (by omega) W)
  have HB0 := Lib.hid (Blk.new w 39 [.int .i64 0, .int .i64 0, .int .u64 0, .int .u64 0, .int .u64 0, .int .u64 0, .int .u64 0, .int .u64 0, .int .u64 0, .int .u64 0, .int .u64 0, .int .u64 0, .int .u64 0, .int .u64 0, .int .u64 0, .int .u64 0, .int .u64 0, .int .u64 0, .int .u64 0, .int .u64 0, .slice none 0 0])
  have HX0 := Lib.hid ((Ext.rfl' w).alloc (.cells #[.int .i64 0, .int .i64 0, .int .u64 0, .int .u64 0, .int .u64 0, .int .u64 0, .int .u64 0, .int .u64 0, .int .u64 0, .int .u64 0, .int .u64 0, .int .u64 0, .int .u64 0, .int .u64 0, .int .u64 0, .int .u64 0, .int .u64 0, .int .u64 0, .int .u64 0, .int .u64 0, .slice none 0 0] 39))
  have HG := Lib.hid (fun W (hx : Ext w W) => hg.ext hx)
  have HR := Lib.hid (fun W (hx : Ext w W) => hr.ext hx)
  have HPS := Lib.hid (show K.psig (bs s) = match J.split (bs s) with | .ok l => K.psigL l | .error _ => none from rfl)
  clear hg hr
  go_enter Tryz.func35, Tryz.ntmps35
  go_upto_region 1 with (fail)
  change Hid (Blk (w.alloc (.cells #[.int .i64 0, .int .i64 0, .int .u64 0, .int .u64 0, .int .u64 0, .int .u64 0, .int .u64 0, .int .u64 0, .int .u64 0, .int .u64 0, .int .u64 0, .int .u64 0, .int .u64 0, .int .u64 0, .int .u64 0, .int .u64 0, .int .u64 0, .int .u64 0, .int .u64 0, .int .u64 0, .slice none 0 0] 39)) w.heap.size 39 [.int .i64 0, .int .i64 0, .int .u64 0, .int .u64 0, .int .u64 0, .int .u64 0, .int .u64 0, .int .u64 0, .int .u64 0, .int .u64 0, .int .u64 0, .int .u64 0, .int .u64 0, .int .u64 0, .int .u64 0, .int .u64 0, .int .u64 0, .int .u64 0, .int .u64 0, .int .u64 0, .slice none 0 0]) at HB0
  generalize w.alloc (.cells #[.int .i64 0, .int .i64 0, .int .u64 0, .int .u64 0, .int .u64 0, .int .u64 0, .int .u64 0, .int .u64 0, .int .u64 0, .int .u64 0, .int .u64 0, .int .u64 0, .int .u64 0, .int .u64 0, .int .u64 0, .int .u64 0, .int .u64 0, .int .u64 0, .int .u64 0, .int .u64 0, .slice none 0 0] 39) = W0 at *
  generalize hZ : ([.int .i64 0, .int .i64 0, .int .u64 0, .int .u64 0, .int .u64 0, .int .u64 0, .int .u64 0, .int .u64 0, .int .u64 0, .int .u64 0, .int .u64 0, .int .u64 0, .int .u64 0, .int .u64 0, .int .u64 0, .int .u64 0, .int .u64 0, .int .u64 0, .int .u64 0, .int .u64 0, .slice none 0 0] : List Value) = ZL at HB0
  have HZ := Lib.hid (show ZL.length = 21 by rw [← hZ]; rfl)
  clear hZ
  go_wp2_with fail
  refine (HSP.out W0).mono ?_
  rintro e W1 ⟨he, hx⟩
  have HB := Lib.hid (HB0.out.ext hx)
  have HX := Lib.hid (HX0.out.tr hx)
  clear hx HB0 HX0 HSP
  cases hsp : J.split (bs s) with
  | error n =>
    rw [hsp] at he
    obtain rfl : e = .returned (.tuple #[.slice none 0 0, .int .i64 (n : Int)]) := he
    have hn := split_err hsp
    have hnz : ((n : Int) != 0) = true := by simp; omega
    have hnz2 : ((n : Int) == 0) = false := by simp; omega
    rw [hsp] at HPS
    go_upto_region 3 with (fail)
    have hth : W1.there w.heap.size 0 21 := by
      have h := HB.out.there
      rw [HZ.out] at h
      exact h
    have hput : Blk (W1.setCells w.heap.size 0 sgZ) w.heap.size 39 sgZ ∧ Ext w (W1.setCells w.heap.size 0 sgZ) := ⟨HB.out.put (by rw [HZ.out]; rfl), Ext.setCells (Nat.le_refl _) _ _ _ HX.out⟩
    refine wp_region_lit ?_
    refine wpList_val rfl (.agg sgZ.toArray) (run_buildZ _ _ rfl _) ?_
    refine wpList_store_mid rfl _ _ _ rfl w.heap.size 0 sgZ.toArray rfl rfl hth rfl (all_oneCell_toArray sgZ_one) ?_
    rw [List.toList_toArray]
    clear hth
    generalize W1.setCells w.heap.size 0 sgZ = W9 at *
    go_wp2
    exact ret_cell_tmp rfl hput.1 Tryz.underlying39 rfl rfl rfl rfl ⟨by rw [HPS.out]; exact rfl, hput.2⟩
  | ok l =>
    rw [hsp] at he HPS
    change Hid (K.psig (bs s) = K.psigL l) at HPS
    obtain ⟨A0, c0, rfl, hrd⟩ : ∃ A c, e = .returned (.tuple #[.slice A l.length c, .int .i64 0]) ∧ Rd W1 A (cFs l) := he
    by_cases h4 : l.length = 4
    · match l, h4 with
      | [fa, fb, fc, fd], _ =>
        have hj := J.join_split hsp
        obtain ⟨ad, rfl, _, hc0⟩ := hrd.at_ (j := 0) (u := .string (strOf fa)) rfl
        have hc1 : W1.cell? (ad.add 1) = some (.string (strOf fb)) := by obtain ⟨_, e, _, h⟩ := hrd.at_ (j := 1) (u := .string (strOf fb)) rfl; cases e; exact h
        have hc2 : W1.cell? (ad.add 2) = some (.string (strOf fc)) := by obtain ⟨_, e, _, h⟩ := hrd.at_ (j := 2) (u := .string (strOf fc)) rfl; cases e; exact h
        have hc3 : W1.cell? (ad.add 3) = some (.string (strOf fd)) := by obtain ⟨_, e, _, h⟩ := hrd.at_ (j := 3) (u := .string (strOf fd)) rfl; cases e; exact h
        rw [show ad.add 0 = ad from by simp [Addr.add]] at hc0
        rw [show ad.add 1 = ⟨ad.block, ad.off + 1, none⟩ from by simp [Addr.add]] at hc1
        rw [show ad.add 2 = ⟨ad.block, ad.off + 2, none⟩ from by simp [Addr.add]] at hc2
        rw [show ad.add 3 = ⟨ad.block, ad.off + 3, none⟩ from by simp [Addr.add]] at hc3
        have hlen : fa.length + fb.length + fc.length + fd.length ≤ s.size := by
          have := congrArg List.length hj
          have e1 := esc_ge fa
          have e2 := esc_ge fb
          have e3 := esc_ge fc
          have e4 := esc_ge fd
          have e5 : (bs s).length = s.size := rfl
          simp only [J.join, List.length_cons, List.length_append, List.length_nil] at this
          omega
        have hz : ∀ f : List UInt8, (strOf f).size = f.length := fun f => by show f.toArray.size = _; simp
        have HC := Lib.hid (And.intro hc0 (And.intro hc1 (And.intro hc2 hc3)))
        have HNa := Lib.hid (fun W hr => pnum_calls (strOf fa) (by rw [hz]; omega) W hr)
        have HNb := Lib.hid (fun W hr => pnum_calls (strOf fb) (by rw [hz]; omega) W hr)
        have HHc := Lib.hid (fun W hg => parsed_calls (strOf fc) (by rw [hz]; omega) W hg)
        have HHd := Lib.hid (fun W hg => parsed_calls (strOf fd) (by rw [hz]; omega) W hg)
        rw [bs_strOf] at HNa HNb HHc HHd
        clear hrd hc1 hc2 hc3 hj hlen hz hsp
        go_wp2_with fail
        refine (HNa.out _ (HR.out _ HX.out)).mono ?_
        rintro e W2 ⟨he, hx⟩
        obtain ⟨v6, e7, rfl, he7, hc7⟩ := num_form he
        replace HX := Lib.hid (HX.out.tr hx)
        replace HB := Lib.hid (HB.out.ext hx)
        have hc1 := hx.cell HC.out.2.1
        replace HC := Lib.hid (And.intro (hx.cell HC.out.2.2.1) (hx.cell HC.out.2.2.2))
        clear hx hc0 he
        go_wp2_with fail
        refine (HNb.out _ (HR.out _ HX.out)).mono ?_
        rintro e W3 ⟨he, hx⟩
        obtain ⟨v8, e9, rfl, he9, hc9⟩ := num_form he
        replace HX := Lib.hid (HX.out.tr hx)
        replace HB := Lib.hid (HB.out.ext hx)
        have hc2 := hx.cell HC.out.1
        replace HC := Lib.hid (hx.cell HC.out.2)
        clear hx hc1 he
        go_wp2_with fail
        refine (HHc.out _ (HG.out _ HX.out)).mono ?_
        rintro e W4 ⟨he, hx⟩
        obtain ⟨l1, A1, c1, e11, rfl, he11, hr1, hl1, hc11⟩ := hex_form he
        replace HX := Lib.hid (HX.out.tr hx)
        replace HB := Lib.hid (HB.out.ext hx)
        have hc3 := hx.cell HC.out
        clear hx hc2 he HC
        go_wp2_with fail
        have hW4 : w.heap.size < W4.heap.size := HB.out.lt
        refine (HHd.out _ (HG.out _ HX.out)).mono ?_
        rintro e W5 ⟨he, hx⟩
        obtain ⟨l2, A2, c2, e13, rfl, he13, hr2, hl2, hc13⟩ := hex_form he
        replace HX := Lib.hid (HX.out.tr hx)
        replace HB := Lib.hid (HB.out.ext hx)
        replace hr1 := hr1.ext hx
        have HR1 := Lib.hid hr1
        have HR2 := Lib.hid hr2
        clear hx hc3 he hr1 hr2 HNa HNb HHc HHd HR HG
        have HP4 := Lib.hid (show K.psig (bs s) = K.psig4 fa fb fc fd from HPS.out)
        have hmx := fun W' : World => run_max_int4 (P := Tryz.prog) (w := W') #[26, 26, 26, 26] 26 .i64 .i64 .i64 .i64 e7 e9 e11 e13
        have hm0 : mx4 e7 e9 e11 e13 = 0 → e7 = 0 ∧ e9 = 0 ∧ e11 = 0 ∧ e13 = 0 := fun h => by
          refine Decidable.byContradiction fun hn => mx4_pos he7 he9 he11 he13 ?_ h
          omega
        have hm1 : e7 = 0 → e9 = 0 → e11 = 0 → e13 = 0 → mx4 e7 e9 e11 e13 = 0 := fun a b c d => by rw [a, b, c, d]; rfl
        have HBAD := Lib.hid (fun hb => HP4.out.trans (sig4_bad hc7 hc9 hc11 hc13 hb))
        have HGOOD := Lib.hid (fun g1 g2 g3 g4 g5 => HP4.out.trans (sig4_good hc7 hc9 hc11 hc13 g1 g2 g3 g4 g5))
        clear hc7 hc9 hc11 hc13 he7 he9 he11 he13 HP4 HPS
        generalize mx4 e7 e9 e11 e13 = M at *
        by_cases b1 : M = 0
        · obtain ⟨rfl, rfl, rfl, rfl⟩ := hm0 b1
          subst b1
          by_cases b2 : v6 < 0
          · have HPS := Lib.hid (HBAD.out (.inr (.inr (.inr (.inr (fun h => absurd h.1 (by omega)))))))
            clear HBAD HGOOD
            go_upto_region 9 with (fail)
            have hth : W5.there w.heap.size 0 21 := by
              have h := HB.out.there
              rw [HZ.out] at h
              exact h
            have hput : Blk (W5.setCells w.heap.size 0 sgZ) w.heap.size 39 sgZ ∧ Ext w (W5.setCells w.heap.size 0 sgZ) := ⟨HB.out.put (by rw [HZ.out]; rfl), Ext.setCells (Nat.le_refl _) _ _ _ HX.out⟩
            refine wp_region_lit ?_
            refine wpList_val rfl (.agg sgZ.toArray) (run_buildZ _ _ rfl _) ?_
            refine wpList_store_mid rfl _ _ _ rfl w.heap.size 0 sgZ.toArray rfl rfl hth rfl (all_oneCell_toArray sgZ_one) ?_
            rw [List.toList_toArray]
            clear hth
            generalize W5.setCells w.heap.size 0 sgZ = W9 at *
            go_wp2
            exact ret_cell_tmp rfl hput.1 Tryz.underlying39 rfl rfl rfl rfl ⟨by rw [HPS.out]; exact rfl, hput.2⟩
          · by_cases b3 : 15 < v6
            · have HPS := Lib.hid (HBAD.out (.inr (.inr (.inr (.inr (fun h => absurd h.2.1 (by omega)))))))
              clear HBAD HGOOD
              go_upto_region 9 with (fail)
              have hth : W5.there w.heap.size 0 21 := by
                have h := HB.out.there
                rw [HZ.out] at h
                exact h
              have hput : Blk (W5.setCells w.heap.size 0 sgZ) w.heap.size 39 sgZ ∧ Ext w (W5.setCells w.heap.size 0 sgZ) := ⟨HB.out.put (by rw [HZ.out]; rfl), Ext.setCells (Nat.le_refl _) _ _ _ HX.out⟩
              refine wp_region_lit ?_
              refine wpList_val rfl (.agg sgZ.toArray) (run_buildZ _ _ rfl _) ?_
              refine wpList_store_mid rfl _ _ _ rfl w.heap.size 0 sgZ.toArray rfl rfl hth rfl (all_oneCell_toArray sgZ_one) ?_
              rw [List.toList_toArray]
              clear hth
              generalize W5.setCells w.heap.size 0 sgZ = W9 at *
              go_wp2
              exact ret_cell_tmp rfl hput.1 Tryz.underlying39 rfl rfl rfl rfl ⟨by rw [HPS.out]; exact rfl, hput.2⟩
            · by_cases b4 : v8 < 0
              · have HPS := Lib.hid (HBAD.out (.inr (.inr (.inr (.inr (fun h => absurd h.2.2.1 (by omega)))))))
                clear HBAD HGOOD
                go_upto_region 9 with (fail)
                have hth : W5.there w.heap.size 0 21 := by
                  have h := HB.out.there
                  rw [HZ.out] at h
                  exact h
                have hput : Blk (W5.setCells w.heap.size 0 sgZ) w.heap.size 39 sgZ ∧ Ext w (W5.setCells w.heap.size 0 sgZ) := ⟨HB.out.put (by rw [HZ.out]; rfl), Ext.setCells (Nat.le_refl _) _ _ _ HX.out⟩
                refine wp_region_lit ?_
                refine wpList_val rfl (.agg sgZ.toArray) (run_buildZ _ _ rfl _) ?_
                refine wpList_store_mid rfl _ _ _ rfl w.heap.size 0 sgZ.toArray rfl rfl hth rfl (all_oneCell_toArray sgZ_one) ?_
                rw [List.toList_toArray]
                clear hth
                generalize W5.setCells w.heap.size 0 sgZ = W9 at *
                go_wp2
                exact ret_cell_tmp rfl hput.1 Tryz.underlying39 rfl rfl rfl rfl ⟨by rw [HPS.out]; exact rfl, hput.2⟩
              · by_cases b5 : l1.length = 18
                · by_cases b6 : 8 < l2.length
                  · have HPS := Lib.hid (HBAD.out (.inr (.inr (.inr (.inr (fun h => absurd h.2.2.2.2 (by omega)))))))
                    have b6' : (8 : Int) < (l2.length : Int) := by omega
                    have b5' : (l1.length : Int) = 18 := by omega
                    clear HBAD HGOOD
                    go_upto_region 9 with (fail)
                    have hth : W5.there w.heap.size 0 21 := by
                      have h := HB.out.there
                      rw [HZ.out] at h
                      exact h
                    have hput : Blk (W5.setCells w.heap.size 0 sgZ) w.heap.size 39 sgZ ∧ Ext w (W5.setCells w.heap.size 0 sgZ) := ⟨HB.out.put (by rw [HZ.out]; rfl), Ext.setCells (Nat.le_refl _) _ _ _ HX.out⟩
                    refine wp_region_lit ?_
                    refine wpList_val rfl (.agg sgZ.toArray) (run_buildZ _ _ rfl _) ?_
                    refine wpList_store_mid rfl _ _ _ rfl w.heap.size 0 sgZ.toArray rfl rfl hth rfl (all_oneCell_toArray sgZ_one) ?_
                    rw [List.toList_toArray]
                    clear hth
                    generalize W5.setCells w.heap.size 0 sgZ = W9 at *
                    go_wp2
                    exact ret_cell_tmp rfl hput.1 Tryz.underlying39 rfl rfl rfl rfl ⟨by rw [HPS.out]; exact rfl, hput.2⟩
                  · have HPS := Lib.hid (HGOOD.out rfl rfl rfl rfl ⟨by omega, by omega, by omega, b5, by omega⟩)
                    clear HBAD HGOOD
                    obtain ⟨ad1, rfl, _, _⟩ := HR1.out.at_ (j := 0) (u := cU64 (l1.getD 0 0)) (by simp [List.getD, List.getElem?_eq_getElem (show 0 < l1.length by omega)])
                    obtain ⟨g1, rfl, _⟩ := hl1 ad1 rfl
                    have hrg : W5.rangeAt g1 0 (cDg l1) := fun j v hj => by
                      obtain ⟨_, e, _, h⟩ := HR1.out.at_ hj
                      cases e
                      rw [show (⟨g1, 0, none⟩ : Addr).add j = ⟨g1, 0 + j, none⟩ from by unfold Addr.add; split <;> simp [*]] at h
                      exact h
                    obtain ⟨o0, o1, o2, o3, o4, o5, o6, o7, o8, o9, o10, o11, o12, o13, o14, o15, o16, o17, hO⟩ := list18 (cDg l1) (by rw [List.length_map, b5])
                    obtain ⟨SG, hSG⟩ : ∃ SG, SG = sgV v6 v8 l1 A2 l2.length c2 := ⟨_, rfl⟩
                    have HSG := Lib.hid hSG
                    have HLN := Lib.hid (show SG.length = 21 by rw [hSG]; exact sgV_len _ _ _ b5 _ _ _)
                    have hon := all_oneCell_toArray (show ∀ x ∈ SG, x.oneCell' = true by rw [hSG]; exact sgV_one _ _ _ _ _ _)
                    have HV := Lib.hid (show SG = [.int .i64 v6, .int .i64 v8, o0, o1, o2, o3, o4, o5, o6, o7, o8, o9, o10, o11, o12, o13, o14, o15, o16, o17, .slice A2 l2.length c2] by rw [hSG, sgV, hO]; rfl)
                    rw [hO] at hrg
                    have hs21 : SG.toArray.size = 21 := by rw [List.size_toArray]; exact HLN.out
                    have hth : W5.there w.heap.size 0 SG.toArray.size := by
                      have h := HB.out.there
                      rw [HZ.out] at h
                      rw [hs21]
                      exact h
                    have hi21 : (Tryz.prog.info? 39).map (·.size) = some SG.toArray.size := by rw [hs21]; rfl
                    have HFI := Lib.hid (show Blk (W5.setCells w.heap.size 0 SG) w.heap.size 39 SG ∧ Ext w (W5.setCells w.heap.size 0 SG) from ⟨HB.out.put (by rw [HZ.out]; exact HLN.out), Ext.setCells (Nat.le_refl _) _ _ _ HX.out⟩)
                    have HR3 := Lib.hid (show Rd (W5.setCells w.heap.size 0 SG) A2 (cDg l2) from Rd.setCellsO (fun ad e => by
                      obtain ⟨g2, rfl, hg2⟩ := hl2 ad e
                      show g2 ≠ w.heap.size
                      omega) _ _ _ HR2.out)
                    have HA2 := Lib.hid (show ∀ ad, A2 = some ad → w.heap.size ≤ ad.block from fun ad e => by
                      obtain ⟨g2, rfl, hg2⟩ := hl2 ad e
                      show w.heap.size ≤ g2
                      omega)
                    have b5' : (l1.length : Int) = 18 := by omega
                    have hb6 : ¬ ((8 : Int) < (l2.length : Int)) := by omega
                    clear hO hSG hs21 HR1 HR2
                    have har : ∀ W' : World, (Instr.arrayAt 36 (.slice (some ⟨g1, 0, none⟩) 18 c1)).run Tryz.prog W' = .ok (.pointer (some ⟨g1, 0, none⟩)) W' := fun W' => by first | exact run_arrayAt W' _ _ _ _ _ _ Tryz.underlying36 (by decide) | exact run_arrayAt _ _ _ _ _ _ Tryz.underlying36 (by decide)
                    go_upto_region 10 with (fail)
                    go_wp2_with (refine wpList_load_mid rfl _ _ rfl g1 0 rfl [o0, o1, o2, o3, o4, o5, o6, o7, o8, o9, o10, o11, o12, o13, o14, o15, o16, o17] _ hrg Tryz.underlying36 rfl rfl ?_; refine wpList_val rfl (.slice A2 l2.length c2) (by unfold execOp; go_simp) ?_; refine wpList_val rfl (.agg SG.toArray) (by rw [HV.out]; exact run_build4 _ _ _ _ _ _ rfl (.int .i64 v6) (.int .i64 v8) (.slice A2 l2.length c2) o0 o1 o2 o3 o4 o5 o6 o7 o8 o9 o10 o11 o12 o13 o14 o15 o16 o17 rfl rfl rfl rfl _ ⟨_, rfl⟩ ⟨_, rfl⟩ ⟨_, _, _, rfl⟩) ?_; refine wpList_store_mid rfl _ _ _ rfl w.heap.size 0 SG.toArray rfl rfl hth hi21 hon ?_; rw [List.toList_toArray]; generalize W5.setCells w.heap.size 0 SG = W9 at *)
                    exact ret_cell_tmp rfl HFI.out.1 Tryz.underlying39 rfl (by simpa using hi21) rfl rfl ⟨by rw [HPS.out, HSG.out]; exact ⟨A2, c2, rfl, HR3.out, HA2.out⟩, HFI.out.2⟩
                · have HPS := Lib.hid (HBAD.out (.inr (.inr (.inr (.inr (fun h => absurd h.2.2.2.1 b5))))))
                  have b5' : ¬ ((l1.length : Int) = 18) := by omega
                  clear HBAD HGOOD
                  go_upto_region 9 with (fail)
                  have hth : W5.there w.heap.size 0 21 := by
                    have h := HB.out.there
                    rw [HZ.out] at h
                    exact h
                  have hput : Blk (W5.setCells w.heap.size 0 sgZ) w.heap.size 39 sgZ ∧ Ext w (W5.setCells w.heap.size 0 sgZ) := ⟨HB.out.put (by rw [HZ.out]; rfl), Ext.setCells (Nat.le_refl _) _ _ _ HX.out⟩
                  refine wp_region_lit ?_
                  refine wpList_val rfl (.agg sgZ.toArray) (run_buildZ _ _ rfl _) ?_
                  refine wpList_store_mid rfl _ _ _ rfl w.heap.size 0 sgZ.toArray rfl rfl hth rfl (all_oneCell_toArray sgZ_one) ?_
                  rw [List.toList_toArray]
                  clear hth
                  generalize W5.setCells w.heap.size 0 sgZ = W9 at *
                  go_wp2
                  exact ret_cell_tmp rfl hput.1 Tryz.underlying39 rfl rfl rfl rfl ⟨by rw [HPS.out]; exact rfl, hput.2⟩
        · have HPS := Lib.hid (HBAD.out (by
            refine Decidable.byContradiction fun hn => b1 (hm1 ?_ ?_ ?_ ?_)
            all_goals (exact Decidable.byContradiction fun h => hn (by first | exact .inl h | exact .inr (.inl h) | exact .inr (.inr (.inl h)) | exact .inr (.inr (.inr (.inl h)))))))
          have b1' : (M != 0) = true := by simpa using b1
          have b1'' : (M == 0) = false := by simpa using b1
          clear HBAD HGOOD
          go_upto_region 9 with (fail)
          have hth : W5.there w.heap.size 0 21 := by
            have h := HB.out.there
            rw [HZ.out] at h
            exact h
          have hput : Blk (W5.setCells w.heap.size 0 sgZ) w.heap.size 39 sgZ ∧ Ext w (W5.setCells w.heap.size 0 sgZ) := ⟨HB.out.put (by rw [HZ.out]; rfl), Ext.setCells (Nat.le_refl _) _ _ _ HX.out⟩
          refine wp_region_lit ?_
          refine wpList_val rfl (.agg sgZ.toArray) (run_buildZ _ _ rfl _) ?_
          refine wpList_store_mid rfl _ _ _ rfl w.heap.size 0 sgZ.toArray rfl rfl hth rfl (all_oneCell_toArray sgZ_one) ?_
          rw [List.toList_toArray]
          clear hth
          generalize W5.setCells w.heap.size 0 sgZ = W9 at *
          go_wp2
          exact ret_cell_tmp rfl hput.1 Tryz.underlying39 rfl rfl rfl rfl ⟨by rw [HPS.out]; exact rfl, hput.2⟩
    · have hne : ((l.length : Int) != 4) = true := by simp; omega
      have hne2 : ((l.length : Int) == 4) = false := by simp; omega
      have hne3 : K.psigL l = none := by
        unfold K.psigL
        split
        · exact absurd rfl h4
        · rfl
      rw [hne3] at HPS
      go_upto_region 3 with (fail)
      have hth : W1.there w.heap.size 0 21 := by
        have h := HB.out.there
        rw [HZ.out] at h
        exact h
      have hput : Blk (W1.setCells w.heap.size 0 sgZ) w.heap.size 39 sgZ ∧ Ext w (W1.setCells w.heap.size 0 sgZ) := ⟨HB.out.put (by rw [HZ.out]; rfl), Ext.setCells (Nat.le_refl _) _ _ _ HX.out⟩
      refine wp_region_lit ?_
      refine wpList_val rfl (.agg sgZ.toArray) (run_buildZ _ _ rfl _) ?_
      refine wpList_store_mid rfl _ _ _ rfl w.heap.size 0 sgZ.toArray rfl rfl hth rfl (all_oneCell_toArray sgZ_one) ?_
      rw [List.toList_toArray]
      clear hth
      generalize W1.setCells w.heap.size 0 sgZ = W9 at *
      go_wp2
      exact ret_cell_tmp rfl hput.1 Tryz.underlying39 rfl rfl rfl rfl ⟨by rw [HPS.out]; exact rfl, hput.2⟩
end Go.Proofs.YtbbgmlnfpnomiaaGreatDoor
end
