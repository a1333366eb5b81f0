/- The walks of a bare block's making, of its words, of its digest. -/
import Derived.Test.YtilengooiffikaaDoorTSpec
import Derived.Test.YtilengooiffikaaDoorHash
import Derived.Test.YtilengooiffikaaDoorWText
import Derived.Test.YtilengooiffikaaDoorTok
import Derived.Test.YtilengooiffikaaDoorGrow
import Derived.Test.YtilengooiffikaaDoorBlk
import Derived.Deep.RegionHeld3
import Derived.Deep.Upon
set_option linter.unusedVariables false
set_option linter.unusedSimpArgs false
namespace Go.Proofs.YtilengooiffikaaDoor
open Go.RowKit Go.Sort
/-- A bare block's cells. -/
abbrev bV (b : T.B) : List Value := [.int .i64 b.v, cU64 b.p, .int .i64 b.qv, cU64 b.qb, .slice none 0 0, .int .i64 b.lo, .int .i64 b.hi, .slice none 0 0]
abbrev bA (b : T.B) : Value := .agg (bV b).toArray
/-- A block as the statements' B makes it. -/
abbrev mkB (v : Int) (p : Nat) (lo hi : Int) : T.B := ⟨v, p, 0, p, lo, hi⟩
set_option maxRecDepth 100000 in
theorem b17_calls (v : Int) (p : Nat) (lo hi : Int) (w : World) : Calls Tryd.prog 19 #[.int .i64 v, cU64 p, .int .i64 lo, .int .i64 hi] w fun e w' => e = .returned (bA (mkB v p lo hi)) ∧ Ext w w' := by
  go_enter Tryd.func19, Tryd.ntmps19
  go_wp2
  refine bodyPost_ret (v := bA (mkB v p lo hi)) (by simp [results, Tryd.f19, go_sem]) rfl ⟨rfl, ((Below.refl _ w).alloc (Nat.le_refl _) _)⟩
set_option maxRecDepth 100000 in
theorem genesis_calls (w : World) : Calls Tryd.prog 27 #[] w fun e w' => e = .returned (bA T.gen) ∧ Ext w w' := by
  go_enter Tryd.func27, Tryd.ntmps27
  go_wp2
  refine bodyPost_ret (v := bA T.gen) (by simp [results, Tryd.f27, go_sem, T.gen]) rfl ⟨rfl, ((Below.refl _ w).alloc (Nat.le_refl _) _)⟩
theorem bnum_calls (n : Int) (h0 : -9223372036854775808 ≤ n) (h1 : n ≤ 9223372036854775807) (w : World) (ht : TabOk w) : Calls Tryd.prog 75 #[.int .i64 n] w fun e w' => e = .returned (.string (numB n)) ∧ Ext w w' := by
  have H := Lib.hid (num_calls n h0 h1 w ht)
  clear ht
  go_enter Tryd.func75, Tryd.ntmps75
  go_wp2_with fail
  refine H.out.mono ?_
  rintro e w1 ⟨rfl, hx⟩
  have HX := Lib.hid hx
  clear hx
  go_wp2
  go_ret
  exact ⟨rfl, HX.out⟩
theorem mapRep_calls (w : World) : Calls Tryd.prog 77 #[.slice none 0 0, .func (.func 78) #[] #[]] w fun e w' => e = .returned (.slice none 0 0) ∧ w = w' := by
  go_enter Tryd.func77, Tryd.ntmps77
  go_wp2
  go_loop [5, 10] (fun v i => v = .slice none 0 0 ∧ i = .int .i64 0) (fun _ i => 0)
  case atStart => exact ⟨rfl, rfl⟩
  case round =>
    obtain ⟨rfl, rfl⟩ := hrel
    go_wp2
    go_ret
    exact ⟨rfl, rfl⟩
/-- A block's numbers as the machine has them. -/
structure OkB (b : T.B) : Prop where
  v : I64 b.v
  qv : I64 b.qv
  lo : I64 b.lo
  hi : I64 b.hi
  p : b.p < 18446744073709551616
  qb : b.qb < 18446744073709551616
abbrev tagBlk : ByteArray := ⟨#[98, 108, 111, 99, 107]⟩
abbrev wordsB (b : T.B) : List ByteArray := [tagBlk, numB b.v, S.bstr (S.hexT b.p), numB b.qv, S.bstr (S.hexT b.qb), numB b.lo, numB b.hi]
theorem wordsB_bs (b : T.B) : (wordsB b).map bs = T.words b := rfl
theorem bkSz (b : T.B) (h : OkB b) : ∀ s ∈ T.words b, s.length ≤ 21 := by
  intro s hs
  have hx : ∀ u, u < 18446744073709551616 → (T.hexB u).length ≤ 21 := fun u hu => by
    have hl := S.hexA_len 15 u hu
    rw [T.hexB, List.length_map, S.hexT, List.length_append, List.length_replicate]
    omega
  simp only [T.words, List.mem_cons, List.not_mem_nil, or_false] at hs
  rcases hs with rfl | rfl | rfl | rfl | rfl | rfl | rfl
  · decide
  · exact Lib.itoa_length_le _ h.v.1 h.v.2
  · exact hx _ h.p
  · exact Lib.itoa_length_le _ h.qv.1 h.qv.2
  · exact hx _ h.qb
  · exact Lib.itoa_length_le _ h.lo.1 h.lo.2
  · exact Lib.itoa_length_le _ h.hi.1 h.hi.2
theorem bText_len (b : T.B) (h : OkB b) : (T.text b).length ≤ 200 := by
  have e : S.nums (T.text b) = T.joinF ((T.words b).map S.nums) := T.join_fast _ (T.words_plain b)
  have hl : (T.text b).length = (T.joinF ((T.words b).map S.nums)).length := by rw [← e]; simp [S.nums]
  rw [hl]
  have hs := bkSz b h
  simp only [T.words, List.map_cons, List.map_nil, T.joinF, List.length_cons, List.length_append, List.length_nil, S.nums, List.length_map]
  have g : ∀ s ∈ T.words b, s.length ≤ 21 := hs
  simp only [T.words, List.mem_cons, List.not_mem_nil, or_false, forall_eq_or_imp, forall_eq] at g
  omega
abbrev textB (b : T.B) : ByteArray := ⟨(T.text b).toArray⟩
set_option maxRecDepth 100000 in
set_option maxHeartbeats 2000000 in
theorem bwords_calls (b : T.B) (hb : OkB b) (w : World) (ht : TOk w) : Calls Tryd.prog 51 #[bA b] w fun e w' => e = .returned (.string (textB b)) ∧ Ext w w' := by
  have hlen := bText_len b hb
  have hsz := bkSz b hb
  have HJ := Lib.hid (fun (W : World) => join_calls (wordsB b) (some ⟨W.heap.size, 0, none⟩) 7 (W.alloc (.cells (cStrs (wordsB b)).toArray 9)) (Rd.fresh W (cStrs (wordsB b)) 9 (0, 0)) (by rw [wordsB_bs]; show (T.text b).length ≤ _; omega) (by show 7 ≤ _; decide) (fun s hs => by
    have hm : bs s ∈ (wordsB b).map bs := List.mem_map_of_mem hs
    rw [wordsB_bs] at hm
    have := hsz _ hm
    show s.data.size ≤ _
    have e : (bs s).length = s.data.size := Array.length_toList
    omega))
  rw [show (J.join ((wordsB b).map bs)) = T.text b from rfl] at HJ
  obtain ⟨bv, bp, bqv, bqb, blo, bhi⟩ := b
  have h1 := hb.v
  have h2 := hb.qv
  have h3 := hb.lo
  have h4 := hb.hi
  have h5 := hb.p
  have h6 := hb.qb
  dsimp only at h1 h2 h3 h4 h5 h6
  have HB := Lib.hid (And.intro h1 (And.intro h2 (And.intro h3 (And.intro h4 (And.intro h5 h6)))))
  have HT := Lib.hid ht
  have HN := Lib.hid (fun (n : Int) (hn : I64 n) (W : World) (hW : TOk W) => bnum_calls n hn.1 hn.2 W hW.tab)
  have HN2 := Lib.hid (fun (n : Int) (hn : I64 n) (W : World) (hW : TOk W) => num_calls n hn.1 hn.2 W hW.tab)
  have HX := Lib.hid (fun (u : Nat) (hu : u < 18446744073709551616) (W : World) (hW : TOk W) => text_calls u hu W hW.tz)
  obtain ⟨i0, hi⟩ := Option.isSome_iff_exists.1 (show (Tryd.prog.info? 9).isSome = true by kernel_rfl)
  have happ := fun (a : Addr) (W : World) => run_append_nothing (P := Tryd.prog) W 130 130 130 9 i0 Tryd.underlying130 hi (some a) 7 7 (Nat.le_refl _) (.slice none 0 0) (Src.ofNil W Tryd.underlying130 0)
  clear hb ht h1 h2 h3 h4 h5 h6 hlen hsz
  simp only [wordsB] at HJ
  unfold textB
  generalize T.text ⟨bv, bp, bqv, bqb, blo, bhi⟩ = TX at *
  go_enter Tryd.func51, Tryd.ntmps51
  go_wp2_with fail
  have hE : Ext w (w.alloc (.cells (bV ⟨bv, bp, bqv, bqb, blo, bhi⟩).toArray 48)) := (Ext.rfl' w).alloc _
  have hK : Blk (w.alloc (.cells (bV ⟨bv, bp, bqv, bqb, blo, bhi⟩).toArray 48)) w.heap.size 48 (bV ⟨bv, bp, bqv, bqb, blo, bhi⟩) := Blk.new _ _ _
  generalize w.alloc (.cells (bV ⟨bv, bp, bqv, bqb, blo, bhi⟩).toArray 48) = W0 at *
  generalize w.heap.size = A0 at *
  have HE := Lib.hid hE
  have HC := Lib.hid (show ∀ W, Ext W0 W → (W.cell? ⟨A0, 0, none⟩ = some (.int .i64 bv) ∧ W.cell? ⟨A0, 1, none⟩ = some (cU64 bp) ∧ W.cell? ⟨A0, 2, none⟩ = some (.int .i64 bqv) ∧ W.cell? ⟨A0, 3, none⟩ = some (cU64 bqb) ∧ W.cell? ⟨A0, 5, none⟩ = some (.int .i64 blo) ∧ W.cell? ⟨A0, 6, none⟩ = some (.int .i64 bhi)) from fun W hx => by
    have hk := hK.ext hx
    exact ⟨hk.cell rfl, hk.cell rfl, hk.cell rfl, hk.cell rfl, hk.cell rfl, hk.cell rfl⟩)
  have c7 := Lib.hid (show ∀ W, Ext W0 W → W.cell? ⟨A0, 7, none⟩ = some (.slice none 0 0) from fun W hx => (hK.ext hx).cell rfl)
  have HT0 := Lib.hid (show ∀ W, Ext W0 W → TOk W from fun W hx => HT.out.ext (HE.out.tr hx))
  have held2 : ∀ {W : World}, ((W.cell? ⟨A0, 0, none⟩ = some (.int .i64 bv) ∧ W.cell? ⟨A0, 1, none⟩ = some (cU64 bp) ∧ W.cell? ⟨A0, 2, none⟩ = some (.int .i64 bqv) ∧ W.cell? ⟨A0, 3, none⟩ = some (cU64 bqb) ∧ W.cell? ⟨A0, 5, none⟩ = some (.int .i64 blo) ∧ W.cell? ⟨A0, 6, none⟩ = some (.int .i64 bhi)) ∧ Ext W0 W) → Ext W0 W := fun h => h.2
  clear hE hK
  go_region_held3 (fun w' => (w'.cell? ⟨A0, 0, none⟩ = some (.int .i64 bv) ∧ w'.cell? ⟨A0, 1, none⟩ = some (cU64 bp) ∧ w'.cell? ⟨A0, 2, none⟩ = some (.int .i64 bqv) ∧ w'.cell? ⟨A0, 3, none⟩ = some (cU64 bqb) ∧ w'.cell? ⟨A0, 5, none⟩ = some (.int .i64 blo) ∧ w'.cell? ⟨A0, 6, none⟩ = some (.int .i64 bhi)) ∧ Ext W0 w')
    (first | exact ⟨HC.out _ (Ext.rfl' W0).drew, (Ext.rfl' W0).drew⟩ | exact ⟨HC.out _ hE1, hE1⟩ | exact ⟨HC.out _ (Ext.alloc hE1 _), Ext.alloc hE1 _⟩)
    (first
      | (go_at_call 75; have hE0 := held2 (by assumption); refine (HN.out _ (by first | exact HB.out.1 | exact HB.out.2.1) _ (HT0.out _ hE0)).mono ?_; rintro e we ⟨rfl, hxx⟩; have hE1 := hE0.tr hxx)
      | (go_at_call 65; have hE0 := held2 (by assumption); refine (HN2.out _ (by first | exact HB.out.2.2.1 | exact HB.out.2.2.2.1) _ (HT0.out _ hE0)).mono ?_; rintro e we ⟨rfl, hxx⟩; have hE1 := hE0.tr hxx)
      | (go_at_call 76; have hE0 := held2 (by assumption); refine (HX.out _ (by first | exact HB.out.2.2.2.2.1 | exact HB.out.2.2.2.2.2) _ (HT0.out _ hE0)).mono ?_; rintro e we ⟨rfl, hxx⟩; have hE1 := hE0.tr hxx))
  have HE1 := Lib.hid hE1
  have c7' := c7.out _ (Ext.alloc hE1 (.cells #[.string tagBlk, .string (numB bv), .string (S.bstr (S.hexT bp)), .string (numB bqv), .string (S.bstr (S.hexT bqb)), .string (numB blo), .string (numB bhi)] 9))
  clear hE1
  go_wp2_with fail
  refine (mapRep_calls _).mono ?_
  rintro e w1 ⟨rfl, rfl⟩
  go_wp2_with fail
  refine (HJ.out _).mono ?_
  rintro e w2 ⟨rfl, hx⟩
  have HZ := Lib.hid (HE.out.tr ((Ext.alloc HE1.out _).tr hx))
  clear hx
  go_wp2
  go_ret
  exact ⟨rfl, HZ.out⟩
theorem bdig_spec (b : T.B) (h : b.v ≠ 0) : T.dig b = S.sumN tagBlk.data.toList (bs (textB b)) := if_neg h
set_option maxRecDepth 100000 in
set_option maxHeartbeats 1000000 in
theorem blkdig_calls (b : T.B) (hb : OkB b) (w : World) (ht : TOk w) : Calls Tryd.prog 21 #[bA b] w fun e w' => e = .returned (cU64 (T.dig b)) ∧ Ext w w' := by
  have HE := Lib.hid (show Ext w (w.alloc (.cells (bV b).toArray 48)) from (Ext.rfl' w).alloc _)
  have HW := Lib.hid (bwords_calls b hb _ (ht.ext HE.out))
  have HD := Lib.hid (fun h => bdig_spec b h)
  have HO := Lib.hid (fun W => of_calls tagBlk (textB b) (by decide) (Nat.le_trans (bText_len b hb) (by decide)) W)
  have hk : Blk (w.alloc (.cells (bV b).toArray 48)) w.heap.size 48 (bV b) := Blk.new _ _ _
  have h0 : (w.alloc (.cells (bV b).toArray 48)).cell? ⟨w.heap.size, 0, none⟩ = some (.int .i64 b.v) := hk.cell rfl
  have HK := Lib.hid hk
  have HZ := Lib.hid (show b.v = 0 → T.dig b = 0 from fun h => if_pos h)
  clear hb ht hk
  generalize textB b = TX at *
  generalize T.dig b = D at *
  obtain ⟨bv, bp, bqv, bqb, blo, bhi⟩ := b
  dsimp only at h0 HD HZ
  by_cases hz : bv = 0
  · have hz0 : (bv == 0) = true := by simpa using hz
    obtain rfl := HZ.out hz
    clear hz HD HZ
    go_enter Tryd.func21, Tryd.ntmps21
    go_wp2_with fail
    go_ret
    exact ⟨rfl, HE.out⟩
  · have hz0 : (bv == 0) = false := by simpa using hz
    obtain rfl := HD.out hz
    clear hz HD HZ
    go_enter Tryd.func21, Tryd.ntmps21
    go_wp2_with (refine wpList_load_row rfl _ _ rfl w.heap.size rfl 48 (bV ⟨bv, bp, bqv, bqb, blo, bhi⟩).toArray (0, 0) _ HK.out Tryd.underlying48 rfl rfl ?_)
    refine HW.out.mono ?_
    rintro e w1 ⟨rfl, hx⟩
    have HX1 := Lib.hid (HE.out.tr hx)
    clear hx
    go_wp2_with fail
    refine (HO.out _).mono ?_
    rintro e w2 ⟨rfl, hx⟩
    have HX2 := Lib.hid (HX1.out.tr hx)
    clear hx
    go_wp2
    go_ret
    exact ⟨rfl, HX2.out⟩
end Go.Proofs.YtilengooiffikaaDoor
