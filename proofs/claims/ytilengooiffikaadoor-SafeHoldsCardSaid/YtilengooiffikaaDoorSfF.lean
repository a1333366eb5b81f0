/- The walk of known() of law 18. -/
import Derived.Test.YtilengooiffikaaDoorSfE
import Derived.Test.YtilengooiffikaaDoorSfG
import Derived.Test.YtilengooiffikaaDoorTW3
import Derived.Test.YtilengooiffikaaDoorTKb
import Derived.Test.YtilengooiffikaaDoorTW4
import Derived.Test.YtilengooiffikaaDoorTW5
import Derived.Deep.RegionHeld3
import Derived.Deep.DeepCutAuto
set_option linter.unusedVariables false
set_option linter.unusedSimpArgs false
namespace Go.Proofs.YtilengooiffikaaDoor
open Go.RowKit Go.Sort Go.Maps
theorem okB_qb (v : Int) (p : Nat) (q lo hi : Int) (h1 : 0 ≤ v ∧ v ≤ 1000000) (h2 : p < 18446744073709551616) (hq : 0 ≤ q ∧ q ≤ 1000000) (h3 : 0 ≤ lo ∧ lo ≤ 1000000) (h4 : 0 ≤ hi ∧ hi ≤ 1000000) : OkB (qB v p q lo hi) :=
  ⟨⟨by show _ ≤ v; omega, by show v ≤ _; omega⟩, ⟨by show _ ≤ q; omega, by show q ≤ _; omega⟩, ⟨by show _ ≤ lo; omega, by show lo ≤ _; omega⟩, ⟨by show _ ≤ hi; omega, by show hi ≤ _; omega⟩, h2, h2⟩
set_option maxRecDepth 100000 in
set_option maxHeartbeats 4000000 in
theorem known18_calls (w : World) (ht : TOk w) : Calls Tryd.prog 26 #[] w fun e w' => e = .returned (.bool true) ∧ Ext w w' := by
  obtain ⟨da, db, dc, dd, de, hK⟩ := kn18
  obtain ⟨la, lb, lc, ld, le⟩ := hK.lt
  have HT := Lib.hid (show ∀ W, Ext w W → TOk W from fun W hx => ht.ext hx)
  have oa : OkB (mkB 1 0 0 5) := okB_mk _ _ _ _ (by decide) (by decide) (by decide) (by decide)
  have od : OkB (mkB 4 0 0 7) := okB_mk _ _ _ _ (by decide) (by decide) (by decide) (by decide)
  have oe : OkB (mkB 9 0 0 99) := okB_mk _ _ _ _ (by decide) (by decide) (by decide) (by decide)
  have ob : OkB (qB 2 da 1 5 9) := okB_qb _ _ _ _ _ (by decide) la (by decide) (by decide) (by decide)
  have oc : OkB (qB 3 db 2 9 12) := okB_qb _ _ _ _ _ (by decide) lb (by decide) (by decide) (by decide)
  have HDa := Lib.hid (show ∀ W, Ext w W → Calls Tryd.prog 21 #[bA (mkB 1 0 0 5)] W fun e w' => e = .returned (cU64 da) ∧ Ext W w' from fun W hx => by have h := blkdig_calls (mkB 1 0 0 5) oa W (HT.out _ hx); rw [hK.a] at h; exact h)
  have HDb := Lib.hid (show ∀ W, Ext w W → Calls Tryd.prog 21 #[bA (qB 2 da 1 5 9)] W fun e w' => e = .returned (cU64 db) ∧ Ext W w' from fun W hx => by have h := blkdig_calls (qB 2 da 1 5 9) ob W (HT.out _ hx); rw [hK.b] at h; exact h)
  have HDc := Lib.hid (show ∀ W, Ext w W → Calls Tryd.prog 21 #[bA (qB 3 db 2 9 12)] W fun e w' => e = .returned (cU64 dc) ∧ Ext W w' from fun W hx => by have h := blkdig_calls (qB 3 db 2 9 12) oc W (HT.out _ hx); rw [hK.c] at h; exact h)
  have HA1 := Lib.hid (show ∀ W tb mb, Ext w W → Tr W tb mb T.new → Calls Tryd.prog 20 #[.pointer (some ⟨tb, 0, none⟩), bA (mkB 1 0 0 5)] W fun e w' => e = .returned (.int .i64 0) ∧ Tr w' tb mb (LS1 da) ∧ Gr mb W w' from fun W tb mb hx hT => by
    refine (add_calls W hT (mkB 1 0 0 5) oa (HT.out _ hx) (by simp [T.new])).mono ?_
    rintro e w' ⟨rfl, h2, h3, h4⟩
    rw [hK.a] at h2 h4 ⊢
    rw [T.add, hK.c1] at h2
    rw [hK.c1] at h4 ⊢
    rw [if_pos rfl] at h2
    exact ⟨rfl, h2, h3⟩)
  have HA2 := Lib.hid (show ∀ W tb mb, Ext w W → Tr W tb mb (LS1 da) → Calls Tryd.prog 20 #[.pointer (some ⟨tb, 0, none⟩), bA (qB 2 da 1 5 9)] W fun e w' => e = .returned (.int .i64 0) ∧ Tr w' tb mb (LS2 da db) ∧ Gr mb W w' from fun W tb mb hx hT => by
    refine (add_calls W hT (qB 2 da 1 5 9) ob (HT.out _ hx) (by simp [T.new])).mono ?_
    rintro e w' ⟨rfl, h2, h3, h4⟩
    rw [hK.b] at h2 h4 ⊢
    rw [T.add, hK.c2] at h2
    rw [hK.c2] at h4 ⊢
    rw [if_pos rfl] at h2
    exact ⟨rfl, h2, h3⟩)
  have HA3 := Lib.hid (show ∀ W tb mb, Ext w W → Tr W tb mb (LS2 da db) → Calls Tryd.prog 20 #[.pointer (some ⟨tb, 0, none⟩), bA (qB 3 db 2 9 12)] W fun e w' => e = .returned (.int .i64 0) ∧ Tr w' tb mb (LS3 da db dc) ∧ Gr mb W w' from fun W tb mb hx hT => by
    refine (add_calls W hT (qB 3 db 2 9 12) oc (HT.out _ hx) (by simp [T.new])).mono ?_
    rintro e w' ⟨rfl, h2, h3, h4⟩
    rw [hK.c] at h2 h4 ⊢
    rw [T.add, hK.c3] at h2
    rw [hK.c3] at h4 ⊢
    rw [if_pos rfl] at h2
    exact ⟨rfl, h2, h3⟩)
  have HA4 := Lib.hid (show ∀ W tb mb, Ext w W → Tr W tb mb (LS3 da db dc) → Calls Tryd.prog 20 #[.pointer (some ⟨tb, 0, none⟩), bA (mkB 4 0 0 7)] W fun e w' => e = .returned (.int .i64 0) ∧ Tr w' tb mb (LS4 da db dc dd) ∧ Gr mb W w' from fun W tb mb hx hT => by
    refine (add_calls W hT (mkB 4 0 0 7) od (HT.out _ hx) (by simp [T.new])).mono ?_
    rintro e w' ⟨rfl, h2, h3, h4⟩
    rw [hK.d] at h2 h4 ⊢
    rw [T.add, hK.c4] at h2
    rw [hK.c4] at h4 ⊢
    rw [if_pos rfl] at h2
    exact ⟨rfl, h2, h3⟩)
  have HV1 := Lib.hid (show ∀ W tb mb, Ext w W → Tr W tb mb (LS4 da db dc dd) → Calls Tryd.prog 29 #[.agg (sV ⟨0, 0, 0, 0, 0⟩).toArray, .pointer (some ⟨tb, 0, none⟩), bA (mkB 1 0 0 5)] W fun e w' => e = .returned (.tuple #[.agg (sV ⟨1, 0, 0, 0, 0⟩).toArray, .int .i64 0]) ∧ Ext W w' from fun W tb mb hx hT => by
    refine (vote_yes W hT (HT.out _ hx) ⟨0, 0, 0, 0, 0⟩ (mkB 1 0 0 5) oa true (fun _ W' hT' => by rw [hK.a]; have h := extends_calls W' hT' 9 _ _ hK.wa (by simp; omega) (by decide) 0; rw [hK.i1] at h; exact h) (by rw [hK.a, hK.ga]; rfl)).mono ?_
    rintro e w' ⟨rfl, hx⟩
    exact ⟨congrArg (fun f => Ending.returned (.tuple #[.agg (sV f).toArray, .int .i64 0])) hK.s1, hx⟩)
  have HV2 := Lib.hid (show ∀ W tb mb, Ext w W → Tr W tb mb (LS4 da db dc dd) → Calls Tryd.prog 29 #[.agg (sV ⟨1, 0, 0, 0, 0⟩).toArray, .pointer (some ⟨tb, 0, none⟩), bA (qB 2 da 1 5 9)] W fun e w' => e = .returned (.tuple #[.agg (sV ⟨2, 0, 0, 1, da⟩).toArray, .int .i64 0]) ∧ Ext W w' from fun W tb mb hx hT => by
    refine (vote_yes W hT (HT.out _ hx) ⟨1, 0, 0, 0, 0⟩ (qB 2 da 1 5 9) ob true (fun _ W' hT' => by rw [hK.b]; have h := extends_calls W' hT' 9 _ _ hK.wb (by simp; omega) (by decide) 0; rw [hK.i2] at h; exact h) (by rw [hK.b, hK.gb]; rfl)).mono ?_
    rintro e w' ⟨rfl, hx⟩
    exact ⟨congrArg (fun f => Ending.returned (.tuple #[.agg (sV f).toArray, .int .i64 0])) hK.s2, hx⟩)
  have HV3 := Lib.hid (show ∀ W tb mb, Ext w W → Tr W tb mb (LS4 da db dc dd) → Calls Tryd.prog 29 #[.agg (sV ⟨2, 0, 0, 1, da⟩).toArray, .pointer (some ⟨tb, 0, none⟩), bA (qB 3 db 2 9 12)] W fun e w' => e = .returned (.tuple #[.agg (sV ⟨3, 1, da, 2, db⟩).toArray, .int .i64 0]) ∧ Ext W w' from fun W tb mb hx hT => by
    refine (vote_yes W hT (HT.out _ hx) ⟨2, 0, 0, 1, da⟩ (qB 3 db 2 9 12) oc true (fun _ W' hT' => by rw [hK.c]; have h := extends_calls W' hT' 9 _ _ hK.wc (by simp; omega) (by decide) 0; rw [hK.i3] at h; exact h) (by rw [hK.c, hK.gc]; rfl)).mono ?_
    rintro e w' ⟨rfl, hx⟩
    exact ⟨congrArg (fun f => Ending.returned (.tuple #[.agg (sV f).toArray, .int .i64 0])) hK.s3, hx⟩)
  have HV4 := Lib.hid (show ∀ W tb mb, Ext w W → Tr W tb mb (LS4 da db dc dd) → Calls Tryd.prog 29 #[.agg (sV ⟨3, 1, da, 2, db⟩).toArray, .pointer (some ⟨tb, 0, none⟩), bA (qB 3 db 2 9 12)] W fun e w' => e = .returned (.tuple #[.agg (sV ⟨3, 1, da, 2, db⟩).toArray, .int .i64 12]) ∧ Ext W w' from fun W tb mb hx hT =>
    vote_no W hT (HT.out _ hx) ⟨3, 1, da, 2, db⟩ (qB 3 db 2 9 12) oc true (fun _ W' hT' => by rw [hK.c]; have h := extends_calls W' hT' 9 _ _ hK.wc (by simp; omega) (by decide) da; rw [hK.i4] at h; exact h) 12 (by rw [hK.c, hK.gc]; rfl) (by decide))
  have HM1 := Lib.hid (show ∀ W tb mb, Ext w W → Tr W tb mb (LS4 da db dc dd) → Calls Tryd.prog 31 #[.agg (sV ⟨3, 1, da, 2, db⟩).toArray, .pointer (some ⟨tb, 0, none⟩), bA (mkB 4 0 0 7)] W fun e w' => e = .returned (.int .i64 13) ∧ Ext W w' from fun W tb mb hx hT => by
    have h := may_calls W hT (HT.out _ hx) ⟨3, 1, da, 2, db⟩ (mkB 4 0 0 7) od false (fun _ W' hT' => by rw [hK.d]; have h := extends_calls W' hT' 9 _ _ hK.wd (by simp; omega) (by decide) da; rw [hK.i5] at h; exact h)
    rw [hK.d, hK.gd] at h
    exact h)
  have HM2 := Lib.hid (show ∀ W tb mb, Ext w W → Tr W tb mb (LS4 da db dc dd) → Calls Tryd.prog 31 #[.agg (sV ⟨3, 1, da, 2, db⟩).toArray, .pointer (some ⟨tb, 0, none⟩), bA (mkB 9 0 0 99)] W fun e w' => e = .returned (.int .i64 11) ∧ Ext W w' from fun W tb mb hx hT => by
    have h := may_calls W hT (HT.out _ hx) ⟨3, 1, da, 2, db⟩ (mkB 9 0 0 99) oe false (fun h => by rw [hK.e, hK.ge] at h; cases h)
    rw [hK.e, hK.ge] at h
    exact h)
  have HKK := Lib.hid hK
  clear hK ht
  go_enter Tryd.func26, Tryd.ntmps26
  go_wp2_with fail
  refine (tnew_calls w).mono ?_
  rintro e W ⟨⟨tb, mb, rfl, hT, htb, hmb⟩, hx⟩
  have HS := Lib.hid (show KB w W tb mb T.new [] from ⟨hT, (fun _ h => by cases h), hx, hmb⟩)
  clear hT htb hx
  go_wp2_with fail
  refine (b17_calls 1 0 0 5 _).mono ?_
  rintro e W1 ⟨rfl, hx⟩
  replace HS := Lib.hid (HS.out.on hx)
  clear hx
  go_wp2_with fail
  replace HS := Lib.hid (HS.out.push ((Ext.rfl' W1).alloc (.cells (bV (mkB 1 0 0 5)).toArray 48)) (Blk.new W1 48 (bV (mkB 1 0 0 5))))
  generalize W1.heap.size = Aa at *
  refine (HDa.out _ HS.out.ext).mono ?_
  rintro e W1 ⟨rfl, hx⟩
  replace HS := Lib.hid (HS.out.on hx)
  clear hx
  go_wp2_with fail
  refine (b17_calls 2 da 5 9 _).mono ?_
  rintro e W1 ⟨rfl, hx⟩
  replace HS := Lib.hid (HS.out.on hx)
  clear hx
  go_upto_region 7 with (fail)
  replace HS := Lib.hid (HS.out.push ((Ext.rfl' W1).alloc (.cells (bV (qB 2 da 1 5 9)).toArray 48)) (Blk.new W1 48 (bV (qB 2 da 1 5 9))))
  generalize W1.heap.size = Ab at *
  go_wp2_with (refine wpList_load_row rfl _ _ rfl Ab rfl 48 (bV (qB 2 da 1 5 9)).toArray (0, 0) _ (HS.out.blk (Ab, (qB 2 da 1 5 9)) (by simp)).1 Tryd.underlying48 rfl rfl ?_)
  refine (HDb.out _ HS.out.ext).mono ?_
  rintro e W1 ⟨rfl, hx⟩
  replace HS := Lib.hid (HS.out.on hx)
  clear hx
  go_wp2_with fail
  refine (b17_calls 3 db 9 12 _).mono ?_
  rintro e W1 ⟨rfl, hx⟩
  replace HS := Lib.hid (HS.out.on hx)
  clear hx
  go_upto_region 9 with (fail)
  replace HS := Lib.hid (HS.out.push ((Ext.rfl' W1).alloc (.cells (bV (qB 3 db 2 9 12)).toArray 48)) (Blk.new W1 48 (bV (qB 3 db 2 9 12))))
  generalize W1.heap.size = Ac at *
  go_wp2_with fail
  refine (b17_calls 4 0 0 7 _).mono ?_
  rintro e W1 ⟨rfl, hx⟩
  replace HS := Lib.hid (HS.out.on hx)
  clear hx
  go_wp2_with fail
  replace HS := Lib.hid (HS.out.push ((Ext.rfl' W1).alloc (.cells (bV (mkB 4 0 0 7)).toArray 48)) (Blk.new W1 48 (bV (mkB 4 0 0 7))))
  generalize W1.heap.size = Ad at *
  generalize hW1 : W1.alloc (.cells (bV (mkB 4 0 0 7)).toArray 48) = W2 at *
  replace HS := Lib.hid (HS.out.on (Ext.rfl' W2).drew)
  refine wp_region_held_drew (S := (fun w' => w'.rangeAt Aa 0 (bV (mkB 1 0 0 5)) ∧ w'.rangeAt Ab 0 (bV (qB 2 da 1 5 9)) ∧ w'.rangeAt Ac 0 (bV (qB 3 db 2 9 12)) ∧ w'.rangeAt Ad 0 (bV (mkB 4 0 0 7)))) (by kernel_rfl) (by (try dsimp only); exact ⟨(HS.out.blk (Aa, (mkB 1 0 0 5)) (by simp)).1.range, (HS.out.blk (Ab, (qB 2 da 1 5 9)) (by simp)).1.range, (HS.out.blk (Ac, (qB 3 db 2 9 12)) (by simp)).1.range, (HS.out.blk (Ad, (mkB 4 0 0 7)) (by simp)).1.range⟩) (fun hHeld => ?_)
  refine wpAnyH_take (i := 0) (v := ?_) (by first | (simp only [List.getElem?_toArray, List.getElem?_cons_zero, List.getElem?_cons_succ]; done) | (simp only [List.getElem?_toArray, List.getElem?_cons_zero, List.getElem?_cons_succ]; rfl)) (by kernel_rfl) (by kernel_rfl) (by kernel_rfl) (by exact fun _ _ _ h => h) (Or.inl ⟨by rfl, ?hy0⟩) (by assumption) ?_
  case hy0 => (intro w hSw; clear hSw; go_simp; try with_reducible rfl)
  try simp only [Act.put, List.setIfInBounds_toArray, List.set_cons_zero, List.set_cons_succ]
  refine wpAnyH_take (i := 1) (by first | (simp only [List.getElem?_toArray, List.getElem?_cons_zero, List.getElem?_cons_succ]; done) | (simp only [List.getElem?_toArray, List.getElem?_cons_zero, List.getElem?_cons_succ]; rfl)) (by kernel_rfl) (by kernel_rfl) (by kernel_rfl) (by exact fun _ _ _ h => h) (yieldsIf_load_mid (by rfl) _ _ rfl Aa 0 rfl (bV (mkB 1 0 0 5)) _ (fun w hSw => hSw.1) Tryd.underlying48 rfl rfl) (by assumption) ?_
  try simp only [Act.put, List.setIfInBounds_toArray, List.set_cons_zero, List.set_cons_succ]
  refine wpAnyH_take (i := 3) (v := ?_) (by first | (simp only [List.getElem?_toArray, List.getElem?_cons_zero, List.getElem?_cons_succ]; done) | (simp only [List.getElem?_toArray, List.getElem?_cons_zero, List.getElem?_cons_succ]; rfl)) (by kernel_rfl) (by kernel_rfl) (by kernel_rfl) (by exact fun _ _ _ h => h) (Or.inl ⟨by rfl, ?hy3⟩) (by assumption) ?_
  case hy3 => (intro w hSw; clear hSw; go_simp; try with_reducible rfl)
  try simp only [Act.put, List.setIfInBounds_toArray, List.set_cons_zero, List.set_cons_succ]
  refine wpAnyH_take (i := 4) (by first | (simp only [List.getElem?_toArray, List.getElem?_cons_zero, List.getElem?_cons_succ]; done) | (simp only [List.getElem?_toArray, List.getElem?_cons_zero, List.getElem?_cons_succ]; rfl)) (by kernel_rfl) (by kernel_rfl) (by kernel_rfl) (by exact fun _ _ _ h => h) (yieldsIf_load_mid (by rfl) _ _ rfl Ab 0 rfl (bV (qB 2 da 1 5 9)) _ (fun w hSw => hSw.2.1) Tryd.underlying48 rfl rfl) (by assumption) ?_
  try simp only [Act.put, List.setIfInBounds_toArray, List.set_cons_zero, List.set_cons_succ]
  refine wpAnyH_take (i := 7) (v := ?_) (by first | (simp only [List.getElem?_toArray, List.getElem?_cons_zero, List.getElem?_cons_succ]; done) | (simp only [List.getElem?_toArray, List.getElem?_cons_zero, List.getElem?_cons_succ]; rfl)) (by kernel_rfl) (by kernel_rfl) (by kernel_rfl) (by exact fun _ _ _ h => h) (Or.inl ⟨by rfl, ?hy7⟩) (by assumption) ?_
  case hy7 => (intro w hSw; clear hSw; go_simp; try with_reducible rfl)
  try simp only [Act.put, List.setIfInBounds_toArray, List.set_cons_zero, List.set_cons_succ]
  refine wpAnyH_take (i := 8) (by first | (simp only [List.getElem?_toArray, List.getElem?_cons_zero, List.getElem?_cons_succ]; done) | (simp only [List.getElem?_toArray, List.getElem?_cons_zero, List.getElem?_cons_succ]; rfl)) (by kernel_rfl) (by kernel_rfl) (by kernel_rfl) (by exact fun _ _ _ h => h) (yieldsIf_load_mid (by rfl) _ _ rfl Ac 0 rfl (bV (qB 3 db 2 9 12)) _ (fun w hSw => hSw.2.2.1) Tryd.underlying48 rfl rfl) (by assumption) ?_
  try simp only [Act.put, List.setIfInBounds_toArray, List.set_cons_zero, List.set_cons_succ]
  refine wpAnyH_take (i := 11) (v := ?_) (by first | (simp only [List.getElem?_toArray, List.getElem?_cons_zero, List.getElem?_cons_succ]; done) | (simp only [List.getElem?_toArray, List.getElem?_cons_zero, List.getElem?_cons_succ]; rfl)) (by kernel_rfl) (by kernel_rfl) (by kernel_rfl) (by exact fun _ _ _ h => h) (Or.inl ⟨by rfl, ?hy11⟩) (by assumption) ?_
  case hy11 => (intro w hSw; clear hSw; go_simp; try with_reducible rfl)
  try simp only [Act.put, List.setIfInBounds_toArray, List.set_cons_zero, List.set_cons_succ]
  refine wpAnyH_take (i := 12) (by first | (simp only [List.getElem?_toArray, List.getElem?_cons_zero, List.getElem?_cons_succ]; done) | (simp only [List.getElem?_toArray, List.getElem?_cons_zero, List.getElem?_cons_succ]; rfl)) (by kernel_rfl) (by kernel_rfl) (by kernel_rfl) (by exact fun _ _ _ h => h) (yieldsIf_load_mid (by rfl) _ _ rfl Ad 0 rfl (bV (mkB 4 0 0 7)) _ (fun w hSw => hSw.2.2.2) Tryd.underlying48 rfl rfl) (by assumption) ?_
  try simp only [Act.put, List.setIfInBounds_toArray, List.set_cons_zero, List.set_cons_succ]
  refine wpAnyH_ready (rs := [2]) (by kernel_rfl) (by simp) ?_
  refine AllReadyH.cons (by first | (simp only [List.getElem?_toArray, List.getElem?_cons_zero, List.getElem?_cons_succ]; done) | (simp only [List.getElem?_toArray, List.getElem?_cons_zero, List.getElem?_cons_succ]; rfl)) (fun K hK => ?_) AllReadyH.nil
  go_simp
  refine (HA1.out _ tb mb HS.out.ext HS.out.tr).mono ?_
  rintro e W3 ⟨rfl, hT, hg⟩
  replace HS := Lib.hid (HS.out.gr hg hT)
  clear hT hg
  try (go_wp2_with fail)
  refine hK.out _ _ (by (try dsimp only); exact ⟨(HS.out.blk (Aa, (mkB 1 0 0 5)) (by simp)).1.range, (HS.out.blk (Ab, (qB 2 da 1 5 9)) (by simp)).1.range, (HS.out.blk (Ac, (qB 3 db 2 9 12)) (by simp)).1.range, (HS.out.blk (Ad, (mkB 4 0 0 7)) (by simp)).1.range⟩) (fun hHeld => ?_)
  clear hK K
  try simp only [Act.put, List.setIfInBounds_toArray, List.set_cons_zero, List.set_cons_succ]
  refine wpAnyH_ready (rs := [5]) (by kernel_rfl) (by simp) ?_
  refine AllReadyH.cons (by first | (simp only [List.getElem?_toArray, List.getElem?_cons_zero, List.getElem?_cons_succ]; done) | (simp only [List.getElem?_toArray, List.getElem?_cons_zero, List.getElem?_cons_succ]; rfl)) (fun K hK => ?_) AllReadyH.nil
  go_simp
  refine (HA2.out _ tb mb HS.out.ext HS.out.tr).mono ?_
  rintro e W4 ⟨rfl, hT, hg⟩
  replace HS := Lib.hid (HS.out.gr hg hT)
  clear hT hg
  try (go_wp2_with fail)
  refine hK.out _ _ (by (try dsimp only); exact ⟨(HS.out.blk (Aa, (mkB 1 0 0 5)) (by simp)).1.range, (HS.out.blk (Ab, (qB 2 da 1 5 9)) (by simp)).1.range, (HS.out.blk (Ac, (qB 3 db 2 9 12)) (by simp)).1.range, (HS.out.blk (Ad, (mkB 4 0 0 7)) (by simp)).1.range⟩) (fun hHeld => ?_)
  clear hK K
  try simp only [Act.put, List.setIfInBounds_toArray, List.set_cons_zero, List.set_cons_succ]
  refine wpAnyH_take (i := 6) (v := ?_) (by first | (simp only [List.getElem?_toArray, List.getElem?_cons_zero, List.getElem?_cons_succ]; done) | (simp only [List.getElem?_toArray, List.getElem?_cons_zero, List.getElem?_cons_succ]; rfl)) (by kernel_rfl) (by kernel_rfl) (by kernel_rfl) (by exact fun _ _ _ h => h) (Or.inl ⟨by rfl, ?hy6⟩) (by assumption) ?_
  case hy6 => (intro w hSw; clear hSw; go_simp; try with_reducible rfl)
  try simp only [Act.put, List.setIfInBounds_toArray, List.set_cons_zero, List.set_cons_succ]
  refine wpAnyH_ready (rs := [9]) (by kernel_rfl) (by simp) ?_
  refine AllReadyH.cons (by first | (simp only [List.getElem?_toArray, List.getElem?_cons_zero, List.getElem?_cons_succ]; done) | (simp only [List.getElem?_toArray, List.getElem?_cons_zero, List.getElem?_cons_succ]; rfl)) (fun K hK => ?_) AllReadyH.nil
  go_simp
  refine (HA3.out _ tb mb HS.out.ext HS.out.tr).mono ?_
  rintro e W5 ⟨rfl, hT, hg⟩
  replace HS := Lib.hid (HS.out.gr hg hT)
  clear hT hg
  try (go_wp2_with fail)
  refine hK.out _ _ (by (try dsimp only); exact ⟨(HS.out.blk (Aa, (mkB 1 0 0 5)) (by simp)).1.range, (HS.out.blk (Ab, (qB 2 da 1 5 9)) (by simp)).1.range, (HS.out.blk (Ac, (qB 3 db 2 9 12)) (by simp)).1.range, (HS.out.blk (Ad, (mkB 4 0 0 7)) (by simp)).1.range⟩) (fun hHeld => ?_)
  clear hK K
  try simp only [Act.put, List.setIfInBounds_toArray, List.set_cons_zero, List.set_cons_succ]
  refine wpAnyH_take (i := 10) (v := ?_) (by first | (simp only [List.getElem?_toArray, List.getElem?_cons_zero, List.getElem?_cons_succ]; done) | (simp only [List.getElem?_toArray, List.getElem?_cons_zero, List.getElem?_cons_succ]; rfl)) (by kernel_rfl) (by kernel_rfl) (by kernel_rfl) (by exact fun _ _ _ h => h) (Or.inl ⟨by rfl, ?hy10⟩) (by assumption) ?_
  case hy10 => (intro w hSw; clear hSw; go_simp; try with_reducible rfl)
  try simp only [Act.put, List.setIfInBounds_toArray, List.set_cons_zero, List.set_cons_succ]
  refine wpAnyH_ready (rs := [13]) (by kernel_rfl) (by simp) ?_
  refine AllReadyH.cons (by first | (simp only [List.getElem?_toArray, List.getElem?_cons_zero, List.getElem?_cons_succ]; done) | (simp only [List.getElem?_toArray, List.getElem?_cons_zero, List.getElem?_cons_succ]; rfl)) (fun K hK => ?_) AllReadyH.nil
  go_simp
  refine (HA4.out _ tb mb HS.out.ext HS.out.tr).mono ?_
  rintro e W6 ⟨rfl, hT, hg⟩
  replace HS := Lib.hid (HS.out.gr hg hT)
  clear hT hg
  try (go_wp2_with fail)
  refine hK.out _ _ (by (try dsimp only); exact ⟨(HS.out.blk (Aa, (mkB 1 0 0 5)) (by simp)).1.range, (HS.out.blk (Ab, (qB 2 da 1 5 9)) (by simp)).1.range, (HS.out.blk (Ac, (qB 3 db 2 9 12)) (by simp)).1.range, (HS.out.blk (Ad, (mkB 4 0 0 7)) (by simp)).1.range⟩) (fun hHeld => ?_)
  clear hK K
  try simp only [Act.put, List.setIfInBounds_toArray, List.set_cons_zero, List.set_cons_succ]
  refine wpAnyH_take (i := 14) (v := ?_) (by first | (simp only [List.getElem?_toArray, List.getElem?_cons_zero, List.getElem?_cons_succ]; done) | (simp only [List.getElem?_toArray, List.getElem?_cons_zero, List.getElem?_cons_succ]; rfl)) (by kernel_rfl) (by kernel_rfl) (by kernel_rfl) (by exact fun _ _ _ h => h) (Or.inl ⟨by rfl, ?hy14⟩) (by assumption) ?_
  case hy14 => (intro w hSw; clear hSw; go_simp; try with_reducible rfl)
  try simp only [Act.put, List.setIfInBounds_toArray, List.set_cons_zero, List.set_cons_succ]
  refine wpAnyH_take (i := 15) (v := ?_) (by first | (simp only [List.getElem?_toArray, List.getElem?_cons_zero, List.getElem?_cons_succ]; done) | (simp only [List.getElem?_toArray, List.getElem?_cons_zero, List.getElem?_cons_succ]; rfl)) (by kernel_rfl) (by kernel_rfl) (by kernel_rfl) (by exact fun _ _ _ h => h) (Or.inl ⟨by rfl, ?hy15⟩) (by assumption) ?_
  case hy15 => (intro w hSw; clear hSw; go_simp; try with_reducible rfl)
  try simp only [Act.put, List.setIfInBounds_toArray, List.set_cons_zero, List.set_cons_succ]
  refine wpAnyH_done (by kernel_rfl) ?_ _
  clear hHeld
  simp only [show IntKind.i64.wrap 0 = 0 from by decide]
  go_upto_region 12 with (fail)
  replace HS := Lib.hid (HS.out.on (Ext.rfl' W6).drew)
  refine wp_region_held_drew (S := (fun w' => w'.rangeAt Aa 0 (bV (mkB 1 0 0 5)))) (by kernel_rfl) (by (try dsimp only); exact (HS.out.blk (Aa, (mkB 1 0 0 5)) (by simp)).1.range) (fun hHeld => ?_)
  refine wpAnyH_take (i := 1) (v := ?_) (by first | (simp only [List.getElem?_toArray, List.getElem?_cons_zero, List.getElem?_cons_succ]; done) | (simp only [List.getElem?_toArray, List.getElem?_cons_zero, List.getElem?_cons_succ]; rfl)) (by kernel_rfl) (by kernel_rfl) (by kernel_rfl) (by exact fun _ _ _ h => h) (Or.inl ⟨by rfl, ?hy1⟩) (by assumption) ?_
  case hy1 => (intro w hSw; clear hSw; go_simp; try with_reducible rfl)
  try simp only [Act.put, List.setIfInBounds_toArray, List.set_cons_zero, List.set_cons_succ]
  refine wpAnyH_take (i := 2) (by first | (simp only [List.getElem?_toArray, List.getElem?_cons_zero, List.getElem?_cons_succ]; done) | (simp only [List.getElem?_toArray, List.getElem?_cons_zero, List.getElem?_cons_succ]; rfl)) (by kernel_rfl) (by kernel_rfl) (by kernel_rfl) (by exact fun _ _ _ h => h) (yieldsIf_load_mid (by rfl) _ _ rfl Aa 0 rfl (bV (mkB 1 0 0 5)) _ (fun w hSw => hSw) Tryd.underlying48 rfl rfl) (by assumption) ?_
  try simp only [Act.put, List.setIfInBounds_toArray, List.set_cons_zero, List.set_cons_succ]
  refine wpAnyH_ready (rs := [0, 7]) (by kernel_rfl) (by simp) ?_
  refine AllReadyH.cons (by first | (simp only [List.getElem?_toArray, List.getElem?_cons_zero, List.getElem?_cons_succ]; done) | (simp only [List.getElem?_toArray, List.getElem?_cons_zero, List.getElem?_cons_succ]; rfl)) (fun K hK => ?_) ?_
  · go_simp
    refine (new18_calls _).mono ?_
    rintro e W7 ⟨rfl, hx⟩
    replace HS := Lib.hid (HS.out.on hx)
    clear hx
    try (go_wp2_with fail)
    refine hK.out _ _ (by (try dsimp only); exact (HS.out.blk (Aa, (mkB 1 0 0 5)) (by simp)).1.range) (fun hHeld => ?_)
    clear hK K
    try simp only [Act.put, List.setIfInBounds_toArray, List.set_cons_zero, List.set_cons_succ]
    refine wpAnyH_ready (rs := [3, 7]) (by kernel_rfl) (by simp) ?_
    refine AllReadyH.cons (by first | (simp only [List.getElem?_toArray, List.getElem?_cons_zero, List.getElem?_cons_succ]; done) | (simp only [List.getElem?_toArray, List.getElem?_cons_zero, List.getElem?_cons_succ]; rfl)) (fun K hK => ?_) ?_
    · go_simp
      refine (HV1.out _ tb mb HS.out.ext HS.out.tr).mono ?_
      rintro e W8 ⟨rfl, hx⟩
      replace HS := Lib.hid (HS.out.on hx)
      clear hx
      try (go_wp2_with fail)
      refine hK.out _ _ (by (try dsimp only); exact (HS.out.blk (Aa, (mkB 1 0 0 5)) (by simp)).1.range) (fun hHeld => ?_)
      clear hK K
      try simp only [Act.put, List.setIfInBounds_toArray, List.set_cons_zero, List.set_cons_succ]
      refine wpAnyH_take (i := 4) (v := ?_) (by first | (simp only [List.getElem?_toArray, List.getElem?_cons_zero, List.getElem?_cons_succ]; done) | (simp only [List.getElem?_toArray, List.getElem?_cons_zero, List.getElem?_cons_succ]; rfl)) (by kernel_rfl) (by kernel_rfl) (by kernel_rfl) (by exact fun _ _ _ h => h) (Or.inl ⟨by rfl, ?hy4⟩) (by assumption) ?_
      case hy4 => (intro w hSw; clear hSw; go_simp; try with_reducible rfl)
      try simp only [Act.put, List.setIfInBounds_toArray, List.set_cons_zero, List.set_cons_succ]
      refine wpAnyH_take (i := 5) (v := ?_) (by first | (simp only [List.getElem?_toArray, List.getElem?_cons_zero, List.getElem?_cons_succ]; done) | (simp only [List.getElem?_toArray, List.getElem?_cons_zero, List.getElem?_cons_succ]; rfl)) (by kernel_rfl) (by kernel_rfl) (by kernel_rfl) (by exact fun _ _ _ h => h) (Or.inl ⟨by rfl, ?hy5⟩) (by assumption) ?_
      case hy5 => (intro w hSw; clear hSw; go_simp; try with_reducible rfl)
      try simp only [Act.put, List.setIfInBounds_toArray, List.set_cons_zero, List.set_cons_succ]
      refine wpAnyH_take (i := 6) (v := ?_) (by first | (simp only [List.getElem?_toArray, List.getElem?_cons_zero, List.getElem?_cons_succ]; done) | (simp only [List.getElem?_toArray, List.getElem?_cons_zero, List.getElem?_cons_succ]; rfl)) (by kernel_rfl) (by kernel_rfl) (by kernel_rfl) (by exact fun _ _ _ h => h) (Or.inl ⟨by rfl, ?hy6⟩) (by assumption) ?_
      case hy6 => (intro w hSw; clear hSw; go_simp; try with_reducible rfl)
      try simp only [Act.put, List.setIfInBounds_toArray, List.set_cons_zero, List.set_cons_succ]
      refine wpAnyH_ready (rs := [7]) (by kernel_rfl) (by simp) ?_
      refine AllReadyH.cons (by first | (simp only [List.getElem?_toArray, List.getElem?_cons_zero, List.getElem?_cons_succ]; done) | (simp only [List.getElem?_toArray, List.getElem?_cons_zero, List.getElem?_cons_succ]; rfl)) (fun K hK => ?_) ?_
      · go_simp
        replace HS := Lib.hid (show KS w (W8.alloc (.cells (sV ⟨0, 0, 0, 0, 0⟩).toArray 89)) tb mb (LS4 da db dc dd) _ W8.heap.size ⟨0, 0, 0, 0, 0⟩ from KS.new HS.out)
        refine hK.out _ _ (by (try dsimp only); exact (HS.out.kb.blk (Aa, (mkB 1 0 0 5)) (by simp)).1.range) (fun hHeld => ?_)
        clear hK K
        try simp only [Act.put, List.setIfInBounds_toArray, List.set_cons_zero, List.set_cons_succ]
        generalize W8.heap.size = As at *
        refine wpAnyH_ready (rs := [8]) (by kernel_rfl) (by simp) ?_
        refine AllReadyH.cons (by first | (simp only [List.getElem?_toArray, List.getElem?_cons_zero, List.getElem?_cons_succ]; done) | (simp only [List.getElem?_toArray, List.getElem?_cons_zero, List.getElem?_cons_succ]; rfl)) (fun K hK => ?_) ?_
        · skip
          rw [if_pos (by rfl)]
          refine wp_store_mid _ _ _ rfl As 0 (sV ⟨1, 0, 0, 0, 0⟩).toArray rfl rfl HS.out.there rfl (all_oneCell_toArray (sV_one _)) ?_
          rw [List.toList_toArray]
          replace HS := Lib.hid (HS.out.store ⟨1, 0, 0, 0, 0⟩)
          refine hK.out _ _ (by (try dsimp only); exact (HS.out.kb.blk (Aa, (mkB 1 0 0 5)) (by simp)).1.range) (fun hHeld => ?_)
          clear hK K
          try simp only [Act.put, List.setIfInBounds_toArray, List.set_cons_zero, List.set_cons_succ]
          refine wpAnyH_take (i := 9) (v := ?_) (by first | (simp only [List.getElem?_toArray, List.getElem?_cons_zero, List.getElem?_cons_succ]; done) | (simp only [List.getElem?_toArray, List.getElem?_cons_zero, List.getElem?_cons_succ]; rfl)) (by kernel_rfl) (by kernel_rfl) (by kernel_rfl) (by exact fun _ _ _ h => h) (Or.inl ⟨by rfl, ?hy9⟩) (by assumption) ?_
          case hy9 => (intro w hSw; clear hSw; go_simp; try with_reducible rfl)
          try simp only [Act.put, List.setIfInBounds_toArray, List.set_cons_zero, List.set_cons_succ]
          refine wpAnyH_done (by kernel_rfl) ?_ _
          clear hHeld
          go_wp2_with (first | (refine wpList_load_row rfl _ _ rfl As rfl 89 (sV ⟨1, 0, 0, 0, 0⟩).toArray (0, 0) _ HS.out.sa Tryd.underlying89 rfl rfl ?_) | (refine wpList_load_row rfl _ _ rfl Ab rfl 48 (bV (qB 2 da 1 5 9)).toArray (0, 0) _ (HS.out.kb.blk (Ab, (qB 2 da 1 5 9)) (by simp)).1 Tryd.underlying48 rfl rfl ?_))
          refine (HV2.out _ tb mb HS.out.kb.ext HS.out.kb.tr).mono ?_
          rintro e W9 ⟨rfl, hx⟩
          replace HS := Lib.hid (HS.out.on hx)
          clear hx
          go_wp2_with (first | (refine wpList_store_mid rfl _ _ _ rfl As 0 (sV ⟨2, 0, 0, 1, da⟩).toArray rfl rfl HS.out.there rfl (all_oneCell_toArray (sV_one _)) ?_; rw [List.toList_toArray]; replace HS := Lib.hid (HS.out.store ⟨2, 0, 0, 1, da⟩)) | (refine wpList_load_row rfl _ _ rfl As rfl 89 (sV ⟨2, 0, 0, 1, da⟩).toArray (0, 0) _ HS.out.sa Tryd.underlying89 rfl rfl ?_) | (refine wpList_load_row rfl _ _ rfl Ac rfl 48 (bV (qB 3 db 2 9 12)).toArray (0, 0) _ (HS.out.kb.blk (Ac, (qB 3 db 2 9 12)) (by simp)).1 Tryd.underlying48 rfl rfl ?_))
          refine (HV3.out _ tb mb HS.out.kb.ext HS.out.kb.tr).mono ?_
          rintro e W9 ⟨rfl, hx⟩
          replace HS := Lib.hid (HS.out.on hx)
          clear hx
          go_wp2_with (first | (refine wpList_store_mid rfl _ _ _ rfl As 0 (sV ⟨3, 1, da, 2, db⟩).toArray rfl rfl HS.out.there rfl (all_oneCell_toArray (sV_one _)) ?_; rw [List.toList_toArray]; replace HS := Lib.hid (HS.out.store ⟨3, 1, da, 2, db⟩)) | (refine wpList_load_row rfl _ _ rfl As rfl 89 (sV ⟨3, 1, da, 2, db⟩).toArray (0, 0) _ HS.out.sa Tryd.underlying89 rfl rfl ?_) | (refine wpList_load_row rfl _ _ rfl Ac rfl 48 (bV (qB 3 db 2 9 12)).toArray (0, 0) _ (HS.out.kb.blk (Ac, (qB 3 db 2 9 12)) (by simp)).1 Tryd.underlying48 rfl rfl ?_))
          refine (HV4.out _ tb mb HS.out.kb.ext HS.out.kb.tr).mono ?_
          rintro e W9 ⟨rfl, hx⟩
          replace HS := Lib.hid (HS.out.on hx)
          clear hx
          go_wp2_with (first | (refine wpList_store_new rfl _ _ _ rfl _ _ (sV ⟨3, 1, da, 2, db⟩) rfl rfl rfl rfl (sV_one _) ?_; intro W10 hX hB; replace HS := Lib.hid (HS.out.on hX); clear hX hB) | (refine wpList_load_row rfl _ _ rfl As rfl 89 (sV ⟨3, 1, da, 2, db⟩).toArray (0, 0) _ HS.out.sa Tryd.underlying89 rfl rfl ?_) | (refine wpList_load_row rfl _ _ rfl Ad rfl 48 (bV (mkB 4 0 0 7)).toArray (0, 0) _ (HS.out.kb.blk (Ad, (mkB 4 0 0 7)) (by simp)).1 Tryd.underlying48 rfl rfl ?_))
          refine (HM1.out _ tb mb HS.out.kb.ext HS.out.kb.tr).mono ?_
          rintro e W9 ⟨rfl, hx⟩
          replace HS := Lib.hid (HS.out.on hx)
          clear hx
          go_upto_region 17 with (fail)
          have XB := Lib.hid (fun x : ExtW W9 => b17_calls 9 0 0 99 x.1)
          have XM := Lib.hid (fun x : ExtW W9 => HM2.out x.1 tb mb (HS.out.kb.ext.tr x.2) (HS.out.kb.tr.ext x.2))
          have HKs := Lib.hid (show ∀ w', (∃ x : ExtW W9, w' = x.1) → Blk w' As 89 (sV ⟨3, 1, da, 2, db⟩) from fun w' ⟨x, e⟩ => e ▸ HS.out.sa.ext x.2)
          refine wp_region_grow (by kernel_rfl) (by kernel_rfl) ?_
          repeat (any_goals (first | (refine wpQuiet_load _ _ rfl (by rfl) As (by rfl) 89 (sV ⟨3, 1, da, 2, db⟩) _ HKs.out Tryd.underlying89 rfl rfl ?_; simp only [Act.put, List.setIfInBounds_toArray, List.set_cons_zero, List.set_cons_succ]) | (go_big_quiet_step (first | (go_at_call 19; exact grow_of (XB.out _)) | (go_at_call 31; exact grow_of (XM.out _))))))
          refine wpQuiet_nil ?_
          rintro W11 ⟨x, hx⟩
          replace HS := Lib.hid (HS.out.on (show Ext W9 W11 by rw [hx]; exact x.2))
          clear hx x XB XM HKs
          go_wp2_with fail
          have q0 : ∀ x : ExtW W11, x.1.cell? ⟨As, 0, none⟩ = some (.int .i64 3) := fun x => (HS.out.sa.ext x.2).cell rfl
          have q1 : ∀ x : ExtW W11, x.1.cell? ⟨As, 4, none⟩ = some (.int .i64 2) := fun x => (HS.out.sa.ext x.2).cell rfl
          have q2 : ∀ x : ExtW W11, x.1.cell? ⟨As, 1, none⟩ = some (.int .i64 1) := fun x => (HS.out.sa.ext x.2).cell rfl
          have q3 : ∀ x : ExtW W11, x.1.cell? ⟨As, 2, none⟩ = some (cU64 da) := fun x => (HS.out.sa.ext x.2).cell rfl
          have HKa := Lib.hid (show ∀ w', (∃ x : ExtW W11, w' = x.1) → Blk w' Aa 48 (bV (mkB 1 0 0 5)) from fun w' ⟨x, e⟩ => e ▸ (HS.out.kb.blk (Aa, (mkB 1 0 0 5)) (by simp)).1.ext x.2)
          have XD := Lib.hid (fun x : ExtW W11 => HDa.out x.1 (HS.out.kb.ext.tr x.2))
          refine wp_region_grow (by kernel_rfl) (by kernel_rfl) ?_
          repeat (any_goals (first | (refine wpQuiet_load _ _ rfl (by rfl) Aa (by rfl) 48 (bV (mkB 1 0 0 5)) _ HKa.out Tryd.underlying48 rfl rfl ?_; simp only [Act.put, List.setIfInBounds_toArray, List.set_cons_zero, List.set_cons_succ]) | (go_big_quiet_step (first | (go_at_call 21; exact grow_of (XD.out _))))))
          refine wpQuiet_nil ?_
          rintro W12 ⟨x, hx⟩
          replace HS := Lib.hid (HS.out.on (show Ext W11 W12 by rw [hx]; exact x.2))
          clear hx x XD HKa q0 q1 q2 q3
          go_wp2
          go_ret
          exact ⟨ret_bool (by first | rfl | simp), HS.out.kb.ext⟩
        exact AllReadyH.nil
      exact AllReadyH.nil
    refine AllReadyH.cons (by first | (simp only [List.getElem?_toArray, List.getElem?_cons_zero, List.getElem?_cons_succ]; done) | (simp only [List.getElem?_toArray, List.getElem?_cons_zero, List.getElem?_cons_succ]; rfl)) (fun K hK => ?_) ?_
    · go_simp
      replace HS := Lib.hid (show KS w (W7.alloc (.cells (sV ⟨0, 0, 0, 0, 0⟩).toArray 89)) tb mb (LS4 da db dc dd) _ W7.heap.size ⟨0, 0, 0, 0, 0⟩ from KS.new HS.out)
      refine hK.out _ _ (by (try dsimp only); exact (HS.out.kb.blk (Aa, (mkB 1 0 0 5)) (by simp)).1.range) (fun hHeld => ?_)
      clear hK K
      try simp only [Act.put, List.setIfInBounds_toArray, List.set_cons_zero, List.set_cons_succ]
      generalize W7.heap.size = As at *
      refine wpAnyH_ready (rs := [3]) (by kernel_rfl) (by simp) ?_
      refine AllReadyH.cons (by first | (simp only [List.getElem?_toArray, List.getElem?_cons_zero, List.getElem?_cons_succ]; done) | (simp only [List.getElem?_toArray, List.getElem?_cons_zero, List.getElem?_cons_succ]; rfl)) (fun K hK => ?_) ?_
      · go_simp
        refine (HV1.out _ tb mb HS.out.kb.ext HS.out.kb.tr).mono ?_
        rintro e W8 ⟨rfl, hx⟩
        replace HS := Lib.hid (HS.out.on hx)
        clear hx
        try (go_wp2_with fail)
        refine hK.out _ _ (by (try dsimp only); exact (HS.out.kb.blk (Aa, (mkB 1 0 0 5)) (by simp)).1.range) (fun hHeld => ?_)
        clear hK K
        try simp only [Act.put, List.setIfInBounds_toArray, List.set_cons_zero, List.set_cons_succ]
        refine wpAnyH_take (i := 4) (v := ?_) (by first | (simp only [List.getElem?_toArray, List.getElem?_cons_zero, List.getElem?_cons_succ]; done) | (simp only [List.getElem?_toArray, List.getElem?_cons_zero, List.getElem?_cons_succ]; rfl)) (by kernel_rfl) (by kernel_rfl) (by kernel_rfl) (by exact fun _ _ _ h => h) (Or.inl ⟨by rfl, ?hy4⟩) (by assumption) ?_
        case hy4 => (intro w hSw; clear hSw; go_simp; try with_reducible rfl)
        try simp only [Act.put, List.setIfInBounds_toArray, List.set_cons_zero, List.set_cons_succ]
        refine wpAnyH_take (i := 5) (v := ?_) (by first | (simp only [List.getElem?_toArray, List.getElem?_cons_zero, List.getElem?_cons_succ]; done) | (simp only [List.getElem?_toArray, List.getElem?_cons_zero, List.getElem?_cons_succ]; rfl)) (by kernel_rfl) (by kernel_rfl) (by kernel_rfl) (by exact fun _ _ _ h => h) (Or.inl ⟨by rfl, ?hy5⟩) (by assumption) ?_
        case hy5 => (intro w hSw; clear hSw; go_simp; try with_reducible rfl)
        try simp only [Act.put, List.setIfInBounds_toArray, List.set_cons_zero, List.set_cons_succ]
        refine wpAnyH_take (i := 6) (v := ?_) (by first | (simp only [List.getElem?_toArray, List.getElem?_cons_zero, List.getElem?_cons_succ]; done) | (simp only [List.getElem?_toArray, List.getElem?_cons_zero, List.getElem?_cons_succ]; rfl)) (by kernel_rfl) (by kernel_rfl) (by kernel_rfl) (by exact fun _ _ _ h => h) (Or.inl ⟨by rfl, ?hy6⟩) (by assumption) ?_
        case hy6 => (intro w hSw; clear hSw; go_simp; try with_reducible rfl)
        try simp only [Act.put, List.setIfInBounds_toArray, List.set_cons_zero, List.set_cons_succ]
        refine wpAnyH_ready (rs := [8]) (by kernel_rfl) (by simp) ?_
        refine AllReadyH.cons (by first | (simp only [List.getElem?_toArray, List.getElem?_cons_zero, List.getElem?_cons_succ]; done) | (simp only [List.getElem?_toArray, List.getElem?_cons_zero, List.getElem?_cons_succ]; rfl)) (fun K hK => ?_) ?_
        · skip
          rw [if_pos (by rfl)]
          refine wp_store_mid _ _ _ rfl As 0 (sV ⟨1, 0, 0, 0, 0⟩).toArray rfl rfl HS.out.there rfl (all_oneCell_toArray (sV_one _)) ?_
          rw [List.toList_toArray]
          replace HS := Lib.hid (HS.out.store ⟨1, 0, 0, 0, 0⟩)
          refine hK.out _ _ (by (try dsimp only); exact (HS.out.kb.blk (Aa, (mkB 1 0 0 5)) (by simp)).1.range) (fun hHeld => ?_)
          clear hK K
          try simp only [Act.put, List.setIfInBounds_toArray, List.set_cons_zero, List.set_cons_succ]
          refine wpAnyH_take (i := 9) (v := ?_) (by first | (simp only [List.getElem?_toArray, List.getElem?_cons_zero, List.getElem?_cons_succ]; done) | (simp only [List.getElem?_toArray, List.getElem?_cons_zero, List.getElem?_cons_succ]; rfl)) (by kernel_rfl) (by kernel_rfl) (by kernel_rfl) (by exact fun _ _ _ h => h) (Or.inl ⟨by rfl, ?hy9⟩) (by assumption) ?_
          case hy9 => (intro w hSw; clear hSw; go_simp; try with_reducible rfl)
          try simp only [Act.put, List.setIfInBounds_toArray, List.set_cons_zero, List.set_cons_succ]
          refine wpAnyH_done (by kernel_rfl) ?_ _
          clear hHeld
          go_wp2_with (first | (refine wpList_load_row rfl _ _ rfl As rfl 89 (sV ⟨1, 0, 0, 0, 0⟩).toArray (0, 0) _ HS.out.sa Tryd.underlying89 rfl rfl ?_) | (refine wpList_load_row rfl _ _ rfl Ab rfl 48 (bV (qB 2 da 1 5 9)).toArray (0, 0) _ (HS.out.kb.blk (Ab, (qB 2 da 1 5 9)) (by simp)).1 Tryd.underlying48 rfl rfl ?_))
          refine (HV2.out _ tb mb HS.out.kb.ext HS.out.kb.tr).mono ?_
          rintro e W9 ⟨rfl, hx⟩
          replace HS := Lib.hid (HS.out.on hx)
          clear hx
          go_wp2_with (first | (refine wpList_store_mid rfl _ _ _ rfl As 0 (sV ⟨2, 0, 0, 1, da⟩).toArray rfl rfl HS.out.there rfl (all_oneCell_toArray (sV_one _)) ?_; rw [List.toList_toArray]; replace HS := Lib.hid (HS.out.store ⟨2, 0, 0, 1, da⟩)) | (refine wpList_load_row rfl _ _ rfl As rfl 89 (sV ⟨2, 0, 0, 1, da⟩).toArray (0, 0) _ HS.out.sa Tryd.underlying89 rfl rfl ?_) | (refine wpList_load_row rfl _ _ rfl Ac rfl 48 (bV (qB 3 db 2 9 12)).toArray (0, 0) _ (HS.out.kb.blk (Ac, (qB 3 db 2 9 12)) (by simp)).1 Tryd.underlying48 rfl rfl ?_))
          refine (HV3.out _ tb mb HS.out.kb.ext HS.out.kb.tr).mono ?_
          rintro e W9 ⟨rfl, hx⟩
          replace HS := Lib.hid (HS.out.on hx)
          clear hx
          go_wp2_with (first | (refine wpList_store_mid rfl _ _ _ rfl As 0 (sV ⟨3, 1, da, 2, db⟩).toArray rfl rfl HS.out.there rfl (all_oneCell_toArray (sV_one _)) ?_; rw [List.toList_toArray]; replace HS := Lib.hid (HS.out.store ⟨3, 1, da, 2, db⟩)) | (refine wpList_load_row rfl _ _ rfl As rfl 89 (sV ⟨3, 1, da, 2, db⟩).toArray (0, 0) _ HS.out.sa Tryd.underlying89 rfl rfl ?_) | (refine wpList_load_row rfl _ _ rfl Ac rfl 48 (bV (qB 3 db 2 9 12)).toArray (0, 0) _ (HS.out.kb.blk (Ac, (qB 3 db 2 9 12)) (by simp)).1 Tryd.underlying48 rfl rfl ?_))
          refine (HV4.out _ tb mb HS.out.kb.ext HS.out.kb.tr).mono ?_
          rintro e W9 ⟨rfl, hx⟩
          replace HS := Lib.hid (HS.out.on hx)
          clear hx
          go_wp2_with (first | (refine wpList_store_new rfl _ _ _ rfl _ _ (sV ⟨3, 1, da, 2, db⟩) rfl rfl rfl rfl (sV_one _) ?_; intro W10 hX hB; replace HS := Lib.hid (HS.out.on hX); clear hX hB) | (refine wpList_load_row rfl _ _ rfl As rfl 89 (sV ⟨3, 1, da, 2, db⟩).toArray (0, 0) _ HS.out.sa Tryd.underlying89 rfl rfl ?_) | (refine wpList_load_row rfl _ _ rfl Ad rfl 48 (bV (mkB 4 0 0 7)).toArray (0, 0) _ (HS.out.kb.blk (Ad, (mkB 4 0 0 7)) (by simp)).1 Tryd.underlying48 rfl rfl ?_))
          refine (HM1.out _ tb mb HS.out.kb.ext HS.out.kb.tr).mono ?_
          rintro e W9 ⟨rfl, hx⟩
          replace HS := Lib.hid (HS.out.on hx)
          clear hx
          go_upto_region 17 with (fail)
          have XB := Lib.hid (fun x : ExtW W9 => b17_calls 9 0 0 99 x.1)
          have XM := Lib.hid (fun x : ExtW W9 => HM2.out x.1 tb mb (HS.out.kb.ext.tr x.2) (HS.out.kb.tr.ext x.2))
          have HKs := Lib.hid (show ∀ w', (∃ x : ExtW W9, w' = x.1) → Blk w' As 89 (sV ⟨3, 1, da, 2, db⟩) from fun w' ⟨x, e⟩ => e ▸ HS.out.sa.ext x.2)
          refine wp_region_grow (by kernel_rfl) (by kernel_rfl) ?_
          repeat (any_goals (first | (refine wpQuiet_load _ _ rfl (by rfl) As (by rfl) 89 (sV ⟨3, 1, da, 2, db⟩) _ HKs.out Tryd.underlying89 rfl rfl ?_; simp only [Act.put, List.setIfInBounds_toArray, List.set_cons_zero, List.set_cons_succ]) | (go_big_quiet_step (first | (go_at_call 19; exact grow_of (XB.out _)) | (go_at_call 31; exact grow_of (XM.out _))))))
          refine wpQuiet_nil ?_
          rintro W11 ⟨x, hx⟩
          replace HS := Lib.hid (HS.out.on (show Ext W9 W11 by rw [hx]; exact x.2))
          clear hx x XB XM HKs
          go_wp2_with fail
          have q0 : ∀ x : ExtW W11, x.1.cell? ⟨As, 0, none⟩ = some (.int .i64 3) := fun x => (HS.out.sa.ext x.2).cell rfl
          have q1 : ∀ x : ExtW W11, x.1.cell? ⟨As, 4, none⟩ = some (.int .i64 2) := fun x => (HS.out.sa.ext x.2).cell rfl
          have q2 : ∀ x : ExtW W11, x.1.cell? ⟨As, 1, none⟩ = some (.int .i64 1) := fun x => (HS.out.sa.ext x.2).cell rfl
          have q3 : ∀ x : ExtW W11, x.1.cell? ⟨As, 2, none⟩ = some (cU64 da) := fun x => (HS.out.sa.ext x.2).cell rfl
          have HKa := Lib.hid (show ∀ w', (∃ x : ExtW W11, w' = x.1) → Blk w' Aa 48 (bV (mkB 1 0 0 5)) from fun w' ⟨x, e⟩ => e ▸ (HS.out.kb.blk (Aa, (mkB 1 0 0 5)) (by simp)).1.ext x.2)
          have XD := Lib.hid (fun x : ExtW W11 => HDa.out x.1 (HS.out.kb.ext.tr x.2))
          refine wp_region_grow (by kernel_rfl) (by kernel_rfl) ?_
          repeat (any_goals (first | (refine wpQuiet_load _ _ rfl (by rfl) Aa (by rfl) 48 (bV (mkB 1 0 0 5)) _ HKa.out Tryd.underlying48 rfl rfl ?_; simp only [Act.put, List.setIfInBounds_toArray, List.set_cons_zero, List.set_cons_succ]) | (go_big_quiet_step (first | (go_at_call 21; exact grow_of (XD.out _))))))
          refine wpQuiet_nil ?_
          rintro W12 ⟨x, hx⟩
          replace HS := Lib.hid (HS.out.on (show Ext W11 W12 by rw [hx]; exact x.2))
          clear hx x XD HKa q0 q1 q2 q3
          go_wp2
          go_ret
          exact ⟨ret_bool (by first | rfl | simp), HS.out.kb.ext⟩
        exact AllReadyH.nil
      exact AllReadyH.nil
    exact AllReadyH.nil
  refine AllReadyH.cons (by first | (simp only [List.getElem?_toArray, List.getElem?_cons_zero, List.getElem?_cons_succ]; done) | (simp only [List.getElem?_toArray, List.getElem?_cons_zero, List.getElem?_cons_succ]; rfl)) (fun K hK => ?_) ?_
  · go_simp
    replace HS := Lib.hid (show KS w (W6.drew.alloc (.cells (sV ⟨0, 0, 0, 0, 0⟩).toArray 89)) tb mb (LS4 da db dc dd) _ W6.heap.size ⟨0, 0, 0, 0, 0⟩ from KS.new HS.out)
    refine hK.out _ _ (by (try dsimp only); exact (HS.out.kb.blk (Aa, (mkB 1 0 0 5)) (by simp)).1.range) (fun hHeld => ?_)
    clear hK K
    try simp only [Act.put, List.setIfInBounds_toArray, List.set_cons_zero, List.set_cons_succ]
    generalize W6.heap.size = As at *
    refine wpAnyH_ready (rs := [0]) (by kernel_rfl) (by simp) ?_
    refine AllReadyH.cons (by first | (simp only [List.getElem?_toArray, List.getElem?_cons_zero, List.getElem?_cons_succ]; done) | (simp only [List.getElem?_toArray, List.getElem?_cons_zero, List.getElem?_cons_succ]; rfl)) (fun K hK => ?_) ?_
    · go_simp
      refine (new18_calls _).mono ?_
      rintro e W7 ⟨rfl, hx⟩
      replace HS := Lib.hid (HS.out.on hx)
      clear hx
      try (go_wp2_with fail)
      refine hK.out _ _ (by (try dsimp only); exact (HS.out.kb.blk (Aa, (mkB 1 0 0 5)) (by simp)).1.range) (fun hHeld => ?_)
      clear hK K
      try simp only [Act.put, List.setIfInBounds_toArray, List.set_cons_zero, List.set_cons_succ]
      refine wpAnyH_ready (rs := [3]) (by kernel_rfl) (by simp) ?_
      refine AllReadyH.cons (by first | (simp only [List.getElem?_toArray, List.getElem?_cons_zero, List.getElem?_cons_succ]; done) | (simp only [List.getElem?_toArray, List.getElem?_cons_zero, List.getElem?_cons_succ]; rfl)) (fun K hK => ?_) ?_
      · go_simp
        refine (HV1.out _ tb mb HS.out.kb.ext HS.out.kb.tr).mono ?_
        rintro e W8 ⟨rfl, hx⟩
        replace HS := Lib.hid (HS.out.on hx)
        clear hx
        try (go_wp2_with fail)
        refine hK.out _ _ (by (try dsimp only); exact (HS.out.kb.blk (Aa, (mkB 1 0 0 5)) (by simp)).1.range) (fun hHeld => ?_)
        clear hK K
        try simp only [Act.put, List.setIfInBounds_toArray, List.set_cons_zero, List.set_cons_succ]
        refine wpAnyH_take (i := 4) (v := ?_) (by first | (simp only [List.getElem?_toArray, List.getElem?_cons_zero, List.getElem?_cons_succ]; done) | (simp only [List.getElem?_toArray, List.getElem?_cons_zero, List.getElem?_cons_succ]; rfl)) (by kernel_rfl) (by kernel_rfl) (by kernel_rfl) (by exact fun _ _ _ h => h) (Or.inl ⟨by rfl, ?hy4⟩) (by assumption) ?_
        case hy4 => (intro w hSw; clear hSw; go_simp; try with_reducible rfl)
        try simp only [Act.put, List.setIfInBounds_toArray, List.set_cons_zero, List.set_cons_succ]
        refine wpAnyH_take (i := 5) (v := ?_) (by first | (simp only [List.getElem?_toArray, List.getElem?_cons_zero, List.getElem?_cons_succ]; done) | (simp only [List.getElem?_toArray, List.getElem?_cons_zero, List.getElem?_cons_succ]; rfl)) (by kernel_rfl) (by kernel_rfl) (by kernel_rfl) (by exact fun _ _ _ h => h) (Or.inl ⟨by rfl, ?hy5⟩) (by assumption) ?_
        case hy5 => (intro w hSw; clear hSw; go_simp; try with_reducible rfl)
        try simp only [Act.put, List.setIfInBounds_toArray, List.set_cons_zero, List.set_cons_succ]
        refine wpAnyH_take (i := 6) (v := ?_) (by first | (simp only [List.getElem?_toArray, List.getElem?_cons_zero, List.getElem?_cons_succ]; done) | (simp only [List.getElem?_toArray, List.getElem?_cons_zero, List.getElem?_cons_succ]; rfl)) (by kernel_rfl) (by kernel_rfl) (by kernel_rfl) (by exact fun _ _ _ h => h) (Or.inl ⟨by rfl, ?hy6⟩) (by assumption) ?_
        case hy6 => (intro w hSw; clear hSw; go_simp; try with_reducible rfl)
        try simp only [Act.put, List.setIfInBounds_toArray, List.set_cons_zero, List.set_cons_succ]
        refine wpAnyH_ready (rs := [8]) (by kernel_rfl) (by simp) ?_
        refine AllReadyH.cons (by first | (simp only [List.getElem?_toArray, List.getElem?_cons_zero, List.getElem?_cons_succ]; done) | (simp only [List.getElem?_toArray, List.getElem?_cons_zero, List.getElem?_cons_succ]; rfl)) (fun K hK => ?_) ?_
        · skip
          rw [if_pos (by rfl)]
          refine wp_store_mid _ _ _ rfl As 0 (sV ⟨1, 0, 0, 0, 0⟩).toArray rfl rfl HS.out.there rfl (all_oneCell_toArray (sV_one _)) ?_
          rw [List.toList_toArray]
          replace HS := Lib.hid (HS.out.store ⟨1, 0, 0, 0, 0⟩)
          refine hK.out _ _ (by (try dsimp only); exact (HS.out.kb.blk (Aa, (mkB 1 0 0 5)) (by simp)).1.range) (fun hHeld => ?_)
          clear hK K
          try simp only [Act.put, List.setIfInBounds_toArray, List.set_cons_zero, List.set_cons_succ]
          refine wpAnyH_take (i := 9) (v := ?_) (by first | (simp only [List.getElem?_toArray, List.getElem?_cons_zero, List.getElem?_cons_succ]; done) | (simp only [List.getElem?_toArray, List.getElem?_cons_zero, List.getElem?_cons_succ]; rfl)) (by kernel_rfl) (by kernel_rfl) (by kernel_rfl) (by exact fun _ _ _ h => h) (Or.inl ⟨by rfl, ?hy9⟩) (by assumption) ?_
          case hy9 => (intro w hSw; clear hSw; go_simp; try with_reducible rfl)
          try simp only [Act.put, List.setIfInBounds_toArray, List.set_cons_zero, List.set_cons_succ]
          refine wpAnyH_done (by kernel_rfl) ?_ _
          clear hHeld
          go_wp2_with (first | (refine wpList_load_row rfl _ _ rfl As rfl 89 (sV ⟨1, 0, 0, 0, 0⟩).toArray (0, 0) _ HS.out.sa Tryd.underlying89 rfl rfl ?_) | (refine wpList_load_row rfl _ _ rfl Ab rfl 48 (bV (qB 2 da 1 5 9)).toArray (0, 0) _ (HS.out.kb.blk (Ab, (qB 2 da 1 5 9)) (by simp)).1 Tryd.underlying48 rfl rfl ?_))
          refine (HV2.out _ tb mb HS.out.kb.ext HS.out.kb.tr).mono ?_
          rintro e W9 ⟨rfl, hx⟩
          replace HS := Lib.hid (HS.out.on hx)
          clear hx
          go_wp2_with (first | (refine wpList_store_mid rfl _ _ _ rfl As 0 (sV ⟨2, 0, 0, 1, da⟩).toArray rfl rfl HS.out.there rfl (all_oneCell_toArray (sV_one _)) ?_; rw [List.toList_toArray]; replace HS := Lib.hid (HS.out.store ⟨2, 0, 0, 1, da⟩)) | (refine wpList_load_row rfl _ _ rfl As rfl 89 (sV ⟨2, 0, 0, 1, da⟩).toArray (0, 0) _ HS.out.sa Tryd.underlying89 rfl rfl ?_) | (refine wpList_load_row rfl _ _ rfl Ac rfl 48 (bV (qB 3 db 2 9 12)).toArray (0, 0) _ (HS.out.kb.blk (Ac, (qB 3 db 2 9 12)) (by simp)).1 Tryd.underlying48 rfl rfl ?_))
          refine (HV3.out _ tb mb HS.out.kb.ext HS.out.kb.tr).mono ?_
          rintro e W9 ⟨rfl, hx⟩
          replace HS := Lib.hid (HS.out.on hx)
          clear hx
          go_wp2_with (first | (refine wpList_store_mid rfl _ _ _ rfl As 0 (sV ⟨3, 1, da, 2, db⟩).toArray rfl rfl HS.out.there rfl (all_oneCell_toArray (sV_one _)) ?_; rw [List.toList_toArray]; replace HS := Lib.hid (HS.out.store ⟨3, 1, da, 2, db⟩)) | (refine wpList_load_row rfl _ _ rfl As rfl 89 (sV ⟨3, 1, da, 2, db⟩).toArray (0, 0) _ HS.out.sa Tryd.underlying89 rfl rfl ?_) | (refine wpList_load_row rfl _ _ rfl Ac rfl 48 (bV (qB 3 db 2 9 12)).toArray (0, 0) _ (HS.out.kb.blk (Ac, (qB 3 db 2 9 12)) (by simp)).1 Tryd.underlying48 rfl rfl ?_))
          refine (HV4.out _ tb mb HS.out.kb.ext HS.out.kb.tr).mono ?_
          rintro e W9 ⟨rfl, hx⟩
          replace HS := Lib.hid (HS.out.on hx)
          clear hx
          go_wp2_with (first | (refine wpList_store_new rfl _ _ _ rfl _ _ (sV ⟨3, 1, da, 2, db⟩) rfl rfl rfl rfl (sV_one _) ?_; intro W10 hX hB; replace HS := Lib.hid (HS.out.on hX); clear hX hB) | (refine wpList_load_row rfl _ _ rfl As rfl 89 (sV ⟨3, 1, da, 2, db⟩).toArray (0, 0) _ HS.out.sa Tryd.underlying89 rfl rfl ?_) | (refine wpList_load_row rfl _ _ rfl Ad rfl 48 (bV (mkB 4 0 0 7)).toArray (0, 0) _ (HS.out.kb.blk (Ad, (mkB 4 0 0 7)) (by simp)).1 Tryd.underlying48 rfl rfl ?_))
          refine (HM1.out _ tb mb HS.out.kb.ext HS.out.kb.tr).mono ?_
          rintro e W9 ⟨rfl, hx⟩
          replace HS := Lib.hid (HS.out.on hx)
          clear hx
          go_upto_region 17 with (fail)
          have XB := Lib.hid (fun x : ExtW W9 => b17_calls 9 0 0 99 x.1)
          have XM := Lib.hid (fun x : ExtW W9 => HM2.out x.1 tb mb (HS.out.kb.ext.tr x.2) (HS.out.kb.tr.ext x.2))
          have HKs := Lib.hid (show ∀ w', (∃ x : ExtW W9, w' = x.1) → Blk w' As 89 (sV ⟨3, 1, da, 2, db⟩) from fun w' ⟨x, e⟩ => e ▸ HS.out.sa.ext x.2)
          refine wp_region_grow (by kernel_rfl) (by kernel_rfl) ?_
          repeat (any_goals (first | (refine wpQuiet_load _ _ rfl (by rfl) As (by rfl) 89 (sV ⟨3, 1, da, 2, db⟩) _ HKs.out Tryd.underlying89 rfl rfl ?_; simp only [Act.put, List.setIfInBounds_toArray, List.set_cons_zero, List.set_cons_succ]) | (go_big_quiet_step (first | (go_at_call 19; exact grow_of (XB.out _)) | (go_at_call 31; exact grow_of (XM.out _))))))
          refine wpQuiet_nil ?_
          rintro W11 ⟨x, hx⟩
          replace HS := Lib.hid (HS.out.on (show Ext W9 W11 by rw [hx]; exact x.2))
          clear hx x XB XM HKs
          go_wp2_with fail
          have q0 : ∀ x : ExtW W11, x.1.cell? ⟨As, 0, none⟩ = some (.int .i64 3) := fun x => (HS.out.sa.ext x.2).cell rfl
          have q1 : ∀ x : ExtW W11, x.1.cell? ⟨As, 4, none⟩ = some (.int .i64 2) := fun x => (HS.out.sa.ext x.2).cell rfl
          have q2 : ∀ x : ExtW W11, x.1.cell? ⟨As, 1, none⟩ = some (.int .i64 1) := fun x => (HS.out.sa.ext x.2).cell rfl
          have q3 : ∀ x : ExtW W11, x.1.cell? ⟨As, 2, none⟩ = some (cU64 da) := fun x => (HS.out.sa.ext x.2).cell rfl
          have HKa := Lib.hid (show ∀ w', (∃ x : ExtW W11, w' = x.1) → Blk w' Aa 48 (bV (mkB 1 0 0 5)) from fun w' ⟨x, e⟩ => e ▸ (HS.out.kb.blk (Aa, (mkB 1 0 0 5)) (by simp)).1.ext x.2)
          have XD := Lib.hid (fun x : ExtW W11 => HDa.out x.1 (HS.out.kb.ext.tr x.2))
          refine wp_region_grow (by kernel_rfl) (by kernel_rfl) ?_
          repeat (any_goals (first | (refine wpQuiet_load _ _ rfl (by rfl) Aa (by rfl) 48 (bV (mkB 1 0 0 5)) _ HKa.out Tryd.underlying48 rfl rfl ?_; simp only [Act.put, List.setIfInBounds_toArray, List.set_cons_zero, List.set_cons_succ]) | (go_big_quiet_step (first | (go_at_call 21; exact grow_of (XD.out _))))))
          refine wpQuiet_nil ?_
          rintro W12 ⟨x, hx⟩
          replace HS := Lib.hid (HS.out.on (show Ext W11 W12 by rw [hx]; exact x.2))
          clear hx x XD HKa q0 q1 q2 q3
          go_wp2
          go_ret
          exact ⟨ret_bool (by first | rfl | simp), HS.out.kb.ext⟩
        exact AllReadyH.nil
      exact AllReadyH.nil
    exact AllReadyH.nil
  exact AllReadyH.nil
end Go.Proofs.YtilengooiffikaaDoor
