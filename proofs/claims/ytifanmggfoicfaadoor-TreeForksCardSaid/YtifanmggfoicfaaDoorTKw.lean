/- The walk of known() of law 17. -/
import Derived.Test.YtifanmggfoicfaaDoorTKb
import Derived.Test.YtifanmggfoicfaaDoorTW4
import Derived.Test.YtifanmggfoicfaaDoorTW5
import Derived.Test.YtifanmggfoicfaaDoorTW6
import Derived.Test.YtifanmggfoicfaaDoorLex
import Derived.Deep.RegionHeld3
import Derived.Deep.DeepCutAuto
set_option linter.unusedVariables false
set_option linter.unusedSimpArgs false
namespace Go.Proofs.YtifanmggfoicfaaDoor
open Go.RowKit Go.Sort Go.Maps
set_option maxRecDepth 100000 in
set_option maxHeartbeats 8000000 in
theorem known17_calls (w : World) (ht : TOk w) : Calls Tryd.prog 17 #[] w fun e w' => e = .returned (.bool true) ∧ Ext w w' := by
  obtain ⟨da, db, dc, dd, de, x1, x2, hK⟩ := kn17
  obtain ⟨la, lb, lc, ld, le⟩ := hK.lt
  have HT := Lib.hid (show ∀ W, Ext w W → TOk W from fun W hx => ht.ext hx)
  have oa : OkB (mkB 1 0 0 5) := okB_mk _ _ _ _ (by decide) (by decide) (by decide) (by decide)
  have ob : OkB (mkB 2 da 5 9) := okB_mk _ _ _ _ (by decide) la (by decide) (by decide)
  have oc : OkB (mkB 3 db 9 12) := okB_mk _ _ _ _ (by decide) lb (by decide) (by decide)
  have od : OkB (mkB 3 da 5 7) := okB_mk _ _ _ _ (by decide) la (by decide) (by decide)
  have oe : OkB (mkB 5 dc 12 13) := okB_mk _ _ _ _ (by decide) lc (by decide) (by decide)
  have ox : OkB (mkB 1 da 5 6) := okB_mk _ _ _ _ (by decide) la (by decide) (by decide)
  have oy : OkB (mkB 9 da 6 7) := okB_mk _ _ _ _ (by decide) la (by decide) (by decide)
  have HDa := Lib.hid (show ∀ W, Ext w W → Calls Tryd.prog 21 #[bA (mkB 1 0 0 5)] W fun e w' => e = .returned (cU64 da) ∧ Ext W w' from fun W hx => by have h := blkdig_calls (mkB 1 0 0 5) oa W (HT.out _ hx); rw [hK.a] at h; exact h)
  have HDb := Lib.hid (show ∀ W, Ext w W → Calls Tryd.prog 21 #[bA (mkB 2 da 5 9)] W fun e w' => e = .returned (cU64 db) ∧ Ext W w' from fun W hx => by have h := blkdig_calls (mkB 2 da 5 9) ob W (HT.out _ hx); rw [hK.b] at h; exact h)
  have HDc := Lib.hid (show ∀ W, Ext w W → Calls Tryd.prog 21 #[bA (mkB 3 db 9 12)] W fun e w' => e = .returned (cU64 dc) ∧ Ext W w' from fun W hx => by have h := blkdig_calls (mkB 3 db 9 12) oc W (HT.out _ hx); rw [hK.c] at h; exact h)
  have HDd := Lib.hid (show ∀ W, Ext w W → Calls Tryd.prog 21 #[bA (mkB 3 da 5 7)] W fun e w' => e = .returned (cU64 dd) ∧ Ext W w' from fun W hx => by have h := blkdig_calls (mkB 3 da 5 7) od W (HT.out _ hx); rw [hK.d] at h; exact h)
  have HDe := Lib.hid (show ∀ W, Ext w W → Calls Tryd.prog 21 #[bA (mkB 5 dc 12 13)] W fun e w' => e = .returned (cU64 de) ∧ Ext W w' from fun W hx => by have h := blkdig_calls (mkB 5 dc 12 13) oe W (HT.out _ hx); rw [hK.e] at h; exact h)
  have HA0 := Lib.hid (show ∀ W tb mb, Ext w W → Tr W tb mb T.new → Calls Tryd.prog 20 #[.pointer (some ⟨tb, 0, none⟩), bA (mkB 2 da 5 9)] W fun e w' => e = .returned (.int .i64 11) ∧ Tr w' tb mb T.new ∧ Gr mb W w' ∧ Ext W w' from fun W tb mb hx hT => by
    refine (add_calls W hT (mkB 2 da 5 9) ob (HT.out _ hx) (by show 1 < 1000000; decide)).mono ?_
    rintro e w' ⟨rfl, h2, h3, h4⟩
    rw [hK.b, T.add, hK.c0] at h2
    rw [hK.b, hK.c0] at h4
    exact ⟨by rw [hK.b, hK.c0]; rfl, h2, h3, h4 (by decide)⟩)
  have HA1 := Lib.hid (show ∀ W tb mb, Ext w W → Tr W tb mb T.new → Calls Tryd.prog 20 #[.pointer (some ⟨tb, 0, none⟩), bA (mkB 1 0 0 5)] W fun e w' => e = .returned (.int .i64 0) ∧ Tr w' tb mb (LK1 da) ∧ Gr mb W w' from fun W tb mb hx hT => by
    refine (add_calls W hT (mkB 1 0 0 5) oa (HT.out _ hx) (by show 1 < 1000000; decide)).mono ?_
    rintro e w' ⟨rfl, h2, h3, h4⟩
    rw [hK.a, T.add, hK.c1] at h2
    rw [hK.a, hK.c1] at h4
    exact ⟨by rw [hK.a, hK.c1]; rfl, h2, h3⟩)
  have HA2 := Lib.hid (show ∀ W tb mb, Ext w W → Tr W tb mb (LK1 da) → Calls Tryd.prog 20 #[.pointer (some ⟨tb, 0, none⟩), bA (mkB 2 da 5 9)] W fun e w' => e = .returned (.int .i64 0) ∧ Tr w' tb mb (LK2 da db) ∧ Gr mb W w' from fun W tb mb hx hT => by
    refine (add_calls W hT (mkB 2 da 5 9) ob (HT.out _ hx) (by show 2 < 1000000; decide)).mono ?_
    rintro e w' ⟨rfl, h2, h3, h4⟩
    rw [hK.b, T.add, hK.c2] at h2
    rw [hK.b, hK.c2] at h4
    exact ⟨by rw [hK.b, hK.c2]; rfl, h2, h3⟩)
  have HA3 := Lib.hid (show ∀ W tb mb, Ext w W → Tr W tb mb (LK2 da db) → Calls Tryd.prog 20 #[.pointer (some ⟨tb, 0, none⟩), bA (mkB 3 db 9 12)] W fun e w' => e = .returned (.int .i64 0) ∧ Tr w' tb mb (LK3 da db dc) ∧ Gr mb W w' from fun W tb mb hx hT => by
    refine (add_calls W hT (mkB 3 db 9 12) oc (HT.out _ hx) (by show 3 < 1000000; decide)).mono ?_
    rintro e w' ⟨rfl, h2, h3, h4⟩
    rw [hK.c, T.add, hK.c3] at h2
    rw [hK.c, hK.c3] at h4
    exact ⟨by rw [hK.c, hK.c3]; rfl, h2, h3⟩)
  have HA4 := Lib.hid (show ∀ W tb mb, Ext w W → Tr W tb mb (LK3 da db dc) → Calls Tryd.prog 20 #[.pointer (some ⟨tb, 0, none⟩), bA (mkB 3 da 5 7)] W fun e w' => e = .returned (.int .i64 0) ∧ Tr w' tb mb (LK4 da db dc dd) ∧ Gr mb W w' from fun W tb mb hx hT => by
    refine (add_calls W hT (mkB 3 da 5 7) od (HT.out _ hx) (by show 4 < 1000000; decide)).mono ?_
    rintro e w' ⟨rfl, h2, h3, h4⟩
    rw [hK.d, T.add, hK.c4] at h2
    rw [hK.d, hK.c4] at h4
    exact ⟨by rw [hK.d, hK.c4]; rfl, h2, h3⟩)
  have HA5 := Lib.hid (show ∀ W tb mb, Ext w W → Tr W tb mb (LK4 da db dc dd) → Calls Tryd.prog 20 #[.pointer (some ⟨tb, 0, none⟩), bA (mkB 5 dc 12 13)] W fun e w' => e = .returned (.int .i64 0) ∧ Tr w' tb mb (LK5 da db dc dd de) ∧ Gr mb W w' from fun W tb mb hx hT => by
    refine (add_calls W hT (mkB 5 dc 12 13) oe (HT.out _ hx) (by show 5 < 1000000; decide)).mono ?_
    rintro e w' ⟨rfl, h2, h3, h4⟩
    rw [hK.e, T.add, hK.c5] at h2
    rw [hK.e, hK.c5] at h4
    exact ⟨by rw [hK.e, hK.c5]; rfl, h2, h3⟩)
  have HA6 := Lib.hid (show ∀ W tb mb, Ext w W → Tr W tb mb (LK5 da db dc dd de) → Calls Tryd.prog 20 #[.pointer (some ⟨tb, 0, none⟩), bA (mkB 1 0 0 5)] W fun e w' => e = .returned (.int .i64 5) ∧ Tr w' tb mb (LK5 da db dc dd de) ∧ Gr mb W w' ∧ Ext W w' from fun W tb mb hx hT => by
    refine (add_calls W hT (mkB 1 0 0 5) oa (HT.out _ hx) (by show 6 < 1000000; decide)).mono ?_
    rintro e w' ⟨rfl, h2, h3, h4⟩
    rw [hK.a, T.add, hK.c6] at h2
    rw [hK.a, hK.c6] at h4
    exact ⟨by rw [hK.a, hK.c6]; rfl, h2, h3, h4 (by decide)⟩)
  have HA7 := Lib.hid (show ∀ W tb mb, Ext w W → Tr W tb mb (LK5 da db dc dd de) → Calls Tryd.prog 20 #[.pointer (some ⟨tb, 0, none⟩), bA (mkB 1 da 5 6)] W fun e w' => e = .returned (.int .i64 12) ∧ Tr w' tb mb (LK5 da db dc dd de) ∧ Gr mb W w' ∧ Ext W w' from fun W tb mb hx hT => by
    refine (add_calls W hT (mkB 1 da 5 6) ox (HT.out _ hx) (by show 6 < 1000000; decide)).mono ?_
    rintro e w' ⟨rfl, h2, h3, h4⟩
    rw [hK.x, T.add, hK.c7] at h2
    rw [hK.x, hK.c7] at h4
    exact ⟨by rw [hK.x, hK.c7]; rfl, h2, h3, h4 (by decide)⟩)
  have HA8 := Lib.hid (show ∀ W tb mb, Ext w W → Tr W tb mb (LK5 da db dc dd de) → Calls Tryd.prog 20 #[.pointer (some ⟨tb, 0, none⟩), bA (mkB 9 da 6 7)] W fun e w' => e = .returned (.int .i64 10) ∧ Tr w' tb mb (LK5 da db dc dd de) ∧ Gr mb W w' ∧ Ext W w' from fun W tb mb hx hT => by
    refine (add_calls W hT (mkB 9 da 6 7) oy (HT.out _ hx) (by show 6 < 1000000; decide)).mono ?_
    rintro e w' ⟨rfl, h2, h3, h4⟩
    rw [hK.y, T.add, hK.c8] at h2
    rw [hK.y, hK.c8] at h4
    exact ⟨by rw [hK.y, hK.c8]; rfl, h2, h3, h4 (by decide)⟩)
  have hb1 : ∀ x ∈ [dc, db, da, 0], x < 18446744073709551616 := by simp; omega
  have hb2 : ∀ x ∈ [de, dc, db, da, 0], x < 18446744073709551616 := by simp; omega
  have hb3 : ∀ x ∈ [dd, da, 0], x < 18446744073709551616 := by simp; omega
  have hv : ∀ x b, T.get (LK5 da db dc dd de) x = some b → -1000000000000 ≤ b.v ∧ b.v ≤ 1000000000000 := fun x b h => get_all (P := fun b => -1000000000000 ≤ b.v ∧ b.v ≤ 1000000000000) (fun p hp => by
    simp only [List.mem_cons, T.new, List.not_mem_nil, or_false] at hp
    rcases hp with rfl | rfl | rfl | rfl | rfl | rfl <;> simp [mkB, T.gen]) h
  have HM1 := Lib.hid (show ∀ W tb mb, Tr W tb mb (LK5 da db dc dd de) → Calls Tryd.prog 25 #[.pointer (some ⟨tb, 0, none⟩), cU64 dc] W fun e w' => e = .returned (.tuple #[cU64 da, .bool true]) ∧ Ext W w' from fun W tb mb hT => by have h := commit_calls W hT 9 dc _ hK.w1 hb1 (by decide) hv; rw [hK.m1] at h; exact h)
  have HM2 := Lib.hid (show ∀ W tb mb, Tr W tb mb (LK5 da db dc dd de) → Calls Tryd.prog 25 #[.pointer (some ⟨tb, 0, none⟩), cU64 de] W fun e w' => e = .returned (.tuple #[cU64 0, .bool false]) ∧ Ext W w' from fun W tb mb hT => by have h := commit_calls W hT 9 de _ hK.w2 hb2 (by decide) hv; rw [hK.m2] at h; exact h)
  have HG := Lib.hid (show ∀ W tb mb, Tr W tb mb (LK5 da db dc dd de) → Calls Tryd.prog 48 #[.pointer (some ⟨tb, 0, none⟩), cU64 dd] W fun e w' => e = .returned (.tuple #[bA (mkB 3 da 5 7), .bool true]) ∧ Ext W w' from fun W tb mb hT => by have h := tget_calls W hT dd ld; rw [hK.g] at h; exact h)
  have HP := Lib.hid (show ∀ W tb mb, Tr W tb mb (LK5 da db dc dd de) → Calls Tryd.prog 24 #[.pointer (some ⟨tb, 0, none⟩), cU64 dc] W fun e w' => (∃ g c, e = .returned (.slice (some ⟨g, 0, none⟩) 4 c) ∧ Rd w' (some ⟨g, 0, none⟩) [cU64 0, cU64 da, cU64 db, cU64 dc]) ∧ Ext W w' from fun W tb mb hT => path_calls W hT 9 dc _ hK.w1 hb1 (by decide))
  have HX1 := Lib.hid (show ∀ W tb mb, Tr W tb mb (LK5 da db dc dd de) → Calls Tryd.prog 22 #[.pointer (some ⟨tb, 0, none⟩), cU64 dc, cU64 da] W fun e w' => e = .returned (.bool true) ∧ Ext W w' from fun W tb mb hT => by have h := extends_calls W hT 9 dc _ hK.w1 hb1 (by decide) da; rw [hK.i1] at h; exact h)
  have HX2 := Lib.hid (show ∀ W tb mb, Tr W tb mb (LK5 da db dc dd de) → Calls Tryd.prog 22 #[.pointer (some ⟨tb, 0, none⟩), cU64 dd, cU64 db] W fun e w' => e = .returned (.bool false) ∧ Ext W w' from fun W tb mb hT => by have h := extends_calls W hT 9 dd _ hK.w3 hb3 (by decide) db; rw [hK.i2] at h; exact h)
  have HX3 := Lib.hid (show ∀ W tb mb, Tr W tb mb (LK5 da db dc dd de) → Calls Tryd.prog 22 #[.pointer (some ⟨tb, 0, none⟩), cU64 dd, .int .u64 0] W fun e w' => e = .returned (.bool true) ∧ Ext W w' from fun W tb mb hT => by have h := extends_calls W hT 9 dd _ hK.w3 hb3 (by decide) 0; rw [hK.i3] at h; exact h)
  clear hK oa ob oc od oe ox oy hb1 hb2 hb3 hv ht
  go_enter Tryd.func17, Tryd.ntmps17
  go_wp2_with fail
  refine (tnew_calls w).mono ?_
  rintro e W ⟨⟨tb, mb, rfl, hT, htb, hmb⟩, hx⟩
  have HS := Lib.hid (show KB w W tb mb T.new [] from ⟨hT, (fun _ h => by cases h), hx, hmb⟩)
  clear hT htb hx

  go_wp2_with fail
  refine (b17_calls 1 0 0 5 _).mono ?_
  rintro e W1 ⟨rfl, hx⟩
  replace HS := Lib.hid (HS.out.on hx)
  clear hx
  go_wp2_with fail
  replace HS := Lib.hid (HS.out.push ((Ext.rfl' W1).alloc (.cells (bV (mkB 1 0 0 5)).toArray 48)) (Blk.new W1 48 (bV (mkB 1 0 0 5))))
  generalize W1.heap.size = Aa at *
  refine (HDa.out _ HS.out.ext).mono ?_
  rintro e W1 ⟨rfl, hx⟩
  replace HS := Lib.hid (HS.out.on hx)
  clear hx
  go_wp2_with fail
  refine (b17_calls 2 da 5 9 _).mono ?_
  rintro e W1 ⟨rfl, hx⟩
  replace HS := Lib.hid (HS.out.on hx)
  clear hx
  go_wp2_with fail
  replace HS := Lib.hid (HS.out.push ((Ext.rfl' W1).alloc (.cells (bV (mkB 2 da 5 9)).toArray 48)) (Blk.new W1 48 (bV (mkB 2 da 5 9))))
  generalize W1.heap.size = Ab at *
  refine (HDb.out _ HS.out.ext).mono ?_
  rintro e W1 ⟨rfl, hx⟩
  replace HS := Lib.hid (HS.out.on hx)
  clear hx
  go_wp2_with fail
  refine (b17_calls 3 db 9 12 _).mono ?_
  rintro e W1 ⟨rfl, hx⟩
  replace HS := Lib.hid (HS.out.on hx)
  clear hx
  go_wp2_with (first | (refine wpList_load_row rfl _ _ rfl Aa rfl 48 (bV (mkB 1 0 0 5)).toArray (0, 0) _ ((HS.out.blk (Aa, (mkB 1 0 0 5)) (by simp)).1.ext ((Ext.rfl' W1).alloc _)) Tryd.underlying48 rfl rfl ?_))
  replace HS := Lib.hid (HS.out.push ((Ext.rfl' W1).alloc (.cells (bV (mkB 3 db 9 12)).toArray 48)) (Blk.new W1 48 (bV (mkB 3 db 9 12))))
  generalize W1.heap.size = Ac at *
  refine (HDa.out _ HS.out.ext).mono ?_
  rintro e W1 ⟨rfl, hx⟩
  replace HS := Lib.hid (HS.out.on hx)
  clear hx
  go_wp2_with fail
  refine (b17_calls 3 da 5 7 _).mono ?_
  rintro e W1 ⟨rfl, hx⟩
  replace HS := Lib.hid (HS.out.on hx)
  clear hx
  go_wp2_with (first | (refine wpList_load_row rfl _ _ rfl Ac rfl 48 (bV (mkB 3 db 9 12)).toArray (0, 0) _ ((HS.out.blk (Ac, (mkB 3 db 9 12)) (by simp)).1.ext ((Ext.rfl' W1).alloc _)) Tryd.underlying48 rfl rfl ?_))
  replace HS := Lib.hid (HS.out.push ((Ext.rfl' W1).alloc (.cells (bV (mkB 3 da 5 7)).toArray 48)) (Blk.new W1 48 (bV (mkB 3 da 5 7))))
  generalize W1.heap.size = Ad at *
  refine (HDc.out _ HS.out.ext).mono ?_
  rintro e W1 ⟨rfl, hx⟩
  replace HS := Lib.hid (HS.out.on hx)
  clear hx
  go_wp2_with fail
  refine (b17_calls 5 dc 12 13 _).mono ?_
  rintro e W1 ⟨rfl, hx⟩
  replace HS := Lib.hid (HS.out.on hx)
  clear hx
  go_wp2_with (first | (refine wpList_load_row rfl _ _ rfl Ab rfl 48 (bV (mkB 2 da 5 9)).toArray (0, 0) _ ((HS.out.blk (Ab, (mkB 2 da 5 9)) (by simp)).1.ext ((Ext.rfl' W1).alloc _)) Tryd.underlying48 rfl rfl ?_))
  replace HS := Lib.hid (HS.out.push ((Ext.rfl' W1).alloc (.cells (bV (mkB 5 dc 12 13)).toArray 48)) (Blk.new W1 48 (bV (mkB 5 dc 12 13))))
  generalize W1.heap.size = Ae at *
  refine (HA0.out _ tb mb HS.out.ext HS.out.tr).mono ?_
  rintro e W1 ⟨rfl, hT, hg, hx⟩
  replace HS := Lib.hid (HS.out.on hx)
  clear hT hg hx
  go_wp2_with fail
  replace HS := Lib.hid (HS.out.on (Ext.rfl' W1).drew)
  refine wp_region_held_drew (S := (fun w' => w'.rangeAt Aa 0 (bV (mkB 1 0 0 5)) ∧ w'.rangeAt Ab 0 (bV (mkB 2 da 5 9)) ∧ w'.rangeAt Ac 0 (bV (mkB 3 db 9 12)) ∧ w'.rangeAt Ad 0 (bV (mkB 3 da 5 7)) ∧ w'.rangeAt Ae 0 (bV (mkB 5 dc 12 13)))) (by kernel_rfl) (by (try dsimp only); exact ⟨(HS.out.blk (Aa, (mkB 1 0 0 5)) (by simp)).1.range, (HS.out.blk (Ab, (mkB 2 da 5 9)) (by simp)).1.range, (HS.out.blk (Ac, (mkB 3 db 9 12)) (by simp)).1.range, (HS.out.blk (Ad, (mkB 3 da 5 7)) (by simp)).1.range, (HS.out.blk (Ae, (mkB 5 dc 12 13)) (by simp)).1.range⟩) (fun hHeld => ?_)
  refine wpAnyH_take (i := 0) (v := ?_) (by first | (simp only [List.getElem?_toArray, List.getElem?_cons_zero, List.getElem?_cons_succ]; done) | (simp only [List.getElem?_toArray, List.getElem?_cons_zero, List.getElem?_cons_succ]; rfl)) (by kernel_rfl) (by kernel_rfl) (by kernel_rfl) (by exact fun _ _ _ h => h) (Or.inl ⟨by rfl, ?hy0⟩) (by assumption) ?_
  case hy0 => (intro w hSw; clear hSw; go_simp; try with_reducible rfl)
  try simp only [Act.put, List.setIfInBounds_toArray, List.set_cons_zero, List.set_cons_succ]
  refine wpAnyH_take (i := 1) (by first | (simp only [List.getElem?_toArray, List.getElem?_cons_zero, List.getElem?_cons_succ]; done) | (simp only [List.getElem?_toArray, List.getElem?_cons_zero, List.getElem?_cons_succ]; rfl)) (by kernel_rfl) (by kernel_rfl) (by kernel_rfl) (by exact fun _ _ _ h => h) (yieldsIf_load_mid (by rfl) _ _ rfl Aa 0 rfl (bV (mkB 1 0 0 5)) _ (fun w hSw => hSw.1) Tryd.underlying48 rfl rfl) (by assumption) ?_
  try simp only [Act.put, List.setIfInBounds_toArray, List.set_cons_zero, List.set_cons_succ]
  refine wpAnyH_take (i := 3) (v := ?_) (by first | (simp only [List.getElem?_toArray, List.getElem?_cons_zero, List.getElem?_cons_succ]; done) | (simp only [List.getElem?_toArray, List.getElem?_cons_zero, List.getElem?_cons_succ]; rfl)) (by kernel_rfl) (by kernel_rfl) (by kernel_rfl) (by exact fun _ _ _ h => h) (Or.inl ⟨by rfl, ?hy3⟩) (by assumption) ?_
  case hy3 => (intro w hSw; clear hSw; go_simp; try with_reducible rfl)
  try simp only [Act.put, List.setIfInBounds_toArray, List.set_cons_zero, List.set_cons_succ]
  refine wpAnyH_take (i := 4) (by first | (simp only [List.getElem?_toArray, List.getElem?_cons_zero, List.getElem?_cons_succ]; done) | (simp only [List.getElem?_toArray, List.getElem?_cons_zero, List.getElem?_cons_succ]; rfl)) (by kernel_rfl) (by kernel_rfl) (by kernel_rfl) (by exact fun _ _ _ h => h) (yieldsIf_load_mid (by rfl) _ _ rfl Ab 0 rfl (bV (mkB 2 da 5 9)) _ (fun w hSw => hSw.2.1) Tryd.underlying48 rfl rfl) (by assumption) ?_
  try simp only [Act.put, List.setIfInBounds_toArray, List.set_cons_zero, List.set_cons_succ]
  refine wpAnyH_take (i := 7) (v := ?_) (by first | (simp only [List.getElem?_toArray, List.getElem?_cons_zero, List.getElem?_cons_succ]; done) | (simp only [List.getElem?_toArray, List.getElem?_cons_zero, List.getElem?_cons_succ]; rfl)) (by kernel_rfl) (by kernel_rfl) (by kernel_rfl) (by exact fun _ _ _ h => h) (Or.inl ⟨by rfl, ?hy7⟩) (by assumption) ?_
  case hy7 => (intro w hSw; clear hSw; go_simp; try with_reducible rfl)
  try simp only [Act.put, List.setIfInBounds_toArray, List.set_cons_zero, List.set_cons_succ]
  refine wpAnyH_take (i := 8) (by first | (simp only [List.getElem?_toArray, List.getElem?_cons_zero, List.getElem?_cons_succ]; done) | (simp only [List.getElem?_toArray, List.getElem?_cons_zero, List.getElem?_cons_succ]; rfl)) (by kernel_rfl) (by kernel_rfl) (by kernel_rfl) (by exact fun _ _ _ h => h) (yieldsIf_load_mid (by rfl) _ _ rfl Ac 0 rfl (bV (mkB 3 db 9 12)) _ (fun w hSw => hSw.2.2.1) Tryd.underlying48 rfl rfl) (by assumption) ?_
  try simp only [Act.put, List.setIfInBounds_toArray, List.set_cons_zero, List.set_cons_succ]
  refine wpAnyH_take (i := 11) (v := ?_) (by first | (simp only [List.getElem?_toArray, List.getElem?_cons_zero, List.getElem?_cons_succ]; done) | (simp only [List.getElem?_toArray, List.getElem?_cons_zero, List.getElem?_cons_succ]; rfl)) (by kernel_rfl) (by kernel_rfl) (by kernel_rfl) (by exact fun _ _ _ h => h) (Or.inl ⟨by rfl, ?hy11⟩) (by assumption) ?_
  case hy11 => (intro w hSw; clear hSw; go_simp; try with_reducible rfl)
  try simp only [Act.put, List.setIfInBounds_toArray, List.set_cons_zero, List.set_cons_succ]
  refine wpAnyH_take (i := 12) (by first | (simp only [List.getElem?_toArray, List.getElem?_cons_zero, List.getElem?_cons_succ]; done) | (simp only [List.getElem?_toArray, List.getElem?_cons_zero, List.getElem?_cons_succ]; rfl)) (by kernel_rfl) (by kernel_rfl) (by kernel_rfl) (by exact fun _ _ _ h => h) (yieldsIf_load_mid (by rfl) _ _ rfl Ad 0 rfl (bV (mkB 3 da 5 7)) _ (fun w hSw => hSw.2.2.2.1) Tryd.underlying48 rfl rfl) (by assumption) ?_
  try simp only [Act.put, List.setIfInBounds_toArray, List.set_cons_zero, List.set_cons_succ]
  refine wpAnyH_take (i := 15) (v := ?_) (by first | (simp only [List.getElem?_toArray, List.getElem?_cons_zero, List.getElem?_cons_succ]; done) | (simp only [List.getElem?_toArray, List.getElem?_cons_zero, List.getElem?_cons_succ]; rfl)) (by kernel_rfl) (by kernel_rfl) (by kernel_rfl) (by exact fun _ _ _ h => h) (Or.inl ⟨by rfl, ?hy15⟩) (by assumption) ?_
  case hy15 => (intro w hSw; clear hSw; go_simp; try with_reducible rfl)
  try simp only [Act.put, List.setIfInBounds_toArray, List.set_cons_zero, List.set_cons_succ]
  refine wpAnyH_take (i := 16) (by first | (simp only [List.getElem?_toArray, List.getElem?_cons_zero, List.getElem?_cons_succ]; done) | (simp only [List.getElem?_toArray, List.getElem?_cons_zero, List.getElem?_cons_succ]; rfl)) (by kernel_rfl) (by kernel_rfl) (by kernel_rfl) (by exact fun _ _ _ h => h) (yieldsIf_load_mid (by rfl) _ _ rfl Ae 0 rfl (bV (mkB 5 dc 12 13)) _ (fun w hSw => hSw.2.2.2.2) Tryd.underlying48 rfl rfl) (by assumption) ?_
  try simp only [Act.put, List.setIfInBounds_toArray, List.set_cons_zero, List.set_cons_succ]
  refine wpAnyH_ready (rs := [2]) (by kernel_rfl) (by simp) ?_
  refine AllReadyH.cons (by first | (simp only [List.getElem?_toArray, List.getElem?_cons_zero, List.getElem?_cons_succ]; done) | (simp only [List.getElem?_toArray, List.getElem?_cons_zero, List.getElem?_cons_succ]; rfl)) (fun K hK => ?_) AllReadyH.nil
  go_simp
  refine (HA1.out _ tb mb HS.out.ext HS.out.tr).mono ?_
  rintro e W2 ⟨rfl, hT, hg⟩
  replace HS := Lib.hid (HS.out.gr hg hT)
  clear hT hg
  try (go_wp2_with fail)
  refine hK.out _ _ (by (try dsimp only); exact ⟨(HS.out.blk (Aa, (mkB 1 0 0 5)) (by simp)).1.range, (HS.out.blk (Ab, (mkB 2 da 5 9)) (by simp)).1.range, (HS.out.blk (Ac, (mkB 3 db 9 12)) (by simp)).1.range, (HS.out.blk (Ad, (mkB 3 da 5 7)) (by simp)).1.range, (HS.out.blk (Ae, (mkB 5 dc 12 13)) (by simp)).1.range⟩) (fun hHeld => ?_)
  clear hK K
  try simp only [Act.put, List.setIfInBounds_toArray, List.set_cons_zero, List.set_cons_succ]
  refine wpAnyH_ready (rs := [5]) (by kernel_rfl) (by simp) ?_
  refine AllReadyH.cons (by first | (simp only [List.getElem?_toArray, List.getElem?_cons_zero, List.getElem?_cons_succ]; done) | (simp only [List.getElem?_toArray, List.getElem?_cons_zero, List.getElem?_cons_succ]; rfl)) (fun K hK => ?_) AllReadyH.nil
  go_simp
  refine (HA2.out _ tb mb HS.out.ext HS.out.tr).mono ?_
  rintro e W3 ⟨rfl, hT, hg⟩
  replace HS := Lib.hid (HS.out.gr hg hT)
  clear hT hg
  try (go_wp2_with fail)
  refine hK.out _ _ (by (try dsimp only); exact ⟨(HS.out.blk (Aa, (mkB 1 0 0 5)) (by simp)).1.range, (HS.out.blk (Ab, (mkB 2 da 5 9)) (by simp)).1.range, (HS.out.blk (Ac, (mkB 3 db 9 12)) (by simp)).1.range, (HS.out.blk (Ad, (mkB 3 da 5 7)) (by simp)).1.range, (HS.out.blk (Ae, (mkB 5 dc 12 13)) (by simp)).1.range⟩) (fun hHeld => ?_)
  clear hK K
  try simp only [Act.put, List.setIfInBounds_toArray, List.set_cons_zero, List.set_cons_succ]
  refine wpAnyH_take (i := 6) (v := ?_) (by first | (simp only [List.getElem?_toArray, List.getElem?_cons_zero, List.getElem?_cons_succ]; done) | (simp only [List.getElem?_toArray, List.getElem?_cons_zero, List.getElem?_cons_succ]; rfl)) (by kernel_rfl) (by kernel_rfl) (by kernel_rfl) (by exact fun _ _ _ h => h) (Or.inl ⟨by rfl, ?hy6⟩) (by assumption) ?_
  case hy6 => (intro w hSw; clear hSw; go_simp; try with_reducible rfl)
  try simp only [Act.put, List.setIfInBounds_toArray, List.set_cons_zero, List.set_cons_succ]
  refine wpAnyH_ready (rs := [9]) (by kernel_rfl) (by simp) ?_
  refine AllReadyH.cons (by first | (simp only [List.getElem?_toArray, List.getElem?_cons_zero, List.getElem?_cons_succ]; done) | (simp only [List.getElem?_toArray, List.getElem?_cons_zero, List.getElem?_cons_succ]; rfl)) (fun K hK => ?_) AllReadyH.nil
  go_simp
  refine (HA3.out _ tb mb HS.out.ext HS.out.tr).mono ?_
  rintro e W4 ⟨rfl, hT, hg⟩
  replace HS := Lib.hid (HS.out.gr hg hT)
  clear hT hg
  try (go_wp2_with fail)
  refine hK.out _ _ (by (try dsimp only); exact ⟨(HS.out.blk (Aa, (mkB 1 0 0 5)) (by simp)).1.range, (HS.out.blk (Ab, (mkB 2 da 5 9)) (by simp)).1.range, (HS.out.blk (Ac, (mkB 3 db 9 12)) (by simp)).1.range, (HS.out.blk (Ad, (mkB 3 da 5 7)) (by simp)).1.range, (HS.out.blk (Ae, (mkB 5 dc 12 13)) (by simp)).1.range⟩) (fun hHeld => ?_)
  clear hK K
  try simp only [Act.put, List.setIfInBounds_toArray, List.set_cons_zero, List.set_cons_succ]
  refine wpAnyH_take (i := 10) (v := ?_) (by first | (simp only [List.getElem?_toArray, List.getElem?_cons_zero, List.getElem?_cons_succ]; done) | (simp only [List.getElem?_toArray, List.getElem?_cons_zero, List.getElem?_cons_succ]; rfl)) (by kernel_rfl) (by kernel_rfl) (by kernel_rfl) (by exact fun _ _ _ h => h) (Or.inl ⟨by rfl, ?hy10⟩) (by assumption) ?_
  case hy10 => (intro w hSw; clear hSw; go_simp; try with_reducible rfl)
  try simp only [Act.put, List.setIfInBounds_toArray, List.set_cons_zero, List.set_cons_succ]
  refine wpAnyH_ready (rs := [13]) (by kernel_rfl) (by simp) ?_
  refine AllReadyH.cons (by first | (simp only [List.getElem?_toArray, List.getElem?_cons_zero, List.getElem?_cons_succ]; done) | (simp only [List.getElem?_toArray, List.getElem?_cons_zero, List.getElem?_cons_succ]; rfl)) (fun K hK => ?_) AllReadyH.nil
  go_simp
  refine (HA4.out _ tb mb HS.out.ext HS.out.tr).mono ?_
  rintro e W5 ⟨rfl, hT, hg⟩
  replace HS := Lib.hid (HS.out.gr hg hT)
  clear hT hg
  try (go_wp2_with fail)
  refine hK.out _ _ (by (try dsimp only); exact ⟨(HS.out.blk (Aa, (mkB 1 0 0 5)) (by simp)).1.range, (HS.out.blk (Ab, (mkB 2 da 5 9)) (by simp)).1.range, (HS.out.blk (Ac, (mkB 3 db 9 12)) (by simp)).1.range, (HS.out.blk (Ad, (mkB 3 da 5 7)) (by simp)).1.range, (HS.out.blk (Ae, (mkB 5 dc 12 13)) (by simp)).1.range⟩) (fun hHeld => ?_)
  clear hK K
  try simp only [Act.put, List.setIfInBounds_toArray, List.set_cons_zero, List.set_cons_succ]
  refine wpAnyH_take (i := 14) (v := ?_) (by first | (simp only [List.getElem?_toArray, List.getElem?_cons_zero, List.getElem?_cons_succ]; done) | (simp only [List.getElem?_toArray, List.getElem?_cons_zero, List.getElem?_cons_succ]; rfl)) (by kernel_rfl) (by kernel_rfl) (by kernel_rfl) (by exact fun _ _ _ h => h) (Or.inl ⟨by rfl, ?hy14⟩) (by assumption) ?_
  case hy14 => (intro w hSw; clear hSw; go_simp; try with_reducible rfl)
  try simp only [Act.put, List.setIfInBounds_toArray, List.set_cons_zero, List.set_cons_succ]
  refine wpAnyH_ready (rs := [17]) (by kernel_rfl) (by simp) ?_
  refine AllReadyH.cons (by first | (simp only [List.getElem?_toArray, List.getElem?_cons_zero, List.getElem?_cons_succ]; done) | (simp only [List.getElem?_toArray, List.getElem?_cons_zero, List.getElem?_cons_succ]; rfl)) (fun K hK => ?_) AllReadyH.nil
  go_simp
  refine (HA5.out _ tb mb HS.out.ext HS.out.tr).mono ?_
  rintro e W6 ⟨rfl, hT, hg⟩
  replace HS := Lib.hid (HS.out.gr hg hT)
  clear hT hg
  try (go_wp2_with fail)
  refine hK.out _ _ (by (try dsimp only); exact ⟨(HS.out.blk (Aa, (mkB 1 0 0 5)) (by simp)).1.range, (HS.out.blk (Ab, (mkB 2 da 5 9)) (by simp)).1.range, (HS.out.blk (Ac, (mkB 3 db 9 12)) (by simp)).1.range, (HS.out.blk (Ad, (mkB 3 da 5 7)) (by simp)).1.range, (HS.out.blk (Ae, (mkB 5 dc 12 13)) (by simp)).1.range⟩) (fun hHeld => ?_)
  clear hK K
  try simp only [Act.put, List.setIfInBounds_toArray, List.set_cons_zero, List.set_cons_succ]
  refine wpAnyH_take (i := 18) (v := ?_) (by first | (simp only [List.getElem?_toArray, List.getElem?_cons_zero, List.getElem?_cons_succ]; done) | (simp only [List.getElem?_toArray, List.getElem?_cons_zero, List.getElem?_cons_succ]; rfl)) (by kernel_rfl) (by kernel_rfl) (by kernel_rfl) (by exact fun _ _ _ h => h) (Or.inl ⟨by rfl, ?hy18⟩) (by assumption) ?_
  case hy18 => (intro w hSw; clear hSw; go_simp; try with_reducible rfl)
  try simp only [Act.put, List.setIfInBounds_toArray, List.set_cons_zero, List.set_cons_succ]
  refine wpAnyH_take (i := 19) (v := ?_) (by first | (simp only [List.getElem?_toArray, List.getElem?_cons_zero, List.getElem?_cons_succ]; done) | (simp only [List.getElem?_toArray, List.getElem?_cons_zero, List.getElem?_cons_succ]; rfl)) (by kernel_rfl) (by kernel_rfl) (by kernel_rfl) (by exact fun _ _ _ h => h) (Or.inl ⟨by rfl, ?hy19⟩) (by assumption) ?_
  case hy19 => (intro w hSw; clear hSw; go_simp; try with_reducible rfl)
  try simp only [Act.put, List.setIfInBounds_toArray, List.set_cons_zero, List.set_cons_succ]
  refine wpAnyH_done (by kernel_rfl) ?_ _
  clear hHeld
  go_wp2_with (first | (refine wpList_load_row rfl _ _ rfl Ac rfl 48 (bV (mkB 3 db 9 12)).toArray (0, 0) _ (HS.out.blk (Ac, (mkB 3 db 9 12)) (by simp)).1 Tryd.underlying48 rfl rfl ?_))
  refine (HDc.out _ HS.out.ext).mono ?_
  rintro e W1 ⟨rfl, hx⟩
  replace HS := Lib.hid (HS.out.on hx)
  clear hx
  go_wp2_with fail
  refine (HM1.out _ tb mb HS.out.tr).mono ?_
  rintro e W1 ⟨rfl, hx⟩
  replace HS := Lib.hid (HS.out.on hx)
  clear hx
  go_wp2_with (first | (refine wpList_load_row rfl _ _ rfl Ae rfl 48 (bV (mkB 5 dc 12 13)).toArray (0, 0) _ (HS.out.blk (Ae, (mkB 5 dc 12 13)) (by simp)).1 Tryd.underlying48 rfl rfl ?_))
  refine (HDe.out _ HS.out.ext).mono ?_
  rintro e W1 ⟨rfl, hx⟩
  replace HS := Lib.hid (HS.out.on hx)
  clear hx
  go_wp2_with fail
  refine (HM2.out _ tb mb HS.out.tr).mono ?_
  rintro e W1 ⟨rfl, hx⟩
  replace HS := Lib.hid (HS.out.on hx)
  clear hx
  go_wp2_with (first | (refine wpList_load_row rfl _ _ rfl Ad rfl 48 (bV (mkB 3 da 5 7)).toArray (0, 0) _ (HS.out.blk (Ad, (mkB 3 da 5 7)) (by simp)).1 Tryd.underlying48 rfl rfl ?_))
  refine (HDd.out _ HS.out.ext).mono ?_
  rintro e W1 ⟨rfl, hx⟩
  replace HS := Lib.hid (HS.out.on hx)
  clear hx
  go_wp2_with fail
  refine (HG.out _ tb mb HS.out.tr).mono ?_
  rintro e W1 ⟨rfl, hx⟩
  replace HS := Lib.hid (HS.out.on hx)
  clear hx
  go_wp2_with (first | (refine wpList_load_row rfl _ _ rfl Ac rfl 48 (bV (mkB 3 db 9 12)).toArray (0, 0) _ ((HS.out.blk (Ac, (mkB 3 db 9 12)) (by simp)).1.ext ((Ext.rfl' W1).alloc _)) Tryd.underlying48 rfl rfl ?_))
  replace HS := Lib.hid (HS.out.push ((Ext.rfl' W1).alloc (.cells (bV (mkB 3 da 5 7)).toArray 48)) (Blk.new W1 48 (bV (mkB 3 da 5 7))))
  generalize W1.heap.size = Ax at *
  refine (HDc.out _ HS.out.ext).mono ?_
  rintro e W1 ⟨rfl, hx⟩
  replace HS := Lib.hid (HS.out.on hx)
  clear hx
  go_wp2_with fail
  refine (HP.out _ tb mb HS.out.tr).mono ?_
  rintro e W1 ⟨⟨g, c, rfl, hr⟩, hx⟩
  have HR := Lib.hid hr
  replace HS := Lib.hid (HS.out.on hx)
  clear hx hr
  go_wp2_with fail
  refine (twin_calls _ HS.out.tr).mono ?_
  rintro e W1 ⟨⟨tb', mb', rfl, hT', _, _⟩, hx⟩
  have HT' := Lib.hid hT'
  replace HR := Lib.hid (HR.out.ext hx)
  replace HS := Lib.hid (HS.out.on hx)
  clear hx
  clear hT'
  go_upto_region 17 with (fail)
  have HKa := Lib.hid (show ∀ w', (∃ x : ExtW W1, w' = x.1) → Blk w' Aa 48 (bV (mkB 1 0 0 5)) from fun w' ⟨x, e⟩ => e ▸ (HS.out.blk (Aa, (mkB 1 0 0 5)) (by simp)).1.ext x.2)
  have HKb := Lib.hid (show ∀ w', (∃ x : ExtW W1, w' = x.1) → Blk w' Ab 48 (bV (mkB 2 da 5 9)) from fun w' ⟨x, e⟩ => e ▸ (HS.out.blk (Ab, (mkB 2 da 5 9)) (by simp)).1.ext x.2)
  have HKc := Lib.hid (show ∀ w', (∃ x : ExtW W1, w' = x.1) → Blk w' Ac 48 (bV (mkB 3 db 9 12)) from fun w' ⟨x, e⟩ => e ▸ (HS.out.blk (Ac, (mkB 3 db 9 12)) (by simp)).1.ext x.2)
  have HKd := Lib.hid (show ∀ w', (∃ x : ExtW W1, w' = x.1) → Blk w' Ad 48 (bV (mkB 3 da 5 7)) from fun w' ⟨x, e⟩ => e ▸ (HS.out.blk (Ad, (mkB 3 da 5 7)) (by simp)).1.ext x.2)
  have q7 : ∀ x : ExtW W1, x.1.cell? ⟨Ax, 6, none⟩ = some (.int .i64 7) := fun x => ((HS.out.blk (Ax, (mkB 3 da 5 7)) (by simp)).1.ext x.2).cell rfl
  have hg0 : W1.cell? ⟨g, 0, none⟩ = some (.int .u64 0) := by
    obtain ⟨ad, had, _, hc⟩ := HR.out.at_ (j := 0) (u := cU64 0) rfl
    cases had
    exact hc
  have hg3 : W1.cell? ⟨g, 3, none⟩ = some (.int .u64 (dc : Int)) := by
    obtain ⟨ad, had, _, hc⟩ := HR.out.at_ (j := 3) (u := cU64 dc) rfl
    cases had
    simpa [Addr.add] using hc
  have p0 : ∀ x : ExtW W1, x.1.cell? ⟨g, 0, none⟩ = some (.int .u64 0) := fun x => x.2.cell hg0
  have p3 : ∀ x : ExtW W1, x.1.cell? ⟨g, 3, none⟩ = some (.int .u64 (dc : Int)) := fun x => x.2.cell hg3
  clear hg0 hg3
  have XT : ∀ x : ExtW W1, Tr x.1 tb mb (LK5 da db dc dd de) := fun x => HS.out.tr.ext x.2
  have XE : ∀ x : ExtW W1, Ext w x.1 := fun x => HS.out.ext.tr x.2
  have XL := Lib.hid (fun x : ExtW W1 => show Calls Tryd.prog 23 #[.pointer (some ⟨tb, 0, none⟩)] x.1 fun e w' => e = .returned (.int .i64 6) ∧ x.1 = w' from tlen_calls x.1 (XT x))
  have XU := Lib.hid (fun x : ExtW W1 => show Calls Tryd.prog 23 #[.pointer (some ⟨tb', 0, none⟩)] x.1 fun e w' => e = .returned (.int .i64 6) ∧ x.1 = w' from tlen_calls x.1 (HT'.out.ext x.2))
  have XDa := Lib.hid (fun x : ExtW W1 => HDa.out x.1 (XE x))
  have XDb := Lib.hid (fun x : ExtW W1 => HDb.out x.1 (XE x))
  have XDc := Lib.hid (fun x : ExtW W1 => HDc.out x.1 (XE x))
  have XDd := Lib.hid (fun x : ExtW W1 => HDd.out x.1 (XE x))
  have XA6 := Lib.hid (fun x : ExtW W1 => (HA6.out x.1 tb mb (XE x) (XT x)).mono fun e w' h => And.intro h.1 h.2.2.2)
  have XA7 := Lib.hid (fun x : ExtW W1 => (HA7.out x.1 tb mb (XE x) (XT x)).mono fun e w' h => And.intro h.1 h.2.2.2)
  have XA8 := Lib.hid (fun x : ExtW W1 => (HA8.out x.1 tb mb (XE x) (XT x)).mono fun e w' h => And.intro h.1 h.2.2.2)
  have XX1 := Lib.hid (fun x : ExtW W1 => HX1.out x.1 tb mb (XT x))
  have XX2 := Lib.hid (fun x : ExtW W1 => HX2.out x.1 tb mb (XT x))
  have XX3 := Lib.hid (fun x : ExtW W1 => HX3.out x.1 tb mb (XT x))
  clear XT XE
  refine wp_region_grow (by kernel_rfl) (lexB_parts (by as_aux_lemma => kernel_rfl) (by as_aux_lemma => kernel_rfl) (by as_aux_lemma => kernel_rfl) (by as_aux_lemma => kernel_rfl) (by as_aux_lemma => kernel_rfl) (by as_aux_lemma => kernel_rfl) (by as_aux_lemma => kernel_rfl) (by as_aux_lemma => kernel_rfl) (by as_aux_lemma => kernel_rfl) (by as_aux_lemma => kernel_rfl) (by as_aux_lemma => kernel_rfl) (by as_aux_lemma => kernel_rfl) (by as_aux_lemma => kernel_rfl)) ?_
  simp only [List.append_eq, List.cons_append, List.nil_append]
  repeat (any_goals (first
    | (refine wpQuiet_load _ _ rfl (by rfl) Aa (by rfl) 48 (bV (mkB 1 0 0 5)) _ HKa.out Tryd.underlying48 rfl rfl ?_; simp only [Act.put, List.setIfInBounds_toArray, List.set_cons_zero, List.set_cons_succ])
    | (refine wpQuiet_load _ _ rfl (by rfl) Ab (by rfl) 48 (bV (mkB 2 da 5 9)) _ HKb.out Tryd.underlying48 rfl rfl ?_; simp only [Act.put, List.setIfInBounds_toArray, List.set_cons_zero, List.set_cons_succ])
    | (refine wpQuiet_load _ _ rfl (by rfl) Ac (by rfl) 48 (bV (mkB 3 db 9 12)) _ HKc.out Tryd.underlying48 rfl rfl ?_; simp only [Act.put, List.setIfInBounds_toArray, List.set_cons_zero, List.set_cons_succ])
    | (refine wpQuiet_load _ _ rfl (by rfl) Ad (by rfl) 48 (bV (mkB 3 da 5 7)) _ HKd.out Tryd.underlying48 rfl rfl ?_; simp only [Act.put, List.setIfInBounds_toArray, List.set_cons_zero, List.set_cons_succ])
    | (go_big_quiet_step (first | (go_at_call 21; with_reducible exact grow_of (XDa.out _)) | (go_at_call 21; with_reducible exact grow_of (XDb.out _)) | (go_at_call 21; with_reducible exact grow_of (XDc.out _)) | (go_at_call 21; with_reducible exact grow_of (XDd.out _)) | (go_at_call 19; exact grow_of (b17_calls _ _ _ _ _)) | (go_at_call 20; with_reducible exact grow_of (XA6.out _)) | (go_at_call 20; with_reducible exact grow_of (XA7.out _)) | (go_at_call 20; with_reducible exact grow_of (XA8.out _)) | (go_at_call 22; with_reducible exact grow_of (XX1.out _)) | (go_at_call 22; with_reducible exact grow_of (XX2.out _)) | (go_at_call 22; with_reducible exact grow_of (XX3.out _)) | (go_at_call 23; with_reducible exact grow_same (XL.out _)) | (go_at_call 23; with_reducible exact grow_same (XU.out _))))))
  refine wpQuiet_nil ?_
  rintro _ ⟨⟨v2, hx⟩, rfl⟩
  have HZ := Lib.hid (HS.out.ext.tr hx)
  clear hx
  go_wp2
  go_ret
  exact ⟨ret_bool (by first | rfl | simp), HZ.out⟩
end Go.Proofs.YtifanmggfoicfaaDoor
