/- The walk of the law SafeHolds. -/
import Derived.Test.YtilengooiffikaaDoorSfF
import Derived.Test.YtilengooiffikaaDoorSfH
import Derived.Test.YtilengooiffikaaDoorSfO
set_option linter.unusedVariables false
set_option linter.unusedSimpArgs false
namespace Go.Proofs.YtilengooiffikaaDoor
open Go.RowKit Go.Sort Go.Maps
theorem okB_any (v : Int) (p : Nat) (q : Int) (b : Nat) (lo hi : Int) (h1 : 0 ≤ v ∧ v ≤ 1000000) (h2 : p < 18446744073709551616) (hq : 0 ≤ q ∧ q ≤ 1000000) (h5 : b < 18446744073709551616) (h3 : 0 ≤ lo ∧ lo ≤ 1000000) (h4 : 0 ≤ hi ∧ hi ≤ 1000000) : OkB ⟨v, p, q, b, lo, hi⟩ :=
  ⟨⟨by show _ ≤ v; omega, by show v ≤ _; omega⟩, ⟨by show _ ≤ q; omega, by show q ≤ _; omega⟩, ⟨by show _ ≤ lo; omega, by show lo ≤ _; omega⟩, ⟨by show _ ≤ hi; omega, by show hi ≤ _; omega⟩, h2, h5⟩
/-- The chain's first blocks. -/
def shL (cd : Nat → Nat) (k : Nat) : List T.B := (List.range k).map (shB cd)
theorem shL_succ (cd : Nat → Nat) (k : Nat) : shL cd (k + 1) = shL cd k ++ [shB cd k] := by simp [shL, List.range_succ]
theorem shP_hi (cd : Nat → Nat) (k : Nat) : (bV (shP cd k))[6]? = some (.int .i64 (5 * (k : Int))) := by
  cases k with
  | zero => rfl
  | succ k =>
    exact congrArg (fun x => some (Value.int .i64 x)) (show 5 * (k : Int) + 5 = 5 * ((k + 1 : Nat) : Int) by omega)
theorem shP_v (cd : Nat → Nat) (k : Nat) : (bV (shP cd k))[0]? = some (.int .i64 (k : Int)) := by
  cases k with
  | zero => rfl
  | succ k =>
    exact congrArg (fun x => some (Value.int .i64 x)) (show (k : Int) + 1 = ((k + 1 : Nat) : Int) by omega)
theorem new_cells1 (W : World) (L : List Value) (t : TypeId) : ∀ j u, L[j]? = some u → (W.alloc (.cells L.toArray t)).cell? ((⟨W.heap.size, 0, none⟩ : Addr).add j) = some u := by
  intro j u h
  have h1 := (Blk.new W t L).cell h
  rw [show (⟨W.heap.size, 0, none⟩ : Addr).add j = ⟨W.heap.size, j, none⟩ from by unfold Addr.add; split <;> simp [*]]
  exact h1
theorem size_setCells (b : Nat) : ∀ (vs : List Value) (o : Nat) (W : World), (W.setCells b o vs).heap.size = W.heap.size
  | [], _, _ => rfl
  | v :: vs, o, W => by
    rw [World.setCells, size_setCells b vs]
    simp [World.setCell]
theorem wpQuiet_load_mid {P : Program} {ops : Array Oper} {C : World → Prop} {Q : Act → Prop} {a : Act} {o : Oper} {rest : List Oper} (ty : TypeId) (x : Operand) (ho : o.op = .load ty x) (hw : Region.wanted o (yielded ops a.tmps) = true) (B k : Nat) (hx : a.eval x = .pointer (some ⟨B, k, none⟩))
    (L : List Value) (d : TypeDesc) (hC : ∀ w, C w → w.rangeAt B k L) (hu : P.underlying ty = some d) (hd : d.isRow = true) (hi : (P.info? ty).map (·.size) = some L.length)
    (h : wpQuiet P ops C Q rest (a.put o.dst (.agg L.toArray))) : wpQuiet P ops C Q (o :: rest) a :=
  BigFrame.wpQuiet_want hw fun K hK => ⟨.agg L.toArray, fun w hc => by
    unfold Oper.quietAt execOp
    simp only [ho, hx, Instr.loadAt, Instr.sureAddr, Sem.run_bind, Sem.run_pure, Result.andThen_ok, run_loadVar_mid w B k ty L d (hC w hc) hu hd hi]
    exact ⟨rfl, rfl⟩, hK _ h⟩
theorem range_setCells {b b' : Nat} (hne : b ≠ b') {o : Nat} {L : List Value} : ∀ (vs : List Value) (k : Nat) (W : World), W.rangeAt b o L → (W.setCells b' k vs).rangeAt b o L
  | [], _, _, h => h
  | v :: vs, k, W, h => range_setCells hne vs (k + 1) _ fun c u hc => (World.cell?_setCell_other _ _ _ _ (by intro e; exact hne (congrArg Addr.block e).symm)).trans (h c u hc)
set_option maxRecDepth 100000 in
set_option maxHeartbeats 2000000 in
theorem holds_walk (n vw qc : Int) (hn0 : 0 ≤ n ∧ n ≤ 255) (hv0 : 0 ≤ vw ∧ vw ≤ 255) (hq0 : 0 ≤ qc ∧ qc ≤ 255) (w : World) (ht : TOk w) :
    Calls Tryd.prog 7 #[.int .u8 n, .int .u8 vw, .int .u8 qc] w fun e w' => e = .returned (.bool true) ∧ Ext w w' := by
  obtain ⟨i0, hi, hz0, hz1, hz2⟩ := info_parts bBlk
  obtain ⟨cd, fd, hO⟩ := ho18
  have HT := Lib.hid (show ∀ W, Ext w W → TOk W from fun W hx => ht.ext hx)
  have HK := Lib.hid (known18_calls w ht)
  obtain ⟨k8, hk8, hkn⟩ : ∃ k8 : Nat, k8 < 8 ∧ n % 8 = (k8 : Int) := ⟨(n % 8).toNat, by omega, by omega⟩
  obtain ⟨N, hN⟩ : ∃ N : Nat, N = k8 + 2 := ⟨_, rfl⟩
  obtain ⟨N1, hN1⟩ : ∃ N1 : Nat, N1 = k8 + 1 := ⟨_, rfl⟩
  have hNn : 2 + n % 8 = (N : Int) := by omega
  have hNs : (N : Int) - 1 = (N1 : Int) := by omega
  have hNs2 : (N : Int) - 2 = (k8 : Int) := by omega
  obtain ⟨v, hv, hvn⟩ : ∃ v : Nat, v < 20 ∧ vw % 20 = (v : Int) := ⟨(vw % 20).toNat, by omega, by omega⟩
  obtain ⟨q, hq, hqn⟩ : ∃ q : Nat, q < 12 ∧ qc % 12 = (q : Int) := ⟨(qc % 12).toNat, by omega, by omega⟩
  have oH : ∀ i, i < 9 → OkB (shB cd i) := fun i hi => okB_any _ _ _ _ _ _ (by omega) (hO.ls i (by omega)) (by omega) (hO.ls i (by omega)) (by omega) (by omega)
  have oG : ∀ i, i < 10 → OkB (shP cd i) := fun i hi => by
    cases i with
    | zero => exact okB_any _ _ _ _ _ _ (by decide) (by decide) (by decide) (by decide) (by decide) (by decide)
    | succ i => exact oH i (by omega)
  have oF : OkB (shF v q) := okB_any _ _ _ _ _ _ (by omega) (by decide) (by omega) (by decide) (by decide) (by decide)
  have hgd : ∀ i, i < 10 → T.dig (shP cd i) = cd i := fun i hi => by
    cases i with
    | zero => rw [hO.z]; exact if_pos rfl
    | succ i => exact hO.ds i (by omega)
  have HO := Lib.hid hO
  clear hO ht
  go_enter Tryd.func7, Tryd.ntmps7
  go_wp2_with fail
  refine HK.out.mono ?_
  rintro e w1 ⟨rfl, hx⟩
  have HX1 := Lib.hid hx
  clear hx HK
  go_wp2_with fail
  refine (tnew_calls w1).mono ?_
  rintro e w2 ⟨⟨tb, mb, rfl, hT, htb, hmb⟩, hx⟩
  have HX2 := Lib.hid (HX1.out.tr hx)
  have HTR := Lib.hid hT
  have hwmb : w.heap.size ≤ mb := Nat.le_trans HX1.out.size hmb
  have hmb2 : mb < w2.heap.size := hT.mlt
  have htb2 : tb < w2.heap.size := hT.lt
  clear hx hT htb hmb
  go_wp2_with fail
  refine (genesis_calls w2).mono ?_
  rintro e w3 ⟨rfl, hx⟩
  have HX3 := Lib.hid (HX2.out.tr hx)
  have HTR3 := Lib.hid (HTR.out.ext hx)
  have hmb3 : mb < w3.heap.size := Nat.lt_of_lt_of_le hmb2 hx.size
  have htb3 : tb < w3.heap.size := Nat.lt_of_lt_of_le htb2 hx.size
  clear hx HTR HX1 HX2 hmb2 htb2
  go_upto_region 9 with (refine wpList_store_new rfl _ _ _ rfl _ _ (bV T.gen) rfl rfl rfl rfl (bV_one _) ?_; intro W4 hX4 hB4)
  have HX4 := Lib.hid (HX3.out.tr hX4)
  have HTR4 := Lib.hid (HTR3.out.ext hX4)
  have HB4 := Lib.hid hB4
  have hPb : w3.heap.size < W4.heap.size := hB4.lt
  have hwP : w.heap.size ≤ w3.heap.size := HX3.out.size
  clear hX4 hB4 HTR3 HX3
  generalize w3.heap.size = Pb at *
  have hPm : Pb ≠ mb := by omega
  have hPt : Pb ≠ tb := by omega
  have hmB : mb < W4.heap.size := by omega
  have htB : tb < W4.heap.size := by omega
  clear hmb3 htb3
  go_wp2
  go_loopw [9, 11] (fun l i wr => ∃ k : Nat, k ≤ N ∧ i = .int .i64 ((k : Int) + 1) ∧ wr.ownsRow W4.heap.size 48 8 l k (bCs (shL cd k)) ∧ Blk wr Pb 48 (bV (shP cd k)) ∧ Tr wr tb mb (shT cd k) ∧ Ext w wr ∧ W4.heap.size ≤ wr.heap.size) (fun _ i _ => N + 1 - (intOf i).toNat)
  case atStart => exact ⟨0, by omega, rfl, World.ownsRow_nil _ _ _ _, HB4.out, HTR4.out, HX4.out, Nat.le_refl _⟩
  case round =>
    obtain ⟨k, hk, rfl, hoo, hbp, htr, hE, hsz⟩ := hrel
    by_cases hlt : k < N
    · skip
      have HS := Lib.hid (shL_succ cd k)
      have HDP := Lib.hid (show ∀ W, Ext wr W → Calls Tryd.prog 21 #[bA (shP cd k)] W fun e w' => e = .returned (cU64 (cd k)) ∧ Ext W w' from fun W hx => dig_ok (hgd k (by omega)) (oG k (by omega)) W (HT.out W (hE.tr hx)))
      have HADD := Lib.hid (fun W (hT : Tr W tb mb (shT cd k)) hW => add_ok (HO.out.ds k (by omega)) (HO.out.cs k (by omega)) (oH k (by omega)) (by rw [shT_len]; omega) W hT (HT.out W hW))
      have HPR := Lib.hid (show ∀ W, Ext wr W → W.rangeAt Pb 0 (bV (shP cd k)) ∧ W.cell? ⟨Pb, 6, none⟩ = some (.int .i64 (5 * (k : Int))) from fun W hx => ⟨(hbp.ext hx).range, (hbp.ext hx).cell (shP_hi cd k)⟩)
      have hlo := fun x (hx : some x = Value.ownBlock _) => (hoo.lt x hx.symm).2
      have hmr : mb < wr.heap.size := by omega
      have hwr : IntKind.i64.wrap (5 * (k : Int) + 5) = 5 * (k : Int) + 5 := IntWalk.i64_in _ (by omega)
      have HX := Lib.hid (show Ext wr wr.drew from (Ext.rfl' wr).drew)
      go_upto_region 12 with (fail)
      refine wp_region_held_drew (S := fun w' => w'.rangeAt Pb 0 (bV (shP cd k)) ∧ w'.cell? ⟨Pb, 6, none⟩ = some (.int .i64 (5 * (k : Int)))) (by kernel_rfl) (by (try dsimp only); exact HPR.out _ HX.out) (fun hHeld => ?_)
      generalize wr.drew = W0 at *
      refine wpAnyH_take (i := 0) (v := ?_) (by first | (simp only [List.getElem?_toArray, List.getElem?_cons_zero, List.getElem?_cons_succ]; done) | (simp only [List.getElem?_toArray, List.getElem?_cons_zero, List.getElem?_cons_succ]; rfl)) (by kernel_rfl) (by kernel_rfl) (by kernel_rfl) (by exact fun _ _ _ h => h) (Or.inl ⟨by rfl, ?hy0⟩) (by assumption) ?_
      case hy0 => (intro w' hSw; (try dsimp only at hSw); go_simp; try with_reducible rfl)
      try simp only [Act.put, List.setIfInBounds_toArray, List.set_cons_zero, List.set_cons_succ]
      refine wpAnyH_take (i := 1) (by first | (simp only [List.getElem?_toArray, List.getElem?_cons_zero, List.getElem?_cons_succ]; done) | (simp only [List.getElem?_toArray, List.getElem?_cons_zero, List.getElem?_cons_succ]; rfl)) (by kernel_rfl) (by kernel_rfl) (by kernel_rfl) (by exact fun _ _ _ h => h) (yieldsIf_load_mid (by rfl) _ _ rfl Pb 0 rfl (bV (shP cd k)) _ (fun w' hSw => hSw.1) Tryd.underlying48 rfl rfl) (by assumption) ?_
      try simp only [Act.put, List.setIfInBounds_toArray, List.set_cons_zero, List.set_cons_succ]
      refine wpAnyH_take (i := 3) (v := ?_) (by first | (simp only [List.getElem?_toArray, List.getElem?_cons_zero, List.getElem?_cons_succ]; done) | (simp only [List.getElem?_toArray, List.getElem?_cons_zero, List.getElem?_cons_succ]; rfl)) (by kernel_rfl) (by kernel_rfl) (by kernel_rfl) (by exact fun _ _ _ h => h) (Or.inl ⟨by rfl, ?hy3⟩) (by assumption) ?_
      case hy3 => (intro w' hSw; (try dsimp only at hSw); go_simp; try with_reducible rfl)
      try simp only [Act.put, List.setIfInBounds_toArray, List.set_cons_zero, List.set_cons_succ]
      refine wpAnyH_take (i := 4) (v := ?_) (by first | (simp only [List.getElem?_toArray, List.getElem?_cons_zero, List.getElem?_cons_succ]; done) | (simp only [List.getElem?_toArray, List.getElem?_cons_zero, List.getElem?_cons_succ]; rfl)) (by kernel_rfl) (by kernel_rfl) (by kernel_rfl) (by exact fun _ _ _ h => h) (Or.inl ⟨by rfl, ?hy4⟩) (by assumption) ?_
      case hy4 => (intro w' hSw; (try dsimp only at hSw); go_simp; try with_reducible rfl)
      try simp only [Act.put, List.setIfInBounds_toArray, List.set_cons_zero, List.set_cons_succ]
      refine wpAnyH_take (i := 5) (v := ?_) (by first | (simp only [List.getElem?_toArray, List.getElem?_cons_zero, List.getElem?_cons_succ]; done) | (simp only [List.getElem?_toArray, List.getElem?_cons_zero, List.getElem?_cons_succ]; rfl)) (by kernel_rfl) (by kernel_rfl) (by kernel_rfl) (by exact fun _ _ _ h => h) (Or.inl ⟨by rfl, ?hy5⟩) (by assumption) ?_
      case hy5 => (intro w' hSw; (try dsimp only at hSw); go_simp; try with_reducible rfl)
      try simp only [Act.put, List.setIfInBounds_toArray, List.set_cons_zero, List.set_cons_succ]
      refine wpAnyH_take (i := 6) (v := ?_) (by first | (simp only [List.getElem?_toArray, List.getElem?_cons_zero, List.getElem?_cons_succ]; done) | (simp only [List.getElem?_toArray, List.getElem?_cons_zero, List.getElem?_cons_succ]; rfl)) (by kernel_rfl) (by kernel_rfl) (by kernel_rfl) (by exact fun _ _ _ h => h) (Or.inl ⟨by rfl, ?hy6⟩) (by assumption) ?_
      case hy6 => (intro w' hSw; (try dsimp only at hSw); go_simp; try with_reducible rfl)
      try simp only [Act.put, List.setIfInBounds_toArray, List.set_cons_zero, List.set_cons_succ]
      refine wpAnyH_take (i := 7) (v := ?_) (by first | (simp only [List.getElem?_toArray, List.getElem?_cons_zero, List.getElem?_cons_succ]; done) | (simp only [List.getElem?_toArray, List.getElem?_cons_zero, List.getElem?_cons_succ]; rfl)) (by kernel_rfl) (by kernel_rfl) (by kernel_rfl) (by exact fun _ _ _ h => h) (Or.inl ⟨by rfl, ?hy7⟩) (by assumption) ?_
      case hy7 => (intro w' hSw; (try dsimp only at hSw); go_simp; try with_reducible rfl)
      try simp only [Act.put, List.setIfInBounds_toArray, List.set_cons_zero, List.set_cons_succ]
      refine wpAnyH_ready (rs := [2, 9]) (by kernel_rfl) (by simp) ?_
      refine AllReadyH.cons (by first | (simp only [List.getElem?_toArray, List.getElem?_cons_zero, List.getElem?_cons_succ]; done) | (simp only [List.getElem?_toArray, List.getElem?_cons_zero, List.getElem?_cons_succ]; rfl)) (fun K hK => ?_) ?_
      · skip
        go_simp
        refine (HDP.out _ HX.out).mono ?_
        rintro e W6 ⟨rfl, hx⟩
        replace HX := Lib.hid (HX.out.tr hx)
        clear hx
        try (go_wp2_with fail)
        refine hK.out _ _ (by (try dsimp only); exact HPR.out _ HX.out) (fun hHeld => ?_)
        clear hK K
        try simp only [Act.put, List.setIfInBounds_toArray, List.set_cons_zero, List.set_cons_succ]
        refine wpAnyH_ready (rs := [8, 9]) (by kernel_rfl) (by simp) ?_
        refine AllReadyH.cons (by first | (simp only [List.getElem?_toArray, List.getElem?_cons_zero, List.getElem?_cons_succ]; done) | (simp only [List.getElem?_toArray, List.getElem?_cons_zero, List.getElem?_cons_succ]; rfl)) (fun K hK => ?_) ?_
        · skip
          go_simp
          try rw [hwr]
          refine (b17_calls ((k : Int) + 1) (cd k) (5 * (k : Int)) (5 * (k : Int) + 5) _).mono ?_
          rintro e W6 ⟨rfl, hx⟩
          replace HX := Lib.hid (HX.out.tr hx)
          clear hx
          try (go_wp2_with fail)
          refine hK.out _ _ (by (try dsimp only); exact HPR.out _ HX.out) (fun hHeld => ?_)
          clear hK K
          try simp only [Act.put, List.setIfInBounds_toArray, List.set_cons_zero, List.set_cons_succ]
          refine wpAnyH_ready (rs := [9]) (by kernel_rfl) (by simp) ?_
          refine AllReadyH.cons (by first | (simp only [List.getElem?_toArray, List.getElem?_cons_zero, List.getElem?_cons_succ]; done) | (simp only [List.getElem?_toArray, List.getElem?_cons_zero, List.getElem?_cons_succ]; rfl)) (fun K hK => ?_) ?_
          · skip
            go_simp
            have HB := Lib.hid (show Blk (W6.alloc (.cells #[.int .i64 0, .int .u64 0, .int .i64 0, .int .u64 0, .slice none 0 0, .int .i64 0, .int .i64 0, .slice none 0 0] 48)) W6.heap.size 48 (bV T.gen) from Blk.new _ _ _)
            have hle : wr.heap.size ≤ W6.heap.size := HX.out.size
            replace HX := Lib.hid (show Ext wr (W6.alloc (.cells #[.int .i64 0, .int .u64 0, .int .i64 0, .int .u64 0, .slice none 0 0, .int .i64 0, .int .i64 0, .slice none 0 0] 48)) from HX.out.alloc _)
            refine hK.out _ _ (by (try dsimp only); exact HPR.out _ HX.out) (fun hHeld => ?_)
            clear hK K
            try simp only [Act.put, List.setIfInBounds_toArray, List.set_cons_zero, List.set_cons_succ]
            obtain ⟨Ab, hAb⟩ : ∃ Ab, W6.heap.size = Ab := ⟨_, rfl⟩
            rw [hAb] at HB hle ⊢
            clear hAb
            generalize W6.alloc (.cells #[.int .i64 0, .int .u64 0, .int .i64 0, .int .u64 0, .slice none 0 0, .int .i64 0, .int .i64 0, .slice none 0 0] 48) = W6 at *
            refine wpAnyH_ready (rs := [10]) (by kernel_rfl) (by simp) ?_
            refine AllReadyH.cons (by first | (simp only [List.getElem?_toArray, List.getElem?_cons_zero, List.getElem?_cons_succ]; done) | (simp only [List.getElem?_toArray, List.getElem?_cons_zero, List.getElem?_cons_succ]; rfl)) (fun K hK => ?_) ?_
            · skip
              rw [if_pos (by rfl)]
              refine wp_store_mid _ _ _ rfl Ab 0 (bV (mkB ((k : Int) + 1) (cd k) (5 * (k : Int)) (5 * (k : Int) + 5))).toArray rfl rfl HB.out.there rfl (all_oneCell_toArray (bV_one _)) ?_
              rw [List.toList_toArray]
              replace HB := Lib.hid (show Blk (W6.setCells Ab 0 (bV (mkB ((k : Int) + 1) (cd k) (5 * (k : Int)) (5 * (k : Int) + 5)))) Ab 48 (bV (mkB ((k : Int) + 1) (cd k) (5 * (k : Int)) (5 * (k : Int) + 5))) from HB.out.put rfl)
              replace HX := Lib.hid (show Ext wr (W6.setCells Ab 0 (bV (mkB ((k : Int) + 1) (cd k) (5 * (k : Int)) (5 * (k : Int) + 5)))) from Ext.setCells hle _ _ _ HX.out)
              refine hK.out _ _ (by (try dsimp only); exact HPR.out _ HX.out) (fun hHeld => ?_)
              clear hK K
              try simp only [Act.put, List.setIfInBounds_toArray, List.set_cons_zero, List.set_cons_succ]
              generalize hW7 : W6.setCells Ab 0 (bV (mkB ((k : Int) + 1) (cd k) (5 * (k : Int)) (5 * (k : Int) + 5))) = W6 at *
              clear hW7
              refine wpAnyH_done (by kernel_rfl) ?_ _
              clear hHeld
              have hX := HX.out
              have hB := HB.out
              clear HX HB HPR HDP
              have hc0 := hX.cell (hbp.cell (shP_v cd k))
              have hc2 : W6.cell? ⟨Ab, 2, none⟩ = some (.int .i64 0) := hB.cell rfl
              have hf2 := hB.frozen 2
              go_upto_region 14 with (fail)
              have hX7 : Ext wr (W6.setCell ⟨Ab, 2, none⟩ (.int .i64 (k : Int))) := Below.setCell hX hle _
              have hB7 : Blk (W6.setCell ⟨Ab, 2, none⟩ (.int .i64 (k : Int))) Ab 48 (bV (shB cd k)) := hB.set 2 (.int .i64 (k : Int))
              clear hX hB hc0 hc2 hf2
              generalize W6.setCell ⟨Ab, 2, none⟩ (.int .i64 (k : Int)) = W7 at *
              have hAW : Ab < W7.heap.size := hB7.lt
              go_wp2_with (refine wpList_load_row rfl _ _ rfl Ab rfl 48 (bV (shB cd k)).toArray (0, 0) _ hB7 Tryd.underlying48 rfl rfl ?_)
              refine (HADD.out W7 (htr.ext hX7) (hE.tr hX7)).mono ?_
              rintro e W8 ⟨rfl, hT8, hg8⟩
              have hB8 : Blk W8 Ab 48 (bV (shB cd k)) := hB7.grown hg8 (by simp; omega)
              have hP8 : Blk W8 Pb 48 (bV (shP cd k)) := (hbp.ext hX7).grown hg8 (by simp; exact hPm)
              have ho8 := own_grown (own_keep hoo hX7) hg8 hmB
              have hE8 : Ext w W8 := Gr.below (hE.tr hX7) hg8 hwmb (hE.tr hX7).size
              have hs8 : wr.heap.size ≤ W8.heap.size := Nat.le_trans hX7.size hg8.size
              clear hX7 hB7 hg8 htr hbp hE hoo
              have ho9 := ho8.alloc (.cells (bV (shB cd k)).toArray 48)
              go_upto_region 17 with (first
                | (at_builtin; (refine wpList_append_own _ rfl _ _ 53 rfl W4.heap.size 48 i0 (bA T.gen) 8 96 Tryd.underlying53 hi hz0 hz1 hz2 rfl (by decide) _ _ _ rfl ho9 ⟨W8.heap.size, 0, none⟩ 1 1 (bV (shB cd k)) rfl rfl (new_cells1 _ _ _) (fun x hx => bV_one _ x hx) (by unfold maxLen; omega) (by omega) (by simp; omega) ?_); intro v' W9 hown' hgrow _; have hB9 : Blk W9 Ab 48 (bV (shB cd k)) := (hB8.ext ((Ext.rfl' _).alloc _)).grown hgrow (fun h => absurd (hlo _ h) (by omega)); have hP9 : Blk W9 Pb 48 (bV (shP cd k)) := (hP8.ext ((Ext.rfl' _).alloc _)).grown hgrow (fun h => absurd (ho8.lt _ h.symm).1 (by omega)); have hBe9 : Below W4.heap.size W8 W9 := ((Below.refl _ W8).alloc (by omega) _).grown hgrow (by simp; omega) (fun q hq => (ho8.lt q hq).1))
                | (refine wpList_load_row rfl _ _ rfl Ab rfl 48 (bV (shB cd k)).toArray (0, 0) _ hB8 Tryd.underlying48 rfl rfl ?_))
              have hth9 : W9.there Pb 0 8 := hP9.there
              go_upto_region 11 with (first
                | (refine wpList_store_mid rfl _ _ _ rfl Pb 0 (bV (shB cd k)).toArray rfl rfl hth9 rfl (all_oneCell_toArray (bV_one _)) ?_; rw [List.toList_toArray])
                | (refine wpList_load_row rfl _ _ rfl Ab rfl 48 (bV (shB cd k)).toArray (0, 0) _ hB9 Tryd.underlying48 rfl rfl ?_))
              have hP10 : Blk (W9.setCells Pb 0 (bV (shB cd k))) Pb 48 (bV (shP cd (k + 1))) := hP9.put rfl
              have hO10 : (W9.setCells Pb 0 (bV (shB cd k))).ownsRow W4.heap.size 48 8 v' (k + 1) (bCs (shL cd (k + 1))) := by
                rw [HS.out, bCs_snoc]
                exact own_setCells hPb hown' 0 _
              have hT9 := tr_below hT8 hBe9 hmB htB
              have hT10 := Tr.setCellsS hPt hPm (bV (shB cd k)) 0 _ hT9
              have hE9 : Ext w W9 := hE8.trans (hBe9.mono (by omega))
              have hE10 := Ext.setCells hwP (bV (shB cd k)) 0 _ hE9
              have hs10 : W4.heap.size ≤ (W9.setCells Pb 0 (bV (shB cd k))).heap.size := by rw [size_setCells]; have := hBe9.size; omega
              clear hP9 hB9 hT9 hE9 hBe9 hown' hgrow ho9 ho8 hT8 hE8 hB8 hP8
              generalize W9.setCells Pb 0 (bV (shB cd k)) = W10 at *
              have HF := Lib.hid (show W10.ownsRow W4.heap.size 48 8 v' (k + 1) (bCs (shL cd (k + 1))) ∧ Blk W10 Pb 48 (bV (shP cd (k + 1))) ∧ Tr W10 tb mb (shT cd (k + 1)) ∧ Ext w W10 ∧ W4.heap.size ≤ W10.heap.size from ⟨hO10, hP10, hT10, hE10, hs10⟩)
              clear hO10 hP10 hT10 hE10 hs10
              go_wp2
              go_roundw
              case rel => exact ⟨k + 1, hlt, by first | go_num | (congr 1; omega), HF.out.1, HF.out.2.1, HF.out.2.2.1, HF.out.2.2.2.1, HF.out.2.2.2.2⟩
              case measure => simp [intOf]; omega
            exact AllReadyH.nil
          exact AllReadyH.nil
        refine AllReadyH.cons (by first | (simp only [List.getElem?_toArray, List.getElem?_cons_zero, List.getElem?_cons_succ]; done) | (simp only [List.getElem?_toArray, List.getElem?_cons_zero, List.getElem?_cons_succ]; rfl)) (fun K hK => ?_) ?_
        · skip
          go_simp
          have HB := Lib.hid (show Blk (W6.alloc (.cells #[.int .i64 0, .int .u64 0, .int .i64 0, .int .u64 0, .slice none 0 0, .int .i64 0, .int .i64 0, .slice none 0 0] 48)) W6.heap.size 48 (bV T.gen) from Blk.new _ _ _)
          have hle : wr.heap.size ≤ W6.heap.size := HX.out.size
          replace HX := Lib.hid (show Ext wr (W6.alloc (.cells #[.int .i64 0, .int .u64 0, .int .i64 0, .int .u64 0, .slice none 0 0, .int .i64 0, .int .i64 0, .slice none 0 0] 48)) from HX.out.alloc _)
          refine hK.out _ _ (by (try dsimp only); exact HPR.out _ HX.out) (fun hHeld => ?_)
          clear hK K
          try simp only [Act.put, List.setIfInBounds_toArray, List.set_cons_zero, List.set_cons_succ]
          obtain ⟨Ab, hAb⟩ : ∃ Ab, W6.heap.size = Ab := ⟨_, rfl⟩
          rw [hAb] at HB hle ⊢
          clear hAb
          generalize W6.alloc (.cells #[.int .i64 0, .int .u64 0, .int .i64 0, .int .u64 0, .slice none 0 0, .int .i64 0, .int .i64 0, .slice none 0 0] 48) = W6 at *
          refine wpAnyH_ready (rs := [8]) (by kernel_rfl) (by simp) ?_
          refine AllReadyH.cons (by first | (simp only [List.getElem?_toArray, List.getElem?_cons_zero, List.getElem?_cons_succ]; done) | (simp only [List.getElem?_toArray, List.getElem?_cons_zero, List.getElem?_cons_succ]; rfl)) (fun K hK => ?_) ?_
          · skip
            go_simp
            try rw [hwr]
            refine (b17_calls ((k : Int) + 1) (cd k) (5 * (k : Int)) (5 * (k : Int) + 5) _).mono ?_
            rintro e W6 ⟨rfl, hx⟩
            replace HX := Lib.hid (HX.out.tr hx)
            replace HB := Lib.hid (HB.out.ext hx)
            clear hx
            try (go_wp2_with fail)
            refine hK.out _ _ (by (try dsimp only); exact HPR.out _ HX.out) (fun hHeld => ?_)
            clear hK K
            try simp only [Act.put, List.setIfInBounds_toArray, List.set_cons_zero, List.set_cons_succ]
            refine wpAnyH_ready (rs := [10]) (by kernel_rfl) (by simp) ?_
            refine AllReadyH.cons (by first | (simp only [List.getElem?_toArray, List.getElem?_cons_zero, List.getElem?_cons_succ]; done) | (simp only [List.getElem?_toArray, List.getElem?_cons_zero, List.getElem?_cons_succ]; rfl)) (fun K hK => ?_) ?_
            · skip
              rw [if_pos (by rfl)]
              refine wp_store_mid _ _ _ rfl Ab 0 (bV (mkB ((k : Int) + 1) (cd k) (5 * (k : Int)) (5 * (k : Int) + 5))).toArray rfl rfl HB.out.there rfl (all_oneCell_toArray (bV_one _)) ?_
              rw [List.toList_toArray]
              replace HB := Lib.hid (show Blk (W6.setCells Ab 0 (bV (mkB ((k : Int) + 1) (cd k) (5 * (k : Int)) (5 * (k : Int) + 5)))) Ab 48 (bV (mkB ((k : Int) + 1) (cd k) (5 * (k : Int)) (5 * (k : Int) + 5))) from HB.out.put rfl)
              replace HX := Lib.hid (show Ext wr (W6.setCells Ab 0 (bV (mkB ((k : Int) + 1) (cd k) (5 * (k : Int)) (5 * (k : Int) + 5)))) from Ext.setCells hle _ _ _ HX.out)
              refine hK.out _ _ (by (try dsimp only); exact HPR.out _ HX.out) (fun hHeld => ?_)
              clear hK K
              try simp only [Act.put, List.setIfInBounds_toArray, List.set_cons_zero, List.set_cons_succ]
              generalize hW7 : W6.setCells Ab 0 (bV (mkB ((k : Int) + 1) (cd k) (5 * (k : Int)) (5 * (k : Int) + 5))) = W6 at *
              clear hW7
              refine wpAnyH_done (by kernel_rfl) ?_ _
              clear hHeld
              have hX := HX.out
              have hB := HB.out
              clear HX HB HPR HDP
              have hc0 := hX.cell (hbp.cell (shP_v cd k))
              have hc2 : W6.cell? ⟨Ab, 2, none⟩ = some (.int .i64 0) := hB.cell rfl
              have hf2 := hB.frozen 2
              go_upto_region 14 with (fail)
              have hX7 : Ext wr (W6.setCell ⟨Ab, 2, none⟩ (.int .i64 (k : Int))) := Below.setCell hX hle _
              have hB7 : Blk (W6.setCell ⟨Ab, 2, none⟩ (.int .i64 (k : Int))) Ab 48 (bV (shB cd k)) := hB.set 2 (.int .i64 (k : Int))
              clear hX hB hc0 hc2 hf2
              generalize W6.setCell ⟨Ab, 2, none⟩ (.int .i64 (k : Int)) = W7 at *
              have hAW : Ab < W7.heap.size := hB7.lt
              go_wp2_with (refine wpList_load_row rfl _ _ rfl Ab rfl 48 (bV (shB cd k)).toArray (0, 0) _ hB7 Tryd.underlying48 rfl rfl ?_)
              refine (HADD.out W7 (htr.ext hX7) (hE.tr hX7)).mono ?_
              rintro e W8 ⟨rfl, hT8, hg8⟩
              have hB8 : Blk W8 Ab 48 (bV (shB cd k)) := hB7.grown hg8 (by simp; omega)
              have hP8 : Blk W8 Pb 48 (bV (shP cd k)) := (hbp.ext hX7).grown hg8 (by simp; exact hPm)
              have ho8 := own_grown (own_keep hoo hX7) hg8 hmB
              have hE8 : Ext w W8 := Gr.below (hE.tr hX7) hg8 hwmb (hE.tr hX7).size
              have hs8 : wr.heap.size ≤ W8.heap.size := Nat.le_trans hX7.size hg8.size
              clear hX7 hB7 hg8 htr hbp hE hoo
              have ho9 := ho8.alloc (.cells (bV (shB cd k)).toArray 48)
              go_upto_region 17 with (first
                | (at_builtin; (refine wpList_append_own _ rfl _ _ 53 rfl W4.heap.size 48 i0 (bA T.gen) 8 96 Tryd.underlying53 hi hz0 hz1 hz2 rfl (by decide) _ _ _ rfl ho9 ⟨W8.heap.size, 0, none⟩ 1 1 (bV (shB cd k)) rfl rfl (new_cells1 _ _ _) (fun x hx => bV_one _ x hx) (by unfold maxLen; omega) (by omega) (by simp; omega) ?_); intro v' W9 hown' hgrow _; have hB9 : Blk W9 Ab 48 (bV (shB cd k)) := (hB8.ext ((Ext.rfl' _).alloc _)).grown hgrow (fun h => absurd (hlo _ h) (by omega)); have hP9 : Blk W9 Pb 48 (bV (shP cd k)) := (hP8.ext ((Ext.rfl' _).alloc _)).grown hgrow (fun h => absurd (ho8.lt _ h.symm).1 (by omega)); have hBe9 : Below W4.heap.size W8 W9 := ((Below.refl _ W8).alloc (by omega) _).grown hgrow (by simp; omega) (fun q hq => (ho8.lt q hq).1))
                | (refine wpList_load_row rfl _ _ rfl Ab rfl 48 (bV (shB cd k)).toArray (0, 0) _ hB8 Tryd.underlying48 rfl rfl ?_))
              have hth9 : W9.there Pb 0 8 := hP9.there
              go_upto_region 11 with (first
                | (refine wpList_store_mid rfl _ _ _ rfl Pb 0 (bV (shB cd k)).toArray rfl rfl hth9 rfl (all_oneCell_toArray (bV_one _)) ?_; rw [List.toList_toArray])
                | (refine wpList_load_row rfl _ _ rfl Ab rfl 48 (bV (shB cd k)).toArray (0, 0) _ hB9 Tryd.underlying48 rfl rfl ?_))
              have hP10 : Blk (W9.setCells Pb 0 (bV (shB cd k))) Pb 48 (bV (shP cd (k + 1))) := hP9.put rfl
              have hO10 : (W9.setCells Pb 0 (bV (shB cd k))).ownsRow W4.heap.size 48 8 v' (k + 1) (bCs (shL cd (k + 1))) := by
                rw [HS.out, bCs_snoc]
                exact own_setCells hPb hown' 0 _
              have hT9 := tr_below hT8 hBe9 hmB htB
              have hT10 := Tr.setCellsS hPt hPm (bV (shB cd k)) 0 _ hT9
              have hE9 : Ext w W9 := hE8.trans (hBe9.mono (by omega))
              have hE10 := Ext.setCells hwP (bV (shB cd k)) 0 _ hE9
              have hs10 : W4.heap.size ≤ (W9.setCells Pb 0 (bV (shB cd k))).heap.size := by rw [size_setCells]; have := hBe9.size; omega
              clear hP9 hB9 hT9 hE9 hBe9 hown' hgrow ho9 ho8 hT8 hE8 hB8 hP8
              generalize W9.setCells Pb 0 (bV (shB cd k)) = W10 at *
              have HF := Lib.hid (show W10.ownsRow W4.heap.size 48 8 v' (k + 1) (bCs (shL cd (k + 1))) ∧ Blk W10 Pb 48 (bV (shP cd (k + 1))) ∧ Tr W10 tb mb (shT cd (k + 1)) ∧ Ext w W10 ∧ W4.heap.size ≤ W10.heap.size from ⟨hO10, hP10, hT10, hE10, hs10⟩)
              clear hO10 hP10 hT10 hE10 hs10
              go_wp2
              go_roundw
              case rel => exact ⟨k + 1, hlt, by first | go_num | (congr 1; omega), HF.out.1, HF.out.2.1, HF.out.2.2.1, HF.out.2.2.2.1, HF.out.2.2.2.2⟩
              case measure => simp [intOf]; omega
            exact AllReadyH.nil
          exact AllReadyH.nil
        exact AllReadyH.nil
      refine AllReadyH.cons (by first | (simp only [List.getElem?_toArray, List.getElem?_cons_zero, List.getElem?_cons_succ]; done) | (simp only [List.getElem?_toArray, List.getElem?_cons_zero, List.getElem?_cons_succ]; rfl)) (fun K hK => ?_) ?_
      · skip
        go_simp
        have HB := Lib.hid (show Blk (W0.alloc (.cells #[.int .i64 0, .int .u64 0, .int .i64 0, .int .u64 0, .slice none 0 0, .int .i64 0, .int .i64 0, .slice none 0 0] 48)) W0.heap.size 48 (bV T.gen) from Blk.new _ _ _)
        have hle : wr.heap.size ≤ W0.heap.size := HX.out.size
        replace HX := Lib.hid (show Ext wr (W0.alloc (.cells #[.int .i64 0, .int .u64 0, .int .i64 0, .int .u64 0, .slice none 0 0, .int .i64 0, .int .i64 0, .slice none 0 0] 48)) from HX.out.alloc _)
        refine hK.out _ _ (by (try dsimp only); exact HPR.out _ HX.out) (fun hHeld => ?_)
        clear hK K
        try simp only [Act.put, List.setIfInBounds_toArray, List.set_cons_zero, List.set_cons_succ]
        obtain ⟨Ab, hAb⟩ : ∃ Ab, W0.heap.size = Ab := ⟨_, rfl⟩
        rw [hAb] at HB hle ⊢
        clear hAb
        generalize W0.alloc (.cells #[.int .i64 0, .int .u64 0, .int .i64 0, .int .u64 0, .slice none 0 0, .int .i64 0, .int .i64 0, .slice none 0 0] 48) = W6 at *
        refine wpAnyH_ready (rs := [2]) (by kernel_rfl) (by simp) ?_
        refine AllReadyH.cons (by first | (simp only [List.getElem?_toArray, List.getElem?_cons_zero, List.getElem?_cons_succ]; done) | (simp only [List.getElem?_toArray, List.getElem?_cons_zero, List.getElem?_cons_succ]; rfl)) (fun K hK => ?_) ?_
        · skip
          go_simp
          refine (HDP.out _ HX.out).mono ?_
          rintro e W6 ⟨rfl, hx⟩
          replace HX := Lib.hid (HX.out.tr hx)
          replace HB := Lib.hid (HB.out.ext hx)
          clear hx
          try (go_wp2_with fail)
          refine hK.out _ _ (by (try dsimp only); exact HPR.out _ HX.out) (fun hHeld => ?_)
          clear hK K
          try simp only [Act.put, List.setIfInBounds_toArray, List.set_cons_zero, List.set_cons_succ]
          refine wpAnyH_ready (rs := [8]) (by kernel_rfl) (by simp) ?_
          refine AllReadyH.cons (by first | (simp only [List.getElem?_toArray, List.getElem?_cons_zero, List.getElem?_cons_succ]; done) | (simp only [List.getElem?_toArray, List.getElem?_cons_zero, List.getElem?_cons_succ]; rfl)) (fun K hK => ?_) ?_
          · skip
            go_simp
            try rw [hwr]
            refine (b17_calls ((k : Int) + 1) (cd k) (5 * (k : Int)) (5 * (k : Int) + 5) _).mono ?_
            rintro e W6 ⟨rfl, hx⟩
            replace HX := Lib.hid (HX.out.tr hx)
            replace HB := Lib.hid (HB.out.ext hx)
            clear hx
            try (go_wp2_with fail)
            refine hK.out _ _ (by (try dsimp only); exact HPR.out _ HX.out) (fun hHeld => ?_)
            clear hK K
            try simp only [Act.put, List.setIfInBounds_toArray, List.set_cons_zero, List.set_cons_succ]
            refine wpAnyH_ready (rs := [10]) (by kernel_rfl) (by simp) ?_
            refine AllReadyH.cons (by first | (simp only [List.getElem?_toArray, List.getElem?_cons_zero, List.getElem?_cons_succ]; done) | (simp only [List.getElem?_toArray, List.getElem?_cons_zero, List.getElem?_cons_succ]; rfl)) (fun K hK => ?_) ?_
            · skip
              rw [if_pos (by rfl)]
              refine wp_store_mid _ _ _ rfl Ab 0 (bV (mkB ((k : Int) + 1) (cd k) (5 * (k : Int)) (5 * (k : Int) + 5))).toArray rfl rfl HB.out.there rfl (all_oneCell_toArray (bV_one _)) ?_
              rw [List.toList_toArray]
              replace HB := Lib.hid (show Blk (W6.setCells Ab 0 (bV (mkB ((k : Int) + 1) (cd k) (5 * (k : Int)) (5 * (k : Int) + 5)))) Ab 48 (bV (mkB ((k : Int) + 1) (cd k) (5 * (k : Int)) (5 * (k : Int) + 5))) from HB.out.put rfl)
              replace HX := Lib.hid (show Ext wr (W6.setCells Ab 0 (bV (mkB ((k : Int) + 1) (cd k) (5 * (k : Int)) (5 * (k : Int) + 5)))) from Ext.setCells hle _ _ _ HX.out)
              refine hK.out _ _ (by (try dsimp only); exact HPR.out _ HX.out) (fun hHeld => ?_)
              clear hK K
              try simp only [Act.put, List.setIfInBounds_toArray, List.set_cons_zero, List.set_cons_succ]
              generalize hW7 : W6.setCells Ab 0 (bV (mkB ((k : Int) + 1) (cd k) (5 * (k : Int)) (5 * (k : Int) + 5))) = W6 at *
              clear hW7
              refine wpAnyH_done (by kernel_rfl) ?_ _
              clear hHeld
              have hX := HX.out
              have hB := HB.out
              clear HX HB HPR HDP
              have hc0 := hX.cell (hbp.cell (shP_v cd k))
              have hc2 : W6.cell? ⟨Ab, 2, none⟩ = some (.int .i64 0) := hB.cell rfl
              have hf2 := hB.frozen 2
              go_upto_region 14 with (fail)
              have hX7 : Ext wr (W6.setCell ⟨Ab, 2, none⟩ (.int .i64 (k : Int))) := Below.setCell hX hle _
              have hB7 : Blk (W6.setCell ⟨Ab, 2, none⟩ (.int .i64 (k : Int))) Ab 48 (bV (shB cd k)) := hB.set 2 (.int .i64 (k : Int))
              clear hX hB hc0 hc2 hf2
              generalize W6.setCell ⟨Ab, 2, none⟩ (.int .i64 (k : Int)) = W7 at *
              have hAW : Ab < W7.heap.size := hB7.lt
              go_wp2_with (refine wpList_load_row rfl _ _ rfl Ab rfl 48 (bV (shB cd k)).toArray (0, 0) _ hB7 Tryd.underlying48 rfl rfl ?_)
              refine (HADD.out W7 (htr.ext hX7) (hE.tr hX7)).mono ?_
              rintro e W8 ⟨rfl, hT8, hg8⟩
              have hB8 : Blk W8 Ab 48 (bV (shB cd k)) := hB7.grown hg8 (by simp; omega)
              have hP8 : Blk W8 Pb 48 (bV (shP cd k)) := (hbp.ext hX7).grown hg8 (by simp; exact hPm)
              have ho8 := own_grown (own_keep hoo hX7) hg8 hmB
              have hE8 : Ext w W8 := Gr.below (hE.tr hX7) hg8 hwmb (hE.tr hX7).size
              have hs8 : wr.heap.size ≤ W8.heap.size := Nat.le_trans hX7.size hg8.size
              clear hX7 hB7 hg8 htr hbp hE hoo
              have ho9 := ho8.alloc (.cells (bV (shB cd k)).toArray 48)
              go_upto_region 17 with (first
                | (at_builtin; (refine wpList_append_own _ rfl _ _ 53 rfl W4.heap.size 48 i0 (bA T.gen) 8 96 Tryd.underlying53 hi hz0 hz1 hz2 rfl (by decide) _ _ _ rfl ho9 ⟨W8.heap.size, 0, none⟩ 1 1 (bV (shB cd k)) rfl rfl (new_cells1 _ _ _) (fun x hx => bV_one _ x hx) (by unfold maxLen; omega) (by omega) (by simp; omega) ?_); intro v' W9 hown' hgrow _; have hB9 : Blk W9 Ab 48 (bV (shB cd k)) := (hB8.ext ((Ext.rfl' _).alloc _)).grown hgrow (fun h => absurd (hlo _ h) (by omega)); have hP9 : Blk W9 Pb 48 (bV (shP cd k)) := (hP8.ext ((Ext.rfl' _).alloc _)).grown hgrow (fun h => absurd (ho8.lt _ h.symm).1 (by omega)); have hBe9 : Below W4.heap.size W8 W9 := ((Below.refl _ W8).alloc (by omega) _).grown hgrow (by simp; omega) (fun q hq => (ho8.lt q hq).1))
                | (refine wpList_load_row rfl _ _ rfl Ab rfl 48 (bV (shB cd k)).toArray (0, 0) _ hB8 Tryd.underlying48 rfl rfl ?_))
              have hth9 : W9.there Pb 0 8 := hP9.there
              go_upto_region 11 with (first
                | (refine wpList_store_mid rfl _ _ _ rfl Pb 0 (bV (shB cd k)).toArray rfl rfl hth9 rfl (all_oneCell_toArray (bV_one _)) ?_; rw [List.toList_toArray])
                | (refine wpList_load_row rfl _ _ rfl Ab rfl 48 (bV (shB cd k)).toArray (0, 0) _ hB9 Tryd.underlying48 rfl rfl ?_))
              have hP10 : Blk (W9.setCells Pb 0 (bV (shB cd k))) Pb 48 (bV (shP cd (k + 1))) := hP9.put rfl
              have hO10 : (W9.setCells Pb 0 (bV (shB cd k))).ownsRow W4.heap.size 48 8 v' (k + 1) (bCs (shL cd (k + 1))) := by
                rw [HS.out, bCs_snoc]
                exact own_setCells hPb hown' 0 _
              have hT9 := tr_below hT8 hBe9 hmB htB
              have hT10 := Tr.setCellsS hPt hPm (bV (shB cd k)) 0 _ hT9
              have hE9 : Ext w W9 := hE8.trans (hBe9.mono (by omega))
              have hE10 := Ext.setCells hwP (bV (shB cd k)) 0 _ hE9
              have hs10 : W4.heap.size ≤ (W9.setCells Pb 0 (bV (shB cd k))).heap.size := by rw [size_setCells]; have := hBe9.size; omega
              clear hP9 hB9 hT9 hE9 hBe9 hown' hgrow ho9 ho8 hT8 hE8 hB8 hP8
              generalize W9.setCells Pb 0 (bV (shB cd k)) = W10 at *
              have HF := Lib.hid (show W10.ownsRow W4.heap.size 48 8 v' (k + 1) (bCs (shL cd (k + 1))) ∧ Blk W10 Pb 48 (bV (shP cd (k + 1))) ∧ Tr W10 tb mb (shT cd (k + 1)) ∧ Ext w W10 ∧ W4.heap.size ≤ W10.heap.size from ⟨hO10, hP10, hT10, hE10, hs10⟩)
              clear hO10 hP10 hT10 hE10 hs10
              go_wp2
              go_roundw
              case rel => exact ⟨k + 1, hlt, by first | go_num | (congr 1; omega), HF.out.1, HF.out.2.1, HF.out.2.2.1, HF.out.2.2.2.1, HF.out.2.2.2.2⟩
              case measure => simp [intOf]; omega
            exact AllReadyH.nil
          exact AllReadyH.nil
        exact AllReadyH.nil
      exact AllReadyH.nil
    · skip
      have hkN : k = N := by omega
      subst hkN
      obtain ⟨g, cap, rfl, hgb, hgs, hcell⟩ := own_cells8 hoo (by omega)
      have hgm : g ≠ mb := by omega
      have hrange : ∀ j, j < k → wr.rangeAt g (j * 8) (bV (shB cd j)) := fun j hj c v hc => by rw [Nat.mul_comm j 8]; exact hcell (8 * j + c) v (bCs_at _ j (shB cd j) (by simp [shL, hj]) c v hc)
      have HE := Lib.hid hE
      have HTR := Lib.hid htr
      have HRG := Lib.hid hrange
      have hmw : mb < wr.heap.size := by omega
      clear hoo hbp htr hE hcell hrange hlt
      obtain ⟨wo, hwo⟩ : ∃ wo : World, wo = wr := ⟨_, rfl⟩
      subst hwo
      go_wp2_with fail
      refine (new18_calls _).mono ?_
      rintro e W11 ⟨rfl, hx11⟩
      go_upto_region 19 with (refine wpList_store_new rfl _ _ _ rfl _ _ (sV ⟨0, 0, 0, 0, 0⟩) rfl rfl rfl rfl (sV_one _) ?_; intro W12 hX12 hB12)
      have HXs := hx11.tr hX12
      have hsz11 : wo.heap.size ≤ W11.heap.size := hx11.size
      have hAl : W11.heap.size < W12.heap.size := hB12.lt
      have HI := Lib.hid (show Blk W12 W11.heap.size 89 (sV (shS cd 0)) ∧ Tr W12 tb mb (shT cd k) ∧ (∀ j, j < k → W12.rangeAt g (j * 8) (bV (shB cd j))) ∧ Ext w W12 from ⟨by rw [show shS cd 0 = ⟨0, 0, 0, 0, 0⟩ by simp [shS, HO.out.z]]; exact hB12, HTR.out.ext HXs, fun j hj c v hc => HXs.cell (HRG.out j hj c v hc), HE.out.tr HXs⟩)
      have hwAs : w.heap.size ≤ W11.heap.size := Nat.le_trans HE.out.size hsz11
      have hAg : W11.heap.size ≠ g := by omega
      have hAm : W11.heap.size ≠ mb := by omega
      have hAt : W11.heap.size ≠ tb := by omega
      clear hx11 hX12 hB12 HXs HTR HRG HE hAl hsz11
      generalize W11.heap.size = As at *
      have HV := Lib.hid (show ∀ m, m < k → ∀ W, Tr W tb mb (shT cd k) → Ext w W → Calls Tryd.prog 29 #[.agg (sV (shS cd m)).toArray, .pointer (some ⟨tb, 0, none⟩), bA (shB cd m)] W fun e w' => e = .returned (.tuple #[.agg (sV (shS cd (m + 1))).toArray, .int .i64 0]) ∧ Ext W w' from fun m hm W hT hE => by
        have hd := HO.out.ds m (by omega)
        refine (vote_yes W hT (HT.out W hE) (shS cd m) (shB cd m) (oH m (by omega)) true (fun _ W' hT' => by
          rw [hd]
          have h := extends_calls W' hT' 20 (cd (m + 1)) _ (HO.out.wy k (by omega) m hm) (HO.out.wl (m + 1) (by omega)) (by decide) (cd (m - 2))
          rw [decide_eq_true (HO.out.inn m (by omega))] at h
          exact h) (by
            have e1 : decide ((shB cd m).v ≤ (shS cd m).vo) = false := decide_eq_false (by simp only [shB, shS]; omega)
            rw [hd, HO.out.gs k (by omega) m hm, e1]; rfl)).mono ?_
        rintro e w' ⟨rfl, hx⟩
        exact ⟨congrArg (fun f => Ending.returned (.tuple #[.agg (sV f).toArray, .int .i64 0])) (HO.out.sg k (by omega) m hm), hx⟩)
      go_wp2
      go_loopw [14] (fun i wr => ∃ m : Nat, m ≤ k ∧ i = .int .i64 (m : Int) ∧ Blk wr As 89 (sV (shS cd m)) ∧ Tr wr tb mb (shT cd k) ∧ (∀ j, j < k → wr.rangeAt g (j * 8) (bV (shB cd j))) ∧ Ext w wr) (fun i _ => k - (intOf i).toNat)
      case atStart => exact ⟨0, by omega, rfl, HI.out.1, HI.out.2.1, HI.out.2.2.1, HI.out.2.2.2⟩
      case round =>
        obtain ⟨m, hm, rfl, hbs, htr, hrg, hE⟩ := hrel
        by_cases hlt : m < k
        · skip
          have hlt2 : (m : Int) < (k8 : Int) + 2 := by omega
          have hr := hrg m hlt
          have HPR := Lib.hid (show ∀ W, Ext wr W → W.rangeAt As 0 (sV (shS cd m)) ∧ W.rangeAt g (m * 8) (bV (shB cd m)) from fun W hx => ⟨(hbs.ext hx).range, fun c v hc => hx.cell (hr c v hc)⟩)
          have HVm := Lib.hid (fun W (hx : Ext wr W) => HV.out m hlt W (htr.ext hx) (hE.tr hx))
          have HX := Lib.hid (show Ext wr wr.drew from (Ext.rfl' wr).drew)
          have hAr : As < wr.heap.size := hbs.lt
          have HRG := Lib.hid hrg
          have HTR := Lib.hid htr
          have HE := Lib.hid hE
          have HBS := Lib.hid hbs
          clear hr hrg htr hE hbs
          go_upto_region 22 with (fail)
          refine wp_region_held_drew (S := fun w' => w'.rangeAt As 0 (sV (shS cd m)) ∧ w'.rangeAt g (m * 8) (bV (shB cd m))) (by kernel_rfl) (by (try dsimp only); exact HPR.out _ HX.out) (fun hHeld => ?_)
          generalize wr.drew = W0 at *
          refine wpAnyH_take (i := 0) (by first | (simp only [List.getElem?_toArray, List.getElem?_cons_zero, List.getElem?_cons_succ]; done) | (simp only [List.getElem?_toArray, List.getElem?_cons_zero, List.getElem?_cons_succ]; rfl)) (by kernel_rfl) (by kernel_rfl) (by kernel_rfl) (by exact fun _ _ _ h => h) (yieldsIf_load_mid (by rfl) _ _ rfl As 0 rfl (sV (shS cd m)) _ (fun w' hSw => hSw.1) Tryd.underlying89 rfl rfl) (by assumption) ?_
          try simp only [Act.put, List.setIfInBounds_toArray, List.set_cons_zero, List.set_cons_succ]
          refine wpAnyH_take (i := 1) (v := ?_) (by first | (simp only [List.getElem?_toArray, List.getElem?_cons_zero, List.getElem?_cons_succ]; done) | (simp only [List.getElem?_toArray, List.getElem?_cons_zero, List.getElem?_cons_succ]; rfl)) (by kernel_rfl) (by kernel_rfl) (by kernel_rfl) (by exact fun _ _ _ h => h) (Or.inl ⟨by rfl, ?hy1⟩) (by assumption) ?_
          case hy1 => (intro w' hSw; clear hSw; go_simp; try with_reducible rfl)
          try simp only [Act.put, List.setIfInBounds_toArray, List.set_cons_zero, List.set_cons_succ]
          refine wpAnyH_take (i := 2) (v := ?_) (by first | (simp only [List.getElem?_toArray, List.getElem?_cons_zero, List.getElem?_cons_succ]; done) | (simp only [List.getElem?_toArray, List.getElem?_cons_zero, List.getElem?_cons_succ]; rfl)) (by kernel_rfl) (by kernel_rfl) (by kernel_rfl) (by exact fun _ _ _ h => h) (Or.inl ⟨by rfl, ?hy2⟩) (by assumption) ?_
          case hy2 => (intro w' hSw; clear hSw; go_simp; try with_reducible rfl)
          try simp only [Act.put, List.setIfInBounds_toArray, List.set_cons_zero, List.set_cons_succ]
          refine wpAnyH_take (i := 3) (v := ?_) (by first | (simp only [List.getElem?_toArray, List.getElem?_cons_zero, List.getElem?_cons_succ]; done) | (simp only [List.getElem?_toArray, List.getElem?_cons_zero, List.getElem?_cons_succ]; rfl)) (by kernel_rfl) (by kernel_rfl) (by kernel_rfl) (by exact fun _ _ _ h => h) (Or.inl ⟨by rfl, ?hy3⟩) (by assumption) ?_
          case hy3 => (intro w' hSw; clear hSw; go_simp; try with_reducible rfl)
          try simp only [Act.put, List.setIfInBounds_toArray, List.set_cons_zero, List.set_cons_succ]
          refine wpAnyH_take (i := 4) (v := ?_) (by first | (simp only [List.getElem?_toArray, List.getElem?_cons_zero, List.getElem?_cons_succ]; done) | (simp only [List.getElem?_toArray, List.getElem?_cons_zero, List.getElem?_cons_succ]; rfl)) (by kernel_rfl) (by kernel_rfl) (by kernel_rfl) (by exact fun _ _ _ h => h) (Or.inl ⟨by rfl, ?hy4⟩) (by assumption) ?_
          case hy4 => (intro w' hSw; clear hSw; go_simp; try with_reducible rfl)
          try simp only [Act.put, List.setIfInBounds_toArray, List.set_cons_zero, List.set_cons_succ]
          refine wpAnyH_take (i := 5) (by first | (simp only [List.getElem?_toArray, List.getElem?_cons_zero, List.getElem?_cons_succ]; done) | (simp only [List.getElem?_toArray, List.getElem?_cons_zero, List.getElem?_cons_succ]; rfl)) (by kernel_rfl) (by kernel_rfl) (by kernel_rfl) (by exact fun _ _ _ h => h) (yieldsIf_load_mid (by rfl) _ _ rfl g (m * 8) rfl (bV (shB cd m)) _ (fun w' hSw => hSw.2) Tryd.underlying48 rfl rfl) (by assumption) ?_
          try simp only [Act.put, List.setIfInBounds_toArray, List.set_cons_zero, List.set_cons_succ]
          refine wpAnyH_ready (rs := [6, 10]) (by kernel_rfl) (by simp) ?_
          refine AllReadyH.cons (by first | (simp only [List.getElem?_toArray, List.getElem?_cons_zero, List.getElem?_cons_succ]; done) | (simp only [List.getElem?_toArray, List.getElem?_cons_zero, List.getElem?_cons_succ]; rfl)) (fun K hK => ?_) ?_
          · skip
            go_simp
            refine (HVm.out _ HX.out).mono ?_
            rintro e W6 ⟨rfl, hx⟩
            replace HX := Lib.hid (HX.out.tr hx)
            clear hx
            try (go_wp2_with fail)
            refine hK.out _ _ (by (try dsimp only); exact HPR.out _ HX.out) (fun hHeld => ?_)
            clear hK K
            try simp only [Act.put, List.setIfInBounds_toArray, List.set_cons_zero, List.set_cons_succ]
            refine wpAnyH_take (i := 7) (v := ?_) (by first | (simp only [List.getElem?_toArray, List.getElem?_cons_zero, List.getElem?_cons_succ]; done) | (simp only [List.getElem?_toArray, List.getElem?_cons_zero, List.getElem?_cons_succ]; rfl)) (by kernel_rfl) (by kernel_rfl) (by kernel_rfl) (by exact fun _ _ _ h => h) (Or.inl ⟨by rfl, ?hy7⟩) (by assumption) ?_
            case hy7 => (intro w' hSw; clear hSw; go_simp; try with_reducible rfl)
            try simp only [Act.put, List.setIfInBounds_toArray, List.set_cons_zero, List.set_cons_succ]
            refine wpAnyH_take (i := 8) (v := ?_) (by first | (simp only [List.getElem?_toArray, List.getElem?_cons_zero, List.getElem?_cons_succ]; done) | (simp only [List.getElem?_toArray, List.getElem?_cons_zero, List.getElem?_cons_succ]; rfl)) (by kernel_rfl) (by kernel_rfl) (by kernel_rfl) (by exact fun _ _ _ h => h) (Or.inl ⟨by rfl, ?hy8⟩) (by assumption) ?_
            case hy8 => (intro w' hSw; clear hSw; go_simp; try with_reducible rfl)
            try simp only [Act.put, List.setIfInBounds_toArray, List.set_cons_zero, List.set_cons_succ]
            refine wpAnyH_take (i := 9) (v := ?_) (by first | (simp only [List.getElem?_toArray, List.getElem?_cons_zero, List.getElem?_cons_succ]; done) | (simp only [List.getElem?_toArray, List.getElem?_cons_zero, List.getElem?_cons_succ]; rfl)) (by kernel_rfl) (by kernel_rfl) (by kernel_rfl) (by exact fun _ _ _ h => h) (Or.inl ⟨by rfl, ?hy9⟩) (by assumption) ?_
            case hy9 => (intro w' hSw; clear hSw; go_simp; try with_reducible rfl)
            try simp only [Act.put, List.setIfInBounds_toArray, List.set_cons_zero, List.set_cons_succ]
            refine wpAnyH_ready (rs := [10]) (by kernel_rfl) (by simp) ?_
            refine AllReadyH.cons (by first | (simp only [List.getElem?_toArray, List.getElem?_cons_zero, List.getElem?_cons_succ]; done) | (simp only [List.getElem?_toArray, List.getElem?_cons_zero, List.getElem?_cons_succ]; rfl)) (fun K hK => ?_) ?_
            · skip
              go_simp
              have HB := Lib.hid (show Blk (W6.alloc (.cells #[.int .i64 0, .int .i64 0, .int .u64 0, .slice none 0 0, .int .i64 0, .int .u64 0, .slice none 0 0] 89)) W6.heap.size 89 (sV ⟨0, 0, 0, 0, 0⟩) from Blk.new _ _ _)
              have hle : wr.heap.size ≤ W6.heap.size := HX.out.size
              replace HX := Lib.hid (show Ext wr (W6.alloc (.cells #[.int .i64 0, .int .i64 0, .int .u64 0, .slice none 0 0, .int .i64 0, .int .u64 0, .slice none 0 0] 89)) from HX.out.alloc _)
              refine hK.out _ _ (by (try dsimp only); exact HPR.out _ HX.out) (fun hHeld => ?_)
              clear hK K
              try simp only [Act.put, List.setIfInBounds_toArray, List.set_cons_zero, List.set_cons_succ]
              obtain ⟨At, hAt9⟩ : ∃ At, W6.heap.size = At := ⟨_, rfl⟩
              rw [hAt9] at HB hle ⊢
              clear hAt9
              generalize W6.alloc (.cells #[.int .i64 0, .int .i64 0, .int .u64 0, .slice none 0 0, .int .i64 0, .int .u64 0, .slice none 0 0] 89) = W6 at *
              refine wpAnyH_ready (rs := [11]) (by kernel_rfl) (by simp) ?_
              refine AllReadyH.cons (by first | (simp only [List.getElem?_toArray, List.getElem?_cons_zero, List.getElem?_cons_succ]; done) | (simp only [List.getElem?_toArray, List.getElem?_cons_zero, List.getElem?_cons_succ]; rfl)) (fun K hK => ?_) ?_
              · skip
                rw [if_pos (by rfl)]
                refine wp_store_mid _ _ _ rfl At 0 (sV (shS cd (m + 1))).toArray rfl rfl HB.out.there rfl (all_oneCell_toArray (sV_one _)) ?_
                rw [List.toList_toArray]
                replace HB := Lib.hid (show Blk (W6.setCells At 0 (sV (shS cd (m + 1)))) At 89 (sV (shS cd (m + 1))) from HB.out.put rfl)
                replace HX := Lib.hid (show Ext wr (W6.setCells At 0 (sV (shS cd (m + 1)))) from Ext.setCells hle _ _ _ HX.out)
                refine hK.out _ _ (by (try dsimp only); exact HPR.out _ HX.out) (fun hHeld => ?_)
                clear hK K
                try simp only [Act.put, List.setIfInBounds_toArray, List.set_cons_zero, List.set_cons_succ]
                generalize W6.setCells At 0 (sV (shS cd (m + 1))) = W6 at *
                refine wpAnyH_take (i := 12) (v := ?_) (by first | (simp only [List.getElem?_toArray, List.getElem?_cons_zero, List.getElem?_cons_succ]; done) | (simp only [List.getElem?_toArray, List.getElem?_cons_zero, List.getElem?_cons_succ]; rfl)) (by kernel_rfl) (by kernel_rfl) (by kernel_rfl) (by exact fun _ _ _ h => h) (Or.inl ⟨by rfl, ?hy12⟩) (by assumption) ?_
                case hy12 => (intro w' hSw; clear hSw; go_simp; try with_reducible rfl)
                try simp only [Act.put, List.setIfInBounds_toArray, List.set_cons_zero, List.set_cons_succ]
                refine wpAnyH_done (by kernel_rfl) ?_ _
                clear hHeld
                have hX := HX.out
                have hB := HB.out
                clear HX HB HPR HVm
                go_upto_region 25 with (fail)
                have hS6 : Blk W6 As 89 (sV (shS cd m)) := HBS.out.ext hX
                have hth : W6.there As 0 7 := hS6.there
                go_upto_region 21 with (first
                  | (refine wpList_store_mid rfl _ _ _ rfl As 0 (sV (shS cd (m + 1))).toArray rfl rfl hth rfl (all_oneCell_toArray (sV_one _)) ?_; rw [List.toList_toArray])
                  | (refine wpList_load_row rfl _ _ rfl At rfl 89 (sV (shS cd (m + 1))).toArray (0, 0) _ hB Tryd.underlying89 rfl rfl ?_))
                have hF1 : Blk (W6.setCells As 0 (sV (shS cd (m + 1)))) As 89 (sV (shS cd (m + 1))) := hS6.put rfl
                have hF2 := Tr.setCellsS hAt hAm (sV (shS cd (m + 1))) 0 _ (HTR.out.ext hX)
                have hF3 : ∀ j, j < k → (W6.setCells As 0 (sV (shS cd (m + 1)))).rangeAt g (j * 8) (bV (shB cd j)) := fun j hj => range_setCells hAg.symm _ _ _ (fun c v hc => hX.cell (HRG.out j hj c v hc))
                have hF4 := Ext.setCells hwAs (sV (shS cd (m + 1))) 0 _ (HE.out.tr hX)
                have HF := Lib.hid (And.intro hF1 (And.intro hF2 (And.intro hF3 hF4)))
                clear hF1 hF2 hF3 hF4 hS6 hth hX hB
                generalize W6.setCells As 0 (sV (shS cd (m + 1))) = W10 at *
                go_wp2
                go_roundw
                case rel => exact ⟨m + 1, hlt, by first | go_num | (congr 1; omega), HF.out.1, HF.out.2.1, HF.out.2.2.1, HF.out.2.2.2⟩
                case measure => simp [intOf]; omega
              exact AllReadyH.nil
            exact AllReadyH.nil
          refine AllReadyH.cons (by first | (simp only [List.getElem?_toArray, List.getElem?_cons_zero, List.getElem?_cons_succ]; done) | (simp only [List.getElem?_toArray, List.getElem?_cons_zero, List.getElem?_cons_succ]; rfl)) (fun K hK => ?_) ?_
          · skip
            go_simp
            have HB := Lib.hid (show Blk (W0.alloc (.cells #[.int .i64 0, .int .i64 0, .int .u64 0, .slice none 0 0, .int .i64 0, .int .u64 0, .slice none 0 0] 89)) W0.heap.size 89 (sV ⟨0, 0, 0, 0, 0⟩) from Blk.new _ _ _)
            have hle : wr.heap.size ≤ W0.heap.size := HX.out.size
            replace HX := Lib.hid (show Ext wr (W0.alloc (.cells #[.int .i64 0, .int .i64 0, .int .u64 0, .slice none 0 0, .int .i64 0, .int .u64 0, .slice none 0 0] 89)) from HX.out.alloc _)
            refine hK.out _ _ (by (try dsimp only); exact HPR.out _ HX.out) (fun hHeld => ?_)
            clear hK K
            try simp only [Act.put, List.setIfInBounds_toArray, List.set_cons_zero, List.set_cons_succ]
            obtain ⟨At, hAt9⟩ : ∃ At, W0.heap.size = At := ⟨_, rfl⟩
            rw [hAt9] at HB hle ⊢
            clear hAt9
            generalize W0.alloc (.cells #[.int .i64 0, .int .i64 0, .int .u64 0, .slice none 0 0, .int .i64 0, .int .u64 0, .slice none 0 0] 89) = W6 at *
            refine wpAnyH_ready (rs := [6]) (by kernel_rfl) (by simp) ?_
            refine AllReadyH.cons (by first | (simp only [List.getElem?_toArray, List.getElem?_cons_zero, List.getElem?_cons_succ]; done) | (simp only [List.getElem?_toArray, List.getElem?_cons_zero, List.getElem?_cons_succ]; rfl)) (fun K hK => ?_) ?_
            · skip
              go_simp
              refine (HVm.out _ HX.out).mono ?_
              rintro e W6 ⟨rfl, hx⟩
              replace HX := Lib.hid (HX.out.tr hx)
              replace HB := Lib.hid (HB.out.ext hx)
              clear hx
              try (go_wp2_with fail)
              refine hK.out _ _ (by (try dsimp only); exact HPR.out _ HX.out) (fun hHeld => ?_)
              clear hK K
              try simp only [Act.put, List.setIfInBounds_toArray, List.set_cons_zero, List.set_cons_succ]
              refine wpAnyH_take (i := 7) (v := ?_) (by first | (simp only [List.getElem?_toArray, List.getElem?_cons_zero, List.getElem?_cons_succ]; done) | (simp only [List.getElem?_toArray, List.getElem?_cons_zero, List.getElem?_cons_succ]; rfl)) (by kernel_rfl) (by kernel_rfl) (by kernel_rfl) (by exact fun _ _ _ h => h) (Or.inl ⟨by rfl, ?hy7⟩) (by assumption) ?_
              case hy7 => (intro w' hSw; clear hSw; go_simp; try with_reducible rfl)
              try simp only [Act.put, List.setIfInBounds_toArray, List.set_cons_zero, List.set_cons_succ]
              refine wpAnyH_take (i := 8) (v := ?_) (by first | (simp only [List.getElem?_toArray, List.getElem?_cons_zero, List.getElem?_cons_succ]; done) | (simp only [List.getElem?_toArray, List.getElem?_cons_zero, List.getElem?_cons_succ]; rfl)) (by kernel_rfl) (by kernel_rfl) (by kernel_rfl) (by exact fun _ _ _ h => h) (Or.inl ⟨by rfl, ?hy8⟩) (by assumption) ?_
              case hy8 => (intro w' hSw; clear hSw; go_simp; try with_reducible rfl)
              try simp only [Act.put, List.setIfInBounds_toArray, List.set_cons_zero, List.set_cons_succ]
              refine wpAnyH_take (i := 9) (v := ?_) (by first | (simp only [List.getElem?_toArray, List.getElem?_cons_zero, List.getElem?_cons_succ]; done) | (simp only [List.getElem?_toArray, List.getElem?_cons_zero, List.getElem?_cons_succ]; rfl)) (by kernel_rfl) (by kernel_rfl) (by kernel_rfl) (by exact fun _ _ _ h => h) (Or.inl ⟨by rfl, ?hy9⟩) (by assumption) ?_
              case hy9 => (intro w' hSw; clear hSw; go_simp; try with_reducible rfl)
              try simp only [Act.put, List.setIfInBounds_toArray, List.set_cons_zero, List.set_cons_succ]
              refine wpAnyH_ready (rs := [11]) (by kernel_rfl) (by simp) ?_
              refine AllReadyH.cons (by first | (simp only [List.getElem?_toArray, List.getElem?_cons_zero, List.getElem?_cons_succ]; done) | (simp only [List.getElem?_toArray, List.getElem?_cons_zero, List.getElem?_cons_succ]; rfl)) (fun K hK => ?_) ?_
              · skip
                rw [if_pos (by rfl)]
                refine wp_store_mid _ _ _ rfl At 0 (sV (shS cd (m + 1))).toArray rfl rfl HB.out.there rfl (all_oneCell_toArray (sV_one _)) ?_
                rw [List.toList_toArray]
                replace HB := Lib.hid (show Blk (W6.setCells At 0 (sV (shS cd (m + 1)))) At 89 (sV (shS cd (m + 1))) from HB.out.put rfl)
                replace HX := Lib.hid (show Ext wr (W6.setCells At 0 (sV (shS cd (m + 1)))) from Ext.setCells hle _ _ _ HX.out)
                refine hK.out _ _ (by (try dsimp only); exact HPR.out _ HX.out) (fun hHeld => ?_)
                clear hK K
                try simp only [Act.put, List.setIfInBounds_toArray, List.set_cons_zero, List.set_cons_succ]
                generalize W6.setCells At 0 (sV (shS cd (m + 1))) = W6 at *
                refine wpAnyH_take (i := 12) (v := ?_) (by first | (simp only [List.getElem?_toArray, List.getElem?_cons_zero, List.getElem?_cons_succ]; done) | (simp only [List.getElem?_toArray, List.getElem?_cons_zero, List.getElem?_cons_succ]; rfl)) (by kernel_rfl) (by kernel_rfl) (by kernel_rfl) (by exact fun _ _ _ h => h) (Or.inl ⟨by rfl, ?hy12⟩) (by assumption) ?_
                case hy12 => (intro w' hSw; clear hSw; go_simp; try with_reducible rfl)
                try simp only [Act.put, List.setIfInBounds_toArray, List.set_cons_zero, List.set_cons_succ]
                refine wpAnyH_done (by kernel_rfl) ?_ _
                clear hHeld
                have hX := HX.out
                have hB := HB.out
                clear HX HB HPR HVm
                go_upto_region 25 with (fail)
                have hS6 : Blk W6 As 89 (sV (shS cd m)) := HBS.out.ext hX
                have hth : W6.there As 0 7 := hS6.there
                go_upto_region 21 with (first
                  | (refine wpList_store_mid rfl _ _ _ rfl As 0 (sV (shS cd (m + 1))).toArray rfl rfl hth rfl (all_oneCell_toArray (sV_one _)) ?_; rw [List.toList_toArray])
                  | (refine wpList_load_row rfl _ _ rfl At rfl 89 (sV (shS cd (m + 1))).toArray (0, 0) _ hB Tryd.underlying89 rfl rfl ?_))
                have hF1 : Blk (W6.setCells As 0 (sV (shS cd (m + 1)))) As 89 (sV (shS cd (m + 1))) := hS6.put rfl
                have hF2 := Tr.setCellsS hAt hAm (sV (shS cd (m + 1))) 0 _ (HTR.out.ext hX)
                have hF3 : ∀ j, j < k → (W6.setCells As 0 (sV (shS cd (m + 1)))).rangeAt g (j * 8) (bV (shB cd j)) := fun j hj => range_setCells hAg.symm _ _ _ (fun c v hc => hX.cell (HRG.out j hj c v hc))
                have hF4 := Ext.setCells hwAs (sV (shS cd (m + 1))) 0 _ (HE.out.tr hX)
                have HF := Lib.hid (And.intro hF1 (And.intro hF2 (And.intro hF3 hF4)))
                clear hF1 hF2 hF3 hF4 hS6 hth hX hB
                generalize W6.setCells As 0 (sV (shS cd (m + 1))) = W10 at *
                go_wp2
                go_roundw
                case rel => exact ⟨m + 1, hlt, by first | go_num | (congr 1; omega), HF.out.1, HF.out.2.1, HF.out.2.2.1, HF.out.2.2.2⟩
                case measure => simp [intOf]; omega
              exact AllReadyH.nil
            exact AllReadyH.nil
          exact AllReadyH.nil
        · skip
          have hmk : m = k := by omega
          subst hmk
          have HLQ := Lib.hid (show sawF (shT cd m) (shS cd m) (2 + (k8 : Int), cd m) = ⟨2 + (k8 : Int), (N1 : Int), cd N1, 2 + (k8 : Int), cd m⟩ by
            have h := HO.out.sl k8 hk8
            rw [hN, hN1]
            rw [show (2 + (k8 : Int)) = ((k8 + 2 : Nat) : Int) by omega, h]
            rw [show (k8 : Int) + 2 = ((k8 + 2 : Nat) : Int) by omega]
            rfl)
          have HD1 := Lib.hid (show ∀ W, Ext w W → Calls Tryd.prog 21 #[bA (shB cd N1)] W fun e w' => e = .returned (cU64 (cd m)) ∧ Ext W w' from fun W hx => dig_ok (by rw [HO.out.ds N1 (by omega), hN, hN1]) (oH N1 (by omega)) W (HT.out W hx))
          have HD2 := Lib.hid (show ∀ W, Ext w W → Calls Tryd.prog 21 #[bA (shB cd k8)] W fun e w' => e = .returned (cU64 (cd N1)) ∧ Ext W w' from fun W hx => dig_ok (by rw [HO.out.ds k8 (by omega), hN1]) (oH k8 (by omega)) W (HT.out W hx))
          have HSW := Lib.hid (show ∀ W, Tr W tb mb (shT cd m) → Calls Tryd.prog 30 #[.agg (sV (shS cd m)).toArray, .pointer (some ⟨tb, 0, none⟩), qA (2 + (k8 : Int)) (cd m)] W fun e w' => e = .returned (.agg (sV ⟨2 + (k8 : Int), (N1 : Int), cd N1, 2 + (k8 : Int), cd m⟩).toArray) ∧ Ext W w' from fun W hT => by
            have h := saw_calls W hT (shS cd m) (2 + (k8 : Int)) (cd m) (HO.out.ls m (by omega))
            rw [HLQ.out] at h
            exact h)
          have HADF := Lib.hid (fun W (hT : Tr W tb mb (shT cd m)) hW => add_ok (HO.out.df v hv q hq) (HO.out.cf m (by omega) v hv q hq) oF (by rw [shT_len]; omega) W hT (HT.out W hW))
          have HMY := Lib.hid (show ∀ W, Tr W tb mb ((fd v q, shF v q) :: shT cd m) → Ext w W → Calls Tryd.prog 31 #[.agg (sV ⟨2 + (k8 : Int), (N1 : Int), cd N1, 2 + (k8 : Int), cd m⟩).toArray, .pointer (some ⟨tb, 0, none⟩), bA (shF v q)] W fun e w' => e = .returned (.int .i64 (mayC true (decide (1 + (v : Int) ≤ 2 + (k8 : Int))) false (decide ((q : Int) ≤ (N1 : Int))) : Nat)) ∧ Ext W w' from fun W hT hE => by
            have hd := HO.out.df v hv q hq
            have h := may_calls W hT (HT.out W hE) ⟨2 + (k8 : Int), (N1 : Int), cd N1, 2 + (k8 : Int), cd m⟩ (shF v q) oF false (fun _ W' hT' => by
              rw [hd]
              have h := extends_calls W' hT' 20 (fd v q) _ (HO.out.fw m (by omega) v hv q hq) (fun x hx => by
                simp only [List.mem_cons, List.not_mem_nil, or_false] at hx
                rcases hx with rfl | rfl
                · exact HO.out.lf v hv q hq
                · decide) (by decide) (cd N1)
              rw [hN1, HO.out.fn k8 hk8 v hv q hq] at h
              rw [hN1]
              exact h)
            rw [hd, HO.out.fg m (by omega) v hv q hq] at h
            exact h)
          have hl1 : (N1 : Int) < (m : Int) := by omega
          have hl2 : (k8 : Int) < (m : Int) := by omega
          have hl3 : (N1 : Int) < (k8 : Int) + 2 := by omega
          have hl4 : (N1 : Int) < 2 + (k8 : Int) := by omega
          have hl5 : (0 : Int) ≤ (N1 : Int) := by omega
          have hw1 : IntKind.i64.wrap (N1 : Int) = (N1 : Int) := IntWalk.i64_in _ (by omega)
          have hw2 : IntKind.i64.wrap (k8 : Int) = (k8 : Int) := IntWalk.i64_in _ (by omega)
          have hs1 : 2 + (k8 : Int) - 1 = (N1 : Int) := by omega
          have hs2 : 2 + (k8 : Int) - 2 = (k8 : Int) := by omega
          have HMK := Lib.hid (show 2 + (k8 : Int) = (m : Int) by omega)
          have hr1 := hrg N1 (by omega)
          have hr2 := hrg k8 (by omega)
          have HPR := Lib.hid (show ∀ W, Ext wr W → W.rangeAt g (N1 * 8) (bV (shB cd N1)) from fun W hx c v hc => hx.cell (hr1 c v hc))
          have HX := Lib.hid (show Ext wr wr.drew from (Ext.rfl' wr).drew)
          have hAr : As < wr.heap.size := hbs.lt
          have HTR := Lib.hid htr
          have HE := Lib.hid hE
          have HBS := Lib.hid hbs
          have HR2 := Lib.hid hr2
          clear hr1 hr2 hrg htr hE hbs HLQ hkn hNn hNs hNs2 hN hN1 hlt
          clear hm
          go_upto_region 26 with (fail)
          refine wp_region_held_drew (S := fun w' => w'.rangeAt g (N1 * 8) (bV (shB cd N1))) (by kernel_rfl) (by (try dsimp only); exact HPR.out _ HX.out) (fun hHeld => ?_)
          generalize wr.drew = W0 at *
          refine wpAnyH_take (i := 1) (v := ?_) (by first | (simp only [List.getElem?_toArray, List.getElem?_cons_zero, List.getElem?_cons_succ]; done) | (simp only [List.getElem?_toArray, List.getElem?_cons_zero, List.getElem?_cons_succ]; rfl)) (by kernel_rfl) (by kernel_rfl) (by kernel_rfl) (by exact fun _ _ _ h => h) (Or.inl ⟨by rfl, ?hy1⟩) (by assumption) ?_
          case hy1 => (intro w' hSw; clear hSw; go_simp; try with_reducible rfl)
          try simp only [Act.put, List.setIfInBounds_toArray, List.set_cons_zero, List.set_cons_succ]
          refine wpAnyH_take (i := 2) (v := ?_) (by first | (simp only [List.getElem?_toArray, List.getElem?_cons_zero, List.getElem?_cons_succ]; done) | (simp only [List.getElem?_toArray, List.getElem?_cons_zero, List.getElem?_cons_succ]; rfl)) (by kernel_rfl) (by kernel_rfl) (by kernel_rfl) (by exact fun _ _ _ h => h) (Or.inl ⟨by rfl, ?hy2⟩) (by assumption) ?_
          case hy2 => (intro w' hSw; clear hSw; go_simp; try with_reducible rfl)
          try simp only [Act.put, List.setIfInBounds_toArray, List.set_cons_zero, List.set_cons_succ]
          refine wpAnyH_take (i := 3) (v := ?_) (by first | (simp only [List.getElem?_toArray, List.getElem?_cons_zero, List.getElem?_cons_succ]; done) | (simp only [List.getElem?_toArray, List.getElem?_cons_zero, List.getElem?_cons_succ]; rfl)) (by kernel_rfl) (by kernel_rfl) (by kernel_rfl) (by exact fun _ _ _ h => h) (Or.inl ⟨by rfl, ?hy3⟩) (by assumption) ?_
          case hy3 => (intro w' hSw; clear hSw; go_simp; try with_reducible rfl)
          try simp only [Act.put, List.setIfInBounds_toArray, List.set_cons_zero, List.set_cons_succ]
          refine wpAnyH_take (i := 4) (v := ?_) (by first | (simp only [List.getElem?_toArray, List.getElem?_cons_zero, List.getElem?_cons_succ]; done) | (simp only [List.getElem?_toArray, List.getElem?_cons_zero, List.getElem?_cons_succ]; rfl)) (by kernel_rfl) (by kernel_rfl) (by kernel_rfl) (by exact fun _ _ _ h => h) (Or.inl ⟨by rfl, ?hy4⟩) (by assumption) ?_
          case hy4 => (intro w' hSw; clear hSw; go_simp; try with_reducible rfl)
          try simp only [Act.put, List.setIfInBounds_toArray, List.set_cons_zero, List.set_cons_succ]
          refine wpAnyH_take (i := 5) (v := ?_) (by first | (simp only [List.getElem?_toArray, List.getElem?_cons_zero, List.getElem?_cons_succ]; done) | (simp only [List.getElem?_toArray, List.getElem?_cons_zero, List.getElem?_cons_succ]; rfl)) (by kernel_rfl) (by kernel_rfl) (by kernel_rfl) (by exact fun _ _ _ h => h) (Or.inl ⟨by rfl, ?hy5⟩) (by assumption) ?_
          case hy5 => (intro w' hSw; clear hSw; go_simp; try with_reducible rfl)
          try simp only [Act.put, List.setIfInBounds_toArray, List.set_cons_zero, List.set_cons_succ]
          refine wpAnyH_take (i := 6) (v := ?_) (by first | (simp only [List.getElem?_toArray, List.getElem?_cons_zero, List.getElem?_cons_succ]; done) | (simp only [List.getElem?_toArray, List.getElem?_cons_zero, List.getElem?_cons_succ]; rfl)) (by kernel_rfl) (by kernel_rfl) (by kernel_rfl) (by exact fun _ _ _ h => h) (Or.inl ⟨by rfl, ?hy6⟩) (by assumption) ?_
          case hy6 => (intro w' hSw; clear hSw; go_simp; try with_reducible rfl)
          try simp only [Act.put, List.setIfInBounds_toArray, List.set_cons_zero, List.set_cons_succ]
          refine wpAnyH_take (i := 7) (by first | (simp only [List.getElem?_toArray, List.getElem?_cons_zero, List.getElem?_cons_succ]; done) | (simp only [List.getElem?_toArray, List.getElem?_cons_zero, List.getElem?_cons_succ]; rfl)) (by kernel_rfl) (by kernel_rfl) (by kernel_rfl) (by exact fun _ _ _ h => h) (yieldsIf_load_mid (by rfl) _ _ rfl g (N1 * 8) rfl (bV (shB cd N1)) _ (fun w' hSw => hSw) Tryd.underlying48 rfl rfl) (by assumption) ?_
          try simp only [Act.put, List.setIfInBounds_toArray, List.set_cons_zero, List.set_cons_succ]
          refine wpAnyH_ready (rs := [0, 8]) (by kernel_rfl) (by simp) ?_
          refine AllReadyH.cons (by first | (simp only [List.getElem?_toArray, List.getElem?_cons_zero, List.getElem?_cons_succ]; done) | (simp only [List.getElem?_toArray, List.getElem?_cons_zero, List.getElem?_cons_succ]; rfl)) (fun K hK => ?_) ?_
          · skip
            rw [if_pos (by rfl)]
            refine wp_load_mid _ _ rfl As 0 rfl (sV (shS cd m)) _ (HBS.out.ext HX.out).range Tryd.underlying89 rfl rfl ?_
            refine hK.out _ _ (by (try dsimp only); exact HPR.out _ HX.out) (fun hHeld => ?_)
            clear hK K
            try simp only [Act.put, List.setIfInBounds_toArray, List.set_cons_zero, List.set_cons_succ]
            refine wpAnyH_ready (rs := [8]) (by kernel_rfl) (by simp) ?_
            refine AllReadyH.cons (by first | (simp only [List.getElem?_toArray, List.getElem?_cons_zero, List.getElem?_cons_succ]; done) | (simp only [List.getElem?_toArray, List.getElem?_cons_zero, List.getElem?_cons_succ]; rfl)) (fun K hK => ?_) ?_
            · skip
              go_simp
              refine (HD1.out _ (HE.out.tr HX.out)).mono ?_
              rintro e W6 ⟨rfl, hx⟩
              replace HX := Lib.hid (HX.out.tr hx)
              clear hx
              try (go_wp2_with fail)
              refine hK.out _ _ (by (try dsimp only); exact HPR.out _ HX.out) (fun hHeld => ?_)
              clear hK K
              try simp only [Act.put, List.setIfInBounds_toArray, List.set_cons_zero, List.set_cons_succ]
              refine wpAnyH_take (i := 9) (v := ?_) (by first | (simp only [List.getElem?_toArray, List.getElem?_cons_zero, List.getElem?_cons_succ]; done) | (simp only [List.getElem?_toArray, List.getElem?_cons_zero, List.getElem?_cons_succ]; rfl)) (by kernel_rfl) (by kernel_rfl) (by kernel_rfl) (by exact fun _ _ _ h => h) (Or.inl ⟨by rfl, ?hy9⟩) (by assumption) ?_
              case hy9 => (intro w' hSw; clear hSw; go_simp; try with_reducible rfl)
              try simp only [Act.put, List.setIfInBounds_toArray, List.set_cons_zero, List.set_cons_succ]
              refine wpAnyH_ready (rs := [10]) (by kernel_rfl) (by simp) ?_
              refine AllReadyH.cons (by first | (simp only [List.getElem?_toArray, List.getElem?_cons_zero, List.getElem?_cons_succ]; done) | (simp only [List.getElem?_toArray, List.getElem?_cons_zero, List.getElem?_cons_succ]; rfl)) (fun K hK => ?_) ?_
              · skip
                go_simp
                refine (HSW.out _ (HTR.out.ext HX.out)).mono ?_
                rintro e W7 ⟨rfl, hx⟩
                replace HX := Lib.hid (HX.out.tr hx)
                clear hx
                try (go_wp2_with fail)
                refine hK.out _ _ (by (try dsimp only); exact HPR.out _ HX.out) (fun hHeld => ?_)
                clear hK K
                try simp only [Act.put, List.setIfInBounds_toArray, List.set_cons_zero, List.set_cons_succ]
                refine wpAnyH_ready (rs := [11]) (by kernel_rfl) (by simp) ?_
                refine AllReadyH.cons (by first | (simp only [List.getElem?_toArray, List.getElem?_cons_zero, List.getElem?_cons_succ]; done) | (simp only [List.getElem?_toArray, List.getElem?_cons_zero, List.getElem?_cons_succ]; rfl)) (fun K hK => ?_) ?_
                · skip
                  rw [if_pos (by rfl)]
                  have hS7 := HBS.out.ext HX.out
                  have hth : W7.there As 0 7 := hS7.there
                  refine wp_store_mid _ _ _ rfl As 0 (sV ⟨2 + (k8 : Int), (N1 : Int), cd N1, 2 + (k8 : Int), cd m⟩).toArray rfl rfl hth rfl (all_oneCell_toArray (sV_one _)) ?_
                  rw [List.toList_toArray]
                  have hS8 : Blk (W7.setCells As 0 (sV ⟨2 + (k8 : Int), (N1 : Int), cd N1, 2 + (k8 : Int), cd m⟩)) As 89 (sV ⟨2 + (k8 : Int), (N1 : Int), cd N1, 2 + (k8 : Int), cd m⟩) := hS7.put rfl
                  have hT8 := Tr.setCellsS hAt hAm (sV ⟨2 + (k8 : Int), (N1 : Int), cd N1, 2 + (k8 : Int), cd m⟩) 0 _ (HTR.out.ext HX.out)
                  have hEw := Ext.setCells hwAs (sV ⟨2 + (k8 : Int), (N1 : Int), cd N1, 2 + (k8 : Int), cd m⟩) 0 _ (HE.out.tr HX.out)
                  have hr8 : (W7.setCells As 0 (sV ⟨2 + (k8 : Int), (N1 : Int), cd N1, 2 + (k8 : Int), cd m⟩)).rangeAt g (k8 * 8) (bV (shB cd k8)) := range_setCells hAg.symm _ _ _ (fun c v hc => HX.out.cell (HR2.out c v hc))
                  refine hK.out _ _ (by (try dsimp only); exact range_setCells hAg.symm _ _ _ (HPR.out _ HX.out)) (fun hHeld => ?_)
                  clear hK K hS7 hth
                  try simp only [Act.put, List.setIfInBounds_toArray, List.set_cons_zero, List.set_cons_succ]
                  generalize W7.setCells As 0 (sV ⟨2 + (k8 : Int), (N1 : Int), cd N1, 2 + (k8 : Int), cd m⟩) = W8 at *
                  refine wpAnyH_done (by kernel_rfl) ?_ _
                  clear hHeld
                  clear HX HPR HSW HD1
                  have hE8 := hEw
                  have c0 : ∀ x : ExtW W8, x.1.cell? ⟨As, 0, none⟩ = some (.int .i64 (2 + (k8 : Int))) := fun x => (hS8.ext x.2).cell rfl
                  have c1 : ∀ x : ExtW W8, x.1.cell? ⟨As, 1, none⟩ = some (.int .i64 (N1 : Int)) := fun x => (hS8.ext x.2).cell rfl
                  have c2 : ∀ x : ExtW W8, x.1.cell? ⟨As, 2, none⟩ = some (cU64 (cd N1)) := fun x => (hS8.ext x.2).cell rfl
                  have c4 : ∀ x : ExtW W8, x.1.cell? ⟨As, 4, none⟩ = some (.int .i64 (2 + (k8 : Int))) := fun x => (hS8.ext x.2).cell rfl
                  have HKg := Lib.hid (show ∀ w', (∃ x : ExtW W8, w' = x.1) → w'.rangeAt g (k8 * 8) (bV (shB cd k8)) from fun w' ⟨x, e⟩ c v hc => e ▸ x.2.cell (hr8 c v hc))
                  have XD := Lib.hid (fun x : ExtW W8 => HD2.out x.1 (hE8.tr x.2))
                  go_upto_region 27 with (fail)
                  refine wp_region_grow (by kernel_rfl) (by kernel_rfl) ?_
                  repeat (any_goals (first | (refine wpQuiet_load_mid _ _ rfl (by rfl) g (k8 * 8) (by rfl) (bV (shB cd k8)) _ HKg.out Tryd.underlying48 rfl rfl ?_; simp only [Act.put, List.setIfInBounds_toArray, List.set_cons_zero, List.set_cons_succ]) | (go_big_quiet_step (first | (go_at_call 21; exact grow_of (XD.out _))))))
                  refine wpQuiet_nil ?_
                  rintro W9 ⟨x, hx⟩
                  have hx9 : Ext W8 W9 := by rw [hx]; exact x.2
                  have HS9 := Lib.hid (hS8.ext hx9)
                  have HT9 := Lib.hid (hT8.ext hx9)
                  have HE9 := Lib.hid (hE8.tr hx9)
                  clear hx x XD HKg c0 c1 c2 c4 hS8 hT8 hE8 hEw hr8 hx9 HR2 HBS HTR HE HD2
                  clear HV HI
                  go_wp2_with fail
                  refine (b17_calls (1 + (v : Int)) 0 0 3 _).mono ?_
                  rintro e W10 ⟨rfl, hx⟩
                  go_upto_region 31 with (refine wpList_store_new rfl _ _ _ rfl _ _ (bV (mkB (1 + (v : Int)) 0 0 3)) rfl rfl rfl rfl (bV_one _) ?_; intro W11 hX11 hB11)
                  have hx11 := hx.tr hX11
                  have hS11 := HS9.out.ext hx11
                  have hT11 := HT9.out.ext hx11
                  have hE11 := HE9.out.tr hx11
                  have hAs9 := HS9.out.lt
                  have hm9 := HT9.out.mlt
                  have ht9 := HT9.out.lt
                  have hw9 := HE9.out.size
                  have hx9s := hx.size
                  have hle : w.heap.size ≤ W10.heap.size := by omega
                  have hFs : As ≠ W10.heap.size := by omega
                  have hFm : W10.heap.size ≠ mb := by omega
                  have hFt : W10.heap.size ≠ tb := by omega
                  clear hx hX11 hx11 HS9 HT9 HE9 hAs9 hm9 ht9 hw9 hx9s
                  generalize W10.heap.size = Af at *
                  have c2 : W11.cell? ⟨Af, 2, none⟩ = some (.int .i64 0) := hB11.cell rfl
                  have f2 := hB11.frozen 2
                  go_upto_region 32 with (fail)
                  have hB12 : Blk (W11.setCell ⟨Af, 2, none⟩ (.int .i64 (q : Int))) Af 48 (bV (shF v q)) := hB11.set 2 (.int .i64 (q : Int))
                  have hS12 := hS11.other (x := ⟨Af, 2, none⟩) hFs (.int .i64 (q : Int))
                  have hT12 := hT11.setCellS hFt hFm 2 (.int .i64 (q : Int))
                  have hE12 : Ext w (W11.setCell ⟨Af, 2, none⟩ (.int .i64 (q : Int))) := Below.setCell hE11 hle _
                  clear c2 f2 hB11 hS11 hT11 hE11
                  generalize W11.setCell ⟨Af, 2, none⟩ (.int .i64 (q : Int)) = W12 at *
                  go_wp2_with (refine wpList_load_row rfl _ _ rfl Af rfl 48 (bV (shF v q)).toArray (0, 0) _ hB12 Tryd.underlying48 rfl rfl ?_)
                  refine (HADF.out W12 hT12 hE12).mono ?_
                  rintro e W13 ⟨rfl, hT13, hg13⟩
                  have hB13 : Blk W13 Af 48 (bV (shF v q)) := hB12.grown hg13 (by simp; exact hFm)
                  have hS13 := hS12.grown hg13 (by simp; exact hAm)
                  have hE13 : Ext w W13 := Gr.below hE12 hg13 hwmb hE12.size
                  have hc2 : W13.cell? ⟨Af, 2, none⟩ = some (.int .i64 (q : Int)) := hB13.cell rfl
                  have hM := HMY.out W13 hT13 hE13
                  clear hB12 hS12 hT12 hE12 hg13 HADF HMY hT13
                  have HE := Lib.hid hE13
                  clear hE13
                  by_cases h1 : 1 + (v : Int) ≤ 2 + (k8 : Int)
                  · rw [show mayC true (decide (1 + (v : Int) ≤ 2 + (k8 : Int))) false (decide ((q : Int) ≤ (N1 : Int))) = 12 by simp [mayC, h1]] at hM
                    have HM := Lib.hid hM
                    clear hM
                    go_upto_region 39 with (fail)
                    go_wp2_with (first | (refine wpList_load_row rfl _ _ rfl As rfl 89 (sV ⟨2 + (k8 : Int), (N1 : Int), cd N1, 2 + (k8 : Int), cd m⟩).toArray (0, 0) _ hS13 Tryd.underlying89 rfl rfl ?_) | (refine wpList_load_row rfl _ _ rfl Af rfl 48 (bV (shF v q)).toArray (0, 0) _ hB13 Tryd.underlying48 rfl rfl ?_))
                    refine HM.out.mono ?_
                    rintro e W14 ⟨rfl, hx⟩
                    have HX := Lib.hid (HE.out.tr hx)
                    clear hx
                    go_wp2
                    go_ret
                    exact ⟨ret_bool (by first | rfl | simp), HX.out⟩
                  · by_cases h2 : (q : Int) ≤ (N1 : Int)
                    · rw [show mayC true (decide (1 + (v : Int) ≤ 2 + (k8 : Int))) false (decide ((q : Int) ≤ (N1 : Int))) = 13 by simp [mayC, h1, h2]] at hM
                      have HM := Lib.hid hM
                      clear hM
                      go_upto_region 39 with (fail)
                      go_wp2_with (first | (refine wpList_load_row rfl _ _ rfl As rfl 89 (sV ⟨2 + (k8 : Int), (N1 : Int), cd N1, 2 + (k8 : Int), cd m⟩).toArray (0, 0) _ hS13 Tryd.underlying89 rfl rfl ?_) | (refine wpList_load_row rfl _ _ rfl Af rfl 48 (bV (shF v q)).toArray (0, 0) _ hB13 Tryd.underlying48 rfl rfl ?_))
                      refine HM.out.mono ?_
                      rintro e W14 ⟨rfl, hx⟩
                      have HX := Lib.hid (HE.out.tr hx)
                      clear hx
                      go_wp2
                      go_ret
                      exact ⟨ret_bool (by first | rfl | simp), HX.out⟩
                    · rw [show mayC true (decide (1 + (v : Int) ≤ 2 + (k8 : Int))) false (decide ((q : Int) ≤ (N1 : Int))) = 0 by simp [mayC, h1, h2]] at hM
                      have HM := Lib.hid hM
                      clear hM
                      go_upto_region 39 with (fail)
                      go_wp2_with (first | (refine wpList_load_row rfl _ _ rfl As rfl 89 (sV ⟨2 + (k8 : Int), (N1 : Int), cd N1, 2 + (k8 : Int), cd m⟩).toArray (0, 0) _ hS13 Tryd.underlying89 rfl rfl ?_) | (refine wpList_load_row rfl _ _ rfl Af rfl 48 (bV (shF v q)).toArray (0, 0) _ hB13 Tryd.underlying48 rfl rfl ?_))
                      refine HM.out.mono ?_
                      rintro e W14 ⟨rfl, hx⟩
                      have HX := Lib.hid (HE.out.tr hx)
                      clear hx
                      go_wp2
                      go_ret
                      exact ⟨ret_bool (by first | rfl | simp), HX.out⟩
                exact AllReadyH.nil
              exact AllReadyH.nil
            exact AllReadyH.nil
          refine AllReadyH.cons (by first | (simp only [List.getElem?_toArray, List.getElem?_cons_zero, List.getElem?_cons_succ]; done) | (simp only [List.getElem?_toArray, List.getElem?_cons_zero, List.getElem?_cons_succ]; rfl)) (fun K hK => ?_) ?_
          · skip
            go_simp
            refine (HD1.out _ (HE.out.tr HX.out)).mono ?_
            rintro e W6 ⟨rfl, hx⟩
            replace HX := Lib.hid (HX.out.tr hx)
            clear hx
            try (go_wp2_with fail)
            refine hK.out _ _ (by (try dsimp only); exact HPR.out _ HX.out) (fun hHeld => ?_)
            clear hK K
            try simp only [Act.put, List.setIfInBounds_toArray, List.set_cons_zero, List.set_cons_succ]
            refine wpAnyH_take (i := 9) (v := ?_) (by first | (simp only [List.getElem?_toArray, List.getElem?_cons_zero, List.getElem?_cons_succ]; done) | (simp only [List.getElem?_toArray, List.getElem?_cons_zero, List.getElem?_cons_succ]; rfl)) (by kernel_rfl) (by kernel_rfl) (by kernel_rfl) (by exact fun _ _ _ h => h) (Or.inl ⟨by rfl, ?hy9⟩) (by assumption) ?_
            case hy9 => (intro w' hSw; clear hSw; go_simp; try with_reducible rfl)
            try simp only [Act.put, List.setIfInBounds_toArray, List.set_cons_zero, List.set_cons_succ]
            refine wpAnyH_ready (rs := [0]) (by kernel_rfl) (by simp) ?_
            refine AllReadyH.cons (by first | (simp only [List.getElem?_toArray, List.getElem?_cons_zero, List.getElem?_cons_succ]; done) | (simp only [List.getElem?_toArray, List.getElem?_cons_zero, List.getElem?_cons_succ]; rfl)) (fun K hK => ?_) ?_
            · skip
              rw [if_pos (by rfl)]
              refine wp_load_mid _ _ rfl As 0 rfl (sV (shS cd m)) _ (HBS.out.ext HX.out).range Tryd.underlying89 rfl rfl ?_
              refine hK.out _ _ (by (try dsimp only); exact HPR.out _ HX.out) (fun hHeld => ?_)
              clear hK K
              try simp only [Act.put, List.setIfInBounds_toArray, List.set_cons_zero, List.set_cons_succ]
              refine wpAnyH_ready (rs := [10]) (by kernel_rfl) (by simp) ?_
              refine AllReadyH.cons (by first | (simp only [List.getElem?_toArray, List.getElem?_cons_zero, List.getElem?_cons_succ]; done) | (simp only [List.getElem?_toArray, List.getElem?_cons_zero, List.getElem?_cons_succ]; rfl)) (fun K hK => ?_) ?_
              · skip
                go_simp
                refine (HSW.out _ (HTR.out.ext HX.out)).mono ?_
                rintro e W7 ⟨rfl, hx⟩
                replace HX := Lib.hid (HX.out.tr hx)
                clear hx
                try (go_wp2_with fail)
                refine hK.out _ _ (by (try dsimp only); exact HPR.out _ HX.out) (fun hHeld => ?_)
                clear hK K
                try simp only [Act.put, List.setIfInBounds_toArray, List.set_cons_zero, List.set_cons_succ]
                refine wpAnyH_ready (rs := [11]) (by kernel_rfl) (by simp) ?_
                refine AllReadyH.cons (by first | (simp only [List.getElem?_toArray, List.getElem?_cons_zero, List.getElem?_cons_succ]; done) | (simp only [List.getElem?_toArray, List.getElem?_cons_zero, List.getElem?_cons_succ]; rfl)) (fun K hK => ?_) ?_
                · skip
                  rw [if_pos (by rfl)]
                  have hS7 := HBS.out.ext HX.out
                  have hth : W7.there As 0 7 := hS7.there
                  refine wp_store_mid _ _ _ rfl As 0 (sV ⟨2 + (k8 : Int), (N1 : Int), cd N1, 2 + (k8 : Int), cd m⟩).toArray rfl rfl hth rfl (all_oneCell_toArray (sV_one _)) ?_
                  rw [List.toList_toArray]
                  have hS8 : Blk (W7.setCells As 0 (sV ⟨2 + (k8 : Int), (N1 : Int), cd N1, 2 + (k8 : Int), cd m⟩)) As 89 (sV ⟨2 + (k8 : Int), (N1 : Int), cd N1, 2 + (k8 : Int), cd m⟩) := hS7.put rfl
                  have hT8 := Tr.setCellsS hAt hAm (sV ⟨2 + (k8 : Int), (N1 : Int), cd N1, 2 + (k8 : Int), cd m⟩) 0 _ (HTR.out.ext HX.out)
                  have hEw := Ext.setCells hwAs (sV ⟨2 + (k8 : Int), (N1 : Int), cd N1, 2 + (k8 : Int), cd m⟩) 0 _ (HE.out.tr HX.out)
                  have hr8 : (W7.setCells As 0 (sV ⟨2 + (k8 : Int), (N1 : Int), cd N1, 2 + (k8 : Int), cd m⟩)).rangeAt g (k8 * 8) (bV (shB cd k8)) := range_setCells hAg.symm _ _ _ (fun c v hc => HX.out.cell (HR2.out c v hc))
                  refine hK.out _ _ (by (try dsimp only); exact range_setCells hAg.symm _ _ _ (HPR.out _ HX.out)) (fun hHeld => ?_)
                  clear hK K hS7 hth
                  try simp only [Act.put, List.setIfInBounds_toArray, List.set_cons_zero, List.set_cons_succ]
                  generalize W7.setCells As 0 (sV ⟨2 + (k8 : Int), (N1 : Int), cd N1, 2 + (k8 : Int), cd m⟩) = W8 at *
                  refine wpAnyH_done (by kernel_rfl) ?_ _
                  clear hHeld
                  clear HX HPR HSW HD1
                  have hE8 := hEw
                  have c0 : ∀ x : ExtW W8, x.1.cell? ⟨As, 0, none⟩ = some (.int .i64 (2 + (k8 : Int))) := fun x => (hS8.ext x.2).cell rfl
                  have c1 : ∀ x : ExtW W8, x.1.cell? ⟨As, 1, none⟩ = some (.int .i64 (N1 : Int)) := fun x => (hS8.ext x.2).cell rfl
                  have c2 : ∀ x : ExtW W8, x.1.cell? ⟨As, 2, none⟩ = some (cU64 (cd N1)) := fun x => (hS8.ext x.2).cell rfl
                  have c4 : ∀ x : ExtW W8, x.1.cell? ⟨As, 4, none⟩ = some (.int .i64 (2 + (k8 : Int))) := fun x => (hS8.ext x.2).cell rfl
                  have HKg := Lib.hid (show ∀ w', (∃ x : ExtW W8, w' = x.1) → w'.rangeAt g (k8 * 8) (bV (shB cd k8)) from fun w' ⟨x, e⟩ c v hc => e ▸ x.2.cell (hr8 c v hc))
                  have XD := Lib.hid (fun x : ExtW W8 => HD2.out x.1 (hE8.tr x.2))
                  go_upto_region 27 with (fail)
                  refine wp_region_grow (by kernel_rfl) (by kernel_rfl) ?_
                  repeat (any_goals (first | (refine wpQuiet_load_mid _ _ rfl (by rfl) g (k8 * 8) (by rfl) (bV (shB cd k8)) _ HKg.out Tryd.underlying48 rfl rfl ?_; simp only [Act.put, List.setIfInBounds_toArray, List.set_cons_zero, List.set_cons_succ]) | (go_big_quiet_step (first | (go_at_call 21; exact grow_of (XD.out _))))))
                  refine wpQuiet_nil ?_
                  rintro W9 ⟨x, hx⟩
                  have hx9 : Ext W8 W9 := by rw [hx]; exact x.2
                  have HS9 := Lib.hid (hS8.ext hx9)
                  have HT9 := Lib.hid (hT8.ext hx9)
                  have HE9 := Lib.hid (hE8.tr hx9)
                  clear hx x XD HKg c0 c1 c2 c4 hS8 hT8 hE8 hEw hr8 hx9 HR2 HBS HTR HE HD2
                  clear HV HI
                  go_wp2_with fail
                  refine (b17_calls (1 + (v : Int)) 0 0 3 _).mono ?_
                  rintro e W10 ⟨rfl, hx⟩
                  go_upto_region 31 with (refine wpList_store_new rfl _ _ _ rfl _ _ (bV (mkB (1 + (v : Int)) 0 0 3)) rfl rfl rfl rfl (bV_one _) ?_; intro W11 hX11 hB11)
                  have hx11 := hx.tr hX11
                  have hS11 := HS9.out.ext hx11
                  have hT11 := HT9.out.ext hx11
                  have hE11 := HE9.out.tr hx11
                  have hAs9 := HS9.out.lt
                  have hm9 := HT9.out.mlt
                  have ht9 := HT9.out.lt
                  have hw9 := HE9.out.size
                  have hx9s := hx.size
                  have hle : w.heap.size ≤ W10.heap.size := by omega
                  have hFs : As ≠ W10.heap.size := by omega
                  have hFm : W10.heap.size ≠ mb := by omega
                  have hFt : W10.heap.size ≠ tb := by omega
                  clear hx hX11 hx11 HS9 HT9 HE9 hAs9 hm9 ht9 hw9 hx9s
                  generalize W10.heap.size = Af at *
                  have c2 : W11.cell? ⟨Af, 2, none⟩ = some (.int .i64 0) := hB11.cell rfl
                  have f2 := hB11.frozen 2
                  go_upto_region 32 with (fail)
                  have hB12 : Blk (W11.setCell ⟨Af, 2, none⟩ (.int .i64 (q : Int))) Af 48 (bV (shF v q)) := hB11.set 2 (.int .i64 (q : Int))
                  have hS12 := hS11.other (x := ⟨Af, 2, none⟩) hFs (.int .i64 (q : Int))
                  have hT12 := hT11.setCellS hFt hFm 2 (.int .i64 (q : Int))
                  have hE12 : Ext w (W11.setCell ⟨Af, 2, none⟩ (.int .i64 (q : Int))) := Below.setCell hE11 hle _
                  clear c2 f2 hB11 hS11 hT11 hE11
                  generalize W11.setCell ⟨Af, 2, none⟩ (.int .i64 (q : Int)) = W12 at *
                  go_wp2_with (refine wpList_load_row rfl _ _ rfl Af rfl 48 (bV (shF v q)).toArray (0, 0) _ hB12 Tryd.underlying48 rfl rfl ?_)
                  refine (HADF.out W12 hT12 hE12).mono ?_
                  rintro e W13 ⟨rfl, hT13, hg13⟩
                  have hB13 : Blk W13 Af 48 (bV (shF v q)) := hB12.grown hg13 (by simp; exact hFm)
                  have hS13 := hS12.grown hg13 (by simp; exact hAm)
                  have hE13 : Ext w W13 := Gr.below hE12 hg13 hwmb hE12.size
                  have hc2 : W13.cell? ⟨Af, 2, none⟩ = some (.int .i64 (q : Int)) := hB13.cell rfl
                  have hM := HMY.out W13 hT13 hE13
                  clear hB12 hS12 hT12 hE12 hg13 HADF HMY hT13
                  have HE := Lib.hid hE13
                  clear hE13
                  by_cases h1 : 1 + (v : Int) ≤ 2 + (k8 : Int)
                  · rw [show mayC true (decide (1 + (v : Int) ≤ 2 + (k8 : Int))) false (decide ((q : Int) ≤ (N1 : Int))) = 12 by simp [mayC, h1]] at hM
                    have HM := Lib.hid hM
                    clear hM
                    go_upto_region 39 with (fail)
                    go_wp2_with (first | (refine wpList_load_row rfl _ _ rfl As rfl 89 (sV ⟨2 + (k8 : Int), (N1 : Int), cd N1, 2 + (k8 : Int), cd m⟩).toArray (0, 0) _ hS13 Tryd.underlying89 rfl rfl ?_) | (refine wpList_load_row rfl _ _ rfl Af rfl 48 (bV (shF v q)).toArray (0, 0) _ hB13 Tryd.underlying48 rfl rfl ?_))
                    refine HM.out.mono ?_
                    rintro e W14 ⟨rfl, hx⟩
                    have HX := Lib.hid (HE.out.tr hx)
                    clear hx
                    go_wp2
                    go_ret
                    exact ⟨ret_bool (by first | rfl | simp), HX.out⟩
                  · by_cases h2 : (q : Int) ≤ (N1 : Int)
                    · rw [show mayC true (decide (1 + (v : Int) ≤ 2 + (k8 : Int))) false (decide ((q : Int) ≤ (N1 : Int))) = 13 by simp [mayC, h1, h2]] at hM
                      have HM := Lib.hid hM
                      clear hM
                      go_upto_region 39 with (fail)
                      go_wp2_with (first | (refine wpList_load_row rfl _ _ rfl As rfl 89 (sV ⟨2 + (k8 : Int), (N1 : Int), cd N1, 2 + (k8 : Int), cd m⟩).toArray (0, 0) _ hS13 Tryd.underlying89 rfl rfl ?_) | (refine wpList_load_row rfl _ _ rfl Af rfl 48 (bV (shF v q)).toArray (0, 0) _ hB13 Tryd.underlying48 rfl rfl ?_))
                      refine HM.out.mono ?_
                      rintro e W14 ⟨rfl, hx⟩
                      have HX := Lib.hid (HE.out.tr hx)
                      clear hx
                      go_wp2
                      go_ret
                      exact ⟨ret_bool (by first | rfl | simp), HX.out⟩
                    · rw [show mayC true (decide (1 + (v : Int) ≤ 2 + (k8 : Int))) false (decide ((q : Int) ≤ (N1 : Int))) = 0 by simp [mayC, h1, h2]] at hM
                      have HM := Lib.hid hM
                      clear hM
                      go_upto_region 39 with (fail)
                      go_wp2_with (first | (refine wpList_load_row rfl _ _ rfl As rfl 89 (sV ⟨2 + (k8 : Int), (N1 : Int), cd N1, 2 + (k8 : Int), cd m⟩).toArray (0, 0) _ hS13 Tryd.underlying89 rfl rfl ?_) | (refine wpList_load_row rfl _ _ rfl Af rfl 48 (bV (shF v q)).toArray (0, 0) _ hB13 Tryd.underlying48 rfl rfl ?_))
                      refine HM.out.mono ?_
                      rintro e W14 ⟨rfl, hx⟩
                      have HX := Lib.hid (HE.out.tr hx)
                      clear hx
                      go_wp2
                      go_ret
                      exact ⟨ret_bool (by first | rfl | simp), HX.out⟩
                exact AllReadyH.nil
              exact AllReadyH.nil
            exact AllReadyH.nil
          exact AllReadyH.nil
theorem safeHolds_walk' {w : World} (n : Int) (wn : (Lit.int .u8 n).wf = true) (a : Int) (wa : (Lit.int .u8 a).wf = true) (b : Int) (wb : (Lit.int .u8 b).wf = true) (ht : TOk w) :
    Calls Tryd.prog 7 #[.int .u8 n, .int .u8 a, .int .u8 b] w fun e w' => e = .returned (.bool true) ∧ Ext w w' :=
  holds_walk n a b (bounds_u8 wn) (bounds_u8 wa) (bounds_u8 wb) w ht
end Go.Proofs.YtilengooiffikaaDoor
