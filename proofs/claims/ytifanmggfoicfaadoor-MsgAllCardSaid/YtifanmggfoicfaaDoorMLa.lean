/- The law MsgAll. -/
import Derived.Test.YtifanmggfoicfaaDoorMKn
import Derived.Test.YtifanmggfoicfaaDoorBkKn
import Derived.Test.YtifanmggfoicfaaDoorWText9
import Derived.Test.YtifanmggfoicfaaDoorTok
set_option linter.unusedVariables false
set_option linter.unusedSimpArgs false
namespace Go.Proofs.YtifanmggfoicfaaDoor
open Go.RowKit
theorem wpQuiet_load_mid {P : Program} {ops : Array Oper} {C : World → Prop} {Q : Act → Prop} {a : Act} {o : Oper} {rest : List Oper} (ty : TypeId) (x : Operand) (ho : o.op = .load ty x) (hw : Region.wanted o (yielded ops a.tmps) = true) (B k : Nat) (hx : a.eval x = .pointer (some ⟨B, k, none⟩))
    (L : List Value) (d : TypeDesc) (hC : ∀ w, C w → w.rangeAt B k L) (hu : P.underlying ty = some d) (hd : d.isRow = true) (hi : (P.info? ty).map (·.size) = some L.length)
    (h : wpQuiet P ops C Q rest (a.put o.dst (.agg L.toArray))) : wpQuiet P ops C Q (o :: rest) a :=
  BigFrame.wpQuiet_want hw fun K hK => ⟨.agg L.toArray, fun w hc => by
    unfold Oper.quietAt execOp
    simp only [ho, hx, Instr.loadAt, Instr.sureAddr, Sem.run_bind, Sem.run_pure, Result.andThen_ok, run_loadVar_mid w B k ty L d (hC w hc) hu hd hi]
    exact ⟨rfl, rfl⟩, hK _ h⟩
theorem mZ (k f t c n x y a lo hi : Int) (ch : Value) : Tryd.zeroCells55.size = (mL k f t c n x y a lo hi ch).length := by
  rw [mL_len]
  kernel_rfl
theorem own_cells0 {w : World} {B s : Nat} {e : TypeId} {v : Value} {n : Nat} {xs : List Value} (h : w.ownsRow B e s v n xs) : ∃ A c, v = .slice A n c ∧ (n ≠ 0 → ∃ g, A = some ⟨g, 0, none⟩ ∧ ∀ j u, xs[j]? = some u → w.cell? ⟨g, j, none⟩ = some u) := by
  by_cases hn : n = 0
  · rcases h.2 with ⟨rfl, h0⟩ | ⟨g, cap, cur, rfl, _⟩
    · exact ⟨none, 0, by rw [hn], fun h => absurd hn h⟩
    · exact ⟨_, _, rfl, fun h => absurd hn h⟩
  · obtain ⟨g, c, rfl, _, _, hc⟩ := own_cellsM h hn
    exact ⟨_, _, rfl, fun _ => ⟨g, rfl, hc⟩⟩
theorem mQ_ex (a n : Int) : ∃ L, L = mL a 99 98 1 n 2 3 4 3 4 (.slice none 0 0) := ⟨_, rfl⟩
/-- The message of the law, closed. -/
noncomputable def mQ (a n : Int) : List Value := Classical.choose (mQ_ex a n)
theorem mQ_eq (a n : Int) : mQ a n = mL a 99 98 1 n 2 3 4 3 4 (.slice none 0 0) := Classical.choose_spec (mQ_ex a n)
theorem mQ_built (a n : Int) : Tryd.prog.built 55 [(0, .int .i64 a), (1, .int .i64 99), (2, .int .i64 98), (3, .agg (vCmd 1 n 2 3 4).toArray), (7, .int .i64 3), (8, .int .i64 4)] = some (mQ a n).toArray := by
  rw [mQ_eq]
  kernel_rfl
theorem wpList_buildV {P : Program} {ops : Array Oper} {rest : List Oper} {o : Oper} {a : Act} {w : World} {Q : Exit → Act → World → Prop} (hg : o.guard = none) (t : TypeId) (parts : Array (Nat × Operand)) (ho : o.op = .build t parts) (ps : List (Nat × Value)) (c : Array Value)
    (hp : (parts.map fun (i, x) => (i, a.eval x)).toList = ps) (hb : P.built t ps = some c) (h : wpList P ops Q rest (a.put o.dst (.agg c)) w) : wpList P ops Q (o :: rest) a w :=
  wpList_build hg t parts ho (by rw [hp, hb]; rfl) (by rw [hp, hb]; exact h)
theorem mQ_size (a n : Int) : (Tryd.prog.info? 55).map (·.size) = some (mQ a n).length := by rw [mQ_eq]; exact mSizeL _ _ _ _ _ _ _ _ _ _ _
theorem mQ_one (a n : Int) : ∀ v ∈ mQ a n, v.oneCell' = true := by rw [mQ_eq]; exact mL_one _ _ _ _ _ _ _ _ _ _
theorem mQ_z (a n : Int) : Tryd.zeroCells55.size = (mQ a n).length := by rw [mQ_eq]; kernel_rfl
set_option maxRecDepth 100000 in
set_option maxHeartbeats 2000000 in
theorem all_walk (n fr kd nc : Int) (hn0 : 0 ≤ n ∧ n ≤ 255) (hf0 : 0 ≤ fr ∧ fr ≤ 255) (hk0 : 0 ≤ kd ∧ kd ≤ 255) (hc0 : 0 ≤ nc ∧ nc ≤ 255) (w : World) (ht : TOk w) :
    Calls Tryd.prog 3 #[.int .u8 n, .int .u8 fr, .int .u8 kd, .int .u8 nc] w fun e w' => e = .returned (.bool true) ∧ Ext w w' := by
  have HT := Lib.hid (show ∀ W, Ext w W → TOk W from fun W hx => ht.ext hx)
  clear ht
  obtain ⟨K, hK, hKn⟩ : ∃ K : Nat, K ≤ 11 ∧ n % 12 = (K : Int) := ⟨(n % 12).toNat, by omega, by omega⟩
  obtain ⟨q, hq1, hq9, hqn⟩ : ∃ q : Int, 1 ≤ q ∧ q ≤ 9 ∧ 1 + kd % 9 = q := ⟨1 + kd % 9, by omega, by omega, rfl⟩
  have hI5 : I5 1 nc 2 3 4 := by refine ⟨?_, ?_, ?_, ?_, ?_⟩ <;> (unfold I64; omega)
  go_enter Tryd.func3, Tryd.ntmps3
  go_wp2_with fail
  refine (known22_calls w).mono ?_
  rintro e w0 ⟨rfl, hx⟩
  have HX := Lib.hid hx
  clear hx
  go_wp2_with fail
  refine (c12_calls nc w0).mono ?_
  rintro e w1 ⟨rfl, hx⟩
  replace HX := Lib.hid (HX.out.tr hx)
  clear hx
  go_simp
  go_step
  refine wpList_buildV rfl 55 _ rfl [(0, .int .i64 q), (1, .int .i64 99), (2, .int .i64 98), (3, .agg (vCmd 1 nc 2 3 4).toArray), (7, .int .i64 3), (8, .int .i64 4)] (mQ q nc).toArray (by simp only [List.map_toArray, List.map_cons, List.map_nil]; rfl) (mQ_built q nc) ?_
  go_wp2_with (first
    | (refine wpList_store_new rfl _ _ _ rfl _ _ (mQ q nc) rfl rfl (mQ_z _ _) (mQ_size _ _) (mQ_one _ _) ?_; intro W2 hX hB; replace HX := Lib.hid (HX.out.tr hX); have HB0 := Lib.hid (show Blk W2 w1.heap.size 55 (mL q 99 98 1 nc 2 3 4 3 4 (.slice none 0 0)) by rw [← mQ_eq]; exact hB); clear hX hB; generalize w1.heap.size = A at *)
    | (refine wpList_load_row rfl _ _ rfl A rfl 55 (mL q 99 98 1 nc 2 3 4 3 4 (.slice none 0 0)).toArray (0, 0) _ HB0.out Tryd.underlying55 rfl (mSize _ _ _ _ _ _ _ _ _ _ _) ?_))
  refine (all_calls q 99 98 1 nc 2 3 4 3 4 fr K (by omega) _).mono ?_
  rintro e w3 ⟨⟨v, rfl, ho⟩, hx⟩
  obtain ⟨B, cp, rfl, hcell⟩ := own_cells0 ho
  have HC := Lib.hid hcell
  have HX3 := Lib.hid (HX.out.tr hx)
  have HB3 := Lib.hid (HB0.out.ext hx)
  clear ho hcell HX hx HB0
  go_wp2
  go_loopw [12] (fun i wr => ∃ j : Nat, j ≤ K ∧ i = .int .i64 j ∧ Ext w3 wr) (fun i _ => K - (intOf i).toNat)
  case atStart => exact ⟨0, by omega, rfl, Ext.rfl' _⟩
  case round =>
    obtain ⟨j, hj, rfl, hE⟩ := hrel
    by_cases hlt : j < K
    · obtain ⟨g, rfl, hg⟩ := HC.out (by omega)
      have HR := Lib.hid (show wr.rangeAt g (j * 147) (mL q fr j 1 nc 2 3 4 3 4 (.slice none 0 0)) from fun c u hu => hE.cell (hg _ _ (mCs_at (fun j => mL q fr j 1 nc 2 3 4 3 4 (.slice none 0 0)) 147 (fun j => mL_len _ _ _ _ _ _ _ _ _ _ _) K j hlt c u hu)))
      have HBA := Lib.hid (HB3.out.ext hE)
      have HE := Lib.hid hE
      have hck : ∃ (C : Int) (b : Bool), (∀ W, Calls Tryd.prog 11 #[.agg (mL q fr j 1 nc 2 3 4 3 4 (.slice none 0 0)).toArray, .int .i64 K] W fun e w' => e = .returned (.int .i64 C) ∧ Ext W w') ∧ (C == 0) = b ∧ decide (fr ≤ (K : Int)) = b := by
        have e1 : inM q 1 9 = true := decide_eq_true ⟨hq1, hq9⟩
        have e3 : inM j 0 K = true := decide_eq_true ⟨by omega, by omega⟩
        by_cases h : fr ≤ (K : Int)
        · have e2 : inM fr 0 K = true := decide_eq_true ⟨hf0.1, h⟩
          refine ⟨0, true, fun W => ?_, rfl, decide_eq_true h⟩
          have hc := check22_calls q fr j 1 nc 2 3 4 3 4 none 0 0 K W
          rw [show codeM q fr j K 0 = 0 from by simp [codeM, e1, e2, e3]] at hc
          exact hc
        · have e2 : inM fr 0 K = false := decide_eq_false (fun hh => h hh.2)
          refine ⟨1, false, fun W => ?_, rfl, decide_eq_false h⟩
          have hc := check22_calls q fr j 1 nc 2 3 4 3 4 none 0 0 K W
          rw [show codeM q fr j K 0 = 1 from by simp [codeM, e1, e2, e3]] at hc
          exact hc
      obtain ⟨C, b, hck, hC0, hC1⟩ := hck
      have HCK := Lib.hid hck
      clear hE hg hck HC
      go_upto_region 12 with (first
        | (refine wpList_load_midw (by rfl) _ _ rfl g (j * 147) rfl (mL q fr j 1 nc 2 3 4 3 4 (.slice none 0 0)) _ HR.out Tryd.underlying55 rfl (mSizeL _ _ _ _ _ _ _ _ _ _ _) ?_)
        | (refine wpList_store_new rfl _ _ _ rfl _ _ (mL q fr j 1 nc 2 3 4 3 4 (.slice none 0 0)) rfl rfl (mZ _ _ _ _ _ _ _ _ _ _ _) (mSizeL _ _ _ _ _ _ _ _ _ _ _) (mL_one _ _ _ _ _ _ _ _ _ _) ?_; intro W4 hX4 hB4))
      have c0 : W4.cell? ⟨wr.heap.size, 0, none⟩ = some (.int .i64 q) := hB4.cell rfl
      have c1 : W4.cell? ⟨wr.heap.size, 1, none⟩ = some (.int .i64 fr) := hB4.cell rfl
      have c2 : W4.cell? ⟨wr.heap.size, 2, none⟩ = some (.int .i64 j) := hB4.cell rfl
      have c61 : W4.cell? ⟨wr.heap.size, 61, none⟩ = some (.int .i64 3) := hB4.cell rfl
      have c62 : W4.cell? ⟨wr.heap.size, 62, none⟩ = some (.int .i64 4) := hB4.cell rfl
      have a0 : W4.cell? ⟨A, 0, none⟩ = some (.int .i64 q) := (HBA.out.ext hX4).cell rfl
      have hq := vcmd_eq 1 nc 2 3 4
      have HB4 := Lib.hid hB4
      have HE4 := Lib.hid (HE.out.tr hX4)
      have HA4 := Lib.hid (HBA.out.ext hX4)
      clear hB4 hX4
      go_wp2_with (first
        | (refine wpList_load_midw (by rfl) _ _ rfl wr.heap.size 3 rfl (vCmd 1 nc 2 3 4) _ (HB4.out.sub 3 _ (mL_p3 _ _ _ _ _ _ _ _ _ _ _)) Tryd.underlying24 rfl rfl ?_)
        | (refine wpList_load_midw (by rfl) _ _ rfl A 3 rfl (vCmd 1 nc 2 3 4) _ (HA4.out.sub 3 _ (mL_p3 _ _ _ _ _ _ _ _ _ _ _)) Tryd.underlying24 rfl rfl ?_)
        | (refine wpList_load_midw (by rfl) _ _ rfl wr.heap.size 0 rfl (mL q fr j 1 nc 2 3 4 3 4 (.slice none 0 0)) _ HB4.out.range Tryd.underlying55 rfl (mSizeL _ _ _ _ _ _ _ _ _ _ _) ?_))
      refine (HCK.out W4).mono ?_
      rintro e w5 ⟨rfl, hx5⟩
      have HE5 := Lib.hid (HE4.out.tr hx5)
      have HB5 := Lib.hid (HB4.out.ext hx5)
      have HA5 := Lib.hid (HA4.out.ext hx5)
      clear hx5 c0 c1 c2 c61 c62 a0
      generalize wr.heap.size = D at *
      go_upto_region 15 with (first
        | (refine wpList_load_row rfl _ _ rfl A rfl 55 (mL q 99 98 1 nc 2 3 4 3 4 (.slice none 0 0)).toArray (0, 0) _ HA5.out Tryd.underlying55 rfl (mSize _ _ _ _ _ _ _ _ _ _ _) ?_)
        | (refine wpList_store_new rfl _ _ _ rfl _ _ (mL q 99 98 1 nc 2 3 4 3 4 (.slice none 0 0)) rfl rfl (mZ _ _ _ _ _ _ _ _ _ _ _) (mSizeL _ _ _ _ _ _ _ _ _ _ _) (mL_one _ _ _ _ _ _ _ _ _ _) ?_; intro W6 hX6 hB6))
      have d1 : W6.cell? ⟨w5.heap.size, 1, none⟩ = some (.int .i64 99) := hB6.cell rfl
      have d2 : W6.cell? ⟨w5.heap.size, 2, none⟩ = some (.int .i64 98) := hB6.cell rfl
      have f1 := hB6.frozen 1
      have f2 := hB6.frozen 2
      have hb7 : Blk ((W6.setCell ⟨w5.heap.size, 1, none⟩ (.int .i64 fr)).setCell ⟨w5.heap.size, 2, none⟩ (.int .i64 j)) w5.heap.size 55 (mL q fr j 1 nc 2 3 4 3 4 (.slice none 0 0)) := (hB6.set 1 (.int .i64 fr)).set 2 (.int .i64 j)
      have he7 : Ext w5 ((W6.setCell ⟨w5.heap.size, 1, none⟩ (.int .i64 fr)).setCell ⟨w5.heap.size, 2, none⟩ (.int .i64 j)) := Below.setCell (Below.setCell hX6 (Nat.le_refl _) _) (Nat.le_refl _) _
      have HB7 := Lib.hid hb7
      have HE7 := Lib.hid he7
      clear hb7 he7 hB6 hX6
      go_upto_region 16 with (fail)
      generalize (W6.setCell ⟨w5.heap.size, 1, none⟩ (.int .i64 fr)).setCell ⟨w5.heap.size, 2, none⟩ (.int .i64 j) = W7 at *
      generalize w5.heap.size = G at *
      clear d1 d2 f1 f2
      have HZ7 := Lib.hid (HE5.out.tr HE7.out)
      have XS := Lib.hid (fun x : ExtW W7 => same22_yes q fr j 1 nc 2 3 4 3 4 x.1)
      have htx : ∃ tx, ∀ x : ExtW W7, Calls Tryd.prog 13 #[.agg (vCmd 1 nc 2 3 4).toArray] x.1 fun e w' => e = .returned (.string tx) ∧ Ext x.1 w' :=
        ⟨_, fun x => ctext_calls 1 nc 2 3 4 hI5 x.1 (HT.out _ ((HX3.out.tr HZ7.out).tr x.2)).tab⟩
      obtain ⟨tx, htx⟩ := htx
      have XT := Lib.hid htx
      clear htx
      have HKD := Lib.hid (show ∀ w', (∃ x : ExtW W7, w' = x.1) → Blk w' D 55 (mL q fr j 1 nc 2 3 4 3 4 (.slice none 0 0)) from fun w' ⟨x, e⟩ => e ▸ (HB5.out.ext HE7.out).ext x.2)
      have HKG := Lib.hid (show ∀ w', (∃ x : ExtW W7, w' = x.1) → Blk w' G 55 (mL q fr j 1 nc 2 3 4 3 4 (.slice none 0 0)) from fun w' ⟨x, e⟩ => e ▸ HB7.out.ext x.2)
      have HKA := Lib.hid (show ∀ w', (∃ x : ExtW W7, w' = x.1) → Blk w' A 55 (mL q 99 98 1 nc 2 3 4 3 4 (.slice none 0 0)) from fun w' ⟨x, e⟩ => e ▸ (HA5.out.ext HE7.out).ext x.2)
      refine wp_region_grow (by kernel_rfl) (by kernel_rfl) ?_
      repeat (any_goals (first
        | (refine wpQuiet_load _ _ rfl (by rfl) D (by rfl) 55 (mL q fr j 1 nc 2 3 4 3 4 (.slice none 0 0)) _ HKD.out Tryd.underlying55 rfl (mSizeL _ _ _ _ _ _ _ _ _ _ _) ?_; simp only [Act.put, List.setIfInBounds_toArray, List.set_cons_zero, List.set_cons_succ])
        | (refine wpQuiet_load _ _ rfl (by rfl) G (by rfl) 55 (mL q fr j 1 nc 2 3 4 3 4 (.slice none 0 0)) _ HKG.out Tryd.underlying55 rfl (mSizeL _ _ _ _ _ _ _ _ _ _ _) ?_; simp only [Act.put, List.setIfInBounds_toArray, List.set_cons_zero, List.set_cons_succ])
        | (refine wpQuiet_load_mid _ _ rfl (by rfl) D 3 (by rfl) (vCmd 1 nc 2 3 4) _ (fun w' hc => (HKD.out w' hc).sub 3 _ (mL_p3 _ _ _ _ _ _ _ _ _ _ _)) Tryd.underlying24 rfl rfl ?_; simp only [Act.put, List.setIfInBounds_toArray, List.set_cons_zero, List.set_cons_succ])
        | (refine wpQuiet_load_mid _ _ rfl (by rfl) A 3 (by rfl) (vCmd 1 nc 2 3 4) _ (fun w' hc => (HKA.out w' hc).sub 3 _ (mL_p3 _ _ _ _ _ _ _ _ _ _ _)) Tryd.underlying24 rfl rfl ?_; simp only [Act.put, List.setIfInBounds_toArray, List.set_cons_zero, List.set_cons_succ])
        | (go_big_quiet_step (first | (go_at_call 12; exact grow_of (XS.out _)) | (go_at_call 13; exact grow_of (XT.out _))))))
      refine wpQuiet_nil ?_
      rintro _ ⟨⟨w8, hx8⟩, rfl⟩
      have HZ8 := Lib.hid (HZ7.out.tr hx8)
      clear hx8
      go_wp2
      go_roundw
      case rel => exact ⟨j + 1, hlt, by go_num, HZ8.out⟩
      case measure => simp [intOf]; omega
    · have HE := Lib.hid hE
      clear hE
      obtain rfl : j = K := by omega
      go_wp2
      go_ret
      exact ⟨ret_bool (by first | rfl | simp), HX3.out.tr HE.out⟩
theorem msgAll_walk' {w : World} (n : Int) (wn : (Lit.int .u8 n).wf = true) (fr : Int) (wf : (Lit.int .u8 fr).wf = true) (kd : Int) (wk : (Lit.int .u8 kd).wf = true) (nc : Int) (wc : (Lit.int .u8 nc).wf = true) (ht : TOk w) :
    Calls Tryd.prog 3 #[.int .u8 n, .int .u8 fr, .int .u8 kd, .int .u8 nc] w fun e w' => e = .returned (.bool true) ∧ Ext w w' :=
  all_walk n fr kd nc (bounds_u8 wn) (bounds_u8 wf) (bounds_u8 wk) (bounds_u8 wc) w ht
end Go.Proofs.YtifanmggfoicfaaDoor
