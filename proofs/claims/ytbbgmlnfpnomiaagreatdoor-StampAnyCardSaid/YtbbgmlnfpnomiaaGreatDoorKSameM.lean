/- Texts put together: KSame, KKn. -/
import Derived.Test.YtbbgmlnfpnomiaaGreatDoorKTxtM
import Derived.DeepKeys
import Derived.Laws.StructEq
import Derived.Test.YtbbgmlnfpnomiaaGreatDoorKAll1
section
/- The walks of slices.Equal and key.Same, where both are alike. -/
set_option linter.unusedVariables false
set_option linter.unusedSimpArgs false
namespace Go.Proofs.YtbbgmlnfpnomiaaGreatDoor
open Go.RowKit Go.Sort
theorem wpList_load_midw {P : Program} {ops : Array Oper} {rest : List Oper} {op : Oper} {a : Act} {w : World} {Q : Exit → Act → World → Prop} (hw : Region.wanted op (yielded ops a.tmps) = true) (ty : TypeId) (x : Operand) (ho : op.op = .load ty x)
    (b o : Nat) (hx : a.eval x = .pointer (some ⟨b, o, none⟩)) (cs : List Value) (d : TypeDesc) (hc : w.rangeAt b o cs)
    (hu : P.underlying ty = some d) (hd : d.isRow = true) (hi : (P.info? ty).map (·.size) = some cs.length)
    (h : wpList P ops Q rest (a.put op.dst (.agg cs.toArray)) w) : wpList P ops Q (op :: rest) a w :=
  BigFrame.wpList_want hw fun _ hK => wp_load_mid ty x ho b o hx cs d hc hu hd hi (hK _ _ h)
theorem mapM_some {α β : Type} (f : α → Option β) (g : α → β) : ∀ (is : List α), (∀ i ∈ is, f i = some (g i)) → is.mapM f = some (is.map g)
  | [], _ => by simp
  | i :: is, h => by
    rw [List.mapM_cons, h i (by simp), mapM_some f g is fun j hj => h j (by simp [hj])]
    rfl
theorem wf_u64 (n : Nat) (h : n < 18446744073709551616) : (Lit.int .u64 (n : Int)).wf = true := by
  have e0 : IntKind.min .u64 = 0 := by decide
  have e1 : IntKind.max .u64 = 18446744073709551615 := by decide
  simp only [Lit.wf, e0, e1, Bool.and_eq_true, decide_eq_true_eq]
  omega
theorem cells1 : Tryz.prog.cellsOf 34 = 1 := by kernel_rfl
theorem cells18 : Tryz.prog.cellsOf 36 = 18 := by kernel_rfl
theorem lits18 (l : List Nat) (h : l.length = 18) (hl : ∀ x ∈ l, x < 18446744073709551616) : Tryz.prog.keyLits 2 36 (cDg l) = some (((List.range 18).map fun i => [Lit.int .u64 ((l.getD i 0 : Nat) : Int)]).flatten) := by
  unfold Program.keyLits
  rw [Tryz.underlying36]
  dsimp only
  rw [if_pos (by rw [cells18, List.length_map, h]), mapM_some _ (fun i => [Lit.int .u64 ((l.getD i 0 : Nat) : Int)])]
  · rfl
  · intro i hi
    have hi := List.mem_range.1 hi
    have e : ((cDg l).drop (i * Tryz.prog.cellsOf 34)).take (Tryz.prog.cellsOf 34) = [cU64 (l.getD i 0)] := by
      rw [cells1, Nat.mul_one, List.drop_eq_getElem_cons (by rw [List.length_map]; omega)]
      simp [List.getD, List.getElem?_eq_getElem (show i < l.length by omega)]
    rw [e]
    unfold Program.keyLits
    rw [Tryz.underlying34]
    dsimp only
    rw [if_pos ⟨rfl, wf_u64 _ (getD_lt hl i)⟩]
theorem eq18 (l : List Nat) (h : l.length = 18) (hl : ∀ x ∈ l, x < 18446744073709551616) (w : World) : (Op.equalIn 10000 36 (.agg (cDg l).toArray) (.agg (cDg l).toArray)).run Tryz.prog w = .ok true w := by
  have hd := run_equalIn_deep (P := Tryz.prog) 9998 2 36 (by kernel_rfl)
  have hf : (Value.agg (cDg l).toArray).formed Tryz.prog 36 = true := by
    simp [Value.formed, cells18, h]
  have hc : (Value.agg (cDg l).toArray).cells.toList = cDg l := rfl
  obtain ⟨r, h1, h2⟩ := hd w 2 2 _ _ _ _ hf hf (by rw [hc]; exact lits18 l h hl) (by rw [hc]; exact lits18 l h hl)
  rw [h1, h2.2 rfl]
set_option maxRecDepth 100000 in
set_option maxHeartbeats 1000000 in
theorem sequal_calls (l : List Nat) (A B : Option Addr) (c d : Nat) (w : World) (hA : Rd w A (cDg l)) (hB : Rd w B (cDg l)) (hn : l.length ≤ 100000) :
    Calls Tryz.prog 138 #[.slice A l.length c, .slice B l.length d] w fun e w' => e = .returned (.bool true) ∧ Ext w w' := by
  have HA := Lib.hid hA
  have HB := Lib.hid hB
  clear hA hB
  go_enter Tryz.func138, Tryz.ntmps138
  go_wp2
  go_loopw [13] (fun i wr => ∃ k : Nat, k ≤ l.length ∧ i = .int .i64 (k : Int) ∧ Ext w wr) (fun i _ => l.length - (intOf i).toNat)
  case atStart => exact ⟨0, by omega, rfl, Ext.rfl' _⟩
  case round =>
    obtain ⟨k, hk, rfl, hE⟩ := hrel
    by_cases hlt : k < l.length
    · obtain ⟨ad, rfl, _, hc⟩ := (HA.out.ext hE).at_ (j := k) (u := cU64 l[k]) (by simp [hlt])
      obtain ⟨ad2, rfl, _, hc2⟩ := (HB.out.ext hE).at_ (j := k) (u := cU64 l[k]) (by simp [hlt])
      have hk0 : (k : Int) < (l.length : Int) := by omega
      generalize l[k] = x at *
      have HE := Lib.hid hE.drew
      clear hE
      go_wp2
      go_region
      go_wp2
      go_roundw
      case rel => exact ⟨k + 1, hlt, by go_num, HE.out⟩
      case measure => simp [intOf]; omega
    · obtain rfl : k = l.length := by omega
      have HE := Lib.hid hE
      clear hE
      go_wp2
      go_ret
      exact ⟨rfl, HE.out⟩
set_option maxRecDepth 100000 in
set_option maxHeartbeats 1000000 in
theorem same_calls (who leaf : Int) (one : List Nat) (ho : one.length = 18) (hol : ∀ x ∈ one, x < 18446744073709551616) (l : List Nat) (hn : l.length ≤ 100000) (A B : Option Addr) (c d : Nat) (w : World) (hA : Rd w A (cDg l)) (hB : Rd w B (cDg l)) :
    Calls Tryz.prog 40 #[.agg (sgV who leaf one A l.length c).toArray, .agg (sgV who leaf one B l.length d).toArray] w fun e w' => e = .returned (.bool true) ∧ Ext w w' := by
  have b0 := (Blk.new w 39 (sgV who leaf one A l.length c)).ext ((Ext.rfl' _).alloc (.cells (sgV who leaf one B l.length d).toArray 39))
  have b1 := Blk.new (w.alloc (.cells (sgV who leaf one A l.length c).toArray 39)) 39 (sgV who leaf one B l.length d)
  rw [World.size_alloc] at b1
  have hE := ((Ext.rfl' w).alloc (.cells (sgV who leaf one A l.length c).toArray 39)).alloc (.cells (sgV who leaf one B l.length d).toArray 39)
  have at0 := sgV_at who leaf one ho A l.length c
  have at1 := sgV_at who leaf one ho B l.length d
  have hs18 : (cDg one).length = 18 := by rw [List.length_map, ho]
  have hi18 : (Tryz.prog.info? 36).map (·.size) = some (cDg one).length := by rw [hs18]; rfl
  have heq := fun w' : World => eq18 one ho hol w'
  have HSQ := Lib.hid (fun W (hx : Ext w W) => sequal_calls l A B c d W (hA.ext hx) (hB.ext hx) hn)
  generalize sgV who leaf one A l.length c = SA at *
  generalize sgV who leaf one B l.length d = SB at *
  generalize cDg one = OS at *
  generalize l.length = n at *
  clear ho hol hA hB hs18 hn
  go_enter Tryz.func40, Tryz.ntmps40
  go_upto_region 1 with (fail)
  generalize (w.alloc (.cells SA.toArray 39)).alloc (.cells SB.toArray 39) = W1 at *
  have a0 : W1.cell? ⟨w.heap.size, 0, none⟩ = some (.int .i64 who) := b0.cell at0.1
  have a1 : W1.cell? ⟨w.heap.size, 1, none⟩ = some (.int .i64 leaf) := b0.cell at0.2.1
  have a20 : W1.cell? ⟨w.heap.size, 20, none⟩ = some (.slice A n c) := b0.cell at0.2.2.1
  have c0 : W1.cell? ⟨w.heap.size + 1, 0, none⟩ = some (.int .i64 who) := b1.cell at1.1
  have c1 : W1.cell? ⟨w.heap.size + 1, 1, none⟩ = some (.int .i64 leaf) := b1.cell at1.2.1
  have c20 : W1.cell? ⟨w.heap.size + 1, 20, none⟩ = some (.slice B n d) := b1.cell at1.2.2.1
  have r0 : W1.rangeAt w.heap.size 2 OS := fun j v hj => by rw [Nat.add_comm 2 j]; exact b0.cell (at0.2.2.2 j v hj)
  have r1 : W1.rangeAt (w.heap.size + 1) 2 OS := fun j v hj => by rw [Nat.add_comm 2 j]; exact b1.cell (at1.2.2.2 j v hj)
  clear b0 b1 at0 at1
  have HE := Lib.hid hE
  clear hE
  go_wp2_with (first
    | (refine wpList_load_midw (by rfl) _ _ rfl w.heap.size 2 rfl OS _ r0 Tryz.underlying36 rfl hi18 ?_)
    | (refine wpList_load_midw (by rfl) _ _ rfl (w.heap.size + 1) 2 rfl OS _ r1 Tryz.underlying36 rfl hi18 ?_))
  refine (HSQ.out _ HE.out).mono ?_
  rintro e W2 ⟨rfl, hx⟩
  have HX := Lib.hid (HE.out.tr hx)
  clear hx
  go_wp2
  go_ret
  exact ⟨rfl, HX.out⟩
end Go.Proofs.YtbbgmlnfpnomiaaGreatDoor
end

section
/- What known() of law 5 calls, in the numbers that it uses. -/
set_option linter.unusedVariables false
namespace Go.Proofs.YtbbgmlnfpnomiaaGreatDoor
open Go.RowKit Go.Sort
/-- What the key's laws read of the library's variables. -/
structure KOk (w : World) : Prop where
  gl : Gl w
  rng : RngOk w
  tok : TOk w
theorem KOk.ext {w w' : World} (h : KOk w) (k : Ext w w') : KOk w' := ⟨h.gl.ext k, h.rng.ext k, h.tok.ext k⟩
theorem pow_i64 {h N : Nat} (hN : 2 ^ h = N) (hp : N ≤ 256) : IntKind.i64.wrap (1 * 2 ^ h) = (N : Int) ∧ IntKind.i64.wrap (2 ^ h) = (N : Int) := by
  have hi2 : ((2 : Int) ^ h) = (N : Int) := by rw [← hN]; norm_cast
  rw [Int.one_mul, hi2]
  exact ⟨IntWalk.i64_in _ (by omega), IntWalk.i64_in _ (by omega)⟩
theorem Ext.kg {w W W' : World} {kb : Nat} (h : Ext w W) (k : KG kb W W') (hl : w.heap.size ≤ kb) : Ext w W' := KG.below h k hl h.size
theorem Blk.kg {W W' : World} {kb B : Nat} {T : TypeId} {L : List Value} (h : Blk W B T L) (g : KG kb W W') (hne : B ≠ kb) : Blk W' B T L := (g.block B h.lt (by intro e; exact hne (Option.some.inj e))).trans h
theorem Rd.kg {W W' : World} {kb : Nat} {A : Option Addr} {xs : List Value} (h : Rd W A xs) (g : KG kb W W') (hne : ∀ ad, A = some ad → ad.block ≠ kb) : Rd W' A xs := h.grownApart g fun ad e e2 => hne ad e (Option.some.inj e2)
theorem path_lt5 : ∀ (h : Nat) (l : List Nat), (∀ x ∈ l, x < 18446744073709551616) → ∀ i, ∀ x ∈ K.path h l i, x < 18446744073709551616
  | 0, _, _, _, x, hx => by simp [K.path] at hx
  | h + 1, l, hl, i, x, hx => by
    rw [K.path] at hx
    rcases List.mem_cons.1 hx with rfl | hx
    · exact getD_lt hl _
    · exact path_lt5 h _ (K.up_lt l) _ x hx
theorem root_lt5 : ∀ (h : Nat) (l : List Nat), (∀ x ∈ l, x < 18446744073709551616) → K.root h l < 18446744073709551616
  | 0, l, hl => by rw [K.root]; exact getD_lt hl _
  | h + 1, l, hl => by rw [K.root]; exact root_lt5 h _ (K.up_lt l)
noncomputable def one5 : List Nat := K.sign (K.secs 9 0) 5
noncomputable def path5 : List Nat := K.path 1 (K.pubs 9 1) 0
theorem one5_len : one5.length = 18 := K.sign_len _ _ (K.secs_len _ _)
theorem one5_lt : ∀ x ∈ one5, x < 18446744073709551616 := K.sign_lt _ _ (K.secs_lt _ _)
theorem path5_len : path5.length = 1 := K.path_len _ _ _
theorem path5_lt : ∀ x ∈ path5, x < 18446744073709551616 := path_lt5 _ _ (K.pubs_lt _ _) _
noncomputable def sg5 : K.Sg := ⟨3, 0, one5, path5⟩
noncomputable def SG5 (A : Option Addr) (c : Nat) : List Value := sgV 3 0 one5 A 1 c
theorem SG5_one (A : Option Addr) (c : Nat) : ∀ x ∈ SG5 A c, x.oneCell' = true := sgV_one _ _ _ _ _ _
theorem SG5_len (A : Option Addr) (c : Nat) : (SG5 A c).length = 21 := sgV_len _ _ _ one5_len _ _ _
noncomputable def tx5 : ByteArray := strOf (K.sigT sg5)
noncomputable def rt5 : Nat := K.root 1 (K.pubs 9 1)
theorem new5 (w : World) : Calls Tryz.prog 20 #[.int .i64 3, .int .u64 9, .int .i64 1] w fun e w' => (∃ kb A c, e = .returned (.tuple #[kP kb, .int .i64 0]) ∧ KA w' kb 3 9 1 A c 0 0 ∧ w.heap.size ≤ kb) ∧ Ext w w' := new_ok 3 (by decide) 9 1 (by decide) (by decide) w
theorem new5b (w : World) : Calls Tryz.prog 20 #[.int .i64 3, .int .u64 9, .int .i64 9] w fun e w' => e = .returned (.tuple #[.pointer none, .int .i64 1]) ∧ w = w' := new_bad 3 9 9 (by decide) w
section
variable {kb : Nat} {A : Option Addr} {c : Nat}
theorem sign5a (w : World) (k : KA w kb 3 9 1 A c 0 0) : Calls Tryz.prog 22 #[kP kb, .int .u64 5] w fun e w' => e = .returned (.tuple #[.agg sgZ.toArray, .int .i64 16]) ∧ Ext w w' := sign_state w (by decide) 5 ⟨by decide, by decide⟩ (by decide) k
theorem res5a (w : World) (k : KA w kb 3 9 1 A c 0 0) : Calls Tryz.prog 26 #[kP kb, .int .i64 1] w fun e w' => e = .returned (.tuple #[.int .i64 1, .int .i64 0]) ∧ KA w' kb 3 9 1 A c 0 1 ∧ KG kb w w' := reserve_ok w (by decide) 1 (by decide) ⟨by decide, by decide⟩ (by decide) k
theorem sign5b (w : World) (k : KA w kb 3 9 1 A c 0 1) : Calls Tryz.prog 22 #[kP kb, .int .u64 5] w fun e w' => (∃ A' c', e = .returned (.tuple #[.agg (SG5 A' c').toArray, .int .i64 0]) ∧ Rd w' A' (cDg path5) ∧ (∀ ad, A' = some ad → w.heap.size ≤ ad.block)) ∧ KA w' kb 3 9 1 A c 1 1 ∧ KG kb w w' := sign_ok w (by decide) 5 (by decide) 0 (by decide) (by decide) (by decide) k
theorem sign5c (w : World) (k : KA w kb 3 9 1 A c 1 1) : Calls Tryz.prog 22 #[kP kb, .int .u64 6] w fun e w' => e = .returned (.tuple #[.agg sgZ.toArray, .int .i64 16]) ∧ Ext w w' := sign_state w (by decide) 6 ⟨by decide, by decide⟩ (by decide) k
theorem res5b (w : World) (k : KA w kb 3 9 1 A c 1 1) : Calls Tryz.prog 26 #[kP kb, .int .i64 2] w fun e w' => e = .returned (.tuple #[.int .i64 0, .int .i64 14]) ∧ Ext w w' := reserve_spent w (by decide) 2 (by decide) ⟨by decide, by decide⟩ (by decide) k
theorem skip5 (w : World) (k : KA w kb 3 9 1 A c 1 1) : Calls Tryz.prog 28 #[kP kb, .int .i64 2] w fun e w' => e = .returned (.int .i64 0) ∧ KA w' kb 3 9 1 A c 2 2 ∧ KG kb w w' := skip_ok w 2 (by decide) (by decide) k
theorem sign5d (w : World) (k : KA w kb 3 9 1 A c 2 2) : Calls Tryz.prog 22 #[kP kb, .int .u64 6] w fun e w' => e = .returned (.tuple #[.agg sgZ.toArray, .int .i64 14]) ∧ Ext w w' := sign_spent w (by decide) 6 (by decide) k
theorem skip5b (w : World) (k : KA w kb 3 9 1 A c 2 2) : Calls Tryz.prog 28 #[kP kb, .int .i64 1] w fun e w' => e = .returned (.int .i64 1) ∧ w = w' := skip_bad w 1 (.inl (by decide)) k
theorem left5 (w : World) (k : KA w kb 3 9 1 A c 2 2) : Calls Tryz.prog 32 #[kP kb] w fun e w' => e = .returned (.int .i64 0) ∧ Ext w w' := kleft_calls w (by decide) ⟨by decide, by decide⟩ k
theorem root5 (w : World) (k : KA w kb 3 9 1 A c 2 2) : Calls Tryz.prog 33 #[kP kb] w fun e w' => e = .returned (.int .u64 (rt5 : Nat)) ∧ Ext w w' := kroot_calls w (by decide) k
end
theorem rt5_lt : rt5 < 18446744073709551616 := root_lt5 _ _ (K.pubs_lt _ _)
theorem ver5a (A : Option Addr) (c : Nat) (w : World) (h : Rd w A (cDg path5)) : Calls Tryz.prog 111 #[.int .u64 (rt5 : Nat), .agg (SG5 A c).toArray, .int .u64 5, .int .i64 1] w fun e w' => e = .returned (.bool true) ∧ Ext w w' := by
  have h := verify_in rt5 5 rt5_lt (by decide) 3 0 one5 one5_len one5_lt A c path5 path5_lt (by rw [path5_len]; decide) (by rw [path5_len]; decide) w h
  rw [path5_len] at h
  have e : decide (K.climb (K.rec one5 5) 0 path5 = rt5) = true := decide_eq_true (K.key_holds 9 1 0 5 (by decide))
  rw [e] at h
  exact h
theorem ver5b (A : Option Addr) (c : Nat) (w : World) (h : Rd w A (cDg path5)) : Calls Tryz.prog 111 #[.int .u64 (rt5 : Nat), .agg (SG5 A c).toArray, .int .u64 6, .int .i64 1] w fun e w' => e = .returned (.bool false) ∧ Ext w w' := by
  have h := verify_in rt5 6 rt5_lt (by decide) 3 0 one5 one5_len one5_lt A c path5 path5_lt (by rw [path5_len]; decide) (by rw [path5_len]; decide) w h
  rw [path5_len] at h
  have e : decide (K.climb (K.rec one5 6) 0 path5 = rt5) = false := K.known5_bad
  rw [e] at h
  exact h
theorem ver5c (A : Option Addr) (c : Nat) (w : World) : Calls Tryz.prog 111 #[.int .u64 (rt5 : Nat), .agg (SG5 A c).toArray, .int .u64 5, .int .i64 2] w fun e w' => e = .returned (.bool false) ∧ Ext w w' := verify_len rt5 5 3 0 one5 one5_len A 1 c 2 (by decide) w
theorem same5 (A B : Option Addr) (c d : Nat) (w : World) (hA : Rd w A (cDg path5)) (hB : Rd w B (cDg path5)) : Calls Tryz.prog 40 #[.agg (SG5 A c).toArray, .agg (SG5 B d).toArray] w fun e w' => e = .returned (.bool true) ∧ Ext w w' := by
  have h := same_calls 3 0 one5 one5_len one5_lt path5 (by rw [path5_len]; decide) A B c d w hA hB
  rw [path5_len] at h
  exact h
theorem text5 (A : Option Addr) (c : Nat) (w : World) (h : Rd w A (cDg path5)) (ht : TOk w) : Calls Tryz.prog 37 #[.agg (SG5 A c).toArray] w fun e w' => e = .returned (.string tx5) ∧ Ext w w' := by
  have h := ktext_calls sg5 (by unfold I64; decide) (by unfold I64; decide) one5_lt path5_lt one5_len (by show path5.length ≤ 100; rw [path5_len]; decide) A c w h ht
  rw [show sg5.path.length = 1 from path5_len] at h
  exact h
theorem tx5_len : tx5.size ≤ 1000000 := by
  have h := sigT_len sg5 (by unfold I64; decide) (by unfold I64; decide) one5_lt path5_lt one5_len (by show path5.length ≤ 100; rw [path5_len]; decide)
  show (K.sigT sg5).toArray.size ≤ _
  simp
  omega
theorem parse5 (w : World) (hg : Gl w) (hr : RngOk w) : Calls Tryz.prog 35 #[.string tx5] w fun e w' => (∃ A c, e = .returned (.tuple #[.agg (SG5 A c).toArray, .int .i64 0]) ∧ Rd w' A (cDg path5)) ∧ Ext w w' := by
  refine (kparse_calls tx5 tx5_len w hg hr).mono ?_
  rintro e w' ⟨h, hx⟩
  refine ⟨?_, hx⟩
  rw [show bs tx5 = K.sigT sg5 from bs_strOf _, K.psig_sigT sg5 (by unfold I64; decide) (by unfold I64; decide) one5_lt path5_lt, if_pos ⟨by decide, by decide, by decide, one5_len, by show path5.length ≤ 8; rw [path5_len]; decide⟩] at h
  obtain ⟨A, c, h1, h2, -⟩ := h
  rw [show sg5.path.length = 1 from path5_len] at h1
  exact ⟨A, c, h1, h2⟩
end Go.Proofs.YtbbgmlnfpnomiaaGreatDoor
end
