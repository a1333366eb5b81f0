/- Stamps in words, and back. -/
import Derived.Test.YtbbgmlnfpnomiaaGreatDoorStC
set_option linter.unusedVariables false
set_option linter.unusedSimpArgs false
namespace Go.Proofs.YtbbgmlnfpnomiaaGreatDoor
open Go.RowKit Go.Sort
namespace K
/-- A stamp: of which command, whose, when, how it is signed. -/
structure St where
  cmd : Nat
  who : Int
  at_ : Int
  sig : Sg
def stxW (s : St) : List (List UInt8) := [T.hexB s.cmd, Lib.itoa s.who, Lib.itoa s.at_, sigT s.sig]
def stx (s : St) : List UInt8 := J.join (stxW s)
/-- A number of 32 bits. -/
def small (p : List UInt8) : Option Int := match J.pnum p with
  | .ok v => if -2147483648 ≤ v ∧ v ≤ 2147483647 then some v else none
  | .error _ => none
def pst4 (a b c d : List UInt8) : Option St := match parseH (S.nums a), small b, J.pnum c, psig d with
  | some h, some w, .ok t, some g => some ⟨h, w, t, g⟩
  | _, _, _, _ => none
def pstL : List (List UInt8) → Except Nat St
  | [a, b, c, d] => match pst4 a b c d with | some s => .ok s | none => .error 2
  | _ => .error 2
def pst (s : List UInt8) : Except Nat St := match J.split s with
  | .error n => .error n
  | .ok l => pstL l
/-- What makes a stamp's parts lie within their kinds. -/
structure SgOk (g : Sg) : Prop where
  who : I64 g.who
  leaf : I64 g.leaf
  one : ∀ x ∈ g.one, x < 18446744073709551616
  path : ∀ x ∈ g.path, x < 18446744073709551616
  len : g.one.length = 18
structure StOk (s : St) : Prop where
  cmd : s.cmd < 18446744073709551616
  who : I64 s.who
  at_ : I64 s.at_
  sig : SgOk s.sig
theorem stx_len (s : St) (h : StOk s) (hp : s.sig.path.length ≤ 100) : (stx s).length ≤ 30000 := by
  have e1 := Lib.itoa_length_le s.who h.who.1 h.who.2
  have e2 := Lib.itoa_length_le s.at_ h.at_.1 h.at_.2
  have e3 := hexB_len s.cmd h.cmd
  have e4 := sigT_len s.sig h.sig.who h.sig.leaf h.sig.one h.sig.path h.sig.len hp
  have f1 := esc_two (Lib.itoa s.who)
  have f2 := esc_two (Lib.itoa s.at_)
  have f3 := esc_two (T.hexB s.cmd)
  have f4 := esc_two (sigT s.sig)
  simp only [stx, stxW, J.join, List.length_cons, List.length_append, List.length_nil]
  omega
/-- What a stamp may be to be read again. -/
def okSt (s : St) : Prop := (-2147483648 ≤ s.who ∧ s.who ≤ 2147483647) ∧ okSg s.sig.who s.sig.leaf s.sig.one s.sig.path
instance (s : St) : Decidable (okSt s) := by unfold okSt; infer_instance
theorem pst_stx (s : St) (h : StOk s) (hk : okSt s) : pst (stx s) = .ok s := by
  have hm : J.most (stxW s) = .ok (stxW s) := by
    unfold J.most
    rw [if_neg (by simp [stxW])]
  rw [pst, stx, J.split_join, hm]
  show pstL (stxW s) = _
  show (match pst4 (T.hexB s.cmd) (Lib.itoa s.who) (Lib.itoa s.at_) (sigT s.sig) with | some s => Except.ok s | none => .error 2) = _
  have h1 : small (Lib.itoa s.who) = some s.who := by rw [small, J.pnum_itoa _ h.who.1 h.who.2]; exact if_pos hk.1
  have h2 : psig (sigT s.sig) = some s.sig := by rw [psig_sigT s.sig h.sig.who h.sig.leaf h.sig.one h.sig.path]; exact if_pos hk.2
  rw [pst4, parse_hexB s.cmd h.cmd, h1, J.pnum_itoa _ h.at_.1 h.at_.2, h2]
theorem pst4_back {a b c d : List UInt8} {s : St} (h : pst4 a b c d = some s) : stxW s = [a, b, c, d] ∧ StOk s ∧ okSt s := by
  unfold pst4 at h
  cases ea : parseH (S.nums a) with
  | none => rw [ea] at h; cases h
  | some x =>
    cases eb : small b with
    | none => rw [ea, eb] at h; cases h
    | some w =>
      cases ec : J.pnum c with
      | error _ => rw [ea, eb, ec] at h; cases h
      | ok t =>
        cases ed : psig d with
        | none => rw [ea, eb, ec, ed] at h; cases h
        | some g =>
          rw [ea, eb, ec, ed] at h
          injection h with h
          subst h
          have h1 := hexB_of_parse ea
          have h3 := J.itoa_pnum ec
          have h4 := sigT_psig ed
          unfold small at eb
          cases e : J.pnum b with
          | error _ => rw [e] at eb; cases eb
          | ok v =>
            rw [e] at eb
            dsimp only at eb
            by_cases hv : -2147483648 ≤ v ∧ v ≤ 2147483647
            · rw [if_pos hv] at eb
              injection eb with eb
              subst eb
              have h2 := J.itoa_pnum e
              refine ⟨?_, ⟨h1.2, h2.2, h3.2, ⟨h4.2.2.1, h4.2.2.2.1, h4.2.2.2.2.1, h4.2.2.2.2.2, h4.2.1.2.2.2.1⟩⟩, hv, h4.2.1⟩
              rw [stxW, h1.1, h2.1, h3.1, h4.1]
            · rw [if_neg hv] at eb; cases eb
/-- What reads as a stamp is just this one in words. -/
theorem stx_pst {l : List UInt8} {s : St} (h : pst l = .ok s) : stx s = l ∧ StOk s ∧ okSt s := by
  unfold pst at h
  cases e : J.split l with
  | error _ => rw [e] at h; cases h
  | ok fs =>
    rw [e] at h
    have hj := J.join_split e
    match fs, h, hj with
    | [], h, _ => cases h
    | [_], h, _ => cases h
    | [_, _], h, _ => cases h
    | [_, _, _], h, _ => cases h
    | [a, b, c, d], h, hj =>
      have h' : (match pst4 a b c d with | some s => Except.ok s | none => .error 2) = Except.ok s := h
      cases e4 : pst4 a b c d with
      | none => rw [e4] at h'; cases h'
      | some s' =>
        rw [e4] at h'
        injection h' with h'
        subst h'
        have hb := pst4_back e4
        exact ⟨by rw [stx, hb.1]; exact hj, hb.2⟩
    | _ :: _ :: _ :: _ :: _ :: _, h, _ => cases h
end K
/-- A stamp's cells. -/
abbrev stC (s : K.St) (A : Option Addr) (c : Nat) : List Value := stV s.cmd s.who s.at_ (sgV s.sig.who s.sig.leaf s.sig.one A s.sig.path.length c)
set_option maxRecDepth 100000 in
set_option maxHeartbeats 4000000 in
theorem stext_calls (s : K.St) (h : K.StOk s) (hp : s.sig.path.length ≤ 100) (A : Option Addr) (c : Nat) (w : World) (hA : Rd w A (cDg s.sig.path)) (ht : TOk w) :
    Calls Tryz.prog 50 #[.agg (stC s A c).toArray] w fun e w' => e = .returned (.string (strOf (K.stx s))) ∧ Ext w w' := by
  have hb := Blk.new w 80 (stC s A c)
  have hE := (Ext.rfl' w).alloc (.cells (stC s A c).toArray 80)
  have hs21 := sgV_len s.sig.who s.sig.leaf s.sig.one h.sig.len A s.sig.path.length c
  have hi21 : (Tryz.prog.info? 39).map (·.size) = some (sgV s.sig.who s.sig.leaf s.sig.one A s.sig.path.length c).length := by rw [hs21]; rfl
  have e1 := Lib.itoa_length_le s.who h.who.1 h.who.2
  have e2 := Lib.itoa_length_le s.at_ h.at_.1 h.at_.2
  have e3 := K.hexB_len s.cmd h.cmd
  have e4 := sigT_len s.sig h.sig.who h.sig.leaf h.sig.one h.sig.path h.sig.len hp
  have hcs := h.cmd
  have HT := Lib.hid (show ∀ W, Ext (w.alloc (.cells (stC s A c).toArray 80)) W → Calls Tryz.prog 145 #[cU64 s.cmd] W fun e w' => e = .returned (.string (strOf (T.hexB s.cmd))) ∧ Ext W w' from fun W hx => text_calls s.cmd hcs W (ht.ext (hE.tr hx)).tz)
  have HN1 := Lib.hid (show ∀ W, Ext (w.alloc (.cells (stC s A c).toArray 80)) W → Calls Tryz.prog 131 #[.int .i64 s.who] W fun e w' => e = .returned (.string (strOf (Lib.itoa s.who))) ∧ Ext W w' from fun W hx => num_calls s.who h.who.1 h.who.2 W (ht.ext (hE.tr hx)).tab)
  have HN2 := Lib.hid (show ∀ W, Ext (w.alloc (.cells (stC s A c).toArray 80)) W → Calls Tryz.prog 131 #[.int .i64 s.at_] W fun e w' => e = .returned (.string (strOf (Lib.itoa s.at_))) ∧ Ext W w' from fun W hx => num_calls s.at_ h.at_.1 h.at_.2 W (ht.ext (hE.tr hx)).tab)
  have HKT := Lib.hid (fun W (hx : Ext (w.alloc (.cells (stC s A c).toArray 80)) W) => ktext_calls s.sig h.sig.who h.sig.leaf h.sig.one h.sig.path h.sig.len hp A c W (hA.ext (hE.tr hx)) (ht.ext (hE.tr hx)))
  have HJ := Lib.hid (fun W => join4 (strOf (T.hexB s.cmd)) (strOf (Lib.itoa s.who)) (strOf (Lib.itoa s.at_)) (strOf (K.sigT s.sig)) (Nat.le_trans (K.stx_len s h hp) (by decide)) (by rw [size_strOf]; omega) (by rw [size_strOf]; omega) (by rw [size_strOf]; omega) (by rw [size_strOf]; omega) W)
  change Hid (∀ W : World, Calls Tryz.prog 130 #[.slice (some ⟨W.heap.size, 0, none⟩) 4 4] (W.alloc (.cells #[.string (strOf (T.hexB s.cmd)), .string (strOf (Lib.itoa s.who)), .string (strOf (Lib.itoa s.at_)), .string (strOf (K.sigT s.sig))] 9)) fun e w' => e = .returned (.string (strOf (K.stx s))) ∧ Ext (W.alloc (.cells #[.string (strOf (T.hexB s.cmd)), .string (strOf (Lib.itoa s.who)), .string (strOf (Lib.itoa s.at_)), .string (strOf (K.sigT s.sig))] 9)) w') at HJ
  generalize strOf (K.stx s) = TT at *
  generalize strOf (T.hexB s.cmd) = s0 at *
  generalize strOf (Lib.itoa s.who) = s1 at *
  generalize strOf (Lib.itoa s.at_) = s2 at *
  generalize strOf (K.sigT s.sig) = s3 at *
  have HCE := Lib.hid (show ∀ W, Blk W w.heap.size 80 (stC s A c) → (W.cell? ⟨w.heap.size, 0, none⟩ = some (cU64 s.cmd) ∧ W.cell? ⟨w.heap.size, 1, none⟩ = some (.int .i64 s.who) ∧ W.cell? ⟨w.heap.size, 2, none⟩ = some (.int .i64 s.at_) ∧ W.rangeAt w.heap.size 3 (sgV s.sig.who s.sig.leaf s.sig.one A s.sig.path.length c)) from fun W hb => ⟨hb.cell rfl, hb.cell rfl, hb.cell rfl, stV_range hb⟩)
  generalize stC s A c = SV at *
  generalize sgV s.sig.who s.sig.leaf s.sig.one A s.sig.path.length c = SS at *
  clear e1 e2 e3 e4 hs21 hp hA ht hcs h
  obtain ⟨cmd, who, at_, sig⟩ := s
  dsimp only at *
  go_enter Tryz.func50, Tryz.ntmps50
  go_upto_region 1 with (fail)
  have HE := Lib.hid hE
  have HB := Lib.hid hb
  clear hE hb
  generalize w.alloc (.cells SV.toArray 80) = W1 at *
  have HX := Lib.hid (show Ext W1 W1.drew from (Ext.rfl' W1).drew)
  have HC := Lib.hid (fun W (hx : Ext W1 W) => HCE.out W (HB.out.ext hx))
  clear HB HCE
  refine wp_region_held_drew (S := fun w' => w'.cell? ⟨w.heap.size, 0, none⟩ = some (cU64 cmd) ∧ w'.cell? ⟨w.heap.size, 1, none⟩ = some (.int .i64 who) ∧ w'.cell? ⟨w.heap.size, 2, none⟩ = some (.int .i64 at_) ∧ w'.rangeAt w.heap.size 3 SS) (by kernel_rfl) (by (try dsimp only); exact HC.out _ HX.out) (fun hHeld => ?_)
  refine wpAnyH_take (i := 0) (v := ?_) (by first | (simp only [List.getElem?_toArray, List.getElem?_cons_zero, List.getElem?_cons_succ]; done) | (simp only [List.getElem?_toArray, List.getElem?_cons_zero, List.getElem?_cons_succ]; rfl)) (by kernel_rfl) (by kernel_rfl) (by kernel_rfl) (by exact fun _ _ _ h => h) (Or.inl ⟨by rfl, ?hy0⟩) (by assumption) ?_
  case hy0 => (intro w hSw; (try dsimp only at hSw); go_simp; try with_reducible rfl)
  try simp only [Act.put, List.setIfInBounds_toArray, List.set_cons_zero, List.set_cons_succ]
  refine wpAnyH_take (i := 1) (v := ?_) (by first | (simp only [List.getElem?_toArray, List.getElem?_cons_zero, List.getElem?_cons_succ]; done) | (simp only [List.getElem?_toArray, List.getElem?_cons_zero, List.getElem?_cons_succ]; rfl)) (by kernel_rfl) (by kernel_rfl) (by kernel_rfl) (by exact fun _ _ _ h => h) (Or.inl ⟨by rfl, ?hy1⟩) (by assumption) ?_
  case hy1 => (intro w hSw; (try dsimp only at hSw); go_simp; try with_reducible rfl)
  try simp only [Act.put, List.setIfInBounds_toArray, List.set_cons_zero, List.set_cons_succ]
  refine wpAnyH_take (i := 3) (v := ?_) (by first | (simp only [List.getElem?_toArray, List.getElem?_cons_zero, List.getElem?_cons_succ]; done) | (simp only [List.getElem?_toArray, List.getElem?_cons_zero, List.getElem?_cons_succ]; rfl)) (by kernel_rfl) (by kernel_rfl) (by kernel_rfl) (by exact fun _ _ _ h => h) (Or.inl ⟨by rfl, ?hy3⟩) (by assumption) ?_
  case hy3 => (intro w hSw; (try dsimp only at hSw); go_simp; try with_reducible rfl)
  try simp only [Act.put, List.setIfInBounds_toArray, List.set_cons_zero, List.set_cons_succ]
  refine wpAnyH_take (i := 4) (v := ?_) (by first | (simp only [List.getElem?_toArray, List.getElem?_cons_zero, List.getElem?_cons_succ]; done) | (simp only [List.getElem?_toArray, List.getElem?_cons_zero, List.getElem?_cons_succ]; rfl)) (by kernel_rfl) (by kernel_rfl) (by kernel_rfl) (by exact fun _ _ _ h => h) (Or.inl ⟨by rfl, ?hy4⟩) (by assumption) ?_
  case hy4 => (intro w hSw; (try dsimp only at hSw); go_simp; try with_reducible rfl)
  try simp only [Act.put, List.setIfInBounds_toArray, List.set_cons_zero, List.set_cons_succ]
  refine wpAnyH_take (i := 6) (v := ?_) (by first | (simp only [List.getElem?_toArray, List.getElem?_cons_zero, List.getElem?_cons_succ]; done) | (simp only [List.getElem?_toArray, List.getElem?_cons_zero, List.getElem?_cons_succ]; rfl)) (by kernel_rfl) (by kernel_rfl) (by kernel_rfl) (by exact fun _ _ _ h => h) (Or.inl ⟨by rfl, ?hy6⟩) (by assumption) ?_
  case hy6 => (intro w hSw; (try dsimp only at hSw); go_simp; try with_reducible rfl)
  try simp only [Act.put, List.setIfInBounds_toArray, List.set_cons_zero, List.set_cons_succ]
  refine wpAnyH_take (i := 7) (v := ?_) (by first | (simp only [List.getElem?_toArray, List.getElem?_cons_zero, List.getElem?_cons_succ]; done) | (simp only [List.getElem?_toArray, List.getElem?_cons_zero, List.getElem?_cons_succ]; rfl)) (by kernel_rfl) (by kernel_rfl) (by kernel_rfl) (by exact fun _ _ _ h => h) (Or.inl ⟨by rfl, ?hy7⟩) (by assumption) ?_
  case hy7 => (intro w hSw; (try dsimp only at hSw); go_simp; try with_reducible rfl)
  try simp only [Act.put, List.setIfInBounds_toArray, List.set_cons_zero, List.set_cons_succ]
  refine wpAnyH_take (i := 9) (v := ?_) (by first | (simp only [List.getElem?_toArray, List.getElem?_cons_zero, List.getElem?_cons_succ]; done) | (simp only [List.getElem?_toArray, List.getElem?_cons_zero, List.getElem?_cons_succ]; rfl)) (by kernel_rfl) (by kernel_rfl) (by kernel_rfl) (by exact fun _ _ _ h => h) (Or.inl ⟨by rfl, ?hy9⟩) (by assumption) ?_
  case hy9 => (intro w hSw; (try dsimp only at hSw); go_simp; try with_reducible rfl)
  try simp only [Act.put, List.setIfInBounds_toArray, List.set_cons_zero, List.set_cons_succ]
  refine wpAnyH_take (i := 10) (v := .agg SS.toArray) (by first | (simp only [List.getElem?_toArray, List.getElem?_cons_zero, List.getElem?_cons_succ]; done) | (simp only [List.getElem?_toArray, List.getElem?_cons_zero, List.getElem?_cons_succ]; rfl)) (by kernel_rfl) (by kernel_rfl) (by kernel_rfl) (by exact fun _ _ _ h => h) (Or.inl ⟨by rfl, fun w' hSw => run_load_mid _ _ _ _ rfl w.heap.size 3 (by rfl) SS _ w' hSw.2.2.2 Tryz.underlying39 rfl hi21⟩) (by assumption) ?_
  try simp only [Act.put, List.setIfInBounds_toArray, List.set_cons_zero, List.set_cons_succ]
  refine wpAnyH_ready (rs := [2]) (by kernel_rfl) (by simp) ?_
  refine AllReadyH.cons (by first | (simp only [List.getElem?_toArray, List.getElem?_cons_zero, List.getElem?_cons_succ]; done) | (simp only [List.getElem?_toArray, List.getElem?_cons_zero, List.getElem?_cons_succ]; rfl)) (fun K hK => ?_) AllReadyH.nil
  go_simp
  refine (HT.out _ HX.out).mono ?_; rintro e W4 ⟨rfl, hx⟩; replace HX := Lib.hid (show Ext W1 W4 from HX.out.tr hx); clear hx
  try (go_wp2_with fail)
  refine hK.out _ _ (by (try dsimp only); exact HC.out _ HX.out) (fun hHeld => ?_)
  clear hK K
  try simp only [Act.put, List.setIfInBounds_toArray, List.set_cons_zero, List.set_cons_succ]
  refine wpAnyH_ready (rs := [5]) (by kernel_rfl) (by simp) ?_
  refine AllReadyH.cons (by first | (simp only [List.getElem?_toArray, List.getElem?_cons_zero, List.getElem?_cons_succ]; done) | (simp only [List.getElem?_toArray, List.getElem?_cons_zero, List.getElem?_cons_succ]; rfl)) (fun K hK => ?_) AllReadyH.nil
  go_simp
  refine (HN1.out _ HX.out).mono ?_; rintro e W4 ⟨rfl, hx⟩; replace HX := Lib.hid (show Ext W1 W4 from HX.out.tr hx); clear hx
  try (go_wp2_with fail)
  refine hK.out _ _ (by (try dsimp only); exact HC.out _ HX.out) (fun hHeld => ?_)
  clear hK K
  try simp only [Act.put, List.setIfInBounds_toArray, List.set_cons_zero, List.set_cons_succ]
  refine wpAnyH_ready (rs := [8]) (by kernel_rfl) (by simp) ?_
  refine AllReadyH.cons (by first | (simp only [List.getElem?_toArray, List.getElem?_cons_zero, List.getElem?_cons_succ]; done) | (simp only [List.getElem?_toArray, List.getElem?_cons_zero, List.getElem?_cons_succ]; rfl)) (fun K hK => ?_) AllReadyH.nil
  go_simp
  refine (HN2.out _ HX.out).mono ?_; rintro e W4 ⟨rfl, hx⟩; replace HX := Lib.hid (show Ext W1 W4 from HX.out.tr hx); clear hx
  try (go_wp2_with fail)
  refine hK.out _ _ (by (try dsimp only); exact HC.out _ HX.out) (fun hHeld => ?_)
  clear hK K
  try simp only [Act.put, List.setIfInBounds_toArray, List.set_cons_zero, List.set_cons_succ]
  refine wpAnyH_ready (rs := [11]) (by kernel_rfl) (by simp) ?_
  refine AllReadyH.cons (by first | (simp only [List.getElem?_toArray, List.getElem?_cons_zero, List.getElem?_cons_succ]; done) | (simp only [List.getElem?_toArray, List.getElem?_cons_zero, List.getElem?_cons_succ]; rfl)) (fun K hK => ?_) AllReadyH.nil
  go_simp
  refine (HKT.out _ HX.out).mono ?_; rintro e W4 ⟨rfl, hx⟩; replace HX := Lib.hid (show Ext W1 W4 from HX.out.tr hx); clear hx
  try (go_wp2_with fail)
  refine hK.out _ _ (by (try dsimp only); exact HC.out _ HX.out) (fun hHeld => ?_)
  clear hK K
  try simp only [Act.put, List.setIfInBounds_toArray, List.set_cons_zero, List.set_cons_succ]
  refine wpAnyH_ready (rs := [12]) (by kernel_rfl) (by simp) ?_
  refine AllReadyH.cons (by first | (simp only [List.getElem?_toArray, List.getElem?_cons_zero, List.getElem?_cons_succ]; done) | (simp only [List.getElem?_toArray, List.getElem?_cons_zero, List.getElem?_cons_succ]; rfl)) (fun K hK => ?_) AllReadyH.nil
  go_simp
  have HX4 := Lib.hid HX.out; replace HX := Lib.hid (show Ext W1 (W4.alloc (.cells #[.string s0, .string s1, .string s2, .string s3] 9)) from HX.out.alloc _)
  try (go_wp2_with fail)
  refine hK.out _ _ (by (try dsimp only); exact HC.out _ HX.out) (fun hHeld => ?_)
  clear hK K
  try simp only [Act.put, List.setIfInBounds_toArray, List.set_cons_zero, List.set_cons_succ]
  refine wpAnyH_ready (rs := [13]) (by kernel_rfl) (by simp) ?_
  refine AllReadyH.cons (by first | (simp only [List.getElem?_toArray, List.getElem?_cons_zero, List.getElem?_cons_succ]; done) | (simp only [List.getElem?_toArray, List.getElem?_cons_zero, List.getElem?_cons_succ]; rfl)) (fun K hK => ?_) AllReadyH.nil
  go_simp
  refine (HJ.out W4).mono ?_; rintro e W5 ⟨rfl, hx⟩; replace HX := Lib.hid (show Ext W1 W5 from HX.out.tr hx); clear hx
  try (go_wp2_with fail)
  refine hK.out _ _ (by (try dsimp only); exact HC.out _ HX.out) (fun hHeld => ?_)
  clear hK K
  try simp only [Act.put, List.setIfInBounds_toArray, List.set_cons_zero, List.set_cons_succ]
  refine wpAnyH_take (i := 14) (v := ?_) (by first | (simp only [List.getElem?_toArray, List.getElem?_cons_zero, List.getElem?_cons_succ]; done) | (simp only [List.getElem?_toArray, List.getElem?_cons_zero, List.getElem?_cons_succ]; rfl)) (by kernel_rfl) (by kernel_rfl) (by kernel_rfl) (by exact fun _ _ _ h => h) (Or.inl ⟨by rfl, ?hy14⟩) (by assumption) ?_
  case hy14 => (intro w hSw; (try dsimp only at hSw); go_simp; try with_reducible rfl)
  try simp only [Act.put, List.setIfInBounds_toArray, List.set_cons_zero, List.set_cons_succ]
  refine wpAnyH_done (by kernel_rfl) ?_ _
  clear hHeld
  have HFIN := Lib.hid (HE.out.tr HX.out)
  go_wp2
  go_ret
  exact ⟨rfl, HFIN.out⟩
set_option maxRecDepth 100000 in
set_option maxHeartbeats 4000000 in
theorem small_calls (s : ByteArray) (hs : s.size ≤ 1099511627776) (w : World) (hr : RngOk w) :
    Calls Tryz.prog 153 #[.string s] w fun e w' => (∃ v x : Int, e = .returned (.tuple #[.int .i64 v, .int .i64 x]) ∧ 0 ≤ x ∧ ((x = 0 ∧ K.small (bs s) = some v) ∨ (x ≠ 0 ∧ K.small (bs s) = none))) ∧ Ext w w' := by
  have HN := Lib.hid (pnum_calls s hs w hr)
  clear hr
  go_enter Tryz.func153, Tryz.ntmps153
  go_wp2_with fail
  refine HN.out.mono ?_
  rintro e W1 ⟨he, hx⟩
  obtain ⟨v, x, rfl, hx0, hc⟩ := num_form he
  have HX := Lib.hid hx
  clear hx he HN
  by_cases g : x = 0
  · subst g
    have hv : J.pnum (bs s) = .ok v := by
      rcases hc with h | h
      · exact h.2
      · exact absurd rfl h.1
    have hsm : K.small (bs s) = if -2147483648 ≤ v ∧ v ≤ 2147483647 then some v else none := by rw [K.small, hv]
    by_cases g1 : v < -2147483648
    · have HF := Lib.hid (show K.small (bs s) = none by rw [hsm, if_neg (by omega)])
      clear hc hv hsm hx0
      go_wp2
      go_ret2
      exact ⟨⟨0, 2, rfl, by decide, .inr ⟨by decide, HF.out⟩⟩, HX.out⟩
    · by_cases g2 : 2147483647 < v
      · have HF := Lib.hid (show K.small (bs s) = none by rw [hsm, if_neg (by omega)])
        clear hc hv hsm hx0
        go_wp2
        go_ret2
        exact ⟨⟨0, 2, rfl, by decide, .inr ⟨by decide, HF.out⟩⟩, HX.out⟩
      · have HF := Lib.hid (show K.small (bs s) = some v by rw [hsm, if_pos (by omega)])
        clear hc hv hsm hx0
        go_wp2
        go_ret2
        exact ⟨⟨v, 0, rfl, by decide, .inl ⟨rfl, HF.out⟩⟩, HX.out⟩
  · have hv : ∃ n, J.pnum (bs s) = .error n := by
      rcases hc with h | h
      · exact absurd h.1 g
      · exact h.2
    obtain ⟨n, hv⟩ := hv
    have HF := Lib.hid (show K.small (bs s) = none by rw [K.small, hv])
    have gb : (x == 0) = false := beq_eq_false_iff_ne.2 g
    have gn : (x != 0) = true := by simp [g]
    clear hc hv hx0
    go_wp2
    go_ret2
    exact ⟨⟨0, 2, rfl, by decide, .inr ⟨by decide, HF.out⟩⟩, HX.out⟩
end Go.Proofs.YtbbgmlnfpnomiaaGreatDoor
