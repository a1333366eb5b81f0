/- A tree in memory; the walks of New, Len, Get. -/
import Derived.Test.YtilengooiffikaaDoorTW1
import Derived.Test.YtilengooiffikaaDoorMap
import Derived.Test.YtilengooiffikaaDoorBytes
import Derived.RegionTactic
import Derived.Deep.AppendLies
set_option linter.unusedVariables false
set_option linter.unusedSimpArgs false
namespace Go.Proofs.YtilengooiffikaaDoor
open Go.RowKit Go.Sort Go.Maps
/-- What the map of a tree tells. -/
def tf (L : List (Nat × T.B)) (x : Int) : Option Value := if 0 ≤ x then (T.get L x.toNat).map bA else none
theorem tf_nat (L : List (Nat × T.B)) (d : Nat) : tf L (d : Int) = (T.get L d).map bA := by
  unfold tf
  rw [if_pos (by omega), Int.toNat_natCast]
theorem tf_cons (L : List (Nat × T.B)) (d : Nat) (b : T.B) : upd (tf L) (d : Int) (bA b) = tf ((d, b) :: L) := by
  funext x
  show (if x = (d : Int) then some (bA b) else if 0 ≤ x then (T.get L x.toNat).map bA else none) = if 0 ≤ x then (if d = x.toNat then some b else T.get L x.toNat).map bA else none
  by_cases h : x = (d : Int)
  · subst h
    rw [if_pos rfl, if_pos (by omega), if_pos (by omega)]
    rfl
  · rw [if_neg h]
    by_cases h0 : 0 ≤ x
    · rw [if_pos h0, if_pos h0, if_neg (by omega)]
    · rw [if_neg h0, if_neg h0]
/-- A tree: a struct at block tb, its map at block mb. -/
structure Tr (W : World) (tb mb : Nat) (L : List (Nat × T.B)) : Prop where
  cell : W.cell? ⟨tb, 0, none⟩ = some (.map (some mb))
  map : MapI Tryd.prog 27 .u64 W mb (tf L) L.length
  lt : tb < W.heap.size
  ne : tb ≠ mb
theorem Tr.ext {W W' : World} {tb mb : Nat} {L : List (Nat × T.B)} (h : Tr W tb mb L) (k : Ext W W') : Tr W' tb mb L :=
  ⟨k.cell h.cell, h.map.ext k, Nat.lt_of_lt_of_le h.lt k.size, h.ne⟩
theorem Tr.mlt {W : World} {tb mb : Nat} {L : List (Nat × T.B)} (h : Tr W tb mb L) : mb < W.heap.size := h.map.lt
/-- What a tree's call does to memory: it grows, and the map turns. -/
abbrev Gr (mb : Nat) (w w' : World) : Prop := w.grownBy w' (some mb)
theorem Gr.of_ext {mb : Nat} {w w' : World} (k : Ext w w') : Gr mb w w' := ⟨k.os, k.tape, k.output, k.size, fun j hj _ => k.block j hj⟩
theorem Gr.tr {mb : Nat} {a b c : World} (h : Gr mb a b) (k : Gr mb b c) : Gr mb a c := World.grownBy.trans h k
theorem Gr.below {mb B : Nat} {a b c : World} (h : Below B a b) (k : Gr mb b c) (hm : B ≤ mb) (hb : B ≤ b.heap.size) : Below B a c :=
  ⟨k.os.trans h.os, k.tape.trans h.tape, k.output.trans h.output, Nat.le_trans h.size k.size, fun i hi => (k.block i (by omega) (by simp; omega)).trans (h.block i hi)⟩
theorem Gr.cell {mb : Nat} {w w' : World} {a : Addr} {v : Value} (k : Gr mb w w') (hb : a.block < w.heap.size) (hne : a.block ≠ mb) (h : w.cell? a = some v) : w'.cell? a = some v :=
  (World.grownBy.cell_far k a hb (by simp; exact hne)).trans h
theorem u64_wf (d : Nat) (h : d < 18446744073709551616) : (Lit.int .u64 (d : Int)).wf = true := by
  unfold Lit.wf
  rw [Bool.and_eq_true]
  exact ⟨decide_eq_true (by show (0 : Int) ≤ _; omega), decide_eq_true (by show _ ≤ (18446744073709551615 : Int); omega)⟩
theorem tf_new : upd (fun _ => none) (0 : Int) (bA T.gen) = tf T.new := by
  have e : tf [] = fun _ => none := by funext x; unfold tf; split <;> rfl
  have h := tf_cons [] 0 T.gen
  rw [e] at h
  exact h
set_option maxHeartbeats 1000000 in
set_option maxRecDepth 100000 in
theorem tnew_calls (w : World) : Calls Tryd.prog 18 #[] w fun e w' => (∃ tb mb, e = .returned (.pointer (some ⟨tb, 0, none⟩)) ∧ Tr w' tb mb T.new ∧ w.heap.size ≤ tb ∧ w.heap.size ≤ mb) ∧ Ext w w' := by
  have hmm := @run_makeMap Tryd.prog
  go_enter Tryd.func18, Tryd.ntmps18
  go_wp2_with fail
  refine (genesis_calls _).mono ?_
  rintro e w1 ⟨rfl, hx⟩
  have hM := (MapI.new Tryd.prog 27 .u64 w).ext hx
  have hX1 : Ext w w1 := ((Ext.rfl' w).alloc _).tr hx
  obtain ⟨w2, hup, hg, m', hm', hM2⟩ := hM.update (t := 114) Tryd.underlying27 Tryd.underlying114 (by decide) (x := 0) (by decide) (bA T.gen)
  obtain rfl : m' = 1 := hm'
  rw [tf_new] at hM2
  have hlt := hM.lt
  have HX2 := Lib.hid (Gr.below hX1 hg (Nat.le_refl _) hX1.size)
  have HM := Lib.hid hM2
  have HL := Lib.hid hlt
  clear hM hX1 hg hx hM2 hlt
  go_wp2
  go_ret
  have hE := (Ext.rfl' w2).alloc (.cells #[Value.map (some w.heap.size)] 116)
  refine ⟨⟨w2.heap.size, w.heap.size, rfl, ⟨?_, HM.out.ext hE, by simp, ?_⟩, HX2.out.size, Nat.le_refl _⟩, HX2.out.alloc HX2.out.size _⟩
  · exact (Blk.new w2 116 [Value.map (some w.heap.size)]).cell rfl
  · have := HM.out.lt
    omega
theorem tlen_calls {tb mb : Nat} {L : List (Nat × T.B)} (w : World) (h : Tr w tb mb L) : Calls Tryd.prog 23 #[.pointer (some ⟨tb, 0, none⟩)] w fun e w' => e = .returned (.int .i64 L.length) ∧ w = w' := by
  have h0 := h.cell
  have hlen := h.map.len (t := 114) Tryd.underlying114
  go_enter Tryd.func23, Tryd.ntmps23
  go_wp2
  go_ret
  exact ⟨rfl, rfl⟩
theorem tr_look {tb mb : Nat} {L : List (Nat × T.B)} {w : World} (h : Tr w tb mb L) {d : Nat} (hd : d < 18446744073709551616) :
    (Instr.lookup 114 (.map (some mb)) (.int .u64 (d : Int)) true).run Tryd.prog w = .ok (.tuple #[bA ((T.get L d).getD T.gen), .bool (T.get L d).isSome]) w := by
  have hl := h.map.look (t := 114) Tryd.underlying27 Tryd.underlying114 (Tryd.zeroValue48 _) (u64_wf d hd)
  rw [hl, tf_nat]
  cases T.get L d <;> rfl
theorem tr_look1 {tb mb : Nat} {L : List (Nat × T.B)} {w : World} (h : Tr w tb mb L) {d : Nat} (hd : d < 18446744073709551616) :
    (Instr.lookup 114 (.map (some mb)) (.int .u64 (d : Int)) false).run Tryd.prog w = .ok (bA ((T.get L d).getD T.gen)) w := by
  have hl := h.map.look1 (t := 114) Tryd.underlying27 Tryd.underlying114 (Tryd.zeroValue48 _) (u64_wf d hd)
  rw [hl, tf_nat]
  cases T.get L d <;> rfl
set_option maxHeartbeats 1000000 in
set_option maxRecDepth 100000 in
theorem tget_calls {tb mb : Nat} {L : List (Nat × T.B)} (w : World) (h : Tr w tb mb L) (d : Nat) (hd : d < 18446744073709551616) : Calls Tryd.prog 48 #[.pointer (some ⟨tb, 0, none⟩), cU64 d] w fun e w' => e = .returned (.tuple #[bA ((T.get L d).getD T.gen), .bool (T.get L d).isSome]) ∧ Ext w w' := by
  have h1 := h.ext ((Ext.rfl' w).alloc (.cells #[Value.int .i64 0, Value.int .u64 0, Value.int .i64 0, Value.int .u64 0, .slice none 0 0, Value.int .i64 0, Value.int .i64 0, .slice none 0 0] 48))
  have h0 := h1.cell
  have hlook := tr_look h1 hd
  generalize (T.get L d).getD T.gen = b at *
  generalize (T.get L d).isSome = q at *
  obtain ⟨bv, bp, bqv, bqb, blo, bhi⟩ := b
  clear h1
  go_enter Tryd.func48, Tryd.ntmps48
  go_wp2
  exact ret_cell_tmp rfl ((Blk.new w 48 (bV ⟨bv, bp, bqv, bqb, blo, bhi⟩)).ext ((Ext.rfl' _).alloc _)) Tryd.underlying48 rfl rfl rfl rfl ⟨rfl, ((Ext.rfl' w).alloc _).alloc _⟩
set_option maxHeartbeats 1000000 in
set_option maxRecDepth 100000 in
theorem way1_calls {tb mb : Nat} {L : List (Nat × T.B)} (w : World) (h : Tr w tb mb L) (d : Nat) (hd : d < 18446744073709551616) (bx : Nat) (hbx : w.cell? ⟨bx, 0, none⟩ = some (.pointer (some ⟨tb, 0, none⟩))) :
    Calls Tryd.prog 82 #[cU64 d, .pointer (some ⟨bx, 0, none⟩)] w fun e w' => e = .returned (.tuple #[cU64 ((T.get L d).getD T.gen).p, .bool (T.get L d).isSome]) ∧ Ext w w' := by
  have h0 := h.cell
  have hlook := tr_look h hd
  generalize (T.get L d).getD T.gen = b at *
  generalize (T.get L d).isSome = q at *
  obtain ⟨bv, bp, bqv, bqb, blo, bhi⟩ := b
  go_enter Tryd.func82, Tryd.ntmps82
  go_wp2
  go_ret2
  exact ⟨rfl, (Ext.rfl' w).alloc _⟩
theorem bDig : (Tryd.prog.info? 27).map (fun i => (i.zero, i.size, i.bytes)) = some (some (.int .u64 0), 1, 8) := by kernel_rfl
abbrev cDs (l : List Nat) : List Value := l.map cU64
/-- A way: each stands on the next, the last is the first one. -/
def IsWay (L : List (Nat × T.B)) : List Nat → Prop
  | [] => False
  | [x] => x = 0
  | x :: y :: r => x ≠ 0 ∧ (∃ b, T.get L x = some b ∧ b.p = y) ∧ IsWay L (y :: r)
theorem isWay_of {L : List (Nat × T.B)} : ∀ n d l, T.way L n d = some l → (∃ r, l = d :: r) ∧ IsWay L l ∧ l.length ≤ n + 1
  | 0, d, l, h => by
    unfold T.way at h
    by_cases h0 : d = 0
    · rw [if_pos h0] at h
      cases h
      exact ⟨⟨[], by rw [h0]⟩, rfl, by simp⟩
    · rw [if_neg h0] at h
      cases h
  | n + 1, d, l, h => by
    unfold T.way at h
    by_cases h0 : d = 0
    · rw [if_pos h0] at h
      cases h
      exact ⟨⟨[], by rw [h0]⟩, rfl, by simp⟩
    · rw [if_neg h0] at h
      cases hg : T.get L d with
      | none => rw [hg] at h; cases h
      | some b =>
        rw [hg] at h
        simp only [Option.map_eq_some_iff] at h
        obtain ⟨l', h', rfl⟩ := h
        obtain ⟨⟨r, rfl⟩, hw, hl⟩ := isWay_of n b.p l' h'
        exact ⟨⟨_, rfl⟩, ⟨h0, ⟨b, hg, rfl⟩, hw⟩, by simp at hl ⊢; omega⟩
def slLen : Value → Nat
  | .slice _ n _ => n
  | _ => 0
theorem slLen_own {w : World} {B : Nat} {e : TypeId} {size : Nat} {v : Value} {n : Nat} {xs : List Value} (h : w.ownsRow B e size v n xs) : slLen v = n := by
  rcases h.2 with ⟨rfl, h0⟩ | ⟨g, cap, cur, rfl, _⟩
  · exact h0.symm
  · rfl
set_option maxHeartbeats 2000000 in
set_option maxRecDepth 100000 in
theorem walk_calls {tb mb : Nat} {L : List (Nat × T.B)} (w : World) (h : Tr w tb mb L) (d : Nat) (l : List Nat) (hl : IsWay L (d :: l)) (hb : ∀ x ∈ d :: l, x < 18446744073709551616) (hn : l.length ≤ 1000000) (bx : Nat) (hbl : bx < w.heap.size) (hbx : w.cell? ⟨bx, 0, none⟩ = some (.pointer (some ⟨tb, 0, none⟩))) :
    Calls Tryd.prog 81 #[cU64 d, .int .u64 0, .func (.func 82) #[] #[.pointer (some ⟨bx, 0, none⟩)]] w fun e w' => (∃ v, e = .returned v ∧ w'.ownsRow w.heap.size 27 1 v (l.length + 1) (cDs (d :: l))) ∧ Ext w w' := by
  obtain ⟨i0, hi, hz0, hz1, hz2⟩ := info_parts bDig
  have HT := Lib.hid (show ∀ W, Ext w W → Tr W tb mb L ∧ W.cell? ⟨bx, 0, none⟩ = some (.pointer (some ⟨tb, 0, none⟩)) from fun W hx => ⟨h.ext hx, hx.cell hbx⟩)
  have HB := Lib.hid hb
  have HL := Lib.hid hl
  clear h hbx hb hl
  go_enter Tryd.func81, Tryd.ntmps81
  go_wp2
  go_loopw [0, 7] (fun f v wr => ∃ (pre : List Nat) (x : Nat) (r : List Nat), pre ++ x :: r = d :: l ∧ IsWay L (x :: r) ∧ f = cU64 x ∧ slLen v = pre.length + 1 ∧ wr.ownsRow w.heap.size 27 1 v (pre.length + 1) (cDs (pre ++ [x])) ∧ Below w.heap.size w wr) (fun _ v _ => l.length + 1 - slLen v)
  case atStart =>
    refine ⟨[], d, l, rfl, HL.out, rfl, rfl, ?_, (Below.refl _ _).alloc (Nat.le_refl _) _⟩
    exact World.ownsRow_lit w #[cU64 d] 1 (Nat.le_refl _) (by decide) rfl
  case round =>
    obtain ⟨pre, x, r, hsp, hway, rfl, hsl, hoo, hB⟩ := hrel
    have HSL := Lib.hid hsl
    have hlen : pre.length + 1 + r.length = l.length + 1 := by
      have := congrArg List.length hsp
      simp at this
      omega
    have hxb := HB.out x (by rw [← hsp]; simp)
    cases r with
    | nil =>
      obtain rfl : x = 0 := hway
      rw [hsp] at hoo
      have hr0 : pre.length = l.length := by simp at hlen; omega
      rw [hr0] at hoo
      have HR := Lib.hid hoo
      have HB2 := Lib.hid hB
      clear hoo hB hsp
      go_wp2
      go_ret
      exact ⟨⟨_, rfl, HR.out⟩, HB2.out⟩
    | cons y r =>
      obtain ⟨hx0, ⟨b, hg, hp⟩, hw2⟩ := hway
      have hne : ((x : Int) != 0) = true := by simp; omega
      have hcall := way1_calls wr (HT.out _ hB).1 x hxb bx (HT.out _ hB).2
      rw [hg] at hcall
      simp only [Option.getD_some, Option.isSome_some] at hcall
      rw [hp] at hcall
      have HC := Lib.hid hcall
      have HW := Lib.hid hw2
      have HS := Lib.hid hsp
      have HO := Lib.hid hoo
      have HBB := Lib.hid hB
      clear hcall hw2 hsp hoo hB hg hp hx0 hsl
      go_wp2_with fail
      refine HC.out.mono ?_
      rintro e w1 ⟨rfl, hx⟩
      have hB1 : Below w.heap.size w w1 := HBB.out.trans (hx.mono HBB.out.size)
      have hoo1 : w1.ownsRow w.heap.size 27 1 _ (pre.length + 1) (cDs (pre ++ [x])) := ownsRow_kept HO.out (fun k hk => hx.block k hk)
      have hsz1 := hB1.size
      have hoo2 := hoo1.alloc (.cells #[cU64 y] 27)
      clear hx
      go_wp2_with (at_builtin; (refine wpList_append_own _ rfl _ _ 30 rfl w.heap.size 27 i0 (.int .u64 0) 1 8 Tryd.underlying30 hi hz0 hz1 hz2 rfl (by decide) _ _ _ rfl hoo2 ⟨w1.heap.size, 0, none⟩ 1 1 [cU64 y] rfl rfl (cell_one_new _ _ _) (fun x hx => by simp at hx; subst hx; rfl) (by unfold maxLen; simp at hlen; omega) (by simp at hlen; omega) (by simp; omega) ?_); intro v' w2 hown' hgrow _)
      have hB2 : Below w.heap.size w w2 := (hB1.alloc hsz1 _).grown hgrow (by simp; omega) (fun q hq => (hoo1.lt q hq).1)
      have HO2 := Lib.hid hown'
      have HB2 := Lib.hid hB2
      clear hown' hgrow hB1 hB2 hoo1 hoo2
      go_wp2
      go_roundw
      case rel => exact ⟨pre ++ [x], y, r, by rw [List.append_assoc]; exact HS.out, HW.out, rfl, by rw [slLen_own HO2.out]; simp, by simpa using HO2.out, HB2.out⟩
      case measure =>
        rw [slLen_own HO2.out, HSL.out]
        simp at hlen
        omega
theorem own_base {w : World} {B B' : Nat} {e : TypeId} {size : Nat} {v : Value} {n : Nat} {xs : List Value} (h : w.ownsRow B e size v n xs) (hb : B' ≤ B) : w.ownsRow B' e size v n xs := by
  refine ⟨h.1, ?_⟩
  rcases h.2 with h0 | ⟨g, cap, cur, h1, h2, h3⟩
  · exact .inl h0
  · exact .inr ⟨g, cap, cur, h1, Nat.le_trans hb h2, h3⟩
/-- The way from one to the first. -/
theorem way_calls {tb mb : Nat} {L : List (Nat × T.B)} (w : World) (h : Tr w tb mb L) (n d : Nat) (l : List Nat) (hl : T.way L n d = some l) (hb : ∀ x ∈ l, x < 18446744073709551616) (hn : n ≤ 100000) :
    Calls Tryd.prog 53 #[.pointer (some ⟨tb, 0, none⟩), cU64 d] w fun e w' => (∃ v, e = .returned v ∧ w'.ownsRow w.heap.size 27 1 v l.length (cDs l)) ∧ Ext w w' := by
  obtain ⟨⟨r, rfl⟩, hw, hlen⟩ := isWay_of n d l hl
  have hE : Ext w (w.alloc (.cells #[.pointer (some ⟨tb, 0, none⟩)] 73)) := (Ext.rfl' w).alloc _
  have HC := Lib.hid (walk_calls _ (h.ext hE) d r hw hb (by simp at hlen; omega) w.heap.size (by simp) ((Blk.new w 73 [.pointer (some ⟨tb, 0, none⟩)]).cell rfl))
  have HE := Lib.hid hE
  clear h hw hl hb hE
  go_enter Tryd.func53, Tryd.ntmps53
  go_wp2_with fail
  refine HC.out.mono ?_
  rintro e w1 ⟨⟨v, rfl, hown⟩, hx⟩
  have HO := Lib.hid (own_base hown (show w.heap.size ≤ (w.alloc (.cells #[.pointer (some ⟨tb, 0, none⟩)] 73)).heap.size from HE.out.size))
  have HX := Lib.hid (HE.out.tr hx)
  clear hown hx
  go_wp2
  go_ret
  exact ⟨⟨_, rfl, HO.out⟩, HX.out⟩
end Go.Proofs.YtilengooiffikaaDoor
