/- Texts put together: WBld, WJoin, WRJoin, WSplit, SpecS2, WRSplit, WNames, WMap, WNums, WRNum, WRNums. -/
import Derived.Test.YtbbgmlnfpnomiaaGreatDoorLA
import Derived.Test.YtbbgmlnfpnomiaaGreatDoorShelf
import Derived.Lib.Builder
import Derived.Lib.AppendStr
import Derived.Lib.UnsafeStr
import Derived.Lib.MakeNoZero
import Derived.Laws.Externs
import Derived.Laws.IdiomCopy
import Derived.Maps.AppendAt
import Derived.Lib.ConvBytes
import Derived.Deep.DeepMust
import Derived.MapKept
import Derived.RegionTactic
import Derived.ChangeAlike
import Derived.Lib.SlicesS
import Derived.Lib.AppendIntMem
import Derived.Lib.ItoaLen
import Derived.Lib.Join
section
/- strings.Builder's WriteByte: the shelf's own walk turned to this translation by hand (its copyCheck has a line that the loader refuses; it is never reached). -/
namespace Go.Proofs.YtbbgmlnfpnomiaaGreatDoor
open Go.RowKit
abbrev tB : TypeId := 313
abbrev tU8 : TypeId := 5
/-- K is not the row that the builder b owns; what a write to the builder leaves alone. -/
def NotOwn (w : World) (b K : Nat) : Prop := ∀ v, w.cell? ⟨b, 1, none⟩ = some v → v.ownBlock ≠ some K
def BK (b : Nat) (w w' : World) : Prop := w.heap.size ≤ w'.heap.size ∧ ∀ K, K < w.heap.size → K ≠ b → NotOwn w b K → w'.heap[K]? = w.heap[K]? ∧ NotOwn w' b K
theorem BK.refl (b : Nat) (w : World) : BK b w w := ⟨Nat.le_refl _, fun _ _ _ h => ⟨rfl, h⟩⟩
theorem BK.trans {b : Nat} {w w1 w2 : World} (h : BK b w w1) (k : BK b w1 w2) : BK b w w2 :=
  ⟨Nat.le_trans h.1 k.1, fun K hK hb hn => by
    obtain ⟨h1, h2⟩ := h.2 K hK hb hn
    obtain ⟨h3, h4⟩ := k.2 K (Nat.lt_of_lt_of_le hK h.1) hb h2
    exact ⟨h3.trans h1, h4⟩⟩
theorem bSize : (Tryz.prog.info? tB).map (·.size) = some 2 := by kernel_rfl
theorem bLies : liesAt Tryz.prog Tryz.prog.depth tB (2 / Tryz.prog.cellsOf tB) 0 tB 1 = true := by kernel_rfl
theorem bByte : (Tryz.prog.info? tU8).map (fun i => (i.zero, i.size, i.bytes)) = some (some (.int .u8 0), 1, 1) := by kernel_rfl
set_option maxHeartbeats 1000000 in
set_option maxRecDepth 100000 in
theorem copyCheck_used (b : Nat) (w : World) (h0 : w.cell? ⟨b, 0, none⟩ = some (.pointer (some ⟨b, 0, none⟩))) :
    Calls Tryz.prog 265 #[.pointer (some ⟨b, 0, none⟩)] w fun e w' => e = .returned (.tuple #[]) ∧ w' = w := by
  obtain ⟨j, hj, _⟩ := Option.map_eq_some_iff.1 bSize
  go_enter Tryz.func265, Tryz.ntmps265
  go_wp2
  rw [Lib.run_neq_ptr_same w _ Tryz.underlying311 hj]
  go_wp2
  go_end0
  exact ⟨rfl, rfl⟩
set_option maxHeartbeats 1000000 in
set_option maxRecDepth 100000 in
theorem copyCheck_fresh (b : Nat) (w : World) (h0 : w.cell? ⟨b, 0, none⟩ = some (.pointer none)) (hsh : w.shape? b = some (tB, 2)) (hfz : w.frozen? ⟨b, 0, none⟩ = false) :
    Calls Tryz.prog 265 #[.pointer (some ⟨b, 0, none⟩)] w fun e w' => e = .returned (.tuple #[]) ∧ w' = w.setCell ⟨b, 0, none⟩ (.pointer (some ⟨b, 0, none⟩)) := by
  obtain ⟨j, hj, hjs⟩ := Option.map_eq_some_iff.1 bSize
  go_enter Tryz.func265, Tryz.ntmps265
  go_wp2
  rw [Lib.run_to_unsafe w ⟨b, 0, none⟩ Tryz.underlying311 Tryz.underlying405 hj (by rw [hjs]; decide) hsh (Nat.zero_lt_succ 1)]
  simp only [Result.andThen]
  rw [Oper.upon_value]
  go_wp2
  rw [run_callFunc_extern Tryz.func295 (by kernel_rfl) (by kernel_rfl) (by kernel_rfl) (e := Extern.AbiNoEscape.same) (by kernel_rfl)]
  rw [Lib.run_noEscape]
  simp only [Result.andThen]
  rw [Oper.upon_value]
  go_wp2
  rw [Lib.run_from_unsafe w ⟨b, 0, none⟩ Tryz.underlying405 Tryz.underlying311 hj hsh bLies]
  simp only [Result.andThen]
  rw [Oper.upon_value]
  go_wp2
  go_end0
  exact ⟨rfl, rfl⟩
theorem copyCheck_calls (B b : Nat) (bs : List Value) (w : World) (h : Lib.IsBuilder tB tU8 B b bs w) :
    Calls Tryz.prog 265 #[.pointer (some ⟨b, 0, none⟩)] w fun e w' => e = .returned (.tuple #[]) ∧ (Lib.BuilderAt tB tU8 B b (.pointer (some ⟨b, 0, none⟩)) bs w' ∧ Below B w w' ∧ BK b w w') := by
  rcases h with h | h
  · refine (copyCheck_fresh b w h.cell0 h.shape h.frozen0).mono ?_
    rintro e w' ⟨rfl, rfl⟩
    refine ⟨rfl, h.used _, (Below.refl B w).setCell (p := ⟨b, 0, none⟩) h.1 _, by simp [World.setCell], fun K _ hb hn => ⟨Below.heap_setCell _ _ _ _ hb, fun v hv => hn v ?_⟩⟩
    rwa [World.cell?_setCell_other _ _ _ _ (by simp)] at hv
  · refine (copyCheck_used b w h.cell0).mono ?_
    rintro e w' ⟨rfl, rfl⟩
    exact ⟨rfl, h, Below.refl B _, BK.refl _ _⟩
set_option maxHeartbeats 2000000 in
set_option maxRecDepth 100000 in
theorem wbyte_at (B b : Nat) (bs : List Value) (c : Int) (w : World) (h : Lib.IsBuilder tB tU8 B b bs w) (hlen : bs.length + 1 ≤ 140737488355328) (hBw : B ≤ w.heap.size) :
    Calls Tryz.prog 210 #[.pointer (some ⟨b, 0, none⟩), .int .u8 c] w fun e w' => e = .returned .nilIface ∧ (Lib.BuilderAt tB tU8 B b (.pointer (some ⟨b, 0, none⟩)) (bs ++ [.int .u8 c]) w' ∧ Below B w w' ∧ BK b w w') := by
  obtain ⟨i0, hi, hz0, hz1, hz2⟩ := info_parts bByte
  go_enter Tryz.func210, Tryz.ntmps210
  go_wp2_with (go_at_call 265; refine (copyCheck_calls B b bs _ h).mono ?_)
  rintro e w1 ⟨rfl, h1, hb1, hk1⟩
  obtain ⟨hB, v, hbk, hown, hne⟩ := h1
  have c0 : w1.cell? ⟨b, 0, none⟩ = some (.pointer (some ⟨b, 0, none⟩)) := by rw [Lib.cell_of_heap hbk]; rfl
  have c1 : w1.cell? ⟨b, 1, none⟩ = some v := by rw [Lib.cell_of_heap hbk]; rfl
  go_wp2_with (at_builtin; refine wpList_append_own_at _ rfl _ _ 149 rfl B tU8 i0 (.int .u8 0) 1 1 Tryz.underlying149 hi hz0 hz1 hz2 rfl (by decide) _ _ _ rfl (hown.alloc _) ⟨w1.heap.size, 0, none⟩ 1 1 [.int .u8 c] rfl rfl ?c1 ?c2 ?c3 ?c4 ?c5 ?_)
  case c1 =>
    intro j u hj
    match j, hj with
    | 0, hj => simp at hj; subst hj; simp [Addr.add]
  case c2 => intro u hu; simp at hu; subst hu; rfl
  case c3 => unfold maxLen; omega
  case c4 => omega
  case c5 => have := hb1.size; simp; omega
  intro v' w2 hown' hgrow _ hat
  have hlt : b < w1.heap.size := by
    rcases Nat.lt_or_ge b w1.heap.size with h' | h'
    · exact h'
    · simp [Array.getElem?_eq_none h'] at hbk
  have hb2 : w2.heap[b]? = some (.cells #[.pointer (some ⟨b, 0, none⟩), v] tB (0, 0)) := by
    rw [hgrow.block b (by simp; omega) (fun e => hne e.symm), Lib.alloc_old w1 _ b hlt]
    exact hbk
  have d0 : w2.cell? ⟨b, 0, none⟩ = some (.pointer (some ⟨b, 0, none⟩)) := by rw [Lib.cell_of_heap hb2]; rfl
  have d1 : w2.cell? ⟨b, 1, none⟩ = some v := by rw [Lib.cell_of_heap hb2]; rfl
  have f1 : w2.frozen? ⟨b, 1, none⟩ = false := Lib.frozen_of_heap hb2 1
  obtain ⟨g, cap, rfl⟩ : ∃ g cap, v' = .slice (some ⟨g, 0, none⟩) (bs.length + 1) cap := by
    rcases hown'.2 with ⟨_, h0⟩ | ⟨g, cap, cur, hv, _⟩
    · omega
    · exact ⟨g, cap, hv⟩
  go_wp2
  go_ret
  refine ⟨rfl, ?_, ?_, hk1.trans ⟨?_, fun K hK hbK hn => ⟨?_, ?_⟩⟩⟩
  · exact Lib.BuilderAt.put (T := tB) (e := tU8) hB hb2 (bs' := bs ++ [.int .u8 c]) (by simpa using hown') (by decide)
  · exact ((hb1.alloc (by have := hb1.size; omega) _).grown hgrow (by have := hb1.size; simp; omega) (fun k hk => (hown.lt k hk).1)).setCell (p := ⟨b, 1, none⟩) hB _
  · have := hgrow.size
    simp [World.setCell] at this ⊢
    omega
  · rw [Below.heap_setCell _ _ _ _ hbK, hgrow.block K (by simp; omega) (fun e => hn v c1 e.symm), Lib.alloc_old w1 _ K hK]
  · intro u hu
    rw [World.cell?_setCell_same _ _ _ d1] at hu
    injection hu with hu
    subst hu
    rcases hat with hat | hat
    · rw [hat]; exact hn v c1
    · rw [hat]
      intro e
      injection e with e
      have e2 : w1.heap.size + 1 = K := e
      omega
theorem wbyte_calls (B b : Nat) (l : List UInt8) (c : UInt8) (x : Int) (hx : x = (c.toNat : Int)) (w : World) (h : Lib.IsBuilder tB tU8 B b (Lib.byteCells l) w) (hlen : l.length + 1 ≤ 140737488355328) (hBw : B ≤ w.heap.size) :
    Calls Tryz.prog 210 #[.pointer (some ⟨b, 0, none⟩), .int .u8 x] w fun e w' => e = .returned .nilIface ∧ Lib.IsBuilder tB tU8 B b (Lib.byteCells (l ++ [c])) w' ∧ Below B w w' ∧ BK b w w' := by
  subst hx
  refine (wbyte_at B b _ _ w h (by simpa [Lib.byteCells] using hlen) hBw).mono ?_
  rintro e w' ⟨rfl, h1, h2, h3⟩
  refine ⟨rfl, .inr ?_, h2, h3⟩
  simpa [Lib.byteCells] using h1
/-- A builder stays where no block turns. -/
theorem builderAt_kept {T e : TypeId} {B b : Nat} {p : Value} {bs : List Value} {w w' : World} (h : Lib.BuilderAt T e B b p bs w) (hk : ∀ k, k < w.heap.size → w'.heap[k]? = w.heap[k]?) : Lib.BuilderAt T e B b p bs w' := by
  have hlt := h.lt
  obtain ⟨hB, v, hb, ⟨hx, ho⟩, hne⟩ := h
  refine ⟨hB, v, (hk b hlt).trans hb, ⟨hx, ?_⟩, hne⟩
  rcases ho with ho | ⟨g, cap, cur, h1, h2, h3, h4⟩
  · exact .inl ho
  · refine .inr ⟨g, cap, cur, h1, h2, (hk g ?_).trans h3, h4⟩
    rcases Nat.lt_or_ge g w.heap.size with h' | h'
    · exact h'
    · simp [Array.getElem?_eq_none h'] at h3
theorem isBuilder_kept {T e : TypeId} {B b : Nat} {bs : List Value} {w w' : World} (h : Lib.IsBuilder T e B b bs w) (hk : ∀ k, k < w.heap.size → w'.heap[k]? = w.heap[k]?) : Lib.IsBuilder T e B b bs w' :=
  h.imp (fun h => builderAt_kept h hk) (fun h => builderAt_kept h hk)
theorem isBuilder_lt {T e : TypeId} {B b : Nat} {bs : List Value} {w : World} (h : Lib.IsBuilder T e B b bs w) : b < w.heap.size := h.elim (fun h => h.lt) (fun h => h.lt)
/-- A block that is not there yet is not the builder's row. -/
theorem notOwn_new {T e : TypeId} {B b : Nat} {bs : List Value} {w w' : World} (h : Lib.IsBuilder T e B b bs w) (hk : ∀ k, k < w.heap.size → w'.heap[k]? = w.heap[k]?) {K : Nat} (hK : w.heap.size ≤ K) : NotOwn w' b K := by
  obtain ⟨p, hB, v, hb, ⟨hx, ho⟩, hne⟩ : ∃ p, Lib.BuilderAt T e B b p bs w := h.elim (fun h => ⟨_, h⟩) (fun h => ⟨_, h⟩)
  intro u hu
  have hb' := (hk b (isBuilder_lt h)).trans hb
  rw [Lib.cell_of_heap hb'] at hu
  injection hu with hu
  subst hu
  rcases ho with ⟨rfl, _⟩ | ⟨g, cap, cur, rfl, h2, h3, h4⟩
  · intro e; cases e
  · intro e
    injection e with e
    simp only at e
    have : g < w.heap.size := by
      rcases Nat.lt_or_ge g w.heap.size with h' | h'
      · exact h'
      · simp [Array.getElem?_eq_none h'] at h3
    omega
end Go.Proofs.YtbbgmlnfpnomiaaGreatDoor
end

section
/- The walk of field.Join. -/
namespace Go.Proofs.YtbbgmlnfpnomiaaGreatDoor
open Go.RowKit
abbrev bs (s : ByteArray) : List UInt8 := s.data.toList
abbrev cStrs (l : List ByteArray) : List Value := l.map Value.string
abbrev cBs (s : ByteArray) : List Value := (bs s).map cU8
theorem special_out {c : UInt8} : J.special c = true ↔ (c.toNat : Int) = 124 ∨ (c.toNat : Int) = 92 := by
  unfold J.special
  simp only [Bool.or_eq_true, beq_iff_eq]
  constructor
  · rintro (h | h) <;> subst h
    · exact .inl rfl
    · exact .inr rfl
  · rintro (h | h)
    · exact .inl (UInt8.toNat_inj.1 (by have : c.toNat = 124 := by omega
                                        exact this))
    · exact .inr (UInt8.toNat_inj.1 (by have : c.toNat = 92 := by omega
                                        exact this))
theorem special_cases (c : UInt8) : (((c.toNat : Int) == 124) = true ∧ J.esc1 c = [92, c]) ∨ (((c.toNat : Int) == 124) = false ∧ ((c.toNat : Int) == 92) = true ∧ J.esc1 c = [92, c]) ∨ (((c.toNat : Int) == 124) = false ∧ ((c.toNat : Int) == 92) = false ∧ J.esc1 c = [c]) := by
  unfold J.esc1
  have h := special_out (c := c)
  by_cases h1 : (c.toNat : Int) = 124
  · exact .inl ⟨by simpa using h1, by rw [h.2 (.inl h1)]; rfl⟩
  · by_cases h2 : (c.toNat : Int) = 92
    · exact .inr (.inl ⟨by simpa using h1, by simpa using h2, by rw [h.2 (.inr h2)]; rfl⟩)
    · refine .inr (.inr ⟨by simpa using h1, by simpa using h2, ?_⟩)
      rw [if_neg]
      intro e
      rcases h.1 e with e | e
      · exact h1 e
      · exact h2 e
/-- A new row of a string's bytes. -/
theorem bytesWorld_rd (w : World) (e : TypeId) (s : ByteArray) : Rd (Lib.bytesWorld w e s) (some ⟨w.heap.size, 0, none⟩) (cBs s) := by
  refine .inr ⟨_, rfl, by rw [Lib.bytesWorld_size]; exact Nat.lt_succ_self _, fun j hj => ?_⟩
  have hj' : j < s.size := by rw [List.length_map] at hj; exact hj
  rw [show (⟨w.heap.size, 0, none⟩ : Addr).add j = ⟨w.heap.size, j, none⟩ from by unfold Addr.add; split <;> simp [*]]
  rw [Lib.bytesWorld_cell w e s j hj']
  have : j < s.data.toList.length := by simpa using hj'
  simp [List.getD, hj']
theorem bytesWorld_ext (w : World) (e : TypeId) (s : ByteArray) : Ext w (Lib.bytesWorld w e s) :=
  ⟨rfl, rfl, rfl, by rw [Lib.bytesWorld_size]; omega, fun k hk => Lib.bytesWorld_at_old w e s k hk⟩
/-- '[]byte(s)': a new block of its own that reads as the string's bytes. -/
theorem run_bytes_at (w : World) (s : ByteArray) : ∃ w1 c, (convert 9 149 (.string s)).run Tryz.prog w = .ok (.slice (some ⟨w.heap.size, 0, none⟩) (bs s).length c) w1 ∧ Ext w w1 ∧ w.heap.size < w1.heap.size ∧ Rd w1 (some ⟨w.heap.size, 0, none⟩) (cBs s) :=
  ⟨_, _, by rw [show (bs s).length = s.size from rfl]; exact Lib.run_convert_string_bytes w 9 149 5 s (u := .string) Tryz.underlying9 Tryz.underlying149 Tryz.underlying5, bytesWorld_ext _ _ _, by rw [Lib.bytesWorld_size]; exact Nat.lt_succ_self _, bytesWorld_rd _ _ _⟩
theorem Rd.block {w w' : World} {K : Nat} {xs : List Value} (h : Rd w (some ⟨K, 0, none⟩) xs) (hk : w'.heap[K]? = w.heap[K]?) (hs : w.heap.size ≤ w'.heap.size) : Rd w' (some ⟨K, 0, none⟩) xs := by
  rcases h with h | ⟨ad, e, hb, hc⟩
  · exact .inl h
  · injection e with e
    subst e
    refine .inr ⟨_, rfl, Nat.lt_of_lt_of_le hb hs, fun j hj => ?_⟩
    rw [← hc j hj]
    exact World.cell?_of_block (by rw [add_block]; exact hk)
set_option maxHeartbeats 1000000 in
set_option maxRecDepth 100000 in
theorem join_calls (l : List ByteArray) (A : Option Addr) (c : Nat) (w : World) (hA : Rd w A (cStrs l)) (hl : (J.join (l.map bs)).length ≤ 140737488355328) (hn : l.length ≤ 9223372036854775807) (hs : ∀ s ∈ l, s.size ≤ 9223372036854775807) :
    Calls Tryz.prog 130 #[.slice A l.length c] w fun e w' => e = .returned (.string ⟨(J.join (l.map bs)).toArray⟩) ∧ Ext w w' := by
  have HA := Lib.hid hA
  clear hA
  go_enter Tryz.func130, Tryz.ntmps130
  go_wp2
  go_loopw [10] (fun i wr => ∃ k : Nat, k ≤ l.length ∧ i = .int .i64 k ∧ Lib.IsBuilder tB tU8 w.heap.size w.heap.size (Lib.byteCells (J.join ((l.map bs).take k))) wr ∧ Below w.heap.size w wr) (fun i _ => l.length - (intOf i).toNat)
  case atStart => exact ⟨0, by omega, rfl, Lib.fresh_isBuilder _ _ _, (Below.refl _ _).alloc (Nat.le_refl _) _⟩
  case round =>
    obtain ⟨k, hk, rfl, hb, hB⟩ := hrel
    by_cases hlt : k < l.length
    · obtain ⟨ad, rfl, _, hc⟩ := (HA.out.below (Nat.le_refl _) hB).at_ (j := k) (u := .string l[k]) (by simp [hlt])
      have hps : ∀ j, (J.pre (l.map bs) k j (bs l[k])).length ≤ 140737488355328 := fun j => by
        have := J.pre_len (l.map bs) k j (by simpa using hlt)
        rw [List.getElem_map] at this
        exact Nat.le_trans this hl
      have hsn := J.join_snoc (l.map bs) k (by simpa using hlt)
      rw [List.getElem_map] at hsn
      have HP := Lib.hid hps
      have HSN := Lib.hid hsn
      have hss := hs l[k] (by simp)
      generalize hs0 : l[k] = s at *
      have HBL := Lib.hid hb
      have HB := Lib.hid hB
      clear hb hB hps hsn
      go_wp2_with fail
      refine (wbyte_calls _ _ _ 124 124 rfl _ HBL.out (by have := HP.out 0; rw [J.pre_zero, List.length_append] at this; exact this) HB.out.size).mono ?_
      rintro e w1 ⟨rfl, hb1, hB1, -⟩
      rw [← J.pre_zero (l.map bs) k (bs s)] at hb1
      have hB2 := HB.out.trans hB1
      obtain ⟨w2, c2, hcv, hx, hsz, hr⟩ := run_bytes_at w1 s
      have hb2 := isBuilder_kept hb1 hx.block
      have hn2 := notOwn_new hb1 hx.block (Nat.le_refl _)
      have hB3 := hB2.trans (hx.mono hB2.size)
      have hKb : w1.heap.size ≠ w.heap.size := fun e => by have := isBuilder_lt hb1; omega
      generalize w1.heap.size = K at *
      have HR := Lib.hid hr
      have HBL2 := Lib.hid hb2
      have HN := Lib.hid hn2
      have HB3 := Lib.hid hB3
      clear hr hb2 hn2 hB3 hB2 hx hb1 hB1 HBL HB
      go_wp2
      go_loopw [18] (fun i wr => ∃ j : Nat, j ≤ (bs s).length ∧ i = .int .i64 j ∧ Lib.IsBuilder tB tU8 w.heap.size w.heap.size (Lib.byteCells (J.pre (l.map bs) k j (bs s))) wr ∧ Below w.heap.size w wr ∧ K < wr.heap.size ∧ NotOwn wr w.heap.size K ∧ Rd wr (some ⟨K, 0, none⟩) (cBs s)) (fun i _ => (bs s).length - (intOf i).toNat)
      case atStart => exact ⟨0, by omega, rfl, HBL2.out, HB3.out, hsz, HN.out, HR.out⟩
      case round =>
        obtain ⟨j, hj, rfl, hb, hB, hKs, hN, hR⟩ := hrel
        by_cases hjt : j < (bs s).length
        · obtain ⟨ad2, e2, _, hcj⟩ := hR.at_ (j := j) (u := cU8 (bs s)[j]) (by rw [List.getElem?_map, List.getElem?_eq_getElem hjt]; rfl)
          injection e2 with e2
          subst e2
          rw [show (⟨K, 0, none⟩ : Addr).add j = ⟨K, j, none⟩ from by unfold Addr.add; split <;> simp [*]] at hcj
          have hes := J.pre_snoc (l.map bs) k j (bs s) hjt
          generalize hcc : (bs s)[j] = c8 at *
          have HES := Lib.hid hes
          have HBJ := Lib.hid hb
          have HBB := Lib.hid hB
          have HNN := Lib.hid hN
          have HRR := Lib.hid hR
          clear hes hb hB hN hR hcc
          have hp1 := HP.out (j + 1)
          rw [HES.out] at hp1
          rcases special_cases c8 with ⟨h1, he⟩ | ⟨h1, h2, he⟩ | ⟨h1, h2, he⟩
          ·
            rw [he] at hp1
            go_wp2_with fail
            refine (wbyte_calls _ _ _ 92 92 rfl _ HBJ.out (by rw [List.length_append] at hp1; simp at hp1; omega) HBB.out.size).mono ?_
            rintro e w3 ⟨rfl, hb, hB, hk3⟩
            obtain ⟨hk4, hk5⟩ := hk3.2 K hKs hKb HNN.out
            have HBJ2 := Lib.hid hb
            have HBB2 := Lib.hid (HBB.out.trans hB)
            have HRR2 := Lib.hid (HRR.out.block hk4 hk3.1)
            have HNN2 := Lib.hid hk5
            have hKs2 := Nat.lt_of_lt_of_le hKs hk3.1
            clear hb hB hk3 hk4 hk5
            go_wp2_with fail
            refine (wbyte_calls _ _ _ c8 _ rfl _ HBJ2.out (by rw [List.length_append] at hp1 ⊢; simp at hp1 ⊢; omega) HBB2.out.size).mono ?_
            rintro e w4 ⟨rfl, hb, hB, hk3⟩
            obtain ⟨hk4, hk5⟩ := hk3.2 K hKs2 hKb HNN2.out
            have HBJ3 := Lib.hid hb
            have HBB3 := Lib.hid (HBB2.out.trans hB)
            have HRR3 := Lib.hid (HRR2.out.block hk4 hk3.1)
            have HNN3 := Lib.hid hk5
            have hKs3 := Nat.lt_of_lt_of_le hKs2 hk3.1
            clear hb hB hk3 hk4 hk5
            go_wp2
            go_roundw
            case rel => exact ⟨j + 1, hjt, by go_num, by rw [HES.out, he]; simpa using HBJ3.out, HBB3.out, hKs3, HNN3.out, HRR3.out⟩
            case measure => simp [intOf]; omega
          ·
            rw [he] at hp1
            go_wp2_with fail
            refine (wbyte_calls _ _ _ 92 92 rfl _ HBJ.out (by rw [List.length_append] at hp1; simp at hp1; omega) HBB.out.size).mono ?_
            rintro e w3 ⟨rfl, hb, hB, hk3⟩
            obtain ⟨hk4, hk5⟩ := hk3.2 K hKs hKb HNN.out
            have HBJ2 := Lib.hid hb
            have HBB2 := Lib.hid (HBB.out.trans hB)
            have HRR2 := Lib.hid (HRR.out.block hk4 hk3.1)
            have HNN2 := Lib.hid hk5
            have hKs2 := Nat.lt_of_lt_of_le hKs hk3.1
            clear hb hB hk3 hk4 hk5
            go_wp2_with fail
            refine (wbyte_calls _ _ _ c8 _ rfl _ HBJ2.out (by rw [List.length_append] at hp1 ⊢; simp at hp1 ⊢; omega) HBB2.out.size).mono ?_
            rintro e w4 ⟨rfl, hb, hB, hk3⟩
            obtain ⟨hk4, hk5⟩ := hk3.2 K hKs2 hKb HNN2.out
            have HBJ3 := Lib.hid hb
            have HBB3 := Lib.hid (HBB2.out.trans hB)
            have HRR3 := Lib.hid (HRR2.out.block hk4 hk3.1)
            have HNN3 := Lib.hid hk5
            have hKs3 := Nat.lt_of_lt_of_le hKs2 hk3.1
            clear hb hB hk3 hk4 hk5
            go_wp2
            go_roundw
            case rel => exact ⟨j + 1, hjt, by go_num, by rw [HES.out, he]; simpa using HBJ3.out, HBB3.out, hKs3, HNN3.out, HRR3.out⟩
            case measure => simp [intOf]; omega
          ·
            rw [he] at hp1
            go_wp2_with fail
            refine (wbyte_calls _ _ _ c8 _ rfl _ HBJ.out (by rw [List.length_append] at hp1; simp at hp1; omega) HBB.out.size).mono ?_
            rintro e w4 ⟨rfl, hb, hB, hk3⟩
            obtain ⟨hk4, hk5⟩ := hk3.2 K hKs hKb HNN.out
            have HBJ3 := Lib.hid hb
            have HBB3 := Lib.hid (HBB.out.trans hB)
            have HRR3 := Lib.hid (HRR.out.block hk4 hk3.1)
            have HNN3 := Lib.hid hk5
            have hKs3 := Nat.lt_of_lt_of_le hKs hk3.1
            clear hb hB hk3 hk4 hk5
            go_wp2
            go_roundw
            case rel => exact ⟨j + 1, hjt, by go_num, by rw [HES.out, he]; exact HBJ3.out, HBB3.out, hKs3, HNN3.out, HRR3.out⟩
            case measure => simp [intOf]; omega
        · obtain rfl : j = (bs s).length := by omega
          have HB4 := Lib.hid hb
          have HB5 := Lib.hid hB
          clear hb hB hN hR
          go_wp2
          go_roundw
          case rel => exact ⟨k + 1, hlt, by go_num, by rw [HSN.out]; exact HB4.out, HB5.out⟩
          case measure => simp [intOf]; omega
    · obtain rfl : k = l.length := by omega
      rw [List.take_of_length_le (by simp)] at hb
      have HB4 := Lib.hid hb
      have HB5 := Lib.hid hB
      clear hb hB
      go_wp2_with fail
      refine (Tryz.Builder_String_any _ _ _ _ HB4.out HB5.out.size).mono ?_
      rintro e w1 ⟨rfl, hx⟩
      have HX := Lib.hid (HB5.out.trans hx)
      clear hx
      go_wp2
      go_ret
      exact ⟨rfl, HX.out⟩
end Go.Proofs.YtbbgmlnfpnomiaaGreatDoor
end

section
/- The walk of the reference's Join. -/
namespace Go.Proofs.YtbbgmlnfpnomiaaGreatDoor
open Go.RowKit
abbrev bC (l : List UInt8) : List Value := Lib.byteCells l
set_option maxHeartbeats 2000000 in
set_option maxRecDepth 100000 in
theorem rjoin_calls (l : List ByteArray) (A : Option Addr) (c : Nat) (w : World) (hA : Rd w A (cStrs l)) (hl : (J.join (l.map bs)).length ≤ 140737488355328) (hn : l.length ≤ 9223372036854775807) (hs : ∀ s ∈ l, s.size ≤ 9223372036854775807) :
    Calls Tryz.prog 135 #[.slice A l.length c] w fun e w' => e = .returned (.string ⟨(J.join (l.map bs)).toArray⟩) ∧ Ext w w' := by
  obtain ⟨i0, hi, hz0, hz1, hz2⟩ := info_parts bByte
  have HA := Lib.hid hA
  clear hA
  go_enter Tryz.func135, Tryz.ntmps135
  go_wp2
  go_loopw [3, 4] (fun v i wr => ∃ k : Nat, k ≤ l.length ∧ i = .int .i64 k ∧ wr.ownsRow w.heap.size tU8 1 v (J.join ((l.map bs).take k)).length (bC (J.join ((l.map bs).take k))) ∧ Below w.heap.size w wr) (fun _ i _ => l.length - (intOf i).toNat)
  case atStart => exact ⟨0, by omega, rfl, World.ownsRow_nil _ _ _ _, Below.refl _ _⟩
  case round =>
    obtain ⟨k, hk, rfl, hown, hB⟩ := hrel
    by_cases hlt : k < l.length
    · obtain ⟨ad, rfl, hab, hc⟩ := (HA.out.below (Nat.le_refl _) hB).at_ (j := k) (u := .string l[k]) (by simp [hlt])
      have hps : ∀ j, (J.pre (l.map bs) k j (bs l[k])).length ≤ 140737488355328 := fun j => by
        have := J.pre_len (l.map bs) k j (by simpa using hlt)
        rw [List.getElem_map] at this
        exact Nat.le_trans this hl
      have hsn := J.join_snoc (l.map bs) k (by simpa using hlt)
      rw [List.getElem_map] at hsn
      have HP := Lib.hid hps
      have HSN := Lib.hid hsn
      have hss := hs l[k] (by simp)
      have hlk : (cStrs l)[k]? = some (.string l[k]) := by simp [hlt]
      have HLK := Lib.hid hlk
      generalize hs0 : l[k] = s at *
      have hp0 := hps 0
      rw [J.pre_zero, List.length_append] at hp0
      simp only [List.length_singleton] at hp0
      have hz := J.pre_zero (l.map bs) k (bs s)
      have HZ := Lib.hid hz
      clear hz hps hsn hlk
      generalize J.join (List.take k (List.map bs l)) = p at *
      have hsz := hB.size
      go_wp2_with (at_builtin; (refine wpList_append_own _ rfl _ _ 149 rfl w.heap.size tU8 i0 (.int .u8 0) 1 1 Tryz.underlying149 hi hz0 hz1 hz2 rfl (by decide) _ _ _ rfl (hown.alloc _) ⟨wr.heap.size, 0, none⟩ 1 1 [.int .u8 124] rfl rfl (cell_one_new _ _ _) (fun x hx => by simp at hx; subst hx; rfl) (by unfold maxLen; omega) (by omega) (by simp; omega) ?_); intro v' w1 hown' hgrow _)
      have hB1 : Below w.heap.size w w1 := (hB.alloc hsz _).grown hgrow (by simp; omega) (fun q hq => (hown.lt q hq).1)
      have hown1 : w1.ownsRow w.heap.size tU8 1 v' (J.pre (l.map bs) k 0 (bs s)).length (bC (J.pre (l.map bs) k 0 (bs s))) := by
        rw [HZ.out]
        simpa [bC, Lib.byteCells] using hown'
      have HB1 := Lib.hid hB1
      have HO1 := Lib.hid hown1
      clear hown' hgrow hB1 hown1 hown hB hc
      go_wp2
      go_loopw [3, 5, 6] (fun v i _ wr => ∃ j : Nat, j ≤ (bs s).length ∧ i = .int .i64 j ∧ wr.ownsRow w.heap.size tU8 1 v (J.pre (l.map bs) k j (bs s)).length (bC (J.pre (l.map bs) k j (bs s))) ∧ Below w.heap.size w wr) (fun _ i _ _ => (bs s).length - (intOf i).toNat)
      case atStart => exact ⟨0, by omega, rfl, HO1.out, HB1.out⟩
      case round =>
        obtain ⟨j, hj, rfl, hown, hB⟩ := hrel
        obtain ⟨ad2, e2, _, hc⟩ := (HA.out.below (Nat.le_refl _) hB).at_ HLK.out
        injection e2 with e2
        subst e2
        by_cases hjt : j < (bs s).length
        · have hix : ∀ w, (Instr.index 9 (.string s) (.int .i64 j)).run Tryz.prog w = .ok (cU8 (bs s)[j]) w := by
            intro w
            have hjt' : j < s.size := hjt
            simp [go_sem, hjt']
            rfl
          have hes := J.pre_snoc (l.map bs) k j (bs s) hjt
          generalize hcc : (bs s)[j] = c8 at *
          have hp1 := HP.out (j + 1)
          rw [hes] at hp1
          have HES := Lib.hid hes
          clear hes hcc
          have hszr := hB.size
          have hp2 := HP.out j
          generalize hp1e : J.pre (l.map bs) k j (bs s) = p1 at *
          rcases special_cases c8 with ⟨h1, he⟩ | ⟨h1, h2, he⟩ | ⟨h1, h2, he⟩
          ·
            rw [he, List.length_append] at hp1
            simp only [List.length_cons, List.length_nil] at hp1
            have HE := Lib.hid he
            clear he
            go_wp2_with (at_builtin; first | ((refine wpList_append_own _ rfl _ _ 149 rfl w.heap.size tU8 i0 (.int .u8 0) 1 1 Tryz.underlying149 hi hz0 hz1 hz2 rfl (by decide) _ _ _ rfl (hown.alloc _) ⟨wr.heap.size, 0, none⟩ 1 1 [.int .u8 92] rfl rfl (cell_one_new _ _ _) (fun x hx => by simp at hx; subst hx; rfl) (by unfold maxLen; omega) (by omega) (by simp; omega) ?_); intro v2 w2 hown' hgrow _; have hB2 : Below w.heap.size w w2 := (hB.alloc hszr _).grown hgrow (by simp; omega) (fun q hq => (hown.lt q hq).1); have hsz2 := hB2.size; have hown2 : w2.ownsRow w.heap.size tU8 1 v2 (p1.length + 1) (bC (p1 ++ [92])) := (by simpa [bC, Lib.byteCells] using hown'); clear hown' hgrow) | ((refine wpList_append_own _ rfl _ _ 149 rfl w.heap.size tU8 i0 (.int .u8 0) 1 1 Tryz.underlying149 hi hz0 hz1 hz2 rfl (by decide) _ _ _ rfl (hown2.alloc _) ⟨w2.heap.size, 0, none⟩ 1 1 [.int .u8 (c8.toNat : Int)] rfl rfl (cell_one_new _ _ _) (fun x hx => by simp at hx; subst hx; rfl) (by unfold maxLen; omega) (by omega) (by simp; omega) ?_); intro v3 w3 hown' hgrow _))
            have hB3 : Below w.heap.size w w3 := (hB2.alloc hsz2 _).grown hgrow (by simp; omega) (fun q hq => (hown2.lt q hq).1)
            have hsz3 := hB3.size
            have hown3 : w3.ownsRow w.heap.size tU8 1 v3 (p1 ++ [92, c8]).length (bC (p1 ++ [92, c8])) := by
              simpa [bC, Lib.byteCells] using hown'
            clear hown' hgrow
            have HO3 := Lib.hid hown3
            have HB3 := Lib.hid hB3
            clear hown3 hB3 hown2 hB2 hown hB
            go_wp2
            go_roundw
            case rel => exact ⟨j + 1, hjt, by go_num, by rw [HES.out, HE.out]; exact HO3.out, HB3.out⟩
            case measure => simp [intOf]; omega
          ·
            rw [he, List.length_append] at hp1
            simp only [List.length_cons, List.length_nil] at hp1
            have HE := Lib.hid he
            clear he
            go_wp2_with (at_builtin; first | ((refine wpList_append_own _ rfl _ _ 149 rfl w.heap.size tU8 i0 (.int .u8 0) 1 1 Tryz.underlying149 hi hz0 hz1 hz2 rfl (by decide) _ _ _ rfl (hown.alloc _) ⟨wr.heap.size, 0, none⟩ 1 1 [.int .u8 92] rfl rfl (cell_one_new _ _ _) (fun x hx => by simp at hx; subst hx; rfl) (by unfold maxLen; omega) (by omega) (by simp; omega) ?_); intro v2 w2 hown' hgrow _; have hB2 : Below w.heap.size w w2 := (hB.alloc hszr _).grown hgrow (by simp; omega) (fun q hq => (hown.lt q hq).1); have hsz2 := hB2.size; have hown2 : w2.ownsRow w.heap.size tU8 1 v2 (p1.length + 1) (bC (p1 ++ [92])) := (by simpa [bC, Lib.byteCells] using hown'); clear hown' hgrow) | ((refine wpList_append_own _ rfl _ _ 149 rfl w.heap.size tU8 i0 (.int .u8 0) 1 1 Tryz.underlying149 hi hz0 hz1 hz2 rfl (by decide) _ _ _ rfl (hown2.alloc _) ⟨w2.heap.size, 0, none⟩ 1 1 [.int .u8 (c8.toNat : Int)] rfl rfl (cell_one_new _ _ _) (fun x hx => by simp at hx; subst hx; rfl) (by unfold maxLen; omega) (by omega) (by simp; omega) ?_); intro v3 w3 hown' hgrow _))
            have hB3 : Below w.heap.size w w3 := (hB2.alloc hsz2 _).grown hgrow (by simp; omega) (fun q hq => (hown2.lt q hq).1)
            have hsz3 := hB3.size
            have hown3 : w3.ownsRow w.heap.size tU8 1 v3 (p1 ++ [92, c8]).length (bC (p1 ++ [92, c8])) := by
              simpa [bC, Lib.byteCells] using hown'
            clear hown' hgrow
            have HO3 := Lib.hid hown3
            have HB3 := Lib.hid hB3
            clear hown3 hB3 hown2 hB2 hown hB
            go_wp2
            go_roundw
            case rel => exact ⟨j + 1, hjt, by go_num, by rw [HES.out, HE.out]; exact HO3.out, HB3.out⟩
            case measure => simp [intOf]; omega
          ·
            rw [he, List.length_append] at hp1
            simp only [List.length_cons, List.length_nil] at hp1
            have HE := Lib.hid he
            clear he
            go_wp2_with (at_builtin; (refine wpList_append_own _ rfl _ _ 149 rfl w.heap.size tU8 i0 (.int .u8 0) 1 1 Tryz.underlying149 hi hz0 hz1 hz2 rfl (by decide) _ _ _ rfl (hown.alloc _) ⟨wr.heap.size, 0, none⟩ 1 1 [.int .u8 (c8.toNat : Int)] rfl rfl (cell_one_new _ _ _) (fun x hx => by simp at hx; subst hx; rfl) (by unfold maxLen; omega) (by omega) (by simp; omega) ?_); intro v3 w3 hown' hgrow _)
            have hB3 : Below w.heap.size w w3 := (hB.alloc hszr _).grown hgrow (by simp; omega) (fun q hq => (hown.lt q hq).1)
            have hsz3 := hB3.size
            have hown3 : w3.ownsRow w.heap.size tU8 1 v3 (p1 ++ [c8]).length (bC (p1 ++ [c8])) := by
              simpa [bC, Lib.byteCells] using hown'
            clear hown' hgrow
            have HO3 := Lib.hid hown3
            have HB3 := Lib.hid hB3
            clear hown3 hB3 hown hB
            go_wp2
            go_roundw
            case rel => exact ⟨j + 1, hjt, by go_num, by rw [HES.out, HE.out]; exact HO3.out, HB3.out⟩
            case measure => simp [intOf]; omega
        · obtain rfl : j = (bs s).length := by omega
          have HB4 := Lib.hid hown
          have HB5 := Lib.hid hB
          clear hown hB
          go_wp2
          go_roundw
          case rel => exact ⟨k + 1, hlt, by go_num, by rw [HSN.out]; exact HB4.out, HB5.out⟩
          case measure => simp [intOf]; omega
    · obtain rfl : k = l.length := by omega
      rw [List.take_of_length_le (by simp)] at hown
      obtain ⟨A2, c2, rfl, hr⟩ := rd_of_own hown
      have hcv := run_str (P := Tryz.prog) wr A2 _ c2 149 tU8 9 Tryz.underlying149 Tryz.underlying5 Tryz.underlying9 hr
      have HB5 := Lib.hid hB
      clear hown hB hr
      go_wp2
      go_ret
      exact ⟨rfl, HB5.out⟩
end Go.Proofs.YtbbgmlnfpnomiaaGreatDoor
end

section
/- The walk of field.Split. -/
namespace Go.Proofs.YtbbgmlnfpnomiaaGreatDoor
open Go.RowKit
theorem bStr : (Tryz.prog.info? 9).map (fun i => (i.zero, i.size, i.bytes)) = some (some (.string ⟨#[]⟩), 1, 16) := by kernel_rfl
abbrev cFs (l : List (List UInt8)) : List Value := l.map fun s => Value.string (strOf s)
def SplitEnd (r : Except Nat (List (List UInt8))) (e : Ending) (w : World) : Prop :=
  match r with
  | .ok l => ∃ A c, e = .returned (.tuple #[.slice A l.length c, .int .i64 0]) ∧ Rd w A (cFs l)
  | .error n => e = .returned (.tuple #[.slice none 0 0, .int .i64 (n : Int)])
/-- Rows of unlike types that a call owns lie apart. -/
theorem own_apart {w w' : World} {B B2 : Nat} {e e2 : TypeId} {v v2 : Value} {n m : Nat} {xs ys : List Value} (h : w.ownsRow B e 1 v n xs) (h2 : w.ownsRow B2 e2 1 v2 m ys) (he : e ≠ e2) (hg : w.grownBy w' v2.ownBlock) : w'.ownsRow B e 1 v n xs := by
  refine h.kept hg ?_
  rcases h.2 with ⟨hv, _⟩ | ⟨g, cap, cur, hv, _, hgb, _⟩
  · exact .inl (by rw [hv]; rfl)
  · right
    rw [hv]
    show some g ≠ v2.ownBlock
    exact fun e3 => Lib.ownBlock_ne h2 hgb he e3.symm
theorem bs_tail (s : ByteArray) : bs (s.extract 1 s.size) = (bs s).drop 1 := by
  simp [bs, ByteArray.data_extract]
  exact List.take_of_length_le (by simp)
theorem kinds (c : UInt8) : (((c.toNat : Int) == 124) = true ∧ c = 124) ∨ (((c.toNat : Int) == 124) = false ∧ ((c.toNat : Int) == 92) = true ∧ c = 92) ∨ (((c.toNat : Int) == 124) = false ∧ ((c.toNat : Int) == 92) = false ∧ J.special c = false ∧ (c == 124) = false ∧ (c == 92) = false) := by
  by_cases h1 : c = 124
  · subst h1; exact .inl ⟨rfl, rfl⟩
  · by_cases h2 : c = 92
    · subst h2; exact .inr (.inl ⟨rfl, rfl, rfl⟩)
    · have e1 : (c == 124) = false := by simpa using h1
      have e2 : (c == 92) = false := by simpa using h2
      have n1 : ¬ (c.toNat : Int) = 124 := fun e => h1 (UInt8.toNat_inj.1 (by have : c.toNat = 124 := by omega
                                                                              exact this))
      have n2 : ¬ (c.toNat : Int) = 92 := fun e => h2 (UInt8.toNat_inj.1 (by have : c.toNat = 92 := by omega
                                                                             exact this))
      exact .inr (.inr ⟨by simpa using n1, by simpa using n2, by rw [J.special, e1, e2]; rfl, e1, e2⟩)
theorem step_sp {o f c} (h : J.special c = true) : J.step (o, f, true) c = some (o, f ++ [c], false) := by simp [J.step, h]
theorem step_no {o f c} (h : J.special c = false) : J.step (o, f, true) c = none := by simp [J.step, h]
theorem step_other {o f c} (h1 : (c == 124) = false) (h2 : (c == 92) = false) : J.step (o, f, false) c = some (o, f ++ [c], false) := by simp [J.step, h1, h2]
theorem bne_t {x y : Int} (h : (x == y) = true) : (x != y) = false := by rw [bne, h]; rfl
theorem bne_f {x y : Int} (h : (x == y) = false) : (x != y) = true := by rw [bne, h]; rfl
/-- What comes of a state at the text's end. -/
def fin (r : Option J.St) : Except Nat (List (List UInt8)) := match r with
  | some (out, f, false) => J.most (out ++ [f])
  | _ => .error 2
set_option maxHeartbeats 4000000 in
set_option maxRecDepth 100000 in
theorem split_calls (s : ByteArray) (hs : s.size ≤ 1099511627776) (w : World) :
    Calls Tryz.prog 124 #[.string s] w fun e w' => SplitEnd (J.split (bs s)) e w' ∧ Ext w w' := by
  obtain ⟨i0, hi, hz0, hz1, hz2⟩ := info_parts bByte
  obtain ⟨j0, hj, hy0, hy1, hy2⟩ := info_parts bStr
  by_cases he : s = ⟨#[]⟩
  · subst he
    go_enter Tryz.func124, Tryz.ntmps124
    go_wp2
    go_ret2
    exact ⟨⟨none, 0, rfl, .inl rfl⟩, Ext.rfl' _⟩
  · have hsz : 0 < s.size := by
      rcases Nat.eq_zero_or_pos s.size with h | h
      · exact absurd (by cases s with | mk d => cases d with | mk l => cases l with | nil => rfl | cons a l => cases h) he
      · exact h
    have hbe : s.toList.isEmpty = false := by
      rw [Lib.toList_data]
      have h : 0 < s.data.toList.length := hsz
      cases hh : s.data.toList with
      | nil => rw [hh] at h; cases h
      | cons _ _ => rfl
    have hix : ∀ w, (Instr.index 9 (.string s) (.int .i64 0)).run Tryz.prog w = .ok (cU8 s[0]) w := by
      intro w
      simp [go_sem, hsz]
    have hcons : bs s = s[0] :: bs (s.extract 1 s.size) := by
      rw [bs_tail]
      have h : 0 < (bs s).length := hsz
      have := List.drop_eq_getElem_cons h
      rw [List.drop_zero] at this
      exact this
    by_cases h0 : s[0] = 124
    · have hspl : J.split (bs s) = fin (J.run (bs (s.extract 1 s.size)) ([], [], false)) := by
        rw [hcons, h0]
        show (match J.run _ _ with
          | some (out, f, false) => J.most (out ++ [f])
          | _ => Except.error 2) = _
        rfl
      rw [h0] at hix
      obtain ⟨w1, c1, hcv, hx, hsz1, hr⟩ := run_bytes_at w (s.extract 1 s.size)
      have hlt : (bs (s.extract 1 s.size)).length < s.size := by rw [bs_tail, List.length_drop]; show s.size - 1 < _; omega
      have htl : (bs (s.extract 1 s.size)).length = s.size - 1 := by rw [bs_tail, List.length_drop]; rfl
      have htl2 : (s.extract 1 s.size).size = s.size - 1 := htl
      rw [hspl]
      generalize hR : J.run (bs (s.extract 1 s.size)) ([], [], false) = R
      have HX := Lib.hid hx
      have HR := Lib.hid hr
      have HRR := Lib.hid hR
      clear hx hr hspl hcons hR
      go_enter Tryz.func124, Tryz.ntmps124
      go_wp2
      generalize s.extract 1 s.size = t at *
      go_loopw [4, 5, 6, 18] (fun vo vf vb i wr => ∃ k : Nat, k ≤ (bs t).length ∧ i = .int .i64 k ∧ ∃ out f b, J.run ((bs t).drop k) (out, f, b) = R ∧ out.length ≤ k ∧ f.length ≤ k ∧ wr.ownsRow w1.heap.size 9 1 vo out.length (cFs out) ∧ wr.ownsRow w1.heap.size tU8 1 vf f.length (bC f) ∧ vb = .bool b ∧ Below w1.heap.size w1 wr) (fun _ _ _ i _ => (bs t).length - (intOf i).toNat)
      case atStart => exact ⟨0, by omega, rfl, [], [], false, HRR.out, Nat.le_refl _, Nat.le_refl _, World.ownsRow_nil _ _ _ _, World.ownsRow_nil _ _ _ _, rfl, Below.refl _ _⟩
      case round =>
        obtain ⟨k, hk, rfl, out, f, b, hrun, hol, hfl, hoo, hof, rfl, hB⟩ := hrel
        by_cases hkt : k < (bs t).length
        · obtain ⟨ad2, e2, _, hcj⟩ := (HR.out.below (Nat.le_refl _) hB).at_ (j := k) (u := cU8 (bs t)[k]) (by rw [List.getElem?_map, List.getElem?_eq_getElem hkt]; rfl)
          injection e2 with e2
          subst e2
          rw [show (⟨w.heap.size, 0, none⟩ : Addr).add k = ⟨w.heap.size, k, none⟩ from by unfold Addr.add; split <;> simp [*]] at hcj
          rw [List.drop_eq_getElem_cons hkt] at hrun
          generalize hcc : (bs t)[k] = c8 at *
          change (J.step (out, f, b) c8).bind (J.run ((bs t).drop (k + 1))) = R at hrun
          have hszr := hB.size
          cases b with
          | true =>
            rcases kinds c8 with ⟨h1, he⟩ | ⟨h1, h2, he⟩ | ⟨h1, h2, he, e1, e2⟩
            · rw [step_sp (by rw [he]; rfl), Option.bind_some] at hrun
              have hn1 := bne_t h1
              clear he
              have hoo1 := hoo.alloc (.cells #[cU8 c8] tU8)
              have hof1 := hof.alloc (.cells #[cU8 c8] tU8)
              go_wp2_with (at_builtin; (refine wpList_append_own _ rfl _ _ 149 rfl w1.heap.size tU8 i0 (.int .u8 0) 1 1 Tryz.underlying149 hi hz0 hz1 hz2 rfl (by decide) _ _ _ rfl hof1 ⟨wr.heap.size, 0, none⟩ 1 1 [cU8 c8] rfl rfl (cell_one_new _ _ _) (fun x hx => by simp at hx; subst hx; rfl) (by unfold maxLen; omega) (by omega) (by simp; omega) ?_); intro v' w2 hown' hgrow _)
              have hB2 : Below w1.heap.size w1 w2 := (hB.alloc hszr _).grown hgrow (by simp; omega) (fun q hq => (hof.lt q hq).1)
              have hoo2 := own_apart hoo1 hof1 (by decide) hgrow
              have hof2 : w2.ownsRow w1.heap.size tU8 1 v' (f ++ [c8]).length (bC (f ++ [c8])) := by simpa [bC, Lib.byteCells] using hown'
              have HO2 := Lib.hid hoo2
              have HF2 := Lib.hid hof2
              have HB2 := Lib.hid hB2
              clear hoo1 hof1 hown' hgrow hoo hof hB hB2 hoo2 hof2
              go_wp2
              go_roundw
              case rel => exact ⟨k + 1, hkt, by go_num, out, f ++ [c8], false, hrun, by omega, by rw [List.length_append]; exact Nat.succ_le_succ hfl, HO2.out, HF2.out, rfl, HB2.out⟩
              case measure => simp [intOf]; omega
            · rw [step_sp (by rw [he]; rfl), Option.bind_some] at hrun
              have hn1 := bne_f h1
              have hn2 := bne_t h2
              clear he
              have hoo1 := hoo.alloc (.cells #[cU8 c8] tU8)
              have hof1 := hof.alloc (.cells #[cU8 c8] tU8)
              go_wp2_with (at_builtin; (refine wpList_append_own _ rfl _ _ 149 rfl w1.heap.size tU8 i0 (.int .u8 0) 1 1 Tryz.underlying149 hi hz0 hz1 hz2 rfl (by decide) _ _ _ rfl hof1 ⟨wr.heap.size, 0, none⟩ 1 1 [cU8 c8] rfl rfl (cell_one_new _ _ _) (fun x hx => by simp at hx; subst hx; rfl) (by unfold maxLen; omega) (by omega) (by simp; omega) ?_); intro v' w2 hown' hgrow _)
              have hB2 : Below w1.heap.size w1 w2 := (hB.alloc hszr _).grown hgrow (by simp; omega) (fun q hq => (hof.lt q hq).1)
              have hoo2 := own_apart hoo1 hof1 (by decide) hgrow
              have hof2 : w2.ownsRow w1.heap.size tU8 1 v' (f ++ [c8]).length (bC (f ++ [c8])) := by simpa [bC, Lib.byteCells] using hown'
              have HO2 := Lib.hid hoo2
              have HF2 := Lib.hid hof2
              have HB2 := Lib.hid hB2
              clear hoo1 hof1 hown' hgrow hoo hof hB hB2 hoo2 hof2
              go_wp2
              go_roundw
              case rel => exact ⟨k + 1, hkt, by go_num, out, f ++ [c8], false, hrun, by omega, by rw [List.length_append]; exact Nat.succ_le_succ hfl, HO2.out, HF2.out, rfl, HB2.out⟩
              case measure => simp [intOf]; omega
            · rw [step_no he, Option.bind_none] at hrun
              have hn1 := bne_f h1
              have hn2 := bne_f h2
              obtain rfl : none = R := hrun
              have HB2 := Lib.hid hB
              clear hoo hof hB
              go_wp2
              go_ret2
              exact ⟨rfl, HX.out.tr HB2.out⟩
          | false =>
            rcases kinds c8 with ⟨h1, he⟩ | ⟨h1, h2, he⟩ | ⟨h1, h2, he, e1, e2⟩
            · rw [show J.step (out, f, false) c8 = some (out ++ [f], [], false) from by rw [he]; rfl, Option.bind_some] at hrun
              clear he
              have h2 : ((c8.toNat : Int) == 92) = false := by have := eq_of_beq h1; rw [this]; rfl
              obtain ⟨A2, c2, rfl, hr2⟩ := rd_of_own hof
              have hstr := run_str (P := Tryz.prog) wr A2 _ c2 149 tU8 9 Tryz.underlying149 Tryz.underlying5 Tryz.underlying9 hr2
              have hoo1 := hoo.alloc (.cells #[.string (strOf f)] 9)
              go_wp2_with (at_builtin; (refine wpList_append_own _ rfl _ _ 219 rfl w1.heap.size 9 j0 (.string ⟨#[]⟩) 1 16 Tryz.underlying219 hj hy0 hy1 hy2 rfl (by decide) _ _ _ rfl hoo1 ⟨wr.heap.size, 0, none⟩ 1 1 [.string (strOf f)] rfl rfl (cell_one_new _ _ _) (fun x hx => by simp at hx; subst hx; rfl) (by unfold maxLen; omega) (by omega) (by simp; omega) ?_); intro v' w2 hown' hgrow _)
              have hB2 : Below w1.heap.size w1 w2 := (hB.alloc hszr _).grown hgrow (by simp; omega) (fun q hq => (hoo.lt q hq).1)
              have hoo2 : w2.ownsRow w1.heap.size 9 1 v' (out ++ [f]).length (cFs (out ++ [f])) := by simpa [cFs] using hown'
              have HO2 := Lib.hid hoo2
              have HB2 := Lib.hid hB2
              clear hoo1 hown' hgrow hoo hof hB hB2 hoo2 hr2
              go_wp2
              go_roundw
              case rel => exact ⟨k + 1, hkt, by go_num, out ++ [f], [], false, hrun, by rw [List.length_append]; exact Nat.succ_le_succ hol, Nat.zero_le _, HO2.out, World.ownsRow_nil _ _ _ _, rfl, HB2.out⟩
              case measure => simp [intOf]; omega
            · rw [show J.step (out, f, false) c8 = some (out, f, true) from by rw [he]; rfl, Option.bind_some] at hrun
              clear he
              have HO2 := Lib.hid hoo
              have HF2 := Lib.hid hof
              have HB2 := Lib.hid hB
              clear hoo hof hB
              go_wp2
              go_roundw
              case rel => exact ⟨k + 1, hkt, by go_num, out, f, true, hrun, by omega, by omega, HO2.out, HF2.out, rfl, HB2.out⟩
              case measure => simp [intOf]; omega
            · rw [step_other e1 e2, Option.bind_some] at hrun
              clear he e1 e2
              have hoo1 := hoo.alloc (.cells #[cU8 c8] tU8)
              have hof1 := hof.alloc (.cells #[cU8 c8] tU8)
              go_wp2_with (at_builtin; (refine wpList_append_own _ rfl _ _ 149 rfl w1.heap.size tU8 i0 (.int .u8 0) 1 1 Tryz.underlying149 hi hz0 hz1 hz2 rfl (by decide) _ _ _ rfl hof1 ⟨wr.heap.size, 0, none⟩ 1 1 [cU8 c8] rfl rfl (cell_one_new _ _ _) (fun x hx => by simp at hx; subst hx; rfl) (by unfold maxLen; omega) (by omega) (by simp; omega) ?_); intro v' w2 hown' hgrow _)
              have hB2 : Below w1.heap.size w1 w2 := (hB.alloc hszr _).grown hgrow (by simp; omega) (fun q hq => (hof.lt q hq).1)
              have hoo2 := own_apart hoo1 hof1 (by decide) hgrow
              have hof2 : w2.ownsRow w1.heap.size tU8 1 v' (f ++ [c8]).length (bC (f ++ [c8])) := by simpa [bC, Lib.byteCells] using hown'
              have HO2 := Lib.hid hoo2
              have HF2 := Lib.hid hof2
              have HB2 := Lib.hid hB2
              clear hoo1 hof1 hown' hgrow hoo hof hB hB2 hoo2 hof2
              go_wp2
              go_roundw
              case rel => exact ⟨k + 1, hkt, by go_num, out, f ++ [c8], false, hrun, by omega, by rw [List.length_append]; exact Nat.succ_le_succ hfl, HO2.out, HF2.out, rfl, HB2.out⟩
              case measure => simp [intOf]; omega
        · obtain rfl : k = (bs t).length := by omega
          rw [List.drop_length] at hrun
          obtain rfl : some (out, f, b) = R := hrun
          have hszr := hB.size
          cases b with
          | true =>
            have HB2 := Lib.hid hB
            clear hoo hof hB
            go_wp2
            go_ret2
            exact ⟨rfl, HX.out.tr HB2.out⟩
          | false =>
            obtain ⟨A2, c2, rfl, hr2⟩ := rd_of_own hof
            have hlen : (out ++ [f]).length = out.length + 1 := by simp
            by_cases hbig : 4096 < out.length + 1
            · have hmm : J.most (out ++ [f]) = .error 4 := by rw [J.most, if_pos (by omega)]
              have hstr := run_str (P := Tryz.prog) wr A2 _ c2 149 tU8 9 Tryz.underlying149 Tryz.underlying5 Tryz.underlying9 hr2
              have hoo1 := hoo.alloc (.cells #[.string (strOf f)] 9)
              go_wp2_with (at_builtin; (refine wpList_append_own _ rfl _ _ 219 rfl w1.heap.size 9 j0 (.string ⟨#[]⟩) 1 16 Tryz.underlying219 hj hy0 hy1 hy2 rfl (by decide) _ _ _ rfl hoo1 ⟨wr.heap.size, 0, none⟩ 1 1 [.string (strOf f)] rfl rfl (cell_one_new _ _ _) (fun x hx => by simp at hx; subst hx; rfl) (by unfold maxLen; omega) (by omega) (by simp; omega) ?_); intro v' w2 hown' hgrow _; obtain ⟨A3, c3, rfl, hr3⟩ := rd_of_own hown')
              have hB2 : Below w1.heap.size w1 w2 := (hB.alloc hszr _).grown hgrow (by simp; omega) (fun q hq => (hoo.lt q hq).1)
              have hoo2 : w2.ownsRow w1.heap.size 9 1 (.slice A3 (out.length + 1) c3) (out ++ [f]).length (cFs (out ++ [f])) := by simpa [cFs] using hown'
              have HO2 := Lib.hid hoo2
              have HB2 := Lib.hid hB2
              clear hoo1 hown' hgrow hoo hof hB hB2 hoo2 hr2
              have HR3 := Lib.hid hr3
              clear hr3
              go_wp2
              go_ret2
              exact ⟨by show SplitEnd (J.most (out ++ [f])) _ _; rw [hmm]; exact rfl, HX.out.tr HB2.out⟩
            · have hmm : J.most (out ++ [f]) = .ok (out ++ [f]) := by rw [J.most, if_neg (by omega)]
              have hstr := run_str (P := Tryz.prog) wr A2 _ c2 149 tU8 9 Tryz.underlying149 Tryz.underlying5 Tryz.underlying9 hr2
              have hoo1 := hoo.alloc (.cells #[.string (strOf f)] 9)
              go_wp2_with (at_builtin; (refine wpList_append_own _ rfl _ _ 219 rfl w1.heap.size 9 j0 (.string ⟨#[]⟩) 1 16 Tryz.underlying219 hj hy0 hy1 hy2 rfl (by decide) _ _ _ rfl hoo1 ⟨wr.heap.size, 0, none⟩ 1 1 [.string (strOf f)] rfl rfl (cell_one_new _ _ _) (fun x hx => by simp at hx; subst hx; rfl) (by unfold maxLen; omega) (by omega) (by simp; omega) ?_); intro v' w2 hown' hgrow _; obtain ⟨A3, c3, rfl, hr3⟩ := rd_of_own hown')
              have hB2 : Below w1.heap.size w1 w2 := (hB.alloc hszr _).grown hgrow (by simp; omega) (fun q hq => (hoo.lt q hq).1)
              have hoo2 : w2.ownsRow w1.heap.size 9 1 (.slice A3 (out.length + 1) c3) (out ++ [f]).length (cFs (out ++ [f])) := by simpa [cFs] using hown'
              have HO2 := Lib.hid hoo2
              have HB2 := Lib.hid hB2
              clear hoo1 hown' hgrow hoo hof hB hB2 hoo2 hr2
              have HR3 := Lib.hid hr3
              clear hr3
              go_wp2
              go_ret2
              exact ⟨by show SplitEnd (J.most (out ++ [f])) _ _; rw [hmm]; exact ⟨A3, c3, by rw [hlen]; rfl, by simpa [cFs] using HR3.out⟩, HX.out.tr HB2.out⟩
    · have hb0 : ((s[0].toNat : Int) == 124) = false := by
        rcases kinds s[0] with ⟨h1, he⟩ | ⟨h1, h2, he⟩ | ⟨h1, h2, he, e1, e2⟩
        · exact absurd he h0
        · exact h1
        · exact h1
      have hspl : J.split (bs s) = .error 2 := by
        rw [hcons]
        show (if (s[0] == 124) = true then _ else _) = _
        rw [if_neg (by simpa using h0)]
      rw [hspl]
      clear hspl hcons h0
      generalize s[0] = c0 at *
      go_enter Tryz.func124, Tryz.ntmps124
      go_wp2
      go_ret2
      exact ⟨rfl, Ext.rfl' _⟩
end Go.Proofs.YtbbgmlnfpnomiaaGreatDoor
end

section
/- Plain words: the reference's Split is the program's. -/
namespace Go.Proofs.YtbbgmlnfpnomiaaGreatDoor
namespace J
def rrun : List UInt8 → List (List UInt8) → List UInt8 → Bool → Option (List (List UInt8))
  | [], out, one, on => some (if on then out ++ [one] else out)
  | c :: l, out, one, on =>
    if on = false ∧ (c == 124) = false then none
    else if (c == 124) = true then rrun l (if on then out ++ [one] else out) [] true
    else if (c == 92) = true then
      match l with
      | [] => none
      | d :: l' => if special d then rrun l' out (one ++ [d]) on else none
    else rrun l out (one ++ [c]) on
theorem rr_cons (c : UInt8) (l : List UInt8) (out : List (List UInt8)) (one : List UInt8) (on : Bool) : rrun (c :: l) out one on =
    if on = false ∧ (c == 124) = false then none
    else if (c == 124) = true then rrun l (if on then out ++ [one] else out) [] true
    else if (c == 92) = true then
      match l with
      | [] => none
      | d :: l' => if special d then rrun l' out (one ++ [d]) on else none
    else rrun l out (one ++ [c]) on := by
  rw [rrun.eq_def]
def rsplit (l : List UInt8) : Except Nat (List (List UInt8)) := match rrun l [] [] false with
  | some out => most out
  | none => .error 2
def shut : Option St → Option (List (List UInt8))
  | some (out, f, false) => some (out ++ [f])
  | _ => none
theorem rrun_run (n : Nat) : ∀ l : List UInt8, l.length ≤ n → ∀ out one, rrun l out one true = shut (run l (out, one, false)) := by
  induction n with
  | zero => intro l h out one; cases l with | nil => rfl | cons c l => cases h
  | succ n ih =>
    intro l h out one
    cases l with
    | nil => rfl
    | cons c l =>
      have hl : l.length ≤ n := Nat.le_of_succ_le_succ h
      rw [rr_cons, if_neg (by simp)]
      rw [run]
      by_cases h1 : (c == 124) = true
      · rw [if_pos h1, ih l hl]
        have : c = 124 := by simpa using h1
        subst this
        rfl
      · rw [if_neg h1]
        by_cases h2 : (c == 92) = true
        · have : c = 92 := by simpa using h2
          subst this
          rw [if_pos h2, show step (out, one, false) 92 = some (out, one, true) from rfl, Option.bind_some]
          cases l with
          | nil => rfl
          | cons d l' =>
            show (if special d = true then _ else _) = _
            rw [run]
            by_cases hd : special d = true
            · rw [if_pos hd, ih l' (by simp at hl; omega), step_sp hd, Option.bind_some]
            · rw [if_neg hd, step_no (by simpa using hd), Option.bind_none]
              rfl
        · rw [if_neg h2, ih l hl, step_other (by simpa using h1) (by simpa using h2), Option.bind_some]
theorem split_cons (c : UInt8) (l : List UInt8) : split (c :: l) = if (c == 124) = true then (match run l ([], [], false) with
      | some (out, f, false) => most (out ++ [f])
      | _ => .error 2) else .error 2 := by
  unfold split
  rfl
theorem rsplit_split (l : List UInt8) : rsplit l = split l := by
  cases l with
  | nil => rfl
  | cons c l =>
    rw [split_cons]
    unfold rsplit
    rw [rr_cons]
    by_cases h1 : (c == 124) = true
    · rw [if_neg (by rw [h1]; simp), if_pos h1, if_pos h1, rrun_run l.length l (Nat.le_refl _)]
      show (match shut (run l ([], [], false)) with | some out => most out | none => .error 2) = _
      cases run l ([], [], false) with
      | none => rfl
      | some s =>
        obtain ⟨o, f, b⟩ := s
        cases b <;> rfl
    · rw [if_pos ⟨rfl, by simpa using h1⟩, if_neg h1]
end J
end Go.Proofs.YtbbgmlnfpnomiaaGreatDoor
end

section
/- The walk of the reference's Split. -/
namespace Go.Proofs.YtbbgmlnfpnomiaaGreatDoor
open Go.RowKit
def rfin (r : Option (List (List UInt8))) : Except Nat (List (List UInt8)) := match r with
  | some out => J.most out
  | none => .error 2
theorem rr_no {c l out one} (h : (c == 124) = false) : J.rrun (c :: l) out one false = none := by rw [J.rr_cons, if_pos ⟨rfl, h⟩]
theorem rr_bar {c l out one on} (h : (c == 124) = true) : J.rrun (c :: l) out one on = J.rrun l (if on then out ++ [one] else out) [] true := by rw [J.rr_cons, if_neg (by rw [h]; simp), if_pos h]
theorem rr_end {c out one} (h : (c == 124) = false) (h2 : (c == 92) = true) : J.rrun [c] out one true = none := by rw [J.rr_cons, if_neg (by simp), if_neg (by simp [h]), if_pos h2]
theorem rr_esc {c d l out one} (h : (c == 124) = false) (h2 : (c == 92) = true) : J.rrun (c :: d :: l) out one true = if J.special d then J.rrun l out (one ++ [d]) true else none := by rw [J.rr_cons, if_neg (by simp), if_neg (by simp [h]), if_pos h2]
theorem rr_other {c l out one} (h : (c == 124) = false) (h2 : (c == 92) = false) : J.rrun (c :: l) out one true = J.rrun l out (one ++ [c]) true := by rw [J.rr_cons, if_neg (by simp), if_neg (by simp [h]), if_neg (by simp [h2])]
set_option maxHeartbeats 4000000 in
set_option maxRecDepth 100000 in
theorem rsplit_calls (s : ByteArray) (hs : s.size ≤ 1099511627776) (w : World) :
    Calls Tryz.prog 127 #[.string s] w fun e w' => SplitEnd (J.rsplit (bs s)) e w' ∧ Ext w w' := by
  obtain ⟨i0, hi, hz0, hz1, hz2⟩ := info_parts bByte
  obtain ⟨j0, hj, hy0, hy1, hy2⟩ := info_parts bStr
  have hixg : ∀ (j : Nat) (h : j < (bs s).length) (w : World), (Instr.index 9 (.string s) (.int .i64 (j : Int))).run Tryz.prog w = .ok (cU8 (bs s)[j]) w := by
    intro j h w
    have hjt' : j < s.size := h
    simp [go_sem, hjt']
    rfl
  have hls : (bs s).length = s.size := rfl
  have hspl : J.rsplit (bs s) = rfin (J.rrun (bs s) [] [] false) := rfl
  rw [hspl]
  generalize hR : J.rrun (bs s) [] [] false = R
  have HRR := Lib.hid hR
  have HIX := Lib.hid hixg
  clear hspl hR hixg
  go_enter Tryz.func127, Tryz.ntmps127
  go_wp2
  go_loopw [4, 5, 6, 7] (fun vo vf vb i wr => ∃ k : Nat, k ≤ (bs s).length ∧ i = .int .i64 k ∧ ∃ out one on, J.rrun ((bs s).drop k) out one on = R ∧ out.length ≤ k ∧ one.length ≤ k ∧ wr.ownsRow w.heap.size 9 1 vo out.length (cFs out) ∧ wr.ownsRow w.heap.size tU8 1 vf one.length (bC one) ∧ vb = .bool on ∧ Below w.heap.size w wr) (fun _ _ _ i _ => (bs s).length - (intOf i).toNat)
  case atStart => exact ⟨0, by omega, rfl, [], [], false, HRR.out, Nat.le_refl _, Nat.le_refl _, World.ownsRow_nil _ _ _ _, World.ownsRow_nil _ _ _ _, rfl, Below.refl _ _⟩
  case round =>
    obtain ⟨k, hk, rfl, out, one, on, hrun, hol, hfl, hoo, hof, rfl, hB⟩ := hrel
    have hszr := hB.size
    by_cases hkt : k < (bs s).length
    · have hix := HIX.out k hkt
      rw [List.drop_eq_getElem_cons hkt] at hrun
      generalize hcc : (bs s)[k] = c8 at *
      rcases kinds c8 with ⟨h1, he⟩ | ⟨h1, h2, he⟩ | ⟨h1, h2, he, e1, e2⟩
      · rw [rr_bar (by rw [he]; rfl)] at hrun
        have hn1 := bne_t h1
        clear he hcc
        cases on with
        | false =>
          have HO2 := Lib.hid hoo
          have HB2 := Lib.hid hB
          clear hoo hof hB
          go_wp2
          go_roundw
          case rel => exact ⟨k + 1, hkt, by go_num, out, [], true, hrun, by omega, Nat.zero_le _, HO2.out, World.ownsRow_nil _ _ _ _, rfl, HB2.out⟩
          case measure => simp [intOf]; omega
        | true =>
          obtain ⟨A2, c2, rfl, hr2⟩ := rd_of_own hof
          have hstr := run_str (P := Tryz.prog) wr A2 _ c2 149 tU8 9 Tryz.underlying149 Tryz.underlying5 Tryz.underlying9 hr2
          have hoo1 := hoo.alloc (.cells #[.string (strOf one)] 9)
          go_wp2_with (at_builtin; (refine wpList_append_own _ rfl _ _ 219 rfl w.heap.size 9 j0 (.string ⟨#[]⟩) 1 16 Tryz.underlying219 hj hy0 hy1 hy2 rfl (by decide) _ _ _ rfl hoo1 ⟨wr.heap.size, 0, none⟩ 1 1 [.string (strOf one)] rfl rfl (cell_one_new _ _ _) (fun x hx => by simp at hx; subst hx; rfl) (by unfold maxLen; omega) (by omega) (by simp; omega) ?_); intro v' w2 hown' hgrow _)
          have hB2 : Below w.heap.size w w2 := (hB.alloc hszr _).grown hgrow (by simp; omega) (fun q hq => (hoo.lt q hq).1)
          have hoo2 : w2.ownsRow w.heap.size 9 1 v' (out ++ [one]).length (cFs (out ++ [one])) := by simpa [cFs] using hown'
          have HO2 := Lib.hid hoo2
          have HB2 := Lib.hid hB2
          clear hoo1 hown' hgrow hoo hof hB hB2 hoo2 hr2
          go_wp2
          go_roundw
          case rel => exact ⟨k + 1, hkt, by go_num, out ++ [one], [], true, hrun, by rw [List.length_append]; exact Nat.succ_le_succ hol, Nat.zero_le _, HO2.out, World.ownsRow_nil _ _ _ _, rfl, HB2.out⟩
          case measure => simp [intOf]; omega
      · have hn1 := bne_f h1
        cases on with
        | false =>
          rw [rr_no (by rw [he]; rfl)] at hrun
          clear he hcc
          obtain rfl : none = R := hrun
          have HB2 := Lib.hid hB
          clear hoo hof hB
          go_wp2
          go_ret2
          exact ⟨rfl, HB2.out⟩
        | true =>
          by_cases hk1 : k + 1 < (bs s).length
          · rw [List.drop_eq_getElem_cons hk1, rr_esc (by rw [he]; rfl) (by rw [he]; rfl)] at hrun
            have hix1 := HIX.out (k + 1) hk1
            rw [Int.natCast_add, Int.natCast_one] at hix1
            clear he hcc
            generalize (bs s)[k + 1] = d8 at *
            rcases kinds d8 with ⟨g1, ge⟩ | ⟨g1, g2, ge⟩ | ⟨g1, g2, ge, -, -⟩
            · rw [if_pos (by rw [ge]; rfl)] at hrun
              have gn1 := bne_t g1
              clear ge
              have hoo1 := hoo.alloc (.cells #[cU8 d8] tU8)
              have hof1 := hof.alloc (.cells #[cU8 d8] tU8)
              go_wp2_with (at_builtin; (refine wpList_append_own _ rfl _ _ 149 rfl w.heap.size tU8 i0 (.int .u8 0) 1 1 Tryz.underlying149 hi hz0 hz1 hz2 rfl (by decide) _ _ _ rfl hof1 ⟨wr.heap.size, 0, none⟩ 1 1 [cU8 d8] rfl rfl (cell_one_new _ _ _) (fun x hx => by simp at hx; subst hx; rfl) (by unfold maxLen; omega) (by omega) (by simp; omega) ?_); intro v' w2 hown' hgrow _)
              have hB2 : Below w.heap.size w w2 := (hB.alloc hszr _).grown hgrow (by simp; omega) (fun q hq => (hof.lt q hq).1)
              have hoo2 := own_apart hoo1 hof1 (by decide) hgrow
              have hof2 : w2.ownsRow w.heap.size tU8 1 v' (one ++ [d8]).length (bC (one ++ [d8])) := by simpa [bC, Lib.byteCells] using hown'
              have HO2 := Lib.hid hoo2
              have HF2 := Lib.hid hof2
              have HB2 := Lib.hid hB2
              clear hoo1 hof1 hown' hgrow hoo hof hB hB2 hoo2 hof2
              go_wp2
              go_roundw
              case rel => exact ⟨k + 2, hk1, by go_num, out, one ++ [d8], true, hrun, by omega, by rw [List.length_append]; exact Nat.le_succ_of_le (Nat.succ_le_succ hfl), HO2.out, HF2.out, rfl, HB2.out⟩
              case measure => simp [intOf]; omega
            · rw [if_pos (by rw [ge]; rfl)] at hrun
              have gn1 := bne_f g1
              have gn2 := bne_t g2
              clear ge
              have hoo1 := hoo.alloc (.cells #[cU8 d8] tU8)
              have hof1 := hof.alloc (.cells #[cU8 d8] tU8)
              go_wp2_with (at_builtin; (refine wpList_append_own _ rfl _ _ 149 rfl w.heap.size tU8 i0 (.int .u8 0) 1 1 Tryz.underlying149 hi hz0 hz1 hz2 rfl (by decide) _ _ _ rfl hof1 ⟨wr.heap.size, 0, none⟩ 1 1 [cU8 d8] rfl rfl (cell_one_new _ _ _) (fun x hx => by simp at hx; subst hx; rfl) (by unfold maxLen; omega) (by omega) (by simp; omega) ?_); intro v' w2 hown' hgrow _)
              have hB2 : Below w.heap.size w w2 := (hB.alloc hszr _).grown hgrow (by simp; omega) (fun q hq => (hof.lt q hq).1)
              have hoo2 := own_apart hoo1 hof1 (by decide) hgrow
              have hof2 : w2.ownsRow w.heap.size tU8 1 v' (one ++ [d8]).length (bC (one ++ [d8])) := by simpa [bC, Lib.byteCells] using hown'
              have HO2 := Lib.hid hoo2
              have HF2 := Lib.hid hof2
              have HB2 := Lib.hid hB2
              clear hoo1 hof1 hown' hgrow hoo hof hB hB2 hoo2 hof2
              go_wp2
              go_roundw
              case rel => exact ⟨k + 2, hk1, by go_num, out, one ++ [d8], true, hrun, by omega, by rw [List.length_append]; exact Nat.le_succ_of_le (Nat.succ_le_succ hfl), HO2.out, HF2.out, rfl, HB2.out⟩
              case measure => simp [intOf]; omega
            · rw [if_neg (by rw [ge]; simp)] at hrun
              have gn1 := bne_f g1
              have gn2 := bne_f g2
              clear ge
              obtain rfl : none = R := hrun
              have HB2 := Lib.hid hB
              clear hoo hof hB
              go_wp2
              go_ret2
              exact ⟨rfl, HB2.out⟩
          · have hd : (bs s).drop (k + 1) = [] := List.drop_of_length_le (by omega)
            rw [hd, rr_end (by rw [he]; rfl) (by rw [he]; rfl)] at hrun
            clear he hcc hd
            obtain rfl : none = R := hrun
            have HB2 := Lib.hid hB
            clear hoo hof hB
            go_wp2
            go_ret2
            exact ⟨rfl, HB2.out⟩
      · have hn1 := bne_f h1
        clear hcc
        cases on with
        | false =>
          rw [rr_no e1] at hrun
          clear he e1 e2
          obtain rfl : none = R := hrun
          have HB2 := Lib.hid hB
          clear hoo hof hB
          go_wp2
          go_ret2
          exact ⟨rfl, HB2.out⟩
        | true =>
          rw [rr_other e1 e2] at hrun
          clear he e1 e2
          have hoo1 := hoo.alloc (.cells #[cU8 c8] tU8)
          have hof1 := hof.alloc (.cells #[cU8 c8] tU8)
          go_wp2_with (at_builtin; (refine wpList_append_own _ rfl _ _ 149 rfl w.heap.size tU8 i0 (.int .u8 0) 1 1 Tryz.underlying149 hi hz0 hz1 hz2 rfl (by decide) _ _ _ rfl hof1 ⟨wr.heap.size, 0, none⟩ 1 1 [cU8 c8] rfl rfl (cell_one_new _ _ _) (fun x hx => by simp at hx; subst hx; rfl) (by unfold maxLen; omega) (by omega) (by simp; omega) ?_); intro v' w2 hown' hgrow _)
          have hB2 : Below w.heap.size w w2 := (hB.alloc hszr _).grown hgrow (by simp; omega) (fun q hq => (hof.lt q hq).1)
          have hoo2 := own_apart hoo1 hof1 (by decide) hgrow
          have hof2 : w2.ownsRow w.heap.size tU8 1 v' (one ++ [c8]).length (bC (one ++ [c8])) := by simpa [bC, Lib.byteCells] using hown'
          have HO2 := Lib.hid hoo2
          have HF2 := Lib.hid hof2
          have HB2 := Lib.hid hB2
          clear hoo1 hof1 hown' hgrow hoo hof hB hB2 hoo2 hof2
          go_wp2
          go_roundw
          case rel => exact ⟨k + 1, hkt, by go_num, out, one ++ [c8], true, hrun, by omega, by rw [List.length_append]; exact Nat.succ_le_succ hfl, HO2.out, HF2.out, rfl, HB2.out⟩
          case measure => simp [intOf]; omega
    · obtain rfl : k = (bs s).length := by omega
      rw [List.drop_length] at hrun
      obtain rfl : some (if on then out ++ [one] else out) = R := hrun
      cases on with
      | false =>
        have hm : rfin (some out) = J.most out := rfl
        obtain ⟨A3, c3, rfl, hr3⟩ := rd_of_own hoo
        have HR3 := Lib.hid hr3
        have HB2 := Lib.hid hB
        clear hoo hof hB hr3
        by_cases hbig : 4096 < out.length
        · have hmm : J.most out = .error 4 := by rw [J.most, if_pos (by omega)]
          go_wp2
          go_ret2
          exact ⟨rfl, HB2.out⟩
        · have hmm : J.most out = .ok out := by rw [J.most, if_neg (by omega)]
          go_wp2
          go_ret2
          exact ⟨⟨A3, c3, rfl, HR3.out⟩, HB2.out⟩
      | true =>
        obtain ⟨A2, c2, rfl, hr2⟩ := rd_of_own hof
        have hlen : (out ++ [one]).length = out.length + 1 := by simp
        by_cases hbig : 4096 < out.length + 1
        · have hmm : J.most (out ++ [one]) = .error 4 := by rw [J.most, if_pos (by omega)]
          have hstr := run_str (P := Tryz.prog) wr A2 _ c2 149 tU8 9 Tryz.underlying149 Tryz.underlying5 Tryz.underlying9 hr2
          have hoo1 := hoo.alloc (.cells #[.string (strOf one)] 9)
          go_wp2_with (at_builtin; (refine wpList_append_own _ rfl _ _ 219 rfl w.heap.size 9 j0 (.string ⟨#[]⟩) 1 16 Tryz.underlying219 hj hy0 hy1 hy2 rfl (by decide) _ _ _ rfl hoo1 ⟨wr.heap.size, 0, none⟩ 1 1 [.string (strOf one)] rfl rfl (cell_one_new _ _ _) (fun x hx => by simp at hx; subst hx; rfl) (by unfold maxLen; omega) (by omega) (by simp; omega) ?_); intro v' w2 hown' hgrow _; obtain ⟨A3, c3, rfl, hr3⟩ := rd_of_own hown')
          have hB2 : Below w.heap.size w w2 := (hB.alloc hszr _).grown hgrow (by simp; omega) (fun q hq => (hoo.lt q hq).1)
          have hoo2 : w2.ownsRow w.heap.size 9 1 (.slice A3 (out.length + 1) c3) (out ++ [one]).length (cFs (out ++ [one])) := by simpa [cFs] using hown'
          have HO2 := Lib.hid hoo2
          have HB2 := Lib.hid hB2
          clear hoo1 hown' hgrow hoo hof hB hB2 hoo2 hr2
          have HR3 := Lib.hid hr3
          clear hr3
          go_wp2
          go_ret2
          exact ⟨by show SplitEnd (J.most (out ++ [one])) _ _; rw [hmm]; exact rfl, HB2.out⟩
        · have hmm : J.most (out ++ [one]) = .ok (out ++ [one]) := by rw [J.most, if_neg (by omega)]
          have hstr := run_str (P := Tryz.prog) wr A2 _ c2 149 tU8 9 Tryz.underlying149 Tryz.underlying5 Tryz.underlying9 hr2
          have hoo1 := hoo.alloc (.cells #[.string (strOf one)] 9)
          go_wp2_with (at_builtin; (refine wpList_append_own _ rfl _ _ 219 rfl w.heap.size 9 j0 (.string ⟨#[]⟩) 1 16 Tryz.underlying219 hj hy0 hy1 hy2 rfl (by decide) _ _ _ rfl hoo1 ⟨wr.heap.size, 0, none⟩ 1 1 [.string (strOf one)] rfl rfl (cell_one_new _ _ _) (fun x hx => by simp at hx; subst hx; rfl) (by unfold maxLen; omega) (by omega) (by simp; omega) ?_); intro v' w2 hown' hgrow _; obtain ⟨A3, c3, rfl, hr3⟩ := rd_of_own hown')
          have hB2 : Below w.heap.size w w2 := (hB.alloc hszr _).grown hgrow (by simp; omega) (fun q hq => (hoo.lt q hq).1)
          have hoo2 : w2.ownsRow w.heap.size 9 1 (.slice A3 (out.length + 1) c3) (out ++ [one]).length (cFs (out ++ [one])) := by simpa [cFs] using hown'
          have HO2 := Lib.hid hoo2
          have HB2 := Lib.hid hB2
          clear hoo1 hown' hgrow hoo hof hB hB2 hoo2 hr2
          have HR3 := Lib.hid hr3
          clear hr3
          go_wp2
          go_ret2
          exact ⟨by show SplitEnd (J.most (out ++ [one])) _ _; rw [hmm]; exact ⟨A3, c3, by rw [hlen]; rfl, by simpa [cFs] using HR3.out⟩, HB2.out⟩
end Go.Proofs.YtbbgmlnfpnomiaaGreatDoor
end

section
/- The walks of the law's own small functions. -/
set_option linter.unusedVariables false
namespace Go.Proofs.YtbbgmlnfpnomiaaGreatDoor
open Go.RowKit
theorem take_eq_succ {α : Type} {a b : List α} {k : Nat} (h : a.take k = b.take k) (ha : k < a.length) (hb : k < b.length) (e : a[k] = b[k]) : a.take (k + 1) = b.take (k + 1) := by
  rw [List.take_succ_eq_append_getElem ha, List.take_succ_eq_append_getElem hb, h, e]
abbrev cI64s (l : List Int) : List Value := l.map fun n => Value.int .i64 n
set_option maxHeartbeats 1000000 in
set_option maxRecDepth 100000 in
theorem ints_calls (la lb : List Int) (A B : Option Addr) (c d : Nat) (w : World) (hA : Rd w A (cI64s la)) (hB : Rd w B (cI64s lb)) (hla : la.length ≤ 9223372036854775807) (hlb : lb.length ≤ 9223372036854775807) :
    Calls Tryz.prog 108 #[.slice A la.length c, .slice B lb.length d] w fun e w' => e = .returned (.bool (decide (la = lb))) ∧ Ext w w' := by
  have HA := Lib.hid hA
  have HB := Lib.hid hB
  clear hA hB
  by_cases hll : la.length = lb.length
  · have hbe : ((la.length : Int) != (lb.length : Int)) = false := by rw [hll]; simp
    go_enter Tryz.func108, Tryz.ntmps108
    go_wp2
    go_loopw [5] (fun i wr => ∃ k : Nat, k ≤ la.length ∧ i = .int .i64 k ∧ la.take k = lb.take k ∧ Ext w wr) (fun i _ => la.length - (intOf i).toNat)
    case atStart => exact ⟨0, by omega, rfl, rfl, Ext.rfl' _⟩
    case round =>
      obtain ⟨k, hk, rfl, htk, hx⟩ := hrel
      by_cases hlt : k < la.length
      · obtain ⟨ad, rfl, _, hc⟩ := (HA.out.ext hx).at_ (j := k) (u := .int .i64 la[k]) (by simp [hlt])
        have hlt2 : k < lb.length := by omega
        obtain ⟨bd, rfl, _, hd⟩ := (HB.out.ext hx).at_ (j := k) (u := .int .i64 lb[k]) (by simp [hlt2])
        have HX := Lib.hid hx
        have HT := Lib.hid htk
        clear hx htk
        have htn := fun e => take_eq_succ HT.out hlt hlt2 e
        have hne : la[k] ≠ lb[k] → ¬ la = lb := fun h e => h (by simp [e])
        have HN := Lib.hid htn
        have HNE := Lib.hid hne
        clear htn hne
        generalize la[k] = x at *
        generalize lb[k] = y at *
        by_cases hxy : x = y
        · have h1 : (x == y) = true := by simpa using hxy
          have h3 : (x != y) = false := by rw [bne, h1]; rfl
          have HXY := Lib.hid hxy
          clear hxy
          go_wp2
          go_region
          go_wp2
          go_roundw
          case rel => exact ⟨k + 1, hlt, by go_num, HN.out HXY.out, HX.out.drew⟩
          case measure => simp [intOf]; omega
        · have h1 : (x == y) = false := by simpa using hxy
          have h3 : (x != y) = true := by rw [bne, h1]; rfl
          have hfin := decide_eq_false (HNE.out hxy)
          go_wp2
          go_region
          go_wp2
          go_ret
          exact ⟨by rw [hfin]; rfl, HX.out.drew⟩
      · obtain rfl : k = la.length := by omega
        have HX := Lib.hid hx
        rw [List.take_length, hll, List.take_length] at htk
        have hfin := decide_eq_true htk
        clear hx htk
        go_wp2
        go_ret
        exact ⟨by rw [hfin]; rfl, HX.out⟩
  · have hbe : ((la.length : Int) == (lb.length : Int)) = false := by simp; omega
    have hbn := bne_f hbe
    have hfin : decide (la = lb) = false := decide_eq_false fun e => hll (by rw [e])
    go_enter Tryz.func108, Tryz.ntmps108
    go_wp2
    go_ret
    exact ⟨by rw [hfin]; rfl, Ext.rfl' _⟩
/-- Are fields few, and short? -/
def shortB (l : List ByteArray) : Bool := decide (l.length ≤ 100 ∧ ∀ s ∈ l, s.size ≤ 200)
end Go.Proofs.YtbbgmlnfpnomiaaGreatDoor
end

section
/- The walks of field.Map at the functions that are handed to it, of Num, twice, doubled. -/
set_option linter.unusedVariables false
namespace Go.Proofs.YtbbgmlnfpnomiaaGreatDoor
open Go.RowKit Go.Sort
theorem bI64 : (Tryz.prog.info? 2).map (fun i => (i.zero, i.size, i.bytes)) = some (some (.int .i64 0), 1, 8) := by kernel_rfl
theorem drewN_heap (w : World) (k : Nat) : (w.drewN k).heap = w.heap := by cases w; rfl
theorem ext_grow (w : World) (k : Nat) (os : Array Obj) : Ext w (grow (w.drewN k) os) := by
  refine ⟨rfl, rfl, rfl, ?_, fun j hj => ?_⟩
  · show w.heap.size ≤ (w.heap ++ os).size
    simp
  · show (w.heap ++ os)[j]? = w.heap[j]?
    rw [Array.getElem?_append_left hj]
/-- Two times a number, as an int64 keeps it. -/
def dbl (n : Int) : Int := wrap64 (2 * n)
/-- What the walks of numbers in words read of the library's variables. -/
def TabOk (w : World) : Prop := Lib.TabIs Tryz.prog w "internal/strconv.uint64pow10" .u64 Lib.pow10Tab
theorem num_calls (n : Int) (h0 : -9223372036854775808 ≤ n) (h1 : n ≤ 9223372036854775807) (w : World) (ht : TabOk w) :
    Calls Tryz.prog 131 #[.int .i64 n] w fun e w' => e = .returned (.string (strOf (Lib.itoa n))) ∧ Ext w w' := by
  have HT := Lib.hid ht
  clear ht
  go_enter Tryz.func131, Tryz.ntmps131
  go_wp2_with fail
  refine (Tryz.strconv_FormatInt_10 n h0 h1 _ HT.out).mono ?_
  rintro e w' ⟨rfl, k, os, rfl⟩
  go_wp2
  go_ret
  refine ⟨rfl, ?_⟩
  exact ext_grow _ _ _
theorem ownsRow_kept {w w' : World} {B : Nat} {e : TypeId} {v : Value} {n : Nat} {xs : List Value} (h : w.ownsRow B e 1 v n xs) (hk : ∀ k, k < w.heap.size → w'.heap[k]? = w.heap[k]?) : w'.ownsRow B e 1 v n xs := by
  obtain ⟨hx, ho⟩ := h
  refine ⟨hx, ?_⟩
  rcases ho with ho | ⟨g, cap, cur, h1, h2, h3, h4⟩
  · exact .inl ho
  · refine .inr ⟨g, cap, cur, h1, h2, (hk g ?_).trans h3, h4⟩
    rcases Nat.lt_or_ge g w.heap.size with h' | h'
    · exact h'
    · simp [Array.getElem?_eq_none h'] at h3
/-- Numbers in words. -/
abbrev numB (n : Int) : ByteArray := strOf (Lib.itoa n)
theorem num_map (l : List Int) (k : Nat) (h : k < l.length) : (l.take (k + 1)).map numB = (l.take k).map numB ++ [numB l[k]] := by
  rw [List.take_succ_eq_append_getElem h, List.map_append]
  rfl
set_option maxHeartbeats 1000000 in
set_option maxRecDepth 100000 in
theorem mapNum_calls (l : List Int) (hb : ∀ n ∈ l, -9223372036854775808 ≤ n ∧ n ≤ 9223372036854775807) (A : Option Addr) (c : Nat) (w : World) (hA : Rd w A (cI64s l)) (hl : l.length ≤ 1099511627776) (ht : ∀ w', Ext w w' → TabOk w') :
    Calls Tryz.prog 279 #[.slice A l.length c, .func (.func 131) #[] #[]] w fun e w' => (∃ v, e = .returned v ∧ w'.ownsRow w.heap.size 9 1 v l.length (cStrs (l.map numB))) ∧ Ext w w' := by
  obtain ⟨j0, hj, hy0, hy1, hy2⟩ := info_parts bStr
  have HA := Lib.hid hA
  have HT := Lib.hid ht
  have HBD := Lib.hid hb
  clear hA ht hb
  go_enter Tryz.func279, Tryz.ntmps279
  go_wp2
  go_loopw [5, 10] (fun v i wr => ∃ k : Nat, k ≤ l.length ∧ i = .int .i64 k ∧ wr.ownsRow w.heap.size 9 1 v k (cStrs ((l.take k).map numB)) ∧ Below w.heap.size w wr) (fun _ i _ => l.length - (intOf i).toNat)
  case atStart => exact ⟨0, by omega, rfl, World.ownsRow_nil _ _ _ _, Below.refl _ _⟩
  case round =>
    obtain ⟨k, hk, rfl, hoo, hB⟩ := hrel
    by_cases hlt : k < l.length
    · obtain ⟨ad, rfl, _, hc⟩ := (HA.out.ext hB).at_ (j := k) (u := .int .i64 l[k]) (by simp [hlt])
      have hnb := HBD.out l[k] (by simp)
      have HS := Lib.hid (num_map l k hlt)
      have HOO := Lib.hid hoo
      have HBB := Lib.hid hB
      have hT := HT.out _ hB
      have HTT := Lib.hid hT
      clear hoo hB hT
      generalize l[k] = n at *
      go_wp2_with fail
      refine (num_calls n hnb.1 hnb.2 _ HTT.out).mono ?_
      rintro e w1 ⟨rfl, hx⟩
      have hsz0 := HBB.out.size
      have hB1 := HBB.out.trans (hx.mono hsz0)
      have hoo1 := ownsRow_kept HOO.out hx.block
      have hsz1 := hB1.size
      clear hx
      have hoo2 := hoo1.alloc (.cells #[.string (numB n)] 9)
      go_wp2_with (at_builtin; (refine wpList_append_own _ rfl _ _ 219 rfl w.heap.size 9 j0 (.string ⟨#[]⟩) 1 16 Tryz.underlying219 hj hy0 hy1 hy2 rfl (by decide) _ _ _ rfl hoo2 ⟨w1.heap.size, 0, none⟩ 1 1 [.string (numB n)] rfl rfl (cell_one_new _ _ _) (fun x hx => by simp at hx; subst hx; rfl) (by unfold maxLen; omega) (by omega) (by simp; omega) ?_); intro v' w2 hown' hgrow _)
      have hB2 : Below w.heap.size w w2 := (hB1.alloc hsz1 _).grown hgrow (by simp; omega) (fun q hq => (hoo1.lt q hq).1)
      have HO2 := Lib.hid hown'
      have HB2 := Lib.hid hB2
      clear hown' hgrow hB1 hB2 hoo1 hoo2
      go_wp2
      go_roundw
      case rel => exact ⟨k + 1, hlt, by go_num, by rw [HS.out]; simpa [cStrs] using HO2.out, HB2.out⟩
      case measure => simp [intOf]; omega
    · obtain rfl : k = l.length := by omega
      rw [List.take_length] at hoo
      have HR := Lib.hid hoo
      have HB2 := Lib.hid hB
      clear hoo hB
      go_wp2
      go_ret
      exact ⟨⟨_, rfl, HR.out⟩, HB2.out⟩
theorem TabOk.all {w : World} (h : TabOk w) : ∀ w', Ext w w' → TabOk w' := Lib.tabBelow_of_tabIs h
theorem dbl_map (l : List Int) (k : Nat) (h : k < l.length) : (l.take (k + 1)).map dbl = (l.take k).map dbl ++ [dbl l[k]] := by
  rw [List.take_succ_eq_append_getElem h, List.map_append]
  rfl
end Go.Proofs.YtbbgmlnfpnomiaaGreatDoor
end

section
/- The walks of field.Nums, of the reference's Num and Nums. -/
set_option linter.unusedVariables false
namespace Go.Proofs.YtbbgmlnfpnomiaaGreatDoor
open Go.RowKit Go.Sort
def I64 (n : Int) : Prop := -9223372036854775808 ≤ n ∧ n ≤ 9223372036854775807
/-- Numbers between commas. -/
def numsL (l : List Int) : List UInt8 := Lib.join (l.map Lib.itoa) [44]
theorem lens_le (l : List Int) (hb : ∀ n ∈ l, I64 n) : Lib.lens (l.map Lib.itoa) ≤ 21 * l.length := by
  induction l with
  | nil => exact Nat.le_refl 0
  | cons n l ih =>
    have h1 := Lib.itoa_length_le n (hb n (by simp)).1 (hb n (by simp)).2
    have h2 := ih (fun m hm => hb m (by simp [hm]))
    rw [List.map_cons, List.length_cons]
    have e : Lib.lens (Lib.itoa n :: l.map Lib.itoa) = (Lib.itoa n).length + Lib.lens (l.map Lib.itoa) := by simp [Lib.lens]
    omega
theorem numsL_len (l : List Int) (hb : ∀ n ∈ l, I64 n) : (numsL l).length ≤ 22 * l.length := by
  cases l with
  | nil => exact Nat.le_refl 0
  | cons n l =>
    have h := lens_le (n :: l) hb
    rw [List.map_cons] at h
    rw [numsL, List.map_cons, Lib.join_length, List.length_map]
    simp only [List.length_cons, List.length_nil] at h ⊢
    omega
set_option maxHeartbeats 1000000 in
set_option maxRecDepth 100000 in
theorem nums_calls (l : List Int) (hb : ∀ n ∈ l, I64 n) (A : Option Addr) (c : Nat) (w : World) (hA : Rd w A (cI64s l)) (hl : l.length ≤ 1099511627776) (ht : TabOk w) :
    Calls Tryz.prog 228 #[.slice A l.length c] w fun e w' => e = .returned (.string (strOf (numsL l))) ∧ Ext w w' := by
  have HM := Lib.hid (mapNum_calls l hb A c w hA hl ht.all)
  have hlen := numsL_len l hb
  have hmap : (l.map numB).map (·.data.toList) = l.map Lib.itoa := by rw [List.map_map]; rfl
  clear hA ht
  go_enter Tryz.func228, Tryz.ntmps228
  go_wp2_with fail
  refine HM.out.mono ?_
  rintro e w1 ⟨⟨v, rfl, hown⟩, hx⟩
  have HX := Lib.hid hx
  clear hx
  rcases hown.2 with ⟨rfl, h0⟩ | ⟨g, cap, cur, rfl, hbg, hg, hnc, _⟩
  · have hl0 : l = [] := List.eq_nil_of_length_eq_zero h0
    subst hl0
    go_wp2_with fail
    refine (Tryz.strings_Join_none none 0 _ _).mono ?_
    rintro e w2 ⟨rfl, rfl⟩
    go_wp2
    go_ret
    exact ⟨rfl, HX.out⟩
  · have hcells : ∀ (j : Nat) x, (l.map numB)[j]? = some x → w1.cell? ⟨g, 0 + j, none⟩ = some (.string x) := by
      intro j x hj
      have := hown.cells (g := g) rfl j (.string x) (by rw [List.getElem?_map, hj]; rfl)
      rw [show (⟨g, 0, none⟩ : Addr).add j = ⟨g, 0 + j, none⟩ from by unfold Addr.add; split <;> simp [*]] at this
      exact this
    have hgs : g < w1.heap.size := by
      rcases Nat.lt_or_ge g w1.heap.size with h' | h'
      · exact h'
      · simp [Array.getElem?_eq_none h'] at hg
    have HJ := Lib.hid (Tryz.strings_Join g 0 cap (l.map numB) ⟨#[44]⟩ w1 hcells hgs (by rw [List.length_map]; omega) (by rw [List.length_map]; exact hnc) (by rw [hmap]; exact Nat.le_trans hlen (by omega)))
    rw [hmap, List.length_map] at HJ
    clear hcells hown hg
    go_wp2_with fail
    refine HJ.out.mono ?_
    rintro e w2 ⟨rfl, hx⟩
    have HY := Lib.hid (HX.out.tr hx)
    clear hx
    go_wp2
    go_ret
    exact ⟨rfl, HY.out⟩
end Go.Proofs.YtbbgmlnfpnomiaaGreatDoor
end

section
/- The walks of the reference's Num and Nums. -/
set_option linter.unusedVariables false
namespace Go.Proofs.YtbbgmlnfpnomiaaGreatDoor
open Go.RowKit Go.Sort
/-- The digits ahead of the last. -/
def upper (n : Nat) : List UInt8 := if n < 10 then [] else Lib.decDigits (n / 10)
def lastD (n : Nat) : UInt8 := UInt8.ofNat (48 + n % 10)
theorem dec_split (n : Nat) : Lib.decDigits n = upper n ++ [lastD n] := by
  unfold upper lastD
  rw [Lib.decDigits]
  split
  · rename_i h
    rw [Nat.mod_eq_of_lt h]; rfl
  · rfl
theorem lastD_nat (n : Nat) : ((lastD n).toNat : Int) = 48 + (n : Int) % 10 := by
  unfold lastD
  rw [UInt8.toNat_ofNat_of_lt' (by have := Nat.mod_lt n (show 0 < 10 by decide); show 48 + n % 10 < 256; omega)]
  omega
theorem one_str (w : World) (x : Int) (b : UInt8) (h : x = (b.toNat : Int)) :
    (convert 149 9 (.slice (some ⟨w.heap.size, 0, none⟩) 1 1)).run Tryz.prog (w.alloc (.cells #[.int .u8 x] 5)) = .ok (.string (strOf [b])) (w.alloc (.cells #[.int .u8 x] 5)) := by
  subst h
  exact run_str (P := Tryz.prog) _ _ [b] 1 149 5 9 Tryz.underlying149 Tryz.underlying5 Tryz.underlying9 (Rd.fresh w [cU8 b] _ _)
theorem strOf_append (a b : List UInt8) : strOf a ++ strOf b = strOf (a ++ b) := by
  apply ByteArray.ext
  simp [strOf]
set_option maxHeartbeats 1000000 in
set_option maxRecDepth 100000 in
theorem rnum_pos (n : Nat) (h1 : n ≤ 9223372036854775807) (w : World) :
    Calls Tryz.prog 136 #[.int .i64 (n : Int)] w fun e w' => e = .returned (.string (strOf (Lib.decDigits n))) ∧ Ext w w' := by
  have hcv := one_str w (48 + (n : Int) % 10) (lastD n) (lastD_nat n).symm
  have hd := dec_split n
  have hDl : (Lib.decDigits n).length ≤ 21 := by
    have h := Lib.itoa_length_le (n : Int) (by omega) (by omega)
    rwa [Lib.itoa_nonneg] at h
  generalize Lib.decDigits n = D at *
  go_enter Tryz.func136, Tryz.ntmps136
  go_wp2
  go_loopw [0, 3] (fun x s wr => ∃ (m : Nat) (S : List UInt8), m ≤ n ∧ x = .int .i64 m ∧ s = .string (strOf S) ∧ upper m ++ S = D ∧ Ext w wr) (fun x _ _ => (intOf x).toNat)
  case atStart => exact ⟨n, [lastD n], Nat.le_refl _, rfl, rfl, hd.symm, (Ext.rfl' w).alloc _⟩
  case round =>
    obtain ⟨m, S, hm, rfl, rfl, hS, hx⟩ := hrel
    have hSl : S.length ≤ 21 := by
      rw [← hS, List.length_append] at hDl
      omega
    by_cases hlt : 10 ≤ m
    · have hcv2 := one_str wr (48 + (m : Int) / 10 % 10) (lastD (m / 10)) (by rw [lastD_nat]; rfl)
      have hu : upper m = upper (m / 10) ++ [lastD (m / 10)] := by
        rw [← dec_split]
        unfold upper
        rw [if_neg (by omega)]
      rw [hu, List.append_assoc] at hS
      have happ := strOf_append [lastD (m / 10)] S
      have HS := Lib.hid hS
      have HX := Lib.hid (hx.alloc (.cells #[.int .u8 (48 + (m : Int) / 10 % 10)] 5))
      have HAP := Lib.hid happ
      clear hS hx hu hd hcv happ
      generalize hg : lastD (m / 10) = g at *
      clear hg
      go_wp2
      go_roundw
      case rel => exact ⟨m / 10, [g] ++ S, by omega, by go_num, by rw [HAP.out], HS.out, HX.out⟩
      case measure => simp [intOf]; omega
    · have hu : upper m = [] := by unfold upper; rw [if_pos (by omega)]
      rw [hu, List.nil_append] at hS
      subst hS
      have HX := Lib.hid hx
      clear hx hd hcv hu
      go_wp2
      go_ret
      exact ⟨rfl, HX.out⟩
theorem itoa_neg' (n : Int) (h : n < 0) : Lib.itoa n = 45 :: Lib.decDigits n.natAbs := by rw [Lib.itoa, if_pos h]
set_option maxHeartbeats 1000000 in
set_option maxRecDepth 100000 in
theorem rnum_calls (n : Int) (hn : I64 n) (w : World) :
    Calls Tryz.prog 136 #[.int .i64 n] w fun e w' => e = .returned (.string (numB n)) ∧ Ext w w' := by
  by_cases h0 : 0 ≤ n
  · obtain ⟨m, rfl⟩ := Int.eq_ofNat_of_zero_le h0
    have h := rnum_pos m (by have := hn.2; omega) w
    show Calls _ _ _ _ fun e w' => e = .returned (.string (strOf (Lib.itoa (m : Int)))) ∧ Ext w w'
    rw [Lib.itoa_nonneg]
    exact h
  · have hlt : n < 0 := by omega
    by_cases hmin : n = -9223372036854775808
    · subst hmin
      have hd : numB (-9223372036854775808) = ⟨#[45, 57, 50, 50, 51, 51, 55, 50, 48, 51, 54, 56, 53, 52, 55, 55, 53, 56, 48, 56]⟩ := by
        show strOf (Lib.itoa _) = _
        rw [itoa_neg' _ (by decide)]
        simp [Lib.decDigits, strOf]
      rw [hd]
      go_enter Tryz.func136, Tryz.ntmps136
      go_wp2
      go_ret
      exact ⟨rfl, Ext.rfl' _⟩
    · have hr := hn.1
      have hR := Lib.hid (rnum_pos n.natAbs (by omega) w)
      have hneg : (0 : Int) - n = ((n.natAbs : Nat) : Int) := by omega
      have hneg2 : -n = ((n.natAbs : Nat) : Int) := by omega
      have happ := strOf_append [45] (Lib.decDigits n.natAbs)
      have hl := Lib.itoa_length_le n (by omega) (by omega)
      have hit : numB n = strOf (45 :: Lib.decDigits n.natAbs) := by show strOf (Lib.itoa n) = _; rw [itoa_neg' n hlt]
      rw [itoa_neg' n hlt] at hl
      rw [hit]
      generalize Lib.decDigits n.natAbs = D at *
      have hDl : D.length ≤ 21 := by rw [List.length_cons] at hl; omega
      have HAP := Lib.hid happ
      clear hl happ hit
      generalize hq : ((n.natAbs : Nat) : Int) = q at *
      have hmb : (n == -9223372036854775808) = false := by simpa using hmin
      go_enter Tryz.func136, Tryz.ntmps136
      go_wp2_with fail
      refine hR.out.mono ?_
      rintro e w1 ⟨rfl, hx⟩
      have HX := Lib.hid hx
      clear hx
      go_wp2
      go_ret
      exact ⟨by show Ending.returned (.string (strOf [45] ++ strOf D)) = _; rw [HAP.out]; rfl, HX.out⟩
end Go.Proofs.YtbbgmlnfpnomiaaGreatDoor
end

section
/- The walk of the reference's Nums. -/
set_option linter.unusedVariables false
namespace Go.Proofs.YtbbgmlnfpnomiaaGreatDoor
open Go.RowKit Go.Sort
theorem numsL_snoc (l : List Int) (n : Int) : numsL (l ++ [n]) = if l = [] then Lib.itoa n else numsL l ++ [44] ++ Lib.itoa n := by
  cases l with
  | nil => simp [numsL, Lib.join_one]
  | cons a l =>
    rw [if_neg (by simp), numsL, numsL, List.cons_append, List.map_cons, List.map_cons, Lib.join_cons, Lib.join_cons]
    simp [Lib.joinTail]
theorem numsL_take (l : List Int) (k : Nat) (h : k < l.length) : numsL (l.take (k + 1)) = if k = 0 then Lib.itoa l[k] else numsL (l.take k) ++ [44] ++ Lib.itoa l[k] := by
  rw [List.take_succ_eq_append_getElem h, numsL_snoc]
  by_cases hk : k = 0
  · subst hk; rfl
  · have hne : l.take k ≠ [] := fun e => by have := congrArg List.length e; rw [List.length_take, List.length_nil] at this; omega
    rw [if_neg hne, if_neg hk]
set_option maxHeartbeats 1000000 in
set_option maxRecDepth 100000 in
theorem rnums_calls (l : List Int) (hb : ∀ n ∈ l, I64 n) (A : Option Addr) (c : Nat) (w : World) (hA : Rd w A (cI64s l)) (hl : l.length ≤ 1099511627776) :
    Calls Tryz.prog 232 #[.slice A l.length c] w fun e w' => e = .returned (.string (strOf (numsL l))) ∧ Ext w w' := by
  have HA := Lib.hid hA
  have HBD := Lib.hid hb
  clear hA hb
  go_enter Tryz.func232, Tryz.ntmps232
  go_wp2
  go_loopw [3, 4] (fun s i wr => ∃ k : Nat, k ≤ l.length ∧ i = .int .i64 k ∧ s = .string (strOf (numsL (l.take k))) ∧ Ext w wr) (fun _ i _ => l.length - (intOf i).toNat)
  case atStart => exact ⟨0, by omega, rfl, rfl, Ext.rfl' _⟩
  case round =>
    obtain ⟨k, hk, rfl, rfl, hx⟩ := hrel
    by_cases hlt : k < l.length
    · obtain ⟨ad, rfl, _, hc⟩ := (HA.out.ext hx).at_ (j := k) (u := .int .i64 l[k]) (by simp [hlt])
      have hnb := HBD.out l[k] (by simp)
      have hn1 := Lib.itoa_length_le l[k] hnb.1 hnb.2
      have hpl := numsL_len (l.take k) (fun n hn => HBD.out n (List.mem_of_mem_take hn))
      have hpl2 : (numsL (l.take k)).length ≤ 30786325577728 := by
        refine Nat.le_trans hpl ?_
        rw [List.length_take]
        omega
      clear hpl
      have HS := Lib.hid (numsL_take l k hlt)
      have HX := Lib.hid hx
      clear hx
      have hqs : (numB l[k]).size ≤ 21 := hn1
      generalize hp : numsL (l.take k) = p at *
      have HN := Lib.hid (rnum_calls l[k] hnb wr)
      have HAP1 := Lib.hid (strOf_append p [44])
      have HAP2 := Lib.hid (strOf_append (p ++ [44]) (Lib.itoa l[k]))
      have HIT := Lib.hid (show numB l[k] = strOf (Lib.itoa l[k]) from rfl)
      clear hn1
      generalize Lib.itoa l[k] = t at *
      generalize numB l[k] = q at *
      generalize l[k] = n at *
      by_cases hk0 : k = 0
      · subst hk0
        rw [show ad.add 0 = ad from by unfold Addr.add; rfl] at hc
        have hp0 : p = [] := hp.symm
        have hs0 := HS.out
        rw [if_pos rfl] at hs0
        have HS0 := Lib.hid hs0
        have HQ := Lib.hid (show strOf [] ++ q = strOf t from by rw [HIT.out, strOf_append, List.nil_append])
        clear hs0 hp HAP1 HAP2
        subst hp0
        go_wp2_with fail
        refine HN.out.mono ?_
        rintro e w1 ⟨rfl, hx⟩
        have HX1 := Lib.hid (HX.out.tr hx)
        clear hx
        go_wp2
        go_roundw
        case rel => exact ⟨1, hlt, by go_num, by rw [HS0.out]; exact congrArg Value.string HQ.out, HX1.out⟩
        case measure => simp [intOf]; omega
      · clear hp
        go_wp2_with fail
        refine HN.out.mono ?_
        rintro e w1 ⟨rfl, hx⟩
        have HX1 := Lib.hid (HX.out.tr hx)
        clear hx
        go_wp2
        go_roundw
        case rel => exact ⟨k + 1, hlt, by go_num, by rw [HS.out, if_neg hk0, ← HAP2.out, ← HAP1.out, HIT.out], HX1.out⟩
        case measure => simp [intOf]; omega
    · obtain rfl : k = l.length := by omega
      rw [List.take_length]
      have HX := Lib.hid hx
      clear hx
      go_wp2
      go_ret
      exact ⟨rfl, HX.out⟩
end Go.Proofs.YtbbgmlnfpnomiaaGreatDoor
end
