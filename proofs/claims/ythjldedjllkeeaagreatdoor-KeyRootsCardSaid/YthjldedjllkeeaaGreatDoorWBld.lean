/- strings.Builder's WriteByte: the shelf's own walk turned to this translation by hand (its copyCheck has a line that the loader refuses; it is never reached). -/
import Derived.Test.YthjldedjllkeeaaGreatDoorCore
import Derived.Test.YthjldedjllkeeaaGreatDoorShelf
import Derived.Lib.Builder
import Derived.Lib.AppendStr
import Derived.Lib.UnsafeStr
import Derived.Lib.MakeNoZero
import Derived.Laws.Externs
import Derived.Laws.IdiomCopy
import Derived.Maps.AppendAt
namespace Go.Proofs.YthjldedjllkeeaaGreatDoor
open Go.RowKit
abbrev tB : TypeId := 209
abbrev tU8 : TypeId := 5
/-- K is not the row that the builder b owns; what a write to the builder leaves alone. -/
def NotOwn (w : World) (b K : Nat) : Prop := ∀ v, w.cell? ⟨b, 1, none⟩ = some v → v.ownBlock ≠ some K
def BK (b : Nat) (w w' : World) : Prop := w.heap.size ≤ w'.heap.size ∧ ∀ K, K < w.heap.size → K ≠ b → NotOwn w b K → w'.heap[K]? = w.heap[K]? ∧ NotOwn w' b K
theorem BK.refl (b : Nat) (w : World) : BK b w w := ⟨Nat.le_refl _, fun _ _ _ h => ⟨rfl, h⟩⟩
theorem BK.trans {b : Nat} {w w1 w2 : World} (h : BK b w w1) (k : BK b w1 w2) : BK b w w2 :=
  ⟨Nat.le_trans h.1 k.1, fun K hK hb hn => by
    obtain ⟨h1, h2⟩ := h.2 K hK hb hn
    obtain ⟨h3, h4⟩ := k.2 K (Nat.lt_of_lt_of_le hK h.1) hb h2
    exact ⟨h3.trans h1, h4⟩⟩
theorem bSize : (Tryz.prog.info? tB).map (·.size) = some 2 := by kernel_rfl
theorem bLies : liesAt Tryz.prog Tryz.prog.depth tB (2 / Tryz.prog.cellsOf tB) 0 tB 1 = true := by kernel_rfl
theorem bByte : (Tryz.prog.info? tU8).map (fun i => (i.zero, i.size, i.bytes)) = some (some (.int .u8 0), 1, 1) := by kernel_rfl
set_option maxHeartbeats 1000000 in
set_option maxRecDepth 100000 in
theorem copyCheck_used (b : Nat) (w : World) (h0 : w.cell? ⟨b, 0, none⟩ = some (.pointer (some ⟨b, 0, none⟩))) :
    Calls Tryz.prog 171 #[.pointer (some ⟨b, 0, none⟩)] w fun e w' => e = .returned (.tuple #[]) ∧ w' = w := by
  obtain ⟨j, hj, _⟩ := Option.map_eq_some_iff.1 bSize
  go_enter Tryz.func171, Tryz.ntmps171
  go_wp2
  rw [Lib.run_neq_ptr_same w _ Tryz.underlying207 hj]
  go_wp2
  go_end0
  exact ⟨rfl, rfl⟩
set_option maxHeartbeats 1000000 in
set_option maxRecDepth 100000 in
theorem copyCheck_fresh (b : Nat) (w : World) (h0 : w.cell? ⟨b, 0, none⟩ = some (.pointer none)) (hsh : w.shape? b = some (tB, 2)) (hfz : w.frozen? ⟨b, 0, none⟩ = false) :
    Calls Tryz.prog 171 #[.pointer (some ⟨b, 0, none⟩)] w fun e w' => e = .returned (.tuple #[]) ∧ w' = w.setCell ⟨b, 0, none⟩ (.pointer (some ⟨b, 0, none⟩)) := by
  obtain ⟨j, hj, hjs⟩ := Option.map_eq_some_iff.1 bSize
  go_enter Tryz.func171, Tryz.ntmps171
  go_wp2
  rw [Lib.run_to_unsafe w ⟨b, 0, none⟩ Tryz.underlying207 Tryz.underlying278 hj (by rw [hjs]; decide) hsh (Nat.zero_lt_succ 1)]
  simp only [Result.andThen]
  rw [Oper.upon_value]
  go_wp2
  rw [run_callFunc_extern Tryz.func192 (by kernel_rfl) (by kernel_rfl) (by kernel_rfl) (e := Extern.AbiNoEscape.same) (by kernel_rfl)]
  rw [Lib.run_noEscape]
  simp only [Result.andThen]
  rw [Oper.upon_value]
  go_wp2
  rw [Lib.run_from_unsafe w ⟨b, 0, none⟩ Tryz.underlying278 Tryz.underlying207 hj hsh bLies]
  simp only [Result.andThen]
  rw [Oper.upon_value]
  go_wp2
  go_end0
  exact ⟨rfl, rfl⟩
theorem copyCheck_calls (B b : Nat) (bs : List Value) (w : World) (h : Lib.IsBuilder tB tU8 B b bs w) :
    Calls Tryz.prog 171 #[.pointer (some ⟨b, 0, none⟩)] w fun e w' => e = .returned (.tuple #[]) ∧ (Lib.BuilderAt tB tU8 B b (.pointer (some ⟨b, 0, none⟩)) bs w' ∧ Below B w w' ∧ BK b w w') := by
  rcases h with h | h
  · refine (copyCheck_fresh b w h.cell0 h.shape h.frozen0).mono ?_
    rintro e w' ⟨rfl, rfl⟩
    refine ⟨rfl, h.used _, (Below.refl B w).setCell (p := ⟨b, 0, none⟩) h.1 _, by simp [World.setCell], fun K _ hb hn => ⟨Below.heap_setCell _ _ _ _ hb, fun v hv => hn v ?_⟩⟩
    rwa [World.cell?_setCell_other _ _ _ _ (by simp)] at hv
  · refine (copyCheck_used b w h.cell0).mono ?_
    rintro e w' ⟨rfl, rfl⟩
    exact ⟨rfl, h, Below.refl B _, BK.refl _ _⟩
set_option maxHeartbeats 2000000 in
set_option maxRecDepth 100000 in
theorem wbyte_at (B b : Nat) (bs : List Value) (c : Int) (w : World) (h : Lib.IsBuilder tB tU8 B b bs w) (hlen : bs.length + 1 ≤ 140737488355328) (hBw : B ≤ w.heap.size) :
    Calls Tryz.prog 135 #[.pointer (some ⟨b, 0, none⟩), .int .u8 c] w fun e w' => e = .returned .nilIface ∧ (Lib.BuilderAt tB tU8 B b (.pointer (some ⟨b, 0, none⟩)) (bs ++ [.int .u8 c]) w' ∧ Below B w w' ∧ BK b w w') := by
  obtain ⟨i0, hi, hz0, hz1, hz2⟩ := info_parts bByte
  go_enter Tryz.func135, Tryz.ntmps135
  go_wp2_with (go_at_call 171; refine (copyCheck_calls B b bs _ h).mono ?_)
  rintro e w1 ⟨rfl, h1, hb1, hk1⟩
  obtain ⟨hB, v, hbk, hown, hne⟩ := h1
  have c0 : w1.cell? ⟨b, 0, none⟩ = some (.pointer (some ⟨b, 0, none⟩)) := by rw [Lib.cell_of_heap hbk]; rfl
  have c1 : w1.cell? ⟨b, 1, none⟩ = some v := by rw [Lib.cell_of_heap hbk]; rfl
  go_wp2_with (at_builtin; refine wpList_append_own_at _ rfl _ _ 82 rfl B tU8 i0 (.int .u8 0) 1 1 Tryz.underlying82 hi hz0 hz1 hz2 rfl (by decide) _ _ _ rfl (hown.alloc _) ⟨w1.heap.size, 0, none⟩ 1 1 [.int .u8 c] rfl rfl ?c1 ?c2 ?c3 ?c4 ?c5 ?_)
  case c1 =>
    intro j u hj
    match j, hj with
    | 0, hj => simp at hj; subst hj; simp [Addr.add]
  case c2 => intro u hu; simp at hu; subst hu; rfl
  case c3 => unfold maxLen; omega
  case c4 => omega
  case c5 => have := hb1.size; simp; omega
  intro v' w2 hown' hgrow _ hat
  have hlt : b < w1.heap.size := by
    rcases Nat.lt_or_ge b w1.heap.size with h' | h'
    · exact h'
    · simp [Array.getElem?_eq_none h'] at hbk
  have hb2 : w2.heap[b]? = some (.cells #[.pointer (some ⟨b, 0, none⟩), v] tB (0, 0)) := by
    rw [hgrow.block b (by simp; omega) (fun e => hne e.symm), Lib.alloc_old w1 _ b hlt]
    exact hbk
  have d0 : w2.cell? ⟨b, 0, none⟩ = some (.pointer (some ⟨b, 0, none⟩)) := by rw [Lib.cell_of_heap hb2]; rfl
  have d1 : w2.cell? ⟨b, 1, none⟩ = some v := by rw [Lib.cell_of_heap hb2]; rfl
  have f1 : w2.frozen? ⟨b, 1, none⟩ = false := Lib.frozen_of_heap hb2 1
  obtain ⟨g, cap, rfl⟩ : ∃ g cap, v' = .slice (some ⟨g, 0, none⟩) (bs.length + 1) cap := by
    rcases hown'.2 with ⟨_, h0⟩ | ⟨g, cap, cur, hv, _⟩
    · omega
    · exact ⟨g, cap, hv⟩
  go_wp2
  go_ret
  refine ⟨rfl, ?_, ?_, hk1.trans ⟨?_, fun K hK hbK hn => ⟨?_, ?_⟩⟩⟩
  · exact Lib.BuilderAt.put (T := tB) (e := tU8) hB hb2 (bs' := bs ++ [.int .u8 c]) (by simpa using hown') (by decide)
  · exact ((hb1.alloc (by have := hb1.size; omega) _).grown hgrow (by have := hb1.size; simp; omega) (fun k hk => (hown.lt k hk).1)).setCell (p := ⟨b, 1, none⟩) hB _
  · have := hgrow.size
    simp [World.setCell] at this ⊢
    omega
  · rw [Below.heap_setCell _ _ _ _ hbK, hgrow.block K (by simp; omega) (fun e => hn v c1 e.symm), Lib.alloc_old w1 _ K hK]
  · intro u hu
    rw [World.cell?_setCell_same _ _ _ d1] at hu
    injection hu with hu
    subst hu
    rcases hat with hat | hat
    · rw [hat]; exact hn v c1
    · rw [hat]
      intro e
      injection e with e
      have e2 : w1.heap.size + 1 = K := e
      omega
theorem wbyte_calls (B b : Nat) (l : List UInt8) (c : UInt8) (x : Int) (hx : x = (c.toNat : Int)) (w : World) (h : Lib.IsBuilder tB tU8 B b (Lib.byteCells l) w) (hlen : l.length + 1 ≤ 140737488355328) (hBw : B ≤ w.heap.size) :
    Calls Tryz.prog 135 #[.pointer (some ⟨b, 0, none⟩), .int .u8 x] w fun e w' => e = .returned .nilIface ∧ Lib.IsBuilder tB tU8 B b (Lib.byteCells (l ++ [c])) w' ∧ Below B w w' ∧ BK b w w' := by
  subst hx
  refine (wbyte_at B b _ _ w h (by simpa [Lib.byteCells] using hlen) hBw).mono ?_
  rintro e w' ⟨rfl, h1, h2, h3⟩
  refine ⟨rfl, .inr ?_, h2, h3⟩
  simpa [Lib.byteCells] using h1
/-- A builder stays where no block turns. -/
theorem builderAt_kept {T e : TypeId} {B b : Nat} {p : Value} {bs : List Value} {w w' : World} (h : Lib.BuilderAt T e B b p bs w) (hk : ∀ k, k < w.heap.size → w'.heap[k]? = w.heap[k]?) : Lib.BuilderAt T e B b p bs w' := by
  have hlt := h.lt
  obtain ⟨hB, v, hb, ⟨hx, ho⟩, hne⟩ := h
  refine ⟨hB, v, (hk b hlt).trans hb, ⟨hx, ?_⟩, hne⟩
  rcases ho with ho | ⟨g, cap, cur, h1, h2, h3, h4⟩
  · exact .inl ho
  · refine .inr ⟨g, cap, cur, h1, h2, (hk g ?_).trans h3, h4⟩
    rcases Nat.lt_or_ge g w.heap.size with h' | h'
    · exact h'
    · simp [Array.getElem?_eq_none h'] at h3
theorem isBuilder_kept {T e : TypeId} {B b : Nat} {bs : List Value} {w w' : World} (h : Lib.IsBuilder T e B b bs w) (hk : ∀ k, k < w.heap.size → w'.heap[k]? = w.heap[k]?) : Lib.IsBuilder T e B b bs w' :=
  h.imp (fun h => builderAt_kept h hk) (fun h => builderAt_kept h hk)
theorem isBuilder_lt {T e : TypeId} {B b : Nat} {bs : List Value} {w : World} (h : Lib.IsBuilder T e B b bs w) : b < w.heap.size := h.elim (fun h => h.lt) (fun h => h.lt)
/-- A block that is not there yet is not the builder's row. -/
theorem notOwn_new {T e : TypeId} {B b : Nat} {bs : List Value} {w w' : World} (h : Lib.IsBuilder T e B b bs w) (hk : ∀ k, k < w.heap.size → w'.heap[k]? = w.heap[k]?) {K : Nat} (hK : w.heap.size ≤ K) : NotOwn w' b K := by
  obtain ⟨p, hB, v, hb, ⟨hx, ho⟩, hne⟩ : ∃ p, Lib.BuilderAt T e B b p bs w := h.elim (fun h => ⟨_, h⟩) (fun h => ⟨_, h⟩)
  intro u hu
  have hb' := (hk b (isBuilder_lt h)).trans hb
  rw [Lib.cell_of_heap hb'] at hu
  injection hu with hu
  subst hu
  rcases ho with ⟨rfl, _⟩ | ⟨g, cap, cur, rfl, h2, h3, h4⟩
  · intro e; cases e
  · intro e
    injection e with e
    simp only at e
    have : g < w.heap.size := by
      rcases Nat.lt_or_ge g w.heap.size with h' | h'
      · exact h'
      · simp [Array.getElem?_eq_none h'] at h3
    omega
end Go.Proofs.YthjldedjllkeeaaGreatDoor
