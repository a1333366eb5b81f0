/- Texts put together: SpecH, SpecX, Core, Bytes, Grow, Blk, Map, Lex, AnyIn, Range, SpecJ, SpecS, SpecN. -/
import Derived.Laws.Bits64
import Derived.WalkKit
import Derived.Deep.Draws
import Derived.Lib.Hide
import Derived.Handy
import Derived.WalkSpells
import Derived.Laws.BytesArg
import Derived.Laws.BytesString
import Derived.Laws.AppendOwn
import Derived.OpenShut
import Derived.BigQuiet
import Derived.Deep.QuietTactic
import Derived.Deep.MidRow
import Derived.Laws.Rows
import Derived.RangeFuncRecord
import Derived.RangeFuncBox
import Derived.Laws.ResultCell
import Derived.Maps.OwnSet
import Derived.Maps.Views
import Derived.Maps.Keyed
import Derived.OrdersIn
import Derived.OwnWalkIn
import Derived.KernelRfl
import Derived.RangeFuncNested
import Derived.RangeFuncBound
import Derived.RangeFuncCalls
import Derived.RangeFuncLeaves
import Derived.Shelf.Abstract
import Derived.Shelf.RegionOpen
import Derived.TacticsInMore
import Derived.LoopNIn
import Derived.LoopIn
section
/- Plain words: the digests of the document, over numbers and lists of bytes alone. -/
namespace Go.Proofs.YtbbgmlnfpnomiaaGreatDoor.S
def M64 : Nat := 18446744073709551616
def xs (x : Nat) : Nat := x ^^^ (x / 4294967296)
def mixC (a b : Nat) : Nat := xs ((xs ((xs (a ^^^ (b * 11400714819323198485 % M64))) * 15485907386658061715 % M64)) * 15485907386658061715 % M64)
/- The mixing as a name that the kernel does not open by itself (it would reckon with it where it stands). -/
theorem mix_is : ∃ f : Nat → Nat → Nat, ∀ a b, f a b = mixC a b := ⟨mixC, fun _ _ => rfl⟩
noncomputable def mixN : Nat → Nat → Nat := Classical.choose mix_is
theorem mixN_eq (a b : Nat) : mixN a b = mixC a b := Classical.choose_spec mix_is a b
theorem mixN_C : mixN = mixC := funext fun a => funext fun b => mixN_eq a b
theorem M64_eq : M64 = 2 ^ 64 := by decide
theorem xs_lt {x : Nat} (h : x < M64) : xs x < M64 := by
  unfold xs
  rw [M64_eq] at *
  exact Nat.xor_lt_two_pow h (Nat.lt_of_le_of_lt (Nat.div_le_self _ _) h)
theorem mod_lt (x : Nat) : x % M64 < M64 := Nat.mod_lt _ (by decide)
theorem mixN_lt (a b : Nat) : mixN a b < M64 := by rw [mixN_eq]; exact xs_lt (mod_lt _)
/-- The mixing, on the walk's own numbers. -/
noncomputable def mix (a b : Int) : Int := (mixN a.toNat b.toNat : Nat)
theorem mix_ge (a b : Int) : 0 ≤ mix a b := Int.natCast_nonneg _
theorem mix_lt (a b : Int) : mix a b < 18446744073709551616 := by
  have h := mixN_lt a.toNat b.toNat
  unfold M64 at h
  unfold mix
  omega
/-- Bytes as numbers. -/
def nums (l : List UInt8) : List Nat := l.map UInt8.toNat
/-- A digest of bytes. -/
noncomputable def tagN (tag : List UInt8) : Nat := mixN ((nums tag).foldl mixN 0) 256
noncomputable def sumN (tag b : List UInt8) : Nat := mixN ((nums b).foldl mixN (tagN tag)) b.length
noncomputable def twoN (tag : List UInt8) (a b : Nat) : Nat := mixN (mixN (sumN tag []) a) b
noncomputable def chainN (h x : Nat) : Nat → Nat
  | 0 => x
  | n + 1 => mixN h (chainN h x n)
theorem tagN_lt (tag : List UInt8) : tagN tag < M64 := mixN_lt _ _
theorem sumN_lt (tag b : List UInt8) : sumN tag b < M64 := mixN_lt _ _
theorem twoN_lt (tag : List UInt8) (a b : Nat) : twoN tag a b < M64 := mixN_lt _ _
theorem chainN_lt (h x : Nat) (hx : x < M64) : ∀ n, chainN h x n < M64
  | 0 => hx
  | _ + 1 => mixN_lt _ _
end Go.Proofs.YtbbgmlnfpnomiaaGreatDoor.S
end

section
/- Plain words: hexadecimal digits. -/
namespace Go.Proofs.YtbbgmlnfpnomiaaGreatDoor.S
/-- A digit's byte: 0 .. 9, a .. f. -/
def dig (n : Nat) : Nat := if n < 10 then 48 + n else 87 + n
theorem dig_lt {n : Nat} (h : n < 16) : dig n < 256 := by unfold dig; split <;> omega
/-- A number in hexadecimal, no zeros ahead (0: one). -/
def hexA (u : Nat) : List Nat := if u < 16 then [dig u] else hexA (u / 16) ++ [dig (u % 16)]
termination_by u
theorem hexA_small {u : Nat} (h : u < 16) : hexA u = [dig u] := by rw [hexA, if_pos h]
theorem hexA_big {u : Nat} (h : 16 ≤ u) : hexA u = hexA (u / 16) ++ [dig (u % 16)] := by rw [hexA, if_neg (by omega)]
theorem hexA_len (k : Nat) : ∀ u, u < 16 ^ (k + 1) → (hexA u).length ≤ k + 1 := by
  induction k with
  | zero => intro u h; rw [hexA_small (by omega)]; simp
  | succ k ih =>
    intro u h
    by_cases h1 : u < 16
    · rw [hexA_small h1]; simp
    · rw [hexA_big (by omega), List.length_append]
      have := ih (u / 16) (by rw [Nat.pow_succ] at h; omega)
      simp; omega
theorem hexA_pos (u : Nat) : 1 ≤ (hexA u).length := by
  by_cases h1 : u < 16
  · rw [hexA_small h1]; simp
  · rw [hexA_big (by omega), List.length_append]; simp
/-- Bytes as a string. -/
def bstr (l : List Nat) : ByteArray := ⟨(l.map UInt8.ofNat).toArray⟩
theorem bstr_list (l : List Nat) : (bstr l).data.toList = l.map UInt8.ofNat := rfl
theorem bstr_size (l : List Nat) : (bstr l).size = l.length := by
  show (l.map UInt8.ofNat).toArray.size = _
  simp
theorem bstr_append (a b : List Nat) : bstr a ++ bstr b = bstr (a ++ b) := by
  apply ByteArray.ext
  simp [bstr]
/-- A number in sixteen hexadecimal digits. -/
def hexT (u : Nat) : List Nat := List.replicate (16 - (hexA u).length) 48 ++ hexA u
/-- A letter's other case, as strconv makes it. -/
def low (c : Nat) : Nat := c ||| 32
theorem low_lt {c : Nat} (h : c < 256) : low c < 256 := by
  unfold low
  exact Nat.or_lt_two_pow (n := 8) h (by decide)
/-- What a byte says as a hexadecimal digit, whichever case. -/
def hexv (c : Nat) : Option Nat := if 48 ≤ c ∧ c ≤ 57 then some (c - 48) else if 97 ≤ low c ∧ low c ≤ 102 then some (low c - 87) else none
theorem hexv_lt {c d : Nat} (h : hexv c = some d) : d < 16 := by
  unfold hexv at h
  split at h
  · injection h; omega
  · split at h
    · injection h; omega
    · cases h
def puStep (n c : Nat) : Option Nat := (hexv c).bind fun d => if n < 1152921504606846976 then some (n * 16 + d) else none
/-- What strconv reads at base 16; none: an error. -/
def puFold : List Nat → Nat → Option Nat
  | [], n => some n
  | c :: l, n => (puStep n c).bind (puFold l)
theorem puFold_append (a b : List Nat) : ∀ n, puFold (a ++ b) n = (puFold a n).bind (puFold b) := by
  induction a with
  | nil => intro n; rfl
  | cons c a ih =>
    intro n
    show (puStep n c).bind (puFold (a ++ b)) = ((puStep n c).bind (puFold a)).bind (puFold b)
    cases puStep n c with
    | none => rfl
    | some m => exact ih m
def pu (l : List Nat) : Option Nat := if l = [] then none else puFold l 0
theorem puStep_lt {n c m : Nat} (h : puStep n c = some m) : m < 18446744073709551616 := by
  unfold puStep at h
  cases hv : hexv c with
  | none => rw [hv] at h; cases h
  | some d =>
    have := hexv_lt hv
    rw [hv] at h
    simp only [Option.bind_some] at h
    split at h
    · injection h; omega
    · cases h
end Go.Proofs.YtbbgmlnfpnomiaaGreatDoor.S
end

section
/- Words for memory: a slice that reads as a row of cells; what a world that only grew keeps of it. -/
namespace Go.Proofs.YtbbgmlnfpnomiaaGreatDoor
open Go.RowKit
theorem ret_int {k : IntKind} {a b : Int} (h : a = b) : Ending.returned (.int k a) = .returned (.int k b) := by rw [h]
theorem ret_bool {a b : Bool} (h : a = b) : Ending.returned (.bool a) = .returned (.bool b) := by rw [h]
theorem add_block (a : Addr) (n : Nat) : (a.add n).block = a.block := by unfold Addr.add; split <;> rfl
theorem add_add (a : Addr) (i j : Nat) : (a.add i).add j = a.add (i + j) := by
  unfold Addr.add
  by_cases hi : i = 0 <;> by_cases hj : j = 0 <;> simp [hi, hj, Nat.add_assoc]
/-- What grew below its own size: nothing that was there has turned. -/
abbrev Ext (w w' : World) : Prop := Below w.heap.size w w'
theorem Ext.rfl' (w : World) : Ext w w := Below.refl _ _
theorem Ext.tr {a b c : World} (h : Ext a b) (k : Ext b c) : Ext a c := h.trans (k.mono h.size)
theorem Ext.cell {w w' : World} {a : Addr} {v : Value} (k : Ext w w') (h : w.cell? a = some v) : w'.cell? a = some v := cell_later k h
theorem Ext.alloc {w w' : World} (k : Ext w w') (o : Obj) : Ext w (w'.alloc o) := Below.alloc k k.size o
/-- The slice at A reads the cells xs. -/
def Rd (w : World) (A : Option Addr) (xs : List Value) : Prop :=
  xs = [] ∨ ∃ ad, A = some ad ∧ ad.block < w.heap.size ∧ ∀ j, j < xs.length → w.cell? (ad.add j) = xs[j]?
section
variable {w w' : World} {A : Option Addr} {xs : List Value}
theorem Rd.nil (w : World) (A : Option Addr) : Rd w A [] := .inl rfl
theorem Rd.below (h : Rd w A xs) {B : Nat} (hw : w.heap.size ≤ B) (k : Below B w w') : Rd w' A xs := by
  rcases h with h | ⟨ad, e, hb, hc⟩
  · exact .inl h
  · refine .inr ⟨ad, e, Nat.lt_of_lt_of_le hb k.size, fun j hj => ?_⟩
    rw [k.cell (by rw [add_block]; omega)]
    exact hc j hj
theorem Rd.ext (h : Rd w A xs) (k : Ext w w') : Rd w' A xs := h.below (Nat.le_refl _) k
theorem Rd.drew (h : Rd w A xs) : Rd w.drew A xs := h
theorem Rd.drewN (h : Rd w A xs) (n : Nat) : Rd (w.drewN n) A xs := h
theorem Rd.alloc (h : Rd w A xs) (o : Obj) : Rd (w.alloc o) A xs := h.ext ((Below.refl _ _).alloc (Nat.le_refl _) o)
theorem Rd.setCell (h : Rd w A xs) {p : Addr} (hp : ∀ ad, A = some ad → p.block ≠ ad.block) (u : Value) : Rd (w.setCell p u) A xs := by
  rcases h with h | ⟨ad, e, hb, hc⟩
  · exact .inl h
  · refine .inr ⟨ad, e, by simpa [World.setCell] using hb, fun j hj => ?_⟩
    rw [World.cell?_setCell_other _ _ _ _ (by intro e2; apply hp ad e; first | rw [e2, add_block] | rw [← e2, add_block])]
    exact hc j hj
theorem Rd.at_ (h : Rd w A xs) {j : Nat} {u : Value} (hj : xs[j]? = some u) : ∃ ad, A = some ad ∧ ad.block < w.heap.size ∧ w.cell? (ad.add j) = some u := by
  rcases h with rfl | ⟨ad, e, hb, hc⟩
  · simp at hj
  · exact ⟨ad, e, hb, (hc j (by rw [List.getElem?_eq_some_iff] at hj; exact hj.1)).trans hj⟩
/-- A block that was just laid reads its own cells. -/
theorem Rd.fresh (w : World) (l : List Value) (t : TypeId) (fr : Nat × Nat) : Rd (w.alloc (.cells l.toArray t fr)) (some ⟨w.heap.size, 0, none⟩) l := by
  refine .inr ⟨_, rfl, by simp, fun j hj => ?_⟩
  rw [show (⟨w.heap.size, 0, none⟩ : Addr).add j = ⟨w.heap.size, j, none⟩ from by unfold Addr.add; split <;> simp [*]]
  rw [World.cell?_alloc_mark]
  simp
end
/-- A byte's cell, a digest's cell. -/
abbrev cU8 (b : UInt8) : Value := .int .u8 (b.toNat : Int)
abbrev cU64 (n : Nat) : Value := .int .u64 (n : Int)
end Go.Proofs.YtbbgmlnfpnomiaaGreatDoor
end

section
/- A slice of bytes as a string; a row that a call owns reads as its cells. -/
namespace Go.Proofs.YtbbgmlnfpnomiaaGreatDoor
open Go.RowKit
/-- The string of a row of bytes. -/
abbrev strOf (l : List UInt8) : ByteArray := ⟨l.toArray⟩
theorem strOf_nums (l : List UInt8) : strOfNums (l.map fun b => ((b.toNat : Nat) : Int)) = strOf l := by
  unfold strOfNums
  rw [List.map_map]
  congr 2
  conv => rhs; rw [← List.map_id l]
  refine List.map_congr_left fun x _ => ?_
  show UInt8.ofNat ((x.toNat : Nat) : Int).toNat = x
  rw [Int.toNat_natCast]
  exact UInt8.ofNat_toNat
theorem run_str {P : Program} (w : World) (A : Option Addr) (l : List UInt8) (c : Nat) (src e dst : TypeId) (hs : P.underlying src = some (.slice e)) (he : P.underlying e = some (.int .u8)) (hd : P.underlying dst = some .string) (h : Rd w A (l.map cU8)) :
    (convert src dst (.slice A l.length c)).run P w = .ok (.string (strOf l)) w := by
  cases A with
  | none =>
    rcases h with h | ⟨ad, h, _⟩
    · have hl : l = [] := List.map_eq_nil_iff.1 h
      subst hl
      exact run_convert_bytes_nil w src e hs he 0 c dst hd
    · cases h
  | some ad =>
    rw [run_convert_bytes_string w src dst e _ _ c hs he hd]
    have hl : (loadCells ad l.length).run P w = .ok ((l.map fun b => ((b.toNat : Nat) : Int)).map (Value.int .u8)).toArray w := by
      have := run_loadCells_list (P := P) w ad ((l.map fun b => ((b.toNat : Nat) : Int)).map (Value.int .u8)) (fun j v hj => by
        rw [List.map_map] at hj
        obtain ⟨ad', e1, _, hc⟩ := h.at_ hj
        injection e1 with e1
        subst e1
        exact hc)
      simpa using this
    rw [run_bytesToString w ad _ c _ hl, foldl_push_bytes, ← strOf_nums]
    unfold strOfNums
    simp [ByteArray.empty, ByteArray.emptyWithCapacity]
    rfl
theorem rd_of_own {w : World} {B : Nat} {e : TypeId} {v : Value} {n : Nat} {xs : List Value} (h : w.ownsRow B e 1 v n xs) : ∃ A c, v = .slice A n c ∧ Rd w A xs := by
  rcases h.2 with ⟨hv, h0⟩ | ⟨g, cap, cur, hv, hb, hg, _⟩
  · subst h0
    exact ⟨none, 0, hv, .inl (List.eq_nil_of_length_eq_zero (by simpa using h.1))⟩
  · refine ⟨_, cap, hv, .inr ⟨_, rfl, ?_, fun j hj => ?_⟩⟩
    · show g < w.heap.size
      rcases Nat.lt_or_ge g w.heap.size with h' | h'
      · exact h'
      · simp [Array.getElem?_eq_none h'] at hg
    · rw [List.getElem?_eq_getElem hj]
      exact h.cells (g := g) (by rw [hv]; rfl) j _ (List.getElem?_eq_getElem hj)
end Go.Proofs.YtbbgmlnfpnomiaaGreatDoor
end

section
/- A region whose order is open and whose operations only read or call what only makes memory: one walk in the text's order serves every order. -/
namespace Go.Proofs.YtbbgmlnfpnomiaaGreatDoor
open Go.RowKit
/-- The worlds that grew out of w. -/
def ExtW (w : World) : Type := { w' : World // Ext w w' }
instance extWNonempty (w : World) : Nonempty (ExtW w) := ⟨⟨w, Ext.rfl' w⟩⟩
theorem wp_region_grow {P : Program} {id : Nat} {Q : Exit → Act → World → Prop} {a : Act} {w : World} {l : List Oper} (hm : P.follows .mixedOrders = true) (hB : Region.lexB .any l.toArray = true)
    (h : wpQuiet P l.toArray (fun w' => ∃ x : ExtW w, w' = x.1) (fun a' => ∀ w', (∃ x : ExtW w, w' = x.1) → Q .normal a' w') l a) : (Code.region id l.toArray true).wp P Q a w :=
  wp_region_quiet (C := fun w' => ∃ x : ExtW w, w' = x.1) hm hB ⟨⟨_, (Ext.rfl' w).drew⟩, rfl⟩ (by simpa using h)
theorem grow_of {P : Program} {f : FuncId} {args : Array Value} {w : World} {x : ExtW w} {v : Value}
    (h : Calls P f args x.1 fun e w' => e = .returned v ∧ Ext x.1 w') : Calls P f args x.1 fun e w'' => e = .returned v ∧ ∃ y : ExtW w, w'' = y.1 :=
  h.mono fun _ w' ⟨he, hx⟩ => ⟨he, ⟨w', x.2.tr hx⟩, rfl⟩
theorem grow_same {P : Program} {f : FuncId} {args : Array Value} {w : World} {x : ExtW w} {v : Value}
    (h : Calls P f args x.1 fun e w' => e = .returned v ∧ x.1 = w') : Calls P f args x.1 fun e w'' => e = .returned v ∧ ∃ y : ExtW w, w'' = y.1 :=
  h.mono fun _ _ ⟨he, hx⟩ => ⟨he, x, hx.symm⟩
theorem quiet_same {P : Program} {f : FuncId} {args : Array Value} {w : World} {n : Nat} {v : Value}
    (h : Calls P f args (w.drewN n) fun e w' => e = .returned v ∧ w.drewN n = w') : Calls P f args (w.drewN n) fun e w'' => e = .returned v ∧ ∃ m, w'' = w.drewN m :=
  h.mono fun _ _ ⟨he, hm⟩ => ⟨he, n, hm.symm⟩
end Go.Proofs.YtbbgmlnfpnomiaaGreatDoor
end

section
/- Blocks of cells as lists. -/
set_option linter.unusedVariables false
namespace Go.Proofs.YtbbgmlnfpnomiaaGreatDoor
open Go.RowKit
/-- Block B holds these cells. -/
def Blk (W : World) (B : Nat) (T : TypeId) (L : List Value) : Prop := W.heap[B]? = some (.cells L.toArray T (0, 0))
section
variable {W : World} {B : Nat} {T : TypeId} {L : List Value}
theorem Blk.new (W : World) (T : TypeId) (L : List Value) : Blk (W.alloc (.cells L.toArray T)) W.heap.size T L := World.alloc_heap_new W _
theorem Blk.lt (h : Blk W B T L) : B < W.heap.size := (Array.getElem?_eq_some_iff.1 h).1
theorem Blk.ext {W' : World} (h : Blk W B T L) (k : Ext W W') : Blk W' B T L := (k.block _ h.lt).trans h
theorem Blk.cell (h : Blk W B T L) {j : Nat} {v : Value} (hj : L[j]? = some v) : W.cell? ⟨B, j, none⟩ = some v := by
  simp [World.cell?, show W.heap[B]? = _ from h, hj]
theorem Blk.range (h : Blk W B T L) : W.rangeAt B 0 L := fun j v hj => by rw [Nat.zero_add]; exact h.cell hj
theorem Blk.frozen (h : Blk W B T L) (j : Nat) : W.frozen? ⟨B, j, none⟩ = false := by simp [World.frozen?, show W.heap[B]? = _ from h]
theorem Blk.there (h : Blk W B T L) : W.there B 0 L.length := fun j hj => ⟨by rw [Nat.zero_add, h.cell (List.getElem?_eq_getElem hj)]; rfl, by rw [Nat.zero_add]; exact h.frozen j⟩
theorem Blk.set (h : Blk W B T L) (j : Nat) (v : Value) : Blk (W.setCell ⟨B, j, none⟩ v) B T (L.set j v) := by
  simp [Blk, World.setCell, Array.getElem?_modify, show W.heap[B]? = _ from h]
theorem Blk.other (h : Blk W B T L) {x : Addr} (hne : B ≠ x.block) (v : Value) : Blk (W.setCell x v) B T L := by
  unfold Blk
  rw [Below.heap_setCell _ _ _ _ hne]
  exact h
theorem Blk.others {b : Nat} (hne : B ≠ b) : ∀ (vs : List Value) (o : Nat) (W : World), Blk W B T L → Blk (W.setCells b o vs) B T L
  | [], _, _, h => h
  | v :: vs, o, W, h => Blk.others hne vs (o + 1) _ (h.other hne v)
theorem Blk.drew (h : Blk W B T L) : Blk W.drew B T L := h
end
theorem set_all : ∀ (vs L : List Value) (o : Nat) (W : World) (B : Nat) (T : TypeId), o + vs.length ≤ L.length → Blk W B T L → Blk (W.setCells B o vs) B T (L.take o ++ vs ++ L.drop (o + vs.length))
  | [], L, o, W, B, T, _, h => by simpa [World.setCells] using h
  | v :: vs, L, o, W, B, T, hl, h => by
    rw [List.length_cons] at hl
    have := set_all vs (L.set o v) (o + 1) _ B T (by rw [List.length_set]; omega) (h.set o v)
    rw [World.setCells]
    have e : (L.set o v).take (o + 1) ++ vs ++ (L.set o v).drop (o + 1 + vs.length) = L.take o ++ v :: vs ++ L.drop (o + (v :: vs).length) := by
      rw [List.take_set, List.take_succ_eq_append_getElem (by omega), List.set_append_right _ _ (by rw [List.length_take]; omega), List.drop_set_of_lt (by omega)]
      simp [List.length_take, Nat.min_eq_left (show o ≤ L.length by omega), Nat.add_assoc, Nat.add_comm 1]
    rw [← e]
    exact this
theorem Blk.put {W : World} {B : Nat} {T : TypeId} {L vs : List Value} (h : Blk W B T L) (hl : vs.length = L.length) : Blk (W.setCells B 0 vs) B T vs := by
  have := set_all vs L 0 W B T (by omega) h
  simpa [hl] using this
theorem Ext.setCells {w : World} {B : Nat} (hB : w.heap.size ≤ B) : ∀ (vs : List Value) (o : Nat) (W : World), Ext w W → Ext w (W.setCells B o vs)
  | [], _, _, h => h
  | v :: vs, o, W, h => Ext.setCells hB vs (o + 1) _ (Below.setCell h hB v)
theorem ext_drewN {w W : World} (h : Ext w W) (n : Nat) : Ext w (W.drewN n) := ⟨h.os, h.tape, h.output, h.size, h.block⟩
/-- An operation that yields a value and does nothing else. -/
theorem wpList_val {P : Program} {ops : Array Oper} {rest : List Oper} {op : Oper} {a : Act} {w : World} {Q : Exit → Act → World → Prop} (hgd : op.guard = none) (v : Value) (hr : (execOp a.eval op).run P w = .ok (.value v) w)
    (h : wpList P ops Q rest (a.put op.dst v) w) : wpList P ops Q (op :: rest) a w :=
  wpList_plain hgd fun _ hK => by unfold Oper.wp; simp only [hr, Oper.upon]; exact hK _ _ h
/-- A load of a whole block in a walk of a region that only reads. -/
theorem wpQuiet_load {P : Program} {ops : Array Oper} {C : World → Prop} {Q : Act → Prop} {a : Act} {o : Oper} {rest : List Oper} (ty : TypeId) (x : Operand) (ho : o.op = .load ty x) (hw : Region.wanted o (yielded ops a.tmps) = true) (B : Nat) (hx : a.eval x = .pointer (some ⟨B, 0, none⟩))
    (T : TypeId) (L : List Value) (d : TypeDesc) (hC : ∀ w, C w → Blk w B T L) (hu : P.underlying ty = some d) (hd : (match d with | .struct _ | .array _ _ => true | _ => false) = true) (hi : (P.info? ty).map (·.size) = some L.length)
    (h : wpQuiet P ops C Q rest (a.put o.dst (.agg L.toArray))) : wpQuiet P ops C Q (o :: rest) a :=
  BigFrame.wpQuiet_want hw fun K hK => ⟨.agg L.toArray, fun w hc => by
    unfold Oper.quietAt execOp
    simp only [ho, hx, Instr.loadAt, Instr.sureAddr, Sem.run_bind, Sem.run_pure, Result.andThen_ok, run_loadVar_row (P := P) w B T ty L.toArray (0, 0) d (hC w hc) hu hd (by rw [List.size_toArray]; exact hi)]
    exact ⟨rfl, rfl⟩, hK _ h⟩
/-- An operation that yields a value in whatever world. -/
theorem wpQuiet_val {P : Program} {ops : Array Oper} {C : World → Prop} {Q : Act → Prop} {a : Act} {o : Oper} {rest : List Oper} (hw : Region.wanted o (yielded ops a.tmps) = true) (v : Value) (hr : ∀ w, (execOp a.eval o).run P w = .ok (.value v) w)
    (h : wpQuiet P ops C Q rest (a.put o.dst v)) : wpQuiet P ops C Q (o :: rest) a :=
  BigFrame.wpQuiet_want hw fun K hK => ⟨v, fun w _ => by unfold Oper.quietAt; rw [hr]; exact ⟨rfl, rfl⟩, hK _ h⟩
/-- A function that hands back what lies in a block, and a slot. -/
theorem ret_cell_tmp {P : Program} {fn : Func} {R : Ending → World → Prop} {p u : Tmp} {ty : TypeId} {d : TypeDesc} {W : World} {B : Nat} {T : TypeId} {L : List Value} {tm : Array Value} {v : Value} (hres : fn.results = #[.cell p ty, .tmp u]) (hb : Blk W B T L)
    (hu : P.underlying ty = some d) (hd : (match d with | .struct _ | .array _ _ => true | _ => false) = true) (hi : (P.info? ty).map (·.size) = some L.length) (hp : tm.getD p undef = .pointer (some ⟨B, 0, none⟩)) (hk : tm.getD u undef = v)
    (hR : R (.returned (.tuple #[.agg L.toArray, v])) W) : bodyPost P fn R .ret { tmps := tm, defers := [] } W := by
  refine bodyPost_ret (v := .tuple #[.agg L.toArray, v]) ?_ rfl hR
  rw [results_cell_tmp hres, hp, hk]
  have h := run_loadVar_row (P := P) W B T ty L.toArray (0, 0) d hb hu hd (by simpa using hi)
  simp [asAddr, h]
end Go.Proofs.YtbbgmlnfpnomiaaGreatDoor
end

section
/- Maps from integers to whatever values that a call made: as functions. -/
set_option linter.unusedVariables false
namespace Go.Proofs.YtbbgmlnfpnomiaaGreatDoor
open Go.RowKit Go.Maps
/-- A value as it stands. -/
def RH (v : Value) : Option (DataW Value × List MemPlace) := some (.held v, [])
theorem RH_inv {v u : Value} {ps : List MemPlace} (h : RH v = some (.held u, ps)) : v = u := by cases h; rfl
/-- Block b is a map (kt: its keys' type, of kind q) that tells f, of n entries. -/
def MapI (P : Program) (kt : TypeId) (q : IntKind) (w : World) (b : Nat) (f : Int → Option Value) (n : Nat) : Prop :=
  ∃ (D : DataW Value) (m : Nat), w.ownsMap P kt RH b m D ∧ m ≤ n + 4294967296 ∧ (∀ x, has D (.int q x) = (f x).isSome) ∧ (∀ x v, f x = some v → ∀ z, D.atKey (.int q x) z = .held v) ∧ Maps.size D = n ∧ m < maxLen
def upd (f : Int → Option Value) (k : Int) (v : Value) : Int → Option Value := fun x => if x = k then some v else f x
theorem upd_same (f : Int → Option Value) (k : Int) (v : Value) : upd f k v k = some v := by simp [upd]
theorem upd_other {f : Int → Option Value} {k x : Int} (v : Value) (h : x ≠ k) : upd f k v x = f x := by simp [upd, h]
section
variable {P : Program} {kt : TypeId} {q : IntKind} {w : World} {b : Nat} {f : Int → Option Value} {n : Nat}
theorem MapI.lt (h : MapI P kt q w b f n) : b < w.heap.size := by obtain ⟨D, m, h, _⟩ := h; exact h.lt
theorem MapI.kept {w' : World} {row : Option Nat} (h : MapI P kt q w b f n) (hg : w.grownBy w' row) (hne : some b ≠ row) : MapI P kt q w' b f n := by
  obtain ⟨D, m, h, r⟩ := h
  exact ⟨D, m, h.kept hg hne, r⟩
theorem MapI.ext {w' : World} (h : MapI P kt q w b f n) (k : Ext w w') : MapI P kt q w' b f n :=
  h.kept (row := none) ⟨k.os, k.tape, k.output, k.size, fun j hj _ => k.block j hj⟩ (by simp)
theorem MapI.new (P : Program) (kt : TypeId) (q : IntKind) (w : World) : MapI P kt q (w.alloc (.map #[] 0)) w.heap.size (fun _ => none) 0 :=
  ⟨.map [], 0, World.ownsMap_made w P kt RH, Nat.zero_le _, fun _ => rfl, fun x v h => by simp at h, rfl, by decide⟩
theorem MapI.look {t e : TypeId} (h : MapI P kt q w b f n) (hk : P.underlying kt = some (.int q)) (ht : P.underlying t = some (.map kt e)) {z : Value} (hz : (zeroValue e).run P w = .ok z w) {x : Int} (hx : (Lit.int q x).wf = true) :
    (Instr.lookup t (.map (some b)) (.int q x) true).run P w = .ok (.tuple #[(f x).getD z, .bool (f x).isSome]) w := by
  obtain ⟨D, m, h, _, h1, h2, _, _⟩ := h
  obtain ⟨v, ps, hr, hv⟩ := h.look_ok (int_keyed hk) ht hz (zd := .held z) (zp := []) rfl (keyOf_int_mk hk hx)
  rw [hr, h1]
  cases hf : f x with
  | none =>
    have h3 := h1 x
    rw [hf] at h3
    rw [atKey_of_not_has h3] at hv
    rw [RH_inv hv]
    rfl
  | some u =>
    rw [h2 x u hf] at hv
    rw [RH_inv hv]
    rfl
theorem MapI.look1 {t e : TypeId} (h : MapI P kt q w b f n) (hk : P.underlying kt = some (.int q)) (ht : P.underlying t = some (.map kt e)) {z : Value} (hz : (zeroValue e).run P w = .ok z w) {x : Int} (hx : (Lit.int q x).wf = true) :
    (Instr.lookup t (.map (some b)) (.int q x) false).run P w = .ok ((f x).getD z) w := by
  obtain ⟨D, m, h, _, h1, h2, _, _⟩ := h
  obtain ⟨v, ps, hr, hv⟩ := h.lookup (int_keyed hk) ht hz (zd := .held z) (zp := []) rfl (keyOf_int_mk hk hx)
  rw [hr]
  cases hf : f x with
  | none =>
    have h3 := h1 x
    rw [hf] at h3
    rw [atKey_of_not_has h3] at hv
    rw [RH_inv hv]
    rfl
  | some u =>
    rw [h2 x u hf] at hv
    rw [RH_inv hv]
    rfl
theorem MapI.len {t e : TypeId} (h : MapI P kt q w b f n) (ht : P.underlying t = some (.map kt e)) (ty : TypeId) : (Builtin.len_ #[t] ty #[.map (some b)]).run P w = .ok (.int .i64 n) w := by
  obtain ⟨D, m, h, _, _, _, h4, _⟩ := h
  rw [h.len ht ty, h4]
theorem MapI.update {t e : TypeId} (h : MapI P kt q w b f n) (hk : P.underlying kt = some (.int q)) (ht : P.underlying t = some (.map kt e)) (hn : n < 1099511627776) {x : Int} (hx : (Lit.int q x).wf = true) (v : Value) :
    ∃ w', (Instr.mapUpdate t (.map (some b)) (.int q x) v).run P w = .ok () w' ∧ w.grownBy w' (some b) ∧ ∃ m', m' = (if (f x).isSome then n else n + 1) ∧ MapI P kt q w' b (upd f x v) m' := by
  obtain ⟨D, m, h, hm, h1, h2, h3, h4⟩ := h
  obtain ⟨w', hr, hown, hg⟩ := h.update (int_keyed hk) ht h4 (keyOf_int_mk hk hx) (d := .held v) (ps := []) rfl
  have hmap := h.isMap
  have htidy := h.tidy (int_keyed hk)
  have hkl : WideAt.IsKeyLit (.int q x) := trivial
  refine ⟨w', hr, hg, _, rfl, D.put (.int q x) (.held v), Maps.size (D.put (.int q x) (.held v)), ?_, ?_, fun y => ?_, fun y u hy z => ?_, ?_, ?_⟩
  · obtain ⟨es, clock, r1, r2, r3, r4⟩ := hown
    refine ⟨es, clock, r1, r2, ?_, r4⟩
    rw [r4]
    simp [Maps.size, length_sorted]
  · rw [size_put htidy, h1, h3]
    split <;> omega
  · by_cases e : y = x
    · subst e; rw [has_put_same hmap hkl, upd_same]; rfl
    · rw [has_put_other (by simpa using e), h1, upd_other _ e]
  · by_cases e : y = x
    · subst e
      rw [upd_same] at hy
      cases hy
      exact atKey_put_same hmap hkl _ _
    · rw [upd_other _ e] at hy
      rw [atKey_put_other (by simpa using e)]
      exact h2 y u hy z
  · rw [size_put htidy, h1, h3]
  · rw [size_put htidy, h1, h3]
    unfold maxLen
    split <;> omega
end
end Go.Proofs.YtbbgmlnfpnomiaaGreatDoor
end

section
/- Great regions whose operations only read or call what only makes memory: the check of the text's order, pair by pair, in parts (one kernel check over all of it runs out of memory at some ninety operations). -/
namespace Go.Proofs.YtbbgmlnfpnomiaaGreatDoor
open Go.RowKit
def pairOk (md : Region.Mode) (ops : Array Oper) (k j : Nat) : Bool :=
  match ops[k]?, ops[j]? with
  | some ok, some oj => oj.after.any (fun e => Region.binds md e && e.on == k) || ok.apart ops oj
  | _, _ => true
def rowOk (md : Region.Mode) (ops : Array Oper) (k : Nat) : Bool := (List.range (ops.size - (k + 1))).all fun d => pairOk md ops k (k + 1 + d)
def rowsB (md : Region.Mode) (ops : Array Oper) (lo len : Nat) : Bool := (List.range len).all fun d => rowOk md ops (lo + d)
def depsB (md : Region.Mode) (ops : Array Oper) : Bool := (List.range ops.size).all fun i => ((ops[i]?).map (·.after.all fun e => !Region.binds md e || decide (e.on < i))).getD false
theorem rowsB_get {md : Region.Mode} {ops : Array Oper} {lo len : Nat} (h : rowsB md ops lo len = true) {k : Nat} (h1 : lo ≤ k) (h2 : k < lo + len) : rowOk md ops k = true := by
  unfold rowsB at h
  rw [List.all_eq_true] at h
  have := h (k - lo) (List.mem_range.2 (by omega))
  rwa [show lo + (k - lo) = k by omega] at this
theorem lexFrom_of {md : Region.Mode} {ops : Array Oper} (hd : depsB md ops = true) (hr : ∀ k, k < ops.size → rowOk md ops k = true) :
    ∀ fuel k (listed : Array Bool), fuel + k = ops.size → listed.size = ops.size → (∀ j b, j < ops.size → listed.getD j b = decide (j < k)) → Region.lexFrom md ops fuel k listed = true
  | 0, k, listed, hk, hs, hl => by
    unfold Region.lexFrom Region.ready
    rw [List.isEmpty_iff, List.filter_eq_nil_iff]
    intro i hi
    have hi := List.mem_range.1 hi
    rw [hl i true hi, decide_eq_true (by omega)]
    simp
  | fuel + 1, k, listed, hk, hs, hl => by
    have hkn : k < ops.size := by omega
    unfold Region.lexFrom
    rw [Bool.and_eq_true, Bool.and_eq_true]
    refine ⟨⟨?_, ?_⟩, ?_⟩
    · unfold Region.ready
      rw [List.contains_iff_mem, List.mem_filter]
      refine ⟨List.mem_range.2 hkn, ?_⟩
      rw [hl k true hkn, decide_eq_false (by omega)]
      unfold depsB at hd
      rw [List.all_eq_true] at hd
      have hd := hd k (List.mem_range.2 hkn)
      rw [Array.getElem?_eq_getElem hkn] at hd ⊢
      simp only [Option.map_some, Option.getD_some, Bool.not_false, Bool.true_and] at hd ⊢
      rw [Array.all_eq_true_iff_forall_mem] at hd ⊢
      intro e he
      have := hd e he
      rw [Bool.or_eq_true] at this ⊢
      rcases this with h | h
      · exact .inl h
      · refine .inr ?_
        have h := of_decide_eq_true h
        rw [hl e.on false (by omega), decide_eq_true h]
    · unfold Region.free
      rw [Array.getElem?_eq_getElem hkn]
      simp only
      rw [List.all_eq_true]
      intro j hj
      have hj := List.mem_range.1 hj
      rw [hl j true hj]
      by_cases h1 : j = k
      · subst h1; simp
      · by_cases h2 : j < k
        · rw [decide_eq_true h2]; simp
        · have h := hr k hkn
          unfold rowOk at h
          rw [List.all_eq_true] at h
          have h := h (j - (k + 1)) (List.mem_range.2 (by omega))
          rw [show k + 1 + (j - (k + 1)) = j by omega] at h
          unfold pairOk at h
          rw [Array.getElem?_eq_getElem hkn, Array.getElem?_eq_getElem hj] at h
          simp only at h
          rw [Array.getElem?_eq_getElem hj]
          simp only [h, Bool.or_true]
    · refine lexFrom_of hd hr fuel (k + 1) _ (by omega) (by simpa using hs) fun j b hj => ?_
      rw [Array.getD_eq_getD_getElem?, Array.getElem?_setIfInBounds]
      by_cases h1 : k = j
      · subst h1
        rw [if_pos rfl, if_pos (by omega)]
        simp
      · rw [if_neg h1, ← Array.getD_eq_getD_getElem?, hl j b hj]
        by_cases h2 : j < k
        · rw [decide_eq_true h2, decide_eq_true (by omega)]
        · rw [decide_eq_false h2, decide_eq_false (by omega)]
theorem lexB_of {md : Region.Mode} {ops : Array Oper} (h0 : Region.noSelect ops = true) (hd : depsB md ops = true) (hr : ∀ k, k < ops.size → rowOk md ops k = true) : Region.lexB md ops = true := by
  unfold Region.lexB
  rw [Bool.and_eq_true]
  refine ⟨h0, lexFrom_of hd hr ops.size 0 _ rfl (by simp) fun j b hj => ?_⟩
  rw [Array.getD_eq_getD_getElem?, Array.getElem?_replicate, if_pos hj]
  simp
/-- At up to 120 operations, in parts of twelve. -/
theorem lexB_parts {l : List Oper} (hn : decide (l.length ≤ 120) = true) (h0 : Region.noSelect l.toArray = true) (hd : depsB .any l.toArray = true)
    (r0 : rowsB .any l.toArray 0 12 = true) (r1 : rowsB .any l.toArray 12 12 = true) (r2 : rowsB .any l.toArray 24 12 = true) (r3 : rowsB .any l.toArray 36 12 = true) (r4 : rowsB .any l.toArray 48 12 = true)
    (r5 : rowsB .any l.toArray 60 12 = true) (r6 : rowsB .any l.toArray 72 12 = true) (r7 : rowsB .any l.toArray 84 12 = true) (r8 : rowsB .any l.toArray 96 12 = true) (r9 : rowsB .any l.toArray 108 12 = true) : Region.lexB .any l.toArray = true := by
  have hn := of_decide_eq_true hn
  refine lexB_of h0 hd fun k hk => ?_
  rw [List.size_toArray] at hk
  have hk : k < 120 := by omega
  by_cases c0 : k < 12
  · exact rowsB_get r0 (by omega) (by omega)
  by_cases c1 : k < 24
  · exact rowsB_get r1 (by omega) (by omega)
  by_cases c2 : k < 36
  · exact rowsB_get r2 (by omega) (by omega)
  by_cases c3 : k < 48
  · exact rowsB_get r3 (by omega) (by omega)
  by_cases c4 : k < 60
  · exact rowsB_get r4 (by omega) (by omega)
  by_cases c5 : k < 72
  · exact rowsB_get r5 (by omega) (by omega)
  by_cases c6 : k < 84
  · exact rowsB_get r6 (by omega) (by omega)
  by_cases c7 : k < 96
  · exact rowsB_get r7 (by omega) (by omega)
  by_cases c8 : k < 108
  · exact rowsB_get r8 (by omega) (by omega)
  · exact rowsB_get r9 (by omega) (by omega)
end Go.Proofs.YtbbgmlnfpnomiaaGreatDoor
end

section
/- A region that draws its order, inside a fence: walked state by state, whatever is listed. -/
namespace Go.Proofs.YtbbgmlnfpnomiaaGreatDoor
open Go.RowKit
variable {F : Fence} {n : Nat} {P : Program} {md : Region.Mode} {ops : Array Oper} {Q : Exit → Act → World → Prop}
theorem wpAnyIn_inv (C : Nat → Array Bool → Act → World → Prop) (h0 : ∀ listed a w, C 0 listed a w → Region.ready md ops listed = [] ∧ Q .normal a w)
    (hs : ∀ k listed a w, C (k + 1) listed a w → Region.ready md ops listed ≠ [] ∧ ∀ i ∈ Region.ready md ops listed, wpOpIn F n P ops Q i (fun a' w' => C k (listed.setIfInBounds i true) a' w') a w) :
    ∀ k listed a w, C k listed a w → wpAnyIn F n P md ops Q k listed a w := by
  intro k
  induction k with
  | zero => exact h0
  | succ k ih =>
    intro listed a w h
    obtain ⟨h1, h2⟩ := hs k listed a w h
    exact ⟨fun e => absurd e h1, fun i hi => wpOpIn_mono (fun a w h => ih _ _ _ h) (h2 i hi)⟩
theorem ready_all {C : Nat → Array Bool → Act → World → Prop} {rs : List Nat} {k : Nat} {listed : Array Bool} {a : Act} {w : World} (hr : Region.ready md ops listed = rs) (hne : rs ≠ [])
    (h : ∀ i ∈ rs, wpOpIn F n P ops Q i (fun a' w' => C k (listed.setIfInBounds i true) a' w') a w) :
    Region.ready md ops listed ≠ [] ∧ ∀ i ∈ Region.ready md ops listed, wpOpIn F n P ops Q i (fun a' w' => C k (listed.setIfInBounds i true) a' w') a w := by
  rw [hr]
  exact ⟨hne, h⟩
theorem step_append_run {o : Oper} {a : Act} {w : World} {K : Act → World → Prop} {E : Prop} (hg : o.guard = none) (s x : Operand) (t : TypeId)
    (hop : o.op = Op.call { callee := Callee.builtin Builtin.append, args := #[s, x], argTypes := #[t, t] }) (v : Value) (hs : a.eval s = v) (u : Value) (hx : a.eval x = u) {v' : Value} {w' : World}
    (hrun : (Builtin.append_ #[t, t] o.type #[v, u]).run P w = .ok v' w') (hK : K (a.put o.dst v') w') :
    if Region.wanted o (yielded ops a.tmps) = true then Oper.wpIn F n P o a w K Q else E := by
  have hw : Region.wanted o (yielded ops a.tmps) = true := by simp [Region.wanted, hg]
  rw [if_pos hw]
  unfold Oper.wpIn
  refine ⟨?_, ?_⟩
  · simp [Oper.about, hop, resolve, Target.leads, Sem.run_pure]
  · rw [Oper.semAt_plain F _ _ (by rw [hop]; intro c hc'; cases hc')]
    simp [execOp, hop, resolve, invoke, builtin, hs, hx, hrun, Result.andThen]
    exact hK
end Go.Proofs.YtbbgmlnfpnomiaaGreatDoor
end

section
/- A range over a function whose value keeps a state of its own in one cell (strings.SplitSeq): the statement, out of the iterator's word and the body's walk, at the wide fence. -/
namespace Go.Proofs.YtbbgmlnfpnomiaaGreatDoor
open Go.RowKit Go.Shelf
variable {P : Program} {n : Nat}
/-- How a round may end: on, or by a return. -/
def endOf {α : Type} (B : Nat) (Kp : World → World → Prop) (I Ix : List α → World → Prop) (xs : List α) (W : World) : Exit → Act → World → Prop
  | .normal, _, W' => KeepsFrom B W W' ∧ Kp W W' ∧ I xs W'
  | .ret, _, W' => KeepsFrom B W W' ∧ Ix xs W'
  | .exit _, _, _ => False
  | .goto _, _, _ => False
  | .panic _, _, _ => False
  | .outgrown, _, _ => False
/-- The word of an iterator that writes the cell p between its rounds, and no other. -/
def IterWord {α : Type} (n : Nat) (P : Program) (gf : Nat) (lb : Array Value) (encs : α → Array Value) (p : Addr) (Kp : World → World → Prop) (S Sp : List α → Prop) (N : Nat) (w : World) : Prop :=
  ∀ (l : Nat) (J Jx : List α → World → Prop) (W : World), Below w.heap.size w W → (∀ s W v, J s W → J s (W.setCell p v)) → (∀ s W W', J s W → W.grownBy W' none → J s W') →
    (∀ pre x W1, J pre W1 → pre.length < N → YieldAt Fence.wide (n - 1) P l (encs x) W1 fun e W' =>
      (e = .returned (.bool true) ∧ J (pre ++ [x]) W' ∧ Kp W1 W') ∨ (e = .returned (.bool false) ∧ Jx (pre ++ [x]) W')) →
    J [] W →
    CallsIn Fence.wide n P gf (#[.func (.yield l) #[] #[]] ++ lb) W fun e W' => (∃ v, e = .returned v) ∧ ((∃ xs, S xs ∧ J xs W') ∨ (∃ pre, Sp pre ∧ Jx pre W'))
theorem wp_range_cell {α : Type} {g : Operand} {ps : Array Tmp} {assign body : Code} {Q : Exit → Act → World → Prop} {a : Act} {w : World} {gf : Nat} {lb : Array Value}
    (hg : a.eval g = .func (.func gf) #[] lb) (eg : ∀ args w, (callFunc gf args).run P w = .ok (.enter gf args) w)
    {encs : α → Array Value} {p : Addr} {Kp : World → World → Prop} {S Sp : List α → Prop} {N : Nat} {w0 : World} (hseq : IterWord (n - 1) P gf lb encs p Kp S Sp N w0)
    (hKt : ∀ {A B C : World}, Kp A B → Kp B C → Kp A C) (hKb : ∀ (W : World) (l : Nat) (o o' : Obj), w.heap.size ≤ l → W.heap[l]? = some o → o.isCells = false → Kp W (W.putObj l o'))
    (hb0 : Below w0.heap.size w0 w) (hps : ∀ x, (encs x).size = ps.size)
    (I Ix : List α → World → Prop) (hI : OwnFrom w.heap.size I) (hIx : OwnFrom w.heap.size Ix) (hIp : ∀ s W v, I s W → I s (W.setCell p v)) (h0 : I [] w) (a₁ : α → Act)
    (hassign : ∀ (l : Nat) (x : α) (W : World) (K : Act → World → Prop), K (a₁ x) W →
      assign.wpIn (Fence.wide.inRound l) (n - 1 - 1) P (Exit.then K (fun _ _ _ => False)) { tmps := (ps.zip (encs x)).foldl (fun t (p, v) => t.setIfInBounds p v) a.tmps, defers := [] } W)
    (hbody : ∀ (l : Nat) (pre : List α) (x : α) (W : World), I pre W → pre.length < N → body.wpIn (Fence.wide.inRound l) (n - 1 - 1) P (endOf w.heap.size Kp I Ix (pre ++ [x]) W) (a₁ x) W)
    (hdone : ∀ (D : Nat) (xs : List α) (W : World), w.heap.size ≤ D → S xs → I xs W → W.heap[D]? = some (.deferred (some [])) → Q .normal { a with defers := { target := .collected D, args := #[] } :: a.defers } W)
    (hstop : ∀ (D : Nat) (pre : List α) (W : World), w.heap.size ≤ D → Sp pre → Ix pre W → W.heap[D]? = some (.deferred (some [])) → Code.ret.wpIn Fence.wide n P Q { a with defers := { target := .collected D, args := #[] } :: a.defers } W) :
    (Code.rangeFunc g ps assign body).wpIn Fence.wide n P Q a w := by
  refine wpIn_rangeFunc fun fn hfn => ?_
  let D := w.heap.size
  let L := D + 1
  let mk : LoopState → Option Code → Loop := fun st pe => { state := st, pending := pe, fn, tmps := a.tmps, params := ps, assign, body, defers := D }
  let W1 := (w.alloc (.deferred (some []))).alloc (.loop (mk .ready none))
  have hL1 : W1.heap[L]? = some (.loop (mk .ready none)) := by
    have := World.alloc_heap_new (w.alloc (.deferred (some []))) (.loop (mk .ready none))
    rwa [World.size_alloc] at this
  have hD1 : W1.heap[D]? = some (.deferred (some [])) := (Below.heap_alloc _ _ _ (by simp [D])).trans (World.alloc_heap_new w _)
  have hI1 : I [] W1 := hI.alloc _ (hI.alloc _ h0)
  have hb1 : Below w0.heap.size w0 W1 := hb0.trans ((((Below.refl _ w).alloc (Nat.le_refl _) _).alloc (by simp) _).mono hb0.size)
  refine ⟨L, [{ target := .collected D, args := #[] }], W1, { target := .fn (.func gf) lb, args := #[.func (.yield L) #[] #[]] }, W1, gf, #[.func (.yield L) #[] #[]] ++ lb, W1, run_enterLoop_outer _ _ _ _ _, ?_, fun _ _ => trivial, ?_, fun h => (by cases h), ?_⟩
  · simp only [resolve, hg]
    simp [go_sem]
  · simp [invoke, go_sem, eg]
  -- what lies in the law's own two blocks abides whatever turns cells, or nothing
  have keepP : ∀ (W : World) (v : Value) (k : Nat) (o : Obj), W.heap[k]? = some o → o.isCells = false → (W.setCell p v).heap[k]? = some o := fun W v k o h ho => (KeepsOthers.setCell W p v).same k o h ho
  have keepG : ∀ (W W' : World) (k : Nat) (o : Obj), W.grownBy W' none → W.heap[k]? = some o → o.isCells = false → W'.heap[k]? = some o := fun W W' k o hg h ho =>
    (hg.block k (Array.getElem?_eq_some_iff.1 h).1 (fun e => by cases e)).trans h
  refine (hseq L (fun pre W => I pre W ∧ W.heap[L]? = some (.loop (mk .ready none)) ∧ W.heap[D]? = some (.deferred (some [])))
    (fun pre W => Ix pre W ∧ W.heap[L]? = some (.loop (mk .done (some .ret))) ∧ W.heap[D]? = some (.deferred (some []))) W1 hb1
    (fun s W v h => ⟨hIp s W v h.1, keepP W v _ _ h.2.1 rfl, keepP W v _ _ h.2.2 rfl⟩)
    (fun s W W' h hgr => ⟨hI s W W' none h.1 hgr (fun r e => (by cases e)), keepG W W' _ _ hgr h.2.1 rfl, keepG W W' _ _ hgr h.2.2 rfl⟩)
    ?_ ⟨hI1, hL1, hD1⟩).mono ?_
  · rintro pre x W ⟨hi, hl, hk⟩ hlen
    have hlt : L < W.heap.size := (Array.getElem?_eq_some_iff.1 hl).1
    refine ⟨fn, _, assign, body, run_yield hl (hps x), roundIn_of_wpIn hfn (hassign _ x W _ ⟨_, run_beginRound hl rfl, ?_⟩)⟩
    have hl2 : (W.putObj L (.loop { mk .ready none with state := .busy })).heap[L]? = some (.loop { mk .ready none with state := .busy }) := World.putObj_heap_same hlt
    have hk2 : (W.putObj L (.loop { mk .ready none with state := .busy })).heap[D]? = some (.deferred (some [])) := (World.putObj_heap_other (by omega)).trans hk
    refine wpIn_mono (hbody _ pre x _ (hI.putObj _ hi (by omega) hl rfl) hlen) ?_
    rintro e a3 W3 hp
    cases e with
    | normal =>
      obtain ⟨hk3, hkp, hi3⟩ := hp
      have hl3 := hk3.same _ _ (by omega) hl2 rfl
      exact ⟨_, _, run_endRound none hl3, .inl ⟨rfl, ⟨hI.putObj _ hi3 (by omega) hl3 rfl, World.putObj_heap_same (Array.getElem?_eq_some_iff.1 hl3).1, (World.putObj_heap_other (by omega)).trans (hk3.same _ _ (Nat.le_refl _) hk2 rfl)⟩,
        hKt (hKt (hKb _ _ _ _ (by omega) hl rfl) hkp) (hKb _ _ _ _ (by omega) hl3 rfl)⟩⟩
    | ret =>
      obtain ⟨hk3, hi3⟩ := hp
      have hl3 := hk3.same _ _ (by omega) hl2 rfl
      exact ⟨_, _, run_endRound (some .ret) hl3, .inr ⟨rfl, hIx.putObj _ hi3 (by omega) hl3 rfl, World.putObj_heap_same (Array.getElem?_eq_some_iff.1 hl3).1, (World.putObj_heap_other (by omega)).trans (hk3.same _ _ (Nat.le_refl _) hk2 rfl)⟩⟩
    | exit id => exact hp.elim
    | goto t => exact hp.elim
    | panic ch => exact hp.elim
    | outgrown => exact hp.elim
  · rintro e W2 ⟨⟨v, rfl⟩, (⟨xs, hS, hi, hl, hk⟩ | ⟨pre, hSp, hi, hl, hk⟩)⟩
    · exact ⟨none, _, run_endLoop hl (by simp [mk]), hdone D xs _ (Nat.le_refl _) hS (hI.putObj _ hi (by omega) hl rfl) ((World.putObj_heap_other (by omega)).trans hk)⟩
    · exact ⟨some .ret, _, run_endLoop hl (by simp [mk]), hstop D pre _ (Nat.le_refl _) hSp (hIx.putObj _ hi (by omega) hl rfl) ((World.putObj_heap_other (by omega)).trans hk)⟩
end Go.Proofs.YtbbgmlnfpnomiaaGreatDoor
end

section
/- Plain words: fields joined. -/
namespace Go.Proofs.YtbbgmlnfpnomiaaGreatDoor
namespace J
/-- A byte that is told behind a stroke. -/
def special (c : UInt8) : Bool := c == 124 || c == 92
def esc1 (c : UInt8) : List UInt8 := if special c then [92, c] else [c]
def esc : List UInt8 → List UInt8
  | [] => []
  | c :: l => esc1 c ++ esc l
def join : List (List UInt8) → List UInt8
  | [] => []
  | s :: l => 124 :: (esc s ++ join l)
theorem esc_append (a b : List UInt8) : esc (a ++ b) = esc a ++ esc b := by
  induction a with
  | nil => rfl
  | cons c a ih => rw [List.cons_append, esc, esc, ih, List.append_assoc]
theorem join_append (a b : List (List UInt8)) : join (a ++ b) = join a ++ join b := by
  induction a with
  | nil => rfl
  | cons c a ih => rw [List.cons_append, join, join, ih, List.cons_append, List.append_assoc]
/-- What is written when k fields are, and j bytes of the next. -/
def pre (l : List (List UInt8)) (k j : Nat) (s : List UInt8) : List UInt8 := join (l.take k) ++ 124 :: esc (s.take j)
theorem esc_one (c : UInt8) : esc [c] = esc1 c := List.append_nil _
theorem esc_snoc (s : List UInt8) (j : Nat) (h : j < s.length) : esc (s.take (j + 1)) = esc (s.take j) ++ esc1 s[j] := by
  rw [List.take_succ_eq_append_getElem h, esc_append, esc_one]
theorem pre_snoc (l : List (List UInt8)) (k j : Nat) (s : List UInt8) (h : j < s.length) : pre l k (j + 1) s = pre l k j s ++ esc1 s[j] := by
  rw [pre, pre, esc_snoc s j h, List.append_assoc, List.cons_append]
theorem pre_zero (l : List (List UInt8)) (k : Nat) (s : List UInt8) : pre l k 0 s = join (l.take k) ++ [124] := rfl
theorem join_snoc (l : List (List UInt8)) (k : Nat) (h : k < l.length) : join (l.take (k + 1)) = pre l k l[k].length l[k] := by
  rw [List.take_succ_eq_append_getElem h, join_append, pre, List.take_length, join, join, List.append_nil]
theorem pre_len (l : List (List UInt8)) (k j : Nat) (h : k < l.length) : (pre l k j l[k]).length ≤ (join l).length := by
  have e : join l = join (l.take k) ++ (124 :: (esc l[k] ++ join (l.drop (k + 1)))) := by
    conv => lhs; rw [← List.take_append_drop k l, List.drop_eq_getElem_cons h]
    rw [join_append, join]
  have h2 : esc l[k] = esc (l[k].take j) ++ esc (l[k].drop j) := by rw [← esc_append, List.take_append_drop]
  rw [e, h2, pre]
  simp only [List.length_append, List.length_cons]
  omega
theorem join_len (l : List (List UInt8)) (k : Nat) : (join (l.take k)).length ≤ (join l).length := by
  conv => rhs; rw [← List.take_append_drop k l, join_append]
  rw [List.length_append]
  omega
end J
end Go.Proofs.YtbbgmlnfpnomiaaGreatDoor
end

section
/- Plain words: fields split, as the program does and as the reference does. -/
namespace Go.Proofs.YtbbgmlnfpnomiaaGreatDoor
namespace J
/-- What is out, the field under way, whether a stroke stands ahead. -/
abbrev St := List (List UInt8) × List UInt8 × Bool
def step (s : St) (c : UInt8) : Option St :=
  if s.2.2 then (if special c then some (s.1, s.2.1 ++ [c], false) else none)
  else if c == 92 then some (s.1, s.2.1, true)
  else if c == 124 then some (s.1 ++ [s.2.1], [], false)
  else some (s.1, s.2.1 ++ [c], false)
def run : List UInt8 → St → Option St
  | [], s => some s
  | c :: l, s => (step s c).bind (run l)
def most (l : List (List UInt8)) : Except Nat (List (List UInt8)) := if l.length > 4096 then .error 4 else .ok l
def split : List UInt8 → Except Nat (List (List UInt8))
  | [] => .ok []
  | c :: l => if c == 124 then
      match run l ([], [], false) with
      | some (out, f, false) => most (out ++ [f])
      | _ => .error 2
    else .error 2
end J
end Go.Proofs.YtbbgmlnfpnomiaaGreatDoor
end

section
/- Plain words: a number that is just so written. -/
namespace Go.Proofs.YtbbgmlnfpnomiaaGreatDoor
namespace J
def isDig (c : UInt8) : Prop := 48 ≤ c.toNat ∧ c.toNat ≤ 57
instance (c : UInt8) : Decidable (isDig c) := inferInstanceAs (Decidable (_ ∧ _))
def dval (v : Nat) (c : UInt8) : Nat := 10 * v + (c.toNat - 48)
def val (l : List UInt8) : Nat := l.foldl dval 0
theorem val_snoc (l : List UInt8) (k : Nat) (h : k < l.length) : val (l.take (k + 1)) = 10 * val (l.take k) + (l[k].toNat - 48) := by
  rw [List.take_succ_eq_append_getElem h, val, List.foldl_append]
  rfl
theorem foldl_ge (l : List UInt8) : ∀ v, v ≤ l.foldl dval v := by
  induction l with
  | nil => intro v; exact Nat.le_refl v
  | cons c l ih => intro v; refine Nat.le_trans ?_ (ih (dval v c)); unfold dval; omega
theorem val_take (l : List UInt8) (k : Nat) : val (l.take k) ≤ val l := by
  conv => rhs; rw [← List.take_append_drop k l]
  unfold val
  rw [List.foldl_append]
  exact foldl_ge _ _
/-- A number's digits, with a stroke ahead or not. -/
def tnum (m : Bool) (t : List UInt8) : Except Nat Int :=
  if t = [] ∨ (t.head? = some 48 ∧ (1 < t.length ∨ m = true)) ∨ ¬ (∀ c ∈ t, isDig c) then .error 2
  else if m = true then (if val t ≤ 9223372036854775808 then .ok (-(val t : Int)) else .error 4)
  else (if val t < 9223372036854775808 then .ok (val t : Int) else .error 4)
def pnum : List UInt8 → Except Nat Int
  | [] => .error 2
  | c :: t => if c = 45 then tnum true t else tnum false (c :: t)
end J
end Go.Proofs.YtbbgmlnfpnomiaaGreatDoor
end
