/- What the rows' list of the library's variables gives: the facts that the walks read; a world that meets the list. -/
import Derived.Test.YtilengooiffikaaDoorCards
import Derived.Test.YtilengooiffikaaDoorTie
import Derived.Test.YtilengooiffikaaDoorTok
import Derived.ProofKit
import Derived.OpenShut
import Derived.ShutString
import Derived.Deep.DeepHandedRow
import Derived.Deep.DeepWitnessRowRef
import Derived.Lib.LaidTab
import Derived.LaidLaws
import Derived.LaidSub
set_option linter.unusedVariables false
namespace Go.Proofs.YtilengooiffikaaDoor
open Go.ChangeShapes Go.WideShapes Go.ChangeAt Go.RowKit
theorem arr_of {α : Type} {a : Array α} {l : List α} (h : a.toList = l) : a = l.toArray := by cases a; simp_all
theorem own : ownKnob Tryd.prog.godebug = none := by kernel_rfl
theorem laidOut : laidOutB Tryd.prog = true := by kernel_rfl
theorem cell_lt {W : World} {a : Addr} {v : Value} (h : W.cell? a = some v) : a.block < W.heap.size := by
  rcases Nat.lt_or_ge a.block W.heap.size with h1 | h1
  · exact h1
  · simp [World.cell?, Array.getElem?_eq_none h1] at h
/-- A slice of integers that came in: a row that reads. -/
theorem open_intsl {H : Type} {enc : TypeId × Value → H} {P : Program} {W : World} {r : Reach} {base : Nat} {T E : TypeId} {k : IntKind} {v : Value} {d : DataW H} {ps : List MemPlace}
    (ht : P.underlying T = some (.slice E)) (he : P.underlying E = some (.int k)) (hc : P.cellsOf E = 1) (hv : Value.okWide P W r base T v) (h : DataW.Trod enc P W 0 (fun _ => true) true T v d ps) :
    ∃ (A : Option Addr) (zs : List Int) (c : Nat), v = .slice A zs.length c ∧ Rd W A (zs.map (Value.int k)) ∧ (∀ n ∈ zs, (Lit.int k n).wf = true) ∧ zs.length ≤ maxLen := by
  obtain ⟨a0, len, cap, rfl⟩ := okWide_slice ht hv
  obtain ⟨fuel, hf⟩ := h
  rcases open_ints ht he hc hf with ⟨hcs, _⟩ | ⟨a, len', cap', zs, hcs, _, hl, hm, hz, _, hcell, hwz⟩
  · simp [Value.cells] at hcs
    obtain ⟨rfl, rfl, rfl⟩ := hcs
    exact ⟨none, [], 0, rfl, Rd.nil _ _, by simp, by simp⟩
  · simp [Value.cells] at hcs
    obtain ⟨rfl, rfl, rfl⟩ := hcs
    simp only [if_true] at hz
    have hlen : (zs.take len).length = len := by rw [List.length_take]; omega
    refine ⟨some a, zs.take len, cap, by rw [hlen], ?_, fun n hn => hwz n (List.mem_of_mem_take hn), by omega⟩
    by_cases h0 : len = 0
    · subst h0; exact Rd.nil _ _
    · refine .inr ⟨a, rfl, ?_, fun j hj => ?_⟩
      · have := cell_lt (hcell 0 (by omega)); rwa [add_block] at this
      · rw [List.length_map, hlen] at hj
        rw [hcell j (by omega), List.getElem?_map, List.getElem?_take, if_pos hj, List.getElem?_eq_getElem (by omega)]
        simp [List.getElem?_eq_getElem (show j < zs.length by omega)]
/-- Bytes as numbers of their kind. -/
theorem bytes_of (zs : List Int) (h : ∀ n ∈ zs, (Lit.int .u8 n).wf = true) : (zs.map fun z => UInt8.ofNat z.toNat).map cU8 = zs.map (Value.int .u8) := by
  rw [List.map_map]
  refine List.map_congr_left fun z hz => ?_
  have hb := bounds_u8 (h z hz)
  show Value.int .u8 (((UInt8.ofNat z.toNat).toNat : Nat) : Int) = Value.int .u8 z
  rw [UInt8.toNat_ofNat', Nat.mod_eq_of_lt (by omega)]
  congr 1
  omega
theorem laidVars_mem {P : Program} {w : World} {n : String} {d : DataW Unit} : ∀ (l : List (String × DataW Unit)) {ps : List MemPlace}, DataW.LaidVars P w l ps → (n, d) ∈ l →
    ∃ g t cs fuel p, P.globalNamed n = some g ∧ (P.globals[g]?).map (·.type) = some t ∧ w.var? P n = some cs ∧ DataW.trod (fun _ => ()) P w 0 (fun _ => true) false fuel t cs.toList = some (d, p)
  | [], _, _, hm => by cases hm
  | (n', d') :: r, ps, h, hm => by
    obtain ⟨g, t, cs, fuel, p, q, h1, h2, h3, h4, h5, _⟩ := h
    rcases List.mem_cons.1 hm with e | hm
    · injection e with e1 e2
      subst e1 e2
      exact ⟨g, t, cs, fuel, p, h1, h2, h3, h4⟩
    · exact laidVars_mem r h5 hm
def tz32 : List Int := [0, 1, 28, 2, 29, 14, 24, 3, 30, 22, 20, 15, 25, 17, 4, 8, 31, 27, 13, 23, 21, 19, 16, 7, 26, 12, 18, 6, 11, 5, 10, 9]
def pow10 : List Int := [1, 10, 100, 1000, 10000, 100000, 1000000, 10000000, 100000000, 1000000000, 10000000000, 100000000000, 1000000000000, 10000000000000, 100000000000000, 1000000000000000, 10000000000000000, 100000000000000000, 1000000000000000000, 10000000000000000000]
def tz64 : List Int := [0, 1, 56, 2, 57, 49, 28, 3, 61, 58, 42, 50, 38, 29, 17, 4, 62, 47, 59, 36, 45, 43, 51, 22, 53, 39, 33, 30, 24, 18, 12, 5, 63, 55, 48, 27, 60, 41, 37, 16, 46, 35, 44, 21, 52, 32, 23, 11, 54, 26, 40, 15, 34, 20, 31, 10, 25, 14, 19, 9, 13, 8, 7, 6]
theorem cells_u8 : Tryd.prog.cellsOf 5 = 1 := by kernel_rfl
theorem cells_tz : Tryd.prog.cellsOf 196 = 64 := by kernel_rfl
theorem cells_u64 : Tryd.prog.cellsOf 26 = 1 := by kernel_rfl
theorem cells_p10 : Tryd.prog.cellsOf 188 = 20 := by kernel_rfl
theorem tok_of_laid {W : World} (h : laidMetH Tryd.prog Rows.bookFundsRow.laid W) : TOk W := by
  have hm : laidMet Tryd.prog Rows.bookFundsRow.laid W := h
  refine ⟨?_, ?_⟩
  · have h1 := hm.filter (fun x => x.1 == "internal/strconv.uint64pow10")
    have h2 : laidMet Tryd.prog [("internal/strconv.uint64pow10", Rows.laid_internal_strconv_uint64pow10)] W := by simpa [Rows.bookFundsRow] using h1
    exact Lib.tabIs_of_head (k := .u64) (zs := Lib.pow10Tab) (g := 1) (by kernel_rfl) (by kernel_rfl) Tryd.underlying188 Tryd.underlying26 cells_u64 cells_p10 h2
  · obtain ⟨ps, hv, _⟩ := hm
    obtain ⟨g, t, cs, fuel, p, hg, ht, hc, hd⟩ := laidVars_mem (n := "math/bits.deBruijn64tab") (d := Rows.laid_math_bits_deBruijn64tab) _ hv (by simp [Rows.bookFundsRow])
    obtain rfl : 3 = g := Option.some.inj ((show Tryd.prog.globalNamed "math/bits.deBruijn64tab" = some 3 by kernel_rfl).symm.trans hg)
    obtain rfl : 196 = t := Option.some.inj ((show (Tryd.prog.globals[3]?).map (·.type) = some 196 by kernel_rfl).symm.trans ht)
    have hcs := Lib.cells_of_tab (zs := tz64) Tryd.underlying196 Tryd.underlying5 cells_u8 cells_tz hd
    have h := World.var?_cell (show Tryd.prog.globalNamed "math/bits.deBruijn64tab" = some 3 by kernel_rfl) hc 15
    rw [h, ← Array.getElem?_toList, hcs]
    rfl
/-- A world that meets the list: the settled one, each listed variable as its text lays it. -/
noncomputable def laidWorld (os : Os) : World :=
  let w0 := World.holding Tryd.prog os ⟨#[], #[], []⟩
  let put (h : Array Obj) (g : Nat) (cs : Array Value) : Array Obj := h.modify g fun
    | .cells _ t frozen => .cells cs t frozen
    | o => o
  let h2 := put w0.heap 2 (tz32.map fun z => Value.int .u8 z).toArray
  let h3 := put h2 3 (tz64.map fun z => Value.int .u8 z).toArray
  let h4 := put h3 1 (pow10.map fun z => Value.int .u64 z).toArray
  { w0 with heap := h4 }
theorem laid_met (os : Os) (args : Array Value) : laidMet Tryd.prog Rows.bookFundsRow.laid ((laidWorld os).forCall (fun _ _ => 0) ⟨#[], args, []⟩).memory :=
  laidMet_of_run' 8 (by kernel_rfl) (by kernel_rfl)
end Go.Proofs.YtilengooiffikaaDoor
