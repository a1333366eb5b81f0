/- What the rows' list of the library's variables gives: the facts that the walks of the fields read; a world that meets the list; opening of slices of texts. -/
import Derived.Test.YtbbgmlnfpnomiaaGreatDoorKSameM
import Derived.Test.YtbbgmlnfpnomiaaGreatDoorCards
import Derived.Test.YtbbgmlnfpnomiaaGreatDoorTie
import Derived.Test.YtbbgmlnfpnomiaaGreatDoorLD
import Derived.ProofKit
import Derived.OpenShut
import Derived.ShutString
import Derived.SliceStrings
import Derived.Stop.LaidErr
import Derived.LaidSub
import Derived.Deep.DeepHandedRow
import Derived.Deep.DeepWitnessRowRef
import Derived.Lib.LaidTab
import Derived.LaidLaws
set_option linter.unusedVariables false
namespace Go.Proofs.YtbbgmlnfpnomiaaGreatDoor
open Go.ChangeShapes Go.WideShapes Go.ChangeAt Go.RowKit
theorem arr_of {α : Type} {a : Array α} {l : List α} (h : a.toList = l) : a = l.toArray := by cases a; simp_all
theorem own : ownKnob Tryz.prog.godebug = none := by kernel_rfl
theorem laidOut : laidOutB Tryz.prog = true := by kernel_rfl
theorem cell_lt {W : World} {a : Addr} {v : Value} (h : W.cell? a = some v) : a.block < W.heap.size := by
  rcases Nat.lt_or_ge a.block W.heap.size with h1 | h1
  · exact h1
  · simp [World.cell?, Array.getElem?_eq_none h1] at h
/-- A slice of integers that came in: a row that reads. -/
theorem open_intsl {H : Type} {enc : TypeId × Value → H} {P : Program} {W : World} {r : Reach} {base : Nat} {T E : TypeId} {k : IntKind} {v : Value} {d : DataW H} {ps : List MemPlace}
    (ht : P.underlying T = some (.slice E)) (he : P.underlying E = some (.int k)) (hc : P.cellsOf E = 1) (hv : Value.okWide P W r base T v) (h : DataW.Trod enc P W 0 (fun _ => true) true T v d ps) :
    ∃ (A : Option Addr) (zs : List Int) (c : Nat), v = .slice A zs.length c ∧ Rd W A (zs.map (Value.int k)) ∧ (∀ n ∈ zs, (Lit.int k n).wf = true) ∧ zs.length ≤ maxLen := by
  obtain ⟨a0, len, cap, rfl⟩ := okWide_slice ht hv
  obtain ⟨fuel, hf⟩ := h
  rcases open_ints ht he hc hf with ⟨hcs, _⟩ | ⟨a, len', cap', zs, hcs, _, hl, hm, hz, _, hcell, hwz⟩
  · simp [Value.cells] at hcs
    obtain ⟨rfl, rfl, rfl⟩ := hcs
    exact ⟨none, [], 0, rfl, Rd.nil _ _, by simp, by simp⟩
  · simp [Value.cells] at hcs
    obtain ⟨rfl, rfl, rfl⟩ := hcs
    simp only [if_true] at hz
    have hlen : (zs.take len).length = len := by rw [List.length_take]; omega
    refine ⟨some a, zs.take len, cap, by rw [hlen], ?_, fun n hn => hwz n (List.mem_of_mem_take hn), by omega⟩
    by_cases h0 : len = 0
    · subst h0; exact Rd.nil _ _
    · refine .inr ⟨a, rfl, ?_, fun j hj => ?_⟩
      · have := cell_lt (hcell 0 (by omega)); rwa [add_block] at this
      · rw [List.length_map, hlen] at hj
        rw [hcell j (by omega), List.getElem?_map, List.getElem?_take, if_pos hj, List.getElem?_eq_getElem (by omega)]
        simp [List.getElem?_eq_getElem (show j < zs.length by omega)]
/-- A slice of texts that came in: a row that reads. -/
theorem open_strsl {H : Type} {enc : TypeId × Value → H} {P : Program} {W : World} {r : Reach} {base : Nat} {T E : TypeId} {v : Value} {d : DataW H} {ps : List MemPlace}
    (ht : P.underlying T = some (.slice E)) (he : P.underlying E = some .string) (hc : P.cellsOf E = 1) (hv : Value.okWide P W r base T v) (h : DataW.Trod enc P W 0 (fun _ => true) true T v d ps) :
    ∃ (A : Option Addr) (ss : List ByteArray) (c : Nat), v = .slice A ss.length c ∧ Rd W A (cStrs ss) ∧ (∀ s ∈ ss, s.size ≤ maxLen) ∧ ss.length ≤ maxLen := by
  obtain ⟨a0, len, cap, rfl⟩ := okWide_slice ht hv
  obtain ⟨fuel, hf⟩ := h
  rcases open_strings ht he hc hf with ⟨hcs, _⟩ | ⟨a, len', cap', ss, hcs, _, hl, hm, hz, _, hcell, hwz⟩
  · simp [Value.cells] at hcs
    obtain ⟨rfl, rfl, rfl⟩ := hcs
    exact ⟨none, [], 0, rfl, Rd.nil _ _, by simp, by simp⟩
  · simp [Value.cells] at hcs
    obtain ⟨rfl, rfl, rfl⟩ := hcs
    simp only [if_true] at hz
    have hlen : (ss.take len).length = len := by rw [List.length_take]; omega
    refine ⟨some a, ss.take len, cap, by rw [hlen], ?_, fun n hn => hwz n (List.mem_of_mem_take hn), by omega⟩
    by_cases h0 : len = 0
    · subst h0; exact Rd.nil _ _
    · refine .inr ⟨a, rfl, ?_, fun j hj => ?_⟩
      · have := cell_lt (hcell 0 (by omega)); rwa [add_block] at this
      · rw [List.length_map, hlen] at hj
        rw [hcell j (by omega), List.getElem?_map, List.getElem?_take, if_pos hj, List.getElem?_eq_getElem (by omega)]
        simp [List.getElem?_eq_getElem (show j < ss.length by omega)]
def tz32 : List Int := [0, 1, 28, 2, 29, 14, 24, 3, 30, 22, 20, 15, 25, 17, 4, 8, 31, 27, 13, 23, 21, 19, 16, 7, 26, 12, 18, 6, 11, 5, 10, 9]
def pow10 : List Int := [1, 10, 100, 1000, 10000, 100000, 1000000, 10000000, 100000000, 1000000000, 10000000000, 100000000000, 1000000000000, 10000000000000, 100000000000000, 1000000000000000, 10000000000000000, 100000000000000000, 1000000000000000000, 10000000000000000000]
def tz64 : List Int := [0, 1, 56, 2, 57, 49, 28, 3, 61, 58, 42, 50, 38, 29, 17, 4, 62, 47, 59, 36, 45, 43, 51, 22, 53, 39, 33, 30, 24, 18, 12, 5, 63, 55, 48, 27, 60, 41, 37, 16, 46, 35, 44, 21, 52, 32, 23, 11, 54, 26, 40, 15, 34, 20, 31, 10, 25, 14, 19, 9, 13, 8, 7, 6]
def acc16 : List Int := [128, 191, 160, 191, 128, 159, 144, 191, 128, 143, 0, 0, 0, 0, 0, 0, 0, 0, 0, 0, 0, 0, 0, 0, 0, 0, 0, 0, 0, 0, 0, 0]
theorem cells_u64 : Tryz.prog.cellsOf 22 = 1 := by kernel_rfl
theorem cells_p10 : Tryz.prog.cellsOf 429 = 20 := by kernel_rfl
theorem cells_es : Tryz.prog.cellsOf 450 = 1 := by kernel_rfl
theorem cells_str : Tryz.prog.cellsOf 9 = 1 := by kernel_rfl
theorem star_es : "*" ++ "errors.errorString" = "*errors.errorString" := by decide
theorem row_es (u : TypeId) (h : Tryz.prog.typeName? 3 u = some "*errors.errorString") : u = 448 :=
  typeName_ptr_named (nm := "errors.errorString") (by rw [star_es]; kernel_rfl) (by kernel_rfl) (by decide) u (by rw [star_es]; exact h)
theorem laid_rng {W : World} (h : laidMetH Tryz.prog Rows.sigWordsRow.laid W) : RngOk W := by
  have hm : laidMet Tryz.prog Rows.sigWordsRow.laid W := h
  have h1 := hm.filter (fun x => x.1 == "strconv.ErrRange")
  have h2 : laidMet Tryz.prog [("strconv.ErrRange", Rows.laid_strconv_ErrRange)] W := by simpa [Rows.sigWordsRow] using h1
  have hg : Tryz.prog.globalNamed "strconv.ErrRange" = some 0 := by kernel_rfl
  obtain ⟨a, s, hv, hc, _, _⟩ := laid_sentinel h2 hg (by kernel_rfl) Tryz.underlying303 row_es Tryz.underlying448 Tryz.underlying450 rfl rfl Tryz.underlying9 cells_es cells_str
  have hcell := World.var?_cell hg hv 0
  have hcell2 : W.cell? ⟨0, 0, none⟩ = some (.iface 448 (.pointer (some a))) := by simpa using hcell
  exact ⟨a, cell_lt hc, cell_lt hcell2, hcell2⟩
theorem laid_tab {W : World} (h : laidMetH Tryz.prog Rows.sigWordsRow.laid W) : TabOk W := by
  have hm : laidMet Tryz.prog Rows.sigWordsRow.laid W := h
  have h1 := hm.filter (fun x => x.1 == "internal/strconv.uint64pow10")
  have h2 : laidMet Tryz.prog [("internal/strconv.uint64pow10", Rows.laid_internal_strconv_uint64pow10)] W := by simpa [Rows.sigWordsRow] using h1
  exact Lib.tabIs_of_head (k := .u64) (zs := Lib.pow10Tab) (g := 2) (by kernel_rfl) (by kernel_rfl) Tryz.underlying429 Tryz.underlying22 cells_u64 cells_p10 h2
theorem laidVars_mem {P : Program} {w : World} {n : String} {d : DataW Unit} : ∀ (l : List (String × DataW Unit)) {ps : List MemPlace}, DataW.LaidVars P w l ps → (n, d) ∈ l →
    ∃ g t cs fuel p, P.globalNamed n = some g ∧ (P.globals[g]?).map (·.type) = some t ∧ w.var? P n = some cs ∧ DataW.trod (fun _ => ()) P w 0 (fun _ => true) false fuel t cs.toList = some (d, p)
  | [], _, _, hm => by cases hm
  | (n', d') :: r, ps, h, hm => by
    obtain ⟨g, t, cs, fuel, p, q, h1, h2, h3, h4, h5, _⟩ := h
    rcases List.mem_cons.1 hm with e | hm
    · injection e with e1 e2
      subst e1 e2
      exact ⟨g, t, cs, fuel, p, h1, h2, h3, h4⟩
    · exact laidVars_mem r h5 hm
theorem cells_u8 : Tryz.prog.cellsOf 5 = 1 := by kernel_rfl
theorem cells_tz : Tryz.prog.cellsOf 458 = 64 := by kernel_rfl
theorem laid_tz {W : World} (h : laidMetH Tryz.prog Rows.sigWordsRow.laid W) : W.cell? ⟨7, 15, none⟩ = some (.int .u8 4) := by
    have hm : laidMet Tryz.prog Rows.sigWordsRow.laid W := h
    obtain ⟨ps, hv, _⟩ := hm
    obtain ⟨g, t, cs, fuel, p, hg, ht, hc, hd⟩ := laidVars_mem (n := "math/bits.deBruijn64tab") (d := Rows.laid_math_bits_deBruijn64tab) _ hv (by simp [Rows.sigWordsRow])
    obtain rfl : 7 = g := Option.some.inj ((show Tryz.prog.globalNamed "math/bits.deBruijn64tab" = some 7 by kernel_rfl).symm.trans hg)
    obtain rfl : 458 = t := Option.some.inj ((show (Tryz.prog.globals[7]?).map (·.type) = some 458 by kernel_rfl).symm.trans ht)
    have hcs := Lib.cells_of_tab (zs := tz64) Tryz.underlying458 Tryz.underlying5 cells_u8 cells_tz hd
    have h := World.var?_cell (show Tryz.prog.globalNamed "math/bits.deBruijn64tab" = some 7 by kernel_rfl) hc 15
    rw [h, ← Array.getElem?_toList, hcs]
    rfl
theorem laid_syn {W : World} (h : laidMetH Tryz.prog Rows.sigWordsRow.laid W) : ∃ ev, W.cell? ⟨1, 0, none⟩ = some ev ∧ (ev = .nilIface ∨ ∃ te pe, ev = .iface te pe) := by
  have hm : laidMet Tryz.prog Rows.sigWordsRow.laid W := h
  have h1 := hm.filter (fun x => x.1 == "strconv.ErrSyntax")
  have h2 : laidMet Tryz.prog [("strconv.ErrSyntax", Rows.laid_strconv_ErrSyntax)] W := by simpa [Rows.sigWordsRow] using h1
  have hg : Tryz.prog.globalNamed "strconv.ErrSyntax" = some 1 := by kernel_rfl
  obtain ⟨a, s, hv, hc, _, _⟩ := laid_sentinel h2 hg (by kernel_rfl) Tryz.underlying303 row_es Tryz.underlying448 Tryz.underlying450 rfl rfl Tryz.underlying9 cells_es cells_str
  have hcell := World.var?_cell hg hv 0
  have hcell2 : W.cell? ⟨1, 0, none⟩ = some (.iface 448 (.pointer (some a))) := by simpa using hcell
  exact ⟨_, hcell2, .inr ⟨_, _, rfl⟩⟩
theorem kok_of_laid {W : World} (h : laidMetH Tryz.prog Rows.sigWordsRow.laid W) : KOk W :=
  have hr := laid_rng h
  ⟨⟨laid_tz h, laid_syn h, hr.elim fun _ x => ⟨_, x.2.2, .inr ⟨_, _, rfl⟩⟩⟩, hr, ⟨laid_tab h, laid_tz h⟩⟩
/-- A world that meets the list: the settled one, each listed variable as its text lays it. -/
noncomputable def laidWorld (os : Os) : World :=
  let N := (World.settled Tryz.prog os).heap.size
  let w0 := World.holding Tryz.prog os ⟨#[.cells #[.string ⟨#[105, 110, 118, 97, 108, 105, 100, 32, 115, 121, 110, 116, 97, 120]⟩] 450, .cells #[.string ⟨#[118, 97, 108, 117, 101, 32, 111, 117, 116, 32, 111, 102, 32, 114, 97, 110, 103, 101]⟩] 450], #[], []⟩
  let put (h : Array Obj) (g : Nat) (cs : Array Value) : Array Obj := h.modify g fun
    | .cells _ t frozen => .cells cs t frozen
    | o => o
  let h0 := put w0.heap 1 #[.iface 448 (.pointer (some ⟨N, 0, none⟩))]
  let h1 := put h0 0 #[.iface 448 (.pointer (some ⟨N + 1, 0, none⟩))]
  let h2 := put h1 6 (tz32.map fun z => Value.int .u8 z).toArray
  let h3 := put h2 7 (tz64.map fun z => Value.int .u8 z).toArray
  let h4 := put h3 2 (pow10.map fun z => Value.int .u64 z).toArray
  let h5 := put h4 4 (acc16.map fun z => Value.int .u8 z).toArray
  let h6 := put h5 3 (Pinned.utf8FirstZ.map fun (z : Nat) => Value.int .u8 (z : Int)).toArray
  { w0 with heap := h6 }
theorem laid_met (os : Os) (args : Array Value) : laidMet Tryz.prog Rows.sigWordsRow.laid ((laidWorld os).forCall (fun _ _ => 0) ⟨#[], args, []⟩).memory :=
  laidMet_of_run' 8 (by kernel_rfl) (by kernel_rfl)
end Go.Proofs.YtbbgmlnfpnomiaaGreatDoor
