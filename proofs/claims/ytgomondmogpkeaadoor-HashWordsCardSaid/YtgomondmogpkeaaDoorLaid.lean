/- What the rows' list of the library's variables gives: the facts that the walks read; a world that meets the list. -/
import Derived.Test.YtgomondmogpkeaaDoorCards
import Derived.Test.YtgomondmogpkeaaDoorTie
import Derived.Test.YtgomondmogpkeaaDoorWParse
import Derived.ProofKit
import Derived.OpenShut
import Derived.ShutString
import Derived.Deep.DeepHandedRow
import Derived.Deep.DeepWitnessRowRef
import Derived.Lib.LaidTab
import Derived.LaidLaws
namespace Go.Proofs.YtgomondmogpkeaaDoor
open Go.ChangeShapes Go.WideShapes Go.ChangeAt Go.RowKit
theorem own : ownKnob Tryd.prog.godebug = none := by kernel_rfl
theorem laidVars_mem {P : Program} {w : World} {n : String} {d : DataW Unit} : ∀ (l : List (String × DataW Unit)) {ps : List MemPlace}, DataW.LaidVars P w l ps → (n, d) ∈ l →
    ∃ g t cs fuel p, P.globalNamed n = some g ∧ (P.globals[g]?).map (·.type) = some t ∧ w.var? P n = some cs ∧ DataW.trod (fun _ => ()) P w 0 (fun _ => true) false fuel t cs.toList = some (d, p)
  | [], _, _, hm => by cases hm
  | (n', d') :: r, ps, h, hm => by
    obtain ⟨g, t, cs, fuel, p, q, h1, h2, h3, h4, h5, _⟩ := h
    rcases List.mem_cons.1 hm with e | hm
    · injection e with e1 e2
      subst e1 e2
      exact ⟨g, t, cs, fuel, p, h1, h2, h3, h4⟩
    · exact laidVars_mem r h5 hm
def tz32 : List Int := [0, 1, 28, 2, 29, 14, 24, 3, 30, 22, 20, 15, 25, 17, 4, 8, 31, 27, 13, 23, 21, 19, 16, 7, 26, 12, 18, 6, 11, 5, 10, 9]
def pow10 : List Int := [1, 10, 100, 1000, 10000, 100000, 1000000, 10000000, 100000000, 1000000000, 10000000000, 100000000000, 1000000000000, 10000000000000, 100000000000000, 1000000000000000, 10000000000000000, 100000000000000000, 1000000000000000000, 10000000000000000000]
def tz64 : List Int := [0, 1, 56, 2, 57, 49, 28, 3, 61, 58, 42, 50, 38, 29, 17, 4, 62, 47, 59, 36, 45, 43, 51, 22, 53, 39, 33, 30, 24, 18, 12, 5, 63, 55, 48, 27, 60, 41, 37, 16, 46, 35, 44, 21, 52, 32, 23, 11, 54, 26, 40, 15, 34, 20, 31, 10, 25, 14, 19, 9, 13, 8, 7, 6]
theorem cells_u8 : Tryd.prog.cellsOf 5 = 1 := by kernel_rfl
theorem cells_tz : Tryd.prog.cellsOf 106 = 64 := by kernel_rfl
theorem gl_of_laid {W : World} (h : laidMetH Tryd.prog Rows.hashWordsRow.laid W) : Gl W := by
  obtain ⟨ps, hv, _⟩ : laidMet Tryd.prog Rows.hashWordsRow.laid W := h
  refine ⟨?_, ?_, ?_⟩
  · obtain ⟨g, t, cs, fuel, p, hg, ht, hc, hd⟩ := laidVars_mem (n := "math/bits.deBruijn64tab") (d := Rows.laid_math_bits_deBruijn64tab) _ hv (by simp [Rows.hashWordsRow])
    obtain rfl : 5 = g := Option.some.inj ((show Tryd.prog.globalNamed "math/bits.deBruijn64tab" = some 5 by kernel_rfl).symm.trans hg)
    obtain rfl : 106 = t := Option.some.inj ((show (Tryd.prog.globals[5]?).map (·.type) = some 106 by kernel_rfl).symm.trans ht)
    have hcs := Lib.cells_of_tab (zs := tz64) Tryd.underlying106 Tryd.underlying5 cells_u8 cells_tz hd
    have h := World.var?_cell (show Tryd.prog.globalNamed "math/bits.deBruijn64tab" = some 5 by kernel_rfl) hc 15
    rw [h, ← Array.getElem?_toList, hcs]
    rfl
  · obtain ⟨g, t, cs, fuel, p, hg, ht, hc, hd⟩ := laidVars_mem (n := "strconv.ErrSyntax") (d := Rows.laid_strconv_ErrSyntax) _ hv (by simp [Rows.hashWordsRow])
    obtain rfl : 0 = g := Option.some.inj ((show Tryd.prog.globalNamed "strconv.ErrSyntax" = some 0 by kernel_rfl).symm.trans hg)
    obtain rfl : 48 = t := Option.some.inj ((show (Tryd.prog.globals[0]?).map (·.type) = some 48 by kernel_rfl).symm.trans ht)
    obtain ⟨_, u, v, hcs, _⟩ := iface_of_trod Tryd.underlying48 hd
    have h := World.var?_cell (show Tryd.prog.globalNamed "strconv.ErrSyntax" = some 0 by kernel_rfl) hc 0
    exact ⟨.iface u v, by rw [h, ← Array.getElem?_toList, hcs]; rfl, .inr ⟨u, v, rfl⟩⟩
  · obtain ⟨g, t, cs, fuel, p, hg, ht, hc, hd⟩ := laidVars_mem (n := "strconv.ErrRange") (d := Rows.laid_strconv_ErrRange) _ hv (by simp [Rows.hashWordsRow])
    obtain rfl : 1 = g := Option.some.inj ((show Tryd.prog.globalNamed "strconv.ErrRange" = some 1 by kernel_rfl).symm.trans hg)
    obtain rfl : 48 = t := Option.some.inj ((show (Tryd.prog.globals[1]?).map (·.type) = some 48 by kernel_rfl).symm.trans ht)
    obtain ⟨_, u, v, hcs, _⟩ := iface_of_trod Tryd.underlying48 hd
    have h := World.var?_cell (show Tryd.prog.globalNamed "strconv.ErrRange" = some 1 by kernel_rfl) hc 0
    exact ⟨.iface u v, by rw [h, ← Array.getElem?_toList, hcs]; rfl, .inr ⟨u, v, rfl⟩⟩
/-- A world that meets the list: the settled one, each listed variable as its text lays it. -/
noncomputable def laidWorld (os : Os) : World :=
  let N := (World.settled Tryd.prog os).heap.size
  let w0 := World.holding Tryd.prog os ⟨#[.cells #[.string ⟨#[105, 110, 118, 97, 108, 105, 100, 32, 115, 121, 110, 116, 97, 120]⟩] 102, .cells #[.string ⟨#[118, 97, 108, 117, 101, 32, 111, 117, 116, 32, 111, 102, 32, 114, 97, 110, 103, 101]⟩] 102], #[], []⟩
  let put (h : Array Obj) (g : Nat) (cs : Array Value) : Array Obj := h.modify g fun
    | .cells _ t frozen => .cells cs t frozen
    | o => o
  let h0 := put w0.heap 0 #[.iface 100 (.pointer (some ⟨N, 0, none⟩))]
  let h1 := put h0 1 #[.iface 100 (.pointer (some ⟨N + 1, 0, none⟩))]
  let h2 := put h1 4 (tz32.map fun z => Value.int .u8 z).toArray
  let h3 := put h2 5 (tz64.map fun z => Value.int .u8 z).toArray
  let h4 := put h3 2 (pow10.map fun z => Value.int .u64 z).toArray
  { w0 with heap := h4 }
theorem laid_met (os : Os) (args : Array Value) : laidMet Tryd.prog Rows.hashWordsRow.laid ((laidWorld os).forCall (fun _ _ => 0) ⟨#[], args, []⟩).memory :=
  laidMet_of_run' 8 (by kernel_rfl) (by kernel_rfl)
end Go.Proofs.YtgomondmogpkeaaDoor
