/- For rows whose list of the library's variables is empty: opening of what came in; a world. -/
import Derived.Test.YtifanmggfoicfaaRows
import Derived.Test.YtifanmggfoicfaaCore
import Derived.ProofKit
import Derived.OpenShut
import Derived.ShutString
import Derived.SliceStrings
import Derived.Stop.LaidErr
import Derived.LaidSub
import Derived.Deep.DeepHandedRow
import Derived.Deep.DeepWitnessRowRef
import Derived.Lib.LaidTab
import Derived.LaidLaws
set_option linter.unusedVariables false
namespace Go.Proofs.Ytifanmggfoicfaa
open Go.ChangeShapes Go.WideShapes Go.ChangeAt Go.RowKit
theorem arr_of {α : Type} {a : Array α} {l : List α} (h : a.toList = l) : a = l.toArray := by cases a; simp_all
theorem own : ownKnob Try.prog.godebug = none := by kernel_rfl
theorem laidOut : laidOutB Try.prog = true := by kernel_rfl
theorem cell_lt {W : World} {a : Addr} {v : Value} (h : W.cell? a = some v) : a.block < W.heap.size := by
  rcases Nat.lt_or_ge a.block W.heap.size with h1 | h1
  · exact h1
  · simp [World.cell?, Array.getElem?_eq_none h1] at h
/-- A slice of integers that came in: a row that reads. -/
theorem open_intsl {H : Type} {enc : TypeId × Value → H} {P : Program} {W : World} {r : Reach} {base : Nat} {T E : TypeId} {k : IntKind} {v : Value} {d : DataW H} {ps : List MemPlace}
    (ht : P.underlying T = some (.slice E)) (he : P.underlying E = some (.int k)) (hc : P.cellsOf E = 1) (hv : Value.okWide P W r base T v) (h : DataW.Trod enc P W 0 (fun _ => true) true T v d ps) :
    ∃ (A : Option Addr) (zs : List Int) (c : Nat), v = .slice A zs.length c ∧ Rd W A (zs.map (Value.int k)) ∧ (∀ n ∈ zs, (Lit.int k n).wf = true) ∧ zs.length ≤ maxLen := by
  obtain ⟨a0, len, cap, rfl⟩ := okWide_slice ht hv
  obtain ⟨fuel, hf⟩ := h
  rcases open_ints ht he hc hf with ⟨hcs, _⟩ | ⟨a, len', cap', zs, hcs, _, hl, hm, hz, _, hcell, hwz⟩
  · simp [Value.cells] at hcs
    obtain ⟨rfl, rfl, rfl⟩ := hcs
    exact ⟨none, [], 0, rfl, Rd.nil _ _, by simp, by simp⟩
  · simp [Value.cells] at hcs
    obtain ⟨rfl, rfl, rfl⟩ := hcs
    simp only [if_true] at hz
    have hlen : (zs.take len).length = len := by rw [List.length_take]; omega
    refine ⟨some a, zs.take len, cap, by rw [hlen], ?_, fun n hn => hwz n (List.mem_of_mem_take hn), by omega⟩
    by_cases h0 : len = 0
    · subst h0; exact Rd.nil _ _
    · refine .inr ⟨a, rfl, ?_, fun j hj => ?_⟩
      · have := cell_lt (hcell 0 (by omega)); rwa [add_block] at this
      · rw [List.length_map, hlen] at hj
        rw [hcell j (by omega), List.getElem?_map, List.getElem?_take, if_pos hj, List.getElem?_eq_getElem (by omega)]
        simp [List.getElem?_eq_getElem (show j < zs.length by omega)]
/-- The same, and where it lies nowhere it has no room. -/
theorem open_intslz {H : Type} {enc : TypeId × Value → H} {P : Program} {W : World} {r : Reach} {base : Nat} {T E : TypeId} {k : IntKind} {v : Value} {d : DataW H} {ps : List MemPlace}
    (ht : P.underlying T = some (.slice E)) (he : P.underlying E = some (.int k)) (hc : P.cellsOf E = 1) (hv : Value.okWide P W r base T v) (h : DataW.Trod enc P W 0 (fun _ => true) true T v d ps) :
    ∃ (A : Option Addr) (zs : List Int) (c : Nat), v = .slice A zs.length c ∧ Rd W A (zs.map (Value.int k)) ∧ (∀ n ∈ zs, (Lit.int k n).wf = true) ∧ zs.length ≤ maxLen ∧ (A = none → c = 0) := by
  obtain ⟨A, zs, c, rfl, hr, hw, hl⟩ := open_intsl ht he hc hv h
  refine ⟨A, zs, c, rfl, hr, hw, hl, fun hA => ?_⟩
  subst hA
  obtain ⟨fuel, hf⟩ := h
  rcases open_ints ht he hc hf with ⟨hcs, _⟩ | ⟨a, len', cap', zs', hcs, _⟩
  · simp [Value.cells] at hcs
    exact hcs.2
  · simp [Value.cells] at hcs
/-- A world to be called in. -/
noncomputable def laidWorld (os : Os) : World := World.holding Try.prog os ⟨#[], #[], []⟩
theorem laid_met (os : Os) (args : Array Value) : laidMet Try.prog [] ((laidWorld os).forCall (fun _ _ => 0) ⟨#[], args, []⟩).memory :=
  laidMet_of_run' 8 (by kernel_rfl) (by kernel_rfl)
end Go.Proofs.Ytifanmggfoicfaa
