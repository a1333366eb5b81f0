/- The walk of Twin, of maps.Clone. -/
import Derived.Test.YtifanmggfoicfaaDoorTW2
import Derived.Shelf.SlMaps.Clone
set_option linter.unusedVariables false
set_option linter.unusedSimpArgs false
namespace Go.Proofs.YtifanmggfoicfaaDoor
open Go.RowKit Go.Sort Go.Maps
set_option maxRecDepth 100000 in
set_option maxHeartbeats 2000000 in
theorem clone_calls {b n : Nat} {f : Int → Option Value} (w : World) (h : MapI Tryd.prog 27 .u64 w b f n) :
    Calls Tryd.prog 73 #[.map (some b)] w fun e w' => e = .returned (.map (some w.heap.size)) ∧ MapI Tryd.prog 27 .u64 w' w.heap.size f n ∧ Ext w w' := by
  obtain ⟨D, m, hown, h1, h2, h3, h4, h5⟩ := h
  obtain ⟨es, clock, hb, F, hs, hD⟩ := hown
  have hB : Ext w (w.alloc (.map es clock)) := (Ext.rfl' w).alloc _
  have HM := Lib.hid (show MapI Tryd.prog 27 .u64 (w.alloc (.map es clock)) w.heap.size f n from ⟨D, m, ⟨es, clock, (MapKept.heap_alloc w _).1, F, hs, hD⟩, h1, h2, h3, h4, h5⟩)
  have hq := fun w => run_eql_map_nil_sl (P := Tryd.prog) w 114 _ _ (some b) Tryd.underlying114
  clear h1 h2 h3 h4 h5 F hs hD
  go_enter Tryd.func73, Tryd.ntmps73
  go_wp2
  rw [run_callFunc_extern Tryd.func91 (by kernel_rfl) (by kernel_rfl) (by kernel_rfl) (e := Extern.MapsClone.clone) (by kernel_rfl), run_maps_clone_sl w 114 hb]
  simp only [Result.andThen]
  rw [Oper.upon_value]
  go_wp2
  rw [run_typeAssert_map_sl _ 114 _ _ _ _ Tryd.underlying114]
  simp only [Result.andThen]
  rw [Oper.upon_value]
  go_wp2
  go_ret
  exact ⟨rfl, HM.out, hB⟩
theorem twin_calls {tb mb : Nat} {L : List (Nat × T.B)} (w : World) (h : Tr w tb mb L) :
    Calls Tryd.prog 49 #[.pointer (some ⟨tb, 0, none⟩)] w fun e w' => (∃ tb' mb', e = .returned (.pointer (some ⟨tb', 0, none⟩)) ∧ Tr w' tb' mb' L ∧ w.heap.size ≤ tb' ∧ w.heap.size ≤ mb') ∧ Ext w w' := by
  have h0 := h.cell
  have HC := Lib.hid (clone_calls w h.map)
  clear h
  go_enter Tryd.func49, Tryd.ntmps49
  go_wp2_with fail
  refine HC.out.mono ?_
  rintro e w1 ⟨rfl, hM, hx⟩
  have HM := Lib.hid hM
  have HX := Lib.hid hx
  clear hM hx
  go_wp2
  go_ret
  have hE := (Ext.rfl' w1).alloc (.cells #[Value.map (some w.heap.size)] 116)
  refine ⟨⟨w1.heap.size, w.heap.size, rfl, ⟨?_, HM.out.ext hE, by simp, ?_⟩, HX.out.size, Nat.le_refl _⟩, HX.out.tr hE⟩
  · exact (Blk.new w1 116 [Value.map (some w.heap.size)]).cell rfl
  · have := HM.out.lt
    omega
end Go.Proofs.YtifanmggfoicfaaDoor
