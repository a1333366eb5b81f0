/- A tree in memory beside blocks in variables. -/
import Derived.Test.YtilengooiffikaaDoorTKn
import Derived.Test.YtilengooiffikaaDoorTW5
import Derived.Deep.RegionHeld3
import Derived.Deep.DeepCutAuto
set_option linter.unusedVariables false
set_option linter.unusedSimpArgs false
namespace Go.Proofs.YtilengooiffikaaDoor
open Go.RowKit Go.Sort Go.Maps
/-- A tree in memory, blocks in variables. -/
structure KB (w W : World) (tb mb : Nat) (L : List (Nat × T.B)) (bs : List (Nat × T.B)) : Prop where
  tr : Tr W tb mb L
  blk : ∀ p ∈ bs, Blk W p.1 48 (bV p.2) ∧ p.1 ≠ mb
  ext : Ext w W
  mlt : w.heap.size ≤ mb
section
variable {w W W' : World} {tb mb : Nat} {L L' bs : List (Nat × T.B)}
theorem KB.on (h : KB w W tb mb L bs) (k : Ext W W') : KB w W' tb mb L bs := ⟨h.tr.ext k, fun p hp => ⟨(h.blk p hp).1.ext k, (h.blk p hp).2⟩, h.ext.tr k, h.mlt⟩
theorem KB.gr (h : KB w W tb mb L bs) (k : Gr mb W W') (t : Tr W' tb mb L') : KB w W' tb mb L' bs :=
  ⟨t, fun p hp => ⟨(k.block p.1 (h.blk p hp).1.lt (by simp; exact (h.blk p hp).2)).trans (h.blk p hp).1, (h.blk p hp).2⟩, Gr.below h.ext k h.mlt h.ext.size, h.mlt⟩
theorem KB.push (h : KB w W tb mb L bs) {b : T.B} (k : Ext W W') (hb : Blk W' W.heap.size 48 (bV b)) : KB w W' tb mb L ((W.heap.size, b) :: bs) :=
  ⟨h.tr.ext k, fun p hp => by
    rcases List.mem_cons.1 hp with rfl | hp
    · have := h.tr.mlt
      exact ⟨hb, by show W.heap.size ≠ mb; omega⟩
    · exact ⟨(h.blk p hp).1.ext k, (h.blk p hp).2⟩, h.ext.tr k, h.mlt⟩
end
theorem bV_one (b : T.B) : ∀ v ∈ bV b, v.oneCell' = true := fun v hv => by
  simp only [bV, List.mem_cons, List.not_mem_nil, or_false] at hv
  rcases hv with rfl | rfl | rfl | rfl | rfl | rfl | rfl | rfl <;> rfl
theorem okB_mk (v : Int) (p : Nat) (lo hi : Int) (h1 : 0 ≤ v ∧ v ≤ 1000000) (h2 : p < 18446744073709551616) (h3 : 0 ≤ lo ∧ lo ≤ 1000000) (h4 : 0 ≤ hi ∧ hi ≤ 1000000) : OkB (mkB v p lo hi) :=
  ⟨⟨by show _ ≤ v; omega, by show v ≤ _; omega⟩, ⟨by show _ ≤ (0 : Int); decide, by show (0 : Int) ≤ _; decide⟩, ⟨by show _ ≤ lo; omega, by show lo ≤ _; omega⟩, ⟨by show _ ≤ hi; omega, by show hi ≤ _; omega⟩, h2, h2⟩
end Go.Proofs.YtilengooiffikaaDoor
