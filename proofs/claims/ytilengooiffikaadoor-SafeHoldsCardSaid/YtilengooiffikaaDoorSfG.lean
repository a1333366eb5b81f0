/- A tree, blocks in variables, and what a replica holds in a variable of its own. -/
import Derived.Test.YtilengooiffikaaDoorSfD
import Derived.Test.YtilengooiffikaaDoorTKb
set_option linter.unusedVariables false
set_option linter.unusedSimpArgs false
namespace Go.Proofs.YtilengooiffikaaDoor
open Go.RowKit Go.Sort Go.Maps
theorem Tr.setCellS {W : World} {tb mb : Nat} {L : List (Nat × T.B)} (h : Tr W tb mb L) {b : Nat} (h1 : b ≠ tb) (h2 : b ≠ mb) (j : Nat) (v : Value) : Tr (W.setCell ⟨b, j, none⟩ v) tb mb L :=
  ⟨(World.cell?_setCell_other _ _ _ _ (by intro e; exact h1 (congrArg Addr.block e))).trans h.cell, h.map.kept (row := some b) (gr_setCell ⟨rfl, rfl, rfl, Nat.le_refl _, fun _ _ _ => rfl⟩ _ _) (by simp; exact fun e => h2 e.symm), by simpa [World.setCell] using h.lt, h.ne⟩
theorem Tr.setCellsS {tb mb : Nat} {L : List (Nat × T.B)} {b : Nat} (h1 : b ≠ tb) (h2 : b ≠ mb) : ∀ (vs : List Value) (o : Nat) (W : World), Tr W tb mb L → Tr (W.setCells b o vs) tb mb L
  | [], _, _, h => h
  | v :: vs, o, W, h => Tr.setCellsS h1 h2 vs (o + 1) _ (h.setCellS h1 h2 o v)
structure KS (w W : World) (tb mb : Nat) (L : List (Nat × T.B)) (bs : List (Nat × T.B)) (As : Nat) (s : Sf) : Prop where
  kb : KB w W tb mb L bs
  sa : Blk W As 89 (sV s)
  nt : As ≠ tb
  nm : As ≠ mb
  nb : ∀ p ∈ bs, p.1 ≠ As
  le : w.heap.size ≤ As
section
variable {w W W' : World} {tb mb As : Nat} {L bs : List (Nat × T.B)} {s : Sf}
theorem KS.on (h : KS w W tb mb L bs As s) (k : Ext W W') : KS w W' tb mb L bs As s := ⟨h.kb.on k, h.sa.ext k, h.nt, h.nm, h.nb, h.le⟩
theorem KS.new (h : KB w W tb mb L bs) : KS w (W.alloc (.cells (sV ⟨0, 0, 0, 0, 0⟩).toArray 89)) tb mb L bs W.heap.size ⟨0, 0, 0, 0, 0⟩ :=
  ⟨h.on ((Ext.rfl' _).alloc _), Blk.new W _ _, (Nat.ne_of_lt h.tr.lt).symm, (Nat.ne_of_lt h.tr.mlt).symm, fun p hp => Nat.ne_of_lt (h.blk p hp).1.lt, h.ext.size⟩
theorem KS.there (h : KS w W tb mb L bs As s) : W.there As 0 7 := h.sa.there
theorem KS.store (h : KS w W tb mb L bs As s) (f : Sf) : KS w (W.setCells As 0 (sV f)) tb mb L bs As f :=
  ⟨⟨Tr.setCellsS h.nt h.nm _ _ _ h.kb.tr, fun p hp => ⟨(h.kb.blk p hp).1.others (h.nb p hp) _ _ _, (h.kb.blk p hp).2⟩, Ext.setCells h.le _ _ _ h.kb.ext, h.kb.mlt⟩, h.sa.put (by show 7 = 7; rfl), h.nt, h.nm, h.nb, h.le⟩
end
end Go.Proofs.YtilengooiffikaaDoor
