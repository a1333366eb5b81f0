/- Rows of blocks, a tree beside them: what they keep. -/
import Derived.Test.YtilengooiffikaaDoorTKb
import Derived.OpenShut
import Derived.Deep.MidRow
import Derived.Deep.OwnRows
set_option linter.unusedVariables false
set_option linter.unusedSimpArgs false
namespace Go.Proofs.YtilengooiffikaaDoor
open Go.RowKit Go.Sort Go.Maps
theorem bBlk : (Tryd.prog.info? 48).map (fun i => (i.zero, i.size, i.bytes)) = some (some (bA T.gen), 8, 96) := by kernel_rfl
/-- Blocks' cells, one behind the other. -/
def bCs (l : List T.B) : List Value := l.flatMap bV
theorem bCs_snoc (l : List T.B) (b : T.B) : bCs (l ++ [b]) = bCs l ++ bV b := by simp [bCs]
theorem bCs_at : ∀ (l : List T.B) (j : Nat) (b : T.B), l[j]? = some b → ∀ c v, (bV b)[c]? = some v → (bCs l)[8 * j + c]? = some v
  | [], j, b, h, _, _, _ => by simp at h
  | x :: l, 0, b, h, c, v, hc => by
    have e : x = b := by simpa using h
    subst e
    have hl : c < (bV x).length := (List.getElem?_eq_some_iff.1 hc).1
    rw [bCs, List.flatMap_cons, List.getElem?_append_left (by omega), Nat.mul_zero, Nat.zero_add]
    exact hc
  | x :: l, j + 1, b, h, c, v, hc => by
    have hx : (bV x).length = 8 := rfl
    rw [bCs, List.flatMap_cons, List.getElem?_append_right (by omega), ← bCs, hx, show 8 * (j + 1) + c - 8 = 8 * j + c by omega]
    exact bCs_at l j b (by simpa using h) c v hc
theorem Blk.grown {W W' : World} {B : Nat} {T : TypeId} {L : List Value} {row : Option Nat} (h : Blk W B T L) (g : W.grownBy W' row) (hne : some B ≠ row) : Blk W' B T L := (g.block B h.lt hne).trans h
theorem new_cells2 (W : World) (o : Obj) (L : List Value) (t : TypeId) : ∀ j u, L[j]? = some u → ((W.alloc o).alloc (.cells L.toArray t)).cell? ((⟨W.heap.size + 1, 0, none⟩ : Addr).add j) = some u := by
  intro j u h
  have h1 := (Blk.new (W.alloc o) t L).cell h
  rw [World.size_alloc] at h1
  rw [show (⟨W.heap.size + 1, 0, none⟩ : Addr).add j = ⟨W.heap.size + 1, j, none⟩ from by unfold Addr.add; split <;> simp [*]]
  exact h1
theorem own_keep {w w' : World} {B : Nat} {e : TypeId} {size : Nat} {v : Value} {n : Nat} {xs : List Value} (h : w.ownsRow B e size v n xs) (k : Ext w w') : w'.ownsRow B e size v n xs := by
  refine ⟨h.1, ?_⟩
  rcases h.2 with h0 | ⟨g, cap, cur, h1, h2, h3, h4⟩
  · exact .inl h0
  · exact .inr ⟨g, cap, cur, h1, h2, (k.block g (Array.getElem?_eq_some_iff.1 h3).1).trans h3, h4⟩
theorem own_cells8 {w : World} {B : Nat} {e : TypeId} {v : Value} {n : Nat} {xs : List Value} (h : w.ownsRow B e 8 v n xs) (hn : n ≠ 0) : ∃ g c, v = .slice (some ⟨g, 0, none⟩) n c ∧ B ≤ g ∧ g < w.heap.size ∧ ∀ j u, xs[j]? = some u → w.cell? ⟨g, j, none⟩ = some u := by
  rcases h.2 with ⟨_, h0⟩ | ⟨g, cap, cur, rfl, hbg, hg, hnc, hcm, hcs, htake⟩
  · exact absurd h0 hn
  · have hblk : Blk w g e cur.toList := by unfold Blk; rw [Array.toArray_toList]; exact hg
    refine ⟨g, cap, rfl, hbg, hblk.lt, fun j u hj => hblk.cell ?_⟩
    rw [← htake, List.getElem?_take] at hj
    split at hj
    · exact hj
    · cases hj
theorem own_grown {w w' : World} {B : Nat} {e : TypeId} {size : Nat} {v : Value} {n : Nat} {xs : List Value} {mb : Nat} (h : w.ownsRow B e size v n xs) (k : Gr mb w w') (hb : mb < B) : w'.ownsRow B e size v n xs := by
  refine ⟨h.1, ?_⟩
  rcases h.2 with h0 | ⟨g, cap, cur, h1, h2, h3, h4⟩
  · exact .inl h0
  · exact .inr ⟨g, cap, cur, h1, h2, (k.block g (Array.getElem?_eq_some_iff.1 h3).1 (by simp; omega)).trans h3, h4⟩
theorem add_ok {tb mb : Nat} {L : List (Nat × T.B)} {b : T.B} {d : Nat} (hd : T.dig b = d) (hc : T.code L d b = 0) (hb : OkB b) (hn : L.length < 1000000) (W : World) (hT : Tr W tb mb L) (ht : TOk W) :
    Calls Tryd.prog 20 #[.pointer (some ⟨tb, 0, none⟩), bA b] W fun e w' => e = .returned (.int .i64 0) ∧ Tr w' tb mb ((d, b) :: L) ∧ Gr mb W w' := by
  refine (add_calls W hT b hb ht hn).mono ?_
  rintro e w' ⟨rfl, h2, h3, h4⟩
  rw [hd] at h2 ⊢
  rw [T.add, hc, if_pos rfl] at h2
  rw [hc]
  exact ⟨rfl, h2, h3⟩
theorem dig_ok {b : T.B} {d : Nat} (hd : T.dig b = d) (hb : OkB b) (W : World) (ht : TOk W) : Calls Tryd.prog 21 #[bA b] W fun e w' => e = .returned (cU64 d) ∧ Ext W w' := by
  have h := blkdig_calls b hb W ht
  rwa [hd] at h
theorem tr_below {W W' : World} {tb mb B : Nat} {L : List (Nat × T.B)} (h : Tr W tb mb L) (k : Below B W W') (h1 : mb < B) (h2 : tb < B) : Tr W' tb mb L := by
  obtain ⟨hc, ⟨D, m, ⟨es, clock, hb, F, hs, hD⟩, r⟩, hlt, hne⟩ := h
  exact ⟨(k.cell (p := ⟨tb, 0, none⟩) h2).trans hc, ⟨D, m, ⟨es, clock, (k.block mb h1).trans hb, F, hs, hD⟩, r⟩, Nat.lt_of_lt_of_le hlt k.size, hne⟩
theorem own_setCells {B b : Nat} {e : TypeId} {size : Nat} {v : Value} {n : Nat} {xs : List Value} (hb : b < B) {w : World} (h : w.ownsRow B e size v n xs) (o : Nat) (vs : List Value) : (w.setCells b o vs).ownsRow B e size v n xs := by
  refine ⟨h.1, ?_⟩
  rcases h.2 with h0 | ⟨g, cap, cur, h1, h2, h3, h4⟩
  · exact .inl h0
  · have hblk : Blk w g e cur.toList := by unfold Blk; rw [Array.toArray_toList]; exact h3
    have hk := Blk.others (b := b) (show g ≠ b by omega) vs o w hblk
    refine .inr ⟨g, cap, cur, h1, h2, ?_, h4⟩
    unfold Blk at hk
    rw [Array.toArray_toList] at hk
    exact hk
end Go.Proofs.YtilengooiffikaaDoor
