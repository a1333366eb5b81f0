/- The walk of msg.All at messages whose rows are empty. -/
import Derived.Test.YtifanmggfoicfaaMMsg
import Derived.Laws.AppendOwn
import Derived.Deep.DeepCutAuto
import Derived.Great.BuildSlice
set_option linter.unusedVariables false
set_option linter.unusedSimpArgs false
namespace Go.Proofs.Ytifanmggfoicfaa
open Go.RowKit
set_option maxRecDepth 100000 in
theorem bMsg : (Try.prog.info? 83).map (fun i => (i.zero, i.size, i.bytes)) = some (some (.agg (mL 0 0 0 0 0 0 0 0 0 0 (.slice none 0 0)).toArray), 147, 1352) := by kernel_rfl
theorem mSize (k f t c n x y a lo hi : Int) (ch : Value) : (Try.prog.info? 83).map (·.size) = some (mL k f t c n x y a lo hi ch).toArray.size := by
  rw [List.size_toArray, mL_len]
  kernel_rfl
set_option maxRecDepth 100000 in
theorem mZero_size : (Value.agg (mL 0 0 0 0 0 0 0 0 0 0 (.slice none 0 0)).toArray).cells.size = 147 := by kernel_rfl
theorem info_of {P : Program} {T : TypeId} {z : Value} {s b : Nat} (h : (P.info? T).map (fun i => (i.zero, i.size, i.bytes)) = some (some z, s, b)) : ∃ i, P.info? T = some i ∧ i.zero = some z ∧ i.size = s ∧ i.bytes = b := by
  obtain ⟨i, hi, he⟩ := Option.map_eq_some_iff.1 h
  simp only [Prod.mk.injEq] at he
  exact ⟨i, hi, he.1, he.2.1, he.2.2⟩
theorem fill_one (LM : List Value) (s : Nat) (hs : 0 < s) (hl : LM.length = s) (z : Array Value) : Instr.fill (fun i => some (i * s, s)) ((Array.range (1 * s)).map (z[· % z.size]!)) [(0, .agg LM.toArray)] = some LM.toArray := by
  have h := Go.Great.fill_whole hs [.agg LM.toArray] ((Array.range (1 * s)).map (z[· % z.size]!)) (fun v hv => by simp at hv; subst hv; simp [Value.cells, hl]) (by simp)
  simpa [Value.cells] using h
/-- Messages' cells, one behind the other: to 0, 1, .. -/
def mCs (F : Nat → List Value) (N : Nat) : List Value := (List.range N).flatMap F
theorem mCs_succ (F : Nat → List Value) (N : Nat) : mCs F (N + 1) = mCs F N ++ F N := by simp [mCs, List.range_succ]
theorem mCs_len (F : Nat → List Value) (s : Nat) (hF : ∀ j, (F j).length = s) : ∀ N, (mCs F N).length = N * s
  | 0 => by simp [mCs]
  | N + 1 => by rw [mCs_succ, List.length_append, mCs_len F s hF N, hF, Nat.add_mul, Nat.one_mul]
theorem mCs_at (F : Nat → List Value) (s : Nat) (hF : ∀ j, (F j).length = s) : ∀ N j, j < N → ∀ c v, (F j)[c]? = some v → (mCs F N)[j * s + c]? = some v
  | 0, j, h, _, _, _ => absurd h (Nat.not_lt_zero _)
  | N + 1, j, h, c, v, hc => by
    have hl := mCs_len F s hF N
    have hcs : c < s := by have := (List.getElem?_eq_some_iff.1 hc).1; rw [hF] at this; exact this
    rw [mCs_succ]
    by_cases hj : j < N
    · rw [List.getElem?_append_left (by rw [hl]; calc j * s + c < j * s + s := by omega
          _ = (j + 1) * s := by rw [Nat.add_mul, Nat.one_mul]
          _ ≤ N * s := Nat.mul_le_mul_right _ (by omega))]
      exact mCs_at F s hF N j hj c v hc
    · obtain rfl : j = N := by omega
      rw [List.getElem?_append_right (by rw [hl]; omega), hl, show j * s + c - j * s = c by omega]
      exact hc
theorem own_keepM {w w' : World} {B : Nat} {e : TypeId} {size : Nat} {v : Value} {n : Nat} {xs : List Value} (h : w.ownsRow B e size v n xs) (k : Below B w w') (hk : ∀ b, B ≤ b → b < w.heap.size → w'.heap[b]? = w.heap[b]?) : w'.ownsRow B e size v n xs := by
  refine ⟨h.1, ?_⟩
  rcases h.2 with h0 | ⟨g, cap, cur, h1, h2, h3, h4⟩
  · exact .inl h0
  · exact .inr ⟨g, cap, cur, h1, h2, (hk g h2 (Array.getElem?_eq_some_iff.1 h3).1).trans h3, h4⟩
theorem own_setM {w : World} {B : Nat} {e : TypeId} {size : Nat} {v : Value} {n : Nat} {xs : List Value} (h : w.ownsRow B e size v n xs) (b o : Nat) (hb : b < B) (u : Value) : (w.setCell ⟨b, o, none⟩ u).ownsRow B e size v n xs := by
  refine ⟨h.1, ?_⟩
  rcases h.2 with h0 | ⟨g, cap, cur, h1, h2, h3, h4⟩
  · exact .inl h0
  · refine .inr ⟨g, cap, cur, h1, h2, ?_, h4⟩
    rw [Below.heap_setCell _ _ _ _ (by show g ≠ b; omega)]
    exact h3
set_option maxRecDepth 100000 in
theorem mL_one (k f t c n x y a lo hi : Int) : ∀ v ∈ mL k f t c n x y a lo hi (.slice none 0 0), v.oneCell' = true := by
  have hz : ∀ L ∈ [zStamp, zCert, zAck, zRep, zBlk, zVote, zView], ∀ v ∈ L, v.oneCell' = true := by decide
  intro v hv
  simp only [mL, List.mem_append] at hv
  rcases hv with ((((((((((hv | hv) | hv) | hv) | hv) | hv) | hv) | hv) | hv) | hv) | hv)
  · simp at hv; rcases hv with rfl | rfl | rfl <;> rfl
  · simp [vCmd] at hv; rcases hv with rfl | rfl | rfl | rfl | rfl <;> rfl
  · exact hz zStamp (by simp) v hv
  · exact hz zCert (by simp) v hv
  · exact hz zAck (by simp) v hv
  · simp at hv; rcases hv with rfl | rfl <;> rfl
  · exact hz zRep (by simp) v hv
  · exact hz zBlk (by simp) v hv
  · exact hz zVote (by simp) v hv
  · exact hz zView (by simp) v hv
  · simp at hv; subst hv; rfl
theorem Blk.grown {W W' : World} {B : Nat} {T : TypeId} {L : List Value} {row : Option Nat} (h : Blk W B T L) (g : W.grownBy W' row) (hne : some B ≠ row) : Blk W' B T L := (g.block B h.lt hne).trans h
theorem new_cellsM (W : World) (L : List Value) (t : TypeId) : ∀ j u, L[j]? = some u → (W.alloc (.cells L.toArray t)).cell? ((⟨W.heap.size, 0, none⟩ : Addr).add j) = some u := by
  intro j u h
  rw [show (⟨W.heap.size, 0, none⟩ : Addr).add j = ⟨W.heap.size, j, none⟩ from by unfold Addr.add; split <;> simp [*]]
  exact (Blk.new W t L).cell h
set_option maxRecDepth 100000 in
set_option maxHeartbeats 4000000 in
theorem all_calls (k f t c n x y a lo hi : Int) (from_ : Int) (N : Nat) (hN : N ≤ 1000) (w : World) :
    Calls Try.prog 18 #[.int .i64 from_, .int .i64 N, .agg (mL k f t c n x y a lo hi (.slice none 0 0)).toArray] w fun e w' => (∃ v, e = .returned v ∧ w'.ownsRow (w.heap.size + 1) 83 147 v N (mCs (fun j => mL k from_ j c n x y a lo hi (.slice none 0 0)) N)) ∧ Ext w w' := by
  obtain ⟨i0, hi0, hz0, hz1, hz2⟩ := info_of bMsg
  have hmax : max (N : Int) 0 = (N : Int) := by omega
  have hk0 := Blk.new w 83 (mL k f t c n x y a lo hi (.slice none 0 0))
  have c1 : (w.alloc (.cells (mL k f t c n x y a lo hi (.slice none 0 0)).toArray 83)).cell? ⟨w.heap.size, 1, none⟩ = some (.int .i64 f) := hk0.cell rfl
  have f1 := hk0.frozen 1
  have hb1 := hk0.set 1 (.int .i64 from_)
  rw [show (mL k f t c n x y a lo hi (.slice none 0 0)).set 1 (.int .i64 from_) = mL k from_ t c n x y a lo hi (.slice none 0 0) from rfl] at hb1
  have HB1 := Lib.hid (show Blk (w.alloc (.cells ((mL k f t c n x y a lo hi (.slice none 0 0)).set 1 (.int .i64 from_)).toArray 83)) w.heap.size 83 (mL k from_ t c n x y a lo hi (.slice none 0 0)) from Blk.new w 83 (mL k from_ t c n x y a lo hi (.slice none 0 0)))
  have HE1 := Lib.hid (show Ext w (w.alloc (.cells ((mL k f t c n x y a lo hi (.slice none 0 0)).set 1 (.int .i64 from_)).toArray 83)) from (Ext.rfl' w).alloc _)
  clear hk0 hb1
  go_enter Try.func18, Try.ntmps18
  go_wp2
  go_loopw [7, 13] (fun v i wr => ∃ j : Nat, j ≤ N ∧ i = .int .i64 j ∧ wr.ownsRow (w.heap.size + 1) 83 147 v j (mCs (fun j => mL k from_ j c n x y a lo hi (.slice none 0 0)) j) ∧ (∃ tt, Blk wr w.heap.size 83 (mL k from_ tt c n x y a lo hi (.slice none 0 0))) ∧ Ext w wr ∧ w.heap.size + 1 ≤ wr.heap.size) (fun _ i _ => N - (intOf i).toNat)
  case atStart => exact ⟨0, by omega, rfl, World.ownsRow_nil _ _ _ _, ⟨_, HB1.out⟩, HE1.out, by simp⟩
  case round =>
    obtain ⟨j, hj, rfl, hoo, ⟨tt, hb⟩, hE, hsz⟩ := hrel
    by_cases hlt : j < N
    · have c2 : wr.cell? ⟨w.heap.size, 2, none⟩ = some (.int .i64 tt) := hb.cell rfl
      have f2 := hb.frozen 2
      have hb2 := hb.set 2 (.int .i64 (j : Int))
      rw [show (mL k from_ tt c n x y a lo hi (.slice none 0 0)).set 2 (.int .i64 (j : Int)) = mL k from_ j c n x y a lo hi (.slice none 0 0) from rfl] at hb2
      have HB2 := Lib.hid hb2
      have hs1 : (wr.setCell ⟨w.heap.size, 2, none⟩ (.int .i64 (j : Int))).heap.size = wr.heap.size := by simp [World.setCell]
      have hoo1 := own_setM hoo w.heap.size 2 (by omega) (.int .i64 (j : Int))
      have hoo2 := hoo1.alloc (.cells (mL k from_ j c n x y a lo hi (.slice none 0 0)).toArray 83)
      have hnew := new_cellsM (wr.setCell ⟨w.heap.size, 2, none⟩ (.int .i64 (j : Int))) (mL k from_ j c n x y a lo hi (.slice none 0 0)) 83
      rw [hs1] at hnew
      have HS := Lib.hid (mCs_succ (fun j => mL k from_ j c n x y a lo hi (.slice none 0 0)) j)
      have hE2 : Ext w ((wr.setCell ⟨w.heap.size, 2, none⟩ (.int .i64 (j : Int))).alloc (.cells (mL k from_ j c n x y a lo hi (.slice none 0 0)).toArray 83)) := (Below.setCell hE (Nat.le_refl _) _).alloc (by rw [hs1]; omega) _
      have HOO2 := Lib.hid hoo2
      have HOO1 := Lib.hid hoo1
      have HNEW := Lib.hid hnew
      have HE2 := Lib.hid hE2
      have HS1 := Lib.hid hs1
      have HEE := Lib.hid hE
      have HML := Lib.hid (mL_one k from_ j c n x y a lo hi)
      clear hb2 hoo2 hoo1 hnew hE2 hs1 hE hb hoo
      go_upto_region 7 with (fail)
      have HSZ := Lib.hid (mSize k from_ j c n x y a lo hi (.slice none 0 0))
      have HLN := Lib.hid (mL_len k from_ j c n x y a lo hi (.slice none 0 0))
      generalize hLM : mL k from_ (j : Int) c n x y a lo hi (.slice none 0 0) = LM at *
      have HLM := Lib.hid hLM
      clear hLM c2 f2
      generalize wr.setCell ⟨w.heap.size, 2, none⟩ (.int .i64 (j : Int)) = W5 at *
      have HFILL := Lib.hid (show Instr.fill (fun i => some (i * i0.size, i0.size)) ((Array.range (1 * i0.size)).map ((Value.agg (mL 0 0 0 0 0 0 0 0 0 0 (.slice none 0 0)).toArray).cells[· % (Value.agg (mL 0 0 0 0 0 0 0 0 0 0 (.slice none 0 0)).toArray).cells.size]!)) [(0, .agg LM.toArray)] = some LM.toArray from by rw [hz1]; exact fill_one LM 147 (by decide) HLN.out _)
      go_wp2_with (first
        | (refine wpList_load_row rfl _ _ rfl w.heap.size rfl 83 LM.toArray (0, 0) _ HB2.out Try.underlying83 rfl HSZ.out ?_)
        | (refine wpList_buildSlice rfl 91 83 1 _ rfl LM.toArray i0 (.agg (mL 0 0 0 0 0 0 0 0 0 0 (.slice none 0 0)).toArray) Try.underlying91 hi0 hz0 (by rw [hz1]; decide) (by rw [hz1]; decide) (by rw [Array.toList_map]; exact HFILL.out) ?_)
        | (at_builtin; (refine wpList_append_own _ rfl _ _ 91 rfl (w.heap.size + 1) 83 i0 _ 147 1352 Try.underlying91 hi0 hz0 hz1 hz2 mZero_size (by decide) _ _ _ rfl HOO2.out ⟨W5.heap.size, 0, none⟩ 1 1 LM rfl (by rw [HLN.out]) (by rw [HS1.out]; exact HNEW.out) HML.out (by unfold maxLen; omega) (by omega) (by rw [World.size_alloc, HS1.out]; omega) ?_); intro v' w2 hown' hgrow _))
      have hB3 := Blk.grown (HB2.out.ext (Ext.alloc (Ext.rfl' _) (.cells LM.toArray 83))) hgrow (fun h => by have := (HOO1.out.lt _ h.symm).1; omega)
      have hE3 := Below.grown HE2.out hgrow (by rw [World.size_alloc, HS1.out]; omega) (fun q hq => by have := (HOO1.out.lt q hq).1; omega)
      have e := HLM.out
      subst e
      refine ⟨⟨j + 1, hlt, rfl, ?_, ⟨_, hB3⟩, hE3, ?_⟩, ?_⟩
      · rw [HS.out]; exact hown'
      · exact Nat.le_trans (by rw [World.size_alloc, HS1.out]; omega) hgrow.size
      · simp [intOf]; omega
    · obtain rfl : j = N := by omega
      have HO := Lib.hid hoo
      have HE := Lib.hid hE
      clear hoo hb hE
      go_wp2
      go_ret
      exact ⟨⟨_, rfl, HO.out⟩, HE.out⟩
end Go.Proofs.Ytifanmggfoicfaa
