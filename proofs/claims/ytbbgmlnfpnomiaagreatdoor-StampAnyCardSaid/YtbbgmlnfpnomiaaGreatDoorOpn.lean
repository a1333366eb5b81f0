/- Opening of what came in: rows of digests, arrays, signatures, keys, stamps (the document's types). -/
import Derived.Test.YtbbgmlnfpnomiaaGreatDoorLaidK
import Derived.Test.YtbbgmlnfpnomiaaGreatDoorStD
import Derived.Deep.Slices
set_option linter.unusedVariables false
namespace Go.Proofs.YtbbgmlnfpnomiaaGreatDoor
open Go.ChangeShapes Go.WideShapes Go.ChangeAt Go.RowKit
section
variable {H : Type} {enc : TypeId × Value → H} {W : World} {fuel : Nat} {t e : TypeId} {cs : List Value} {y : Option (DataW H × List MemPlace)}
theorem op_int {k : IntKind} (ht : Tryz.prog.underlying t = some (.int k)) (h : DataW.trod enc Tryz.prog W 0 (fun _ => true) true fuel t cs = y) (hy : y.isSome = true) : ∃ n, cs = [.int k n] ∧ (Lit.int k n).wf = true := by
  obtain ⟨y, rfl⟩ := Option.isSome_iff_exists.1 hy
  obtain ⟨n, h1, _, hw⟩ := DataW.trod_int ht h
  exact ⟨n, h1, hw⟩
theorem op_i64 (ht : Tryz.prog.underlying t = some (.int .i64)) (h : DataW.trod enc Tryz.prog W 0 (fun _ => true) true fuel t cs = y) (hy : y.isSome = true) : ∃ n, cs = [.int .i64 n] ∧ I64 n := by
  obtain ⟨n, h1, hw⟩ := op_int ht h hy
  exact ⟨n, h1, bounds_i64 hw⟩
theorem op_u64 (ht : Tryz.prog.underlying t = some (.int .u64)) (h : DataW.trod enc Tryz.prog W 0 (fun _ => true) true fuel t cs = y) (hy : y.isSome = true) : ∃ n : Nat, cs = [cU64 n] ∧ n < 18446744073709551616 := by
  obtain ⟨n, h1, hw⟩ := op_int ht h hy
  have hb := bounds_u64 hw
  obtain ⟨k, rfl⟩ := Int.eq_ofNat_of_zero_le hb.1
  exact ⟨k, h1, by omega⟩
theorem op_dgs (ht : Tryz.prog.underlying t = some (.slice e)) (he : Tryz.prog.underlying e = some (.int .u64)) (hc : Tryz.prog.cellsOf e = 1) (h : DataW.trod enc Tryz.prog W 0 (fun _ => true) true fuel t cs = y) (hy : y.isSome = true) :
    ∃ (A : Option Addr) (l : List Nat) (c : Nat), cs = [.slice A l.length c] ∧ Rd W A (cDg l) ∧ (∀ x ∈ l, x < 18446744073709551616) ∧ l.length ≤ maxLen := by
  obtain ⟨y, rfl⟩ := Option.isSome_iff_exists.1 hy
  rcases open_ints ht he hc h with ⟨hcs, _⟩ | ⟨a, len, cap, zs, hcs, _, hl, hm, hz, _, hcell, hwz⟩
  · exact ⟨none, [], 0, hcs, Rd.nil _ _, by simp, by simp⟩
  · simp only [if_true] at hz
    have hlen : (zs.take len).length = len := by rw [List.length_take]; omega
    refine ⟨some a, (zs.take len).map Int.toNat, cap, by rw [List.length_map, hlen]; exact hcs, ?_, ?_, by rw [List.length_map]; omega⟩
    · by_cases h0 : len = 0
      · subst h0; exact Rd.nil _ _
      · refine .inr ⟨a, rfl, ?_, fun j hj => ?_⟩
        · have := cell_lt (hcell 0 (by omega)); rwa [add_block] at this
        · rw [List.length_map, List.length_map, hlen] at hj
          have hb := bounds_u64 (hwz _ (List.getElem_mem (show j < zs.length by omega)))
          rw [hcell j (by omega), List.getElem?_map, List.getElem?_map, List.getElem?_take, if_pos hj, List.getElem?_eq_getElem (by omega)]
          simp [List.getElem?_eq_getElem (show j < zs.length by omega), Int.toNat_of_nonneg hb.1]
    · intro x hx
      obtain ⟨z, hz1, rfl⟩ := List.mem_map.1 hx
      have hb := bounds_u64 (hwz z (List.mem_of_mem_take hz1))
      omega
theorem op_arr {n : Nat} (ht : Tryz.prog.underlying t = some (.array n e)) (he : Tryz.prog.underlying e = some (.int .u64)) (hc : Tryz.prog.cellsOf e = 1) (hn : Tryz.prog.cellsOf t = n) (h : DataW.trod enc Tryz.prog W 0 (fun _ => true) true fuel t cs = y) (hy : y.isSome = true) :
    ∃ l : List Nat, cs = cDg l ∧ l.length = n ∧ ∀ x ∈ l, x < 18446744073709551616 := by
  obtain ⟨y, rfl⟩ := Option.isSome_iff_exists.1 hy
  obtain ⟨xs, m, _, _, hlen, hxl, hg⟩ := DataW.trod_array ht h
  rw [hn] at hlen
  have hx : ∀ i, i < n → ∃ z : Nat, cs[i]? = some (cU64 z) ∧ z < 18446744073709551616 := fun i hi => by
    have h1 := hg i hi
    rw [hc, Nat.mul_one] at h1
    obtain ⟨z, h2, h3⟩ := op_u64 he h1 (by simp; omega)
    refine ⟨z, ?_, h3⟩
    have := congrArg (fun l : List Value => l[0]?) h2
    simpa [List.getElem?_take, List.getElem?_drop] using this
  obtain ⟨f, hf⟩ := Go.Deep.choose_lt hx
  refine ⟨(List.range n).map f, ?_, by simp, fun x hx => ?_⟩
  · apply List.ext_getElem?
    intro i
    by_cases hi : i < n
    · rw [(hf i hi).1]
      simp [cDg, hi]
    · rw [List.getElem?_eq_none (by omega), List.getElem?_eq_none (by simp [cDg]; omega)]
  · obtain ⟨i, hi, rfl⟩ := List.mem_map.1 hx
    exact (hf i (List.mem_range.1 hi)).2
theorem cut_at (cs : List Value) (a b : Nat) : cs.drop a = (cs.drop a).take b ++ cs.drop (a + b) := by
  rw [← List.drop_drop, List.take_append_drop]
set_option maxRecDepth 100000 in
theorem op_sig (h : DataW.trod enc Tryz.prog W 0 (fun _ => true) true fuel 45 cs = y) (hy : y.isSome = true) :
    ∃ (g : K.Sg) (A : Option Addr) (c : Nat), cs = sgV g.who g.leaf g.one A g.path.length c ∧ Rd W A (cDg g.path) ∧ K.SgOk g ∧ g.path.length ≤ maxLen := by
  obtain ⟨y, rfl⟩ := Option.isSome_iff_exists.1 hy
  obtain ⟨xs, m, _, _, hlen, hxl, hg⟩ := DataW.trod_struct Tryz.underlying45 h
  have hx4 : xs.length = 4 := hxl
  have h21 : cs.length = 21 := hlen.trans (by kernel_rfl)
  have g0 := hg 0 _ rfl
  have g1 := hg 1 _ rfl
  have g2 := hg 2 _ rfl
  have g3 := hg 3 _ rfl
  obtain ⟨who, e0, b0⟩ := op_i64 Tryz.underlying3 g0 (by simp; omega)
  obtain ⟨leaf, e1, b1⟩ := op_i64 Tryz.underlying3 g1 (by simp; omega)
  obtain ⟨one, e2, l2, b2⟩ := op_arr Tryz.underlying42 Tryz.underlying22 (by kernel_rfl) (by kernel_rfl) g2 (by simp; omega)
  obtain ⟨A, path, c, e3, r3, b3, l3⟩ := op_dgs Tryz.underlying43 Tryz.underlying22 (by kernel_rfl) g3 (by simp; omega)
  refine ⟨⟨who, leaf, one, path⟩, A, c, ?_, r3, ⟨b0, b1, b2, b3, l2⟩, l3⟩
  have k0 : (cs.drop 0).take 1 = [.int .i64 who] := e0
  have k1 : (cs.drop 1).take 1 = [.int .i64 leaf] := e1
  have k2 : (cs.drop 2).take 18 = cDg one := e2
  have k3 : (cs.drop 20).take 1 = [.slice A path.length c] := e3
  have k4 : cs.drop 21 = [] := List.drop_eq_nil_of_le (by omega)
  have c0 : cs = (cs.drop 0).take 1 ++ cs.drop 1 := cut_at cs 0 1
  have c1 : cs.drop 1 = (cs.drop 1).take 1 ++ cs.drop 2 := cut_at cs 1 1
  have c2 : cs.drop 2 = (cs.drop 2).take 18 ++ cs.drop 20 := cut_at cs 2 18
  have c3 : cs.drop 20 = (cs.drop 20).take 1 ++ cs.drop 21 := cut_at cs 20 1
  rw [c0, c1, c2, c3, k0, k1, k2, k3, k4]
  rfl
set_option maxRecDepth 100000 in
theorem op_stamp (h : DataW.trod enc Tryz.prog W 0 (fun _ => true) true fuel 73 cs = y) (hy : y.isSome = true) :
    ∃ (s : K.St) (A : Option Addr) (c : Nat), cs = stC s A c ∧ Rd W A (cDg s.sig.path) ∧ K.StOk s ∧ s.sig.path.length ≤ maxLen := by
  obtain ⟨y, rfl⟩ := Option.isSome_iff_exists.1 hy
  obtain ⟨xs, m, _, _, hlen, hxl, hg⟩ := DataW.trod_struct Tryz.underlying73 h
  have hx4 : xs.length = 4 := hxl
  have h24 : cs.length = 24 := hlen.trans (by kernel_rfl)
  have g0 := hg 0 _ rfl
  have g1 := hg 1 _ rfl
  have g2 := hg 2 _ rfl
  have g3 := hg 3 _ rfl
  obtain ⟨cmd, e0, b0⟩ := op_u64 Tryz.underlying22 g0 (by simp; omega)
  obtain ⟨who, e1, b1⟩ := op_i64 Tryz.underlying3 g1 (by simp; omega)
  obtain ⟨at_, e2, b2⟩ := op_i64 Tryz.underlying2 g2 (by simp; omega)
  obtain ⟨g, A, c, e3, r3, b3, l3⟩ := op_sig g3 (by simp; omega)
  refine ⟨⟨cmd, who, at_, g⟩, A, c, ?_, r3, ⟨b0, b1, b2, b3⟩, l3⟩
  have k0 : (cs.drop 0).take 1 = [cU64 cmd] := e0
  have k1 : (cs.drop 1).take 1 = [.int .i64 who] := e1
  have k2 : (cs.drop 2).take 1 = [.int .i64 at_] := e2
  have k3 : (cs.drop 3).take 21 = sgV g.who g.leaf g.one A g.path.length c := e3
  have k4 : cs.drop 24 = [] := List.drop_eq_nil_of_le (by omega)
  have c0 : cs = (cs.drop 0).take 1 ++ cs.drop 1 := cut_at cs 0 1
  have c1 : cs.drop 1 = (cs.drop 1).take 1 ++ cs.drop 2 := cut_at cs 1 1
  have c2 : cs.drop 2 = (cs.drop 2).take 1 ++ cs.drop 3 := cut_at cs 2 1
  have c3 : cs.drop 3 = (cs.drop 3).take 21 ++ cs.drop 24 := cut_at cs 3 21
  rw [c0, c1, c2, c3, k0, k1, k2, k3, k4, List.append_nil]
  rfl
set_option maxRecDepth 100000 in
theorem op_keys (h : DataW.trod enc Tryz.prog W 0 (fun _ => true) true fuel 71 cs = y) (hy : y.isSome = true) :
    ∃ (f ht : Int) (A : Option Addr) (l : List Nat) (c : Nat), cs = kyV f A l.length c ht ∧ I64 f ∧ I64 ht ∧ Rd W A (cDg l) ∧ (∀ x ∈ l, x < 18446744073709551616) ∧ l.length ≤ maxLen := by
  obtain ⟨y, rfl⟩ := Option.isSome_iff_exists.1 hy
  obtain ⟨xs, m, _, _, hlen, hxl, hg⟩ := DataW.trod_struct Tryz.underlying71 h
  have hx4 : xs.length = 3 := hxl
  have h3 : cs.length = 3 := hlen.trans (by kernel_rfl)
  have g0 := hg 0 _ rfl
  have g1 := hg 1 _ rfl
  have g2 := hg 2 _ rfl
  obtain ⟨f, e0, b0⟩ := op_i64 Tryz.underlying3 g0 (by simp; omega)
  obtain ⟨A, l, c, e1, r1, b1, l1⟩ := op_dgs Tryz.underlying43 Tryz.underlying22 (by kernel_rfl) g1 (by simp; omega)
  obtain ⟨ht, e2, b2⟩ := op_i64 Tryz.underlying3 g2 (by simp; omega)
  refine ⟨f, ht, A, l, c, ?_, b0, b2, r1, b1, l1⟩
  have k0 : (cs.drop 0).take 1 = [.int .i64 f] := e0
  have k1 : (cs.drop 1).take 1 = [.slice A l.length c] := e1
  have k2 : (cs.drop 2).take 1 = [.int .i64 ht] := e2
  have k4 : cs.drop 3 = [] := List.drop_eq_nil_of_le (by omega)
  have c0 : cs = (cs.drop 0).take 1 ++ cs.drop 1 := cut_at cs 0 1
  have c1 : cs.drop 1 = (cs.drop 1).take 1 ++ cs.drop 2 := cut_at cs 1 1
  have c2 : cs.drop 2 = (cs.drop 2).take 1 ++ cs.drop 3 := cut_at cs 2 1
  rw [c0, c1, c2, k0, k1, k2, k4]
  rfl
end
set_option maxRecDepth 100000 in
/-- A struct that came in: its cells. -/
theorem op_agg {H : Type} {enc : TypeId × Value → H} {W : World} {r : Reach} {base : Nat} {t : TypeId} {fs : Array Field} {v : Value} {d : DataW H} {ps : List MemPlace} (ht : Tryz.prog.underlying t = some (.struct fs))
    (hv : Value.okWide Tryz.prog W r base t v) (h : DataW.Trod enc Tryz.prog W 0 (fun _ => true) true t v d ps) : ∃ cs : List Value, v = .agg cs.toArray ∧ ∃ fuel, DataW.trod enc Tryz.prog W 0 (fun _ => true) true fuel t cs = some (d, ps) := by
  obtain ⟨cs, rfl, hsz⟩ := okWide_struct ht hv
  obtain ⟨fuel, hf⟩ := h
  exact ⟨cs.toList, rfl, fuel, hf⟩
set_option maxRecDepth 100000 in
theorem open_stamp {H : Type} {enc : TypeId × Value → H} {W : World} {r : Reach} {base : Nat} {v : Value} {d : DataW H} {ps : List MemPlace}
    (hv : Value.okWide Tryz.prog W r base 73 v) (h : DataW.Trod enc Tryz.prog W 0 (fun _ => true) true 73 v d ps) :
    ∃ (s : K.St) (A : Option Addr) (c : Nat), v = .agg (stC s A c).toArray ∧ Rd W A (cDg s.sig.path) ∧ K.StOk s ∧ s.sig.path.length ≤ maxLen := by
  obtain ⟨cs, rfl, fuel, hf⟩ := op_agg Tryz.underlying73 hv h
  obtain ⟨s, A, c, rfl, h1, h2, h3⟩ := op_stamp hf rfl
  exact ⟨s, A, c, rfl, h1, h2, h3⟩
set_option maxRecDepth 100000 in
theorem open_keys {H : Type} {enc : TypeId × Value → H} {W : World} {r : Reach} {base : Nat} {v : Value} {d : DataW H} {ps : List MemPlace}
    (hv : Value.okWide Tryz.prog W r base 71 v) (h : DataW.Trod enc Tryz.prog W 0 (fun _ => true) true 71 v d ps) :
    ∃ (f ht : Int) (A : Option Addr) (l : List Nat) (c : Nat), v = .agg (kyV f A l.length c ht).toArray ∧ I64 f ∧ I64 ht ∧ Rd W A (cDg l) ∧ (∀ x ∈ l, x < 18446744073709551616) ∧ l.length ≤ maxLen := by
  obtain ⟨cs, rfl, fuel, hf⟩ := op_agg Tryz.underlying71 hv h
  obtain ⟨f, ht, A, l, c, rfl, h2⟩ := op_keys hf rfl
  exact ⟨f, ht, A, l, c, rfl, h2⟩
end Go.Proofs.YtbbgmlnfpnomiaaGreatDoor
