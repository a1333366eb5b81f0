/- Great regions whose operations only read or call what only makes memory: the check of the text's order, pair by pair, in parts (one kernel check over all of it runs out of memory at some ninety operations). -/
import Derived.Test.YtifanmggfoicfaaDoorGrow
namespace Go.Proofs.YtifanmggfoicfaaDoor
open Go.RowKit
def pairOk (md : Region.Mode) (ops : Array Oper) (k j : Nat) : Bool :=
  match ops[k]?, ops[j]? with
  | some ok, some oj => oj.after.any (fun e => Region.binds md e && e.on == k) || ok.apart ops oj
  | _, _ => true
def rowOk (md : Region.Mode) (ops : Array Oper) (k : Nat) : Bool := (List.range (ops.size - (k + 1))).all fun d => pairOk md ops k (k + 1 + d)
def rowsB (md : Region.Mode) (ops : Array Oper) (lo len : Nat) : Bool := (List.range len).all fun d => rowOk md ops (lo + d)
def depsB (md : Region.Mode) (ops : Array Oper) : Bool := (List.range ops.size).all fun i => ((ops[i]?).map (·.after.all fun e => !Region.binds md e || decide (e.on < i))).getD false
theorem rowsB_get {md : Region.Mode} {ops : Array Oper} {lo len : Nat} (h : rowsB md ops lo len = true) {k : Nat} (h1 : lo ≤ k) (h2 : k < lo + len) : rowOk md ops k = true := by
  unfold rowsB at h
  rw [List.all_eq_true] at h
  have := h (k - lo) (List.mem_range.2 (by omega))
  rwa [show lo + (k - lo) = k by omega] at this
theorem lexFrom_of {md : Region.Mode} {ops : Array Oper} (hd : depsB md ops = true) (hr : ∀ k, k < ops.size → rowOk md ops k = true) :
    ∀ fuel k (listed : Array Bool), fuel + k = ops.size → listed.size = ops.size → (∀ j b, j < ops.size → listed.getD j b = decide (j < k)) → Region.lexFrom md ops fuel k listed = true
  | 0, k, listed, hk, hs, hl => by
    unfold Region.lexFrom Region.ready
    rw [List.isEmpty_iff, List.filter_eq_nil_iff]
    intro i hi
    have hi := List.mem_range.1 hi
    rw [hl i true hi, decide_eq_true (by omega)]
    simp
  | fuel + 1, k, listed, hk, hs, hl => by
    have hkn : k < ops.size := by omega
    unfold Region.lexFrom
    rw [Bool.and_eq_true, Bool.and_eq_true]
    refine ⟨⟨?_, ?_⟩, ?_⟩
    · unfold Region.ready
      rw [List.contains_iff_mem, List.mem_filter]
      refine ⟨List.mem_range.2 hkn, ?_⟩
      rw [hl k true hkn, decide_eq_false (by omega)]
      unfold depsB at hd
      rw [List.all_eq_true] at hd
      have hd := hd k (List.mem_range.2 hkn)
      rw [Array.getElem?_eq_getElem hkn] at hd ⊢
      simp only [Option.map_some, Option.getD_some, Bool.not_false, Bool.true_and] at hd ⊢
      rw [Array.all_eq_true_iff_forall_mem] at hd ⊢
      intro e he
      have := hd e he
      rw [Bool.or_eq_true] at this ⊢
      rcases this with h | h
      · exact .inl h
      · refine .inr ?_
        have h := of_decide_eq_true h
        rw [hl e.on false (by omega), decide_eq_true h]
    · unfold Region.free
      rw [Array.getElem?_eq_getElem hkn]
      simp only
      rw [List.all_eq_true]
      intro j hj
      have hj := List.mem_range.1 hj
      rw [hl j true hj]
      by_cases h1 : j = k
      · subst h1; simp
      · by_cases h2 : j < k
        · rw [decide_eq_true h2]; simp
        · have h := hr k hkn
          unfold rowOk at h
          rw [List.all_eq_true] at h
          have h := h (j - (k + 1)) (List.mem_range.2 (by omega))
          rw [show k + 1 + (j - (k + 1)) = j by omega] at h
          unfold pairOk at h
          rw [Array.getElem?_eq_getElem hkn, Array.getElem?_eq_getElem hj] at h
          simp only at h
          rw [Array.getElem?_eq_getElem hj]
          simp only [h, Bool.or_true]
    · refine lexFrom_of hd hr fuel (k + 1) _ (by omega) (by simpa using hs) fun j b hj => ?_
      rw [Array.getD_eq_getD_getElem?, Array.getElem?_setIfInBounds]
      by_cases h1 : k = j
      · subst h1
        rw [if_pos rfl, if_pos (by omega)]
        simp
      · rw [if_neg h1, ← Array.getD_eq_getD_getElem?, hl j b hj]
        by_cases h2 : j < k
        · rw [decide_eq_true h2, decide_eq_true (by omega)]
        · rw [decide_eq_false h2, decide_eq_false (by omega)]
theorem lexB_of {md : Region.Mode} {ops : Array Oper} (h0 : Region.noSelect ops = true) (hd : depsB md ops = true) (hr : ∀ k, k < ops.size → rowOk md ops k = true) : Region.lexB md ops = true := by
  unfold Region.lexB
  rw [Bool.and_eq_true]
  refine ⟨h0, lexFrom_of hd hr ops.size 0 _ rfl (by simp) fun j b hj => ?_⟩
  rw [Array.getD_eq_getD_getElem?, Array.getElem?_replicate, if_pos hj]
  simp
/-- At up to 120 operations, in parts of twelve. -/
theorem lexB_parts {l : List Oper} (hn : decide (l.length ≤ 120) = true) (h0 : Region.noSelect l.toArray = true) (hd : depsB .any l.toArray = true)
    (r0 : rowsB .any l.toArray 0 12 = true) (r1 : rowsB .any l.toArray 12 12 = true) (r2 : rowsB .any l.toArray 24 12 = true) (r3 : rowsB .any l.toArray 36 12 = true) (r4 : rowsB .any l.toArray 48 12 = true)
    (r5 : rowsB .any l.toArray 60 12 = true) (r6 : rowsB .any l.toArray 72 12 = true) (r7 : rowsB .any l.toArray 84 12 = true) (r8 : rowsB .any l.toArray 96 12 = true) (r9 : rowsB .any l.toArray 108 12 = true) : Region.lexB .any l.toArray = true := by
  have hn := of_decide_eq_true hn
  refine lexB_of h0 hd fun k hk => ?_
  rw [List.size_toArray] at hk
  have hk : k < 120 := by omega
  by_cases c0 : k < 12
  · exact rowsB_get r0 (by omega) (by omega)
  by_cases c1 : k < 24
  · exact rowsB_get r1 (by omega) (by omega)
  by_cases c2 : k < 36
  · exact rowsB_get r2 (by omega) (by omega)
  by_cases c3 : k < 48
  · exact rowsB_get r3 (by omega) (by omega)
  by_cases c4 : k < 60
  · exact rowsB_get r4 (by omega) (by omega)
  by_cases c5 : k < 72
  · exact rowsB_get r5 (by omega) (by omega)
  by_cases c6 : k < 84
  · exact rowsB_get r6 (by omega) (by omega)
  by_cases c7 : k < 96
  · exact rowsB_get r7 (by omega) (by omega)
  by_cases c8 : k < 108
  · exact rowsB_get r8 (by omega) (by omega)
  · exact rowsB_get r9 (by omega) (by omega)
end Go.Proofs.YtifanmggfoicfaaDoor
