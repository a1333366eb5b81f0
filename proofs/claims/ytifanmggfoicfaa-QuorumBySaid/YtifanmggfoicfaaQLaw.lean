/- The plain law: a row sorted, each once, is each put into its place; what follows of it. -/
import Derived.Test.YtifanmggfoicfaaQBy
set_option linter.unusedVariables false
namespace Go.Proofs.Ytifanmggfoicfaa
open Go.RowKit
theorem rising_ext : ∀ {a b : List Int}, a.Pairwise (· < ·) → b.Pairwise (· < ·) → (∀ x, x ∈ a ↔ x ∈ b) → a = b
  | [], [], _, _, _ => rfl
  | [], y :: b, _, _, h => absurd ((h y).2 (by simp)) (by simp)
  | x :: a, [], _, _, h => absurd ((h x).1 (by simp)) (by simp)
  | x :: a, y :: b, ha, hb, h => by
    rw [List.pairwise_cons] at ha hb
    have e : x = y := by
      rcases List.mem_cons.1 ((h x).1 (by simp)) with e | hx
      · exact e
      · rcases List.mem_cons.1 ((h y).2 (by simp)) with e | hy
        · exact e.symm
        · have := hb.1 x hx
          have := ha.1 y hy
          omega
    subst e
    congr 1
    refine rising_ext ha.2 hb.2 fun z => ?_
    have hz := h z
    simp only [List.mem_cons] at hz
    constructor
    · intro hm
      rcases hz.1 (.inr hm) with e | h
      · have := ha.1 z hm; omega
      · exact h
    · intro hm
      rcases hz.2 (.inr hm) with e | h
      · have := hb.1 z hm; omega
      · exact h
theorem insD_mem (x y : Int) : ∀ l : List Int, y ∈ insD x l ↔ y = x ∨ y ∈ l
  | [] => by simp [insD]
  | z :: l => by
    unfold insD
    split
    · rw [List.mem_cons, insD_mem x y l, List.mem_cons]
      constructor
      · rintro (h | h | h) <;> simp [h]
      · rintro (h | h | h) <;> simp [h]
    · split
      · next h => subst h; simp
      · simp
theorem insD_rising (x : Int) : ∀ l : List Int, l.Pairwise (· < ·) → (insD x l).Pairwise (· < ·)
  | [], _ => by simp [insD]
  | z :: l, h => by
    rw [List.pairwise_cons] at h
    unfold insD
    split
    · next hz =>
      rw [List.pairwise_cons]
      refine ⟨fun y hy => ?_, insD_rising x l h.2⟩
      rcases (insD_mem x y l).1 hy with rfl | hy
      · exact hz
      · exact h.1 y hy
    · split
      · exact List.pairwise_cons.2 h
      · next h1 h2 =>
        rw [List.pairwise_cons, List.pairwise_cons]
        refine ⟨fun y hy => ?_, h⟩
        rcases List.mem_cons.1 hy with rfl | hy
        · omega
        · have := h.1 y hy; omega
theorem rdst_props (l : List Int) : (rdst l).Pairwise (· < ·) ∧ ∀ y, y ∈ rdst l ↔ y ∈ l := by
  have : ∀ (l a : List Int), a.Pairwise (· < ·) → (l.foldl (fun a x => insD x a) a).Pairwise (· < ·) ∧ ∀ y, y ∈ l.foldl (fun a x => insD x a) a ↔ y ∈ a ∨ y ∈ l := by
    intro l
    induction l with
    | nil => intro a ha; exact ⟨ha, by simp⟩
    | cons x l ih =>
      intro a ha
      obtain ⟨h1, h2⟩ := ih (insD x a) (insD_rising x a ha)
      refine ⟨h1, fun y => ?_⟩
      rw [List.foldl_cons, h2 y, insD_mem, List.mem_cons]
      constructor
      · rintro ((h | h) | h) <;> simp [h]
      · rintro (h | h | h) <;> simp [h]
  obtain ⟨h1, h2⟩ := this l [] List.Pairwise.nil
  exact ⟨h1, fun y => by have := h2 y; simpa [rdst] using this⟩
theorem compact_rising (d : Array Int) (hs : ∀ i j, i ≤ j → j < d.size → d[i]! ≤ d[j]!) : ∀ m, m ≤ d.size →
    (Lib.compactUpTo d m).Pairwise (· < ·) ∧ (∀ y, y ∈ Lib.compactUpTo d m ↔ ∃ j, j < m ∧ d[j]! = y) := by
  intro m
  induction m with
  | zero => intro _; exact ⟨by simp [Lib.compactUpTo], by simp [Lib.compactUpTo]⟩
  | succ m ih =>
    intro hm
    obtain ⟨h1, h2⟩ := ih (by omega)
    rw [Lib.compactUpTo_succ]
    cases hk : Lib.keeps d m with
    | true =>
      rw [if_pos rfl]
      refine ⟨?_, fun y => ?_⟩
      · rw [List.pairwise_append]
        refine ⟨h1, by simp, fun a ha b hb => ?_⟩
        obtain ⟨j, hj, rfl⟩ := (h2 a).1 ha
        rw [List.mem_singleton] at hb
        subst hb
        have h3 := hs j (m - 1) (by omega) (by omega)
        have h4 := hs (m - 1) m (by omega) (by omega)
        have h5 : m = 0 ∨ d[m]! ≠ d[m - 1]! := by simpa [Lib.keeps] using hk
        omega
      · rw [List.mem_append, h2 y, List.mem_singleton]
        constructor
        · rintro (⟨j, hj, rfl⟩ | rfl)
          · exact ⟨j, by omega, rfl⟩
          · exact ⟨m, by omega, rfl⟩
        · rintro ⟨j, hj, rfl⟩
          by_cases e : j = m
          · subst e; exact .inr rfl
          · exact .inl ⟨j, by omega, rfl⟩
    | false =>
      have h5 : ¬ (m = 0 ∨ d[m]! ≠ d[m - 1]!) := by simpa [Lib.keeps] using hk
      rw [if_neg (by simp), List.append_nil]
      refine ⟨h1, fun y => ?_⟩
      rw [h2 y]
      constructor
      · rintro ⟨j, hj, rfl⟩; exact ⟨j, by omega, rfl⟩
      · rintro ⟨j, hj, rfl⟩
        by_cases e : j = m
        · subst e
          exact ⟨j - 1, by omega, by
            have : d[j]! = d[j - 1]! := Decidable.byContradiction fun h => h5 (.inr h)
            exact this.symm⟩
        · exact ⟨j, by omega, rfl⟩
theorem srt_sorted (l : List Int) : (srt l).Pairwise (· ≤ ·) := by
  have h := List.pairwise_mergeSort (le := fun x y : Int => decide (x ≤ y)) (fun a b c h1 h2 => by simp at *; omega) (fun a b => by simp; omega) l
  exact h.imp (fun {a b} h => by simpa using h)
theorem srt_mem (l : List Int) (x : Int) : x ∈ srt l ↔ x ∈ l := by unfold srt; exact List.mem_mergeSort
theorem dst_props (l : List Int) : (dst l).Pairwise (· < ·) ∧ ∀ y, y ∈ dst l ↔ y ∈ l := by
  have hp := srt_sorted l
  have hs : ∀ i j, i ≤ j → j < (srt l).toArray.size → (srt l).toArray[i]! ≤ (srt l).toArray[j]! := by
    intro i j hij hj
    have hj' : j < (srt l).length := by simpa using hj
    rw [getElem!_pos _ i (by simp; omega), getElem!_pos _ j hj]
    simp only [List.getElem_toArray]
    rcases Nat.lt_or_ge i j with h | h
    · exact List.pairwise_iff_getElem.1 hp i j (by omega) hj' h
    · have : i = j := by omega
      subst this
      exact Int.le_refl _
  obtain ⟨h1, h2⟩ := compact_rising (srt l).toArray hs (srt l).length (by simp)
  refine ⟨h1, fun y => ?_⟩
  refine (h2 y).trans ?_
  rw [← srt_mem l y, List.mem_iff_getElem]
  constructor
  · rintro ⟨j, hj, rfl⟩
    exact ⟨j, hj, by rw [getElem!_pos _ j (by simpa using hj)]; simp⟩
  · rintro ⟨j, hj, rfl⟩
    exact ⟨j, hj, by rw [getElem!_pos _ j (by simpa using hj)]; simp⟩
theorem dst_rdst (l : List Int) : dst l = rdst l := by
  obtain ⟨h1, h2⟩ := dst_props l
  obtain ⟨h3, h4⟩ := rdst_props l
  exact rising_ext h1 h3 fun x => (h2 x).trans (h4 x).symm
theorem enough_ref (f : Int) (l : List Int) : enoughB f l = renoughB f l := by
  unfold enoughB renoughB cntR
  rw [dst_rdst]
theorem hits_rising {b : List Int} (hb : b.Pairwise (· < ·)) (x : Int) : hits x b = if b.contains x then [x] else [] := by
  induction b with
  | nil => rfl
  | cons y b ih =>
    rw [List.pairwise_cons] at hb
    have h := ih hb.2
    unfold hits at h ⊢
    rw [List.filter_cons, List.contains_cons]
    cases hxy : x == y with
    | true =>
      have e := eq_of_beq hxy
      subst e
      have hn : b.contains x = false := by
        rw [Bool.eq_false_iff]
        intro hc
        have := hb.1 x (by simpa using hc)
        omega
      rw [if_neg (by rw [hn]; simp)] at h
      rw [if_pos rfl, List.map_cons, h]
      rfl
    | false =>
      rw [if_neg (by simp), h]
      rfl
theorem common_ref (a b : List Int) : common a b = rcomm (rdst a) (rdst b) := by
  unfold common rcomm
  rw [dst_rdst]
  have hb := (rdst_props b).1
  have hm := (rdst_props b).2
  generalize rdst a = l
  induction l with
  | nil => rfl
  | cons x l ih =>
    rw [List.filter_cons, List.flatMap_cons, hits_rising hb, ih]
    have e : (rdst b).contains x = b.contains x := by
      rw [Bool.eq_iff_iff]
      simpa using hm x
    rw [e]
    split <;> simp
end Go.Proofs.Ytifanmggfoicfaa
