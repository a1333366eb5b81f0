/- Plain words: fields joined are split as they were; what splits is joined again so; unlike rows are joined unlike. -/
import Derived.Test.YthjldedjllkeeaaGreatDoorSpecS2
namespace Go.Proofs.YthjldedjllkeeaaGreatDoor
namespace J
theorem run_esc (s : List UInt8) : ∀ (rest : List UInt8) (o : List (List UInt8)) (f : List UInt8), run (esc s ++ rest) (o, f, false) = run rest (o, f ++ s, false) := by
  induction s with
  | nil => intro rest o f; simp [esc]
  | cons c s ih =>
    intro rest o f
    rw [esc, esc1]
    by_cases h : special c = true
    · rw [if_pos h]
      show run (92 :: c :: (esc s ++ rest)) (o, f, false) = _
      rw [run, show step (o, f, false) 92 = some (o, f, true) from rfl, Option.bind_some, run, step_sp h, Option.bind_some, ih]
      simp
    · rw [if_neg h]
      show run (c :: (esc s ++ rest)) (o, f, false) = _
      have h0 : special c = false := by simpa using h
      rcases kinds c with ⟨_, rfl⟩ | ⟨_, _, rfl⟩ | ⟨_, _, _, e1, e2⟩
      · cases h0
      · cases h0
      · rw [run, step_other e1 e2, Option.bind_some, ih]
        simp
theorem run_join (l : List (List UInt8)) : ∀ (o : List (List UInt8)) (f : List UInt8), ∃ o' f', run (join l) (o, f, false) = some (o', f', false) ∧ o' ++ [f'] = o ++ f :: l := by
  induction l with
  | nil => intro o f; exact ⟨o, f, rfl, rfl⟩
  | cons s l ih =>
    intro o f
    obtain ⟨o', f', h1, h2⟩ := ih (o ++ [f]) s
    refine ⟨o', f', ?_, by rw [h2]; simp⟩
    rw [join, run, show step (o, f, false) 124 = some (o ++ [f], [], false) from rfl, Option.bind_some, run_esc, List.nil_append]
    exact h1
theorem split_join (l : List (List UInt8)) : split (join l) = most l := by
  cases l with
  | nil => rfl
  | cons s l =>
    obtain ⟨o', f', h1, h2⟩ := run_join l [] s
    rw [join, split_cons, if_pos (by rfl), run_esc, List.nil_append, h1]
    show most (o' ++ [f']) = _
    rw [h2]
    rfl
theorem join_inj {a b : List (List UInt8)} (h : join a = join b) : a = b := by
  cases a with
  | nil => cases b with
    | nil => rfl
    | cons s b => cases h
  | cons s a => cases b with
    | nil => cases h
    | cons t b =>
      rw [join, join] at h
      injection h with _ h
      have e1 := run_esc s (join a) [] []
      have e2 := run_esc t (join b) [] []
      rw [h, e2] at e1
      obtain ⟨o1, f1, h1, g1⟩ := run_join a [] s
      obtain ⟨o2, f2, h2, g2⟩ := run_join b [] t
      rw [List.nil_append, List.nil_append, h1, h2] at e1
      injection e1 with e1
      injection e1 with e1 e2
      injection e2 with e2
      rw [e1, e2, g1] at g2
      exact g2
theorem join_one (o : List (List UInt8)) (f : List UInt8) : join (o ++ [f]) = join o ++ 124 :: esc f := by rw [join_append, join, join, List.append_nil]
theorem run_back (t : List UInt8) : ∀ (o : List (List UInt8)) (f : List UInt8) (b : Bool) (o' : List (List UInt8)) (f' : List UInt8), run t (o, f, b) = some (o', f', false) →
    join (o' ++ [f']) = join (o ++ [f]) ++ (if b then 92 :: t else t) := by
  induction t with
  | nil =>
    intro o f b o' f' h
    injection h with h
    injection h with h1 h2
    injection h2 with h2 h3
    subst h1 h2 h3
    simp
  | cons c t ih =>
    intro o f b o' f' h
    rw [run] at h
    cases b with
    | true =>
      by_cases hs : special c = true
      · rw [step_sp hs, Option.bind_some] at h
        rw [ih _ _ _ _ _ h, join_one, join_one, esc_append, esc_one, esc1, if_pos hs]
        simp
      · rw [step_no (by simpa using hs)] at h
        cases h
    | false =>
      rcases kinds c with ⟨_, rfl⟩ | ⟨_, _, rfl⟩ | ⟨_, _, h0, e1, e2⟩
      · rw [show step (o, f, false) 124 = some (o ++ [f], [], false) from rfl, Option.bind_some] at h
        rw [ih _ _ _ _ _ h, join_one]
        simp [esc]
      · rw [show step (o, f, false) 92 = some (o, f, true) from rfl, Option.bind_some] at h
        rw [ih _ _ _ _ _ h]
        simp
      · rw [step_other e1 e2, Option.bind_some] at h
        rw [ih _ _ _ _ _ h, join_one, join_one, esc_append, esc_one, esc1, if_neg (by simp [h0])]
        simp
theorem most_ok {l m : List (List UInt8)} (h : most l = .ok m) : l = m ∧ l.length ≤ 4096 := by
  unfold most at h
  split at h
  · cases h
  · injection h with h
    exact ⟨h, by omega⟩
theorem join_split {t : List UInt8} {l : List (List UInt8)} (h : split t = .ok l) : join l = t := by
  cases t with
  | nil => injection h with h; subst h; rfl
  | cons c t =>
    rw [split_cons] at h
    by_cases hc : (c == 124) = true
    · rw [if_pos hc] at h
      have : c = 124 := by simpa using hc
      subst this
      cases hr : run t ([], [], false) with
      | none => rw [hr] at h; cases h
      | some s =>
        obtain ⟨o, f, b⟩ := s
        rw [hr] at h
        cases b with
        | true => cases h
        | false =>
          obtain ⟨rfl, _⟩ := most_ok h
          rw [run_back _ _ _ _ _ _ hr]
          rfl
    · rw [if_neg hc] at h
      cases h
end J
end Go.Proofs.YthjldedjllkeeaaGreatDoor
