/- Plain words: the reference's Split is the program's. -/
import Derived.Test.YthjldedjllkeeaaGreatDoorWSplit
namespace Go.Proofs.YthjldedjllkeeaaGreatDoor
namespace J
def rrun : List UInt8 → List (List UInt8) → List UInt8 → Bool → Option (List (List UInt8))
  | [], out, one, on => some (if on then out ++ [one] else out)
  | c :: l, out, one, on =>
    if on = false ∧ (c == 124) = false then none
    else if (c == 124) = true then rrun l (if on then out ++ [one] else out) [] true
    else if (c == 92) = true then
      match l with
      | [] => none
      | d :: l' => if special d then rrun l' out (one ++ [d]) on else none
    else rrun l out (one ++ [c]) on
theorem rr_cons (c : UInt8) (l : List UInt8) (out : List (List UInt8)) (one : List UInt8) (on : Bool) : rrun (c :: l) out one on =
    if on = false ∧ (c == 124) = false then none
    else if (c == 124) = true then rrun l (if on then out ++ [one] else out) [] true
    else if (c == 92) = true then
      match l with
      | [] => none
      | d :: l' => if special d then rrun l' out (one ++ [d]) on else none
    else rrun l out (one ++ [c]) on := by
  rw [rrun.eq_def]
def rsplit (l : List UInt8) : Except Nat (List (List UInt8)) := match rrun l [] [] false with
  | some out => most out
  | none => .error 2
def shut : Option St → Option (List (List UInt8))
  | some (out, f, false) => some (out ++ [f])
  | _ => none
theorem rrun_run (n : Nat) : ∀ l : List UInt8, l.length ≤ n → ∀ out one, rrun l out one true = shut (run l (out, one, false)) := by
  induction n with
  | zero => intro l h out one; cases l with | nil => rfl | cons c l => cases h
  | succ n ih =>
    intro l h out one
    cases l with
    | nil => rfl
    | cons c l =>
      have hl : l.length ≤ n := Nat.le_of_succ_le_succ h
      rw [rr_cons, if_neg (by simp)]
      rw [run]
      by_cases h1 : (c == 124) = true
      · rw [if_pos h1, ih l hl]
        have : c = 124 := by simpa using h1
        subst this
        rfl
      · rw [if_neg h1]
        by_cases h2 : (c == 92) = true
        · have : c = 92 := by simpa using h2
          subst this
          rw [if_pos h2, show step (out, one, false) 92 = some (out, one, true) from rfl, Option.bind_some]
          cases l with
          | nil => rfl
          | cons d l' =>
            show (if special d = true then _ else _) = _
            rw [run]
            by_cases hd : special d = true
            · rw [if_pos hd, ih l' (by simp at hl; omega), step_sp hd, Option.bind_some]
            · rw [if_neg hd, step_no (by simpa using hd), Option.bind_none]
              rfl
        · rw [if_neg h2, ih l hl, step_other (by simpa using h1) (by simpa using h2), Option.bind_some]
theorem split_cons (c : UInt8) (l : List UInt8) : split (c :: l) = if (c == 124) = true then (match run l ([], [], false) with
      | some (out, f, false) => most (out ++ [f])
      | _ => .error 2) else .error 2 := by
  unfold split
  rfl
theorem rsplit_split (l : List UInt8) : rsplit l = split l := by
  cases l with
  | nil => rfl
  | cons c l =>
    rw [split_cons]
    unfold rsplit
    rw [rr_cons]
    by_cases h1 : (c == 124) = true
    · rw [if_neg (by rw [h1]; simp), if_pos h1, if_pos h1, rrun_run l.length l (Nat.le_refl _)]
      show (match shut (run l ([], [], false)) with | some out => most out | none => .error 2) = _
      cases run l ([], [], false) with
      | none => rfl
      | some s =>
        obtain ⟨o, f, b⟩ := s
        cases b <;> rfl
    · rw [if_pos ⟨rfl, by simpa using h1⟩, if_neg h1]
end J
end Go.Proofs.YthjldedjllkeeaaGreatDoor
