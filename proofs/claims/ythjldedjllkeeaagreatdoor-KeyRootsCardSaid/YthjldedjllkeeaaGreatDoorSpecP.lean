/- Plain words: digests in words and back: the program's reading and the reference's are one. -/
import Derived.Test.YthjldedjllkeeaaGreatDoorWParse
namespace Go.Proofs.YthjldedjllkeeaaGreatDoor
/-- The n lowest hexadecimal digits. -/
def dgs (u : Nat) : Nat → List Nat
  | 0 => []
  | n + 1 => dgs (u / 16) n ++ [S.dig (u % 16)]
theorem dgs_len (n : Nat) : ∀ u, (dgs u n).length = n := by
  induction n with
  | zero => intro u; rfl
  | succ n ih => intro u; rw [dgs, List.length_append, ih]; rfl
theorem dgs_zero (n : Nat) : dgs 0 n = List.replicate n 48 := by
  induction n with
  | zero => rfl
  | succ n ih => rw [dgs, ih, List.replicate_succ']; rfl
theorem hexA_dgs (n : Nat) : ∀ u, u < 16 ^ (n + 1) → List.replicate (n + 1 - (S.hexA u).length) 48 ++ S.hexA u = dgs u (n + 1) := by
  induction n with
  | zero =>
    intro u h
    rw [S.hexA_small (by omega), dgs, dgs, Nat.mod_eq_of_lt (by omega)]
    rfl
  | succ n ih =>
    intro u h
    by_cases h1 : u < 16
    · rw [S.hexA_small h1, dgs, show u / 16 = 0 from by omega, dgs_zero, Nat.mod_eq_of_lt h1]
      rfl
    · rw [S.hexA_big (by omega), dgs, ← ih (u / 16) (by rw [Nat.pow_succ] at h; omega), List.length_append, List.append_assoc]
      have e : n + 1 + 1 - ((S.hexA (u / 16)).length + [S.dig (u % 16)].length) = n + 1 - (S.hexA (u / 16)).length := by
        rw [List.length_singleton]; omega
      rw [e]
theorem hexT_dgs {u : Nat} (h : u < 18446744073709551616) : S.hexT u = dgs u 16 := hexA_dgs 15 u (by omega)
theorem hexT_len {u : Nat} (h : u < 18446744073709551616) : (S.hexT u).length = 16 := by rw [hexT_dgs h, dgs_len]
/-- What the reference reads of a byte. -/
def rv (c : Nat) : Option Nat := if 48 ≤ c ∧ c ≤ 57 then some (c - 48) else if 97 ≤ c ∧ c ≤ 102 then some (c - 87) else none
def rstep (n c : Nat) : Option Nat := (rv c).map fun d => n * 16 + d
def rfold : List Nat → Nat → Option Nat
  | [], n => some n
  | c :: l, n => (rstep n c).bind (rfold l)
def rparse (s : List Nat) : Option Nat := if s.length = 16 then rfold s 0 else none
theorem rfold_append (a b : List Nat) : ∀ n, rfold (a ++ b) n = (rfold a n).bind (rfold b) := by
  induction a with
  | nil => intro n; rfl
  | cons c a ih =>
    intro n
    show (rstep n c).bind (rfold (a ++ b)) = ((rstep n c).bind (rfold a)).bind (rfold b)
    cases rstep n c with
    | none => rfl
    | some m => exact ih m
theorem rfold_snoc (a : List Nat) (c n : Nat) : rfold (a ++ [c]) n = (rfold a n).bind fun m => rstep m c := by
  rw [rfold_append]
  cases rfold a n with
  | none => rfl
  | some m =>
    show (rstep m c).bind (rfold []) = rstep m c
    cases rstep m c <;> rfl
theorem rv_dig : ∀ d : Fin 16, rv (S.dig d.val) = some d.val := by decide
theorem hexv_dig : ∀ d : Fin 16, S.hexv (S.dig d.val) = some d.val := by decide
theorem dig_rv {c d : Nat} (h : rv c = some d) : S.dig d = c ∧ d < 16 := by
  unfold rv at h
  unfold S.dig
  split at h
  · injection h with h; subst h
    rw [if_pos (by omega)]; omega
  · split at h
    · injection h with h; subst h
      rw [if_neg (by omega)]; omega
    · cases h
theorem rfold_dgs (n : Nat) : ∀ u, u < 16 ^ n → rfold (dgs u n) 0 = some u := by
  induction n with
  | zero => intro u h; rw [Nat.pow_zero] at h; obtain rfl : u = 0 := (by omega); rfl
  | succ n ih =>
    intro u h
    rw [dgs, rfold_snoc, ih (u / 16) (by rw [Nat.pow_succ] at h; omega), Option.bind_some, rstep, rv_dig ⟨u % 16, Nat.mod_lt _ (by decide)⟩, Option.map_some]
    congr 1
    show u / 16 * 16 + u % 16 = u
    omega
theorem puFold_dgs (n : Nat) : ∀ u, u < 16 ^ n → u < 18446744073709551616 → S.puFold (dgs u n) 0 = some u := by
  induction n with
  | zero => intro u h _; rw [Nat.pow_zero] at h; obtain rfl : u = 0 := (by omega); rfl
  | succ n ih =>
    intro u h h2
    rw [dgs, S.puFold_append, ih (u / 16) (by rw [Nat.pow_succ] at h; omega) (by omega), Option.bind_some]
    show (S.puStep (u / 16) (S.dig (u % 16))).bind (S.puFold []) = some u
    rw [S.puStep, hexv_dig ⟨u % 16, Nat.mod_lt _ (by decide)⟩, Option.bind_some, if_pos (by omega), Option.bind_some]
    show some (u / 16 * 16 + u % 16) = some u
    congr 1
    omega
theorem dgs_rfold (s : List Nat) (k : Nat) (hk : k ≤ s.length) : ∀ m, rfold (s.take k) 0 = some m → dgs m k = s.take k ∧ m < 16 ^ k := by
  induction k with
  | zero => intro m h; injection h with h; subst h; exact ⟨rfl, by decide⟩
  | succ k ih =>
    intro m h
    rw [List.take_succ_eq_append_getElem (by omega), rfold_snoc] at h
    cases hp : rfold (s.take k) 0 with
    | none => rw [hp] at h; cases h
    | some q =>
      rw [hp, Option.bind_some, rstep] at h
      obtain ⟨h1, h2⟩ := ih (by omega) q hp
      cases hv : rv s[k] with
      | none => rw [hv] at h; cases h
      | some d =>
        rw [hv, Option.map_some] at h
        injection h with h
        obtain ⟨h3, h4⟩ := dig_rv hv
        subst h
        rw [dgs, show (q * 16 + d) / 16 = q from by omega, show (q * 16 + d) % 16 = d from by omega, h1, h3, List.take_succ_eq_append_getElem (by omega), Nat.pow_succ]
        exact ⟨rfl, by omega⟩
theorem rparse_text {s : List Nat} {n : Nat} (h : rparse s = some n) : S.hexT n = s ∧ n < 18446744073709551616 := by
  unfold rparse at h
  split at h
  · rename_i hl
    have h1 := dgs_rfold s 16 (by omega) n (by rw [List.take_of_length_le (by omega)]; exact h)
    rw [List.take_of_length_le (by omega)] at h1
    have h2 : n < 18446744073709551616 := by have := h1.2; omega
    exact ⟨by rw [hexT_dgs h2]; exact h1.1, h2⟩
  · cases h
theorem rparse_of {n : Nat} (h : n < 18446744073709551616) : rparse (S.hexT n) = some n := by
  unfold rparse
  rw [if_pos (hexT_len h), hexT_dgs h]
  exact rfold_dgs 16 n (by omega)
theorem pu_of {n : Nat} (h : n < 18446744073709551616) : S.pu (S.hexT n) = some n := by
  unfold S.pu
  rw [if_neg (by intro e; have := hexT_len h; rw [e] at this; cases this), hexT_dgs h]
  exact puFold_dgs 16 n (by omega) h
theorem parseH_of {n : Nat} (h : n < 18446744073709551616) : parseH (S.hexT n) = some n := by
  unfold parseH
  rw [pu_of h, Option.bind_some, if_pos rfl]
/-- The program reads what the reference reads. -/
theorem parseH_ref (s : List Nat) : parseH s = rparse s := by
  cases hr : rparse s with
  | some n =>
    obtain ⟨h1, h2⟩ := rparse_text hr
    rw [← h1]
    exact parseH_of h2
  | none =>
    unfold parseH
    cases hp : S.pu s with
    | none => rfl
    | some m =>
      rw [Option.bind_some]
      by_cases e : S.hexT m = s
      · have := rparse_of (pu_lt hp)
        rw [e, hr] at this
        cases this
      · rw [if_neg e]
end Go.Proofs.YthjldedjllkeeaaGreatDoor
