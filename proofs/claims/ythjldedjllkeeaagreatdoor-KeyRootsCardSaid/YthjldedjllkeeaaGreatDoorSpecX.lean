/- Plain words: hexadecimal digits. -/
import Derived.Laws.Bits64
namespace Go.Proofs.YthjldedjllkeeaaGreatDoor.S
/-- A digit's byte: 0 .. 9, a .. f. -/
def dig (n : Nat) : Nat := if n < 10 then 48 + n else 87 + n
theorem dig_lt {n : Nat} (h : n < 16) : dig n < 256 := by unfold dig; split <;> omega
/-- A number in hexadecimal, no zeros ahead (0: one). -/
def hexA (u : Nat) : List Nat := if u < 16 then [dig u] else hexA (u / 16) ++ [dig (u % 16)]
termination_by u
theorem hexA_small {u : Nat} (h : u < 16) : hexA u = [dig u] := by rw [hexA, if_pos h]
theorem hexA_big {u : Nat} (h : 16 ≤ u) : hexA u = hexA (u / 16) ++ [dig (u % 16)] := by rw [hexA, if_neg (by omega)]
theorem hexA_len (k : Nat) : ∀ u, u < 16 ^ (k + 1) → (hexA u).length ≤ k + 1 := by
  induction k with
  | zero => intro u h; rw [hexA_small (by omega)]; simp
  | succ k ih =>
    intro u h
    by_cases h1 : u < 16
    · rw [hexA_small h1]; simp
    · rw [hexA_big (by omega), List.length_append]
      have := ih (u / 16) (by rw [Nat.pow_succ] at h; omega)
      simp; omega
theorem hexA_pos (u : Nat) : 1 ≤ (hexA u).length := by
  by_cases h1 : u < 16
  · rw [hexA_small h1]; simp
  · rw [hexA_big (by omega), List.length_append]; simp
/-- Bytes as a string. -/
def bstr (l : List Nat) : ByteArray := ⟨(l.map UInt8.ofNat).toArray⟩
theorem bstr_list (l : List Nat) : (bstr l).data.toList = l.map UInt8.ofNat := rfl
theorem bstr_size (l : List Nat) : (bstr l).size = l.length := by
  show (l.map UInt8.ofNat).toArray.size = _
  simp
theorem bstr_append (a b : List Nat) : bstr a ++ bstr b = bstr (a ++ b) := by
  apply ByteArray.ext
  simp [bstr]
/-- A number in sixteen hexadecimal digits. -/
def hexT (u : Nat) : List Nat := List.replicate (16 - (hexA u).length) 48 ++ hexA u
/-- A letter's other case, as strconv makes it. -/
def low (c : Nat) : Nat := c ||| 32
theorem low_lt {c : Nat} (h : c < 256) : low c < 256 := by
  unfold low
  exact Nat.or_lt_two_pow (n := 8) h (by decide)
/-- What a byte says as a hexadecimal digit, whichever case. -/
def hexv (c : Nat) : Option Nat := if 48 ≤ c ∧ c ≤ 57 then some (c - 48) else if 97 ≤ low c ∧ low c ≤ 102 then some (low c - 87) else none
theorem hexv_lt {c d : Nat} (h : hexv c = some d) : d < 16 := by
  unfold hexv at h
  split at h
  · injection h; omega
  · split at h
    · injection h; omega
    · cases h
def puStep (n c : Nat) : Option Nat := (hexv c).bind fun d => if n < 1152921504606846976 then some (n * 16 + d) else none
/-- What strconv reads at base 16; none: an error. -/
def puFold : List Nat → Nat → Option Nat
  | [], n => some n
  | c :: l, n => (puStep n c).bind (puFold l)
theorem puFold_append (a b : List Nat) : ∀ n, puFold (a ++ b) n = (puFold a n).bind (puFold b) := by
  induction a with
  | nil => intro n; rfl
  | cons c a ih =>
    intro n
    show (puStep n c).bind (puFold (a ++ b)) = ((puStep n c).bind (puFold a)).bind (puFold b)
    cases puStep n c with
    | none => rfl
    | some m => exact ih m
def pu (l : List Nat) : Option Nat := if l = [] then none else puFold l 0
theorem puStep_lt {n c m : Nat} (h : puStep n c = some m) : m < 18446744073709551616 := by
  unfold puStep at h
  cases hv : hexv c with
  | none => rw [hv] at h; cases h
  | some d =>
    have := hexv_lt hv
    rw [hv] at h
    simp only [Option.bind_some] at h
    split at h
    · injection h; omega
    · cases h
end Go.Proofs.YthjldedjllkeeaaGreatDoor.S
