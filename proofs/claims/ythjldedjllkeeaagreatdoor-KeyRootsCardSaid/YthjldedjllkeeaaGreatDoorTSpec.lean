/- Plain words: bare blocks, their texts, their digests; a tree of them as a list. -/
import Derived.Test.YthjldedjllkeeaaGreatDoorSpecH
import Derived.Test.YthjldedjllkeeaaGreatDoorSpecX
import Derived.Test.YthjldedjllkeeaaGreatDoorLawN
set_option linter.unusedVariables false
namespace Go.Proofs.YthjldedjllkeeaaGreatDoor
namespace T
/-- A bare block: its view, its parent, its QC's view and block, from when, up to when. -/
structure B where
  v : Int
  p : Nat
  qv : Int
  qb : Nat
  lo : Int
  hi : Int
def tag : List UInt8 := [98, 108, 111, 99, 107]
def hexB (u : Nat) : List UInt8 := (S.hexT u).map UInt8.ofNat
def words (b : B) : List (List UInt8) := [tag, Lib.itoa b.v, hexB b.p, Lib.itoa b.qv, hexB b.qb, Lib.itoa b.lo, Lib.itoa b.hi]
def text (b : B) : List UInt8 := J.join (words b)
noncomputable def dig (b : B) : Nat := if b.v = 0 then 0 else S.sumN tag (text b)
theorem dig_lt (b : B) : dig b < 18446744073709551616 := by
  unfold dig
  split
  · decide
  · exact S.sumN_lt _ _
/- The same, to be reckoned. -/
def decF : Nat → Nat → List Nat
  | 0, u => [48 + u]
  | k + 1, u => if u < 10 then [48 + u] else decF k (u / 10) ++ [48 + u % 10]
def hexG : Nat → Nat → List Nat
  | 0, _ => []
  | k + 1, u => hexG k (u / 16) ++ [S.dig (u % 16)]
theorem dec_fast : ∀ k u, u < 10 ^ (k + 1) → S.nums (Lib.decDigits u) = decF k u
  | 0, u, h => by
    have h1 : u < 10 := by simpa using h
    rw [J.dec_small h1, decF]
    show [(UInt8.ofNat (48 + u)).toNat] = _
    rw [J.u8_dig h1]
  | k + 1, u, h => by
    by_cases h1 : u < 10
    · rw [J.dec_small h1, decF, if_pos h1]
      show [(UInt8.ofNat (48 + u)).toNat] = _
      rw [J.u8_dig h1]
    · have ih := dec_fast k (u / 10) (by rw [Nat.pow_succ] at h; omega)
      rw [J.dec_big h1, decF, if_neg h1, S.nums, List.map_append, ← S.nums, ih]
      show _ ++ [(UInt8.ofNat (48 + u % 10)).toNat] = _
      rw [J.u8_dig (Nat.mod_lt u (by omega))]
theorem hexG_zero : ∀ k, hexG k 0 = List.replicate k 48
  | 0 => rfl
  | k + 1 => by
    show hexG k (0 / 16) ++ [S.dig (0 % 16)] = _
    rw [Nat.zero_div, hexG_zero k, List.replicate_succ']
    rfl
theorem hex_fast : ∀ k u, u < 16 ^ (k + 1) → List.replicate (k + 1 - (S.hexA u).length) 48 ++ S.hexA u = hexG (k + 1) u
  | 0, u, h => by
    have h1 : u < 16 := by simpa using h
    rw [S.hexA_small h1]
    show [] ++ [S.dig u] = [] ++ [S.dig (u % 16)]
    rw [Nat.mod_eq_of_lt h1]
  | k + 1, u, h => by
    by_cases h1 : u < 16
    · rw [S.hexA_small h1, hexG, Nat.div_eq_of_lt h1, hexG_zero, Nat.mod_eq_of_lt h1]
      rfl
    · have ih := hex_fast k (u / 16) (by rw [Nat.pow_succ] at h; omega)
      have hl := S.hexA_len k (u / 16) (by rw [Nat.pow_succ] at h; omega)
      rw [hexG, ← ih, S.hexA_big (by omega), List.length_append, List.append_assoc]
      simp
theorem dig_small (n : Nat) (h : n < 16) : S.dig n < 256 := S.dig_lt h
theorem hexA_lt (u : Nat) : ∀ n ∈ S.hexA u, n < 256 ∧ n ≠ 124 ∧ n ≠ 92 := by
  induction u using Nat.strongRecOn with
  | ind u ih =>
    by_cases h : u < 16
    · rw [S.hexA_small h]
      intro n hn
      rw [List.mem_singleton] at hn
      subst hn
      unfold S.dig
      split <;> omega
    · rw [S.hexA_big (by omega)]
      intro n hn
      rcases List.mem_append.1 hn with hn | hn
      · exact ih (u / 16) (by omega) n hn
      · rw [List.mem_singleton] at hn
        subst hn
        unfold S.dig
        split <;> omega
theorem hexT_lt (u : Nat) : ∀ n ∈ S.hexT u, n < 256 ∧ n ≠ 124 ∧ n ≠ 92 := by
  intro n hn
  rcases List.mem_append.1 hn with hn | hn
  · obtain ⟨_, rfl⟩ := List.mem_replicate.1 hn
    decide
  · exact hexA_lt u n hn
theorem toNat_ofNat {n : Nat} (h : n < 256) : (UInt8.ofNat n).toNat = n := by rw [UInt8.toNat_ofNat', Nat.mod_eq_of_lt h]
theorem hexB_nums (u : Nat) : S.nums (hexB u) = S.hexT u := by
  unfold S.nums hexB
  rw [List.map_map]
  have : ∀ l : List Nat, (∀ n ∈ l, n < 256) → l.map (UInt8.toNat ∘ UInt8.ofNat) = l := by
    intro l
    induction l with
    | nil => intro _; rfl
    | cons a l ih => intro h; rw [List.map_cons, ih fun n hn => h n (by simp [hn])]; congr 1; exact toNat_ofNat (h a (by simp))
  exact this _ fun n hn => (hexT_lt u n hn).1
theorem special_of {c : UInt8} (h1 : c.toNat ≠ 124) (h2 : c.toNat ≠ 92) : J.special c = false := by
  unfold J.special
  rw [Bool.or_eq_false_iff]
  refine ⟨beq_eq_false_iff_ne.2 fun e => h1 (by rw [e]; rfl), beq_eq_false_iff_ne.2 fun e => h2 (by rw [e]; rfl)⟩
theorem hexB_plain (u : Nat) : ∀ c ∈ hexB u, J.special c = false := by
  intro c hc
  obtain ⟨n, hn, rfl⟩ := List.mem_map.1 hc
  have h := hexT_lt u n hn
  exact special_of (by rw [toNat_ofNat h.1]; exact h.2.1) (by rw [toNat_ofNat h.1]; exact h.2.2)
theorem itoa_plain (n : Int) : ∀ c ∈ Lib.itoa n, J.special c = false := by
  intro c hc
  have hd : ∀ u, ∀ c ∈ Lib.decDigits u, J.special c = false := fun u c hc => by
    have := J.dec_dig u c hc
    unfold J.isDig at this
    exact special_of (by omega) (by omega)
  unfold Lib.itoa at hc
  split at hc
  · rcases List.mem_cons.1 hc with rfl | hc
    · rfl
    · exact hd _ c hc
  · exact hd _ c hc
def joinF : List (List Nat) → List Nat
  | [] => []
  | s :: l => 124 :: (s ++ joinF l)
theorem esc_plain (s : List UInt8) (h : ∀ c ∈ s, J.special c = false) : J.esc s = s := by
  induction s with
  | nil => rfl
  | cons c s ih =>
    rw [J.esc, J.esc1, h c (by simp), ih fun d hd => h d (by simp [hd])]
    rfl
theorem join_fast (l : List (List UInt8)) (h : ∀ s ∈ l, ∀ c ∈ s, J.special c = false) : S.nums (J.join l) = joinF (l.map S.nums) := by
  induction l with
  | nil => rfl
  | cons s l ih =>
    have ih := ih fun t ht => h t (by simp [ht])
    rw [J.join, esc_plain s (h s (by simp)), List.map_cons, joinF, ← ih]
    simp [S.nums]
theorem words_plain (b : B) : ∀ s ∈ words b, ∀ c ∈ s, J.special c = false := by
  intro s hs
  simp only [words, List.mem_cons, List.not_mem_nil, or_false] at hs
  rcases hs with rfl | rfl | rfl | rfl | rfl | rfl | rfl
  · intro c hc; revert c; decide
  · exact itoa_plain _
  · exact hexB_plain _
  · exact itoa_plain _
  · exact hexB_plain _
  · exact itoa_plain _
  · exact itoa_plain _
def textF (b : B) : List Nat := joinF [[98, 108, 111, 99, 107], decF 12 b.v.toNat, hexG 16 b.p, decF 12 b.qv.toNat, hexG 16 b.qb, decF 12 b.lo.toNat, decF 12 b.hi.toNat]
def tagF : Nat := S.mixC ([98, 108, 111, 99, 107].foldl S.mixC 0) 256
def digF (b : B) : Nat := if b.v = 0 then 0 else S.mixC ((textF b).foldl S.mixC tagF) (textF b).length
/-- A block whose numbers are not great. -/
def ok (b : B) : Bool := decide ((0 ≤ b.v ∧ b.v < 10000000000000) ∧ (0 ≤ b.qv ∧ b.qv < 10000000000000) ∧ (0 ≤ b.lo ∧ b.lo < 10000000000000) ∧ (0 ≤ b.hi ∧ b.hi < 10000000000000) ∧ b.p < 18446744073709551616 ∧ b.qb < 18446744073709551616)
theorem itoa_fast (n : Int) (h0 : 0 ≤ n) (h1 : n < 10000000000000) : S.nums (Lib.itoa n) = decF 12 n.toNat := by
  have e : Lib.itoa n = Lib.decDigits n.toNat := by
    conv => lhs; rw [show n = ((n.toNat : Nat) : Int) by omega]
    exact Lib.itoa_nonneg _
  rw [e]
  exact dec_fast 12 _ (by omega)
theorem text_fast (b : B) (h : ok b = true) : S.nums (text b) = textF b := by
  have h := of_decide_eq_true h
  unfold text
  rw [join_fast _ (words_plain b)]
  simp only [words, List.map_cons, List.map_nil]
  rw [itoa_fast _ h.1.1 h.1.2, itoa_fast _ h.2.1.1 h.2.1.2, itoa_fast _ h.2.2.1.1 h.2.2.1.2, itoa_fast _ h.2.2.2.1.1 h.2.2.2.1.2, hexB_nums, hexB_nums]
  unfold textF S.hexT
  rw [hex_fast 15 b.p h.2.2.2.2.1, hex_fast 15 b.qb h.2.2.2.2.2]
  rfl
theorem dig_fast (b : B) (h : ok b = true) : dig b = digF b := by
  unfold dig digF
  split
  · rfl
  · have e := text_fast b h
    have el : (text b).length = (textF b).length := by rw [← e]; simp [S.nums]
    rw [S.sumN, el, e, S.tagN, S.mixN_C]
    rfl
/- A tree as the list of its blocks, each by its digest. -/
def gen : B := ⟨0, 0, 0, 0, 0, 0⟩
def new : List (Nat × B) := [(0, gen)]
def get : List (Nat × B) → Nat → Option B
  | [], _ => none
  | (k, b) :: l, d => if k = d then some b else get l d
/-- What is wrong with a block (of digest d) that is to be put on its parent. -/
def code (l : List (Nat × B)) (d : Nat) (b : B) : Nat :=
  if (get l d).isSome then 5 else match get l b.p with
    | none => 11
    | some q => if b.v ≤ q.v then 12 else if b.lo ≠ q.hi then 10 else 0
def add (l : List (Nat × B)) (d : Nat) (b : B) : List (Nat × B) := if code l d b = 0 then (d, b) :: l else l
/-- The way from one to the first, by so many steps at most. -/
def way (l : List (Nat × B)) : Nat → Nat → Option (List Nat)
  | 0, d => if d = 0 then some [0] else none
  | n + 1, d => if d = 0 then some [0] else match get l d with
    | none => none
    | some b => (way l n b.p).map (d :: ·)
/-- What is held for good by one's way. -/
def commit (l : List (Nat × B)) : List Nat → Option Nat
  | x :: y :: z :: _ :: _ => match get l x, get l y, get l z with
    | some a, some b, some c => if a.v = b.v + 1 ∧ b.v = c.v + 1 then some z else none
    | _, _, _ => none
  | _ => none
end T
end Go.Proofs.YthjldedjllkeeaaGreatDoor
