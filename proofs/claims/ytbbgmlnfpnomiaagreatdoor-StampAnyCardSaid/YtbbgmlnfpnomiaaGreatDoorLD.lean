/- Texts put together: LawN, LawJ, TSpec, WRPnum, WTrim, WIs2, WSeq, WPnum, Tok. -/
import Derived.Test.YtbbgmlnfpnomiaaGreatDoorLB
import Derived.Test.YtbbgmlnfpnomiaaGreatDoorLA
import Derived.Lib.ItoaMem
import Derived.Lib.ParseIntB
import Derived.Lib.Join
import Derived.Shelf.Strings.SlTrimAscii
import Derived.Stop.Asserts
import Derived.LaidEql
import Derived.RowKitTokens
import Derived.Outline
import Derived.Test.YtbbgmlnfpnomiaaGreatDoorProg
import Derived.Test.YtbbgmlnfpnomiaaGreatDoorShelf
import Derived.Lib.IndexLaws
import Derived.Lib.AtoiErrMem
section
/- Plain words: numbers there and back; a text between commas. -/
namespace Go.Proofs.YtbbgmlnfpnomiaaGreatDoor
namespace J
theorem val_append (a : List UInt8) (c : UInt8) : val (a ++ [c]) = 10 * val a + (c.toNat - 48) := by
  rw [val, List.foldl_append]
  rfl
theorem dec_small {u : Nat} (h : u < 10) : Lib.decDigits u = [UInt8.ofNat (48 + u)] := Lib.decDigits_one h
theorem dec_big {u : Nat} (h : ¬ u < 10) : Lib.decDigits u = Lib.decDigits (u / 10) ++ [UInt8.ofNat (48 + u % 10)] := by rw [Lib.decDigits, dif_neg h]
theorem u8_dig {d : Nat} (h : d < 10) : (UInt8.ofNat (48 + d)).toNat = 48 + d := by rw [UInt8.toNat_ofNat', Nat.mod_eq_of_lt (by omega)]
theorem dec_dig (u : Nat) : ∀ c ∈ Lib.decDigits u, isDig c := by
  induction u using Nat.strongRecOn with
  | ind u ih =>
    by_cases h : u < 10
    · rw [dec_small h]
      intro c hc
      rw [List.mem_singleton] at hc
      subst hc
      have := u8_dig h
      exact ⟨by omega, by omega⟩
    · rw [dec_big h]
      intro c hc
      rcases List.mem_append.1 hc with hc | hc
      · exact ih (u / 10) (by omega) c hc
      · rw [List.mem_singleton] at hc
        subst hc
        have := u8_dig (Nat.mod_lt u (by omega : 10 > 0))
        exact ⟨by omega, by omega⟩
theorem dec_val (u : Nat) : val (Lib.decDigits u) = u := by
  induction u using Nat.strongRecOn with
  | ind u ih =>
    by_cases h : u < 10
    · rw [dec_small h]
      show 10 * 0 + _ = _
      rw [u8_dig h]
      omega
    · rw [dec_big h, val_append, ih (u / 10) (by omega), u8_dig (Nat.mod_lt u (by omega))]
      omega
theorem dec_head (u : Nat) (h : 0 < u) : ∃ c l, Lib.decDigits u = c :: l ∧ c ≠ 48 := by
  induction u using Nat.strongRecOn with
  | ind u ih =>
    by_cases h1 : u < 10
    · refine ⟨_, _, dec_small h1, fun e => ?_⟩
      have := congrArg UInt8.toNat e
      rw [u8_dig h1] at this
      have h48 : (48 : UInt8).toNat = 48 := rfl
      omega
    · obtain ⟨c, l, e, hc⟩ := ih (u / 10) (by omega) (by omega)
      exact ⟨c, l ++ [UInt8.ofNat (48 + u % 10)], by rw [dec_big h1, e]; rfl, hc⟩
theorem dec_ne (u : Nat) : Lib.decDigits u ≠ [] := by
  by_cases h : u < 10
  · rw [dec_small h]; exact List.cons_ne_nil _ _
  · rw [dec_big h]; simp
theorem tnum_dec (m : Bool) (u : Nat) (hm : m = true → 0 < u) : tnum m (Lib.decDigits u) =
    if m = true then (if u ≤ 9223372036854775808 then .ok (-(u : Int)) else .error 4) else (if u < 9223372036854775808 then .ok (u : Int) else .error 4) := by
  have hno : ¬ (Lib.decDigits u = [] ∨ ((Lib.decDigits u).head? = some 48 ∧ (1 < (Lib.decDigits u).length ∨ m = true)) ∨ ¬ (∀ c ∈ Lib.decDigits u, isDig c)) := by
    rintro (h | ⟨h1, h2⟩ | h)
    · exact dec_ne u h
    · rcases Nat.eq_zero_or_pos u with h0 | h0
      · subst h0
        rcases h2 with h2 | h2
        · rw [dec_small (by omega)] at h2
          exact absurd h2 (by decide)
        · exact absurd (hm h2) (by omega)
      · obtain ⟨c, l, e, hc⟩ := dec_head u h0
        rw [e] at h1
        exact hc (Option.some.inj h1)
    · exact h (dec_dig u)
  rw [tnum, if_neg hno, dec_val]
theorem pnum_tnum {l : List UInt8} (h : l ≠ []) (h2 : l.head? ≠ some 45) : pnum l = tnum false l := by
  cases l with
  | nil => exact absurd rfl h
  | cons c t => rw [pnum, if_neg (fun e => h2 (by rw [e]; rfl))]
theorem dec_head45 (u : Nat) : (Lib.decDigits u).head? ≠ some 45 := by
  intro h
  have hd := dec_dig u
  cases hh : Lib.decDigits u with
  | nil => exact dec_ne u hh
  | cons c t =>
    rw [hh] at h hd
    have := hd c (by simp)
    rw [Option.some.inj h] at this
    exact absurd this.1 (by decide)
/-- A number in words reads as itself. -/
theorem pnum_itoa (n : Int) (h0 : -9223372036854775808 ≤ n) (h1 : n ≤ 9223372036854775807) : pnum (Lib.itoa n) = .ok n := by
  unfold Lib.itoa
  by_cases hn : n < 0
  · rw [if_pos hn, pnum, if_pos rfl, tnum_dec true _ (fun _ => by omega), if_pos rfl, if_pos (by omega)]
    congr 1
    omega
  · rw [if_neg hn, pnum_tnum (dec_ne _) (dec_head45 _), tnum_dec false _ (fun h => by cases h), if_neg (by decide), if_pos (by omega)]
    congr 1
    omega
theorem dig_ofNat {c : UInt8} (h : isDig c) : UInt8.ofNat (48 + (c.toNat - 48)) = c := by
  have := h.1
  rw [show 48 + (c.toNat - 48) = c.toNat from by omega, UInt8.ofNat_toNat]
/-- The digits of what digits spell. -/
theorem dec_of (n : Nat) : ∀ t : List UInt8, t.length ≤ n → t ≠ [] → (∀ c ∈ t, isDig c) → (t.head? = some 48 → t.length = 1) → Lib.decDigits (val t) = t := by
  induction n with
  | zero => intro t h h0 _ _; exact absurd (List.eq_nil_of_length_eq_zero (Nat.le_zero.1 h)) h0
  | succ n ih =>
    intro t h h0 hd hh
    obtain ⟨a, c, rfl⟩ : ∃ a c, t = a ++ [c] := ⟨t.dropLast, t.getLast h0, (List.dropLast_concat_getLast h0).symm⟩
    have hc := hd c (by simp)
    have hc1 := hc.1
    have hc2 := hc.2
    rw [val_append]
    by_cases ha : a = []
    · subst ha
      show Lib.decDigits (10 * 0 + (c.toNat - 48)) = [c]
      rw [dec_small (by omega), show 48 + (10 * 0 + (c.toNat - 48)) = 48 + (c.toNat - 48) from by omega, dig_ofNat hc]
    · have hne : a.head? ≠ some 48 := fun e => by
        have := hh (by rw [List.head?_append, e]; rfl)
        rw [List.length_append, List.length_singleton] at this
        exact ha (List.eq_nil_of_length_eq_zero (by omega))
      have hia := ih a (by rw [List.length_append, List.length_singleton] at h; omega) ha (fun c hc => hd c (by simp [hc])) (fun e => absurd e hne)
      have hpos : 0 < val a := by
        rcases Nat.eq_zero_or_pos (val a) with h0 | h0
        · rw [h0, dec_small (by omega)] at hia
          exact absurd (by rw [← hia]; rfl) hne
        · exact h0
      rw [dec_big (by omega), show (10 * val a + (c.toNat - 48)) / 10 = val a from by omega, show (10 * val a + (c.toNat - 48)) % 10 = c.toNat - 48 from by omega, hia, dig_ofNat hc]
theorem tnum_ok {m : Bool} {t : List UInt8} {n : Int} (h : tnum m t = .ok n) : t ≠ [] ∧ (t.head? = some 48 → t.length = 1 ∧ m = false) ∧ (∀ c ∈ t, isDig c) ∧ n = (if m = true then -(val t : Int) else (val t : Int)) ∧ (-9223372036854775808 ≤ n ∧ n ≤ 9223372036854775807) := by
  unfold tnum at h
  by_cases hc : t = [] ∨ (t.head? = some 48 ∧ (1 < t.length ∨ m = true)) ∨ ¬ (∀ c ∈ t, isDig c)
  · rw [if_pos hc] at h; cases h
  · rw [if_neg hc] at h
    have h1 : t ≠ [] := fun e => hc (.inl e)
    have h3 : ∀ c ∈ t, isDig c := Decidable.not_not.1 fun e => hc (.inr (.inr e))
    have h2 : t.head? = some 48 → t.length = 1 ∧ m = false := fun e => by
      have hl : 0 < t.length := List.length_pos_iff.2 h1
      have hx : ¬ (1 < t.length ∨ m = true) := fun e2 => hc (.inr (.inl ⟨e, e2⟩))
      refine ⟨?_, ?_⟩
      · have : ¬ 1 < t.length := fun e2 => hx (.inl e2)
        omega
      · cases m with
        | false => rfl
        | true => exact absurd (.inr rfl) hx
    cases m with
    | true =>
      rw [if_pos rfl] at h
      split at h
      · injection h with h
        exact ⟨h1, h2, h3, by rw [if_pos rfl]; exact h.symm, by omega, by omega⟩
      · cases h
    | false =>
      rw [if_neg (by decide)] at h
      split at h
      · injection h with h
        exact ⟨h1, h2, h3, by rw [if_neg (by decide)]; exact h.symm, by omega, by omega⟩
      · cases h
theorem val_pos {t : List UInt8} (h1 : t ≠ []) (h3 : ∀ c ∈ t, isDig c) (h2 : t.head? ≠ some 48) : 0 < val t := by
  have h := dec_of t.length t (Nat.le_refl _) h1 h3 (fun e => absurd e h2)
  rcases Nat.eq_zero_or_pos (val t) with h0 | h0
  · rw [h0, dec_small (by omega)] at h
    exact absurd (by rw [← h]; rfl) h2
  · exact h0
/-- What reads as a number is the number in words; and it is an int64. -/
theorem itoa_pnum {s : List UInt8} {n : Int} (h : pnum s = .ok n) : Lib.itoa n = s ∧ (-9223372036854775808 ≤ n ∧ n ≤ 9223372036854775807) := by
  cases s with
  | nil => cases h
  | cons c t =>
    rw [pnum] at h
    by_cases hc : c = 45
    · rw [if_pos hc] at h
      obtain ⟨h1, h2, h3, h4, h5⟩ := tnum_ok h
      rw [if_pos rfl] at h4
      have hne : t.head? ≠ some 48 := fun e => by have := (h2 e).2; cases this
      have hp := val_pos h1 h3 hne
      refine ⟨?_, h5⟩
      rw [h4, Lib.itoa_neg _ hp, dec_of t.length t (Nat.le_refl _) h1 h3 (fun e => absurd e hne), hc]
    · rw [if_neg hc] at h
      obtain ⟨h1, h2, h3, h4, h5⟩ := tnum_ok h
      rw [if_neg (by decide)] at h4
      refine ⟨?_, h5⟩
      rw [h4, Lib.itoa_nonneg, dec_of _ _ (Nat.le_refl _) h1 h3 (fun e => (h2 e).1)]
/-- A text between commas. -/
def parts : List UInt8 → List (List UInt8)
  | [] => [[]]
  | c :: l => if c = 44 then [] :: parts l else match parts l with
    | [] => [[c]]
    | p :: ps => (c :: p) :: ps
theorem parts_ne (l : List UInt8) : parts l ≠ [] := by
  cases l with
  | nil => exact List.cons_ne_nil _ _
  | cons c l =>
    rw [parts]
    split
    · exact List.cons_ne_nil _ _
    · split <;> exact List.cons_ne_nil _ _
theorem parts_comma (l : List UInt8) : parts (44 :: l) = [] :: parts l := by rw [parts, if_pos rfl]
theorem parts_other {c : UInt8} (h : c ≠ 44) (l : List UInt8) {p : List UInt8} {ps : List (List UInt8)} (e : parts l = p :: ps) : parts (c :: l) = (c :: p) :: ps := by rw [parts, if_neg h, e]
/-- A piece without a comma ahead of the rest. -/
theorem parts_pre (a l : List UInt8) (h : ∀ c ∈ a, c ≠ 44) {p : List UInt8} {ps : List (List UInt8)} (e : parts l = p :: ps) : parts (a ++ l) = (a ++ p) :: ps := by
  induction a with
  | nil => exact e
  | cons c a ih => exact parts_other (h c (by simp)) (a ++ l) (ih (fun c hc => h c (by simp [hc])))
theorem parts_one (a : List UInt8) (h : ∀ c ∈ a, c ≠ 44) : parts a = [a] := by
  have := parts_pre a [] h (p := []) (ps := []) rfl
  rwa [List.append_nil] at this
theorem parts_at (a l : List UInt8) (h : ∀ c ∈ a, c ≠ 44) : parts (a ++ 44 :: l) = a :: parts l := by
  have := parts_pre a (44 :: l) h (parts_comma l)
  rwa [List.append_nil] at this
theorem joinTail_cons (q : List UInt8) (l : List (List UInt8)) : Lib.joinTail [44] (q :: l) = 44 :: (q ++ Lib.joinTail [44] l) := rfl
theorem parts_join (t : List UInt8) : Lib.join (parts t) [44] = t := by
  induction t with
  | nil => rfl
  | cons c t ih =>
    cases e : parts t with
    | nil => exact absurd e (parts_ne t)
    | cons p ps =>
      rw [e] at ih
      by_cases hc : c = 44
      · rw [hc, parts_comma, e, Lib.join_cons, joinTail_cons, ← Lib.join_cons, ih]
        rfl
      · rw [parts_other hc t e, Lib.join_cons, List.cons_append, ← Lib.join_cons, ih]
theorem join_parts (l : List (List UInt8)) (h0 : l ≠ []) (h : ∀ p ∈ l, ∀ c ∈ p, c ≠ 44) : parts (Lib.join l [44]) = l := by
  cases l with
  | nil => exact absurd rfl h0
  | cons p l =>
    clear h0
    induction l generalizing p with
    | nil => rw [Lib.join_one]; exact parts_one p (h p (by simp))
    | cons q l ih =>
      have := ih q (fun p hp => h p (List.mem_cons_of_mem _ hp))
      rw [Lib.join_cons] at this
      rw [Lib.join_cons, joinTail_cons, parts_at p _ (h p (by simp)), this]
/-- Numbers, read: the values, or what is the matter. -/
def pl : List (List UInt8) → List Int → Bool → Except Nat (List Int)
  | [], out, long => if long = true then .error 4 else .ok out
  | p :: ps, out, long => match pnum p with
    | .ok v => pl ps (out ++ [v]) long
    | .error n => if n = 2 then .error 2 else pl ps (out ++ [0]) true
theorem pl_ok {p : List UInt8} {v : Int} (h : pnum p = .ok v) (ps : List (List UInt8)) (out : List Int) (long : Bool) : pl (p :: ps) out long = pl ps (out ++ [v]) long := by rw [pl, h]
theorem pl_bad {p : List UInt8} (h : pnum p = .error 2) (ps : List (List UInt8)) (out : List Int) (long : Bool) : pl (p :: ps) out long = .error 2 := by rw [pl, h]; rfl
theorem pl_long {p : List UInt8} (h : pnum p = .error 4) (ps : List (List UInt8)) (out : List Int) (long : Bool) : pl (p :: ps) out long = pl ps (out ++ [0]) true := by rw [pl, h]; rfl
theorem tnum_cases (m : Bool) (t : List UInt8) : tnum m t = .error 2 ∨ tnum m t = .error 4 ∨ ∃ v, tnum m t = .ok v := by
  unfold tnum
  split
  · exact .inl rfl
  · split <;> split
    · exact .inr (.inr ⟨_, rfl⟩)
    · exact .inr (.inl rfl)
    · exact .inr (.inr ⟨_, rfl⟩)
    · exact .inr (.inl rfl)
theorem pnum_cases (p : List UInt8) : pnum p = .error 2 ∨ pnum p = .error 4 ∨ ∃ v, pnum p = .ok v := by
  cases p with
  | nil => exact .inl rfl
  | cons c t =>
    rw [pnum]
    split
    · exact tnum_cases _ _
    · exact tnum_cases _ _
def pnums (l : List UInt8) : Except Nat (List Int) := if l = [] then .ok [] else pl (parts l) [] false
theorem itoa_nocomma (n : Int) : ∀ c ∈ Lib.itoa n, c ≠ 44 := by
  intro c hc e
  subst e
  unfold Lib.itoa at hc
  split at hc
  · rcases List.mem_cons.1 hc with h | h
    · cases h
    · exact absurd (dec_dig _ _ h).1 (by decide)
  · exact absurd (dec_dig _ _ hc).1 (by decide)
theorem pl_itoa (l : List Int) (hb : ∀ n ∈ l, I64 n) : ∀ out, pl (l.map Lib.itoa) out false = .ok (out ++ l) := by
  induction l with
  | nil => intro out; rw [List.append_nil]; rfl
  | cons n l ih =>
    intro out
    have h := hb n (by simp)
    rw [List.map_cons, pl_ok (pnum_itoa n h.1 h.2), ih (fun m hm => hb m (by simp [hm]))]
    simp
theorem itoa_ne (n : Int) : Lib.itoa n ≠ [] := by
  unfold Lib.itoa
  split
  · exact List.cons_ne_nil _ _
  · exact dec_ne _
theorem numsL_ne {l : List Int} (h : l ≠ []) : numsL l ≠ [] := by
  cases l with
  | nil => exact absurd rfl h
  | cons n l =>
    rw [numsL, List.map_cons, Lib.join_cons]
    intro e
    exact itoa_ne n (List.append_eq_nil_iff.1 e).1
/-- Numbers in words read as themselves. -/
theorem pnums_numsL (l : List Int) (hb : ∀ n ∈ l, I64 n) : pnums (numsL l) = .ok l := by
  by_cases h : l = []
  · subst h; rfl
  · rw [pnums, if_neg (numsL_ne h), numsL, join_parts _ (by simpa using h), pl_itoa l hb, List.nil_append]
    intro p hp
    obtain ⟨n, _, rfl⟩ := List.mem_map.1 hp
    exact itoa_nocomma n
theorem pl_true (ps : List (List UInt8)) : ∀ out a, pl ps out true ≠ .ok a := by
  induction ps with
  | nil => intro out a h; cases h
  | cons p ps ih =>
    intro out a h
    rcases pnum_cases p with e | e | ⟨v, e⟩
    · rw [pl_bad e] at h; cases h
    · rw [pl_long e] at h; exact ih _ _ h
    · rw [pl_ok e] at h; exact ih _ _ h
theorem pl_back (ps : List (List UInt8)) : ∀ out a, pl ps out false = .ok a → ∃ b, a = out ++ b ∧ b.map Lib.itoa = ps ∧ ∀ n ∈ b, I64 n := by
  induction ps with
  | nil =>
    intro out a h
    injection h with h
    exact ⟨[], by rw [h, List.append_nil], rfl, by simp⟩
  | cons p ps ih =>
    intro out a h
    rcases pnum_cases p with e | e | ⟨v, e⟩
    · rw [pl_bad e] at h; cases h
    · rw [pl_long e] at h; exact absurd h (pl_true _ _ _)
    · rw [pl_ok e] at h
      obtain ⟨b, h1, h2, h3⟩ := ih _ _ h
      have hv := itoa_pnum e
      refine ⟨v :: b, by rw [h1]; simp, by rw [List.map_cons, hv.1, h2], fun n hn => ?_⟩
      rcases List.mem_cons.1 hn with rfl | hn
      · exact hv.2
      · exact h3 n hn
/-- What reads as numbers is just these in words. -/
theorem numsL_pnums {s : List UInt8} {a : List Int} (h : pnums s = .ok a) : numsL a = s ∧ ∀ n ∈ a, I64 n := by
  unfold pnums at h
  by_cases hs : s = []
  · rw [if_pos hs] at h
    injection h with h
    subst h
    exact ⟨hs.symm, by simp⟩
  · rw [if_neg hs] at h
    obtain ⟨b, h1, h2, h3⟩ := pl_back _ _ _ h
    rw [List.nil_append] at h1
    subst h1
    exact ⟨by rw [numsL, h2, parts_join], h3⟩
theorem parts_length (l : List UInt8) : (parts l).length ≤ l.length + 1 := by
  induction l with
  | nil => exact Nat.le_refl _
  | cons c l ih =>
    by_cases hc : c = 44
    · rw [hc, parts_comma, List.length_cons, List.length_cons]; omega
    · cases e : parts l with
      | nil => exact absurd e (parts_ne l)
      | cons p ps =>
        rw [e] at ih
        rw [parts_other hc l e]
        simp only [List.length_cons] at ih ⊢
        omega
theorem pnums_length {s : List UInt8} {a : List Int} (h : pnums s = .ok a) : a.length ≤ s.length + 1 := by
  unfold pnums at h
  by_cases hs : s = []
  · rw [if_pos hs] at h
    injection h with h
    subst h
    simp
  · rw [if_neg hs] at h
    obtain ⟨b, h1, h2, _⟩ := pl_back _ _ _ h
    rw [List.nil_append] at h1
    subst h1
    have := congrArg List.length h2
    rw [List.length_map] at this
    have := parts_length s
    omega
/-- strconv.ParseInt at what is just so written. -/
theorem parseM (t : List UInt8) : (∀ c ∈ t, isDig c) → ∀ acc : Nat, acc < 18446744073709551616 → Lib.parseUintM 18446744073709551615 acc t = if t.foldl dval acc < 18446744073709551616 then .ok (t.foldl dval acc) else .range := by
  induction t with
  | nil =>
    intro _ acc h
    rw [List.foldl_nil, if_pos h]
    rfl
  | cons c t ih =>
    intro hd acc h
    have hc := hd c (by simp)
    have hc1 := hc.1
    have hc2 := hc.2
    have hdv : dval acc c = 10 * acc + (c.toNat - 48) := rfl
    have hge := foldl_ge t (dval acc c)
    rw [Lib.parseUintM, if_pos ⟨hc1, hc2⟩, List.foldl_cons]
    by_cases h1 : 1844674407370955162 ≤ acc
    · rw [if_pos h1, if_neg (by omega)]
    · rw [if_neg h1]
      by_cases h2 : 18446744073709551615 < acc * 10 + (c.toNat - 48)
      · rw [if_pos h2, if_neg (by omega)]
      · rw [if_neg h2, ih (fun c hc => hd c (by simp [hc])) _ (by omega), show acc * 10 + (c.toNat - 48) = dval acc c from by omega]
theorem parse_neg (t : List UInt8) (h : t ≠ []) (hd : ∀ c ∈ t, isDig c) : Lib.parseIntB 64 (45 :: t) = if val t ≤ 9223372036854775808 then .ok (-(val t : Int)) else .range := by
  unfold Lib.parseIntB
  dsimp only
  rw [if_pos (.inr rfl), Lib.parseUintB, if_neg h, show (2 ^ 64 - 1 : Nat) = 18446744073709551615 from by decide, parseM t hd 0 (by decide)]
  show (match (if val t < 18446744073709551616 then Lib.NumEnd.ok (val t) else .range) with
    | .syntax => _ | .range => _ | .ok u => _) = _
  by_cases h1 : val t < 18446744073709551616
  · rw [if_pos h1]
    dsimp only
    rw [if_neg (by simp)]
    by_cases h2 : val t ≤ 9223372036854775808
    · rw [if_neg (by simp; omega), if_pos h2]
      rfl
    · rw [if_pos ⟨rfl, by simp; omega⟩, if_neg h2]
  · rw [if_neg h1, if_neg (by omega)]
theorem parse_pos (t : List UInt8) (h : t ≠ []) (hd : ∀ c ∈ t, isDig c) : Lib.parseIntB 64 t = if val t < 9223372036854775808 then .ok (val t : Int) else .range := by
  cases t with
  | nil => exact absurd rfl h
  | cons c t =>
    have hc := hd c (by simp)
    have hc1 := hc.1
    have hc2 := hc.2
    unfold Lib.parseIntB
    dsimp only
    rw [if_neg (by omega), Lib.parseUintB, if_neg h, show (2 ^ 64 - 1 : Nat) = 18446744073709551615 from by decide, parseM (c :: t) hd 0 (by decide)]
    show (match (if val (c :: t) < 18446744073709551616 then Lib.NumEnd.ok (val (c :: t)) else .range) with
      | .syntax => _ | .range => _ | .ok u => _) = _
    by_cases h1 : val (c :: t) < 18446744073709551616
    · rw [if_pos h1]
      dsimp only
      by_cases h2 : val (c :: t) < 9223372036854775808
      · rw [if_neg (by simp; omega), if_neg (by omega), if_neg (by omega), if_pos h2]
      · rw [if_pos ⟨by omega, by simp; omega⟩, if_neg h2]
    · rw [if_neg h1, if_neg (by omega)]
end J
end Go.Proofs.YtbbgmlnfpnomiaaGreatDoor
end

section
/- Plain words: fields joined are split as they were; what splits is joined again so; unlike rows are joined unlike. -/
namespace Go.Proofs.YtbbgmlnfpnomiaaGreatDoor
namespace J
theorem run_esc (s : List UInt8) : ∀ (rest : List UInt8) (o : List (List UInt8)) (f : List UInt8), run (esc s ++ rest) (o, f, false) = run rest (o, f ++ s, false) := by
  induction s with
  | nil => intro rest o f; simp [esc]
  | cons c s ih =>
    intro rest o f
    rw [esc, esc1]
    by_cases h : special c = true
    · rw [if_pos h]
      show run (92 :: c :: (esc s ++ rest)) (o, f, false) = _
      rw [run, show step (o, f, false) 92 = some (o, f, true) from rfl, Option.bind_some, run, step_sp h, Option.bind_some, ih]
      simp
    · rw [if_neg h]
      show run (c :: (esc s ++ rest)) (o, f, false) = _
      have h0 : special c = false := by simpa using h
      rcases kinds c with ⟨_, rfl⟩ | ⟨_, _, rfl⟩ | ⟨_, _, _, e1, e2⟩
      · cases h0
      · cases h0
      · rw [run, step_other e1 e2, Option.bind_some, ih]
        simp
theorem run_join (l : List (List UInt8)) : ∀ (o : List (List UInt8)) (f : List UInt8), ∃ o' f', run (join l) (o, f, false) = some (o', f', false) ∧ o' ++ [f'] = o ++ f :: l := by
  induction l with
  | nil => intro o f; exact ⟨o, f, rfl, rfl⟩
  | cons s l ih =>
    intro o f
    obtain ⟨o', f', h1, h2⟩ := ih (o ++ [f]) s
    refine ⟨o', f', ?_, by rw [h2]; simp⟩
    rw [join, run, show step (o, f, false) 124 = some (o ++ [f], [], false) from rfl, Option.bind_some, run_esc, List.nil_append]
    exact h1
theorem split_join (l : List (List UInt8)) : split (join l) = most l := by
  cases l with
  | nil => rfl
  | cons s l =>
    obtain ⟨o', f', h1, h2⟩ := run_join l [] s
    rw [join, split_cons, if_pos (by rfl), run_esc, List.nil_append, h1]
    show most (o' ++ [f']) = _
    rw [h2]
    rfl
theorem join_inj {a b : List (List UInt8)} (h : join a = join b) : a = b := by
  cases a with
  | nil => cases b with
    | nil => rfl
    | cons s b => cases h
  | cons s a => cases b with
    | nil => cases h
    | cons t b =>
      rw [join, join] at h
      injection h with _ h
      have e1 := run_esc s (join a) [] []
      have e2 := run_esc t (join b) [] []
      rw [h, e2] at e1
      obtain ⟨o1, f1, h1, g1⟩ := run_join a [] s
      obtain ⟨o2, f2, h2, g2⟩ := run_join b [] t
      rw [List.nil_append, List.nil_append, h1, h2] at e1
      injection e1 with e1
      injection e1 with e1 e2
      injection e2 with e2
      rw [e1, e2, g1] at g2
      exact g2
theorem join_one (o : List (List UInt8)) (f : List UInt8) : join (o ++ [f]) = join o ++ 124 :: esc f := by rw [join_append, join, join, List.append_nil]
theorem run_back (t : List UInt8) : ∀ (o : List (List UInt8)) (f : List UInt8) (b : Bool) (o' : List (List UInt8)) (f' : List UInt8), run t (o, f, b) = some (o', f', false) →
    join (o' ++ [f']) = join (o ++ [f]) ++ (if b then 92 :: t else t) := by
  induction t with
  | nil =>
    intro o f b o' f' h
    injection h with h
    injection h with h1 h2
    injection h2 with h2 h3
    subst h1 h2 h3
    simp
  | cons c t ih =>
    intro o f b o' f' h
    rw [run] at h
    cases b with
    | true =>
      by_cases hs : special c = true
      · rw [step_sp hs, Option.bind_some] at h
        rw [ih _ _ _ _ _ h, join_one, join_one, esc_append, esc_one, esc1, if_pos hs]
        simp
      · rw [step_no (by simpa using hs)] at h
        cases h
    | false =>
      rcases kinds c with ⟨_, rfl⟩ | ⟨_, _, rfl⟩ | ⟨_, _, h0, e1, e2⟩
      · rw [show step (o, f, false) 124 = some (o ++ [f], [], false) from rfl, Option.bind_some] at h
        rw [ih _ _ _ _ _ h, join_one]
        simp [esc]
      · rw [show step (o, f, false) 92 = some (o, f, true) from rfl, Option.bind_some] at h
        rw [ih _ _ _ _ _ h]
        simp
      · rw [step_other e1 e2, Option.bind_some] at h
        rw [ih _ _ _ _ _ h, join_one, join_one, esc_append, esc_one, esc1, if_neg (by simp [h0])]
        simp
theorem most_ok {l m : List (List UInt8)} (h : most l = .ok m) : l = m ∧ l.length ≤ 4096 := by
  unfold most at h
  split at h
  · cases h
  · injection h with h
    exact ⟨h, by omega⟩
theorem join_split {t : List UInt8} {l : List (List UInt8)} (h : split t = .ok l) : join l = t := by
  cases t with
  | nil => injection h with h; subst h; rfl
  | cons c t =>
    rw [split_cons] at h
    by_cases hc : (c == 124) = true
    · rw [if_pos hc] at h
      have : c = 124 := by simpa using hc
      subst this
      cases hr : run t ([], [], false) with
      | none => rw [hr] at h; cases h
      | some s =>
        obtain ⟨o, f, b⟩ := s
        rw [hr] at h
        cases b with
        | true => cases h
        | false =>
          obtain ⟨rfl, _⟩ := most_ok h
          rw [run_back _ _ _ _ _ _ hr]
          rfl
    · rw [if_neg hc] at h
      cases h
end J
end Go.Proofs.YtbbgmlnfpnomiaaGreatDoor
end

section
/- Plain words: bare blocks, their texts, their digests; a tree of them as a list. -/
set_option linter.unusedVariables false
namespace Go.Proofs.YtbbgmlnfpnomiaaGreatDoor
namespace T
/-- A bare block: its view, its parent, its QC's view and block, from when, up to when. -/
structure B where
  v : Int
  p : Nat
  qv : Int
  qb : Nat
  lo : Int
  hi : Int
def tag : List UInt8 := [98, 108, 111, 99, 107]
def hexB (u : Nat) : List UInt8 := (S.hexT u).map UInt8.ofNat
def words (b : B) : List (List UInt8) := [tag, Lib.itoa b.v, hexB b.p, Lib.itoa b.qv, hexB b.qb, Lib.itoa b.lo, Lib.itoa b.hi]
def text (b : B) : List UInt8 := J.join (words b)
noncomputable def dig (b : B) : Nat := if b.v = 0 then 0 else S.sumN tag (text b)
theorem dig_lt (b : B) : dig b < 18446744073709551616 := by
  unfold dig
  split
  · decide
  · exact S.sumN_lt _ _
/- The same, to be reckoned. -/
def decF : Nat → Nat → List Nat
  | 0, u => [48 + u]
  | k + 1, u => if u < 10 then [48 + u] else decF k (u / 10) ++ [48 + u % 10]
def hexG : Nat → Nat → List Nat
  | 0, _ => []
  | k + 1, u => hexG k (u / 16) ++ [S.dig (u % 16)]
theorem dec_fast : ∀ k u, u < 10 ^ (k + 1) → S.nums (Lib.decDigits u) = decF k u
  | 0, u, h => by
    have h1 : u < 10 := by simpa using h
    rw [J.dec_small h1, decF]
    show [(UInt8.ofNat (48 + u)).toNat] = _
    rw [J.u8_dig h1]
  | k + 1, u, h => by
    by_cases h1 : u < 10
    · rw [J.dec_small h1, decF, if_pos h1]
      show [(UInt8.ofNat (48 + u)).toNat] = _
      rw [J.u8_dig h1]
    · have ih := dec_fast k (u / 10) (by rw [Nat.pow_succ] at h; omega)
      rw [J.dec_big h1, decF, if_neg h1, S.nums, List.map_append, ← S.nums, ih]
      show _ ++ [(UInt8.ofNat (48 + u % 10)).toNat] = _
      rw [J.u8_dig (Nat.mod_lt u (by omega))]
theorem hexG_zero : ∀ k, hexG k 0 = List.replicate k 48
  | 0 => rfl
  | k + 1 => by
    show hexG k (0 / 16) ++ [S.dig (0 % 16)] = _
    rw [Nat.zero_div, hexG_zero k, List.replicate_succ']
    rfl
theorem hex_fast : ∀ k u, u < 16 ^ (k + 1) → List.replicate (k + 1 - (S.hexA u).length) 48 ++ S.hexA u = hexG (k + 1) u
  | 0, u, h => by
    have h1 : u < 16 := by simpa using h
    rw [S.hexA_small h1]
    show [] ++ [S.dig u] = [] ++ [S.dig (u % 16)]
    rw [Nat.mod_eq_of_lt h1]
  | k + 1, u, h => by
    by_cases h1 : u < 16
    · rw [S.hexA_small h1, hexG, Nat.div_eq_of_lt h1, hexG_zero, Nat.mod_eq_of_lt h1]
      rfl
    · have ih := hex_fast k (u / 16) (by rw [Nat.pow_succ] at h; omega)
      have hl := S.hexA_len k (u / 16) (by rw [Nat.pow_succ] at h; omega)
      rw [hexG, ← ih, S.hexA_big (by omega), List.length_append, List.append_assoc]
      simp
theorem dig_small (n : Nat) (h : n < 16) : S.dig n < 256 := S.dig_lt h
theorem hexA_lt (u : Nat) : ∀ n ∈ S.hexA u, n < 256 ∧ n ≠ 124 ∧ n ≠ 92 := by
  induction u using Nat.strongRecOn with
  | ind u ih =>
    by_cases h : u < 16
    · rw [S.hexA_small h]
      intro n hn
      rw [List.mem_singleton] at hn
      subst hn
      unfold S.dig
      split <;> omega
    · rw [S.hexA_big (by omega)]
      intro n hn
      rcases List.mem_append.1 hn with hn | hn
      · exact ih (u / 16) (by omega) n hn
      · rw [List.mem_singleton] at hn
        subst hn
        unfold S.dig
        split <;> omega
theorem hexT_lt (u : Nat) : ∀ n ∈ S.hexT u, n < 256 ∧ n ≠ 124 ∧ n ≠ 92 := by
  intro n hn
  rcases List.mem_append.1 hn with hn | hn
  · obtain ⟨_, rfl⟩ := List.mem_replicate.1 hn
    decide
  · exact hexA_lt u n hn
theorem toNat_ofNat {n : Nat} (h : n < 256) : (UInt8.ofNat n).toNat = n := by rw [UInt8.toNat_ofNat', Nat.mod_eq_of_lt h]
theorem hexB_nums (u : Nat) : S.nums (hexB u) = S.hexT u := by
  unfold S.nums hexB
  rw [List.map_map]
  have : ∀ l : List Nat, (∀ n ∈ l, n < 256) → l.map (UInt8.toNat ∘ UInt8.ofNat) = l := by
    intro l
    induction l with
    | nil => intro _; rfl
    | cons a l ih => intro h; rw [List.map_cons, ih fun n hn => h n (by simp [hn])]; congr 1; exact toNat_ofNat (h a (by simp))
  exact this _ fun n hn => (hexT_lt u n hn).1
theorem special_of {c : UInt8} (h1 : c.toNat ≠ 124) (h2 : c.toNat ≠ 92) : J.special c = false := by
  unfold J.special
  rw [Bool.or_eq_false_iff]
  refine ⟨beq_eq_false_iff_ne.2 fun e => h1 (by rw [e]; rfl), beq_eq_false_iff_ne.2 fun e => h2 (by rw [e]; rfl)⟩
theorem hexB_plain (u : Nat) : ∀ c ∈ hexB u, J.special c = false := by
  intro c hc
  obtain ⟨n, hn, rfl⟩ := List.mem_map.1 hc
  have h := hexT_lt u n hn
  exact special_of (by rw [toNat_ofNat h.1]; exact h.2.1) (by rw [toNat_ofNat h.1]; exact h.2.2)
theorem itoa_plain (n : Int) : ∀ c ∈ Lib.itoa n, J.special c = false := by
  intro c hc
  have hd : ∀ u, ∀ c ∈ Lib.decDigits u, J.special c = false := fun u c hc => by
    have := J.dec_dig u c hc
    unfold J.isDig at this
    exact special_of (by omega) (by omega)
  unfold Lib.itoa at hc
  split at hc
  · rcases List.mem_cons.1 hc with rfl | hc
    · rfl
    · exact hd _ c hc
  · exact hd _ c hc
def joinF : List (List Nat) → List Nat
  | [] => []
  | s :: l => 124 :: (s ++ joinF l)
theorem esc_plain (s : List UInt8) (h : ∀ c ∈ s, J.special c = false) : J.esc s = s := by
  induction s with
  | nil => rfl
  | cons c s ih =>
    rw [J.esc, J.esc1, h c (by simp), ih fun d hd => h d (by simp [hd])]
    rfl
theorem join_fast (l : List (List UInt8)) (h : ∀ s ∈ l, ∀ c ∈ s, J.special c = false) : S.nums (J.join l) = joinF (l.map S.nums) := by
  induction l with
  | nil => rfl
  | cons s l ih =>
    have ih := ih fun t ht => h t (by simp [ht])
    rw [J.join, esc_plain s (h s (by simp)), List.map_cons, joinF, ← ih]
    simp [S.nums]
theorem words_plain (b : B) : ∀ s ∈ words b, ∀ c ∈ s, J.special c = false := by
  intro s hs
  simp only [words, List.mem_cons, List.not_mem_nil, or_false] at hs
  rcases hs with rfl | rfl | rfl | rfl | rfl | rfl | rfl
  · intro c hc; revert c; decide
  · exact itoa_plain _
  · exact hexB_plain _
  · exact itoa_plain _
  · exact hexB_plain _
  · exact itoa_plain _
  · exact itoa_plain _
def textF (b : B) : List Nat := joinF [[98, 108, 111, 99, 107], decF 12 b.v.toNat, hexG 16 b.p, decF 12 b.qv.toNat, hexG 16 b.qb, decF 12 b.lo.toNat, decF 12 b.hi.toNat]
def tagF : Nat := S.mixC ([98, 108, 111, 99, 107].foldl S.mixC 0) 256
def digF (b : B) : Nat := if b.v = 0 then 0 else S.mixC ((textF b).foldl S.mixC tagF) (textF b).length
/-- A block whose numbers are not great. -/
def ok (b : B) : Bool := decide ((0 ≤ b.v ∧ b.v < 10000000000000) ∧ (0 ≤ b.qv ∧ b.qv < 10000000000000) ∧ (0 ≤ b.lo ∧ b.lo < 10000000000000) ∧ (0 ≤ b.hi ∧ b.hi < 10000000000000) ∧ b.p < 18446744073709551616 ∧ b.qb < 18446744073709551616)
theorem itoa_fast (n : Int) (h0 : 0 ≤ n) (h1 : n < 10000000000000) : S.nums (Lib.itoa n) = decF 12 n.toNat := by
  have e : Lib.itoa n = Lib.decDigits n.toNat := by
    conv => lhs; rw [show n = ((n.toNat : Nat) : Int) by omega]
    exact Lib.itoa_nonneg _
  rw [e]
  exact dec_fast 12 _ (by omega)
theorem text_fast (b : B) (h : ok b = true) : S.nums (text b) = textF b := by
  have h := of_decide_eq_true h
  unfold text
  rw [join_fast _ (words_plain b)]
  simp only [words, List.map_cons, List.map_nil]
  rw [itoa_fast _ h.1.1 h.1.2, itoa_fast _ h.2.1.1 h.2.1.2, itoa_fast _ h.2.2.1.1 h.2.2.1.2, itoa_fast _ h.2.2.2.1.1 h.2.2.2.1.2, hexB_nums, hexB_nums]
  unfold textF S.hexT
  rw [hex_fast 15 b.p h.2.2.2.2.1, hex_fast 15 b.qb h.2.2.2.2.2]
  rfl
theorem dig_fast (b : B) (h : ok b = true) : dig b = digF b := by
  unfold dig digF
  split
  · rfl
  · have e := text_fast b h
    have el : (text b).length = (textF b).length := by rw [← e]; simp [S.nums]
    rw [S.sumN, el, e, S.tagN, S.mixN_C]
    rfl
/- A tree as the list of its blocks, each by its digest. -/
def gen : B := ⟨0, 0, 0, 0, 0, 0⟩
def new : List (Nat × B) := [(0, gen)]
def get : List (Nat × B) → Nat → Option B
  | [], _ => none
  | (k, b) :: l, d => if k = d then some b else get l d
/-- What is wrong with a block (of digest d) that is to be put on its parent. -/
def code (l : List (Nat × B)) (d : Nat) (b : B) : Nat :=
  if (get l d).isSome then 5 else match get l b.p with
    | none => 11
    | some q => if b.v ≤ q.v then 12 else if b.lo ≠ q.hi then 10 else 0
def add (l : List (Nat × B)) (d : Nat) (b : B) : List (Nat × B) := if code l d b = 0 then (d, b) :: l else l
/-- The way from one to the first, by so many steps at most. -/
def way (l : List (Nat × B)) : Nat → Nat → Option (List Nat)
  | 0, d => if d = 0 then some [0] else none
  | n + 1, d => if d = 0 then some [0] else match get l d with
    | none => none
    | some b => (way l n b.p).map (d :: ·)
/-- What is held for good by one's way. -/
def commit (l : List (Nat × B)) : List Nat → Option Nat
  | x :: y :: z :: _ :: _ => match get l x, get l y, get l z with
    | some a, some b, some c => if a.v = b.v + 1 ∧ b.v = c.v + 1 then some z else none
    | _, _, _ => none
  | _ => none
end T
end Go.Proofs.YtbbgmlnfpnomiaaGreatDoor
end

section
/- The walk of the reference's ParseNum. -/
set_option linter.unusedVariables false
namespace Go.Proofs.YtbbgmlnfpnomiaaGreatDoor
open Go.RowKit Go.Sort
def NumEnd (r : Except Nat Int) (e : Ending) : Prop :=
  match r with
  | .ok v => e = .returned (.tuple #[.int .i64 v, .int .i64 0])
  | .error n => e = .returned (.tuple #[.int .i64 0, .int .i64 (n : Int)])
theorem hixg (t : ByteArray) : ∀ (j : Nat) (h : j < (bs t).length) (w : World), (Instr.index 9 (.string t) (.int .i64 (j : Int))).run Tryz.prog w = .ok (cU8 (bs t)[j]) w := by
  intro j h w
  have hjt' : j < t.size := h
  simp [go_sem, hjt']
  rfl
theorem empty_iff (t : ByteArray) : t.toList.isEmpty = (bs t).isEmpty := by rw [Lib.toList_data]
theorem tdiv_law (v d : Nat) (hd : d ≤ 9) : (-(v : Int) < Int.tdiv (-9223372036854775808 + (d : Int)) 10) ↔ 9223372036854775808 < 10 * v + d := by
  have e : (-9223372036854775808 + (d : Int)) = -((9223372036854775808 - d : Nat) : Int) := by omega
  rw [e, Int.neg_tdiv, Int.tdiv_eq_ediv_of_nonneg (by omega)]
  omega
theorem ne48 {c : UInt8} (h : c ≠ 48) : ((c.toNat : Int) == 48) = false := by
  have : ¬ (c.toNat : Int) = 48 := fun e => h (UInt8.toNat_inj.1 (by have : c.toNat = 48 := by omega
                                                                     exact this))
  simpa using this
theorem ne45 {c : UInt8} (h : c ≠ 45) : ((c.toNat : Int) == 45) = false := by
  have : ¬ (c.toNat : Int) = 45 := fun e => h (UInt8.toNat_inj.1 (by have : c.toNat = 45 := by omega
                                                                     exact this))
  simpa using this
set_option maxHeartbeats 2000000 in
set_option maxRecDepth 100000 in
theorem rpnum_calls (s : ByteArray) (hs : s.size ≤ 1099511627776) (w : World) :
    Calls Tryz.prog 128 #[.string s] w fun e w' => NumEnd (J.pnum (bs s)) e ∧ w = w' := by
  by_cases he : s.size = 0
  · have hb : bs s = [] := List.eq_nil_of_length_eq_zero he
    have hie : s.toList.isEmpty = true := by rw [empty_iff, hb]; rfl
    rw [hb]
    go_enter Tryz.func128, Tryz.ntmps128
    go_wp2
    go_ret2
    exact ⟨rfl, rfl⟩
  · have h0 : 0 < (bs s).length := Nat.pos_of_ne_zero he
    have hpos : 0 < s.size := h0
    have hie : s.toList.isEmpty = false := by
      rw [empty_iff]
      cases hh : bs s with
      | nil => rw [hh] at h0; cases h0
      | cons _ _ => rfl
    have hix : ∀ w : World, (Instr.index 9 (.string s) (.int .i64 0)).run Tryz.prog w = .ok (cU8 (bs s)[0]) w := hixg s 0 h0
    have hcons : bs s = (bs s)[0] :: bs (s.extract 1 s.size) := by
      rw [bs_tail]
      have := List.drop_eq_getElem_cons h0
      rw [List.drop_zero] at this
      exact this
    by_cases hm : (bs s)[0] = 45
    · have hspec : J.pnum (bs s) = J.tnum true (bs (s.extract 1 s.size)) := by
        rw [hcons, hm]; rfl
      have htl : (bs (s.extract 1 s.size)).length = s.size - 1 := by rw [bs_tail, List.length_drop]; rfl
      have htl2 : (s.extract 1 s.size).size = s.size - 1 := htl
      rw [hm] at hix
      rw [hspec]
      clear hspec hcons hm
      by_cases hTe : (bs (s.extract 1 s.size)).length = 0
      · have hTn : bs (s.extract 1 s.size) = [] := List.eq_nil_of_length_eq_zero hTe
        have hTi : ((s.extract 1 s.size)).toList.isEmpty = true := by rw [empty_iff, hTn]; rfl
        have HSP := Lib.hid (show J.tnum true (bs (s.extract 1 s.size)) = .error 2 from by rw [J.tnum, if_pos (.inl hTn)])
        clear hTn
        go_enter Tryz.func128, Tryz.ntmps128
        go_wp2
        go_ret2
        exact ⟨by rw [HSP.out]; exact rfl, rfl⟩
      · have hT0 : 0 < (bs (s.extract 1 s.size)).length := Nat.pos_of_ne_zero hTe
        have hTi : ((s.extract 1 s.size)).toList.isEmpty = false := by
          rw [empty_iff]
          cases hh : bs (s.extract 1 s.size) with
          | nil => rw [hh] at hT0; cases hT0
          | cons _ _ => rfl
        have hTx : ∀ w : World, (Instr.index 9 (.string (s.extract 1 s.size)) (.int .i64 0)).run Tryz.prog w = .ok (cU8 (bs (s.extract 1 s.size))[0]) w := hixg (s.extract 1 s.size) 0 hT0
        have hhead : (bs (s.extract 1 s.size)).head? = some (bs (s.extract 1 s.size))[0] := by
          rw [List.head?_eq_getElem?, List.getElem?_eq_getElem hT0]
        have hnn : bs (s.extract 1 s.size) ≠ [] := fun e => by rw [e] at hT0; cases hT0
        by_cases hz8 : (bs (s.extract 1 s.size))[0] = 48
        · have HSP := Lib.hid (show J.tnum true (bs (s.extract 1 s.size)) = .error 2 from by rw [J.tnum, if_pos (.inr (.inl ⟨by rw [hhead, hz8], .inr rfl⟩))])
          rw [hz8] at hTx
          clear hhead hnn hz8
          go_enter Tryz.func128, Tryz.ntmps128
          go_wp2
          all_goals (go_ret2; exact ⟨by rw [HSP.out]; exact rfl, rfl⟩)
        · have hz1 : (((bs (s.extract 1 s.size))[0].toNat : Int) == 48) = false := ne48 hz8
          have hcond : ¬ ((bs (s.extract 1 s.size)).head? = some 48 ∧ (1 < (bs (s.extract 1 s.size)).length ∨ true = true)) := fun h => hz8 (by rw [hhead] at h; exact Option.some.inj h.1)
          have HBAD := Lib.hid (show ¬ (∀ c ∈ bs (s.extract 1 s.size), J.isDig c) → J.tnum true (bs (s.extract 1 s.size)) = .error 2 from fun h => by rw [J.tnum, if_pos (.inr (.inr h))])
          have HOK := Lib.hid (show (∀ c ∈ bs (s.extract 1 s.size), J.isDig c) → J.tnum true (bs (s.extract 1 s.size)) = (if J.val (bs (s.extract 1 s.size)) ≤ 9223372036854775808 then .ok (-(J.val (bs (s.extract 1 s.size)) : Int)) else .error 4) from fun h => by rw [J.tnum, if_neg (fun h1 => h1.elim hnn (fun h1 => h1.elim hcond (fun h1 => h1 h))), if_pos rfl])
          generalize J.tnum true (bs (s.extract 1 s.size)) = R at *
          clear hcond hhead hnn hz8
          generalize (bs (s.extract 1 s.size))[0] = c1 at *
          go_enter Tryz.func128, Tryz.ntmps128
          go_wp2
          generalize s.extract 1 s.size = t at *
          go_loop [6] (fun i => ∃ k : Nat, k ≤ (bs t).length ∧ i = .int .i64 k ∧ ∀ j (h : j < (bs t).length), j < k → J.isDig (bs t)[j]) (fun i => (bs t).length - (intOf i).toNat)
          case atStart => exact ⟨0, by omega, rfl, fun j _ h => absurd h (Nat.not_lt_zero _)⟩
          case round =>
            obtain ⟨k, hk, rfl, hall⟩ := hrel
            by_cases hlt : k < (bs t).length
            · have hixk := hixg t k hlt
              have hno : ¬ J.isDig (bs t)[k] → R = .error 2 := fun h => HBAD.out fun h2 => h (h2 _ (List.getElem_mem hlt))
              have hyes : J.isDig (bs t)[k] → ∀ j (h : j < (bs t).length), j < k + 1 → J.isDig (bs t)[j] := fun h j hj hjk => by
                rcases Nat.lt_or_ge j k with h1 | h1
                · exact hall j hj h1
                · obtain rfl : j = k := by omega
                  exact h
              have HNO := Lib.hid hno
              have HYES := Lib.hid hyes
              clear hno hyes hall
              generalize (bs t)[k] = c8 at *
              by_cases hd1 : (c8.toNat : Int) < 48
              · have HSP := Lib.hid (HNO.out (fun h => by have := h.1; omega))
                go_wp2
                go_ret2
                exact ⟨by rw [HSP.out]; exact rfl, rfl⟩
              · by_cases hd2 : 57 < (c8.toNat : Int)
                · have HSP := Lib.hid (HNO.out (fun h => by have := h.2; omega))
                  go_wp2
                  go_ret2
                  exact ⟨by rw [HSP.out]; exact rfl, rfl⟩
                · have HD := Lib.hid (HYES.out ⟨by omega, by omega⟩)
                  go_wp2
                  go_round
                  case rel => exact ⟨k + 1, hlt, by go_num, HD.out⟩
                  case measure => simp [intOf]; omega
            · have hall2 : ∀ c ∈ bs t, J.isDig c := fun c hc => by
                obtain ⟨j, hj, rfl⟩ := List.mem_iff_getElem.1 hc
                exact hall j hj (by omega)
              have HALL := Lib.hid hall2
              clear hall hall2
              obtain rfl : k = (bs t).length := by omega
              go_wp2
              go_loop [7, 8] (fun n i => ∃ k : Nat, k ≤ (bs t).length ∧ i = .int .i64 k ∧ n = .int .i64 (-(J.val ((bs t).take k) : Int)) ∧ J.val ((bs t).take k) ≤ 9223372036854775808) (fun _ i => (bs t).length - (intOf i).toNat)
              case atStart => exact ⟨0, by omega, rfl, rfl, show J.val [] ≤ 9223372036854775808 from by decide⟩
              case round =>
                obtain ⟨k, hk, rfl, rfl, hv⟩ := hrel
                by_cases hlt : k < (bs t).length
                · have hixk := hixg t k hlt
                  have hdg := HALL.out _ (List.getElem_mem hlt)
                  have HSN := Lib.hid (J.val_snoc (bs t) k hlt)
                  have HMO := Lib.hid (J.val_take (bs t) (k + 1))
                  generalize (bs t)[k] = c8 at *
                  have hd1 := hdg.1
                  have hd2 := hdg.2
                  clear hdg
                  have HL := Lib.hid (tdiv_law (J.val ((bs t).take k)) (c8.toNat - 48) (by omega))
                  generalize J.val ((bs t).take k) = v at *
                  have hcast : ((c8.toNat - 48 : Nat) : Int) = (c8.toNat : Int) - 48 := by omega
                  by_cases hov : 9223372036854775808 < 10 * v + (c8.toNat - 48)
                  · have HSP := Lib.hid (show R = .error 4 from by
                      have h1 := HSN.out
                      have h2 := HMO.out
                      rw [HOK.out HALL.out]
                      rw [if_neg (by omega)])
                    have hq := HL.out.2 hov
                    rw [hcast] at hq
                    go_wp2
                    go_ret2
                    exact ⟨by rw [HSP.out]; exact rfl, rfl⟩
                  · have hq : ¬ (-(v : Int) < Int.tdiv (-9223372036854775808 + ((c8.toNat : Int) - 48)) 10) := fun h => hov (HL.out.1 (by rw [hcast]; exact h))
                    go_wp2
                    go_round
                    case rel => exact ⟨k + 1, hlt, by go_num, by rw [HSN.out]; congr 1; omega, by rw [HSN.out]; omega⟩
                    case measure => simp [intOf]; omega
                · obtain rfl : k = (bs t).length := by omega
                  rw [List.take_length] at hv ⊢
                  have hall := HALL.out
                  have HSP := Lib.hid (show R = .ok (-(J.val (bs t) : Int)) from by rw [HOK.out hall, if_pos hv])
                  go_wp2
                  go_ret2
                  exact ⟨by rw [HSP.out]; exact rfl, rfl⟩
        
    · have hspec : J.pnum (bs s) = J.tnum false (bs s) := by
        rw [hcons, J.pnum, if_neg hm]
      have hmb := ne45 hm
      rw [hspec]
      clear hspec hcons hm
      have hT0 : 0 < (bs s).length := h0
      have hTi : (s).toList.isEmpty = false := by
        rw [empty_iff]
        cases hh : bs s with
        | nil => rw [hh] at hT0; cases hT0
        | cons _ _ => rfl
      have hTx : ∀ w : World, (Instr.index 9 (.string s) (.int .i64 0)).run Tryz.prog w = .ok (cU8 (bs s)[0]) w := hixg s 0 hT0
      have hhead : (bs s).head? = some (bs s)[0] := by
        rw [List.head?_eq_getElem?, List.getElem?_eq_getElem hT0]
      have hnn : bs s ≠ [] := fun e => by rw [e] at hT0; cases hT0
      by_cases hz8 : (bs s)[0] = 48
      · by_cases hlong : 1 < (bs s).length
        · have HSP := Lib.hid (show J.tnum false (bs s) = .error 2 from by rw [J.tnum, if_pos (.inr (.inl ⟨by rw [hhead, hz8], .inl hlong⟩))])
          rw [hz8] at hTx hix hmb
          clear hhead hnn hz8
          have hlong2 : 1 < s.size := hlong
          go_enter Tryz.func128, Tryz.ntmps128
          go_wp2
          all_goals (go_ret2; exact ⟨by rw [HSP.out]; exact rfl, rfl⟩)
        · have hsh : ¬ 1 < s.size := hlong
          have hcond : ¬ ((bs s).head? = some 48 ∧ (1 < (bs s).length ∨ false = true)) := fun h => by rcases h.2 with h2 | h2; exact hlong h2; cases h2
          have HBAD := Lib.hid (show ¬ (∀ c ∈ bs s, J.isDig c) → J.tnum false (bs s) = .error 2 from fun h => by rw [J.tnum, if_pos (.inr (.inr h))])
          have HOK := Lib.hid (show (∀ c ∈ bs s, J.isDig c) → J.tnum false (bs s) = (if J.val (bs s) < 9223372036854775808 then .ok (J.val (bs s) : Int) else .error 4) from fun h => by rw [J.tnum, if_neg (fun h1 => h1.elim hnn (fun h1 => h1.elim hcond (fun h1 => h1 h))), if_neg (by decide)])
          generalize J.tnum false (bs s) = R at *
          rw [hz8] at hTx hix hmb
          clear hcond hhead hnn hz8 hlong
          have hsl := hs
          go_enter Tryz.func128, Tryz.ntmps128
          go_wp2
          generalize s = t at *
          go_loop [6] (fun i => ∃ k : Nat, k ≤ (bs t).length ∧ i = .int .i64 k ∧ ∀ j (h : j < (bs t).length), j < k → J.isDig (bs t)[j]) (fun i => (bs t).length - (intOf i).toNat)
          case atStart => exact ⟨0, by omega, rfl, fun j _ h => absurd h (Nat.not_lt_zero _)⟩
          case round =>
            obtain ⟨k, hk, rfl, hall⟩ := hrel
            by_cases hlt : k < (bs t).length
            · have hixk := hixg t k hlt
              have hno : ¬ J.isDig (bs t)[k] → R = .error 2 := fun h => HBAD.out fun h2 => h (h2 _ (List.getElem_mem hlt))
              have hyes : J.isDig (bs t)[k] → ∀ j (h : j < (bs t).length), j < k + 1 → J.isDig (bs t)[j] := fun h j hj hjk => by
                rcases Nat.lt_or_ge j k with h1 | h1
                · exact hall j hj h1
                · obtain rfl : j = k := by omega
                  exact h
              have HNO := Lib.hid hno
              have HYES := Lib.hid hyes
              clear hno hyes hall
              generalize (bs t)[k] = c8 at *
              by_cases hd1 : (c8.toNat : Int) < 48
              · have HSP := Lib.hid (HNO.out (fun h => by have := h.1; omega))
                go_wp2
                go_ret2
                exact ⟨by rw [HSP.out]; exact rfl, rfl⟩
              · by_cases hd2 : 57 < (c8.toNat : Int)
                · have HSP := Lib.hid (HNO.out (fun h => by have := h.2; omega))
                  go_wp2
                  go_ret2
                  exact ⟨by rw [HSP.out]; exact rfl, rfl⟩
                · have HD := Lib.hid (HYES.out ⟨by omega, by omega⟩)
                  go_wp2
                  go_round
                  case rel => exact ⟨k + 1, hlt, by go_num, HD.out⟩
                  case measure => simp [intOf]; omega
            · have hall2 : ∀ c ∈ bs t, J.isDig c := fun c hc => by
                obtain ⟨j, hj, rfl⟩ := List.mem_iff_getElem.1 hc
                exact hall j hj (by omega)
              have HALL := Lib.hid hall2
              clear hall hall2
              obtain rfl : k = (bs t).length := by omega
              go_wp2
              go_loop [7, 8] (fun n i => ∃ k : Nat, k ≤ (bs t).length ∧ i = .int .i64 k ∧ n = .int .i64 (-(J.val ((bs t).take k) : Int)) ∧ J.val ((bs t).take k) ≤ 9223372036854775808) (fun _ i => (bs t).length - (intOf i).toNat)
              case atStart => exact ⟨0, by omega, rfl, rfl, show J.val [] ≤ 9223372036854775808 from by decide⟩
              case round =>
                obtain ⟨k, hk, rfl, rfl, hv⟩ := hrel
                by_cases hlt : k < (bs t).length
                · have hixk := hixg t k hlt
                  have hdg := HALL.out _ (List.getElem_mem hlt)
                  have HSN := Lib.hid (J.val_snoc (bs t) k hlt)
                  have HMO := Lib.hid (J.val_take (bs t) (k + 1))
                  generalize (bs t)[k] = c8 at *
                  have hd1 := hdg.1
                  have hd2 := hdg.2
                  clear hdg
                  have HL := Lib.hid (tdiv_law (J.val ((bs t).take k)) (c8.toNat - 48) (by omega))
                  generalize J.val ((bs t).take k) = v at *
                  have hcast : ((c8.toNat - 48 : Nat) : Int) = (c8.toNat : Int) - 48 := by omega
                  by_cases hov : 9223372036854775808 < 10 * v + (c8.toNat - 48)
                  · have HSP := Lib.hid (show R = .error 4 from by
                      have h1 := HSN.out
                      have h2 := HMO.out
                      rw [HOK.out HALL.out]
                      rw [if_neg (by omega)])
                    have hq := HL.out.2 hov
                    rw [hcast] at hq
                    go_wp2
                    go_ret2
                    exact ⟨by rw [HSP.out]; exact rfl, rfl⟩
                  · have hq : ¬ (-(v : Int) < Int.tdiv (-9223372036854775808 + ((c8.toNat : Int) - 48)) 10) := fun h => hov (HL.out.1 (by rw [hcast]; exact h))
                    go_wp2
                    go_round
                    case rel => exact ⟨k + 1, hlt, by go_num, by rw [HSN.out]; congr 1; omega, by rw [HSN.out]; omega⟩
                    case measure => simp [intOf]; omega
                · obtain rfl : k = (bs t).length := by omega
                  rw [List.take_length] at hv ⊢
                  have hall := HALL.out
                  by_cases hmx : J.val (bs t) = 9223372036854775808
                  · have HSP := Lib.hid (show R = .error 4 from by rw [HOK.out hall, if_neg (by omega)])
                    rw [hmx] at hv ⊢
                    go_wp2
                    go_ret2
                    exact ⟨by rw [HSP.out]; exact rfl, rfl⟩
                  · have HSP := Lib.hid (show R = .ok (J.val (bs t) : Int) from by rw [HOK.out hall, if_pos (by omega)])
                    generalize J.val (bs t) = V at *
                    have hne : ((-(V : Int)) == -9223372036854775808) = false := by simp; omega
                    go_wp2
                    go_ret2
                    exact ⟨by rw [HSP.out]; exact congrArg (fun x => Ending.returned (.tuple #[.int .i64 x, .int .i64 0])) (by omega), rfl⟩
      
      · have hz1 : (((bs s)[0].toNat : Int) == 48) = false := ne48 hz8
        have hcond : ¬ ((bs s).head? = some 48 ∧ (1 < (bs s).length ∨ false = true)) := fun h => hz8 (by rw [hhead] at h; exact Option.some.inj h.1)
        have HBAD := Lib.hid (show ¬ (∀ c ∈ bs s, J.isDig c) → J.tnum false (bs s) = .error 2 from fun h => by rw [J.tnum, if_pos (.inr (.inr h))])
        have HOK := Lib.hid (show (∀ c ∈ bs s, J.isDig c) → J.tnum false (bs s) = (if J.val (bs s) < 9223372036854775808 then .ok (J.val (bs s) : Int) else .error 4) from fun h => by rw [J.tnum, if_neg (fun h1 => h1.elim hnn (fun h1 => h1.elim hcond (fun h1 => h1 h))), if_neg (by decide)])
        generalize J.tnum false (bs s) = R at *
        clear hcond hhead hnn hz8
        have hsl := hs
        generalize (bs s)[0] = c0 at *
        go_enter Tryz.func128, Tryz.ntmps128
        go_wp2
        generalize s = t at *
        go_loop [6] (fun i => ∃ k : Nat, k ≤ (bs t).length ∧ i = .int .i64 k ∧ ∀ j (h : j < (bs t).length), j < k → J.isDig (bs t)[j]) (fun i => (bs t).length - (intOf i).toNat)
        case atStart => exact ⟨0, by omega, rfl, fun j _ h => absurd h (Nat.not_lt_zero _)⟩
        case round =>
          obtain ⟨k, hk, rfl, hall⟩ := hrel
          by_cases hlt : k < (bs t).length
          · have hixk := hixg t k hlt
            have hno : ¬ J.isDig (bs t)[k] → R = .error 2 := fun h => HBAD.out fun h2 => h (h2 _ (List.getElem_mem hlt))
            have hyes : J.isDig (bs t)[k] → ∀ j (h : j < (bs t).length), j < k + 1 → J.isDig (bs t)[j] := fun h j hj hjk => by
              rcases Nat.lt_or_ge j k with h1 | h1
              · exact hall j hj h1
              · obtain rfl : j = k := by omega
                exact h
            have HNO := Lib.hid hno
            have HYES := Lib.hid hyes
            clear hno hyes hall
            generalize (bs t)[k] = c8 at *
            by_cases hd1 : (c8.toNat : Int) < 48
            · have HSP := Lib.hid (HNO.out (fun h => by have := h.1; omega))
              go_wp2
              go_ret2
              exact ⟨by rw [HSP.out]; exact rfl, rfl⟩
            · by_cases hd2 : 57 < (c8.toNat : Int)
              · have HSP := Lib.hid (HNO.out (fun h => by have := h.2; omega))
                go_wp2
                go_ret2
                exact ⟨by rw [HSP.out]; exact rfl, rfl⟩
              · have HD := Lib.hid (HYES.out ⟨by omega, by omega⟩)
                go_wp2
                go_round
                case rel => exact ⟨k + 1, hlt, by go_num, HD.out⟩
                case measure => simp [intOf]; omega
          · have hall2 : ∀ c ∈ bs t, J.isDig c := fun c hc => by
              obtain ⟨j, hj, rfl⟩ := List.mem_iff_getElem.1 hc
              exact hall j hj (by omega)
            have HALL := Lib.hid hall2
            clear hall hall2
            obtain rfl : k = (bs t).length := by omega
            go_wp2
            go_loop [7, 8] (fun n i => ∃ k : Nat, k ≤ (bs t).length ∧ i = .int .i64 k ∧ n = .int .i64 (-(J.val ((bs t).take k) : Int)) ∧ J.val ((bs t).take k) ≤ 9223372036854775808) (fun _ i => (bs t).length - (intOf i).toNat)
            case atStart => exact ⟨0, by omega, rfl, rfl, show J.val [] ≤ 9223372036854775808 from by decide⟩
            case round =>
              obtain ⟨k, hk, rfl, rfl, hv⟩ := hrel
              by_cases hlt : k < (bs t).length
              · have hixk := hixg t k hlt
                have hdg := HALL.out _ (List.getElem_mem hlt)
                have HSN := Lib.hid (J.val_snoc (bs t) k hlt)
                have HMO := Lib.hid (J.val_take (bs t) (k + 1))
                generalize (bs t)[k] = c8 at *
                have hd1 := hdg.1
                have hd2 := hdg.2
                clear hdg
                have HL := Lib.hid (tdiv_law (J.val ((bs t).take k)) (c8.toNat - 48) (by omega))
                generalize J.val ((bs t).take k) = v at *
                have hcast : ((c8.toNat - 48 : Nat) : Int) = (c8.toNat : Int) - 48 := by omega
                by_cases hov : 9223372036854775808 < 10 * v + (c8.toNat - 48)
                · have HSP := Lib.hid (show R = .error 4 from by
                    have h1 := HSN.out
                    have h2 := HMO.out
                    rw [HOK.out HALL.out]
                    rw [if_neg (by omega)])
                  have hq := HL.out.2 hov
                  rw [hcast] at hq
                  go_wp2
                  go_ret2
                  exact ⟨by rw [HSP.out]; exact rfl, rfl⟩
                · have hq : ¬ (-(v : Int) < Int.tdiv (-9223372036854775808 + ((c8.toNat : Int) - 48)) 10) := fun h => hov (HL.out.1 (by rw [hcast]; exact h))
                  go_wp2
                  go_round
                  case rel => exact ⟨k + 1, hlt, by go_num, by rw [HSN.out]; congr 1; omega, by rw [HSN.out]; omega⟩
                  case measure => simp [intOf]; omega
              · obtain rfl : k = (bs t).length := by omega
                rw [List.take_length] at hv ⊢
                have hall := HALL.out
                by_cases hmx : J.val (bs t) = 9223372036854775808
                · have HSP := Lib.hid (show R = .error 4 from by rw [HOK.out hall, if_neg (by omega)])
                  rw [hmx] at hv ⊢
                  go_wp2
                  go_ret2
                  exact ⟨by rw [HSP.out]; exact rfl, rfl⟩
                · have HSP := Lib.hid (show R = .ok (J.val (bs t) : Int) from by rw [HOK.out hall, if_pos (by omega)])
                  generalize J.val (bs t) = V at *
                  have hne : ((-(V : Int)) == -9223372036854775808) = false := by simp; omega
                  go_wp2
                  go_ret2
                  exact ⟨by rw [HSP.out]; exact congrArg (fun x => Ending.returned (.tuple #[.int .i64 x, .int .i64 0])) (by omega), rfl⟩
      
end Go.Proofs.YtbbgmlnfpnomiaaGreatDoor
end

section
/- strings.Trim at the ten digits: empty just where all are digits. -/
set_option linter.unusedVariables false
namespace Go.Proofs.YtbbgmlnfpnomiaaGreatDoor
open Go.RowKit
abbrev tens : ByteArray := ⟨#[48, 49, 50, 51, 52, 53, 54, 55, 56, 57]⟩
theorem trim_calls (s : ByteArray) (hs : s.size ≤ 9223372036854775807) (w : World) :
    Calls Tryz.prog 205 #[.string s, .string tens] w fun e w' => e = .returned (.string ⟨(Lib.trimS s.data.toList tens.data.toList).toArray⟩) ∧ Ext w w' :=
  Any.strings_Trim_laid Tryz.lays160 (by kernel_rfl) s tens w hs (by decide) (ascii_of_all (by decide))
theorem dropWhile_nil {p : UInt8 → Bool} (m : List UInt8) (h : ∀ x ∈ m.dropWhile p, p x = true) : m.dropWhile p = [] := by
  induction m with
  | nil => rfl
  | cons a m ih =>
    rw [List.dropWhile_cons] at h ⊢
    split at h
    · rename_i hp
      rw [if_pos hp]
      exact ih h
    · rename_i hp
      exact absurd (h a (by simp)) hp
theorem dropWhile_iff {p : UInt8 → Bool} (m : List UInt8) : m.dropWhile p = [] ↔ ∀ x ∈ m, p x = true := by
  induction m with
  | nil => simp
  | cons a m ih =>
    rw [List.dropWhile_cons]
    by_cases hp : p a = true
    · rw [if_pos hp, ih]
      simp [hp]
    · rw [if_neg hp]
      simp [hp]
/-- Nothing is left just where all are of the set. -/
theorem trimS_nil (l cs : List UInt8) : Lib.trimS l cs = [] ↔ ∀ c ∈ l, cs.contains c = true := by
  unfold Lib.trimS Lib.trimLeftS Lib.trimRightS
  constructor
  · intro h c hc
    have h1 := (dropWhile_iff _).1 h
    have h2 : l.reverse.dropWhile (cs.contains ·) = [] := dropWhile_nil _ fun x hx => h1 x (List.mem_reverse.2 hx)
    exact (dropWhile_iff _).1 h2 c (List.mem_reverse.2 hc)
  · intro h
    have h2 : l.reverse.dropWhile (cs.contains ·) = [] := (dropWhile_iff _).2 fun x hx => h x (List.mem_reverse.1 hx)
    rw [h2]
    rfl
theorem tens_all : ∀ i : Fin 256, tens.data.toList.contains (UInt8.ofNat i.val) = decide (48 ≤ i.val ∧ i.val ≤ 57) := by decide +kernel
theorem tens_iff (c : UInt8) : tens.data.toList.contains c = true ↔ J.isDig c := by
  have h := tens_all ⟨c.toNat, c.toNat_lt⟩
  rw [show UInt8.ofNat c.toNat = c from UInt8.ofNat_toNat] at h
  rw [h, decide_eq_true_iff]
  exact Iff.rfl
theorem trim_digits (l : List UInt8) : Lib.trimS l tens.data.toList = [] ↔ ∀ c ∈ l, J.isDig c := by
  rw [trimS_nil]
  exact ⟨fun h c hc => (tens_iff c).1 (h c hc), fun h c hc => (tens_iff c).2 (h c hc)⟩
end Go.Proofs.YtbbgmlnfpnomiaaGreatDoor
end

section
/- The walk of errors.Is at no error. -/
set_option linter.unusedVariables false
namespace Go.Proofs.YtbbgmlnfpnomiaaGreatDoor
open Go.RowKit Go.Extern.Stop Go.Stop Go.Extern
theorem run_eql_nil_iface {P : Program} {ti : TypeId} {ms : Array (String × TypeId)} (ty : TypeId) (vy : Value) (hi : P.underlying ti = some (.interface ms)) (w : World) :
    (binOp .eql ti .nilIface (.iface ty vy)).run P w = .ok (.bool false) w := by
  have h : ∀ d : Nat, (Op.equalIn (d + 1) ti .nilIface (.iface ty vy)).run P w = .ok false w := fun d => by simp [Op.equalIn, run_underlying hi]
  simp only [binOp]
  simp [Op.equal, Op.maxDepth, h 9999]
set_option maxRecDepth 100000 in
theorem is_nil (t : TypeId) (v : Value) (w : World) :
    Calls Tryz.prog 207 #[.nilIface, .iface t v] w fun e w' => e = .returned (.bool false) ∧ w = w' := by
  have heq : ∀ w, (binOp .eql 303 .nilIface (.iface t v)).run Tryz.prog w = .ok (.bool false) w := run_eql_nil_iface t v Tryz.underlying303
  go_enter Tryz.func207, Tryz.ntmps207
  go_wp2
  go_ret
  exact ⟨rfl, rfl⟩
theorem isTypeOf (v : Value) (w : World) : (Extern.ReflectliteType.typeOf #[.iface 448 v]).run Tryz.prog w = .ok (.iface 394 (.agg #[.pointer (some ⟨8, 448, none⟩)])) w := by kernel_rfl
theorem cmp_run (w : World) : (callFunc 373 #[.agg #[.pointer (some ⟨8, 448, none⟩)]]).run Tryz.prog w = .ok (.value (.bool true)) w := by kernel_rfl
theorem isComp : (Tryz.prog.info? 448).map (·.comparable) = some true := by kernel_rfl
theorem isSize : (Tryz.prog.info? 450).map (·.size) = some 1 := by kernel_rfl
theorem noIsE (v : Value) (xT : TypeId) (w : World) : (Instr.typeAssert (.iface 448 v) xT 396 true).run Tryz.prog w = .ok (.tuple #[.nilIface, .bool false]) w := run_typeAssert_lacksB Tryz.underlying396 (by kernel_rfl) (by kernel_rfl) v xT w
theorem noIsW (v : Value) (xT : TypeId) (w : World) : (Instr.typeAssert (.iface 390 v) xT 396 true).run Tryz.prog w = .ok (.tuple #[.nilIface, .bool false]) w := run_typeAssert_lacksB Tryz.underlying396 (by kernel_rfl) (by kernel_rfl) v xT w
theorem hasUnwrapW (v : Value) (xT : TypeId) (w : World) : (Instr.typeAssert (.iface 390 v) xT 399 true).run Tryz.prog w = .ok (.tuple #[.iface 390 v, .bool true]) w := run_typeAssert_hasB Tryz.underlying399 (by kernel_rfl) v xT w
set_option maxRecDepth 100000 in
theorem is_range (N : Nat) (b : Addr) (w : World) (h1 : w.cell? ⟨N, 2, none⟩ = some (.iface 448 (.pointer (some b)))) :
    Calls Tryz.prog 207 #[.iface 390 (.pointer (some ⟨N, 0, none⟩)), .iface 448 (.pointer (some b))] w fun e w' => e = .returned (.bool true) ∧ w = w' := by
  obtain ⟨i, hi, hcmp⟩ := Option.map_eq_some_iff.1 isComp
  obtain ⟨j, hj, hjs⟩ := Option.map_eq_some_iff.1 isSize
  have h8 := @run_callFunc_extern Tryz.prog 262 _ Extern.ReflectliteType.typeOf Tryz.func262 (by kernel_rfl) (by kernel_rfl) (by kernel_rfl) (by kernel_rfl)
  have h32 := cmp_run
  have tT := isTypeOf
  have nE := noIsE
  have nW := noIsW
  have uW := hasUnwrapW
  have heq := run_eql_iface_ptr_same (P := Tryz.prog) w b Tryz.underlying303 Tryz.underlying448 hi hcmp hj
  have hty := run_eql_iface_types (P := Tryz.prog) 390 448 (.pointer (some ⟨N, 0, none⟩)) (.pointer (some b)) Tryz.underlying303 (by decide) w
  go_enter Tryz.func207, Tryz.ntmps207
  go_wp2
  refine wp_loop_rounds 2 ?_
  rw [rounds_succ]
  go_wp2
  rw [rounds_succ]
  go_wp2
  go_ret
  exact ⟨rfl, rfl⟩
end Go.Proofs.YtbbgmlnfpnomiaaGreatDoor
end

section
/- strings.SplitSeq at a comma: what it hands back, and that value's word: the pieces one by one. -/
set_option linter.unusedVariables false
namespace Go.Proofs.YtbbgmlnfpnomiaaGreatDoor
open Go.RowKit Go.Shelf
abbrev comma : ByteArray := ⟨#[44]⟩
set_option maxRecDepth 100000 in
theorem splitSeq_calls (s : ByteArray) (w : World) :
    Calls Tryz.prog 264 #[.string s, .string comma, .int .i64 0] w fun e w' => e = .returned (.func (.func 293) #[] #[.pointer (some ⟨w.heap.size + 1, 0, none⟩), .pointer (some ⟨w.heap.size, 0, none⟩), .pointer (some ⟨w.heap.size + 2, 0, none⟩)]) ∧
      w' = ((w.alloc (.cells #[.string s] 9)).alloc (.cells #[.string comma] 9)).alloc (.cells #[.int .i64 0] 3) := by
  go_enter Tryz.func264, Tryz.ntmps264
  go_wp2
  go_ret
  exact ⟨rfl, rfl⟩
set_option maxRecDepth 100000 in
theorem seq_calls (s : ByteArray) (w : World) :
    Calls Tryz.prog 208 #[.string s, .string comma] w fun e w' => e = .returned (.func (.func 293) #[] #[.pointer (some ⟨w.heap.size + 1, 0, none⟩), .pointer (some ⟨w.heap.size, 0, none⟩), .pointer (some ⟨w.heap.size + 2, 0, none⟩)]) ∧
      w' = ((w.alloc (.cells #[.string s] 9)).alloc (.cells #[.string comma] 9)).alloc (.cells #[.int .i64 0] 3) := by
  go_enter Tryz.func208, Tryz.ntmps208
  go_wp2_with fail
  refine (splitSeq_calls s _).mono ?_
  rintro e w' ⟨rfl, rfl⟩
  go_wp2
  go_ret
  exact ⟨rfl, rfl⟩
/-- Pieces of a text: short enough for what reads them. -/
abbrev Pc := { x : ByteArray // x.size ≤ 1099511627776 }
abbrev encPc (x : Pc) : Array Value := #[.string x.1]
/-- The iterator's own three boxes lie as they lay. -/
def Kp3 (n₀ B : Nat) (W W' : World) : Prop := Below n₀ W W' ∧ ∀ k, B ≤ k → k < B + 3 → W'.heap[k]? = W.heap[k]?
theorem Kp3.trans {n₀ B : Nat} {X Y Z : World} (h : Kp3 n₀ B X Y) (k : Kp3 n₀ B Y Z) : Kp3 n₀ B X Z := ⟨h.1.trans k.1, fun i a b => (k.2 i a b).trans (h.2 i a b)⟩
def restOf (W : World) (B : Nat) : Nat := match W.cell? ⟨B, 0, none⟩ with
  | some (.string r) => r.size
  | _ => 0
theorem restOf_eq {W : World} {B : Nat} {r : ByteArray} (h : W.cell? ⟨B, 0, none⟩ = some (.string r)) : restOf W B = r.size := by unfold restOf; rw [h]
theorem pieces_none {r : List UInt8} (h : Lib.indexByte r 44 = -1) : J.parts r = [r] := by
  refine J.parts_one r fun c hc e => ?_
  obtain ⟨j, hj, rfl⟩ := List.mem_iff_getElem.1 hc
  exact Lib.indexByte_none h j (by rw [List.getElem?_eq_getElem hj, e])
theorem pieces_some {r : List UInt8} {o : Nat} (h : Lib.indexByte r 44 = o) : o < r.length ∧ J.parts r = r.take o :: J.parts (r.drop (o + 1)) := by
  obtain ⟨h1, h2⟩ := Lib.indexByte_some h
  obtain ⟨hlt, h3⟩ := List.getElem?_eq_some_iff.1 h1
  refine ⟨hlt, ?_⟩
  have e : r = r.take o ++ 44 :: r.drop (o + 1) := by
    conv => lhs; rw [← List.take_append_drop o r, List.drop_eq_getElem_cons hlt, h3]
  conv => lhs; rw [e]
  refine J.parts_at _ _ fun c hc e => ?_
  obtain ⟨j, hj, rfl⟩ := List.mem_iff_getElem.1 hc
  rw [List.getElem_take] at e
  rw [List.length_take] at hj
  exact h2 j (by omega) (by rw [List.getElem?_eq_getElem (by omega), e])
theorem bs_take (r : ByteArray) (o : Nat) : bs (r.extract 0 o) = (bs r).take o := by
  simp [bs, ByteArray.data_extract]
theorem bs_drop (r : ByteArray) (o : Nat) : bs (r.extract o r.size) = (bs r).drop o := by
  simp [bs, ByteArray.data_extract]
  exact List.take_of_length_le (by simp)
set_option maxRecDepth 100000 in
set_option maxHeartbeats 2000000 in
theorem pieces_in (s : ByteArray) (hs : s.size ≤ 1099511627776) (n₀ B l : Nat) (Iv Ix : List Pc → World → Prop) (W : World) (b0 : Boxed W B 9 (.string s)) (b1 : Boxed W (B + 1) 9 (.string comma)) (b2 : Boxed W (B + 2) 3 (.int .i64 0))
    (hJ : ∀ s W v, Iv s W → Iv s (W.setCell ⟨B, 0, none⟩ v))
    (hY : ∀ pre x W1, Iv pre W1 → pre.length < (J.parts (bs s)).length → YieldAt Fence.wide 2 Tryz.prog l (encPc x) W1 fun e W' =>
      (e = .returned (.bool true) ∧ Iv (pre ++ [x]) W' ∧ Kp3 n₀ B W1 W') ∨ (e = .returned (.bool false) ∧ Ix (pre ++ [x]) W')) (h0 : Iv [] W) :
   CallsIn Fence.wide 3 Tryz.prog 293 #[.func (.yield l) #[] #[], .pointer (some ⟨B + 1, 0, none⟩), .pointer (some ⟨B, 0, none⟩), .pointer (some ⟨B + 2, 0, none⟩)] W fun e W' => (∃ v, e = .returned v) ∧
      ((∃ xs, (xs.map fun x : Pc => bs x.1) = J.parts (bs s) ∧ Iv xs W') ∨ (∃ pre, (pre.map fun x : Pc => bs x.1) <+: J.parts (bs s) ∧ Ix pre W')) := by
  refine callsIn_of_wp Tryz.func293 rfl trivial ?_ rfl
  simp only [Tryz.ntmps293, List.size_toArray, List.length_cons, List.length_nil, Nat.reduceAdd, Nat.reduceSub, Array.replicate_succ, Array.replicate_zero, List.push_toArray, List.append_toArray, List.nil_append, List.cons_append]
  have c1 := b1.cell
  gi_wp2
  clear c1
  gi_loopw [7] (fun i wr => ∃ (pre : List Pc) (rest : ByteArray), (pre.map fun x : Pc => bs x.1) ++ J.parts (bs rest) = J.parts (bs s) ∧ rest.size ≤ s.size ∧ Boxed wr B 9 (.string rest) ∧ Boxed wr (B + 1) 9 (.string comma) ∧ Boxed wr (B + 2) 3 (.int .i64 0) ∧ Iv pre wr)
    (fun i wr => restOf wr B)
  case atStart => exact ⟨[], s, rfl, Nat.le_refl _, b0, b1, b2, h0⟩
  case round =>
    obtain ⟨pre, rest, hp, hle, d0, d1, d2, hj⟩ := hrel
    have e0 := d0.cell
    have e1 := d1.cell
    have e2 := d2.cell
    have f0 := d0.frozen
    have hrm : rest.size ≤ 1099511627776 := Nat.le_trans hle hs
    have hge := Lib.indexByte_ge (bs rest) 44
    have HI := Lib.hid (show ∀ w, Calls Tryz.prog 294 #[.string rest, .string comma] w fun e w' => e = .returned (.int .i64 (Lib.indexByte (bs rest) 44)) ∧ w = w' from fun w => (Tryz.strings_Index_one rest 44 w).mono fun _ _ ⟨a, b⟩ => ⟨a, b.symm⟩)
    by_cases hno : Lib.indexByte (bs rest) 44 = -1
    · have HP := Lib.hid (show (pre.map fun x : Pc => bs x.1) ++ [bs rest] = J.parts (bs s) by rw [← pieces_none hno]; exact hp)
      have hlen : pre.length < (J.parts (bs s)).length := by rw [← HP.out, List.length_append, List.length_map]; simp
      obtain ⟨fn, tmps, assign, body, hy, hR⟩ := hY pre ⟨rest, hrm⟩ wr hj hlen
      dsimp only [encPc] at hy
      have HS := Lib.hid (show ((pre ++ [(⟨rest, hrm⟩ : Pc)]).map fun x : Pc => bs x.1) = J.parts (bs s) by rw [← HP.out]; simp)
      rw [hno] at HI
      clear hp hno hge HP hlen
      gi_wp2_with fail
      refine ⟨trivial, (callsIn_wide.2 (HI.out _)).mono ?_⟩
      rintro e w' ⟨rfl, rfl⟩
      gi_wp2_with fail
      refine hR.mono ?_
      rintro e W3 (⟨rfl, hJ3, hk3⟩ | ⟨rfl, hJx3⟩)
      · gi_wp2
        go_end0
        exact ⟨⟨_, rfl⟩, .inl ⟨_, HS.out, hJ3⟩⟩
      · gi_wp2
        go_end0
        exact ⟨⟨_, rfl⟩, .inr ⟨_, by rw [HS.out]; exact List.prefix_refl _, hJx3⟩⟩
    · obtain ⟨o, ho⟩ : ∃ o : Nat, Lib.indexByte (bs rest) 44 = o := ⟨(Lib.indexByte (bs rest) 44).toNat, by omega⟩
      obtain ⟨hlt, hps⟩ := pieces_some ho
      have hlt' : o < rest.size := hlt
      have hfr : (rest.extract 0 o).size ≤ 1099511627776 := by simp; omega
      rw [hps] at hp
      have HP := Lib.hid (show ((pre ++ [(⟨rest.extract 0 o, hfr⟩ : Pc)]).map fun x : Pc => bs x.1) ++ J.parts (bs (rest.extract (o + 1) rest.size)) = J.parts (bs s) by rw [← hp, bs_drop]; simp [bs_take])
      have hlen : pre.length < (J.parts (bs s)).length := by rw [← hp]; simp
      obtain ⟨fn, tmps, assign, body, hy, hR⟩ := hY pre ⟨rest.extract 0 o, hfr⟩ wr hj hlen
      dsimp only [encPc] at hy
      rw [ho] at HI
      clear hp hno hge hlen hps ho
      gi_wp2_with fail
      refine ⟨trivial, (callsIn_wide.2 (HI.out _)).mono ?_⟩
      rintro e w' ⟨rfl, rfl⟩
      gi_wp2_with fail
      refine hR.mono ?_
      rintro e W3 (⟨rfl, hJ3, hk3⟩ | ⟨rfl, hJx3⟩)
      · have g0 : Boxed W3 B 9 (.string rest) := (hk3.2 B (by omega) (by omega)).trans d0
        have g1 : Boxed W3 (B + 1) 9 (.string comma) := (hk3.2 (B + 1) (by omega) (by omega)).trans d1
        have g2 : Boxed W3 (B + 2) 3 (.int .i64 0) := (hk3.2 (B + 2) (by omega) (by omega)).trans d2
        have e0 := g0.cell
        have e1 := g1.cell
        have e2 := g2.cell
        have f0 := g0.frozen
        gi_wp2
        go_roundw
        case rel => exact ⟨_, rest.extract (o + 1) rest.size, HP.out, by simp; omega, g0.set _, g1.kept (grownBy_setCell' _ _ _) (by simp), g2.kept (grownBy_setCell' _ _ _) (by simp), hJ _ _ _ hJ3⟩
        case measure => rw [restOf_eq d0.cell, restOf_eq (g0.set _).cell]; simp; omega
      · gi_wp2
        refine bodyPost_ret (results_none rfl _ _ _) rfl ?_
        exact ⟨⟨_, rfl⟩, .inr ⟨_, ⟨_, HP.out⟩, hJx3⟩⟩
/-- What strings.SplitSeq hands back keeps the word. -/
theorem pieces_word (s : ByteArray) (hs : s.size ≤ 1099511627776) (n₀ B : Nat) (w : World) (b0 : Boxed w B 9 (.string s)) (b1 : Boxed w (B + 1) 9 (.string comma)) (b2 : Boxed w (B + 2) 3 (.int .i64 0)) :
    IterWord 3 Tryz.prog 293 #[.pointer (some ⟨B + 1, 0, none⟩), .pointer (some ⟨B, 0, none⟩), .pointer (some ⟨B + 2, 0, none⟩)] encPc ⟨B, 0, none⟩ (Kp3 n₀ B) (fun xs => (xs.map fun x : Pc => bs x.1) = J.parts (bs s)) (fun pre => (pre.map fun x : Pc => bs x.1) <+: J.parts (bs s)) (J.parts (bs s)).length w :=
  fun l Iv Ix W hW hJ _ hY h0 => pieces_in s hs n₀ B l Iv Ix W ((hW.block _ b0.lt).trans b0) ((hW.block _ b1.lt).trans b1) ((hW.block _ b2.lt).trans b2) hJ hY h0
end Go.Proofs.YtbbgmlnfpnomiaaGreatDoor
end

section
/- The walk of field.ParseNum. -/
set_option linter.unusedVariables false
namespace Go.Proofs.YtbbgmlnfpnomiaaGreatDoor
open Go.RowKit Go.Sort
/-- What the walks of numbers in words read of the library's error. -/
def RngOk (w : World) : Prop := ∃ b : Addr, b.block < w.heap.size ∧ 0 < w.heap.size ∧ w.cell? ⟨0, 0, none⟩ = some (.iface 448 (.pointer (some b)))
theorem RngOk.ext {w w' : World} (h : RngOk w) (k : Ext w w') : RngOk w' := by
  obtain ⟨b, h1, h2, h3⟩ := h
  exact ⟨b, Nat.lt_of_lt_of_le h1 k.size, Nat.lt_of_lt_of_le h2 k.size, k.cell h3⟩
/-- The stroke ahead is left out. -/
def cutM (s : ByteArray) : ByteArray := ⟨(Lib.trimPrefix (bs s) [45]).toArray⟩
theorem hasPrefix_one (c : UInt8) (t : List UInt8) (d : UInt8) : Lib.hasPrefix (c :: t) [d] = (d == c) := by
  simp [Lib.hasPrefix, List.isPrefixOf]
theorem cutM_minus {s : ByteArray} {t : List UInt8} (h : bs s = 45 :: t) : bs (cutM s) = t := by
  show Lib.trimPrefix (bs s) [45] = t
  rw [h, Lib.trimPrefix, hasPrefix_one, if_pos (by rfl)]
  rfl
theorem cutM_plain {s : ByteArray} (h : (bs s).head? ≠ some 45) : bs (cutM s) = bs s := by
  show Lib.trimPrefix (bs s) [45] = bs s
  cases hs : bs s with
  | nil => rfl
  | cons c t =>
    rw [hs] at h
    rw [Lib.trimPrefix, hasPrefix_one, if_neg]
    intro e
    have : 45 = c := by simpa using e
    exact h (by rw [← this]; rfl)
/-- Whether a text is that of nought alone. -/
theorem nought_iff (s : ByteArray) : s = ⟨#[48]⟩ ↔ bs s = [48] := by
  constructor
  · intro e; rw [e]
  · intro e
    cases s with
    | mk d => cases d with
      | mk l => exact congrArg (fun l : List UInt8 => ByteArray.mk ⟨l⟩) e
/-- What is the matter with a text, ahead of strconv. -/
def badN (s : ByteArray) : Prop := bs (cutM s) = [] ∨ ¬ (∀ c ∈ bs (cutM s), J.isDig c) ∨ ((bs (cutM s)).head? = some 48 ∧ bs s ≠ [48])
theorem pnum_bad {s : ByteArray} (h : badN s) : J.pnum (bs s) = .error 2 := by
  cases hs : bs s with
  | nil => rfl
  | cons c t =>
    rw [J.pnum]
    by_cases hc : c = 45
    · subst hc
      rw [if_pos rfl]
      rw [badN, cutM_minus hs, hs] at h
      rw [J.tnum, if_pos]
      rcases h with h | h | ⟨h, _⟩
      · exact .inl h
      · exact .inr (.inr h)
      · exact .inr (.inl ⟨h, .inr rfl⟩)
    · rw [if_neg hc]
      rw [badN, cutM_plain (by rw [hs]; intro e; exact hc (Option.some.inj e)), hs] at h
      rw [J.tnum, if_pos]
      rcases h with h | h | ⟨h, h2⟩
      · exact .inl h
      · exact .inr (.inr h)
      · refine .inr (.inl ⟨h, .inl ?_⟩)
        cases t with
        | nil => exact absurd (by rw [Option.some.inj h]) h2
        | cons d t => simp
theorem pnum_good {s : ByteArray} (h : ¬ badN s) : (∃ v, J.pnum (bs s) = .ok v ∧ Lib.parseIntB 64 (bs s) = .ok v) ∨ (J.pnum (bs s) = .error 4 ∧ Lib.parseIntB 64 (bs s) = .range) := by
  have h1 : bs (cutM s) ≠ [] := fun e => h (.inl e)
  have h2 : ∀ c ∈ bs (cutM s), J.isDig c := Decidable.not_not.1 fun e => h (.inr (.inl e))
  have h3 : (bs (cutM s)).head? = some 48 → bs s = [48] := fun e => Decidable.not_not.1 fun e2 => h (.inr (.inr ⟨e, e2⟩))
  cases hs : bs s with
  | nil => exact absurd (by rw [cutM_plain (by rw [hs]; simp), hs]) h1
  | cons c t =>
    rw [J.pnum]
    by_cases hc : c = 45
    · subst hc
      rw [cutM_minus hs] at h1 h2 h3
      rw [hs] at h3
      have hno : ¬ (t = [] ∨ (t.head? = some 48 ∧ (1 < t.length ∨ true = true)) ∨ ¬ (∀ c ∈ t, J.isDig c)) := by
        rintro (e | ⟨e, _⟩ | e)
        · exact h1 e
        · exact absurd (h3 e) (by simp)
        · exact e h2
      rw [if_pos rfl, J.tnum, if_neg hno, if_pos rfl, J.parse_neg t h1 h2]
      by_cases hv : J.val t ≤ 9223372036854775808
      · rw [if_pos hv, if_pos hv]; exact .inl ⟨_, rfl, rfl⟩
      · rw [if_neg hv, if_neg hv]; exact .inr ⟨rfl, rfl⟩
    · rw [cutM_plain (by rw [hs]; intro e; exact hc (Option.some.inj e)), hs] at h1 h2 h3
      have hno : ¬ ((c :: t) = [] ∨ ((c :: t).head? = some 48 ∧ (1 < (c :: t).length ∨ false = true)) ∨ ¬ (∀ x ∈ c :: t, J.isDig x)) := by
        rintro (e | ⟨e, e2⟩ | e)
        · exact h1 e
        · have := congrArg List.length (h3 e)
          rcases e2 with e2 | e2
          · rw [this] at e2; exact absurd e2 (by decide)
          · cases e2
        · exact e h2
      rw [if_neg hc, J.tnum, if_neg hno, if_neg (by decide), J.parse_pos _ h1 h2]
      by_cases hv : J.val (c :: t) < 9223372036854775808
      · rw [if_pos hv, if_pos hv]; exact .inl ⟨_, rfl, rfl⟩
      · rw [if_neg hv, if_neg hv]; exact .inr ⟨rfl, rfl⟩
theorem lit48 : (⟨#[48]⟩ : ByteArray).toList = [48] := by rw [Lib.toList_data]
theorem toList_empty {t : ByteArray} : t.toList.isEmpty = true ↔ bs t = [] := by rw [empty_iff]; exact List.isEmpty_iff
set_option maxHeartbeats 2000000 in
set_option maxRecDepth 100000 in
theorem pnum_calls (s : ByteArray) (hs : s.size ≤ 1099511627776) (w : World) (hr : RngOk w) :
    Calls Tryz.prog 125 #[.string s] w fun e w' => NumEnd (J.pnum (bs s)) e ∧ Ext w w' := by
  have HRR := Lib.hid hr
  clear hr
  have HTP := Lib.hid (show ∀ w, Calls Tryz.prog 204 #[.string s, .string ⟨#[45]⟩] w fun e w' => e = .returned (.string (cutM s)) ∧ w = w' from fun w => (Tryz.strings_TrimPrefix s ⟨#[45]⟩ w).mono fun _ _ ⟨a, b⟩ => ⟨a, b.symm⟩)
  have hDs : (cutM s).size ≤ s.size := Lib.trimPrefix_le (bs s) [45]
  have HTR := Lib.hid (fun w => trim_calls (cutM s) (by omega) w)
  have HBAD := Lib.hid (fun h => pnum_bad (s := s) h)
  have HGOOD := Lib.hid (fun h => pnum_good (s := s) h)
  by_cases h1 : bs (cutM s) = []
  · have e1 := toList_empty.2 h1
    have HB := Lib.hid (HBAD.out (.inl h1))
    clear h1
    go_enter Tryz.func125, Tryz.ntmps125
    go_wp2_with fail
    refine (HTP.out _).mono ?_
    rintro e w' ⟨rfl, rfl⟩
    go_wp2
    go_ret2
    exact ⟨by rw [HB.out]; exact rfl, Ext.rfl' _⟩
  · have e1 : (cutM s).toList.isEmpty = false := by
      cases hh : (cutM s).toList.isEmpty with
      | false => rfl
      | true => exact absurd (toList_empty.1 hh) h1
    have hlen : 0 < (bs (cutM s)).length := List.length_pos_iff.2 h1
    have hix : ∀ w : World, (Instr.index 9 (.string (cutM s)) (.int .i64 0)).run Tryz.prog w = .ok (cU8 (bs (cutM s))[0]) w := hixg (cutM s) 0 hlen
    have hhd : (bs (cutM s)).head? = some (bs (cutM s))[0] := by rw [List.head?_eq_getElem?, List.getElem?_eq_getElem hlen]
    have htl : Lib.trimS (cutM s).data.toList tens.data.toList = [] ↔ ∀ c ∈ bs (cutM s), J.isDig c := trim_digits _
    have hzl : (⟨(Lib.trimS (cutM s).data.toList tens.data.toList).toArray⟩ : ByteArray).toList.isEmpty = true ↔ ∀ c ∈ bs (cutM s), J.isDig c := toList_empty.trans htl
    clear htl
    have HZ := Lib.hid hzl
    clear hzl
    generalize (⟨(Lib.trimS (cutM s).data.toList tens.data.toList).toArray⟩ : ByteArray) = Z at *
    by_cases h2 : ∀ c ∈ bs (cutM s), J.isDig c
    · have ez := HZ.out.2 h2
      have hcase : ((((bs (cutM s))[0].toNat : Int) == 48) = true ∧ ¬ s = ⟨#[48]⟩ ∧ badN s) ∨ ((((bs (cutM s))[0].toNat : Int) == 48) = true ∧ s = ⟨#[48]⟩ ∧ ¬ badN s) ∨ ((((bs (cutM s))[0].toNat : Int) == 48) = false ∧ ¬ badN s) := by
        by_cases h3 : (bs (cutM s))[0] = 48
        · by_cases h4 : bs s = [48]
          · refine .inr (.inl ⟨by rw [h3]; rfl, (nought_iff s).2 h4, ?_⟩)
            rintro (h | h | ⟨_, h⟩)
            · exact h1 h
            · exact h h2
            · exact h h4
          · exact .inl ⟨by rw [h3]; rfl, fun e => h4 ((nought_iff s).1 e), .inr (.inr ⟨by rw [hhd, h3], h4⟩)⟩
        · refine .inr (.inr ⟨ne48 h3, ?_⟩)
          rintro (h | h | ⟨h, _⟩)
          · exact h1 h
          · exact h h2
          · exact h3 (by rw [hhd] at h; exact Option.some.inj h)
      clear h1 h2 hhd HZ
      generalize (bs (cutM s))[0] = c0 at *
      rcases hcase with ⟨h3, h4, hbad⟩ | hcase
      · have HB := Lib.hid (HBAD.out hbad)
        have q1 : (s == ⟨#[48]⟩) = false := by
          cases hq : (s == ⟨#[48]⟩) with
          | false => rfl
          | true => exact absurd ((MapKept.bytes_beq s ⟨#[48]⟩).1 hq) h4
        have q2 : (s.toList == [48]) = false := lit48 ▸ (Lib.bytes_beq_false_iff s ⟨#[48]⟩).2 h4
        have q3 : (s != ⟨#[48]⟩) = true := by rw [bne, q1]; rfl
        clear hbad h4
        go_enter Tryz.func125, Tryz.ntmps125
        go_wp2_with fail
        refine (HTP.out _).mono ?_
        rintro e w' ⟨rfl, rfl⟩
        go_wp2_with fail
        refine (HTR.out _).mono ?_
        rintro e w1 ⟨rfl, hx⟩
        have HX := Lib.hid hx
        clear hx
        go_wp2
        go_ret2
        exact ⟨by rw [HB.out]; exact rfl, HX.out⟩
      · have hgood : ¬ badN s := hcase.elim (fun h => h.2.2) (fun h => h.2)
        have hq : (((c0.toNat : Int) == 48) = true ∧ (s.toList == [48]) = true) ∨ ((c0.toNat : Int) == 48) = false := by
          rcases hcase with ⟨h3, h4, _⟩ | ⟨h3, _⟩
          · exact .inl ⟨h3, by rw [h4, lit48]; rfl⟩
          · exact .inr h3
        rcases HGOOD.out hgood with ⟨v, hv1, hv2⟩ | ⟨hv1, hv2⟩
        · have HV := Lib.hid hv1
          have HPI := Lib.hid (fun w => Tryz.strconv_ParseInt_10_at64_ok s (by omega) v hv2 w)
          clear hv1 hv2 hgood hcase
          rcases hq with ⟨hq1, hq2⟩ | hq1
          all_goals
            go_enter Tryz.func125, Tryz.ntmps125
            go_wp2_with fail
            refine (HTP.out _).mono ?_
            rintro e w' ⟨rfl, rfl⟩
            go_wp2_with fail
            refine (HTR.out _).mono ?_
            rintro e w1 ⟨rfl, hx⟩
            have HX := Lib.hid hx
            have HR1 := Lib.hid (HRR.out.ext hx)
            clear hx
            go_wp2_with fail
            refine (HPI.out _).mono ?_
            rintro e w2 ⟨rfl, hx⟩
            have hx2 : Ext w1 w2 := by
              rcases hx with rfl | ⟨t, rfl⟩
              · exact Ext.rfl' _
              · exact Lib.bytesWorld_below _ _ _
            have HX2 := Lib.hid (HX.out.tr hx2)
            obtain ⟨b, hb1, hb2, hb3⟩ := HR1.out.ext hx2
            clear hx hx2
            go_wp2_with fail
            refine (is_nil _ _ _).mono ?_
            rintro e w3 ⟨rfl, rfl⟩
            go_wp2
            go_ret2
            exact ⟨by rw [HV.out]; exact rfl, HX2.out⟩
        · have HV := Lib.hid hv1
          have HPI := Lib.hid (fun ev w h h2 => Tryz.strconv_ParseInt_10_at64_range s (by omega) hv2 ev w h h2)
          clear hv1 hv2 hgood hcase
          rcases hq with ⟨hq1, hq2⟩ | hq1
          all_goals
            go_enter Tryz.func125, Tryz.ntmps125
            go_wp2_with fail
            refine (HTP.out _).mono ?_
            rintro e w' ⟨rfl, rfl⟩
            go_wp2_with fail
            refine (HTR.out _).mono ?_
            rintro e w1 ⟨rfl, hx⟩
            have HX := Lib.hid hx
            obtain ⟨b, hb1, hb2, hb3⟩ := HRR.out.ext hx
            clear hx
            have HB3 := Lib.hid hb3
            clear hb3
            go_wp2_with fail
            refine (HPI.out _ _ HB3.out (.inr ⟨_, _, rfl⟩)).mono ?_
            rintro e w2 ⟨N, rfl, hN1, hN2, hx⟩
            have HX2 := Lib.hid (HX.out.tr hx)
            have hb4 := hx.cell (p := ⟨0, 0, none⟩) hb2 |>.trans HB3.out
            have HN := Lib.hid (show w2.cell? ⟨N, 2, none⟩ = some (.iface 448 (.pointer (some b))) by simp [World.cell?, hN2])
            clear hx hN2
            go_wp2_with fail
            refine (is_range N b _ HN.out).mono ?_
            rintro e w3 ⟨rfl, rfl⟩
            go_wp2
            go_ret2
            exact ⟨by rw [HV.out]; exact rfl, HX2.out⟩
    · have ez : Z.toList.isEmpty = false := by
        cases hh : Z.toList.isEmpty with
        | false => rfl
        | true => exact absurd (HZ.out.1 hh) h2
      have HB := Lib.hid (HBAD.out (.inr (.inl h2)))
      clear h1 h2 hhd HZ hix
      go_enter Tryz.func125, Tryz.ntmps125
      go_wp2_with fail
      refine (HTP.out _).mono ?_
      rintro e w' ⟨rfl, rfl⟩
      go_wp2_with fail
      refine (HTR.out _).mono ?_
      rintro e w1 ⟨rfl, hx⟩
      have HX := Lib.hid hx
      clear hx
      go_wp2
      go_ret2
      exact ⟨by rw [HB.out]; exact rfl, HX.out⟩
end Go.Proofs.YtbbgmlnfpnomiaaGreatDoor
end

section
/- What the walks read of the world's tables. -/
namespace Go.Proofs.YtbbgmlnfpnomiaaGreatDoor
open Go.RowKit
structure TOk (w : World) : Prop where
  tab : TabOk w
  tz : w.cell? ⟨7, 15, none⟩ = some (.int .u8 4)
theorem TOk.ext {w w' : World} (h : TOk w) (k : Ext w w') : TOk w' := ⟨h.tab.all w' k, k.cell h.tz⟩
end Go.Proofs.YtbbgmlnfpnomiaaGreatDoor
end
