/- Plain words: numbers there and back; a text between commas. -/
import Derived.Test.YthjldedjllkeeaaGreatDoorWRNums
import Derived.Test.YthjldedjllkeeaaGreatDoorSpecN
import Derived.Lib.ItoaMem
import Derived.Lib.ParseIntB
import Derived.Lib.Join
namespace Go.Proofs.YthjldedjllkeeaaGreatDoor
namespace J
theorem val_append (a : List UInt8) (c : UInt8) : val (a ++ [c]) = 10 * val a + (c.toNat - 48) := by
  rw [val, List.foldl_append]
  rfl
theorem dec_small {u : Nat} (h : u < 10) : Lib.decDigits u = [UInt8.ofNat (48 + u)] := Lib.decDigits_one h
theorem dec_big {u : Nat} (h : ¬ u < 10) : Lib.decDigits u = Lib.decDigits (u / 10) ++ [UInt8.ofNat (48 + u % 10)] := by rw [Lib.decDigits, dif_neg h]
theorem u8_dig {d : Nat} (h : d < 10) : (UInt8.ofNat (48 + d)).toNat = 48 + d := by rw [UInt8.toNat_ofNat', Nat.mod_eq_of_lt (by omega)]
theorem dec_dig (u : Nat) : ∀ c ∈ Lib.decDigits u, isDig c := by
  induction u using Nat.strongRecOn with
  | ind u ih =>
    by_cases h : u < 10
    · rw [dec_small h]
      intro c hc
      rw [List.mem_singleton] at hc
      subst hc
      have := u8_dig h
      exact ⟨by omega, by omega⟩
    · rw [dec_big h]
      intro c hc
      rcases List.mem_append.1 hc with hc | hc
      · exact ih (u / 10) (by omega) c hc
      · rw [List.mem_singleton] at hc
        subst hc
        have := u8_dig (Nat.mod_lt u (by omega : 10 > 0))
        exact ⟨by omega, by omega⟩
theorem dec_val (u : Nat) : val (Lib.decDigits u) = u := by
  induction u using Nat.strongRecOn with
  | ind u ih =>
    by_cases h : u < 10
    · rw [dec_small h]
      show 10 * 0 + _ = _
      rw [u8_dig h]
      omega
    · rw [dec_big h, val_append, ih (u / 10) (by omega), u8_dig (Nat.mod_lt u (by omega))]
      omega
theorem dec_head (u : Nat) (h : 0 < u) : ∃ c l, Lib.decDigits u = c :: l ∧ c ≠ 48 := by
  induction u using Nat.strongRecOn with
  | ind u ih =>
    by_cases h1 : u < 10
    · refine ⟨_, _, dec_small h1, fun e => ?_⟩
      have := congrArg UInt8.toNat e
      rw [u8_dig h1] at this
      have h48 : (48 : UInt8).toNat = 48 := rfl
      omega
    · obtain ⟨c, l, e, hc⟩ := ih (u / 10) (by omega) (by omega)
      exact ⟨c, l ++ [UInt8.ofNat (48 + u % 10)], by rw [dec_big h1, e]; rfl, hc⟩
theorem dec_ne (u : Nat) : Lib.decDigits u ≠ [] := by
  by_cases h : u < 10
  · rw [dec_small h]; exact List.cons_ne_nil _ _
  · rw [dec_big h]; simp
theorem tnum_dec (m : Bool) (u : Nat) (hm : m = true → 0 < u) : tnum m (Lib.decDigits u) =
    if m = true then (if u ≤ 9223372036854775808 then .ok (-(u : Int)) else .error 4) else (if u < 9223372036854775808 then .ok (u : Int) else .error 4) := by
  have hno : ¬ (Lib.decDigits u = [] ∨ ((Lib.decDigits u).head? = some 48 ∧ (1 < (Lib.decDigits u).length ∨ m = true)) ∨ ¬ (∀ c ∈ Lib.decDigits u, isDig c)) := by
    rintro (h | ⟨h1, h2⟩ | h)
    · exact dec_ne u h
    · rcases Nat.eq_zero_or_pos u with h0 | h0
      · subst h0
        rcases h2 with h2 | h2
        · rw [dec_small (by omega)] at h2
          exact absurd h2 (by decide)
        · exact absurd (hm h2) (by omega)
      · obtain ⟨c, l, e, hc⟩ := dec_head u h0
        rw [e] at h1
        exact hc (Option.some.inj h1)
    · exact h (dec_dig u)
  rw [tnum, if_neg hno, dec_val]
theorem pnum_tnum {l : List UInt8} (h : l ≠ []) (h2 : l.head? ≠ some 45) : pnum l = tnum false l := by
  cases l with
  | nil => exact absurd rfl h
  | cons c t => rw [pnum, if_neg (fun e => h2 (by rw [e]; rfl))]
theorem dec_head45 (u : Nat) : (Lib.decDigits u).head? ≠ some 45 := by
  intro h
  have hd := dec_dig u
  cases hh : Lib.decDigits u with
  | nil => exact dec_ne u hh
  | cons c t =>
    rw [hh] at h hd
    have := hd c (by simp)
    rw [Option.some.inj h] at this
    exact absurd this.1 (by decide)
/-- A number in words reads as itself. -/
theorem pnum_itoa (n : Int) (h0 : -9223372036854775808 ≤ n) (h1 : n ≤ 9223372036854775807) : pnum (Lib.itoa n) = .ok n := by
  unfold Lib.itoa
  by_cases hn : n < 0
  · rw [if_pos hn, pnum, if_pos rfl, tnum_dec true _ (fun _ => by omega), if_pos rfl, if_pos (by omega)]
    congr 1
    omega
  · rw [if_neg hn, pnum_tnum (dec_ne _) (dec_head45 _), tnum_dec false _ (fun h => by cases h), if_neg (by decide), if_pos (by omega)]
    congr 1
    omega
theorem dig_ofNat {c : UInt8} (h : isDig c) : UInt8.ofNat (48 + (c.toNat - 48)) = c := by
  have := h.1
  rw [show 48 + (c.toNat - 48) = c.toNat from by omega, UInt8.ofNat_toNat]
/-- The digits of what digits spell. -/
theorem dec_of (n : Nat) : ∀ t : List UInt8, t.length ≤ n → t ≠ [] → (∀ c ∈ t, isDig c) → (t.head? = some 48 → t.length = 1) → Lib.decDigits (val t) = t := by
  induction n with
  | zero => intro t h h0 _ _; exact absurd (List.eq_nil_of_length_eq_zero (Nat.le_zero.1 h)) h0
  | succ n ih =>
    intro t h h0 hd hh
    obtain ⟨a, c, rfl⟩ : ∃ a c, t = a ++ [c] := ⟨t.dropLast, t.getLast h0, (List.dropLast_concat_getLast h0).symm⟩
    have hc := hd c (by simp)
    have hc1 := hc.1
    have hc2 := hc.2
    rw [val_append]
    by_cases ha : a = []
    · subst ha
      show Lib.decDigits (10 * 0 + (c.toNat - 48)) = [c]
      rw [dec_small (by omega), show 48 + (10 * 0 + (c.toNat - 48)) = 48 + (c.toNat - 48) from by omega, dig_ofNat hc]
    · have hne : a.head? ≠ some 48 := fun e => by
        have := hh (by rw [List.head?_append, e]; rfl)
        rw [List.length_append, List.length_singleton] at this
        exact ha (List.eq_nil_of_length_eq_zero (by omega))
      have hia := ih a (by rw [List.length_append, List.length_singleton] at h; omega) ha (fun c hc => hd c (by simp [hc])) (fun e => absurd e hne)
      have hpos : 0 < val a := by
        rcases Nat.eq_zero_or_pos (val a) with h0 | h0
        · rw [h0, dec_small (by omega)] at hia
          exact absurd (by rw [← hia]; rfl) hne
        · exact h0
      rw [dec_big (by omega), show (10 * val a + (c.toNat - 48)) / 10 = val a from by omega, show (10 * val a + (c.toNat - 48)) % 10 = c.toNat - 48 from by omega, hia, dig_ofNat hc]
theorem tnum_ok {m : Bool} {t : List UInt8} {n : Int} (h : tnum m t = .ok n) : t ≠ [] ∧ (t.head? = some 48 → t.length = 1 ∧ m = false) ∧ (∀ c ∈ t, isDig c) ∧ n = (if m = true then -(val t : Int) else (val t : Int)) ∧ (-9223372036854775808 ≤ n ∧ n ≤ 9223372036854775807) := by
  unfold tnum at h
  by_cases hc : t = [] ∨ (t.head? = some 48 ∧ (1 < t.length ∨ m = true)) ∨ ¬ (∀ c ∈ t, isDig c)
  · rw [if_pos hc] at h; cases h
  · rw [if_neg hc] at h
    have h1 : t ≠ [] := fun e => hc (.inl e)
    have h3 : ∀ c ∈ t, isDig c := Decidable.not_not.1 fun e => hc (.inr (.inr e))
    have h2 : t.head? = some 48 → t.length = 1 ∧ m = false := fun e => by
      have hl : 0 < t.length := List.length_pos_iff.2 h1
      have hx : ¬ (1 < t.length ∨ m = true) := fun e2 => hc (.inr (.inl ⟨e, e2⟩))
      refine ⟨?_, ?_⟩
      · have : ¬ 1 < t.length := fun e2 => hx (.inl e2)
        omega
      · cases m with
        | false => rfl
        | true => exact absurd (.inr rfl) hx
    cases m with
    | true =>
      rw [if_pos rfl] at h
      split at h
      · injection h with h
        exact ⟨h1, h2, h3, by rw [if_pos rfl]; exact h.symm, by omega, by omega⟩
      · cases h
    | false =>
      rw [if_neg (by decide)] at h
      split at h
      · injection h with h
        exact ⟨h1, h2, h3, by rw [if_neg (by decide)]; exact h.symm, by omega, by omega⟩
      · cases h
theorem val_pos {t : List UInt8} (h1 : t ≠ []) (h3 : ∀ c ∈ t, isDig c) (h2 : t.head? ≠ some 48) : 0 < val t := by
  have h := dec_of t.length t (Nat.le_refl _) h1 h3 (fun e => absurd e h2)
  rcases Nat.eq_zero_or_pos (val t) with h0 | h0
  · rw [h0, dec_small (by omega)] at h
    exact absurd (by rw [← h]; rfl) h2
  · exact h0
/-- What reads as a number is the number in words; and it is an int64. -/
theorem itoa_pnum {s : List UInt8} {n : Int} (h : pnum s = .ok n) : Lib.itoa n = s ∧ (-9223372036854775808 ≤ n ∧ n ≤ 9223372036854775807) := by
  cases s with
  | nil => cases h
  | cons c t =>
    rw [pnum] at h
    by_cases hc : c = 45
    · rw [if_pos hc] at h
      obtain ⟨h1, h2, h3, h4, h5⟩ := tnum_ok h
      rw [if_pos rfl] at h4
      have hne : t.head? ≠ some 48 := fun e => by have := (h2 e).2; cases this
      have hp := val_pos h1 h3 hne
      refine ⟨?_, h5⟩
      rw [h4, Lib.itoa_neg _ hp, dec_of t.length t (Nat.le_refl _) h1 h3 (fun e => absurd e hne), hc]
    · rw [if_neg hc] at h
      obtain ⟨h1, h2, h3, h4, h5⟩ := tnum_ok h
      rw [if_neg (by decide)] at h4
      refine ⟨?_, h5⟩
      rw [h4, Lib.itoa_nonneg, dec_of _ _ (Nat.le_refl _) h1 h3 (fun e => (h2 e).1)]
/-- A text between commas. -/
def parts : List UInt8 → List (List UInt8)
  | [] => [[]]
  | c :: l => if c = 44 then [] :: parts l else match parts l with
    | [] => [[c]]
    | p :: ps => (c :: p) :: ps
theorem parts_ne (l : List UInt8) : parts l ≠ [] := by
  cases l with
  | nil => exact List.cons_ne_nil _ _
  | cons c l =>
    rw [parts]
    split
    · exact List.cons_ne_nil _ _
    · split <;> exact List.cons_ne_nil _ _
theorem parts_comma (l : List UInt8) : parts (44 :: l) = [] :: parts l := by rw [parts, if_pos rfl]
theorem parts_other {c : UInt8} (h : c ≠ 44) (l : List UInt8) {p : List UInt8} {ps : List (List UInt8)} (e : parts l = p :: ps) : parts (c :: l) = (c :: p) :: ps := by rw [parts, if_neg h, e]
/-- A piece without a comma ahead of the rest. -/
theorem parts_pre (a l : List UInt8) (h : ∀ c ∈ a, c ≠ 44) {p : List UInt8} {ps : List (List UInt8)} (e : parts l = p :: ps) : parts (a ++ l) = (a ++ p) :: ps := by
  induction a with
  | nil => exact e
  | cons c a ih => exact parts_other (h c (by simp)) (a ++ l) (ih (fun c hc => h c (by simp [hc])))
theorem parts_one (a : List UInt8) (h : ∀ c ∈ a, c ≠ 44) : parts a = [a] := by
  have := parts_pre a [] h (p := []) (ps := []) rfl
  rwa [List.append_nil] at this
theorem parts_at (a l : List UInt8) (h : ∀ c ∈ a, c ≠ 44) : parts (a ++ 44 :: l) = a :: parts l := by
  have := parts_pre a (44 :: l) h (parts_comma l)
  rwa [List.append_nil] at this
theorem joinTail_cons (q : List UInt8) (l : List (List UInt8)) : Lib.joinTail [44] (q :: l) = 44 :: (q ++ Lib.joinTail [44] l) := rfl
theorem parts_join (t : List UInt8) : Lib.join (parts t) [44] = t := by
  induction t with
  | nil => rfl
  | cons c t ih =>
    cases e : parts t with
    | nil => exact absurd e (parts_ne t)
    | cons p ps =>
      rw [e] at ih
      by_cases hc : c = 44
      · rw [hc, parts_comma, e, Lib.join_cons, joinTail_cons, ← Lib.join_cons, ih]
        rfl
      · rw [parts_other hc t e, Lib.join_cons, List.cons_append, ← Lib.join_cons, ih]
theorem join_parts (l : List (List UInt8)) (h0 : l ≠ []) (h : ∀ p ∈ l, ∀ c ∈ p, c ≠ 44) : parts (Lib.join l [44]) = l := by
  cases l with
  | nil => exact absurd rfl h0
  | cons p l =>
    clear h0
    induction l generalizing p with
    | nil => rw [Lib.join_one]; exact parts_one p (h p (by simp))
    | cons q l ih =>
      have := ih q (fun p hp => h p (List.mem_cons_of_mem _ hp))
      rw [Lib.join_cons] at this
      rw [Lib.join_cons, joinTail_cons, parts_at p _ (h p (by simp)), this]
/-- Numbers, read: the values, or what is the matter. -/
def pl : List (List UInt8) → List Int → Bool → Except Nat (List Int)
  | [], out, long => if long = true then .error 4 else .ok out
  | p :: ps, out, long => match pnum p with
    | .ok v => pl ps (out ++ [v]) long
    | .error n => if n = 2 then .error 2 else pl ps (out ++ [0]) true
theorem pl_ok {p : List UInt8} {v : Int} (h : pnum p = .ok v) (ps : List (List UInt8)) (out : List Int) (long : Bool) : pl (p :: ps) out long = pl ps (out ++ [v]) long := by rw [pl, h]
theorem pl_bad {p : List UInt8} (h : pnum p = .error 2) (ps : List (List UInt8)) (out : List Int) (long : Bool) : pl (p :: ps) out long = .error 2 := by rw [pl, h]; rfl
theorem pl_long {p : List UInt8} (h : pnum p = .error 4) (ps : List (List UInt8)) (out : List Int) (long : Bool) : pl (p :: ps) out long = pl ps (out ++ [0]) true := by rw [pl, h]; rfl
theorem tnum_cases (m : Bool) (t : List UInt8) : tnum m t = .error 2 ∨ tnum m t = .error 4 ∨ ∃ v, tnum m t = .ok v := by
  unfold tnum
  split
  · exact .inl rfl
  · split <;> split
    · exact .inr (.inr ⟨_, rfl⟩)
    · exact .inr (.inl rfl)
    · exact .inr (.inr ⟨_, rfl⟩)
    · exact .inr (.inl rfl)
theorem pnum_cases (p : List UInt8) : pnum p = .error 2 ∨ pnum p = .error 4 ∨ ∃ v, pnum p = .ok v := by
  cases p with
  | nil => exact .inl rfl
  | cons c t =>
    rw [pnum]
    split
    · exact tnum_cases _ _
    · exact tnum_cases _ _
def pnums (l : List UInt8) : Except Nat (List Int) := if l = [] then .ok [] else pl (parts l) [] false
theorem itoa_nocomma (n : Int) : ∀ c ∈ Lib.itoa n, c ≠ 44 := by
  intro c hc e
  subst e
  unfold Lib.itoa at hc
  split at hc
  · rcases List.mem_cons.1 hc with h | h
    · cases h
    · exact absurd (dec_dig _ _ h).1 (by decide)
  · exact absurd (dec_dig _ _ hc).1 (by decide)
theorem pl_itoa (l : List Int) (hb : ∀ n ∈ l, I64 n) : ∀ out, pl (l.map Lib.itoa) out false = .ok (out ++ l) := by
  induction l with
  | nil => intro out; rw [List.append_nil]; rfl
  | cons n l ih =>
    intro out
    have h := hb n (by simp)
    rw [List.map_cons, pl_ok (pnum_itoa n h.1 h.2), ih (fun m hm => hb m (by simp [hm]))]
    simp
theorem itoa_ne (n : Int) : Lib.itoa n ≠ [] := by
  unfold Lib.itoa
  split
  · exact List.cons_ne_nil _ _
  · exact dec_ne _
theorem numsL_ne {l : List Int} (h : l ≠ []) : numsL l ≠ [] := by
  cases l with
  | nil => exact absurd rfl h
  | cons n l =>
    rw [numsL, List.map_cons, Lib.join_cons]
    intro e
    exact itoa_ne n (List.append_eq_nil_iff.1 e).1
/-- Numbers in words read as themselves. -/
theorem pnums_numsL (l : List Int) (hb : ∀ n ∈ l, I64 n) : pnums (numsL l) = .ok l := by
  by_cases h : l = []
  · subst h; rfl
  · rw [pnums, if_neg (numsL_ne h), numsL, join_parts _ (by simpa using h), pl_itoa l hb, List.nil_append]
    intro p hp
    obtain ⟨n, _, rfl⟩ := List.mem_map.1 hp
    exact itoa_nocomma n
theorem pl_true (ps : List (List UInt8)) : ∀ out a, pl ps out true ≠ .ok a := by
  induction ps with
  | nil => intro out a h; cases h
  | cons p ps ih =>
    intro out a h
    rcases pnum_cases p with e | e | ⟨v, e⟩
    · rw [pl_bad e] at h; cases h
    · rw [pl_long e] at h; exact ih _ _ h
    · rw [pl_ok e] at h; exact ih _ _ h
theorem pl_back (ps : List (List UInt8)) : ∀ out a, pl ps out false = .ok a → ∃ b, a = out ++ b ∧ b.map Lib.itoa = ps ∧ ∀ n ∈ b, I64 n := by
  induction ps with
  | nil =>
    intro out a h
    injection h with h
    exact ⟨[], by rw [h, List.append_nil], rfl, by simp⟩
  | cons p ps ih =>
    intro out a h
    rcases pnum_cases p with e | e | ⟨v, e⟩
    · rw [pl_bad e] at h; cases h
    · rw [pl_long e] at h; exact absurd h (pl_true _ _ _)
    · rw [pl_ok e] at h
      obtain ⟨b, h1, h2, h3⟩ := ih _ _ h
      have hv := itoa_pnum e
      refine ⟨v :: b, by rw [h1]; simp, by rw [List.map_cons, hv.1, h2], fun n hn => ?_⟩
      rcases List.mem_cons.1 hn with rfl | hn
      · exact hv.2
      · exact h3 n hn
/-- What reads as numbers is just these in words. -/
theorem numsL_pnums {s : List UInt8} {a : List Int} (h : pnums s = .ok a) : numsL a = s ∧ ∀ n ∈ a, I64 n := by
  unfold pnums at h
  by_cases hs : s = []
  · rw [if_pos hs] at h
    injection h with h
    subst h
    exact ⟨hs.symm, by simp⟩
  · rw [if_neg hs] at h
    obtain ⟨b, h1, h2, h3⟩ := pl_back _ _ _ h
    rw [List.nil_append] at h1
    subst h1
    exact ⟨by rw [numsL, h2, parts_join], h3⟩
theorem parts_length (l : List UInt8) : (parts l).length ≤ l.length + 1 := by
  induction l with
  | nil => exact Nat.le_refl _
  | cons c l ih =>
    by_cases hc : c = 44
    · rw [hc, parts_comma, List.length_cons, List.length_cons]; omega
    · cases e : parts l with
      | nil => exact absurd e (parts_ne l)
      | cons p ps =>
        rw [e] at ih
        rw [parts_other hc l e]
        simp only [List.length_cons] at ih ⊢
        omega
theorem pnums_length {s : List UInt8} {a : List Int} (h : pnums s = .ok a) : a.length ≤ s.length + 1 := by
  unfold pnums at h
  by_cases hs : s = []
  · rw [if_pos hs] at h
    injection h with h
    subst h
    simp
  · rw [if_neg hs] at h
    obtain ⟨b, h1, h2, _⟩ := pl_back _ _ _ h
    rw [List.nil_append] at h1
    subst h1
    have := congrArg List.length h2
    rw [List.length_map] at this
    have := parts_length s
    omega
/-- strconv.ParseInt at what is just so written. -/
theorem parseM (t : List UInt8) : (∀ c ∈ t, isDig c) → ∀ acc : Nat, acc < 18446744073709551616 → Lib.parseUintM 18446744073709551615 acc t = if t.foldl dval acc < 18446744073709551616 then .ok (t.foldl dval acc) else .range := by
  induction t with
  | nil =>
    intro _ acc h
    rw [List.foldl_nil, if_pos h]
    rfl
  | cons c t ih =>
    intro hd acc h
    have hc := hd c (by simp)
    have hc1 := hc.1
    have hc2 := hc.2
    have hdv : dval acc c = 10 * acc + (c.toNat - 48) := rfl
    have hge := foldl_ge t (dval acc c)
    rw [Lib.parseUintM, if_pos ⟨hc1, hc2⟩, List.foldl_cons]
    by_cases h1 : 1844674407370955162 ≤ acc
    · rw [if_pos h1, if_neg (by omega)]
    · rw [if_neg h1]
      by_cases h2 : 18446744073709551615 < acc * 10 + (c.toNat - 48)
      · rw [if_pos h2, if_neg (by omega)]
      · rw [if_neg h2, ih (fun c hc => hd c (by simp [hc])) _ (by omega), show acc * 10 + (c.toNat - 48) = dval acc c from by omega]
theorem parse_neg (t : List UInt8) (h : t ≠ []) (hd : ∀ c ∈ t, isDig c) : Lib.parseIntB 64 (45 :: t) = if val t ≤ 9223372036854775808 then .ok (-(val t : Int)) else .range := by
  unfold Lib.parseIntB
  dsimp only
  rw [if_pos (.inr rfl), Lib.parseUintB, if_neg h, show (2 ^ 64 - 1 : Nat) = 18446744073709551615 from by decide, parseM t hd 0 (by decide)]
  show (match (if val t < 18446744073709551616 then Lib.NumEnd.ok (val t) else .range) with
    | .syntax => _ | .range => _ | .ok u => _) = _
  by_cases h1 : val t < 18446744073709551616
  · rw [if_pos h1]
    dsimp only
    rw [if_neg (by simp)]
    by_cases h2 : val t ≤ 9223372036854775808
    · rw [if_neg (by simp; omega), if_pos h2]
      rfl
    · rw [if_pos ⟨rfl, by simp; omega⟩, if_neg h2]
  · rw [if_neg h1, if_neg (by omega)]
theorem parse_pos (t : List UInt8) (h : t ≠ []) (hd : ∀ c ∈ t, isDig c) : Lib.parseIntB 64 t = if val t < 9223372036854775808 then .ok (val t : Int) else .range := by
  cases t with
  | nil => exact absurd rfl h
  | cons c t =>
    have hc := hd c (by simp)
    have hc1 := hc.1
    have hc2 := hc.2
    unfold Lib.parseIntB
    dsimp only
    rw [if_neg (by omega), Lib.parseUintB, if_neg h, show (2 ^ 64 - 1 : Nat) = 18446744073709551615 from by decide, parseM (c :: t) hd 0 (by decide)]
    show (match (if val (c :: t) < 18446744073709551616 then Lib.NumEnd.ok (val (c :: t)) else .range) with
      | .syntax => _ | .range => _ | .ok u => _) = _
    by_cases h1 : val (c :: t) < 18446744073709551616
    · rw [if_pos h1]
      dsimp only
      by_cases h2 : val (c :: t) < 9223372036854775808
      · rw [if_neg (by simp; omega), if_neg (by omega), if_neg (by omega), if_pos h2]
      · rw [if_pos ⟨by omega, by simp; omega⟩, if_neg h2]
    · rw [if_neg h1, if_neg (by omega)]
end J
end Go.Proofs.YthjldedjllkeeaaGreatDoor
