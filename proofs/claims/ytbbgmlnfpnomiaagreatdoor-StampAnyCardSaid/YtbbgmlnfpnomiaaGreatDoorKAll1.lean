/- Texts put together: KSpec, KFast, KText. -/
import Derived.Test.YtbbgmlnfpnomiaaGreatDoorLA
import Derived.Test.YtbbgmlnfpnomiaaGreatDoorLD
import Derived.Test.YtbbgmlnfpnomiaaGreatDoorLE
section
/- Plain words: one-time signatures, trees of leaves, keys, over numbers and lists alone. -/
set_option linter.unusedVariables false
namespace Go.Proofs.YtbbgmlnfpnomiaaGreatDoor.K
def tSK : List UInt8 := [115, 107]
def tOT : List UInt8 := [111, 116]
def tPK : List UInt8 := [112, 107]
def tMT : List UInt8 := [109, 116]
/-- Where a leaf's chain begins. -/
noncomputable def sec (seed leaf k : Nat) : Nat := S.twoN tSK seed (leaf * 32 + k)
noncomputable def secs (seed leaf : Nat) : List Nat := (List.range 18).map (sec seed leaf)
/-- A digest's digits, and those of their checksum. -/
def dig16 (d i : Nat) : Nat := d / 16 ^ (15 - i) % 16
def digS (d : Nat) : Nat → Nat
  | 0 => 0
  | n + 1 => digS d n + (15 - dig16 d n)
def digs (d : Nat) : List Nat := (List.range 16).map (dig16 d) ++ [digS d 16 / 16, digS d 16 % 16]
noncomputable def chn (x n : Nat) : Nat := S.chainN (S.sumN tOT []) x n
/-- What chains' ends come to. -/
noncomputable def fold (l : List Nat) : Nat := l.foldl (S.twoN tPK) 0
noncomputable def pub (l : List Nat) : Nat := fold (l.map fun x => chn x 15)
noncomputable def sign (l : List Nat) (d : Nat) : List Nat := List.zipWith chn l (digs d)
noncomputable def rec (l : List Nat) (d : Nat) : Nat := fold (List.zipWith (fun x n => chn x (15 - n)) l (digs d))
/-- The level above. -/
noncomputable def up : List Nat → List Nat
  | a :: b :: l => S.twoN tMT a b :: up l
  | _ => []
noncomputable def root : Nat → List Nat → Nat
  | 0, l => l.getD 0 0
  | h + 1, l => root h (up l)
/-- The one beside. -/
def sib (i : Nat) : Nat := if i % 2 = 0 then i + 1 else i - 1
noncomputable def path : Nat → List Nat → Nat → List Nat
  | 0, _, _ => []
  | h + 1, l, i => l.getD (sib i) 0 :: path h (up l) (i / 2)
noncomputable def climb : Nat → Nat → List Nat → Nat
  | x, _, [] => x
  | x, i, y :: p => climb (if i % 2 = 0 then S.twoN tMT x y else S.twoN tMT y x) (i / 2) p
/-- The public ends of a key's leaves. -/
noncomputable def pubs (seed h : Nat) : List Nat := (List.range (2 ^ h)).map fun l => pub (secs seed l)
/- Laws. -/
theorem secs_len (seed leaf : Nat) : (secs seed leaf).length = 18 := by simp [secs]
theorem digs_len (d : Nat) : (digs d).length = 18 := by simp [digs]
theorem sign_len (l : List Nat) (d : Nat) (h : l.length = 18) : (sign l d).length = 18 := by simp [sign, digs_len, h]
theorem dig16_lt (d i : Nat) : dig16 d i < 16 := Nat.mod_lt _ (by decide)
theorem digS_le (d : Nat) : ∀ n, digS d n ≤ 15 * n
  | 0 => Nat.le_refl _
  | n + 1 => by have := digS_le d n; rw [digS]; omega
theorem digs_lt (d : Nat) : ∀ n ∈ digs d, n < 16 := by
  intro n hn
  rcases List.mem_append.1 hn with h | h
  · obtain ⟨i, _, rfl⟩ := List.mem_map.1 h
    exact dig16_lt d i
  · have := digS_le d 16
    simp only [List.mem_cons, List.not_mem_nil, or_false] at h
    rcases h with rfl | rfl
    · omega
    · omega
theorem chain_add (h x : Nat) (a : Nat) : ∀ b, S.chainN h (S.chainN h x a) b = S.chainN h x (a + b)
  | 0 => by rw [S.chainN]; rfl
  | b + 1 => by rw [S.chainN, chain_add h x a b]; rw [show a + (b + 1) = (a + b) + 1 by omega, S.chainN]
theorem rec_sign_aux : ∀ (l n : List Nat), l.length ≤ n.length → (∀ x ∈ n, x < 16) → List.zipWith (fun x n => chn x (15 - n)) (List.zipWith chn l n) n = l.map fun x => chn x 15
  | [], _, _, _ => by simp
  | x :: l, [], h, _ => by simp at h
  | x :: l, m :: n, h, hn => by
    have hm := hn m (by simp)
    rw [List.zipWith_cons_cons, List.zipWith_cons_cons, List.map_cons, rec_sign_aux l n (by simpa using h) fun y hy => hn y (by simp [hy])]
    congr 1
    unfold chn
    rw [chain_add, show m + (15 - m) = 15 by omega]
/-- What is signed leads back to the secret's public end. -/
theorem rec_sign (l : List Nat) (d : Nat) (h : l.length = 18) : rec (sign l d) d = pub l := by
  unfold rec sign pub
  rw [rec_sign_aux l (digs d) (by rw [h, digs_len]; decide) (digs_lt d)]
theorem up_len : ∀ l : List Nat, (up l).length = l.length / 2
  | [] => by simp [up]
  | [_] => by simp [up]
  | a :: b :: l => by rw [up, List.length_cons, up_len l]; simp only [List.length_cons]; omega
theorem up_at : ∀ (l : List Nat) (i : Nat), 2 * i + 1 < l.length → (up l).getD i 0 = S.twoN tMT (l.getD (2 * i) 0) (l.getD (2 * i + 1) 0)
  | [], i, h => by simp at h
  | [_], i, h => by simp at h
  | a :: b :: l, 0, h => by rw [up]; rfl
  | a :: b :: l, i + 1, h => by
    have h1 : 2 * i + 1 < l.length := by simp only [List.length_cons] at h; omega
    rw [up, show 2 * (i + 1) + 1 = (2 * i + 1) + 1 + 1 by omega, show 2 * (i + 1) = 2 * i + 1 + 1 by omega]
    simp only [List.getD_cons_succ]
    exact up_at l i h1
theorem path_len : ∀ (h : Nat) (l : List Nat) (i : Nat), (path h l i).length = h
  | 0, _, _ => rfl
  | h + 1, l, i => by rw [path, List.length_cons, path_len h]
/-- Each leaf's way leads to the root. -/
theorem climb_path : ∀ (h : Nat) (l : List Nat) (i : Nat), l.length = 2 ^ h → i < 2 ^ h → climb (l.getD i 0) i (path h l i) = root h l
  | 0, l, i, hl, hi => by
    have : i = 0 := by simpa using hi
    subst this
    rfl
  | h + 1, l, i, hl, hi => by
    have h2 : 2 ^ (h + 1) = 2 * 2 ^ h := by rw [Nat.pow_succ]; omega
    have hu : (up l).length = 2 ^ h := by rw [up_len]; omega
    have e : (if i % 2 = 0 then S.twoN tMT (l.getD i 0) (l.getD (sib i) 0) else S.twoN tMT (l.getD (sib i) 0) (l.getD i 0)) = (up l).getD (i / 2) 0 := by
      rw [up_at l (i / 2) (by omega)]
      unfold sib
      by_cases hp : i % 2 = 0
      · rw [if_pos hp, if_pos hp, show 2 * (i / 2) = i by omega]
      · rw [if_neg hp, if_neg hp, show 2 * (i / 2) = i - 1 by omega, show i - 1 + 1 = i by omega]
    rw [path, climb, e, climb_path h (up l) (i / 2) hu (by omega), root]
theorem pubs_len (seed h : Nat) : (pubs seed h).length = 2 ^ h := by simp [pubs]
theorem pubs_at (seed h i : Nat) (hi : i < 2 ^ h) : (pubs seed h).getD i 0 = pub (secs seed i) := by
  simp [pubs, List.getD, hi]
/-- A signature of a key holds for its root. -/
theorem key_holds (seed h i d : Nat) (hi : i < 2 ^ h) : climb (rec (sign (secs seed i) d) d) i (path h (pubs seed h) i) = root h (pubs seed h) := by
  rw [rec_sign _ _ (secs_len _ _), ← pubs_at seed h i hi]
  exact climb_path h _ i (pubs_len _ _) hi
/- Bounds. -/
theorem sec_lt (seed leaf k : Nat) : sec seed leaf k < 18446744073709551616 := S.twoN_lt _ _ _
theorem secs_lt (seed leaf : Nat) : ∀ x ∈ secs seed leaf, x < 18446744073709551616 := by
  intro x hx
  obtain ⟨k, _, rfl⟩ := List.mem_map.1 hx
  exact sec_lt _ _ _
theorem chn_lt {x : Nat} (hx : x < 18446744073709551616) (n : Nat) : chn x n < 18446744073709551616 := S.chainN_lt _ _ hx n
theorem fold_lt' : ∀ (l : List Nat) (x : Nat), x < 18446744073709551616 → l.foldl (S.twoN tPK) x < 18446744073709551616
  | [], x, hx => hx
  | y :: l, x, _ => fold_lt' l _ (S.twoN_lt _ _ _)
theorem fold_lt (l : List Nat) : fold l < 18446744073709551616 := fold_lt' l 0 (by decide)
theorem pub_lt (l : List Nat) : pub l < 18446744073709551616 := fold_lt _
theorem rec_lt (l : List Nat) (d : Nat) : rec l d < 18446744073709551616 := fold_lt _
theorem up_lt : ∀ l : List Nat, ∀ x ∈ up l, x < 18446744073709551616
  | [], x, h => by simp [up] at h
  | [_], x, h => by simp [up] at h
  | a :: b :: l, x, h => by
    rw [up] at h
    rcases List.mem_cons.1 h with rfl | h
    · exact S.twoN_lt _ _ _
    · exact up_lt l x h
theorem pubs_lt (seed h : Nat) : ∀ x ∈ pubs seed h, x < 18446744073709551616 := by
  intro x hx
  obtain ⟨k, _, rfl⟩ := List.mem_map.1 hx
  exact pub_lt _
theorem sign_lt : ∀ (l n : List Nat), (∀ x ∈ l, x < 18446744073709551616) → ∀ x ∈ List.zipWith chn l n, x < 18446744073709551616
  | [], _, _, x, h => by simp at h
  | _ :: _, [], _, x, h => by simp at h
  | a :: l, m :: n, hl, x, h => by
    rw [List.zipWith_cons_cons] at h
    rcases List.mem_cons.1 h with rfl | h
    · exact chn_lt (hl a (by simp)) m
    · exact sign_lt l n (fun y hy => hl y (by simp [hy])) x h
end Go.Proofs.YtbbgmlnfpnomiaaGreatDoor.K
end

section
/- What known() of law 5 leans on, reckoned. -/
set_option linter.unusedVariables false
namespace Go.Proofs.YtbbgmlnfpnomiaaGreatDoor.K
def chainC (h x : Nat) : Nat → Nat
  | 0 => x
  | n + 1 => S.mixC h (chainC h x n)
theorem chainN_C (h x : Nat) : ∀ n, S.chainN h x n = chainC h x n
  | 0 => by rw [S.chainN, chainC]
  | n + 1 => by rw [S.chainN, chainC, chainN_C h x n, S.mixN_C]
def sumC (tag : List Nat) : Nat := S.mixC (S.mixC (tag.foldl S.mixC 0) 256) 0
theorem sum_go (f : Nat → Nat → Nat) (l : List Nat) : f (([] : List Nat).foldl f (f (l.foldl f 0) 256)) 0 = f (f (l.foldl f 0) 256) 0 := rfl
theorem sumC_eq (l : List Nat) : sumC l = S.mixN (S.mixN (l.foldl S.mixN 0) 256) 0 := by
  rw [sumC, S.mixN_C]
theorem sum_C (tag : List UInt8) : S.sumN tag [] = sumC (S.nums tag) := by
  rw [sumC_eq, S.sumN, S.tagN]
  exact sum_go S.mixN (S.nums tag)
def twoC (h a b : Nat) : Nat := S.mixC (S.mixC h a) b
theorem two_C (tag : List UInt8) (h : Nat) (e : sumC (S.nums tag) = h) : S.twoN tag = twoC h := by
  funext a b
  rw [S.twoN, sum_C, e, twoC, S.mixN_C]
theorem e_SK : sumC (S.nums tSK) = 16870508438702138003 := by decide +kernel
theorem e_OT : sumC (S.nums tOT) = 5269647285759436589 := by decide +kernel
theorem e_PK : sumC (S.nums tPK) = 5111997468357216210 := by decide +kernel
theorem e_MT : sumC (S.nums tMT) = 11560593496035449956 := by decide +kernel
def secsC (seed leaf : Nat) : List Nat := (List.range 18).map fun k => twoC 16870508438702138003 seed (leaf * 32 + k)
theorem secs_C (seed leaf : Nat) : secs seed leaf = secsC seed leaf := by
  unfold secs secsC
  refine List.map_congr_left fun k _ => ?_
  rw [sec, two_C _ _ e_SK]
def chnC (x n : Nat) : Nat := chainC 5269647285759436589 x n
theorem chn_C : chn = chnC := by
  funext x n
  rw [chn, chainN_C, sum_C, e_OT]
  rfl
def foldC (l : List Nat) : Nat := l.foldl (twoC 5111997468357216210) 0
theorem fold_C (l : List Nat) : fold l = foldC l := by
  unfold fold
  rw [two_C _ _ e_PK]
  rfl
def pubC (l : List Nat) : Nat := foldC (l.map fun x => chnC x 15)
theorem pub_C (l : List Nat) : pub l = pubC l := by
  unfold pub
  rw [fold_C, chn_C]
  rfl
def signC (l : List Nat) (d : Nat) : List Nat := List.zipWith chnC l (digs d)
theorem sign_C (l : List Nat) (d : Nat) : sign l d = signC l d := by
  unfold sign
  rw [chn_C]
  rfl
def recC (l : List Nat) (d : Nat) : Nat := foldC (List.zipWith (fun x n => chnC x (15 - n)) l (digs d))
theorem rec_C (l : List Nat) (d : Nat) : rec l d = recC l d := by
  unfold rec
  rw [fold_C, chn_C]
  rfl
def p0 : Nat := 14748028741151155832
def p1 : Nat := 12195407789618882862
theorem p0_C : pubC (secsC 9 0) = p0 := by decide +kernel
theorem p1_C : pubC (secsC 9 1) = p1 := by decide +kernel
theorem bad_C : decide (twoC 11560593496035449956 (recC (signC (secsC 9 0) 5) 6) p1 = twoC 11560593496035449956 p0 p1) = false := by decide +kernel
theorem pubs_two (seed : Nat) : pubs seed 1 = [pub (secs seed 0), pub (secs seed 1)] := by
  unfold pubs
  rfl
/-- Another digest is not signed so. -/
theorem known5_bad : decide (climb (rec (sign (secs 9 0) 5) 6) 0 (path 1 (pubs 9 1) 0) = root 1 (pubs 9 1)) = false := by
  have e1 : path 1 (pubs 9 1) 0 = [pub (secs 9 1)] := by rw [pubs_two]; rfl
  have e2 : root 1 (pubs 9 1) = S.twoN tMT (pub (secs 9 0)) (pub (secs 9 1)) := by rw [pubs_two]; rfl
  have e3 : ∀ x y, climb x 0 [y] = S.twoN tMT x y := fun _ _ => rfl
  rw [e1, e2, e3, two_C _ _ e_MT, rec_C, sign_C, pub_C, pub_C, secs_C, secs_C, p0_C, p1_C]
  exact bad_C
end Go.Proofs.YtbbgmlnfpnomiaaGreatDoor.K
end

section
/- Plain words: a signature in words, and back. -/
set_option linter.unusedVariables false
namespace Go.Proofs.YtbbgmlnfpnomiaaGreatDoor.K
/-- A signature: whose, by which leaf, a place on each chain, the leaf's way. -/
structure Sg where
  who : Int
  leaf : Int
  one : List Nat
  path : List Nat
/-- Digests between commas. -/
def hexsL (l : List Nat) : List UInt8 := Lib.join (l.map T.hexB) [44]
def sigW (g : Sg) : List (List UInt8) := [Lib.itoa g.who, Lib.itoa g.leaf, hexsL g.one, hexsL g.path]
def sigT (g : Sg) : List UInt8 := J.join (sigW g)
def prs : List (List UInt8) → List Nat → Option (List Nat)
  | [], out => some out
  | p :: ps, out => match parseH (S.nums p) with
    | some d => prs ps (out ++ [d])
    | none => none
def phex (s : List UInt8) : Option (List Nat) := if s = [] then some [] else prs (J.parts s) []
def okSg (w n : Int) (one path : List Nat) : Prop := 0 ≤ w ∧ w ≤ 15 ∧ 0 ≤ n ∧ one.length = 18 ∧ path.length ≤ 8
instance (w n : Int) (one path : List Nat) : Decidable (okSg w n one path) := by unfold okSg; infer_instance
/-- The fields that a signature's words hold, if they hold one. -/
def psig4 (a b c d : List UInt8) : Option Sg :=
  match J.pnum a, J.pnum b, phex c, phex d with
  | .ok w, .ok n, some one, some path => if okSg w n one path then some ⟨w, n, one, path⟩ else none
  | _, _, _, _ => none
def psigL : List (List UInt8) → Option Sg
  | [a, b, c, d] => psig4 a b c d
  | _ => none
def psig (s : List UInt8) : Option Sg := match J.split s with
  | .ok l => psigL l
  | .error _ => none
theorem hexT_no44 (u : Nat) : ∀ n ∈ S.hexT u, n < 256 ∧ n ≠ 44 := by
  have hA : ∀ u : Nat, ∀ n ∈ S.hexA u, n < 256 ∧ n ≠ 44 := by
    intro u
    induction u using Nat.strongRecOn with
    | ind u ih =>
      by_cases h : u < 16
      · rw [S.hexA_small h]
        intro n hn
        rw [List.mem_singleton] at hn
        subst hn
        unfold S.dig
        split <;> omega
      · rw [S.hexA_big (by omega)]
        intro n hn
        rcases List.mem_append.1 hn with hn | hn
        · exact ih (u / 16) (by omega) n hn
        · rw [List.mem_singleton] at hn
          subst hn
          unfold S.dig
          split <;> omega
  intro n hn
  rcases List.mem_append.1 hn with hn | hn
  · obtain ⟨_, rfl⟩ := List.mem_replicate.1 hn
    decide
  · exact hA u n hn
theorem hexB_no44 (u : Nat) : ∀ c ∈ T.hexB u, c ≠ 44 := by
  intro c hc e
  obtain ⟨n, hn, rfl⟩ := List.mem_map.1 hc
  have h := hexT_no44 u n hn
  have := congrArg UInt8.toNat e
  rw [T.toNat_ofNat h.1] at this
  exact h.2 this
theorem hexB_ne (u : Nat) (hu : u < 18446744073709551616) : T.hexB u ≠ [] := by
  intro e
  have := congrArg List.length e
  unfold T.hexB at this
  rw [List.length_map, hexT_len hu] at this
  cases this
theorem hexB_len (u : Nat) (hu : u < 18446744073709551616) : (T.hexB u).length = 16 := by
  unfold T.hexB
  rw [List.length_map, hexT_len hu]
theorem parse_hexB (u : Nat) (hu : u < 18446744073709551616) : parseH (S.nums (T.hexB u)) = some u := by
  rw [T.hexB_nums]
  exact parseH_of hu
theorem hexB_of_parse {s : List UInt8} {d : Nat} (h : parseH (S.nums s) = some d) : T.hexB d = s ∧ d < 18446744073709551616 := by
  rw [parseH_ref] at h
  have ⟨h1, h2⟩ := rparse_text h
  refine ⟨?_, h2⟩
  unfold T.hexB
  rw [h1, S.nums, List.map_map]
  conv => rhs; rw [← List.map_id s]
  refine List.map_congr_left fun x _ => ?_
  exact UInt8.ofNat_toNat
theorem prs_hex : ∀ (l : List Nat) (out : List Nat), (∀ x ∈ l, x < 18446744073709551616) → prs (l.map T.hexB) out = some (out ++ l)
  | [], out, _ => by rw [List.append_nil]; rfl
  | x :: l, out, h => by
    rw [List.map_cons, prs, parse_hexB x (h x (by simp))]
    show prs (List.map T.hexB l) (out ++ [x]) = _
    rw [prs_hex l _ fun y hy => h y (by simp [hy])]
    simp
theorem hexsL_ne {l : List Nat} (h : l ≠ []) (hl : ∀ x ∈ l, x < 18446744073709551616) : hexsL l ≠ [] := by
  cases l with
  | nil => exact absurd rfl h
  | cons n l =>
    rw [hexsL, List.map_cons, Lib.join_cons]
    intro e
    exact hexB_ne n (hl n (by simp)) (List.append_eq_nil_iff.1 e).1
/-- Digests in words read as themselves. -/
theorem phex_hexsL (l : List Nat) (hl : ∀ x ∈ l, x < 18446744073709551616) : phex (hexsL l) = some l := by
  by_cases h : l = []
  · subst h; rfl
  · rw [phex, if_neg (hexsL_ne h hl), hexsL, J.join_parts _ (by simpa using h), prs_hex l [] hl, List.nil_append]
    intro p hp
    obtain ⟨n, _, rfl⟩ := List.mem_map.1 hp
    exact hexB_no44 n
theorem prs_back : ∀ (ps : List (List UInt8)) (out a : List Nat), prs ps out = some a → ∃ b, a = out ++ b ∧ b.map T.hexB = ps ∧ ∀ n ∈ b, n < 18446744073709551616
  | [], out, a, h => by
    injection h with h
    exact ⟨[], by rw [h, List.append_nil], rfl, by simp⟩
  | p :: ps, out, a, h => by
    rw [prs] at h
    cases e : parseH (S.nums p) with
    | none => rw [e] at h; cases h
    | some d =>
      rw [e] at h
      obtain ⟨b, h1, h2, h3⟩ := prs_back ps _ _ h
      have hv := hexB_of_parse e
      refine ⟨d :: b, by rw [h1]; simp, by rw [List.map_cons, hv.1, h2], fun n hn => ?_⟩
      rcases List.mem_cons.1 hn with rfl | hn
      · exact hv.2
      · exact h3 n hn
/-- What reads as digests is just these in words. -/
theorem hexsL_phex {s : List UInt8} {a : List Nat} (h : phex s = some a) : hexsL a = s ∧ ∀ n ∈ a, n < 18446744073709551616 := by
  unfold phex at h
  by_cases hs : s = []
  · rw [if_pos hs] at h
    injection h with h
    subst h
    exact ⟨hs.symm, by simp⟩
  · rw [if_neg hs] at h
    obtain ⟨b, h1, h2, h3⟩ := prs_back _ _ _ h
    rw [List.nil_append] at h1
    subst h1
    exact ⟨by rw [hexsL, h2, J.parts_join], h3⟩
theorem hexsL_len (l : List Nat) (hl : ∀ x ∈ l, x < 18446744073709551616) : (hexsL l).length ≤ 17 * l.length := by
  cases l with
  | nil => exact Nat.le_refl 0
  | cons n l =>
    have hs : ∀ l : List Nat, (∀ x ∈ l, x < 18446744073709551616) → Lib.lens (l.map T.hexB) = 16 * l.length := by
      intro l
      induction l with
      | nil => intro _; rfl
      | cons a l ih =>
        intro h
        have e : Lib.lens (T.hexB a :: l.map T.hexB) = (T.hexB a).length + Lib.lens (l.map T.hexB) := by simp [Lib.lens]
        rw [List.map_cons, e, hexB_len a (h a (by simp)), ih fun x hx => h x (by simp [hx]), List.length_cons]
        omega
    have h := hs (n :: l) hl
    rw [List.map_cons] at h
    rw [hexsL, List.map_cons, Lib.join_length, List.length_map]
    simp only [List.length_cons, List.length_nil] at h ⊢
    omega
/-- A signature in words reads as itself, if it may be one. -/
theorem psig_sigT (g : Sg) (hw : I64 g.who) (hn : I64 g.leaf) (h1 : ∀ x ∈ g.one, x < 18446744073709551616) (h2 : ∀ x ∈ g.path, x < 18446744073709551616) :
    psig (sigT g) = if okSg g.who g.leaf g.one g.path then some g else none := by
  have hm : J.most (sigW g) = .ok (sigW g) := by
    unfold J.most
    rw [if_neg (by simp [sigW])]
  rw [psig, sigT, J.split_join, hm]
  show psig4 _ _ _ _ = _
  rw [psig4, J.pnum_itoa _ hw.1 hw.2, J.pnum_itoa _ hn.1 hn.2, phex_hexsL _ h1, phex_hexsL _ h2]
theorem psig4_back {a b c d : List UInt8} {g : Sg} (h : psig4 a b c d = some g) : Lib.itoa g.who = a ∧ Lib.itoa g.leaf = b ∧ hexsL g.one = c ∧ hexsL g.path = d ∧ okSg g.who g.leaf g.one g.path ∧ I64 g.who ∧ I64 g.leaf ∧ (∀ x ∈ g.one, x < 18446744073709551616) ∧ (∀ x ∈ g.path, x < 18446744073709551616) := by
  unfold psig4 at h
  cases ea : J.pnum a with
  | error _ => rw [ea] at h; cases h
  | ok w =>
    cases eb : J.pnum b with
    | error _ => rw [ea, eb] at h; cases h
    | ok n =>
      cases ec : phex c with
      | none => rw [ea, eb, ec] at h; cases h
      | some one =>
        cases ed : phex d with
        | none => rw [ea, eb, ec, ed] at h; cases h
        | some path =>
          rw [ea, eb, ec, ed] at h
          dsimp only at h
          by_cases hk : okSg w n one path
          · rw [if_pos hk] at h
            injection h with h
            subst h
            have h1 := J.itoa_pnum ea
            have h2 := J.itoa_pnum eb
            have h3 := hexsL_phex ec
            have h4 := hexsL_phex ed
            exact ⟨h1.1, h2.1, h3.1, h4.1, hk, h1.2, h2.2, h3.2, h4.2⟩
          · rw [if_neg hk] at h
            cases h
/-- What reads as a signature is just this one in words. -/
theorem sigT_psig {s : List UInt8} {g : Sg} (h : psig s = some g) : sigT g = s ∧ okSg g.who g.leaf g.one g.path ∧ I64 g.who ∧ I64 g.leaf ∧ (∀ x ∈ g.one, x < 18446744073709551616) ∧ (∀ x ∈ g.path, x < 18446744073709551616) := by
  unfold psig at h
  cases e : J.split s with
  | error _ => rw [e] at h; cases h
  | ok l =>
    rw [e] at h
    have hj := J.join_split e
    match l, h, hj with
    | [], h, _ => cases h
    | [_], h, _ => cases h
    | [_, _], h, _ => cases h
    | [_, _, _], h, _ => cases h
    | [a, b, c, d], h, hj =>
      obtain ⟨h1, h2, h3, h4, h5⟩ := psig4_back (show psig4 a b c d = some g from h)
      refine ⟨?_, h5⟩
      rw [sigT, sigW, h1, h2, h3, h4]
      exact hj
    | _ :: _ :: _ :: _ :: _ :: _, h, _ => cases h
end Go.Proofs.YtbbgmlnfpnomiaaGreatDoor.K
end
