/- What the laws of keys use: frames of two keys, a key's own signatures, bytes' cells. -/
import Derived.Test.YtbbgmlnfpnomiaaGreatDoorKSameM
set_option linter.unusedVariables false
set_option linter.unusedSimpArgs false
namespace Go.Proofs.YtbbgmlnfpnomiaaGreatDoor
open Go.RowKit Go.Sort
/-- Bytes' cells, by their numbers. -/
abbrev c8 (l : List Nat) : List Value := l.map fun (n : Nat) => Value.int .u8 (n : Int)
theorem nmod (x d : Nat) : (x : Int).tmod (d : Int) = ((x % d : Nat) : Int) := by rw [Int.tmod_eq_emod_of_nonneg (by omega)]; norm_cast
theorem ndiv (x d : Nat) : (x : Int).tdiv (d : Int) = ((x / d : Nat) : Int) := by rw [Int.tdiv_eq_ediv_of_nonneg (by omega)]; norm_cast
theorem nmod' (x d : Nat) : (x : Int) % (d : Int) = ((x % d : Nat) : Int) := by norm_cast
theorem ndiv' (x d : Nat) : (x : Int) / (d : Int) = ((x / d : Nat) : Int) := by norm_cast
theorem c8_of {l : List Int} (h : ∀ n ∈ l, (Lit.int .u8 n).wf = true) : c8 (l.map Int.toNat) = l.map (Value.int .u8) ∧ ∀ x ∈ l.map Int.toNat, x ≤ 255 := by
  refine ⟨?_, fun x hx => ?_⟩
  · rw [c8, List.map_map]
    exact List.map_congr_left fun n hn => by
      have := bounds_u8 (h n hn)
      show Value.int .u8 ((n.toNat : Nat) : Int) = _
      rw [Int.toNat_of_nonneg (by omega)]
  · obtain ⟨n, hn, rfl⟩ := List.mem_map.1 hx
    have := bounds_u8 (h n hn)
    omega
theorem cDg_of {l : List Int} (h : ∀ n ∈ l, (Lit.int .u64 n).wf = true) : cDg (l.map Int.toNat) = l.map (Value.int .u64) ∧ ∀ x ∈ l.map Int.toNat, x < 18446744073709551616 := by
  refine ⟨?_, fun x hx => ?_⟩
  · rw [cDg, List.map_map]
    exact List.map_congr_left fun n hn => by
      have := bounds_u64 (h n hn)
      show Value.int .u64 ((n.toNat : Nat) : Int) = _
      rw [Int.toNat_of_nonneg (by omega)]
  · obtain ⟨n, hn, rfl⟩ := List.mem_map.1 hx
    have := bounds_u64 (h n hn)
    omega
section
variable {kb : Nat} {who : Int} {seed h : Nat} {A : Option Addr} {c : Nat} {next bound : Int}
/-- A key beside another one that was used. -/
theorem KA.kg {W W' : World} {q : Nat} (k : KA W q who seed h A c next bound) (g : KG kb W W') (hne : q ≠ kb) (ha : ∀ ad, A = some ad → ad.block ≠ kb) : KA W' q who seed h A c next bound := ⟨k.blk.kg g hne, k.rd.kg g ha, k.ap⟩
end
theorem path_lt (h : Nat) (seed i : Nat) : ∀ x ∈ K.path h (K.pubs seed h) i, x < 18446744073709551616 := path_lt5 _ _ (K.pubs_lt _ _) _
theorem root_lt (h : Nat) (seed : Nat) : K.root h (K.pubs seed h) < 18446744073709551616 := root_lt5 _ _ (K.pubs_lt _ _)
theorem own_len (seed i d : Nat) : (K.sign (K.secs seed i) d).length = 18 := K.sign_len _ _ (K.secs_len _ _)
theorem own_lt (seed i d : Nat) : ∀ x ∈ K.sign (K.secs seed i) d, x < 18446744073709551616 := K.sign_lt _ _ (K.secs_lt _ _)
/-- A key's own signature holds for its root. -/
theorem verify_own (seed h i d : Nat) (hi : i < 2 ^ h) (hh : h ≤ 8) (hd : d < 18446744073709551616) (who : Int) (A : Option Addr) (c : Nat) (w : World) (hA : Rd w A (cDg (K.path h (K.pubs seed h) i))) :
    Calls Tryz.prog 111 #[cU64 (K.root h (K.pubs seed h)), .agg (sgV who (i : Int) (K.sign (K.secs seed i) d) A h c).toArray, cU64 d, .int .i64 (h : Int)] w fun e w' => e = .returned (.bool true) ∧ Ext w w' := by
  have hpl := K.path_len h (K.pubs seed h) i
  have h := verify_in (K.root h (K.pubs seed h)) d (root_lt h seed) hd who i (K.sign (K.secs seed i) d) (own_len _ _ _) (own_lt _ _ _) A c _ (path_lt h seed i) (by rw [hpl]; exact hh) (by rw [hpl]; exact hi) w hA
  rw [hpl, decide_eq_true (K.key_holds seed _ i d hi)] at h
  exact h
/-- Two of one key's signatures of one digest are the same. -/
theorem same_own (seed h i d : Nat) (hh : h ≤ 8) (who : Int) (A B : Option Addr) (c e : Nat) (w : World) (hA : Rd w A (cDg (K.path h (K.pubs seed h) i))) (hB : Rd w B (cDg (K.path h (K.pubs seed h) i))) :
    Calls Tryz.prog 40 #[.agg (sgV who (i : Int) (K.sign (K.secs seed i) d) A h c).toArray, .agg (sgV who (i : Int) (K.sign (K.secs seed i) d) B h e).toArray] w fun e w' => e = .returned (.bool true) ∧ Ext w w' := by
  have hpl := K.path_len h (K.pubs seed h) i
  have h := same_calls who (i : Int) (K.sign (K.secs seed i) d) (own_len _ _ _) (own_lt _ _ _) (K.path h (K.pubs seed h) i) (by rw [hpl]; omega) A B c e w hA hB
  rw [hpl] at h
  exact h
end Go.Proofs.YtbbgmlnfpnomiaaGreatDoor
