/- Stamps' contracts in one form: of, to, same, text, reading back. -/
import Derived.Test.YtbbgmlnfpnomiaaGreatDoorKSg
import Derived.Test.YtbbgmlnfpnomiaaGreatDoorStQ
import Derived.Test.YtbbgmlnfpnomiaaGreatDoorStP
import Derived.Test.YtbbgmlnfpnomiaaGreatDoorStV
import Derived.Test.YtbbgmlnfpnomiaaGreatDoorStS
set_option linter.unusedVariables false
namespace Go.Proofs.YtbbgmlnfpnomiaaGreatDoor
open Go.RowKit Go.Sort
/-- No stamp. -/
def st0 : K.St := ⟨0, 0, 0, sg0⟩
def stOf (r : Except Nat K.St) : K.St := match r with | .ok s => s | .error _ => st0
def stCode (r : Except Nat K.St) : Int := match r with | .ok _ => 0 | .error n => (n : Int)
theorem st0_ok : K.StOk st0 := ⟨by decide, by unfold I64; decide, by unfold I64; decide, ⟨by unfold I64; decide, by unfold I64; decide, by decide, by decide, rfl⟩⟩
theorem pstEnd_of {n0 : Nat} {r : Except Nat K.St} {e : Ending} {w : World} (h : PstEnd n0 r e w) : ∃ A c, e = .returned (.tuple #[.agg (stC (stOf r) A c).toArray, .int .i64 (stCode r)]) ∧ Rd w A (cDg (stOf r).sig.path) ∧ (∀ ad, A = some ad → n0 ≤ ad.block) := by
  cases r with
  | error n => exact ⟨none, 0, h, Rd.nil _ _, fun _ e => by cases e⟩
  | ok g => exact h
theorem pst_pos {s : List UInt8} {n : Nat} (h : K.pst s = .error n) : n ≠ 0 := by
  unfold K.pst at h
  cases e : J.split s with
  | error k => rw [e] at h; injection h with h; subst h; exact split_err e
  | ok l =>
    rw [e] at h
    dsimp only at h
    unfold K.pstL at h
    split at h
    · split at h
      · cases h
      · injection h with h; omega
    · injection h with h; omega
theorem stBd_of (s : List UInt8) : K.StOk (stOf (K.pst s)) ∧ (stOf (K.pst s)).sig.path.length ≤ 8 := by
  cases h : K.pst s with
  | error n => exact ⟨st0_ok, by show st0.sig.path.length ≤ 8; decide⟩
  | ok g => exact ⟨(K.stx_pst h).2.1, (K.stx_pst h).2.2.2.2.2.2.2⟩
theorem stCode_pos (s : List UInt8) : stCode (K.pst s) = 0 ∨ 0 < stCode (K.pst s) := by
  cases h : K.pst s with
  | error n => have := pst_pos h; right; show (0 : Int) < (n : Int); omega
  | ok g => exact .inl rfl
theorem stCode_back (s : ByteArray) (h0 : stCode (K.pst (bs s)) = 0) : strOf (K.stx (stOf (K.pst (bs s)))) = s := by
  cases h : K.pst (bs s) with
  | error n =>
    have := pst_pos h
    rw [h] at h0
    have : (n : Int) = 0 := h0
    omega
  | ok g =>
    show strOf (K.stx g) = s
    rw [(K.stx_pst h).1, strOf_bs]
section
variable (x : K.St) (h : K.StOk x) (hp : x.sig.path.length ≤ 100) (A B : Option Addr) (c d : Nat) (w : World) (hA : Rd w A (cDg x.sig.path)) (hB : Rd w B (cDg x.sig.path))
include h hp hA
theorem of_st : Calls Tryz.prog 57 #[.agg (stC x A c).toArray] w fun e w' => (∃ A' c', e = .returned (.agg (stC x A' c').toArray) ∧ Rd w' A' (cDg x.sig.path) ∧ (∀ ad, A' = some ad → w.heap.size ≤ ad.block)) ∧ Ext w w' :=
  sof_calls x.cmd x.who x.at_ x.sig.who x.sig.leaf x.sig.one h.sig.len x.sig.path (by omega) A c w hA
theorem to_st : Calls Tryz.prog 43 #[.agg (stC x A c).toArray] w fun e w' => (∃ A' c', e = .returned (.agg (stC x A' c').toArray) ∧ Rd w' A' (cDg x.sig.path) ∧ (∀ ad, A' = some ad → w.heap.size ≤ ad.block)) ∧ Ext w w' :=
  sto_calls x.cmd x.who x.at_ x.sig.who x.sig.leaf x.sig.one h.sig.len x.sig.path (by omega) A c w hA
include hB in
theorem same_st : Calls Tryz.prog 58 #[.agg (stC x A c).toArray, .agg (stC x B d).toArray] w fun e w' => e = .returned (.bool true) ∧ Ext w w' :=
  ssame_calls x.cmd x.who x.at_ x.sig.who x.sig.leaf x.sig.one h.sig.len h.sig.one x.sig.path (by omega) A B c d w hA hB
include hB in
theorem rsame_st : Calls Tryz.prog 56 #[.agg (stC x A c).toArray, .agg (stC x B d).toArray] w fun e w' => e = .returned (.bool true) ∧ Ext w w' :=
  rssame_calls x.cmd x.who x.at_ x.sig.who x.sig.leaf x.sig.one h.sig.len h.sig.one x.sig.path (by omega) A B c d w hA hB
theorem text_st (ht : TOk w) : Calls Tryz.prog 50 #[.agg (stC x A c).toArray] w fun e w' => e = .returned (.string (strOf (K.stx x))) ∧ Ext w w' :=
  stext_calls x h hp A c w hA ht
theorem rtext_st : Calls Tryz.prog 51 #[.agg (stC x A c).toArray] w fun e w' => e = .returned (.string (strOf (K.stx x))) ∧ Ext w w' :=
  rstext_calls x h hp A c w hA
end
theorem parse_st (s : ByteArray) (hs : s.size ≤ 1000000) (w : World) (hg : Gl w) (hr : RngOk w) : Calls Tryz.prog 54 #[.string s] w fun e w' => (∃ A c, e = .returned (.tuple #[.agg (stC (stOf (K.pst (bs s))) A c).toArray, .int .i64 (stCode (K.pst (bs s)))]) ∧ Rd w' A (cDg (stOf (K.pst (bs s))).sig.path) ∧ (∀ ad, A = some ad → w.heap.size ≤ ad.block)) ∧ Ext w w' :=
  (sparse_calls s hs w hg hr).mono fun e w' h => ⟨pstEnd_of h.1, h.2⟩
theorem rparse_st (s : ByteArray) (hs : s.size ≤ 1000000) (w : World) : Calls Tryz.prog 55 #[.string s] w fun e w' => (∃ A c, e = .returned (.tuple #[.agg (stC (stOf (K.pst (bs s))) A c).toArray, .int .i64 (stCode (K.pst (bs s)))]) ∧ Rd w' A (cDg (stOf (K.pst (bs s))).sig.path) ∧ (∀ ad, A = some ad → w.heap.size ≤ ad.block)) ∧ Ext w w' :=
  (rpst_calls s hs w).mono fun e w' h => ⟨pstEnd_of h.1, h.2⟩
theorem stC_len (x : K.St) (h : K.StOk x) (A : Option Addr) (c : Nat) : (stC x A c).length = 24 := stV_len _ _ _ _ (sgV_len _ _ _ h.sig.len _ _ _)
theorem stC_one (x : K.St) (A : Option Addr) (c : Nat) : ∀ v ∈ stC x A c, v.oneCell' = true := stV_one _ _ _ _ (sgV_one _ _ _ _ _ _)
end Go.Proofs.YtbbgmlnfpnomiaaGreatDoor
