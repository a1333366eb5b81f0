/- What known() of law 11 calls, in the numbers that it uses. -/
import Derived.Test.YtbbgmlnfpnomiaaGreatDoorStF
set_option linter.unusedVariables false
set_option linter.unusedSimpArgs false
namespace Go.Proofs.YtbbgmlnfpnomiaaGreatDoor
open Go.RowKit Go.Sort
noncomputable def S11 (A : Option Addr) (c : Nat) : List Value := stV 77 2 9 (sgV 2 0 one11 A 1 c)
noncomputable def T11 (A : Option Addr) (c : Nat) : List Value := stV 77 2 10 (sgV 2 0 one11 A 1 c)
noncomputable def U11 (A : Option Addr) (c : Nat) : List Value := stV 77 1 9 (sgV 2 0 one11 A 1 c)
theorem S11_len (A : Option Addr) (c : Nat) : (S11 A c).length = 24 := stV_len _ _ _ _ (sgV_len _ _ _ one11_len _ _ _)
theorem S11_one (A : Option Addr) (c : Nat) : ∀ x ∈ S11 A c, x.oneCell' = true := stV_one _ _ _ _ (sgV_one _ _ _ _ _ _)
theorem T11_len (A : Option Addr) (c : Nat) : (T11 A c).length = 24 := stV_len _ _ _ _ (sgV_len _ _ _ one11_len _ _ _)
theorem U11_len (A : Option Addr) (c : Nat) : (U11 A c).length = 24 := stV_len _ _ _ _ (sgV_len _ _ _ one11_len _ _ _)
theorem S11_T (A : Option Addr) (c : Nat) : (S11 A c).set 2 (.int .i64 10) = T11 A c := rfl
theorem S11_U (A : Option Addr) (c : Nat) : (S11 A c).set 1 (.int .i64 1) = U11 A c := rfl
theorem keys11 (w : World) : Calls Tryz.prog 83 #[.int .i64 1, .int .u64 5, .int .i64 1] w fun e w' => (∃ kb A c L cl RA rc, e = .returned (.tuple #[.slice L 4 cl, .agg (kyV 1 RA 4 rc 1).toArray]) ∧ Rd w' L (kPs kb 4) ∧ Rd w' RA (cDg (kRoots 5 1 4)) ∧ KS w' kb A c 5 1 4 (fun _ => 0) 2 ∧ (∀ i, i < 4 → w.heap.size ≤ kb i) ∧ (∀ ad, L = some ad → ∀ i, i < 4 → ad.block ≠ kb i) ∧ (∀ ad, RA = some ad → ∀ i, i < 4 → ad.block ≠ kb i)) ∧ Ext w w' := keys_calls 5 (by decide) 1 (by decide) w
theorem make11a {kb : Nat} {A : Option Addr} {c : Nat} (w : World) (tok : TOk w) (k : KA w kb 2 (kSeed 5 2) 1 A c 0 2) : Calls Tryz.prog 109 #[kP kb, .int .i64 2, .int .u64 77, .int .i64 9] w fun e w' => (∃ A' c', e = .returned (.tuple #[.agg (S11 A' c').toArray, .int .i64 0]) ∧ Rd w' A' (cDg path11) ∧ (∀ ad, A' = some ad → w.heap.size ≤ ad.block)) ∧ KA w' kb 2 (kSeed 5 2) 1 A c 1 2 ∧ KG kb w w' := smake_ok 2 (by unfold I64; decide) 77 (by decide) 9 (by decide) w tok (by decide) 0 (kSeed_lt _ _) (by decide) (by decide) k
theorem make11b (kv : Value) (w : World) : Calls Tryz.prog 109 #[kv, .int .i64 0, .int .u64 77, .int .i64 0] w fun e w' => e = .returned (.tuple #[.agg stZ.toArray, .int .i64 1]) ∧ Ext w w' := smake_when kv 0 77 0 (by decide) w
theorem text11 (A : Option Addr) (c : Nat) (w : World) (h : Rd w A (cDg path11)) (ht : TOk w) : Calls Tryz.prog 50 #[.agg (S11 A c).toArray] w fun e w' => e = .returned (.string (strOf (K.stx st11))) ∧ Ext w w' := by
  have h := stext_calls st11 st11_ok (by show path11.length ≤ 100; rw [path11_len]; decide) A c w h ht
  rw [show stC st11 A c = S11 A c by show stV 77 2 9 (sgV 2 0 one11 A path11.length c) = _; rw [path11_len]; rfl] at h
  exact h
theorem parse11 (w : World) (hg : Gl w) (hr : RngOk w) : Calls Tryz.prog 54 #[.string (strOf (K.stx st11))] w fun e w' => (∃ A c, e = .returned (.tuple #[.agg (S11 A c).toArray, .int .i64 0]) ∧ Rd w' A (cDg path11)) ∧ Ext w w' := by
  have hl := K.stx_len st11 st11_ok (by show path11.length ≤ 100; rw [path11_len]; decide)
  refine (sparse_calls (strOf (K.stx st11)) (by rw [size_strOf]; omega) w hg hr).mono ?_
  rintro e w' ⟨h, hx⟩
  refine ⟨?_, hx⟩
  rw [show bs (strOf (K.stx st11)) = K.stx st11 from bs_strOf _, K.pst_stx st11 st11_ok ⟨by decide, by decide, by decide, by decide, one11_len, by show path11.length ≤ 8; rw [path11_len]; decide⟩] at h
  obtain ⟨A, c, h1, h2, -⟩ := h
  refine ⟨A, c, ?_, h2⟩
  rw [h1, show stC st11 A c = S11 A c by show stV 77 2 9 (sgV 2 0 one11 A path11.length c) = _; rw [path11_len]; rfl]
theorem valid11a (RA A : Option Addr) (rc c : Nat) (w : World) (hR : Rd w RA (cDg (kRoots 5 1 4))) (hA : Rd w A (cDg path11)) (ht : TOk w) : Calls Tryz.prog 52 #[.agg (kyV 1 RA 4 rc 1).toArray, .agg (S11 A c).toArray] w fun e w' => e = .returned (.int .i64 0) ∧ Ext w w' := by
  have h := svalid_calls 1 (by decide) (kRoots 5 1 4) (kRoots_lt _ _ _) RA rc 1 77 (by decide) 2 9 (by unfold I64; decide) (by unfold I64; decide) 2 0 one11 one11_len one11_lt A c path11 path11_lt w hR hA ht
  rw [kRoots_len, path11_len, vE1] at h
  exact h
theorem valid11b (RA A : Option Addr) (rc c : Nat) (w : World) (hR : Rd w RA (cDg (kRoots 5 1 4))) (hA : Rd w A (cDg path11)) (ht : TOk w) : Calls Tryz.prog 52 #[.agg (kyV 1 RA 4 rc 1).toArray, .agg (T11 A c).toArray] w fun e w' => e = .returned (.int .i64 7) ∧ Ext w w' := by
  have h := svalid_calls 1 (by decide) (kRoots 5 1 4) (kRoots_lt _ _ _) RA rc 1 77 (by decide) 2 10 (by unfold I64; decide) (by unfold I64; decide) 2 0 one11 one11_len one11_lt A c path11 path11_lt w hR hA ht
  rw [kRoots_len, path11_len, vE2] at h
  exact h
theorem valid11c (RA A : Option Addr) (rc c : Nat) (w : World) (hR : Rd w RA (cDg (kRoots 5 1 4))) (hA : Rd w A (cDg path11)) (ht : TOk w) : Calls Tryz.prog 52 #[.agg (kyV 1 RA 4 rc 1).toArray, .agg (U11 A c).toArray] w fun e w' => e = .returned (.int .i64 7) ∧ Ext w w' := by
  have h := svalid_calls 1 (by decide) (kRoots 5 1 4) (kRoots_lt _ _ _) RA rc 1 77 (by decide) 1 9 (by unfold I64; decide) (by unfold I64; decide) 2 0 one11 one11_len one11_lt A c path11 path11_lt w hR hA ht
  rw [kRoots_len, path11_len, vE3] at h
  exact h
theorem same11a (A B : Option Addr) (c d : Nat) (w : World) (hA : Rd w A (cDg path11)) (hB : Rd w B (cDg path11)) : Calls Tryz.prog 58 #[.agg (S11 A c).toArray, .agg (S11 B d).toArray] w fun e w' => e = .returned (.bool true) ∧ Ext w w' := by
  have h := ssame_calls 77 2 9 2 0 one11 one11_len one11_lt path11 (by rw [path11_len]; decide) A B c d w hA hB
  rw [path11_len] at h
  exact h
theorem same11b (A B : Option Addr) (c d : Nat) (w : World) : Calls Tryz.prog 58 #[.agg (T11 A c).toArray, .agg (S11 B d).toArray] w fun e w' => e = .returned (.bool false) ∧ Ext w w' := ssame_at 77 2 10 9 (by decide) _ _ w
theorem check11 (RA : Option Addr) (rc : Nat) (w : World) : Calls Tryz.prog 45 #[.agg (kyV 1 RA 4 rc 1).toArray] w fun e w' => e = .returned (.int .i64 0) ∧ Ext w w' := by
  have h := scheck_calls 1 RA 4 rc 1 w
  rw [show K.ckE 1 4 1 = 0 by decide] at h
  exact h
abbrev lit11 : ByteArray := ⟨#[124, 115, 116, 97, 109, 112, 124, 48, 48, 48, 48, 48, 48, 48, 48, 48, 48, 48, 48, 48, 48, 52, 100, 124, 50, 124, 57]⟩
theorem words11 (w : World) (ht : TOk w) : Calls Tryz.prog 48 #[.int .u64 77, .int .i64 2, .int .i64 9] w fun e w' => e = .returned (.string lit11) ∧ Ext w w' := by
  have h := swords_calls 77 (by decide) 2 9 (by unfold I64; decide) (by unfold I64; decide) w ht
  rw [stT11] at h
  exact h
theorem digest11 (w : World) (ht : TOk w) : Calls Tryz.prog 46 #[.int .u64 77, .int .i64 2, .int .i64 9] w fun e w' => e = .returned (.int .u64 (d11 : Nat)) ∧ Ext w w' := sdigest_calls 77 (by decide) 2 9 (by unfold I64; decide) (by unfold I64; decide) w ht
theorem of11 (w : World) : Calls Tryz.prog 139 #[.string bTag, .string lit11] w fun e w' => e = .returned (.int .u64 (d11 : Nat)) ∧ Ext w w' := by
  have h := of_calls bTag lit11 (by decide) (by decide) w
  have e : S.sumN bTag.data.toList lit11.data.toList = d11 := by unfold d11 K.stD; rw [stT11]; rfl
  rw [e] at h
  exact h
end Go.Proofs.YtbbgmlnfpnomiaaGreatDoor
