/- Signatures' contracts in one form: of, to, same, text, reading back. -/
import Derived.Test.YtbbgmlnfpnomiaaGreatDoorKCv
import Derived.Test.YtbbgmlnfpnomiaaGreatDoorKR4
import Derived.Test.YtbbgmlnfpnomiaaGreatDoorKUse
set_option linter.unusedVariables false
namespace Go.Proofs.YtbbgmlnfpnomiaaGreatDoor
open Go.RowKit Go.Sort
/-- No signature. -/
def sg0 : K.Sg := ⟨0, 0, List.replicate 18 0, []⟩
def sgOf (r : Option K.Sg) : K.Sg := r.getD sg0
def sgCode (r : Option K.Sg) : Int := match r with | some _ => 0 | none => 2
abbrev sgC (g : K.Sg) (A : Option Addr) (c : Nat) : List Value := sgV g.who g.leaf g.one A g.path.length c
theorem sigEnd_of {n0 : Nat} {r : Option K.Sg} {e : Ending} {w : World} (h : SigEnd n0 r e w) : ∃ A c, e = .returned (.tuple #[.agg (sgC (sgOf r) A c).toArray, .int .i64 (sgCode r)]) ∧ Rd w A (cDg (sgOf r).path) := by
  cases r with
  | none => exact ⟨none, 0, h, Rd.nil _ _⟩
  | some g => obtain ⟨A, c, h1, h2, -⟩ := h; exact ⟨A, c, h1, h2⟩
structure SgBd (g : K.Sg) : Prop where
  who : I64 g.who
  leaf : I64 g.leaf
  one : ∀ x ∈ g.one, x < 18446744073709551616
  path : ∀ x ∈ g.path, x < 18446744073709551616
  len : g.one.length = 18
theorem sgBd_of (s : List UInt8) : SgBd (sgOf (K.psig s)) ∧ (sgOf (K.psig s)).path.length ≤ 8 := by
  cases h : K.psig s with
  | none => exact ⟨⟨by unfold I64; decide, by unfold I64; decide, by decide, by decide, rfl⟩, by decide⟩
  | some g =>
    obtain ⟨h1, h2, h3, h4, h5, h6⟩ := K.sigT_psig h
    exact ⟨⟨h3, h4, h5, h6, h2.2.2.2.1⟩, h2.2.2.2.2⟩
theorem same_sg (g : K.Sg) (hg : SgBd g) (hp : g.path.length ≤ 100) (A B : Option Addr) (c d : Nat) (w : World) (hA : Rd w A (cDg g.path)) (hB : Rd w B (cDg g.path)) :
    Calls Tryz.prog 40 #[.agg (sgC g A c).toArray, .agg (sgC g B d).toArray] w fun e w' => e = .returned (.bool true) ∧ Ext w w' := same_calls g.who g.leaf g.one hg.len hg.one g.path (by omega) A B c d w hA hB
theorem rsame_sg (g : K.Sg) (hg : SgBd g) (hp : g.path.length ≤ 100) (A B : Option Addr) (c d : Nat) (w : World) (hA : Rd w A (cDg g.path)) (hB : Rd w B (cDg g.path)) :
    Calls Tryz.prog 24 #[.agg (sgC g A c).toArray, .agg (sgC g B d).toArray] w fun e w' => e = .returned (.bool true) ∧ Ext w w' := rsame_calls g.who g.leaf g.one hg.len hg.one g.path (by omega) A B c d w hA hB
theorem of_sg (g : K.Sg) (hg : SgBd g) (hp : g.path.length ≤ 100) (A : Option Addr) (c : Nat) (w : World) (hA : Rd w A (cDg g.path)) :
    Calls Tryz.prog 25 #[.agg (sgC g A c).toArray] w fun e w' => (∃ A' c', e = .returned (.agg (sgC g A' c').toArray) ∧ Rd w' A' (cDg g.path) ∧ (∀ ad, A' = some ad → w.heap.size ≤ ad.block)) ∧ Ext w w' := of5_calls g.who g.leaf g.one hg.len g.path (by omega) A c w hA
theorem to_sg (g : K.Sg) (hg : SgBd g) (hp : g.path.length ≤ 100) (A : Option Addr) (c : Nat) (w : World) (hA : Rd w A (cDg g.path)) :
    Calls Tryz.prog 38 #[.agg (sgC g A c).toArray] w fun e w' => (∃ A' c', e = .returned (.agg (sgC g A' c').toArray) ∧ Rd w' A' (cDg g.path) ∧ (∀ ad, A' = some ad → w.heap.size ≤ ad.block)) ∧ Ext w w' := to5_calls g.who g.leaf g.one hg.len g.path (by omega) A c w hA
theorem text_sg (g : K.Sg) (hg : SgBd g) (hp : g.path.length ≤ 100) (A : Option Addr) (c : Nat) (w : World) (hA : Rd w A (cDg g.path)) (ht : TOk w) :
    Calls Tryz.prog 37 #[.agg (sgC g A c).toArray] w fun e w' => e = .returned (.string (strOf (K.sigT g))) ∧ Ext w w' := ktext_calls g hg.who hg.leaf hg.one hg.path hg.len hp A c w hA ht
theorem rtext_sg (g : K.Sg) (hg : SgBd g) (hp : g.path.length ≤ 100) (A : Option Addr) (c : Nat) (w : World) (hA : Rd w A (cDg g.path)) :
    Calls Tryz.prog 39 #[.agg (sgC g A c).toArray] w fun e w' => e = .returned (.string (strOf (K.sigT g))) ∧ Ext w w' := rsigtext_calls g hg.who hg.leaf hg.one hg.path hg.len hp A c w hA
theorem sgC_len (g : K.Sg) (hg : SgBd g) (A : Option Addr) (c : Nat) : (sgC g A c).length = 21 := sgV_len _ _ _ hg.len _ _ _
theorem sgC_one (g : K.Sg) (A : Option Addr) (c : Nat) : ∀ x ∈ sgC g A c, x.oneCell' = true := sgV_one _ _ _ _ _ _
theorem strOf_bs (s : ByteArray) : strOf (bs s) = s := by cases s; rfl
end Go.Proofs.YtbbgmlnfpnomiaaGreatDoor
