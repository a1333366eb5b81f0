/- strings.Trim at the ten digits: empty just where all are digits. -/
import Derived.Test.YthjldedjllkeeaaGreatDoorWRPnum
import Derived.Shelf.Strings.SlTrimAscii
set_option linter.unusedVariables false
namespace Go.Proofs.YthjldedjllkeeaaGreatDoor
open Go.RowKit
abbrev tens : ByteArray := ⟨#[48, 49, 50, 51, 52, 53, 54, 55, 56, 57]⟩
theorem trim_calls (s : ByteArray) (hs : s.size ≤ 9223372036854775807) (w : World) :
    Calls Tryz.prog 130 #[.string s, .string tens] w fun e w' => e = .returned (.string ⟨(Lib.trimS s.data.toList tens.data.toList).toArray⟩) ∧ Ext w w' :=
  Any.strings_Trim_laid Tryz.lays160 (by kernel_rfl) s tens w hs (by decide) (ascii_of_all (by decide))
theorem dropWhile_nil {p : UInt8 → Bool} (m : List UInt8) (h : ∀ x ∈ m.dropWhile p, p x = true) : m.dropWhile p = [] := by
  induction m with
  | nil => rfl
  | cons a m ih =>
    rw [List.dropWhile_cons] at h ⊢
    split at h
    · rename_i hp
      rw [if_pos hp]
      exact ih h
    · rename_i hp
      exact absurd (h a (by simp)) hp
theorem dropWhile_iff {p : UInt8 → Bool} (m : List UInt8) : m.dropWhile p = [] ↔ ∀ x ∈ m, p x = true := by
  induction m with
  | nil => simp
  | cons a m ih =>
    rw [List.dropWhile_cons]
    by_cases hp : p a = true
    · rw [if_pos hp, ih]
      simp [hp]
    · rw [if_neg hp]
      simp [hp]
/-- Nothing is left just where all are of the set. -/
theorem trimS_nil (l cs : List UInt8) : Lib.trimS l cs = [] ↔ ∀ c ∈ l, cs.contains c = true := by
  unfold Lib.trimS Lib.trimLeftS Lib.trimRightS
  constructor
  · intro h c hc
    have h1 := (dropWhile_iff _).1 h
    have h2 : l.reverse.dropWhile (cs.contains ·) = [] := dropWhile_nil _ fun x hx => h1 x (List.mem_reverse.2 hx)
    exact (dropWhile_iff _).1 h2 c (List.mem_reverse.2 hc)
  · intro h
    have h2 : l.reverse.dropWhile (cs.contains ·) = [] := (dropWhile_iff _).2 fun x hx => h x (List.mem_reverse.1 hx)
    rw [h2]
    rfl
theorem tens_all : ∀ i : Fin 256, tens.data.toList.contains (UInt8.ofNat i.val) = decide (48 ≤ i.val ∧ i.val ≤ 57) := by decide +kernel
theorem tens_iff (c : UInt8) : tens.data.toList.contains c = true ↔ J.isDig c := by
  have h := tens_all ⟨c.toNat, c.toNat_lt⟩
  rw [show UInt8.ofNat c.toNat = c from UInt8.ofNat_toNat] at h
  rw [h, decide_eq_true_iff]
  exact Iff.rfl
theorem trim_digits (l : List UInt8) : Lib.trimS l tens.data.toList = [] ↔ ∀ c ∈ l, J.isDig c := by
  rw [trimS_nil]
  exact ⟨fun h c hc => (tens_iff c).1 (h c hc), fun h c hc => (tens_iff c).2 (h c hc)⟩
end Go.Proofs.YthjldedjllkeeaaGreatDoor
