/- The walk of the law CmdAny. -/
import Derived.Test.YtgomondmogpkeaaGreatDoorWKnown9
import Derived.Test.YtgomondmogpkeaaGreatDoorGrow
set_option linter.unusedVariables false
namespace Go.Proofs.YtgomondmogpkeaaGreatDoor
open Go.RowKit Go.Sort
theorem parse_text {c n f t a : Int} (hb : I5 c n f t a) : (OkC c n f t a ∧ parseC (bs (textC c n f t a)) = ((c, n, f, t, a), 0)) ∨ (¬ OkC c n f t a ∧ ∃ k : Nat, parseC (bs (textC c n f t a)) = ((0, 0, 0, 0, 0), k)) := by
  have h : J.pnums (bs (textC c n f t a)) = .ok [c, n, f, t, a] := J.pnums_numsL _ hb.all
  unfold parseC
  rw [h]
  by_cases ho : OkC c n f t a
  · refine .inl ⟨ho, ?_⟩
    obtain ⟨h1, h2, h3, h4, h5, h6⟩ := ho
    have s1 : smallB c = true := inB_true.2 (by omega)
    have s2 : smallB n = true := inB_true.2 (by omega)
    have s3 : smallB f = true := inB_true.2 (by omega)
    have s4 : smallB t = true := inB_true.2 (by omega)
    have s5 : okC c n f t a = true := okC_iff.2 ⟨h1, h2, h3, h4, h5, h6⟩
    simp [s1, s2, s3, s4, s5]
  · refine .inr ⟨ho, ?_⟩
    have s5 : okC c n f t a = false := by
      cases hh : okC c n f t a with
      | false => rfl
      | true => exact absurd (okC_iff.1 hh) ho
    dsimp only
    rw [s5]
    split
    · exact ⟨1, rfl⟩
    · exact ⟨2, rfl⟩
theorem text_inj {c n f t a c' n' f' t' a' : Int} (hb : I5 c n f t a) (hb' : I5 c' n' f' t' a') (h : textC c n f t a = textC c' n' f' t' a') : [c, n, f, t, a] = [c', n', f', t', a'] := by
  have h1 : J.pnums (bs (textC c n f t a)) = .ok [c, n, f, t, a] := J.pnums_numsL _ hb.all
  have h2 : J.pnums (bs (textC c' n' f' t' a')) = .ok [c', n', f', t', a'] := J.pnums_numsL _ hb'.all
  rw [h, h2] at h1
  injection h1 with h1
  exact h1.symm
end Go.Proofs.YtgomondmogpkeaaGreatDoor
