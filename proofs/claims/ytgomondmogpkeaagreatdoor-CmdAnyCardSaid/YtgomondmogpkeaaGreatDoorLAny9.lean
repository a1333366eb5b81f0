/- The law CmdAny: all ways together. -/
import Derived.Test.YtgomondmogpkeaaGreatDoorLAnyA
import Derived.Test.YtgomondmogpkeaaGreatDoorLAnyB
set_option linter.unusedVariables false
namespace Go.Proofs.YtgomondmogpkeaaGreatDoor
open Go.RowKit Go.Sort
theorem cmdAny_walk' {w : World} (c n f t a : Int) (h : I5 c n f t a) (c' n' f' t' a' : Int) (h' : I5 c' n' f' t' a') (hg : RngOk w ∧ TabOk w) :
    Calls Tryz.prog 9 #[cV c n f t a, cV c' n' f' t' a'] w fun e w' => e = .returned (.bool true) ∧ Ext w w' := by
  rcases parse_text h with ⟨ho, hp⟩ | ⟨ho, q, hp⟩
  · by_cases e0 : c = c'
    case neg => exact any_0_1 c n f t a c' n' f' t' a' (by simpa using e0) h h' ho hp w hg.1 hg.2
    subst e0
    by_cases e1 : n = n'
    case neg => exact any_1_1 c n f t a n' f' t' a' (by simpa using e1) h h' ho hp w hg.1 hg.2
    subst e1
    by_cases e2 : f = f'
    case neg => exact any_2_1 c n f t a f' t' a' (by simpa using e2) h h' ho hp w hg.1 hg.2
    subst e2
    by_cases e3 : t = t'
    case neg => exact any_3_1 c n f t a t' a' (by simpa using e3) h h' ho hp w hg.1 hg.2
    subst e3
    by_cases e4 : a = a'
    case neg => exact any_4_1 c n f t a a' (by simpa using e4) h h' ho hp w hg.1 hg.2
    subst e4
    exact any_5_1 c n f t a h h ho hp w hg.1 hg.2
  · by_cases e0 : c = c'
    case neg => exact any_0_0 c n f t a c' n' f' t' a' (by simpa using e0) h h' ho q hp w hg.1 hg.2
    subst e0
    by_cases e1 : n = n'
    case neg => exact any_1_0 c n f t a n' f' t' a' (by simpa using e1) h h' ho q hp w hg.1 hg.2
    subst e1
    by_cases e2 : f = f'
    case neg => exact any_2_0 c n f t a f' t' a' (by simpa using e2) h h' ho q hp w hg.1 hg.2
    subst e2
    by_cases e3 : t = t'
    case neg => exact any_3_0 c n f t a t' a' (by simpa using e3) h h' ho q hp w hg.1 hg.2
    subst e3
    by_cases e4 : a = a'
    case neg => exact any_4_0 c n f t a a' (by simpa using e4) h h' ho q hp w hg.1 hg.2
    subst e4
    exact any_5_0 c n f t a h h ho q hp w hg.1 hg.2
end Go.Proofs.YtgomondmogpkeaaGreatDoor
