/- The walks of the law's Of, of SameID. -/
import Derived.Test.YtifanmggfoicfaaDoorWCheck
set_option linter.unusedVariables false
namespace Go.Proofs.YtifanmggfoicfaaDoor
open Go.RowKit
def sameB (c n c' n' : Int) : Bool := decide (c = c' ∧ n = n')
theorem textId_calls (n : Int) (w : World) : Calls Tryd.prog 44 #[.int .i64 n] w fun e w' => e = .returned (.int .i64 n) ∧ w = w' := by
  go_enter Tryd.func44, Tryd.ntmps44
  go_wp2
  go_ret
  exact ⟨rfl, rfl⟩
end Go.Proofs.YtifanmggfoicfaaDoor
