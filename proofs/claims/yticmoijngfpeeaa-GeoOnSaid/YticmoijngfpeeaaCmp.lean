/- cmp.Compare at ints. -/
import Derived.Test.YticmoijngfpeeaaCmp0
namespace Go.Proofs.Yticmoijngfpeeaa
set_option linter.unusedSimpArgs false
set_option linter.unusedVariables false
open Go.RowKit
set_option maxHeartbeats 400000 in
theorem cmpc_any (a b : Int) (w : World) :
    Calls Try.prog 40 #[.int .i64 a, .int .i64 b] w fun e w' => e = .returned (.int .i64 (cmpOf a b)) ∧ w = w' := by
  go_enter Try.func40, Try.ntmps40
  go_wp2
  all_goals go_ret
  all_goals exact ⟨ret_int (by unfold cmpOf; (repeat' split) <;> omega), rfl⟩
end Go.Proofs.Yticmoijngfpeeaa
