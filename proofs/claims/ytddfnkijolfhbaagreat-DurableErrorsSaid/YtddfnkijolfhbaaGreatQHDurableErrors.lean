/- evergreen DurableErrors: for every name and every number the law returns true; the input reads as it did. The row. Conditions: none. -/
import Derived.Test.YtddfnkijolfhbaaGreatQJDurableErrors
import Derived.Test.YtddfnkijolfhbaaGreatQRDurableErrors
set_option linter.all false
set_option maxHeartbeats 1000000
namespace Go.Proofs.YtddfnkijolfhbaaGreat
open Go Go.ChangeShapes Go.WideShapes Go.ChangeAt Go.WideMaps Go.WideElems Go.RowKit Go.ChangeMaps Sl
theorem durableErrors_holds : Rows.DurableErrorsSaid :=
 OpenClaim.holds_of_wide 3 Tryz.f3 rfl rfl rfl rfl rfl rfl rfl ⟨rfl, rfl, rfl, rfl, rfl⟩ rfl rfl rfl rfl rfl (by kernel_rfl) Tryz.func3 durableErrors_joined
  (of_decide_eq_true (by kernel_rfl)) (by unfold Func.isWrapper; first | (rw [if_pos (by decide +kernel)]; kernel_rfl) | (rw [if_neg (by decide +kernel)]; exact ⟨rfl, rfl⟩))
  (fun os started H enc _ => durableErrors_lifted os started H enc)
#print axioms durableErrors_holds
end Go.Proofs.YtddfnkijolfhbaaGreat
