/- evergreen DurableCuts: for every list of texts, every number and every list of numbers the law returns true; the input reads as it did. The row. Conditions: none. -/
import Derived.Test.YtddfnkijolfhbaaGreatQJDurableCuts
import Derived.Test.YtddfnkijolfhbaaGreatQRDurableCuts
set_option linter.all false
set_option maxHeartbeats 1000000
namespace Go.Proofs.YtddfnkijolfhbaaGreat
open Go Go.ChangeShapes Go.WideShapes Go.ChangeAt Go.WideMaps Go.WideElems Go.RowKit Go.ChangeMaps Sl
theorem durableCuts_holds : Rows.DurableCutsSaid :=
 OpenClaim.holds_of_wide 7 Tryz.f7 rfl rfl rfl rfl rfl rfl rfl ⟨rfl, rfl, rfl, rfl, rfl⟩ rfl rfl rfl rfl rfl (by kernel_rfl) Tryz.func7 durableCuts_joined
  (of_decide_eq_true (by kernel_rfl)) (by unfold Func.isWrapper; first | (rw [if_pos (by decide +kernel)]; kernel_rfl) | (rw [if_neg (by decide +kernel)]; exact ⟨rfl, rfl⟩))
  (fun os started H enc _ => durableCuts_lifted os started H enc)
#print axioms durableCuts_holds
end Go.Proofs.YtddfnkijolfhbaaGreat
