/- evergreen DurableGreat: for every text, every number and both ways of writing the law returns true; the input reads as it did. The row. Conditions: none. -/
import Derived.Test.YtddfnkijolfhbaaGreatQJDurableGreat
import Derived.Test.YtddfnkijolfhbaaGreatQRDurableGreat
set_option linter.all false
set_option maxHeartbeats 1000000
namespace Go.Proofs.YtddfnkijolfhbaaGreat
open Go Go.ChangeShapes Go.WideShapes Go.ChangeAt Go.WideMaps Go.WideElems Go.RowKit Go.ChangeMaps Sl
theorem durableGreat_holds : Rows.DurableGreatSaid :=
 OpenClaim.holds_of_wide 5 Tryz.f5 rfl rfl rfl rfl rfl rfl rfl ⟨rfl, rfl, rfl, rfl, rfl⟩ rfl rfl rfl rfl rfl (by kernel_rfl) Tryz.func5 durableGreat_joined
  (of_decide_eq_true (by kernel_rfl)) (by unfold Func.isWrapper; first | (rw [if_pos (by decide +kernel)]; kernel_rfl) | (rw [if_neg (by decide +kernel)]; exact ⟨rfl, rfl⟩))
  (fun os started H enc _ => durableGreat_lifted os started H enc)
#print axioms durableGreat_holds
end Go.Proofs.YtddfnkijolfhbaaGreat
