import Derived.Test.YtkkjjablmmmmkaaGreatDoorQ32
set_option linter.all false
namespace Go.Proofs.YtkkjjablmmmmkaaGreatDoor
open Go Go.RowKit Sl Eg
set_option maxRecDepth 10000
variable {E : Env} {Es : List Ent} {pp tb s most S : Nat}
theorem fits_tie {c x y : Nat} (h : c = 122) : qAt c x y ↔ x = y := by unfold qAt; rw [if_pos h]
end Go.Proofs.YtkkjjablmmmmkaaGreatDoor
