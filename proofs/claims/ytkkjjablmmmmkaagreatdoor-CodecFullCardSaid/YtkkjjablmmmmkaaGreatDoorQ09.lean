import Derived.Test.YtkkjjablmmmmkaaGreatDoorQ08
set_option linter.all false
namespace Go.Proofs.YtkkjjablmmmmkaaGreatDoor
open Go Go.RowKit Sl Eg
set_option maxRecDepth 10000
variable {E : Env} {Es : List Ent} {pp tb s most : Nat}
def good (L : List Rl) (i : Nat) : Prop := i ≤ L.length ∧ 0 ≤ lvl L i
end Go.Proofs.YtkkjjablmmmmkaaGreatDoor
