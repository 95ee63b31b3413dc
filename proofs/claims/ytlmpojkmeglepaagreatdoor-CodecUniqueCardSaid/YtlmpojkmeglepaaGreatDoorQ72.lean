import Derived.Test.YtlmpojkmeglepaaGreatDoorQ69
import Derived.Test.YtlmpojkmeglepaaGreatDoorQ71
set_option linter.all false
set_option maxHeartbeats 1000000
namespace Go.Proofs.YtlmpojkmeglepaaGreatDoor
open Go Go.RowKit Sl Eg
set_option maxRecDepth 10000
variable {E:Env}{L:List Rl}{l:List Im}{ys:List Nat}
theorem qPo (A:List (List UInt8×Nat))(a:List UInt8)(n:Nat):encM (A++[(a,n)])=encM A++iA a++vput n:=by
 unfold encM
 rw[List.flatMap_append]
 simp
end Go.Proofs.YtlmpojkmeglepaaGreatDoor
