import Derived.Test.YtlmpojkmeglepaaGreatDoorQ39
set_option linter.all false
set_option maxHeartbeats 1000000
namespace Go.Proofs.YtlmpojkmeglepaaGreatDoor
section
open Go Eg
def pick (n:Int)(many:Nat):Nat:=(n%(many:Int)).toNat
end
section
open Go Go.RowKit Sl Eg
set_option maxRecDepth 10000
variable {E:Env}{L:List Rl}
def rusC (L:List Rl):List Value:=L.flatMap rlC
end
end Go.Proofs.YtlmpojkmeglepaaGreatDoor
