import Derived.Test.YtblljbllmnbiaaaGreatDoorQ21
set_option linter.all false
set_option maxHeartbeats 1000000
namespace Go.Proofs.YtblljbllmnbiaaaGreatDoor
open Go Eg
def pick (n:Int)(many:Nat):Nat:=(n%(many:Int)).toNat
end Go.Proofs.YtblljbllmnbiaaaGreatDoor
