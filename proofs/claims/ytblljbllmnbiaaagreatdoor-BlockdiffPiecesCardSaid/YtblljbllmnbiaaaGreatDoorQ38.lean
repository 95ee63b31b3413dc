import Derived.Test.YtblljbllmnbiaaaGreatDoorQ35
set_option linter.all false
set_option maxHeartbeats 1000000
namespace Go.Proofs.YtblljbllmnbiaaaGreatDoor
open Go Go.RowKit Sl Eg
def rep {α:Type}(k:Nat)(l:List α):List α:=(List.replicate k l).flatten
end Go.Proofs.YtblljbllmnbiaaaGreatDoor
