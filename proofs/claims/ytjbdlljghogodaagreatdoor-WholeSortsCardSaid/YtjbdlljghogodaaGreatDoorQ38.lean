import Derived.Test.YtjbdlljghogodaaGreatDoorQ35
set_option linter.all false
set_option maxHeartbeats 1000000
namespace Go.Proofs.YtjbdlljghogodaaGreatDoor
open Go Go.RowKit Sl Eg
def rep {α:Type}(k:Nat)(l:List α):List α:=(List.replicate k l).flatten
theorem kK {α:Type}(l:List α):rep 0 l=[]:=rfl
end Go.Proofs.YtjbdlljghogodaaGreatDoor
