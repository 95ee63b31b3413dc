import Derived.Test.YtjbdlljghogodaaGreatDoorQCla
import Derived.ChangeArms
set_option linter.all false
set_option maxHeartbeats 1000000
namespace Go.Proofs.YtjbdlljghogodaaGreatDoor
open Go Go.ChangeShapes Go.WideShapes Go.ChangeAt Go.WideMaps Go.WideElems Go.RowKit Go.ChangeMaps Sl
theorem qLz {cs:List Value}{o:Nat}{v:Value}(h:(cs.drop o).take 1=[v]):cs[o]?=some v:=by
 have:=congrArg (fun l=>l[0]?) h
 simpa[List.getElem?_take,List.getElem?_drop]using this
end Go.Proofs.YtjbdlljghogodaaGreatDoor
