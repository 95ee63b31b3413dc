import Derived.Test.YtnicahfnolhgbaaGreatDoorQCla
import Derived.ChangeArms
set_option linter.all false
set_option maxHeartbeats 1000000
namespace Go.Proofs.YtnicahfnolhgbaaGreatDoor
open Go Go.ChangeShapes Go.WideShapes Go.ChangeAt Go.WideMaps Go.WideElems Go.RowKit Go.ChangeMaps Sl
def qRn {cs:List Value}{o:Nat}{v:Value}(h:(cs.drop o).take 1=[v]):cs[o]?=some v:=by
 have:=au (fun l=>l[0]?) h;simpa[ni,om]using this
