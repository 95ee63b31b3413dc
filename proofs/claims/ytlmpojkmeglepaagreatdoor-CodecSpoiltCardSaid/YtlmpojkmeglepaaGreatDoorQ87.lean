import Derived.Test.YtlmpojkmeglepaaGreatDoorQ35
import Derived.Test.YtlmpojkmeglepaaGreatDoorQ62
import Derived.Test.YtlmpojkmeglepaaGreatDoorQ83
set_option linter.all false
set_option maxHeartbeats 1000000
namespace Go.Proofs.YtlmpojkmeglepaaGreatDoor
open Go Go.RowKit Sl Eg
set_option maxRecDepth 10000
variable {E:Env}{Es:List Ent}{pp tb s most m bm:Nat}{f:Int→Option Value}
theorem SigOf.sn {L:List Rl}{x y:Nat}(h:SigOf L x y):Sn L (txt L x) y:=⟨h.2.2.2,h.2.1,h.2.2.1⟩
theorem Sn.of {L:List Rl}{x y:Nat}{t:List UInt8}(h:Sn L t y)(hx:x≤L.length)(ht:txt L x=t):SigOf L x y:=⟨hx,by rw[h.tx,ht],h.gd,by rw[ht];exact h.sg⟩
end Go.Proofs.YtlmpojkmeglepaaGreatDoor
