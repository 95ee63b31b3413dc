import Derived.Test.YtblljbllmnbiaaaGreatDoorQ72
set_option linter.all false
set_option maxHeartbeats 1000000
namespace Go.Proofs.YtblljbllmnbiaaaGreatDoor
open Go Go.RowKit Sl Eg
theorem Iso.len {L1 L2:List Rl}(w1:Wf L1)(w2:Wf L2){x y:Nat}(h:Iso L1 L2 x y):Eg.len L1 x=Eg.len L2 y:=by
 induction h with
 |letter h1 h2=>rw[sZ h1,sZ h2]
 |pair h1 h2 _ _ i1 i2=>rw[nV h1 (w1.ok _ _ h1),nV h2 (w2.ok _ _ h2),i1,i2]
 |power h1 h2 _ i=>rw[kH h1 (w1.ok _ _ h1),kH h2 (w2.ok _ _ h2),i]
end Go.Proofs.YtblljbllmnbiaaaGreatDoor
