import Derived.Test.YtnicahfnolhgbaaGreatDoorQ13
import Derived.Test.YtnicahfnolhgbaaGreatDoorQ17
import Derived.Test.YtnicahfnolhgbaaGreatDoorQCla
import Derived.ChangeArms
import Derived.ChangeSlices
import Derived.Deep.Matrix
import Derived.SizedLaws
set_option linter.all false
set_option maxHeartbeats 1000000
namespace Go.Proofs.YtnicahfnolhgbaaGreatDoor
open Go Go.ChangeShapes Go.WideShapes Go.ChangeAt Go.WideMaps Go.WideElems Go.RowKit Go.ChangeMaps Sl Eg
def zAo {W:World}{a:Addr}{v:Value}(h:W.cell? a=some v):a=⟨a.block,a.off,none⟩:=by
 obtain⟨b,o,s⟩:=a;cases s with
 |none=>rfl
 |some x=>
  unfold World.cell? at h
  split at h
  ·simp at h
  cases h
def JY {W f args}(hB:Ca W)(h:∀E:Bp,BP E->E.w0=W->Ca E.w0->Ct E f args [] (fun v Q=>v= .bool true/\Q=[])):Calls Tryz.prog f ⟨args⟩ W (fun e W'=>e= .returned (.bool true)/\Below W.heap.size W W'):=by
 obtain⟨E,hE,rfl⟩:=Qy W;have hs:CR E.w0 E.w0 ([]++[fun _=>True]):=⟨O,O,O,ai _,fun _ _=>O,⟨mW E.w0 E.w0,fun _=>none,fun _=> .inr O,by funext b;simp[join],trivial,trivial⟩⟩;have:=h E hE rfl hB (fun _=>True) E.w0 hs;rw[hE.P]at this;exact this.mono fun e W'⟨v,Qs,h1,⟨h2,_⟩,h3⟩=>⟨by rw[h1,h2],h3.os,h3.tape,h3.output,h3.size,h3.old⟩
