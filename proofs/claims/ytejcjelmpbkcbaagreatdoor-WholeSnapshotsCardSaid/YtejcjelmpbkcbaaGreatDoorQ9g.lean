import Derived.Test.YtejcjelmpbkcbaaGreatDoorQ9W
import Derived.Test.YtejcjelmpbkcbaaGreatDoorQ9a
import Derived.Test.YtejcjelmpbkcbaaGreatDoorQ9c
import Derived.Test.YtejcjelmpbkcbaaGreatDoorQ9f
set_option linter.all false
set_option maxHeartbeats 1000000
namespace Sl
open Go Go.RowKit
def cntI (f:Int→Option Value)(n:Nat):Prop:=∃M:List (Int×Value),(M.map (·.1)).Nodup∧(∀k,M.lookup k=f k)∧M.length=n
def qDd {M:List (Int×Value)}{k:Int}:k∈M.map (·.1)↔M.lookup k≠none:=by
 induction M with
 |nil=>simp[List.lookup]
 |cons p M ih=>
  obtain⟨a,b⟩:=p
  by_cases e:k=a
  ·subst e;simp[List.lookup]
  have e':(k==a)=false:=by simpa using e
  simp only[List.lookup,e',jo,iq,ih]
  simp[e]
def cntI.fn {f:Int→Option Value}{n m:Nat}(h:cntI f n)(h':cntI f m):n=m:=by
 obtain⟨M,h1,h2,rfl⟩:=h;obtain⟨M',h1',h2',rfl⟩:=h';have:=(uh h1 h1').2 fun k=>by rw[qDd,qDd,h2,h2']
 have:=this.length_eq;rwa [ku,ku]at this
end Sl
namespace Go.Proofs.YtejcjelmpbkcbaaGreatDoor
open Go Go.RowKit Sl Eg
set_option maxRecDepth 10000
