import Derived.Test.YtblljbllmnbiaaaGreatDoorQ51
import Derived.Test.YtblljbllmnbiaaaGreatDoorQ69
set_option linter.all false
set_option maxHeartbeats 1000000
namespace Go.Proofs.YtblljbllmnbiaaaGreatDoor
open Go Go.RowKit Sl Eg
set_option maxRecDepth 10000
variable {E:Env}{L:List Rl}
theorem qRq {V:List Nat}{k:Nat}{r:Rl}(h:∀x∈kids r,x∈V.take k):lK (V.take k) r=lK V r:=by
 have e:∀x∈kids r,numb (V.take k) x=numb V x:=fun x hx=>by
  have:=qAj (m:=V.drop k) (h x hx)
  rw[List.take_append_drop]at this
  exact this.symm
 cases r with
 |letter b=>rfl
 |pair a b=>simp only[lK];rw[e a (by simp[kids]),e b (by simp[kids])]
 |power a t=>simp only[lK];rw[e a (by simp[kids])]
theorem qUn {V:List Nat}{k n:Nat}{r:Rl}(hV:V[k]?=some (n+1))(hr:L[n]?=some r):rusC ((gram L V).take (k+1))=rusC ((gram L V).take k)++rlC (lK V r):=by
 rw[List.take_add_one,yJ hV hr,←qWi]
 rfl
end Go.Proofs.YtblljbllmnbiaaaGreatDoor
