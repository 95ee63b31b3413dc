import Derived.Test.YtblljbllmnbiaaaGreatDoorQ69
import Derived.Test.YtblljbllmnbiaaaGreatDoorQ71
set_option linter.all false
set_option maxHeartbeats 1000000
namespace Sl
open Go Go.RowKit
variable {E:Env}{n:Nat}{L:Fr}{H H':List HP}{K:Value→List HP→Prop}{op:Oper}{ty:TypeId}{pos:String}{af:Array Edge}{d:Option Nat}{gd:Option (Nat×Bool)}
theorem qUi {x:Operand}{t e:TypeId}{c by_ sz sz':Nat}{z:Int}{zs:List Value}{v0:Value}{kk:TK}(ht:E.tab t=some ⟨.slice e 1 by_,sz,zs⟩)(he:E.tab e=some ⟨kk,sz',[v0]⟩)
  (hx:ev L x=some (.int .i64 z)) (hz:z=(c:Nat)) (hb:by_*c≤281474976710656) (hc:c≤maxLen)
  (hk:∀b,K (.slice (some ⟨b,0,none⟩) c c) (sl (some ⟨b,0,none⟩) c e 1 c (List.replicate c v0)::H)):Ld E n L H ⟨d,.makeSlice t x x,ty,pos,af,gd⟩ K:=ld_makeZ ht he (hx.trans (by rw[hz])) hb hc hk
end Sl
namespace Go.Proofs.YtblljbllmnbiaaaGreatDoor
open Go Go.RowKit Sl Eg
set_option maxRecDepth 10000
variable {E:Env}{G:List Rl}
def tkS (A:List Nat)(k:Nat):List Nat:=A.take k++List.replicate (A.length-k) 0
theorem tkS_zero (A:List Nat):List.replicate A.length (Value.int .i64 0)=idC (tkS A 0):=by
 simp[tkS,idC]
theorem tkS_all (A:List Nat):tkS A A.length=A:=by simp[tkS]
theorem tkS_set {A:List Nat}{k x:Nat}(h:A[k]?=some x)(o:Nat)(ho:o=k){v:Int}(hv:v=(x:Nat)):bX (idC (tkS A k)) o (bP (.int .i64 v))=idC (tkS A (k+1)):=by
 subst ho hv
 have hk:=(List.getElem?_eq_some_iff.1 h).1
 simp only[bX,bP]
 unfold idC tkS
 have e1:A.length-o=(A.length-(o+1))+1:=oO
 have e2:(A.take o).length=o:=by rw[List.length_take];omega
 rw[e1,List.replicate_succ,List.map_append,List.map_cons,List.take_add_one,h,List.set_append_right _ _ (by rw[List.length_map,e2];exact Nat.le_refl _),List.length_map,e2,Nat.sub_self]
 simp
end Go.Proofs.YtblljbllmnbiaaaGreatDoor
