import Derived.Test.YtlmpojkmeglepaaGreatDoorQ62
import Derived.Test.YtlmpojkmeglepaaGreatDoorQClc
import Derived.Deep.SlicePairs
set_option linter.all false
set_option maxHeartbeats 1000000
namespace Go.Proofs.YtlmpojkmeglepaaGreatDoor
section
open Go Go.RowKit Sl Eg
set_option maxRecDepth 10000
variable {E:Env}{Es:List Ent}{pp tb s most m bm:Nat}{f:Int→Option Value}
theorem SigOf.fn {L:List Rl}(hw:Wf L){x y y':Nat}(h:SigOf L x y)(h':SigOf L x y'):y=y':=Sg.fn hw h.2.2.2 h'.2.2.2
theorem SigL.fn {L:List Rl}(hw:Wf L){xs ys ys':List Nat}(h:SigL L xs ys)(h':SigL L xs ys')(hl:ys.length=xs.length)(hl':ys'.length=xs.length):ys=ys':=by
 apply List.ext_getElem?
 intro i
 rcases Nat.lt_or_ge i xs.length with hi|hi
 ·obtain⟨x,hx⟩:∃x,xs[i]?=some x:=⟨_,List.getElem?_eq_getElem hi⟩
  obtain⟨y,hy⟩:∃y,ys[i]?=some y:=⟨_,List.getElem?_eq_getElem oO⟩
  obtain⟨y',hy'⟩:∃y,ys'[i]?=some y:=⟨_,List.getElem?_eq_getElem oO⟩
  rw[hy,hy',(h i x y hx hy).fn hw (h' i x y' hx hy')]
 rw[List.getElem?_eq_none oO,List.getElem?_eq_none oO]
theorem SigL.bound {L:List Rl}{xs ys:List Nat}(h:SigL L xs ys)(hl:ys.length=xs.length):∀y∈ys,y≤L.length:=fun y hy=>by
 obtain⟨i,hi⟩:=List.getElem?_of_mem hy
 have hil:=(List.getElem?_eq_some_iff.1 hi).1
 obtain⟨x,hx⟩:∃x,xs[i]?=some x:=⟨_,List.getElem?_eq_getElem oO⟩
 exact(h i x y hx hi).2.2.1.1
end
section
open Go Go.ChangeShapes Go.WideShapes Go.ChangeAt Go.WideMaps Go.WideElems Go.RowKit Go.ChangeMaps Sl Eg
instance:Inhabited Im:=⟨⟨[],none,[],0⟩⟩
theorem byC_neq {bs:List UInt8}(h:byC bs≠[]):bs≠[]:=fun e=>h (by subst e;rfl)
theorem qPi {E:Env}{f:FuncId}{args:List Value}{u:Value}(h:Ct E f args [old] (fun v Q=>v=u∧Q=[old])):Ct E f args [] (fun v Q=>v=u∧Q=[]):=fun R w s=>(h R w (s.imp fun _ x=>ent_old _ x)).mono fun e w'⟨v,Qs,h1,⟨h2,h3⟩,h4⟩=>⟨v,[],h1,⟨h2,rfl⟩,by
 subst h3
 exact h4.imp (by show ∀k,eF [old,R] k→eF [R] k;(apply ent;(repeat constructor);done))⟩
end
end Go.Proofs.YtlmpojkmeglepaaGreatDoor
