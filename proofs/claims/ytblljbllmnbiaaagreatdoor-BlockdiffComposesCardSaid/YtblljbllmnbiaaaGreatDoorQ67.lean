import Derived.Test.YtblljbllmnbiaaaGreatDoorQ62
set_option linter.all false
set_option maxHeartbeats 1000000
namespace Go.Proofs.YtblljbllmnbiaaaGreatDoor
open Go Go.RowKit Sl Eg
set_option maxRecDepth 10000
variable {E:Env}{Es:List Ent}{pp tb s most m bm:Nat}{f:Int→Option Value}
theorem SigOf.fn {L:List Rl}(hw:Wf L){x y y':Nat}(h:SigOf L x y)(h':SigOf L x y'):y=y':=Sg.fn hw h.2.2.2 h'.2.2.2
theorem SigL.fn {L:List Rl}(hw:Wf L){xs ys ys':List Nat}(h:SigL L xs ys)(h':SigL L xs ys')(hl:ys.length=xs.length)(hl':ys'.length=xs.length):ys=ys':=by
 apply List.ext_getElem?
 intro i
 rcases Nat.lt_or_ge i xs.length with hi|hi
 ·obtain⟨x,hx⟩:∃x,xs[i]?=some x:=⟨_,List.getElem?_eq_getElem hi⟩
  obtain⟨y,hy⟩:∃y,ys[i]?=some y:=⟨_,List.getElem?_eq_getElem oO⟩
  obtain⟨y',hy'⟩:∃y,ys'[i]?=some y:=⟨_,List.getElem?_eq_getElem oO⟩
  rw[hy,hy',(h i x y hx hy).fn hw (h' i x y' hx hy')]
 rw[List.getElem?_eq_none oO,List.getElem?_eq_none oO]
theorem SigL.bound {L:List Rl}{xs ys:List Nat}(h:SigL L xs ys)(hl:ys.length=xs.length):∀y∈ys,y≤L.length:=fun y hy=>by
 obtain⟨i,hi⟩:=List.getElem?_of_mem hy
 have hil:=(List.getElem?_eq_some_iff.1 hi).1
 obtain⟨x,hx⟩:∃x,xs[i]?=some x:=⟨_,List.getElem?_eq_getElem oO⟩
 exact(h i x y hx hi).2.2.1.1
end Go.Proofs.YtblljbllmnbiaaaGreatDoor
