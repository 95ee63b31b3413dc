import Derived.Test.YtblljbllmnbiaaaGreatDoorQ71
set_option linter.all false
set_option maxHeartbeats 1000000
namespace Sl
open Go Go.RowKit
variable {E:Env}{n:Nat}{L:Fr}{H:List HP}{Q:Exit→Act→World→Prop}{fuel:Nat}{listed:Array Bool}{ops:List Oper}
def allS (S0:List HP):List (Nat×List HP)→Prop
 |[]=>True
 |(_,S)::r=>(∀k,dS S k→dS S0 k)∧allS S0 r
theorem qNi {S0:List HP}:∀{Ss:List (Nat×List HP)},allS S0 Ss→∀x∈Ss,∀k,dS x.2 k→dS S0 k
 |[],_,x,hx=>by simp at hx
 |(_,S)::r,h,x,hx=>by
  rcases List.mem_cons.1 hx with rfl|hx
  ·exact h.1
  exact qNi h.2 x hx
theorem s_keep (S0:List HP)(i:Nat){Ss:List (Nat×List HP)}{d:Option Nat}{op:Op}{ty:TypeId}{pos:String}{af:Array Edge}{v:Value}(hi:ops[i]?=some ⟨d,op,ty,pos,af,none⟩)
  (hy:Yl E n L S0 ⟨d,op,ty,pos,af,none⟩ v) (hQ:Calm Q) (hf:qSr ops.toArray listed i=true) (hm:zR ops.toArray i Ss=true) (hd:inB n d=true) (hS0:allS S0 Ss)
  (k:WPS E ops Ss Q fuel (listed.setIfInBounds i true) n (putL d v L) H):WPS E ops Ss Q (fuel+1) listed n L H:=fun a w g hS=>by
 simp only[qSr,Bool.and_eq_true]at hf
 refine qDa (eH hi) (Region.noSelect_spec hf.1) (fun c a w h=>hQ c a w d v h) (T:=fun w=>Sat E.w0 w S0) fuel _ listed a w (vL hm) ?_ (Region.free_spec (eH hi) hf.2.1) (by simpa using hf.2.2) (.inl ⟨O,fun w hw=>hy a w g.f hw⟩) hS (k _ _ ⟨g.f.put d v hd,g.hp⟩ hS)
 intro m S h w hw
 obtain⟨x,hx,e⟩:=List.mem_map.1 h
 obtain⟨rfl,rfl⟩:=Prod.mk.inj e
 exact hw.imp (qNi hS0 x hx)
end Sl
namespace Go.Proofs.YtblljbllmnbiaaaGreatDoor
open Go Go.RowKit Sl Eg
set_option maxRecDepth 10000
variable {E:Env}{L:List Rl}
variable {l:List Im}{ys:List Nat}
end Go.Proofs.YtblljbllmnbiaaaGreatDoor
