import Derived.Test.YtlmpojkmeglepaaGreatDoorQ50
set_option linter.all false
set_option maxHeartbeats 1000000
namespace Sl
open Go Go.RowKit
variable {E:Env}{n:Nat}{L L':Fr}{S H H':List HP}{K:Value→List HP→Prop}{Q:Exit→Act→World→Prop}{ty:TypeId}{pos:String}{af:Array Edge}{d:Option Nat}{gd:Option (Nat×Bool)}
theorem eF {x y:Operand}{t e:TypeId}{p a:Option Addr}{c m k cc es by_ sz sz':Nat}{xs us zs zs':List Value}{kk:TK}{H'':List HP}(ht:E.tab t=some ⟨.slice e es by_,sz,zs⟩)(he:E.tab e=some ⟨kk,sz',zs'⟩)(hz:(Nat.beq zs'.length es&&Nat.blt 0 es)=true)
  (hx:ev L x=some (.slice p m c)) (hy:ev L y=some (.slice a k cc)) (hm:Take (sl a cc e es k us) H H') (hm2:Take (sl p c e es m xs) H' H'') (hp:∀u∈us,u.oneCell'=true) (hb:(m+k)*by_≤140737488355328) (hb2:m+k≤maxLen)
  (hk:∀p' c' m' xs',m'=m+k→xs'=xs++us→K (.slice p' m' c') (sl p' c' e es m' xs'::sl a cc e es k us::H'')):Ld E n L H ⟨d,.call {callee:= .builtin .append,args:= #[x,y],argTypes:= #[t,t]},ty,pos,af,gd⟩ K:=fun Q next b w G hn=>by
 have s0:=G.hp.take hm
 obtain⟨h1,h2,_,_,hh,_⟩:=s0.hp
 rcases Nat.eq_zero_or_pos k with rfl| h
 ·have hl:=(jK hh).2.2
  rw[Nat.zero_mul]at hl
  obtain rfl:=List.eq_nil_of_length_eq_zero hl
  have key:Ld E n L (sl p c e es m xs::sl a cc e es 0 []::H'') ⟨d,.call {callee:= .builtin .append,args:= #[x,y],argTypes:= #[t,t]},ty,pos,af,gd⟩ K:=vC ht hx hy Take.here (hk p c m xs (by simp) (by simp))
  exact key Q next b w ⟨G.f,G.hp.imp fun _ s=>gZ (gF (fun _=>hm2.out) (hm.out s))⟩ hn
 obtain⟨g,rfl⟩:=eU hh h
 exact jD ht he hz hx hy hm hm2 hp h hb hb2 (fun g' c' m' xs' e1 e2=>hk (some ⟨g',0,none⟩) c' m' xs' e1 e2) Q next b w G hn
end Sl
namespace Go.Proofs.YtlmpojkmeglepaaGreatDoor
open Go Go.RowKit Sl Eg
set_option maxRecDepth 10000
variable {E:Env}{L:List Rl}
theorem gP (L:List Rl):∀u∈rusC L,u.oneCell'=true:=fun u h=>by
 obtain⟨r,_,hr⟩:=List.mem_flatMap.1 h
 simp only[rlC,List.mem_cons,List.not_mem_nil,or_false]at hr
 rcases hr with rfl|rfl|rfl|rfl|rfl<;>rfl
theorem qLc (L:List Rl):(rusC L).length=L.length*5:=by
 induction L with
 |nil=>rfl
 |cons r L ih=>simp only[rusC,List.flatMap_cons,List.length_append,List.length_cons]at ih ⊢;rw[ih];simp[rlC];omega
theorem yA {L:List Rl}{k:Nat}{r:Rl}(h:L[k]?=some r)(o:Nat)(ho:o=k*5):(rusC L)[o]?=some (.int .i64 (Rl.kind r:Nat))∧(rusC L)[o+1]?=some (.int .u8 (Rl.byte r:Nat))∧(rusC L)[o+2]?=some (.int .i64 (Rl.left r:Nat))∧(rusC L)[o+3]?=some (.int .i64 (Rl.right r:Nat))∧(rusC L)[o+4]?=some (.int .i64 (Rl.times r:Nat)):=by
 have hk:=(List.getElem?_eq_some_iff.1 h).1
 have e:L=L.take k++r::L.drop (k+1):=by
  obtain⟨h1,e1⟩:=List.getElem?_eq_some_iff.1 h
  have e2:L.drop k=r::L.drop (k+1):=by rw[List.drop_eq_getElem_cons h1,e1]
  rw[←e2,List.take_append_drop]
 have hl:(rusC (L.take k)).length=o:=by rw[qLc,List.length_take,Nat.min_eq_left oO,ho]
 have e2:rusC L=rusC (L.take k)++(rlC r++(L.drop (k+1)).flatMap rlC):=by
  conv=>lhs;rw[e]
  simp[rusC]
 rw[e2]
 subst hl
 exact⟨ap_0,ap_1,ap_2,ap_3,ap_4⟩
theorem qIx (L:List Rl)(r:Rl):rusC (L++[r])=rusC L++rlC r:=by simp[rusC]
end Go.Proofs.YtlmpojkmeglepaaGreatDoor
