import Derived.Test.YtblljbllmnbiaaaGreatDoorQ17
set_option linter.all false
set_option maxHeartbeats 1000000
namespace Sl
open Go Go.RowKit
def setM (k:Int)(u:Value):List (Int×Value)→List (Int×Value)
 |[]=>[]
 |p::l=>if p.1=k then(k,u)::l else p::setM k u l
theorem qCl {k:Int}{u v:Value}:∀{M:List (Int×Value)},M.lookup k=some v→(setM k u M).lookup k=some u
 |[],h=>by cases h
 |(a,b)::M,h=>by
  unfold setM
  by_cases e:a=k
  ·rw[if_pos e];simp[List.lookup]
  have e':(k==a)=false:=by simp;omega
  rw[if_neg e]
  simp only[List.lookup,e']at h ⊢
  exact qCl h
theorem yM {k x:Int}{u:Value}(hx:x≠k):∀{M:List (Int×Value)},(setM k u M).lookup x=M.lookup x
 |[]=>rfl
 |(a,b)::M=>by
  unfold setM
  by_cases e:a=k
  ·have e':(x==k)=false:=by simpa using hx
   subst e
   rw[if_pos rfl]
   simp only[List.lookup,e']
  rw[if_neg e]
  simp only[List.lookup]
  rw[yM hx]
def ents (es:List MapEntry):List (Value×Value):=es.map fun e=>(e.key,e.val)
def prs (ki:IntKind)(M:List (Int×Value)):List (Value×Value):=M.map fun p=>(Value.int ki p.1,p.2)
theorem wM {ki:IntKind}{k:Int}:∀(M:List (Int×Value))(es:List MapEntry)(j:Nat),ents es=prs ki M→
  (M.lookup k=none∧Instr.findNow (.int ki) (.int ki k) es j=some none)∨(∃v i e,M.lookup k=some v∧Instr.findNow (.int ki) (.int ki k) es j=some (some (j+i,v))∧es[i]?=some e∧e.key= .int ki k∧∀u,ents (es.modify i (fun e=>{e with key:= .int ki k,val:=u}))=prs ki (setM k u M))
 |[],[],j,_=> .inl ⟨rfl,rfl⟩
 |[],e::es,j,h=>by simp[ents,prs]at h
 |p::M,[],j,h=>by simp[ents,prs]at h
 |(a,b)::M,e::es,j,h=>by
  simp only[ents,prs,List.map_cons,List.cons.injEq,Prod.mk.injEq]at h
  obtain⟨⟨h1,h2⟩,h3⟩:=h
  by_cases hk:k=a
  ·subst hk
   refine .inr ⟨b,0,e,by simp[List.lookup],?_,rfl,h1,fun u=>?_⟩
   ·simp[Instr.findNow,h1,h2,Instr.sameNow]
   simp only[ents,prs,setM,if_true,List.modify_zero_cons,List.map_cons]
   rw[h3]
  have hb:(k==a)=false:=by simpa using hk
  have hstep:∀j,Instr.findNow (.int ki) (.int ki k) (e::es) j=Instr.findNow (.int ki) (.int ki k) es (j+1):=fun j=>by simp[Instr.findNow,h1,Instr.sameNow,hb]
  rcases wM (k:=k) M es (j+1) h3 with⟨g1,g2⟩|⟨v,i,e',g1,g2,g3,g4,g5⟩
  ·exact .inl ⟨by simp only[List.lookup,hb];exact g1,by rw[hstep];exact g2⟩
  refine .inr ⟨v,i+1,e',by simp only[List.lookup,hb];exact g1,by rw[hstep,g2];congr 3;omega,by simpa using g3,g4,fun u=>?_⟩
  have:=g5 u
  simp only[ents,prs,setM,if_neg (Ne.symm hk),List.modify_succ_cons,List.map_cons,h1,h2]at this ⊢
  rw[this]
structure Mp (ki:IntKind)(es:List MapEntry)(c:Nat)(M:List (Int×Value)):Prop where
 is:ents es=prs ki M
 keys:(M.map (·.1)).Nodup
 born:(es.map (·.born)).Nodup
 old:∀e∈es,e.born<c
theorem Mp.nil {ki:IntKind}:Mp ki [] 0 []:=⟨rfl,.nil,.nil,fun e h=>by cases h⟩
theorem qJe {k:Int}:∀{M:List (Int×Value)},M.lookup k=none→k∉M.map (·.1)
 |[],_,h=>by cases h
 |(a,b)::M,h,h'=>by
  by_cases e:k=a
  ·subst e;simp[List.lookup]at h
  have e':(k==a)=false:=by simpa using e
  simp only[List.lookup,e']at h
  rcases List.mem_cons.1 h' with h'|h'
  ·exact e h'
  exact qJe h h'
theorem qKb {k:Int}{u:Value}:∀{M:List (Int×Value)},(setM k u M).map (·.1)=M.map (·.1)
 |[]=>rfl
 |(a,b)::M=>by
  unfold setM
  by_cases e:a=k
  ·rw[if_pos e];simp[e]
  rw[if_neg e,List.map_cons,List.map_cons,qKb]
theorem Mp.push {ki:IntKind}{es:List MapEntry}{c:Nat}{M:List (Int×Value)}(h:Mp ki es c M){k:Int}(u:Value)(hk:M.lookup k=none):Mp ki (es++[{key:= .int ki k,val:=u,born:=c}]) (c+1) (M++[(k,u)]):=by
 refine⟨?_,?_,?_,fun e he=>?_⟩
 ·have:=h.is
  simp[ents,prs]at this ⊢
  exact this
 ·rw[List.map_append,List.nodup_append]
  refine⟨h.keys,by simp,fun a ha b hb=>?_⟩
  simp at hb
  subst hb
  exact fun e=>qJe hk (by rw[←e];exact ha)
 ·rw[List.map_append,List.nodup_append]
  refine⟨h.born,by simp,fun a ha b hb=>?_⟩
  simp at hb
  subst hb
  obtain⟨e,he,rfl⟩:=List.mem_map.1 ha
  have:=h.old e he
  omega
 rcases List.mem_append.1 he with he|he
 ·have:=h.old e he;omega
 simp at he;subst he;simp
theorem Mp.modify {ki:IntKind}{es:List MapEntry}{c:Nat}{M:List (Int×Value)}(h:Mp ki es c M){k:Int}{u:Value}{i:Nat}(he:ents (es.modify i (fun e=>{e with key:= .int ki k,val:=u}))=prs ki (setM k u M)):Mp ki (es.modify i (fun e=>{e with key:= .int ki k,val:=u})) c (setM k u M):=by
 have hb:(es.modify i (fun e=>{e with key:=Value.int ki k,val:=u})).map (·.born)=es.map (·.born):=by
  apply List.ext_getElem?
  intro j
  simp only[List.getElem?_map,List.getElem?_modify]
  cases es[j]? with
  |none=>rfl
  |some e=>by_cases hj:i=j<;>simp[hj]
 refine⟨he,by rw[qKb];exact h.keys,by rw[hb];exact h.born,fun e hm=>?_⟩
 have h1:e.born∈(es.modify i (fun e=>{e with key:=Value.int ki k,val:=u})).map (·.born):=List.mem_map.2 ⟨e,hm,rfl⟩
 rw[hb]at h1
 obtain⟨e2,h2,h3⟩:=List.mem_map.1 h1
 have:=h.old e2 h2
 omega
def mapF (b:Nat)(ki:IntKind)(f:Int→Option Value):HP:=fun h=>∃(es:Array MapEntry)(c:Nat)(M:List (Int×Value)),pt b (.map es c) h∧Mp ki es.toList c M∧∀k,M.lookup k=f k
variable {E:Env}{n:Nat}{L:Fr}{S S' H H':List HP}{ty:TypeId}{pos:String}{af:Array Edge}{d:Option Nat}{gd:Option (Nat×Bool)}{K:Value→List HP→Prop}
theorem rJ {t:TypeId}(ki:IntKind)(hk:∀b,K (.map (some b)) (mapF b ki (fun _=>none)::H)):Ld E n L H ⟨d,.makeMap t none,ty,pos,af,gd⟩ K:=fun Q next a w g hn=>by
 have hrun:(execOp a.eval ⟨d,.makeMap t none,ty,pos,af,gd⟩).run E.P w= .ok (.value (.map (some w.heap.size))) (w.alloc (.map #[] 0)):=by
  simp[execOp,Instr.makeMap,newObj]
  rfl
 unfold Oper.wp
 rw[hrun,Oper.upon_value]
 exact hn _ _ _ (hk _) ((g.hp.new _).imp fun k h=>fQ (fun k' h'=>⟨#[],0,[],h',Mp.nil,fun _=>O⟩) h)
theorem qGw {w0 w:World}{b:Nat}{ki:IntKind}{f:Int→Option Value}(s:Sat w0 w (mapF b ki f::H)):∃es c M,w.heap[b]?=some (.map es c)∧Mp ki es.toList c M∧(∀k,M.lookup k=f k)∧Sat w0 w (pt b (.map es c)::H):=by
 obtain⟨h1,h2,dd,e,⟨es,c,M,hp,g1,g2⟩,hr⟩:=s.hp
 have s':Sat w0 w (pt b (.map es c)::H):=⟨s.os,s.tape,s.output,s.size,s.old,h1,h2,dd,e,hp,hr⟩
 exact⟨es,c,M,s'.ptr.1,g1,g2,s'⟩
theorem jR {P:Program}{t:TypeId}{td:TypeDesc}(h:P.underlying t=some td)(w:World):(underlying t).run P w= .ok td w:=by simp[underlying,program,Sem.run,h]
theorem qU {P:Program}{kt:TypeId}{ki:IntKind}(hk:P.underlying kt=some (.int ki))(b:Bool)(x:Int)(w:World):(Instr.checkKey b 10000 kt (.int ki x)).run P w= .ok () w:=by
 show(Instr.checkKey b (9999+1) kt (.int ki x)).run P w= .ok () w
 unfold Instr.checkKey
 simp only[Sem.run_bind,jR hk,Result.andThen_ok]
 rfl
def qBi (ok:Bool)(z:Value)(r:Option Value):Value:=if ok then .tuple #[r.getD z,.bool r.isSome]else r.getD z
theorem sF {x y:Operand}{b:Nat}{t kt et:TypeId}{ki:IntKind}{f:Int→Option Value}{k:Int}{z:Value}{ok:Bool}{r:Option Value}(ht:E.P.underlying t=some (.map kt et))(hkt:E.P.underlying kt=some (.int ki))(hz:∀w,(zeroValue et).run E.P w= .ok z w) (hx:ev L x=some (.map (some b))) (hy:ev L y=some (.int ki k)) (hm:Take (mapF b ki f) S S') (hr:f k=r):
  Yl E n L S ⟨d,.lookup t x y ok,ty,pos,af,gd⟩ (qBi ok z r):=fun a w g s=>by
 obtain⟨es,c,M,hh,he,hf,_⟩:=qGw (s.take hm)
 have hl:(Instr.lookup t (.map (some b)) (.int ki k) ok).run E.P w= .ok (qBi ok z r) w:=by
  subst hr
  unfold Instr.lookup
  simp only[Sem.run_bind,jR ht,Result.andThen_ok]
  simp only[getObj,Sem.run,hh]
  simp only[Result.andThen,Sem.run_bind,Sem.run_pure,qU hkt,Instr.findKey,jR hkt]
  rcases wM (k:=k) M es.toList 0 he.is with⟨g1,g2⟩|⟨v,i,e,g1,g2,g3,g4,g5⟩
  ·rw[hf]at g1
   simp only[g2,Sem.run_pure,Result.andThen_ok,Sem.run_bind,hz,Result.andThen,qBi,g1]
   cases ok<;>rfl
  rw[hf]at g1
  simp only[g2,Sem.run_pure,Result.andThen_ok,Sem.run_bind,Result.andThen,qBi,g1]
  cases ok<;>rfl
 simp[execOp,g.ev hx,g.ev hy,hl]
theorem qBu {M:List (Int×Value)}{k x:Int}{v:Value}(h:M.lookup k=none):(M++[(k,v)]).lookup x=if x=k then some v else M.lookup x:=by
 induction M with
 |nil=>
  by_cases e:x=k
  ·subst e;simp[List.lookup]
  have e':(x==k)=false:=by simpa using e
  simp[List.lookup,e',e]
 |cons p M ih=>
  obtain⟨a,b⟩:=p
  have hka:(k==a)=false:=by
   by_cases e:k=a
   ·subst e;simp[List.lookup]at h
   simpa using e
  simp only[List.lookup,hka]at h
  simp only[List.cons_append,List.lookup]
  by_cases e:x=a
  ·subst e
   have:¬x=k:=fun e=>by subst e;simp at hka
   simp[this]
  have e':(x==a)=false:=by simpa using e
  simp only[e']
  exact ih h
def setF (f:Int→Option Value)(k:Int)(u:Value):Int→Option Value:=fun x=>if x=k then some u else f x
theorem pF {x y v:Operand}{b:Nat}{t kt et:TypeId}{ki:IntKind}{f:Int→Option Value}{k:Int}{u:Value}(ht:E.P.underlying t=some (.map kt et))(hkt:E.P.underlying kt=some (.int ki))(hx:ev L x=some (.map (some b)))(hy:ev L y=some (.int ki k))(hv:ev L v=some u)(hm:Take (mapF b ki f) H H')(hk:K undef (mapF b ki (setF f k u)::H')):
  Ld E n L H ⟨d,.mapUpdate t x y v,ty,pos,af,gd⟩ K:=fun Q next a w g hn=>by
 obtain⟨es,c,M,hh,he,hf,s1⟩:=qGw (g.hp.take hm)
 have hlt:b<w.heap.size:=(Array.getElem?_eq_some_iff.1 hh).1
 obtain⟨es',c',M',hrun,he',hf'⟩:∃(es':Array MapEntry)(c':Nat)(M':List (Int×Value)),(Instr.mapUpdate t (.map (some b)) (.int ki k) u).run E.P w= .ok () (ChangeMaps.setBlock w b (.map es' c'))∧Mp ki es'.toList c' M'∧∀x,M'.lookup x=setF f k u x:=by
  rcases wM (k:=k) M es.toList 0 he.is with⟨g1,g2⟩|⟨v0,i,e,g1,g2,g3,g4,g5⟩
  ·refine⟨es.push {key:= .int ki k,val:=u,born:=c},c+1,M++[(k,u)],?_,by rw[Array.toList_push];exact he.push u g1,fun x=>?_⟩
   ·unfold Instr.mapUpdate
    simp only[Sem.run_bind,jR ht,Result.andThen_ok]
    simp only[getObj,Sem.run,hh]
    simp only[Result.andThen,Sem.run_bind,qU hkt,Instr.findKey,jR hkt,g2,Sem.run_pure]
    simp only[setObj,Sem.run]
    rw[hh]
    rfl
   rw[qBu g1,setF,hf]
  refine⟨es.modify i fun e=>{e with key:= .int ki k,val:=u},c,setM k u M,?_,by rw[Array.toList_modify];exact he.modify (g5 u),fun x=>?_⟩
  ·have hs:Instr.sameBits 10000 (.int ki k) (.int ki k)=true:=by simp[Instr.sameBits]
   have he2:((es[i]?).map (·.key)).getD (.int ki k)= .int ki k:=by
    rw[←Array.getElem?_toList,g3]
    exact g4
   unfold Instr.mapUpdate
   simp only[Sem.run_bind,jR ht,Result.andThen_ok]
   simp only[getObj,Sem.run,hh]
   simp only[Result.andThen,Sem.run_bind,qU hkt,Instr.findKey,jR hkt,g2,Sem.run_pure,Nat.zero_add,he2,Instr.keyThatStays,hs,if_true]
   simp only[setObj,Sem.run]
   rw[hh]
   rfl
  unfold setF
  by_cases e:x=k
  ·rw[if_pos e,e];exact qCl g1
  rw[if_neg e,yM e,hf]
 have hrun':(execOp a.eval ⟨d,.mapUpdate t x y v,ty,pos,af,gd⟩).run E.P w= .ok .skip (ChangeMaps.setBlock w b (.map es' c')):=by
  simp[execOp,g.f.ev hx,g.f.ev hy,g.f.ev hv,hrun]
 unfold Oper.wp
 rw[hrun',Oper.upon_skip]
 have hs2:Sat E.w0 (ChangeMaps.setBlock w b (.map es' c')) (pt b (.map es' c')::H'):=s1.write ⟨O,O,O,by simp[ChangeMaps.setBlock]⟩ (by simp[ChangeMaps.setBlock,hlt]) fun j hj=>by
  simp only[ChangeMaps.setBlock]
  rw[Array.getElem?_setIfInBounds_ne (by intro e;exact hj e.symm)]
 exact hn _ _ _ hk (hs2.imp fun k' h=>fQ (fun k'' h''=>⟨es',c',M',h'',he',hf'⟩) h)
end Sl
namespace Go.Proofs.YtblljbllmnbiaaaGreatDoor
section
open Go Eg
def kids:Rl→List Nat
 | .letter _=>[]
 | .pair a b=>[a,b]
 | .power a _=>[a]
theorem rG {r:Rl}{n:Nat}(h:r.ok n):∀x∈kids r,1≤x∧x<n:=by
 cases r<;>simp[kids,Rl.ok]at h ⊢ <;>omega
def qQ (L:List Rl):Nat→List Nat→List Nat
 |0,acc=>acc
 |n+1,acc=>
  if n+1∈acc then acc else
  match L[n]? with
  |none=>acc
  |some (.letter _)=>acc++[n+1]
  |some (.pair a b)=>qQ L (min b n) (qQ L (min a n) acc)++[n+1]
  |some (.power a _)=>qQ L (min a n) acc++[n+1]
termination_by n=>n
decreasing_by all_goals omega
theorem qEy (L:List Rl)(acc:List Nat):qQ L 0 acc=acc:=by rw[qQ]
theorem visit_in {L:List Rl}{x:Nat}{acc:List Nat}(h:x∈acc):qQ L x acc=acc:=by
 cases x with
 |zero=>exact qEy L acc
 |succ n=>rw[qQ,if_pos h]
def dC (L:List Rl)(xs:List Nat)(acc:List Nat):List Nat:=xs.foldl (fun acc x=>qQ L x acc) acc
theorem qCs (L:List Rl)(x:Nat)(xs acc:List Nat):dC L (x::xs) acc=dC L xs (qQ L x acc):=rfl
theorem qRs {L:List Rl}(hw:Wf L){n:Nat}{r:Rl}(h:L[n]?=some r){acc:List Nat}(hn:n+1∉acc):qQ L (n+1) acc=dC L (kids r) acc++[n+1]:=by
 have ho:=hw.ok n r h
 rw[qQ,if_neg hn,h]
 cases r with
 |letter b=>rfl
 |pair a b=>
  simp only[Rl.ok]at ho
  simp only[kids,dC,List.foldl_cons,List.foldl_nil]
  rw[Nat.min_eq_left oO,Nat.min_eq_left oO]
 |power a k=>
  simp only[Rl.ok]at ho
  simp only[kids,dC,List.foldl_cons,List.foldl_nil]
  rw[Nat.min_eq_left oO]
theorem qWq {L:List Rl}{n:Nat}(h:L.length≤n)(acc:List Nat):qQ L (n+1) acc=acc:=by
 rw[qQ]
 split
 ·rfl
 rw[List.getElem?_eq_none h]
theorem qWp {L:List Rl}(hw:Wf L):∀(n:Nat)(acc:List Nat),(∀x∈qQ L n acc,x∈acc∨(1≤x∧x≤n∧x≤L.length))∧(∃m,qQ L n acc=acc++m)∧(acc.Nodup→(qQ L n acc).Nodup):=by
 intro n
 induction n using Nat.strongRecOn with
 |ind n ih=>
  intro acc
  cases n with
  |zero=>rw[qEy];exact⟨fun x h=> .inl h,⟨[],by simp⟩,id⟩
  |succ n=>
   by_cases hn:n+1∈acc
   ·rw[visit_in hn];exact⟨fun x h=> .inl h,⟨[],by simp⟩,id⟩
   cases e:L[n]? with
   |none=>rw[qWq (by simpa using e)];exact⟨fun x h=> .inl h,⟨[],by simp⟩,id⟩
   |some r=>
    have hl:=(List.getElem?_eq_some_iff.1 e).1
    have key:∀(xs:List Nat)(acc:List Nat),(∀x∈xs,x<n+1)→(∀x∈dC L xs acc,x∈acc∨(1≤x∧x<n+1∧x≤L.length))∧(∃m,dC L xs acc=acc++m)∧(acc.Nodup→(dC L xs acc).Nodup):=by
     intro xs
     induction xs with
     |nil=>intro acc _;exact⟨fun x h=> .inl h,⟨[],by simp[dC]⟩,id⟩
     |cons y ys ihy=>
      intro acc hy
      obtain⟨g1,⟨m1,g2⟩,g3⟩:=ih y (hy y (by simp)) acc
      obtain⟨k1,⟨m2,k2⟩,k3⟩:=ihy (qQ L y acc) (fun x hx=>hy x (by simp[hx]))
      rw[qCs]
      refine⟨fun x hx=>?_,⟨m1++m2,by rw[k2,g2,List.append_assoc]⟩,fun h=>k3 (g3 h)⟩
      rcases k1 x hx with h| h
      ·rcases g1 x h with h| h
       ·exact .inl h
       exact .inr ⟨h.1,by have:=hy y (by simp);omega,h.2.2⟩
      exact .inr h
    obtain⟨g1,⟨m1,g2⟩,g3⟩:=key (kids r) acc fun x hx=>(rG (hw.ok n r e) x hx).2
    rw[qRs hw e hn]
    refine⟨fun x hx=>?_,⟨m1++[n+1],by rw[g2,List.append_assoc]⟩,fun h=>?_⟩
    ·rcases List.mem_append.1 hx with h| h
     ·rcases g1 x h with h| h
      ·exact .inl h
      exact .inr ⟨h.1,oO,h.2.2⟩
     simp at h;exact .inr ⟨oO,oO,oO⟩
    refine List.nodup_append.2 ⟨g3 h,by simp,fun a ha b hb=>?_⟩
    simp at hb
    subst hb
    intro e
    subst e
    rcases g1 _ ha with h| h
    ·exact hn h
    omega
theorem qEz {L:List Rl}(hw:Wf L)(n:Nat):∀(xs acc:List Nat),(∀x∈xs,x≤n)→(∀x∈dC L xs acc,x∈acc∨(1≤x∧x≤n∧x≤L.length))∧(∃m,dC L xs acc=acc++m)∧(acc.Nodup→(dC L xs acc).Nodup)
 |[],acc,_=>⟨fun x h=> .inl h,⟨[],by simp[dC]⟩,id⟩
 |y::ys,acc,hy=>by
  obtain⟨g1,⟨m1,g2⟩,g3⟩:=qWp hw y acc
  obtain⟨k1,⟨m2,k2⟩,k3⟩:=qEz hw n ys (qQ L y acc) (fun x hx=>hy x (by simp[hx]))
  rw[qCs]
  refine⟨fun x hx=>?_,⟨m1++m2,by rw[k2,g2,List.append_assoc]⟩,fun h=>k3 (g3 h)⟩
  rcases k1 x hx with h| h
  ·rcases g1 x h with h| h
   ·exact .inl h
   exact .inr ⟨h.1,by have:=hy y (by simp);omega,h.2.2⟩
  exact .inr h
end
section
open Go Eg
inductive Rea (L:List Rl):Nat→Nat→Prop where
 |self {n:Nat} (h:n<L.length):Rea L (n+1) (n+1)
 |kid {n k x:Nat} {r:Rl} (h:L[n]?=some r) (hk:k∈kids r) (hx:Rea L k x):Rea L (n+1) x
def Closed (L:List Rl)(acc:List Nat):Prop:=∀n r,n+1∈acc→L[n]?=some r→∀k∈kids r,k∈acc
theorem Rea.inside {L:List Rl}{acc:List Nat}(hc:Closed L acc){n x:Nat}(h:Rea L n x):n∈acc→x∈acc:=by
 induction h with
 |self _=>exact id
 |kid h hk _ ih=>exact fun hn=>ih (hc _ _ hn h _ hk)
theorem tC:∀{A B:List Nat},A.Nodup→(∀x∈A,x∈B)→A.length≤B.length
 |[],B,_,_=>Nat.zero_le _
 |a::A,B,hn,h=>by
  have ha:=h a (by simp)
  have hn':=List.nodup_cons.1 hn
  have:=tC (A:=A) (B:=B.erase a) hn'.2 (fun x hx=>by
   have hx':=h x (by simp[hx])
   have hne:x≠a:=fun e=>by subst e;exact hn'.1 hx
   exact(List.mem_erase_of_ne hne).2 hx')
  rw[List.length_erase_of_mem ha]at this
  have:0<B.length:=List.length_pos_of_mem ha
  simp only[List.length_cons]
  omega
end
section
open Go Eg
def vput (n:Nat):List UInt8:=if h:n<128 then[UInt8.ofNat n]else UInt8.ofNat (n%128+128)::vput (n/128)
termination_by n
decreasing_by omega
def rulB (i:Nat):Rl→List UInt8
 | .letter b=>[1,b]
 | .pair l r=>2::(vput (i-l)++vput (i-r))
 | .power l k=>3::(vput (i-l)++vput (k-2))
def numb:List Nat→Nat→Nat
 |[],_=>0
 |y::l,x=>if y=x then 1 else if numb l x=0 then 0 else numb l x+1
def renum (ids:List Nat):Rl→Rl
 | .letter b=> .letter b
 | .pair l r=> .pair (numb ids l) (numb ids r)
 | .power x k=> .power (numb ids x) k
def encR (L:List Rl)(ids:List Nat):Nat→List UInt8
 |0=>[]
 |i+1=>encR L ids i++match ids[i]? with
  |some (n+1)=>match L[n]? with
   |some r=>rulB (i+1) (renum ids r)
   |none=>[]
  |_=>[]
theorem qTn {L:List Rl}{ids:List Nat}{i n:Nat}{r:Rl}(h:ids[i]?=some (n+1))(hr:L[n]?=some r):encR L ids (i+1)=encR L ids i++rulB (i+1) (renum ids r):=by
 rw[encR,h]
 simp only[hr]
def encN (ids:List Nat)(l:List (List UInt8×Nat)):List UInt8:=l.flatMap fun p=>vput p.1.length++p.1++vput (numb ids p.2)
def encB (L:List Rl)(ids:List Nat)(l:List (List UInt8×Nat)):List UInt8:=vput ids.length++encR L ids ids.length++vput l.length++encN ids l
end
section
open Go Go.RowKit Sl Eg
def SigOf (L:List Rl)(x y:Nat):Prop:=x≤L.length∧txt L y=txt L x∧good L y∧((txt L x=[]∧y=0)∨∃lv,Rch L (txt L x) lv [y])
def Kn (L:List Rl)(f:Int→Option Value):Prop:=∀k v,f k=some v→∃x y:Nat,k=(x:Nat)∧v= .int .i64 (y:Nat)∧SigOf L x y
theorem Kn.at {L:List Rl}{f:Int→Option Value}(h:Kn L f){x:Nat}{v:Value}(e:f (x:Nat)=some v):∃y:Nat,v= .int .i64 (y:Nat)∧SigOf L x y:=by
 obtain⟨x',y,h1,h2,h3⟩:=h _ _ e
 have:x'=x:=oO
 subst this
 exact⟨y,h2,h3⟩
end
end Go.Proofs.YtblljbllmnbiaaaGreatDoor
