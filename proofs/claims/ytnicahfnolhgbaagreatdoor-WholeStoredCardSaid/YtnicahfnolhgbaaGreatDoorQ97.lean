import Derived.Test.YtnicahfnolhgbaaGreatDoorQ39
set_option linter.all false
set_option maxHeartbeats 1000000
namespace Sl
section
open Go Go.RowKit
def JQ (a b:List UInt8):((⟨⟨a⟩⟩:ByteArray)==⟨⟨b⟩⟩)=decide (a=b):=by
 show((⟨a⟩:Array UInt8)==⟨b⟩)=_;rw[uu];simp
def Iq (k:List UInt8)(u:Value):List (List UInt8×Value)->List (List UInt8×Value)
 |[]=>[]
 |p::l=>if p.1=k then(k,u)::l else p::Iq k u l
def qHn {k u v}:∀{M:List (List UInt8×Value)},M.lookup k=some v->(Iq k u M).lookup k=some u
 |[],h=>by cases h
 |(a,b)::M,h=>by
  unfold Iq;by_cases e:a=k
  ·rw[if_pos e];simp[List.lookup]
  have e':(k==a)=false:=by simpa using fun h:k=a=>e h.symm
  rw[if_neg e];simp only[List.lookup,e']at h ⊢;exact qHn h
def Zp {k x u}(hx:x≠k):∀{M:List (List UInt8×Value)},(Iq k u M).lookup x=M.lookup x
 |[]=>rfl
 |(a,b)::M=>by
  unfold Iq;by_cases e:a=k
  ·have e':(x==k)=false:=by simpa using hx
   subst e;rw[if_pos rfl];simp only[List.lookup,e']
  rw[if_neg e];simp only[List.lookup];rw[Zp hx]
def FT (M:List (List UInt8×Value)):List (Value×Value):=M.map fun p=>(Value.string ⟨⟨p.1⟩⟩,p.2)
def vQ {k}:∀(M:List (List UInt8×Value))(es:List MapEntry)(j:Nat),Dq es=FT  M->
  (M.lookup k=none/\Instr.findNow .string (BN k) es j=some none)\/(∃v i e,M.lookup k=some v/\Instr.findNow .string (BN k) es j=some (some (j+i,v))/\es[i]?=some e/\e.key= BN k/\∀u,Dq (es.modify i (fun e=>{e with key:= BN k,val:=u}))=FT  (Iq k u M))
 |[],[],j,_=> .inl ⟨rfl,rfl⟩
 |[],e::es,j,h=>by simp[Dq,FT]at h
 |p::M,[],j,h=>by simp[Dq,FT]at h
 |(a,b)::M,e::es,j,h=>by
  simp only[Dq,FT,kz,za,Prod.mk.injEq]at h;obtain⟨⟨h1,h2⟩,h3⟩:=h;by_cases hk:k=a
  ·subst hk;refine .inr ⟨b,0,e,by simp[List.lookup],?_,rfl,h1,fun u=>?_⟩
   ·simp[Instr.findNow,h1,h2,Instr.sameNow,JQ]
   simp only[Dq,FT,Iq,if_true,Ai,kz];rw[h3]
  have hb:(k==a)=false:=by simpa using hk
  have hA:∀j,Instr.findNow .string (BN k) (e::es) j=Instr.findNow .string (BN k) es (j+1):=fun j=>by simp[Instr.findNow,h1,Instr.sameNow,JQ,hk]
  rcases vQ (k:=k) M es (j+1) h3 with⟨g1,g2⟩|⟨v,i,e',g1,g2,g3,g4,g5⟩
  ·exact .inl ⟨by simp only[List.lookup,hb];exact g1,by rw[hA];exact g2⟩
  refine .inr ⟨v,i+1,e',by simp only[List.lookup,hb];exact g1,by rw[hA,g2];congr 3;omega,by simpa using g3,g4,fun u=>?_⟩;have:=g5 u;simp only[Dq,FT,Iq,if_neg (Ne.symm hk),Aj,kz,h1,h2]at this ⊢;rw[this]
structure GU (es:List MapEntry)(c:Nat)(M:List (List UInt8×Value)):Prop where
 is:Dq es=FT  M
 keys:(M.map (·.1)).Nodup
 born:(es.map (·.born)).Nodup
 old:∀e∈es,e.born<c
def GU.nil:GU  [] 0 []:=⟨rfl,.nil,.nil,fun e h=>by cases h⟩
def WR {k}:∀{M:List (List UInt8×Value)},M.lookup k=none->k∉M.map (·.1)
 |[],_,h=>by cases h
 |(a,b)::M,h,h'=>by
  by_cases e:k=a
  ·subst e;simp[List.lookup]at h
  have e':(k==a)=false:=by simpa using e
  simp only[List.lookup,e']at h;rcases di.1 h' with h'|h'
  ·exact e h'
  exact WR h h'
def qHm {k u}:∀{M:List (List UInt8×Value)},(Iq k u M).map (·.1)=M.map (·.1)
 |[]=>rfl
 |(a,b)::M=>by
  unfold Iq;by_cases e:a=k
  ·rw[if_pos e];simp[e]
  rw[if_neg e,kz,kz,qHm]
def GU.push {es c M}(h:GU  es c M){k}(u:Value)(hk:M.lookup k=none):GU  (es++[{key:= BN k,val:=u,born:=c}]) (c+1) (M++[(k,u)]):=by
 refine⟨?_,?_,?_,fun e he=>?_⟩
 ·have:=h.is;simp[Dq,FT]at this ⊢;exact this
 ·rw[kv,ng];refine⟨h.keys,by simp,fun a ha b hb=>?_⟩;simp at hb;subst hb;exact fun e=>WR hk (by rw[<-e];exact ha)
 ·rw[kv,ng];refine⟨h.born,by simp,fun a ha b hb=>?_⟩;simp at hb;subst hb;obtain⟨e,he,rfl⟩:=jg.1 ha;have:=h.old e he;omega
 rcases ay.1 he with he|he
 ·have:=h.old e he;omega
 simp at he;subst he;simp
def GU.modify {es c M}(h:GU  es c M){k u i}(he:Dq (es.modify i (fun e=>{e with key:= BN k,val:=u}))=FT  (Iq k u M)):GU  (es.modify i (fun e=>{e with key:= BN k,val:=u})) c (Iq k u M):=by
 have hb:(es.modify i (fun e=>{e with key:=Value.string ⟨⟨k⟩⟩,val:=u})).map (·.born)=es.map (·.born):=by
  apply mh;intro j;simp only[bn,List.getElem?_modify];cases es[j]? with
  |none=>rfl
  |some e=>by_cases hj:i=j<;>simp[hj]
 refine⟨he,by rw[qHm];exact h.keys,by rw[hb];exact h.born,fun e hm=>?_⟩;have h1:e.born∈(es.modify i (fun e=>{e with key:=Value.string ⟨⟨k⟩⟩,val:=u})).map (·.born):=jg.2 ⟨e,hm,rfl⟩;rw[hb]at h1;obtain⟨e2,h2,h3⟩:=jg.1 h1;have:=h.old e2 h2;omega
def dY (b:Nat)(f:List UInt8->Option Value):HP:=fun h=>∃(es:Array MapEntry)(c:Nat)(M:List (List UInt8×Value)),pt b (.map es c) h/\GU  es.toList c M/\∀k,M.lookup k=f k
variable {E:Bp}{n:Nat}{L:Fr}{S S' H H':List HP}{ty:TypeId}{pos:String}{af:Array Edge}{d:Option Nat}{gd:Option (Nat×Bool)}{K:Value->List HP->Prop}
def eQ {t:TypeId}(hk:∀b,K (.map (some b)) (dY b  (fun _=>none)::H)):Ld E n L H ⟨d,.makeMap t none,ty,pos,af,gd⟩ K:=fun Q next a w g hn=>by
 have hA:(execOp a.eval ⟨d,.makeMap t none,ty,pos,af,gd⟩).run E.P w= .ok (.value (.map (some w.heap.size))) (w.alloc (.map #[] 0)):=by
  simp[execOp,Instr.makeMap,newObj];rfl
 unfold Oper.wp;rw[hA,Oper.upon_value];exact hn _ _ _ (hk _) ((g.hp.new _).imp fun k h=>eU (fun k' h'=>⟨#[],0,[],h',GU.nil,fun _=>O⟩) h)
def zC {w0 w b}{f:List UInt8->Option Value}(s:CR w0 w (dY b  f::H)):∃es c M,w.heap[b]?=some (.map es c)/\GU  es.toList c M/\(∀k,M.lookup k=f k)/\CR w0 w (pt b (.map es c)::H):=by
 obtain⟨h1,h2,dd,e,⟨es,c,M,hp,g1,g2⟩,hr⟩:=s.hp;have s':CR w0 w (pt b (.map es c)::H):=⟨s.os,s.tape,s.output,s.size,s.old,h1,h2,dd,e,hp,hr⟩;exact⟨es,c,M,s'.ptr.1,g1,g2,s'⟩
def qJ {P}{kt:TypeId}(hk:P.underlying kt=some .string)(b:Bool)(x:List UInt8)(w:World):(Instr.checkKey b 10000 kt (BN x)).run P w= .ok () w:=by
 show(Instr.checkKey b (9999+1) kt (BN x)).run P w= .ok () w;unfold Instr.checkKey;simp only[Sem.run_bind,fV hk,Result.andThen_ok];rfl
def mO {x y b}{t kt et:TypeId}{f:List UInt8->Option Value}{k z ok r}(ht:E.P.underlying t=some (.map kt et))(hA:E.P.underlying kt=some .string)(hz:∀w,(zeroValue et).run E.P w= .ok z w) (hx:ev L x=some (.map (some b))) (hy:ev L y=some (BN k)) (hm:CO (dY b  f) S S') (hr:f k=r):
  Yl E n L S ⟨d,.lookup t x y ok,ty,pos,af,gd⟩ (wY ok z r):=fun a w g s=>by
 obtain⟨es,c,M,hh,he,hf,_⟩:=zC (s.take hm)
 have hl:(Instr.lookup t (.map (some b)) (BN k) ok).run E.P w= .ok (wY ok z r) w:=by
  subst hr;unfold Instr.lookup;simp only[Sem.run_bind,fV ht,Result.andThen_ok];simp only[getObj,Sem.run,hh];simp only[Result.andThen,Sem.run_bind,Sem.run_pure,qJ hA,Instr.findKey,fV hA];rcases vQ (k:=k) M es.toList 0 he.is with⟨g1,g2⟩|⟨v,i,e,g1,g2,g3,g4,g5⟩
  ·rw[hf]at g1;simp only[g2,Sem.run_pure,Result.andThen_ok,Sem.run_bind,hz,Result.andThen,wY,g1];cases ok<;>rfl
  rw[hf]at g1;simp only[g2,Sem.run_pure,Result.andThen_ok,Sem.run_bind,Result.andThen,wY,g1];cases ok<;>rfl
 simp[execOp,g.ev hx,g.ev hy,hl]
def qMs {M:List (List UInt8×Value)}{k x:List UInt8}{v:Value}(h:M.lookup k=none):(M++[(k,v)]).lookup x=if x=k then some v else M.lookup x:=by
 induction M with
 |nil=>
  by_cases e:x=k
  ·subst e;simp[List.lookup]
  have e':(x==k)=false:=by simpa using e
  simp[List.lookup,e',e]
 |cons p M ih=>
  obtain⟨a,b⟩:=p
  have hA:(k==a)=false:=by
   by_cases e:k=a
   ·subst e;simp[List.lookup]at h
   simpa using e
  simp only[List.lookup,hA]at h
  simp only[jq,List.lookup]
  by_cases e:x=a
  ·subst e
   have:¬x=k:=fun e=>by subst e;simp at hA
   simp[this]
  have e':(x==a)=false:=by simpa using e
  simp only[e']
  exact ih h
def xJ (f:List UInt8->Option Value)(k:List UInt8)(u:Value):List UInt8->Option Value:=fun x=>if x=k then some u else f x
def qP {x y v:Operand}{b:Nat}{t kt et:TypeId}{f:List UInt8->Option Value}{k:List UInt8}{u:Value}(ht:E.P.underlying t=some (.map kt et))(hB:E.P.underlying kt=some .string)(hx:ev L x=some (.map (some b)))(hy:ev L y=some (.string ⟨⟨k⟩⟩))(hv:ev L v=some u)(hm:CO (dY b  f) H H')(hk:K undef (dY b  (xJ f k u)::H')):
  Ld E n L H ⟨d,.mapUpdate t x y v,ty,pos,af,gd⟩ K:=fun Q next a w g hn=>by
 obtain⟨es,c,M,hh,he,hf,s1⟩:=zC (g.hp.take hm);have hD:b<w.heap.size:=(ic.1 hh).1
 obtain⟨es',c',M',hC,hE,hF⟩:∃(es':Array MapEntry)(c':Nat)(M':List (List UInt8×Value)),(Instr.mapUpdate t (.map (some b)) (.string ⟨⟨k⟩⟩) u).run E.P w= .ok () (ChangeMaps.setBlock w b (.map es' c'))/\GU  es'.toList c' M'/\∀x,M'.lookup x=xJ f k u x:=by
  rcases vQ (k:=k) M es.toList 0 he.is with⟨g1,g2⟩|⟨v0,i,e,g1,g2,g3,g4,g5⟩
  ·refine⟨es.push {key:= .string ⟨⟨k⟩⟩,val:=u,born:=c},c+1,M++[(k,u)],?_,by rw[AC];exact he.push u g1,fun x=>?_⟩
   ·unfold Instr.mapUpdate;simp only[Sem.run_bind,fV ht,Result.andThen_ok];simp only[getObj,Sem.run,hh];simp only[Result.andThen,Sem.run_bind,qJ hB,Instr.findKey,fV hB,g2,Sem.run_pure];simp only[setObj,Sem.run];rw[hh];rfl
   rw[qMs g1,xJ,hf]
  refine⟨es.modify i fun e=>{e with key:= .string ⟨⟨k⟩⟩,val:=u},c,Iq k u M,?_,by rw[ze];exact he.modify (g5 u),fun x=>?_⟩
  ·have hs:Instr.sameBits 10000 (.string ⟨⟨k⟩⟩) (.string ⟨⟨k⟩⟩)=true:=by simp[Instr.sameBits,JQ]
   have hG:((es[i]?).map (·.key)).getD (.string ⟨⟨k⟩⟩)= .string ⟨⟨k⟩⟩:=by
    rw[<-yj,g3];exact g4
   unfold Instr.mapUpdate;simp only[Sem.run_bind,fV ht,Result.andThen_ok];simp only[getObj,Sem.run,hh];simp only[Result.andThen,Sem.run_bind,qJ hB,Instr.findKey,fV hB,g2,Sem.run_pure,jh,hG,Instr.keyThatStays,hs,if_true];simp only[setObj,Sem.run];rw[hh];rfl
  unfold xJ;by_cases e:x=k
  ·rw[if_pos e,e];exact qHn g1
  rw[if_neg e,Zp e,hf]
 have hA:(execOp a.eval ⟨d,.mapUpdate t x y v,ty,pos,af,gd⟩).run E.P w= .ok .skip (ChangeMaps.setBlock w b (.map es' c')):=by
  simp[execOp,g.f.ev hx,g.f.ev hy,g.f.ev hv,hC]
 unfold Oper.wp;rw[hA,Oper.upon_skip]
 have hH:CR E.w0 (ChangeMaps.setBlock w b (.map es' c')) (pt b (.map es' c')::H'):=s1.write ⟨O,O,O,by simp[ChangeMaps.setBlock]⟩ (by simp[ChangeMaps.setBlock,hD]) fun j hj=>by
  simp only[ChangeMaps.setBlock];rw[oF (by intro e;exact hj e.symm)]
 exact hn _ _ _ hk (hH.imp fun k' h=>eU (fun k'' hI=>⟨es',c',M',hI,hE,hF⟩) h)
end
section
open Go Go.RowKit
def Zi:∀{M:List (List UInt8×Value)},(M.map (·.1)).Nodup->∀{p},p∈M->M.lookup p.1=some p.2
 |[],_,p,h=>by cases h
 |(a,b)::M,hn,p,h=>by
  have hA:=uq.1 hn;rcases di.1 h with rfl| h
  ·simp[List.lookup]
  have e:(p.1==a)=false:=by
   simp only[beq_eq_false_iff_ne];intro e;exact hA.1 (jg.2 ⟨p,h,e⟩)
  simp only[List.lookup,e];exact Zi hA.2 h
def xC {k v}:∀{M:List (List UInt8×Value)},M.lookup k=some v->(k,v)∈M
 |[],h=>by cases h
 |(a,b)::M,h=>by
  by_cases e:k=a
  ·subst e;simp[List.lookup]at h;subst h;exact nk
  have e':(k==a)=false:=by simpa using e
  simp only[List.lookup,e']at h;exact lg _ (xC h)
variable {es:List MapEntry}{c:Nat}{M:List (List UInt8×Value)}
def GU.mem (h:GU  es c M){e}(he:e∈es):∃k,e.key= BN k/\M.lookup k=some e.val:=by
 have h1:(e.key,e.val)∈FT  M:=by rw[<-h.is];exact jg.2 ⟨e,he,rfl⟩
 obtain⟨p,hp,e1⟩:=jg.1 h1;simp only[Prod.mk.injEq]at e1;exact⟨p.1,e1.1.symm,by rw[<-e1.2];exact Zi h.keys hp⟩
def GU.has (h:GU  es c M){k v}(hl:M.lookup k=some v):∃e∈es,e.key= BN k/\e.val=v:=by
 have h1:(Value.string ⟨⟨k⟩⟩,v)∈Dq es:=by rw[h.is];exact jg.2 ⟨(k,v),xC hl,rfl⟩
 obtain⟨e,he,e1⟩:=jg.1 h1;simp only[Prod.mk.injEq]at e1;exact⟨e,he,e1.1,e1.2⟩
def GU.keys' (h:GU  es c M):(es.map (·.key)).Nodup:=by
 have e1:es.map (·.key)=(M.map (·.1)).map (fun k:List UInt8=>Value.string ⟨⟨k⟩⟩):=by
  have:=au (List.map Prod.fst) h.is;simpa[Dq,FT,qx,Function.comp_def]using this
 rw[e1,oo,wu];exact(oo.1 h.keys).imp fun hA e=>hA (by simpa using e)
def Io (r b:Nat)(f:List UInt8->Option Value)(done:List UInt8->Bool):HP:=fun h=>∃(es:Array MapEntry)(c:Nat)(M:List (List UInt8×Value))(since c0:Nat)(seen:Array Nat),
 dW [pt r (.mapIter (some b) since seen c0),pt b (.map es c)] h/\GU  es.toList c M/\(∀k,M.lookup k=f k)/\(∀e∈es.toList,e.born<since)/\since<=c0/\since<=c/\∀e∈es.toList,∀k,e.key= .string ⟨⟨k⟩⟩->seen.contains e.born=done k
def Xr {r b}{f:List UInt8->Option Value}{done:List UInt8->Bool}{h}(x:Io r b  f done h):dY b  f h:=by
 obtain⟨es,c,M,since,c0,seen,⟨a1,a2,d,e,_,a3,a4,d',e',hp,_⟩,h1,h2,_⟩:=x;refine⟨es,c,M,?_,h1,h2⟩;show h b=_;rw[e];refine kZ d ?_;rw[e'];exact tJ hp
def Ls (r b:Nat)(f:List UInt8->Option Value)(done:List UInt8->Bool)(k:List UInt8)(v:Value):HP:=fun h=>∃(es:Array MapEntry)(c:Nat)(M:List (List UInt8×Value))(since:Nat)(seen:Array Nat)(e1:MapEntry),
 dW [pt r (.mapIter (some b) since (seen.push e1.born) c),pt b (.map es c)] h/\GU  es.toList c M/\(∀k,M.lookup k=f k)/\(∀e∈es.toList,e.born<since)/\since<=c/\(∀e∈es.toList,∀k,e.key= .string ⟨⟨k⟩⟩->(seen.push e1.born).contains e.born=done k)/\e1∈es.toList/\e1.key= .string ⟨⟨k⟩⟩/\e1.val=v
def Va {r b}{f:List UInt8->Option Value}{done:List UInt8->Bool}{k v h}(x:Ls r b  f done k v h):Io r b  f done h:=by
 obtain⟨es,c,M,since,seen,e1,hs,m1,m2,m3,m4,m5,_⟩:=x;exact⟨es,c,M,since,c,seen.push e1.born,hs,m1,m2,m3,m4,m4,m5⟩
variable {E:Bp}{n:Nat}{L:Fr}{S S' H H':List HP}{ty:TypeId}{pos:String}{af:Array Edge}{d:Option Nat}{gd:Option (Nat×Bool)}{K:Value->List HP->Prop}
def yQ {x b}{t kt et:TypeId}{f:List UInt8->Option Value}(ht:E.P.underlying t=some (.map kt et))(hx:ev L x=some (.map (some b)))(hm:CO (dY b  f) H H')(hk:∀r,K (.pointer (BM r)) (Io r b  f (fun _=>false)::H')):Ld E n L H ⟨d,.range t x,ty,pos,af,gd⟩ K:=fun Q next a w g hn=>by
 obtain⟨es,c,M,hh,he,hf,s1⟩:=zC (g.hp.take hm)
 have hA:(execOp a.eval ⟨d,.range t x,ty,pos,af,gd⟩).run E.P w= .ok (.value (.pointer (BM w.heap.size))) (w.alloc (.mapIter (some b) c #[] c)):=by
  simp[execOp,g.f.ev hx,run_range_map w t kt et b es c ht hh]
 unfold Oper.wp;rw[hA,Oper.upon_value];refine hn _ _ _ (hk _) ((s1.new (.mapIter (some b) c #[] c)).imp fun k h=>?_);refine mK (ps:=[pt w.heap.size (.mapIter (some b) c #[] c),pt b (.map es c)]) (fun h' hs=>?_) h;exact⟨es,c,M,c,c,#[],hs,he,hf,he.old,ai _,ai _,fun e _ k _=>by simp⟩
def VA {x r b}{f:List UInt8->Option Value}{done:List UInt8->Bool}(hx:ev L x=some (.pointer (BM r)))(hm:CO (Io r b  f done) H H')(h0:(∀k v,f k=some v->done k=true)->K (.tuple #[.bool false]) (Io r b  f done::H'))
  (h1:∀k v,f k=some v->done k=false->K (.tuple #[.bool true,BN k,v]) (Ls r b  f (fun x=>x==k||done x) k v::H')):Ld E n L H ⟨d,.next x false,ty,pos,af,gd⟩ K:=fun Q next a w g hn=>by
 have s0:=g.hp.take hm;obtain⟨q1,q2,dd,e,⟨es,c,M,since,c0,seen,hs,m1,m2,m3,m4,m5,m6⟩,hr⟩:=s0.hp;have s1:CR E.w0 w (pt r (.mapIter (some b) since seen c0)::pt b (.map es c)::H'):=⟨s0.os,s0.tape,s0.output,s0.size,s0.old,by rw[e];exact mJ hs hr dd⟩;have hK:=s1.ptr.1;have hM:=(s1.imp fun _=>gK).ptr.1;have hN:r<w.heap.size:=(ic.1 hK).1
 have hE:∀(seen':Array Nat)(c1:Nat)(done':List UInt8->Bool),since<=c1->(∀e∈es.toList,∀k,e.key= BN k->seen'.contains e.born=done' k)->∀k,dW (pt r (.mapIter (some b) since seen' c1)::pt b (.map es c)::H') k->dW (Io r b  f done'::H') k:=fun seen' c1 done' g1 g2 k h=>by
  refine mK (ps:=[pt r (.mapIter (some b) since seen' c1),pt b (.map es c)]) (fun h' hH=>?_) h;exact⟨es,c,M,since,c1,seen',hH,m1,m2,m3,g1,m5,g2⟩
 rcases Lx (P:=E.P) (ty:=ty) hK hM m3 m4 with⟨hI,hB⟩|⟨e1,hF,hO,w1,hL,hB⟩
 ·have hA:(execOp a.eval ⟨d,.next x false,ty,pos,af,gd⟩).run E.P w= .ok (.value (.tuple #[.bool false])) w:=by
   simp[execOp,g.f.ev hx,hB]
  unfold Oper.wp;rw[hA,Oper.upon_value];refine hn _ _ _ (h0 fun k v hk=>?_) (s1.imp (hE seen c0 done m4 m6));obtain⟨e2,hC,hD,_⟩:=m1.has ((m2 k).trans hk);rw[<-m6 e2 hC k hD];exact hI e2 hC
 have hA:(execOp a.eval ⟨d,.next x false,ty,pos,af,gd⟩).run E.P w= .ok (.value (.tuple #[.bool true,e1.key,e1.val])) (ChangeMaps.setBlock w1 r (.mapIter (some b) since (seen.push e1.born) c)):=by
  simp[execOp,g.f.ev hx,hB]
 unfold Oper.wp;rw[hA,Oper.upon_value];obtain⟨k1,hG,hP⟩:=m1.mem hF;rw[hG]
 have sw:CR E.w0 w1 (pt r (.mapIter (some b) since seen c0)::pt b (.map es c)::H'):=by
  rcases hL with rfl|rfl
  ·exact s1
  exact s1.drew
 have hz:w1.heap.size=w.heap.size:=by rcases hL with rfl|rfl<;>rfl
 have sx:CR E.w0 (ChangeMaps.setBlock w1 r (.mapIter (some b) since (seen.push e1.born) c)) (pt r (.mapIter (some b) since (seen.push e1.born) c)::pt b (.map es c)::H'):=sw.write ⟨O,O,O,by simp[ChangeMaps.setBlock]⟩ (by simp[ChangeMaps.setBlock,hz,hN]) fun j hj=>by
  simp only[ChangeMaps.setBlock];rw[oF (by intro e;exact hj e.symm)]
 refine hn _ _ _ (h1 k1 e1.val ((m2 k1).symm.trans hP) (by rw[<-m6 e1 hF k1 hG];exact hO)) (sx.imp fun k0 h0=>mK (ps:=[pt r (.mapIter (some b) since (seen.push e1.born) c),pt b (.map es c)]) (fun h' hH=>⟨es,c,M,since,seen,e1,hH,m1,m2,m3,m5,fun e2 hC k hD=>?_,hF,hG,O⟩) h0);rw[Array.contains_push,m6 e2 hC k hD];show _=(k==k1||done k);by_cases hJ:k=k1
 ·subst hJ;have:e2=e1:=yT m1.keys' hC hF (hD.trans hG.symm);subst this;simp
 have hQ:(e2.born==e1.born)=false:=by
  simp only[beq_eq_false_iff_ne];intro hR;have:=yT m1.born hC hF hR;subst this;rw[hG]at hD;exact hJ (by simpa using hD.symm)
 have hS:(k==k1)=false:=by simpa using hJ
 rw[hQ,hS,Bool.or_false,Bool.false_or]
def VM {x r b}{f:List UInt8->Option Value}{done:List UInt8->Bool}{k v}(hx:ev L x=some (.pointer (BM r)))(hm:CO (Ls r b  f done k v) S S'):Yl E n L S ⟨d,.entry x,ty,pos,af,gd⟩ (.tuple #[BN k,v]):=fun a w g s=>by
 have s0:=s.take hm;obtain⟨q1,q2,dd,e,⟨es,c,M,since,seen,e1,hs,m1,m2,m3,m4,m5,hA,hB,hC⟩,hr⟩:=s0.hp;have s1:CR E.w0 w (pt r (.mapIter (some b) since (seen.push e1.born) c)::pt b (.map es c)::S'):=⟨s0.os,s0.tape,s0.output,s0.size,s0.old,by rw[e];exact mJ hs hr dd⟩;have hD:=s1.ptr.1;have hE:=(s1.imp fun _=>gK).ptr.1
 have hf:es.find? (fun e=>e.born==e1.born)=some e1:=by
  cases h:es.find? (fun e=>e.born==e1.born)with
  |none=>
   have h2:=Array.find?_eq_none.1 h e1 (Array.mem_toList_iff.1 hA)
   simp at h2
  |some e2=>
   have h2:=Array.find?_some h
   have h3:=Array.mem_of_find?_eq_some h
   have:e2=e1:=yT m1.born (Array.mem_toList_iff.2 h3) hA (by simpa using h2)
   rw[this]
 simp[execOp,g.ev hx,Instr.entry,getObj,Sem.run_bind,Sem.run,hD,hE,Result.andThen,Array.back?_push,hf,hB,hC]
end
section
open Go Go.RowKit
def qHd {k}:∀{M:List (List UInt8×Value)},k∉M.map (·.1)->M.lookup k=none
 |[],_=>rfl
 |(a,b)::M,h=>by
  have h1:¬k=a:=fun e=>h (by rw[e];exact nk)
  have e':(k==a)=false:=by simpa using h1
  simp only[List.lookup,e'];exact qHd fun hm=>h (lg _ hm)
def qMc {k x v}:∀{M:List (List UInt8×Value)}{i:Nat},M[i]?=some (k,v)->(M.map (·.1)).Nodup->(M.eraseIdx i).lookup x=if x=k then none else M.lookup x
 |[],i,h,_=>by simp at h
 |(a,b)::M,0,h,hn=>by
  simp at h;obtain⟨rfl,rfl⟩:=h;have hA:=uq.1 hn;simp only[List.eraseIdx_cons_zero];by_cases e:x=a
  ·subst e;rw[if_pos rfl];exact qHd hA.1
  have e':(x==a)=false:=by simpa using e
  rw[if_neg e];simp only[List.lookup,e']
 |(a,b)::M,i+1,h,hn=>by
  have hA:=uq.1 hn;have h':M[i]?=some (k,v):=by simpa using h
  have hB:¬a=k:=fun e=>hA.1 (jg.2 ⟨(k,v),ak h',e.symm⟩)
  simp only[Aa];by_cases e:x=a
  ·subst e;rw[if_neg hB];simp[List.lookup]
  have e':(x==a)=false:=by simpa using e
  simp only[List.lookup,e'];exact qMc h' hA.2
def Tx {α β:Type}(f:α->β):∀(l:List α)(i:Nat),(l.eraseIdx i).map f=(l.map f).eraseIdx i
 |[],_=>rfl
 |a::l,0=>rfl
 |a::l,i+1=>by simp only[Aa,kz];rw[Tx f l i]
def GU.erase {es c M}(h:GU es c M)(i:Nat):GU (es.eraseIdx i) c (M.eraseIdx i):=by
 refine⟨?_,?_,?_,fun e he=>h.old e (List.mem_of_mem_eraseIdx he)⟩
 ·have:=h.is;unfold Dq FT at this ⊢;rw[Tx,this,Tx]
 ·rw[Tx];exact h.keys.sublist (Ak ..)
 rw[Tx];exact h.born.sublist (Ak ..)
def GU.at {es:List MapEntry}{c:Nat}{M:List (List UInt8×Value)}(h:GU es c M){i:Nat}{e:MapEntry}{k:List UInt8}(he:es[i]?=some e)(hk:e.key= .string ⟨⟨k⟩⟩):∃v,M[i]?=some (k,v):=by
 have h1:(Dq es)[i]?=some (e.key,e.val):=by unfold Dq;rw[bn,he];rfl
 rw[h.is]at h1;unfold FT at h1;rw[bn]at h1;cases hM:M[i]? with
 |none=>rw[hM]at h1;simp at h1
 |some p=>
  obtain⟨a,b⟩:=p
  rw[hM]at h1
  simp at h1
  obtain⟨h1,_⟩:=h1
  rw[hk]at h1
  simp at h1
  exact⟨b,by rw[h1]⟩
def TB (f:List UInt8->Option Value)(k:List UInt8):List UInt8->Option Value:=fun x=>if x=k then none else f x
def GM (f:List UInt8->Option Value)(n:Nat):Prop:=∃M:List (List UInt8×Value),(M.map (·.1)).Nodup/\(∀k,M.lookup k=f k)/\M.length=n
def GM.none {f:List UInt8->Option Value}(h:GM f 0):∀k,f k=none:=fun k=>by
 obtain⟨M,_,h2,h3⟩:=h;obtain rfl:=si.1 h3;exact(h2 k).symm
def VC {b}{f:List UInt8->Option Value}{h}(x:dY b f h):∃n,GM f n:=by
 obtain⟨es,c,M,_,h1,h2⟩:=x;exact⟨M.length,M,h1.keys,h2,O⟩
def nR {M:List (List UInt8×Value)}{k:List UInt8}:k∈M.map (·.1)↔M.lookup k≠none:=by
 refine⟨fun h e=>WR e h,fun h=>?_⟩;cases e:M.lookup k with
 |none=>exact absurd e h
 |some v=>exact jg.2 ⟨(k,v),xC e,rfl⟩
def GM.fn {f:List UInt8->Option Value}{n m:Nat}(h:GM f n)(h':GM f m):n=m:=by
 obtain⟨M,h1,h2,rfl⟩:=h;obtain⟨M',hA,hB,rfl⟩:=h';have:=(zw h1 hA).2 fun k=>by rw[nR,nR,h2,hB]
 have:=this.length_eq;rwa [jr,jr]at this
variable {E:Bp}{n:Nat}{L:Fr}{S S' H H':List HP}{ty:TypeId}{pos:String}{af:Array Edge}{d:Option Nat}{gd:Option (Nat×Bool)}{K:Value->List HP->Prop}
def qVg {x b}{t kt et:TypeId}{f:List UInt8->Option Value}{c}(ht:E.P.underlying t=some (.map kt et))(hx:ev L x=some (.map (some b)))(hm:CO (dY b f) S S')(hc:GM f c):
  Yl E n L S ⟨d,.call {callee:= .builtin .len,args:= #[x],argTypes:= #[t]},ty,pos,af,gd⟩ (BK c):=fun a w g s=>by
 obtain⟨es,c1,M,hh,he,hf,_⟩:=zC (s.take hm)
 have e1:es.size=c:=by
  have h1:(Dq es.toList).length=(FT M).length:=by rw[he.is]
  unfold Dq FT at h1;rw[jr,jr,mo]at h1;rw[h1];exact GM.fn ⟨M,he.keys,hf,O⟩ hc
 simp[execOp,resolve,invoke,builtin,Builtin.len_,underlying,program,Sem.run,ht,g.ev hx,goInt,getObj,hh,e1]
def qUk {x y:Operand}{b:Nat}{t t2 kt et:TypeId}{f:List UInt8->Option Value}{k:List UInt8}(ht:E.P.underlying t=some (.map kt et))(hB:E.P.underlying kt=some .string)(hx:ev L x=some (.map (some b)))(hy:ev L y=some (.string ⟨⟨k⟩⟩))(hm:CO (dY b f) H H')(hk:K (.tuple #[]) (dY b (TB f k)::H')):
  Ld E n L H ⟨d,.call {callee:= .builtin .delete,args:= #[x,y],argTypes:= #[t,t2]},ty,pos,af,gd⟩ K:=fun Q next a w g hn=>by
 obtain⟨es,c,M,hh,he,hf,s1⟩:=zC (g.hp.take hm);have hD:b<w.heap.size:=(ic.1 hh).1
 obtain⟨es',M',hC,hE,hF⟩:∃(es':Array MapEntry)(M':List (List UInt8×Value)),(Builtin.delete_ #[t,t2] ty #[.map (some b),.string ⟨⟨k⟩⟩]).run E.P w= .ok (.tuple #[]) (ChangeMaps.setBlock w b (.map es' c))/\GU es'.toList c M'/\∀x,M'.lookup x=TB f k x:=by
  rcases vQ (k:=k) M es.toList 0 he.is with⟨g1,g2⟩|⟨v0,i,e,g1,g2,g3,g4,g5⟩
  ·refine⟨es,M,?_,he,fun x=>?_⟩
   ·unfold Builtin.delete_;simp only[Al,Ab,rz,Sem.run_bind,fV ht,Result.andThen_ok];simp only[getObj,Sem.run,hh];simp only[Result.andThen,Sem.run_bind,qJ hB,Instr.findKey,fV hB,g2,Sem.run_pure];simp only[setObj,Sem.run];rw[hh];rfl
   unfold TB;by_cases e:x=k
   ·rw[if_pos e,e];exact g1
   rw[if_neg e,hf]
  obtain⟨v,hv⟩:=he.at g3 g4;refine⟨es.eraseIdxIfInBounds i,M.eraseIdx i,?_,?_,fun x=>?_⟩
  ·unfold Builtin.delete_;simp only[Al,Ab,rz,Sem.run_bind,fV ht,Result.andThen_ok];simp only[getObj,Sem.run,hh];simp only[Result.andThen,Sem.run_bind,qJ hB,Instr.findKey,fV hB,g2,Sem.run_pure,jh];simp only[setObj,Sem.run];rw[hh];rfl
  ·have e1:(es.eraseIdxIfInBounds i).toList=es.toList.eraseIdx i:=by
    rw[Array.eraseIdxIfInBounds_eq];split
    ·rw[Array.toList_eraseIdx]
    rename_i hi
    have:=(ae.1 g3).1;rw[mo]at this;exact absurd this hi
   rw[e1];exact he.erase i
  rw[qMc hv he.keys];unfold TB;by_cases e:x=k
  ·rw[if_pos e,if_pos e]
  rw[if_neg e,if_neg e,hf]
 have hA:(execOp a.eval ⟨d,.call {callee:= .builtin .delete,args:= #[x,y],argTypes:= #[t,t2]},ty,pos,af,gd⟩).run E.P w= .ok (.value (.tuple #[])) (ChangeMaps.setBlock w b (.map es' c)):=by
  simp[execOp,resolve,invoke,builtin,g.f.ev hx,g.f.ev hy,hC]
 unfold Oper.wp;rw[hA,Oper.upon_value]
 have hG:CR E.w0 (ChangeMaps.setBlock w b (.map es' c)) (pt b (.map es' c)::H'):=s1.write ⟨O,O,O,by simp[ChangeMaps.setBlock]⟩ (by simp[ChangeMaps.setBlock,hD]) fun j hj=>by
  simp only[ChangeMaps.setBlock];rw[oF (by intro e;exact hj e.symm)]
 exact hn _ _ _ hk (hG.imp fun k' h=>eU (fun k'' hH=>⟨es',c,M',hH,hE,hF⟩) h)
end
end Sl
