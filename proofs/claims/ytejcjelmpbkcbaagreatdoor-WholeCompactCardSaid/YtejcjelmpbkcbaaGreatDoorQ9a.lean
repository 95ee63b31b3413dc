import Derived.Test.YtejcjelmpbkcbaaGreatDoorQ79
set_option linter.all false
set_option maxHeartbeats 1000000
namespace Sl
section
open Go Go.RowKit
def ba_eq (a b:List UInt8):((⟨⟨a⟩⟩:ByteArray)==⟨⟨b⟩⟩)=decide (a=b):=by
 show((⟨a⟩:Array UInt8)==⟨b⟩)=_;rw[qm];simp
def zM (k:List UInt8)(u:Value):List (List UInt8×Value)->List (List UInt8×Value)
 |[]=>[]
 |p::l=>if p.1=k then(k,u)::l else p::zM k u l
def qGm {k:List UInt8}{u v:Value}:∀{M:List (List UInt8×Value)},M.lookup k=some v->(zM k u M).lookup k=some u
 |[],h=>by cases h
 |(a,b)::M,h=>by
  unfold zM;by_cases e:a=k
  ·rw[if_pos e];simp[List.lookup]
  have e':(k==a)=false:=by simpa using fun h:k=a=>e h.symm
  rw[if_neg e];simp only[List.lookup,e']at h ⊢;exact qGm h
def qDx {k x:List UInt8}{u:Value}(hx:x≠k):∀{M:List (List UInt8×Value)},(zM k u M).lookup x=M.lookup x
 |[]=>rfl
 |(a,b)::M=>by
  unfold zM;by_cases e:a=k
  ·have e':(x==k)=false:=by simpa using hx
   subst e;rw[if_pos rfl];simp only[List.lookup,e']
  rw[if_neg e];simp only[List.lookup];rw[qDx hx]
def prsS (M:List (List UInt8×Value)):List (Value×Value):=M.map fun p=>(Value.string ⟨⟨p.1⟩⟩,p.2)
def yX {k:List UInt8}:∀(M:List (List UInt8×Value))(es:List MapEntry)(j:Nat),ents es=prsS  M->
  (M.lookup k=none/\Instr.findNow .string (.string ⟨⟨k⟩⟩) es j=some none)\/(∃v i e,M.lookup k=some v/\Instr.findNow .string (.string ⟨⟨k⟩⟩) es j=some (some (j+i,v))/\es[i]?=some e/\e.key= .string ⟨⟨k⟩⟩/\∀u,ents (es.modify i (fun e=>{e with key:= .string ⟨⟨k⟩⟩,val:=u}))=prsS  (zM k u M))
 |[],[],j,_=> .inl ⟨rfl,rfl⟩
 |[],e::es,j,h=>by simp[ents,prsS]at h
 |p::M,[],j,h=>by simp[ents,prsS]at h
 |(a,b)::M,e::es,j,h=>by
  simp only[ents,prsS,jr,xy,Prod.mk.injEq]at h;obtain⟨⟨h1,h2⟩,h3⟩:=h;by_cases hk:k=a
  ·subst hk;refine .inr ⟨b,0,e,by simp[List.lookup],?_,rfl,h1,fun u=>?_⟩
   ·simp[Instr.findNow,h1,h2,Instr.sameNow,ba_eq]
   simp only[ents,prsS,zM,if_true,AQ,jr];rw[h3]
  have hb:(k==a)=false:=by simpa using hk
  have hstep:∀j,Instr.findNow .string (.string ⟨⟨k⟩⟩) (e::es) j=Instr.findNow .string (.string ⟨⟨k⟩⟩) es (j+1):=fun j=>by simp[Instr.findNow,h1,Instr.sameNow,ba_eq,hk]
  rcases yX (k:=k) M es (j+1) h3 with⟨g1,g2⟩|⟨v,i,e',g1,g2,g3,g4,g5⟩
  ·exact .inl ⟨by simp only[List.lookup,hb];exact g1,by rw[hstep];exact g2⟩
  refine .inr ⟨v,i+1,e',by simp only[List.lookup,hb];exact g1,by rw[hstep,g2];congr 3;omega,by simpa using g3,g4,fun u=>?_⟩;have:=g5 u;simp only[ents,prsS,zM,if_neg (Ne.symm hk),AR,jr,h1,h2]at this ⊢;rw[this]
structure MpS (es:List MapEntry)(c:Nat)(M:List (List UInt8×Value)):Prop where
 is:ents es=prsS  M
 keys:(M.map (·.1)).Nodup
 born:(es.map (·.born)).Nodup
 old:∀e∈es,e.born<c
def MpS.nil:MpS  [] 0 []:=⟨rfl,.nil,.nil,fun e h=>by cases h⟩
def zB {k:List UInt8}:∀{M:List (List UInt8×Value)},M.lookup k=none->k∉M.map (·.1)
 |[],_,h=>by cases h
 |(a,b)::M,h,h'=>by
  by_cases e:k=a
  ·subst e;simp[List.lookup]at h
  have e':(k==a)=false:=by simpa using e
  simp only[List.lookup,e']at h;rcases jo.1 h' with h'|h'
  ·exact e h'
  exact zB h h'
def qGl {k:List UInt8}{u:Value}:∀{M:List (List UInt8×Value)},(zM k u M).map (·.1)=M.map (·.1)
 |[]=>rfl
 |(a,b)::M=>by
  unfold zM;by_cases e:a=k
  ·rw[if_pos e];simp[e]
  rw[if_neg e,jr,jr,qGl]
def MpS.push {es:List MapEntry}{c:Nat}{M:List (List UInt8×Value)}(h:MpS  es c M){k:List UInt8}(u:Value)(hk:M.lookup k=none):MpS  (es++[{key:= .string ⟨⟨k⟩⟩,val:=u,born:=c}]) (c+1) (M++[(k,u)]):=by
 refine⟨?_,?_,?_,fun e he=>?_⟩
 ·have:=h.is;simp[ents,prsS]at this ⊢;exact this
 ·rw[jh,nu];refine⟨h.keys,by simp,fun a ha b hb=>?_⟩;simp at hb;subst hb;exact fun e=>zB hk (by rw[<-e];exact ha)
 ·rw[jh,nu];refine⟨h.born,by simp,fun a ha b hb=>?_⟩;simp at hb;subst hb;obtain⟨e,he,rfl⟩:=dw.1 ha;have:=h.old e he;omega
 rcases bi.1 he with he|he
 ·have:=h.old e he;omega
 simp at he;subst he;simp
def MpS.modify {es:List MapEntry}{c:Nat}{M:List (List UInt8×Value)}(h:MpS  es c M){k:List UInt8}{u:Value}{i:Nat}(he:ents (es.modify i (fun e=>{e with key:= .string ⟨⟨k⟩⟩,val:=u}))=prsS  (zM k u M)):MpS  (es.modify i (fun e=>{e with key:= .string ⟨⟨k⟩⟩,val:=u})) c (zM k u M):=by
 have hb:(es.modify i (fun e=>{e with key:=Value.string ⟨⟨k⟩⟩,val:=u})).map (·.born)=es.map (·.born):=by
  apply kz;intro j;simp only[bu,List.getElem?_modify];cases es[j]? with
  |none=>rfl
  |some e=>by_cases hj:i=j<;>simp[hj]
 refine⟨he,by rw[qGl];exact h.keys,by rw[hb];exact h.born,fun e hm=>?_⟩;have h1:e.born∈(es.modify i (fun e=>{e with key:=Value.string ⟨⟨k⟩⟩,val:=u})).map (·.born):=dw.2 ⟨e,hm,rfl⟩;rw[hb]at h1;obtain⟨e2,h2,h3⟩:=dw.1 h1;have:=h.old e2 h2;omega
def kL (b:Nat)(f:List UInt8->Option Value):HP:=fun h=>∃(es:Array MapEntry)(c:Nat)(M:List (List UInt8×Value)),pt b (.map es c) h/\MpS  es.toList c M/\∀k,M.lookup k=f k
variable {E:Env}{n:Nat}{L:Fr}{S S' H H':List HP}{ty:TypeId}{pos:String}{af:Array Edge}{d:Option Nat}{gd:Option (Nat×Bool)}{K:Value->List HP->Prop}
def qSn {t:TypeId}(hk:∀b,K (.map (some b)) (kL b  (fun _=>none)::H)):Ld E n L H ⟨d,.makeMap t none,ty,pos,af,gd⟩ K:=fun Q next a w g hn=>by
 have hrun:(execOp a.eval ⟨d,.makeMap t none,ty,pos,af,gd⟩).run E.P w= .ok (.value (.map (some w.heap.size))) (w.alloc (.map #[] 0)):=by
  simp[execOp,Instr.makeMap,newObj];rfl
 unfold Oper.wp;rw[hrun,Oper.upon_value];exact hn _ _ _ (hk _) ((g.hp.new _).imp fun k h=>fA (fun k' h'=>⟨#[],0,[],h',MpS.nil,fun _=>O⟩) h)
def qBm {w0 w:World}{b:Nat}{f:List UInt8->Option Value}(s:Sat w0 w (kL b  f::H)):∃es c M,w.heap[b]?=some (.map es c)/\MpS  es.toList c M/\(∀k,M.lookup k=f k)/\Sat w0 w (pt b (.map es c)::H):=by
 obtain⟨h1,h2,dd,e,⟨es,c,M,hp,g1,g2⟩,hr⟩:=s.hp;have s':Sat w0 w (pt b (.map es c)::H):=⟨s.os,s.tape,s.output,s.size,s.old,h1,h2,dd,e,hp,hr⟩;exact⟨es,c,M,s'.ptr.1,g1,g2,s'⟩
def yK {P:Program}{kt:TypeId}(hk:P.underlying kt=some .string)(b:Bool)(x:List UInt8)(w:World):(Instr.checkKey b 10000 kt (.string ⟨⟨x⟩⟩)).run P w= .ok () w:=by
 show(Instr.checkKey b (9999+1) kt (.string ⟨⟨x⟩⟩)).run P w= .ok () w;unfold Instr.checkKey;simp only[Sem.run_bind,gM hk,Result.andThen_ok];rfl
def qPa {x y:Operand}{b:Nat}{t kt et:TypeId}{f:List UInt8->Option Value}{k:List UInt8}{z:Value}{ok:Bool}{r:Option Value}(ht:E.P.underlying t=some (.map kt et))(hkt:E.P.underlying kt=some .string)(hz:∀w,(zeroValue et).run E.P w= .ok z w) (hx:ev L x=some (.map (some b))) (hy:ev L y=some (.string ⟨⟨k⟩⟩)) (hm:Take (kL b  f) S S') (hr:f k=r):
  Yl E n L S ⟨d,.lookup t x y ok,ty,pos,af,gd⟩ (xJ ok z r):=fun a w g s=>by
 obtain⟨es,c,M,hh,he,hf,_⟩:=qBm (s.take hm)
 have hl:(Instr.lookup t (.map (some b)) (.string ⟨⟨k⟩⟩) ok).run E.P w= .ok (xJ ok z r) w:=by
  subst hr;unfold Instr.lookup;simp only[Sem.run_bind,gM ht,Result.andThen_ok];simp only[getObj,Sem.run,hh];simp only[Result.andThen,Sem.run_bind,Sem.run_pure,yK hkt,Instr.findKey,gM hkt];rcases yX (k:=k) M es.toList 0 he.is with⟨g1,g2⟩|⟨v,i,e,g1,g2,g3,g4,g5⟩
  ·rw[hf]at g1;simp only[g2,Sem.run_pure,Result.andThen_ok,Sem.run_bind,hz,Result.andThen,xJ,g1];cases ok<;>rfl
  rw[hf]at g1;simp only[g2,Sem.run_pure,Result.andThen_ok,Sem.run_bind,Result.andThen,xJ,g1];cases ok<;>rfl
 simp[execOp,g.ev hx,g.ev hy,hl]
def qLc {M:List (List UInt8×Value)}{k x:List UInt8}{v:Value}(h:M.lookup k=none):(M++[(k,v)]).lookup x=if x=k then some v else M.lookup x:=by
 induction M with
 |nil=>
  by_cases e:x=k
  ·subst e;simp[List.lookup]
  have e':(x==k)=false:=by simpa using e
  simp[List.lookup,e',e]
 |cons p M ih=>
  obtain⟨a,b⟩:=p
  have hka:(k==a)=false:=by
   by_cases e:k=a
   ·subst e;simp[List.lookup]at h
   simpa using e
  simp only[List.lookup,hka]at h
  simp only[jq,List.lookup]
  by_cases e:x=a
  ·subst e
   have:¬x=k:=fun e=>by subst e;simp at hka
   simp[this]
  have e':(x==a)=false:=by simpa using e
  simp only[e']
  exact ih h
def qIv (f:List UInt8->Option Value)(k:List UInt8)(u:Value):List UInt8->Option Value:=fun x=>if x=k then some u else f x
def qFx {x y v:Operand}{b:Nat}{t kt et:TypeId}{f:List UInt8->Option Value}{k:List UInt8}{u:Value}(ht:E.P.underlying t=some (.map kt et))(hkt:E.P.underlying kt=some .string)(hx:ev L x=some (.map (some b)))(hy:ev L y=some (.string ⟨⟨k⟩⟩))(hv:ev L v=some u)(hm:Take (kL b  f) H H')(hk:K undef (kL b  (qIv f k u)::H')):
  Ld E n L H ⟨d,.mapUpdate t x y v,ty,pos,af,gd⟩ K:=fun Q next a w g hn=>by
 obtain⟨es,c,M,hh,he,hf,s1⟩:=qBm (g.hp.take hm);have hlt:b<w.heap.size:=(gz.1 hh).1
 obtain⟨es',c',M',hrun,he',hf'⟩:∃(es':Array MapEntry)(c':Nat)(M':List (List UInt8×Value)),(Instr.mapUpdate t (.map (some b)) (.string ⟨⟨k⟩⟩) u).run E.P w= .ok () (ChangeMaps.setBlock w b (.map es' c'))/\MpS  es'.toList c' M'/\∀x,M'.lookup x=qIv f k u x:=by
  rcases yX (k:=k) M es.toList 0 he.is with⟨g1,g2⟩|⟨v0,i,e,g1,g2,g3,g4,g5⟩
  ·refine⟨es.push {key:= .string ⟨⟨k⟩⟩,val:=u,born:=c},c+1,M++[(k,u)],?_,by rw[zn];exact he.push u g1,fun x=>?_⟩
   ·unfold Instr.mapUpdate;simp only[Sem.run_bind,gM ht,Result.andThen_ok];simp only[getObj,Sem.run,hh];simp only[Result.andThen,Sem.run_bind,yK hkt,Instr.findKey,gM hkt,g2,Sem.run_pure];simp only[setObj,Sem.run];rw[hh];rfl
   rw[qLc g1,qIv,hf]
  refine⟨es.modify i fun e=>{e with key:= .string ⟨⟨k⟩⟩,val:=u},c,zM k u M,?_,by rw[yg];exact he.modify (g5 u),fun x=>?_⟩
  ·have hs:Instr.sameBits 10000 (.string ⟨⟨k⟩⟩) (.string ⟨⟨k⟩⟩)=true:=by simp[Instr.sameBits,ba_eq]
   have he2:((es[i]?).map (·.key)).getD (.string ⟨⟨k⟩⟩)= .string ⟨⟨k⟩⟩:=by
    rw[<-xg,g3];exact g4
   unfold Instr.mapUpdate;simp only[Sem.run_bind,gM ht,Result.andThen_ok];simp only[getObj,Sem.run,hh];simp only[Result.andThen,Sem.run_bind,yK hkt,Instr.findKey,gM hkt,g2,Sem.run_pure,kg,he2,Instr.keyThatStays,hs,if_true];simp only[setObj,Sem.run];rw[hh];rfl
  unfold qIv;by_cases e:x=k
  ·rw[if_pos e,e];exact qGm g1
  rw[if_neg e,qDx e,hf]
 have hrun':(execOp a.eval ⟨d,.mapUpdate t x y v,ty,pos,af,gd⟩).run E.P w= .ok .skip (ChangeMaps.setBlock w b (.map es' c')):=by
  simp[execOp,g.f.ev hx,g.f.ev hy,g.f.ev hv,hrun]
 unfold Oper.wp;rw[hrun',Oper.upon_skip]
 have hs2:Sat E.w0 (ChangeMaps.setBlock w b (.map es' c')) (pt b (.map es' c')::H'):=s1.write ⟨O,O,O,by simp[ChangeMaps.setBlock]⟩ (by simp[ChangeMaps.setBlock,hlt]) fun j hj=>by
  simp only[ChangeMaps.setBlock];rw[mr (by intro e;exact hj e.symm)]
 exact hn _ _ _ hk (hs2.imp fun k' h=>fA (fun k'' h''=>⟨es',c',M',h'',he',hf'⟩) h)
end
section
open Go Go.RowKit
def qDb:∀{M:List (List UInt8×Value)},(M.map (·.1)).Nodup->∀{p},p∈M->M.lookup p.1=some p.2
 |[],_,p,h=>by cases h
 |(a,b)::M,hn,p,h=>by
  have hn':=wm.1 hn;rcases jo.1 h with rfl| h
  ·simp[List.lookup]
  have e:(p.1==a)=false:=by
   simp only[beq_eq_false_iff_ne];intro e;exact hn'.1 (dw.2 ⟨p,h,e⟩)
  simp only[List.lookup,e];exact qDb hn'.2 h
def vW {k:List UInt8}{v:Value}:∀{M:List (List UInt8×Value)},M.lookup k=some v->(k,v)∈M
 |[],h=>by cases h
 |(a,b)::M,h=>by
  by_cases e:k=a
  ·subst e;simp[List.lookup]at h;subst h;exact oM
  have e':(k==a)=false:=by simpa using e
  simp only[List.lookup,e']at h;exact oJ _ (vW h)
variable {es:List MapEntry}{c:Nat}{M:List (List UInt8×Value)}
def MpS.mem (h:MpS  es c M){e:MapEntry}(he:e∈es):∃k,e.key= .string ⟨⟨k⟩⟩/\M.lookup k=some e.val:=by
 have h1:(e.key,e.val)∈prsS  M:=by rw[<-h.is];exact dw.2 ⟨e,he,rfl⟩
 obtain⟨p,hp,e1⟩:=dw.1 h1;simp only[Prod.mk.injEq]at e1;exact⟨p.1,e1.1.symm,by rw[<-e1.2];exact qDb h.keys hp⟩
def MpS.has (h:MpS  es c M){k:List UInt8}{v:Value}(hl:M.lookup k=some v):∃e∈es,e.key= .string ⟨⟨k⟩⟩/\e.val=v:=by
 have h1:(Value.string ⟨⟨k⟩⟩,v)∈ents es:=by rw[h.is];exact dw.2 ⟨(k,v),vW hl,rfl⟩
 obtain⟨e,he,e1⟩:=dw.1 h1;simp only[Prod.mk.injEq]at e1;exact⟨e,he,e1.1,e1.2⟩
def MpS.keys' (h:MpS  es c M):(es.map (·.key)).Nodup:=by
 have e1:es.map (·.key)=(M.map (·.1)).map (fun k:List UInt8=>Value.string ⟨⟨k⟩⟩):=by
  have:=bg (List.map Prod.fst) h.is;simpa[ents,prsS,nz,Function.comp_def]using this
 rw[e1,oG,ww];exact(oG.1 h.keys).imp fun hne e=>hne (by simpa using e)
def qAs (r b:Nat)(f:List UInt8->Option Value)(done:List UInt8->Bool):HP:=fun h=>∃(es:Array MapEntry)(c:Nat)(M:List (List UInt8×Value))(since c0:Nat)(seen:Array Nat),
 dS [pt r (.mapIter (some b) since seen c0),pt b (.map es c)] h/\MpS  es.toList c M/\(∀k,M.lookup k=f k)/\(∀e∈es.toList,e.born<since)/\since<=c0/\since<=c/\∀e∈es.toList,∀k,e.key= .string ⟨⟨k⟩⟩->seen.contains e.born=done k
def qIo {r b:Nat}{f:List UInt8->Option Value}{done:List UInt8->Bool}{h:PH}(x:qAs r b  f done h):kL b  f h:=by
 obtain⟨es,c,M,since,c0,seen,⟨a1,a2,d,e,_,a3,a4,d',e',hp,_⟩,h1,h2,_⟩:=x;refine⟨es,c,M,?_,h1,h2⟩;show h b=_;rw[e];refine kF d ?_;rw[e'];exact qK hp
def rngES (r b:Nat)(f:List UInt8->Option Value)(done:List UInt8->Bool)(k:List UInt8)(v:Value):HP:=fun h=>∃(es:Array MapEntry)(c:Nat)(M:List (List UInt8×Value))(since:Nat)(seen:Array Nat)(e1:MapEntry),
 dS [pt r (.mapIter (some b) since (seen.push e1.born) c),pt b (.map es c)] h/\MpS  es.toList c M/\(∀k,M.lookup k=f k)/\(∀e∈es.toList,e.born<since)/\since<=c/\(∀e∈es.toList,∀k,e.key= .string ⟨⟨k⟩⟩->(seen.push e1.born).contains e.born=done k)/\e1∈es.toList/\e1.key= .string ⟨⟨k⟩⟩/\e1.val=v
def qOl {r b:Nat}{f:List UInt8->Option Value}{done:List UInt8->Bool}{k:List UInt8}{v:Value}{h:PH}(x:rngES r b  f done k v h):qAs r b  f done h:=by
 obtain⟨es,c,M,since,seen,e1,hs,m1,m2,m3,m4,m5,_⟩:=x;exact⟨es,c,M,since,c,seen.push e1.born,hs,m1,m2,m3,m4,m4,m5⟩
variable {E:Env}{n:Nat}{L:Fr}{S S' H H':List HP}{ty:TypeId}{pos:String}{af:Array Edge}{d:Option Nat}{gd:Option (Nat×Bool)}{K:Value->List HP->Prop}
def qCz {x:Operand}{b:Nat}{t kt et:TypeId}{f:List UInt8->Option Value}(ht:E.P.underlying t=some (.map kt et))(hx:ev L x=some (.map (some b)))(hm:Take (kL b  f) H H')(hk:∀r,K (.pointer (some ⟨r,0,none⟩)) (qAs r b  f (fun _=>false)::H')):Ld E n L H ⟨d,.range t x,ty,pos,af,gd⟩ K:=fun Q next a w g hn=>by
 obtain⟨es,c,M,hh,he,hf,s1⟩:=qBm (g.hp.take hm)
 have hrun:(execOp a.eval ⟨d,.range t x,ty,pos,af,gd⟩).run E.P w= .ok (.value (.pointer (some ⟨w.heap.size,0,none⟩))) (w.alloc (.mapIter (some b) c #[] c)):=by
  simp[execOp,g.f.ev hx,run_range_map w t kt et b es c ht hh]
 unfold Oper.wp;rw[hrun,Oper.upon_value];refine hn _ _ _ (hk _) ((s1.new (.mapIter (some b) c #[] c)).imp fun k h=>?_);refine kY (ps:=[pt w.heap.size (.mapIter (some b) c #[] c),pt b (.map es c)]) (fun h' hs=>?_) h;exact⟨es,c,M,c,c,#[],hs,he,hf,he.old,aj _,aj _,fun e _ k _=>by simp⟩
def qHy {x:Operand}{r b:Nat}{f:List UInt8->Option Value}{done:List UInt8->Bool}(hx:ev L x=some (.pointer (some ⟨r,0,none⟩)))(hm:Take (qAs r b  f done) H H')(h0:(∀k v,f k=some v->done k=true)->K (.tuple #[.bool false]) (qAs r b  f done::H'))
  (h1:∀k v,f k=some v->done k=false->K (.tuple #[.bool true,.string ⟨⟨k⟩⟩,v]) (rngES r b  f (fun x=>x==k||done x) k v::H')):Ld E n L H ⟨d,.next x false,ty,pos,af,gd⟩ K:=fun Q next a w g hn=>by
 have s0:=g.hp.take hm;obtain⟨q1,q2,dd,e,⟨es,c,M,since,c0,seen,hs,m1,m2,m3,m4,m5,m6⟩,hr⟩:=s0.hp;have s1:Sat E.w0 w (pt r (.mapIter (some b) since seen c0)::pt b (.map es c)::H'):=⟨s0.os,s0.tape,s0.output,s0.size,s0.old,by rw[e];exact kX hs hr dd⟩;have hr1:=s1.ptr.1;have hb1:=(s1.imp fun _=>gD).ptr.1;have hlt:r<w.heap.size:=(gz.1 hr1).1
 have hpack:∀(seen':Array Nat)(c1:Nat)(done':List UInt8->Bool),since<=c1->(∀e∈es.toList,∀k,e.key= .string ⟨⟨k⟩⟩->seen'.contains e.born=done' k)->∀k,dS (pt r (.mapIter (some b) since seen' c1)::pt b (.map es c)::H') k->dS (qAs r b  f done'::H') k:=fun seen' c1 done' g1 g2 k h=>by
  refine kY (ps:=[pt r (.mapIter (some b) since seen' c1),pt b (.map es c)]) (fun h' hs'=>?_) h;exact⟨es,c,M,since,c1,seen',hs',m1,m2,m3,g1,m5,g2⟩
 rcases qQo (P:=E.P) (ty:=ty) hr1 hb1 m3 m4 with⟨hall,hrun⟩|⟨e1,he1,hs1,w1,hw1,hrun⟩
 ·have hrun':(execOp a.eval ⟨d,.next x false,ty,pos,af,gd⟩).run E.P w= .ok (.value (.tuple #[.bool false])) w:=by
   simp[execOp,g.f.ev hx,hrun]
  unfold Oper.wp;rw[hrun',Oper.upon_value];refine hn _ _ _ (h0 fun k v hk=>?_) (s1.imp (hpack seen c0 done m4 m6));obtain⟨e2,he2,hk2,_⟩:=m1.has ((m2 k).trans hk);rw[<-m6 e2 he2 k hk2];exact hall e2 he2
 have hrun':(execOp a.eval ⟨d,.next x false,ty,pos,af,gd⟩).run E.P w= .ok (.value (.tuple #[.bool true,e1.key,e1.val])) (ChangeMaps.setBlock w1 r (.mapIter (some b) since (seen.push e1.born) c)):=by
  simp[execOp,g.f.ev hx,hrun]
 unfold Oper.wp;rw[hrun',Oper.upon_value];obtain⟨k1,hk1,hl1⟩:=m1.mem he1;rw[hk1]
 have sw:Sat E.w0 w1 (pt r (.mapIter (some b) since seen c0)::pt b (.map es c)::H'):=by
  rcases hw1 with rfl|rfl
  ·exact s1
  exact s1.drew
 have hz:w1.heap.size=w.heap.size:=by rcases hw1 with rfl|rfl<;>rfl
 have sx:Sat E.w0 (ChangeMaps.setBlock w1 r (.mapIter (some b) since (seen.push e1.born) c)) (pt r (.mapIter (some b) since (seen.push e1.born) c)::pt b (.map es c)::H'):=sw.write ⟨O,O,O,by simp[ChangeMaps.setBlock]⟩ (by simp[ChangeMaps.setBlock,hz,hlt]) fun j hj=>by
  simp only[ChangeMaps.setBlock];rw[mr (by intro e;exact hj e.symm)]
 refine hn _ _ _ (h1 k1 e1.val ((m2 k1).symm.trans hl1) (by rw[<-m6 e1 he1 k1 hk1];exact hs1)) (sx.imp fun k0 h0=>kY (ps:=[pt r (.mapIter (some b) since (seen.push e1.born) c),pt b (.map es c)]) (fun h' hs'=>⟨es,c,M,since,seen,e1,hs',m1,m2,m3,m5,fun e2 he2 k hk2=>?_,he1,hk1,O⟩) h0);rw[Array.contains_push,m6 e2 he2 k hk2];show _=(k==k1||done k);by_cases hkk:k=k1
 ·subst hkk;have:e2=e1:=nX m1.keys' he2 he1 (hk2.trans hk1.symm);subst this;simp
 have hbb:(e2.born==e1.born)=false:=by
  simp only[beq_eq_false_iff_ne];intro hb2;have:=nX m1.born he2 he1 hb2;subst this;rw[hk1]at hk2;exact hkk (by simpa using hk2.symm)
 have hkb:(k==k1)=false:=by simpa using hkk
 rw[hbb,hkb,AZ,Aa]
def qJq {x:Operand}{r b:Nat}{f:List UInt8->Option Value}{done:List UInt8->Bool}{k:List UInt8}{v:Value}(hx:ev L x=some (.pointer (some ⟨r,0,none⟩)))(hm:Take (rngES r b  f done k v) S S'):Yl E n L S ⟨d,.entry x,ty,pos,af,gd⟩ (.tuple #[.string ⟨⟨k⟩⟩,v]):=fun a w g s=>by
 have s0:=s.take hm;obtain⟨q1,q2,dd,e,⟨es,c,M,since,seen,e1,hs,m1,m2,m3,m4,m5,he1,hk1,hv1⟩,hr⟩:=s0.hp;have s1:Sat E.w0 w (pt r (.mapIter (some b) since (seen.push e1.born) c)::pt b (.map es c)::S'):=⟨s0.os,s0.tape,s0.output,s0.size,s0.old,by rw[e];exact kX hs hr dd⟩;have hr1:=s1.ptr.1;have hb1:=(s1.imp fun _=>gD).ptr.1
 have hf:es.find? (fun e=>e.born==e1.born)=some e1:=by
  cases h:es.find? (fun e=>e.born==e1.born)with
  |none=>
   have h2:=Array.find?_eq_none.1 h e1 (uz.1 he1)
   simp at h2
  |some e2=>
   have h2:=Array.find?_some h
   have h3:=ze h
   have:e2=e1:=nX m1.born (uz.2 h3) he1 (by simpa using h2)
   rw[this]
 simp[execOp,g.ev hx,Instr.entry,getObj,Sem.run_bind,Sem.run,hr1,hb1,Result.andThen,Array.back?_push,hf,hk1,hv1]
end
section
open Go Go.RowKit
def MpS.at {es:List MapEntry}{c:Nat}{M:List (List UInt8×Value)}(h:MpS es c M){i:Nat}{e:MapEntry}{k:List UInt8}(he:es[i]?=some e)(hk:e.key= .string ⟨⟨k⟩⟩):∃v,M[i]?=some (k,v):=by
 have h1:(ents es)[i]?=some (e.key,e.val):=by unfold ents;rw[bu,he];rfl
 rw[h.is]at h1;unfold prsS at h1;rw[bu]at h1;cases hM:M[i]? with
 |none=>rw[hM]at h1;simp at h1
 |some p=>
  obtain⟨a,b⟩:=p
  rw[hM]at h1
  simp at h1
  obtain⟨h1,_⟩:=h1
  rw[hk]at h1
  simp at h1
  exact⟨b,by rw[h1]⟩
def cntS (f:List UInt8->Option Value)(n:Nat):Prop:=∃M:List (List UInt8×Value),(M.map (·.1)).Nodup/\(∀k,M.lookup k=f k)/\M.length=n
def cntS.none {f:List UInt8->Option Value}(h:cntS f 0):∀k,f k=none:=fun k=>by
 obtain⟨M,_,h2,h3⟩:=h;obtain rfl:=qi.1 h3;exact(h2 k).symm
def qBf {b:Nat}{f:List UInt8->Option Value}{h:PH}(x:kL b f h):∃n,cntS f n:=by
 obtain⟨es,c,M,_,h1,h2⟩:=x;exact⟨M.length,M,h1.keys,h2,O⟩
def qM {M:List (List UInt8×Value)}{k:List UInt8}:k∈M.map (·.1)↔M.lookup k≠none:=by
 refine⟨fun h e=>zB e h,fun h=>?_⟩;cases e:M.lookup k with
 |none=>exact absurd e h
 |some v=>exact dw.2 ⟨(k,v),vW e,rfl⟩
def cntS.fn {f:List UInt8->Option Value}{n m:Nat}(h:cntS f n)(h':cntS f m):n=m:=by
 obtain⟨M,h1,h2,rfl⟩:=h;obtain⟨M',h1',h2',rfl⟩:=h';have:=(qy h1 h1').2 fun k=>by rw[qM,qM,h2,h2']
 have:=this.length_eq;rwa [ic,ic]at this
variable {E:Env}{n:Nat}{L:Fr}{S S' H H':List HP}{ty:TypeId}{pos:String}{af:Array Edge}{d:Option Nat}{gd:Option (Nat×Bool)}{K:Value->List HP->Prop}
def qTk {x:Operand}{b:Nat}{t kt et:TypeId}{f:List UInt8->Option Value}{c:Nat}(ht:E.P.underlying t=some (.map kt et))(hx:ev L x=some (.map (some b)))(hm:Take (kL b f) S S')(hc:cntS f c):
  Yl E n L S ⟨d,.call {callee:= .builtin .len,args:= #[x],argTypes:= #[t]},ty,pos,af,gd⟩ (.int .i64 (c:Nat)):=fun a w g s=>by
 obtain⟨es,c1,M,hh,he,hf,_⟩:=qBm (s.take hm)
 have e1:es.size=c:=by
  have h1:(ents es.toList).length=(prsS M).length:=by rw[he.is]
  unfold ents prsS at h1;rw[ic,ic,mf]at h1;rw[h1];exact cntS.fn ⟨M,he.keys,hf,O⟩ hc
 simp[execOp,resolve,invoke,builtin,Builtin.len_,underlying,program,Sem.run,ht,g.ev hx,goInt,getObj,hh,e1]
end
end Sl
namespace Go.Proofs.YtejcjelmpbkcbaaGreatDoor
open Go Go.RowKit Sl Eg
set_option maxRecDepth 10000
section
variable {E:Env}
variable {ts:Nat->List UInt8}
def dCT (ts:Nat->List UInt8)(d:Array Nat):List Value:=d.toList.map fun x=> .string ⟨⟨ts x⟩⟩
def dC_lenT (d:Array Nat):(dCT ts d).length=d.size:=by simp[dCT]
def qHl (d:Array Nat){i:Nat}(h:i<d.size)(o:Nat)(ho:o=i):(dCT ts d)[o]?=some (.string ⟨⟨ts d[i]!⟩⟩):=by
 subst ho;simp[dCT,h]
def qVk (d:Array Nat){i:Nat}(h:i<d.size)(x o:Nat)(ho:o=i):bX (dCT ts d) o [.string ⟨⟨ts x⟩⟩]=dCT ts (d.setIfInBounds i x):=by
 subst ho;rw[iB _ _ _ (by rw[dC_lenT];simp;omega)];apply kz;intro k;simp only[dCT,zh,ay];rw[yj];rw[oP];simp[h]
def qVl (d:Array Nat){i j:Nat}(hi:i<d.size)(hj:j<d.size)(o o':Nat)(ho:o=i)(ho':o'=j):bX (bX (dCT ts d) o [.string ⟨⟨ts d[j]!⟩⟩]) o' [.string ⟨⟨ts d[i]!⟩⟩]=dCT ts (Go.Sort.swp d i j):=by
 rw[qVk (ts:=ts) d hi _ o ho,qVk (ts:=ts) _ (by simpa using hj) _ o' ho'];rfl
def OkDT (ok:Nat->Prop)(n:Nat)(d:Array Nat):Prop:=d.size=n/\∀i,i<n->ok d[i]!
def OkDT.swp {ok:Nat->Prop}{n:Nat}{d:Array Nat}(h:OkDT ok n d){i j:Nat}(hi:i<n)(hj:j<n):OkDT ok n (Go.Sort.swp d i j):=by
 obtain⟨hs,ho⟩:=h;refine⟨by simp[Go.Sort.swp,hs],fun k hk=>?_⟩;have ki:k<d.size:=oO;simp only[Go.Sort.swp]
 have e:((d.setIfInBounds i d[j]!).setIfInBounds j d[i]!)[k]! =if j=k then d[i]! else if i=k then d[j]! else d[k]!:=by
  rw[getElem!_pos _ k (by simpa using ki),qw (by simpa using ki)];split
  ·rfl
  rw[qw ki];split
  ·rfl
  rw[getElem!_pos d k ki]
 rw[e];split
 ·exact ho i hi
 split
 ·exact ho j hj
 exact ho k hk
variable {q:HP}{ok:Nat->Prop}{cf:Nat->Nat->Int}{g c n:Nat}
def CmpT (E:Env)(ts:Nat->List UInt8)(q:HP)(ok:Nat->Prop)(cf:Nat->Nat->Int):Prop:=∀x y,ok x->ok y->Ct E 177 [.string ⟨⟨ts x⟩⟩,.string ⟨⟨ts y⟩⟩] [q] (fun v Q=>v= .bool (decide (cf x y<0))/\Q=[q])
def wN:∀(a b:List UInt8),Op.bytesLess a b=decide (cmpT a b<0)
 |[],[]=>rfl
 |[],b::B=>rfl
 |a::A,[]=>rfl
 |a::A,b::B=>by
  unfold Op.bytesLess cmpT;rw[wN A B];by_cases h1:a.toNat<b.toNat
  ·have:a<b:=UInt8.lt_iff_toNat_lt.2 h1;rw[if_pos h1];simp[this]
  have h1':¬a<b:=fun h=>h1 (UInt8.lt_iff_toNat_lt.1 h)
  rw[if_neg h1];by_cases h2:b.toNat<a.toNat
  ·rw[if_pos h2];have:¬a=b:=fun e=>by rw[e]at h2;omega
   simp[h1',this]
  rw[if_neg h2];have:a=b:=UInt8.toNat_inj.1 oO;subst this;simp
def qUq (hE:Seat E){a:List UInt8}:Ct E 211 [.string ⟨⟨a⟩⟩] [] (fun v Q=>v= .bool false/\Q=[]):=by
 refine bO (hE.fn Tryz.func211) O O O (fun R=>?_);simp only[dQ,uV,uW];refine gg14 ?_;exact uZ O (.tmp O .nil) ⟨bg Value.bool (by simp),O⟩
def ct_lessT (hE:Seat E){a b:List UInt8}:Ct E 177 [.string ⟨⟨a⟩⟩,.string ⟨⟨b⟩⟩] [] (fun v Q=>v= .bool (decide (cmpT a b<0))/\Q=[]):=by
 refine bO (hE.fn Tryz.func177) O O O (fun R=>?_);simp only[dQ,uV,uW];refine gg8 ?_;refine uX (qUq hE) O ?_;rintro _ _⟨rfl,rfl⟩;simp only[uV,uW];refine gg11 ?_;refine uB (y_lt_str O O) ?_;refine gg5 ?_;exact uZ O (.tmp O .nil) ⟨bg Value.bool (wN a b),O⟩
def cfT (ts:Nat->List UInt8)(x y:Nat):Int:=cmpT (ts x) (ts y)
def cmpTs (hE:Seat E){q:HP}{ok:Nat->Prop}:CmpT E ts q ok (cfT ts):=fun x y _ _ R w hs=>((ct_lessT (a:=ts x) (b:=ts y) hE) (dS [q,R]) w (hs.imp fun k h=>kW (l:=[]) h)).mono fun e w'⟨v,Qs,h1,⟨h2,h3⟩,h4⟩=>⟨v,[q],h1,⟨h2,rfl⟩,by rw[h3]at h4;exact h4.imp fun k h=>nK (l:=[]) h⟩
def ltFT (cf:Nat->Nat->Int)(x y:Nat):Bool:=decide (cf x y<0)
open Go.Sort in
open Go.Sort in
end
section
variable {E:Env}
variable {ts:Nat->List UInt8}{q:HP}{ok:Nat->Prop}{cf:Nat->Nat->Int}{g c n:Nat}
open Go.Sort in
def qTn (hE:Seat E){d:Array Nat}(hd:OkDT ok n d){a b:Nat}(hab:a<b)(hb:b<=n)(hn:n<1099511627776):
  Ct E 175 [.slice (some ⟨g,0,none⟩) n c,.int .i64 (a:Nat),.int .i64 (b:Nat)] [sl (some ⟨g,0,none⟩) c 9 1 n (dCT ts d),q]
   (fun v Q=>v= .tuple #[]/\Q=[sl (some ⟨g,0,none⟩) c 9 1 n (dCT ts (reverseRange d a b)),q]/\OkDT ok n (reverseRange d a b)):=by
 refine bO (hE.fn Tryz.func175) O O O (fun R=>?_);simp only[dQ,uV,uW];refine gg14 ?_;refine dV (fun x:Nat×Nat×Array Nat=>[(0,.slice (some ⟨g,0,none⟩) n c),(6,.int .i64 (x.1:Nat)),(7,.int .i64 (x.2.1:Nat))]) (fun x=>[sl (some ⟨g,0,none⟩) c 9 1 n (dCT ts x.2.2),q,R]) (fun x=>x.2.1-x.1) (fun x=>reverseLoop x.1 x.2.1 x.2.2=reverseRange d a b/\OkDT ok n x.2.2/\x.2.1<n/\x.1<=n) (a,b-1,d) ?_ ?_ ?_ ?_
 ·exact⟨O,hd,by show b-1<n;omega,by show a<=n;omega⟩
 ·exact⟨O,O,bg some (bW (by simp only;omega)),trivial⟩
 ·exact uI
 rintro⟨i,j,e⟩⟨he,hd',hj,hi⟩;simp only at he hd' hj hi ⊢;have hs:=hd'.1;refine gg8 ?_;refine bE O (fun h1=>?_) (fun h1=>?_)
 ·have f0:=qHl (ts:=ts) e (i:=i) oO ((i:Int)).toNat oO;have f1:=qHl (ts:=ts) e (i:=j) oO ((j:Int)).toNat oO;refine gg4 ?_;refine gK 13 ([sl (some ⟨g,0,none⟩) c 9 1 n (dCT ts e),q]) [(15,[])] ?_ ?_
  ·exact uI
  refine uP 0 O (aB O) (uP 1 O (aB O) (uP 2 O (aB O) (uP 3 O (aB O) (uP 4 O (aB O) (uP 5 O (aB O) (uP 6 O (uAj O O) ?_))))));refine uQ 7 O (uY) ?_;refine uP 8 O (aB O) (uP 9 O (aB O) (uP 10 O (uAj O O) ?_));refine uQ 11 O (uY) ?_;refine uP 12 O (uAj O O) ?_;apply jZ O oK O;refine uJ ?_;refine uE ?_;refine uP 14 O (uAj O O) ?_;apply jY O oK oK O;refine uJ ?_;refine gg14 ?_;simp only[bP];rw[qVl (ts:=ts) e (i:=i) (j:=j) oO oO]
  case ho=>omega
  case ho'=>omega
  refine bS (ι:=Nat×Nat×Array Nat) (j:=(i+1,j-1,swp e i j)) ⟨?_,hd'.swp oO hj,by show j-1<n;omega,by show i+1<=n;omega⟩ (by show j-1-(i+1)<j-i;omega) ⟨rfl,rfl,?_,trivial⟩ uI
  ·rw[<-he];conv=>rhs;rw[reverseLoop,if_pos (show i<j by omega)]
  exact bg some (bW (by simp only;omega))
 rw[reverseLoop,if_neg (show ¬i<j by omega)]at he;subst he;refine gg4 ?_;exact uZe O .nil ⟨O,O,hd'⟩
open Go.Sort in
def yO (hE:Seat E)(hc:CmpT E ts q ok cf){d:Array Nat}(hd:OkDT ok n d){a b:Nat}(hab:a<=b)(hb:b<=n)(hn:n<1099511627776):
  Ct E 171 [.slice (some ⟨g,0,none⟩) n c,.int .i64 (a:Nat),.int .i64 (b:Nat)] [sl (some ⟨g,0,none⟩) c 9 1 n (dCT ts d),q]
   (fun v Q=>v= .tuple #[]/\Q=[sl (some ⟨g,0,none⟩) c 9 1 n (dCT ts (insertionSort (ltFT cf) d a b)),q]/\OkDT ok n (insertionSort (ltFT cf) d a b)):=by
 refine bO (hE.fn Tryz.func171) O O O (fun R=>?_);simp only[dQ,uV,uW];refine gg8 ?_;refine dV (fun x:Nat×Array Nat=>[(0,.slice (some ⟨g,0,none⟩) n c),(1,.int .i64 (a:Nat)),(2,.int .i64 (b:Nat)),(6,.int .i64 (x.1:Nat))]) (fun x=>[sl (some ⟨g,0,none⟩) c 9 1 n (dCT ts x.2),q,R]) (fun x=>b-x.1) (fun x=>insOuter (ltFT cf) a b x.1 x.2=insertionSort (ltFT cf) d a b/\OkDT ok n x.2/\a+1<=x.1/\x.1<=n+1) (a+1,d) ?_ ?_ ?_ ?_
 ·exact⟨O,hd,aj _,by show a+1<=n+1;omega⟩
 ·exact⟨O,O,O,bg some (bW (by simp only;omega)),trivial⟩
 ·exact uI
 rintro⟨i,e⟩⟨he,hd',hi,hi2⟩;simp only at he hd' hi hi2 ⊢;refine gg8 ?_;refine bE O (fun h1=>?_) (fun h1=>?_)
 ·rw[insOuter,if_pos (show i<b by omega)]at he;refine gg11 ?_;refine dV (fun x:Nat×Array Nat=>[(0,.slice (some ⟨g,0,none⟩) n c),(1,.int .i64 (a:Nat)),(2,.int .i64 (b:Nat)),(6,.int .i64 (i:Nat)),(7,.int .i64 (x.1:Nat))]) (fun x=>[sl (some ⟨g,0,none⟩) c 9 1 n (dCT ts x.2),q,R]) (fun x=>x.1) (fun x=>insInner (ltFT cf) a x.1 x.2=insInner (ltFT cf) a i e/\OkDT ok n x.2/\x.1<=i) (i,e) ?_ ?_ ?_ ?_
  ·exact⟨O,hd',aj _⟩
  ·exact⟨O,O,O,O,O,trivial⟩
  ·exact uI
  rintro⟨j,u⟩⟨hu,hdu,hj⟩;simp only at hu hdu hj ⊢;have hs:=hdu.1;refine gg7 ?_;refine dU 19 O (fun h2=>?_) (fun h2=>?_)
  ·obtain⟨j,rfl⟩:∃k,j=k+1:=⟨j-1,oO⟩;have f0:=qHl (ts:=ts) u (i:=j+1) oO (((j+1:Nat):Int)).toNat oO;have f1:=qHl (ts:=ts) u (i:=j) oO (((j+1:Nat):Int)-1).toNat oO;have hcc:=hc _ _ (hdu.2 (j+1) oO) (hdu.2 j oO);refine gg19 ?_;refine uX (hcc) O ?_;rintro _ _⟨rfl,rfl⟩;simp only[uV,uW];refine gg3 ?_;refine bE O (fun h3=>?_) (fun h3=>?_)
   ·refine gg4 ?_;refine gK 15 ([sl (some ⟨g,0,none⟩) c 9 1 n (dCT ts u),q]) [(17,[])] ?_ ?_
    ·exact uI
    refine uP 0 O (aB O) (uP 1 O (aB O) (uP 2 O (aB O) (uP 3 O (aB O) (uP 4 O (uAs O O) (uP 5 O (aB O) (uP 6 O (aB O) (uP 7 O (uAs O O) (uP 8 O (uAj O O) ?_))))))));refine uQ 9 O (uY) ?_;refine uP 10 O (aB O) (uP 11 O (aB O) (uP 12 O (uAj O O) ?_));refine uQ 13 O (uY) ?_;refine uP 14 O (uAj O O) ?_;apply jZ O oK O;refine uJ ?_;refine uE ?_;refine uP 16 O (uAj O O) ?_;apply jY O oK oK O;refine uJ ?_;refine gg7 ?_;simp only[bP];rw[qVl (ts:=ts) u (i:=(j+1)) (j:=j) oO oO]
    case ho=>omega
    case ho'=>omega
    refine bS (ι:=Nat×Array Nat) (j:=(j,swp u (j+1) j)) ⟨?_,hdu.swp oO oO,by show j<=i;omega⟩ (by show j<j+1;omega) ⟨rfl,rfl,rfl,rfl,bg some (bW (by simp only;omega)),trivial⟩ uI;rw[<-hu];conv=>rhs;rw[insInner,if_pos (by simp[ltFT,h3];omega)]
   rw[insInner,if_neg (by simp[ltFT,h3])]at hu;rw[<-hu]at he;refine gg11 ?_;refine bS (ι:=Nat×Array Nat) (j:=(i+1,u)) ⟨he,hdu,by show a+1<=i+1;omega,by show i+1<=n+1;omega⟩ (by show b-(i+1)<b-i;omega) ⟨rfl,rfl,rfl,bg some (bW (by simp only;omega)),trivial⟩ uI
  have hu':u=insInner (ltFT cf) a i e:=by
   rw[<-hu];cases j with
   |zero=>rfl
   |succ j=>rw[insInner,if_neg (by simp;omega)]
  rw[<-hu']at he;refine gg25 ?_;refine bS (ι:=Nat×Array Nat) (j:=(i+1,u)) ⟨he,hdu,by show a+1<=i+1;omega,by show i+1<=n+1;omega⟩ (by show b-(i+1)<b-i;omega) ⟨rfl,rfl,rfl,bg some (bW (by simp only;omega)),trivial⟩ uI
 rw[insOuter,if_neg (show ¬i<b by omega)]at he;subst he;refine gg4 ?_;exact uZe O .nil ⟨O,O,hd'⟩
open Go.Sort in
open Go.Sort in
open Go.Sort in
end
section
variable {E:Env}
def qMz (hE:Seat E){q:Option Addr}{d:Nat}:Ct E 160 [.slice q 0 d,.int .i64 0,.int .i64 0] [] (fun v Q=>v= .tuple #[]/\Q=[]):=by
 refine bO (hE.fn Tryz.func160) O O O (fun R=>?_);simp only[dQ,uV,uW];refine gg8 ?_;refine fT 1 ?_;refine gg14 ?_;exact uZe O .nil ⟨O,O⟩
def qNg (hE:Seat E){q:Option Addr}{d:Nat}{l:Int}:Ct E 125 [.slice q 0 d,.int .i64 0,.int .i64 0,.int .i64 l] [] (fun v Q=>v= .tuple #[]/\Q=[]):=by
 refine bO (hE.fn Tryz.func125) O O O (fun R=>?_);simp only[dQ,uV,uW];refine gg11 ?_;refine fT 1 ?_;refine gg23 ?_;refine uX (qMz hE) O ?_;rintro _ _⟨rfl,rfl⟩;simp only[uV,uW];refine gg7 ?_;exact uZ O .nil ⟨O,O⟩
def qAd (hE:Seat E){q:Option Addr}{d:Nat}:Ct E 104 [.slice q 0 d] [] (fun v Q=>v= .tuple #[]/\Q=[]):=by
 refine bO (hE.fn Tryz.func104) O O O (fun R=>?_);simp only[dQ,uV,uW];refine gg12 ?_;refine uX (kP hE (k:=0) (by decide)) O ?_;rintro _ _⟨rfl,rfl⟩;simp only[uV,uW];refine uX (qNg hE) O ?_;rintro _ _⟨rfl,rfl⟩;simp only[uV,uW];refine gg1 ?_;exact uZe O .nil ⟨O,O⟩
end
section
variable {E:Env}
variable {q:HP}{ok:Nat->Prop}{cf:Nat->Nat->Int}{g c n:Nat}
def CmpNt (E:Env)(q:HP)(ok:Nat->Prop)(cf:Nat->Nat->Int):Prop:=∀x y,ok x->ok y->Ct E 234 [.int .i64 (x:Nat),.int .i64 (y:Nat)] [q] (fun v Q=>v= .bool (decide (cf x y<0))/\Q=[q])
def qUo (hE:Seat E){x:Nat}:Ct E 257 [.int .i64 (x:Nat)] [] (fun v Q=>v= .bool false/\Q=[]):=by
 refine bO (hE.fn Tryz.func257) O O O (fun R=>?_);simp only[dQ,uV,uW];refine gg14 ?_;exact uZ O (.tmp O .nil) ⟨bg Value.bool (by simp),O⟩
def ct_lessI (hE:Seat E){x y:Nat}:Ct E 234 [.int .i64 (x:Nat),.int .i64 (y:Nat)] [] (fun v Q=>v= .bool (decide ((x:Int)<(y:Nat)))/\Q=[]):=by
 refine bO (hE.fn Tryz.func234) O O O (fun R=>?_);simp only[dQ,uV,uW];refine gg8 ?_;refine uX (qUo hE) O ?_;rintro _ _⟨rfl,rfl⟩;simp only[uV,uW];refine gg17 ?_;exact uZ O (.tmp O .nil) ⟨O,O⟩
def cmpNt (hE:Seat E){q:HP}{ok:Nat->Prop}:CmpNt E q ok cfO:=fun x y _ _ R w hs=>((ct_lessI (x:=x) (y:=y) hE) (dS [q,R]) w (hs.imp fun k h=>kW (l:=[]) h)).mono fun e w'⟨v,Qs,h1,⟨h2,h3⟩,h4⟩=>⟨v,[q],h1,⟨by rw[h2];exact bg Value.bool (decide_eq_decide.2 (by unfold cfO;omega)),rfl⟩,by rw[h3]at h4;exact h4.imp fun k h=>nK (l:=[]) h⟩
open Go.Sort in
def yM (hE:Seat E)(hc:CmpNt E q ok cf){d:Array Nat}(hd:OkDO ok n d){a b:Nat}(hab:a<=b)(hb:b<=n)(hn:n<1099511627776):
  Ct E 228 [.slice (some ⟨g,0,none⟩) n c,.int .i64 (a:Nat),.int .i64 (b:Nat)] [sl (some ⟨g,0,none⟩) c 3 1 n (dCO d),q]
   (fun v Q=>v= .tuple #[]/\Q=[sl (some ⟨g,0,none⟩) c 3 1 n (dCO (insertionSort (ltFO cf) d a b)),q]/\OkDO ok n (insertionSort (ltFO cf) d a b)):=by
 refine bO (hE.fn Tryz.func228) O O O (fun R=>?_);simp only[dQ,uV,uW];refine gg8 ?_;refine dV (fun x:Nat×Array Nat=>[(0,.slice (some ⟨g,0,none⟩) n c),(1,.int .i64 (a:Nat)),(2,.int .i64 (b:Nat)),(6,.int .i64 (x.1:Nat))]) (fun x=>[sl (some ⟨g,0,none⟩) c 3 1 n (dCO x.2),q,R]) (fun x=>b-x.1) (fun x=>insOuter (ltFO cf) a b x.1 x.2=insertionSort (ltFO cf) d a b/\OkDO ok n x.2/\a+1<=x.1/\x.1<=n+1) (a+1,d) ?_ ?_ ?_ ?_
 ·exact⟨O,hd,aj _,by show a+1<=n+1;omega⟩
 ·exact⟨O,O,O,bg some (bW (by simp only;omega)),trivial⟩
 ·exact uI
 rintro⟨i,e⟩⟨he,hd',hi,hi2⟩;simp only at he hd' hi hi2 ⊢;refine gg8 ?_;refine bE O (fun h1=>?_) (fun h1=>?_)
 ·rw[insOuter,if_pos (show i<b by omega)]at he;refine gg11 ?_;refine dV (fun x:Nat×Array Nat=>[(0,.slice (some ⟨g,0,none⟩) n c),(1,.int .i64 (a:Nat)),(2,.int .i64 (b:Nat)),(6,.int .i64 (i:Nat)),(7,.int .i64 (x.1:Nat))]) (fun x=>[sl (some ⟨g,0,none⟩) c 3 1 n (dCO x.2),q,R]) (fun x=>x.1) (fun x=>insInner (ltFO cf) a x.1 x.2=insInner (ltFO cf) a i e/\OkDO ok n x.2/\x.1<=i) (i,e) ?_ ?_ ?_ ?_
  ·exact⟨O,hd',aj _⟩
  ·exact⟨O,O,O,O,O,trivial⟩
  ·exact uI
  rintro⟨j,u⟩⟨hu,hdu,hj⟩;simp only at hu hdu hj ⊢;have hs:=hdu.1;refine gg7 ?_;refine dU 19 O (fun h2=>?_) (fun h2=>?_)
  ·obtain⟨j,rfl⟩:∃k,j=k+1:=⟨j-1,oO⟩;have f0:=dZ u (i:=j+1) oO (((j+1:Nat):Int)).toNat oO;have f1:=dZ u (i:=j) oO (((j+1:Nat):Int)-1).toNat oO;have hcc:=hc _ _ (hdu.2 (j+1) oO) (hdu.2 j oO);refine gg19 ?_;refine uX (hcc) O ?_;rintro _ _⟨rfl,rfl⟩;simp only[uV,uW];refine gg3 ?_;refine bE O (fun h3=>?_) (fun h3=>?_)
   ·refine gg4 ?_;refine gK 15 ([sl (some ⟨g,0,none⟩) c 3 1 n (dCO u),q]) [(17,[])] ?_ ?_
    ·exact uI
    refine uP 0 O (aB O) (uP 1 O (aB O) (uP 2 O (aB O) (uP 3 O (aB O) (uP 4 O (uAs O O) (uP 5 O (aB O) (uP 6 O (aB O) (uP 7 O (uAs O O) ?_)))))));refine uP 8 O (gY) ?_;refine uQ 9 O (uY) ?_;refine uP 10 O (aB O) (uP 11 O (aB O) ?_);refine uP 12 O (gY) ?_;refine uQ 13 O (uY) ?_;refine uP 14 O (gY) ?_;apply jZ O oK O;(first |(apply bL rfl rfl (hE.t rfl) rfl;(focus((repeat constructor);done));(focus rfl);(focus(exact bn rfl)))|(apply aS rfl rfl (hE.t rfl) rfl;(focus((repeat constructor);done));(focus rfl);(focus(first |omega |(simp only[bP,aN,bf,dz];omega)))))
    refine uE ?_;refine uP 16 O (gY) ?_;apply jY O oK oK O;(first |(apply bL rfl rfl (hE.t rfl) rfl;(focus((repeat constructor);done));(focus rfl);(focus(exact bn rfl)))|(apply aS rfl rfl (hE.t rfl) rfl;(focus((repeat constructor);done));(focus rfl);(focus(first |omega |(simp only[bP,aN,bf,dz];omega)))))
    refine gg7 ?_;simp only[bP];rw[jE u (i:=(j+1)) (j:=j) oO oO]
    case ho=>omega
    case ho'=>omega
    refine bS (ι:=Nat×Array Nat) (j:=(j,swp u (j+1) j)) ⟨?_,hdu.swp oO oO,by show j<=i;omega⟩ (by show j<j+1;omega) ⟨rfl,rfl,rfl,rfl,bg some (bW (by simp only;omega)),trivial⟩ uI;rw[<-hu];conv=>rhs;rw[insInner,if_pos (by simp[ltFO,h3];omega)]
   rw[insInner,if_neg (by simp[ltFO,h3])]at hu;rw[<-hu]at he;refine gg11 ?_;refine bS (ι:=Nat×Array Nat) (j:=(i+1,u)) ⟨he,hdu,by show a+1<=i+1;omega,by show i+1<=n+1;omega⟩ (by show b-(i+1)<b-i;omega) ⟨rfl,rfl,rfl,bg some (bW (by simp only;omega)),trivial⟩ uI
  have hu':u=insInner (ltFO cf) a i e:=by
   rw[<-hu];cases j with
   |zero=>rfl
   |succ j=>rw[insInner,if_neg (by simp;omega)]
  rw[<-hu']at he;refine gg25 ?_;refine bS (ι:=Nat×Array Nat) (j:=(i+1,u)) ⟨he,hdu,by show a+1<=i+1;omega,by show i+1<=n+1;omega⟩ (by show b-(i+1)<b-i;omega) ⟨rfl,rfl,rfl,bg some (bW (by simp only;omega)),trivial⟩ uI
 rw[insOuter,if_neg (show ¬i<b by omega)]at he;subst he;refine gg4 ?_;exact uZe O .nil ⟨O,O,hd'⟩
open Go.Sort in
def ct_pdqI (hE:Seat E)(hc:CmpNt E q ok cf){d:Array Nat}(hd:OkDO ok n d)(hn:n<=12){limit:Nat}:
  Ct E 201 [.slice (some ⟨g,0,none⟩) n c,.int .i64 0,.int .i64 (n:Nat),.int .i64 (limit:Nat)] [sl (some ⟨g,0,none⟩) c 3 1 n (dCO d),q]
   (fun v Q=>v= .tuple #[]/\Q=[sl (some ⟨g,0,none⟩) c 3 1 n (dCO (pdq (ltFO cf) d 0 n limit true true)),q]/\OkDO ok n (pdq (ltFO cf) d 0 n limit true true)):=by
 have e:pdq (ltFO cf) d 0 n limit true true=insertionSort (ltFO cf) d 0 n:=by rw[pdq,if_pos oO]
 rw[e];refine bO (hE.fn Tryz.func201) O O O (fun R=>?_);simp only[dQ,uV,uW];refine gg11 ?_;refine fT 1 ?_;refine gg10 ?_;refine w_eq 10 (.int .i64 ((n:Nat):Int)) O (bW oO) ?_;refine gg7 ?_;refine bE O (fun h1=>?_) (fun h1=>?_)
 ·refine gg5 ?_;refine uX (yM (a:=0) (b:=n) hE hc hd (au _) (aj _) oO) O ?_;rintro _ _⟨rfl,rfl,hd2⟩;simp only[uV,uW];refine gg7 ?_;exact uZ O .nil ⟨O,O,hd2⟩
 exfalso;omega

open Go.Sort in
def qKp (hE:Seat E){l:List Nat}(hn:l.length<=12):
  Ct E 158 [.slice (some ⟨g,0,none⟩) l.length c] [sl (some ⟨g,0,none⟩) c 3 1 l.length (idC l)]
   (fun v Q=>∃l':List Nat,v= .tuple #[]/\l'.length=l.length/\l'.Perm l/\l'.Pairwise (· <= ·)/\Q=[sl (some ⟨g,0,none⟩) c 3 1 l.length (idC l')]):=by
 obtain⟨n,hnl⟩:∃n,n=l.length:=⟨_,rfl⟩;have hd:OkDO (fun _=>True) n l.toArray:=⟨by simp[hnl],fun _ _=>trivial⟩;have hb:=lX (k:=n) oO;have hs:=hd.1;have hl:=pdq_sorts (ltFO cfO) swoO l.toArray 0 n (bitsLen n) true true (au _) oO (.inl O);obtain⟨⟨p1,p2,p3⟩,hl2⟩:=hl;have hx:∀e:Array Nat,e.size=n->e.extract 0 n=e:=fun e h=>by subst h;simp
 rw[hx _ hs,hx _ (p1.trans hs)]at p3;have hdl:idC l=dCO l.toArray:=rfl;rw[<-hnl,hdl];have hc:CmpNt E emp (fun _=>True) cfO:=cmpNt hE;refine bO (hE.fn Tryz.func158) O O O (fun R=>?_);simp only[dQ,uV,uW];refine gg12 ?_;refine uX (kP hE (k:=n) oO) O ?_;rintro _ _⟨rfl,rfl⟩;simp only[uV,uW];refine lT emp_in ?_;refine uX (ct_pdqI (limit:=bitsLen n) hE hc hd oO) O ?_;rintro _ _⟨rfl,rfl,hd2⟩;simp only[uV,uW];refine gg1 ?_;exact uZe O .nil ⟨_,O,by rw[hnl];simp[p1,<-hnl],p3,qXj (l:=l) (p1.trans hs) hl2,rfl⟩
end
section
variable {E:Env}
variable {ts:Nat->List UInt8}{q:HP}{ok:Nat->Prop}{cf:Nat->Nat->Int}{g c n:Nat}
section plainS
def swoT (ts:Nat->List UInt8):Go.Sort.SWO (ltFT (cfT ts)) where
 irrefl:=fun x=>by
  unfold ltFT cfT;rw[qTy];rfl
 trans:=fun x y z h1 h2=>by
  have g1:cmpT (ts x) (ts y)<0:=of_decide_eq_true h1;have g2:cmpT (ts y) (ts z)<0:=of_decide_eq_true h2;refine lq (show cmpT (ts x) (ts z)<0 from ?_);have g3:=qFe (Int.le_of_lt g1) (Int.le_of_lt g2);by_cases e:cmpT (ts x) (ts z)=0
  ·have e2:=qBt.1 e;rw[e2,qE]at g1;omega
  omega
 ntrans:=fun x y z h1 h2=>by
  have g1:¬cmpT (ts x) (ts y)<0:=of_decide_eq_false h1;have g2:¬cmpT (ts y) (ts z)<0:=of_decide_eq_false h2;refine ma (show ¬cmpT (ts x) (ts z)<0 from ?_);have e1:=qE (ts x) (ts y);have e2:=qE (ts y) (ts z);have e3:=qE (ts x) (ts z);have g3:=qFe (A:=ts z) (B:=ts y) (C:=ts x) oO oO;omega
def pair_ofT {ts:Nat->List UInt8}{n:Nat}{d:Array Nat}(h:d.size=n)(hs:Go.Sort.SortedIn (ltFT (cfT ts)) 0 n d):(d.toList.map ts).Pairwise fun a b=>cmpT a b<=0:=by
 rw[ww,rf];intro i j hi hj hij;have:=of_decide_eq_false (hs i j (au _) hij (by simp at hj;omega));simp only[cfT]at this;rw[getElem!_pos d j (by simpa using hj),getElem!_pos d i (by simpa using hi)]at this;simp only[Array.getElem_toList];have e:=qE (ts d[i]) (ts d[j]);omega
def range_ts (l:List (List UInt8)):(List.range l.length).map (fun i=>l.getD i [])=l:=by
 apply kz;intro i;rw[bu];by_cases h:i<l.length
 ·rw[lu h];simp[h]
 rw[rq.2 (by simpa using h),rq.2 oO];rfl
def putT {H:List HP}(k:PH)(x:dS H k):dS ((fun _=>True)::H) k:=⟨fun _=>none,k,fun _=> .inl rfl,by funext b;simp[join],trivial,x⟩
def nmC (l:List (List UInt8)):List Value:=l.map fun x=> .string ⟨⟨x⟩⟩
def dCT_nm (ts:Nat->List UInt8)(d:Array Nat):dCT ts d=nmC (d.toList.map ts):=by
 unfold nmC dCT;rw[nz];rfl
end plainS
open Go.Sort in
def ct_pdqK (hE:Seat E)(hc:CmpT E ts q ok cf){d:Array Nat}(hd:OkDT ok n d)(hn:n<=12){limit:Nat}:
  Ct E 127 [.slice (some ⟨g,0,none⟩) n c,.int .i64 0,.int .i64 (n:Nat),.int .i64 (limit:Nat)] [sl (some ⟨g,0,none⟩) c 9 1 n (dCT ts d),q]
   (fun v Q=>v= .tuple #[]/\Q=[sl (some ⟨g,0,none⟩) c 9 1 n (dCT ts (pdq (ltFT cf) d 0 n limit true true)),q]/\OkDT ok n (pdq (ltFT cf) d 0 n limit true true)):=by
 have e:pdq (ltFT cf) d 0 n limit true true=insertionSort (ltFT cf) d 0 n:=by rw[pdq,if_pos oO]
 rw[e];refine bO (hE.fn Tryz.func127) O O O (fun R=>?_);simp only[dQ,uV,uW];refine gg11 ?_;refine fT 1 ?_;refine gg10 ?_;refine w_eq 10 (.int .i64 ((n:Nat):Int)) O (bW oO) ?_;refine gg7 ?_;refine bE O (fun h1=>?_) (fun h1=>?_)
 ·refine gg5 ?_;refine uX (yO (a:=0) (b:=n) hE hc hd (au _) (aj _) oO) O ?_;rintro _ _⟨rfl,rfl,hd2⟩;simp only[uV,uW];refine gg7 ?_;exact uZ O .nil ⟨O,O,hd2⟩
 exfalso;omega
open Go.Sort in
def qKq (hE:Seat E){l:List (List UInt8)}(hn:l.length<=12):
  Ct E 105 [.slice (some ⟨g,0,none⟩) l.length c] [sl (some ⟨g,0,none⟩) c 9 1 l.length (nmC l)]
   (fun v Q=>∃l':List (List UInt8),v= .tuple #[]/\l'.Perm l/\l'.Pairwise (fun a b=>cmpT a b<=0)/\Q=[sl (some ⟨g,0,none⟩) c 9 1 l.length (nmC l')]):=by
 obtain⟨n,hnl⟩:∃n,n=l.length:=⟨_,rfl⟩;obtain⟨ts,hts⟩:∃ts:Nat->List UInt8,ts=fun i=>l.getD i []:=⟨_,rfl⟩
 have hd:OkDT (fun _=>True) n (List.range n).toArray:=⟨by simp,fun _ _=>trivial⟩;have hb:=lX (k:=n) oO;have hs:=hd.1;have hl:=pdq_sorts (ltFT (cfT ts)) (swoT ts) (List.range n).toArray 0 n (bitsLen n) true true (au _) oO (.inl O);obtain⟨⟨p1,p2,p3⟩,hl2⟩:=hl;have hx:∀e:Array Nat,e.size=n->e.extract 0 n=e:=fun e h=>by subst h;simp
 rw[hx _ hs,hx _ (p1.trans hs)]at p3;have hrt:(List.range n).map ts=l:=by rw[hnl,hts];exact range_ts l
 have hdl:nmC l=dCT ts (List.range n).toArray:=by
  unfold nmC dCT;conv=>lhs;rw[<-hrt]
  rw[nz];rfl
 rw[<-hnl,hdl];have hc:CmpT E ts (fun _=>True) (fun _=>True) (cfT ts):=cmpTs hE;refine bO (hE.fn Tryz.func105) O O O (fun R=>?_);simp only[dQ,uV,uW];refine gg12 ?_;refine uX (kP hE (k:=n) oO) O ?_;rintro _ _⟨rfl,rfl⟩;simp only[uV,uW];refine lT putT ?_;refine uX (ct_pdqK (limit:=bitsLen n) hE hc hd oO) O ?_;rintro _ _⟨rfl,rfl,hd2⟩;simp only[uV,uW];rw[dCT_nm];refine gg1 ?_;apply wJ
 ·rfl
 ·(exact Rs.nil)
 ·refine⟨_,O,?_,pair_ofT (p1.trans hs) hl2,O⟩;have:=p3.map ts;rw[show(List.range n).toArray.toList=List.range n from rfl,hrt]at this;exact this
 exact uI
def qNb (hE:Seat E){q:Option Addr}{d:Nat}:Ct E 171 [.slice q 0 d,.int .i64 0,.int .i64 0] [] (fun v Q=>v= .tuple #[]/\Q=[]):=by
 refine bO (hE.fn Tryz.func171) O O O (fun R=>?_);simp only[dQ,uV,uW];refine gg8 ?_;refine fT 1 ?_;refine gg14 ?_;exact uZe O .nil ⟨O,O⟩
def qNi (hE:Seat E){q:Option Addr}{d:Nat}{l:Int}:Ct E 127 [.slice q 0 d,.int .i64 0,.int .i64 0,.int .i64 l] [] (fun v Q=>v= .tuple #[]/\Q=[]):=by
 refine bO (hE.fn Tryz.func127) O O O (fun R=>?_);simp only[dQ,uV,uW];refine gg11 ?_;refine fT 1 ?_;refine gg23 ?_;refine uX (qNb hE) O ?_;rintro _ _⟨rfl,rfl⟩;simp only[uV,uW];refine gg7 ?_;exact uZ O .nil ⟨O,O⟩
def qCd (hE:Seat E){q:Option Addr}{d:Nat}:Ct E 105 [.slice q 0 d] [] (fun v Q=>v= .tuple #[]/\Q=[]):=by
 have hb:=lX (k:=0) oO;refine bO (hE.fn Tryz.func105) O O O (fun R=>?_);simp only[dQ,uV,uW];refine gg12 ?_;refine uX (kP hE (k:=0) oO) O ?_;rintro _ _⟨rfl,rfl⟩;simp only[uV,uW];refine uX (qNi hE) O ?_;rintro _ _⟨rfl,rfl⟩;simp only[uV,uW];refine gg1 ?_;exact uZe O .nil ⟨O,O⟩
structure Kys (f:List UInt8->Option Value)(l:List (List UInt8)):Prop where
 nd:l.Nodup
 mem:∀x,x∈l↔f x≠none
 srt:l.Pairwise fun a b=>cmpT a b<=0
def xV {α:Type}[DecidableEq α]:∀{A B:List α},A.Nodup->(∀x∈A,x∈B)->A.length<=B.length
 |[],B,_,_=>au _
 |a::A,B,hn,h=>by
  have hn':=wm.1 hn;have ha:=h a oM;have:=xV (B:=B.erase a) hn'.2 fun x hx=>(List.mem_erase_of_ne (fun e=>hn'.1 (by rw[<-e];exact hx))).2 (h x (oJ _ hx))
  rw[zt ha]at this;have:=AC ha;rw[bf];omega
def lY {f:List UInt8->Option Value}{n:Nat}(h:cntS f n){D:List (List UInt8)}(hd:D.Nodup)(hf:∀x∈D,f x≠none):D.length<=n:=by
 obtain⟨M,h1,h2,rfl⟩:=h;have:=xV hd (B:=M.map (·.1)) fun x hx=>qM.2 (by rw[h2];exact hf x hx)
 rwa [ic]at this
structure NmG where
 D:List (List UInt8)
 done:List UInt8->Bool
 q:Option Addr
 d:Nat
end
end Go.Proofs.YtejcjelmpbkcbaaGreatDoor
namespace Sl
open Go Go.RowKit
variable {E:Env}{n:Nat}{L:Fr}{S:List HP}{ty:TypeId}{pos:String}{af:Array Edge}{d:Option Nat}{gd:Option (Nat×Bool)}
def qVs {P:Program}{t k e:TypeId}(hu:P.underlying t=some (.map k e))(p:Option Nat)(w:World):(Op.equal t (.map p) (.map none)).run P w= .ok p.isNone w:=by
 unfold Op.equal;rw[show Op.maxDepth=9999+1 from rfl,Op.equalIn];cases p<;>simp[underlying,program,Sem.run,hu]
def y_eq_map {x:Operand}{t yt k e:TypeId}{p:Option Nat}(hx:ev L x=some (.map p))(ht:E.P.underlying t=some (.map k e)):
  Yl E n L S ⟨d,.binOp .eql t x (.const (.map none)) yt,ty,pos,af,gd⟩ (.bool p.isNone):=fun ac w g _=>by
 have hy:ac.eval (.const (.map none))= .map none:=rfl;have h1:∀w,(eqGuard .eql t x (.const (.map none)) (.map p) (.map none)).run E.P w= .ok () w:=fun w=>by unfold eqGuard;split <;>simp
 simp[execOp,h1,binOp,qVs ht,g.ev hx,hy]
end Sl
