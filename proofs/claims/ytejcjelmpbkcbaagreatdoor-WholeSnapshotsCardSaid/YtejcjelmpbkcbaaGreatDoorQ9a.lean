import Derived.Test.YtejcjelmpbkcbaaGreatDoorQ79
set_option linter.all false
set_option maxHeartbeats 1000000
namespace Sl
section
open Go Go.RowKit
def ba_eq (a b:List UInt8):((⟨⟨a⟩⟩:ByteArray)==⟨⟨b⟩⟩)=decide (a=b):=by
 show((⟨a⟩:Array UInt8)==⟨b⟩)=_;rw[ry];simp
def zN (k:List UInt8)(u:Value):List (List UInt8×Value)→List (List UInt8×Value)
 |[]=>[]
 |p::l=>if p.1=k then(k,u)::l else p::zN k u l
def qGm {k:List UInt8}{u v:Value}:∀{M:List (List UInt8×Value)},M.lookup k=some v→(zN k u M).lookup k=some u
 |[],h=>by cases h
 |(a,b)::M,h=>by
  unfold zN;by_cases e:a=k
  ·rw[if_pos e];simp[List.lookup]
  have e':(k==a)=false:=by simpa using fun h:k=a=>e h.symm
  rw[if_neg e];simp only[List.lookup,e']at h ⊢;exact qGm h
def qEa {k x:List UInt8}{u:Value}(hx:x≠k):∀{M:List (List UInt8×Value)},(zN k u M).lookup x=M.lookup x
 |[]=>rfl
 |(a,b)::M=>by
  unfold zN;by_cases e:a=k
  ·have e':(x==k)=false:=by simpa using hx
   subst e;rw[if_pos rfl];simp only[List.lookup,e']
  rw[if_neg e];simp only[List.lookup];rw[qEa hx]
def prsS (M:List (List UInt8×Value)):List (Value×Value):=M.map fun p=>(Value.string ⟨⟨p.1⟩⟩,p.2)
def yZ {k:List UInt8}:∀(M:List (List UInt8×Value))(es:List MapEntry)(j:Nat),ents es=prsS  M→
  (M.lookup k=none∧Instr.findNow .string (.string ⟨⟨k⟩⟩) es j=some none)∨(∃v i e,M.lookup k=some v∧Instr.findNow .string (.string ⟨⟨k⟩⟩) es j=some (some (j+i,v))∧es[i]?=some e∧e.key= .string ⟨⟨k⟩⟩∧∀u,ents (es.modify i (fun e=>{e with key:= .string ⟨⟨k⟩⟩,val:=u}))=prsS  (zN k u M))
 |[],[],j,_=> .inl ⟨rfl,rfl⟩
 |[],e::es,j,h=>by simp[ents,prsS]at h
 |p::M,[],j,h=>by simp[ents,prsS]at h
 |(a,b)::M,e::es,j,h=>by
  simp only[ents,prsS,jo,xf,Prod.mk.injEq]at h;obtain⟨⟨h1,h2⟩,h3⟩:=h;by_cases hk:k=a
  ·subst hk;refine .inr ⟨b,0,e,by simp[List.lookup],?_,rfl,h1,fun u=>?_⟩
   ·simp[Instr.findNow,h1,h2,Instr.sameNow,ba_eq]
   simp only[ents,prsS,zN,if_true,zm,jo];rw[h3]
  have hb:(k==a)=false:=by simpa using hk
  have hstep:∀j,Instr.findNow .string (.string ⟨⟨k⟩⟩) (e::es) j=Instr.findNow .string (.string ⟨⟨k⟩⟩) es (j+1):=fun j=>by simp[Instr.findNow,h1,Instr.sameNow,ba_eq,hk]
  rcases yZ (k:=k) M es (j+1) h3 with⟨g1,g2⟩|⟨v,i,e',g1,g2,g3,g4,g5⟩
  ·exact .inl ⟨by simp only[List.lookup,hb];exact g1,by rw[hstep];exact g2⟩
  refine .inr ⟨v,i+1,e',by simp only[List.lookup,hb];exact g1,by rw[hstep,g2];congr 3;omega,by simpa using g3,g4,fun u=>?_⟩;have:=g5 u;simp only[ents,prsS,zN,if_neg (Ne.symm hk),zn,jo,h1,h2]at this ⊢;rw[this]
structure MpS (es:List MapEntry)(c:Nat)(M:List (List UInt8×Value)):Prop where
 is:ents es=prsS  M
 keys:(M.map (·.1)).Nodup
 born:(es.map (·.born)).Nodup
 old:∀e∈es,e.born<c
def MpS.nil:MpS  [] 0 []:=⟨rfl,.nil,.nil,fun e h=>by cases h⟩
def zD {k:List UInt8}:∀{M:List (List UInt8×Value)},M.lookup k=none→k∉M.map (·.1)
 |[],_,h=>by cases h
 |(a,b)::M,h,h'=>by
  by_cases e:k=a
  ·subst e;simp[List.lookup]at h
  have e':(k==a)=false:=by simpa using e
  simp only[List.lookup,e']at h;rcases iq.1 h' with h'|h'
  ·exact e h'
  exact zD h h'
def qGl {k:List UInt8}{u:Value}:∀{M:List (List UInt8×Value)},(zN k u M).map (·.1)=M.map (·.1)
 |[]=>rfl
 |(a,b)::M=>by
  unfold zN;by_cases e:a=k
  ·rw[if_pos e];simp[e]
  rw[if_neg e,jo,jo,qGl]
def MpS.push {es:List MapEntry}{c:Nat}{M:List (List UInt8×Value)}(h:MpS  es c M){k:List UInt8}(u:Value)(hk:M.lookup k=none):MpS  (es++[{key:= .string ⟨⟨k⟩⟩,val:=u,born:=c}]) (c+1) (M++[(k,u)]):=by
 refine⟨?_,?_,?_,fun e he=>?_⟩
 ·have:=h.is;simp[ents,prsS]at this ⊢;exact this
 ·rw[fw,oH];refine⟨h.keys,by simp,fun a ha b hb=>?_⟩;simp at hb;subst hb;exact fun e=>zD hk (by rw[←e];exact ha)
 ·rw[fw,oH];refine⟨h.born,by simp,fun a ha b hb=>?_⟩;simp at hb;subst hb;obtain⟨e,he,rfl⟩:=fq.1 ha;have:=h.old e he;omega
 rcases bn.1 he with he|he
 ·have:=h.old e he;omega
 simp at he;subst he;simp
def MpS.modify {es:List MapEntry}{c:Nat}{M:List (List UInt8×Value)}(h:MpS  es c M){k:List UInt8}{u:Value}{i:Nat}(he:ents (es.modify i (fun e=>{e with key:= .string ⟨⟨k⟩⟩,val:=u}))=prsS  (zN k u M)):MpS  (es.modify i (fun e=>{e with key:= .string ⟨⟨k⟩⟩,val:=u})) c (zN k u M):=by
 have hb:(es.modify i (fun e=>{e with key:=Value.string ⟨⟨k⟩⟩,val:=u})).map (·.born)=es.map (·.born):=by
  apply nu;intro j;simp only[bq,List.getElem?_modify];cases es[j]? with
  |none=>rfl
  |some e=>by_cases hj:i=j<;>simp[hj]
 refine⟨he,by rw[qGl];exact h.keys,by rw[hb];exact h.born,fun e hm=>?_⟩;have h1:e.born∈(es.modify i (fun e=>{e with key:=Value.string ⟨⟨k⟩⟩,val:=u})).map (·.born):=fq.2 ⟨e,hm,rfl⟩;rw[hb]at h1;obtain⟨e2,h2,h3⟩:=fq.1 h1;have:=h.old e2 h2;omega
def fJ (b:Nat)(f:List UInt8→Option Value):HP:=fun h=>∃(es:Array MapEntry)(c:Nat)(M:List (List UInt8×Value)),pt b (.map es c) h∧MpS  es.toList c M∧∀k,M.lookup k=f k
variable {E:Env}{n:Nat}{L:Fr}{S S' H H':List HP}{ty:TypeId}{pos:String}{af:Array Edge}{d:Option Nat}{gd:Option (Nat×Bool)}{K:Value→List HP→Prop}
def zC {t:TypeId}(hk:∀b,K (.map (some b)) (fJ b  (fun _=>none)::H)):Ld E n L H ⟨d,.makeMap t none,ty,pos,af,gd⟩ K:=fun Q next a w g hn=>by
 have hrun:(execOp a.eval ⟨d,.makeMap t none,ty,pos,af,gd⟩).run E.P w= .ok (.value (.map (some w.heap.size))) (w.alloc (.map #[] 0)):=by
  simp[execOp,Instr.makeMap,newObj];rfl
 unfold Oper.wp;rw[hrun,Oper.upon_value];exact hn _ _ _ (hk _) ((g.hp.new _).imp fun k h=>fG (fun k' h'=>⟨#[],0,[],h',MpS.nil,fun _=>O⟩) h)
def qBg {w0 w:World}{b:Nat}{f:List UInt8→Option Value}(s:Sat w0 w (fJ b  f::H)):∃es c M,w.heap[b]?=some (.map es c)∧MpS  es.toList c M∧(∀k,M.lookup k=f k)∧Sat w0 w (pt b (.map es c)::H):=by
 obtain⟨h1,h2,dd,e,⟨es,c,M,hp,g1,g2⟩,hr⟩:=s.hp;have s':Sat w0 w (pt b (.map es c)::H):=⟨s.os,s.tape,s.output,s.size,s.old,h1,h2,dd,e,hp,hr⟩;exact⟨es,c,M,s'.ptr.1,g1,g2,s'⟩
def yO {P:Program}{kt:TypeId}(hk:P.underlying kt=some .string)(b:Bool)(x:List UInt8)(w:World):(Instr.checkKey b 10000 kt (.string ⟨⟨x⟩⟩)).run P w= .ok () w:=by
 show(Instr.checkKey b (9999+1) kt (.string ⟨⟨x⟩⟩)).run P w= .ok () w;unfold Instr.checkKey;simp only[Sem.run_bind,gK hk,Result.andThen_ok];rfl
def qZw {x y:Operand}{b:Nat}{t kt et:TypeId}{f:List UInt8→Option Value}{k:List UInt8}{z:Value}{ok:Bool}{r:Option Value}(ht:E.P.underlying t=some (.map kt et))(hkt:E.P.underlying kt=some .string)(hz:∀w,(zeroValue et).run E.P w= .ok z w) (hx:ev L x=some (.map (some b))) (hy:ev L y=some (.string ⟨⟨k⟩⟩)) (hm:Take (fJ b  f) S S') (hr:f k=r):
  Yl E n L S ⟨d,.lookup t x y ok,ty,pos,af,gd⟩ (xM ok z r):=fun a w g s=>by
 obtain⟨es,c,M,hh,he,hf,_⟩:=qBg (s.take hm)
 have hl:(Instr.lookup t (.map (some b)) (.string ⟨⟨k⟩⟩) ok).run E.P w= .ok (xM ok z r) w:=by
  subst hr;unfold Instr.lookup;simp only[Sem.run_bind,gK ht,Result.andThen_ok];simp only[getObj,Sem.run,hh];simp only[Result.andThen,Sem.run_bind,Sem.run_pure,yO hkt,Instr.findKey,gK hkt];rcases yZ (k:=k) M es.toList 0 he.is with⟨g1,g2⟩|⟨v,i,e,g1,g2,g3,g4,g5⟩
  ·rw[hf]at g1;simp only[g2,Sem.run_pure,Result.andThen_ok,Sem.run_bind,hz,Result.andThen,xM,g1];cases ok<;>rfl
  rw[hf]at g1;simp only[g2,Sem.run_pure,Result.andThen_ok,Sem.run_bind,Result.andThen,xM,g1];cases ok<;>rfl
 simp[execOp,g.ev hx,g.ev hy,hl]
def qLj {M:List (List UInt8×Value)}{k x:List UInt8}{v:Value}(h:M.lookup k=none):(M++[(k,v)]).lookup x=if x=k then some v else M.lookup x:=by
 induction M with
 |nil=>
  by_cases e:x=k
  ·subst e;simp[List.lookup]
  have e':(x==k)=false:=by simpa using e
  simp[List.lookup,e',e]
 |cons p M ih=>
  obtain⟨a,b⟩:=p
  have hka:(k==a)=false:=by
   by_cases e:k=a
   ·subst e;simp[List.lookup]at h
   simpa using e
  simp only[List.lookup,hka]at h
  simp only[ik,List.lookup]
  by_cases e:x=a
  ·subst e
   have:¬x=k:=fun e=>by subst e;simp at hka
   simp[this]
  have e':(x==a)=false:=by simpa using e
  simp only[e']
  exact ih h
def kV (f:List UInt8→Option Value)(k:List UInt8)(u:Value):List UInt8→Option Value:=fun x=>if x=k then some u else f x
def qR {x y v:Operand}{b:Nat}{t kt et:TypeId}{f:List UInt8→Option Value}{k:List UInt8}{u:Value}(ht:E.P.underlying t=some (.map kt et))(hkt:E.P.underlying kt=some .string)(hx:ev L x=some (.map (some b)))(hy:ev L y=some (.string ⟨⟨k⟩⟩))(hv:ev L v=some u)(hm:Take (fJ b  f) H H')(hk:K undef (fJ b  (kV f k u)::H')):
  Ld E n L H ⟨d,.mapUpdate t x y v,ty,pos,af,gd⟩ K:=fun Q next a w g hn=>by
 obtain⟨es,c,M,hh,he,hf,s1⟩:=qBg (g.hp.take hm);have hlt:b<w.heap.size:=(cz.1 hh).1
 obtain⟨es',c',M',hrun,he',hf'⟩:∃(es':Array MapEntry)(c':Nat)(M':List (List UInt8×Value)),(Instr.mapUpdate t (.map (some b)) (.string ⟨⟨k⟩⟩) u).run E.P w= .ok () (ChangeMaps.setBlock w b (.map es' c'))∧MpS  es'.toList c' M'∧∀x,M'.lookup x=kV f k u x:=by
  rcases yZ (k:=k) M es.toList 0 he.is with⟨g1,g2⟩|⟨v0,i,e,g1,g2,g3,g4,g5⟩
  ·refine⟨es.push {key:= .string ⟨⟨k⟩⟩,val:=u,born:=c},c+1,M++[(k,u)],?_,by rw[yw];exact he.push u g1,fun x=>?_⟩
   ·unfold Instr.mapUpdate;simp only[Sem.run_bind,gK ht,Result.andThen_ok];simp only[getObj,Sem.run,hh];simp only[Result.andThen,Sem.run_bind,yO hkt,Instr.findKey,gK hkt,g2,Sem.run_pure];simp only[setObj,Sem.run];rw[hh];rfl
   rw[qLj g1,kV,hf]
  refine⟨es.modify i fun e=>{e with key:= .string ⟨⟨k⟩⟩,val:=u},c,zN k u M,?_,by rw[xk];exact he.modify (g5 u),fun x=>?_⟩
  ·have hs:Instr.sameBits 10000 (.string ⟨⟨k⟩⟩) (.string ⟨⟨k⟩⟩)=true:=by simp[Instr.sameBits,ba_eq]
   have he2:((es[i]?).map (·.key)).getD (.string ⟨⟨k⟩⟩)= .string ⟨⟨k⟩⟩:=by
    rw[←vo,g3];exact g4
   unfold Instr.mapUpdate;simp only[Sem.run_bind,gK ht,Result.andThen_ok];simp only[getObj,Sem.run,hh];simp only[Result.andThen,Sem.run_bind,yO hkt,Instr.findKey,gK hkt,g2,Sem.run_pure,jg,he2,Instr.keyThatStays,hs,if_true];simp only[setObj,Sem.run];rw[hh];rfl
  unfold kV;by_cases e:x=k
  ·rw[if_pos e,e];exact qGm g1
  rw[if_neg e,qEa e,hf]
 have hrun':(execOp a.eval ⟨d,.mapUpdate t x y v,ty,pos,af,gd⟩).run E.P w= .ok .skip (ChangeMaps.setBlock w b (.map es' c')):=by
  simp[execOp,g.f.ev hx,g.f.ev hy,g.f.ev hv,hrun]
 unfold Oper.wp;rw[hrun',Oper.upon_skip]
 have hs2:Sat E.w0 (ChangeMaps.setBlock w b (.map es' c')) (pt b (.map es' c')::H'):=s1.write ⟨O,O,O,by simp[ChangeMaps.setBlock]⟩ (by simp[ChangeMaps.setBlock,hlt]) fun j hj=>by
  simp only[ChangeMaps.setBlock];rw[mo (by intro e;exact hj e.symm)]
 exact hn _ _ _ hk (hs2.imp fun k' h=>fG (fun k'' h''=>⟨es',c',M',h'',he',hf'⟩) h)
end
section
open Go Go.RowKit
def qDe:∀{M:List (List UInt8×Value)},(M.map (·.1)).Nodup→∀{p},p∈M→M.lookup p.1=some p.2
 |[],_,p,h=>by cases h
 |(a,b)::M,hn,p,h=>by
  have hn':=zl.1 hn;rcases iq.1 h with rfl| h
  ·simp[List.lookup]
  have e:(p.1==a)=false:=by
   simp only[beq_eq_false_iff_ne];intro e;exact hn'.1 (fq.2 ⟨p,h,e⟩)
  simp only[List.lookup,e];exact qDe hn'.2 h
def wG {k:List UInt8}{v:Value}:∀{M:List (List UInt8×Value)},M.lookup k=some v→(k,v)∈M
 |[],h=>by cases h
 |(a,b)::M,h=>by
  by_cases e:k=a
  ·subst e;simp[List.lookup]at h;subst h;exact oC
  have e':(k==a)=false:=by simpa using e
  simp only[List.lookup,e']at h;exact og _ (wG h)
variable {es:List MapEntry}{c:Nat}{M:List (List UInt8×Value)}
def MpS.mem (h:MpS  es c M){e:MapEntry}(he:e∈es):∃k,e.key= .string ⟨⟨k⟩⟩∧M.lookup k=some e.val:=by
 have h1:(e.key,e.val)∈prsS  M:=by rw[←h.is];exact fq.2 ⟨e,he,rfl⟩
 obtain⟨p,hp,e1⟩:=fq.1 h1;simp only[Prod.mk.injEq]at e1;exact⟨p.1,e1.1.symm,by rw[←e1.2];exact qDe h.keys hp⟩
def MpS.has (h:MpS  es c M){k:List UInt8}{v:Value}(hl:M.lookup k=some v):∃e∈es,e.key= .string ⟨⟨k⟩⟩∧e.val=v:=by
 have h1:(Value.string ⟨⟨k⟩⟩,v)∈ents es:=by rw[h.is];exact fq.2 ⟨(k,v),wG hl,rfl⟩
 obtain⟨e,he,e1⟩:=fq.1 h1;simp only[Prod.mk.injEq]at e1;exact⟨e,he,e1.1,e1.2⟩
def MpS.keys' (h:MpS  es c M):(es.map (·.key)).Nodup:=by
 have e1:es.map (·.key)=(M.map (·.1)).map (fun k:List UInt8=>Value.string ⟨⟨k⟩⟩):=by
  have:=bf (List.map Prod.fst) h.is;simpa[ents,prsS,mi,Function.comp_def]using this
 rw[e1,uj,List.pairwise_map];exact(uj.1 h.keys).imp fun hne e=>hne (by simpa using e)
def qAr (r b:Nat)(f:List UInt8→Option Value)(done:List UInt8→Bool):HP:=fun h=>∃(es:Array MapEntry)(c:Nat)(M:List (List UInt8×Value))(since c0:Nat)(seen:Array Nat),
 dU [pt r (.mapIter (some b) since seen c0),pt b (.map es c)] h∧MpS  es.toList c M∧(∀k,M.lookup k=f k)∧(∀e∈es.toList,e.born<since)∧since≤c0∧since≤c∧∀e∈es.toList,∀k,e.key= .string ⟨⟨k⟩⟩→seen.contains e.born=done k
def qIq {r b:Nat}{f:List UInt8→Option Value}{done:List UInt8→Bool}{h:PH}(x:qAr r b  f done h):fJ b  f h:=by
 obtain⟨es,c,M,since,c0,seen,⟨a1,a2,d,e,_,a3,a4,d',e',hp,_⟩,h1,h2,_⟩:=x;refine⟨es,c,M,?_,h1,h2⟩;show h b=_;rw[e];refine kI d ?_;rw[e'];exact pG hp
def rngES (r b:Nat)(f:List UInt8→Option Value)(done:List UInt8→Bool)(k:List UInt8)(v:Value):HP:=fun h=>∃(es:Array MapEntry)(c:Nat)(M:List (List UInt8×Value))(since:Nat)(seen:Array Nat)(e1:MapEntry),
 dU [pt r (.mapIter (some b) since (seen.push e1.born) c),pt b (.map es c)] h∧MpS  es.toList c M∧(∀k,M.lookup k=f k)∧(∀e∈es.toList,e.born<since)∧since≤c∧(∀e∈es.toList,∀k,e.key= .string ⟨⟨k⟩⟩→(seen.push e1.born).contains e.born=done k)∧e1∈es.toList∧e1.key= .string ⟨⟨k⟩⟩∧e1.val=v
def qOl {r b:Nat}{f:List UInt8→Option Value}{done:List UInt8→Bool}{k:List UInt8}{v:Value}{h:PH}(x:rngES r b  f done k v h):qAr r b  f done h:=by
 obtain⟨es,c,M,since,seen,e1,hs,m1,m2,m3,m4,m5,_⟩:=x;exact⟨es,c,M,since,c,seen.push e1.born,hs,m1,m2,m3,m4,m4,m5⟩
variable {E:Env}{n:Nat}{L:Fr}{S S' H H':List HP}{ty:TypeId}{pos:String}{af:Array Edge}{d:Option Nat}{gd:Option (Nat×Bool)}{K:Value→List HP→Prop}
def qDb {x:Operand}{b:Nat}{t kt et:TypeId}{f:List UInt8→Option Value}(ht:E.P.underlying t=some (.map kt et))(hx:ev L x=some (.map (some b)))(hm:Take (fJ b  f) H H')(hk:∀r,K (.pointer (some ⟨r,0,none⟩)) (qAr r b  f (fun _=>false)::H')):Ld E n L H ⟨d,.range t x,ty,pos,af,gd⟩ K:=fun Q next a w g hn=>by
 obtain⟨es,c,M,hh,he,hf,s1⟩:=qBg (g.hp.take hm)
 have hrun:(execOp a.eval ⟨d,.range t x,ty,pos,af,gd⟩).run E.P w= .ok (.value (.pointer (some ⟨w.heap.size,0,none⟩))) (w.alloc (.mapIter (some b) c #[] c)):=by
  simp[execOp,g.f.ev hx,run_range_map w t kt et b es c ht hh]
 unfold Oper.wp;rw[hrun,Oper.upon_value];refine hn _ _ _ (hk _) ((s1.new (.mapIter (some b) c #[] c)).imp fun k h=>?_);refine jE (ps:=[pt w.heap.size (.mapIter (some b) c #[] c),pt b (.map es c)]) (fun h' hs=>?_) h;exact⟨es,c,M,c,c,#[],hs,he,hf,he.old,ai _,ai _,fun e _ k _=>by simp⟩
def qHx {x:Operand}{r b:Nat}{f:List UInt8→Option Value}{done:List UInt8→Bool}(hx:ev L x=some (.pointer (some ⟨r,0,none⟩)))(hm:Take (qAr r b  f done) H H')(h0:(∀k v,f k=some v→done k=true)→K (.tuple #[.bool false]) (qAr r b  f done::H'))
  (h1:∀k v,f k=some v→done k=false→K (.tuple #[.bool true,.string ⟨⟨k⟩⟩,v]) (rngES r b  f (fun x=>x==k||done x) k v::H')):Ld E n L H ⟨d,.next x false,ty,pos,af,gd⟩ K:=fun Q next a w g hn=>by
 have s0:=g.hp.take hm;obtain⟨q1,q2,dd,e,⟨es,c,M,since,c0,seen,hs,m1,m2,m3,m4,m5,m6⟩,hr⟩:=s0.hp;have s1:Sat E.w0 w (pt r (.mapIter (some b) since seen c0)::pt b (.map es c)::H'):=⟨s0.os,s0.tape,s0.output,s0.size,s0.old,by rw[e];exact lK hs hr dd⟩;have hr1:=s1.ptr.1;have hb1:=(s1.imp fun _=>fK).ptr.1;have hlt:r<w.heap.size:=(cz.1 hr1).1
 have hpack:∀(seen':Array Nat)(c1:Nat)(done':List UInt8→Bool),since≤c1→(∀e∈es.toList,∀k,e.key= .string ⟨⟨k⟩⟩→seen'.contains e.born=done' k)→∀k,dU (pt r (.mapIter (some b) since seen' c1)::pt b (.map es c)::H') k→dU (qAr r b  f done'::H') k:=fun seen' c1 done' g1 g2 k h=>by
  refine jE (ps:=[pt r (.mapIter (some b) since seen' c1),pt b (.map es c)]) (fun h' hs'=>?_) h;exact⟨es,c,M,since,c1,seen',hs',m1,m2,m3,g1,m5,g2⟩
 rcases run_next (P:=E.P) (ty:=ty) hr1 hb1 m3 m4 with⟨hall,hrun⟩|⟨e1,he1,hs1,w1,hw1,hrun⟩
 ·have hrun':(execOp a.eval ⟨d,.next x false,ty,pos,af,gd⟩).run E.P w= .ok (.value (.tuple #[.bool false])) w:=by
   simp[execOp,g.f.ev hx,hrun]
  unfold Oper.wp;rw[hrun',Oper.upon_value];refine hn _ _ _ (h0 fun k v hk=>?_) (s1.imp (hpack seen c0 done m4 m6));obtain⟨e2,he2,hk2,_⟩:=m1.has ((m2 k).trans hk);rw[←m6 e2 he2 k hk2];exact hall e2 he2
 have hrun':(execOp a.eval ⟨d,.next x false,ty,pos,af,gd⟩).run E.P w= .ok (.value (.tuple #[.bool true,e1.key,e1.val])) (ChangeMaps.setBlock w1 r (.mapIter (some b) since (seen.push e1.born) c)):=by
  simp[execOp,g.f.ev hx,hrun]
 unfold Oper.wp;rw[hrun',Oper.upon_value];obtain⟨k1,hk1,hl1⟩:=m1.mem he1;rw[hk1]
 have sw:Sat E.w0 w1 (pt r (.mapIter (some b) since seen c0)::pt b (.map es c)::H'):=by
  rcases hw1 with rfl|rfl
  ·exact s1
  exact s1.drew
 have hz:w1.heap.size=w.heap.size:=by rcases hw1 with rfl|rfl<;>rfl
 have sx:Sat E.w0 (ChangeMaps.setBlock w1 r (.mapIter (some b) since (seen.push e1.born) c)) (pt r (.mapIter (some b) since (seen.push e1.born) c)::pt b (.map es c)::H'):=sw.write ⟨O,O,O,by simp[ChangeMaps.setBlock]⟩ (by simp[ChangeMaps.setBlock,hz,hlt]) fun j hj=>by
  simp only[ChangeMaps.setBlock];rw[mo (by intro e;exact hj e.symm)]
 refine hn _ _ _ (h1 k1 e1.val ((m2 k1).symm.trans hl1) (by rw[←m6 e1 he1 k1 hk1];exact hs1)) (sx.imp fun k0 h0=>jE (ps:=[pt r (.mapIter (some b) since (seen.push e1.born) c),pt b (.map es c)]) (fun h' hs'=>⟨es,c,M,since,seen,e1,hs',m1,m2,m3,m5,fun e2 he2 k hk2=>?_,he1,hk1,O⟩) h0);rw[Array.contains_push,m6 e2 he2 k hk2];show _=(k==k1||done k);by_cases hkk:k=k1
 ·subst hkk;have:e2=e1:=xW m1.keys' he2 he1 (hk2.trans hk1.symm);subst this;simp
 have hbb:(e2.born==e1.born)=false:=by
  simp only[beq_eq_false_iff_ne];intro hb2;have:=xW m1.born he2 he1 hb2;subst this;rw[hk1]at hk2;exact hkk (by simpa using hk2.symm)
 have hkb:(k==k1)=false:=by simpa using hkk
 rw[hbb,hkb,Bool.or_false,Bool.false_or]
def qJs {x:Operand}{r b:Nat}{f:List UInt8→Option Value}{done:List UInt8→Bool}{k:List UInt8}{v:Value}(hx:ev L x=some (.pointer (some ⟨r,0,none⟩)))(hm:Take (rngES r b  f done k v) S S'):Yl E n L S ⟨d,.entry x,ty,pos,af,gd⟩ (.tuple #[.string ⟨⟨k⟩⟩,v]):=fun a w g s=>by
 have s0:=s.take hm;obtain⟨q1,q2,dd,e,⟨es,c,M,since,seen,e1,hs,m1,m2,m3,m4,m5,he1,hk1,hv1⟩,hr⟩:=s0.hp;have s1:Sat E.w0 w (pt r (.mapIter (some b) since (seen.push e1.born) c)::pt b (.map es c)::S'):=⟨s0.os,s0.tape,s0.output,s0.size,s0.old,by rw[e];exact lK hs hr dd⟩;have hr1:=s1.ptr.1;have hb1:=(s1.imp fun _=>fK).ptr.1
 have hf:es.find? (fun e=>e.born==e1.born)=some e1:=by
  cases h:es.find? (fun e=>e.born==e1.born)with
  |none=>
   have h2:=Array.find?_eq_none.1 h e1 (Array.mem_toList_iff.1 he1)
   simp at h2
  |some e2=>
   have h2:=Array.find?_some h
   have h3:=Array.mem_of_find?_eq_some h
   have:e2=e1:=xW m1.born (Array.mem_toList_iff.2 h3) he1 (by simpa using h2)
   rw[this]
 simp[execOp,g.ev hx,Instr.entry,getObj,Sem.run_bind,Sem.run,hr1,hb1,Result.andThen,Array.back?_push,hf,hk1,hv1]
end
section
open Go Go.RowKit
def MpS.at {es:List MapEntry}{c:Nat}{M:List (List UInt8×Value)}(h:MpS es c M){i:Nat}{e:MapEntry}{k:List UInt8}(he:es[i]?=some e)(hk:e.key= .string ⟨⟨k⟩⟩):∃v,M[i]?=some (k,v):=by
 have h1:(ents es)[i]?=some (e.key,e.val):=by unfold ents;rw[bq,he];rfl
 rw[h.is]at h1;unfold prsS at h1;rw[bq]at h1;cases hM:M[i]? with
 |none=>rw[hM]at h1;simp at h1
 |some p=>
  obtain⟨a,b⟩:=p
  rw[hM]at h1
  simp at h1
  obtain⟨h1,_⟩:=h1
  rw[hk]at h1
  simp at h1
  exact⟨b,by rw[h1]⟩
def cntS (f:List UInt8→Option Value)(n:Nat):Prop:=∃M:List (List UInt8×Value),(M.map (·.1)).Nodup∧(∀k,M.lookup k=f k)∧M.length=n
def cntS.zero {f:List UInt8→Option Value}(h:∀k,f k=none):cntS f 0:=⟨[],.nil,fun k=>(h k).symm,rfl⟩
def cntS.none {f:List UInt8→Option Value}(h:cntS f 0):∀k,f k=none:=fun k=>by
 obtain⟨M,_,h2,h3⟩:=h;obtain rfl:=ze.1 h3;exact(h2 k).symm
def qGd {M:List (List UInt8×Value)}{k:List UInt8}:k∈M.map (·.1)↔M.lookup k≠none:=by
 refine⟨fun h e=>zD e h,fun h=>?_⟩;cases e:M.lookup k with
 |none=>exact absurd e h
 |some v=>exact fq.2 ⟨(k,v),wG e,rfl⟩
def cntS.fn {f:List UInt8→Option Value}{n m:Nat}(h:cntS f n)(h':cntS f m):n=m:=by
 obtain⟨M,h1,h2,rfl⟩:=h;obtain⟨M',h1',h2',rfl⟩:=h';have:=(uh h1 h1').2 fun k=>by rw[qGd,qGd,h2,h2']
 have:=this.length_eq;rwa [ku,ku]at this
variable {E:Env}{n:Nat}{L:Fr}{S S' H H':List HP}{ty:TypeId}{pos:String}{af:Array Edge}{d:Option Nat}{gd:Option (Nat×Bool)}{K:Value→List HP→Prop}
def qGv {x:Operand}{b:Nat}{t kt et:TypeId}{f:List UInt8→Option Value}{c:Nat}(ht:E.P.underlying t=some (.map kt et))(hx:ev L x=some (.map (some b)))(hm:Take (fJ b f) S S')(hc:cntS f c):
  Yl E n L S ⟨d,.call {callee:= .builtin .len,args:= #[x],argTypes:= #[t]},ty,pos,af,gd⟩ (.int .i64 (c:Nat)):=fun a w g s=>by
 obtain⟨es,c1,M,hh,he,hf,_⟩:=qBg (s.take hm)
 have e1:es.size=c:=by
  have h1:(ents es.toList).length=(prsS M).length:=by rw[he.is]
  unfold ents prsS at h1;rw[ku,ku,lq]at h1;rw[h1];exact cntS.fn ⟨M,he.keys,hf,O⟩ hc
 simp[execOp,resolve,invoke,builtin,Builtin.len_,underlying,program,Sem.run,ht,g.ev hx,goInt,getObj,hh,e1]
end
end Sl
namespace Go.Proofs.YtejcjelmpbkcbaaGreatDoor
open Go Go.RowKit Sl Eg
set_option maxRecDepth 10000
variable {E:Env}
variable {ts:Nat→List UInt8}{q:HP}{ok:Nat→Prop}{cf:Nat→Nat→Int}{g c n:Nat}
section plainS
def nmC (l:List (List UInt8)):List Value:=l.map fun x=> .string ⟨⟨x⟩⟩
end plainS
end Go.Proofs.YtejcjelmpbkcbaaGreatDoor
namespace Sl
open Go Go.RowKit
variable {E:Env}{n:Nat}{L:Fr}{S:List HP}{ty:TypeId}{pos:String}{af:Array Edge}{d:Option Nat}{gd:Option (Nat×Bool)}
def qVt {P:Program}{t k e:TypeId}(hu:P.underlying t=some (.map k e))(p:Option Nat)(w:World):(Op.equal t (.map p) (.map none)).run P w= .ok p.isNone w:=by
 unfold Op.equal;rw[show Op.maxDepth=9999+1 from rfl,Op.equalIn];cases p<;>simp[underlying,program,Sem.run,hu]
def y_eq_map {x:Operand}{t yt k e:TypeId}{p:Option Nat}(hx:ev L x=some (.map p))(ht:E.P.underlying t=some (.map k e)):
  Yl E n L S ⟨d,.binOp .eql t x (.const (.map none)) yt,ty,pos,af,gd⟩ (.bool p.isNone):=fun ac w g _=>by
 have hy:ac.eval (.const (.map none))= .map none:=rfl;have h1:∀w,(eqGuard .eql t x (.const (.map none)) (.map p) (.map none)).run E.P w= .ok () w:=fun w=>by unfold eqGuard;split <;>simp
 simp[execOp,h1,binOp,qVt ht,g.ev hx,hy]
end Sl
