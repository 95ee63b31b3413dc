import Derived.Test.YtejcjelmpbkcbaaGreatDoorQ13
set_option linter.all false
set_option maxHeartbeats 1000000
namespace Sl
section
open Go Go.RowKit
def setM (k:Int)(u:Value):List (Int×Value)→List (Int×Value)
 |[]=>[]
 |p::l=>if p.1=k then(k,u)::l else p::setM k u l
def qEb {k:Int}{u v:Value}:∀{M:List (Int×Value)},M.lookup k=some v→(setM k u M).lookup k=some u
 |[],h=>by cases h
 |(a,b)::M,h=>by
  unfold setM;by_cases e:a=k
  ·rw[if_pos e];simp[List.lookup]
  have e':(k==a)=false:=by simp;omega
  rw[if_neg e];simp only[List.lookup,e']at h ⊢;exact qEb h
def zO {k x:Int}{u:Value}(hx:x≠k):∀{M:List (Int×Value)},(setM k u M).lookup x=M.lookup x
 |[]=>rfl
 |(a,b)::M=>by
  unfold setM;by_cases e:a=k
  ·have e':(x==k)=false:=by simpa using hx
   subst e;rw[if_pos rfl];simp only[List.lookup,e']
  rw[if_neg e];simp only[List.lookup];rw[zO hx]
def ents (es:List MapEntry):List (Value×Value):=es.map fun e=>(e.key,e.val)
def prs (ki:IntKind)(M:List (Int×Value)):List (Value×Value):=M.map fun p=>(Value.int ki p.1,p.2)
def xK {ki:IntKind}{k:Int}:∀(M:List (Int×Value))(es:List MapEntry)(j:Nat),ents es=prs ki M→
  (M.lookup k=none∧Instr.findNow (.int ki) (.int ki k) es j=some none)∨(∃v i e,M.lookup k=some v∧Instr.findNow (.int ki) (.int ki k) es j=some (some (j+i,v))∧es[i]?=some e∧e.key= .int ki k∧∀u,ents (es.modify i (fun e=>{e with key:= .int ki k,val:=u}))=prs ki (setM k u M))
 |[],[],j,_=> .inl ⟨rfl,rfl⟩
 |[],e::es,j,h=>by simp[ents,prs]at h
 |p::M,[],j,h=>by simp[ents,prs]at h
 |(a,b)::M,e::es,j,h=>by
  simp only[ents,prs,jo,xf,Prod.mk.injEq]at h;obtain⟨⟨h1,h2⟩,h3⟩:=h;by_cases hk:k=a
  ·subst hk;refine .inr ⟨b,0,e,by simp[List.lookup],?_,rfl,h1,fun u=>?_⟩
   ·simp[Instr.findNow,h1,h2,Instr.sameNow]
   simp only[ents,prs,setM,if_true,zm,jo];rw[h3]
  have hb:(k==a)=false:=by simpa using hk
  have hstep:∀j,Instr.findNow (.int ki) (.int ki k) (e::es) j=Instr.findNow (.int ki) (.int ki k) es (j+1):=fun j=>by simp[Instr.findNow,h1,Instr.sameNow,hb]
  rcases xK (k:=k) M es (j+1) h3 with⟨g1,g2⟩|⟨v,i,e',g1,g2,g3,g4,g5⟩
  ·exact .inl ⟨by simp only[List.lookup,hb];exact g1,by rw[hstep];exact g2⟩
  refine .inr ⟨v,i+1,e',by simp only[List.lookup,hb];exact g1,by rw[hstep,g2];congr 3;omega,by simpa using g3,g4,fun u=>?_⟩;have:=g5 u;simp only[ents,prs,setM,if_neg (Ne.symm hk),zn,jo,h1,h2]at this ⊢;rw[this]
structure Mp (ki:IntKind)(es:List MapEntry)(c:Nat)(M:List (Int×Value)):Prop where
 is:ents es=prs ki M
 keys:(M.map (·.1)).Nodup
 born:(es.map (·.born)).Nodup
 old:∀e∈es,e.born<c
def Mp.nil {ki:IntKind}:Mp ki [] 0 []:=⟨rfl,.nil,.nil,fun e h=>by cases h⟩
def qLi {k:Int}:∀{M:List (Int×Value)},M.lookup k=none→k∉M.map (·.1)
 |[],_,h=>by cases h
 |(a,b)::M,h,h'=>by
  by_cases e:k=a
  ·subst e;simp[List.lookup]at h
  have e':(k==a)=false:=by simpa using e
  simp only[List.lookup,e']at h;rcases iq.1 h' with h'|h'
  ·exact e h'
  exact qLi h h'
def qMh {k:Int}{u:Value}:∀{M:List (Int×Value)},(setM k u M).map (·.1)=M.map (·.1)
 |[]=>rfl
 |(a,b)::M=>by
  unfold setM;by_cases e:a=k
  ·rw[if_pos e];simp[e]
  rw[if_neg e,jo,jo,qMh]
def Mp.push {ki:IntKind}{es:List MapEntry}{c:Nat}{M:List (Int×Value)}(h:Mp ki es c M){k:Int}(u:Value)(hk:M.lookup k=none):Mp ki (es++[{key:= .int ki k,val:=u,born:=c}]) (c+1) (M++[(k,u)]):=by
 refine⟨?_,?_,?_,fun e he=>?_⟩
 ·have:=h.is;simp[ents,prs]at this ⊢;exact this
 ·rw[fw,oH];refine⟨h.keys,by simp,fun a ha b hb=>?_⟩;simp at hb;subst hb;exact fun e=>qLi hk (by rw[←e];exact ha)
 ·rw[fw,oH];refine⟨h.born,by simp,fun a ha b hb=>?_⟩;simp at hb;subst hb;obtain⟨e,he,rfl⟩:=fq.1 ha;have:=h.old e he;omega
 rcases bn.1 he with he|he
 ·have:=h.old e he;omega
 simp at he;subst he;simp
def Mp.modify {ki:IntKind}{es:List MapEntry}{c:Nat}{M:List (Int×Value)}(h:Mp ki es c M){k:Int}{u:Value}{i:Nat}(he:ents (es.modify i (fun e=>{e with key:= .int ki k,val:=u}))=prs ki (setM k u M)):Mp ki (es.modify i (fun e=>{e with key:= .int ki k,val:=u})) c (setM k u M):=by
 have hb:(es.modify i (fun e=>{e with key:=Value.int ki k,val:=u})).map (·.born)=es.map (·.born):=by
  apply nu;intro j;simp only[bq,List.getElem?_modify];cases es[j]? with
  |none=>rfl
  |some e=>by_cases hj:i=j<;>simp[hj]
 refine⟨he,by rw[qMh];exact h.keys,by rw[hb];exact h.born,fun e hm=>?_⟩;have h1:e.born∈(es.modify i (fun e=>{e with key:=Value.int ki k,val:=u})).map (·.born):=fq.2 ⟨e,hm,rfl⟩;rw[hb]at h1;obtain⟨e2,h2,h3⟩:=fq.1 h1;have:=h.old e2 h2;omega
def mapF (b:Nat)(ki:IntKind)(f:Int→Option Value):HP:=fun h=>∃(es:Array MapEntry)(c:Nat)(M:List (Int×Value)),pt b (.map es c) h∧Mp ki es.toList c M∧∀k,M.lookup k=f k
variable {E:Env}{n:Nat}{L:Fr}{S S' H H':List HP}{ty:TypeId}{pos:String}{af:Array Edge}{d:Option Nat}{gd:Option (Nat×Bool)}{K:Value→List HP→Prop}
def qDa {t:TypeId}(ki:IntKind)(hk:∀b,K (.map (some b)) (mapF b ki (fun _=>none)::H)):Ld E n L H ⟨d,.makeMap t none,ty,pos,af,gd⟩ K:=fun Q next a w g hn=>by
 have hrun:(execOp a.eval ⟨d,.makeMap t none,ty,pos,af,gd⟩).run E.P w= .ok (.value (.map (some w.heap.size))) (w.alloc (.map #[] 0)):=by
  simp[execOp,Instr.makeMap,newObj];rfl
 unfold Oper.wp;rw[hrun,Oper.upon_value];exact hn _ _ _ (hk _) ((g.hp.new _).imp fun k h=>fG (fun k' h'=>⟨#[],0,[],h',Mp.nil,fun _=>O⟩) h)
def qGa {t kt et:TypeId}{x:Operand}{i:Int}{k':IntKind}(ki:IntKind)(ht:E.P.underlying t=some (.map kt et))(hx:ev L x=some (.int k' i))(hk:∀b,K (.map (some b)) (mapF b ki (fun _=>none)::H)):Ld E n L H ⟨d,.makeMap t (some x),ty,pos,af,gd⟩ K:=fun Q next a w g hn=>by
 have hrun:(execOp a.eval ⟨d,.makeMap t (some x),ty,pos,af,gd⟩).run E.P w= .ok (.value (.map (some w.heap.size))) (w.alloc (.map #[] 0)):=by
  simp[execOp,Instr.makeMap,newObj,g.f.ev hx,underlying,program,Sem.run,ht,asInt,asIntOf]
 unfold Oper.wp;rw[hrun,Oper.upon_value];exact hn _ _ _ (hk _) ((g.hp.new _).imp fun k h=>fG (fun k' h'=>⟨#[],0,[],h',Mp.nil,fun _=>O⟩) h)
def qOq {w0 w:World}{b:Nat}{ki:IntKind}{f:Int→Option Value}(s:Sat w0 w (mapF b ki f::H)):∃es c M,w.heap[b]?=some (.map es c)∧Mp ki es.toList c M∧(∀k,M.lookup k=f k)∧Sat w0 w (pt b (.map es c)::H):=by
 obtain⟨h1,h2,dd,e,⟨es,c,M,hp,g1,g2⟩,hr⟩:=s.hp;have s':Sat w0 w (pt b (.map es c)::H):=⟨s.os,s.tape,s.output,s.size,s.old,h1,h2,dd,e,hp,hr⟩;exact⟨es,c,M,s'.ptr.1,g1,g2,s'⟩
def gK {P:Program}{t:TypeId}{td:TypeDesc}(h:P.underlying t=some td)(w:World):(underlying t).run P w= .ok td w:=by simp[underlying,program,Sem.run,h]
def sH {P:Program}{kt:TypeId}{ki:IntKind}(hk:P.underlying kt=some (.int ki))(b:Bool)(x:Int)(w:World):(Instr.checkKey b 10000 kt (.int ki x)).run P w= .ok () w:=by
 show(Instr.checkKey b (9999+1) kt (.int ki x)).run P w= .ok () w;unfold Instr.checkKey;simp only[Sem.run_bind,gK hk,Result.andThen_ok];rfl
def xM (ok:Bool)(z:Value)(r:Option Value):Value:=if ok then .tuple #[r.getD z,.bool r.isSome]else r.getD z
def nH {x y:Operand}{b:Nat}{t kt et:TypeId}{ki:IntKind}{f:Int→Option Value}{k:Int}{z:Value}{ok:Bool}{r:Option Value}(ht:E.P.underlying t=some (.map kt et))(hkt:E.P.underlying kt=some (.int ki))(hz:∀w,(zeroValue et).run E.P w= .ok z w) (hx:ev L x=some (.map (some b))) (hy:ev L y=some (.int ki k)) (hm:Take (mapF b ki f) S S') (hr:f k=r):
  Yl E n L S ⟨d,.lookup t x y ok,ty,pos,af,gd⟩ (xM ok z r):=fun a w g s=>by
 obtain⟨es,c,M,hh,he,hf,_⟩:=qOq (s.take hm)
 have hl:(Instr.lookup t (.map (some b)) (.int ki k) ok).run E.P w= .ok (xM ok z r) w:=by
  subst hr;unfold Instr.lookup;simp only[Sem.run_bind,gK ht,Result.andThen_ok];simp only[getObj,Sem.run,hh];simp only[Result.andThen,Sem.run_bind,Sem.run_pure,sH hkt,Instr.findKey,gK hkt];rcases xK (k:=k) M es.toList 0 he.is with⟨g1,g2⟩|⟨v,i,e,g1,g2,g3,g4,g5⟩
  ·rw[hf]at g1;simp only[g2,Sem.run_pure,Result.andThen_ok,Sem.run_bind,hz,Result.andThen,xM,g1];cases ok<;>rfl
  rw[hf]at g1;simp only[g2,Sem.run_pure,Result.andThen_ok,Sem.run_bind,Result.andThen,xM,g1];cases ok<;>rfl
 simp[execOp,g.ev hx,g.ev hy,hl]
def qDf {M:List (Int×Value)}{k x:Int}{v:Value}(h:M.lookup k=none):(M++[(k,v)]).lookup x=if x=k then some v else M.lookup x:=by
 induction M with
 |nil=>
  by_cases e:x=k
  ·subst e;simp[List.lookup]
  have e':(x==k)=false:=by simpa using e
  simp[List.lookup,e',e]
 |cons p M ih=>
  obtain⟨a,b⟩:=p
  have hka:(k==a)=false:=by
   by_cases e:k=a
   ·subst e;simp[List.lookup]at h
   simpa using e
  simp only[List.lookup,hka]at h
  simp only[ik,List.lookup]
  by_cases e:x=a
  ·subst e
   have:¬x=k:=fun e=>by subst e;simp at hka
   simp[this]
  have e':(x==a)=false:=by simpa using e
  simp only[e']
  exact ih h
def setF (f:Int→Option Value)(k:Int)(u:Value):Int→Option Value:=fun x=>if x=k then some u else f x
def qQ {x y v:Operand}{b:Nat}{t kt et:TypeId}{ki:IntKind}{f:Int→Option Value}{k:Int}{u:Value}(ht:E.P.underlying t=some (.map kt et))(hkt:E.P.underlying kt=some (.int ki))(hx:ev L x=some (.map (some b)))(hy:ev L y=some (.int ki k))(hv:ev L v=some u)(hm:Take (mapF b ki f) H H')(hk:K undef (mapF b ki (setF f k u)::H')):
  Ld E n L H ⟨d,.mapUpdate t x y v,ty,pos,af,gd⟩ K:=fun Q next a w g hn=>by
 obtain⟨es,c,M,hh,he,hf,s1⟩:=qOq (g.hp.take hm);have hlt:b<w.heap.size:=(cz.1 hh).1
 obtain⟨es',c',M',hrun,he',hf'⟩:∃(es':Array MapEntry)(c':Nat)(M':List (Int×Value)),(Instr.mapUpdate t (.map (some b)) (.int ki k) u).run E.P w= .ok () (ChangeMaps.setBlock w b (.map es' c'))∧Mp ki es'.toList c' M'∧∀x,M'.lookup x=setF f k u x:=by
  rcases xK (k:=k) M es.toList 0 he.is with⟨g1,g2⟩|⟨v0,i,e,g1,g2,g3,g4,g5⟩
  ·refine⟨es.push {key:= .int ki k,val:=u,born:=c},c+1,M++[(k,u)],?_,by rw[yw];exact he.push u g1,fun x=>?_⟩
   ·unfold Instr.mapUpdate;simp only[Sem.run_bind,gK ht,Result.andThen_ok];simp only[getObj,Sem.run,hh];simp only[Result.andThen,Sem.run_bind,sH hkt,Instr.findKey,gK hkt,g2,Sem.run_pure];simp only[setObj,Sem.run];rw[hh];rfl
   rw[qDf g1,setF,hf]
  refine⟨es.modify i fun e=>{e with key:= .int ki k,val:=u},c,setM k u M,?_,by rw[xk];exact he.modify (g5 u),fun x=>?_⟩
  ·have hs:Instr.sameBits 10000 (.int ki k) (.int ki k)=true:=by simp[Instr.sameBits]
   have he2:((es[i]?).map (·.key)).getD (.int ki k)= .int ki k:=by
    rw[←vo,g3];exact g4
   unfold Instr.mapUpdate;simp only[Sem.run_bind,gK ht,Result.andThen_ok];simp only[getObj,Sem.run,hh];simp only[Result.andThen,Sem.run_bind,sH hkt,Instr.findKey,gK hkt,g2,Sem.run_pure,jg,he2,Instr.keyThatStays,hs,if_true];simp only[setObj,Sem.run];rw[hh];rfl
  unfold setF;by_cases e:x=k
  ·rw[if_pos e,e];exact qEb g1
  rw[if_neg e,zO e,hf]
 have hrun':(execOp a.eval ⟨d,.mapUpdate t x y v,ty,pos,af,gd⟩).run E.P w= .ok .skip (ChangeMaps.setBlock w b (.map es' c')):=by
  simp[execOp,g.f.ev hx,g.f.ev hy,g.f.ev hv,hrun]
 unfold Oper.wp;rw[hrun',Oper.upon_skip]
 have hs2:Sat E.w0 (ChangeMaps.setBlock w b (.map es' c')) (pt b (.map es' c')::H'):=s1.write ⟨O,O,O,by simp[ChangeMaps.setBlock]⟩ (by simp[ChangeMaps.setBlock,hlt]) fun j hj=>by
  simp only[ChangeMaps.setBlock];rw[mo (by intro e;exact hj e.symm)]
 exact hn _ _ _ hk (hs2.imp fun k' h=>fG (fun k'' h''=>⟨es',c',M',h'',he',hf'⟩) h)
end
section
open Go Go.RowKit
variable {E:Env}{n:Nat}{L:Fr}{S H H':List HP}{ty:TypeId}{pos:String}{af:Array Edge}{d:Option Nat}{gd:Option (Nat×Bool)}{K:Value→List HP→Prop}
def vR {x y:Operand}{xt yt:TypeId}{a b:List UInt8}(hx:ev L x=some (.string ⟨⟨a⟩⟩))(hy:ev L y=some (.string ⟨⟨b⟩⟩)):
  Yl E n L S ⟨d,.binOp .lss xt x y yt,ty,pos,af,gd⟩ (.bool (Op.bytesLess a b)):=fun a' w g _=>by
 simp[execOp,eqGuard,binOp,Op.stringOp,ByteArray.toList_eq,g.ev hx,g.ev hy]
def y_le_str {x y:Operand}{xt yt:TypeId}{a b:List UInt8}(hx:ev L x=some (.string ⟨⟨a⟩⟩))(hy:ev L y=some (.string ⟨⟨b⟩⟩)):
  Yl E n L S ⟨d,.binOp .leq xt x y yt,ty,pos,af,gd⟩ (.bool (Op.bytesLess a b||decide (a=b))):=fun a' w g _=>by
 simp[execOp,eqGuard,binOp,Op.stringOp,ByteArray.toList_eq,g.ev hx,g.ev hy];exact bf _ (ry.2 (by simp))
def qWu:∀{a b:List UInt8},(Op.bytesLess b a||decide (b=a))=!Op.bytesLess a b
 |[],[]=>rfl
 |[],_::_=>rfl
 |_::_,[]=>rfl
 |a::x,b::y=>by
  have ih:=qWu (a:=x) (b:=y);simp only[Op.bytesLess];by_cases e:a=b
  ·subst e;have:decide (a<a)=false:=by simp[UInt8.lt_irrefl]
   simp only[this,Bool.false_or,beq_self_eq_true,Bool.true_and,xf,true_and];exact ih
  have h1:(a==b)=false:=by simpa using e
  have h2:(b==a)=false:=by simpa using Ne.symm e
  have h3:decide (b::y=a::x)=false:=by simp[Ne.symm e]
  simp only[h1,h2,h3,Bool.false_and,Bool.or_false];by_cases hl:a<b
  ·have:¬b<a:=fun h=>by have:=UInt8.lt_asymm hl h;exact this
   simp[hl,this]
  have:b<a:=by
   rcases UInt8.lt_or_lt_of_ne e with h| h
   ·exact absurd h hl
   exact h
  simp[hl,this]
end
end Sl
namespace Go.Proofs.YtejcjelmpbkcbaaGreatDoor
section
open Go Eg
def kids:Rl→List Nat
 | .letter _=>[]
 | .pair a b=>[a,b]
 | .power a _=>[a]
def nD {r:Rl}{n:Nat}(h:r.ok n):∀x∈kids r,1≤x∧x<n:=by
 cases r<;>simp[kids,Rl.ok]at h ⊢ <;>omega
def visit (L:List Rl):Nat→List Nat→List Nat
 |0,acc=>acc
 |n+1,acc=>
  if n+1∈acc then acc else
  match L[n]? with
  |none=>acc
  |some (.letter _)=>acc++[n+1]
  |some (.pair a b)=>visit L (min b n) (visit L (min a n) acc)++[n+1]
  |some (.power a _)=>visit L (min a n) acc++[n+1]
termination_by n=>n
decreasing_by all_goals omega
def kP (L:List Rl)(acc:List Nat):visit L 0 acc=acc:=by rw[visit]
def kY {L:List Rl}{x:Nat}{acc:List Nat}(h:x∈acc):visit L x acc=acc:=by
 cases x with
 |zero=>exact kP L acc
 |succ n=>rw[visit,if_pos h]
def dD (L:List Rl)(xs:List Nat)(acc:List Nat):List Nat:=xs.foldl (fun acc x=>visit L x acc) acc
def fV (L:List Rl)(x:Nat)(xs acc:List Nat):dD L (x::xs) acc=dD L xs (visit L x acc):=rfl
def qJl (L:List Rl)(xs ys acc:List Nat):dD L (xs++ys) acc=dD L ys (dD L xs acc):=oo
def gQ {L:List Rl}(hw:Wf L){n:Nat}{r:Rl}(h:L[n]?=some r){acc:List Nat}(hn:n+1∉acc):visit L (n+1) acc=dD L (kids r) acc++[n+1]:=by
 have ho:=hw.ok n r h;rw[visit,if_neg hn,h];cases r with
 |letter b=>rfl
 |pair a b=>
  simp only[Rl.ok]at ho
  simp only[kids,dD,sj,xy]
  rw[kw oO,kw oO]
 |power a k=>
  simp only[Rl.ok]at ho
  simp only[kids,dD,sj,xy]
  rw[kw oO]
def qEj {L:List Rl}{n:Nat}(h:L.length≤n)(acc:List Nat):visit L (n+1) acc=acc:=by
 rw[visit];split
 ·rfl
 rw[ig h]
def qEi {L:List Rl}(hw:Wf L):∀(n:Nat)(acc:List Nat),(∀x∈visit L n acc,x∈acc∨(1≤x∧x≤n∧x≤L.length))∧(∃m,visit L n acc=acc++m)∧(acc.Nodup→(visit L n acc).Nodup):=by
 intro n;induction n using Nat.strongRecOn with
 |ind n ih=>
  intro acc
  cases n with
  |zero=>rw[kP];exact⟨fun x h=> .inl h,⟨[],by simp⟩,id⟩
  |succ n=>
   by_cases hn:n+1∈acc
   ·rw[kY hn];exact⟨fun x h=> .inl h,⟨[],by simp⟩,id⟩
   cases e:L[n]? with
   |none=>rw[qEj (by simpa using e)];exact⟨fun x h=> .inl h,⟨[],by simp⟩,id⟩
   |some r=>
    have hl:=(ae.1 e).1
    have key:∀(xs:List Nat)(acc:List Nat),(∀x∈xs,x<n+1)→(∀x∈dD L xs acc,x∈acc∨(1≤x∧x<n+1∧x≤L.length))∧(∃m,dD L xs acc=acc++m)∧(acc.Nodup→(dD L xs acc).Nodup):=by
     intro xs;induction xs with
     |nil=>intro acc _;exact⟨fun x h=> .inl h,⟨[],by simp[dD]⟩,id⟩
     |cons y ys ihy=>
      intro acc hy
      obtain⟨g1,⟨m1,g2⟩,g3⟩:=ih y (hy y (by simp)) acc
      obtain⟨k1,⟨m2,k2⟩,k3⟩:=ihy (visit L y acc) (fun x hx=>hy x (by simp[hx]))
      rw[fV]
      refine⟨fun x hx=>?_,⟨m1++m2,by rw[k2,g2,ah]⟩,fun h=>k3 (g3 h)⟩
      rcases k1 x hx with h| h
      ·rcases g1 x h with h| h
       ·exact .inl h
       exact .inr ⟨h.1,by have:=hy y (by simp);omega,h.2.2⟩
      exact .inr h
    obtain⟨g1,⟨m1,g2⟩,g3⟩:=key (kids r) acc fun x hx=>(nD (hw.ok n r e) x hx).2
    rw[gQ hw e hn]
    refine⟨fun x hx=>?_,⟨m1++[n+1],by rw[g2,ah]⟩,fun h=>?_⟩
    ·rcases bn.1 hx with h| h
     ·rcases g1 x h with h| h
      ·exact .inl h
      exact .inr ⟨h.1,oO,h.2.2⟩
     simp at h;exact .inr ⟨oO,oO,oO⟩
    refine oH.2 ⟨g3 h,by simp,fun a ha b hb=>?_⟩
    simp at hb
    subst hb
    intro e
    subst e
    rcases g1 _ ha with h| h
    ·exact hn h
    omega
def rC {L:List Rl}(hw:Wf L)(n:Nat):∀(xs acc:List Nat),(∀x∈xs,x≤n)→(∀x∈dD L xs acc,x∈acc∨(1≤x∧x≤n∧x≤L.length))∧(∃m,dD L xs acc=acc++m)∧(acc.Nodup→(dD L xs acc).Nodup)
 |[],acc,_=>⟨fun x h=> .inl h,⟨[],by simp[dD]⟩,id⟩
 |y::ys,acc,hy=>by
  obtain⟨g1,⟨m1,g2⟩,g3⟩:=qEi hw y acc;obtain⟨k1,⟨m2,k2⟩,k3⟩:=rC hw n ys (visit L y acc) (fun x hx=>hy x (by simp[hx]));rw[fV];refine⟨fun x hx=>?_,⟨m1++m2,by rw[k2,g2,ah]⟩,fun h=>k3 (g3 h)⟩;rcases k1 x hx with h| h
  ·rcases g1 x h with h| h
   ·exact .inl h
   exact .inr ⟨h.1,by have:=hy y (by simp);omega,h.2.2⟩
  exact .inr h
def runS (L:List Rl):List (Nat×Bool)→List Nat→List Nat
 |[],acc=>acc
 |(x,true)::st,acc=>runS L st (if x∈acc then acc else acc++[x])
 |(x,false)::st,acc=>runS L st (visit L x acc)
def qTl (L:List Rl)(xs:List Nat)(st:List (Nat×Bool))(acc:List Nat):runS L (xs.map (·,false)++st) acc=runS L st (dD L xs acc):=by
 induction xs generalizing acc with
 |nil=>rfl
 |cons x xs ih=>simp only[jo,ik,runS,fV];exact ih _
def qYi {L:List Rl}(hw:Wf L){n:Nat}{r:Rl}(h:L[n]?=some r){acc:List Nat}(hn:n+1∉acc)(st:List (Nat×Bool)):runS L ((n+1,false)::st) acc=runS L ((kids r).map (·,false)++(n+1,true)::st) acc:=by
 rw[qTl,runS,runS,gQ hw h hn,if_neg];intro hm;rcases(rC hw n (kids r) acc fun x hx=>by have:=(nD (hw.ok n r h) x hx).2;omega).1 _ hm with h| h
 ·exact hn h
 omega
def walk (L:List Rl):Nat→Nat
 |0=>1
 |n+1=>match L[n]? with
  |some (.pair a b)=>2+walk L (min a n)+walk L (min b n)
  |some (.power a _)=>2+walk L (min a n)
  |_=>2
termination_by n=>n
decreasing_by all_goals omega
def tQ (L:List Rl):List (Nat×Bool)→Nat
 |[]=>0
 |(_,true)::st=>1+tQ L st
 |(x,false)::st=>walk L x+tQ L st
def qRi (L:List Rl)(x:Nat):1≤walk L x:=by
 cases x with
 |zero=>rw[walk];omega
 |succ n=>rw[walk];split <;>omega
def qZo {L:List Rl}(hw:Wf L){n:Nat}{r:Rl}(h:L[n]?=some r)(st:List (Nat×Bool)):tQ L ((kids r).map (·,false)++(n+1,true)::st)<tQ L ((n+1,false)::st):=by
 have ho:=hw.ok n r h;cases r with
 |letter b=>
  simp only[kids,oN,jq,tQ]
  rw[walk,h]
  simp only
  omega
 |pair a b=>
  simp only[Rl.ok]at ho
  simp only[kids,jo,oN,ik,jq,tQ]
  rw[walk,h]
  simp only
  rw[kw oO,kw oO];omega
 |power a k=>
  simp only[Rl.ok]at ho
  simp only[kids,jo,oN,ik,jq,tQ]
  rw[walk,h]
  simp only
  rw[kw oO];omega
end
section
open Go Eg
inductive Rea (L:List Rl):Nat→Nat→Prop where
 |self {n:Nat} (h:n<L.length):Rea L (n+1) (n+1)
 |kid {n k x:Nat} {r:Rl} (h:L[n]?=some r) (hk:k∈kids r) (hx:Rea L k x):Rea L (n+1) x
def Closed (L:List Rl)(acc:List Nat):Prop:=∀n r,n+1∈acc→L[n]?=some r→∀k∈kids r,k∈acc
def Rea.inside {L:List Rl}{acc:List Nat}(hc:Closed L acc){n x:Nat}(h:Rea L n x):n∈acc→x∈acc:=by
 induction h with
 |self _=>exact id
 |kid h hk _ ih=>exact fun hn=>ih (hc _ _ hn h _ hk)
def qZj {L:List Rl}(hw:Wf L):∀(n:Nat)(acc:List Nat),(∀x∈visit L n acc,x∈acc∨Rea L n x)∧(Closed L acc→Closed L (visit L n acc)∧(1≤n→n≤L.length→n∈visit L n acc)):=by
 intro n;induction n using Nat.strongRecOn with
 |ind n ih=>
  intro acc
  cases n with
  |zero=>rw[kP];exact⟨fun x h=> .inl h,fun h=>⟨h,oO⟩⟩
  |succ n=>
   by_cases hn:n+1∈acc
   ·rw[kY hn];exact⟨fun x h=> .inl h,fun h=>⟨h,fun _ _=>hn⟩⟩
   cases e:L[n]? with
   |none=>
    have:=yo.1 e
    rw[qEj this];exact⟨fun x h=> .inl h,fun h=>⟨h,oO⟩⟩
   |some r=>
    have hl:=(ae.1 e).1
    have key:∀(xs:List Nat)(acc:List Nat),(∀x∈xs,1≤x∧x<n+1)→(∀x∈dD L xs acc,x∈acc∨∃k∈xs,Rea L k x)∧(Closed L acc→Closed L (dD L xs acc)∧∀k∈xs,k∈dD L xs acc):=by
     intro xs;induction xs with
     |nil=>intro acc _;exact⟨fun x h=> .inl h,fun h=>⟨h,by simp⟩⟩
     |cons y ys ihy=>
      intro acc hy
      obtain⟨g1,g2⟩:=ih y (hy y (by simp)).2 acc
      obtain⟨k1,k2⟩:=ihy (visit L y acc) (fun x hx=>hy x (by simp[hx]))
      obtain⟨_,⟨m,hm⟩,_⟩:=rC hw n ys (visit L y acc) (fun x hx=>by have:=hy x (by simp[hx]);omega)
      rw[fV]
      refine⟨fun x hx=>?_,fun h=>⟨(k2 (g2 h).1).1,fun k hk=>?_⟩⟩
      ·rcases k1 x hx with h|⟨k,hk,h⟩
       ·rcases g1 x h with h| h
        ·exact .inl h
        exact .inr ⟨y,by simp,h⟩
       exact .inr ⟨k,by simp[hk],h⟩
      rcases iq.1 hk with rfl|hk
      ·rw[hm]
       exact fu _ ((g2 h).2 (hy k (by simp)).1 (by have:=(hy k (by simp)).2;omega))
      exact(k2 (g2 h).1).2 k hk
    obtain⟨g1,g2⟩:=key (kids r) acc fun x hx=>nD (hw.ok n r e) x hx
    rw[gQ hw e hn]
    refine⟨fun x hx=>?_,fun h=>⟨fun m r' hm hr' k hk=>?_,fun _ _=>by simp⟩⟩
    ·rcases bn.1 hx with h| h
     ·rcases g1 x h with h|⟨k,hk,h⟩
      ·exact .inl h
      exact .inr (.kid e hk h)
     simp at h;subst h;exact .inr (.self hl)
    rcases bn.1 hm with hm|hm
    ·exact fu _ ((g2 h).1 m r' hm hr' k hk)
    simp at hm
    subst hm
    rw[e]at hr'
    cases hr'
    exact fu _ ((g2 h).2 k hk)
def qGq {L:List Rl}(hw:Wf L):∀(xs acc:List Nat),(∀x∈dD L xs acc,x∈acc∨∃k∈xs,Rea L k x)∧(Closed L acc→Closed L (dD L xs acc)∧∀k∈xs,1≤k→k≤L.length→k∈dD L xs acc)
 |[],acc=>⟨fun x h=> .inl h,fun h=>⟨h,by simp⟩⟩
 |y::ys,acc=>by
  obtain⟨g1,g2⟩:=qZj hw y acc;obtain⟨k1,k2⟩:=qGq hw ys (visit L y acc)
  obtain⟨_,⟨m,hm⟩,_⟩:=rC hw (ys.foldl max 0) ys (visit L y acc) (fun x hx=>by
   have:∀(l:List Nat)(a:Nat),a≤l.foldl max a∧∀x∈l,x≤l.foldl max a:=by
    intro l;induction l with
    |nil=>intro a;simp
    |cons z l ih=>
     intro a
     obtain⟨h1,h2⟩:=ih (max a z)
     simp only[sj]
     refine⟨oO,fun x hx=>?_⟩
     rcases iq.1 hx with rfl|hx
     ·omega
     exact h2 x hx
   exact(this ys 0).2 x hx)
  rw[fV];refine⟨fun x hx=>?_,fun h=>⟨(k2 (g2 h).1).1,fun k hk h1 h2=>?_⟩⟩
  ·rcases k1 x hx with h|⟨k,hk,h⟩
   ·rcases g1 x h with h| h
    ·exact .inl h
    exact .inr ⟨y,by simp,h⟩
   exact .inr ⟨k,by simp[hk],h⟩
  rcases iq.1 hk with rfl|hk
  ·rw[hm];exact fu _ ((g2 h).2 h1 h2)
  exact(k2 (g2 h).1).2 k hk h1 h2
def qQj:∀{A B:List Nat},A.Nodup→(∀x∈A,x∈B)→A.length≤B.length
 |[],B,_,_=>au _
 |a::A,B,hn,h=>by
  have ha:=h a (by simp);have hn':=zl.1 hn
  have:=qQj (A:=A) (B:=B.erase a) hn'.2 (fun x hx=>by
   have hx':=h x (by simp[hx]);have hne:x≠a:=fun e=>by subst e;exact hn'.1 hx
   exact(List.mem_erase_of_ne hne).2 hx')
  rw[List.length_erase_of_mem ha]at this;have:0<B.length:=List.length_pos_of_mem ha;simp only[av];omega
end
section
open Go Eg
def vput (n:Nat):List UInt8:=if h:n<128 then[UInt8.ofNat n]else UInt8.ofNat (n%128+128)::vput (n/128)
termination_by n
decreasing_by omega
def lL {n:Nat}(h:n<128):vput n=[UInt8.ofNat n]:=by rw[vput,dif_pos h]
def qEk {n:Nat}(h:¬n<128):vput n=UInt8.ofNat (n%128+128)::vput (n/128):=by rw[vput,dif_neg h]
def qRh:∀(k n:Nat),n<128^(k+1)→(vput n).length≤k+1
 |0,n,h=>by rw[lL (by simpa using h)];simp
 |k+1,n,h=>by
  by_cases hn:n<128
  ·rw[lL hn];simp
  rw[qEk hn];have:=qRh k (n/128) (Nat.div_lt_of_lt_mul (by rw[xn,qf]at h;exact h));simp only[av];omega
def jV {n:Nat}(h:n<18446744073709551616):(vput n).length≤10:=qRh 9 n (by
 have:(128:Nat)^(9+1)=1180591620717411303424:=by decide
 omega)
def qG (n:Nat):0<(vput n).length:=by
 by_cases hn:n<128
 ·rw[lL hn];simp
 rw[qEk hn];simp
def rulB (i:Nat):Rl→List UInt8
 | .letter b=>[1,b]
 | .pair l r=>2::(vput (i-l)++vput (i-r))
 | .power l k=>3::(vput (i-l)++vput (k-2))
def numb:List Nat→Nat→Nat
 |[],_=>0
 |y::l,x=>if y=x then 1 else if numb l x=0 then 0 else numb l x+1
def jM:∀{l:List Nat}{x:Nat},numb l x=0↔x∉l
 |[],x=>by simp[numb]
 |y::l,x=>by
  unfold numb;by_cases h:y=x
  ·subst h;simp
  have:=jM (l:=l) (x:=x);rw[if_neg h];have h':¬x=y:=fun e=>h e.symm
  split
  ·rename_i hz
   simp[h',this.1 hz]
  rename_i hz
  have:x∈l:=Classical.byContradiction fun hn=>hz (this.2 hn)
  simp[this]
def qIe:∀(l:List Nat)(x:Nat),numb l x≤l.length
 |[],_=>by simp[numb]
 |y::l,x=>by
  have:=qIe l x;unfold numb;split
  ·simp
  split <;>simp <;>omega
def qXl:∀{l:List Nat}{x:Nat},x∈l→l[numb l x-1]?=some x
 |y::l,x,h=>by
  unfold numb;by_cases e:y=x
  ·subst e;simp
  have hm:x∈l:=by rcases iq.1 h with h|h;exact absurd h.symm e;exact h
  have hz:numb l x≠0:=fun hz=>jM.1 hz hm
  rw[if_neg e,if_neg hz,show numb l x+1-1=(numb l x-1)+1 by omega,zf];exact qXl hm
def qId {l m:List Nat}{x:Nat}(h:x∈l):numb (l++m) x=numb l x:=by
 induction l with
 |nil=>simp at h
 |cons y l ih=>
  simp only[ik,numb]
  by_cases e:y=x
  ·rw[if_pos e,if_pos e]
  rw[if_neg e,if_neg e,ih (by rcases iq.1 h with h|h;exact absurd h.symm e;exact h)]
def qXm {l:List Nat}{x:Nat}(h:x∉l):numb (l++[x]) x=l.length+1:=by
 induction l with
 |nil=>simp[numb]
 |cons y l ih=>
  have h1:¬y=x:=fun e=>h (by simp[e])
  have:=ih (fun hm=>h (by simp[hm]))
  simp only[ik,numb,if_neg h1,this,av]
  rw[if_neg oO]
def qTa {l:List Nat}{x y:Nat}(h:y≠x):numb (l++[x]) y=numb l y:=by
 by_cases hm:y∈l
 ·exact qId hm
 rw[jM.2 hm,jM];simp[hm,h]
def kL (ids:List Nat):Rl→Rl
 | .letter b=> .letter b
 | .pair l r=> .pair (numb ids l) (numb ids r)
 | .power x k=> .power (numb ids x) k
def Odr (L:List Rl)(acc:List Nat):Prop:=∀A n B r,acc=A++(n+1)::B→L[n]?=some r→∀k∈kids r,k∈A
def Odr.closed {L:List Rl}{acc:List Nat}(h:Odr L acc):Closed L acc:=fun n r hn hr k hk=>by
 obtain⟨A,B,e⟩:=List.append_of_mem hn;rw[e];exact fu _ (h A n B r e hr k hk)
def Odr.snoc {L:List Rl}{acc:List Nat}(h:Odr L acc){m:Nat}(hk:∀r,L[m]?=some r→∀k∈kids r,k∈acc):Odr L (acc++[m+1]):=fun A n B r e hr k hkk=>by
 rcases bu B with rfl|⟨B',b,rfl⟩
 ·have:=wu e rfl;obtain⟨rfl,e2⟩:=this;simp at e2;subst e2;exact hk r hr k hkk
 have e':acc++[m+1]=(A++(n+1)::B')++[b]:=by rw[e];simp
 have:=(wu e' rfl).1;exact h A n B' r this hr k hkk
def qZi {L:List Rl}(hw:Wf L):∀(n:Nat)(acc:List Nat),Odr L acc→Odr L (visit L n acc):=by
 intro n;induction n using Nat.strongRecOn with
 |ind n ih=>
  intro acc ho
  cases n with
  |zero=>rw[kP];exact ho
  |succ n=>
   by_cases hn:n+1∈acc
   ·rw[kY hn];exact ho
   cases e:L[n]? with
   |none=>rw[qEj (yo.1 e)];exact ho
   |some r=>
    have hl:=(ae.1 e).1
    rw[gQ hw e hn]
    have key:∀(xs acc:List Nat),(∀x∈xs,x<n+1)→Odr L acc→Odr L (dD L xs acc):=by
     intro xs;induction xs with
     |nil=>intro acc _ h;exact h
     |cons y ys ihy=>
      intro acc hy h
      rw[fV]
      exact ihy _ (fun x hx=>hy x (by simp[hx])) (ih y (hy y (by simp)) acc h)
    have hkl:=nD (hw.ok n r e)
    refine(key (kids r) acc (fun x hx=>(hkl x hx).2) ho).snoc fun r' hr' k hk=>?_
    rw[e]at hr'
    cases hr'
    exact((qGq hw (kids r) acc).2 ho.closed).2 k hk (hkl k hk).1 (by have:=(hkl k hk).2;omega)
def ord_nil (L:List Rl):Odr L []:=fun A n B r e=>by simp at e
def qGp {L:List Rl}(hw:Wf L):∀(xs acc:List Nat),Odr L acc→Odr L (dD L xs acc)
 |[],_,h=>h
 |y::ys,acc,h=>by rw[fV];exact qGp hw ys _ (qZi hw y acc h)
def encR (L:List Rl)(ids:List Nat):Nat→List UInt8
 |0=>[]
 |i+1=>encR L ids i++match ids[i]? with
  |some (n+1)=>match L[n]? with
   |some r=>rulB (i+1) (kL ids r)
   |none=>[]
  |_=>[]
def xG {L:List Rl}{ids:List Nat}{i n:Nat}{r:Rl}(h:ids[i]?=some (n+1))(hr:L[n]?=some r):encR L ids (i+1)=encR L ids i++rulB (i+1) (kL ids r):=by
 rw[encR,h];simp only[hr]
def encN (ids:List Nat)(l:List (List UInt8×Nat)):List UInt8:=l.flatMap fun p=>vput p.1.length++p.1++vput (numb ids p.2)
def encB (L:List Rl)(ids:List Nat)(l:List (List UInt8×Nat)):List UInt8:=vput ids.length++encR L ids ids.length++vput l.length++encN ids l
end
section
open Go Eg
def qJi {L:List Rl}(hw:Wf L){y:Nat}{c:UInt8}(ht:txt L y=[c]):∃m,y=m+1∧L[m]?=some (.letter c):=by
 cases y with
 |zero=>rw[kN]at ht;cases ht
 |succ m=>
  refine⟨m,O,?_⟩
  have hl:len L (m+1)=1:=by unfold len;rw[ht];rfl
  have hm:m<L.length:=zg fun h=>by have:=qOa (L:=L) (i:=m+1) oO;omega
  have hg:L[m]?=some L[m]:=ag hm
  generalize L[m]=r at hg
  have ho:=hw.ok m r hg
  cases r with
  |letter b=>rw[gN hg]at ht;cases ht;exact hg
  |pair a b=>
   have e:len L (m+1)=len L a+len L b:=by unfold len;rw[jU hg ho,aa]
   simp only[Rl.ok]at ho
   have:=hw.pos a oO oO
   have:=hw.pos b oO oO
   omega
  |power x k=>
   have e:len L (m+1)=k*len L x:=by unfold len;rw[kW hg ho];simp
   simp only[Rl.ok]at ho
   have:=hw.pos x oO oO
   have:2*len L x≤k*len L x:=jw _ ho.2.2
   omega
def twice {L:List Rl}(hw:Wf L){y:Nat}{c:UInt8}(ht:txt L y=[c,c])(hg:0≤lvl L y):∃n m,y=n+1∧L[n]?=some (.power (m+1) 2)∧L[m]?=some (.letter c):=by
 cases y with
 |zero=>rw[kN]at ht;cases ht
 |succ n=>
  have hl:len L (n+1)=2:=by unfold len;rw[ht];rfl
  have hm:n<L.length:=zg fun h=>by have:=qOa (L:=L) (i:=n+1) oO;omega
  have hgt:L[n]?=some L[n]:=ag hm
  generalize L[n]=r at hgt
  have ho:=hw.ok n r hgt
  cases r with
  |letter b=>rw[gN hgt]at ht;simp at ht
  |pair a b=>
   exfalso
   have e:len L (n+1)=len L a+len L b:=by unfold len;rw[jU hgt ho,aa]
   rw[jU hgt ho]at ht
   have hk:=nI hgt ho
   simp only[Rl.ok]at ho
   have p1:=hw.pos a oO oO
   have p2:=hw.pos b oO oO
   have l1:(txt L a).length=1:=by show len L a=1;omega
   have l2:(txt L b).length=1:=by show len L b=1;omega
   obtain⟨u,hu⟩:=nz.1 l1
   obtain⟨v,hv⟩:=nz.1 l2
   rw[hu,hv]at ht
   simp at ht
   obtain⟨rfl,rfl⟩:=ht
   obtain⟨m1,rfl,g1⟩:=qJi hw hu
   obtain⟨m2,rfl,g2⟩:=qJi hw hv
   obtain rfl:=hw.nodup _ _ _ g1 g2
   rw[hk.2,if_neg (by simp)]at hg
   omega
  |power x k=>
   have e:len L (n+1)=k*len L x:=by unfold len;rw[kW hgt ho];simp
   have ht':=ht
   rw[kW hgt ho]at ht'
   simp only[Rl.ok]at ho
   have p1:=hw.pos x oO oO
   have:k*1≤k*len L x:=qp _ p1
   obtain rfl:k=2:=by omega
   have l1:(txt L x).length=1:=by show len L x=1;omega
   obtain⟨u,hu⟩:=nz.1 l1
   rw[hu]at ht'
   simp[List.replicate]at ht'
   subst ht'
   obtain⟨m,rfl,g⟩:=qJi hw hu
   exact⟨n,m,O,hgt,g⟩
end
section
open Go Go.RowKit Sl Eg
def SigOf (L:List Rl)(x y:Nat):Prop:=x≤L.length∧txt L y=txt L x∧good L y∧((txt L x=[]∧y=0)∨∃lv,Rch L (txt L x) lv [y])
def SigOf.ext {L:List Rl}(M:List Rl){x y:Nat}(h:SigOf L x y):SigOf (L++M) x y:=by
 obtain⟨h1,h2,h3,h4⟩:=h;have e:=jQ M h1;refine⟨by simp;omega,by rw[e,jQ M h3.1];exact h2,⟨by have:=h3.1;simp;omega,by rw[lF _ h3.1];exact h3.2⟩,?_⟩;rw[e];rcases h4 with h|⟨lv,h⟩
 ·exact .inl h
 exact .inr ⟨lv,h.ext M⟩
def SigOf.zero (L:List Rl):SigOf L 0 0:=⟨au _,rfl,⟨au _,zu _⟩,.inl ⟨kN L,rfl⟩⟩
def Kn (L:List Rl)(f:Int→Option Value):Prop:=∀k v,f k=some v→∃x y:Nat,k=(x:Nat)∧v= .int .i64 (y:Nat)∧SigOf L x y
def Kn.nil (L:List Rl):Kn L fun _=>none:=fun k v h=>by cases h
def Kn.ext {L:List Rl}(M:List Rl){f:Int→Option Value}(h:Kn L f):Kn (L++M) f:=fun k v e=>by
 obtain⟨x,y,h1,h2,h3⟩:=h k v e;exact⟨x,y,h1,h2,h3.ext M⟩
def Kn.set {L:List Rl}{f:Int→Option Value}(h:Kn L f){x y:Nat}(hs:SigOf L x y):Kn L (setF f (x:Nat) (.int .i64 (y:Nat))):=fun k v e=>by
 unfold setF at e;by_cases hk:k=(x:Nat)
 ·rw[if_pos hk]at e;cases e
  exact⟨x,y,hk,O,hs⟩
 rw[if_neg hk]at e;exact h k v e
def Kn.at {L:List Rl}{f:Int→Option Value}(h:Kn L f){x:Nat}{v:Value}(e:f (x:Nat)=some v):∃y:Nat,v= .int .i64 (y:Nat)∧SigOf L x y:=by
 obtain⟨x',y,h1,h2,h3⟩:=h _ _ e;have:x'=x:=oO;subst this;exact⟨y,h2,h3⟩
def spT (L:List Rl):List (Nat×Nat)→List UInt8
 |[]=>[]
 |p::st=>spT L st++(List.replicate p.2 (txt L p.1)).flatten
def spM (L:List Rl):List (Nat×Nat)→Nat
 |[]=>0
 |p::st=>spM L st+p.2*(2*len L p.1-1)
def nQ (L:List Rl)(a b:List (Nat×Nat)):spT L (a++b)=spT L b++spT L a:=by
 induction a with
 |nil=>simp[spT]
 |cons p a ih=>simp only[ik,spT,ih,ah]
def mM (L:List Rl)(a b:List (Nat×Nat)):spM L (a++b)=spM L b+spM L a:=by
 induction a with
 |nil=>simp[spM]
 |cons p a ih=>simp only[ik,spM,ih];omega
def qJa (L:List Rl)(x:Nat):spT L [(x,1)]=txt L x:=by simp[spT]
def qIz (L:List Rl)(x t:Nat):spT L [(x,t)]=(List.replicate t (txt L x)).flatten:=by simp[spT]
def qF (L:List Rl)(x t:Nat):spM L [(x,t)]=t*(2*len L x-1):=by simp[spM]
def qMk (st:List (Nat×Nat))(x t:Nat):List (Nat×Nat):=if t=0 then st else st++[(x,t)]
def spT_pop (L:List Rl)(st:List (Nat×Nat))(x t:Nat):spT L (st++[(x,t+1)])=txt L x++spT L (qMk st x t):=by
 unfold qMk;split
 ·subst t;rw[nQ,qJa]
 rw[nQ,nQ,qIz,qIz,cu,ko,ah]
def spM_pop (L:List Rl)(st:List (Nat×Nat))(x t:Nat):spM L (st++[(x,t+1)])=(2*len L x-1)+spM L (qMk st x t):=by
 unfold qMk;split
 ·subst t;rw[mM,qF];omega
 rw[mM,mM,qF,qF,Nat.succ_mul];omega
def SpOk (L:List Rl)(st:List (Nat×Nat)):Prop:=∀p∈st,1≤p.1∧p.1≤L.length∧1≤p.2
def SpOk.len {L:List Rl}(hw:Wf L):∀{st:List (Nat×Nat)},SpOk L st→st.length≤spM L st
 |[],_=>ai _
 |p::st,h=>by
  have h1:=h p (by simp);have h2:=SpOk.len hw (st:=st) fun q hq=>h q (by simp[hq])
  have h3:=hw.pos p.1 h1.1 h1.2.1;have:1*1≤p.2*(2*Eg.len L p.1-1):=xx h1.2.2 oO;simp only[spM,av];omega
def SpOk.pop {L:List Rl}{st:List (Nat×Nat)}{x t:Nat}(h:SpOk L (st++[(x,t+1)])):SpOk L (qMk st x t):=by
 unfold qMk;split
 ·exact fun p hp=>h p (by simp[hp])
 intro p hp;rcases bn.1 hp with hp|hp
 ·exact h p (by simp[hp])
 obtain rfl:=bg.1 hp;have:=h (x,t+1) (by simp);exact⟨this.1,this.2.1,by simp only;omega⟩
def SpOk.push {L:List Rl}{st ps:List (Nat×Nat)}(h:SpOk L st)(hp:SpOk L ps):SpOk L (st++ps):=fun p hp'=>by
 rcases bn.1 hp' with h1|h1
 ·exact h p h1
 exact hp p h1
def qRb {L:List Rl}(hw:Wf L){n a b:Nat}(h:L[n]?=some (.pair a b))(st:List (Nat×Nat)):spM L (st++[(b,1),(a,1)])<(2*len L (n+1)-1)+spM L st∧spT L (st++[(b,1),(a,1)])=txt L (n+1)++spT L st:=by
 have ho:=hw.ok n _ h;have e:len L (n+1)=len L a+len L b:=by unfold len;rw[jU h ho,aa]
 have hl:=(ae.1 h).1;have ho':=ho;simp only[Rl.ok]at ho';have p1:=hw.pos a oO oO;have p2:=hw.pos b oO oO;constructor
 ·rw[mM,show[(b,1),(a,1)]=[(b,1)]++[(a,1)]from rfl,mM,qF,qF];omega
 rw[nQ,show[(b,1),(a,1)]=[(b,1)]++[(a,1)]from rfl,nQ,qJa,qJa,jU h ho]
def qMj {L:List Rl}(hw:Wf L){n a k:Nat}(h:L[n]?=some (.power a k))(st:List (Nat×Nat)):spM L (st++[(a,k)])<(2*len L (n+1)-1)+spM L st∧spT L (st++[(a,k)])=txt L (n+1)++spT L st:=by
 have ho:=hw.ok n _ h;have e:len L (n+1)=k*len L a:=by unfold len;rw[kW h ho];simp
 have hl:=(ae.1 h).1;have ho':=ho;simp only[Rl.ok]at ho';have p1:=hw.pos a oO oO;constructor
 ·rw[mM,qF,e]
  have h1:k*(2*len L a-1)+k=2*(k*len L a):=by
   have:2*len L a=(2*len L a-1)+1:=oO;rw[←tu,qf 2 k,tu];generalize 2*len L a-1=z at this ⊢;rw[this,Nat.mul_add];omega
  omega
 rw[nQ,qIz,kW h ho]
end
