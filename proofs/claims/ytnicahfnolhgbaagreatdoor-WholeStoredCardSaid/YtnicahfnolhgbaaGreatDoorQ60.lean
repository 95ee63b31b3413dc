import Derived.Test.YtnicahfnolhgbaaGreatDoorQ13
import Derived.Test.YtnicahfnolhgbaaGreatDoorQ17
set_option linter.all false
set_option maxHeartbeats 1000000
namespace Sl
section
open Go Go.RowKit
def GA (k:Int)(u:Value):List (Int×Value)->List (Int×Value)
 |[]=>[]
 |p::l=>if p.1=k then(k,u)::l else p::GA k u l
def XO {k u v}:∀{M:List (Int×Value)},M.lookup k=some v->(GA k u M).lookup k=some u
 |[],h=>by cases h
 |(a,b)::M,h=>by
  unfold GA;by_cases e:a=k
  ·rw[if_pos e];simp[List.lookup]
  have e':(k==a)=false:=by simp;omega
  rw[if_neg e];simp only[List.lookup,e']at h ⊢;exact XO h
def WY {k x u}(hx:x≠k):∀{M:List (Int×Value)},(GA k u M).lookup x=M.lookup x
 |[]=>rfl
 |(a,b)::M=>by
  unfold GA;by_cases e:a=k
  ·have e':(x==k)=false:=by simpa using hx
   subst e;rw[if_pos rfl];simp only[List.lookup,e']
  rw[if_neg e];simp only[List.lookup];rw[WY hx]
def Dq (es:List MapEntry):List (Value×Value):=es.map fun e=>(e.key,e.val)
def prs (ki:IntKind)(M:List (Int×Value)):List (Value×Value):=M.map fun p=>(Value.int ki p.1,p.2)
def yL {ki k}:∀(M:List (Int×Value))(es:List MapEntry)(j:Nat),Dq es=prs ki M->
  (M.lookup k=none/\Instr.findNow (.int ki) (.int ki k) es j=some none)\/(∃v i e,M.lookup k=some v/\Instr.findNow (.int ki) (.int ki k) es j=some (some (j+i,v))/\es[i]?=some e/\e.key= .int ki k/\∀u,Dq (es.modify i (fun e=>{e with key:= .int ki k,val:=u}))=prs ki (GA k u M))
 |[],[],j,_=> .inl ⟨rfl,rfl⟩
 |[],e::es,j,h=>by simp[Dq,prs]at h
 |p::M,[],j,h=>by simp[Dq,prs]at h
 |(a,b)::M,e::es,j,h=>by
  simp only[Dq,prs,kz,za,Prod.mk.injEq]at h;obtain⟨⟨h1,h2⟩,h3⟩:=h;by_cases hk:k=a
  ·subst hk;refine .inr ⟨b,0,e,by simp[List.lookup],?_,rfl,h1,fun u=>?_⟩
   ·simp[Instr.findNow,h1,h2,Instr.sameNow]
   simp only[Dq,prs,GA,if_true,Ai,kz];rw[h3]
  have hb:(k==a)=false:=by simpa using hk
  have hA:∀j,Instr.findNow (.int ki) (.int ki k) (e::es) j=Instr.findNow (.int ki) (.int ki k) es (j+1):=fun j=>by simp[Instr.findNow,h1,Instr.sameNow,hb]
  rcases yL (k:=k) M es (j+1) h3 with⟨g1,g2⟩|⟨v,i,e',g1,g2,g3,g4,g5⟩
  ·exact .inl ⟨by simp only[List.lookup,hb];exact g1,by rw[hA];exact g2⟩
  refine .inr ⟨v,i+1,e',by simp only[List.lookup,hb];exact g1,by rw[hA,g2];congr 3;omega,by simpa using g3,g4,fun u=>?_⟩;have:=g5 u;simp only[Dq,prs,GA,if_neg (Ne.symm hk),Aj,kz,h1,h2]at this ⊢;rw[this]
structure Mp (ki:IntKind)(es:List MapEntry)(c:Nat)(M:List (Int×Value)):Prop where
 is:Dq es=prs ki M
 keys:(M.map (·.1)).Nodup
 born:(es.map (·.born)).Nodup
 old:∀e∈es,e.born<c
def Mp.nil {ki}:Mp ki [] 0 []:=⟨rfl,.nil,.nil,fun e h=>by cases h⟩
def qMr {k}:∀{M:List (Int×Value)},M.lookup k=none->k∉M.map (·.1)
 |[],_,h=>by cases h
 |(a,b)::M,h,h'=>by
  by_cases e:k=a
  ·subst e;simp[List.lookup]at h
  have e':(k==a)=false:=by simpa using e
  simp only[List.lookup,e']at h;rcases di.1 h' with h'|h'
  ·exact e h'
  exact qMr h h'
def qNr {k u}:∀{M:List (Int×Value)},(GA k u M).map (·.1)=M.map (·.1)
 |[]=>rfl
 |(a,b)::M=>by
  unfold GA;by_cases e:a=k
  ·rw[if_pos e];simp[e]
  rw[if_neg e,kz,kz,qNr]
def Mp.push {ki es c M}(h:Mp ki es c M){k}(u:Value)(hk:M.lookup k=none):Mp ki (es++[{key:= .int ki k,val:=u,born:=c}]) (c+1) (M++[(k,u)]):=by
 refine⟨?_,?_,?_,fun e he=>?_⟩
 ·have:=h.is;simp[Dq,prs]at this ⊢;exact this
 ·rw[kv,ng];refine⟨h.keys,by simp,fun a ha b hb=>?_⟩;simp at hb;subst hb;exact fun e=>qMr hk (by rw[<-e];exact ha)
 ·rw[kv,ng];refine⟨h.born,by simp,fun a ha b hb=>?_⟩;simp at hb;subst hb;obtain⟨e,he,rfl⟩:=jg.1 ha;have:=h.old e he;omega
 rcases ay.1 he with he|he
 ·have:=h.old e he;omega
 simp at he;subst he;simp
def Mp.modify {ki es c M}(h:Mp ki es c M){k u i}(he:Dq (es.modify i (fun e=>{e with key:= .int ki k,val:=u}))=prs ki (GA k u M)):Mp ki (es.modify i (fun e=>{e with key:= .int ki k,val:=u})) c (GA k u M):=by
 have hb:(es.modify i (fun e=>{e with key:=Value.int ki k,val:=u})).map (·.born)=es.map (·.born):=by
  apply mh;intro j;simp only[bn,List.getElem?_modify];cases es[j]? with
  |none=>rfl
  |some e=>by_cases hj:i=j<;>simp[hj]
 refine⟨he,by rw[qNr];exact h.keys,by rw[hb];exact h.born,fun e hm=>?_⟩;have h1:e.born∈(es.modify i (fun e=>{e with key:=Value.int ki k,val:=u})).map (·.born):=jg.2 ⟨e,hm,rfl⟩;rw[hb]at h1;obtain⟨e2,h2,h3⟩:=jg.1 h1;have:=h.old e2 h2;omega
def Bn (b:Nat)(ki:IntKind)(f:Int->Option Value):HP:=fun h=>∃(es:Array MapEntry)(c:Nat)(M:List (Int×Value)),pt b (.map es c) h/\Mp ki es.toList c M/\∀k,M.lookup k=f k
variable {E:Bp}{n:Nat}{L:Fr}{S S' H H':List HP}{ty:TypeId}{pos:String}{af:Array Edge}{d:Option Nat}{gd:Option (Nat×Bool)}{K:Value->List HP->Prop}
def jS {t:TypeId}(ki:IntKind)(hk:∀b,K (.map (some b)) (Bn b ki (fun _=>none)::H)):Ld E n L H ⟨d,.makeMap t none,ty,pos,af,gd⟩ K:=fun Q next a w g hn=>by
 have hA:(execOp a.eval ⟨d,.makeMap t none,ty,pos,af,gd⟩).run E.P w= .ok (.value (.map (some w.heap.size))) (w.alloc (.map #[] 0)):=by
  simp[execOp,Instr.makeMap,newObj];rfl
 unfold Oper.wp;rw[hA,Oper.upon_value];exact hn _ _ _ (hk _) ((g.hp.new _).imp fun k h=>eU (fun k' h'=>⟨#[],0,[],h',Mp.nil,fun _=>O⟩) h)
def qGx {t kt et:TypeId}{x i k'}(ki:IntKind)(ht:E.P.underlying t=some (.map kt et))(hx:ev L x=some (.int k' i))(hk:∀b,K (.map (some b)) (Bn b ki (fun _=>none)::H)):Ld E n L H ⟨d,.makeMap t (some x),ty,pos,af,gd⟩ K:=fun Q next a w g hn=>by
 have hA:(execOp a.eval ⟨d,.makeMap t (some x),ty,pos,af,gd⟩).run E.P w= .ok (.value (.map (some w.heap.size))) (w.alloc (.map #[] 0)):=by
  simp[execOp,Instr.makeMap,newObj,g.f.ev hx,underlying,program,Sem.run,ht,asInt,asIntOf]
 unfold Oper.wp;rw[hA,Oper.upon_value];exact hn _ _ _ (hk _) ((g.hp.new _).imp fun k h=>eU (fun k' h'=>⟨#[],0,[],h',Mp.nil,fun _=>O⟩) h)
def YU {w0 w b ki}{f:Int->Option Value}(s:CR w0 w (Bn b ki f::H)):∃es c M,w.heap[b]?=some (.map es c)/\Mp ki es.toList c M/\(∀k,M.lookup k=f k)/\CR w0 w (pt b (.map es c)::H):=by
 obtain⟨h1,h2,dd,e,⟨es,c,M,hp,g1,g2⟩,hr⟩:=s.hp;have s':CR w0 w (pt b (.map es c)::H):=⟨s.os,s.tape,s.output,s.size,s.old,h1,h2,dd,e,hp,hr⟩;exact⟨es,c,M,s'.ptr.1,g1,g2,s'⟩
def fV {P}{t:TypeId}{td:TypeDesc}(h:P.underlying t=some td)(w:World):(underlying t).run P w= .ok td w:=by simp[underlying,program,Sem.run,h]
def sN {P}{kt:TypeId}{ki}(hk:P.underlying kt=some (.int ki))(b:Bool)(x:Int)(w:World):(Instr.checkKey b 10000 kt (.int ki x)).run P w= .ok () w:=by
 show(Instr.checkKey b (9999+1) kt (.int ki x)).run P w= .ok () w;unfold Instr.checkKey;simp only[Sem.run_bind,fV hk,Result.andThen_ok];rfl
def wY (ok:Bool)(z:Value)(r:Option Value):Value:=if ok then .tuple #[r.getD z,.bool r.isSome]else r.getD z
def lY {x y b}{t kt et:TypeId}{ki}{f:Int->Option Value}{k z ok r}(ht:E.P.underlying t=some (.map kt et))(hA:E.P.underlying kt=some (.int ki))(hz:∀w,(zeroValue et).run E.P w= .ok z w) (hx:ev L x=some (.map (some b))) (hy:ev L y=some (.int ki k)) (hm:CO (Bn b ki f) S S') (hr:f k=r):
  Yl E n L S ⟨d,.lookup t x y ok,ty,pos,af,gd⟩ (wY ok z r):=fun a w g s=>by
 obtain⟨es,c,M,hh,he,hf,_⟩:=YU (s.take hm)
 have hl:(Instr.lookup t (.map (some b)) (.int ki k) ok).run E.P w= .ok (wY ok z r) w:=by
  subst hr;unfold Instr.lookup;simp only[Sem.run_bind,fV ht,Result.andThen_ok];simp only[getObj,Sem.run,hh];simp only[Result.andThen,Sem.run_bind,Sem.run_pure,sN hA,Instr.findKey,fV hA];rcases yL (k:=k) M es.toList 0 he.is with⟨g1,g2⟩|⟨v,i,e,g1,g2,g3,g4,g5⟩
  ·rw[hf]at g1;simp only[g2,Sem.run_pure,Result.andThen_ok,Sem.run_bind,hz,Result.andThen,wY,g1];cases ok<;>rfl
  rw[hf]at g1;simp only[g2,Sem.run_pure,Result.andThen_ok,Sem.run_bind,Result.andThen,wY,g1];cases ok<;>rfl
 simp[execOp,g.ev hx,g.ev hy,hl]
def Zj {M:List (Int×Value)}{k x:Int}{v:Value}(h:M.lookup k=none):(M++[(k,v)]).lookup x=if x=k then some v else M.lookup x:=by
 induction M with
 |nil=>
  by_cases e:x=k
  ·subst e;simp[List.lookup]
  have e':(x==k)=false:=by simpa using e
  simp[List.lookup,e',e]
 |cons p M ih=>
  obtain⟨a,b⟩:=p
  have hA:(k==a)=false:=by
   by_cases e:k=a
   ·subst e;simp[List.lookup]at h
   simpa using e
  simp only[List.lookup,hA]at h
  simp only[jq,List.lookup]
  by_cases e:x=a
  ·subst e
   have:¬x=k:=fun e=>by subst e;simp at hA
   simp[this]
  have e':(x==a)=false:=by simpa using e
  simp only[e']
  exact ih h
def DD (f:Int->Option Value)(k:Int)(u:Value):Int->Option Value:=fun x=>if x=k then some u else f x
def lS {x y v:Operand}{b:Nat}{t kt et:TypeId}{ki:IntKind}{f:Int->Option Value}{k:Int}{u:Value}(ht:E.P.underlying t=some (.map kt et))(hB:E.P.underlying kt=some (.int ki))(hx:ev L x=some (.map (some b)))(hy:ev L y=some (.int ki k))(hv:ev L v=some u)(hm:CO (Bn b ki f) H H')(hk:K undef (Bn b ki (DD f k u)::H')):
  Ld E n L H ⟨d,.mapUpdate t x y v,ty,pos,af,gd⟩ K:=fun Q next a w g hn=>by
 obtain⟨es,c,M,hh,he,hf,s1⟩:=YU (g.hp.take hm);have hD:b<w.heap.size:=(ic.1 hh).1
 obtain⟨es',c',M',hC,hE,hF⟩:∃(es':Array MapEntry)(c':Nat)(M':List (Int×Value)),(Instr.mapUpdate t (.map (some b)) (.int ki k) u).run E.P w= .ok () (ChangeMaps.setBlock w b (.map es' c'))/\Mp ki es'.toList c' M'/\∀x,M'.lookup x=DD f k u x:=by
  rcases yL (k:=k) M es.toList 0 he.is with⟨g1,g2⟩|⟨v0,i,e,g1,g2,g3,g4,g5⟩
  ·refine⟨es.push {key:= .int ki k,val:=u,born:=c},c+1,M++[(k,u)],?_,by rw[AC];exact he.push u g1,fun x=>?_⟩
   ·unfold Instr.mapUpdate;simp only[Sem.run_bind,fV ht,Result.andThen_ok];simp only[getObj,Sem.run,hh];simp only[Result.andThen,Sem.run_bind,sN hB,Instr.findKey,fV hB,g2,Sem.run_pure];simp only[setObj,Sem.run];rw[hh];rfl
   rw[Zj g1,DD,hf]
  refine⟨es.modify i fun e=>{e with key:= .int ki k,val:=u},c,GA k u M,?_,by rw[ze];exact he.modify (g5 u),fun x=>?_⟩
  ·have hs:Instr.sameBits 10000 (.int ki k) (.int ki k)=true:=by simp[Instr.sameBits]
   have hG:((es[i]?).map (·.key)).getD (.int ki k)= .int ki k:=by
    rw[<-yj,g3];exact g4
   unfold Instr.mapUpdate;simp only[Sem.run_bind,fV ht,Result.andThen_ok];simp only[getObj,Sem.run,hh];simp only[Result.andThen,Sem.run_bind,sN hB,Instr.findKey,fV hB,g2,Sem.run_pure,jh,hG,Instr.keyThatStays,hs,if_true];simp only[setObj,Sem.run];rw[hh];rfl
  unfold DD;by_cases e:x=k
  ·rw[if_pos e,e];exact XO g1
  rw[if_neg e,WY e,hf]
 have hA:(execOp a.eval ⟨d,.mapUpdate t x y v,ty,pos,af,gd⟩).run E.P w= .ok .skip (ChangeMaps.setBlock w b (.map es' c')):=by
  simp[execOp,g.f.ev hx,g.f.ev hy,g.f.ev hv,hC]
 unfold Oper.wp;rw[hA,Oper.upon_skip]
 have hH:CR E.w0 (ChangeMaps.setBlock w b (.map es' c')) (pt b (.map es' c')::H'):=s1.write ⟨O,O,O,by simp[ChangeMaps.setBlock]⟩ (by simp[ChangeMaps.setBlock,hD]) fun j hj=>by
  simp only[ChangeMaps.setBlock];rw[oF (by intro e;exact hj e.symm)]
 exact hn _ _ _ hk (hH.imp fun k' h=>eU (fun k'' hI=>⟨es',c',M',hI,hE,hF⟩) h)
end
section
open Go Go.RowKit
variable {E:Bp}{n:Nat}{L:Fr}{S H H':List HP}{ty:TypeId}{pos:String}{af:Array Edge}{d:Option Nat}{gd:Option (Nat×Bool)}{K:Value->List HP->Prop}
def Mm {x y}{xt yt:TypeId}{a b}(hx:ev L x=some (BN a))(hy:ev L y=some (BN b)):
  Yl E n L S ⟨d,.binOp .lss xt x y yt,ty,pos,af,gd⟩ (.bool (Op.bytesLess a b)):=fun a' w g _=>by
 simp[execOp,eqGuard,binOp,Op.stringOp,ByteArray.toList_eq,g.ev hx,g.ev hy]
def Ml {x y}{xt yt:TypeId}{a b}(hx:ev L x=some (BN a))(hy:ev L y=some (BN b)):
  Yl E n L S ⟨d,.binOp .leq xt x y yt,ty,pos,af,gd⟩ (.bool (Op.bytesLess a b||decide (a=b))):=fun a' w g _=>by
 simp[execOp,eqGuard,binOp,Op.stringOp,ByteArray.toList_eq,g.ev hx,g.ev hy];exact au _ (uu.2 BF)
def qYv:∀{a b:List UInt8},(Op.bytesLess b a||decide (b=a))=!Op.bytesLess a b
 |[],[]=>rfl
 |[],_::_=>rfl
 |_::_,[]=>rfl
 |a::x,b::y=>by
  have ih:=qYv (a:=x) (b:=y);simp only[Op.bytesLess];by_cases e:a=b
  ·subst e;have:decide (a<a)=false:=by simp[UInt8.lt_irrefl]
   simp only[this,Bool.false_or,beq_self_eq_true,Bool.true_and,za,true_and];exact ih
  have h1:(a==b)=false:=by simpa using e
  have h2:(b==a)=false:=by simpa using Ne.symm e
  have h3:decide (b::y=a::x)=false:=by simp[Ne.symm e]
  simp only[h1,h2,h3,Bool.false_and,Bool.or_false];by_cases hl:a<b
  ·have:¬b<a:=fun h=>by have:=UInt8.lt_asymm hl h;exact this
   simp[hl,this]
  have:b<a:=by
   rcases UInt8.lt_or_lt_of_ne e with h| h
   ·exact absurd h hl
   exact h
  simp[hl,this]
end
end Sl
namespace Go.Proofs.YtnicahfnolhgbaaGreatDoor
section
open Go Eg
def BZ:Rl->List Nat
 | .letter _=>[]
 | .pair a b=>[a,b]
 | .power a _=>[a]
def kH {r n}(h:r.ok n):∀x∈BZ r,1<=x/\x<n:=by
 cases r<;>simp[BZ,Rl.ok]at h ⊢ <;>omega
def lG (L:List Rl):Nat->List Nat->List Nat
 |0,acc=>acc
 |n+1,acc=>
  if n+1∈acc then acc else
  match L[n]? with
  |none=>acc
  |some (.letter _)=>acc++[n+1]
  |some (.pair a b)=>lG L (min b n) (lG L (min a n) acc)++[n+1]
  |some (.power a _)=>lG L (min a n) acc++[n+1]
termination_by n=>n
decreasing_by all_goals omega
def mM (L:List Rl)(acc:List Nat):lG L 0 acc=acc:=by rw[lG]
def mU {L x acc}(h:x∈acc):lG L x acc=acc:=by
 cases x with
 |zero=>exact mM L acc
 |succ n=>rw[lG,if_pos h]
def dD (L:List Rl)(xs:List Nat)(acc:List Nat):List Nat:=xs.foldl (fun acc x=>lG L x acc) acc
def iZ (L:List Rl)(x:Nat)(xs acc:List Nat):dD L (x::xs) acc=dD L xs (lG L x acc):=rfl
def qKh (L:List Rl)(xs ys acc:List Nat):dD L (xs++ys) acc=dD L ys (dD L xs acc):=uy
def jD {L}(hw:Wf L){n r}(h:L[n]?=some r){acc}(hn:n+1∉acc):lG L (n+1) acc=dD L (BZ r) acc++[n+1]:=by
 have ho:=hw.ok n r h;rw[lG,if_neg hn,h];cases r with
 |letter b=>rfl
 |pair a b=>
  simp only[Rl.ok]at ho
  simp only[BZ,dD,sj,zq]
  rw[lm oO,lm oO]
 |power a k=>
  simp only[Rl.ok]at ho
  simp only[BZ,dD,sj,zq]
  rw[lm oO]
def XU {L n}(h:L.length<=n)(acc:List Nat):lG L (n+1) acc=acc:=by
 rw[lG];split
 ·rfl
 rw[ku h]
def zBk {L}(hw:Wf L):∀(n:Nat)(acc:List Nat),(∀x∈lG L n acc,x∈acc\/(1<=x/\x<=n/\x<=L.length))/\(∃m,lG L n acc=acc++m)/\(acc.Nodup->(lG L n acc).Nodup):=by
 intro n;induction n using Nat.strongRecOn with
 |ind n ih=>
  intro acc
  cases n with
  |zero=>rw[mM];exact⟨fun x h=> .inl h,⟨[],by simp⟩,id⟩
  |succ n=>
   by_cases hn:n+1∈acc
   ·rw[mU hn];exact⟨fun x h=> .inl h,⟨[],by simp⟩,id⟩
   cases e:L[n]? with
   |none=>rw[XU (by simpa using e)];exact⟨fun x h=> .inl h,⟨[],by simp⟩,id⟩
   |some r=>
    have hl:=(ae.1 e).1
    have key:∀(xs:List Nat)(acc:List Nat),(∀x∈xs,x<n+1)->(∀x∈dD L xs acc,x∈acc\/(1<=x/\x<n+1/\x<=L.length))/\(∃m,dD L xs acc=acc++m)/\(acc.Nodup->(dD L xs acc).Nodup):=by
     intro xs;induction xs with
     |nil=>intro acc _;exact⟨fun x h=> .inl h,⟨[],by simp[dD]⟩,id⟩
     |cons y ys ihy=>
      intro acc hy
      obtain⟨g1,⟨m1,g2⟩,g3⟩:=ih y (hy y BF) acc
      obtain⟨k1,⟨m2,k2⟩,k3⟩:=ihy (lG L y acc) (fun x hx=>hy x (by simp[hx]))
      rw[iZ]
      refine⟨fun x hx=>?_,⟨m1++m2,by rw[k2,g2,ah]⟩,fun h=>k3 (g3 h)⟩
      rcases k1 x hx with h| h
      ·rcases g1 x h with h| h
       ·exact .inl h
       exact .inr ⟨h.1,by have:=hy y BF;omega,h.2.2⟩
      exact .inr h
    obtain⟨g1,⟨m1,g2⟩,g3⟩:=key (BZ r) acc fun x hx=>(kH (hw.ok n r e) x hx).2
    rw[jD hw e hn]
    refine⟨fun x hx=>?_,⟨m1++[n+1],by rw[g2,ah]⟩,fun h=>?_⟩
    ·rcases ay.1 hx with h| h
     ·rcases g1 x h with h| h
      ·exact .inl h
      exact .inr ⟨h.1,oO,h.2.2⟩
     simp at h;exact .inr ⟨oO,oO,oO⟩
    refine ng.2 ⟨g3 h,by simp,fun a ha b hb=>?_⟩
    simp at hb
    subst hb
    intro e
    subst e
    rcases g1 _ ha with h| h
    ·exact hn h
    omega
def qY {L}(hw:Wf L)(n:Nat):∀(xs acc:List Nat),(∀x∈xs,x<=n)->(∀x∈dD L xs acc,x∈acc\/(1<=x/\x<=n/\x<=L.length))/\(∃m,dD L xs acc=acc++m)/\(acc.Nodup->(dD L xs acc).Nodup)
 |[],acc,_=>⟨fun x h=> .inl h,⟨[],by simp[dD]⟩,id⟩
 |y::ys,acc,hy=>by
  obtain⟨g1,⟨m1,g2⟩,g3⟩:=zBk hw y acc;obtain⟨k1,⟨m2,k2⟩,k3⟩:=qY hw n ys (lG L y acc) (fun x hx=>hy x (by simp[hx]));rw[iZ];refine⟨fun x hx=>?_,⟨m1++m2,by rw[k2,g2,ah]⟩,fun h=>k3 (g3 h)⟩;rcases k1 x hx with h| h
  ·rcases g1 x h with h| h
   ·exact .inl h
   exact .inr ⟨h.1,by have:=hy y BF;omega,h.2.2⟩
  exact .inr h
def FL (L:List Rl):List (Nat×Bool)->List Nat->List Nat
 |[],acc=>acc
 |(x,true)::st,acc=>FL L st (if x∈acc then acc else acc++[x])
 |(x,false)::st,acc=>FL L st (lG L x acc)
def qUx (L:List Rl)(xs:List Nat)(st:List (Nat×Bool))(acc:List Nat):FL L (xs.map (·,false)++st) acc=FL L st (dD L xs acc):=by
 induction xs generalizing acc with
 |nil=>rfl
 |cons x xs ih=>simp only[kz,jq,FL,iZ];exact ih _
def zAh {L}(hw:Wf L){n r}(h:L[n]?=some r){acc}(hn:n+1∉acc)(st:List (Nat×Bool)):FL L ((n+1,false)::st) acc=FL L ((BZ r).map (·,false)++(n+1,true)::st) acc:=by
 rw[qUx,FL,FL,jD hw h hn,if_neg];intro hm;rcases(qY hw n (BZ r) acc fun x hx=>by have:=(kH (hw.ok n r h) x hx).2;omega).1 _ hm with h| h
 ·exact hn h
 omega
def FV (L:List Rl):Nat->Nat
 |0=>1
 |n+1=>match L[n]? with
  |some (.pair a b)=>2+FV L (min a n)+FV L (min b n)
  |some (.power a _)=>2+FV L (min a n)
  |_=>2
termination_by n=>n
decreasing_by all_goals omega
def vF (L:List Rl):List (Nat×Bool)->Nat
 |[]=>0
 |(_,true)::st=>1+vF L st
 |(x,false)::st=>FV L x+vF L st
def qSk (L:List Rl)(x:Nat):1<=FV L x:=by
 cases x with
 |zero=>rw[FV];omega
 |succ n=>rw[FV];split <;>omega
def zBq {L}(hw:Wf L){n r}(h:L[n]?=some r)(st:List (Nat×Bool)):vF L ((BZ r).map (·,false)++(n+1,true)::st)<vF L ((n+1,false)::st):=by
 have ho:=hw.ok n r h;cases r with
 |letter b=>
  simp only[BZ,qg,jw,vF]
  rw[FV,h]
  simp only
  omega
 |pair a b=>
  simp only[Rl.ok]at ho
  simp only[BZ,kz,qg,jq,jw,vF]
  rw[FV,h]
  simp only
  rw[lm oO,lm oO];omega
 |power a k=>
  simp only[Rl.ok]at ho
  simp only[BZ,kz,qg,jq,jw,vF]
  rw[FV,h]
  simp only
  rw[lm oO];omega
end
section
open Go Eg
inductive En (L:List Rl):Nat->Nat->Prop where
 |self {n:Nat} (h:n<L.length):En L (n+1) (n+1)
 |kid {n k x:Nat} {r:Rl} (h:L[n]?=some r) (hk:k∈BZ r) (hx:En L k x):En L (n+1) x
def Ei (L:List Rl)(acc:List Nat):Prop:=∀n r,n+1∈acc->L[n]?=some r->∀k∈BZ r,k∈acc
def En.inside {L acc}(hc:Ei L acc){n x}(h:En L n x):n∈acc->x∈acc:=by
 induction h with
 |self _=>exact id
 |kid h hk _ ih=>exact fun hn=>ih (hc _ _ hn h _ hk)
def zBm {L}(hw:Wf L):∀(n:Nat)(acc:List Nat),(∀x∈lG L n acc,x∈acc\/En L n x)/\(Ei L acc->Ei L (lG L n acc)/\(1<=n->n<=L.length->n∈lG L n acc)):=by
 intro n;induction n using Nat.strongRecOn with
 |ind n ih=>
  intro acc
  cases n with
  |zero=>rw[mM];exact⟨fun x h=> .inl h,fun h=>⟨h,oO⟩⟩
  |succ n=>
   by_cases hn:n+1∈acc
   ·rw[mU hn];exact⟨fun x h=> .inl h,fun h=>⟨h,fun _ _=>hn⟩⟩
   cases e:L[n]? with
   |none=>
    have:=oL.1 e
    rw[XU this];exact⟨fun x h=> .inl h,fun h=>⟨h,oO⟩⟩
   |some r=>
    have hl:=(ae.1 e).1
    have key:∀(xs:List Nat)(acc:List Nat),(∀x∈xs,1<=x/\x<n+1)->(∀x∈dD L xs acc,x∈acc\/∃k∈xs,En L k x)/\(Ei L acc->Ei L (dD L xs acc)/\∀k∈xs,k∈dD L xs acc):=by
     intro xs;induction xs with
     |nil=>intro acc _;exact⟨fun x h=> .inl h,fun h=>⟨h,by simp⟩⟩
     |cons y ys ihy=>
      intro acc hy
      obtain⟨g1,g2⟩:=ih y (hy y BF).2 acc
      obtain⟨k1,k2⟩:=ihy (lG L y acc) (fun x hx=>hy x (by simp[hx]))
      obtain⟨_,⟨m,hm⟩,_⟩:=qY hw n ys (lG L y acc) (fun x hx=>by have:=hy x (by simp[hx]);omega)
      rw[iZ]
      refine⟨fun x hx=>?_,fun h=>⟨(k2 (g2 h).1).1,fun k hk=>?_⟩⟩
      ·rcases k1 x hx with h|⟨k,hk,h⟩
       ·rcases g1 x h with h| h
        ·exact .inl h
        exact .inr ⟨y,by simp,h⟩
       exact .inr ⟨k,by simp[hk],h⟩
      rcases di.1 hk with rfl|hk
      ·rw[hm]
       exact cu _ ((g2 h).2 (hy k BF).1 (by have:=(hy k BF).2;omega))
      exact(k2 (g2 h).1).2 k hk
    obtain⟨g1,g2⟩:=key (BZ r) acc fun x hx=>kH (hw.ok n r e) x hx
    rw[jD hw e hn]
    refine⟨fun x hx=>?_,fun h=>⟨fun m r' hm hA k hk=>?_,fun _ _=>by simp⟩⟩
    ·rcases ay.1 hx with h| h
     ·rcases g1 x h with h|⟨k,hk,h⟩
      ·exact .inl h
      exact .inr (.kid e hk h)
     simp at h;subst h;exact .inr (.self hl)
    rcases ay.1 hm with hm|hm
    ·exact cu _ ((g2 h).1 m r' hm hA k hk)
    simp at hm
    subst hm
    rw[e]at hA
    cases hA
    exact cu _ ((g2 h).2 k hk)
def qHs {L}(hw:Wf L):∀(xs acc:List Nat),(∀x∈dD L xs acc,x∈acc\/∃k∈xs,En L k x)/\(Ei L acc->Ei L (dD L xs acc)/\∀k∈xs,1<=k->k<=L.length->k∈dD L xs acc)
 |[],acc=>⟨fun x h=> .inl h,fun h=>⟨h,by simp⟩⟩
 |y::ys,acc=>by
  obtain⟨g1,g2⟩:=zBm hw y acc;obtain⟨k1,k2⟩:=qHs hw ys (lG L y acc)
  obtain⟨_,⟨m,hm⟩,_⟩:=qY hw (ys.foldl max 0) ys (lG L y acc) (fun x hx=>by
   have:∀(l:List Nat)(a:Nat),a<=l.foldl max a/\∀x∈l,x<=l.foldl max a:=by
    intro l;induction l with
    |nil=>intro a;simp
    |cons z l ih=>
     intro a
     obtain⟨h1,h2⟩:=ih (max a z)
     simp only[sj]
     refine⟨oO,fun x hx=>?_⟩
     rcases di.1 hx with rfl|hx
     ·omega
     exact h2 x hx
   exact(this ys 0).2 x hx)
  rw[iZ];refine⟨fun x hx=>?_,fun h=>⟨(k2 (g2 h).1).1,fun k hk h1 h2=>?_⟩⟩
  ·rcases k1 x hx with h|⟨k,hk,h⟩
   ·rcases g1 x h with h| h
    ·exact .inl h
    exact .inr ⟨y,by simp,h⟩
   exact .inr ⟨k,by simp[hk],h⟩
  rcases di.1 hk with rfl|hk
  ·rw[hm];exact cu _ ((g2 h).2 h1 h2)
  exact(k2 (g2 h).1).2 k hk h1 h2
def Xj:∀{A B:List Nat},A.Nodup->(∀x∈A,x∈B)->A.length<=B.length
 |[],B,_,_=>av _
 |a::A,B,hn,h=>by
  have ha:=h a BF;have hA:=uq.1 hn
  have:=Xj (A:=A) (B:=B.erase a) hA.2 (fun x hx=>by
   have hB:=h x (by simp[hx]);have hC:x≠a:=fun e=>by subst e;exact hA.1 hx
   exact(List.mem_erase_of_ne hC).2 hB)
  rw[AP ha]at this;have:0<B.length:=Ac ha;simp only[az];omega
end
section
open Go Eg
def BS (n:Nat):List UInt8:=if h:n<128 then[UInt8.ofNat n]else UInt8.ofNat (n%128+128)::BS (n/128)
termination_by n
decreasing_by omega
def jU {n}(h:n<128):BS n=[UInt8.ofNat n]:=by rw[BS,dif_pos h]
def vE {n}(h:¬n<128):BS n=UInt8.ofNat (n%128+128)::BS (n/128):=by rw[BS,dif_neg h]
def qSj:∀(k n:Nat),n<128^(k+1)->(BS n).length<=k+1
 |0,n,h=>by rw[jU (by simpa using h)];simp
 |k+1,n,h=>by
  by_cases hn:n<128
  ·rw[jU hn];simp
  rw[vE hn];have:=qSj k (n/128) (yz (by rw[zh,oN]at h;exact h));simp only[az];omega
def gM {n}(h:n<18446744073709551616):(BS n).length<=10:=qSj 9 n (by
 have:(128:Nat)^(9+1)=1180591620717411303424:=by decide
 omega)
def jG (n:Nat):0<(BS n).length:=by
 by_cases hn:n<128
 ·rw[jU hn];simp
 rw[vE hn];simp
def Co (i:Nat):Rl->List UInt8
 | .letter b=>[1,b]
 | .pair l r=>2::(BS (i-l)++BS (i-r))
 | .power l k=>3::(BS (i-l)++BS (k-2))
def Bh:List Nat->Nat->Nat
 |[],_=>0
 |y::l,x=>if y=x then 1 else if Bh l x=0 then 0 else Bh l x+1
def gH:∀{l:List Nat}{x:Nat},Bh l x=0↔x∉l
 |[],x=>by simp[Bh]
 |y::l,x=>by
  unfold Bh;by_cases h:y=x
  ·subst h;simp
  have:=gH (l:=l) (x:=x);rw[if_neg h];have h':¬x=y:=fun e=>h e.symm
  split
  ·rename_i hz
   simp[h',this.1 hz]
  rename_i hz
  have:x∈l:=Classical.byContradiction fun hn=>hz (this.2 hn)
  simp[this]
def qG:∀(l:List Nat)(x:Nat),Bh l x<=l.length
 |[],_=>by simp[Bh]
 |y::l,x=>by
  have:=qG l x;unfold Bh;split
  ·simp
  split <;>simp <;>omega
def xE:∀{l:List Nat}{x:Nat},x∈l->l[Bh l x-1]?=some x
 |y::l,x,h=>by
  unfold Bh;by_cases e:y=x
  ·subst e;simp
  have hm:x∈l:=by rcases di.1 h with h|h;exact absurd h.symm e;exact h
  have hz:Bh l x≠0:=fun hz=>gH.1 hz hm
  rw[if_neg e,if_neg hz,show Bh l x+1-1=(Bh l x-1)+1 by omega,rz];exact xE hm
def rV {l m x}(h:x∈l):Bh (l++m) x=Bh l x:=by
 induction l with
 |nil=>simp at h
 |cons y l ih=>
  simp only[jq,Bh]
  by_cases e:y=x
  ·rw[if_pos e,if_pos e]
  rw[if_neg e,if_neg e,ih (by rcases di.1 h with h|h;exact absurd h.symm e;exact h)]
def qZi {l x}(h:x∉l):Bh (l++[x]) x=l.length+1:=by
 induction l with
 |nil=>simp[Bh]
 |cons y l ih=>
  have h1:¬y=x:=fun e=>h (by simp[e])
  have:=ih (fun hm=>h (by simp[hm]))
  simp only[jq,Bh,if_neg h1,this,az]
  rw[if_neg oO]
def qUp {l x y}(h:y≠x):Bh (l++[x]) y=Bh l y:=by
 by_cases hm:y∈l
 ·exact rV hm
 rw[gH.2 hm,gH];simp[hm,h]
def gP (ids:List Nat):Rl->Rl
 | .letter b=> .letter b
 | .pair l r=> .pair (Bh ids l) (Bh ids r)
 | .power x k=> .power (Bh ids x) k
def II (L:List Rl)(acc:List Nat):Prop:=∀A n B r,acc=A++(n+1)::B->L[n]?=some r->∀k∈BZ r,k∈A
def II.closed {L acc}(h:II L acc):Ei L acc:=fun n r hn hr k hk=>by
 obtain⟨A,B,e⟩:=List.append_of_mem hn;rw[e];exact cu _ (h A n B r e hr k hk)
def II.snoc {L acc}(h:II L acc){m}(hk:∀r,L[m]?=some r->∀k∈BZ r,k∈acc):II L (acc++[m+1]):=fun A n B r e hr k hA=>by
 rcases bq B with rfl|⟨B',b,rfl⟩
 ·have:=yo e rfl;obtain⟨rfl,e2⟩:=this;simp at e2;subst e2;exact hk r hr k hA
 have e':acc++[m+1]=(A++(n+1)::B')++[b]:=by rw[e];simp
 have:=(yo e' rfl).1;exact h A n B' r this hr k hA
def zBl {L}(hw:Wf L):∀(n:Nat)(acc:List Nat),II L acc->II L (lG L n acc):=by
 intro n;induction n using Nat.strongRecOn with
 |ind n ih=>
  intro acc ho
  cases n with
  |zero=>rw[mM];exact ho
  |succ n=>
   by_cases hn:n+1∈acc
   ·rw[mU hn];exact ho
   cases e:L[n]? with
   |none=>rw[XU (oL.1 e)];exact ho
   |some r=>
    have hl:=(ae.1 e).1
    rw[jD hw e hn]
    have key:∀(xs acc:List Nat),(∀x∈xs,x<n+1)->II L acc->II L (dD L xs acc):=by
     intro xs;induction xs with
     |nil=>intro acc _ h;exact h
     |cons y ys ihy=>
      intro acc hy h
      rw[iZ]
      exact ihy _ (fun x hx=>hy x (by simp[hx])) (ih y (hy y BF) acc h)
    have hA:=kH (hw.ok n r e)
    refine(key (BZ r) acc (fun x hx=>(hA x hx).2) ho).snoc fun r' hB k hk=>?_
    rw[e]at hB
    cases hB
    exact((qHs hw (BZ r) acc).2 ho.closed).2 k hk (hA k hk).1 (by have:=(hA k hk).2;omega)
def Om (L:List Rl):II L []:=fun A n B r e=>by simp at e
def qHr {L}(hw:Wf L):∀(xs acc:List Nat),II L acc->II L (dD L xs acc)
 |[],_,h=>h
 |y::ys,acc,h=>by rw[iZ];exact qHr hw ys _ (zBl hw y acc h)
def Gj (L:List Rl)(ids:List Nat):Nat->List UInt8
 |0=>[]
 |i+1=>Gj L ids i++match ids[i]? with
  |some (n+1)=>match L[n]? with
   |some r=>Co (i+1) (gP ids r)
   |none=>[]
  |_=>[]
def yH {L ids i n r}(h:ids[i]?=some (n+1))(hr:L[n]?=some r):Gj L ids (i+1)=Gj L ids i++Co (i+1) (gP ids r):=by
 rw[Gj,h];simp only[hr]
def Hr (ids:List Nat)(l:List (List UInt8×Nat)):List UInt8:=l.flatMap fun p=>BS p.1.length++p.1++BS (Bh ids p.2)
def Gn (L:List Rl)(ids:List Nat)(l:List (List UInt8×Nat)):List UInt8:=BS ids.length++Gj L ids ids.length++BS l.length++Hr ids l
end
section
open Go Eg
def Xx {L}(hw:Wf L){y c}(ht:txt L y=[c]):∃m,y=m+1/\L[m]?=some (.letter c):=by
 cases y with
 |zero=>rw[jI]at ht;cases ht
 |succ m=>
  refine⟨m,O,?_⟩
  have hl:len L (m+1)=1:=by unfold len;rw[ht];rfl
  have hm:m<L.length:=Nat.lt_of_not_le fun h=>by have:=Tm (L:=L) (i:=m+1) oO;omega
  have hg:L[m]?=some L[m]:=ag hm
  generalize L[m]=r at hg
  have ho:=hw.ok m r hg
  cases r with
  |letter b=>rw[fP hg]at ht;cases ht;exact hg
  |pair a b=>
   have e:len L (m+1)=len L a+len L b:=by unfold len;rw[iK hg ho,aa]
   simp only[Rl.ok]at ho
   have:=hw.pos a oO oO
   have:=hw.pos b oO oO
   omega
  |power x k=>
   have e:len L (m+1)=k*len L x:=by unfold len;rw[iY hg ho];simp
   simp only[Rl.ok]at ho
   have:=hw.pos x oO oO
   have:2*len L x<=k*len L x:=kg _ ho.2.2
   omega
def UL {L:List Rl}(hw:Wf L){y:Nat}{c:UInt8}(ht:txt L y=[c,c])(hg:0<=Bt L y):∃n m,y=n+1/\L[n]?=some (.power (m+1) 2)/\L[m]?=some (.letter c):=by
 cases y with
 |zero=>rw[jI]at ht;cases ht
 |succ n=>
  have hl:len L (n+1)=2:=by unfold len;rw[ht];rfl
  have hm:n<L.length:=Nat.lt_of_not_le fun h=>by have:=Tm (L:=L) (i:=n+1) oO;omega
  have hA:L[n]?=some L[n]:=ag hm
  generalize L[n]=r at hA
  have ho:=hw.ok n r hA
  cases r with
  |letter b=>rw[fP hA]at ht;simp at ht
  |pair a b=>
   exfalso
   have e:len L (n+1)=len L a+len L b:=by unfold len;rw[iK hA ho,aa]
   rw[iK hA ho]at ht
   have hk:=nM hA ho
   simp only[Rl.ok]at ho
   have p1:=hw.pos a oO oO
   have p2:=hw.pos b oO oO
   have l1:(txt L a).length=1:=by show len L a=1;omega
   have l2:(txt L b).length=1:=by show len L b=1;omega
   obtain⟨u,hu⟩:=oZ.1 l1
   obtain⟨v,hv⟩:=oZ.1 l2
   rw[hu,hv]at ht
   simp at ht
   obtain⟨rfl,rfl⟩:=ht
   obtain⟨m1,rfl,g1⟩:=Xx hw hu
   obtain⟨m2,rfl,g2⟩:=Xx hw hv
   obtain rfl:=hw.nodup _ _ _ g1 g2
   rw[hk.2,if_neg BF]at hg
   omega
  |power x k=>
   have e:len L (n+1)=k*len L x:=by unfold len;rw[iY hA ho];simp
   have hB:=ht
   rw[iY hA ho]at hB
   simp only[Rl.ok]at ho
   have p1:=hw.pos x oO oO
   have:k*1<=k*len L x:=pu _ p1
   obtain rfl:k=2:=by omega
   have l1:(txt L x).length=1:=by show len L x=1;omega
   obtain⟨u,hu⟩:=oZ.1 l1
   rw[hu]at hB
   simp[List.replicate]at hB
   subst hB
   obtain⟨m,rfl,g⟩:=Xx hw hu
   exact⟨n,m,O,hA,g⟩
end
section
open Go Go.RowKit Sl Eg
def DF (L:List Rl)(x y:Nat):Prop:=x<=L.length/\txt L y=txt L x/\Ki L y/\((txt L x=[]/\y=0)\/∃lv,EQ L (txt L x) lv [y])
def DF.ext {L}(M:List Rl){x y}(h:DF L x y):DF (L++M) x y:=by
 obtain⟨h1,h2,h3,h4⟩:=h;have e:=jX M h1;refine⟨by simp;omega,by rw[e,jX M h3.1];exact h2,⟨by have:=h3.1;simp;omega,by rw[kY _ h3.1];exact h3.2⟩,?_⟩;rw[e];rcases h4 with h|⟨lv,h⟩
 ·exact .inl h
 exact .inr ⟨lv,h.ext M⟩
def DF.zero (L:List Rl):DF L 0 0:=⟨av _,rfl,⟨av _,yu _⟩,.inl ⟨jI L,rfl⟩⟩
def Kn (L:List Rl)(f:Int->Option Value):Prop:=∀k v,f k=some v->∃x y:Nat,k=(x:Nat)/\v= .int .i64 (y:Nat)/\DF L x y
def Kn.nil (L:List Rl):Kn L fun _=>none:=fun k v h=>by cases h
def Kn.ext {L}(M:List Rl){f:Int->Option Value}(h:Kn L f):Kn (L++M) f:=fun k v e=>by
 obtain⟨x,y,h1,h2,h3⟩:=h k v e;exact⟨x,y,h1,h2,h3.ext M⟩
def Kn.set {L}{f:Int->Option Value}(h:Kn L f){x y}(hs:DF L x y):Kn L (DD f (x:Nat) (BK y)):=fun k v e=>by
 unfold DD at e;by_cases hk:k=(x:Nat)
 ·rw[if_pos hk]at e;cases e
  exact⟨x,y,hk,O,hs⟩
 rw[if_neg hk]at e;exact h k v e
def Kn.at {L}{f:Int->Option Value}(h:Kn L f){x v}(e:f (x:Nat)=some v):∃y:Nat,v= BK y/\DF L x y:=by
 obtain⟨x',y,h1,h2,h3⟩:=h _ _ e;have:x'=x:=oO;subst this;exact⟨y,h2,h3⟩
def HY (L:List Rl):List (Nat×Nat)->List UInt8
 |[]=>[]
 |p::st=>HY L st++(List.replicate p.2 (txt L p.1)).flatten
def Gz (L:List Rl):List (Nat×Nat)->Nat
 |[]=>0
 |p::st=>Gz L st+p.2*(2*len L p.1-1)
def nU (L:List Rl)(a b:List (Nat×Nat)):HY L (a++b)=HY L b++HY L a:=by
 induction a with
 |nil=>simp[HY]
 |cons p a ih=>simp only[jq,HY,ih,ah]
def mI (L:List Rl)(a b:List (Nat×Nat)):Gz L (a++b)=Gz L b+Gz L a:=by
 induction a with
 |nil=>simp[Gz]
 |cons p a ih=>simp only[jq,Gz,ih];omega
def Vi (L:List Rl)(x:Nat):HY L [(x,1)]=txt L x:=by simp[HY]
def Xu (L:List Rl)(x t:Nat):HY L [(x,t)]=(List.replicate t (txt L x)).flatten:=by simp[HY]
def qF (L:List Rl)(x t:Nat):Gz L [(x,t)]=t*(2*len L x-1):=by simp[Gz]
def QU (st:List (Nat×Nat))(x t:Nat):List (Nat×Nat):=if t=0 then st else st++[(x,t)]
def PP (L:List Rl)(st:List (Nat×Nat))(x t:Nat):HY L (st++[(x,t+1)])=txt L x++HY L (QU st x t):=by
 unfold QU;split
 ·subst t;rw[nU,Vi]
 rw[nU,nU,Xu,Xu,dz,ko,ah]
def PO (L:List Rl)(st:List (Nat×Nat))(x t:Nat):Gz L (st++[(x,t+1)])=(2*len L x-1)+Gz L (QU st x t):=by
 unfold QU;split
 ·subst t;rw[mI,qF];omega
 rw[mI,mI,qF,qF,Nat.succ_mul];omega
def Fe (L:List Rl)(st:List (Nat×Nat)):Prop:=∀p∈st,1<=p.1/\p.1<=L.length/\1<=p.2
def Fe.len {L}(hw:Wf L):∀{st:List (Nat×Nat)},Fe L st->st.length<=Gz L st
 |[],_=>ai _
 |p::st,h=>by
  have h1:=h p BF;have h2:=Fe.len hw (st:=st) fun q hq=>h q (by simp[hq])
  have h3:=hw.pos p.1 h1.1 h1.2.1;have:1*1<=p.2*(2*Eg.len L p.1-1):=zl h1.2.2 oO;simp only[Gz,az];omega
def Fe.pop {L st x t}(h:Fe L (st++[(x,t+1)])):Fe L (QU st x t):=by
 unfold QU;split
 ·exact fun p hp=>h p (by simp[hp])
 intro p hp;rcases ay.1 hp with hp|hp
 ·exact h p (by simp[hp])
 obtain rfl:=bg.1 hp;have:=h (x,t+1) BF;exact⟨this.1,this.2.1,BD⟩
def Fe.push {L st ps}(h:Fe L st)(hp:Fe L ps):Fe L (st++ps):=fun p hA=>by
 rcases ay.1 hA with h1|h1
 ·exact h p h1
 exact hp p h1
def qSc {L}(hw:Wf L){n a b}(h:L[n]?=some (.pair a b))(st:List (Nat×Nat)):Gz L (st++[(b,1),(a,1)])<(2*len L (n+1)-1)+Gz L st/\HY L (st++[(b,1),(a,1)])=txt L (n+1)++HY L st:=by
 have ho:=hw.ok n _ h;have e:len L (n+1)=len L a+len L b:=by unfold len;rw[iK h ho,aa]
 have hl:=(ae.1 h).1;have ho':=ho;simp only[Rl.ok]at ho';have p1:=hw.pos a oO oO;have p2:=hw.pos b oO oO;constructor
 ·rw[mI,show[(b,1),(a,1)]=[(b,1)]++[(a,1)]from rfl,mI,qF,qF];omega
 rw[nU,show[(b,1),(a,1)]=[(b,1)]++[(a,1)]from rfl,nU,Vi,Vi,iK h ho]
def qNt {L}(hw:Wf L){n a k}(h:L[n]?=some (.power a k))(st:List (Nat×Nat)):Gz L (st++[(a,k)])<(2*len L (n+1)-1)+Gz L st/\HY L (st++[(a,k)])=txt L (n+1)++HY L st:=by
 have ho:=hw.ok n _ h;have e:len L (n+1)=k*len L a:=by unfold len;rw[iY h ho];simp
 have hl:=(ae.1 h).1;have ho':=ho;simp only[Rl.ok]at ho';have p1:=hw.pos a oO oO;constructor
 ·rw[mI,qF,e]
  have h1:k*(2*len L a-1)+k=2*(k*len L a):=by
   have:2*len L a=(2*len L a-1)+1:=oO;rw[<-vg,oN 2 k,vg];generalize 2*len L a-1=z at this ⊢;rw[this,Ap];omega
  omega
 rw[nU,Xu,iY h ho]
end
