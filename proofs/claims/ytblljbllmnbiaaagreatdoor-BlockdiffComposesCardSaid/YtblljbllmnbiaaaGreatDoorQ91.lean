import Derived.Test.YtblljbllmnbiaaaGreatDoorQ13
import Derived.Test.YtblljbllmnbiaaaGreatDoorQ60
import Derived.Laws.IdiomRangeMap
import Derived.OwnWalkIn
import Derived.RangeFuncRecord
import Derived.RangeFuncSeq
import Derived.TacticsIn
set_option linter.all false
set_option maxHeartbeats 1000000
namespace Go.Proofs.YtblljbllmnbiaaaGreatDoor
section
open Go Eg
def fput (f:Nat→Option Nat)(k a:Nat):Nat→Option Nat:=fun x=>if x=k then some (match f k with |some o=>min o a|none=>a)else f x
def qDe (L:List Rl)(f:Nat→Option Nat)(a:Nat):Rl→(Nat→Option Nat)
 | .letter _=>f
 | .pair l r=>fput (fput f l a) r (a+len L l)
 | .power x _=>fput f x a
def nO (L:List Rl)(i:Nat)(f:Nat→Option Nat):Nat→Option Nat:=match f (i+1),L[i]? with
 |some a,some r=>qDe L f a r
 |_,_=>f
theorem nI (L:List Rl)(i:Nat)(f:Nat→Option Nat):(∃a r,f (i+1)=some a∧L[i]?=some r∧nO L i f=qDe L f a r)∨nO L i f=f:=by
 unfold nO
 cases h1:f (i+1)with
 |none=>exact .inr rfl
 |some a=>cases h2:L[i]? with
  |none=>exact .inr rfl
  |some r=>exact .inl ⟨a,r,rfl,rfl,rfl⟩
theorem fstep_no {L:List Rl}{i:Nat}{f:Nat→Option Nat}(h:f (i+1)=none):nO L i f=f:=by
 unfold nO
 rw[h]
theorem qBj {L:List Rl}{i a:Nat}{r:Rl}{f:Nat→Option Nat}(h:f (i+1)=some a)(hr:L[i]?=some r):nO L i f=qDe L f a r:=by
 unfold nO
 rw[h,hr]
def qFv (L:List Rl):Nat→(Nat→Option Nat)→(Nat→Option Nat)
 |0,f=>f
 |i+1,f=>qFv L i (nO L i f)
def kG (base:Nat):Nat→Option Nat:=fun x=>if x=base∧x≠0 then some 0 else none
def gW (L:List Rl)(base:Nat):Nat→Option Nat:=qFv L base (kG base)
theorem qIw {f:Nat→Option Nat}{k a x:Nat}:fput f k a x=none↔x≠k∧f x=none:=by
 unfold fput
 by_cases h:x=k<;>simp[h]
theorem qEe {L:List Rl}{f:Nat→Option Nat}{a x:Nat}{r:Rl}:qDe L f a r x=none↔x∉kids r∧f x=none:=by
 cases r with
 |letter b=>simp[qDe,kids]
 |pair l r=>simp only[qDe,kids,qIw,List.mem_cons,List.not_mem_nil,or_false,not_or];exact⟨fun⟨h1,h2,h3⟩=>⟨⟨h2,h1⟩,h3⟩,fun⟨⟨h2,h1⟩,h3⟩=>⟨h1,h2,h3⟩⟩
 |power y k=>simp[qDe,kids,qIw]
theorem Rea.pos {L:List Rl}{n x:Nat}(h:Rea L n x):1≤x∧x≤L.length:=by
 induction h with
 |self h=>omega
 |kid _ _ _ ih=>exact ih
theorem Rea.snoc {L:List Rl}(hw:Wf L){n x k:Nat}{r:Rl}(h:Rea L n (x+1))(hr:L[x]?=some r)(hk:k∈kids r):Rea L n k:=by
 have hlt:=rG (hw.ok x r hr) k hk
 have hxl:=(List.getElem?_eq_some_iff.1 hr).1
 obtain⟨j,rfl⟩:∃j,k=j+1:=⟨k-1,oO⟩
 generalize hz:x+1=z at h
 induction h with
 |self h=>
  injection hz with hz
  subst hz
  exact .kid hr hk (.self oO)
 |kid h1 h2 _ ih=>exact .kid h1 h2 (ih hz)
theorem Rea.up {L:List Rl}{n x:Nat}(h:Rea L n x):x=n∨∃p r,Rea L n (p+1)∧L[p]?=some r∧x∈kids r:=by
 induction h with
 |self h=>exact .inl rfl
 | @kid n k x r h hk hx ih=>
  rcases ih with rfl|⟨p,r',h1,h2,h3⟩
  ·exact .inr ⟨n,r,.self (List.getElem?_eq_some_iff.1 h).1,h,hk⟩
  exact .inr ⟨p,r',.kid h hk h1,h2,h3⟩
theorem rea_le {L:List Rl}(hw:Wf L){n x:Nat}(h:Rea L n x):x≤n:=by
 induction h with
 |self h=>exact Nat.le_refl _
 |kid h hk _ ih=>have:=(rG (hw.ok _ _ h) _ hk).2;omega
def Dom (L:List Rl)(base:Nat)(f:Nat→Option Nat):Prop:=∀x,f x≠none→Rea L base x
theorem Dom.step {L:List Rl}(hw:Wf L){base i:Nat}{f:Nat→Option Nat}(h:Dom L base f):Dom L base (nO L i f):=by
 intro x hx
 rcases nI L i f with⟨a,r,h1,h2,e⟩| e
 ·rw[e]at hx
  by_cases hk:x∈kids r
  ·exact(h (i+1) (by rw[h1];simp)).snoc hw h2 hk
  exact h x fun e=>hx (qEe.2 ⟨hk,e⟩)
 rw[e]at hx;exact h x hx
theorem Dom.base {L:List Rl}{base:Nat}(hb:base≤L.length):Dom L base (kG base):=by
 intro x hx
 unfold kG at hx
 by_cases h:x=base∧x≠0
 ·obtain⟨rfl,h0⟩:=h
  obtain⟨j,rfl⟩:∃j,x=j+1:=⟨x-1,oO⟩
  exact .self oO
 rw[if_neg h]at hx;exact absurd rfl hx
theorem Dom.down {L:List Rl}(hw:Wf L){base:Nat}:∀{i:Nat}{f:Nat→Option Nat},Dom L base f→Dom L base (qFv L i f)
 |0,f,h=>h
 |i+1,f,h=>Dom.down (i:=i) (f:=nO L i f) hw (h.step hw)
def tO (L:List Rl)(V:List Nat)(f:Nat→Option Nat):Nat→Option Nat:=V.foldr (fun v f=>nO L (v-1) f) f
theorem qLr {V:List Nat}(hs:V.Pairwise (· < ·))(i:Nat):V.filter (· ≤i+1)=V.filter (· ≤i)++(if i+1∈V then[i+1]else[]):=by
 induction V with
 |nil=>simp
 |cons v V ih=>
  have hs':=List.pairwise_cons.1 hs
  rw[List.filter_cons,List.filter_cons,ih hs'.2]
  rcases Nat.lt_trichotomy v (i+1)with h|h| h
  ·have h1:v≤i+1:=oO
   have h2:v≤i:=oO
   have h3:i+1≠v:=oO
   simp[h1,h2,h3]
  ·subst h
   have h2:i+1∉V:=fun hm=>by have:=hs'.1 _ hm;omega
   have h3:V.filter (· ≤i)=[]:=List.filter_eq_nil_iff.2 fun x hx=>by have:=hs'.1 x hx;simp;omega
   simp[h2,h3]
  have h1:¬v≤i+1:=oO
  have h2:¬v≤i:=oO
  have h4:i+1∉v::V:=fun hm=>by
   rcases List.mem_cons.1 hm with e|hm
   ·omega
   have:=hs'.1 _ hm;omega
  have h5:i+1∉V:=fun hm=>h4 (List.mem_cons_of_mem _ hm)
  simp[h1,h2,h4,h5]
theorem qEa {L:List Rl}(hw:Wf L){base:Nat}{V:List Nat}(hs:V.Pairwise (· < ·))(hV:∀x,x∈V↔Rea L base x):∀(i:Nat)(f:Nat→Option Nat),Dom L base f→qFv L i f=tO L (V.filter (· ≤i)) f
 |0,f,h=>by
  have:V.filter (· ≤0)=[]:=List.filter_eq_nil_iff.2 fun x hx=>by have:=((hV x).1 hx).pos;simp;omega
  rw[this];rfl
 |i+1,f,h=>by
  show qFv L i (nO L i f)=_
  rw[qEa hw hs hV i _ (h.step hw),qLr hs]
  by_cases hi:i+1∈V
  ·rw[if_pos hi]
   unfold tO
   rw[List.foldr_append]
   rfl
  rw[if_neg hi,List.append_nil]
  have hn:f (i+1)=none:=by
   cases e:f (i+1)with
   |none=>rfl
   |some a=>exact absurd ((hV _).2 (h (i+1) (by rw[e];simp))) hi
  rw[fstep_no hn]
theorem qLt {L:List Rl}(hw:Wf L){base:Nat}(hb:base≤L.length){V:List Nat}(hs:V.Pairwise (· < ·))(hV:∀x,x∈V↔Rea L base x):tO L V (kG base)=gW L base:=by
 unfold gW
 rw[qEa hw hs hV base _ (Dom.base hb)]
 congr 1
 refine(List.filter_eq_self.2 fun x hx=>?_).symm
 have:x≤base:=rea_le hw ((hV x).1 hx)
 simpa using this
end
section
open Go Eg
def lmin (o:Option Nat)(a:Nat):Nat:=match o with |some b=>min b a|none=>a
def hit (L:List Rl)(f:Nat→Option Nat)(y t i:Nat):Option Nat:=match L[i]?,f (i+1)with
 |some (.power y' t'),some a=>if y'=y∧t≤t' then some a else none
 |_,_=>none
def qFg (L:List Rl)(f:Nat→Option Nat)(y t:Nat):Nat→Option Nat
 |0=>none
 |n+1=>match hit L f y t n with
  |some a=>some (lmin (qFg L f y t n) a)
  |none=>qFg L f y t n
def best (L:List Rl)(f:Nat→Option Nat)(y t:Nat):Option Nat:=qFg L f y t L.length
theorem xJ {L:List Rl}{f:Nat→Option Nat}{y t:Nat}:∀{n:Nat},qFg L f y t n=none↔∀i,i<n→hit L f y t i=none
 |0=>by simp[qFg]
 |n+1=>by
  unfold qFg
  cases e:hit L f y t n with
  |some a=>simp only[reduceCtorEq,false_iff];exact fun h=>by rw[h n oO]at e;cases e
  |none=>
   simp only
   rw[xJ]
   constructor
   ·intro h i hi
    rcases Nat.lt_or_ge i n with g| g
    ·exact h i g
    obtain rfl:i=n:=by omega
    exact e
   exact fun h i hi=>h i oO
theorem nX {L:List Rl}{f:Nat→Option Nat}{y t:Nat}:∀{n a:Nat},qFg L f y t n=some a→(∃i,i<n∧hit L f y t i=some a)∧∀i b,i<n→hit L f y t i=some b→a≤b
 |0,a,h=>by cases h
 |n+1,a,h=>by
  unfold qFg at h
  cases e:hit L f y t n with
  |none=>
   rw[e]at h
   obtain⟨⟨i,h1,h2⟩,h3⟩:=nX h
   refine⟨⟨i,oO,h2⟩,fun j b hj hb=>?_⟩
   rcases Nat.lt_or_ge j n with g| g
   ·exact h3 j b g hb
   obtain rfl:j=n:=by omega
   rw[e]at hb;cases hb
  |some c=>
   rw[e]at h
   simp only[Option.some.injEq]at h
   cases e2:qFg L f y t n with
   |none=>
    rw[e2]at h
    simp only[lmin]at h
    subst h
    refine⟨⟨n,oO,e⟩,fun j b hj hb=>?_⟩
    rcases Nat.lt_or_ge j n with g| g
    ·rw[xJ.1 e2 j g]at hb;cases hb
    obtain rfl:j=n:=by omega
    rw[e]at hb;injection hb with hb;omega
   |some d=>
    rw[e2]at h
    simp only[lmin]at h
    obtain⟨⟨i,h1,h2⟩,h3⟩:=nX e2
    refine⟨?_,fun j b hj hb=>?_⟩
    ·rcases Nat.le_total d c with g| g
     ·exact⟨i,oO,by rw[h2];congr 1;omega⟩
     exact⟨n,oO,by rw[e];congr 1;omega⟩
    rcases Nat.lt_or_ge j n with g| g
    ·have:=h3 j b g hb;omega
    obtain rfl:j=n:=by omega
    rw[e]at hb;injection hb with hb;omega
theorem hit_in {L:List Rl}{f:Nat→Option Nat}{y t i a:Nat}(h:hit L f y t i=some a):i<L.length:=by
 unfold hit at h
 split at h
 ·rename_i h1 _;exact(List.getElem?_eq_some_iff.1 h1).1
 cases h
theorem qAf {L:List Rl}{f:Nat→Option Nat}{y t:Nat}:best L f y t=none↔∀i,hit L f y t i=none:=by
 unfold best
 rw[xJ]
 constructor
 ·intro h i
  cases e:hit L f y t i with
  |none=>rfl
  |some a=>rw[h i (hit_in e)]at e;cases e
 exact fun h i _=>h i
theorem qSa {L:List Rl}{f:Nat→Option Nat}{y t a:Nat}(h1:∃i,hit L f y t i=some a) (h2:∀i b,hit L f y t i=some b→a≤b):best L f y t=some a:=by
 obtain⟨i,hi⟩:=h1
 cases e:best L f y t with
 |none=>rw[qAf.1 e i]at hi;cases hi
 |some c=>
  obtain⟨⟨j,_,hj⟩,hc⟩:=nX e
  have g1:=hc i a (hit_in hi) hi
  have g2:=h2 j c hj
  congr 1;omega
inductive Px where
 |copy (f n:Nat)
 |text (x:Nat)
inductive Pc where
 |copy (f n:Nat)
 |text (bs:List UInt8)
def Px.out (L:List Rl):Px→Pc
 | .copy f n=> .copy f n
 | .text x=> .text (txt L x)
def pcsN (L:List Rl)(f:Nat→Option Nat):Nat→Nat→List Px
 |0,_=>[]
 |k+1,x=>if x=0 then[]else match f x with
  |some a=>[.copy a (len L x)]
  |none=>match L[x-1]? with
   |some (.pair l r)=>pcsN L f k l++pcsN L f k r
   |some (.power y t)=>match best L f y t with
    |some a=>[.copy a (len L x)]
    |none=>[.text x]
   |some (.letter _)=>[.text x]
   |none=>[]
def pcs (L:List Rl)(f:Nat→Option Nat)(x:Nat):List Px:=pcsN L f x x
theorem wY {L:List Rl}(hw:Wf L){f:Nat→Option Nat}:∀(k m x:Nat),x≤k→x≤m→pcsN L f k x=pcsN L f m x
 |0,0,x,_,_=>rfl
 |0,m+1,x,h,_=>by obtain rfl:x=0:=by omega
                  simp[pcsN]
 |k+1,0,x,_,h=>by obtain rfl:x=0:=by omega
                  simp[pcsN]
 |k+1,m+1,x,h1,h2=>by
  unfold pcsN
  split
  ·rfl
  rename_i h0
  split
  ·rfl
  split
  ·rename_i l r hr
   have hk:=hw.ok _ _ hr
   obtain⟨_,g1,_,g2⟩:=hk
   rw[wY hw k m l oO oO,wY hw k m r oO oO]
  ·rfl
  ·rfl
  rfl
theorem qGi (L:List Rl)(f:Nat→Option Nat):pcs L f 0=[]:=rfl
theorem qCd {L:List Rl}{f:Nat→Option Nat}{n a:Nat}(h:f (n+1)=some a):pcs L f (n+1)=[.copy a (len L (n+1))]:=by simp[pcs,pcsN,h]
theorem qGh {L:List Rl}(hw:Wf L){f:Nat→Option Nat}{n l r:Nat}(h:f (n+1)=none)(hr:L[n]?=some (.pair l r)):pcs L f (n+1)=pcs L f l++pcs L f r:=by
 have hk:=hw.ok _ _ hr
 obtain⟨_,g1,_,g2⟩:=hk
 simp only[pcs,pcsN,h,Nat.add_sub_cancel,hr]
 rw[if_neg oO,wY hw n l l oO oO,wY hw n r r oO oO]
theorem yH {L:List Rl}{f:Nat→Option Nat}{n:Nat}{b:UInt8}(h:f (n+1)=none)(hr:L[n]?=some (.letter b)):pcs L f (n+1)=[.text (n+1)]:=by simp[pcs,pcsN,h,hr]
theorem rP {L:List Rl}{f:Nat→Option Nat}{n y t:Nat}(h:f (n+1)=none)(hr:L[n]?=some (.power y t)):pcs L f (n+1)=match best L f y t with |some a=>[.copy a (len L (n+1))]|none=>[.text (n+1)]:=by simp[pcs,pcsN,h,hr]
def addP (out:List Pc)(x:Pc):List Pc:=match out.getLast?,x with
 |some (.copy f n),.copy f' n'=>if f+n=f' then out.dropLast++[.copy f (n+n')]else out++[x]
 |some (.text a),.text b=>out.dropLast++[.text (a++b)]
 |_,_=>out++[x]
def nrm (l:List Pc):List Pc:=l.foldl addP []
theorem qGe (l:List Pc)(x:Pc):nrm (l++[x])=addP (nrm l) x:=by simp[nrm]
theorem qFd (x:Pc):addP [] x=[x]:=by cases x<;>rfl
theorem qKs (o:List Pc)(f n n':Nat):addP (o++[.copy f n]) (.copy (f+n) n')=o++[.copy f (n+n')]:=by simp[addP]
theorem qKt (o:List Pc){f n f' n':Nat}(h:f+n≠f'):addP (o++[.copy f n]) (.copy f' n')=o++[.copy f n]++[.copy f' n']:=by simp[addP,h]
theorem qKu (o:List Pc)(f n:Nat)(b:List UInt8):addP (o++[.copy f n]) (.text b)=o++[.copy f n]++[.text b]:=by simp[addP]
theorem qKv (o:List Pc)(f n:Nat)(b:List UInt8):addP (o++[.text b]) (.copy f n)=o++[.text b]++[.copy f n]:=by simp[addP]
theorem qKw (o:List Pc)(a b:List UInt8):addP (o++[.text a]) (.text b)=o++[.text (a++b)]:=by simp[addP]
def Pc.bytes (B:List UInt8):Pc→List UInt8
 | .copy f n=>(B.drop f).take n
 | .text bs=>bs
def desc (B:List UInt8)(l:List Pc):List UInt8:=(l.map (Pc.bytes B)).flatten
theorem jD (B:List UInt8)(a b:List Pc):desc B (a++b)=desc B a++desc B b:=by simp[desc]
theorem qDl {α:Type}(B:List α)(f n m:Nat):(B.drop f).take n++(B.drop (f+n)).take m=(B.drop f).take (n+m):=by
 rw[List.take_add,List.drop_drop]
theorem jU (B:List UInt8)(x:Pc):desc B [x]=x.bytes B:=by simp[desc]
theorem qTi (B:List UInt8)(o:List Pc)(x:Pc):desc B (addP o x)=desc B o++x.bytes B:=by
 rcases List.eq_nil_or_concat o with rfl|⟨o,y,rfl⟩
 ·rw[qFd,jU];rfl
 rw[List.concat_eq_append]
 cases y with
 |copy f n=>cases x with
  |copy f' n'=>
   by_cases h:f+n=f'
   ·subst h
    rw[qKs,jD,jD,jU,jU,List.append_assoc]
    congr 1
    exact(qDl B f n n').symm
   rw[qKt _ h,jD,jU]
  |text b=>rw[qKu,jD,jU]
 |text a=>cases x with
  |copy f' n'=>rw[qKv,jD,jU]
  |text b=>rw[qKw,jD,jD,jU,jU,List.append_assoc];rfl
theorem qNr (B:List UInt8)(l:List Pc):desc B (nrm l)=desc B l:=by
 induction l using vN with
 |h0=>rfl
 |h1 l a ih=>rw[qGe,qTi,ih,jD,jU]
end
section
open Go Eg
def sfx:List (Nat×Nat)→List (Nat×Nat)
 |[]=>[]
 |x::l=>match sfx l with
  |[]=>[x]
  |y::r=>(x.1,min x.2 y.2)::y::r
theorem qVt (x:Nat×Nat):sfx [x]=[x]:=rfl
theorem qGx (x:Nat×Nat)(l:List (Nat×Nat)){y:Nat×Nat}{r:List (Nat×Nat)}(h:sfx l=y::r):sfx (x::l)=(x.1,min x.2 y.2)::y::r:=by
 conv=>lhs;unfold sfx
 rw[h]
theorem mY:∀l:List (Nat×Nat),(sfx l).length=l.length
 |[]=>rfl
 |x::l=>by
  have ih:=mY l
  cases e:sfx l with
  |nil=>rw[e]at ih;conv=>lhs;unfold sfx
        rw[e];simp only[List.length_cons,List.length_nil]at ih ⊢;omega
  |cons y r=>rw[qGx x l e];rw[e]at ih;simp only[List.length_cons]at ih ⊢;omega
theorem qGy:∀(l:List (Nat×Nat))(i:Nat)(p:Nat×Nat),(sfx l)[i]?=some p→(∃q,l[i]?=some q∧q.1=p.1)∧(∃j q,i≤j∧l[j]?=some q∧q.2=p.2)∧∀j q,i≤j→l[j]?=some q→p.2≤q.2
 |[],i,p,h=>by simp[sfx]at h
 |x::l,i,p,h=>by
  have ih:=qGy l
  have hl:=mY l
  cases e:sfx l with
  |nil=>
   rw[e]at hl
   have:l=[]:=List.length_eq_zero_iff.1 hl.symm
   subst this
   rw[qVt]at h
   cases i with
   |zero=>
    simp at h
    subst h
    exact⟨⟨x,O,O⟩,⟨0,x,Nat.le_refl _,O,O⟩,fun j q _ hq=>by
     cases j with
     |zero=>simp at hq;subst hq;exact Nat.le_refl _
     |succ j=>simp at hq⟩
   |succ i=>simp at h
  |cons y r=>
   rw[qGx x l e]at h
   rw[e]at ih
   cases i with
   |succ i=>
    rw[List.getElem?_cons_succ]at h
    obtain⟨⟨q,h1,h2⟩,⟨j,q',h3,h4,h5⟩,h6⟩:=ih i p h
    refine⟨⟨q,by rw[List.getElem?_cons_succ];exact h1,h2⟩,⟨j+1,q',oO,by rw[List.getElem?_cons_succ];exact h4,h5⟩,fun j q hj hq=>?_⟩
    obtain⟨m,rfl⟩:∃m,j=m+1:=⟨j-1,oO⟩
    rw[List.getElem?_cons_succ]at hq
    exact h6 m q oO hq
   |zero=>
    simp only[List.getElem?_cons_zero,Option.some.injEq]at h
    subst h
    obtain⟨_,⟨j,q',_,h4,h5⟩,h6⟩:=ih 0 y rfl
    refine⟨⟨x,O,O⟩,?_,fun j q _ hq=>?_⟩
    ·rcases Nat.le_total x.2 y.2 with g| g
     ·exact⟨0,x,Nat.le_refl _,O,by simp only;omega⟩
     exact⟨j+1,q',oO,by rw[List.getElem?_cons_succ];exact h4,by simp only;omega⟩
    cases j with
    |zero=>simp at hq;subst hq;simp only;omega
    |succ j=>
     rw[List.getElem?_cons_succ]at hq
     have:=h6 j q (Nat.zero_le _) hq
     simp only;omega
theorem sfx_step {P:List (Nat×Nat)}{i:Nat}{x:Nat×Nat}(hx:P[i]?=some x){y:Nat×Nat}(hy:(P.take (i+1)++sfx (P.drop (i+1)))[i+1]?=some y):(P.take (i+1)++sfx (P.drop (i+1))).set i (x.1,min x.2 y.2)=P.take i++sfx (P.drop i):=by
 have hi:=(List.getElem?_eq_some_iff.1 hx).1
 have hd:P.drop i=x::P.drop (i+1):=by
  rw[List.drop_eq_getElem_cons hi]
  rw[(List.getElem?_eq_some_iff.1 hx).2]
 have ht:P.take (i+1)=P.take i++[x]:=by
  rw[←(List.getElem?_eq_some_iff.1 hx).2,List.take_append_getElem]
 have hl:(P.take (i+1)).length=i+1:=by simp;omega
 rw[List.getElem?_append_right oO,hl,Nat.sub_self]at hy
 cases e:sfx (P.drop (i+1))with
 |nil=>rw[e]at hy;simp at hy
 |cons z r=>
  rw[e]at hy
  simp at hy
  subst hy
  rw[hd,qGx _ _ e,ht,List.append_assoc,List.set_append_right _ _ (by simp;omega)]
  congr 1
  have:i-(P.take i).length=0:=by simp;omega
  rw[this]
  rfl
def entP (L:List Rl)(f:Nat→Option Nat)(y n:Nat):Option (Nat×Nat):=match L[n-1]?,f n with
 |some (.power y' t),some a=>if y'=y then some (t,a)else none
 |_,_=>none
def qY (L:List Rl)(f:Nat→Option Nat)(D:List Nat)(y:Nat):List (Nat×Nat):=D.filterMap (entP L f y)
theorem xX (L:List Rl)(f:Nat→Option Nat)(D:List Nat)(y n:Nat):qY L f (D++[n]) y=qY L f D y++(entP L f y n).toList:=by
 simp only[qY,List.filterMap_append,List.filterMap_cons,List.filterMap_nil]
 cases entP L f y n<;>rfl
theorem sO {L:List Rl}{f:Nat→Option Nat}{y k i a:Nat}:hit L f y k i=some a↔∃t,entP L f y (i+1)=some (t,a)∧k≤t:=by
 simp only[hit,entP,Nat.add_sub_cancel]
 cases h1:L[i]? with
 |none=>simp
 |some r=>cases h2:f (i+1)with
  |none=>cases r<;>simp
  |some b=>cases r with
   |letter _=>simp
   |pair _ _=>simp
   |power y' t=>
    simp only
    by_cases e:y'=y
    ·by_cases g:k≤t
     ·simp only[e,g,and_self,if_true,Option.some.injEq,Prod.mk.injEq]
      exact⟨fun h=>⟨t,⟨O,h⟩,g⟩,fun⟨_,⟨_,h⟩,_⟩=>h⟩
     simp only[e,g,and_false,if_false,if_true,Option.some.injEq,Prod.mk.injEq,reduceCtorEq,false_iff]
     exact fun⟨t',⟨h1,_⟩,h3⟩=>g oO
    simp[e]
structure PwOk (L:List Rl)(f:Nat→Option Nat)(y:Nat)(P:List (Nat×Nat)):Prop where
 srt:P.Pairwise fun a b=>a.1≤b.1
 mem:∀p,p∈P↔∃i,entP L f y (i+1)=some p
theorem PwOk.find {L:List Rl}{f:Nat→Option Nat}{y k m:Nat}{P:List (Nat×Nat)}(h:PwOk L f y P)(h0:∀i p,i<m→P[i]?=some p→p.1<k) (h1:∀i p,m≤i→P[i]?=some p→k≤p.1):
  (P.length≤m→best L f y k=none)∧∀p,(sfx P)[m]?=some p→best L f y k=some p.2:=by
 refine⟨fun hm=>qAf.2 fun i=>?_,fun p hp=>?_⟩
 ·cases e:hit L f y k i with
  |none=>rfl
  |some a=>
   obtain⟨t,h2,h3⟩:=sO.1 e
   obtain⟨j,hj⟩:=List.getElem?_of_mem ((h.mem (t,a)).2 ⟨i,h2⟩)
   have:=h0 j (t,a) (by have:=(List.getElem?_eq_some_iff.1 hj).1;omega) hj
   simp only at this;omega
 obtain⟨_,⟨j,q,hj,hq,e⟩,hl⟩:=qGy P m p hp
 refine qSa ?_ fun i b hb=>?_
 ·obtain⟨i,hi⟩:=(h.mem q).1 (List.mem_of_getElem? hq)
  exact⟨i,sO.2 ⟨q.1,by rw[hi,←e],h1 j q hj hq⟩⟩
 obtain⟨t,h2,h3⟩:=sO.1 hb
 obtain⟨j',hj'⟩:=List.getElem?_of_mem ((h.mem (t,b)).2 ⟨i,h2⟩)
 rcases Nat.lt_or_ge j' m with g| g
 ·have:=h0 j' _ g hj';simp only at this;omega
 exact hl j' (t,b) g hj'
theorem PwOk.cut {L:List Rl}{f:Nat→Option Nat}{y:Nat}{P:List (Nat×Nat)}(h:PwOk L f y P)(k:Nat):∃m,m≤P.length∧(∀i p,i<m→P[i]?=some p→p.1<k)∧∀i p,m≤i→P[i]?=some p→k≤p.1:=by
 have hs:=h.srt
 clear h
 induction P with
 |nil=>exact⟨0,Nat.le_refl _,fun i p h=>by omega,fun i p _ h=>by simp at h⟩
 |cons x P ih=>
  obtain⟨g1,g2⟩:=List.pairwise_cons.1 hs
  by_cases hx:k≤x.1
  ·refine⟨0,Nat.zero_le _,fun i p h=>by omega,fun i p _ hp=>?_⟩
   cases i with
   |zero=>simp at hp;subst hp;exact hx
   |succ i=>have:=g1 p (List.mem_of_getElem? (by rwa [List.getElem?_cons_succ]at hp));omega
  obtain⟨m,h1,h2,h3⟩:=ih g2
  refine⟨m+1,by simp;omega,fun i p hi hp=>?_,fun i p hi hp=>?_⟩
  ·cases i with
   |zero=>simp at hp;subst hp;omega
   |succ i=>exact h2 i p oO (by rwa [List.getElem?_cons_succ]at hp)
  obtain⟨j,rfl⟩:∃j,i=j+1:=⟨i-1,oO⟩
  exact h3 j p oO (by rwa [List.getElem?_cons_succ]at hp)
end
end Go.Proofs.YtblljbllmnbiaaaGreatDoor
namespace Sl
section
open Go Go.RowKit
variable {E:Env}{n:Nat}{L L':Fr}{S H H':List HP}{Q:Exit→Act→World→Prop}{ro:Option Nat}{ds:List Deferred}
def fnB (P:Program)(t:TypeId):Bool:=match P.info? t,P.underlying t with
 |some i,some (.func ..)=>i.size==1&&(match i.zero with |some .nilFunc=>true|_=>false)
 |_,_=>false
theorem qLv {P:Program}{t:TypeId}(h:fnB P t=true)(w:World):(zeroValue t).run P w= .ok .nilFunc w∧(isAgg t).run P w= .ok false w∧(Go.sizeOf t).run P w= .ok 1 w:=by
 unfold fnB at h
 split at h
 ·rename_i i a b c hi hu
  simp only[Bool.and_eq_true,beq_iff_eq]at h
  obtain⟨h1,h2⟩:=h
  split at h2
  ·rename_i hz
   refine⟨by simp[zeroValue,typeInfo,program,Sem.run,hi,hz],by simp[isAgg,underlying,program,Sem.run,hu],by simp[Go.sizeOf,typeInfo,program,Sem.run,hi,h1]⟩
  cases h2
 cases h
section
variable {ty:TypeId}{pos:String}{af:Array Edge}{d:Option Nat}{gd:Option (Nat×Bool)}{K:Value→List HP→Prop}
theorem qIz {t:TypeId}(ht:fnB E.P t=true)(hk:∀b,K (.pointer (some ⟨b,0,none⟩)) (cells b [.nilFunc] t::H)):Ld E n L H ⟨d,.alloc t,ty,pos,af,gd⟩ K:=fun Q next a w g hn=>by
 have hz:=(qLv ht w).1
 have hrun:(execOp a.eval ⟨d,.alloc t,ty,pos,af,gd⟩).run E.P w= .ok (.value (.pointer (some ⟨w.heap.size,0,none⟩))) (w.alloc (.cells #[.nilFunc] t)):=by
  simp[execOp,Instr.alloc,hz,newVar,newRow,newObj]
  rfl
 unfold Oper.wp
 rw[hrun,Oper.upon_value]
 exact hn _ _ _ (hk _) (g.hp.new _)
theorem qJd {x y:Operand}{t:TypeId}{b o:Nat}{vs:List Value}{bt:TypeId}{v:Value}(h:ev L x=some (.pointer (some ⟨b,o,none⟩)))(hy:ev L y=some v)(ht:fnB E.P t=true)
  (hsz:(bP v).length=1) (hm:Take (cells b vs bt) H H') (hp:iR (bP v)=true) (hl:o+1≤vs.length) (hk:K undef (cells b (bX vs o (bP v)) bt::H')):Ld E n L H ⟨d,.store t x y,ty,pos,af,gd⟩ K:=fun Q next a w g hn=>by
 obtain⟨w',hr,hs⟩:=lG (E:=E) (bP v) vs o 0 w (g.hp.take hm) hp oO
 have hz:v.cells.size=1:=by rw[←Array.length_toList,kS,hsz]
 have hrun:(execOp a.eval ⟨d,.store t x y,ty,pos,af,gd⟩).run E.P w= .ok .skip w':=by
  simp[execOp,Instr.storeAt,Instr.sureAddr,storeVar,g.f.ev h,g.f.ev hy,(qLv ht w).2.2,hz,kS,hr]
 unfold Oper.wp
 rw[hrun,Oper.upon_skip]
 exact hn _ _ _ hk hs
theorem qMy {x:Operand}{t:TypeId}{b o:Nat}{v:Value}(h:ev L x=some (.pointer (some ⟨b,o,none⟩)))(ht:fnB E.P t=true)(hm:HasC S b o v):Yl E n L S ⟨d,.load t x,ty,pos,af,gd⟩ v:=fun a w g s=>by
 have hc:=hm.cell s
 simp[execOp,Instr.loadAt,Instr.sureAddr,loadVar,g.ev h,(qLv ht w).2.1,load,Sem.run,hc]
end
def fen (ro:Option Nat):Fence:={Fence.wide with round:=ro}
def mkA (ds:List Deferred)(a:Act):Act:={a with defers:=ds}
theorem qBy (ds:List Deferred)(a:Act)(d:Option Nat)(v:Value):(mkA ds a).put d v=mkA ds (a.put d v):=by cases d<;>rfl
theorem qAi {P:Program}{f:FuncId}{args:Array Value}{w:World}{R:Ending→World→Prop}:CallsIn (fen ro) 0 P f args w R↔Calls P f args w R:=callsIn_wide (n:=0)
def qMg:Op→Bool
 | .defer _=>false
 |_=>true
theorem op_in {P:Program}{o:Oper}{a:Act}{w:World}{next:Act→World→Prop}(hd:qMg o.op=true)(ha:a.defers=[])(h:o.wp P a w (fun a' w'=>a'.defers=[]∧next (mkA ds a') w') (fun e a' w'=>Q e (mkA ds a') w')):o.wpIn (fen ro) 0 P (mkA ds a) w next Q:=by
 refine⟨fun f _=>trivial,?_⟩
 have e:o.semAt (fen ro).round (mkA ds a).eval=execOp a.eval o:=Oper.semAt_plain _ _ _ fun c hc=>by rw[hc]at hd;cases hd
 rw[e]
 unfold Oper.wp at h
 generalize(execOp a.eval o).run P w=r at h ⊢
 have rep:∀{f:FuncId}{args:Array Value}{w':World},Calls P f args w' (fun
   | .returned v,w''=>(a.put o.dst v).defers=[]∧next (mkA ds (a.put o.dst v)) w''
   | .panicked chain,w''=>Q (.panic chain) (mkA ds a) w''
   | .outgrown,_=>LetsOut (fun e a' w'=>Q e (mkA ds a') w'))→CallsIn (fen ro) (0-1) P f args w' fun
   | .returned v,w''=>next ((mkA ds a).put o.dst v) w''
   | .panicked chain,w''=>Q (.panic chain) (mkA ds a) w''
   | .outgrown,_=>LetsOut Q:=fun hc=>qAi.2 (hc.mono fun e w'' hx=>by
  cases e with
  |returned v=>exact(congrFun (congrArg next (qBy ds a o.dst v)) w'').mpr hx.2
  |panicked chain=>exact hx
  |outgrown=>obtain⟨a0,w0,hq⟩:=hx;exact⟨_,w0,hq⟩)
 cases r with
 |ok nx w'=>
  cases nx with
  |value v=>exact(congrFun (congrArg next (qBy ds a o.dst v)) w').mpr h.2
  |skip =>exact(congrFun (congrArg next (qBy ds a o.dst undef)) w').mpr h.2
  |defer d=>
   have h1:=h.1
   cases hd':o.dst<;>rw[hd']at h1<;>simp[Act.put]at h1
  |enter f args=>exact⟨fun h0=>(by cases h0),rep h⟩
  |row rw args=>exact⟨fun h0=>(by cases h0),fun c cs _=>by
    obtain⟨v,w2,r,s⟩:=h c cs
    exact⟨v,w2,(congrFun (congrArg next (qBy ds a o.dst v)) w2).mpr r.2,stepsIn_wide.2 s⟩⟩
  |_=>exact h.elim
 |halt x w'=>
  cases x with
  |panic v=>exact h
  |_=>exact h.elim
def WI (E:Env)(ro:Option Nat)(ds:List Deferred)(c:Code)(Q:Exit→Act→World→Prop)(n:Nat)(L:Fr)(H:List HP):Prop:=∀a w,Good E n L H a w→c.wpIn (fen ro) 0 E.P Q (mkA ds a) w
def WLI (E:Env)(ro:Option Nat)(ds:List Deferred)(all:Array Oper)(Q:Exit→Act→World→Prop)(l:List Oper)(n:Nat)(L:Fr)(H:List HP):Prop:=∀a w,Good E n L H a w→wpListIn (fen ro) 0 E.P all Q l (mkA ds a) w
def AI (E:Env)(ds:List Deferred)(Q:Exit→Act→World→Prop)(e:Exit)(n:Nat)(L:Fr)(H:List HP):Prop:=∀a w,Good E n L H a w→Q e (mkA ds a) w
@[reducible] def KI (E : Env) (ro : Option Nat) (y : Code) (Q : Exit → Act → World → Prop) : Exit → Act → World → Prop := Exit.then (y.wpIn (fen ro) 0 E.P Q) Q
theorem iP {x y:Code}(h:WI E ro ds x (KI E ro y Q) n L H):WI E ro ds (.seq x y) Q n L H:=fun a w g=>wpIn_seq (h a w g)
theorem tV (h:AI E ds Q .normal n L H):WI E ro ds .skip Q n L H:=fun a w g=>wpIn_skip (h a w g)
theorem i_ret (h:AI E ds Q .ret n L H):WI E ro ds .ret Q n L H:=fun a w g=>wpIn_ret (h a w g)
theorem i_exit {id:Nat}(h:AI E ds Q (.exit id) n L H):WI E ro ds (.exit id) Q n L H:=fun a w g=>wpIn_exit (h a w g)
theorem xZ {id:Nat}{c:Code}(h:WI E ro ds c (Exit.inBlock id Q) n L H):WI E ro ds (.block id c) Q n L H:=fun a w g=>wpIn_block (h a w g)
theorem dZ {id:Nat}{l:List Oper}(h:WLI E ro ds l.toArray Q l n L H):WI E ro ds (.region id l.toArray false) Q n L H:=fun a w g=>wpIn_region_lit (h a w g)
theorem jB {all:Array Oper}(h:AI E ds Q .normal n L H):WLI E ro ds all Q [] n L H:=fun a w g=>wpListIn_nil (h a w g)
theorem zY (ds:List Deferred)(a:Act):(mkA ds a).eval=a.eval:=by funext x;cases x<;>rfl
theorem wR {c:Operand}{x y:Code}(hc:ev L c=some (.bool false))(h:WI E ro ds y Q n L H):WI E ro ds (.cond c x y) Q n L H:=fun a w g=>wpIn_cond_false (by rw[zY];exact g.f.ev hc) (h a w g)
theorem lW {c:Operand}{x y:Code}{p:Prop}[Decidable p](hc:ev L c=some (.bool (decide p)))(h1:p→WI E ro ds x Q n L H)(h2:¬p→WI E ro ds y Q n L H):WI E ro ds (.cond c x y) Q n L H:=fun a w g=>
 wpIn_cond_split (by rw[zY];exact g.f.ev hc) (fun h=>h1 (by simpa using h) a w g) (fun h=>h2 (by simpa using h) a w g)
theorem eF {y:Code}(h:WI E ro ds y Q n L H):AI E ds (KI E ro y Q) .normal n L H:=h
theorem nP {K:Act→World→Prop}{id:Nat}(h:AI E ds Q (.exit id) n L H):AI E ds (Exit.then K Q) (.exit id) n L H:=h
theorem sJ {id:Nat}(h:AI E ds Q .normal n L H):AI E ds (Exit.inBlock id Q) .normal n L H:=h
theorem vS {id:Nat}(h:AI E ds Q .normal n L H):AI E ds (Exit.inBlock id Q) (.exit id) n L H:=fun a w g=>by simp only[Exit.inBlock,if_true];exact h a w g
theorem dP {all:Array Oper}{d:Nat}{op:Op}{ty:TypeId}{pos:String}{af:Array Edge}{rest:List Oper}{v:Value}(h:Yl E n L H ⟨some d,op,ty,pos,af,none⟩ v)(hd:Nat.blt d n=true)(hop:qMg op=true)
  (k:WLI E ro ds all Q rest n ((d,v)::L) H):WLI E ro ds all Q (⟨some d,op,ty,pos,af,none⟩::rest) n L H:=fun a w g=>by
 refine wpListIn_plain O fun K hK=>op_in hop g.f.df ?_
 unfold Oper.wp
 rw[h a w g.f g.hp]
 exact⟨(g.f.put (some d) v hd).df,hK _ _ (k _ _ ⟨g.f.put (some d) v hd,g.hp⟩)⟩
theorem gF {all:Array Oper}{d:Option Nat}{op:Op}{ty:TypeId}{pos:String}{af:Array Edge}{rest:List Oper}(hd:inB n d=true)(hop:qMg op=true)
  (h:Ld E n L H ⟨d,op,ty,pos,af,none⟩ (fun v H'=>WLI E ro ds all Q rest n (putL d v L) H')):WLI E ro ds all Q (⟨d,op,ty,pos,af,none⟩::rest) n L H:=fun a w g=>by
 refine wpListIn_plain O fun K hK=>op_in hop g.f.df ?_
 exact h _ _ a w g fun v H' w' hk hs=>⟨(g.f.put d v hd).df,hK _ _ (hk _ _ ⟨g.f.put d v hd,hs⟩)⟩
theorem i_heap {c:Code}(hH:∀k,dQ H k→dQ H' k) (h:WI E ro ds c Q n L H'):WI E ro ds c Q n L H:=fun a w g=>h a w ⟨g.f,g.hp.imp hH⟩
theorem j_eq {all:Array Oper}{l:List Oper}(t:Nat){v:Value}(v':Value)(hl:look L t=some v)(e:v=v')(k:WLI E ro ds all Q l n ((t,v')::L) H):WLI E ro ds all Q l n L H:=fun a w g=>k a w ⟨g.f.eq hl e,g.hp⟩
theorem ai_aend {B:HP}{L':Fr}(hL:wk L L')(hH:∀k,dQ H k→dQ [B] k):AI E [] (fun e a w=>e= .normal∧a.defers=[]∧Good E n L' [B] a w) .normal n L H:=fun a w g=>⟨rfl,rfl,⟨⟨g.f.sz,rfl,(g.f.wk hL).fr⟩,g.hp.imp hH⟩⟩
theorem i_loop {ι:Type}(I:ι→Fr)(J:ι→List HP)(m:ι→Nat)(ok:ι→Prop){c:Code}(i0:ι)(h0:ok i0)(hL:wk L (I i0))(hH:∀k,dQ H k→dQ (J i0) k)
  (round:∀i,ok i→WI E ro ds c (Exit.then (fun a w=>∃j b,ok j∧m j<m i∧a=mkA ds b∧Good E n (I j) (J j) b w) Q) n (I i) (J i)):WI E ro ds (.loop c) Q n L H:=fun a w g=>by
 suffices hs:∀k i a w,m i=k→ok i→Good E n (I i) (J i) a w→(Code.loop c).wpIn (fen ro) 0 E.P Q (mkA ds a) w from hs _ i0 a w rfl h0 ⟨g.f.wk hL,g.hp.imp hH⟩
 intro k i a w hk hi hg
 classical
 let T:Act→World→Nat→Prop:=fun a' w' m'=>∃j b,ok j∧m j=m'∧a'=mkA ds b∧Good E n (I j) (J j) b w'
 have least:∀a' w',(∃m',T a' w' m')→∃m',T a' w' m'∧∀m2,T a' w' m2→m'≤m2:=by
  intro a' w' ⟨m',hm'⟩
  suffices hs:∀N m',m'≤N→T a' w' m'→∃mm,T a' w' mm∧∀m2,T a' w' m2→mm≤m2 from hs _ m' (Nat.le_refl _) hm'
  intro N
  induction N with
  |zero=>intro m' hm ht;exact⟨m',ht,fun _ _=>by omega⟩
  |succ N ih=>
   intro m' hm ht
   by_cases hex:∃m2,m2≤N∧T a' w' m2
   ·obtain⟨m2,h1,h2⟩:=hex;exact ih m2 h1 h2
   refine⟨m',ht,fun m2 h2=>?_⟩
   rcases Nat.lt_or_ge m2 m' with hlt|hge
   ·exact absurd ⟨m2,oO,h2⟩ hex
   exact hge
 let μ:Act→World→Nat:=fun a' w'=>if h:∃m',T a' w' m' then(least a' w' h).choose else 0
 have hμ:∀a' w'(h:∃m',T a' w' m'),T a' w' (μ a' w')∧∀m2,T a' w' m2→μ a' w'≤m2:=by
  intro a' w' h
  have:=(least a' w' h).choose_spec
  simp only[μ,dif_pos h]
  exact this
 refine wpIn_loop (fun a w=>∃m',T a w m') μ ⟨_,i,a,hi,O,O,hg⟩ ?_
 intro a' w' hI
 obtain⟨⟨j,b,hj,hmj,rfl,hgj⟩,_⟩:=hμ a' w' hI
 refine wpIn_mono (round j hj b w' hgj) ?_
 intro e a2 w2 hq
 cases e with
 |normal=>
  obtain⟨j2,b2,hj2,hlt,e2,hg2⟩:=hq
  refine⟨⟨_,j2,b2,hj2,O,e2,hg2⟩,?_⟩
  have:=(hμ a2 w2 ⟨_,j2,b2,hj2,rfl,e2,hg2⟩).2 _ ⟨j2,b2,hj2,rfl,e2,hg2⟩
  omega
 |_=>exact hq
theorem ai_round {ι:Type}{I:ι→Fr}{J:ι→List HP}{m:ι→Nat}{ok:ι→Prop}{M:Nat}(j:ι)(hj:ok j)(hm:m j<M)(hL:wk L (I j))(hH:∀k,dQ H k→dQ (J j) k):
  AI E ds (Exit.then (fun a w=>∃j b,ok j∧m j<M∧a=mkA ds b∧Good E n (I j) (J j) b w) Q) .normal n L H:=fun b _ g=>⟨j,b,hj,hm,rfl,g.f.wk hL,g.hp.imp hH⟩
def Cy (E:Env)(l:Nat)(args:List Value)(Pre:List HP)(Φ:Value→List HP→Prop):Prop:=
 ∀(R:HP)(w:World),Sat E.w0 w (Pre++[R])→YieldAt Fence.wide 0 E.P l ⟨args⟩ w (fun e w'=>∃v Qs,e= .returned v∧Φ v Qs∧Sat E.w0 w' (Qs++[R]))
theorem j_round {all:Array Oper}{d:Option Nat}{ty:TypeId}{pos:String}{af:Array Edge}{rest:List Oper}{x:Operand}{l:Nat}{args:List Operand}{ts:Array TypeId}{vs:List Value}{Pre:List HP}{Φ:Value→List HP→Prop}(hd:inB n d=true)(hx:ev L x=some (.func (.yield l) #[] #[]))(ha:evs L args=some vs)(hc:Cy E l vs Pre Φ)(hs:Sub Pre H H')
  (k:∀v Qs,Φ v Qs→WLI E ro ds all Q rest n (putL d v L) (Qs++H')):WLI E ro ds all Q (⟨d,.call {callee:= .value x,args:=args.toArray,argTypes:=ts},ty,pos,af,none⟩::rest) n L H:=fun a w g=>by
 refine wpListIn_plain O fun K hK=>⟨fun f _=>trivial,?_⟩
 rw[Oper.semAt_plain _ _ _ (by intro c hc;cases hc),zY]
 obtain⟨fn,tmps,assign,body,hy,hr⟩:=hc (dQ H') w ((g.hp.sub hs).imp fun _=>jS)
 have hrun:(execOp a.eval ⟨d,.call {callee:= .value x,args:=args.toArray,argTypes:=ts},ty,pos,af,none⟩).run E.P w= .ok (.round l fn tmps assign body) w:=by
  have h1:=g.f.evs ha
  have h2:=g.f.ev hx
  have e0:((⟨vs⟩:Array Value)++(#[]:Array Value))=⟨vs⟩:=by simp
  simp[execOp,resolve,Deferred.ofValue,invoke,h2,h1,e0,hy]
 rw[hrun,Oper.uponIn_round]
 refine⟨fun h0=>(by cases h0),?_⟩
 refine(show RoundIn (fen ro) 0 E.P l fn tmps assign body w _ from hr).mono ?_
 rintro e w'⟨v,Qs,rfl,hΦ,hs'⟩
 exact(congrFun (congrArg K (qBy ds a d v)) w').mpr (hK _ _ (k v Qs hΦ _ _ ⟨g.f.put d v hd,hs'.imp fun _=>lS⟩))
def dfr (D:Nat):HP:=pt D (.deferred (some []))
def qJi (D:Nat):List Deferred:=[{target:= .collected D,args:= #[]}]
theorem LeavesIn_nil {P:Program}{fn:Func}{tmps:Array Value}{R:Ending→World→Prop}{w:World}{v:Value}(h:(results fn tmps).run P w= .ok v w)(hR:R (.returned v) w):LeavesIn (fen ro) 0 P fn tmps R [] .returning w:=⟨v,h,hR⟩
theorem ai_end {fn:Func}{rs:List ResultVar}{vs:List Value}{Φ:Value→List HP→Prop}{R:HP}(Qs:List HP)(hrs:fn.results=⟨rs⟩)(h:Rs E L H rs vs)(hΦ:Φ (one vs) Qs)(hH:∀k,dQ H k→dQ (Qs++[R]) k):
  AI E [] (bodyPostM (fen ro) 0 E.P fn (RetP E Φ R)) .normal n L H:=fun a w g=>LeavesIn_nil (ro:=ro) (tmps:=a.tmps) (h.gives hrs g.f g.hp) ⟨_,Qs,rfl,hΦ,g.hp.imp hH⟩
theorem ai_mark_ {fn:Func}{rs:List ResultVar}{vs:List Value}{Φ:Value→List HP→Prop}{R:HP}{D:Nat}(Qs:List HP)(hrs:fn.results=⟨rs⟩)(ht:Take (dfr D) H H')(h:Rs E L H' rs vs)(hΦ:Φ (one vs) Qs)(hH:∀k,dQ H' k→dQ (Qs++[R]) k) {a:Act} {w:World} (g:Good E n L H a w):
  LeavesInM (fen ro) 0 E.P fn a.tmps (RetP E Φ R) (qJi D) .returning w:=by
 have s1:Sat E.w0 w (pt D (.deferred (some []))::H'):=g.hp.take ht
 have e1:=s1.ptr.1
 have hlt:D<w.heap.size:=(Array.getElem?_eq_some_iff.1 e1).1
 have s2:Sat E.w0 (w.putObj D (.deferred none)) (pt D (.deferred none)::H'):=s1.write ⟨O,O,O,by simp⟩ (World.putObj_heap_same hlt) fun j hj=>World.putObj_heap_other hj
 have s3:Sat E.w0 (w.putObj D (.deferred none)) H':=s2.imp fun k hk=>pU hk
 exact⟨by simp,.inl ⟨D,_,rfl,run_takeDeferred e1,LeavesIn_nil (h.gives hrs g.f s3) ⟨_,Qs,rfl,hΦ,s3.imp hH⟩⟩⟩
theorem qNb {fn:Func}{rs:List ResultVar}{vs:List Value}{Φ:Value→List HP→Prop}{R:HP}{D:Nat}(Qs:List HP)(hrs:fn.results=⟨rs⟩)(ht:Take (dfr D) H H')(h:Rs E L H' rs vs)(hΦ:Φ (one vs) Qs)(hH:∀k,dQ H' k→dQ (Qs++[R]) k):
  AI E (qJi D) (bodyPostM (fen ro) 0 E.P fn (RetP E Φ R)) .ret n L H:=fun a w g=>ai_mark_ (a:=a) Qs hrs ht h hΦ hH g
theorem wO {f:FuncId}{fn:Func}{c:Code}{args:List Value}{Pre:List HP}{Φ:Value→List HP→Prop}(hf:E.P.funcs[f]?=some fn)(hb:fn.body=some c)(hn:fn.ntmps=n)(hl:Nat.ble args.length n=true)
  (h:∀R,WI E none [] c (bodyPostM (fen none) 0 E.P fn (RetP E Φ R)) n (dR 0 args) (Pre++[R])):Ct E f args Pre Φ:=fun R w s=>by
 have hl':=Nat.le_of_ble_eq_true hl
 refine(qAi (ro:=none)).1 (callsIn_of_wp_marks hf hb trivial (h R {tmps:=(⟨args⟩:Array Value)++Array.replicate (fn.ntmps-(⟨args⟩:Array Value).size) undef,defers:=[]} w ⟨⟨?_,O,fun t v hv=>?_⟩,s⟩))
 ·simp[hn];omega
 obtain⟨_,h2⟩:=yC args 0 t v hv
 have hlt:=(List.getElem?_eq_some_iff.1 h2).1
 rw[Array.getElem?_append_left (by simpa using hlt)]
 simpa using h2
theorem qCn {p:HP}{r:List HP}:∀{l:List HP}{k:PH},dQ (l++(p::r)) k→dQ (p::(l++r)) k
 |[],_,h=>h
 |q::l,_,h=>fB (dX (fun _=>qCn (l:=l)) h)
theorem qEu {p:HP}{r:List HP}:∀{l:List HP}{k:PH},dQ (p::(l++r)) k→dQ (l++(p::r)) k
 |[],_,h=>h
 |q::l,_,h=>dX (fun _=>qEu (l:=l)) (fB h)
def qVd:List Nat→List Value→Fr→Fr
 |p::ps,v::vs,L=>qVd ps vs ((p,v)::L)
 |_,_,L=>L
theorem qOa:∀(ps:List Nat)(vs:List Value){L:Fr}{a:Act},GoodF n L a→(∀p∈ps,p<n)→GoodF n (qVd ps vs L) {a with tmps:=(ps.zip vs).foldl (fun t(x:Nat×Value)=>t.setIfInBounds x.1 x.2) a.tmps}
 |[],vs,L,a,g,_=>by cases vs<;>exact g
 |p::ps,[],L,a,g,_=>g
 |p::ps,v::vs,L,a,g,hp=>by
  have g1:GoodF n ((p,v)::L) (a.put (some p) v):=g.put (some p) v (by simpa[inB,Nat.blt_eq]using hp p (by simp))
  exact qOa ps vs g1 (fun q hq=>hp q (by simp[hq]))
theorem qLx {g:Operand}{ps:List Nat}{assign body:Code}{gf:FuncId}{caps:List Value}{N:Nat}{args:Nat→List Value}{J:Nat→HP}{Own:List HP}{La:Nat→Fr}
  (hg:ev L g=some (.func (.func gf) #[] ⟨caps⟩)) (hf:goFn E.P gf=true) (hps:∀p∈ps,p<n) (hsz:∀k,(args k).length=ps.length) (hs:Sub (J 0::Own) H H')
  (hC:∀l(J':Nat→HP),(∀k,k<N→Cy E l (args k) [J' k] (fun v Q=>v= .bool true∧Q=[J' (k+1)]))→Ct E gf (.func (.yield l) #[] #[]::caps) (J' 0::Own) (fun v Q=>Q=J' N::Own))
  (hassign:∀k l B,k<N→WI E (some l) [] assign (fun e a w=>e= .normal∧a.defers=[]∧Good E n (La k) [B] a w) n (qVd ps (args k) L) [B])
  (hbody:∀k l B,k<N→WI E (some l) [] body (fun e a w=>e= .normal∧Sat E.w0 w [J (k+1),B]) n (La k) [J k,B])
  (hnext:∀D,AI E (qJi D) Q .normal n L (dfr D::J N::(Own++H'))):WI E none [] (.rangeFunc g ps.toArray assign body) Q n L H:=fun a w gd=>by
 refine wpIn_rangeFunc ?_
 intro fn hfn
 obtain⟨rec,hrec⟩:∃rec:LoopState→Option Code→Loop,rec=fun st pe=>{state:=st,pending:=pe,fn,tmps:=a.tmps,params:=ps.toArray,assign,body,defers:=w.heap.size}:=⟨_,rfl⟩
 have s1:Sat E.w0 (w.alloc (.deferred (some []))) (dfr w.heap.size::(J 0::(Own++H'))):=(gd.hp.sub hs).new _
 have s2:Sat E.w0 ((w.alloc (.deferred (some []))).alloc (.loop (rec .ready none))) (pt (w.heap.size+1) (.loop (rec .ready none))::dfr w.heap.size::(J 0::(Own++H'))):=by
  have:=s1.new (.loop (rec .ready none))
  rwa [World.size_alloc]at this
 obtain⟨W2,hW2⟩:∃W2,W2=(w.alloc (.deferred (some []))).alloc (.loop (rec .ready none)):=⟨_,rfl⟩
 rw[←hW2]at s2
 refine⟨w.heap.size+1,qJi w.heap.size,W2,{target:= .fn (.func gf) ⟨caps⟩,args:= #[.func (.yield (w.heap.size+1)) #[] #[]]},W2,gf,⟨.func (.yield (w.heap.size+1)) #[] #[]::caps⟩,W2,by rw[hW2,hrec];exact run_enterLoop_outer _ _ _ _ _,?_,fun f' _=>trivial,?_,fun h0=>(by cases h0),?_⟩
 ·have h2:=gd.f.ev hg
  simp[resolve,Deferred.ofValue,zY,h2,rangeCall]
  rfl
 ·have e0:(#[Value.func (.yield (w.heap.size+1)) #[] #[]]:Array Value)++(⟨caps⟩:Array Value)=⟨.func (.yield (w.heap.size+1)) #[] #[]::caps⟩:=by simp
  simp[invoke,rR hf,e0]
 refine qAi.2 ?_
 have hrec1:∀st pe,(rec st pe).params=ps.toArray∧(rec st pe).tmps=a.tmps∧(rec st pe).fn=fn∧(rec st pe).assign=assign∧(rec st pe).body=body∧(rec st pe).state=st∧(rec st pe).pending=pe:=fun st pe=>by subst hrec;exact⟨rfl,rfl,rfl,rfl,rfl,rfl,rfl⟩
 have hrec2:∀st pe st' pe',({rec st pe with state:=st',pending:=pe'}:Loop)=rec st' pe':=fun st pe st' pe'=>by subst hrec;rfl
 have hrec3:∀st pe st',({rec st pe with state:=st'}:Loop)=rec st' pe:=fun st pe st'=>by subst hrec;rfl
 have cy:∀k,k<N→Cy E (w.heap.size+1) (args k) [dQ [pt (w.heap.size+1) (.loop (rec .ready none)),J k]] (fun v Q=>v= .bool true∧Q=[dQ [pt (w.heap.size+1) (.loop (rec .ready none)),J (k+1)]]):=fun k hk R w1 s=>by
  have t1:Sat E.w0 w1 (pt (w.heap.size+1) (.loop (rec .ready none))::J k::[R]):=s.imp fun _ h=>gN (ps:=[pt (w.heap.size+1) (.loop (rec .ready none)),J k]) (r:=[R]) (fun _ x=>x) h
  have e1:=t1.ptr.1
  have hlt:w.heap.size+1<w1.heap.size:=(Array.getElem?_eq_some_iff.1 e1).1
  obtain⟨q1,q2,q3,q4,q5,q6,q7⟩:=hrec1 .ready none
  have hy:=run_yield (P:=E.P) (args:=⟨args k⟩) e1 (by rw[q1];simp[hsz k])
  rw[q1,q2,q3,q4,q5]at hy
  refine⟨_,_,_,_,hy,roundIn_of_wpIn trivial ?_⟩
  have gz:GoodF n (qVd ps (args k) L) {tmps:=(ps.toArray.zip ⟨args k⟩).foldl (fun tmps(x:Nat×Value)=>tmps.setIfInBounds x.1 x.2) a.tmps,defers:=[]}:=by
   have:=qOa ps (args k) gd.f hps
   have e:({a with tmps:=(ps.zip (args k)).foldl (fun t(x:Nat×Value)=>t.setIfInBounds x.1 x.2) a.tmps}:Act)={tmps:=(ps.toArray.zip ⟨args k⟩).foldl (fun tmps(x:Nat×Value)=>tmps.setIfInBounds x.1 x.2) a.tmps,defers:=[]}:=by
    have hd:=gd.f.df
    obtain⟨t,d⟩:=a
    simp only at hd
    subst hd
    simp
   rwa [e]at this
  have ha:=hassign k (w.heap.size+1) (dQ [pt (w.heap.size+1) (.loop (rec .ready none)),J k,R]) hk _ w1 ⟨gz,t1.imp fun _ h=>fT (fun _ x=>x) (by simpa using h)⟩
  refine wpIn_mono ha ?_
  rintro e a2 w2⟨rfl,hdf,g2⟩
  have t2:Sat E.w0 w2 (pt (w.heap.size+1) (.loop (rec .ready none))::J k::[R]):=g2.hp.imp fun _ h=>gN (ps:=[pt (w.heap.size+1) (.loop (rec .ready none)),J k,R]) (r:=[]) (fun _ x=>x) h
  have e2:=t2.ptr.1
  have hlt2:w.heap.size+1<w2.heap.size:=(Array.getElem?_eq_some_iff.1 e2).1
  refine⟨_,run_beginRound e2 q6,?_⟩
  rw[hrec3]
  have t3:Sat E.w0 (w2.putObj (w.heap.size+1) (.loop (rec .busy none))) (pt (w.heap.size+1) (.loop (rec .busy none))::J k::[R]):=t2.write ⟨O,O,O,by simp⟩ (World.putObj_heap_same hlt2) fun j hj=>World.putObj_heap_other hj
  have t4:Sat E.w0 (w2.putObj (w.heap.size+1) (.loop (rec .busy none))) [J k,dQ [pt (w.heap.size+1) (.loop (rec .busy none)),R]]:=t3.imp fun _ h=>fB (dX (fun _ h'=>fT (ps:=[pt (w.heap.size+1) (.loop (rec .busy none)),R]) (r:=[]) (fun _ x=>x) h') (fB h)|>fun h=>fB h)
  have hb:=hbody k (w.heap.size+1) (dQ [pt (w.heap.size+1) (.loop (rec .busy none)),R]) hk a2 _ ⟨g2.f,t4⟩
  have ea:mkA [] a2=a2:=by obtain⟨t,d⟩:=a2;simp only at hdf;subst hdf;rfl
  rw[ea]at hb
  refine wpIn_mono hb ?_
  rintro e a3 w3⟨rfl,t5⟩
  have t6:Sat E.w0 w3 (pt (w.heap.size+1) (.loop (rec .busy none))::R::[J (k+1)]):=(t5.imp fun _ h=>fB h).imp fun _ h=>gN (ps:=[pt (w.heap.size+1) (.loop (rec .busy none)),R]) (r:=[J (k+1)]) (fun _ x=>x) h
  have e3:=t6.ptr.1
  have hlt3:w.heap.size+1<w3.heap.size:=(Array.getElem?_eq_some_iff.1 e3).1
  refine⟨_,_,run_endRound none e3,_,_,O,⟨O,O⟩,?_⟩
  simp only[Option.isNone_none,if_true]
  rw[hrec2]
  have t7:Sat E.w0 (w3.putObj (w.heap.size+1) (.loop (rec .ready none))) (pt (w.heap.size+1) (.loop (rec .ready none))::R::[J (k+1)]):=t6.write ⟨O,O,O,by simp⟩ (World.putObj_heap_same hlt3) fun j hj=>World.putObj_heap_other hj
  exact t7.imp fun _ h=>fT (ps:=[pt (w.heap.size+1) (.loop (rec .ready none)),J (k+1)]) (r:=[R]) (fun _ x=>x) (dX (fun _=>fB) h)
 have hct:=hC (w.heap.size+1) (fun k=>dQ [pt (w.heap.size+1) (.loop (rec .ready none)),J k]) cy (dQ (dfr w.heap.size::H')) _ (s2.imp fun k h=>?_)
 ·refine hct.mono ?_
  rintro e w3⟨v,Qs,rfl,hΦ,hs3⟩
  subst hΦ
  have t1:Sat E.w0 w3 (pt (w.heap.size+1) (.loop (rec .ready none))::J N::(Own++[dQ (dfr w.heap.size::H')])):=hs3.imp fun _ h=>gN (ps:=[pt (w.heap.size+1) (.loop (rec .ready none)),J N]) (r:=Own++[dQ (dfr w.heap.size::H')]) (fun _ x=>x) h
  have e1:=t1.ptr.1
  have hlt:w.heap.size+1<w3.heap.size:=(Array.getElem?_eq_some_iff.1 e1).1
  obtain⟨q1,q2,q3,q4,q5,q6,q7⟩:=hrec1 .ready none
  have he:=run_endLoop (P:=E.P) e1 (by rw[q6];simp)
  rw[hrec3,q7]at he
  refine⟨none,_,he,?_⟩
  have t2:Sat E.w0 (w3.putObj (w.heap.size+1) (.loop (rec .exhausted none))) (pt (w.heap.size+1) (.loop (rec .exhausted none))::J N::(Own++[dQ (dfr w.heap.size::H')])):=t1.write ⟨O,O,O,by simp⟩ (World.putObj_heap_same hlt) fun j hj=>World.putObj_heap_other hj
  have t3:Sat E.w0 (w3.putObj (w.heap.size+1) (.loop (rec .exhausted none))) (dfr w.heap.size::J N::(Own++H')):=t2.imp fun k h=>by
   have h1:=pU h
   have h2:dQ ((J N::Own)++(dfr w.heap.size::H')) k:=lS (l:=J N::Own) h1
   exact qCn (l:=J N::Own) h2
  have:=hnext w.heap.size a _ ⟨gd.f,t3⟩
  have hda:=gd.f.df
  have ea:({mkA [] a with defers:=qJi w.heap.size++(mkA [] a).defers}:Act)=mkA (qJi w.heap.size) a:=by simp[mkA,qJi]
  rw[ea]
  exact this
 have h1:dQ (pt (w.heap.size+1) (.loop (rec .ready none))::J 0::dfr w.heap.size::(Own++H')) k:=dX (fun _=>fB) h
 have h2:dQ (dQ [pt (w.heap.size+1) (.loop (rec .ready none)),J 0]::dfr w.heap.size::(Own++H')) k:=fT (ps:=[pt (w.heap.size+1) (.loop (rec .ready none)),J 0]) (fun _ x=>x) h1
 have h3:dQ (dQ [pt (w.heap.size+1) (.loop (rec .ready none)),J 0]::(Own++(dfr w.heap.size::H'))) k:=dX (fun _=>qEu) h2
 exact jS (l:=dQ [pt (w.heap.size+1) (.loop (rec .ready none)),J 0]::Own) h3
theorem qKj:∀(ps:List HP){H:List HP},Sub ps (ps++H) H
 |[],_=> .nil
 |p::ps,_=> .cons .here (qKj ps)
theorem qUb {g:Operand}{ps:List Nat}{assign body:Code}{gf:FuncId}{caps:List Value}(N:Nat)(args:Nat→List Value)(J:Nat→List HP)(Own:List HP)(La:Nat→Fr)
  (hg:ev L g=some (.func (.func gf) #[] ⟨caps⟩)) (hf:goFn E.P gf=true) (hps:∀p∈ps,p<n) (hsz:∀k,(args k).length=ps.length) (hs:Sub (J 0++Own) H H')
  (hC:∀l(J':Nat→HP),(∀k,k<N→Cy E l (args k) [J' k] (fun v Q=>v= .bool true∧Q=[J' (k+1)]))→Ct E gf (.func (.yield l) #[] #[]::caps) (J' 0::Own) (fun v Q=>Q=J' N::Own))
  (hassign:∀k l B,k<N→WI E (some l) [] assign (fun e a w=>e= .normal∧a.defers=[]∧Good E n (La k) [B] a w) n (qVd ps (args k) L) [B])
  (hbody:∀k l B,k<N→WI E (some l) [] body (fun e a w=>e= .normal∧Sat E.w0 w (J (k+1)++[B])) n (La k) (J k++[B]))
  (hnext:∀D,AI E (qJi D) Q .normal n L (dfr D::(J N++(Own++H')))):WI E none [] (.rangeFunc g ps.toArray assign body) Q n L H:=by
 refine i_heap (H':=dQ (J 0)::(Own++H')) (fun k h=>?_) ?_
 ·have h1:=hs.out h
  rw[List.append_assoc]at h1
  exact fT (fun _ x=>x) h1
 refine qLx (N:=N) (args:=args) (J:=fun k=>dQ (J k)) (Own:=Own) (La:=La) hg hf hps hsz (.cons .here (qKj Own)) hC hassign (fun k l B hk a w gd=>?_) (fun D a w gd=>?_)
 ·refine wpIn_mono (hbody k l B hk a w ⟨gd.f,gd.hp.imp fun _ h=>gN (fun _ x=>x) h⟩) ?_
  rintro e a2 w2⟨h1,h2⟩
  exact⟨h1,h2.imp fun _ h=>fT (fun _ x=>x) h⟩
 exact hnext D a w ⟨gd.f,gd.hp.imp fun _ h=>dX (fun _ x=>gN (fun _ y=>y) x) h⟩
theorem qKy {T:List HP}(hH:∀k,dQ H k→dQ T k):AI E ds (fun e a w=>e= .normal∧Sat E.w0 w T) .normal n L H:=fun _ _ g=>⟨rfl,g.hp.imp hH⟩
end
section
open Go Go.RowKit
theorem wW {α β:Type}{f:α→β}:∀{l:List α},(l.map f).Nodup→∀{a b:α},a∈l→b∈l→f a=f b→a=b
 |[],_,_,_,h,_,_=>by cases h
 |x::l,hn,a,b,ha,hb,e=>by
  have hn':=List.nodup_cons.1 hn
  rcases List.mem_cons.1 ha with rfl|ha'<;>rcases List.mem_cons.1 hb with rfl|hb'
  ·rfl
  ·exact absurd (List.mem_map.2 ⟨b,hb',e.symm⟩) hn'.1
  ·exact absurd (List.mem_map.2 ⟨a,ha',e⟩) hn'.1
  exact wW hn'.2 ha' hb' e
theorem qEn:∀{M:List (Int×Value)},(M.map (·.1)).Nodup→∀{p},p∈M→M.lookup p.1=some p.2
 |[],_,p,h=>by cases h
 |(a,b)::M,hn,p,h=>by
  have hn':=List.nodup_cons.1 hn
  rcases List.mem_cons.1 h with rfl| h
  ·simp[List.lookup]
  have e:(p.1==a)=false:=by
   simp only[beq_eq_false_iff_ne]
   intro e
   exact hn'.1 (List.mem_map.2 ⟨p,h,e⟩)
  simp only[List.lookup,e]
  exact qEn hn'.2 h
theorem qEo {k:Int}{v:Value}:∀{M:List (Int×Value)},M.lookup k=some v→(k,v)∈M
 |[],h=>by cases h
 |(a,b)::M,h=>by
  by_cases e:k=a
  ·subst e
   simp[List.lookup]at h
   subst h
   exact List.mem_cons_self
  have e':(k==a)=false:=by simpa using e
  simp only[List.lookup,e']at h
  exact List.mem_cons_of_mem _ (qEo h)
variable {ki:IntKind}{es:List MapEntry}{c:Nat}{M:List (Int×Value)}
theorem Mp.mem (h:Mp ki es c M){e:MapEntry}(he:e∈es):∃k,e.key= .int ki k∧M.lookup k=some e.val:=by
 have h1:(e.key,e.val)∈prs ki M:=by rw[←h.is];exact List.mem_map.2 ⟨e,he,rfl⟩
 obtain⟨p,hp,e1⟩:=List.mem_map.1 h1
 simp only[Prod.mk.injEq]at e1
 exact⟨p.1,e1.1.symm,by rw[←e1.2];exact qEn h.keys hp⟩
theorem Mp.has (h:Mp ki es c M){k:Int}{v:Value}(hl:M.lookup k=some v):∃e∈es,e.key= .int ki k∧e.val=v:=by
 have h1:(Value.int ki k,v)∈ents es:=by rw[h.is];exact List.mem_map.2 ⟨(k,v),qEo hl,rfl⟩
 obtain⟨e,he,e1⟩:=List.mem_map.1 h1
 simp only[Prod.mk.injEq]at e1
 exact⟨e,he,e1.1,e1.2⟩
theorem Mp.keys' (h:Mp ki es c M):(es.map (·.key)).Nodup:=by
 have e1:es.map (·.key)=(M.map (·.1)).map (Value.int ki):=by
  have:=congrArg (List.map Prod.fst) h.is
  simpa[ents,prs,List.map_map,Function.comp_def]using this
 rw[e1,List.nodup_iff_pairwise_ne,List.pairwise_map]
 exact(List.nodup_iff_pairwise_ne.1 h.keys).imp fun hne e=>hne (by injection e)
def rngF (r b:Nat)(ki:IntKind)(f:Int→Option Value)(done:Int→Bool):HP:=fun h=>∃(es:Array MapEntry)(c:Nat)(M:List (Int×Value))(since c0:Nat)(seen:Array Nat),
 dQ [pt r (.mapIter (some b) since seen c0),pt b (.map es c)] h∧Mp ki es.toList c M∧(∀k,M.lookup k=f k)∧(∀e∈es.toList,e.born<since)∧since≤c0∧since≤c∧∀e∈es.toList,∀k,e.key= .int ki k→seen.contains e.born=done k
theorem rng_map {r b:Nat}{ki:IntKind}{f:Int→Option Value}{done:Int→Bool}{h:PH}(x:rngF r b ki f done h):mapF b ki f h:=by
 obtain⟨es,c,M,since,c0,seen,⟨a1,a2,d,e,_,a3,a4,d',e',hp,_⟩,h1,h2,_⟩:=x
 refine⟨es,c,M,?_,h1,h2⟩
 show h b=_
 rw[e]
 refine kL d ?_
 rw[e']
 exact rF hp
def rngE (r b:Nat)(ki:IntKind)(f:Int→Option Value)(done:Int→Bool)(k:Int)(v:Value):HP:=fun h=>∃(es:Array MapEntry)(c:Nat)(M:List (Int×Value))(since:Nat)(seen:Array Nat)(e1:MapEntry),
 dQ [pt r (.mapIter (some b) since (seen.push e1.born) c),pt b (.map es c)] h∧Mp ki es.toList c M∧(∀k,M.lookup k=f k)∧(∀e∈es.toList,e.born<since)∧since≤c∧(∀e∈es.toList,∀k,e.key= .int ki k→(seen.push e1.born).contains e.born=done k)∧e1∈es.toList∧e1.key= .int ki k∧e1.val=v
theorem rngE_F {r b:Nat}{ki:IntKind}{f:Int→Option Value}{done:Int→Bool}{k:Int}{v:Value}{h:PH}(x:rngE r b ki f done k v h):rngF r b ki f done h:=by
 obtain⟨es,c,M,since,seen,e1,hs,m1,m2,m3,m4,m5,_⟩:=x
 exact⟨es,c,M,since,c,seen.push e1.born,hs,m1,m2,m3,m4,m4,m5⟩
theorem run_next {P:Program}{w:World}{ty:TypeId}{r b since c0 c:Nat}{seen:Array Nat}{es:Array MapEntry}(hr:w.heap[r]?=some (.mapIter (some b) since seen c0))(hb:w.heap[b]?=some (.map es c))(hold:∀x∈es.toList,x.born<since) (hsc:since≤c0):
  ((∀e∈es.toList,seen.contains e.born=true)∧(Instr.next (.pointer (some ⟨r,0,none⟩)) false ty).run P w= .ok (.tuple #[.bool false]) w)∨
  ∃e∈es.toList,seen.contains e.born=false∧∃w1:World,(w1=w∨w1=w.drew)∧(Instr.next (.pointer (some ⟨r,0,none⟩)) false ty).run P w= .ok (.tuple #[.bool true,e.key,e.val]) (ChangeMaps.setBlock w1 r (.mapIter (some b) since (seen.push e.born) c)):=by
 simp only[Instr.next,getObj,Sem.run_bind,Sem.run,hr,hb,Result.andThen,next_test_false seen es since c0 hold hsc,Bool.false_eq_true,if_false]
 have hmem:∀x,x∈(Array.filter (fun e=>!seen.contains e.born) es).toList→x∈es.toList∧seen.contains x.born=false:=fun x hx=>by simpa using hx
 have hall:(Array.filter (fun e=>!seen.contains e.born) es).size=0→∀e∈es.toList,seen.contains e.born=true:=fun h0 e he=>by
  cases hc:seen.contains e.born with
  |true=>rfl
  |false=>
   have h1:e∈Array.filter (fun e=>!seen.contains e.born) es:=Array.mem_filter.2 ⟨by simpa using he,by rw[hc];rfl⟩
   obtain⟨i,hi,_⟩:=Array.mem_iff_getElem.1 h1
   omega
 generalize Array.filter (fun e=>!seen.contains e.born) es=Lf at hmem hall ⊢
 have e1:Lf.filter (fun x=>decide (x.born<since))=Lf:=Array.filter_eq_self.2 (fun x hx=>by simpa using hold x (hmem x (by simpa using hx)).1)
 have e2:Lf.filter (fun x=>decide (x.born≥since))= #[]:=by
  rw[Array.filter_eq_empty_iff]
  intro x hx
  have:=hold x (hmem x (by simpa using hx)).1
  simp
  omega
 simp only[e1,e2,Array.append_empty]
 by_cases h0:Lf.size=0
 ·left
  refine⟨hall h0,?_⟩
  have:Lf= #[]:=Array.eq_empty_of_size_eq_zero h0
  subst this
  simp[choose,Sem.run,Question.forced]
 right
 have hne:Lf.isEmpty=false:=by simp[Array.isEmpty,h0]
 simp only[hne,Bool.false_eq_true,if_false,Array.empty_append,Array.size_map]
 have hch:∃(j:Nat)(w1:World),j<Lf.size∧(w1=w∨w1=w.drew)∧(choose (Question.mapNext Lf.size)).run P w= .ok j w1:=by
  by_cases hf:Lf.size≤1
  ·exact⟨0,w,oO,.inl O,by simp[choose,Sem.run,Question.forced,hf]⟩
  exact⟨_,w.drew,Nat.mod_lt _ oO,.inr O,by
   simp only[choose,Sem.run,Question.forced,decide_eq_true_eq,hf,if_false,Question.cut]
   rfl⟩
 obtain⟨j,w1,hj,hal,hrun⟩:=hch
 have h3:=hmem Lf[j] (by simp)
 refine⟨Lf[j],h3.1,h3.2,w1,hal,?_⟩
 have hr1:w1.heap[r]?=some (.mapIter (some b) since seen c0):=by
  rcases hal with rfl|rfl
  ·exact hr
  exact hr
 simp only[hrun,Array.getElem?_map,Array.getElem?_eq_getElem hj,Option.map_some,Sem.run_bind,Result.andThen,setObj,Sem.run]
 rw[hr1]
 rfl
variable {E:Env}{n:Nat}{L:Fr}{S S' H H':List HP}{ty:TypeId}{pos:String}{af:Array Edge}{d:Option Nat}{gd:Option (Nat×Bool)}{K:Value→List HP→Prop}
theorem qOe {x:Operand}{b:Nat}{t kt et:TypeId}{ki:IntKind}{f:Int→Option Value}(ht:E.P.underlying t=some (.map kt et))(hx:ev L x=some (.map (some b)))(hm:Take (mapF b ki f) H H')(hk:∀r,K (.pointer (some ⟨r,0,none⟩)) (rngF r b ki f (fun _=>false)::H')):Ld E n L H ⟨d,.range t x,ty,pos,af,gd⟩ K:=fun Q next a w g hn=>by
 obtain⟨es,c,M,hh,he,hf,s1⟩:=qGw (g.hp.take hm)
 have hrun:(execOp a.eval ⟨d,.range t x,ty,pos,af,gd⟩).run E.P w= .ok (.value (.pointer (some ⟨w.heap.size,0,none⟩))) (w.alloc (.mapIter (some b) c #[] c)):=by
  simp[execOp,g.f.ev hx,run_range_map w t kt et b es c ht hh]
 unfold Oper.wp
 rw[hrun,Oper.upon_value]
 refine hn _ _ _ (hk _) ((s1.new (.mapIter (some b) c #[] c)).imp fun k h=>?_)
 refine fT (ps:=[pt w.heap.size (.mapIter (some b) c #[] c),pt b (.map es c)]) (fun h' hs=>?_) h
 exact⟨es,c,M,c,c,#[],hs,he,hf,he.old,Nat.le_refl _,Nat.le_refl _,fun e _ k _=>by simp⟩
theorem qUk {x:Operand}{r b:Nat}{ki:IntKind}{f:Int→Option Value}{done:Int→Bool}(hx:ev L x=some (.pointer (some ⟨r,0,none⟩)))(hm:Take (rngF r b ki f done) H H')(h0:(∀k v,f k=some v→done k=true)→K (.tuple #[.bool false]) (rngF r b ki f done::H'))
  (h1:∀k v,f k=some v→done k=false→K (.tuple #[.bool true,.int ki k,v]) (rngE r b ki f (fun x=>x==k||done x) k v::H')):Ld E n L H ⟨d,.next x false,ty,pos,af,gd⟩ K:=fun Q next a w g hn=>by
 have s0:=g.hp.take hm
 obtain⟨q1,q2,dd,e,⟨es,c,M,since,c0,seen,hs,m1,m2,m3,m4,m5,m6⟩,hr⟩:=s0.hp
 have s1:Sat E.w0 w (pt r (.mapIter (some b) since seen c0)::pt b (.map es c)::H'):=⟨s0.os,s0.tape,s0.output,s0.size,s0.old,by rw[e];exact mZ hs hr dd⟩
 have hr1:=s1.ptr.1
 have hb1:=(s1.imp fun _=>fB).ptr.1
 have hlt:r<w.heap.size:=(Array.getElem?_eq_some_iff.1 hr1).1
 have hpack:∀(seen':Array Nat)(c1:Nat)(done':Int→Bool),since≤c1→(∀e∈es.toList,∀k,e.key= .int ki k→seen'.contains e.born=done' k)→∀k,dQ (pt r (.mapIter (some b) since seen' c1)::pt b (.map es c)::H') k→dQ (rngF r b ki f done'::H') k:=fun seen' c1 done' g1 g2 k h=>by
  refine fT (ps:=[pt r (.mapIter (some b) since seen' c1),pt b (.map es c)]) (fun h' hs'=>?_) h
  exact⟨es,c,M,since,c1,seen',hs',m1,m2,m3,g1,m5,g2⟩
 rcases run_next (P:=E.P) (ty:=ty) hr1 hb1 m3 m4 with⟨hall,hrun⟩|⟨e1,he1,hs1,w1,hw1,hrun⟩
 ·have hrun':(execOp a.eval ⟨d,.next x false,ty,pos,af,gd⟩).run E.P w= .ok (.value (.tuple #[.bool false])) w:=by
   simp[execOp,g.f.ev hx,hrun]
  unfold Oper.wp
  rw[hrun',Oper.upon_value]
  refine hn _ _ _ (h0 fun k v hk=>?_) (s1.imp (hpack seen c0 done m4 m6))
  obtain⟨e2,he2,hk2,_⟩:=m1.has ((m2 k).trans hk)
  rw[←m6 e2 he2 k hk2]
  exact hall e2 he2
 have hrun':(execOp a.eval ⟨d,.next x false,ty,pos,af,gd⟩).run E.P w= .ok (.value (.tuple #[.bool true,e1.key,e1.val])) (ChangeMaps.setBlock w1 r (.mapIter (some b) since (seen.push e1.born) c)):=by
  simp[execOp,g.f.ev hx,hrun]
 unfold Oper.wp
 rw[hrun',Oper.upon_value]
 obtain⟨k1,hk1,hl1⟩:=m1.mem he1
 rw[hk1]
 have sw:Sat E.w0 w1 (pt r (.mapIter (some b) since seen c0)::pt b (.map es c)::H'):=by
  rcases hw1 with rfl|rfl
  ·exact s1
  exact s1.drew
 have hz:w1.heap.size=w.heap.size:=by rcases hw1 with rfl|rfl<;>rfl
 have sx:Sat E.w0 (ChangeMaps.setBlock w1 r (.mapIter (some b) since (seen.push e1.born) c)) (pt r (.mapIter (some b) since (seen.push e1.born) c)::pt b (.map es c)::H'):=sw.write ⟨O,O,O,by simp[ChangeMaps.setBlock]⟩ (by simp[ChangeMaps.setBlock,hz,hlt]) fun j hj=>by
  simp only[ChangeMaps.setBlock]
  rw[Array.getElem?_setIfInBounds_ne (by intro e;exact hj e.symm)]
 refine hn _ _ _ (h1 k1 e1.val ((m2 k1).symm.trans hl1) (by rw[←m6 e1 he1 k1 hk1];exact hs1)) (sx.imp fun k0 h0=>fT (ps:=[pt r (.mapIter (some b) since (seen.push e1.born) c),pt b (.map es c)]) (fun h' hs'=>⟨es,c,M,since,seen,e1,hs',m1,m2,m3,m5,fun e2 he2 k hk2=>?_,he1,hk1,O⟩) h0)
 rw[Array.contains_push,m6 e2 he2 k hk2]
 show _=(k==k1||done k)
 by_cases hkk:k=k1
 ·subst hkk
  have:e2=e1:=wW m1.keys' he2 he1 (hk2.trans hk1.symm)
  subst this
  simp
 have hbb:(e2.born==e1.born)=false:=by
  simp only[beq_eq_false_iff_ne]
  intro hb2
  have:=wW m1.born he2 he1 hb2
  subst this
  rw[hk1]at hk2
  injection hk2 with _ hk3
  exact hkk hk3.symm
 have hkb:(k==k1)=false:=by simpa using hkk
 rw[hbb,hkb,Bool.or_false,Bool.false_or]
theorem qWx {x:Operand}{r b:Nat}{ki:IntKind}{f:Int→Option Value}{done:Int→Bool}{k:Int}{v:Value}(hx:ev L x=some (.pointer (some ⟨r,0,none⟩)))(hm:Take (rngE r b ki f done k v) S S'):Yl E n L S ⟨d,.entry x,ty,pos,af,gd⟩ (.tuple #[.int ki k,v]):=fun a w g s=>by
 have s0:=s.take hm
 obtain⟨q1,q2,dd,e,⟨es,c,M,since,seen,e1,hs,m1,m2,m3,m4,m5,he1,hk1,hv1⟩,hr⟩:=s0.hp
 have s1:Sat E.w0 w (pt r (.mapIter (some b) since (seen.push e1.born) c)::pt b (.map es c)::S'):=⟨s0.os,s0.tape,s0.output,s0.size,s0.old,by rw[e];exact mZ hs hr dd⟩
 have hr1:=s1.ptr.1
 have hb1:=(s1.imp fun _=>fB).ptr.1
 have hf:es.find? (fun e=>e.born==e1.born)=some e1:=by
  cases h:es.find? (fun e=>e.born==e1.born)with
  |none=>
   have h2:=Array.find?_eq_none.1 h e1 (Array.mem_toList_iff.1 he1)
   simp at h2
  |some e2=>
   have h2:=Array.find?_some h
   have h3:=Array.mem_of_find?_eq_some h
   have:e2=e1:=wW m1.born (Array.mem_toList_iff.2 h3) he1 (by simpa using h2)
   rw[this]
 simp[execOp,g.ev hx,Instr.entry,getObj,Sem.run_bind,Sem.run,hr1,hb1,Result.andThen,Array.back?_push,hf,hk1,hv1]
end
end Sl
