import Derived.Test.YtejcjelmpbkcbaaGreatDoorQ06
import Derived.Laws.Shifts
set_option linter.all false
set_option maxHeartbeats 1000000
namespace Eg
def wK {α:Type}{P:List α→Prop}(h0:P [])(h1:∀l x,P l→P (l++[x])):∀l,P l:=fun l=>by
 have:∀r:List α,P r.reverse:=by
  intro r;induction r with
  |nil=>exact h0
  |cons a r ih=>rw[List.reverse_cons];exact h1 _ _ ih
 simpa using this l.reverse
def qAb (rs:List (Nat×Nat))(x:Nat):List (Nat×Nat):=match rs.getLast? with
 |some (y,k)=>if y=x then rs.dropLast++[(y,k+1)]else rs++[(x,1)]
 |none=>[(x,1)]
def dE (l:List Nat):List (Nat×Nat):=l.foldl qAb []
def iJ (l:List Nat)(x:Nat):dE (l++[x])=qAb (dE l) x:=by simp[dE]
def qI (x:Nat):qAb [] x=[(x,1)]:=rfl
def jJ (a:List (Nat×Nat))(x k:Nat):qAb (a++[(x,k)]) x=a++[(x,k+1)]:=by simp[qAb]
def kG (a:List (Nat×Nat)){x y k:Nat}(h:y≠x):qAb (a++[(y,k)]) x=a++[(y,k)]++[(x,1)]:=by simp[qAb,h]
def qOo (l:List Nat)(x:Nat):∃a k,dE (l++[x])=a++[(x,k)]∧1≤k:=by
 rw[iJ];rcases bu (dE l)with h|⟨a,⟨y,k⟩,h⟩
 ·exact⟨[],1,by rw[h];rfl,ai _⟩
 rw[bv]at h;rw[h];by_cases hy:y=x
 ·subst hy;exact⟨a,k+1,jJ a y k,oO⟩
 exact⟨a++[(y,k)],1,kG a hy,ai _⟩
def qGw (rs:List (Nat×Nat))(x:Nat):(qAb rs x).length≤rs.length+1:=by
 rcases bu rs with h|⟨a,⟨y,k⟩,h⟩
 ·subst h;simp[qI]
 rw[bv]at h;subst h;by_cases hy:y=x
 ·subst hy;rw[jJ];simp
 rw[kG a hy];simp
def rY:∀(l:List Nat),(dE l).length≤l.length:=by
 refine wK (by simp[dE]) (fun l x ih=>?_);rw[iJ];have:=qGw (dE l) x;simp;omega
def flat:List (Nat×Nat)→List Nat
 |[]=>[]
 |g::r=>List.replicate g.2 g.1++flat r
def iG (a b:List (Nat×Nat)):flat (a++b)=flat a++flat b:=by
 induction a with
 |nil=>rfl
 |cons g a ih=>simp[flat,ih]
def lD (l:List Nat):flat (dE l)=l:=by
 refine wK (P:=fun l=>flat (dE l)=l) O ?_ l;intro l x ih;rw[iJ];rcases bu (dE l)with h|⟨a,⟨y,k⟩,h⟩
 ·rw[h]at ih ⊢;rw[←ih];rfl
 rw[bv]at h;rw[h]at ih ⊢;by_cases hy:y=x
 ·subst hy;rw[jJ,←ih,iG,iG];simp[flat,lg]
 rw[kG a hy,iG,ih];simp[flat]
def nP (l:List Nat):∀g∈dE l,1≤g.2∧g.2≤l.length:=by
 refine wK (P:=fun l=>∀g∈dE l,1≤g.2∧g.2≤l.length) (by intro g h;simp[dE]at h) ?_ l;intro l x ih;rw[iJ];rcases bu (dE l)with h|⟨a,⟨y,k⟩,h⟩
 ·rw[h];intro g hg;simp[qI]at hg;subst hg;simp
 rw[bv]at h;rw[h]at ih ⊢;have hk:=ih (y,k) (by simp);intro g hg;by_cases hy:y=x
 ·subst hy;rw[jJ]at hg;simp at hg;rcases hg with hg|rfl
  ·have:=ih g (by simp[hg]);simp;omega
  simp at hk ⊢;omega
 rw[kG a hy]at hg;simp at hg;rcases hg with hg|rfl|rfl
 ·have:=ih g (by simp[hg]);simp;omega
 ·simp at hk ⊢;omega
 simp
end Eg
namespace Go.Proofs.YtejcjelmpbkcbaaGreatDoor
open Go Go.RowKit Sl Eg
set_option maxRecDepth 10000
variable {E:Env}
def idC (l:List Nat):List Value:=l.map fun x=> .int .i64 (x:Nat)
def gL {l:List Nat}{i x:Nat}(h:l[i]?=some x)(k:Nat)(hk:k=i):(idC l)[k]?=some (.int .i64 (x:Nat)):=by subst hk;simp[idC,h]
structure RnG where
 k:Nat
 rs:List (Nat×Nat)
 p:Option Addr
 c:Nat
def ct_Runs (hE:Seat E){g c:Nat}{ids:List Nat}(hl:ids.length<1048577):
  Ct E 245 [.slice (some ⟨g,0,none⟩) ids.length c] [sl (some ⟨g,0,none⟩) c 56 1 ids.length (idC ids)]
   (fun v Q=>∃p c',v= .slice p (dE ids).length c'∧Q=[sl p c' 360 2 (dE ids).length (gsC (dE ids)),sl (some ⟨g,0,none⟩) c 56 1 ids.length (idC ids)]):=by
 refine bO (hE.fn Tryz.func245) O O O (fun R=>?_);simp only[dX,uV,uW];refine gg19 ?_;refine eQ (fun x:RnG=>[(0,.slice (some ⟨g,0,none⟩) ids.length c),(3,.slice x.p x.rs.length x.c),(6,.slice (some ⟨g,0,none⟩) ids.length c),(7,.int .i64 (ids.length:Nat)),(8,.int .i64 (x.k:Nat))]) (fun x=>[sl x.p x.c 360 2 x.rs.length (gsC x.rs),sl (some ⟨g,0,none⟩) c 56 1 ids.length (idC ids),R]) (fun x=>ids.length-x.k) (fun x=>x.k≤ids.length∧x.rs=dE (ids.take x.k)) ⟨0,[],none,0⟩ ?_ ?_ ?_ ?_
 ·exact⟨au _,O⟩
 ·exact⟨O,O,O,O,O,trivial⟩
 ·apply cO (gU (t:=360) (sz:=2));exact uI
 rintro⟨k,rs,p,c1⟩⟨hk,hrs⟩;simp only at hk hrs ⊢;refine gg6 ?_;refine bE O (fun hlt=>?_) (fun hlt=>?_)
 ·have hkn:k<ids.length:=oO;obtain⟨x,hx⟩:∃x,ids[k]?=some x:=⟨_,ag hkn⟩;have e1:ids.take (k+1)=ids.take k++[x]:=by rw[ic,hx];rfl
  have f0:=gL hx ((k:Nat):Int).toNat oO;have hrl:=rY (ids.take k);rw[←hrs,jv]at hrl;refine gg13 ?_;refine nM (fun x:RnG=>[(0,.slice (some ⟨g,0,none⟩) ids.length c),(3,.slice x.p x.rs.length x.c),(6,.slice (some ⟨g,0,none⟩) ids.length c),(7,.int .i64 (ids.length:Nat)),(8,.int .i64 (k:Nat))]) (fun x=>[sl x.p x.c 360 2 x.rs.length (gsC x.rs),sl (some ⟨g,0,none⟩) c 56 1 ids.length (idC ids),R]) (fun y=>∃a m,y.rs=a++[(x,m)]∧dE (ids.take (k+1))=a++[(x,m+1)]∧a.length≤k∧m≤k) ?_ ?_
  ·refine gg5 ?_;refine eF 15 O (fun h0=>?_) (fun h0=>?_)
   ·obtain rfl:k=0:=by omega
    obtain rfl:rs=[]:=by rw[hrs];rfl
    refine gg15 ?_;refine uU ?_;refine aU (hE.t O) (hE.t O) O O O (fun b27=>?_);refine uU ?_;apply bU (hE.t O) (hE.t O) O O O
    ·exact uK
    ·exact uK
    ·rfl
    ·rfl
    ·omega
    ·omega
    ·(unfold maxLen;omega)
    intro g28 c28 n28 x28 hn28 hx28;refine gg2 ?_;obtain rfl:n28=[(x,0)].length:=hn28;obtain rfl:x28=gsC [(x,0)]:=hx28;refine fZ (ι:=RnG) ⟨0,[(x,0)],some ⟨g28,0,none⟩,c28⟩ ⟨[],0,O,by rw[e1];rfl,ai _,ai _⟩ ⟨rfl,rfl,rfl,rfl,rfl,trivial⟩ ?_;exact uI
   obtain⟨j,rfl⟩:∃j,k=j+1:=⟨k-1,oO⟩;obtain⟨y,hy⟩:∃y,ids[j]?=some y:=⟨_,ag oO⟩;have f1:=gL hy (((j+1:Nat):Int)-1).toNat oO;have e2:ids.take (j+1)=ids.take j++[y]:=by rw[ic,hy];rfl
   obtain⟨a,m,hlast,hm⟩:=qOo (ids.take j) y;rw[←e2,←hrs]at hlast;have hmle:=(nP (ids.take (j+1)) (y,m) (by rw[←hrs,hlast];simp)).2;simp only[jv]at hmle;subst hlast;have hal:(a++[(y,m)]).length=a.length+1:=by simp
   refine gg17 ?_;refine bE O (fun hne=>?_) (fun hne=>?_)
   ·refine gg4 ?_;refine uU ?_;refine aU (hE.t O) (hE.t O) O O O (fun b27=>?_);refine uU ?_;apply bU (hE.t O) (hE.t O) O O O
    ·exact uK
    ·exact uK
    ·rfl
    ·rfl
    ·omega
    ·omega
    ·(unfold maxLen;omega)
    intro g28 c28 n28 x28 hn28 hx28;refine gg2 ?_;obtain rfl:n28=(a++[(y,m)]++[(x,0)]).length:=by rw[hn28];simp
    obtain rfl:x28=gsC (a++[(y,m)]++[(x,0)]):=by rw[hx28,vG (a++[(y,m)])];rfl
    refine fZ (ι:=RnG) ⟨0,a++[(y,m)]++[(x,0)],some ⟨g28,0,none⟩,c28⟩ ⟨a++[(y,m)],0,O,by rw[e1,iJ,←hrs,kG a oO],oO,au _⟩ ⟨rfl,rfl,rfl,rfl,rfl,trivial⟩ ?_;exact uI
   obtain rfl:y=x:=by omega
   refine gg1 ?_;refine fZ (ι:=RnG) ⟨0,a++[(y,m)],p,c1⟩ ⟨a,m,O,by rw[e1,iJ,←hrs,jJ],oO,oO⟩ ⟨rfl,rfl,rfl,rfl,rfl,trivial⟩ ?_;exact uI
  clear hrl hrs rs p c1;rintro⟨_,rs,p,c1⟩⟨a,m,hr1,hr2,hak,hmk⟩;simp only at hr1 ⊢;subst hr1;have hal:(a++[(x,m)]).length=a.length+1:=by simp
  rw[hal];refine jG (p:=sl p c1 360 2 (a.length+1) (gsC (a++[(x,m)]))) uK (fun _ h=>fA h oO) ?_;rintro⟨g1,rfl⟩;have hget:(a++[(x,m)])[a.length]?=some (x,m):=by simp
  have ea:0+(((a.length+1:Nat):Int)-1).toNat*2+1=a.length*2+1:=oO;have f1:(gsC (a++[(x,m)]))[0+(((a.length+1:Nat):Int)-1).toNat*2+1]?=some (.int .i64 (m:Nat)):=by rw[ea];exact(qCr hget).2
  have hset:bX (gsC (a++[(x,m)])) (0+(((a.length+1:Nat):Int)-1).toNat*2+1) (bP (.int .i64 ((m:Int)+1)))=gsC (a++[(x,m+1)]):=by
   rw[ea,show(m:Int)+1=((m+1:Nat):Int) by omega];have:=gsC_set hget (m+1);simp only[bX,bP];rw[this];simp
  refine gg15 ?_;rw[hset];refine gg4 ?_;refine jR 8 (.int .i64 ((k+1:Nat):Int)) O (bW oO) ?_;refine jR 3 (.slice (some ⟨g1,0,none⟩) (a++[(x,m+1)]).length c1) O (by simp) ?_;refine bS (ι:=RnG) (j:=⟨k+1,a++[(x,m+1)],some ⟨g1,0,none⟩,c1⟩) ?_ ?_ ?_ ?_
  ·exact⟨by show k+1≤_;omega,hr2.symm⟩
  ·show ids.length-(k+1)<ids.length-k;omega
  ·exact⟨O,O,O,O,O,trivial⟩
  rw[show(a++[(x,m+1)]).length=a.length+1 by simp];exact uI
 refine gg12 ?_;apply cB
 ·rfl
 ·(apply Rs.tmp rfl;exact Rs.nil)
 ·rw[bz oO]at hrs;subst hrs;exact⟨p,c1,O,O⟩
 rw[bz oO]at hrs;subst hrs;exact uI
end Go.Proofs.YtejcjelmpbkcbaaGreatDoor
namespace Eg
def stF (ks:List Nat):Nat→Nat×List (Nat×Nat)
 |0=>(0,[])
 |k+1=>if k+1<ks.length∧ks[k+1]?=ks[k]? then stF ks k
   else(k+1,if 1<k+1-(stF ks k).1 then(stF ks k).2++[((stF ks k).1,k+1-(stF ks k).1)]else(stF ks k).2)
def gX (ks:List Nat):List (Nat×Nat):=(stF ks ks.length).2
def qRc (ks:List Nat):∀k,(stF ks k).1≤k
 |0=>ai _
 |k+1=>by
  have:=qRc ks k;unfold stF;split
  ·omega
  exact ai _
def zR (ks:List Nat):∀k,(stF ks k).2.length≤k
 |0=>ai _
 |k+1=>by
  have:=zR ks k;unfold stF;split
  ·omega
  simp only;split
  ·simp;omega
  omega
def Spans:List (Nat×Nat)→Nat→Nat→Prop
 |[],a,e=>a≤e
 |(f,n)::l,a,e=>a≤f∧2≤n∧Spans l (f+n) e
def qGn:∀{l:List (Nat×Nat)}{a e:Nat}{f n:Nat},Spans l a e→e≤f→2≤n→Spans (l++[(f,n)]) a (f+n)
 |[],a,e,f,n,h,h1,h2=>⟨jh h h1,h2,ai _⟩
 |(f',n')::l,a,e,f,n,⟨h0,h3,h4⟩,h1,h2=>⟨h0,h3,qGn h4 h1 h2⟩
def zP:∀{l:List (Nat×Nat)}{a e e':Nat},Spans l a e→e≤e'→Spans l a e'
 |[],a,e,e',h,h1=>jh h h1
 |(f',n')::l,a,e,e',⟨h0,h3,h4⟩,h1=>⟨h0,h3,zP h4 h1⟩
def qMo (ks:List Nat):∀k,Spans (stF ks k).2 0 (stF ks k).1
 |0=>ai _
 |k+1=>by
  have h:=qMo ks k;have hle:=qRc ks k;unfold stF;split
  ·exact h
  simp only;split
  ·rename_i h1
   have:=qGn (f:=(stF ks k).1) (n:=k+1-(stF ks k).1) h (ai _) oO;rwa [show(stF ks k).1+(k+1-(stF ks k).1)=k+1 by omega]at this
  exact zP h oO
def tN (ks:List Nat):Spans (gX ks) 0 ks.length:=zP (qMo ks _) (qRc ks _)
def qAp (f:Nat):Nat→List Nat
 |0=>[]
 |j+1=>qAp f j++[f+2*j]
def iB:List (Nat×Nat)→List Nat
 |[]=>[]
 |(f,n)::l=>qAp f (n/2)++iB l
def qEh (a b:List (Nat×Nat)):iB (a++b)=iB a++iB b:=by
 induction a with
 |nil=>rfl
 |cons g a ih=>obtain⟨f,n⟩:=g;simp only[ik,iB,ih,ah]
def biF (ks:List Nat)(c:Nat):Nat→List Nat
 |0=>[]
 |k+1=>biF ks c k++if k+1<ks.length∧bt (ks[k]?.getD 0) (c/2)=c%2∧bt (ks[k+1]?.getD 0) (c/2)≠c%2 then[k]else[]
def gZ (ks:List Nat)(c:Nat):List Nat:=if c=122 then iB (gX ks)else biF ks c (ks.length-1)
def Gaps:List Nat→Nat→Nat→Prop
 |[],a,e=>a≤e
 |i::l,a,e=>a≤i∧i+2≤e∧Gaps l (i+2) e
def rQ:∀{l m:List Nat}{a b e:Nat},Gaps l a b→Gaps m b e→b≤e→Gaps (l++m) a e
 |[],[],a,b,e,h,h1,h2=>jh h h1
 |[],i::m,a,b,e,h,⟨h1,h2,h3⟩,_=>⟨jh h h1,h2,h3⟩
 |i::l,m,a,b,e,⟨h0,h1,h2⟩,h3,h4=>⟨h0,oO,rQ h2 h3 h4⟩
def qCo:∀{l:List Nat}{a a' e e':Nat},Gaps l a e→a'≤a→e≤e'→Gaps l a' e'
 |[],a,a',e,e',h,h1,h2=>jh h1 (jh h h2)
 |i::l,a,a',e,e',⟨h0,h3,h4⟩,h1,h2=>⟨jh h1 h0,jh h3 h2,qCo h4 (ai _) h2⟩
def qFw (f:Nat):∀j,Gaps (qAp f j) f (f+2*j)
 |0=>ai _
 |j+1=>rQ (qFw f j) (m:=[f+2*j]) ⟨ai _,oO,show f+2*j+2≤f+2*(j+1) by omega⟩ oO
def qJb:∀{l:List (Nat×Nat)}{a e:Nat},Spans l a e→a≤e
 |[],_,_,h=>h
 |(f,n)::l,a,e,⟨h0,_,h⟩=>by have:=qJb h;omega
def qRg:∀{l:List (Nat×Nat)}{a e:Nat},Spans l a e→Gaps (iB l) a e
 |[],a,e,h=>h
 |(f,n)::l,a,e,⟨h0,h1,h2⟩=>by
  have h3:=qJb h2;exact rQ (b:=f+n) (qCo (qFw f (n/2)) h0 oO) (qRg h2) h3
def gaps_le:∀{l:List Nat}{a e:Nat},Gaps l a e→a≤e
 |[],_,_,h=>h
 |i::l,a,e,⟨h0,h1,_⟩=>by omega
def qCn:∀{l:List Nat}{a e:Nat},Gaps l a e→a+2*l.length≤e
 |[],a,e,h=>h
 |i::l,a,e,⟨h0,h1,h2⟩=>by have:=qCn h2;simp;omega
def qUa (ks:List Nat)(c:Nat):∀k,k≤ks.length-1→Gaps (biF ks c k) 0 (k+1)∧(bt (ks[k]?.getD 0) (c/2)=c%2→Gaps (biF ks c k) 0 k)
 |0,_=>⟨au _,fun _=>ai _⟩
 |k+1,hk=>by
  obtain⟨h1,h2⟩:=qUa ks c k oO;unfold biF;split
  ·rename_i h
   have:Gaps (biF ks c k++[k]) 0 (k+2):=rQ (h2 h.2.1) ⟨ai _,ai _,ai _⟩ oO;exact⟨this,fun h3=>absurd h3 h.2.2⟩
  rw[aj];exact⟨qCo h1 (ai _) oO,fun _=>h1⟩
def qAi (ks:List Nat)(c:Nat):Gaps (gZ ks c) 0 ks.length:=by
 unfold gZ;split
 ·exact qRg (tN ks)
 by_cases h:ks.length=0
 ·rw[h];exact ai _
 have:=(qUa ks c (ks.length-1) (ai _)).1;rwa [show ks.length-1+1=ks.length by omega]at this
def qFg (ks:List Nat)(c:Nat):∀k,(biF ks c k).length≤k
 |0=>ai _
 |k+1=>by have:=qFg ks c k;unfold biF;split <;>simp <;>omega
end Eg
namespace Go.Proofs.YtejcjelmpbkcbaaGreatDoor
open Go Go.RowKit Sl Eg
set_option maxRecDepth 10000
variable {E:Env}
def kyC (l:List Nat):List Value:=l.map fun x=> .int .u64 (x:Nat)
def qHu {l:List Nat}{i x:Nat}(h:l[i]?=some x)(k:Nat)(hk:k=i):(kyC l)[k]?=some (.int .u64 (x:Nat)):=by subst hk;simp[kyC,h]
structure StG where
 k:Nat
 f:Nat
 rs:List (Nat×Nat)
 p:Option Addr
 c:Nat
def qKf (hE:Seat E){g c:Nat}{ks:List Nat}(hl:ks.length<1048577):
  Ct E 261 [.slice (some ⟨g,0,none⟩) ks.length c] [sl (some ⟨g,0,none⟩) c 91 1 ks.length (kyC ks)]
   (fun v Q=>∃p c',v= .slice p (gX ks).length c'∧Q=[sl p c' 387 2 (gX ks).length (gsC (gX ks)),sl (some ⟨g,0,none⟩) c 91 1 ks.length (kyC ks)]):=by
 refine bO (hE.fn Tryz.func261) O O O (fun R=>?_);simp only[dX,uV,uW];refine gg24 ?_;refine eQ (fun x:StG=>[(0,.slice (some ⟨g,0,none⟩) ks.length c),(3,.slice x.p x.rs.length x.c),(4,.int .i64 (x.f:Nat)),(7,.slice (some ⟨g,0,none⟩) ks.length c),(8,.int .i64 (ks.length:Nat)),(9,.int .i64 (x.k:Nat))]) (fun x=>[sl x.p x.c 387 2 x.rs.length (gsC x.rs),sl (some ⟨g,0,none⟩) c 91 1 ks.length (kyC ks),R]) (fun x=>ks.length-x.k) (fun x=>x.k≤ks.length∧x.f=(stF ks x.k).1∧x.rs=(stF ks x.k).2) ⟨0,0,[],none,0⟩ ?_ ?_ ?_ ?_
 ·exact⟨au _,O,O⟩
 ·exact⟨O,O,O,O,O,O,trivial⟩
 ·apply cO (gU (t:=387) (sz:=2));exact uI
 rintro⟨k,f,rs,p,c1⟩⟨hk,hf,hrs⟩;simp only at hk hf hrs ⊢;refine gg6 ?_;refine bE O (fun hlt=>?_) (fun hlt=>?_)
 ·have hkn:k<ks.length:=oO;obtain⟨x,hx⟩:∃x,ks[k]?=some x:=⟨_,ag hkn⟩;have f0:=qHu hx ((k:Nat):Int).toNat oO;have hfk:f≤k:=hf▸qRc ks k;have hrl:rs.length≤k:=hrs▸zR ks k;refine gg19 ?_;refine eF 17 O (fun h0=>?_) (fun h0=>?_)
  ·obtain⟨y,hy⟩:∃y,ks[k+1]?=some y:=⟨_,ag oO⟩;have f1:=qHu hy (((k:Nat):Int)+1).toNat oO;refine gg23 ?_;refine bE O (fun he=>?_) (fun he=>?_)
   ·obtain rfl:y=x:=by omega
    have eS:stF ks (k+1)=stF ks k:=by rw[stF];exact if_pos ⟨oO,by rw[hx,hy]⟩
    refine gg8 ?_;refine jR 9 (.int .i64 ((k+1:Nat):Int)) O (bW oO) ?_;refine bS (ι:=StG) (j:=⟨k+1,f,rs,p,c1⟩) ?_ ?_ ?_ ?_
    ·exact⟨by show k+1≤_;omega,by rw[eS];exact hf,by rw[eS];exact hrs⟩
    ·show ks.length-(k+1)<ks.length-k;omega
    ·exact⟨O,O,O,O,O,O,trivial⟩
    exact uI
   have hno:¬(k+1<ks.length∧ks[k+1]?=ks[k]?):=by rintro⟨_,h⟩;rw[hx,hy]at h;apply he;injection h with h;rw[h]
   have eS:stF ks (k+1)=(k+1,if 1<k+1-f then rs++[(f,k+1-f)]else rs):=by rw[stF,if_neg hno,←hf,←hrs]
   refine gg18 ?_;refine bE O (fun hgt=>?_) (fun hgt=>?_)
   ·rw[if_pos oO]at eS;refine gg5 ?_;refine uU ?_;refine aU (hE.t O) (hE.t O) O O O (fun b39=>?_);refine uU ?_;apply bU (hE.t O) (hE.t O) O O O
    ·exact uK
    ·exact uK
    ·rfl
    ·rfl
    ·omega
    ·omega
    ·(unfold maxLen;omega)
    intro g40 c40 n40 x40 hn40 hx40;refine gg14 ?_;obtain rfl:n40=(rs++[(f,k+1-f)]).length:=by rw[hn40];simp
    obtain rfl:x40=gsC (rs++[(f,k+1-f)]):=by rw[hx40,vG rs,show(k:Int)+1-f=((k+1-f:Nat):Int) by omega];rfl
    refine jR 9 (.int .i64 ((k+1:Nat):Int)) O (bW oO) ?_;refine jR 4 (.int .i64 ((k+1:Nat):Int)) O (bW oO) ?_;refine bS (ι:=StG) (j:=⟨k+1,k+1,rs++[(f,k+1-f)],some ⟨g40,0,none⟩,c40⟩) ?_ ?_ ?_ ?_
    ·exact⟨by show k+1≤_;omega,by rw[eS],by rw[eS]⟩
    ·show ks.length-(k+1)<ks.length-k;omega
    ·exact⟨O,O,O,O,O,O,trivial⟩
    exact uI
   rw[if_neg oO]at eS;refine gg13 ?_;refine jR 9 (.int .i64 ((k+1:Nat):Int)) O (bW oO) ?_;refine jR 4 (.int .i64 ((k+1:Nat):Int)) O (bW oO) ?_;refine bS (ι:=StG) (j:=⟨k+1,k+1,rs,p,c1⟩) ?_ ?_ ?_ ?_
   ·exact⟨by show k+1≤_;omega,by rw[eS],by rw[eS]⟩
   ·show ks.length-(k+1)<ks.length-k;omega
   ·exact⟨O,O,O,O,O,O,trivial⟩
   exact uI
  refine gg14 ?_;have hno:¬(k+1<ks.length∧ks[k+1]?=ks[k]?):=by rintro⟨h,_⟩;apply h0;omega
  have eS:stF ks (k+1)=(k+1,if 1<k+1-f then rs++[(f,k+1-f)]else rs):=by rw[stF,if_neg hno,←hf,←hrs]
  refine gg18 ?_;refine bE O (fun hgt=>?_) (fun hgt=>?_)
  ·rw[if_pos oO]at eS;refine gg5 ?_;refine uU ?_;refine aU (hE.t O) (hE.t O) O O O (fun b39=>?_);refine uU ?_;apply bU (hE.t O) (hE.t O) O O O
   ·exact uK
   ·exact uK
   ·rfl
   ·rfl
   ·omega
   ·omega
   ·(unfold maxLen;omega)
   intro g40 c40 n40 x40 hn40 hx40;refine gg14 ?_;obtain rfl:n40=(rs++[(f,k+1-f)]).length:=by rw[hn40];simp
   obtain rfl:x40=gsC (rs++[(f,k+1-f)]):=by rw[hx40,vG rs,show(k:Int)+1-f=((k+1-f:Nat):Int) by omega];rfl
   refine jR 9 (.int .i64 ((k+1:Nat):Int)) O (bW oO) ?_;refine jR 4 (.int .i64 ((k+1:Nat):Int)) O (bW oO) ?_;refine bS (ι:=StG) (j:=⟨k+1,k+1,rs++[(f,k+1-f)],some ⟨g40,0,none⟩,c40⟩) ?_ ?_ ?_ ?_
   ·exact⟨by show k+1≤_;omega,by rw[eS],by rw[eS]⟩
   ·show ks.length-(k+1)<ks.length-k;omega
   ·exact⟨O,O,O,O,O,O,trivial⟩
   exact uI
  rw[if_neg oO]at eS;refine gg13 ?_;refine jR 9 (.int .i64 ((k+1:Nat):Int)) O (bW oO) ?_;refine jR 4 (.int .i64 ((k+1:Nat):Int)) O (bW oO) ?_;refine bS (ι:=StG) (j:=⟨k+1,k+1,rs,p,c1⟩) ?_ ?_ ?_ ?_
  ·exact⟨by show k+1≤_;omega,by rw[eS],by rw[eS]⟩
  ·show ks.length-(k+1)<ks.length-k;omega
  ·exact⟨O,O,O,O,O,O,trivial⟩
  exact uI
 refine gg12 ?_;apply cB
 ·rfl
 ·(apply Rs.tmp rfl;exact Rs.nil)
 ·obtain rfl:k=ks.length:=by omega
  subst hrs;exact⟨p,c1,O,O⟩
 obtain rfl:k=ks.length:=by omega
 subst hrs;exact uI
end Go.Proofs.YtejcjelmpbkcbaaGreatDoor
namespace Sl
open Go Go.RowKit
variable {E:Env}{n:Nat}{L:Fr}{S:List HP}{ty:TypeId}{pos:String}{af:Array Edge}{d:Option Nat}{gd:Option (Nat×Bool)}
def y_shr {x y:Operand}{xt yt:TypeId}{i j:Nat}(hx:ev L x=some (.int .u64 (i:Nat)))(hy:ev L y=some (.int .i64 (j:Nat)))(hj:j≤64):
  Yl E n L S ⟨d,.binOp .shr xt x y yt,ty,pos,af,gd⟩ (.int .u64 ((i/2^j:Nat):Int)):=fun a w g _=>by
 have e:(i:Int)/2^min ((j:Nat):Int).toNat IntKind.u64.bits=((i/2^j:Nat):Int):=by
  rw[oG,show min j IntKind.u64.bits=j from kw hj,uo,tq];rfl
 have h:=shift_shr_any .u64 .i64 (i:Int) ((j:Nat):Int) (qz j);rw[e]at h;simp[execOp,eqGuard,binOp,g.ev hx,g.ev hy,h]
def qRn (i:Nat):IntKind.u64.wrap ((BitVec.ofInt IntKind.u64.bits (i:Int)&&&BitVec.ofInt IntKind.u64.bits 1).toNat:Nat)=((i%2:Nat):Int):=by
 have h1:(BitVec.ofInt IntKind.u64.bits (i:Int)&&&BitVec.ofInt IntKind.u64.bits 1).toNat=i%2:=by
  show(BitVec.ofInt 64 (i:Int)&&&BitVec.ofInt 64 1).toNat=i%2;rw[BitVec.toNat_and,BitVec.ofInt_natCast,BitVec.toNat_ofNat,show(BitVec.ofInt 64 1).toNat=1 from rfl,Nat.and_one_is_mod];omega
 rw[h1];simp[IntKind.wrap,IntKind.bits,IntKind.signed];omega
def y_and1 {x y:Operand}{xt yt:TypeId}{i:Nat}(hx:ev L x=some (.int .u64 (i:Nat)))(hy:ev L y=some (.int .u64 1)):
  Yl E n L S ⟨d,.binOp .and xt x y yt,ty,pos,af,gd⟩ (.int .u64 ((i%2:Nat):Int)):=fun a w g q=>by
 have:=y_and (xt:=xt) (yt:=yt) (ty:=ty) (pos:=pos) (af:=af) (d:=d) (gd:=gd) (S:=S) hx hy a w g q;rw[qRn]at this;exact this
def vY {f:FuncId}{args:List Value}{v:Value}(h:∀w,Calls E.P f ⟨args⟩ w (fun e w'=>e= .returned v∧w=w')):Ct E f args [] (fun u Q=>u=v∧Q=[]):=fun R w s=>
 (h w).mono fun e w'⟨h1,h2⟩=>⟨v,[],h1,⟨rfl,rfl⟩,h2▸s⟩
end Sl
