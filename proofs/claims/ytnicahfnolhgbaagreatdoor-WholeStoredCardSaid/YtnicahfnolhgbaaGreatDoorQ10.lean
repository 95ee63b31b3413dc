import Derived.Test.YtnicahfnolhgbaaGreatDoorQ07
import Derived.Laws.Shifts
set_option linter.all false
set_option maxHeartbeats 1000000
namespace Eg
def xI {α:Type}{P:List α->Prop}(h0:P [])(h1:∀l x,P l->P (l++[x])):∀l,P l:=fun l=>by
 have:∀r:List α,P r.reverse:=by
  intro r;induction r with
  |nil=>exact h0
  |cons a r ih=>rw[List.reverse_cons];exact h1 _ _ ih
 simpa using this l.reverse
def QO (rs:List (Nat×Nat))(x:Nat):List (Nat×Nat):=match rs.getLast? with
 |some (y,k)=>if y=x then rs.dropLast++[(y,k+1)]else rs++[(x,1)]
 |none=>[(x,1)]
def dE (l:List Nat):List (Nat×Nat):=l.foldl QO []
def iX (l:List Nat)(x:Nat):dE (l++[x])=QO (dE l) x:=by simp[dE]
def qI (x:Nat):QO [] x=[(x,1)]:=rfl
def jR (a:List (Nat×Nat))(x k:Nat):QO (a++[(x,k)]) x=a++[(x,k+1)]:=by simp[QO]
def kK (a:List (Nat×Nat)){x y k}(h:y≠x):QO (a++[(y,k)]) x=a++[(y,k)]++[(x,1)]:=by simp[QO,h]
def qQa (l:List Nat)(x:Nat):∃a k,dE (l++[x])=a++[(x,k)]/\1<=k:=by
 rw[iX];rcases bq (dE l)with h|⟨a,⟨y,k⟩,h⟩
 ·exact⟨[],1,by rw[h];rfl,ai _⟩
 rw[bu]at h;rw[h];by_cases hy:y=x
 ·subst hy;exact⟨a,k+1,jR a y k,oO⟩
 exact⟨a++[(y,k)],1,kK a hy,ai _⟩
def qHx (rs:List (Nat×Nat))(x:Nat):(QO rs x).length<=rs.length+1:=by
 rcases bq rs with h|⟨a,⟨y,k⟩,h⟩
 ·subst h;simp[qI]
 rw[bu]at h;subst h;by_cases hy:y=x
 ·subst hy;rw[jR];simp
 rw[kK a hy];simp
def sD:∀(l:List Nat),(dE l).length<=l.length:=by
 refine xI (by simp[dE]) (fun l x ih=>?_);rw[iX];have:=qHx (dE l) x;simp;omega
def Ch:List (Nat×Nat)->List Nat
 |[]=>[]
 |g::r=>List.replicate g.2 g.1++Ch r
def iT (a b:List (Nat×Nat)):Ch (a++b)=Ch a++Ch b:=by
 induction a with
 |nil=>rfl
 |cons g a ih=>simp[Ch,ih]
def kX (l:List Nat):Ch (dE l)=l:=by
 refine xI (P:=fun l=>Ch (dE l)=l) O ?_ l;intro l x ih;rw[iX];rcases bq (dE l)with h|⟨a,⟨y,k⟩,h⟩
 ·rw[h]at ih ⊢;rw[<-ih];rfl
 rw[bu]at h;rw[h]at ih ⊢;by_cases hy:y=x
 ·subst hy;rw[jR,<-ih,iT,iT];simp[Ch,oG]
 rw[kK a hy,iT,ih];simp[Ch]
def nT (l:List Nat):∀g∈dE l,1<=g.2/\g.2<=l.length:=by
 refine xI (P:=fun l=>∀g∈dE l,1<=g.2/\g.2<=l.length) (by intro g h;simp[dE]at h) ?_ l;intro l x ih;rw[iX];rcases bq (dE l)with h|⟨a,⟨y,k⟩,h⟩
 ·rw[h];intro g hg;simp[qI]at hg;subst hg;simp
 rw[bu]at h;rw[h]at ih ⊢;have hk:=ih (y,k) BF;intro g hg;by_cases hy:y=x
 ·subst hy;rw[jR]at hg;simp at hg;rcases hg with hg|rfl
  ·have:=ih g (by simp[hg]);simp;omega
  simp at hk ⊢;omega
 rw[kK a hy]at hg;simp at hg;rcases hg with hg|rfl|rfl
 ·have:=ih g (by simp[hg]);simp;omega
 ·simp at hk ⊢;omega
 simp
end Eg
namespace Go.Proofs.YtnicahfnolhgbaaGreatDoor
open Go Go.RowKit Sl Eg
set_option maxRecDepth 10000
variable {E:Bp}
def Bg (l:List Nat):List Value:=l.map fun x=> .int .i64 (x:Nat)
def fT {l i x}(h:l[i]?=some x)(k:Nat)(hk:k=i):(Bg l)[k]?=some (BK x):=by subst hk;simp[Bg,h]
structure Sa where
 k:Nat
 rs:List (Nat×Nat)
 p:Option Addr
 c:Nat
def Na (hE:BP E){g c:Nat}{ids:List Nat}(hl:ids.length<1048577):
  Ct E 195 [.slice (some ⟨g,0,none⟩) ids.length c] [sl (some ⟨g,0,none⟩) c 41 1 ids.length (Bg ids)]
   (fun v Q=>∃p c',v= .slice p (dE ids).length c'/\Q=[sl p c' 306 2 (dE ids).length (FI (dE ids)),sl (some ⟨g,0,none⟩) c 41 1 ids.length (Bg ids)]):=by
 refine bO (hE.fn Tryz.func195) O O O (fun R=>?_);simp only[dS,uV,uW];refine Ci ?_;refine dX (fun x:Sa=>[(0,.slice (some ⟨g,0,none⟩) ids.length c),(3,.slice x.p x.rs.length x.c),(6,.slice (some ⟨g,0,none⟩) ids.length c),(7,.int .i64 (ids.length:Nat)),(8,.int .i64 (x.k:Nat))]) (fun x=>[sl x.p x.c 306 2 x.rs.length (FI x.rs),sl (some ⟨g,0,none⟩) c 41 1 ids.length (Bg ids),R]) (fun x=>ids.length-x.k) (fun x=>x.k<=ids.length/\x.rs=dE (ids.take x.k)) ⟨0,[],none,0⟩ ?_ ?_ ?_ ?_
 ·exact⟨av _,O⟩
 ·exact⟨O,O,O,O,O,trivial⟩
 ·apply cZ (fU (t:=306) (sz:=2));exact uI
 rintro⟨k,rs,p,c1⟩⟨hk,hA⟩;simp only at hk hA ⊢;refine CB ?_;refine bE O (fun hP=>?_) (fun hP=>?_)
 ·have hQ:k<ids.length:=oO;obtain⟨x,hx⟩:∃x,ids[k]?=some x:=⟨_,ag hQ⟩;have e1:ids.take (k+1)=ids.take k++[x]:=by rw[ed,hx];rfl
  have f0:=fT hx ((k:Nat):Int).toNat oO;have hM:=sD (ids.take k);rw[<-hA,ig]at hM;refine CP ?_;refine jT (fun x:Sa=>[(0,.slice (some ⟨g,0,none⟩) ids.length c),(3,.slice x.p x.rs.length x.c),(6,.slice (some ⟨g,0,none⟩) ids.length c),(7,.int .i64 (ids.length:Nat)),(8,.int .i64 (k:Nat))]) (fun x=>[sl x.p x.c 306 2 x.rs.length (FI x.rs),sl (some ⟨g,0,none⟩) c 41 1 ids.length (Bg ids),R]) (fun y=>∃a m,y.rs=a++[(x,m)]/\dE (ids.take (k+1))=a++[(x,m+1)]/\a.length<=k/\m<=k) ?_ ?_
  ·refine Bw ?_;refine dV 15 O (fun h0=>?_) (fun h0=>?_)
   ·obtain rfl:k=0:=by omega
    obtain rfl:rs=[]:=by rw[hA];rfl
    refine CK ?_;refine uU ?_;refine aU (hE.t O) (hE.t O) O O O (fun hR=>?_);refine uU ?_;apply bU (hE.t O) (hE.t O) O O O
    ·exact uK
    ·exact uK
    ·rfl
    ·rfl
    ·omega
    ·omega
    ·(unfold maxLen;omega)
    intro hG hH hI hJ hC hD;refine CL ?_;obtain rfl:hI=[(x,0)].length:=hC;obtain rfl:hJ=FI [(x,0)]:=hD;refine eX (ι:=Sa) ⟨0,[(x,0)],some ⟨hG,0,none⟩,hH⟩ ⟨[],0,O,by rw[e1];rfl,ai _,ai _⟩ ⟨rfl,rfl,rfl,rfl,rfl,trivial⟩ ?_;exact uI
   obtain⟨j,rfl⟩:∃j,k=j+1:=⟨k-1,oO⟩;obtain⟨y,hy⟩:∃y,ids[j]?=some y:=⟨_,ag oO⟩;have f1:=fT hy (((j+1:Nat):Int)-1).toNat oO;have e2:ids.take (j+1)=ids.take j++[y]:=by rw[ed,hy];rfl
   obtain⟨a,m,hB,hm⟩:=qQa (ids.take j) y;rw[<-e2,<-hA]at hB;have hK:=(nT (ids.take (j+1)) (y,m) (by rw[<-hA,hB];simp)).2;simp only[ig]at hK;subst hB;have hN:(a++[(y,m)]).length=a.length+1:=by simp
   refine CY ?_;refine bE O (fun hS=>?_) (fun hS=>?_)
   ·refine Bz ?_;refine uU ?_;refine aU (hE.t O) (hE.t O) O O O (fun hR=>?_);refine uU ?_;apply bU (hE.t O) (hE.t O) O O O
    ·exact uK
    ·exact uK
    ·rfl
    ·rfl
    ·omega
    ·omega
    ·(unfold maxLen;omega)
    intro hG hH hI hJ hC hD;refine CL ?_;obtain rfl:hI=(a++[(y,m)]++[(x,0)]).length:=by rw[hC];simp
    obtain rfl:hJ=FI (a++[(y,m)]++[(x,0)]):=by rw[hD,vV (a++[(y,m)])];rfl
    refine eX (ι:=Sa) ⟨0,a++[(y,m)]++[(x,0)],some ⟨hG,0,none⟩,hH⟩ ⟨a++[(y,m)],0,O,by rw[e1,iX,<-hA,kK a oO],oO,av _⟩ ⟨rfl,rfl,rfl,rfl,rfl,trivial⟩ ?_;exact uI
   obtain rfl:y=x:=by omega
   refine Bv ?_;refine eX (ι:=Sa) ⟨0,a++[(y,m)],p,c1⟩ ⟨a,m,O,by rw[e1,iX,<-hA,jR],oO,oO⟩ ⟨rfl,rfl,rfl,rfl,rfl,trivial⟩ ?_;exact uI
  clear hM hA rs p c1;rintro⟨_,rs,p,c1⟩⟨a,m,hO,hT,hU,hV⟩;simp only at hO ⊢;subst hO;have hN:(a++[(x,m)]).length=a.length+1:=by simp
  rw[hN];refine iO (p:=sl p c1 306 2 (a.length+1) (FI (a++[(x,m)]))) uK (fun _ h=>eG h oO) ?_;rintro⟨g1,rfl⟩;have hF:(a++[(x,m)])[a.length]?=some (x,m):=by simp
  have ea:0+(((a.length+1:Nat):Int)-1).toNat*2+1=a.length*2+1:=oO;have f1:(FI (a++[(x,m)]))[0+(((a.length+1:Nat):Int)-1).toNat*2+1]?=some (.int .i64 (m:Nat)):=by rw[ea];exact(Ti hF).2
  have hL:bX (FI (a++[(x,m)])) (0+(((a.length+1:Nat):Int)-1).toNat*2+1) (bP (.int .i64 ((m:Int)+1)))=FI (a++[(x,m+1)]):=by
   rw[ea,show(m:Int)+1=((m+1:Nat):Int) by omega];have:=OC hF (m+1);simp only[bX,bP];rw[this];simp
  refine CK ?_;rw[hL];refine Bz ?_;refine jY 8 (.int .i64 ((k+1:Nat):Int)) O (bW oO) ?_;refine jY 3 (.slice (some ⟨g1,0,none⟩) (a++[(x,m+1)]).length c1) O (by simp) ?_;refine bS (ι:=Sa) (j:=⟨k+1,a++[(x,m+1)],some ⟨g1,0,none⟩,c1⟩) ?_ ?_ ?_ ?_
  ·exact⟨by show k+1<=_;omega,hT.symm⟩
  ·show ids.length-(k+1)<ids.length-k;omega
  ·exact⟨O,O,O,O,O,trivial⟩
  rw[show(a++[(x,m+1)]).length=a.length+1 by simp];exact uI
 refine Bq ?_;apply cK
 ·rfl
 ·(apply Rs.tmp rfl;exact Rs.nil)
 ·rw[fe oO]at hA;subst hA;exact⟨p,c1,O,O⟩
 rw[fe oO]at hA;subst hA;exact uI
end Go.Proofs.YtnicahfnolhgbaaGreatDoor
namespace Eg
def FU (ks:List Nat):Nat->Nat×List (Nat×Nat)
 |0=>(0,[])
 |k+1=>if k+1<ks.length/\ks[k+1]?=ks[k]? then FU ks k
   else(k+1,if 1<k+1-(FU ks k).1 then(FU ks k).2++[((FU ks k).1,k+1-(FU ks k).1)]else(FU ks k).2)
def iH (ks:List Nat):List (Nat×Nat):=(FU ks ks.length).2
def Vs (ks:List Nat):∀k,(FU ks k).1<=k
 |0=>ai _
 |k+1=>by
  have:=Vs ks k;unfold FU;split
  ·omega
  exact ai _
def We (ks:List Nat):∀k,(FU ks k).2.length<=k
 |0=>ai _
 |k+1=>by
  have:=We ks k;unfold FU;split
  ·omega
  simp only;split
  ·simp;omega
  omega
def FX:List (Nat×Nat)->Nat->Nat->Prop
 |[],a,e=>a<=e
 |(f,n)::l,a,e=>a<=f/\2<=n/\FX l (f+n) e
def qHo:∀{l:List (Nat×Nat)}{a e:Nat}{f n:Nat},FX l a e->e<=f->2<=n->FX (l++[(f,n)]) a (f+n)
 |[],a,e,f,n,h,h1,h2=>⟨jv h h1,h2,ai _⟩
 |(f',n')::l,a,e,f,n,⟨h0,h3,h4⟩,h1,h2=>⟨h0,h3,qHo h4 h1 h2⟩
def WZ:∀{l:List (Nat×Nat)}{a e e':Nat},FX l a e->e<=e'->FX l a e'
 |[],a,e,e',h,h1=>jv h h1
 |(f',n')::l,a,e,e',⟨h0,h3,h4⟩,h1=>⟨h0,h3,WZ h4 h1⟩
def qNw (ks:List Nat):∀k,FX (FU ks k).2 0 (FU ks k).1
 |0=>ai _
 |k+1=>by
  have h:=qNw ks k;have hA:=Vs ks k;unfold FU;split
  ·exact h
  simp only;split
  ·rename_i h1
   have:=qHo (f:=(FU ks k).1) (n:=k+1-(FU ks k).1) h (ai _) oO;rwa [show(FU ks k).1+(k+1-(FU ks k).1)=k+1 by omega]at this
  exact WZ h oO
def vC (ks:List Nat):FX (iH ks) 0 ks.length:=WZ (qNw ks _) (Vs ks _)
def Iz (f:Nat):Nat->List Nat
 |0=>[]
 |j+1=>Iz f j++[f+2*j]
def iJ:List (Nat×Nat)->List Nat
 |[]=>[]
 |(f,n)::l=>Iz f (n/2)++iJ l
def qFe (a b:List (Nat×Nat)):iJ (a++b)=iJ a++iJ b:=by
 induction a with
 |nil=>rfl
 |cons g a ih=>obtain⟨f,n⟩:=g;simp only[jq,iJ,ih,ah]
def Ho (ks:List Nat)(c:Nat):Nat->List Nat
 |0=>[]
 |k+1=>Ho ks c k++if k+1<ks.length/\bt (ks[k]?.getD 0) (c/2)=c%2/\bt (ks[k+1]?.getD 0) (c/2)≠c%2 then[k]else[]
def iI (ks:List Nat)(c:Nat):List Nat:=if c=122 then iJ (iH ks)else Ho ks c (ks.length-1)
def Eu:List Nat->Nat->Nat->Prop
 |[],a,e=>a<=e
 |i::l,a,e=>a<=i/\i+2<=e/\Eu l (i+2) e
def rQ:∀{l m:List Nat}{a b e:Nat},Eu l a b->Eu m b e->b<=e->Eu (l++m) a e
 |[],[],a,b,e,h,h1,h2=>jv h h1
 |[],i::m,a,b,e,h,⟨h1,h2,h3⟩,_=>⟨jv h h1,h2,h3⟩
 |i::l,m,a,b,e,⟨h0,h1,h2⟩,h3,h4=>⟨h0,oO,rQ h2 h3 h4⟩
def XB:∀{l:List Nat}{a a' e e':Nat},Eu l a e->a'<=a->e<=e'->Eu l a' e'
 |[],a,a',e,e',h,h1,h2=>jv h1 (jv h h2)
 |i::l,a,a',e,e',⟨h0,h3,h4⟩,h1,h2=>⟨jv h1 h0,jv h3 h2,XB h4 (ai _) h2⟩
def qGr (f:Nat):∀j,Eu (Iz f j) f (f+2*j)
 |0=>ai _
 |j+1=>rQ (qGr f j) (m:=[f+2*j]) ⟨ai _,oO,show f+2*j+2<=f+2*(j+1) by omega⟩ oO
def Xv:∀{l:List (Nat×Nat)}{a e:Nat},FX l a e->a<=e
 |[],_,_,h=>h
 |(f,n)::l,a,e,⟨h0,_,h⟩=>by have:=Xv h;omega
def qSi:∀{l:List (Nat×Nat)}{a e:Nat},FX l a e->Eu (iJ l) a e
 |[],a,e,h=>h
 |(f,n)::l,a,e,⟨h0,h1,h2⟩=>by
  have h3:=Xv h2;exact rQ (b:=f+n) (XB (qGr f (n/2)) h0 oO) (qSi h2) h3
def Un:∀{l:List Nat}{a e:Nat},Eu l a e->a<=e
 |[],_,_,h=>h
 |i::l,a,e,⟨h0,h1,_⟩=>by omega
def Zd:∀{l:List Nat}{a e:Nat},Eu l a e->a+2*l.length<=e
 |[],a,e,h=>h
 |i::l,a,e,⟨h0,h1,h2⟩=>by have:=Zd h2;simp;omega
def qVm (ks:List Nat)(c:Nat):∀k,k<=ks.length-1->Eu (Ho ks c k) 0 (k+1)/\(bt (ks[k]?.getD 0) (c/2)=c%2->Eu (Ho ks c k) 0 k)
 |0,_=>⟨av _,fun _=>ai _⟩
 |k+1,hk=>by
  obtain⟨h1,h2⟩:=qVm ks c k oO;unfold Ho;split
  ·rename_i h
   have:Eu (Ho ks c k++[k]) 0 (k+2):=rQ (h2 h.2.1) ⟨ai _,ai _,ai _⟩ oO;exact⟨this,fun h3=>absurd h3 h.2.2⟩
  rw[ax];exact⟨XB h1 (ai _) oO,fun _=>h1⟩
def ZR (ks:List Nat)(c:Nat):Eu (iI ks c) 0 ks.length:=by
 unfold iI;split
 ·exact qSi (vC ks)
 by_cases h:ks.length=0
 ·rw[h];exact ai _
 have:=(qVm ks c (ks.length-1) (ai _)).1;rwa [show ks.length-1+1=ks.length by omega]at this
def Zx (ks:List Nat)(c:Nat):∀k,(Ho ks c k).length<=k
 |0=>ai _
 |k+1=>by have:=Zx ks c k;unfold Ho;split <;>simp <;>omega
end Eg
namespace Go.Proofs.YtnicahfnolhgbaaGreatDoor
open Go Go.RowKit Sl Eg
set_option maxRecDepth 10000
variable {E:Bp}
def EB (l:List Nat):List Value:=l.map fun x=> .int .u64 (x:Nat)
def VV {l i x}(h:l[i]?=some x)(k:Nat)(hk:k=i):(EB l)[k]?=some (.int .u64 (x:Nat)):=by subst hk;simp[EB,h]
structure Sb where
 k:Nat
 f:Nat
 rs:List (Nat×Nat)
 p:Option Addr
 c:Nat
def qLh (hE:BP E){g c:Nat}{ks:List Nat}(hl:ks.length<1048577):
  Ct E 207 [.slice (some ⟨g,0,none⟩) ks.length c] [sl (some ⟨g,0,none⟩) c 62 1 ks.length (EB ks)]
   (fun v Q=>∃p c',v= .slice p (iH ks).length c'/\Q=[sl p c' 330 2 (iH ks).length (FI (iH ks)),sl (some ⟨g,0,none⟩) c 62 1 ks.length (EB ks)]):=by
 refine bO (hE.fn Tryz.func207) O O O (fun R=>?_);simp only[dS,uV,uW];refine Dv ?_;refine dX (fun x:Sb=>[(0,.slice (some ⟨g,0,none⟩) ks.length c),(3,.slice x.p x.rs.length x.c),(4,.int .i64 (x.f:Nat)),(7,.slice (some ⟨g,0,none⟩) ks.length c),(8,.int .i64 (ks.length:Nat)),(9,.int .i64 (x.k:Nat))]) (fun x=>[sl x.p x.c 330 2 x.rs.length (FI x.rs),sl (some ⟨g,0,none⟩) c 62 1 ks.length (EB ks),R]) (fun x=>ks.length-x.k) (fun x=>x.k<=ks.length/\x.f=(FU ks x.k).1/\x.rs=(FU ks x.k).2) ⟨0,0,[],none,0⟩ ?_ ?_ ?_ ?_
 ·exact⟨av _,O,O⟩
 ·exact⟨O,O,O,O,O,O,trivial⟩
 ·apply cZ (fU (t:=330) (sz:=2));exact uI
 rintro⟨k,f,rs,p,c1⟩⟨hk,hf,hA⟩;simp only at hk hf hA ⊢;refine CB ?_;refine bE O (fun hK=>?_) (fun hK=>?_)
 ·have hL:k<ks.length:=oO;obtain⟨x,hx⟩:∃x,ks[k]?=some x:=⟨_,ag hL⟩;have f0:=VV hx ((k:Nat):Int).toNat oO;have hN:f<=k:=hf▸Vs ks k;have hO:rs.length<=k:=hA▸We ks k;refine Ci ?_;refine dV 17 O (fun h0=>?_) (fun h0=>?_)
  ·obtain⟨y,hy⟩:∃y,ks[k+1]?=some y:=⟨_,ag oO⟩;have f1:=VV hy (((k:Nat):Int)+1).toNat oO;refine DL ?_;refine bE O (fun he=>?_) (fun he=>?_)
   ·obtain rfl:y=x:=by omega
    have eS:FU ks (k+1)=FU ks k:=by rw[FU];exact if_pos ⟨oO,by rw[hx,hy]⟩
    refine Br ?_;refine jY 9 (.int .i64 ((k+1:Nat):Int)) O (bW oO) ?_;refine bS (ι:=Sb) (j:=⟨k+1,f,rs,p,c1⟩) ?_ ?_ ?_ ?_
    ·exact⟨by show k+1<=_;omega,by rw[eS];exact hf,by rw[eS];exact hA⟩
    ·show ks.length-(k+1)<ks.length-k;omega
    ·exact⟨O,O,O,O,O,O,trivial⟩
    exact uI
   have hD:¬(k+1<ks.length/\ks[k+1]?=ks[k]?):=by rintro⟨_,h⟩;rw[hx,hy]at h;apply he;injection h with h;rw[h]
   have eS:FU ks (k+1)=(k+1,if 1<k+1-f then rs++[(f,k+1-f)]else rs):=by rw[FU,if_neg hD,<-hf,<-hA]
   refine Cw ?_;refine bE O (fun hF=>?_) (fun hF=>?_)
   ·rw[if_pos oO]at eS;refine Bw ?_;refine uU ?_;refine aU (hE.t O) (hE.t O) O O O (fun hM=>?_);refine uU ?_;apply bU (hE.t O) (hE.t O) O O O
    ·exact uK
    ·exact uK
    ·rfl
    ·rfl
    ·omega
    ·omega
    ·(unfold maxLen;omega)
    intro hG hH hI hJ hB hC;refine CU ?_;obtain rfl:hI=(rs++[(f,k+1-f)]).length:=by rw[hB];simp
    obtain rfl:hJ=FI (rs++[(f,k+1-f)]):=by rw[hC,vV rs,show(k:Int)+1-f=((k+1-f:Nat):Int) by omega];rfl
    refine jY 9 (.int .i64 ((k+1:Nat):Int)) O (bW oO) ?_;refine jY 4 (.int .i64 ((k+1:Nat):Int)) O (bW oO) ?_;refine bS (ι:=Sb) (j:=⟨k+1,k+1,rs++[(f,k+1-f)],some ⟨hG,0,none⟩,hH⟩) ?_ ?_ ?_ ?_
    ·exact⟨by show k+1<=_;omega,by rw[eS],by rw[eS]⟩
    ·show ks.length-(k+1)<ks.length-k;omega
    ·exact⟨O,O,O,O,O,O,trivial⟩
    exact uI
   rw[if_neg oO]at eS;refine CP ?_;refine jY 9 (.int .i64 ((k+1:Nat):Int)) O (bW oO) ?_;refine jY 4 (.int .i64 ((k+1:Nat):Int)) O (bW oO) ?_;refine bS (ι:=Sb) (j:=⟨k+1,k+1,rs,p,c1⟩) ?_ ?_ ?_ ?_
   ·exact⟨by show k+1<=_;omega,by rw[eS],by rw[eS]⟩
   ·show ks.length-(k+1)<ks.length-k;omega
   ·exact⟨O,O,O,O,O,O,trivial⟩
   exact uI
  refine CU ?_;have hD:¬(k+1<ks.length/\ks[k+1]?=ks[k]?):=by rintro⟨h,_⟩;apply h0;omega
  have eS:FU ks (k+1)=(k+1,if 1<k+1-f then rs++[(f,k+1-f)]else rs):=by rw[FU,if_neg hD,<-hf,<-hA]
  refine Cw ?_;refine bE O (fun hF=>?_) (fun hF=>?_)
  ·rw[if_pos oO]at eS;refine Bw ?_;refine uU ?_;refine aU (hE.t O) (hE.t O) O O O (fun hM=>?_);refine uU ?_;apply bU (hE.t O) (hE.t O) O O O
   ·exact uK
   ·exact uK
   ·rfl
   ·rfl
   ·omega
   ·omega
   ·(unfold maxLen;omega)
   intro hG hH hI hJ hB hC;refine CU ?_;obtain rfl:hI=(rs++[(f,k+1-f)]).length:=by rw[hB];simp
   obtain rfl:hJ=FI (rs++[(f,k+1-f)]):=by rw[hC,vV rs,show(k:Int)+1-f=((k+1-f:Nat):Int) by omega];rfl
   refine jY 9 (.int .i64 ((k+1:Nat):Int)) O (bW oO) ?_;refine jY 4 (.int .i64 ((k+1:Nat):Int)) O (bW oO) ?_;refine bS (ι:=Sb) (j:=⟨k+1,k+1,rs++[(f,k+1-f)],some ⟨hG,0,none⟩,hH⟩) ?_ ?_ ?_ ?_
   ·exact⟨by show k+1<=_;omega,by rw[eS],by rw[eS]⟩
   ·show ks.length-(k+1)<ks.length-k;omega
   ·exact⟨O,O,O,O,O,O,trivial⟩
   exact uI
  rw[if_neg oO]at eS;refine CP ?_;refine jY 9 (.int .i64 ((k+1:Nat):Int)) O (bW oO) ?_;refine jY 4 (.int .i64 ((k+1:Nat):Int)) O (bW oO) ?_;refine bS (ι:=Sb) (j:=⟨k+1,k+1,rs,p,c1⟩) ?_ ?_ ?_ ?_
  ·exact⟨by show k+1<=_;omega,by rw[eS],by rw[eS]⟩
  ·show ks.length-(k+1)<ks.length-k;omega
  ·exact⟨O,O,O,O,O,O,trivial⟩
  exact uI
 refine Bq ?_;apply cK
 ·rfl
 ·(apply Rs.tmp rfl;exact Rs.nil)
 ·obtain rfl:k=ks.length:=by omega
  subst hA;exact⟨p,c1,O,O⟩
 obtain rfl:k=ks.length:=by omega
 subst hA;exact uI
end Go.Proofs.YtnicahfnolhgbaaGreatDoor
namespace Sl
open Go Go.RowKit
variable {E:Bp}{n:Nat}{L:Fr}{S:List HP}{ty:TypeId}{pos:String}{af:Array Edge}{d:Option Nat}{gd:Option (Nat×Bool)}
def UY {x y}{xt yt:TypeId}{i j}(hx:ev L x=some (.int .u64 (i:Nat)))(hy:ev L y=some (BK j))(hj:j<=64):
  Yl E n L S ⟨d,.binOp .shr xt x y yt,ty,pos,af,gd⟩ (.int .u64 ((i/2^j:Nat):Int)):=fun a w g _=>by
 have e:(i:Int)/2^min ((j:Nat):Int).toNat IntKind.u64.bits=((i/2^j:Nat):Int):=by
  rw[ny,show min j IntKind.u64.bits=j from lm hj,xk,qb];rfl
 have h:=shift_shr_any .u64 .i64 (i:Int) ((j:Nat):Int) (oP j);rw[e]at h;simp[execOp,eqGuard,binOp,g.ev hx,g.ev hy,h]
def qSs (i:Nat):IntKind.u64.wrap ((BitVec.ofInt IntKind.u64.bits (i:Int)&&&BitVec.ofInt IntKind.u64.bits 1).toNat:Nat)=((i%2:Nat):Int):=by
 have h1:(BitVec.ofInt IntKind.u64.bits (i:Int)&&&BitVec.ofInt IntKind.u64.bits 1).toNat=i%2:=by
  show(BitVec.ofInt 64 (i:Int)&&&BitVec.ofInt 64 1).toNat=i%2;rw[BitVec.toNat_and,BitVec.ofInt_natCast,BitVec.toNat_ofNat,show(BitVec.ofInt 64 1).toNat=1 from rfl,Nat.and_one_is_mod];omega
 rw[h1];simp[IntKind.wrap,IntKind.bits,IntKind.signed];omega
def SK {x y}{xt yt:TypeId}{i}(hx:ev L x=some (.int .u64 (i:Nat)))(hy:ev L y=some (.int .u64 1)):
  Yl E n L S ⟨d,.binOp .and xt x y yt,ty,pos,af,gd⟩ (.int .u64 ((i%2:Nat):Int)):=fun a w g q=>by
 have:=MZ (xt:=xt) (yt:=yt) (ty:=ty) (pos:=pos) (af:=af) (d:=d) (gd:=gd) (S:=S) hx hy a w g q;rw[qSs]at this;exact this
def rG {f args v}(h:∀w,Calls E.P f ⟨args⟩ w (fun e w'=>e= .returned v/\w=w')):Ct E f args [] (fun u Q=>u=v/\Q=[]):=fun R w s=>
 (h w).mono fun e w'⟨h1,h2⟩=>⟨v,[],h1,⟨rfl,rfl⟩,h2▸s⟩
end Sl
