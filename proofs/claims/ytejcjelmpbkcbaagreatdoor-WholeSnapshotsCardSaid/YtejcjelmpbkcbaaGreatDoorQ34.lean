import Derived.Test.YtejcjelmpbkcbaaGreatDoorQ33
set_option linter.all false
set_option maxHeartbeats 1000000
namespace Go.Proofs.YtejcjelmpbkcbaaGreatDoor
open Go Go.RowKit Sl Eg
set_option maxRecDepth 10000
section
variable {E:Env}{Es:List Ent}{pp tb s most S:Nat}
def rR (L:List Rl)(a b:List It):itsC L (a++b)=itsC L a++itsC L b:=by simp[itsC]
def qCe {l:List It}{k:Nat}{x:It}(hx:l[k]?=some x):l.drop k=x::l.drop (k+1):=by
 obtain⟨h1,e1⟩:=ae.1 hx;rw[kz h1,e1]
def xO {L:List Rl}{its:List It}{k:Nat}{it:It}(h:its[k]?=some it)(o:Nat)(ho:o=k*4):(itsC L its)[o]?=some (.int .i64 (it.id:Nat))∧(itsC L its)[o+1]?=some (.int .i64 (it.next:Nat))∧(itsC L its)[o+2]?=some (.int .u64 (key L it.id:Nat))∧(itsC L its)[o+3]?=some (.int .i64 (it.times:Nat)):=by
 have hk:=(ae.1 h).1
 have e:its=its.take k++it::its.drop (k+1):=by
  have:=qCe h;rw[←this,iw]
 have hl:(itsC L (its.take k)).length=o:=by rw[rT,jv,kw oO,ho]
 rw[e,rR,gV];subst hl;exact⟨ap_0,ap_1,ap_2,ap_3⟩
def qWn {L:List Rl}{a b:List It}{y z:It}(o:Nat)(ho:o=a.length*4):bX (itsC L (a++y::b)) o [.int .i64 (z.id:Nat),.int .i64 (z.next:Nat),.int .u64 (key L z.id:Nat),.int .i64 (z.times:Nat)]=itsC L (a++z::b):=by
 have hl:=rT L a;rw[kM _ _ _ (by rw[rR,gV];simp;omega),rR,rR,gV,gV];subst ho;rw[←hl];simp
def cmpI (its:List It):List It:=its.foldl gP []
def qBp (its:List It)(x:It):cmpI (its++[x])=gP (cmpI its) x:=by simp[cmpI,oo]
def qUf:∀(its:List It),Sng its→Sng (cmpI its)∧dV (cmpI its)=dV its∧Adjx (prI (cmpI its))∧(cmpI its).length≤its.length∧(its≠[]→cmpI its≠[]):=fun its=>by
 refine wK (P:=fun its=>Sng its→Sng (cmpI its)∧dV (cmpI its)=dV its∧Adjx (prI (cmpI its))∧(cmpI its).length≤its.length∧(its≠[]→cmpI its≠[])) (fun _=>⟨fun it h=>by simp[cmpI]at h,rfl,fun k x t y t' h=>by simp[cmpI,prI]at h,ai _,fun h=>absurd rfl h⟩) ?_ its;intro l x ih h;obtain⟨i1,i2,i3,i4,_⟩:=ih fun it hit=>h it (by simp[hit])
 have hx:=h x (by simp);have hl:=qLy (cmpI l) x;rw[qBp];refine⟨lY i1 hx,?_,qXw i3,by rw[aa,az];omega,fun _ e=>by rw[e]at hl;simp at hl⟩;rw[gM i1 hx.1,i2,fO,jB,lV hx.1]
def hvy (its:List It):Nat:=(its.map fun it=>if 2≤it.times then 1 else 0).sum
def pot (its:List It):Nat:=its.length+hvy its
def vH (a b:List It):hvy (a++b)=hvy a+hvy b:=by simp[hvy]
def qHr (x:It):hvy [x]=if 2≤x.times then 1 else 0:=by simp[hvy]
def qWe:∀its:List It,hvy its≤its.length
 |[]=>ai _
 |x::l=>by
  have ih:=qWe l;have e:hvy (x::l)=hvy [x]+hvy l:=vH [x] l;rw[e,qHr,av];split <;>omega
def mJ (a b:List It):pot (a++b)=pot a+pot b:=by unfold pot;rw[vH,aa];omega
def pot_push (l:List It)(x:It):pot (gP l x)≤pot l+pot [x]:=by
 rcases bu l with rfl|⟨a,y,rfl⟩
 ·rw[qZ];omega
 rw[bv,lJ];split
 ·rw[mJ,mJ]
  have h1:pot [(⟨y.id,y.next,y.times+x.times⟩:It)]≤2:=by
   unfold pot;rw[qHr];simp only[az];split <;>omega
  have h2:1≤pot [y]:=by unfold pot;simp
  have h3:1≤pot [x]:=by unfold pot;simp
  omega
 rw[mJ];omega
def pot_cmp (its:List It):pot (cmpI its)≤pot its:=by
 refine wK (P:=fun its=>pot (cmpI its)≤pot its) (ai _) ?_ its;intro l x ih;rw[qBp,mJ];have:=pot_push (cmpI l) x;omega
def qIf {its:List It}(h:Sng its):pot its≤(dV its).length:=by
 induction its with
 |nil=>exact ai _
 |cons x l ih=>
  have e:pot (x::l)=pot [x]+pot l:=mJ [x] l
  have i1:=ih fun y hy=>h y (by simp[hy])
  have hx:=h x (by simp)
  rw[e,iC,lV hx.1,aa,ng]
  have h1:pot [x]≤x.times:=by
   unfold pot;rw[qHr,az];split <;>omega
  omega
def kU (out:List Nat):List It:=out.map fun x=>⟨x,0,1⟩
def zA (out:List Nat):dV (kU out)=out:=by
 induction out with
 |nil=>rfl
 |cons x o ih=>
  have e:kU (x::o)=⟨x,0,1⟩::kU o:=rfl
  rw[e,sS,ih]
def sG {its:List It}{n:Nat}(h:(dV its).length≤n):∀it∈its,it.times≤n:=by
 induction its with
 |nil=>simp
 |cons a l ih=>
  rw[iC,aa]at h
  intro it hit
  rcases iq.1 hit with rfl|hit
  ·have hr:∀(l:List Nat),1≤l.length→∀t,t≤(List.replicate t l).flatten.length:=fun l h1 t=>by
    induction t with
    |zero=>simp
    |succ t ih=>rw[cu,ko,aa];omega
   have:it.times≤(itF it).length:=by
    unfold itF;refine hr _ ?_ _;split <;>simp
   omega
  exact ih oO it hit
structure MrG where
 k:Nat
 p:Option Addr
 c:Nat
structure MsG where
 k:Nat
 M:List Ent
 out:List Nat
def qKm (hE:Seat E)(hB:Base E.w0){cs:List Value}{its:List It}{p:Option Addr}{c:Nat}(h0:cs[0]?=some (uPt pp))(h11:cs[11]?=some (.slice p its.length c))(hs:Sng its)(hlen:(dV its).length≤1000000000)
  (hids:∀x∈dV its,1≤x∧x≤(rls Es).length) (hrun:∀A x t B,dV its=A++List.replicate t x++B→len (rls Es) x*t≤dC) (hroom:Es.length+(dV its).length≤most):
  Ct E 284 [uPt S] [cells pp [uPt s,uPt tb] 117,tabP tb s (rls Es),bR s most Es,cells S cs 370,sl p c 400 4 its.length (itsC (rls Es) its)]
   (fun v Q=>∃M out p' c',v= .tuple #[.slice p' out.length c',.nilIface]∧M.length+out.length≤(dV its).length∧M.length+out.length≤pot its∧Rg (rls (Es++M)) (dV its) out∧Q=[cells pp [uPt s,uPt tb] 117,tabP tb s (rls (Es++M)),bR s most (Es++M),cells S cs 370,sl p' c' 400 4 out.length (itsC (rls (Es++M)) (kU out))]):=by
 have hil:=pF (its:=its) fun it h=>(hs it h).2
 have htl:=sG hlen;obtain⟨c1,c2,c3,c4,c5⟩:=qUf its hs;refine bO (hE.fn Tryz.func284) O O O (fun R=>?_);simp only[dX,uV,uW];refine gg23 ?_;refine iY (gU (t:=400) (sz:=4)) ?_;refine eQ (fun x:MrG=>[(0,uPt S),(4,.slice x.p (cmpI (its.take x.k)).length x.c),(15,.slice p its.length c),(16,.int .i64 (its.length:Nat)),(17,.int .i64 (x.k:Nat))]) (fun x=>[cells pp [uPt s,uPt tb] 117,tabP tb s (rls Es),bR s most Es,cells S cs 370,sl p c 400 4 its.length (itsC (rls Es) its),sl x.p x.c 400 4 (cmpI (its.take x.k)).length (itsC (rls Es) (cmpI (its.take x.k))),R]) (fun x=>its.length-x.k) (fun x=>x.k≤its.length) ⟨0,none,0⟩ (au _) ⟨O,O,O,O,O,trivial⟩ ?_ ?_
 ·exact uI
 rintro⟨k,p1,c1'⟩hk;simp only at hk ⊢;refine gg6 ?_;refine bE O (fun hlt=>?_) (fun hlt=>?_)
 ·have hkn:k<its.length:=oO;obtain⟨it,hit⟩:∃x,its[k]?=some x:=⟨_,ag hkn⟩;have hmem:=ay hit;obtain⟨f0,f1,f2,f3⟩:=xO (L:=rls Es) hit (0+((k:Nat):Int).toNat*4) oO;obtain⟨q1,q2,q3,q4,q5⟩:=qUf (its.take k) fun i hi=>hs i (lc hi)
  have eT:its.take (k+1)=its.take k++[it]:=by rw[ic,hit];rfl
  have ec:cmpI (its.take (k+1))=gP (cmpI (its.take k)) it:=by rw[eT,qBp]
  have hfl:(dV (cmpI (its.take k))).length≤1000000000:=by
   rw[q2];have:dV its=dV (its.take k)++dV (its.drop k):=by rw[←fO,iw]
   rw[this,aa]at hlen;omega
  have hpu:=qAv (x:=it) (l:=cmpI (its.take k)) (p:=p1) (c:=c1') (L:=rls Es) hE (by have:=List.length_take_le k its;omega) (fun y hy=>by have h1:=sG hfl y hy;have h2:=htl it hmem;omega);refine jG (p:=sl p c 400 4 its.length (itsC (rls Es) its)) uK (fun _ h=>fA h oO) ?_;rintro⟨g,rfl⟩;refine gg8 ?_;refine uU (cZ (hE.t O) (fun b6=>?_));refine gg6 ?_;refine uX (hpu) O ?_;rintro _ _⟨p',c',rfl,rfl⟩;rw[←ec];simp only[uV,uW];refine gg8 ?_;refine jR 17 (.int .i64 ((k+1:Nat):Int)) O (bW oO) ?_;refine bS (ι:=MrG) (j:=⟨k+1,p',c'⟩) (by show k+1≤its.length;omega) (by show its.length-(k+1)<its.length-k;omega) ⟨O,O,O,O,O,trivial⟩ ?_;exact uI
 obtain rfl:k=its.length:=by omega
 rw[bz (ai _)];obtain⟨l,hl⟩:∃l,l=cmpI its:=⟨_,rfl⟩;rw[←hl]at c1 c2 c3 c4 c5 ⊢;have hll:l.length≤1000000000:=oO;have hflat:=flat_prI c1;have hprl:∀q,(prI (l.take q)).length≤q:=fun q=>by simp[prI];omega
 have hlid:∀it∈l,1≤it.id∧it.id≤(rls Es).length:=fun it hit=>hids it.id (by rw[←c2];exact qQb hit (c1 it hit).2)
 refine gg14 ?_
 refine eQ (fun x:MsG=>[(0,uPt S),(4,.slice p1 l.length c1'),(25,.slice p1 l.length c1'),(26,.int .i64 (l.length:Nat)),(27,.int .i64 (x.k:Nat))]) (fun x=>[cells pp [uPt s,uPt tb] 117,tabP tb s (rls (Es++x.M)),bR s most (Es++x.M),cells S cs 370,sl p1 c1' 400 4 l.length (itsC (rls (Es++x.M)) (kU x.out++l.drop x.k)),R]) (fun x=>l.length-x.k)
  (fun x=>x.k≤l.length∧x.out.length=x.k∧x.M.length+x.k≤tsum (prI (l.take x.k))∧Rns (rls (Es++x.M)) (prI (l.take x.k)) x.out∧x.M.length≤hvy (l.take x.k)) ⟨0,[],[]⟩ ⟨au _,rfl,ai _,.nil,au _⟩ ⟨rfl,rfl,rfl,rfl,rfl,trivial⟩ ?_ ?_
 ·rw[aj];exact uI
 rintro⟨k,M,out⟩⟨hk,hok,hM,hrn,hhv⟩;simp only at hk hok hM hrn hhv ⊢;have hol:∀q,(kU out++l.drop q).length=k+(l.length-q):=fun q=>by simp[kU,hok]
 refine gg6 ?_;refine bE O (fun hlt2=>?_) (fun hlt2=>?_)
 ·have hkn:k<l.length:=oO;obtain⟨it,hit⟩:∃x,l[k]?=some x:=⟨_,ag hkn⟩;have hmem:=ay hit;obtain⟨hnx,htm⟩:=c1 it hmem;obtain⟨hi1,hi2⟩:=hlid it hmem;have eT:l.take (k+1)=l.take k++[it]:=by rw[ic,hit];rfl
  have eP:prI (l.take (k+1))=prI (l.take k)++[(it.id,it.times)]:=by rw[eT];simp[prI]
  have eS:tsum (prI (l.take (k+1)))=tsum (prI (l.take k))+it.times:=by rw[eP,wN];rfl
  have eD:=qCe hit
  have hat:(kU out++l.drop k)[k]?=some it:=by
   rw[ax (by simp[kU,hok]),eD];simp[kU,hok]
  obtain⟨f0,f1,f2,f3⟩:=xO (L:=rls (Es++M)) hat (0+((k:Nat):Int).toNat*4) oO;refine jG (p:=sl p1 c1' 400 4 l.length (itsC (rls (Es++M)) (kU out++l.drop k))) uK (fun _ h=>fA h oO) ?_;rintro⟨g,rfl⟩;refine jG (p:=bR s most (Es++M)) uK (fun _ h=>dS h) ?_;rintro⟨hwf,htx, -, -⟩;refine gg9 ?_;refine uU (cZ (hE.t O) (fun b8=>?_));refine gg12 ?_;refine bE O (fun h1=>?_) (fun h1=>?_)
  ·have ht1:it.times=1:=oO
   have eit:it=⟨it.id,0,1⟩:=by
    obtain⟨a,b,d⟩:=it;simp only at hnx ht1;subst hnx ht1;rfl
   refine gg8 ?_;refine jR 27 (.int .i64 ((k+1:Nat):Int)) O (bW oO) ?_;refine bS (ι:=MsG) (j:=⟨k+1,M,out++[it.id]⟩) ⟨hkn,by simp[hok],by show M.length+(k+1)≤_;rw[eS];omega,by show Rns _ (prI (l.take (k+1))) _;rw[eP];exact .snoc hrn (.inl ⟨ht1,rfl⟩),by show M.length≤hvy (l.take (k+1));rw[eT,vH];omega⟩ (by show l.length-(k+1)<l.length-k;omega) ⟨rfl,rfl,rfl,rfl,rfl,trivial⟩ ?_
   have ecur:kU (out++[it.id])++l.drop (k+1)=kU out++l.drop k:=by rw[eD];conv=>rhs;rw[eit]
                                                                  simp[kU]
   rw[ecur];exact uI
  have ht2:2≤it.times:=oO;obtain⟨i,hi⟩:∃i,it.id=i+1:=⟨it.id-1,oO⟩;have hil2:i<Es.length:=by rw[bQ]at hi2;omega
  have hEi:(Es++M)[i]?=some Es[i]:=by rw[ak oO,ag oO]
  have hfl:dV its=dV (l.take k)++List.replicate it.times it.id++dV (l.drop (k+1)):=by
   rw[←c2];conv=>lhs;rw[←iw k l,eD,fO,iC,lV hnx]
   rw[ah]
  have hln:=hrun _ _ _ _ hfl
  have hlt3:(Es[i]).t.length*it.times≤dC:=by
   rw[htx i _ hEi,dA,jQ _ (by rw[bQ];omega),←hi];exact hln
  have htk:tsum (prI (l.take (k+1)))≤(dV its).length:=by
   rw[←c2,←hflat,lC]
   have:prI l=prI (l.take (k+1))++prI (l.drop (k+1)):=by
    unfold prI;rw[←fw,iw]
   rw[this,wN];omega
  have hr:(Es++M).length<most:=by simp;omega
  have hpw:=qPp (s:=s) (most:=most) hE hEi ht2 hlt3 hr;rw[←hi]at hpw;refine gg3 ?_;refine uH ([cells pp [uPt s,uPt tb] 117,cells S cs 370,cells b8 [.int .i64 (it.id:Nat),.int .i64 (it.next:Nat),.int .u64 (key (rls (Es++M)) it.id:Nat),.int .i64 (it.times:Nat)] 400]) ?_;refine gg4 ?_;refine uD 5 O (uBf O) ?_;refine gg3 ?_;apply dH 4 O oK O;refine uC (jS hE) O ?_;rintro _ _⟨rfl,rfl⟩;simp only[uV,uW];refine uE ?_;apply dH 9 O oK O;refine uC (hpw) O ?_;rintro _ _⟨M2,id,rfl,hM2,hid,hrl,rfl⟩;obtain⟨j,rfl⟩:∃j,id=j+1:=⟨id-1,oO⟩;rw[dw]at hrl;have hjl:j<(Es++M++M2).length:=by have:=(ae.1 hrl).1;rwa [bQ]at this
  simp only[uV,uW];refine uE ?_;refine gg7 ?_;refine iY (cK (p:=tabP tb s (rls (Es++M))) (p':=tabP tb s (rls (Es++M++M2))) uK (fun _ h=>by rw[dA (Es++M)];exact sD _ h)) ?_
  have hcur:∀x∈kU out++l.drop k,x.id≤(rls (Es++M)).length:=by
   intro x hx;rcases bn.1 hx with h| h
   ·obtain⟨y,hy,rfl⟩:=fq.1 h;refine hrn.le (fun q hq=>?_) y hy;obtain⟨z,hz,rfl⟩:=fq.1 hq;have:=(hlid z (lc hz)).2;rw[dA,aa];simp only;omega
   have:=(hlid x (ol h)).2;rw[dA,aa];omega
  have ecs:itsC (rls (Es++M)) (kU out++l.drop k)=itsC (rls (Es++M++M2)) (kU out++l.drop k):=by rw[dA (Es++M)];exact(qQc _ hcur).symm
  rw[ecs];rw[ah]at hjl hrl ⊢;refine gg16 ?_;refine uX (qBt hE) O ?_;rintro _ _⟨rfl,rfl⟩;simp only[uV,uW];refine gg1 ?_;refine uX (qFl hE hB hjl) O ?_;rintro _ _⟨rfl,rfl⟩;simp only[uV,uW];refine gg32 ?_
  have est:bX (itsC (rls (Es++(M++M2))) (kU out++l.drop k)) (0+((k:Nat):Int).toNat*4) (bP (.agg #[.int .i64 ((j+1:Nat):Int),.int .i64 0,.int .u64 (key (rls (Es++(M++M2))) (j+1):Nat),.int .i64 1]))=itsC (rls (Es++(M++M2))) (kU (out++[j+1])++l.drop (k+1)):=by
   rw[eD];have:=qWn (L:=rls (Es++(M++M2))) (a:=kU out) (b:=l.drop (k+1)) (y:=it) (z:=⟨j+1,0,1⟩) (0+((k:Nat):Int).toNat*4) (by simp[kU,hok]);have e2:kU (out++[j+1])++l.drop (k+1)=kU out++(⟨j+1,0,1⟩:It)::l.drop (k+1):=by simp[kU]
   rw[e2,←this];rfl
  refine jR 27 (.int .i64 ((k+1:Nat):Int)) O (bW oO) ?_;refine bS (ι:=MsG) (j:=⟨k+1,M++M2,out++[j+1]⟩) ⟨hkn,by simp[hok],by show(M++M2).length+(k+1)≤_;rw[eS,aa];omega,?_,by show(M++M2).length≤hvy (l.take (k+1));rw[eT,vH,qHr,if_pos ht2,aa];omega⟩ (by show l.length-(k+1)<l.length-k;omega) ⟨rfl,rfl,rfl,rfl,rfl,trivial⟩ ?_
  ·show Rns _ (prI (l.take (k+1))) _;rw[eP];refine .snoc ?_ (.inr ⟨ht2,j,O,hrl⟩);rw[←ah,dA (Es++M)];exact hrn.ext _
  rw[←est];exact uI
 obtain rfl:k=l.length:=by omega
 rw[bz (ai _)]at hM hrn hhv;have hpc:=pot_cmp its;rw[←hl]at hpc;unfold pot at hpc;have hRg:=qDv hrn (fun q hq=>by obtain⟨z,hz,rfl⟩:=fq.1 hq;exact(c1 z hz).2) c3;rw[hflat,c2]at hRg;have htf:tsum (prI l)=(dV its).length:=by rw[←lC,hflat,c2]
 refine gg13 ?_;apply cB
 ·rfl
 ·(apply Rs.tmp rfl;apply Rs.tmp rfl;exact Rs.nil)
 ·exact⟨M,out,p1,c1',by rw[hok];rfl,oO,by unfold pot;omega,hRg,rfl⟩
 rw[jy (ai _),aj,hok];exact uI
end
section
variable {E:Env}{Es:List Ent}{pp tb s most S:Nat}
def qVz {its:List It}(hs:Sng its)(h1:∀it∈its,it.times=1):dV its=its.map (·.id):=by
 induction its with
 |nil=>rfl
 |cons a l ih=>
  rw[iC,ih (fun i hi=>hs i (by simp[hi])) (fun i hi=>h1 i (by simp[hi])),lV (hs a (by simp)).1,h1 a (by simp)]
  rfl
structure MpG where
 k:Nat
 M:List Ent
 l:List It
 p:Option Addr
 c:Nat
def rV {L:List Rl}{l:List It}{x:It}(h:∀i∈l,i.id≤L.length) (hx:x.id≤L.length):∀i∈gP l x,i.id≤L.length:=by
 rcases bu l with rfl|⟨a,y,rfl⟩
 ·rw[qZ];intro i hi;simp at hi;subst hi;exact hx
 rw[bv]at*;have hy:=h y (by simp);rw[lJ];split <;>intro i hi
 ·rcases bn.1 hi with hi|hi
  ·exact h i (by simp[hi])
  obtain rfl:=bg.1 hi;exact hy
 rcases bn.1 hi with hi|hi
 ·exact h i hi
 obtain rfl:=bg.1 hi;exact hx
structure MpI (Es:List Ent)(c:Nat)(xs:List Nat)(x:MpG):Prop where
 le:x.k≤xs.length
 pg:PgB (rls (Es++x.M)) c (xs.take x.k) (dV x.l) (xs[x.k]?)
 sng:Sng x.l
 room:x.M.length+(dV x.l).length≤x.k
 ids:∀i∈x.l,i.id≤(rls (Es++x.M)).length
def qHg (hE:Seat E)(hB:Base E.w0){cs:List Value}{its:List It}{p:Option Addr}{c lv:Nat}(h0:cs[0]?=some (uPt pp))(h11:cs[11]?=some (.slice p its.length c))(hs:Sng its)(h1:∀it∈its,it.times=1) (hlen:(dV its).length≤1000000000)
  (hids:∀x∈dV its,1≤x∧x≤(rls Es).length) (hadj:∀A x y B,dV its=A++[x,y]++B→len (rls Es) x+len (rls Es) y≤dC) (hroom:Es.length+(dV its).length≤most) (h2l:2≤lv) (hev:lv%2=0) (hll:lv<1099511627776):
  Ct E 286 [uPt S,.int .i64 (lv:Nat)] [cells pp [uPt s,uPt tb] 117,tabP tb s (rls Es),bR s most Es,cells S cs 370,sl p c 400 4 its.length (itsC (rls Es) its)]
   (fun v Q=>∃M l p' c',v= .tuple #[.slice p' l.length c',.nilIface]∧M.length+(dV l).length≤(dV its).length∧Pg (rls (Es++M)) (num lv) (dV its) (dV l)∧Sng l∧Q=[cells pp [uPt s,uPt tb] 117,tabP tb s (rls (Es++M)),bR s most (Es++M),cells S cs 370,sl p' c' 400 4 l.length (itsC (rls (Es++M)) l)]):=by
 have hfm:=qVz hs h1;obtain⟨xs,hxs⟩:∃xs,xs=its.map (·.id):=⟨_,rfl⟩;rw[←hxs]at hfm;rw[hfm]at hlen hids hadj hroom ⊢;have hxl:xs.length=its.length:=by rw[hxs];simp
 refine bO (hE.fn Tryz.func286) O O O (fun R=>?_);simp only[dX,uV,uW];refine gg23 ?_;refine iY (gU (t:=400) (sz:=4)) ?_;refine eQ (fun x:MpG=>[(0,uPt S),(1,.int .i64 (lv:Nat)),(6,.slice x.p x.l.length x.c),(7,.nilIface),(8,.int .i64 (x.k:Nat))]) (fun x=>[cells pp [uPt s,uPt tb] 117,tabP tb s (rls (Es++x.M)),bR s most (Es++x.M),cells S cs 370,sl p c 400 4 its.length (itsC (rls Es) its),sl x.p x.c 400 4 x.l.length (itsC (rls (Es++x.M)) x.l),R]) (fun x=>xs.length-x.k) (MpI Es (num lv) xs) ⟨0,[],[],none,0⟩ ⟨au _,PgB.start _ _ _,fun i hi=>by simp at hi,ai _,fun i hi=>by simp at hi⟩ ⟨rfl,rfl,rfl,rfl,rfl,trivial⟩ ?_ ?_
 ·rw[aj];exact uI
 rintro⟨k,M,l,p1,c1⟩hI;have hk:=hI.le;have hpg:=hI.pg;have hsn:=hI.sng;have hrm:=hI.room;have hid:=hI.ids;simp only at hk hpg hsn hrm hid ⊢
 have hll2:l.length≤1000000000:=by
  have:=pF (its:=l) fun i hi=>(hsn i hi).2
  omega
 have htl:∀y∈l,y.times≤1000000000:=sG oO;refine gg12 ?_;refine bE O (fun hlt=>?_) (fun hlt=>?_)
 ·have hkn:k<its.length:=oO;obtain⟨it,hit⟩:∃x,its[k]?=some x:=⟨_,ag hkn⟩;have hxk:xs[k]?=some it.id:=by rw[hxs];simp[hit]
  have hmem:=ay hit;obtain⟨hnx,_⟩:=hs it hmem;have htm:=h1 it hmem;have hir:=hids it.id (ay hxk);obtain⟨f0,f1,f2,f3⟩:=xO (L:=rls Es) hit (0+((k:Nat):Int).toNat*4) oO;rw[hnx]at f1;rw[htm]at f3;have eT:xs.take (k+1)=xs.take k++[it.id]:=by rw[ic,hxk];rfl
  have hkx:key (rls (Es++M)) it.id=key (rls Es) it.id:=by rw[dA];exact fM _ hir.2
  have eit:it=⟨it.id,0,1⟩:=by
   obtain⟨a,b,d⟩:=it;simp only at hnx htm;subst hnx htm;rfl
  refine jG (p:=sl p c 400 4 its.length (itsC (rls Es) its)) uK (fun _ h=>fA h oO) ?_;rintro⟨g,rfl⟩;refine jG (p:=bR s most (Es++M)) uK (fun _ h=>dS h) ?_;rintro⟨hwf,htx, -, -⟩;rw[hxk]at hpg;have hpu:=qAv (x:=⟨it.id,0,1⟩) (l:=l) (p:=p1) (c:=c1) (L:=rls (Es++M)) hE oO (fun y hy=>by have h1:=htl y hy;show y.times+1≤_;omega);simp only at hpu;rw[hkx]at hpu
  have hpush:∀nx,(∀v,nx=some v→¬eY (num lv) (key (rls (Es++M)) it.id) (key (rls (Es++M)) v))→PgB (rls (Es++M)) (num lv) (xs.take (k+1)) (dV (gP l ⟨it.id,0,1⟩)) nx:=fun nx hnx2=>by
   rw[eT,gM hsn rfl];exact hpg.single hnx2
  refine gg13 ?_;refine uU (cZ (hE.t O) (fun b9=>?_));refine gg5 ?_;refine uH ([cells S cs 370,sl (some ⟨g,0,none⟩) c 400 4 its.length (itsC (rls Es) its),cells b9 [.int .i64 (it.id:Nat),.int .i64 ((0:Nat):Int),.int .u64 (key (rls Es) it.id:Nat),.int .i64 ((1:Nat):Int)] 400]) ?_;refine gg9 ?_;refine qVo 34 O (fun h3=>?_) (fun h3=>?_)
  ·have hlast:∀v,xs[k+1]?=some v→¬eY (num lv) (key (rls (Es++M)) it.id) (key (rls (Es++M)) v):=fun v hv=>by
    rw[ig oO]at hv;cases hv
   refine uR 9 O O O O ?_;refine gg21 ?_;refine uX (hpu) O ?_;rintro _ _⟨p',c',rfl,rfl⟩;simp only[uV,uW];refine gg12 ?_;refine jR 8 (.int .i64 ((k+1:Nat):Int)) O (bW oO) ?_;refine bS (ι:=MpG) (j:=⟨k+1,M,gP l ⟨it.id,0,1⟩,p',c'⟩) ⟨by show k+1≤_;omega,hpush _ hlast,lY hsn ⟨rfl,ai _⟩,by show M.length+(dV (gP l ⟨it.id,0,1⟩)).length≤k+1;rw[gM hsn rfl];simp;omega,rV hid (by show it.id≤_;rw[dA,aa];omega)⟩ (by show xs.length-(k+1)<xs.length-k;omega) ⟨rfl,rfl,rfl,rfl,rfl,trivial⟩ ?_;exact uI
  have hkn2:k+1<its.length:=oO;obtain⟨y,hy⟩:∃x,its[k+1]?=some x:=⟨_,ag hkn2⟩;have hxk2:xs[k+1]?=some y.id:=by rw[hxs];simp[hy]
  have hyr:=hids y.id (ay hxk2);have hky:key (rls (Es++M)) y.id=key (rls Es) y.id:=by rw[dA];exact fM _ hyr.2
  obtain⟨e0,e1,e2,e3⟩:=xO (L:=rls Es) hy (0+(((k:Nat):Int)+1).toNat*4) oO;refine uO 9 O O O (uBf O) ?_;refine gg11 ?_;apply qCb 21 O O O oK O;refine uC (qNh hE h2l hev hll) O ?_;rintro _ _⟨⟨d,rfl,hd⟩,rfl⟩;simp only[uV,uW];refine uE ?_;refine gg4 ?_;cases d with
  |false=>
   have hnf:∀v,xs[k+1]?=some v→¬eY (num lv) (key (rls (Es++M)) it.id) (key (rls (Es++M)) v):=fun v hv hf=>by
    rw[hxk2]at hv;cases hv
    rw[hkx,hky]at hf;exact absurd (hd.2 hf) (by simp)
   refine gg5 ?_
   refine uX (hpu) O ?_
   rintro _ _⟨p',c',rfl,rfl⟩
   simp only[uV,uW]
   refine gg12 ?_
   refine jR 8 (.int .i64 ((k+1:Nat):Int)) O (bW oO) ?_
   refine bS (ι:=MpG) (j:=⟨k+1,M,gP l ⟨it.id,0,1⟩,p',c'⟩) ⟨by show k+1≤_;omega,hpush _ hnf,lY hsn ⟨rfl,ai _⟩,by show M.length+(dV (gP l ⟨it.id,0,1⟩)).length≤k+1;rw[gM hsn rfl];simp;omega,rV hid (by show it.id≤_;rw[dA,aa];omega)⟩ (by show xs.length-(k+1)<xs.length-k;omega) ⟨rfl,rfl,rfl,rfl,rfl,trivial⟩ ?_
   exact uI
  |true=>
   have hft:=hd.1 O
   rw[←hkx,←hky]at hft
   have eT2:xs.take (k+2)=xs.take k++[it.id,y.id]:=by rw[ic,ic,hxk,hxk2];simp
   have hxd:xs=xs.take k++[it.id,y.id]++xs.drop (k+2):=by rw[←eT2,iw]
   have hln:=hadj _ _ _ _ hxd
   have hpp:=rG (Es:=Es++M) (S:=S) (cs:=cs) (l:=l) (x:=it.id) (y:=y.id) (t:=1) (p:=p1) (c:=c1) (pp:=pp) (tb:=tb) (s:=s) (most:=most) hE hB h0 oO (fun i hi=>by have:=htl i hi;omega) hid ⟨hir.1,by rw[dA,aa];omega⟩ ⟨hyr.1,by rw[dA,aa];omega⟩ (by rw[dA,mI _ hir.2,mI _ hyr.2];exact hln) (by simp;omega)
   refine gg11 ?_
   refine uH ([cells S cs 370,sl (some ⟨g,0,none⟩) c 400 4 its.length (itsC (rls Es) its),cells b9 [.int .i64 (it.id:Nat),.int .i64 ((0:Nat):Int),.int .u64 (key (rls Es) it.id:Nat),.int .i64 ((1:Nat):Int)] 400]) ?_
   refine gg12 ?_
   apply dH 12 O oK O
   refine uC (hpp) O ?_
   rintro _ _⟨M2,j,p',c',rfl,hM2,hrl,rfl⟩
   rw[ah]at hrl ⊢
   simp only[uV,uW]
   refine uE ?_
   refine gg22 ?_
   refine qGs (p:=bR s most (Es++(M++M2))) uK (fun _ h=>dS h) ?_
   rintro⟨hwf2, -, -, -⟩
   have eL:rls (Es++(M++M2))=rls (Es++M)++rls M2:=by rw[←ah,dA]
   have hxsl:∀x∈xs,x≤(rls (Es++M)).length:=fun x hx=>by
    have:=hids x hx;rw[dA,aa];omega
   have hpg2:PgB (rls (Es++(M++M2))) (num lv) (xs.take k) (dV l) (some it.id):=by
    rw[eL];exact hpg.ext _ (fun x hx=>hxsl x (lc hx)) (fun x hx=>by cases hx;exact hxsl _ (ay hxk))
   have hft2:eY (num lv) (key (rls (Es++(M++M2))) it.id) (key (rls (Es++(M++M2))) y.id):=by
    rw[eL,fM _ (hxsl _ (ay hxk)),fM _ (hxsl _ (ay hxk2))];exact hft
   have hjl:j+1≤(rls (Es++(M++M2))).length:=(ae.1 hrl).1
   refine jR 8 (.int .i64 ((k+2:Nat):Int)) O (bW oO) ?_
   refine bS (ι:=MpG) (j:=⟨k+2,M++M2,gP l ⟨j+1,0,1⟩,p',c'⟩) ⟨by show k+2≤_;omega,?_,lY hsn ⟨rfl,ai _⟩,?_,rV (fun i hi=>by have:=hid i hi;show i.id≤(rls (Es++(M++M2))).length;rw[eL,aa];omega) hjl⟩ (by show xs.length-(k+2)<xs.length-k;omega) ⟨rfl,rfl,rfl,rfl,rfl,trivial⟩ ?_
   ·show PgB (rls (Es++(M++M2))) (num lv) (xs.take (k+2)) (dV (gP l ⟨j+1,0,1⟩)) _
    rw[eT2,gM hsn rfl]
    exact hpg2.pair hwf2 hft2 hrl
   ·show(M++M2).length+(dV (gP l ⟨j+1,0,1⟩)).length≤k+2
    rw[gM hsn rfl]
    simp
    omega
   exact uI
 obtain rfl:k=its.length:=by omega
 refine gg13 ?_;apply cB
 ·rfl
 ·(apply Rs.tmp rfl;apply Rs.tmp rfl;exact Rs.nil)
 ·refine⟨M,l,p1,c1,O,oO,?_,hsn,O⟩;have:=hpg.1;rwa [bz oO]at this
 exact uI
end
section
variable {E:Env}{Es:List Ent}{pp tb s most S:Nat}
def oddl (o:Nat):List Nat:=if o=0 then[]else[o]
def qYp {o a b:Nat}(hb:b≠0):∀t,[o]++itF ⟨a,b,t+1⟩=[o,a]++(List.replicate t [b,a]).flatten++[b]
 |0=>by simp[itF,hb]
 |t+1=>by
  have ih:=qYp (o:=b) (a:=a) hb t
  have e:itF ⟨a,b,t+1+1⟩=[a]++([b]++itF ⟨a,b,t+1⟩):=by
   simp[itF,hb,cu]
  rw[e,ih,cu,ko];simp
structure MtG where
 k:Nat
 M:List Ent
 l:List It
 p:Option Addr
 c:Nat
 o:Nat
 ok:Nat
 ot:Nat
 done:List Nat
structure MtI (Es:List Ent)(its:List It)(x:MtG):Prop where
 le:x.k≤its.length
 pg:PgB (rls (Es++x.M)) 122 x.done (dV x.l) ((oddl x.o++dV (its.drop x.k)).head?)
 row:x.done++oddl x.o=dV (its.take x.k)
 sng:Sng x.l
 room:x.M.length+(dV x.l).length≤x.done.length
 ids:∀i∈x.l,i.id≤(rls (Es++x.M)).length
 odd:x.o≠0→x.ok=key (rls Es) x.o∧x.ot=1
def MtI.oid {Es:List Ent}{its:List It}{x:MtG}(h:MtI Es its x)(hids:∀y∈dV its,1≤y∧y≤(rls Es).length):x.o≤(rls Es).length:=by
 by_cases h0:x.o=0
 ·omega
 have hm:x.o∈dV (its.take x.k):=by rw[←h.row,oddl,if_neg h0];simp
 refine(hids x.o ?_).2;have:dV its=dV (its.take x.k)++dV (its.drop x.k):=by rw[←fO,iw]
 rw[this];exact fu _ hm
def yT (hE:Seat E)(hB:Base E.w0){cs:List Value}{its:List It}{p:Option Addr}{c:Nat}(h0:cs[0]?=some (uPt pp))(h11:cs[11]?=some (.slice p its.length c))(hit0:ItT (rls Es) its)(hlen:(dV its).length≤1000000000)
  (hids:∀x∈dV its,1≤x∧x≤(rls Es).length) (hadj:∀A x y B,dV its=A++[x,y]++B→len (rls Es) x+len (rls Es) y≤dC) (hroom:Es.length+(dV its).length≤most):
  Ct E 285 [uPt S] [cells pp [uPt s,uPt tb] 117,tabP tb s (rls Es),bR s most Es,cells S cs 370,sl p c 400 4 its.length (itsC (rls Es) its)]
   (fun v Q=>∃M l p' c',v= .tuple #[.slice p' l.length c',.nilIface]∧M.length+(dV l).length≤(dV its).length∧Pg (rls (Es++M)) 122 (dV its) (dV l)∧Sng l∧Q=[cells pp [uPt s,uPt tb] 117,tabP tb s (rls (Es++M)),bR s most (Es++M),cells S cs 370,sl p' c' 400 4 l.length (itsC (rls (Es++M)) l)]):=by
 have hil:=pF (its:=its) fun it h=>(hit0 it h).1
 refine bO (hE.fn Tryz.func285) O O O (fun R=>?_);simp only[dX,uV,uW];refine gg13 ?_;refine uU (cZ (hE.t O) (fun b5=>?_));refine gg19 ?_;refine iY (gU (t:=400) (sz:=4)) ?_;refine eQ (fun x:MtG=>[(0,uPt S),(4,.slice x.p x.l.length x.c),(5,uPt b5),(6,.nilIface),(12,.slice p its.length c),(13,.int .i64 (its.length:Nat)),(14,.int .i64 (x.k:Nat))]) (fun x=>[cells pp [uPt s,uPt tb] 117,tabP tb s (rls (Es++x.M)),bR s most (Es++x.M),cells S cs 370,sl p c 400 4 its.length (itsC (rls Es) its),sl x.p x.c 400 4 x.l.length (itsC (rls (Es++x.M)) x.l),cells b5 [.int .i64 (x.o:Nat),.int .i64 0,.int .u64 (x.ok:Nat),.int .i64 (x.ot:Nat)] 400,R]) (fun x=>its.length-x.k) (MtI Es its) ⟨0,[],[],none,0,0,0,0,[]⟩ ⟨au _,PgB.start _ _ _,O,fun i hi=>by simp at hi,ai _,fun i hi=>by simp at hi,fun h=>absurd rfl h⟩ ⟨rfl,rfl,rfl,rfl,rfl,rfl,rfl,trivial⟩ ?_ ?_
 ·rw[aj];exact uI
 rintro⟨k,M,l,p1,c1,o,ok,ot,done⟩hI;have hoid:=hI.oid hids;have hk:=hI.le;have hpg:=hI.pg;have hrow:=hI.row;have hsn:=hI.sng;have hrm:=hI.room;have hid:=hI.ids;have hodd:=hI.odd;simp only at hoid hk hpg hrow hsn hrm hid hodd ⊢;have hfd:dV its=dV (its.take k)++dV (its.drop k):=by rw[←fO,iw]
 have hdl:done.length≤(dV its).length:=by rw[hfd,←hrow];simp
 have hll2:l.length≤1000000000:=by
  have:=pF (its:=l) fun i hi=>(hsn i hi).2
  omega
 have htl:∀y∈l,y.times≤1000000000:=sG oO
 have hpu:o≠0→Ct E 292 [.slice p1 l.length c1,.agg #[.int .i64 (o:Nat),.int .i64 0,.int .u64 (ok:Nat),.int .i64 (ot:Nat)]] [sl p1 c1 400 4 l.length (itsC (rls (Es++M)) l)] (fun v Q=>∃p' c',v= .slice p' (gP l ⟨o,0,1⟩).length c'∧Q=[sl p' c' 400 4 (gP l ⟨o,0,1⟩).length (itsC (rls (Es++M)) (gP l ⟨o,0,1⟩))]):=fun hz=>by
  obtain⟨rfl,rfl⟩:=hodd hz;have:=qAv (x:=⟨o,0,1⟩) (l:=l) (p:=p1) (c:=c1) (L:=rls (Es++M)) hE oO (fun y hy=>by have h1:=htl y hy;show y.times+1≤_;omega);simp only at this;rw[show key (rls (Es++M)) o=key (rls Es) o by rw[dA];exact fM _ hoid]at this;exact this
 refine gg6 ?_;refine bE O (fun hlt=>?_) (fun hlt=>?_)
 ·have hkn:k<its.length:=oO;obtain⟨it,hit⟩:∃x,its[k]?=some x:=⟨_,ag hkn⟩;have hmem:=ay hit;obtain⟨i1,i2,i3⟩:=hit0 it hmem;have eD:=qCe hit;have eT:its.take (k+1)=its.take k++[it]:=by rw[ic,hit];rfl
  have hir:=hids it.id (qQb hmem i1);obtain⟨f0,f1,f2,f3⟩:=xO (L:=rls Es) hit (0+((k:Nat):Int).toNat*4) oO;have hhd:(dV (its.drop k)).head?=some it.id:=by rw[eD,iC,ug,vI i1];rfl
  refine jG (p:=sl p c 400 4 its.length (itsC (rls Es) its)) uK (fun _ h=>fA h oO) ?_;rintro⟨g,rfl⟩;refine gg8 ?_;refine uU (cZ (hE.t O) (fun b8=>?_));refine gg3 ?_;refine nM (fun x:MtG=>[(0,uPt S),(4,.slice x.p x.l.length x.c),(5,uPt b5),(6,.nilIface),(8,uPt b8),(12,.slice (some ⟨g,0,none⟩) its.length c),(13,.int .i64 (its.length:Nat)),(14,.int .i64 (k:Nat))]) (fun x=>[cells pp [uPt s,uPt tb] 117,tabP tb s (rls (Es++M)),bR s most (Es++M),cells S cs 370,sl (some ⟨g,0,none⟩) c 400 4 its.length (itsC (rls Es) its),sl x.p x.c 400 4 x.l.length (itsC (rls (Es++M)) x.l),cells b5 [.int .i64 (x.o:Nat),.int .i64 0,.int .u64 (x.ok:Nat),.int .i64 (x.ot:Nat)] 400,cells b8 [.int .i64 (it.id:Nat),.int .i64 (it.next:Nat),.int .u64 (key (rls Es) it.id:Nat),.int .i64 (it.times:Nat)] 400,R]) (fun x=>MtI Es its x∧x.k=k∧x.M=M∧(x.o≠0→key (rls Es) x.o=key (rls Es) it.id)) ?_ ?_
  ·refine gg6 ?_;refine eF 21 O (fun h1=>?_) (fun h1=>?_)
   ·have hoz:o≠0:=oO;obtain⟨q1,q2⟩:=hodd hoz;refine gg13 ?_;refine bE O (fun h2=>?_) (fun h2=>?_)
    ·refine gg4 ?_;refine uX (hpu hoz) O ?_;rintro _ _⟨p',c',rfl,rfl⟩;simp only[uV,uW];refine gg7 ?_;have hol:oddl o=[o]:=if_neg hoz;rw[hol]at hpg hrow;refine fZ (ι:=MtG) ⟨k,M,gP l ⟨o,0,1⟩,p',c',0,ok,ot,done++[o]⟩ ⟨⟨hk,?_,?_,lY hsn ⟨O,ai _⟩,?_,rV hid (by show o≤_;rw[dA,aa];omega),fun h=>absurd O h⟩,O,O,fun h=>absurd O h⟩ ⟨O,O,O,O,O,O,O,O,trivial⟩ ?_
     ·show PgB (rls (Es++M)) 122 (done++[o]) (dV (gP l ⟨o,0,1⟩)) ((oddl 0++dV (its.drop k)).head?);rw[gM hsn rfl];refine PgB.single hpg fun v hv hf=>?_
      have e0:oddl 0=[]:=rfl;rw[e0,jq,hhd]at hv;cases hv
      rw[rP rfl,dA,fM _ hoid,fM _ hir.2]at hf;omega
     ·show done++[o]++oddl 0=_;rw[←hrow];simp[oddl]
     ·show M.length+(dV (gP l ⟨o,0,1⟩)).length≤(done++[o]).length;rw[gM hsn rfl];simp;omega
     exact uI
    refine gg1 ?_;refine fZ (ι:=MtG) ⟨k,M,l,p1,c1,o,ok,ot,done⟩ ⟨hI,O,O,fun _=>by show key (rls Es) o=_;omega⟩ ⟨rfl,rfl,rfl,rfl,rfl,rfl,rfl,rfl,trivial⟩ ?_;exact uI
   refine gg10 ?_;refine fZ (ι:=MtG) ⟨k,M,l,p1,c1,o,ok,ot,done⟩ ⟨hI,O,O,fun h=>by exfalso;simp only at h;omega⟩ ⟨rfl,rfl,rfl,rfl,rfl,rfl,rfl,rfl,trivial⟩ ?_;exact uI
  clear hI hpg hrow hsn hrm hid hodd hdl hll2 htl hpu hoid;rintro⟨k',M',l,p1,c1,o,ok,ot,done⟩⟨hI,hk',hM',hkey⟩;simp only at hk' hM' hkey;replace hk':=hk'.symm;replace hM':=hM'.symm;subst hk';subst hM';have hoid:=hI.oid hids;have hpg:=hI.pg;have hrow:=hI.row;have hsn:=hI.sng;have hrm:=hI.room;have hid:=hI.ids;have hodd:=hI.odd;simp only at hoid hpg hrow hsn hrm hid hodd ⊢;rw[eD,iC]at hfd
  have hitl:1≤(itF it).length:=by
   have:=vI i1;cases e:itF it with
   |nil=>rw[e]at this;simp at this
   |cons q qs=>simp
  have hdl:done.length+1≤(dV its).length:=by rw[hfd,←hrow];simp;omega
  have hll2:l.length≤1000000000:=by
   have:=pF (its:=l) fun i hi=>(hsn i hi).2
   omega
  have htl:∀y∈l,y.times≤1000000000:=sG oO;have htt:it.times≤1000000000:=sG hlen it hmem;have hrt:(dV (its.take (k+1)))=dV (its.take k)++itF it:=by rw[eT,fO,jB]
  have bnd:∀{x:Nat},x≤(rls Es).length→x≤(rls (Es++M)).length:=fun h=>by rw[dA,aa];omega
  have hspl:it.next≠0→itF it=[it.id,it.next]++(List.replicate (it.times-1) [it.id,it.next]).flatten:=fun hn=>by
   obtain⟨m,hm⟩:∃m,it.times=m+1:=⟨it.times-1,oO⟩;unfold itF;rw[if_neg hn,hm,dw,cu,ko]
  have hnid:it.next≠0→1≤it.next∧it.next≤(rls Es).length:=fun hn=>hids it.next (by
   rw[hfd,hspl hn];simp)
  rw[ug,hhd]at hpg;refine gg8 ?_;refine eF 71 O (fun h4=>?_) (fun h4=>?_)
  ·obtain rfl:o=0:=by omega
   have hpg0:PgB (rls (Es++M)) 122 done (dV l) (some it.id):=hpg;have hrow0:done=dV (its.take k):=by rw[←hrow];simp[oddl]
   refine gg10 ?_;refine bE O (fun h5=>?_) (fun h5=>?_)
   ·have hnx:it.next=0:=oO;have htm:=i2 hnx;refine gg20 ?_;refine jR 14 (.int .i64 ((k+1:Nat):Int)) O (bW oO) ?_;refine bS (ι:=MtG) (j:=⟨k+1,M,l,p1,c1,it.id,key (rls Es) it.id,it.times,done⟩) ⟨hkn,?_,?_,hsn,hrm,hid,fun _=>⟨O,htm⟩⟩ (by show its.length-(k+1)<its.length-k;omega) ⟨O,O,O,O,O,O,O,trivial⟩ ?_
    ·show PgB _ 122 done (dV l) ((oddl it.id++dV (its.drop (k+1))).head?);rw[oddl,if_neg oO];exact hpg0
    ·show done++oddl it.id=_;rw[hrt,←hrow0,lV hnx,htm,oddl,if_neg oO];rfl
    rw[hnx];exact uI
   have hnx:it.next≠0:=oO;obtain⟨n1,n2⟩:=hnid hnx;have hln:=hadj (dV (its.take k)) it.id it.next ((List.replicate (it.times-1) [it.id,it.next]).flatten++dV (its.drop (k+1))) (by rw[hfd,hspl hnx];simp);have hpp:=rG (Es:=Es++M) (S:=S) (cs:=cs) (l:=l) (x:=it.id) (y:=it.next) (t:=it.times) (p:=p1) (c:=c1) (pp:=pp) (tb:=tb) (s:=s) (most:=most) hE hB h0 oO (fun i hi=>by have:=htl i hi;omega) hid ⟨hir.1,bnd hir.2⟩ ⟨n1,bnd n2⟩ (by rw[dA,mI _ hir.2,mI _ n2];exact hln) (by simp;omega);refine gg8 ?_;refine bE O (fun h6=>?_) (fun h6=>?_)
   ·refine gg9 ?_;refine uX (hpp) O ?_;rintro _ _⟨M2,j,p',c',rfl,hM2,hrl,rfl⟩;rw[ah]at hrl ⊢;simp only[uV,uW];refine gg22 ?_;refine qGs (p:=bR s most (Es++(M++M2))) uK (fun _ h=>dS h) ?_;rintro⟨hwf2, -, -, -⟩;have eL:rls (Es++(M++M2))=rls (Es++M)++rls M2:=by rw[←ah,dA]
    have hpg2:PgB (rls (Es++(M++M2))) 122 done (dV l) (some it.id):=by
     rw[eL];refine hpg0.ext _ (fun x hx=>bnd (hids x ?_).2) (fun x hx=>by cases hx;exact bnd hir.2);rw[hfd,←hrow0];simp[hx]
    have hf2:eY 122 (key (rls (Es++(M++M2))) it.id) (key (rls (Es++(M++M2))) it.next):=by
     rw[rP rfl,eL,fM _ (bnd hir.2),fM _ (bnd n2),dA,fM _ hir.2,fM _ n2];exact(i3 hnx).symm
    obtain⟨m,hm⟩:∃m,it.times=m+1:=⟨it.times-1,oO⟩;have hprs:=PgB.pairs hwf2 hf2 hrl m hpg2 (nxt:=(oddl 0++dV (its.drop (k+1))).head?);rw[←hm]at hprs;have eit:itF it=(List.replicate it.times [it.id,it.next]).flatten:=by unfold itF;rw[if_neg hnx]
    have hjl:j+1≤(rls (Es++(M++M2))).length:=(ae.1 hrl).1;refine jR 14 (.int .i64 ((k+1:Nat):Int)) O (bW oO) ?_;refine bS (ι:=MtG) (j:=⟨k+1,M++M2,gP l ⟨j+1,0,it.times⟩,p',c',0,ok,ot,done++itF it⟩) ⟨hkn,?_,?_,lY hsn ⟨O,i1⟩,?_,rV (fun i hi=>by have:=hid i hi;show i.id≤(rls (Es++(M++M2))).length;rw[eL,aa];omega) hjl,fun h=>absurd rfl h⟩ (by show its.length-(k+1)<its.length-k;omega) ⟨rfl,rfl,rfl,rfl,rfl,rfl,rfl,trivial⟩ ?_
    ·show PgB _ 122 (done++itF it) (dV (gP l ⟨j+1,0,it.times⟩)) _;rw[gM hsn rfl,eit];exact hprs
    ·show done++itF it++oddl 0=_;rw[hrt,hrow0];simp[oddl]
    ·show(M++M2).length+(dV (gP l ⟨j+1,0,it.times⟩)).length≤(done++itF it).length;rw[gM hsn rfl,eit]
     have hrl2:∀t,(List.replicate t [it.id,it.next]).flatten.length=2*t:=fun t=>by
      induction t with
      |zero=>rfl
      |succ t ih=>rw[cu,ko,aa,ih];simp;omega
     simp only[aa,ng,hrl2];omega
    exact uI
   exfalso;omega
  have hoz:o≠0:=oO;obtain⟨rfl,rfl⟩:=hodd hoz;have hkk:=hkey hoz;have hol:oddl o=[o]:=if_neg hoz;rw[hol]at hpg hrow;have hpg1:PgB (rls (Es++M)) 122 done (dV l) (some o):=hpg
  obtain⟨tl,htl2⟩:∃tl,itF it=it.id::tl:=by
   have:=vI i1;cases e:itF it with
   |nil=>rw[e]at this;simp at this
   |cons q qs=>rw[e]at this;simp at this;subst this;exact⟨qs,rfl⟩
  have ho1:1≤o:=oO;have hln:=hadj done o it.id (tl++dV (its.drop (k+1))) (by rw[hfd,←hrow,htl2];simp);have hpp:=rG (Es:=Es++M) (S:=S) (cs:=cs) (l:=l) (x:=o) (y:=it.id) (t:=1) (p:=p1) (c:=c1) (pp:=pp) (tb:=tb) (s:=s) (most:=most) hE hB h0 oO (fun i hi=>by have:=htl i hi;omega) hid ⟨ho1,bnd hoid⟩ ⟨hir.1,bnd hir.2⟩ (by rw[dA,mI _ hir.2,mI _ hoid];exact hln) (by simp;omega);refine gg16 ?_;refine bE O (fun h6=>?_) (fun h6=>?_)
  ·exfalso;omega
  refine gg8 ?_;refine uX (hpp) O ?_;rintro _ _⟨M2,j,p',c',rfl,hM2,hrl,rfl⟩;rw[ah]at hrl ⊢;simp only[uV,uW];have eL:rls (Es++(M++M2))=rls (Es++M)++rls M2:=by rw[←ah,dA]
  have hjl:j+1≤(rls (Es++(M++M2))).length:=(ae.1 hrl).1;have bnd2:∀{x:Nat},x≤(rls Es).length→x≤(rls (Es++(M++M2))).length:=fun h=>by rw[dA,aa];omega
  have hsn2:Sng (gP l ⟨j+1,0,1⟩):=lY hsn ⟨O,ai _⟩;have hid2:=rV (x:=⟨j+1,0,1⟩) (fun i hi=>by have:=hid i hi;show i.id≤(rls (Es++(M++M2))).length;rw[eL,aa];omega) hjl
  have hft:∀{N:List Ent},eY 122 (key (rls (Es++N)) o) (key (rls (Es++N)) it.id):=fun{N}=>by
   rw[rP rfl,dA,fM _ hoid,fM _ hir.2];exact hkk
  have hdn:∀x∈done,x≤(rls Es).length:=fun x hx=>(hids x (by rw[hfd,←hrow];simp[hx])).2
  have hpgx:PgB (rls (Es++(M++M2))) 122 done (dV l) (some o):=by
   rw[eL];exact hpg1.ext _ (fun x hx=>bnd (hdn x hx)) (fun x hx=>by cases hx;exact bnd hoid)
  have hl2:(dV (gP l ⟨j+1,0,1⟩))=dV l++[j+1]:=gM hsn O;refine sZ (p:=bR s most (Es++(M++M2))) uK (fun _ h=>dS h) ?_;rintro⟨hwf2, -, -, -⟩
  have hpg2:∀nx,PgB (rls (Es++(M++M2))) 122 (done++[o,it.id]) (dV (gP l ⟨j+1,0,1⟩)) nx:=fun nx=>by
   rw[hl2];exact hpgx.pair hwf2 hft hrl
  refine gg22 ?_;refine bE O (fun h7=>?_) (fun h7=>?_)
  ·have hnx:it.next≠0:=fun e=>by have:=i2 e;omega
   obtain⟨n1,n2⟩:=hnid hnx;obtain⟨m,hm⟩:∃m,it.times=m+2:=⟨it.times-2,oO⟩;have hlt2:(dV (gP l ⟨j+1,0,1⟩)).length≤1000000000:=(by rw[hl2];simp;omega);have htl3:=sG hlt2;have hll3:=pF (its:=gP l ⟨j+1,0,1⟩) fun i hi=>(hsn2 i hi).2
   have hitf:itF it=[it.id]++[it.next,it.id]++([it.next]++(List.replicate m [it.id,it.next]).flatten):=by
    unfold itF;rw[if_neg hnx,hm,cu,cu,ko,ko];simp
   have hln2:=hadj (done++[o]++[it.id]) it.next it.id ([it.next]++(List.replicate m [it.id,it.next]).flatten++dV (its.drop (k+1))) (by rw[hfd,←hrow,hitf];simp)
   have hpp2:=rG (Es:=Es++(M++M2)) (S:=S) (cs:=cs) (l:=gP l ⟨j+1,0,1⟩) (x:=it.next) (y:=it.id) (t:=it.times-1) (p:=p') (c:=c') (pp:=pp) (tb:=tb) (s:=s) (most:=most) hE hB h0 oO (fun i hi=>by have:=htl3 i hi;omega) hid2 ⟨n1,bnd2 n2⟩ ⟨hir.1,bnd2 hir.2⟩ (by rw[dA,mI _ hir.2,mI _ n2];exact hln2) (by
    have:done.length+2+2≤(dV its).length:=(by rw[hfd,←hrow,hitf];simp;omega);simp;omega)
   refine gg10 ?_;refine l_eq 58 (.int .i64 ((it.times-1:Nat):Int)) O (bW oO) ?_;refine uX (hpp2) O ?_;rintro _ _⟨M3,j2,p'',c'',rfl,hM3,hrl2,rfl⟩;rw[ah]at hrl2 ⊢;simp only[uV,uW];refine gg31 ?_;refine qGs (p:=bR s most (Es++((M++M2)++M3))) uK (fun _ h=>dS h) ?_;rintro⟨hwf3, -, -, -⟩;have eL3:rls (Es++((M++M2)++M3))=rls (Es++(M++M2))++rls M3:=by rw[←ah,dA]
   have hpg3:PgB (rls (Es++((M++M2)++M3))) 122 (done++[o,it.id]) (dV (gP l ⟨j+1,0,1⟩)) (some it.next):=by
    rw[eL3];refine(hpg2 (some it.next)).ext _ (fun x hx=>?_) (fun x hx=>by cases hx;exact bnd2 n2);rcases bn.1 hx with h| h
    ·exact bnd2 (hdn x h)
    simp at h;rcases h with rfl|rfl
    ·exact bnd2 hoid
    exact bnd2 hir.2
   have hf3:eY 122 (key (rls (Es++((M++M2)++M3))) it.next) (key (rls (Es++((M++M2)++M3))) it.id):=by
    rw[rP rfl,dA,fM _ hir.2,fM _ n2];exact i3 hnx
   have hprs:=PgB.pairs hwf3 hf3 hrl2 m hpg3 (nxt:=(oddl it.next++dV (its.drop (k+1))).head?);have hj2:j2+1≤(rls (Es++((M++M2)++M3))).length:=(ae.1 hrl2).1;have hm1:it.times-1=m+1:=oO;have est:=qYp (o:=o) (a:=it.id) hnx (m+1)
   have eit:(⟨it.id,it.next,m+1+1⟩:It)=it:=by
    obtain⟨a,b,d⟩:=it;simp only at hm;rw[hm]
   rw[eit]at est;refine jR 14 (.int .i64 ((k+1:Nat):Int)) O (bW oO) ?_;refine bS (ι:=MtG) (j:=⟨k+1,(M++M2)++M3,gP (gP l ⟨j+1,0,1⟩) ⟨j2+1,0,it.times-1⟩,p'',c'',it.next,key (rls Es) it.id,1,done++[o,it.id]++(List.replicate (m+1) [it.next,it.id]).flatten⟩) ⟨hkn,?_,?_,lY hsn2 ⟨O,by show 1≤it.times-1;omega⟩,?_,rV (fun i hi=>by have:=hid2 i hi;show i.id≤(rls (Es++((M++M2)++M3))).length;rw[eL3,aa];omega) hj2,fun _=>⟨(i3 hnx).symm,rfl⟩⟩ (by show its.length-(k+1)<its.length-k;omega) ⟨rfl,rfl,rfl,rfl,rfl,rfl,rfl,trivial⟩ ?_
   ·show PgB _ 122 _ (dV (gP (gP l ⟨j+1,0,1⟩) ⟨j2+1,0,it.times-1⟩)) _;rw[gM hsn2 rfl,hm1];exact hprs
   ·show done++[o,it.id]++(List.replicate (m+1) [it.next,it.id]).flatten++oddl it.next=_;rw[hrt,←hrow,oddl,if_neg hnx,ah done [o],est];simp
   ·show((M++M2)++M3).length+(dV (gP (gP l ⟨j+1,0,1⟩) ⟨j2+1,0,it.times-1⟩)).length≤_
    have hrl4:∀t,(List.replicate t [it.next,it.id]).flatten.length=2*t:=fun t=>by
     induction t with
     |zero=>rfl
     |succ t ih=>rw[cu,ko,aa,ih];simp;omega
    rw[gM hsn2 rfl,hl2,hm1];simp only[aa,ng,hrl4,av,di];omega
   exact uI
  have htm:it.times=1:=oO;refine gg26 ?_;refine jR 14 (.int .i64 ((k+1:Nat):Int)) O (bW oO) ?_;refine bS (ι:=MtG) (j:=⟨k+1,M++M2,gP l ⟨j+1,0,1⟩,p',c',it.next,key (rls Es) it.id,1,done++[o,it.id]⟩) ⟨hkn,hpg2 _,?_,hsn2,?_,hid2,fun h=>⟨(i3 h).symm,O⟩⟩ (by show its.length-(k+1)<its.length-k;omega) ⟨O,O,O,O,O,O,O,trivial⟩ ?_
  ·show done++[o,it.id]++oddl it.next=_;rw[hrt,←hrow,oddl];unfold itF;rw[htm];split <;>simp
  ·show(M++M2).length+(dV (gP l ⟨j+1,0,1⟩)).length≤(done++[o,it.id]).length;rw[hl2];simp;omega
  exact uI
 obtain rfl:k=its.length:=by omega
 rw[jy (ai _)]at hpg;rw[bz (ai _)]at hrow;refine gg13 ?_;refine bE O (fun h8=>?_) (fun h8=>?_)
 ·have hoz:o≠0:=oO;have hol:oddl o=[o]:=if_neg hoz;rw[hol]at hpg hrow;refine gg3 ?_;refine uX (hpu hoz) O ?_;rintro _ _⟨p',c',rfl,rfl⟩;simp only[uV,uW];refine gg11 ?_;apply cB
  ·rfl
  ·(apply Rs.tmp rfl;apply Rs.tmp rfl;exact Rs.nil)
  ·refine⟨M,gP l ⟨o,0,1⟩,p',c',O,?_,?_,lY hsn ⟨O,ai _⟩,O⟩
   ·rw[gM hsn rfl,←hrow];simp;omega
   rw[gM hsn rfl,←hrow];exact(PgB.single hpg (nxt:=none) fun v hv=>by cases hv).1
  exact uI
 obtain rfl:o=0:=by omega
 have hrow0:done=dV its:=by rw[←hrow];simp[oddl]
 refine gg10 ?_;exact uZ O (.tmp O (.tmp O .nil)) ⟨M,l,p1,c1,O,by rw[←hrow0];exact hrm,by rw[←hrow0];exact hpg.1,hsn,rfl⟩
end
