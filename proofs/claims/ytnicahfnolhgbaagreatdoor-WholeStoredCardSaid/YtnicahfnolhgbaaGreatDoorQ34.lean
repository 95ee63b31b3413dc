import Derived.Test.YtnicahfnolhgbaaGreatDoorQ33
set_option linter.all false
set_option maxHeartbeats 1000000
namespace Go.Proofs.YtnicahfnolhgbaaGreatDoor
open Go Go.RowKit Sl Eg
set_option maxRecDepth 10000
section
variable {E:Bp}{Es:List Bj}{pp tb s most S:Nat}
def rT (L:List Rl)(a b:List It):Ba L (a++b)=Ba L a++Ba L b:=by simp[Ba]
def Wy {l:List It}{k:Nat}{x:It}(hx:l[k]?=some x):l.drop k=x::l.drop (k+1):=by
 obtain⟨h1,e1⟩:=ae.1 hx;rw[mr h1,e1]
def yO {L:List Rl}{its:List It}{k:Nat}{it:It}(h:its[k]?=some it)(o:Nat)(ho:o=k*4):(Ba L its)[o]?=some (.int .i64 (it.id:Nat))/\(Ba L its)[o+1]?=some (.int .i64 (it.next:Nat))/\(Ba L its)[o+2]?=some (.int .u64 (key L it.id:Nat))/\(Ba L its)[o+3]?=some (.int .i64 (it.times:Nat)):=by
 have hk:=(ae.1 h).1
 have e:its=its.take k++it::its.drop (k+1):=by
  have:=Wy h;rw[<-this,dh]
 have hl:(Ba L (its.take k)).length=o:=by rw[rU,ig,lm oO,ho]
 rw[e,rT,iG];subst hl;exact⟨FP,FQ,Fx,Fg⟩
def qYn {L a b y z}(o:Nat)(ho:o=a.length*4):bX (Ba L (a++y::b)) o [BK (z.id),BK (z.next),.int .u64 (key L z.id:Nat),BK (z.times)]=Ba L (a++z::b):=by
 have hl:=rU L a;rw[jO _ _ _ (by rw[rT,iG];simp;omega),rT,rT,iG,iG];subst ho;rw[<-hl];simp
def Dj (its:List It):List It:=its.foldl iC []
def Wp (its:List It)(x:It):Dj (its++[x])=iC (Dj its) x:=by simp[Dj,uy]
def qVt:∀(its:List It),Ez its->Ez (Dj its)/\dU (Dj its)=dU its/\Fa (GH (Dj its))/\(Dj its).length<=its.length/\(its≠[]->Dj its≠[]):=fun its=>by
 refine xI (P:=fun its=>Ez its->Ez (Dj its)/\dU (Dj its)=dU its/\Fa (GH (Dj its))/\(Dj its).length<=its.length/\(its≠[]->Dj its≠[])) (fun _=>⟨fun it h=>by simp[Dj]at h,rfl,fun k x t y t' h=>by simp[Dj,GH]at h,ai _,fun h=>absurd rfl h⟩) ?_ its;intro l x ih h;obtain⟨i1,i2,i3,i4,_⟩:=ih fun it hA=>h it (by simp[hA])
 have hx:=h x BF;have hl:=qNg (Dj l) x;rw[Wp];refine⟨lW i1 hx,?_,qZt i3,by rw[aa,bf];omega,fun _ e=>by rw[e]at hl;simp at hl⟩;rw[gX i1 hx.1,i2,fQ,jJ,lN hx.1]
def IB (its:List It):Nat:=(its.map fun it=>if 2<=it.times then 1 else 0).sum
def pot (its:List It):Nat:=its.length+IB its
def vW (a b:List It):IB (a++b)=IB a+IB b:=by simp[IB]
def VR (x:It):IB [x]=if 2<=x.times then 1 else 0:=by simp[IB]
def Ye:∀its:List It,IB its<=its.length
 |[]=>ai _
 |x::l=>by
  have ih:=Ye l;have e:IB (x::l)=IB [x]+IB l:=vW [x] l;rw[e,VR,az];split <;>omega
def mG (a b:List It):pot (a++b)=pot a+pot b:=by unfold pot;rw[vW,aa];omega
def Lc (l:List It)(x:It):pot (iC l x)<=pot l+pot [x]:=by
 rcases bq l with rfl|⟨a,y,rfl⟩
 ·rw[qW];omega
 rw[bu,lC];split
 ·rw[mG,mG]
  have h1:pot [(⟨y.id,y.next,y.times+x.times⟩:It)]<=2:=by
   unfold pot;rw[VR];simp only[bf];split <;>omega
  have h2:1<=pot [y]:=by unfold pot;simp
  have h3:1<=pot [x]:=by unfold pot;simp
  omega
 rw[mG];omega
def Ot (its:List It):pot (Dj its)<=pot its:=by
 refine xI (P:=fun its=>pot (Dj its)<=pot its) (ai _) ?_ its;intro l x ih;rw[Wp,mG];have:=Lc (Dj l) x;omega
def Xl {its}(h:Ez its):pot its<=(dU its).length:=by
 induction its with
 |nil=>exact ai _
 |cons x l ih=>
  have e:pot (x::l)=pot [x]+pot l:=mG [x] l
  have i1:=ih fun y hy=>h y (by simp[hy])
  have hx:=h x BF
  rw[e,iP,lN hx.1,aa,wo]
  have h1:pot [x]<=x.times:=by
   unfold pot;rw[VR,bf];split <;>omega
  omega
def kT (out:List Nat):List It:=out.map fun x=>⟨x,0,1⟩
def WQ (out:List Nat):dU (kT out)=out:=by
 induction out with
 |nil=>rfl
 |cons x o ih=>
  have e:kT (x::o)=⟨x,0,1⟩::kT o:=rfl
  rw[e,tC,ih]
def sH {its n}(h:(dU its).length<=n):∀it∈its,it.times<=n:=by
 induction its with
 |nil=>simp
 |cons a l ih=>
  rw[iP,aa]at h
  intro it hit
  rcases di.1 hit with rfl|hit
  ·have hr:∀(l:List Nat),1<=l.length->∀t,t<=(List.replicate t l).flatten.length:=fun l h1 t=>by
    induction t with
    |zero=>simp
    |succ t ih=>rw[dz,ko,aa];omega
   have:it.times<=(Ed it).length:=by
    unfold Ed;refine hr _ ?_ _;split <;>simp
   omega
  exact ih oO it hit
structure ZH where
 k:Nat
 p:Option Addr
 c:Nat
structure Vx where
 k:Nat
 M:List Bj
 out:List Nat
def qLp (hE:BP E)(hB:Ca E.w0){cs:List Value}{its:List It}{p:Option Addr}{c:Nat}(h0:cs[0]?=some (uPt pp))(ho:cs[11]?=some (.slice p its.length c))(hs:Ez its)(hI:(dU its).length<=1000000000)
  (hL:∀x∈dU its,1<=x/\x<=(BO Es).length) (hN:∀A x t B,dU its=A++List.replicate t x++B->len (BO Es) x*t<=dC) (hV:Es.length+(dU its).length<=most):
  Ct E 229 [uPt S] [cells pp [uPt s,uPt tb] 122,BV tb s (BO Es),bR s most Es,cells S cs 316,sl p c 343 4 its.length (Ba (BO Es) its)]
   (fun v Q=>∃M out p' c',v= .tuple #[.slice p' out.length c',.nilIface]/\M.length+out.length<=(dU its).length/\M.length+out.length<=pot its/\Rg (BO (Es++M)) (dU its) out/\Q=[cells pp [uPt s,uPt tb] 122,BV tb s (BO (Es++M)),bR s most (Es++M),cells S cs 316,sl p' c' 343 4 out.length (Ba (BO (Es++M)) (kT out))]):=by
 have hp:=pK (its:=its) fun it h=>(hs it h).2
 have hc:=sH hI;obtain⟨c1,c2,c3,c4,c5⟩:=qVt its hs;refine bO (hE.fn Tryz.func229) O O O (fun R=>?_);simp only[dS,uV,uW];refine DL ?_;refine fF (fU (t:=343) (sz:=4)) ?_;refine dX (fun x:ZH=>[(0,uPt S),(4,.slice x.p (Dj (its.take x.k)).length x.c),(15,.slice p its.length c),(16,.int .i64 (its.length:Nat)),(17,.int .i64 (x.k:Nat))]) (fun x=>[cells pp [uPt s,uPt tb] 122,BV tb s (BO Es),bR s most Es,cells S cs 316,sl p c 343 4 its.length (Ba (BO Es) its),sl x.p x.c 343 4 (Dj (its.take x.k)).length (Ba (BO Es) (Dj (its.take x.k))),R]) (fun x=>its.length-x.k) (fun x=>x.k<=its.length) ⟨0,none,0⟩ (av _) BC ?_ ?_
 ·exact uI
 rintro⟨k,p1,c1'⟩hk;simp only at hk ⊢;refine CB ?_;refine bE O (fun hd=>?_) (fun hd=>?_)
 ·have hJ:k<its.length:=oO;obtain⟨it,hC⟩:∃x,its[k]?=some x:=⟨_,ag hJ⟩;have hD:=ak hC;obtain⟨f0,f1,f2,f3⟩:=yO (L:=BO Es) hC (0+((k:Nat):Int).toNat*4) oO;obtain⟨q1,q2,q3,q4,q5⟩:=qVt (its.take k) fun i hi=>hs i (mq hi)
  have eT:its.take (k+1)=its.take k++[it]:=by rw[ed,hC];rfl
  have ec:Dj (its.take (k+1))=iC (Dj (its.take k)) it:=by rw[eT,Wp]
  have hO:(dU (Dj (its.take k))).length<=1000000000:=by
   rw[q2];have:dU its=dU (its.take k)++dU (its.drop k):=by rw[<-fQ,dh]
   rw[this,aa]at hI;omega
  have he:=Uu (x:=it) (l:=Dj (its.take k)) (p:=p1) (c:=c1') (L:=BO Es) hE (by have:=List.length_take_le k its;omega) (fun y hy=>by have h1:=sH hO y hy;have h2:=hc it hD;omega);refine iO (p:=sl p c 343 4 its.length (Ba (BO Es) its)) uK (fun _ h=>eG h oO) ?_;rintro⟨g,rfl⟩;refine Br ?_;refine uU (dA (hE.t O) (fun b6=>?_));refine CB ?_;refine uX (he) O ?_;rintro _ _⟨p',c',rfl,rfl⟩;rw[<-ec];simp only[uV,uW];refine Br ?_;refine jY 17 (.int .i64 ((k+1:Nat):Int)) O (bW oO) ?_;refine bS (ι:=ZH) (j:=⟨k+1,p',c'⟩) (by show k+1<=its.length;omega) (by show its.length-(k+1)<its.length-k;omega) BC ?_;exact uI
 obtain rfl:k=its.length:=by omega
 rw[fe (ai _)];obtain⟨l,hl⟩:∃l,l=Dj its:=⟨_,rfl⟩;rw[<-hl]at c1 c2 c3 c4 c5 ⊢;have ht:l.length<=1000000000:=oO;have hA:=KZ c1;have hf:∀q,(GH (l.take q)).length<=q:=fun q=>by simp[GH];omega
 have hG:∀it∈l,1<=it.id/\it.id<=(BO Es).length:=fun it hC=>hL it.id (by rw[<-c2];exact Vo hC (c1 it hC).2)
 refine CU ?_
 refine dX (fun x:Vx=>[(0,uPt S),(4,.slice p1 l.length c1'),(25,.slice p1 l.length c1'),(26,.int .i64 (l.length:Nat)),(27,.int .i64 (x.k:Nat))]) (fun x=>[cells pp [uPt s,uPt tb] 122,BV tb s (BO (Es++x.M)),bR s most (Es++x.M),cells S cs 316,sl p1 c1' 343 4 l.length (Ba (BO (Es++x.M)) (kT x.out++l.drop x.k)),R]) (fun x=>l.length-x.k)
  (fun x=>x.k<=l.length/\x.out.length=x.k/\x.M.length+x.k<=DT (GH (l.take x.k))/\Dx (BO (Es++x.M)) (GH (l.take x.k)) x.out/\x.M.length<=IB (l.take x.k)) ⟨0,[],[]⟩ ⟨av _,rfl,ai _,.nil,av _⟩ BC ?_ ?_
 ·rw[ax];exact uI
 rintro⟨k,M,out⟩⟨hk,hF,hM,hH,hW⟩;simp only at hk hF hM hH hW ⊢;have hu:∀q,(kT out++l.drop q).length=k+(l.length-q):=fun q=>by simp[kT,hF]
 refine CB ?_;refine bE O (fun hP=>?_) (fun hP=>?_)
 ·have hJ:k<l.length:=oO;obtain⟨it,hC⟩:∃x,l[k]?=some x:=⟨_,ag hJ⟩;have hD:=ak hC;obtain⟨hQ,hv⟩:=c1 it hD;obtain⟨hw,hg⟩:=hG it hD;have eT:l.take (k+1)=l.take k++[it]:=by rw[ed,hC];rfl
  have eP:GH (l.take (k+1))=GH (l.take k)++[(it.id,it.times)]:=by rw[eT];simp[GH]
  have eS:DT (GH (l.take (k+1)))=DT (GH (l.take k))+it.times:=by rw[eP,xL];rfl
  have eD:=Wy hC
  have hh:(kT out++l.drop k)[k]?=some it:=by
   rw[bi (by simp[kT,hF]),eD];simp[kT,hF]
  obtain⟨f0,f1,f2,f3⟩:=yO (L:=BO (Es++M)) hh (0+((k:Nat):Int).toNat*4) oO;refine iO (p:=sl p1 c1' 343 4 l.length (Ba (BO (Es++M)) (kT out++l.drop k))) uK (fun _ h=>eG h oO) ?_;rintro⟨g,rfl⟩;refine iO (p:=bR s most (Es++M)) uK (fun _ h=>dR h) ?_;rintro⟨h3,hj, -, -⟩;refine Bu ?_;refine uU (dA (hE.t O) (fun b8=>?_));refine Bq ?_;refine bE O (fun h1=>?_) (fun h1=>?_)
  ·have hR:it.times=1:=oO
   have eit:it=⟨it.id,0,1⟩:=by
    obtain⟨a,b,d⟩:=it;simp only at hQ hR;subst hQ hR;rfl
   refine Br ?_;refine jY 27 (.int .i64 ((k+1:Nat):Int)) O (bW oO) ?_;refine bS (ι:=Vx) (j:=⟨k+1,M,out++[it.id]⟩) ⟨hJ,by simp[hF],by show M.length+(k+1)<=_;rw[eS];omega,by show Dx _ (GH (l.take (k+1))) _;rw[eP];exact .snoc hH (.inl ⟨hR,rfl⟩),by show M.length<=IB (l.take (k+1));rw[eT,vW];omega⟩ (by show l.length-(k+1)<l.length-k;omega) BC ?_
   have ecur:kT (out++[it.id])++l.drop (k+1)=kT out++l.drop k:=by rw[eD];conv=>rhs;rw[eit]
                                                                  simp[kT]
   rw[ecur];exact uI
  have hS:2<=it.times:=oO;obtain⟨i,hi⟩:∃i,it.id=i+1:=⟨it.id-1,oO⟩;have hm:i<Es.length:=by rw[bQ]at hg;omega
  have hX:(Es++M)[i]?=some Es[i]:=by rw[aj oO,ag oO]
  have hO:dU its=dU (l.take k)++List.replicate it.times it.id++dU (l.drop (k+1)):=by
   rw[<-c2];conv=>lhs;rw[<-dh k l,eD,fQ,iP,lN hQ]
   rw[ah]
  have hn:=hN _ _ _ _ hO
  have hT:(Es[i]).t.length*it.times<=dC:=by
   rw[hj i _ hX,dB,jX _ (by rw[bQ];omega),<-hi];exact hn
  have h4:DT (GH (l.take (k+1)))<=(dU its).length:=by
   rw[<-c2,<-hA,kW]
   have:GH l=GH (l.take (k+1))++GH (l.drop (k+1)):=by
    unfold GH;rw[<-kv,dh]
   rw[this,xL];omega
  have hr:(Es++M).length<most:=by simp;omega
  have hY:=Xc (s:=s) (most:=most) hE hX hS hT hr;rw[<-hi]at hY;refine CG ?_;refine uH ([cells pp [uPt s,uPt tb] 122,cells S cs 316,cells b8 [.int .i64 (it.id:Nat),.int .i64 (it.next:Nat),.int .u64 (key (BO (Es++M)) it.id:Nat),.int .i64 (it.times:Nat)] 343]) ?_;refine Bz ?_;refine uD 5 O (EC O) ?_;refine CG ?_;apply dH 4 O oK O;refine uC (kC hE) O ?_;rintro _ _⟨rfl,rfl⟩;simp only[uV,uW];refine uE ?_;apply dH 9 O oK O;refine uC (hY) O ?_;rintro _ _⟨M2,id,rfl,h5,h6,hK,rfl⟩;obtain⟨j,rfl⟩:∃j,id=j+1:=⟨id-1,oO⟩;rw[fu]at hK;have hZ:j<(Es++M++M2).length:=by have:=(ae.1 hK).1;rwa [bQ]at this
  simp only[uV,uW];refine uE ?_;refine Bi ?_;refine fF (cO (p:=BV tb s (BO (Es++M))) (p':=BV tb s (BO (Es++M++M2))) uK (fun _ h=>by rw[dB (Es++M)];exact sG _ h)) ?_
  have hU:∀x∈kT out++l.drop k,x.id<=(BO (Es++M)).length:=by
   intro x hx;rcases ay.1 hx with h| h
   ·obtain⟨y,hy,rfl⟩:=jg.1 h;refine hH.le (fun q hq=>?_) y hy;obtain⟨z,hz,rfl⟩:=jg.1 hq;have:=(hG z (mq hz)).2;rw[dB,aa];simp only;omega
   have:=(hG x (qf h)).2;rw[dB,aa];omega
  have ecs:Ba (BO (Es++M)) (kT out++l.drop k)=Ba (BO (Es++M++M2)) (kT out++l.drop k):=by rw[dB (Es++M)];exact(qRi _ hU).symm
  rw[ecs];rw[ah]at hZ hK ⊢;refine CX ?_;refine BH (Tg hE) O ?_;refine Bv ?_;refine BH (Su hE hB hZ) O ?_;refine Kh ?_
  have est:bX (Ba (BO (Es++(M++M2))) (kT out++l.drop k)) (0+((k:Nat):Int).toNat*4) (bP (.agg #[.int .i64 ((j+1:Nat):Int),.int .i64 0,.int .u64 (key (BO (Es++(M++M2))) (j+1):Nat),.int .i64 1]))=Ba (BO (Es++(M++M2))) (kT (out++[j+1])++l.drop (k+1)):=by
   rw[eD];have:=qYn (L:=BO (Es++(M++M2))) (a:=kT out) (b:=l.drop (k+1)) (y:=it) (z:=⟨j+1,0,1⟩) (0+((k:Nat):Int).toNat*4) (by simp[kT,hF]);have e2:kT (out++[j+1])++l.drop (k+1)=kT out++(⟨j+1,0,1⟩:It)::l.drop (k+1):=by simp[kT]
   rw[e2,<-this];rfl
  refine jY 27 (.int .i64 ((k+1:Nat):Int)) O (bW oO) ?_;refine bS (ι:=Vx) (j:=⟨k+1,M++M2,out++[j+1]⟩) ⟨hJ,by simp[hF],by show(M++M2).length+(k+1)<=_;rw[eS,aa];omega,?_,by show(M++M2).length<=IB (l.take (k+1));rw[eT,vW,VR,if_pos hS,aa];omega⟩ (by show l.length-(k+1)<l.length-k;omega) BC ?_
  ·show Dx _ (GH (l.take (k+1))) _;rw[eP];refine .snoc ?_ (.inr ⟨hS,j,O,hK⟩);rw[<-ah,dB (Es++M)];exact hH.ext _
  rw[<-est];exact uI
 obtain rfl:k=l.length:=by omega
 rw[fe (ai _)]at hM hH hW;have ha:=Ot its;rw[<-hl]at ha;unfold pot at ha;have hb:=XL hH (fun q hq=>by obtain⟨z,hz,rfl⟩:=jg.1 hq;exact(c1 z hz).2) c3;rw[hA,c2]at hb;have h7:DT (GH l)=(dU its).length:=by rw[<-kW,hA,c2]
 refine CP ?_;apply cK
 ·rfl
 ·(apply Rs.tmp rfl;apply Rs.tmp rfl;exact Rs.nil)
 ·exact⟨M,out,p1,c1',by rw[hF];rfl,oO,by unfold pot;omega,hb,rfl⟩
 rw[ma (ai _),ax,hF];exact uI
end
section
variable {E:Bp}{Es:List Bj}{pp tb s most S:Nat}
def qYe {its}(hs:Ez its)(h1:∀it∈its,it.times=1):dU its=its.map (·.id):=by
 induction its with
 |nil=>rfl
 |cons a l ih=>
  rw[iP,ih (fun i hi=>hs i (by simp[hi])) (fun i hi=>h1 i (by simp[hi])),lN (hs a BF).1,h1 a BF]
  rfl
structure TC where
 k:Nat
 M:List Bj
 l:List It
 p:Option Addr
 c:Nat
def rW {L:List Rl}{l:List It}{x:It}(h:∀i∈l,i.id<=L.length) (hx:x.id<=L.length):∀i∈iC l x,i.id<=L.length:=by
 rcases bq l with rfl|⟨a,y,rfl⟩
 ·rw[qW];intro i hi;simp at hi;subst hi;exact hx
 rw[bu]at*;have hy:=h y BF;rw[lC];split <;>intro i hi
 ·rcases ay.1 hi with hi|hi
  ·exact h i (by simp[hi])
  obtain rfl:=bg.1 hi;exact hy
 rcases ay.1 hi with hi|hi
 ·exact h i hi
 obtain rfl:=bg.1 hi;exact hx
structure MpI (Es:List Bj)(c:Nat)(xs:List Nat)(x:TC):Prop where
 le:x.k<=xs.length
 pg:FE (BO (Es++x.M)) c (xs.take x.k) (dU x.l) (xs[x.k]?)
 sng:Ez x.l
 room:x.M.length+(dU x.l).length<=x.k
 ids:∀i∈x.l,i.id<=(BO (Es++x.M)).length
def qIi (hE:BP E)(hB:Ca E.w0){cs:List Value}{its:List It}{p:Option Addr}{c lv:Nat}(h0:cs[0]?=some (uPt pp))(h5:cs[11]?=some (.slice p its.length c))(hs:Ez its)(h1:∀it∈its,it.times=1) (hR:(dU its).length<=1000000000)
  (hC:∀x∈dU its,1<=x/\x<=(BO Es).length) (hJ:∀A x y B,dU its=A++[x,y]++B->len (BO Es) x+len (BO Es) y<=dC) (hK:Es.length+(dU its).length<=most) (hm:2<=lv) (hn:lv%2=0) (ho:lv<1099511627776):
  Ct E 231 [uPt S,.int .i64 (lv:Nat)] [cells pp [uPt s,uPt tb] 122,BV tb s (BO Es),bR s most Es,cells S cs 316,sl p c 343 4 its.length (Ba (BO Es) its)]
   (fun v Q=>∃M l p' c',v= .tuple #[.slice p' l.length c',.nilIface]/\M.length+(dU l).length<=(dU its).length/\Pg (BO (Es++M)) (Cu lv) (dU its) (dU l)/\Ez l/\Q=[cells pp [uPt s,uPt tb] 122,BV tb s (BO (Es++M)),bR s most (Es++M),cells S cs 316,sl p' c' 343 4 l.length (Ba (BO (Es++M)) l)]):=by
 have hg:=qYe hs h1;obtain⟨xs,hP⟩:∃xs,xs=its.map (·.id):=⟨_,rfl⟩;rw[<-hP]at hg;rw[hg]at hR hC hJ hK ⊢;have h6:xs.length=its.length:=by rw[hP];simp
 refine bO (hE.fn Tryz.func231) O O O (fun R=>?_);simp only[dS,uV,uW];refine DL ?_;refine fF (fU (t:=343) (sz:=4)) ?_;refine dX (fun x:TC=>[(0,uPt S),(1,.int .i64 (lv:Nat)),(6,.slice x.p x.l.length x.c),(7,.nilIface),(8,.int .i64 (x.k:Nat))]) (fun x=>[cells pp [uPt s,uPt tb] 122,BV tb s (BO (Es++x.M)),bR s most (Es++x.M),cells S cs 316,sl p c 343 4 its.length (Ba (BO Es) its),sl x.p x.c 343 4 x.l.length (Ba (BO (Es++x.M)) x.l),R]) (fun x=>xs.length-x.k) (MpI Es (Cu lv) xs) ⟨0,[],[],none,0⟩ ⟨av _,FE.start _ _ _,fun i hi=>by simp at hi,ai _,fun i hi=>by simp at hi⟩ BC ?_ ?_
 ·rw[ax];exact uI
 rintro⟨k,M,l,p1,c1⟩hI;have hk:=hI.le;have hL:=hI.pg;have hA:=hI.sng;have hp:=hI.room;have hM:=hI.ids;simp only at hk hL hA hp hM ⊢
 have hq:l.length<=1000000000:=by
  have:=pK (its:=l) fun i hi=>(hA i hi).2
  omega
 have hh:∀y∈l,y.times<=1000000000:=sH oO;refine Bq ?_;refine bE O (fun hr=>?_) (fun hr=>?_)
 ·have ht:k<its.length:=oO;obtain⟨it,hS⟩:∃x,its[k]?=some x:=⟨_,ag ht⟩;have hH:xs[k]?=some it.id:=by rw[hP];simp[hS]
  have hN:=ak hS;obtain⟨hT,_⟩:=hs it hN;have hU:=h1 it hN;have hV:=hC it.id (ak hH);obtain⟨f0,f1,f2,f3⟩:=yO (L:=BO Es) hS (0+((k:Nat):Int).toNat*4) oO;rw[hT]at f1;rw[hU]at f3;have eT:xs.take (k+1)=xs.take k++[it.id]:=by rw[ed,hH];rfl
  have hW:key (BO (Es++M)) it.id=key (BO Es) it.id:=by rw[dB];exact fO _ hV.2
  have eit:it=⟨it.id,0,1⟩:=by
   obtain⟨a,b,d⟩:=it;simp only at hT hU;subst hT hU;rfl
  refine iO (p:=sl p c 343 4 its.length (Ba (BO Es) its)) uK (fun _ h=>eG h oO) ?_;rintro⟨g,rfl⟩;refine iO (p:=bR s most (Es++M)) uK (fun _ h=>dR h) ?_;rintro⟨h7,h8, -, -⟩;rw[hH]at hL;have hQ:=Uu (x:=⟨it.id,0,1⟩) (l:=l) (p:=p1) (c:=c1) (L:=BO (Es++M)) hE oO (fun y hy=>by have h1:=hh y hy;show y.times+1<=_;omega);simp only at hQ;rw[hW]at hQ
  have hG:∀nx,(∀v,nx=some v->¬fB (Cu lv) (key (BO (Es++M)) it.id) (key (BO (Es++M)) v))->FE (BO (Es++M)) (Cu lv) (xs.take (k+1)) (dU (iC l ⟨it.id,0,1⟩)) nx:=fun nx hX=>by
   rw[eT,gX hA rfl];exact hL.single hX
  refine CP ?_;refine uU (dA (hE.t O) (fun b9=>?_));refine Bw ?_;refine uH ([cells S cs 316,sl (some ⟨g,0,none⟩) c 343 4 its.length (Ba (BO Es) its),cells b9 [.int .i64 (it.id:Nat),.int .i64 ((0:Nat):Int),.int .u64 (key (BO Es) it.id:Nat),.int .i64 ((1:Nat):Int)] 343]) ?_;refine Bu ?_;refine qXn 34 O (fun h3=>?_) (fun h3=>?_)
  ·have hO:∀v,xs[k+1]?=some v->¬fB (Cu lv) (key (BO (Es++M)) it.id) (key (BO (Es++M)) v):=fun v hv=>by
    rw[ku oO]at hv;cases hv
   refine uR 9 O O O O ?_;refine DW ?_;refine uX (hQ) O ?_;rintro _ _⟨p',c',rfl,rfl⟩;simp only[uV,uW];refine Bq ?_;refine jY 8 (.int .i64 ((k+1:Nat):Int)) O (bW oO) ?_;refine bS (ι:=TC) (j:=⟨k+1,M,iC l ⟨it.id,0,1⟩,p',c'⟩) ⟨by show k+1<=_;omega,hG _ hO,lW hA ⟨rfl,ai _⟩,by show M.length+(dU (iC l ⟨it.id,0,1⟩)).length<=k+1;rw[gX hA rfl];simp;omega,rW hM (by show it.id<=_;rw[dB,aa];omega)⟩ (by show xs.length-(k+1)<xs.length-k;omega) BC ?_;exact uI
  have hY:k+1<its.length:=oO;obtain⟨y,hy⟩:∃x,its[k+1]?=some x:=⟨_,ag hY⟩;have hD:xs[k+1]?=some y.id:=by rw[hP];simp[hy]
  have hZ:=hC y.id (ak hD);have hj:key (BO (Es++M)) y.id=key (BO Es) y.id:=by rw[dB];exact fO _ hZ.2
  obtain⟨e0,e1,e2,e3⟩:=yO (L:=BO Es) hy (0+(((k:Nat):Int)+1).toNat*4) oO;refine uO 9 O O O (EC O) ?_;refine Bo ?_;apply Wx 21 O O O oK O;refine uC (YI hE hm hn ho) O ?_;rintro _ _⟨⟨d,rfl,hd⟩,rfl⟩;simp only[uV,uW];refine uE ?_;refine Bz ?_;cases d with
  |false=>
   have hu:∀v,xs[k+1]?=some v->¬fB (Cu lv) (key (BO (Es++M)) it.id) (key (BO (Es++M)) v):=fun v hv hf=>by
    rw[hD]at hv;cases hv
    rw[hW,hj]at hf;exact absurd (hd.2 hf) BF
   refine Bw ?_
   refine uX (hQ) O ?_
   rintro _ _⟨p',c',rfl,rfl⟩
   simp only[uV,uW]
   refine Bq ?_
   refine jY 8 (.int .i64 ((k+1:Nat):Int)) O (bW oO) ?_
   refine bS (ι:=TC) (j:=⟨k+1,M,iC l ⟨it.id,0,1⟩,p',c'⟩) ⟨by show k+1<=_;omega,hG _ hu,lW hA ⟨rfl,ai _⟩,by show M.length+(dU (iC l ⟨it.id,0,1⟩)).length<=k+1;rw[gX hA rfl];simp;omega,rW hM (by show it.id<=_;rw[dB,aa];omega)⟩ (by show xs.length-(k+1)<xs.length-k;omega) BC ?_
   exact uI
  |true=>
   have hl:=hd.1 O
   rw[<-hW,<-hj]at hl
   have eT2:xs.take (k+2)=xs.take k++[it.id,y.id]:=by rw[ed,ed,hH,hD];simp
   have hw:xs=xs.take k++[it.id,y.id]++xs.drop (k+2):=by rw[<-eT2,dh]
   have hz:=hJ _ _ _ _ hw
   have h2:=rF (Es:=Es++M) (S:=S) (cs:=cs) (l:=l) (x:=it.id) (y:=y.id) (t:=1) (p:=p1) (c:=c1) (pp:=pp) (tb:=tb) (s:=s) (most:=most) hE hB h0 oO (fun i hi=>by have:=hh i hi;omega) hM ⟨hV.1,by rw[dB,aa];omega⟩ ⟨hZ.1,by rw[dB,aa];omega⟩ (by rw[dB,jB _ hV.2,jB _ hZ.2];exact hz) (by simp;omega)
   refine Bo ?_
   refine uH ([cells S cs 316,sl (some ⟨g,0,none⟩) c 343 4 its.length (Ba (BO Es) its),cells b9 [.int .i64 (it.id:Nat),.int .i64 ((0:Nat):Int),.int .u64 (key (BO Es) it.id:Nat),.int .i64 ((1:Nat):Int)] 343]) ?_
   refine Bq ?_
   apply dH 12 O oK O
   refine uC (h2) O ?_
   rintro _ _⟨M2,j,p',c',rfl,h9,ha,rfl⟩
   rw[ah]at ha ⊢
   simp only[uV,uW]
   refine uE ?_
   refine Df ?_
   refine Sz (p:=bR s most (Es++(M++M2))) uK (fun _ h=>dR h) ?_
   rintro⟨hb, -, -, -⟩
   have eL:BO (Es++(M++M2))=BO (Es++M)++BO M2:=by rw[<-ah,dB]
   have hF:∀x∈xs,x<=(BO (Es++M)).length:=fun x hx=>by
    have:=hC x hx;rw[dB,aa];omega
   have hc:FE (BO (Es++(M++M2))) (Cu lv) (xs.take k) (dU l) (some it.id):=by
    rw[eL];exact hL.ext _ (fun x hx=>hF x (mq hx)) (fun x hx=>by cases hx;exact hF _ (ak hH))
   have he:fB (Cu lv) (key (BO (Es++(M++M2))) it.id) (key (BO (Es++(M++M2))) y.id):=by
    rw[eL,fO _ (hF _ (ak hH)),fO _ (hF _ (ak hD))];exact hl
   have h4:j+1<=(BO (Es++(M++M2))).length:=(ae.1 ha).1
   refine jY 8 (.int .i64 ((k+2:Nat):Int)) O (bW oO) ?_
   refine bS (ι:=TC) (j:=⟨k+2,M++M2,iC l ⟨j+1,0,1⟩,p',c'⟩) ⟨by show k+2<=_;omega,?_,lW hA ⟨rfl,ai _⟩,?_,rW (fun i hi=>by have:=hM i hi;show i.id<=(BO (Es++(M++M2))).length;rw[eL,aa];omega) h4⟩ (by show xs.length-(k+2)<xs.length-k;omega) BC ?_
   ·show FE (BO (Es++(M++M2))) (Cu lv) (xs.take (k+2)) (dU (iC l ⟨j+1,0,1⟩)) _
    rw[eT2,gX hA rfl]
    exact hc.pair hb he ha
   ·show(M++M2).length+(dU (iC l ⟨j+1,0,1⟩)).length<=k+2
    rw[gX hA rfl]
    simp
    omega
   exact uI
 obtain rfl:k=its.length:=by omega
 refine CP ?_;apply cK
 ·rfl
 ·(apply Rs.tmp rfl;apply Rs.tmp rfl;exact Rs.nil)
 ·refine⟨M,l,p1,c1,O,oO,?_,hA,O⟩;have:=hL.1;rwa [fe oO]at this
 exact uI
end
section
variable {E:Bp}{Es:List Bj}{pp tb s most S:Nat}
def EF (o:Nat):List Nat:=if o=0 then[]else[o]
def zAq {o a b}(hb:b≠0):∀t,[o]++Ed ⟨a,b,t+1⟩=[o,a]++(List.replicate t [b,a]).flatten++[b]
 |0=>by simp[Ed,hb]
 |t+1=>by
  have ih:=zAq (o:=b) (a:=a) hb t
  have e:Ed ⟨a,b,t+1+1⟩=[a]++([b]++Ed ⟨a,b,t+1⟩):=by
   simp[Ed,hb,dz]
  rw[e,ih,dz,ko];simp
structure JG where
 k:Nat
 M:List Bj
 l:List It
 p:Option Addr
 c:Nat
 o:Nat
 ok:Nat
 ot:Nat
 done:List Nat
structure Uj (Es:List Bj)(its:List It)(x:JG):Prop where
 le:x.k<=its.length
 pg:FE (BO (Es++x.M)) 122 x.done (dU x.l) ((EF x.o++dU (its.drop x.k)).head?)
 row:x.done++EF x.o=dU (its.take x.k)
 sng:Ez x.l
 room:x.M.length+(dU x.l).length<=x.done.length
 ids:∀i∈x.l,i.id<=(BO (Es++x.M)).length
 odd:x.o≠0->x.ok=key (BO Es) x.o/\x.ot=1
def Uj.oid {Es its x}(h:Uj Es its x)(hA:∀y∈dU its,1<=y/\y<=(BO Es).length):x.o<=(BO Es).length:=by
 by_cases h0:x.o=0
 ·omega
 have hm:x.o∈dU (its.take x.k):=by rw[<-h.row,EF,if_neg h0];simp
 refine(hA x.o ?_).2;have:dU its=dU (its.take x.k)++dU (its.drop x.k):=by rw[<-fQ,dh]
 rw[this];exact cu _ hm
def zU (hE:BP E)(hB:Ca E.w0){cs:List Value}{its:List It}{p:Option Addr}{c:Nat}(h0:cs[0]?=some (uPt pp))(gv:cs[11]?=some (.slice p its.length c))(hZ:JF (BO Es) its)(hu:(dU its).length<=1000000000)
  (hL:∀x∈dU its,1<=x/\x<=(BO Es).length) (hT:∀A x y B,dU its=A++[x,y]++B->len (BO Es) x+len (BO Es) y<=dC) (gg:Es.length+(dU its).length<=most):
  Ct E 230 [uPt S] [cells pp [uPt s,uPt tb] 122,BV tb s (BO Es),bR s most Es,cells S cs 316,sl p c 343 4 its.length (Ba (BO Es) its)]
   (fun v Q=>∃M l p' c',v= .tuple #[.slice p' l.length c',.nilIface]/\M.length+(dU l).length<=(dU its).length/\Pg (BO (Es++M)) 122 (dU its) (dU l)/\Ez l/\Q=[cells pp [uPt s,uPt tb] 122,BV tb s (BO (Es++M)),bR s most (Es++M),cells S cs 316,sl p' c' 343 4 l.length (Ba (BO (Es++M)) l)]):=by
 have gw:=pK (its:=its) fun it h=>(hZ it h).1
 refine bO (hE.fn Tryz.func230) O O O (fun R=>?_);simp only[dS,uV,uW];refine CP ?_;refine uU (dA (hE.t O) (fun b5=>?_));refine Ci ?_;refine fF (fU (t:=343) (sz:=4)) ?_;refine dX (fun x:JG=>[(0,uPt S),(4,.slice x.p x.l.length x.c),(5,uPt b5),(6,.nilIface),(12,.slice p its.length c),(13,.int .i64 (its.length:Nat)),(14,.int .i64 (x.k:Nat))]) (fun x=>[cells pp [uPt s,uPt tb] 122,BV tb s (BO (Es++x.M)),bR s most (Es++x.M),cells S cs 316,sl p c 343 4 its.length (Ba (BO Es) its),sl x.p x.c 343 4 x.l.length (Ba (BO (Es++x.M)) x.l),cells b5 [.int .i64 (x.o:Nat),.int .i64 0,.int .u64 (x.ok:Nat),.int .i64 (x.ot:Nat)] 343,R]) (fun x=>its.length-x.k) (Uj Es its) ⟨0,[],[],none,0,0,0,0,[]⟩ ⟨av _,FE.start _ _ _,O,fun i hi=>by simp at hi,ai _,fun i hi=>by simp at hi,fun h=>absurd rfl h⟩ BC ?_ ?_
 ·rw[ax];exact uI
 rintro⟨k,M,l,p1,c1,o,ok,ot,done⟩hI;have hC:=hI.oid hL;have hk:=hI.le;have hK:=hI.pg;have hA:=hI.row;have hF:=hI.sng;have hY:=hI.room;have hO:=hI.ids;have hH:=hI.odd;simp only at hC hk hK hA hF hY hO hH ⊢;have hP:dU its=dU (its.take k)++dU (its.drop k):=by rw[<-fQ,dh]
 have gh:done.length<=(dU its).length:=by rw[hP,<-hA];simp
 have ha:l.length<=1000000000:=by
  have:=pK (its:=l) fun i hi=>(hF i hi).2
  omega
 have hb:∀y∈l,y.times<=1000000000:=sH oO
 have hw:o≠0->Ct E 237 [.slice p1 l.length c1,.agg #[.int .i64 (o:Nat),.int .i64 0,.int .u64 (ok:Nat),.int .i64 (ot:Nat)]] [sl p1 c1 343 4 l.length (Ba (BO (Es++M)) l)] (fun v Q=>∃p' c',v= .slice p' (iC l ⟨o,0,1⟩).length c'/\Q=[sl p' c' 343 4 (iC l ⟨o,0,1⟩).length (Ba (BO (Es++M)) (iC l ⟨o,0,1⟩))]):=fun hz=>by
  obtain⟨rfl,rfl⟩:=hH hz;have:=Uu (x:=⟨o,0,1⟩) (l:=l) (p:=p1) (c:=c1) (L:=BO (Es++M)) hE oO (fun y hy=>by have h1:=hb y hy;show y.times+1<=_;omega);simp only at this;rw[show key (BO (Es++M)) o=key (BO Es) o by rw[dB];exact fO _ hC]at this;exact this
 refine CB ?_;refine bE O (fun gl=>?_) (fun gl=>?_)
 ·have hc:k<its.length:=oO;obtain⟨it,ho⟩:∃x,its[k]?=some x:=⟨_,ag hc⟩;have hU:=ak ho;obtain⟨i1,i2,i3⟩:=hZ it hU;have eD:=Wy ho;have eT:its.take (k+1)=its.take k++[it]:=by rw[ed,ho];rfl
  have hG:=hL it.id (Vo hU i1);obtain⟨f0,f1,f2,f3⟩:=yO (L:=BO Es) ho (0+((k:Nat):Int).toNat*4) oO;have gi:(dU (its.drop k)).head?=some it.id:=by rw[eD,iP,ww,vX i1];rfl
  refine iO (p:=sl p c 343 4 its.length (Ba (BO Es) its)) uK (fun _ h=>eG h oO) ?_;rintro⟨g,rfl⟩;refine Br ?_;refine uU (dA (hE.t O) (fun b8=>?_));refine CG ?_;refine jT (fun x:JG=>[(0,uPt S),(4,.slice x.p x.l.length x.c),(5,uPt b5),(6,.nilIface),(8,uPt b8),(12,.slice (some ⟨g,0,none⟩) its.length c),(13,.int .i64 (its.length:Nat)),(14,.int .i64 (k:Nat))]) (fun x=>[cells pp [uPt s,uPt tb] 122,BV tb s (BO (Es++M)),bR s most (Es++M),cells S cs 316,sl (some ⟨g,0,none⟩) c 343 4 its.length (Ba (BO Es) its),sl x.p x.c 343 4 x.l.length (Ba (BO (Es++M)) x.l),cells b5 [.int .i64 (x.o:Nat),.int .i64 0,.int .u64 (x.ok:Nat),.int .i64 (x.ot:Nat)] 343,cells b8 [.int .i64 (it.id:Nat),.int .i64 (it.next:Nat),.int .u64 (key (BO Es) it.id:Nat),.int .i64 (it.times:Nat)] 343,R]) (fun x=>Uj Es its x/\x.k=k/\x.M=M/\(x.o≠0->key (BO Es) x.o=key (BO Es) it.id)) ?_ ?_
  ·refine CB ?_;refine dV 21 O (fun h1=>?_) (fun h1=>?_)
   ·have hQ:o≠0:=oO;obtain⟨q1,q2⟩:=hH hQ;refine CP ?_;refine bE O (fun h2=>?_) (fun h2=>?_)
    ·refine Bz ?_;refine uX (hw hQ) O ?_;rintro _ _⟨p',c',rfl,rfl⟩;simp only[uV,uW];refine Bi ?_;have hd:EF o=[o]:=if_neg hQ;rw[hd]at hK hA;refine eX (ι:=JG) ⟨k,M,iC l ⟨o,0,1⟩,p',c',0,ok,ot,done++[o]⟩ ⟨⟨hk,?_,?_,lW hF ⟨O,ai _⟩,?_,rW hO (by show o<=_;rw[dB,aa];omega),fun h=>absurd O h⟩,O,O,fun h=>absurd O h⟩ BC ?_
     ·show FE (BO (Es++M)) 122 (done++[o]) (dU (iC l ⟨o,0,1⟩)) ((EF 0++dU (its.drop k)).head?);rw[gX hF rfl];refine FE.single hK fun v hv hf=>?_
      have e0:EF 0=[]:=rfl;rw[e0,jw,gi]at hv;cases hv
      rw[rP rfl,dB,fO _ hC,fO _ hG.2]at hf;omega
     ·show done++[o]++EF 0=_;rw[<-hA];simp[EF]
     ·show M.length+(dU (iC l ⟨o,0,1⟩)).length<=(done++[o]).length;rw[gX hF rfl];simp;omega
     exact uI
    refine Bv ?_;refine eX (ι:=JG) ⟨k,M,l,p1,c1,o,ok,ot,done⟩ ⟨hI,O,O,fun _=>by show key (BO Es) o=_;omega⟩ BC ?_;exact uI
   refine Bc ?_;refine eX (ι:=JG) ⟨k,M,l,p1,c1,o,ok,ot,done⟩ ⟨hI,O,O,fun h=>by exfalso;simp only at h;omega⟩ BC ?_;exact uI
  clear hI hK hA hF hY hO hH gh ha hb hw hC;rintro⟨k',M',l,p1,c1,o,ok,ot,done⟩⟨hI,hp,hq,he⟩;simp only at hp hq he;replace hp:=hp.symm;replace hq:=hq.symm;subst hp;subst hq;have hC:=hI.oid hL;have hK:=hI.pg;have hA:=hI.row;have hF:=hI.sng;have hY:=hI.room;have hO:=hI.ids;have hH:=hI.odd;simp only at hC hK hA hF hY hO hH ⊢;rw[eD,iP]at hP
  have gm:1<=(Ed it).length:=by
   have:=vX i1;cases e:Ed it with
   |nil=>rw[e]at this;simp at this
   |cons q qs=>simp
  have gh:done.length+1<=(dU its).length:=by rw[hP,<-hA];simp;omega
  have ha:l.length<=1000000000:=by
   have:=pK (its:=l) fun i hi=>(hF i hi).2
   omega
  have hb:∀y∈l,y.times<=1000000000:=sH oO;have gx:it.times<=1000000000:=sH hu it hU;have hr:(dU (its.take (k+1)))=dU (its.take k)++Ed it:=by rw[eT,fQ,jJ]
  have bnd:∀{x:Nat},x<=(BO Es).length->x<=(BO (Es++M)).length:=fun h=>by rw[dB,aa];omega
  have hg:it.next≠0->Ed it=[it.id,it.next]++(List.replicate (it.times-1) [it.id,it.next]).flatten:=fun hn=>by
   obtain⟨m,hm⟩:∃m,it.times=m+1:=⟨it.times-1,oO⟩;unfold Ed;rw[if_neg hn,hm,fu,dz,ko]
  have hh:it.next≠0->1<=it.next/\it.next<=(BO Es).length:=fun hn=>hL it.next (by
   rw[hP,hg hn];simp)
  rw[ww,gi]at hK;refine Br ?_;refine dV 71 O (fun h4=>?_) (fun h4=>?_)
  ·obtain rfl:o=0:=by omega
   have hj:FE (BO (Es++M)) 122 done (dU l) (some it.id):=hK;have hD:done=dU (its.take k):=by rw[<-hA];simp[EF]
   refine Bc ?_;refine bE O (fun h5=>?_) (fun h5=>?_)
   ·have hJ:it.next=0:=oO;have hs:=i2 hJ;refine FH ?_;refine jY 14 (.int .i64 ((k+1:Nat):Int)) O (bW oO) ?_;refine bS (ι:=JG) (j:=⟨k+1,M,l,p1,c1,it.id,key (BO Es) it.id,it.times,done⟩) ⟨hc,?_,?_,hF,hY,hO,fun _=>⟨O,hs⟩⟩ (by show its.length-(k+1)<its.length-k;omega) BC ?_
    ·show FE _ 122 done (dU l) ((EF it.id++dU (its.drop (k+1))).head?);rw[EF,if_neg oO];exact hj
    ·show done++EF it.id=_;rw[hr,<-hD,lN hJ,hs,EF,if_neg oO];rfl
    rw[hJ];exact uI
   have hJ:it.next≠0:=oO;obtain⟨n1,n2⟩:=hh hJ;have h3:=hT (dU (its.take k)) it.id it.next ((List.replicate (it.times-1) [it.id,it.next]).flatten++dU (its.drop (k+1))) (by rw[hP,hg hJ];simp);have h9:=rF (Es:=Es++M) (S:=S) (cs:=cs) (l:=l) (x:=it.id) (y:=it.next) (t:=it.times) (p:=p1) (c:=c1) (pp:=pp) (tb:=tb) (s:=s) (most:=most) hE hB h0 oO (fun i hi=>by have:=hb i hi;omega) hO ⟨hG.1,bnd hG.2⟩ ⟨n1,bnd n2⟩ (by rw[dB,jB _ hG.2,jB _ n2];exact h3) (by simp;omega);refine Br ?_;refine bE O (fun h6=>?_) (fun h6=>?_)
   ·refine Bu ?_;refine uX (h9) O ?_;rintro _ _⟨M2,j,p',c',rfl,gn,hV,rfl⟩;rw[ah]at hV ⊢;simp only[uV,uW];refine Df ?_;refine Sz (p:=bR s most (Es++(M++M2))) uK (fun _ h=>dR h) ?_;rintro⟨hW, -, -, -⟩;have eL:BO (Es++(M++M2))=BO (Es++M)++BO M2:=by rw[<-ah,dB]
    have hR:FE (BO (Es++(M++M2))) 122 done (dU l) (some it.id):=by
     rw[eL];refine hj.ext _ (fun x hx=>bnd (hL x ?_).2) (fun x hx=>by cases hx;exact bnd hG.2);rw[hP,<-hD];simp[hx]
    have go:fB 122 (key (BO (Es++(M++M2))) it.id) (key (BO (Es++(M++M2))) it.next):=by
     rw[rP rfl,eL,fO _ (bnd hG.2),fO _ (bnd n2),dB,fO _ hG.2,fO _ n2];exact(i3 hJ).symm
    obtain⟨m,hm⟩:∃m,it.times=m+1:=⟨it.times-1,oO⟩;have hS:=FE.pairs hW go hV m hR (nxt:=(EF 0++dU (its.drop (k+1))).head?);rw[<-hm]at hS;have eit:Ed it=(List.replicate it.times [it.id,it.next]).flatten:=by unfold Ed;rw[if_neg hJ]
    have gA:j+1<=(BO (Es++(M++M2))).length:=(ae.1 hV).1;refine jY 14 (.int .i64 ((k+1:Nat):Int)) O (bW oO) ?_;refine bS (ι:=JG) (j:=⟨k+1,M++M2,iC l ⟨j+1,0,it.times⟩,p',c',0,ok,ot,done++Ed it⟩) ⟨hc,?_,?_,lW hF ⟨O,i1⟩,?_,rW (fun i hi=>by have:=hO i hi;show i.id<=(BO (Es++(M++M2))).length;rw[eL,aa];omega) gA,fun h=>absurd rfl h⟩ (by show its.length-(k+1)<its.length-k;omega) BC ?_
    ·show FE _ 122 (done++Ed it) (dU (iC l ⟨j+1,0,it.times⟩)) _;rw[gX hF rfl,eit];exact hS
    ·show done++Ed it++EF 0=_;rw[hr,hD];simp[EF]
    ·show(M++M2).length+(dU (iC l ⟨j+1,0,it.times⟩)).length<=(done++Ed it).length;rw[gX hF rfl,eit]
     have hM:∀t,(List.replicate t [it.id,it.next]).flatten.length=2*t:=fun t=>by
      induction t with
      |zero=>rfl
      |succ t ih=>rw[dz,ko,aa,ih];simp;omega
     simp only[aa,wo,hM];omega
    exact uI
   exfalso;omega
  have hQ:o≠0:=oO;obtain⟨rfl,rfl⟩:=hH hQ;have gp:=he hQ;have hd:EF o=[o]:=if_neg hQ;rw[hd]at hK hA;have gE:FE (BO (Es++M)) 122 done (dU l) (some o):=hK
  obtain⟨tl,gO⟩:∃tl,Ed it=it.id::tl:=by
   have:=vX i1;cases e:Ed it with
   |nil=>rw[e]at this;simp at this
   |cons q qs=>rw[e]at this;simp at this;subst this;exact⟨qs,rfl⟩
  have gq:1<=o:=oO;have h3:=hT done o it.id (tl++dU (its.drop (k+1))) (by rw[hP,<-hA,gO];simp);have h9:=rF (Es:=Es++M) (S:=S) (cs:=cs) (l:=l) (x:=o) (y:=it.id) (t:=1) (p:=p1) (c:=c1) (pp:=pp) (tb:=tb) (s:=s) (most:=most) hE hB h0 oO (fun i hi=>by have:=hb i hi;omega) hO ⟨gq,bnd hC⟩ ⟨hG.1,bnd hG.2⟩ (by rw[dB,jB _ hG.2,jB _ hC];exact h3) (by simp;omega);refine CX ?_;refine bE O (fun h6=>?_) (fun h6=>?_)
  ·exfalso;omega
  refine Br ?_;refine uX (h9) O ?_;rintro _ _⟨M2,j,p',c',rfl,gn,hV,rfl⟩;rw[ah]at hV ⊢;simp only[uV,uW];have eL:BO (Es++(M++M2))=BO (Es++M)++BO M2:=by rw[<-ah,dB]
  have gA:j+1<=(BO (Es++(M++M2))).length:=(ae.1 hV).1;have bnd2:∀{x:Nat},x<=(BO Es).length->x<=(BO (Es++(M++M2))).length:=fun h=>by rw[dB,aa];omega
  have hN:Ez (iC l ⟨j+1,0,1⟩):=lW hF ⟨O,ai _⟩;have hX:=rW (x:=⟨j+1,0,1⟩) (fun i hi=>by have:=hO i hi;show i.id<=(BO (Es++(M++M2))).length;rw[eL,aa];omega) gA
  have gr:∀{N:List Bj},fB 122 (key (BO (Es++N)) o) (key (BO (Es++N)) it.id):=fun{N}=>by
   rw[rP rfl,dB,fO _ hC,fO _ hG.2];exact gp
  have gj:∀x∈done,x<=(BO Es).length:=fun x hx=>(hL x (by rw[hP,<-hA];simp[hx])).2
  have gR:FE (BO (Es++(M++M2))) 122 done (dU l) (some o):=by
   rw[eL];exact gE.ext _ (fun x hx=>bnd (gj x hx)) (fun x hx=>by cases hx;exact bnd hC)
  have ht:(dU (iC l ⟨j+1,0,1⟩))=dU l++[j+1]:=gX hF O;refine lQ (p:=bR s most (Es++(M++M2))) uK (fun _ h=>dR h) ?_;rintro⟨hW, -, -, -⟩
  have hR:∀nx,FE (BO (Es++(M++M2))) 122 (done++[o,it.id]) (dU (iC l ⟨j+1,0,1⟩)) nx:=fun nx=>by
   rw[ht];exact gR.pair hW gr hV
  refine Df ?_;refine bE O (fun h7=>?_) (fun h7=>?_)
  ·have hJ:it.next≠0:=fun e=>by have:=i2 e;omega
   obtain⟨n1,n2⟩:=hh hJ;obtain⟨m,hm⟩:∃m,it.times=m+2:=⟨it.times-2,oO⟩;have gT:(dU (iC l ⟨j+1,0,1⟩)).length<=1000000000:=(by rw[ht];simp;omega);have ga:=sH gT;have gs:=pK (its:=iC l ⟨j+1,0,1⟩) fun i hi=>(hN i hi).2
   have hl:Ed it=[it.id]++[it.next,it.id]++([it.next]++(List.replicate m [it.id,it.next]).flatten):=by
    unfold Ed;rw[if_neg hJ,hm,dz,dz,ko,ko];simp
   have gb:=hT (done++[o]++[it.id]) it.next it.id ([it.next]++(List.replicate m [it.id,it.next]).flatten++dU (its.drop (k+1))) (by rw[hP,<-hA,hl];simp)
   have gc:=rF (Es:=Es++(M++M2)) (S:=S) (cs:=cs) (l:=iC l ⟨j+1,0,1⟩) (x:=it.next) (y:=it.id) (t:=it.times-1) (p:=p') (c:=c') (pp:=pp) (tb:=tb) (s:=s) (most:=most) hE hB h0 oO (fun i hi=>by have:=ga i hi;omega) hX ⟨n1,bnd2 n2⟩ ⟨hG.1,bnd2 hG.2⟩ (by rw[dB,jB _ hG.2,jB _ n2];exact gb) (by
    have:done.length+2+2<=(dU its).length:=(by rw[hP,<-hA,hl];simp;omega);simp;omega)
   refine Bc ?_;refine BU 58 (.int .i64 ((it.times-1:Nat):Int)) O (bW oO) ?_;refine uX (gc) O ?_;rintro _ _⟨M3,j2,p'',c'',rfl,gy,hM,rfl⟩;rw[ah]at hM ⊢;simp only[uV,uW];refine GN ?_;refine Sz (p:=bR s most (Es++((M++M2)++M3))) uK (fun _ h=>dR h) ?_;rintro⟨gd, -, -, -⟩;have eL3:BO (Es++((M++M2)++M3))=BO (Es++(M++M2))++BO M3:=by rw[<-ah,dB]
   have ge:FE (BO (Es++((M++M2)++M3))) 122 (done++[o,it.id]) (dU (iC l ⟨j+1,0,1⟩)) (some it.next):=by
    rw[eL3];refine(hR (some it.next)).ext _ (fun x hx=>?_) (fun x hx=>by cases hx;exact bnd2 n2);rcases ay.1 hx with h| h
    ·exact bnd2 (gj x h)
    simp at h;rcases h with rfl|rfl
    ·exact bnd2 hC
    exact bnd2 hG.2
   have gt:fB 122 (key (BO (Es++((M++M2)++M3))) it.next) (key (BO (Es++((M++M2)++M3))) it.id):=by
    rw[rP rfl,dB,fO _ hG.2,fO _ n2];exact i3 hJ
   have hS:=FE.pairs gd gt hM m ge (nxt:=(EF it.next++dU (its.drop (k+1))).head?);have gu:j2+1<=(BO (Es++((M++M2)++M3))).length:=(ae.1 hM).1;have gk:it.times-1=m+1:=oO;have est:=zAq (o:=o) (a:=it.id) hJ (m+1)
   have eit:(⟨it.id,it.next,m+1+1⟩:It)=it:=by
    obtain⟨a,b,d⟩:=it;simp only at hm;rw[hm]
   rw[eit]at est;refine jY 14 (.int .i64 ((k+1:Nat):Int)) O (bW oO) ?_;refine bS (ι:=JG) (j:=⟨k+1,(M++M2)++M3,iC (iC l ⟨j+1,0,1⟩) ⟨j2+1,0,it.times-1⟩,p'',c'',it.next,key (BO Es) it.id,1,done++[o,it.id]++(List.replicate (m+1) [it.next,it.id]).flatten⟩) ⟨hc,?_,?_,lW hN ⟨O,by show 1<=it.times-1;omega⟩,?_,rW (fun i hi=>by have:=hX i hi;show i.id<=(BO (Es++((M++M2)++M3))).length;rw[eL3,aa];omega) gu,fun _=>⟨(i3 hJ).symm,rfl⟩⟩ (by show its.length-(k+1)<its.length-k;omega) BC ?_
   ·show FE _ 122 _ (dU (iC (iC l ⟨j+1,0,1⟩) ⟨j2+1,0,it.times-1⟩)) _;rw[gX hN rfl,gk];exact hS
   ·show done++[o,it.id]++(List.replicate (m+1) [it.next,it.id]).flatten++EF it.next=_;rw[hr,<-hA,EF,if_neg hJ,ah done [o],est];simp
   ·show((M++M2)++M3).length+(dU (iC (iC l ⟨j+1,0,1⟩) ⟨j2+1,0,it.times-1⟩)).length<=_
    have gf:∀t,(List.replicate t [it.next,it.id]).flatten.length=2*t:=fun t=>by
     induction t with
     |zero=>rfl
     |succ t ih=>rw[dz,ko,aa,ih];simp;omega
    rw[gX hN rfl,ht,gk];simp only[aa,wo,gf,az,iw];omega
   exact uI
  have hs:it.times=1:=oO;refine RB ?_;refine jY 14 (.int .i64 ((k+1:Nat):Int)) O (bW oO) ?_;refine bS (ι:=JG) (j:=⟨k+1,M++M2,iC l ⟨j+1,0,1⟩,p',c',it.next,key (BO Es) it.id,1,done++[o,it.id]⟩) ⟨hc,hR _,?_,hN,?_,hX,fun h=>⟨(i3 h).symm,O⟩⟩ (by show its.length-(k+1)<its.length-k;omega) BC ?_
  ·show done++[o,it.id]++EF it.next=_;rw[hr,<-hA,EF];unfold Ed;rw[hs];split <;>simp
  ·show(M++M2).length+(dU (iC l ⟨j+1,0,1⟩)).length<=(done++[o,it.id]).length;rw[ht];simp;omega
  exact uI
 obtain rfl:k=its.length:=by omega
 rw[ma (ai _)]at hK;rw[fe (ai _)]at hA;refine CP ?_;refine bE O (fun h8=>?_) (fun h8=>?_)
 ·have hQ:o≠0:=oO;have hd:EF o=[o]:=if_neg hQ;rw[hd]at hK hA;refine CG ?_;refine uX (hw hQ) O ?_;rintro _ _⟨p',c',rfl,rfl⟩;simp only[uV,uW];refine Bo ?_;apply cK
  ·rfl
  ·(apply Rs.tmp rfl;apply Rs.tmp rfl;exact Rs.nil)
  ·refine⟨M,iC l ⟨o,0,1⟩,p',c',O,?_,?_,lW hF ⟨O,ai _⟩,O⟩
   ·rw[gX hF rfl,<-hA];simp;omega
   rw[gX hF rfl,<-hA];exact(FE.single hK (nxt:=none) fun v hv=>by cases hv).1
  exact uI
 obtain rfl:o=0:=by omega
 have hD:done=dU its:=by rw[<-hA];simp[EF]
 refine Bc ?_;exact uZ O (.tmp O (.tmp O .nil)) ⟨M,l,p1,c1,O,by rw[<-hD];exact hY,by rw[<-hD];exact hK.1,hF,rfl⟩
end
