import Derived.Test.YtnicahfnolhgbaaGreatDoorQ17
set_option linter.all false
set_option maxHeartbeats 1000000
namespace Go.Proofs.YtnicahfnolhgbaaGreatDoor
open Go Go.RowKit Sl Eg
section
def GZ (L:List Rl)(l:Nat):Nat->Nat->List Nat
 |0,_=>[]
 |f+1,x=>if x=0 then[]else if Bt L x<=(l:Nat)then[x]else
  match L[x-1]? with
  |some (.pair a b)=>GZ L l f a++GZ L l f b
  |some (.power y k)=>(List.replicate k (GZ L l f y)).flatten
  |_=>[x]
def CF (L:List Rl)(l x:Nat):List Nat:=GZ L l x x
def qMd (L:List Rl)(l f:Nat):GZ L l f 0=[]:=by cases f<;>simp[GZ]
def YJ {L}(hw:Wf L){l}:∀x f,x<=f->GZ L l f x=GZ L l x x:=by
 intro x;induction x using Nat.strongRecOn with
 |_ x ih=>
  intro f hf
  cases x with
  |zero=>rw[qMd,qMd]
  |succ x=>
   cases f with
   |zero=>omega
   |succ f=>
    simp only[GZ,fu]
    split
    ·rfl
    split
    ·rfl
    cases hr:L[x]? with
    |none=>rfl
    |some r=>
     have hk:=hw.ok x r hr
     cases r with
     |letter b=>rfl
     |pair a b=>
      obtain⟨h1,h2,h3,h4⟩:=hk
      simp only
      rw[ih a oO f oO,ih a oO x oO,ih b oO f oO,ih b oO x oO]
     |power y k=>
      obtain⟨h1,h2,h3⟩:=hk
      simp only
      rw[ih y oO f oO,ih y oO x oO]
def qMe (L:List Rl)(l:Nat):CF L l 0=[]:=rfl
def kD {L:List Rl}{l x:Nat}(h1:1<=x)(h:Bt L x<=(l:Nat)):CF L l x=[x]:=by
 obtain⟨x,rfl⟩:∃y,x=y+1:=⟨x-1,oO⟩;unfold CF;simp only[GZ];rw[if_neg oO,if_pos h]
def lM {L:List Rl}(hw:Wf L){l i a b:Nat}(hi:L[i]?=some (.pair a b))(h:(l:Int)<Bt L (i+1)):CF L l (i+1)=CF L l a++CF L l b:=by
 obtain⟨h1,h2,h3,h4⟩:=hw.ok i _ hi;unfold CF;rw[GZ,if_neg oO,if_neg oO,fu,hi];simp only;rw[YJ hw a i oO,YJ hw b i oO]
def kM {L:List Rl}(hw:Wf L){l i y k:Nat}(hi:L[i]?=some (.power y k))(h:(l:Int)<Bt L (i+1)):CF L l (i+1)=(List.replicate k (CF L l y)).flatten:=by
 obtain⟨h1,h2,h3⟩:=hw.ok i _ hi;unfold CF;rw[GZ,if_neg oO,if_neg oO,fu,hi];simp only;rw[YJ hw y i oO]
def fH (L:List Rl)(l:Nat)(ids:List Nat):List Nat:=ids.flatMap (CF L l)
def gV (L:List Rl)(l:Nat)(a b:List Nat):fH L l (a++b)=fH L l a++fH L l b:=by simp[fH]
def qN (L:List Rl)(l:Nat):fH L l []=[]:=rfl
def iR (L:List Rl)(l x:Nat):fH L l [x]=CF L l x:=by simp[fH]
def qYb (L:List Rl)(l k:Nat)(a:List Nat):fH L l (List.replicate k a).flatten=(List.replicate k (fH L l a)).flatten:=by
 induction k with
 |zero=>rfl
 |succ k ih=>simp only[dz,ko,gV,ih]
def pJ {L:List Rl}{l:Nat}{ids:List Nat}(h:∀x∈ids,1<=x/\Bt L x<=(l:Nat)):fH L l ids=ids:=by
 induction ids with
 |nil=>rfl
 |cons x ids ih=>
  have hx:=h x BF
  have e:fH L l (x::ids)=CF L l x++fH L l ids:=by simp[fH]
  rw[e,kD hx.1 hx.2,ih (fun y hy=>h y (by simp[hy]))]
  rfl
def vP {L}(hw:Wf L){l m}(hA:l<=m):∀x,x<=L.length->fH L l (CF L m x)=CF L l x:=by
 intro x;induction x using Nat.strongRecOn with
 |_ x ih=>
  intro hx
  cases x with
  |zero=>rfl
  |succ x=>
   by_cases h:Bt L (x+1)<=(m:Nat)
   ·rw[kD oO h,iR]
   have hr:L[x]?=some (L[x]'oO):=ag oO
   generalize L[x]'oO=r at hr
   have hk:=hw.ok x r hr
   cases r with
   |letter b=>have:=(jL hr).2;omega
   |pair a b=>
    obtain⟨h1,h2,h3,h4⟩:=hk
    rw[lM hw hr oO,lM hw hr oO,gV,ih a oO oO,ih b oO oO]
   |power y k=>
    obtain⟨h1,h2,h3⟩:=hk
    rw[kM hw hr oO,kM hw hr oO,qYb,ih y oO oO]
def wW {L}(hw:Wf L){l m}(hA:l<=m){ids}(h:∀x∈ids,x<=L.length):fH L l (fH L m ids)=fH L l ids:=by
 induction ids with
 |nil=>rfl
 |cons x ids ih=>
  have e:∀k,fH L k (x::ids)=CF L k x++fH L k ids:=fun k=>by simp[fH]
  rw[e m,e l,gV,vP hw hA x (h x BF),ih (fun y hy=>h y (by simp[hy]))]
def KV {L:List Rl}(hw:Wf L){l:Nat}:∀x,x<=L.length->∀y∈CF L l x,1<=y/\y<=x/\Bt L y<=(l:Nat):=by
 intro x;induction x using Nat.strongRecOn with
 |_ x ih=>
  intro hx y hy
  cases x with
  |zero=>simp[qMe]at hy
  |succ x=>
   by_cases h:Bt L (x+1)<=(l:Nat)
   ·rw[kD oO h]at hy
    simp at hy
    subst hy
    exact⟨oO,ai _,h⟩
   have hr:L[x]?=some (L[x]'oO):=ag oO
   generalize L[x]'oO=r at hr
   have hk:=hw.ok x r hr
   cases r with
   |letter b=>have:=(jL hr).2;omega
   |pair a b=>
    obtain⟨h1,h2,h3,h4⟩:=hk
    rw[lM hw hr oO]at hy
    rcases ay.1 hy with h'|h'
    ·have:=ih a oO oO y h';omega
    have:=ih b oO oO y h';omega
   |power z k=>
    obtain⟨h1,h2,h3⟩:=hk
    rw[kM hw hr oO]at hy
    obtain⟨l',h4,h5⟩:=List.mem_flatten.1 hy
    rw[ql]at h4
    rw[h4.2]at h5
    have:=ih z oO oO y h5
    omega
end
section
def Mt (L:List Rl)(lv:Nat)(ids out:List Nat):Prop:=
 (lv%2=1/\Dx L (dE ids) out)\/(lv%2=0/\∃a o,Er L ids (iI (ids.map (key L)) (Cu lv)) a o/\out=o++ids.drop a)
def Mt.inv {L lv ids out}(h:EZ L lv ids)(h1:1<=lv)(hs:Mt L lv ids out):EZ L (lv+1) out:=by
 rcases hs with⟨ho,hr⟩|⟨he,a,o,hp,rfl⟩
 ·exact hr.inv h ho
 exact hp.inv h he oO
def qYc {L l rs out}(h:Dx L rs out)(hx:∀g∈rs,∀id,EI L g.1 g.2 id->CF L l id=List.replicate g.2 g.1):fH L l out=Ch rs:=by
 induction h with
 |nil=>rfl
 | @snoc rs out x t id h1 h2 ih=>
  rw[gV,iR,ih (fun g hg=>hx g (by simp[hg])),hx (x,t) BF _ h2,iT]
  simp[Ch]
def tF (k x:Nat):(List.replicate k [x]).flatten=List.replicate k x:=by
 induction k with
 |zero=>rfl
 |succ k ih=>simp only[dz,ko,ih];rfl
def Mt.down {L lv ids out}(h:EZ L lv ids)(h1:1<=lv)(hs:Mt L lv ids out):fH L (lv-1) out=ids:=by
 have low:∀x∈ids,CF L (lv-1) x=[x]:=fun x hx=>by
  have:=h.ok x hx;exact kD this.1 oO
 rcases hs with⟨ho,hr⟩|⟨he,a,o,hp,rfl⟩
 ·rw[qYc hr,kX];intro g hg id hB;obtain⟨k,hk⟩:=mf hg;obtain⟨x,t⟩:=g;obtain⟨A,B,e,ht,_⟩:=Yu hk
  have hA:x∈ids:=by
   rw[e];obtain⟨t',rfl⟩:∃t',t=t'+1:=⟨t-1,oO⟩;simp[dz]
  rcases hB with⟨h3,rfl⟩|⟨h3,i,rfl,hi⟩
  ·simp only at h3;subst h3;exact low _ hA
  simp only at h3 hi;have hE:=Vg h ho hk (.inr ⟨h3,i,O,hi⟩);rw[kM h.wf hi oO,low x hA,tF]
 have key:∀{js a o},Er L ids js a o->(∀i∈js,∀x y j,ids[i]?=some x->ids[i+1]?=some y->L[j]?=some (.pair x y)->Bt L (j+1)=lv)->fH L (lv-1) o=ids.take a:=by
  intro js a o hp;induction hp with
  |nil=>intro _;rfl
  |snoc p1 p2 p3 p4 p5 ih=>
   intro hl
   rename_i js out at' i x y j
   have hF:=hl i BF x y j p3 p4 p5
   have hA:=ak p3
   have hC:=ak p4
   rw[gV,gV,ih (fun i hi=>hl i (by simp[hi])),iR,lM h.wf p5 oO,low x hA,low y hC]
   have em:fH L (lv-1) ((ids.drop at').take (i-at'))=(ids.drop at').take (i-at'):=pJ fun z hz=>by
    have hD:=h.ok z (qf (mq hz));exact⟨hD.1,oO⟩
   rw[em]
   have hG:=(ae.1 p4).1
   have e1:ids.take (i+2)=ids.take i++[x,y]:=by
    rw[ed,ed,p3,p4];simp
   have e2:ids.take i=ids.take at'++(ids.drop at').take (i-at'):=by
    conv=>lhs;rw[<-dh at' (ids.take i)]
    rw[Ao,lm p2,Am]
   rw[e1,e2]
   simp
 rw[gV,key hp (fun i hi x y j hx hy hj=>qRo h he oO hi hx hy hj),pJ (fun z hz=>by
  have:=h.ok z (qf hz);exact⟨this.1,oO⟩),dh]
end
section
inductive Pg (L:List Rl)(c:Nat):List Nat->List Nat->Prop where
 |nil:Pg L c [] []
 |one {x:Nat} {r o:List Nat}:(∀y,r.head?=some y->¬fB c (key L x) (key L y))->Pg L c r o->Pg L c (x::r) (x::o)
 |two {x y j:Nat} {r o:List Nat}:fB c (key L x) (key L y)->L[j]?=some (.pair x y)->Pg L c r o->Pg L c (x::y::r) ((j+1)::o)
inductive Rg (L:List Rl):List Nat->List Nat->Prop where
 |nil:Rg L [] []
 |run {x t id:Nat} {r o:List Nat}:1<=t->EI L x t id->r.head?≠some x->Rg L r o->Rg L (List.replicate t x++r) (id::o)
inductive Gw (L:List Rl)(ids:List Nat):Nat->List Nat->List Nat->Prop where
 |nil {a:Nat}:Gw L ids a [] (ids.drop a)
 |cons {a i x y j:Nat} {js out:List Nat}:a<=i->ids[i]?=some x->ids[i+1]?=some y->L[j]?=some (.pair x y)->Gw L ids (i+2) js out->Gw L ids a (i::js) ((ids.drop a).take (i-a)++(j+1)::out)
def Er.prc {L ids js out a}(h:Er L ids js a out):∀{js' out':List Nat},Gw L ids a js' out'->Gw L ids 0 (js++js') (out++out'):=by
 induction h with
 |nil=>intro js' out' h';exact h'
 |snoc h h1 h2 h3 h4 ih=>
  intro js' out' h'
  have:=ih (.cons h1 h2 h3 h4 h')
  simpa[ah]using this
def Gw.prs {L ids js out a}(h:Gw L ids a js out):∀{js0 o0:List Nat},Er L ids js0 a o0->∃b o,Er L ids (js0++js) b o/\o0++out=o++ids.drop b:=by
 induction h with
 |nil=>intro js0 o0 h0;exact⟨_,o0,by rw[ax];exact h0,rfl⟩
 |cons h1 h2 h3 h4 _ ih=>
  intro js0 o0 h0
  obtain⟨b,o,h5,h6⟩:=ih (.snoc h0 h1 h2 h3 h4)
  exact⟨b,o,by simpa using h5,by rw[<-h6];simp⟩
def Xd:∀{l:List Nat}{a e:Nat},Eu l a e->∀i∈l,a<=i
 |[],_,_,_,i,hi=>by simp at hi
 |j::l,a,e,⟨h0,h1,h2⟩,i,hi=>by
  rcases di.1 hi with rfl|hi
  ·exact h0
  have:=Xd h2 i hi;omega
structure Qg (L:List Rl)(c:Nat)(ids:List Nat)(k:Nat)(js:List Nat):Prop where
 gaps:Eu js k ids.length
 fit:∀i∈js,∃x y,ids[i]?=some x/\ids[i+1]?=some y/\fB c (key L x) (key L y)
 all:∀i x y,k<=i->ids[i]?=some x->ids[i+1]?=some y->fB c (key L x) (key L y)->i∈js\/∃j,i=j+1/\j∈js
def qNq (L:List Rl)(c:Nat)(ids:List Nat):Qg L c ids 0 (iI (ids.map (key L)) c):=by
 refine⟨by have:=ZR (ids.map (key L)) c;simpa using this,fun i hi=>?_,fun i x y _ hx hy hf=>?_⟩
 ·obtain⟨kx,ky,h1,h2,h3⟩:=qMz hi;rw[bn]at h1 h2;cases e1:ids[i]? with
  |none=>rw[e1]at h1;simp at h1
  |some x=>
   cases e2:ids[i+1]? with
   |none=>rw[e2]at h2;simp at h2
   |some y=>
    rw[e1]at h1
    rw[e2]at h2
    simp at h1 h2
    subst h1 h2
    exact⟨x,y,O,O,h3⟩
 exact qGt (by rw[bn,hx];rfl) (by rw[bn,hy];rfl) hf
def Qg.split {L c k ids js}(h:Qg L c ids k js)(hk:k<ids.length){x}(hx:ids[k]?=some x):
  (∃js' y,js=k::js'/\Qg L c ids (k+2) js'/\ids[k+1]?=some y/\fB c (key L x) (key L y))\/(Qg L c ids (k+1) js/\∀y,ids[k+1]?=some y->¬fB c (key L x) (key L y)):=by
 have hg:=h.gaps;cases js with
 |nil=>
  right
  refine⟨⟨hk,fun i hi=>by simp at hi,fun i x y h1 h2 h3 h4=>h.all i x y oO h2 h3 h4⟩,fun y hy hf=>?_⟩
  rcases h.all k x y (ai _) hx hy hf with h1|⟨j,_,h1⟩<;>simp at h1
 |cons i js'=>
  obtain⟨g1,g2,g3⟩:=hg
  by_cases e:i=k
  ·subst e
   left
   obtain⟨x',y,h1,h2,h3⟩:=h.fit i BF
   rw[hx]at h1
   cases h1
   refine⟨js',y,O,⟨g3,fun j hj=>h.fit j (by simp[hj]),fun j u v h4 h5 h6 h7=>?_⟩,h2,h3⟩
   rcases h.all j u v oO h5 h6 h7 with h8|⟨q,h8,h9⟩
   ·rcases di.1 h8 with h8|h8
    ·omega
    exact .inl h8
   rcases di.1 h9 with h9|h9
   ·omega
   exact .inr ⟨q,h8,h9⟩
  right
  have hA:Eu (i::js') (k+1) ids.length:=⟨oO,g2,g3⟩
  refine⟨⟨hA,h.fit,fun j u v h1 h2 h3 h4=>h.all j u v oO h2 h3 h4⟩,fun y hy hf=>?_⟩
  rcases h.all k x y (ai _) hx hy hf with h1|⟨j,h0,h1⟩
  ·have:=Xd hA _ h1;omega
  have:=Xd hA _ h1;omega
def yE {l:List Nat}{k x:Nat}(hx:l[k]?=some x):l.drop k=x::l.drop (k+1):=by
 obtain⟨h1,e1⟩:=ae.1 hx;rw[mr h1,e1]
def Gw.pg {L:List Rl}{c:Nat}{ids:List Nat}:∀(m k:Nat)(js out:List Nat),ids.length-k<=m->k<=ids.length->Qg L c ids k js->Gw L ids k js out->Pg L c (ids.drop k) out
 |0,k,js,out,hm,hk,hs,hp=>by
  obtain rfl:k=ids.length:=by omega
  rw[ma (ai _)];cases js with
  |nil=>cases hp;rw[ma (ai _)];exact .nil
  |cons i js=>have:=hs.gaps;have h1:=this.1;have h2:=this.2.1;omega
 |m+1,k,js,out,hm,hk,hs,hp=>by
  rcases fw k ids.length with hB|hge
  ·have hx:ids[k]?=some ids[k]:=ag hB;generalize ids[k]=x at hx;rcases hs.split hB hx with⟨js',y,rfl,hA,hy,hf⟩|⟨hA,hn⟩
   ·have hD:=(ae.1 hy).1;cases hp with
    |cons h1 h2 h3 h4 h5=>
     rw[hx]at h2
     rw[hy]at h3
     cases h2
     cases h3
     rw[uf,oJ,jw,Uw hx hy]
     exact .two hf h4 (Gw.pg m (k+2) js' _ oO oO hA h5)
   rw[yE hx];have hC:∀y,(ids.drop (k+1)).head?=some y->¬fB c (key L x) (key L y):=fun y hy=>hn y (by rwa [Af]at hy)
   cases hp with
   |nil=>rw[yE hx];exact .one hC (Gw.pg m (k+1) [] _ oO oO hA .nil)
   |cons h1 h2 h3 h4 h5=>
    have hg:=hA.gaps.1
    rename_i i x' y' j js' out'
    rw[yE hx,show i-k=(i-(k+1))+1 by omega,oD,jq]
    exact .one hC (Gw.pg m (k+1) _ _ oO oO hA (.cons hg h2 h3 h4 h5))
  obtain rfl:k=ids.length:=by omega
  rw[ma (ai _)];cases js with
  |nil=>cases hp;rw[ma (ai _)];exact .nil
  |cons i js=>have:=hs.gaps;have h1:=this.1;have h2:=this.2.1;omega
def Pg.prc {L:List Rl}{c:Nat}{ids:List Nat}:∀(m k:Nat)(js out:List Nat),ids.length-k<=m->k<=ids.length->Qg L c ids k js->Pg L c (ids.drop k) out->Gw L ids k js out
 |0,k,js,out,hm,hk,hs,hp=>by
  obtain rfl:k=ids.length:=by omega
  cases js with
  |nil=>
   have e:ids.drop ids.length=[]:=ma (ai _)
   rw[e]at hp
   cases hp
   have:=Gw.nil (L:=L) (ids:=ids) (a:=ids.length)
   rwa [e]at this
  |cons i js=>have:=hs.gaps;have h1:=this.1;have h2:=this.2.1;omega
 |m+1,k,js,out,hm,hk,hs,hp=>by
  rcases fw k ids.length with hB|hge
  ·have hx:ids[k]?=some ids[k]:=ag hB;generalize ids[k]=x at hx;rcases hs.split hB hx with⟨js',y,rfl,hA,hy,hf⟩|⟨hA,hn⟩
   ·have hD:=(ae.1 hy).1;rw[Uw hx hy]at hp;cases hp with
    |one h1 h2=>exact absurd hf (h1 y rfl)
    |two h1 h2 h3=>
     have:=Gw.cons (a:=k) (ai k) hx hy h2 (Pg.prc m (k+2) js' _ oO oO hA h3)
     rwa [uf,oJ,jw]at this
   have e:=yE hx;rw[e]at hp;generalize hr:ids.drop (k+1)=r at hp;cases hp with
   |one h1 h2=>
    subst hr
    have:=Pg.prc m (k+1) js _ oO oO hA h2
    generalize hC:k+1=k' at this
    cases this with
    |nil=>subst hC;rw[<-e];exact .nil
    |cons g1 g2 g3 g4 g5=>
     subst hC
     rename_i i x' y' j js' out'
     have:=Gw.cons (a:=k) oO g2 g3 g4 g5
     rwa [e,show i-k=(i-(k+1))+1 by omega,oD,jq]at this
   |two h1 h2 h3=>
    exfalso
    refine hn _ ?_ h1
    rw[<-Af,hr];rfl
  obtain rfl:k=ids.length:=by omega
  cases js with
  |nil=>
   have e:ids.drop ids.length=[]:=ma (ai _)
   rw[e]at hp
   cases hp
   have:=Gw.nil (L:=L) (ids:=ids) (a:=ids.length)
   rwa [e]at this
  |cons i js=>have:=hs.gaps;have h1:=this.1;have h2:=this.2.1;omega
def Te {L c a ids o}(h:Er L ids (iI (ids.map (key L)) c) a o):Pg L c ids (o++ids.drop a):=by
 have h1:=h.prc .nil;rw[ax]at h1;exact Gw.pg ids.length 0 _ _ oO (av _) (qNq L c ids) h1
def Pg.prs {L c ids out}(h:Pg L c ids out):∃a o,Er L ids (iI (ids.map (key L)) c) a o/\out=o++ids.drop a:=by
 have h1:=Pg.prc ids.length 0 _ out oO (av _) (qNq L c ids) h;obtain⟨b,o,h2,h3⟩:=h1.prs .nil;exact⟨b,o,h2,h3⟩
def Dx.cons {L x t id rs out}(h:EI L x t id)(hr:Dx L rs out):Dx L ((x,t)::rs) (id::out):=by
 induction hr with
 |nil=>exact .snoc (rs:=[]) (out:=[]) .nil h
 |snoc h1 h2 ih=>exact .snoc ih h2
def Dx.uncons {L g rs out}(h:Dx L (g::rs) out):∃id o,out=id::o/\EI L g.1 g.2 id/\Dx L rs o:=by
 generalize e:g::rs=q at h;induction h generalizing rs with
 |nil=>cases e
 | @snoc rs' out' x t id h1 h2 ih=>
  cases rs' with
  |nil=>
   cases e
   generalize e2:([]:List (Nat×Nat))=z at h1
   cases h1 with
   |nil=>exact⟨id,[],rfl,h2,.nil⟩
   |snoc _ _=>simp at e2
  |cons g' rs''=>
   simp only[jq,za]at e
   obtain⟨rfl,rfl⟩:=e
   obtain⟨id',o,rfl,h3,h4⟩:=ih rfl
   exact⟨id',o++[id],O,h3,.snoc h4 h2⟩
def Fa (rs:List (Nat×Nat)):Prop:=∀(k x t y t':Nat),rs[k]?=some (x,t)->rs[k+1]?=some (y,t')->x≠y
def qYg {rs}(hp:∀g∈rs,1<=g.2) {y} (h:(Ch rs).head?=some y):∃t,rs[0]?=some (y,t):=by
 cases rs with
 |nil=>simp[Ch]at h
 |cons g rs=>
  obtain⟨x,t⟩:=g
  have:=hp (x,t) BF
  obtain⟨m,rfl⟩:∃m,t=m+1:=⟨t-1,by simp only at this;omega⟩
  simp[Ch,dz]at h
  subst h
  exact⟨_,O⟩
def XL {L}:∀{rs:List (Nat×Nat)}{out:List Nat},Dx L rs out->(∀g∈rs,1<=g.2)->Fa rs->Rg L (Ch rs) out
 |[],out,h,hp,ha=>by
  generalize e2:([]:List (Nat×Nat))=z at h;cases h with
  |nil=>exact .nil
  |snoc _ _=>simp at e2
 |(x,t)::rs,out,h,hp,ha=>by
  obtain⟨id,o,rfl,h1,h2⟩:=h.uncons;have hA:∀g∈rs,1<=g.2:=fun g hg=>hp g (by simp[hg])
  rw[Ch];refine .run (hp (x,t) BF) h1 (fun hh=>?_) (XL h2 hA (fun k a b c d h3 h4=>ha (k+1) a b c d h3 h4));obtain⟨t',h3⟩:=qYg hA hh;exact ha 0 x t x t' O h3 O
def UD {L ids out}(h:Dx L (dE ids) out):Rg L ids out:=by
 have:=XL h (fun g hg=>(nT ids g hg).1) (fun k x t y t' h1 h2=>qRz ids k x t y t' h1 h2);rwa [kX]at this
def Zo {l a}(h:dE l=a){x}(hx:∀y t,a.getLast?=some (y,t)->y≠x):∀t,dE (l++List.replicate (t+1) x)=a++[(x,t+1)]
 |0=>by
  rw[show List.replicate (0+1) x=[x]from rfl,iX,h];rcases bq a with rfl|⟨b,⟨y,k⟩,rfl⟩
  ·rfl
  rw[bu]at hx ⊢;exact kK b (hx y k BF)
 |t+1=>by
  rw[oG,<-ah,iX,Zo h hx t,jR]
def qPz:∀(rs:List (Nat×Nat)),(∀g∈rs,1<=g.2)->Fa rs->dE (Ch rs)=rs:=fun rs=>by
 refine xI (P:=fun rs=>(∀g∈rs,1<=g.2)->Fa rs->dE (Ch rs)=rs) (fun _ _=>O) ?_ rs;intro rs g ih hp ha;obtain⟨x,t⟩:=g;have hA:∀g∈rs,1<=g.2:=fun g hg=>hp g (by simp[hg])
 have hB:Fa rs:=fun k a b c d h1 h2=>ha k a b c d (by rw[aj (ae.1 h1).1];exact h1) (by rw[aj (ae.1 h2).1];exact h2)
 have ht:=hp (x,t) BF;obtain⟨m,rfl⟩:∃m,t=m+1:=⟨t-1,by simp only at ht;omega⟩;rw[iT];have e:Ch [(x,m+1)]=List.replicate (m+1) x:=by simp[Ch]
 rw[e];refine Zo (ih hA hB) (fun y t hy=>?_) m;rcases bq rs with rfl|⟨b,⟨y',k⟩,rfl⟩
 ·simp at hy
 rw[bu]at hy ha;simp at hy;obtain⟨rfl,rfl⟩:=hy;exact ha b.length y' k x (m+1) BF BF
def Rg.rns {L ids out}(h:Rg L ids out):∃rs,Ch rs=ids/\(∀g∈rs,1<=g.2)/\Fa rs/\Dx L rs out:=by
 induction h with
 |nil=>exact⟨[],rfl,by simp,fun k x t y t' h=>by simp at h,.nil⟩
 | @run x t id r o h1 h2 h3 h4 ih=>
  obtain⟨rs,rfl,hp,ha,hr⟩:=ih
  refine⟨(x,t)::rs,O,fun g hg=>?_,fun k a b c d g1 g2=>?_,.cons h2 hr⟩
  ·rcases di.1 hg with rfl|hg
   ·exact h1
   exact hp g hg
  cases k with
  |zero=>
   simp at g1 g2
   obtain⟨rfl,rfl⟩:=g1
   intro e
   subst e
   apply h3
   cases rs with
   |nil=>simp at g2
   |cons g rs=>
    simp at g2
    subst g2
    have:=hp (x,d) BF
    obtain⟨m,rfl⟩:∃m,d=m+1:=⟨d-1,by simp only at this;omega⟩
    simp[Ch,dz]
  |succ k=>exact ha k a b c d (by simpa using g1) (by simpa using g2)
def Rg.runs {L ids out}(h:Rg L ids out):Dx L (dE ids) out:=by
 obtain⟨rs,rfl,hp,ha,hr⟩:=h.rns;rw[qPz rs hp ha];exact hr
def Sq (L:List Rl)(lv:Nat)(ids out:List Nat):Prop:=if lv%2=1 then Rg L ids out else Pg L (Cu lv) ids out
def Sq.stp {L lv ids out}(h:Sq L lv ids out):Mt L lv ids out:=by
 unfold Sq at h;split at h
 ·rename_i ho;exact .inl ⟨ho,h.runs⟩
 rename_i ho
 obtain⟨a,o,h1,h2⟩:=h.prs;exact .inr ⟨oO,a,o,h1,h2⟩
def Mt.sq {L lv ids out}(h:Mt L lv ids out):Sq L lv ids out:=by
 unfold Sq;rcases h with⟨ho,hr⟩|⟨he,a,o,hp,rfl⟩
 ·rw[if_pos ho];exact UD hr
 rw[if_neg oO];exact Te hp
end
section
def Pg.fn {L}(hw:Wf L){c ids o o'}(h:Pg L c ids o)(h':Pg L c ids o'):o=o':=by
 induction h generalizing o' with
 |nil=>cases h';rfl
 |one h1 h2 ih=>
  cases h' with
  |one g1 g2=>rw[ih g2]
  |two g1 g2 g3=>exact absurd g1 (h1 _ rfl)
 |two h1 h2 h3 ih=>
  cases h' with
  |one g1 g2=>exact absurd h1 (g1 _ rfl)
  |two g1 g2 g3=>rw[ih g3,hw.nodup _ _ _ h2 g2]
def Rg.fn {L}(hw:Wf L){ids o o'}(h:Rg L ids o)(h':Rg L ids o'):o=o':=h.runs.fn hw h'.runs
def Sq.fn {L}(hw:Wf L){lv ids o o'}(h:Sq L lv ids o)(h':Sq L lv ids o'):o=o':=by
 unfold Sq at h h';split at h
 ·rw[if_pos (by assumption)]at h';exact h.fn hw h'
 rw[if_neg (by assumption)]at h';exact h.fn hw h'
def Pg.ext {L}(M:List Rl){c ids o}(h:Pg L c ids o)(hx:∀x∈ids,x<=L.length):Pg (L++M) c ids o:=by
 induction h with
 |nil=>exact .nil
 | @one x r o h1 h2 ih=>
  refine .one (fun y hy=>?_) (ih fun z hz=>hx z (by simp[hz]))
  rw[fO M (hx x BF),fO M (hx y (by simp[AL hy]))]
  exact h1 y hy
 | @two x y j r o h1 h2 h3 ih=>
  refine .two ?_ (Sk M h2) (ih fun z hz=>hx z (by simp[hz]))
  rw[fO M (hx x BF),fO M (hx y BF)]
  exact h1
def Rg.ext {L}(M:List Rl){ids o}(h:Rg L ids o):Rg (L++M) ids o:=by
 induction h with
 |nil=>exact .nil
 |run h1 h2 h3 h4 ih=>exact .run h1 (h2.ext M) h3 ih
def Sq.ext {L}(M:List Rl){lv ids o}(h:Sq L lv ids o)(hx:∀x∈ids,x<=L.length):Sq (L++M) lv ids o:=by
 unfold Sq at*;split
 ·rw[if_pos (by assumption)]at h;exact h.ext M
 rw[if_neg (by assumption)]at h;exact h.ext M hx
def Sq.nil (L:List Rl)(lv:Nat):Sq L lv [] []:=by
 unfold Sq;split
 ·exact .nil
 exact .nil
def Sq.one (L:List Rl)(lv x:Nat):Sq L lv [x] [x]:=by
 unfold Sq;split
 ·exact Rg.run (t:=1) (r:=[]) (ai _) (.inl ⟨O,O⟩) BF .nil
 exact Pg.one BF .nil
def IE (L:List Rl)(lv:Nat)(X X' Z:List Nat):Prop:=∀u v,X.getLast?=some u->Z.head?=some v->if lv%2=1 then u≠v else(X'.getLast?=some u->¬fB (Cu lv) (key L u) (key L v))
def tK {α:Type}(a:α){l b}(h:l.getLast?=some b):(a::l).getLast?=some b:=by
 cases l with
 |nil=>simp at h
 |cons c l=>rw[rf];exact h
def Pg.nonempty {L c x r o}(h:Pg L c (x::r) o):o≠[]:=by
 cases h<;>simp
def qYq {α:Type}(a:α)(l:List α):(l=[]/\(a::l).getLast?=some a)\/∃b,l.getLast?=some b/\(a::l).getLast?=some b:=by
 cases l with
 |nil=>exact .inl ⟨rfl,rfl⟩
 |cons b l=>exact .inr ⟨(b::l).getLast BF,qy _,by rw[rf];exact qy _⟩
def Pg.join {L c X X' Z Z'}(h:Pg L c X X')(hz:Pg L c Z Z')(hb:∀u v,X.getLast?=some u->X'.getLast?=some u->Z.head?=some v->¬fB c (key L u) (key L v)):Pg L c (X++Z) (X'++Z'):=by
 induction h with
 |nil=>exact hz
 | @one x r o h1 h2 ih=>
  refine .one (fun y hy=>?_) (ih fun u v e1 e2 e3=>hb u v (tK x e1) (tK x e2) e3)
  cases r with
  |nil=>cases h2;exact hb x y rfl rfl hy
  |cons z r=>exact h1 y (by simpa using hy)
 | @two x y j r o h1 h2 h3 ih=>
  exact .two h1 h2 (ih fun u v e1 e2 e3=>hb u v (tK x (tK y e1)) (tK _ e2) e3)
def qRt {t x}(h:1<=t)(r:List Nat)(hr:r=[]):(List.replicate t x++r).getLast?=some x:=by
 subst hr;obtain⟨m,rfl⟩:∃m,t=m+1:=⟨t-1,oO⟩;rw[ax,oG];simp
def Rg.join {L X X' Z Z'}(h:Rg L X X')(hz:Rg L Z Z')(hb:∀u v,X.getLast?=some u->Z.head?=some v->u≠v):Rg L (X++Z) (X'++Z'):=by
 induction h with
 |nil=>exact hz
 | @run x t id r o h1 h2 h3 h4 ih=>
  rw[ah,jq]
  refine .run h1 h2 (fun hh=>?_) (ih fun u v e1 e2=>hb u v ?_ e2)
  ·cases r with
   |nil=>exact hb x x (qRt h1 _ rfl) hh rfl
   |cons z r=>exact h3 (by simpa using hh)
  cases r with
  |nil=>simp at e1
  |cons z r=>rw[yw,e1];rfl
def Sq.join {L lv X X' Z Z'}(h:Sq L lv X X')(hz:Sq L lv Z Z')(hb:IE L lv X X' Z):Sq L lv (X++Z) (X'++Z'):=by
 unfold Sq IE at*;by_cases ho:lv%2=1
 ·rw[if_pos ho]at*;exact h.join hz (fun u v e1 e2=>by have:=hb u v e1 e2;rwa [if_pos ho]at this)
 rw[if_neg ho]at*;exact h.join hz (fun u v e1 e2 e3=>by have:=hb u v e1 e3;rw[if_neg ho]at this;exact this e2)
def Pg.split {L}(hw:Wf L){c}:∀{A X' W':List Nat},Pg L c A (X'++W')->∃X W,A=X++W/\Pg L c X X'/\Pg L c W W'/\∀u v,X.getLast?=some u->X'.getLast?=some u->W.head?=some v->¬fB c (key L u) (key L v)
 |A,[],W',h=>⟨[],A,rfl,.nil,h,fun u v e=>by simp at e⟩
 |A,a::X',W',h=>by
  rw[jq]at h;cases h with
  | @one x r o h1 h2=>
   obtain⟨X,W,rfl,g1,g2,g3⟩:=Pg.split hw h2
   refine⟨a::X,W,O,.one (fun y hy=>h1 y (by rw[ww,hy];rfl)) g1,g2,fun u v e1 e2 e3=>?_⟩
   cases X with
   |nil=>
    cases g1
    simp at e1
    subst e1
    exact h1 v (by simpa using e3)
   |cons z X=>
    rcases qYq a X' with⟨rfl,_⟩|⟨b,q1,q2⟩
    ·exact absurd O g1.nonempty
    rw[q2]at e2
    cases e2
    exact g3 _ v (by rwa [rf]at e1) q1 e3
  | @two x y j r o h1 h2 h3=>
   obtain⟨X,W,rfl,g1,g2,g3⟩:=Pg.split hw h3
   refine⟨x::y::X,W,O,.two h1 h2 g1,g2,fun u v e1 e2 e3=>?_⟩
   cases X with
   |nil=>
    cases g1
    simp at e1 e2
    have:=hw.ok _ _ h2
    obtain⟨_,_,_,h4⟩:=this
    omega
   |cons z X=>
    rcases qYq (j+1) X' with⟨rfl,_⟩|⟨b,q1,q2⟩
    ·exact absurd O g1.nonempty
    rw[q2]at e2
    cases e2
    exact g3 _ v (by rwa [rf,rf]at e1) q1 e3
def Rg.nonempty {L x r o}(h:Rg L (x::r) o):o≠[]:=by
 generalize e:x::r=z at h;cases h with
 |nil=>cases e
 |run _ _ _ _=>simp
def Rg.split {L}:∀{A X' W':List Nat},Rg L A (X'++W')->∃X W,A=X++W/\Rg L X X'/\Rg L W W'/\∀u v,X.getLast?=some u->W.head?=some v->u≠v
 |A,[],W',h=>⟨[],A,rfl,.nil,h,fun u v e=>by simp at e⟩
 |A,a::X',W',h=>by
  rw[jq]at h;generalize e:a::(X'++W')=z at h;cases h with
  |nil=>cases e
  | @run x t id r o h1 h2 h3 h4=>
   cases e
   obtain⟨X,W,rfl,g1,g2,g3⟩:=Rg.split h4
   refine⟨List.replicate t x++X,W,by rw[ah],.run h1 h2 (fun hh=>h3 (by rw[ww,hh];rfl)) g1,g2,fun u v e1 e3=>?_⟩
   cases X with
   |nil=>
    rw[qRt h1 _ rfl]at e1
    cases e1
    intro e
    subst e
    exact h3 (by simpa using e3)
   |cons z X=>
    rw[yw,qy (l:=z::X) BF]at e1
    exact g3 u v (by rw[<-e1,qy (l:=z::X) BF];rfl) e3
def Sq.split {L}(hw:Wf L){lv A X' W'}(h:Sq L lv A (X'++W')):∃X W,A=X++W/\Sq L lv X X'/\Sq L lv W W'/\IE L lv X X' W:=by
 unfold Sq IE at*;by_cases ho:lv%2=1
 ·simp only[if_pos ho]at*;exact h.split
 simp only[if_neg ho]at*;obtain⟨X,W,h1,h2,h3,h4⟩:=h.split hw;exact⟨X,W,h1,h2,h3,fun u v e1 e2 e3=>h4 u v e1 e3 e2⟩
def EZ.left {L lv a b}(h:EZ L lv (a++b)):EZ L lv a:=by
 have hg:∀{i x:Nat},a[i]?=some x->(a++b)[i]?=some x:=fun hx=>by rw[aj (ae.1 hx).1];exact hx
 exact⟨h.wf,fun x hx=>h.ok x (by simp[hx]),fun i x h1 h2=>h.same i x (hg h1) (hg h2),fun i x y h1 h2 h3=>h.diff i x y (hg h1) (hg h2) h3⟩
def EZ.right {L lv a b}(h:EZ L lv (a++b)):EZ L lv b:=by
 have hg:∀{i x:Nat},b[i]?=some x->(a++b)[a.length+i]?=some x:=fun hx=>by rw[bi oO,qd];exact hx
 exact⟨h.wf,fun x hx=>h.ok x (by simp[hx]),fun i x h1 h2=>h.same (a.length+i) x (hg h1) (by have:=hg h2;rwa [<-qa]at this),fun i x y h1 h2 h3=>h.diff (a.length+i) x y (hg h1) (by have:=hg h2;rwa [<-qa]at this) h3⟩
def Sq.down {L lv ids out}(h:Sq L lv ids out)(hi:EZ L lv ids)(h1:1<=lv):fH L (lv-1) out=ids:=h.stp.down hi h1
def EZ.one {L:List Rl}(hw:Wf L){x lv:Nat}(h1:1<=x)(h2:x<=L.length)(h3:0<=Bt L x)(h4:Bt L x<lv):EZ L lv [x]:=by
 refine⟨hw,fun y hy=>?_,fun i y e1 e2=>?_,fun i y z e1 e2=>?_⟩
 ·simp at hy;subst hy;exact⟨h1,h2,h3,h4⟩
 ·simp at e2
 simp at e2
structure De (L:List Rl)(x:Nat):Prop where
 pos:1<=x
 le:x<=L.length
 lv:0<=Bt L x
 inv:∀k,1<=k->EZ L k (CF L (k-1) x)
 step:∀k,1<=k->Sq L k (CF L (k-1) x) (CF L k x)
def EQ.rows {L}(hw:Wf L){bs lv ids}(h:EQ L bs lv ids):EZ L lv ids/\Ej L (fH L 0 ids) bs/\∀k,1<=k->k<lv->EZ L k (fH L (k-1) ids)/\Sq L k (fH L (k-1) ids) (fH L k ids):=by
 have step:∀{lv:Nat}{ids out:List Nat},1<=lv->Mt L lv ids out->(EZ L lv ids/\Ej L (fH L 0 ids) bs/\∀k,1<=k->k<lv->EZ L k (fH L (k-1) ids)/\Sq L k (fH L (k-1) ids) (fH L k ids))->
   EZ L (lv+1) out/\Ej L (fH L 0 out) bs/\∀k,1<=k->k<lv+1->EZ L k (fH L (k-1) out)/\Sq L k (fH L (k-1) out) (fH L k out):=by
  intro lv ids out h1 hs ⟨hi,hl,hk⟩;have hA:=hs.inv hi h1;have hd:=hs.down hi h1;have hC:∀x∈out,x<=L.length:=fun x hx=>(hA.ok x hx).2.1
  have tr:∀k,k<lv->fH L k out=fH L k ids:=fun k hk=>by rw[<-hd,wW hw oO hC]
  refine⟨hA,by rw[tr 0 oO];exact hl,fun k k1 k2=>?_⟩;rcases fw k lv with hB|hge
  ·rw[tr (k-1) oO,tr k hB];exact hk k k1 hB
  obtain rfl:k=lv:=by omega
  rw[hd,pJ (ids:=out) (fun x hx=>by have:=hA.ok x hx;omega)];exact⟨hi,hs.sq⟩
 induction h with
 |start h=>
  have hi:=h.inv hw
  refine⟨hi,?_,fun k h1 h2=>by omega⟩
  rw[pJ (fun x hx=>by have:=hi.ok x hx;omega)]
  exact h
 |odd h h1 h2 h3 ih=>exact step h.pos (.inl ⟨h1,h3⟩) ih
 |even h h1 h2 h3 h4 ih=>exact step h.pos (.inr ⟨h1,_,_,h4,rfl⟩) ih
def EQ.sig {L}(hw:Wf L){bs lv x}(h:EQ L bs lv [x]):De L x/\Ej L (CF L 0 x) bs:=by
 obtain⟨hi,hl,hk⟩:=h.rows hw;rw[iR]at hl;have ho:=hi.ok x BF;have low:∀k,lv-1<=k->CF L k x=[x]:=fun k h=>kD ho.1 oO
 refine⟨⟨ho.1,ho.2.1,ho.2.2.1,fun k k1=>?_,fun k k1=>?_⟩,hl⟩
 ·rcases fw k lv with hA|hge
  ·have:=(hk k k1 hA).1;rwa [iR]at this
  rw[low (k-1) oO];exact .one hw ho.1 ho.2.1 ho.2.2.1 oO
 rcases fw k lv with hA|hge
 ·have:=(hk k k1 hA).2;rwa [iR,iR]at this
 rw[low (k-1) oO,low k oO];exact .one L k x
def EQ.next {L bs lv ids out}(h:EQ L bs lv ids)(h2:2<=ids.length)(hA:∀x∈ids,x<=L.length) (hs:Sq L lv ids out):EQ L bs (lv+1) out:=by
 rcases hs.stp with⟨ho,hr⟩|⟨he,a,o,hp,rfl⟩
 ·exact .odd h ho h2 hr
 exact .even h he h2 hA hp
def Ej.append {L a b x y}(h:Ej L a x)(h':Ej L b y):Ej L (a++b) (x++y):=by
 induction h' with
 |nil=>simpa using h
 |snoc _ h2 ih=>rw[<-ah,<-ah];exact .snoc ih h2
end
section
def JM {low x y}(hx:x<Cg)(hy:y<Cg):after low x y<=low+246:=by
 have hc:∃c,c<=122/\fB c x y:=by
  rcases mY (c:=0) oO hx hy with⟨g1,_⟩|⟨k,g1,g2,g3,g4,g5⟩
  ·have:=yM hx hy;omega
  exact⟨k,oO,g4⟩
 obtain⟨c,hc,hf⟩:=hc
 have h:=(vI (low:=low) hx hy).2 (2*(low/2+(c+123-low/2%123)%123+1)) oO oO (by
  have e:Cu (2*(low/2+(c+123-low/2%123)%123+1))=c:=by unfold Cu;omega
  rw[e];exact hf)
 omega
def vO {L:List Rl}(hw:Wf L){l:Nat}:∀x,1<=x->x<=L.length->1<=(CF L l x).length/\((l:Int)<Bt L x->2<=(CF L l x).length):=by
 intro x;induction x using Nat.strongRecOn with
 |_ x ih=>
  intro h1 hx
  obtain⟨x,rfl⟩:∃y,x=y+1:=⟨x-1,oO⟩
  by_cases h:Bt L (x+1)<=(l:Nat)
  ·rw[kD oO h]
   exact⟨ai _,fun h'=>by omega⟩
  have hr:L[x]?=some (L[x]'oO):=ag oO
  generalize L[x]'oO=r at hr
  have hk:=hw.ok x r hr
  have key:2<=(CF L l (x+1)).length:=by
   cases r with
   |letter b=>have:=(jL hr).2;omega
   |pair a b=>
    obtain⟨h1,h2,h3,h4⟩:=hk
    rw[lM hw hr oO,aa]
    have:=(ih a oO oO oO).1
    have:=(ih b oO oO oO).1
    omega
   |power y k=>
    obtain⟨h1,h2,h3⟩:=hk
    rw[kM hw hr oO]
    have:=(ih y oO oO oO).1
    obtain⟨m,rfl⟩:∃m,k=m+2:=⟨k-2,oO⟩
    simp only[dz,ko,aa]
    omega
  exact⟨oO,fun _=>key⟩
def qNs {L:List Rl}(hw:Wf L){k:Nat}:∀(B:List Nat),(∀y∈B,1<=y/\y<=L.length)->(∀i y z,B[i]?=some y->B[i+1]?=some z->¬(Bt L y<=(k:Nat)/\Bt L z<=(k:Nat)))->
  3*B.length<=2*(fH L k B).length+1/\((∀y,B.head?=some y->(k:Int)<Bt L y)->3*B.length<=2*(fH L k B).length)
 |[],_,_=>by simp[fH]
 |y::B,hm,ha=>by
  obtain⟨i1,i2⟩:=qNs hw B (fun z hz=>hm z (by simp[hz])) (fun i u v h1 h2=>ha (i+1) u v (by simpa using h1) (by simpa using h2));have hy:=hm y BF;obtain⟨p1,p2⟩:=vO hw (l:=k) y hy.1 hy.2;have e:(fH L k (y::B)).length=(CF L k y).length+(fH L k B).length:=by simp[fH]
  rw[e,az];by_cases hl:(k:Int)<Bt L y
  ·have:=p2 hl;exact⟨oO,fun _=>by omega⟩
  have h2:=i2 (fun z hz=>by
   have:=ha 0 y z rfl (by cases B with |nil=>simp at hz|cons c B=>simpa using hz);omega)
  exact⟨oO,fun hh=>absurd (hh y O) hl⟩
def Rz {L}(hw:Wf L){k B}(hi:EZ L (k+249) B):3*B.length<=2*(fH L k B).length+1:=by
 refine(qNs hw B (fun y hy=>⟨(hi.ok y hy).1,(hi.ok y hy).2.1⟩) (fun i y z h1 h2 h3=>?_)).1;by_cases e:y=z
 ·subst e;have:=(hi.same i y h1 h2).2;omega
 have h4:=hi.diff i y z h1 h2 e;have h5:=JM (low:=max (Bt L y).toNat (Bt L z).toNat) (kG hw y) (kG hw z);unfold Hm at h4;omega
def SE:Nat->Nat->Nat
 |0,n=>n
 |j+1,n=>(2*SE j n+1)/3
def Xy {a b}(h:a<=b):∀j,SE j a<=SE j b
 |0=>h
 |j+1=>by have:=Xy h j;simp only[SE];omega
def zBa:SE 103 dC=1:=by decide +kernel
def WX {L}(hw:Wf L){lv ids}(hi:EZ L lv ids)(hk:∀k,1<=k->k<lv->EZ L k (fH L (k-1) ids)):∀j,248*j<lv->(fH L (248*j) ids).length<=SE j (fH L 0 ids).length
 |0,_=>ai _
 |j+1,h=>by
  have ih:=WX hw hi hk j oO;have hA:∀x∈ids,x<=L.length:=fun x hx=>(hi.ok x hx).2.1
  have i2:EZ L (248*j+249) (fH L (248*(j+1)) ids):=by
   rcases fw (248*j+249) lv with hB|hge
   ·have:=hk (248*j+249) oO hB;rwa [show 248*j+249-1=248*(j+1) by omega]at this
   obtain rfl:lv=248*j+249:=by omega
   rw[pJ (ids:=ids) (fun x hx=>by have:=hi.ok x hx;omega)];exact hi
  have hs:=Rz hw i2;rw[wW hw oO hA]at hs;simp only[SE];omega
def Ej.length {L ids bs}(h:Ej L ids bs):ids.length=bs.length:=by
 induction h with
 |nil=>rfl
 |snoc _ _ ih=>simp[ih]
def EQ.lv_le {L}(hw:Wf L){bs}(hb:bs.length<=dC){lv ids}(h:EQ L bs lv ids)(h2:2<=ids.length):lv<=25544:=by
 obtain⟨hi,hl,hk⟩:=h.rows hw;apply Classical.byContradiction;intro hA;have h1:=WX hw hi (fun k a b=>(hk k a b).1) 103 oO;have h3:=Xy (a:=(fH L 0 ids).length) (b:=dC) (by rw[hl.length];exact hb) 103;rw[zBa]at h3
 have h4:(fH L (248*103) ids).length≥ids.length:=by
  clear h1 h3
  have:∀(B:List Nat),(∀y∈B,1<=y/\y<=L.length)->B.length<=(fH L (248*103) B).length:=by
   intro B;induction B with
   |nil=>intro _;simp
   |cons y B ih=>
    intro hm
    have:=ih (fun z hz=>hm z (by simp[hz]))
    have:=(vO hw (l:=248*103) y (hm y BF).1 (hm y BF).2).1
    have e:(fH L (248*103) (y::B)).length=(CF L (248*103) y).length+(fH L (248*103) B).length:=by simp[fH]
    rw[e,az]
    omega
  exact this ids (fun y hy=>⟨(hi.ok y hy).1,(hi.ok y hy).2.1⟩)
 omega
def De.lv_le {L:List Rl}(hw:Wf L){x:Nat}(h:De L x){bs:List UInt8}(hl:Ej L (CF L 0 x) bs)(hb:bs.length<=dC):Bt L x<=25544:=by
 apply Classical.byContradiction;intro hA;have hI:EZ L 25545 (CF L 25544 x):=h.inv 25545 oO
 have h1:=WX (ids:=CF L 25544 x) hw hI (fun k a b=>by
  have:=vP hw (l:=k-1) (m:=25544) oO x h.le;rw[this];exact h.inv k a) 103 oO
 rw[vP hw oO x h.le,vP hw oO x h.le]at h1;have h3:=Xy (a:=(CF L 0 x).length) (b:=dC) (by rw[hl.length];exact hb) 103;rw[zBa]at h3;have:=(vO hw (l:=248*103) x h.pos h.le).2 oO;omega
end
section
structure Fm where
 id:Nat
 hv:Nat
def gD:Rl->Nat
 | .power _ k=>k
 |_=>2
def Bf (L:List Rl)(x:Nat):Rl:=(L[x-1]?).getD (.letter 0)
def Cy (bh:Bool)(a b:List Nat):List Nat:=if bh then a++b else b++a
def nW (bh:Bool)(a b c:List Nat):Cy bh (Cy bh a b) c=Cy bh a (Cy bh b c):=by cases bh<;>simp[Cy]
def qVp (bh:Bool)(a:List Nat):Cy bh a []=a:=by cases bh<;>simp[Cy]
def Tn (bh:Bool)(a:List Nat):Cy bh [] a=a:=by cases bh<;>simp[Cy]
def qXz (L:List Rl)(l:Nat)(bh:Bool)(a b:List Nat):fH L l (Cy bh a b)=Cy bh (fH L l a) (fH L l b):=by cases bh<;>simp[Cy,gV]
def jA (bh:Bool)(hv:Nat):Rl->Nat
 | .pair a b=>if(hv=2/\bh=false)\/(hv=1/\bh=true)then b else a
 | .power y _=>y
 | .letter _=>0
def rY (bh:Bool)(hv:Nat):Rl->List Nat
 | .pair a b=>if hv=2 then[if bh then b else a]else[]
 | .power y _=>List.replicate (hv-1) y
 | .letter _=>[]
def Hq (bh:Bool)(hv:Nat):Rl->List Nat
 | .pair a b=>if hv=2 then[]else[if bh then a else b]
 | .power y k=>List.replicate (k-hv) y
 | .letter _=>[]
def nP (L:List Rl)(bh:Bool)(l:Nat)(fs:List Fm):List Nat:=fs.foldl (fun acc f=>Cy bh (fH L l (rY bh f.hv (Bf L f.id))) acc) []
def IK (L:List Rl)(bh:Bool)(l:Nat)(fs:List Fm):List Nat:=fs.foldl (fun acc f=>Cy bh acc (fH L l (Hq bh f.hv (Bf L f.id)))) []
def iQ (L:List Rl)(bh:Bool)(l:Nat)(fs:List Fm)(f:Fm):nP L bh l (fs++[f])=Cy bh (fH L l (rY bh f.hv (Bf L f.id))) (nP L bh l fs):=by simp[nP,uy]
def qXk (L:List Rl)(bh:Bool)(l:Nat)(fs:List Fm)(f:Fm):IK L bh l (fs++[f])=Cy bh (IK L bh l fs) (fH L l (Hq bh f.hv (Bf L f.id))):=by simp[IK,uy]
inductive Lk (L:List Rl)(bh:Bool)(root:Nat):Nat->List Fm->Prop where
 |nil:Lk L bh root root []
 |snoc {x hv:Nat} {fs:List Fm} {r:Rl}:Lk L bh root x fs->1<=x->L[x-1]?=some r->(∀b,r≠ .letter b)->1<=hv->hv<=gD r->Lk L bh root (jA bh hv r) (fs++[⟨x,hv⟩])
def iV {L x r}(h:L[x-1]?=some r):Bf L x=r:=by simp[Bf,h]
def nH {a b:List Fm}{f g:Fm}(h:a++[f]=b++[g]):a=b/\f=g:=by
 have:=yo h rfl;simpa using this
def Lk.inv {L:List Rl}{bh:Bool}{root x:Nat}{fs:List Fm}{f:Fm}(h:Lk L bh root x (fs++[f])):∃r,Lk L bh root f.id fs/\1<=f.id/\L[f.id-1]?=some r/\(∀b,r≠ .letter b)/\1<=f.hv/\f.hv<=gD r/\x=jA bh f.hv r:=by
 generalize e:fs++[f]=gs at h;cases h with
 |nil=>simp at e
 |snoc h1 h2 h3 h4 h5 h6=>
  obtain⟨rfl,rfl⟩:=nH e
  exact⟨_,h1,h2,h3,h4,h5,h6,O⟩
def yK {L:List Rl}(hw:Wf L){bh:Bool}{x hv l:Nat}{r:Rl}(h1:1<=x)(hr:L[x-1]?=some r)(hn:∀b,r≠ .letter b) (h2:1<=hv) (h3:hv<=gD r) (hl:(l:Int)<Bt L x):
  CF L l x=Cy bh (fH L l (Hq bh hv r)) (Cy bh (CF L l (jA bh hv r)) (fH L l (rY bh hv r))):=by
 obtain⟨x,rfl⟩:∃y,x=y+1:=⟨x-1,oO⟩;rw[fu]at hr;cases r with
 |letter b=>exact absurd rfl (hn b)
 |pair a b=>
  rw[lM hw hr hl]
  simp only[gD]at h3
  rcases(show hv=1\/hv=2 by omega)with rfl|rfl<;>cases bh<;>simp[Hq,jA,rY,Cy,iR,qN]
 |power y k=>
  rw[kM hw hr hl]
  simp only[gD]at h3
  have e:∀m,fH L l (List.replicate m y)=(List.replicate m (CF L l y)).flatten:=fun m=>by
   induction m with
   |zero=>rfl
   |succ m ih=>
    rw[dz,dz,ko,<-ih]
    simp[fH]
  have e2:∀a b c:Nat,a+1+b=c->(List.replicate a (CF L l y)).flatten++(CF L l y++(List.replicate b (CF L l y)).flatten)=(List.replicate c (CF L l y)).flatten:=fun a b c h=>by
   subst h;rw[qa,<-oQ,tu,Aw 1 b,dz,ko]
  have e3:∀a b c:Nat,a+1+b=c->((List.replicate a (CF L l y)).flatten++CF L l y)++(List.replicate b (CF L l y)).flatten=(List.replicate c (CF L l y)).flatten:=fun a b c h=>by
   rw[ah];exact e2 a b c h
  simp only[Hq,jA,rY,e]
  cases bh
  ·simp only[Cy,ou,if_false]
   exact(e3 (hv-1) (k-hv) k oO).symm
  simp only[Cy,if_true]
  exact(e2 (k-hv) (hv-1) k oO).symm
def Lk.full {L:List Rl}(hw:Wf L){bh:Bool}{root x l:Nat}{fs:List Fm}(h:Lk L bh root x fs)(hl:∀f∈fs,(l:Int)<Bt L f.id):CF L l root=Cy bh (IK L bh l fs) (Cy bh (CF L l x) (nP L bh l fs)):=by
 induction h with
 |nil=>simp[IK,nP,Tn,qVp]
 | @snoc x hv fs r h1 h2 h3 h4 h5 h6 ih=>
  rw[ih fun f hf=>hl f (by simp[hf]),yK hw (bh:=bh) h2 h3 h4 h5 h6 (hl ⟨x,hv⟩ BF),iQ,qXk,iV h3]
  simp only[nW]
def Xa {L:List Rl}(hw:Wf L){bh:Bool}{x hv:Nat}{r:Rl}(h1:1<=x)(hr:L[x-1]?=some r)(hn:∀b,r≠ .letter b) (hl:0<=Bt L x):1<=jA bh hv r/\jA bh hv r<x/\0<=Bt L (jA bh hv r)/\Bt L (jA bh hv r)<Bt L x:=by
 obtain⟨x,rfl⟩:∃y,x=y+1:=⟨x-1,oO⟩;rw[fu]at hr;have hk:=hw.ok x r hr;cases r with
 |letter b=>exact absurd rfl (hn b)
 |pair a b=>
  have hp:=(nM hr hk).2
  obtain⟨g1,g2,g3,g4⟩:=hk
  rw[hp]at hl ⊢
  split at hl
  ·rename_i hc
   have:=xQ (low:=max (Bt L a).toNat (Bt L b).toNat) (kG hw a) (kG hw b)
   rw[if_pos hc]
   by_cases hA:(hv=2/\bh=false)\/(hv=1/\bh=true)
   ·have e:jA bh hv (.pair a b)=b:=if_pos hA
    rw[e]
    exact⟨oO,oO,oO,oO⟩
   have e:jA bh hv (.pair a b)=a:=if_neg hA
   rw[e]
   exact⟨oO,oO,oO,oO⟩
  omega
 |power y k=>
  have hp:=(nA hr hk).2
  obtain⟨g1,g2,g3⟩:=hk
  rw[hp]at hl ⊢
  split at hl
  ·rename_i hc
   rw[if_pos hc]
   simp only[jA]
   omega
  omega
def Lk.ok {L:List Rl}(hw:Wf L){bh:Bool}{root x:Nat}{fs:List Fm}(hs:De L root)(h:Lk L bh root x fs):1<=x/\x<=L.length/\0<=Bt L x/\∀f∈fs,1<=f.id/\f.id<=L.length/\Bt L x<Bt L f.id:=by
 induction h with
 |nil=>exact⟨hs.pos,hs.le,hs.lv,by simp⟩
 | @snoc x hv fs r h1 h2 h3 h4 h5 h6 ih=>
  obtain⟨i1,i2,i3,i4⟩:=ih
  obtain⟨c1,c2,c3,c4⟩:=Xa (bh:=bh) (hv:=hv) hw h2 h3 h4 i3
  refine⟨c1,oO,c3,fun f hf=>?_⟩
  rcases ay.1 hf with hf|hf
  ·have:=i4 f hf;exact⟨this.1,this.2.1,oO⟩
  obtain rfl:=bg.1 hf;exact⟨i1,i2,c4⟩
def BX (L:List Rl)(bh:Bool)(l x:Nat)(fs:List Fm):List Nat:=Cy bh (CF L l x) (nP L bh l fs)
structure EO (L:List Rl)(bh:Bool)(l root x:Nat)(fs:List Fm):Prop where
 lk:(x=0/\fs=[])\/(1<=x/\Lk L bh root x fs/\Bt L x<=(l:Nat))
 hi:∀f∈fs,(l:Int)<Bt L f.id
def kJ (L:List Rl)(bh:Bool)(l:Nat):BX L bh l 0 []=[]:=by simp[BX,nP,qVp,qMe]
def EO.low {L:List Rl}{bh:Bool}{l root x:Nat}{fs:List Fm}(h:EO L bh l root x fs)(hx:x≠0):1<=x/\Lk L bh root x fs/\Bt L x<=(l:Nat)/\CF L l x=[x]:=by
 rcases h.lk with⟨h0,_⟩|⟨h1,h2,h3⟩
 ·exact absurd h0 hx
 exact⟨h1,h2,h3,kD h1 h3⟩
inductive Dn (L:List Rl)(bh:Bool)(l:Nat)(x:Nat)(fs:List Fm):Nat->List Fm->Prop where
 |refl:Dn L bh l x fs x fs
 |step {y:Nat} {gs:List Fm} {r:Rl}:Dn L bh l x fs y gs->(l:Int)<Bt L y->L[y-1]?=some r->Dn L bh l x fs (jA bh (gD r) r) (gs++[⟨y,gD r⟩])
def XW {L:List Rl}(hw:Wf L){x:Nat}{r:Rl}(hr:L[x]?=some r):2<=gD r:=by
 have:=hw.ok x r hr;cases r with
 |letter b=>exact ai _
 |pair a b=>exact ai _
 |power y k=>exact this.2.2
def qHe {L:List Rl}{x:Nat}{r:Rl}(h1:1<=x)(hr:L[x-1]?=some r)(h:0<Bt L x):∀b,r≠ .letter b:=by
 rintro b rfl;obtain⟨x,rfl⟩:∃y,x=y+1:=⟨x-1,oO⟩;rw[fu]at hr;have:=(jL hr).2;omega
def qLz (bh:Bool)(r:Rl):Hq bh (gD r) r=[]:=by
 cases r<;>simp[Hq,gD]
def Dn.ok {L:List Rl}(hw:Wf L){bh:Bool}{l root x y:Nat}{fs gs:List Fm}(hs:De L root)(h:Dn L bh l x fs y gs)(hl:Lk L bh root x fs)(hh:∀f∈fs,(l:Int)<Bt L f.id):
  Lk L bh root y gs/\(∀f∈gs,(l:Int)<Bt L f.id)/\BX L bh l x fs=BX L bh l y gs/\∃ws,gs=fs++ws/\∀f∈ws,f.hv=gD (Bf L f.id):=by
 induction h with
 |refl=>exact⟨hl,hh,rfl,[],by simp,by simp⟩
 | @step y gs r h1 h2 h3 ih=>
  obtain⟨i1,i2,i3,ws,i4,i5⟩:=ih
  have o:=i1.ok hw hs
  have hn:=qHe o.1 h3 oO
  refine⟨.snoc i1 o.1 h3 hn (by have:=XW hw h3;omega) (ai _),fun f hf=>?_,?_,ws++[⟨y,gD r⟩],by rw[i4,ah],fun f hf=>?_⟩
  ·rcases ay.1 hf with hf|hf
   ·exact i2 f hf
   obtain rfl:=bg.1 hf;exact h2
  ·rw[i3]
   unfold BX
   rw[yK hw (bh:=bh) (hv:=gD r) o.1 h3 hn (by have:=XW hw h3;omega) (ai _) h2,iQ,iV h3,qLz,qN,Tn,nW]
  rcases ay.1 hf with hf|hf
  ·exact i5 f hf
  obtain rfl:=bg.1 hf
  simp only
  rw[iV h3]
inductive Dp (L:List Rl)(bh:Bool)(l:Nat):Nat->List Fm->Nat->List Fm->Prop where
 |nil {t:Nat}:Dp L bh l t [] 0 []
 |last {t x:Nat} {fs gs:List Fm} {f:Fm}:t<f.hv->Dn L bh l (jA bh (f.hv-t) (Bf L f.id)) (fs++[⟨f.id,f.hv-t⟩]) x gs->Bt L x<=(l:Nat)->Dp L bh l t (fs++[f]) x gs
 |pop {t x:Nat} {fs gs:List Fm} {f:Fm}:f.hv<=t->Dp L bh l 1 fs x gs->Dp L bh l t (fs++[f]) x gs
def NE (L:List Rl)(t:Nat)(fs:List Fm):Prop:=1<=t/\(fs=[]->t=1)/\∀gs f,fs=gs++[f]->t<=f.hv/\(t=1\/∃y k,Bf L f.id= .power y k)
def BB (L:List Rl)(lv:Nat)(fs:List Fm):Prop:=∀f∈fs,Bt L f.id=(lv:Nat)->f.hv=gD (Bf L f.id)
def qUv {L}(l:Nat){bh r t hv}(h1:1<=t)(h2:t<hv)(h3:hv<=gD r)(hp:t=1\/∃y k,r= .power y k) (hn:∀b,r≠ .letter b):
  fH L l (rY bh hv r)=Cy bh (fH L l (List.replicate (t-1) (jA bh hv r))) (Cy bh (CF L l (jA bh (hv-t) r)) (fH L l (rY bh (hv-t) r))):=by
 cases r with
 |letter b=>exact absurd rfl (hn b)
 |pair a b=>
  simp only[gD]at h3
  obtain rfl:t=1:=by rcases hp with h|⟨y,k,h⟩;exact h;cases h
  obtain rfl:hv=2:=by omega
  cases bh<;>simp[rY,jA,Cy,iR,qN]
 |power y k=>
  simp only[rY,jA]
  have e:List.replicate (hv-1) y=List.replicate (t-1) y++([y]++List.replicate (hv-t-1) y):=by
   rw[show[y]=List.replicate 1 y from rfl,oQ,oQ];congr 1;omega
  have e':List.replicate (hv-1) y=(List.replicate (hv-t-1) y++[y])++List.replicate (t-1) y:=by
   rw[show[y]=List.replicate 1 y from rfl,oQ,oQ];congr 1;omega
  cases bh
  ·rw[e'];simp only[Cy,ou,if_false,gV,iR]
  rw[e];simp only[Cy,if_true,gV,iR]
def Dp.rest {L:List Rl}(hw:Wf L){bh:Bool}{l root t x':Nat}{fs gs:List Fm}(hs:De L root)(h:Dp L bh l t fs x' gs):∀{x:Nat},Lk L bh root x fs->(∀f∈fs,(l:Int)<Bt L f.id)->NE L t fs->(∀f g,fs=g++[f]->Bt L f.id=((l+1:Nat):Int)->t=f.hv)->
  EO L bh l root x' gs/\BB L (l+1) gs/\nP L bh l fs=Cy bh (fH L l (List.replicate (t-1) x)) (BX L bh l x' gs):=by
 induction h with
 |nil=>
  intro x hl hh hd hb
  obtain rfl:=hd.2.1 rfl
  refine⟨⟨.inl ⟨O,O⟩,by simp⟩,by simp[BB],?_⟩
  rw[kJ];simp[nP,fH,Cy]
 | @last t x' fs gs f h1 h2 h3=>
  intro x hl hh hd hb
  obtain⟨r,l1,l2,l3,l4,l5,l6,rfl⟩:=hl.inv
  obtain⟨d1,_,d2⟩:=hd
  obtain⟨d3,d4⟩:=d2 fs f rfl
  rw[iV l3]at h2 d4
  have hC:Lk L bh root (jA bh (f.hv-t) r) (fs++[⟨f.id,f.hv-t⟩]):= .snoc l1 l2 l3 l4 oO oO
  have hD:∀g∈fs++[⟨f.id,f.hv-t⟩],(l:Int)<Bt L g.id:=fun g hg=>by
   rcases ay.1 hg with hg|hg
   ·exact hh g (by simp[hg])
   obtain rfl:=bg.1 hg;exact hh f BF
  obtain⟨o1,o2,o3,ws,o4,o5⟩:=h2.ok hw hs hC hD
  have ok:=o1.ok hw hs
  refine⟨⟨.inr ⟨ok.1,o1,h3⟩,o2⟩,fun g hg hA=>?_,?_⟩
  ·rw[o4]at hg
   rcases ay.1 hg with hg|hg
   ·have hB:Bt L f.id=((l+1:Nat):Int)->False:=fun e=>by have:=hb f fs rfl e;omega
    rcases ay.1 hg with hg|hg
    ·have:=(l1.ok hw hs).2.2.2 g hg
     have:=hh f BF
     omega
    obtain rfl:=bg.1 hg;exact absurd hA (fun e=>hB e)
   exact o5 g hg
  rw[iQ,iV l3,qUv (L:=L) l d1 h1 l6 d4 l4,nW,<-o3]
  unfold BX
  rw[iQ]
  simp only
  rw[iV l3,nW]
 | @pop t x' fs gs f h1 h2 ih=>
  intro x hl hh hd hb
  obtain⟨r,l1,l2,l3,l4,l5,l6,rfl⟩:=hl.inv
  obtain⟨d1,_,d2⟩:=hd
  obtain⟨d3,d4⟩:=d2 fs f rfl
  rw[iV l3]at d4
  obtain rfl:t=f.hv:=by omega
  have ok:=l1.ok hw hs
  have hB:=hh f BF
  obtain⟨i1,i2,i3⟩:=ih l1 (fun g hg=>hh g (by simp[hg])) ⟨ai _,fun _=>rfl,fun g2 f2 e=>⟨by subst e;obtain⟨_,_,_,_,_,q,_,_⟩:=l1.inv;exact q,.inl rfl⟩⟩ (fun f2 g2 e hA=>by
   subst e;have:=ok.2.2.2 f2 BF;omega)
  refine⟨i1,i2,?_⟩
  rw[iQ,iV l3,i3]
  congr 1
  ·cases r with
   |letter b=>exact absurd rfl (l4 b)
   |pair a b=>
    have e:f.hv=1:=by rcases d4 with h|⟨y,k,h⟩;exact h;cases h
    rw[e];simp[rY,fH]
   |power y k=>rfl
  simp[fH,Tn]
def Dp.ok {L:List Rl}(hw:Wf L){bh:Bool}{l root t x x':Nat}{fs gs:List Fm}(hs:De L root)(h:Dp L bh l t fs x' gs)(he:EO L bh l root x fs)(hx:x≠0)(hd:NE L t fs)(hb:∀f g,fs=g++[f]->Bt L f.id=((l+1:Nat):Int)->t=f.hv):
  EO L bh l root x' gs/\BB L (l+1) gs/\BX L bh l x fs=Cy bh (List.replicate t x) (BX L bh l x' gs):=by
 obtain⟨h1,h2,h3,h4⟩:=he.low hx;obtain⟨r1,r2,r3⟩:=h.rest hw hs h2 he.hi hd hb;refine⟨r1,r2,?_⟩
 have e:fH L l (List.replicate (t-1) x)=List.replicate (t-1) x:=pJ fun y hy=>by
  rw[ql]at hy;rw[hy.2];exact⟨h1,h3⟩
 obtain⟨m,rfl⟩:∃m,t=m+1:=⟨t-1,by have:=hd.1;omega⟩;conv=>lhs;unfold BX
 rw[h4,r3,e,<-nW];congr 1;rw[fu];cases bh
 ·simp[Cy,oG]
 simp[Cy,dz]
def Fq (L:List Rl)(lv x:Nat)(fs:List Fm):Nat×List Fm:=match fs.getLast? with
 |some f=>if Bt L f.id=(lv:Nat)/\gD (Bf L f.id)<=f.hv then(f.id,fs.dropLast)else(x,fs)
 |none=>(x,fs)
def zBj (L:List Rl)(lv x:Nat):Fq L lv x []=(x,[]):=rfl
def mQ (L:List Rl)(lv x:Nat)(fs:List Fm)(f:Fm):Fq L lv x (fs++[f])=if Bt L f.id=(lv:Nat)/\gD (Bf L f.id)<=f.hv then(f.id,fs)else(x,fs++[f]):=by simp[Fq]
def qPx {L}(hw:Wf L){bh l m root x fs}(hA:l<=m)(hs:De L root)(h:Lk L bh root x fs):fH L l (nP L bh m fs)=nP L bh l fs:=by
 induction h with
 |nil=>rfl
 | @snoc x hv fs r h1 h2 h3 h4 h5 h6 ih=>
  rw[iQ,iQ,qXz,ih,iV h3]
  congr 1
  refine wW hw hA fun y hy=>?_
  have hx:=(h1.ok hw hs).2.1
  have hk:=hw.ok _ r h3
  cases r with
  |letter b=>simp[rY]at hy
  |pair a b=>
   obtain⟨g1,g2,g3,g4⟩:=hk
   simp only[rY]at hy
   split at hy
   ·have:=bg.1 hy
    split at this<;>omega
   simp at hy
  |power z k=>
   obtain⟨g1,g2,g3⟩:=hk
   have:=(ql.1 hy).2
   omega
def block {L:List Rl}(hw:Wf L){bh:Bool}{l root z:Nat}{gs:List Fm}(hs:De L root)(h:Lk L bh root z gs)(hz:Bt L z<=((l+1:Nat):Int))(hg:∀f∈gs,((l+1:Nat):Int)<Bt L f.id):
  Sq L (l+1) (nP L bh l gs) (nP L bh (l+1) gs)/\Sq L (l+1) (BX L bh l z gs) (BX L bh (l+1) z gs)/\(bh=false->IE L (l+1) (nP L bh l gs) (nP L bh (l+1) gs) (CF L l z))/\(bh=true->IE L (l+1) (CF L l z) [z] (nP L bh l gs)):=by
 have hf:=h.full hw (l:=l+1) hg;have ok:=h.ok hw hs;have ez:CF L (l+1) z=[z]:=kD ok.1 hz;have hB:=hs.step (l+1) oO;have hA:=hs.inv (l+1) oO;rw[fu]at hB hA;have et:=qPx (l:=l) (m:=l+1) hw oO hs h;have ne:1<=(CF L l z).length:=(vO hw z ok.1 ok.2.1).1;rw[hf]at hB;unfold BX;rw[ez]at hB ⊢;cases bh with
 |false=>
  simp only[Cy,ou,if_false]at hB ⊢
  obtain⟨P,C,e1,s1,s2,b1⟩:=hB.split hw
  rw[e1]at hA
  have d1:=s1.down hA.left oO
  rw[fu,gV,et,iR]at d1
  subst d1
  obtain⟨T,B,e2,s3,s4,b2⟩:=s1.split hw
  rw[e2]at hA
  have d2:=s3.down hA.left.left oO
  rw[fu,et]at d2
  subst d2
  have e3:B=CF L l z:=(List.append_cancel_left e2).symm
  subst e3
  exact⟨s3,s1,fun _=>b2,fun h=>by cases h⟩
 |true=>
  simp only[Cy,if_true]at hB ⊢
  obtain⟨C,P,e1,s1,s2,b1⟩:=hB.split hw
  rw[e1]at hA
  have d1:=s2.down hA.right oO
  rw[fu,gV,et,iR]at d1
  subst d1
  obtain⟨B,T,e2,s3,s4,b2⟩:=s2.split hw
  rw[e2]at hA
  have d2:=s4.down hA.right.right oO
  rw[fu,et]at d2
  subst d2
  have e3:B=CF L l z:=(List.append_cancel_right e2).symm
  subst e3
  exact⟨s4,s2,fun h=>(by cases h),fun _=>b2⟩
def EO.up {L}(hw:Wf L){bh l root x fs}(hs:De L root)(he:EO L bh l root x fs)(hb:BB L (l+1) fs):
  EO L bh (l+1) root (Fq L (l+1) x fs).1 (Fq L (l+1) x fs).2/\Sq L (l+1) (BX L bh l x fs) (BX L bh (l+1) (Fq L (l+1) x fs).1 (Fq L (l+1) x fs).2):=by
 by_cases hx:x=0
 ·rcases he.lk with⟨rfl,rfl⟩|⟨h1,_⟩
  ·rw[zBj];simp only;rw[kJ,kJ];exact⟨⟨.inl ⟨O,O⟩,by simp⟩,.nil _ _⟩
  omega
 obtain⟨h1,h2,h3,h4⟩:=he.low hx
 have key:∀z gs,Lk L bh root z gs->Bt L z<=((l+1:Nat):Int)->(∀f∈gs,((l+1:Nat):Int)<Bt L f.id)->BX L bh l x fs=BX L bh l z gs->EO L bh (l+1) root z gs/\Sq L (l+1) (BX L bh l x fs) (BX L bh (l+1) z gs):=fun z gs k1 k2 k3 k4=>by
  rw[k4];exact⟨⟨.inr ⟨(k1.ok hw hs).1,k1,k2⟩,k3⟩,(block hw hs k1 k2 k3).2.1⟩
 rcases bq fs with rfl|⟨gs,f,rfl⟩
 ·rw[zBj];exact key x [] h2 oO BF O
 rw[bu]at*;rw[mQ];obtain⟨r,l1,l2,l3,l4,l5,l6,e⟩:=h2.inv;have okf:=l1.ok hw hs;by_cases hA:Bt L f.id=((l+1:Nat):Int)
 ·have hh:=hb f BF hA;rw[if_pos ⟨hA,oO⟩];refine key f.id gs l1 oO (fun g hg=>by have:=okf.2.2.2 g hg;omega) ?_;unfold BX;rw[iV l3]at hh;rw[iQ,iV l3,<-nW,yK hw (bh:=bh) l2 l3 l4 l5 l6 oO,<-e,hh,qLz,qN,Tn]
 rw[if_neg (fun h=>hA h.1)];have hB:=he.hi f BF;refine key x (gs++[f]) h2 oO (fun g hg=>?_) O;rcases ay.1 hg with hg|hg
 ·have:=okf.2.2.2 g hg;omega
 obtain rfl:=bg.1 hg;omega
end
section
def wC {L:List Rl}(hw:Wf L){x a b:Nat}(h1:1<=x)(hr:L[x-1]?=some (.pair a b))(hl:0<=Bt L x):Bt L x%2=0/\a≠b/\Bt L a<Bt L x/\Bt L b<Bt L x/\∀lv:Nat,Bt L x=(lv:Nat)->fB (Cu lv) (key L a) (key L b):=by
 obtain⟨x,rfl⟩:∃y,x=y+1:=⟨x-1,oO⟩;rw[fu]at hr;have hp:=(nM hr (hw.ok _ _ hr)).2;rw[hp]at hl ⊢;split at hl
 ·rename_i hc
  rw[if_pos hc];have h2:=Zv (max (Bt L a).toNat (Bt L b).toNat) (key L a) (key L b);have h3:=xQ (low:=max (Bt L a).toNat (Bt L b).toNat) (kG hw a) (kG hw b);refine⟨oO,hc.1,oO,oO,fun lv e=>?_⟩;have e':after (max (Bt L a).toNat (Bt L b).toNat) (key L a) (key L b)=lv:=oO;rw[<-e'];exact(vI (kG hw a) (kG hw b)).1
 omega
def qMt {L:List Rl}(hw:Wf L){x y k:Nat}(h1:1<=x)(hr:L[x-1]?=some (.power y k))(hl:0<=Bt L x):Bt L x%2=1/\Bt L x=Bt L y+1:=by
 obtain⟨x,rfl⟩:∃y,x=y+1:=⟨x-1,oO⟩;rw[fu]at hr;have hp:=(nA hr (hw.ok _ _ hr)).2;rw[hp]at hl ⊢;split at hl
 ·rename_i hc
  rw[if_pos hc];omega
 omega
def ND {L:List Rl}(hw:Wf L){bh:Bool}{root x lv:Nat}{fs:List Fm}(hs:De L root)(h:Lk L bh root x fs)(hh:∀f∈fs,(lv:Int)<=Bt L f.id) (hb:∀f g,fs=g++[f]->Bt L f.id=(lv:Nat)->f.hv=gD (Bf L f.id)):BB L lv fs:=by
 intro f hf hA;rcases bq fs with rfl|⟨gs,g,rfl⟩
 ·simp at hf
 rw[bu]at*;rcases ay.1 hf with hf|hf
 ·obtain⟨r,l1,_⟩:=h.inv;have:=(l1.ok hw hs).2.2.2 f hf;have:=hh g BF;omega
 obtain rfl:=bg.1 hf;exact hb f gs O hA
def qSu {bh a b c}(h:Cy bh a b=Cy bh a c):b=c:=by
 cases bh
 ·simpa[Cy]using h
 simpa[Cy]using h
def IV (L:List Rl)(lv:Nat)(fs:List Fm):Option Fm->Prop
 |none=>∀f g,fs=g++[f]->Bt L f.id≠(lv:Nat)
 |some f=>(∃g,fs=g++[f])/\Bt L f.id=(lv:Nat)
def many (L:List Rl):Option Fm->Nat
 |none=>1
 |some f=>match Bf L f.id with | .power _ _=>f.hv|_=>1
def IV.none_hi {L:List Rl}(hw:Wf L){bh:Bool}{root x l:Nat}{fs:List Fm}(hs:De L root)(h:Lk L bh root x fs)(hp:IV L (l+1) fs none)(hh:∀f∈fs,(l:Int)<Bt L f.id):∀f∈fs,((l+1:Nat):Int)<Bt L f.id:=by
 intro f hf;have h1:=hh f hf;rcases bq fs with rfl|⟨gs,g,rfl⟩
 ·simp at hf
 rw[bu]at*;have h2:=hp g gs O;have h3:=hh g BF;rcases ay.1 hf with hf|hf
 ·obtain⟨r,l1,_⟩:=h.inv;have:=(l1.ok hw hs).2.2.2 f hf;omega
 obtain rfl:=bg.1 hf;omega
structure Vy (L:List Rl)(bh:Bool)(l root x t:Nat)(fs:List Fm)(o:Option Fm)(x':Nat)(gs:List Fm):Prop where
 eo:EO L bh l root x' gs
 bb:BB L (l+1) gs
 seq:BX L bh l x fs=Cy bh (List.replicate t x) (BX L bh l x' gs)
 left:bh=false->∀u,(BX L bh l x' gs).getLast?=some u->if(l+1)%2=1 then u≠x else((BX L bh (l+1) (Fq L (l+1) x' gs).1 (Fq L (l+1) x' gs).2).getLast?=some u->¬fB (Cu (l+1)) (key L u) (key L x))
 right:bh=true->(o=none\/(l+1)%2=1\/Cu (l+1)≠122)->∀v,(BX L bh l x' gs).head?=some v->if(l+1)%2=1 then x≠v else ¬fB (Cu (l+1)) (key L x) (key L v)
def qZf {c x y z}(hc:c≠122)(h:fB c x y):¬fB c y z:=by
 intro h';have h1:=(sW hc).1 h;have h2:=(sW hc).1 h';exact h1.2 h2.1
def Mx {L:List Rl}(hw:Wf L){bh:Bool}{l root x t x':Nat}{fs gs:List Fm}{o:Option Fm}(hs:De L root)(he:EO L bh l root x fs)(hx:x≠0)(ho:IV L (l+1) fs o)(ht:t=many L o)(hF:(l+1)%2=0->∀f,o=some f->f.hv=1) (hd:Dp L bh l t fs x' gs):Vy L bh l root x t fs o x' gs:=by
 obtain⟨h1,h2,h3,h4⟩:=he.low hx;-- the block
 have key:∃z gs0,Lk L bh root z gs0/\Bt L z<=((l+1:Nat):Int)/\(∀f∈gs0,((l+1:Nat):Int)<Bt L f.id)/\BX L bh l x fs=Cy bh (List.replicate t x) (nP L bh l gs0)/\NE L t fs/\(∀f g,fs=g++[f]->Bt L f.id=((l+1:Nat):Int)->t=f.hv)/\
   (bh=false->(CF L l z).head?=some x)/\(bh=true->(z=x\/(l+1)%2=1/\(CF L l z).getLast?=some x)\/((l+1)%2=0/\o≠none/\∃a,fB (Cu (l+1)) (Eg.key L a) (Eg.key L x))):=by
  cases o with
  |none=>
   obtain rfl:t=1:=ht
   refine⟨x,fs,h2,oO,ho.none_hi hw hs h2 he.hi,?_,⟨ai _,fun _=>O,fun g f e=>⟨by subst e;obtain⟨_,_,_,_,_,q,_,_⟩:=h2.inv;exact q,.inl rfl⟩⟩,fun f g e hl=>absurd hl (ho f g e),fun _=>by rw[h4];rfl,fun _=> .inl (.inl rfl)⟩
   unfold BX
   rw[h4];rfl
  |some f=>
   obtain⟨⟨g,rfl⟩,hG⟩:=ho
   obtain⟨r,l1,l2,l3,l4,l5,l6,ex⟩:=h2.inv
   have okf:=l1.ok hw hs
   have hD:∀f2∈g,((l+1:Nat):Int)<Bt L f2.id:=fun f2 hH=>by have:=okf.2.2.2 f2 hH;omega
   unfold many at ht
   simp only at ht
   rw[iV l3]at ht
   cases r with
   |letter b=>exact absurd rfl (l4 b)
   |pair a b=>
    simp only at ht
    subst ht
    have hp:=wC hw l2 l3 oO
    have hE:(l+1)%2=0:=oO
    have hC:=hF hE f O
    have exl:=yK hw (bh:=bh) (hv:=1) (l:=l) l2 l3 l4 oO (by simp[gD]) oO
    refine⟨f.id,g,l1,oO,hD,?_,⟨ai _,fun _=>O,fun g2 f2 e=>⟨by obtain⟨_,rfl⟩:=nH e;omega,.inl rfl⟩⟩,fun f2 g2 e _=>by obtain⟨_,rfl⟩:=nH e;omega,fun hA=>?_,fun hA=> .inr ⟨hE,by simp,a,?_⟩⟩
    ·unfold BX
     rw[h4,iQ,iV l3,hC]
     simp[rY,qN,Tn]
    ·subst hA
     rw[hC]at ex
     rw[exl,<-ex,h4]
     simp[Hq,rY,Cy,qN]
    subst hA
    rw[hC]at ex
    simp[jA]at ex
    subst ex
    exact hp.2.2.2.2 (l+1) hG
   |power y k=>
    simp only at ht
    subst ht
    have hp:=qMt hw l2 l3 oO
    simp only[jA]at ex
    subst ex
    simp only[gD]at l6
    have er:∀m,fH L l (List.replicate m x)=List.replicate m x:=fun m=>pJ fun y hy=>by rw[ql]at hy;rw[hy.2];exact⟨h1,h3⟩
    have l2':f.id=f.id-1+1:=oO
    have ef:CF L l f.id=List.replicate k x:=by
     rw[l2',kM hw l3 (by rw[<-l2'];omega),h4,tF]
    have hK:2<=k:=(hw.ok _ _ l3).2.2
    obtain⟨k',rfl⟩:∃k',k=k'+1:=⟨k-1,oO⟩
    refine⟨f.id,g,l1,oO,hD,?_,⟨l5,fun e=>by simp at e,fun g2 f2 e=>⟨by obtain⟨_,rfl⟩:=nH e;omega,.inr ?_⟩⟩,fun f2 g2 e _=>by obtain⟨_,rfl⟩:=nH e;rfl,fun hA=>?_,fun hA=> .inl (.inr ⟨oO,?_⟩)⟩
    ·unfold BX
     rw[h4,iQ,iV l3]
     simp only[rY]
     rw[er,<-nW]
     congr 1
     obtain⟨m,hm⟩:∃m,f.hv=m+1:=⟨f.hv-1,oO⟩
     rw[hm,fu]
     cases bh
     ·simp[Cy,oG]
     simp[Cy,dz]
    ·obtain⟨_,rfl⟩:=nH e
     exact⟨_,_,iV l3⟩
    ·rw[ef,dz];rfl
    rw[ef,oG];simp
 obtain⟨z,gs0,b1,b2,b3,b4,b5,b6,b7,b8⟩:=key;obtain⟨d1,d2,d3⟩:=hd.ok hw hs he hx b5 b6;have eT:BX L bh l x' gs=nP L bh l gs0:=qSu (d3.symm.trans b4);obtain⟨s1,s2,s3,s4⟩:=block hw hs b1 b2 b3
 have eT':BX L bh (l+1) (Fq L (l+1) x' gs).1 (Fq L (l+1) x' gs).2=nP L bh (l+1) gs0:=by
  have:=(d1.up hw hs d2).2;rw[eT]at this;exact this.fn hw s1
 refine⟨d1,d2,d3,fun hA u hu=>?_,fun hA hB v hv=>?_⟩
 ·rw[eT]at hu;rw[eT'];exact s3 hA u x hu (b7 hA)
 rw[eT]at hv;rcases b8 hA with(rfl|⟨hI,hl⟩)|⟨hL,hJ,a,hf⟩
 ·rw[h4]at s4;have:=s4 hA z v rfl hv;split
  ·rwa [if_pos (by assumption)]at this
  rw[if_neg (by assumption)]at this;exact this O
 ·have:=s4 hA x v hl hv;rw[if_pos hI]at this ⊢;exact this
 rw[if_neg oO];refine qZf ?_ hf;rcases hB with h|h| h
 ·exact absurd h hJ
 ·omega
 exact h
end
section
structure It where
 id:Nat
 next:Nat
 times:Nat
def Ed (it:It):List Nat:=(List.replicate it.times (if it.next=0 then[it.id]else[it.id,it.next])).flatten
def dU (its:List It):List Nat:=its.flatMap Ed
def qYf:dU []=[]:=rfl
def fQ (a b:List It):dU (a++b)=dU a++dU b:=by simp[dU]
def iP (a:It)(b:List It):dU (a::b)=Ed a++dU b:=by simp[dU]
def jJ (a:It):dU [a]=Ed a:=by simp[dU]
def Tk (x t:Nat):Ed ⟨x,0,t⟩=List.replicate t x:=by simp[Ed,tF]
def Ez (its:List It):Prop:=∀it∈its,it.next=0/\1<=it.times
def lN {it}(h:it.next=0):Ed it=List.replicate it.times it.id:=by
 obtain⟨x,n,t⟩:=it;simp only at h;subst h;exact Tk x t
def iC (list:List It)(x:It):List It:=match list.getLast? with
 |some y=>if y.id=x.id then list.dropLast++[⟨y.id,y.next,y.times+x.times⟩]else list++[x]
 |none=>list++[x]
def qW (x:It):iC [] x=[x]:=rfl
def lC (l:List It)(y x:It):iC (l++[y]) x=if y.id=x.id then l++[⟨y.id,y.next,y.times+x.times⟩]else l++[y]++[x]:=by simp[iC]
def gX {l x}(h:Ez l)(hx:x.next=0):dU (iC l x)=dU l++List.replicate x.times x.id:=by
 rcases bq l with rfl|⟨a,y,rfl⟩
 ·rw[qW,jJ,lN hx];rfl
 rw[bu]at*;have hy:=h y BF;rw[lC];split
 ·rename_i e
  rw[fQ,fQ,jJ,jJ,lN hy.1,lN (it:=⟨y.id,y.next,y.times+x.times⟩) hy.1,ah];simp only;rw[<-e,oQ]
 rw[fQ,jJ,lN hx]
def lW {l x}(h:Ez l)(hx:x.next=0/\1<=x.times):Ez (iC l x):=by
 rcases bq l with rfl|⟨a,y,rfl⟩
 ·rw[qW];intro it hit;simp at hit;subst hit;exact hx
 rw[bu]at*;have hy:=h y BF;rw[lC];split <;>intro it hit
 ·rcases ay.1 hit with hit|hit
  ·exact h it (by simp[hit])
  obtain rfl:=bg.1 hit;exact⟨hy.1,BD⟩
 rcases ay.1 hit with hit|hit
 ·exact h it hit
 obtain rfl:=bg.1 hit;exact hx
def qNg (l:List It)(x:It):(iC l x).length<=l.length+1/\1<=(iC l x).length:=by
 rcases bq l with rfl|⟨a,y,rfl⟩
 ·simp[qW]
 rw[bu,lC];split <;>simp
def GH (its:List It):List (Nat×Nat):=its.map fun it=>(it.id,it.times)
def KZ {its}(h:Ez its):Ch (GH its)=dU its:=by
 induction its with
 |nil=>rfl
 |cons a l ih=>
  have e:Ch (GH (a::l))=List.replicate a.times a.id++Ch (GH l):=rfl
  rw[e,ih (fun it hA=>h it (by simp[hA])),iP,lN (h a BF).1]
def qQn {rs g}(h:Fa rs)(hg:∀y t,rs.getLast?=some (y,t)->y≠g.1):Fa (rs++[g]):=by
 intro k x t y t' h1 h2;have hk:=(ae.1 h2).1;rw[aa,bf]at hk;rcases fw (k+1) rs.length with hA|hge
 ·rw[aj oO]at h1;rw[aj hA]at h2;exact h k x t y t' h1 h2
 have hr:k=rs.length-1:=oO;rw[aj oO]at h1;rw[bi hge,show k+1-rs.length=0 by omega]at h2;simp at h2;subst h2;refine hg x t ?_;rw[List.getLast?_eq_getElem?,<-hr];exact h1
def JK {a b}(h:Fa (a++b)):Fa a:=fun k x t y t' h1 h2=>
 h k x t y t' (by rw[aj (ae.1 h1).1];exact h1) (by rw[aj (ae.1 h2).1];exact h2)
def JJ {a y t t'}(h:Fa (a++[(y,t)])):Fa (a++[(y,t')]):=by
 refine qQn (JK h) fun x s hx=>?_
 rcases bq a with rfl|⟨b,z,rfl⟩
 ·simp at hx
 rw[bu]at*;simp at hx;subst hx;exact h b.length x s y t BF BF
def qZt {l x}(h:Fa (GH l)):Fa (GH (iC l x)):=by
 rcases bq l with rfl|⟨a,y,rfl⟩
 ·rw[qW];intro k x t y t' h1 h2;simp[GH]at h2
 rw[bu]at*;rw[lC];split
 ·simp only[GH,kv,kz,qg]at h ⊢;exact JJ h
 rename_i hne
 simp only[GH,kv,kz,qg]at h ⊢;refine qQn h fun z s hz=>?_
 simp at hz;rw[<-hz.1];exact hne
def FE (L:List Rl)(c:Nat)(done out:List Nat)(nxt:Option Nat):Prop:=Pg L c done out/\∀u v,done.getLast?=some u->out.getLast?=some u->nxt=some v->¬fB c (key L u) (key L v)
def FE.start (L:List Rl)(c:Nat)(nxt:Option Nat):FE L c [] [] nxt:=⟨.nil,fun u v e=>by simp at e⟩
def FE.single {L c x done out nxt}(h:FE L c done out (some x))(hn:∀v,nxt=some v->¬fB c (key L x) (key L v)):FE L c (done++[x]) (out++[x]) nxt:=by
 refine⟨h.1.join (.one BF .nil) fun u v e1 e2 e3=>?_,fun u v e1 e2 e3=>?_⟩
 ·simp at e3;subst e3;exact h.2 u x e1 e2 rfl
 simp at e1;subst e1;exact hn v e3
def FE.pair {L}(hw:Wf L){c x y j done out nxt}(h:FE L c done out (some x))(hf:fB c (key L x) (key L y))(hj:L[j]?=some (.pair x y)):FE L c (done++[x,y]) (out++[j+1]) nxt:=by
 refine⟨h.1.join (.two hf hj .nil) fun u v e1 e2 e3=>?_,fun u v e1 e2 e3=>?_⟩
 ·simp at e3;subst e3;exact h.2 u x e1 e2 rfl
 simp at e1 e2;subst e1;obtain⟨_,_,_,h4⟩:=hw.ok _ _ hj;omega
def FE.pairs {L}(hw:Wf L){c x y j out nxt}(hf:fB c (key L x) (key L y))(hj:L[j]?=some (.pair x y)):∀(t:Nat){done:List Nat},FE L c done out (some x)->FE L c (done++(List.replicate (t+1) [x,y]).flatten) (out++List.replicate (t+1) (j+1)) nxt
 |0,done,h=>by simpa using h.pair hw hf hj (nxt:=nxt)
 |t+1,done,h=>by
  have:=(FE.pairs hw hf hj t h (nxt:=some x)).pair hw hf hj (nxt:=nxt);rw[oG (n:=t+1),oG (n:=t+1),tu,<-ah,<-ah];simpa using this
def FE.ext {L}(M:List Rl){c done out nxt}(h:FE L c done out nxt)(h1:∀x∈done,x<=L.length) (h2:∀x,nxt=some x->x<=L.length):FE (L++M) c done out nxt:=by
 refine⟨h.1.ext M h1,fun u v e1 e2 e3=>?_⟩;rw[fO M (h1 u (oq e1)),fO M (h2 v e3)];exact h.2 u v e1 e2 e3
structure RL (L:List Rl)(l root x:Nat)(fs:List Fm)(Z:List Nat):Prop where
 eo:EO L false l root x fs
 bb:BB L (l+1) fs
 bd:IE L (l+1) (BX L false l x fs) (BX L false (l+1) (Fq L (l+1) x fs).1 (Fq L (l+1) x fs).2) Z
structure RR (L:List Rl)(l root x:Nat)(fs:List Fm)(M:List Nat):Prop where
 eo:EO L true l root x fs
 bb:BB L (l+1) fs
 bd:∀u v,M.getLast?=some u->(BX L true l x fs).head?=some v->if(l+1)%2=1 then u≠v else ¬fB (Cu (l+1)) (key L u) (key L v)
def EO.zero {L bh l root fs}(h:EO L bh l root 0 fs):fs=[]:=by
 rcases h.lk with⟨_,h⟩|⟨h,_⟩
 ·exact h
 omega
def EO.last {L l root x fs}(h:EO L false l root x fs)(hx:x≠0):(BX L false l x fs).getLast?=some x:=by
 obtain⟨_,_,_,h4⟩:=h.low hx;unfold BX;rw[h4];simp[Cy]
def EO.head {L l root x fs}(h:EO L true l root x fs)(hx:x≠0):(BX L true l x fs).head?=some x:=by
 obtain⟨_,_,_,h4⟩:=h.low hx;unfold BX;rw[h4];simp[Cy]
def zAb {L l root fs Z}(h:EO L false l root 0 fs):RL L l root 0 fs Z:=by
 obtain rfl:=h.zero;exact⟨h,by simp[BB],fun u v e=>by rw[kJ]at e;simp at e⟩
def Vf {L l root fs M}(h:EO L true l root 0 fs):RR L l root 0 fs M:=by
 obtain rfl:=h.zero;exact⟨h,by simp[BB],fun u v _ e=>by rw[kJ]at e;simp at e⟩
def Tz {L:List Rl}(hw:Wf L){bh:Bool}{l root x:Nat}{fs:List Fm}{o:Option Fm}(hs:De L root)(h:EO L bh l root x fs)(hx:x≠0)(ho:IV L (l+1) fs o)(hh:∀f,o=some f->f.hv=gD (Bf L f.id)):BB L (l+1) fs:=by
 obtain⟨_,h2,_,_⟩:=h.low hx;refine ND hw hs h2 (fun f hf=>by have:=h.hi f hf;omega) fun f g e hA=>?_
 cases o with
 |none=>exact absurd hA (ho f g e)
 |some f'=>
  obtain⟨⟨g',e'⟩,_⟩:=ho
  rw[e']at e
  obtain⟨_,rfl⟩:=nH e
  exact hh f' O
def Rq {L}(hw:Wf L){l root x fs o Z}(hs:De L root)(h:EO L false l root x fs)(hx:x≠0)(ho:IV L (l+1) fs o)(hh:∀f,o=some f->f.hv=gD (Bf L f.id)) (hA:(l+1)%2=1) (hz:∀v,Z.head?=some v->x≠v):RL L l root x fs Z:=by
 refine⟨h,Tz hw hs h hx ho hh,fun u v e1 e2=>?_⟩;rw[h.last hx]at e1;cases e1
 rw[if_pos hA];exact hz v e2
def Ru {L}(hw:Wf L){l root x fs o M}(hs:De L root)(h:EO L true l root x fs)(hx:x≠0)(ho:IV L (l+1) fs o)(hh:∀f,o=some f->f.hv=gD (Bf L f.id)) (hA:(l+1)%2=1) (hm:∀u,M.getLast?=some u->u≠x):RR L l root x fs M:=by
 refine⟨h,Tz hw hs h hx ho hh,fun u v e1 e2=>?_⟩;rw[h.head hx]at e2;cases e2
 rw[if_pos hA];exact hm u e1
def pW {L:List Rl}(hw:Wf L){bh:Bool}{l root x:Nat}{fs:List Fm}{f:Fm}(hs:De L root)(h:EO L bh l root x fs)(hx:x≠0)(ho:IV L (l+1) fs (some f))(hB:(l+1)%2=0):∃g a b,fs=g++[f]/\Lk L bh root f.id g/\1<=f.id/\L[f.id-1]?=some (.pair a b)/\Bf L f.id= .pair a b/\1<=f.hv/\f.hv<=2/\x=jA bh f.hv (.pair a b)/\fB (Cu (l+1)) (key L a) (key L b)/\Bt L a<=(l:Nat)/\Bt L b<=(l:Nat):=by
 obtain⟨_,h2,_,_⟩:=h.low hx;obtain⟨⟨g,rfl⟩,hA⟩:=ho;obtain⟨r,l1,l2,l3,l4,l5,l6,ex⟩:=h2.inv;have ok:=l1.ok hw hs;cases r with
 |letter b=>exact absurd rfl (l4 b)
 |pair a b=>
  have hp:=wC hw l2 l3 ok.2.2.1
  exact⟨g,a,b,O,l1,l2,l3,iV l3,l5,l6,ex,hp.2.2.2.2 (l+1) hA,oO,oO⟩
 |power y k=>have:=(qMt hw l2 l3 ok.2.2.1).1;omega
def Rt {L}(hw:Wf L){l root x fs f Z}(hs:De L root)(h:EO L false l root x fs)(hx:x≠0)(ho:IV L (l+1) fs (some f))(hA:(l+1)%2=0)(h2:f.hv=2):RL L l root x fs Z:=by
 obtain⟨g,a,b,rfl,l1,l2,l3,l4,l5,l6,ex,hf,_⟩:=pW hw hs h hx ho hA;have hb:=Tz hw hs h hx ho (fun f' e=>by cases e;rw[l4,h2];rfl);refine⟨h,hb,fun u v e1 e2=>?_⟩;rw[h.last hx]at e1;cases e1
 rw[if_neg oO];intro e3;exfalso;rw[mQ,if_pos ⟨ho.2,by rw[l4,h2];exact ai _⟩]at e3;have hu:=(h.up hw hs hb).1;rw[mQ,if_pos ⟨ho.2,by rw[l4,h2];exact ai _⟩]at hu;rw[hu.last BD]at e3;simp only[ry]at e3;have:=(h.low hx).2.2.1;have:=ho.2;rw[e3]at this;omega
def zAa {L}(hw:Wf L){l root x fs Z}(hs:De L root)(h:EO L false l root x fs)(hx:x≠0)(ho:IV L (l+1) fs none)(hA:(l+1)%2=0)(hz:∀v,Z.head?=some v->¬fB (Cu (l+1)) (key L x) (key L v)):RL L l root x fs Z:=by
 refine⟨h,Tz hw hs h hx ho (fun f' e=>by cases e),fun u v e1 e2=>?_⟩;rw[h.last hx]at e1;cases e1
 rw[if_neg oO];exact fun _=>hz v e2
def VZ {L l root x t x' fs gs o Z}(h:Vy L false l root x t fs o x' gs)(hz:Z.head?=some x):RL L l root x' gs Z:=by
 refine⟨h.eo,h.bb,fun u v e1 e2=>?_⟩;rw[hz]at e2;cases e2
 exact h.left O u e1
def Vd {L}(hw:Wf L){l root x fs o M}(hs:De L root)(h:EO L true l root x fs)(hx:x≠0)(ho:IV L (l+1) fs o)(hh:∀f,o=some f->f.hv=2) (hA:(l+1)%2=0) (hm:∀u,M.getLast?=some u->¬fB (Cu (l+1)) (key L u) (key L x)):RR L l root x fs M:=by
 refine⟨h,Tz hw hs h hx ho (fun f e=>?_),fun u v e1 e2=>?_⟩
 ·subst e;obtain⟨g,a,b,e2,l1,l2,l3,l4,_⟩:=pW hw hs h hx ho hA;rw[l4,hh f rfl];rfl
 rw[h.head hx]at e2;cases e2
 rw[if_neg oO];exact hm u e1
def Rv {L}(hw:Wf L){l root x fs f M}(hs:De L root)(h:EO L true l root x fs)(hx:x≠0)(ho:IV L (l+1) fs (some f))(hA:(l+1)%2=0)(h2:f.hv=2)(hn:Cu (l+1)≠122):RR L l root x fs M:=by
 obtain⟨g,a,b,e,l1,l2,l3,l4,l5,l6,ex,hf,_⟩:=pW hw hs h hx ho hA;refine Vd hw hs h hx ho (fun f' e=>by cases e;exact h2) hA fun u _ hu=>?_
 rw[h2]at ex;simp[jA]at ex;subst ex;exact qZf hn hu hf
def Ve {L l root x t x' fs gs o M}(h:Vy L true l root x t fs o x' gs)(hc:o=none\/(l+1)%2=1\/Cu (l+1)≠122)(hm:M.getLast?=some x):RR L l root x' gs M:=by
 refine⟨h.eo,h.bb,fun u v e1 e2=>?_⟩;rw[hm]at e1;cases e1
 exact h.right O hc v e2
def qZc {L:List Rl}(hw:Wf L){l root x x':Nat}{fs gs:List Fm}{f:Fm}{a b t:Nat}(hs:De L root)(h:EO L true l root x (fs++[f]))(hx:x≠0)(hA:Bt L f.id=((l+1:Nat):Int))(hB:(l+1)%2=0)(h2:f.hv=2)(hr:Bf L f.id= .pair a b)(hd:NE L t fs)(hp:Dp L true l t fs x' gs):
  EO L true l root x' gs/\BB L (l+1) gs/\BX L true l x (fs++[f])=(List.replicate t [a,b]).flatten++BX L true l x' gs:=by
 obtain⟨g,a',b',e,l1,l2,l3,l4,l5,l6,ex,hf,la,lb⟩:=pW hw hs h hx ⟨⟨fs,rfl⟩,hA⟩ hB;obtain⟨rfl,_⟩:=nH e;rw[hr]at l4;cases l4
 have ok:=l1.ok hw hs;have hk:=hw.ok _ _ l3;obtain⟨k1,k2,k3,k4⟩:=hk
 obtain⟨r1,r2,r3⟩:=hp.rest hw hs l1 (fun f' hC=>h.hi f' (by simp[hC])) hd (fun f' g' e hl=>by
  subst e;have:=ok.2.2.2 f' BF;omega)
 refine⟨r1,r2,?_⟩
 have el:CF L l f.id=[a,b]:=by
  have l2':f.id=f.id-1+1:=oO;rw[l2',lM hw l3 (by rw[<-l2'];omega),kD k1 la,kD k3 lb];rfl
 have e1:BX L true l x (fs++[f])=[a,b]++nP L true l fs:=by
  obtain⟨_,_,_,h4⟩:=h.low hx;rw[h2]at ex;simp[jA]at ex;subst ex;unfold BX;rw[h4,iQ,hr,h2];simp[Cy,rY,iR,kD k3 lb]
 have e2:∀m,fH L l (List.replicate m f.id)=(List.replicate m [a,b]).flatten:=fun m=>by
  induction m with
  |zero=>rfl
  |succ m ih=>
   rw[dz,dz,ko,<-ih]
   simp[fH,el]
 obtain⟨m,rfl⟩:∃m,t=m+1:=⟨t-1,by have:=hd.1;omega⟩;rw[e1,r3,e2,fu,dz,ko];simp[Cy]
def qQf {L}(hw:Wf L){l rl rr xl xr fl fr M M'}(sl:De L rl)(sr:De L rr)(hl:RL L l rl xl fl (M++BX L true l xr fr))(hr:RR L l rr xr fr M)(hm:Sq L (l+1) M M'):
  Sq L (l+1) (BX L false l xl fl++(M++BX L true l xr fr)) (BX L false (l+1) (Fq L (l+1) xl fl).1 (Fq L (l+1) xl fl).2++(M'++BX L true (l+1) (Fq L (l+1) xr fr).1 (Fq L (l+1) xr fr).2)):=by
 refine(hl.eo.up hw sl hl.bb).2.join (hm.join (hr.eo.up hw sr hr.bb).2 fun u v e1 e2=>?_) hl.bd;have:=hr.bd u v e1 e2;split
 ·rwa [if_pos (by assumption)]at this
 rw[if_neg (by assumption)]at this;exact fun _=>this
end
