import Derived.Test.YtnicahfnolhgbaaGreatDoorQ34
set_option linter.all false
set_option maxHeartbeats 1000000
namespace Go.Proofs.YtnicahfnolhgbaaGreatDoor
open Go Go.RowKit Sl Eg
set_option maxRecDepth 10000
section
def yJ {L}(M:List Rl)(hw:Wf L)(hA:Wf (L++M)){l}:∀x,x<=L.length->CF (L++M) l x=CF L l x:=by
 intro x;induction x using Nat.strongRecOn with
 |_ x ih=>
  intro hx
  rcases jo x with rfl|h1
  ·rfl
  obtain⟨i,rfl⟩:∃i,x=i+1:=⟨x-1,oO⟩
  have el:=kY M hx
  by_cases h:Bt L (i+1)<=(l:Nat)
  ·rw[kD h1 h,kD h1 (by rw[el];exact h)]
  have hr:L[i]?=some (L[i]'oO):=ag oO
  generalize L[i]'oO=r at hr
  have hk:=hw.ok i r hr
  have hB:=Sk M hr
  cases r with
  |letter b=>have:=(jL hr).2;omega
  |pair a b=>
   obtain⟨g1,g2,g3,g4⟩:=hk
   rw[lM hw hr oO,lM hA hB oO,ih a oO oO,ih b oO oO]
  |power y k=>
   obtain⟨g1,g2,g3⟩:=hk
   rw[kM hw hr oO,kM hA hB oO,ih y oO oO]
def qYa {L}(M:List Rl)(hw:Wf L)(hA:Wf (L++M)){l ids}(h:∀x∈ids,x<=L.length):fH (L++M) l ids=fH L l ids:=by
 induction ids with
 |nil=>rfl
 |cons x ids ih=>
  have e:∀K,fH K l (x::ids)=CF K l x++fH K l ids:=fun K=>by simp[fH]
  rw[e,e,ih fun y hy=>h y (by simp[hy]),yJ M hw hA x (h x BF)]
def Lr {L}(hw:Wf L){bh x hv r}(h1:1<=x)(hr:L[x-1]?=some r):∀y∈rY bh hv r,y<=L.length:=by
 intro y hy;have hx:=(ae.1 hr).1;have hk:=hw.ok _ r hr;cases r with
 |letter b=>simp[rY]at hy
 |pair a b=>
  obtain⟨g1,g2,g3,g4⟩:=hk
  simp only[rY]at hy
  split at hy
  ·have:=bg.1 hy
   split at this<;>omega
  simp at hy
 |power z k=>
  obtain⟨g1,g2,g3⟩:=hk
  have:=(ql.1 hy).2
  omega
def qZz {L}(M:List Rl)(hw:Wf L)(hA:Wf (L++M)){bh l root x fs}(h:Lk L bh root x fs):nP (L++M) bh l fs=nP L bh l fs:=by
 induction h with
 |nil=>rfl
 | @snoc x hv fs r h1 h2 h3 h4 h5 h6 ih=>
  rw[iQ,iQ,ih,iV h3,iV (Sk M h3),qYa M hw hA (Lr hw h2 h3)]
def Lk.ext {L}(M:List Rl){bh root x fs}(h:Lk L bh root x fs):Lk (L++M) bh root x fs:=by
 induction h with
 |nil=>exact .nil
 |snoc h1 h2 h3 h4 h5 h6 ih=>exact .snoc ih h2 (Sk M h3) h4 h5 h6
def De.ext {L}(M:List Rl)(hw:Wf L)(hA:Wf (L++M)){x}(h:De L x):De (L++M) x:=by
 refine⟨h.pos,by have:=h.le;rw[aa];omega,by rw[kY M h.le];exact h.lv,fun k hk=>?_,fun k hk=>?_⟩
 ·rw[yJ M hw hA x h.le];exact(h.inv k hk).ext M hA
 rw[yJ M hw hA x h.le,yJ M hw hA x h.le];exact(h.step k hk).ext M fun y hy=>((h.inv k hk).ok y hy).2.1
def EO.ext {L}(M:List Rl)(hw:Wf L){bh l root x fs}(hs:De L root)(h:EO L bh l root x fs):EO (L++M) bh l root x fs:=by
 obtain⟨i1,i2⟩:=h.ids hw hs;refine⟨?_,fun f hf=>by rw[kY M (i2 f hf).2];exact h.hi f hf⟩;rcases h.lk with h0|⟨h1,h2,h3⟩
 ·exact .inl h0
 exact .inr ⟨h1,h2.ext M,by rw[kY M i1];exact h3⟩
def EO.seq_ext {L}(M:List Rl)(hw:Wf L)(hA:Wf (L++M)){bh l root x fs}(hs:De L root)(h:EO L bh l root x fs):BX (L++M) bh l x fs=BX L bh l x fs:=by
 obtain⟨i1,i2⟩:=h.ids hw hs;rcases h.lk with⟨rfl,rfl⟩|⟨h1,h2,h3⟩
 ·rw[kJ,kJ]
 unfold BX;rw[yJ M hw hA x i1,qZz M hw hA h2]
def PV {L}(M:List Rl){lv x fs}(h:∀f∈fs,1<=f.id/\f.id<=L.length):Fq (L++M) lv x fs=Fq L lv x fs:=by
 rcases bq fs with rfl|⟨gs,f,rfl⟩
 ·rfl
 rw[bu]at*;have hf:=h f BF;rw[mQ,mQ,kY M hf.2,Xp M hf.1 hf.2]
def BB.ext {L}(M:List Rl){lv fs}(hi:∀f∈fs,1<=f.id/\f.id<=L.length) (h:BB L lv fs):BB (L++M) lv fs:=fun f hf hl=>by
 have:=hi f hf;rw[Xp M this.1 this.2];rw[kY M this.2]at hl;exact h f hf hl
def RL.ext {L}(M:List Rl)(hw:Wf L)(hA:Wf (L++M)){l root x fs Z}(hs:De L root)(h:RL L l root x fs Z)(hz:∀y∈Z,y<=L.length):RL (L++M) l root x fs Z:=by
 obtain⟨i1,i2⟩:=h.eo.ids hw hs;refine⟨h.eo.ext M hw hs,h.bb.ext M i2,?_⟩;rw[h.eo.seq_ext M hw hA hs,PV M i2,(h.eo.up hw hs h.bb).1.seq_ext M hw hA hs];intro u v e1 e2;have hu:u<=L.length:=(h.eo.mem hw hs u (oq e1)).2.1;have hv:v<=L.length:=hz v (AL e2);have:=h.bd u v e1 e2;rw[fO M hu,fO M hv];exact this
def RR.ext {L}(N:List Rl)(hw:Wf L)(hA:Wf (L++N)){l root x fs M}(hs:De L root)(h:RR L l root x fs M)(hz:∀y∈M,y<=L.length):RR (L++N) l root x fs M:=by
 obtain⟨i1,i2⟩:=h.eo.ids hw hs;refine⟨h.eo.ext N hw hs,h.bb.ext N i2,?_⟩;rw[h.eo.seq_ext N hw hA hs];intro u v e1 e2;have hu:u<=L.length:=hz u (oq e1);have hv:v<=L.length:=(h.eo.mem hw hs v (AL e2)).2.1;have:=h.bd u v e1 e2;rw[fO N hu,fO N hv];exact this
def Sq.le {L lv ids o}(h:Sq L lv ids o):o.length<=ids.length:=by
 unfold Sq at h;split at h
 ·induction h with
  |nil=>simp
  |run h1 _ _ _ ih=>simp;omega
 induction h with
 |nil=>simp
 |one _ _ ih=>simp;omega
 |two _ _ _ ih=>simp;omega
def Sq.none {L lv ids}(h:Sq L lv ids []):ids=[]:=by
 unfold Sq at h;cases ids with
 |nil=>rfl
 |cons x r=>
  split at h
  ·exact absurd O h.nonempty
  exact absurd O h.nonempty
def Sq.text {L}(hw:Wf L){lv ids o}(h:Sq L lv ids o):Da L o=Da L ids:=by
 unfold Sq at h;split at h
 ·obtain⟨rs,rfl,_,_,h4⟩:=h.rns;exact h4.text hw
 obtain⟨a,o',h1,rfl⟩:=h.prs;exact h1.text hw
def Dk.left {L M}(h:Dk (L++M)):Dk L:=fun x y h1 h2 h3 h4 e=>h x y h1 (by rw[aa];omega) h3 (by rw[aa];omega) (by rw[fO M h2,fO M h4];exact e)
def Uf.pot {its its'}(h:Uf its its'):Go.Proofs.YtnicahfnolhgbaaGreatDoor.pot its'<=Go.Proofs.YtnicahfnolhgbaaGreatDoor.pot its+4:=by
 obtain⟨a,b,rfl,h1,h2⟩:=h;have h3:=Ye a;have h4:=Ye b;rw[mG,mG];have e1:Go.Proofs.YtnicahfnolhgbaaGreatDoor.pot a=a.length+IB a:=rfl;have e2:Go.Proofs.YtnicahfnolhgbaaGreatDoor.pot b=b.length+IB b:=rfl;omega
def zBb {L its X Y lv}(hi:EZ L lv (X++(dU its++Y)))(hC:lv%2=0)(hA:JF L its)(hd:Dk L):∀it∈its,it.next=0/\it.times=1:=fun it hm=>by
 obtain⟨h1,h2,h3⟩:=hA it hm;by_cases hn:it.next=0
 ·exact⟨hn,h2 hn⟩
 exfalso;obtain⟨m,hB⟩:∃m,it.times=m+1:=⟨it.times-1,oO⟩;obtain⟨a,b,rfl⟩:=List.append_of_mem hm
 have e:Ed it=it.id::it.next::(List.replicate m [it.id,it.next]).flatten:=by
  unfold Ed;rw[if_neg hn,hB,dz,ko];rfl
 have er:X++(dU (a++it::b)++Y)=(X++dU a)++(it.id::it.next::((List.replicate m [it.id,it.next]).flatten++(dU b++Y))):=by
  rw[fQ,iP,e];simp
 rw[er]at hi;have o1:=hi.ok it.id BF;have o2:=hi.ok it.next BF;have eq:it.next=it.id:=hd _ _ o2.1 o2.2.1 o1.1 o1.2.1 (h3 hn);rw[eq]at hi;have:=(hi.same (X++dU a).length it.id (by rw[bi (ai _),uf];rfl) (by rw[bi oO,qd];rfl)).1;omega
def qHh {its}(h:∀it∈its,it.next=0/\it.times=1):(dU its).length=its.length:=by
 induction its with
 |nil=>rfl
 |cons x l ih=>
  have hx:=h x BF
  rw[iP,lN hx.1,hx.2,aa,ih fun y hy=>h y (by simp[hy])]
  simp
  omega
def EQ.down {L}(hw:Wf L){bs lv out}(h:EQ L bs (lv+1) out)(h1:1<=lv):2<=(fH L (lv-1) out).length:=by
 generalize e:lv+1=k at h;cases h with
 |start _=>omega
 |odd h' g1 g2 g3=>
  obtain rfl:=oh e
  have hs:Mt L lv _ out:= .inl ⟨g1,g3⟩
  rw[hs.down (h'.rows hw).1 h1]
  exact g2
 |even h' g1 g2 g3 g4=>
  obtain rfl:=oh e
  have hs:Mt L lv _ _:= .inr ⟨g1,_,_,g4,O⟩
  rw[hs.down (h'.rows hw).1 h1]
  exact g2
def Ck (L:List Rl)(l:Nat)(A B:Sd)(M:Md):List Nat:=BX L false l A.x A.fs++(dU M.its++BX L true l B.x B.fs)
structure IA (L:List Rl)(bs:List UInt8)(l a b:Nat)(A B:Sd)(M:Md):Prop where
 sa:De L a
 sb:De L b
 ea:EO L false l a A.x A.fs
 eb:EO L true l b B.x B.fs
 ch:EQ L bs (l+1) (Ck L l A B M)
 tx:Da L (Ck L l A B M)=bs
 sng:Ez M.its
 one:(l+1)%2=0->∀it∈M.its,it.times=1
 ne:M.its=[]->A.x≠0/\B.x≠0
def JC (L:List Rl)(lv:Nat)(A:Sd):Sd:=⟨(Fq L lv A.x A.fs).1,(Fq L lv A.x A.fs).2,A.p,A.c⟩
def QX {L lv x fs}(h:∀f∈fs,1<=f.id/\f.id<=L.length) (hx:x≠0):(Fq L lv x fs).1≠0:=by
 rcases bq fs with rfl|⟨gs,f,rfl⟩
 ·exact hx
 rw[bu]at*;have hf:=h f BF;rw[mQ];split
 ·show f.id≠0;omega
 exact hx
def Ry {L lv its}(h:Qh L lv its)(hf:dU its=[]):its=[]:=by
 have hp:∀it∈its,1<=it.times:=fun it hA=>by
  unfold Qh at h;split at h
  ·exact(h it hA).2
  split at h
  ·exact(h it hA).1
  exact(h.1 it hA).2
 cases its with
 |nil=>rfl
 |cons it its=>
  have:=Vo (its:=it::its) (it:=it) BF (hp it BF)
  rw[hf]at this
  simp at this
def IA.mem {L}(hw:Wf L){bs l a b A B M}(h:IA L bs l a b A B M):∀y∈Ck L l A B M,1<=y/\y<=L.length:=fun y hy=>by
 have:=(h.ch.rows hw).1.ok y hy;exact⟨this.1,this.2.1⟩
def TF.same {L l a b A B A' B' M M'}(h:TF L l a b A B M A' B' M'):Ck L l A' B' M'=Ck L l A B M:=h.row
def IA.step {L}(N:List Rl)(hw:Wf L)(hA:Wf (L++N)){bs l a b A B A' B' M M'}(h:IA L bs l a b A B M)(h2:2<=(Ck L l A B M).length)(hr:TF L l a b A B M A' B' M'){M2}(hs:Sq (L++N) (l+1) (dU M'.its) (dU M2.its))(hF:Ez M2.its)(h1:(l+1+1)%2=0->∀it∈M2.its,it.times=1) (hn:N.length+(dU M2.its).length<=(dU M'.its).length):
  IA (L++N) bs (l+1) a b (JC (L++N) (l+1) A') (JC (L++N) (l+1) B') M2/\N.length+(Ck (L++N) (l+1) (JC (L++N) (l+1) A') (JC (L++N) (l+1) B') M2).length<=(Ck L l A B M).length:=by
 have hB:=h.mem hw;rw[<-hr.same]at hB;have sa2:=h.sa.ext N hw hA;have sb2:=h.sb.ext N hw hA;have rl2:=hr.left.ext N hw hA h.sa (fun y hy=>(hB y (by unfold Ck;rw[ay];exact .inr hy)).2);have rr2:=hr.right.ext N hw hA h.sb (fun y hy=>(hB y (by unfold Ck;simp[hy])).2);have eA:=hr.left.eo.seq_ext N hw hA h.sa;have eB:=hr.right.eo.seq_ext N hw hA h.sb;have hC:=qQf hA sa2 sb2 (by rw[eB];exact rl2) rr2 hs;have ua:=rl2.eo.up hA sa2 rl2.bb;have ub:=rr2.eo.up hA sb2 rr2.bb;have erow:BX (L++N) false l A'.x A'.fs++(dU M'.its++BX (L++N) true l B'.x B'.fs)=Ck L l A B M:=by rw[eA,eB];exact hr.row
 have hD:=h.ch.ext N;have hE:Da (L++N) (Ck L l A B M)=bs:=by rw[qRv N fun y hy=>(h.mem hw y hy).2];exact h.tx
 rw[<-erow]at hD hE h2;refine⟨⟨sa2,sb2,ua.1,ub.1,?_,?_,hF,h1,fun e=>?_⟩,?_⟩
 ·exact hD.next h2 (fun y hy=>by rw[erow]at hy;have:=(h.mem hw y hy).2;rw[aa];omega) hC
 ·rw[<-hE];exact hC.text hA
 ·rw[e]at hs;obtain⟨e1,rfl,rfl⟩:=hr.ne (Ry hr.shp hs.none);obtain⟨n1,n2⟩:=h.ne e1;exact⟨QX (rl2.eo.ids hA sa2).2 n1,QX (rr2.eo.ids hA sb2).2 n2⟩
 rw[<-erow];have la:=ua.2.le;have lb:=ub.2.le;unfold Ck JC;simp only[aa];omega
def IA.one_left {L:List Rl}(hw:Wf L){bs:List UInt8}{l a b:Nat}{A B:Sd}{M:Md}(h:IA L bs l a b A B M)(hA:A.x=0)(hB:B.x=0){it:It}(hM:M.its=[it])(ht:it.times=1):Sg L bs it.id/\1<=it.id/\it.id<=L.length/\0<=Bt L it.id/\txt L it.id=bs/\(Ck L l A B M).length=1/\(1<=l->(l:Int)<=Bt L it.id):=by
 have e:Ck L l A B M=[it.id]:=by
  have h1:=h.ea;have h2:=h.eb;rw[hA]at h1;rw[hB]at h2;unfold Ck;rw[hA,hB,h1.zero,h2.zero,kJ,kJ,hM,jJ,lN (h.sng it (by rw[hM];simp)).1,ht];rfl
 have hc:=h.ch;have hi:=(hc.rows hw).1;have hC:=h.tx;rw[e]at hc hi hC;have:=hi.ok it.id BF;refine⟨.inr ⟨_,hc⟩,this.1,this.2.1,this.2.2.1,by rw[<-hC,rZ],by rw[e];rfl,fun hl=>?_⟩;apply Classical.byContradiction;intro hn;have hD:=hc.down hw hl;rw[iR,kD this.1 oO]at hD;simp at hD
def IA.two_left {L bs l a b A B M}(h:IA L bs l a b A B M)(hx:¬(A.x=0/\B.x=0/\∃it,M.its=[it]/\it.times=1)):2<=(Ck L l A B M).length:=by
 have la:A.x≠0->1<=(BX L false l A.x A.fs).length:=fun hA=>by
  have:=h.ea.last hA;cases e:BX L false l A.x A.fs with
  |nil=>rw[e]at this;simp at this
  |cons c d=>simp
 have lb:B.x≠0->1<=(BX L true l B.x B.fs).length:=fun hB=>by
  have:=h.eb.head hB;cases e:BX L true l B.x B.fs with
  |nil=>rw[e]at this;simp at this
  |cons c d=>simp
 unfold Ck;simp only[aa];have hm:=pK (its:=M.its) fun it hC=>(h.sng it hC).2
 by_cases hM:M.its=[]
 ·obtain⟨n1,n2⟩:=h.ne hM;have:=la n1;have:=lb n2;omega
 have hD:1<=M.its.length:=pm.2 hM;by_cases hA:A.x=0
 ·by_cases hB:B.x=0
  ·rcases fw 1 M.its.length with h2|h2
   ·omega
   obtain⟨it,e⟩:=oZ.1 (xm h2 hD);have ht:it.times≠1:=fun ht=>hx ⟨hA,hB,it,e,ht⟩
   have h1:=h.sng it (by rw[e];simp);rw[e,jJ,lN h1.1,wo];omega
  have:=lb hB;omega
 have:=la hA;omega
def IA.start {L:List Rl}(hw:Wf L){ta tb:List UInt8}{a b:Nat}{A B:Sd}(p:Option Addr)(c:Nat)(sa:De L a)(sb:De L b)(la:Ej L (CF L 0 a) ta)(lb:Ej L (CF L 0 b) tb)(da:Dn L false 0 a [] A.x A.fs)(db:Dn L true 0 b [] B.x B.fs)(ha:Bt L A.x<=((0:Nat):Int))(hb:Bt L B.x<=((0:Nat):Int)):
  IA L (ta++tb) 0 a b A B ⟨[],p,c⟩/\(Ck L 0 A B ⟨[],p,c⟩).length=ta.length+tb.length/\2<=(Ck L 0 A B ⟨[],p,c⟩).length:=by
 obtain⟨a1,a2,a3,_⟩:=da.ok hw sa .nil BF;obtain⟨b1,b2,b3,_⟩:=db.ok hw sb .nil BF;have oa:=a1.ok hw sa;have ob:=b1.ok hw sb;have ea:BX L false 0 A.x A.fs=CF L 0 a:=by rw[<-a3];simp[BX,nP,Cy]
 have eb:BX L true 0 B.x B.fs=CF L 0 b:=by rw[<-b3];simp[BX,nP,Cy]
 have er:Ck L 0 A B ⟨[],p,c⟩=CF L 0 a++CF L 0 b:=by unfold Ck;rw[ea,eb];rfl
 have hL:=la.append lb;have l1:=(vO hw (l:=0) a sa.pos sa.le).1;have l2:=(vO hw (l:=0) b sb.pos sb.le).1;refine⟨⟨sa,sb,⟨.inr ⟨oa.1,a1,ha⟩,a2⟩,⟨.inr ⟨ob.1,b1,hb⟩,b2⟩,?_,?_,fun it h=>by simp at h,fun _ it h=>by simp at h,fun _=>⟨?_,?_⟩⟩,?_,?_⟩
 ·rw[er];exact .start hL
 ·rw[er];exact hL.text
 ·have:=oa.1;omega
 ·have:=ob.1;omega
 ·rw[er,aa,la.length,lb.length]
 rw[er,aa];omega
end
section
variable {E:Bp}{Es:List Bj}{pp tb s most S:Nat}
def QN {L lv ids o}(h:lv%2=0)(hp:Pg L (Cu lv) ids o):Sq L lv ids o:=by
 unfold Sq;rw[if_neg oO];exact hp
def UE {L lv ids o}(h:lv%2=1)(hp:Rg L ids o):Sq L lv ids o:=by
 unfold Sq;rw[if_pos h];exact hp
def PD {L X A B Y x t}:len L x*t<=(Da L (X++(A++List.replicate t x++B++Y))).length:=by
 have:=qRx (L:=L) (A:=X++A) (B:=B++Y) (x:=x) (t:=t);rw[len];simpa[ah]using this
def PE {L X A B Y x y}:len L x+len L y<=(Da L (X++(A++[x,y]++B++Y))).length:=by
 have:=qRy (L:=L) (ids:=X++(A++[x,y]++B++Y)) (i:=X.length+A.length) (x:=x) (y:=y) (by rw[bi oO];simp) (by rw[bi oO];simp[qa,qd];exact FQ);rw[len,len];exact this
def LW (out:List Nat):Ez (kT out)/\∀it∈kT out,it.times=1:=by
 refine⟨fun it h=>?_,fun it h=>?_⟩
 ·obtain⟨x,_,rfl⟩:=jg.1 h;exact⟨rfl,ai _⟩
 obtain⟨x,_,rfl⟩:=jg.1 h;rfl
def Jy (hE:BP E)(hB:Ca E.w0){bs l a b A0 B0 A B M0 M}(hI:IA (BO Es) bs l a b A0 B0 M0)(h2:2<=(Ck (BO Es) l A0 B0 M0).length)(hr:TF (BO Es) l a b A0 B0 M0 A B M)(hb:bs.length<=dC)(hn:(Ck (BO Es) l A0 B0 M0).length<=1000000000)(hH:Es.length+(Ck (BO Es) l A0 B0 M0).length<=most)(he:l+1<1000000000000):
  Ct E 220 [uPt S,BL ((l+1:Nat):Int)] [cells pp [uPt s,uPt tb] 122,BV tb s (BO Es),bR s most Es,cells S [uPt pp,uPt pp,.bool false,.slice A.p A.fs.length A.c,BK (A.x),.int .u64 (key (BO Es) A.x:Nat),uPt pp,.bool true,.slice B.p B.fs.length B.c,BK (B.x),.int .u64 (key (BO Es) B.x:Nat),.slice M.p M.its.length M.c] 316,sl A.p A.c 332 8 A.fs.length (dZ (BO Es) A.fs),sl B.p B.c 332 8 B.fs.length (dZ (BO Es) B.fs),sl M.p M.c 343 4 M.its.length (Ba (BO Es) M.its)]
   (fun v Q=>∃(N:List Bj)(A' B':Sd)(M':Md),v= .nilIface/\IA (BO (Es++N)) bs (l+1) a b A' B' M'/\N.length+(Ck (BO (Es++N)) (l+1) A' B' M').length<=(Ck (BO Es) l A0 B0 M0).length/\(Dk (BO Es)->N.length+pot M'.its<=pot M0.its+4)/\Q=[cells pp [uPt s,uPt tb] 122,BV tb s (BO (Es++N)),bR s most (Es++N),cells S [uPt pp,uPt pp,.bool false,.slice A'.p A'.fs.length A'.c,BK (A'.x),.int .u64 (key (BO (Es++N)) A'.x:Nat),uPt pp,.bool true,.slice B'.p B'.fs.length B'.c,BK (B'.x),.int .u64 (key (BO (Es++N)) B'.x:Nat),.slice M'.p M'.its.length M'.c] 316,sl A'.p A'.c 332 8 A'.fs.length (dZ (BO (Es++N)) A'.fs),sl B'.p B'.c 332 8 B'.fs.length (dZ (BO (Es++N)) B'.fs),sl M'.p M'.c 343 4 M'.its.length (Ba (BO (Es++N)) M'.its)]):=by
 refine eF (p:=bR s most Es) uK (fun _ h=>dR h) (fun hS=>?_);have hw:=hS.1;have hJ:=hr.same;have hK:=hI.mem hw;have hD:=hI.tx;rw[<-hJ]at hK hn hH hD;have hR:∀x∈dU M.its,1<=x/\x<=(BO Es).length:=fun x hx=>hK x (by unfold Ck;simp[hx])
 have hf:(dU M.its).length<=(Ck (BO Es) l A B M).length:=by unfold Ck;simp;omega
 have hL:∀P x y R,dU M.its=P++[x,y]++R->len (BO Es) x+len (BO Es) y<=dC:=fun P x y R e=>by
  unfold Ck at hD;rw[e]at hD;have:=PE (L:=BO Es) (X:=BX (BO Es) false l A.x A.fs) (A:=P) (B:=R) (Y:=BX (BO Es) true l B.x B.fs) (x:=x) (y:=y);rw[hD]at this;omega
 have hT:∀P x t R,dU M.its=P++List.replicate t x++R->len (BO Es) x*t<=dC:=fun P x t R e=>by
  unfold Ck at hD;rw[e]at hD;have:=PD (L:=BO Es) (X:=BX (BO Es) false l A.x A.fs) (A:=P) (B:=R) (Y:=BX (BO Es) true l B.x B.fs) (x:=x) (t:=t);rw[hD]at this;omega
 have hU:Es.length+(dU M.its).length<=most:=oO;have hF:(dU M.its).length<=1000000000:=oO;have hG:=(hI.ch.rows hw).1;rw[<-hJ]at hG;unfold Ck at hG;have hA:=hr.shp;unfold Qh at hA;refine bO (hE.fn Tryz.func220) O O O (fun R=>?_);simp only[dS,uV,uW];refine Bc ?_;refine jT (fun q:List Bj×Md=>[(0,uPt S),(1,BL ((l+1:Nat):Int)),(5,.nilIface)]) (fun q=>[cells pp [uPt s,uPt tb] 122,BV tb s (BO (Es++q.1)),bR s most (Es++q.1),cells S [uPt pp,uPt pp,.bool false,.slice A.p A.fs.length A.c,BK (A.x),.int .u64 (key (BO Es) A.x:Nat),uPt pp,.bool true,.slice B.p B.fs.length B.c,BK (B.x),.int .u64 (key (BO Es) B.x:Nat),.slice q.2.p q.2.its.length q.2.c] 316,sl A.p A.c 332 8 A.fs.length (dZ (BO Es) A.fs),sl B.p B.c 332 8 B.fs.length (dZ (BO Es) B.fs),sl q.2.p q.2.c 343 4 q.2.its.length (Ba (BO (Es++q.1)) q.2.its),R]) (fun q=>Sq (BO (Es++q.1)) (l+1) (dU M.its) (dU q.2.its)/\Ez q.2.its/\((l+1+1)%2=0->∀it∈q.2.its,it.times=1)/\q.1.length+(dU q.2.its).length<=(dU M.its).length/\(Dk (BO Es)->q.1.length+pot q.2.its<=pot M.its)) ?_ ?_
 ·refine Bi ?_;refine bE O (fun h0=>?_) (fun h0=>?_)
  ·have hC:(l+1)%2=1:=oO;rw[if_pos hC]at hA;refine CG ?_;refine uX (qLp hE hB (pp:=pp) (S:=S) (cs:=[uPt pp,uPt pp,.bool false,.slice A.p A.fs.length A.c,BK (A.x),.int .u64 (key (BO Es) A.x:Nat),uPt pp,.bool true,.slice B.p B.fs.length B.c,BK (B.x),.int .u64 (key (BO Es) B.x:Nat),.slice M.p M.its.length M.c]) (its:=M.its) (p:=M.p) (c:=M.c) O O hA hF hR hT hU) O ?_;rintro _ _⟨N,out,p',c',rfl,hN,hg,ha,rfl⟩;simp only[uV,uW];have hc:(kT out).length=out.length:=by simp[kT]
   rw[<-hc]at*;refine Br ?_;obtain⟨o1,o2⟩:=LW out;refine eX (ι:=List Bj×Md) (N,⟨kT out,p',c'⟩) ⟨UE hC (by show Rg _ _ (dU (kT out));rw[WQ];exact ha),o1,fun _=>o2,by show _+(dU (kT out)).length<=_;rw[WQ];omega,fun _=>by have:=Xl o1;rw[WQ]at this;show N.length+pot (kT out)<=_;omega⟩ BC ?_;exact uI
  have hM:(l+1)%2=0:=oO;have hC:¬(l+1)%2=1:=oO;have hX:2<=l+1:=oO;have hY:l+1<1099511627776:=oO;rw[if_neg hC]at hA;refine CG ?_;refine uX (qLr hE hX hM hY) O ?_;rintro _ _⟨⟨q1,q2,d,rfl,hd⟩,rfl⟩;simp only[uV,uW];refine CU ?_;cases d with
  |true=>
   have hP:=hd.1 O
   rw[if_pos hP]at hA
   refine Bz ?_
   refine uX (zU hE hB (pp:=pp) (S:=S) (cs:=[uPt pp,uPt pp,.bool false,.slice A.p A.fs.length A.c,BK (A.x),.int .u64 (key (BO Es) A.x:Nat),uPt pp,.bool true,.slice B.p B.fs.length B.c,BK (B.x),.int .u64 (key (BO Es) B.x:Nat),.slice M.p M.its.length M.c]) (its:=M.its) (p:=M.p) (c:=M.c) O O hA hF hR hL hU) O ?_
   rintro _ _⟨N,l2,p',c',rfl,hN,hV,hO,rfl⟩
   simp only[uV,uW]
   refine Br ?_
   refine eX (ι:=List Bj×Md) (N,⟨l2,p',c'⟩) ⟨QN hM (by rw[hP];exact hV),hO,(fun h=>by omega),hN,fun hd=>by have h1:=Xl hO;have h2:=qHh (zBb hG hM hA hd);show N.length+pot l2<=_;unfold pot at h1 ⊢;omega⟩ BC ?_
   exact uI
  |false=>
   have hP:Cu (l+1)≠122:=fun h=>by have:=hd.2 h;cases this
   rw[if_neg hP]at hA
   refine Bw ?_
   refine uX (qIi hE hB (pp:=pp) (S:=S) (cs:=[uPt pp,uPt pp,.bool false,.slice A.p A.fs.length A.c,BK (A.x),.int .u64 (key (BO Es) A.x:Nat),uPt pp,.bool true,.slice B.p B.fs.length B.c,BK (B.x),.int .u64 (key (BO Es) B.x:Nat),.slice M.p M.its.length M.c]) (its:=M.its) (p:=M.p) (c:=M.c) O O hA.1 hA.2 hF hR hL hU hX hM hY) O ?_
   rintro _ _⟨N,l2,p',c',rfl,hN,hV,hO,rfl⟩
   simp only[uV,uW]
   refine Br ?_
   refine eX (ι:=List Bj×Md) (N,⟨l2,p',c'⟩) ⟨QN hM hV,hO,(fun h=>by omega),hN,fun _=>by have h1:=Xl hO;have h2:=qHh (its:=M.its) fun it hZ=>⟨(hA.1 it hZ).1,hA.2 it hZ⟩;show N.length+pot l2<=_;unfold pot at h1 ⊢;omega⟩ BC ?_
   exact uI
 rintro⟨N,M'⟩⟨q1,q2,q3,q4,q5⟩;simp only at q1 q2 q3 q4 q5 ⊢;refine iO (p:=bR s most (Es++N)) uK (fun _ h=>dR h) ?_;rintro⟨hQ, -, -, -⟩;have eL:=dB Es N;rw[eL]at hQ q1;obtain⟨i1,i2⟩:=hr.left.eo.ids hw hI.sa;obtain⟨j1,j2⟩:=hr.right.eo.ids hw hI.sb;have sa2:De (BO (Es++N)) a:=by rw[eL];exact hI.sa.ext _ hw hQ
 have sb2:De (BO (Es++N)) b:=by rw[eL];exact hI.sb.ext _ hw hQ
 have ea2:EO (BO (Es++N)) false l a A.x A.fs:=by rw[eL];exact hr.left.eo.ext _ hw hI.sa
 have eb2:EO (BO (Es++N)) true l b B.x B.fs:=by rw[eL];exact hr.right.eo.ext _ hw hI.sb
 have hW:=hI.step (BO N) hw hQ h2 hr q1 q2 q3 (by rw[bQ];exact q4);rw[<-eL,bQ]at hW;have k1:key (BO (Es++N)) A.x=key (BO Es) A.x:=by rw[eL];exact fO _ i1
 have k2:key (BO (Es++N)) B.x=key (BO Es) B.x:=by rw[eL];exact fO _ j1
 have k3:dZ (BO (Es++N)) A.fs=dZ (BO Es) A.fs:=by rw[eL];exact qNb _ i2
 have k4:dZ (BO (Es++N)) B.fs=dZ (BO Es) B.fs:=by rw[eL];exact qNb _ j2
 rw[<-k1,<-k2,<-k3,<-k4];refine CB ?_;refine BH (KL hE hB (Es:=Es++N) (b:=S) (pre:=[uPt pp]) (suf:=[uPt pp,.bool true,.slice B.p B.fs.length B.c,BK (B.x),.int .u64 (key (BO (Es++N)) B.x:Nat),.slice M'.p M'.its.length M'.c]) (fs:=A.fs) sa2 ea2) O ?_;refine Br ?_;refine BH (KL hE hB (Es:=Es++N) (b:=S) (pre:=[uPt pp,uPt pp,.bool false,.slice (JC (BO (Es++N)) (l+1) A).p (JC (BO (Es++N)) (l+1) A).fs.length (JC (BO (Es++N)) (l+1) A).c,BK ((JC (BO (Es++N)) (l+1) A).x),.int .u64 (key (BO (Es++N)) (JC (BO (Es++N)) (l+1) A).x:Nat)]) (suf:=[.slice M'.p M'.its.length M'.c]) (fs:=B.fs) sb2 eb2) O ?_;refine Bu ?_;exact uZ O (.tmp O .nil) ⟨N,JC (BO (Es++N)) (l+1) A,JC (BO (Es++N)) (l+1) B,M',O,hW.1,hW.2,(fun hd=>by have h1:=q5 hd;have h2:=(hr.grow hd).pot;show N.length+pot M'.its<=_;omega),rfl⟩
end
section
variable {E:Bp}{Es:List Bj}{pp tb s most:Nat}
structure Sn (L:List Rl)(bs:List UInt8)(id:Nat):Prop where
 sg:Sg L bs id
 tx:txt L id=bs
 gd:Ki L id
def Sn.len {L bs id}(h:Sn L bs id):len L id=bs.length:=by show(txt L id).length=_;rw[h.tx]
def Sn.zero {L bs}(h:Sn L bs 0):bs=[]:=h.tx.symm
def Sn.parts {L}(hw:Wf L){bs id}(h:Sn L bs id)(h0:id≠0):De L id/\Ej L (CF L 0 id) bs/\1<=bs.length:=by
 rcases h.sg with⟨_,e⟩|⟨lv,hc⟩
 ·exact absurd e h0
 obtain⟨h1,h2⟩:=hc.sig hw;exact⟨h1,h2,pm.2 hc.nonempty⟩
def Sn.lv {L:List Rl}(hw:Wf L){bs:List UInt8}{id:Nat}(h:Sn L bs id)(hb:bs.length<=dC):Bt L id<=25544:=by
 by_cases h0:id=0
 ·subst h0;show(0:Int)<=25544;omega
 obtain⟨h1,h2,_⟩:=h.parts hw h0;exact h1.lv_le hw h2 hb
structure TL where
 l:Nat
 M:List Bj
 A:Sd
 B:Sd
 C:Md
def qWc (hE:BP E)(hB:Ca E.w0){a b:Nat}{ta tb':List UInt8}(ha:Sn (BO Es) ta a)(hb:Sn (BO Es) tb' b)(hQ:ta.length+tb'.length<=1000000000)(hL:Es.length+(ta.length+tb'.length)<=most):
  Ct E 203 [uPt pp,BK a,BK (len (BO Es) a),BK b,BL 0] [cells pp [uPt s,uPt tb] 122,BV tb s (BO Es),bR s most Es]
   (fun v Q=>∃M id,v= .tuple #[BK id,.nilIface]/\M.length<=ta.length+tb'.length/\Sn (BO (Es++M)) (ta++tb') id/\(Dk (BO (Es++M))->(M.length:Int)<=4*Bt (BO (Es++M)) id)/\Q=[cells pp [uPt s,uPt tb] 122,BV tb s (BO (Es++M)),bR s most (Es++M)]):=by
 refine eF (p:=bR s most Es) uK (fun _ h=>dR h) (fun hH=>?_);have hw:=hH.1;have hZ:dC=1152921504606846976:=rfl;have lva:=ha.lv hw oO;have lvb:=hb.lv hw oO;have la:=ha.len;have lb:=hb.len;refine bO (hE.fn Tryz.func203) O O O (fun R=>?_);simp only[dS,uV,uW];refine CX ?_;refine mV 3 ?_;refine Df ?_;refine BH (VO hE hB ha.gd) O ?_;refine Ci ?_;refine bE O (fun g1=>?_) (fun g1=>?_)
 ·exfalso;omega
 refine Hy ?_;refine BH (VO hE hB hb.gd) O ?_;refine Ci ?_;refine bE O (fun g2=>?_) (fun g2=>?_)
 ·exfalso;omega
 refine EK ?_;refine BH (vM hE hb.gd.1) O ?_;refine CL ?_;refine BU 44 (BK (len (BO Es) b)) O (bW oO) ?_;refine Bc ?_;rcases jo a with rfl|hap
 ·obtain rfl:=ha.zero;have e0:len (BO Es) 0=0:=la;rw[e0];refine dV 48 O (fun h1=>?_) (fun h1=>?_)
  ·refine Ci ?_;exact uZ O (.tmp O (.tmp O .nil)) ⟨[],b,O,av _,by rw[ax];exact hb,(fun _=>by have:=hb.gd.2;rw[ax];simp only[iw];omega),by rw[ax]⟩
  exfalso;exact h1 rfl
 obtain⟨sa,na,ca⟩:=ha.parts hw oO;refine dV 48 O (fun h1=>?_) (fun h1=>?_)
 ·exfalso;omega
 refine Bq ?_;rcases jo b with rfl|hbp
 ·obtain rfl:=hb.zero;have e0:len (BO Es) 0=0:=lb;rw[e0];refine dV 56 O (fun h2=>?_) (fun h2=>?_)
  ·refine Bi ?_;refine BH (vM hE ha.gd.1) O ?_;refine CB ?_;refine bE O (fun h3=>?_) (fun h3=>?_)
   ·refine Bc ?_;exact uZ O (.tmp O (.tmp O .nil)) ⟨[],a,O,av _,by rw[ax,ax];exact ha,(fun _=>by have:=ha.gd.2;rw[ax];simp only[iw];omega),by rw[ax]⟩
   exfalso;exact h3 rfl
  exfalso;exact h2 rfl
 obtain⟨sb,nb,cb⟩:=hb.parts hw oO;refine dV 56 O (fun h2=>?_) (fun h2=>?_)
 ·exfalso;omega
 refine CK ?_;refine dV 67 O (fun h3=>?_) (fun h3=>?_)
 ·exfalso;omega
 refine CX ?_;refine uX (qLq hE hB sa) O ?_;rintro _ _⟨ya,ga,p1,c1,rfl,da,da0,rfl⟩;simp only[uV,uW];refine CG ?_;refine uX (qLq hE hB sb) O ?_;rintro _ _⟨yb,gb,p2,c2,rfl,db,db0,rfl⟩;simp only[uV,uW];refine Bv ?_;refine uU (dA (hE.t O) (fun hG=>?_));refine Bu ?_;obtain⟨hR,hS,hT⟩:=IA.start (A:=⟨ya,ga,p1,c1⟩) (B:=⟨yb,gb,p2,c2⟩) hw none 0 sa sb na nb da db da0 db0;refine fF (fU (t:=343) (sz:=4)) ?_
 refine dX (fun x:TL=>[(0,uPt pp),(17,uPt hG),(18,BL ((x.l+1:Nat):Int))]) (fun x=>[cells pp [uPt s,uPt tb] 122,BV tb s (BO (Es++x.M)),bR s most (Es++x.M),cells hG [uPt pp,uPt pp,.bool false,.slice x.A.p x.A.fs.length x.A.c,BK (x.A.x),.int .u64 (key (BO (Es++x.M)) x.A.x:Nat),uPt pp,.bool true,.slice x.B.p x.B.fs.length x.B.c,BK (x.B.x),.int .u64 (key (BO (Es++x.M)) x.B.x:Nat),.slice x.C.p x.C.its.length x.C.c] 316,sl x.A.p x.A.c 332 8 x.A.fs.length (dZ (BO (Es++x.M)) x.A.fs),sl x.B.p x.B.c 332 8 x.B.fs.length (dZ (BO (Es++x.M)) x.B.fs),sl x.C.p x.C.c 343 4 x.C.its.length (Ba (BO (Es++x.M)) x.C.its),R]) (fun x=>30000-x.l) (fun x=>IA (BO (Es++x.M)) (ta++tb') x.l a b x.A x.B x.C/\2<=(Ck (BO (Es++x.M)) x.l x.A x.B x.C).length/\x.M.length+(Ck (BO (Es++x.M)) x.l x.A x.B x.C).length<=ta.length+tb'.length/\(Dk (BO (Es++x.M))->x.M.length+pot x.C.its<=4*x.l)) ⟨0,[],⟨ya,ga,p1,c1⟩,⟨yb,gb,p2,c2⟩,⟨[],none,0⟩⟩ ⟨by rw[ax];exact hR,by rw[ax];exact hT,by rw[ax,hS];simp,fun _=>ai 0⟩ BC ?_ ?_
 ·rw[ax];exact uI
 rintro⟨l,M,A,B,C⟩⟨hI,hJ,hU,hM⟩;simp only at hI hJ hU hM ⊢;refine iO (p:=bR s most (Es++M)) uK (fun _ h=>dR h) ?_;rintro⟨hO, -, -, -⟩;have hP:(ta++tb').length<=dC:=by rw[aa];omega
 have hc:=hI.ch.lv_le hO hP hJ;have he:(Es++M).length=Es.length+M.length:=aa;have hK:∀x∈dU C.its,1<=x/\x<=(BO (Es++M)).length:=fun x hx=>hI.mem hO x (by unfold Ck;simp[hx])
 have hV:(BX (BO (Es++M)) false l A.x A.fs++(dU C.its++BX (BO (Es++M)) true l B.x B.fs)).length<=1000000000:=by show(Ck (BO (Es++M)) l A B C).length<=_;omega
 refine Bw ?_;refine uX (qWr hE hB (Es:=Es++M) (S:=hG) hI.sa hI.sb hI.ea hI.eb hI.sng hI.one hK hV oO oO) O ?_;rintro _ _⟨A1,B1,C1,rfl,hr,rfl⟩;simp only[uV,uW];refine CB ?_;refine uX (Jy hE hB (Es:=Es++M) (S:=hG) (most:=most) hI hJ hr hP oO oO oO) O ?_;rintro _ _⟨N,A2,B2,C2,rfl,hF,hN,hW,rfl⟩;rw[ah]at hF hN ⊢;simp only[uV,uW];refine lQ (p:=bR s most (Es++(M++N))) uK (fun _ h=>dR h) ?_;rintro⟨hX, -, -, -⟩;refine Ci ?_
 have hC:Dk (BO (Es++(M++N)))->(M++N).length+pot C2.its<=4*(l+1):=fun hd=>by
  rw[<-ah,dB (Es++M)]at hd;have h1:=hM hd.left;have h2:=hW hd.left;rw[aa];omega
 have again:¬(A2.x=0/\B2.x=0/\∃it,C2.its=[it]/\it.times=1)->IA (BO (Es++(M++N))) (ta++tb') (l+1) a b A2 B2 C2/\2<=(Ck (BO (Es++(M++N))) (l+1) A2 B2 C2).length/\(M++N).length+(Ck (BO (Es++(M++N))) (l+1) A2 B2 C2).length<=ta.length+tb'.length/\(Dk (BO (Es++(M++N)))->(M++N).length+pot C2.its<=4*(l+1)):=fun h=>⟨hF,hF.two_left h,by rw[aa];omega,hC⟩
 obtain⟨its2,p3,c3⟩:=C2;simp only at hF hN hC again ⊢;refine dV 94 O (fun h4=>?_) (fun h4=>?_)
 ·have hA:A2.x=0:=oO;refine Bc ?_;refine dV 100 O (fun h5=>?_) (fun h5=>?_)
  ·have hY:B2.x=0:=oO;refine Bc ?_;refine dV 106 O (fun h6=>?_) (fun h6=>?_)
   ·obtain⟨it,rfl⟩:∃it,its2=[it]:=oZ.1 oO;refine lQ (p:=sl p3 c3 343 4 [it].length (Ba (BO (Es++(M++N))) [it])) uK (fun _ h=>eG h BF) ?_;rintro⟨g,rfl⟩;rw[iG];have hf:(1:Int)<=(([it].length:Nat):Int):=(by simp);refine CK ?_;refine bE O (fun h7=>?_) (fun h7=>?_)
    ·obtain⟨r1,r2,r3,r4,r5,r6,r7⟩:=hF.one_left hX hA hY rfl oO;refine CX ?_;exact uZ O (.tmp O (.tmp O .nil)) ⟨M++N,it.id,O,by rw[aa];omega,⟨r1,r5,r3,r4⟩,(fun hd=>by have h1:=hC hd;have h2:=r7 oO;omega),rfl⟩
    have hD:=again (fun⟨_,_,i,e,ht⟩=>by cases e;exact h7 (by rw[ht];rfl));refine Br ?_;refine jY 18 (BL ((l+1+1:Nat):Int)) O (bW oO) ?_;refine bS (ι:=TL) (j:=⟨l+1,M++N,A2,B2,⟨[it],some ⟨g,0,none⟩,c3⟩⟩) hD (by show 30000-(l+1)<30000-l;omega) BC ?_;rw[<-iG];exact uI
   have hD:=again (fun⟨_,_,i,e,ht⟩=>by rw[e]at h6;exact h6 rfl);refine Cw ?_;refine jY 18 (BL ((l+1+1:Nat):Int)) O (bW oO) ?_;refine bS (ι:=TL) (j:=⟨l+1,M++N,A2,B2,⟨its2,p3,c3⟩⟩) hD (by show 30000-(l+1)<30000-l;omega) BC ?_;exact uI
  have hD:=again (fun⟨_,h,_⟩=>h5 (by rw[h];rfl));refine Dv ?_;refine jY 18 (BL ((l+1+1:Nat):Int)) O (bW oO) ?_;refine bS (ι:=TL) (j:=⟨l+1,M++N,A2,B2,⟨its2,p3,c3⟩⟩) hD (by show 30000-(l+1)<30000-l;omega) BC ?_;exact uI
 have hD:=again (fun⟨h,_⟩=>h4 (by rw[h];rfl));refine Hy ?_;refine jY 18 (BL ((l+1+1:Nat):Int)) O (bW oO) ?_;refine bS (ι:=TL) (j:=⟨l+1,M++N,A2,B2,⟨its2,p3,c3⟩⟩) hD (by show 30000-(l+1)<30000-l;omega) BC ?_;exact uI
end
section
variable {E:Bp}{Es:List Bj}{pp tb s most:Nat}
def Hg (pp s tb most:Nat)(Es:List Bj)(n:Nat)(bs:List UInt8)(v:Value)(Q:List HP):Prop:=∃M id,v= .tuple #[.int .i64 (id:Nat),.nilIface]/\M.length<=n/\Sn (BO (Es++M)) bs id/\(Dk (BO (Es++M))->(M.length:Int)<=4*Bt (BO (Es++M)) id)/\Q=[cells pp [uPt s,uPt tb] 122,BV tb s (BO (Es++M)),bR s most (Es++M)]
def Nh (hE:BP E)(hB:Ca E.w0){a b ta tb'}(ha:Sn (BO Es) ta a)(hb:Sn (BO Es) tb' b)(hC:ta.length+tb'.length<=1000000000)(hA:Es.length+(ta.length+tb'.length)<=most):
  Ct E 186 [uPt pp,BK a,BK b] [cells pp [uPt s,uPt tb] 122,BV tb s (BO Es),bR s most Es] (Hg pp s tb most Es (ta.length+tb'.length) (ta++tb')):=by
 refine bO (hE.fn Tryz.func186) O O O (fun R=>?_);simp only[dS,uV,uW];refine Bq ?_;refine BH (vM hE ha.gd.1) O ?_;refine Bv ?_;refine uX (qWc hE hB ha hb hC hA) O ?_;rintro _ _⟨M,id,rfl,hM,hs,hD,rfl⟩;simp only[uV,uW];refine Bi ?_;exact uZ O (.tmp O (.tmp O .nil)) ⟨M,id,O,hM,hs,hD,O⟩
def Ni (hE:BP E){a b}(h:a+b<=dC):Ct E 93 [BK a,BK b] [] (fun v Q=>v= .tuple #[BL ((a+b:Nat):Int),.nilIface]/\Q=[]):=by
 apply rG;intro w;rw[hE.P];exact vZ a b w h
def NZ (hE:BP E)(hB:Ca E.w0){a b ta tb'}(ha:Sn (BO Es) ta a)(hb:Sn (BO Es) tb' b)(hC:ta.length+tb'.length<=1000000000)(hA:Es.length+(ta.length+tb'.length)<=most):
  Ct E 162 [uPt pp,BK a,BK b] [cells pp [uPt s,uPt tb] 122,BV tb s (BO Es),bR s most Es] (Hg pp s tb most Es (ta.length+tb'.length) (ta++tb')):=by
 have hH:dC=1152921504606846976:=rfl;have hD:=ha.gd.1;have hF:=hb.gd.1;have la:=ha.len;have lb:=hb.len;rw[bQ]at hD hF;refine bO (hE.fn Tryz.func162) O O O (fun R=>?_);simp only[dS,uV,uW];refine Bc ?_;refine BH (kC hE) O ?_;refine CX ?_;refine mV 3 ?_;refine DL ?_;refine dV 28 O (fun h1=>?_) (fun h1=>?_)
 ·exact absurd h1 oO
 refine Bw ?_;refine BH (kC hE) O ?_;refine Bv ?_;refine BH (Rf hE) O ?_;refine Bw ?_;refine bE O (fun h2=>?_) (fun h2=>?_)
 ·exact absurd h2 oO
 refine GN ?_;refine dV 28 O (fun h3=>?_) (fun h3=>?_)
 ·exact absurd h3 oO
 refine Bw ?_;refine BH (kC hE) O ?_;refine Bv ?_;refine BH (Rf hE) O ?_;refine Bw ?_;refine bE O (fun h4=>?_) (fun h4=>?_)
 ·exact absurd h4 oO
 refine GN ?_;refine mV 3 ?_;refine Df ?_;refine BH (VO hE hB ha.gd) O ?_;refine TY ?_;refine BH (VO hE hB hb.gd) O ?_;refine TW ?_;refine BH (vM hE ha.gd.1) O ?_;refine CL ?_;refine BH (vM hE hb.gd.1) O ?_;refine BH (Ni hE oO) O ?_;refine DW ?_;refine uX (Nh hE hB ha hb hC hA) O ?_;rintro _ _⟨M,id,rfl,hM,hs,hG,rfl⟩;simp only[uV,uW];refine Bi ?_;exact uZ O (.tmp O (.tmp O .nil)) ⟨M,id,O,hM,hs,hG,O⟩
end
