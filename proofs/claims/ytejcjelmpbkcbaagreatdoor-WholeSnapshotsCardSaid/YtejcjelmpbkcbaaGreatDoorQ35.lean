import Derived.Test.YtejcjelmpbkcbaaGreatDoorQ34
set_option linter.all false
set_option maxHeartbeats 1000000
namespace Go.Proofs.YtejcjelmpbkcbaaGreatDoor
open Go Go.RowKit Sl Eg
set_option maxRecDepth 10000
section
def xI {L:List Rl}(M:List Rl)(hw:Wf L)(hw2:Wf (L++M)){l:Nat}:∀x,x≤L.length→expd (L++M) l x=expd L l x:=by
 intro x;induction x using Nat.strongRecOn with
 |_ x ih=>
  intro hx
  rcases jr x with rfl|h1
  ·rfl
  obtain⟨i,rfl⟩:∃i,x=i+1:=⟨x-1,oO⟩
  have el:=lF M hx
  by_cases h:lvl L (i+1)≤(l:Nat)
  ·rw[jT h1 h,jT h1 (by rw[el];exact h)]
  have hr:L[i]?=some (L[i]'oO):=ag oO
  generalize L[i]'oO=r at hr
  have hk:=hw.ok i r hr
  have hr2:=zB M hr
  cases r with
  |letter b=>have:=(jD hr).2;omega
  |pair a b=>
   obtain⟨g1,g2,g3,g4⟩:=hk
   rw[lU hw hr oO,lU hw2 hr2 oO,ih a oO oO,ih b oO oO]
  |power y k=>
   obtain⟨g1,g2,g3⟩:=hk
   rw[kH hw hr oO,kH hw2 hr2 oO,ih y oO oO]
def qVv {L:List Rl}(M:List Rl)(hw:Wf L)(hw2:Wf (L++M)){l:Nat}{ids:List Nat}(h:∀x∈ids,x≤L.length):fD (L++M) l ids=fD L l ids:=by
 induction ids with
 |nil=>rfl
 |cons x ids ih=>
  have e:∀K,fD K l (x::ids)=expd K l x++fD K l ids:=fun K=>by simp[fD]
  rw[e,e,ih fun y hy=>h y (by simp[hy]),xI M hw hw2 x (h x (by simp))]
def restR_le {L:List Rl}(hw:Wf L){bh:Bool}{x hv:Nat}{r:Rl}(h1:1≤x)(hr:L[x-1]?=some r):∀y∈rW bh hv r,y≤L.length:=by
 intro y hy;have hx:=(ae.1 hr).1;have hk:=hw.ok _ r hr;cases r with
 |letter b=>simp[rW]at hy
 |pair a b=>
  obtain⟨g1,g2,g3,g4⟩:=hk
  simp only[rW]at hy
  split at hy
  ·have:=bg.1 hy
   split at this<;>omega
  simp at hy
 |power z k=>
  obtain⟨g1,g2,g3⟩:=hk
  have:=(qb.1 hy).2
  omega
def qYa {L:List Rl}(M:List Rl)(hw:Wf L)(hw2:Wf (L++M)){bh:Bool}{l root x:Nat}{fs:List Fm}(h:Lk L bh root x fs):nL (L++M) bh l fs=nL L bh l fs:=by
 induction h with
 |nil=>rfl
 | @snoc x hv fs r h1 h2 h3 h4 h5 h6 ih=>
  rw[iE,iE,ih,iI h3,iI (zB M h3),qVv M hw hw2 (restR_le hw h2 h3)]
def Lk.ext {L:List Rl}(M:List Rl){bh:Bool}{root x:Nat}{fs:List Fm}(h:Lk L bh root x fs):Lk (L++M) bh root x fs:=by
 induction h with
 |nil=>exact .nil
 |snoc h1 h2 h3 h4 h5 h6 ih=>exact .snoc ih h2 (zB M h3) h4 h5 h6
def Sig.ext {L:List Rl}(M:List Rl)(hw:Wf L)(hw2:Wf (L++M)){x:Nat}(h:Sig L x):Sig (L++M) x:=by
 refine⟨h.pos,by have:=h.le;rw[aa];omega,by rw[lF M h.le];exact h.lv,fun k hk=>?_,fun k hk=>?_⟩
 ·rw[xI M hw hw2 x h.le];exact(h.inv k hk).ext M hw2
 rw[xI M hw hw2 x h.le,xI M hw hw2 x h.le];exact(h.step k hk).ext M fun y hy=>((h.inv k hk).ok y hy).2.1
def EO.ext {L:List Rl}(M:List Rl)(hw:Wf L){bh:Bool}{l root x:Nat}{fs:List Fm}(hs:Sig L root)(h:EO L bh l root x fs):EO (L++M) bh l root x fs:=by
 obtain⟨i1,i2⟩:=h.ids hw hs;refine⟨?_,fun f hf=>by rw[lF M (i2 f hf).2];exact h.hi f hf⟩;rcases h.lk with h0|⟨h1,h2,h3⟩
 ·exact .inl h0
 exact .inr ⟨h1,h2.ext M,by rw[lF M i1];exact h3⟩
def EO.seq_ext {L:List Rl}(M:List Rl)(hw:Wf L)(hw2:Wf (L++M)){bh:Bool}{l root x:Nat}{fs:List Fm}(hs:Sig L root)(h:EO L bh l root x fs):seqE (L++M) bh l x fs=seqE L bh l x fs:=by
 obtain⟨i1,i2⟩:=h.ids hw hs;rcases h.lk with⟨rfl,rfl⟩|⟨h1,h2,h3⟩
 ·rw[kC,kC]
 unfold seqE;rw[xI M hw hw2 x i1,qYa M hw hw2 h2]
def upF_ext {L:List Rl}(M:List Rl){lv x:Nat}{fs:List Fm}(h:∀f∈fs,1≤f.id∧f.id≤L.length):upF (L++M) lv x fs=upF L lv x fs:=by
 rcases bu fs with rfl|⟨gs,f,rfl⟩
 ·rfl
 rw[bv]at*;have hf:=h f (by simp);rw[mR,mR,lF M hf.2,qIn M hf.1 hf.2]
def BB.ext {L:List Rl}(M:List Rl){lv:Nat}{fs:List Fm}(hi:∀f∈fs,1≤f.id∧f.id≤L.length) (h:BB L lv fs):BB (L++M) lv fs:=fun f hf hl=>by
 have:=hi f hf;rw[qIn M this.1 this.2];rw[lF M this.2]at hl;exact h f hf hl
def RL.ext {L:List Rl}(M:List Rl)(hw:Wf L)(hw2:Wf (L++M)){l root x:Nat}{fs:List Fm}{Z:List Nat}(hs:Sig L root)(h:RL L l root x fs Z)(hz:∀y∈Z,y≤L.length):RL (L++M) l root x fs Z:=by
 obtain⟨i1,i2⟩:=h.eo.ids hw hs;refine⟨h.eo.ext M hw hs,h.bb.ext M i2,?_⟩;rw[h.eo.seq_ext M hw hw2 hs,upF_ext M i2,(h.eo.up hw hs h.bb).1.seq_ext M hw hw2 hs];intro u v e1 e2;have hu:u≤L.length:=(h.eo.mem hw hs u (oL e1)).2.1;have hv:v≤L.length:=hz v (yu e2);have:=h.bd u v e1 e2;rw[fM M hu,fM M hv];exact this
def RR.ext {L:List Rl}(N:List Rl)(hw:Wf L)(hw2:Wf (L++N)){l root x:Nat}{fs:List Fm}{M:List Nat}(hs:Sig L root)(h:RR L l root x fs M)(hz:∀y∈M,y≤L.length):RR (L++N) l root x fs M:=by
 obtain⟨i1,i2⟩:=h.eo.ids hw hs;refine⟨h.eo.ext N hw hs,h.bb.ext N i2,?_⟩;rw[h.eo.seq_ext N hw hw2 hs];intro u v e1 e2;have hu:u≤L.length:=hz u (oL e1);have hv:v≤L.length:=(h.eo.mem hw hs v (yu e2)).2.1;have:=h.bd u v e1 e2;rw[fM N hu,fM N hv];exact this
def Sq.le {L:List Rl}{lv:Nat}{ids o:List Nat}(h:Sq L lv ids o):o.length≤ids.length:=by
 unfold Sq at h;split at h
 ·induction h with
  |nil=>simp
  |run h1 _ _ _ ih=>simp;omega
 induction h with
 |nil=>simp
 |one _ _ ih=>simp;omega
 |two _ _ _ ih=>simp;omega
def Sq.none {L:List Rl}{lv:Nat}{ids:List Nat}(h:Sq L lv ids []):ids=[]:=by
 unfold Sq at h;cases ids with
 |nil=>rfl
 |cons x r=>
  split at h
  ·exact absurd O h.nonempty
  exact absurd O h.nonempty
def Sq.text {L:List Rl}(hw:Wf L){lv:Nat}{ids o:List Nat}(h:Sq L lv ids o):rowT L o=rowT L ids:=by
 unfold Sq at h;split at h
 ·obtain⟨rs,rfl,_,_,h4⟩:=h.rns;exact h4.text hw
 obtain⟨a,o',h1,rfl⟩:=h.prs;exact h1.text hw
def Dk.left {L M:List Rl}(h:Dk (L++M)):Dk L:=fun x y h1 h2 h3 h4 e=>h x y h1 (by rw[aa];omega) h3 (by rw[aa];omega) (by rw[fM M h2,fM M h4];exact e)
def Grw.pot {its its':List It}(h:Grw its its'):Go.Proofs.YtejcjelmpbkcbaaGreatDoor.pot its'≤Go.Proofs.YtejcjelmpbkcbaaGreatDoor.pot its+4:=by
 obtain⟨a,b,rfl,h1,h2⟩:=h;have h3:=qWe a;have h4:=qWe b;rw[mJ,mJ];have e1:Go.Proofs.YtejcjelmpbkcbaaGreatDoor.pot a=a.length+hvy a:=rfl;have e2:Go.Proofs.YtejcjelmpbkcbaaGreatDoor.pot b=b.length+hvy b:=rfl;omega
def qYz {L:List Rl}{its:List It}{X Y:List Nat}{lv:Nat}(hi:Inv L lv (X++(dV its++Y)))(hev:lv%2=0)(hit:ItT L its)(hd:Dk L):∀it∈its,it.next=0∧it.times=1:=fun it hm=>by
 obtain⟨h1,h2,h3⟩:=hit it hm;by_cases hn:it.next=0
 ·exact⟨hn,h2 hn⟩
 exfalso;obtain⟨m,hm2⟩:∃m,it.times=m+1:=⟨it.times-1,oO⟩;obtain⟨a,b,rfl⟩:=List.append_of_mem hm
 have e:itF it=it.id::it.next::(List.replicate m [it.id,it.next]).flatten:=by
  unfold itF;rw[if_neg hn,hm2,cu,ko];rfl
 have er:X++(dV (a++it::b)++Y)=(X++dV a)++(it.id::it.next::((List.replicate m [it.id,it.next]).flatten++(dV b++Y))):=by
  rw[fO,iC,e];simp
 rw[er]at hi;have o1:=hi.ok it.id (by simp);have o2:=hi.ok it.next (by simp);have eq:it.next=it.id:=hd _ _ o2.1 o2.2.1 o1.1 o1.2.1 (h3 hn);rw[eq]at hi;have:=(hi.same (X++dV a).length it.id (by rw[ax (ai _),oW];rfl) (by rw[ax oO,oh];rfl)).1;omega
def qGi {its:List It}(h:∀it∈its,it.next=0∧it.times=1):(dV its).length=its.length:=by
 induction its with
 |nil=>rfl
 |cons x l ih=>
  have hx:=h x (by simp)
  rw[iC,lV hx.1,hx.2,aa,ih fun y hy=>h y (by simp[hy])]
  simp
  omega
def Rch.down {L:List Rl}(hw:Wf L){bs:List UInt8}{lv:Nat}{out:List Nat}(h:Rch L bs (lv+1) out)(h1:1≤lv):2≤(fD L (lv-1) out).length:=by
 generalize e:lv+1=k at h;cases h with
 |start _=>omega
 |odd h' g1 g2 g3=>
  obtain rfl:=oI e
  have hs:Stp L lv _ out:= .inl ⟨g1,g3⟩
  rw[hs.down (h'.rows hw).1 h1]
  exact g2
 |even h' g1 g2 g3 g4=>
  obtain rfl:=oI e
  have hs:Stp L lv _ _:= .inr ⟨g1,_,_,g4,O⟩
  rw[hs.down (h'.rows hw).1 h1]
  exact g2
def rowS (L:List Rl)(l:Nat)(A B:Sd)(M:Md):List Nat:=seqE L false l A.x A.fs++(dV M.its++seqE L true l B.x B.fs)
structure SpI (L:List Rl)(bs:List UInt8)(l a b:Nat)(A B:Sd)(M:Md):Prop where
 sa:Sig L a
 sb:Sig L b
 ea:EO L false l a A.x A.fs
 eb:EO L true l b B.x B.fs
 ch:Rch L bs (l+1) (rowS L l A B M)
 tx:rowT L (rowS L l A B M)=bs
 sng:Sng M.its
 one:(l+1)%2=0→∀it∈M.its,it.times=1
 ne:M.its=[]→A.x≠0∧B.x≠0
def upS (L:List Rl)(lv:Nat)(A:Sd):Sd:=⟨(upF L lv A.x A.fs).1,(upF L lv A.x A.fs).2,A.p,A.c⟩
def up_ne {L:List Rl}{lv x:Nat}{fs:List Fm}(h:∀f∈fs,1≤f.id∧f.id≤L.length) (hx:x≠0):(upF L lv x fs).1≠0:=by
 rcases bu fs with rfl|⟨gs,f,rfl⟩
 ·exact hx
 rw[bv]at*;have hf:=h f (by simp);rw[mR];split
 ·show f.id≠0;omega
 exact hx
def shp_ne {L:List Rl}{lv:Nat}{its:List It}(h:Shp L lv its)(hf:dV its=[]):its=[]:=by
 have hp:∀it∈its,1≤it.times:=fun it hit=>by
  unfold Shp at h;split at h
  ·exact(h it hit).2
  split at h
  ·exact(h it hit).1
  exact(h.1 it hit).2
 cases its with
 |nil=>rfl
 |cons it its=>
  have:=qQb (its:=it::its) (it:=it) (by simp) (hp it (by simp))
  rw[hf]at this
  simp at this
def SpI.mem {L:List Rl}(hw:Wf L){bs:List UInt8}{l a b:Nat}{A B:Sd}{M:Md}(h:SpI L bs l a b A B M):∀y∈rowS L l A B M,1≤y∧y≤L.length:=fun y hy=>by
 have:=(h.ch.rows hw).1.ok y hy;exact⟨this.1,this.2.1⟩
def Rdy.same {L:List Rl}{l a b:Nat}{A B A' B':Sd}{M M':Md}(h:Rdy L l a b A B M A' B' M'):rowS L l A' B' M'=rowS L l A B M:=h.row
def SpI.step {L:List Rl}(N:List Rl)(hw:Wf L)(hw2:Wf (L++N)){bs:List UInt8}{l a b:Nat}{A B A' B':Sd}{M M':Md}(h:SpI L bs l a b A B M)(h2:2≤(rowS L l A B M).length)(hr:Rdy L l a b A B M A' B' M'){M2:Md}(hs:Sq (L++N) (l+1) (dV M'.its) (dV M2.its))(hsn:Sng M2.its)(h1:(l+1+1)%2=0→∀it∈M2.its,it.times=1) (hn:N.length+(dV M2.its).length≤(dV M'.its).length):
  SpI (L++N) bs (l+1) a b (upS (L++N) (l+1) A') (upS (L++N) (l+1) B') M2∧N.length+(rowS (L++N) (l+1) (upS (L++N) (l+1) A') (upS (L++N) (l+1) B') M2).length≤(rowS L l A B M).length:=by
 have hmem:=h.mem hw;rw[←hr.same]at hmem;have sa2:=h.sa.ext N hw hw2;have sb2:=h.sb.ext N hw hw2;have rl2:=hr.left.ext N hw hw2 h.sa (fun y hy=>(hmem y (by unfold rowS;rw[bn];exact .inr hy)).2);have rr2:=hr.right.ext N hw hw2 h.sb (fun y hy=>(hmem y (by unfold rowS;simp[hy])).2);have eA:=hr.left.eo.seq_ext N hw hw2 h.sa;have eB:=hr.right.eo.seq_ext N hw hw2 h.sb;have hst:=qOu hw2 sa2 sb2 (by rw[eB];exact rl2) rr2 hs;have ua:=rl2.eo.up hw2 sa2 rl2.bb;have ub:=rr2.eo.up hw2 sb2 rr2.bb;have erow:seqE (L++N) false l A'.x A'.fs++(dV M'.its++seqE (L++N) true l B'.x B'.fs)=rowS L l A B M:=by rw[eA,eB];exact hr.row
 have hch:=h.ch.ext N;have htx:rowT (L++N) (rowS L l A B M)=bs:=by rw[qQs N fun y hy=>(h.mem hw y hy).2];exact h.tx
 rw[←erow]at hch htx h2;refine⟨⟨sa2,sb2,ua.1,ub.1,?_,?_,hsn,h1,fun e=>?_⟩,?_⟩
 ·exact hch.next h2 (fun y hy=>by rw[erow]at hy;have:=(h.mem hw y hy).2;rw[aa];omega) hst
 ·rw[←htx];exact hst.text hw2
 ·rw[e]at hs;obtain⟨e1,rfl,rfl⟩:=hr.ne (shp_ne hr.shp hs.none);obtain⟨n1,n2⟩:=h.ne e1;exact⟨up_ne (rl2.eo.ids hw2 sa2).2 n1,up_ne (rr2.eo.ids hw2 sb2).2 n2⟩
 rw[←erow];have la:=ua.2.le;have lb:=ub.2.le;unfold rowS upS;simp only[aa];omega
def SpI.one_left {L:List Rl}(hw:Wf L){bs:List UInt8}{l a b:Nat}{A B:Sd}{M:Md}(h:SpI L bs l a b A B M)(hA:A.x=0)(hB:B.x=0){it:It}(hM:M.its=[it])(ht:it.times=1):Sg L bs it.id∧1≤it.id∧it.id≤L.length∧0≤lvl L it.id∧txt L it.id=bs∧(rowS L l A B M).length=1∧(1≤l→(l:Int)≤lvl L it.id):=by
 have e:rowS L l A B M=[it.id]:=by
  have h1:=h.ea;have h2:=h.eb;rw[hA]at h1;rw[hB]at h2;unfold rowS;rw[hA,hB,h1.zero,h2.zero,kC,kC,hM,jB,lV (h.sng it (by rw[hM];simp)).1,ht];rfl
 have hc:=h.ch;have hi:=(hc.rows hw).1;have ht2:=h.tx;rw[e]at hc hi ht2;have:=hi.ok it.id (by simp);refine⟨.inr ⟨_,hc⟩,this.1,this.2.1,this.2.2.1,by rw[←ht2,rX],by rw[e];rfl,fun hl=>?_⟩;apply Classical.byContradiction;intro hn;have hdn:=hc.down hw hl;rw[iF,jT this.1 oO]at hdn;simp at hdn
def SpI.two_left {L:List Rl}{bs:List UInt8}{l a b:Nat}{A B:Sd}{M:Md}(h:SpI L bs l a b A B M)(hx:¬(A.x=0∧B.x=0∧∃it,M.its=[it]∧it.times=1)):2≤(rowS L l A B M).length:=by
 have la:A.x≠0→1≤(seqE L false l A.x A.fs).length:=fun hA=>by
  have:=h.ea.last hA;cases e:seqE L false l A.x A.fs with
  |nil=>rw[e]at this;simp at this
  |cons c d=>simp
 have lb:B.x≠0→1≤(seqE L true l B.x B.fs).length:=fun hB=>by
  have:=h.eb.head hB;cases e:seqE L true l B.x B.fs with
  |nil=>rw[e]at this;simp at this
  |cons c d=>simp
 unfold rowS;simp only[aa];have hm:=pF (its:=M.its) fun it hit=>(h.sng it hit).2
 by_cases hM:M.its=[]
 ·obtain⟨n1,n2⟩:=h.ne hM;have:=la n1;have:=lb n2;omega
 have hm1:1≤M.its.length:=qw.2 hM;by_cases hA:A.x=0
 ·by_cases hB:B.x=0
  ·rcases ed 1 M.its.length with h2|h2
   ·omega
   obtain⟨it,e⟩:=nz.1 (xc h2 hm1);have ht:it.times≠1:=fun ht=>hx ⟨hA,hB,it,e,ht⟩
   have h1:=h.sng it (by rw[e];simp);rw[e,jB,lV h1.1,ng];omega
  have:=lb hB;omega
 have:=la hA;omega
def SpI.start {L:List Rl}(hw:Wf L){ta tb:List UInt8}{a b:Nat}{A B:Sd}(p:Option Addr)(c:Nat)(sa:Sig L a)(sb:Sig L b)(la:Lts L (expd L 0 a) ta)(lb:Lts L (expd L 0 b) tb)(da:Dn L false 0 a [] A.x A.fs)(db:Dn L true 0 b [] B.x B.fs)(ha:lvl L A.x≤((0:Nat):Int))(hb:lvl L B.x≤((0:Nat):Int)):
  SpI L (ta++tb) 0 a b A B ⟨[],p,c⟩∧(rowS L 0 A B ⟨[],p,c⟩).length=ta.length+tb.length∧2≤(rowS L 0 A B ⟨[],p,c⟩).length:=by
 obtain⟨a1,a2,a3,_⟩:=da.ok hw sa .nil (by simp);obtain⟨b1,b2,b3,_⟩:=db.ok hw sb .nil (by simp);have oa:=a1.ok hw sa;have ob:=b1.ok hw sb;have ea:seqE L false 0 A.x A.fs=expd L 0 a:=by rw[←a3];simp[seqE,nL,cat]
 have eb:seqE L true 0 B.x B.fs=expd L 0 b:=by rw[←b3];simp[seqE,nL,cat]
 have er:rowS L 0 A B ⟨[],p,c⟩=expd L 0 a++expd L 0 b:=by unfold rowS;rw[ea,eb];rfl
 have hL:=la.append lb;have l1:=(vC hw (l:=0) a sa.pos sa.le).1;have l2:=(vC hw (l:=0) b sb.pos sb.le).1;refine⟨⟨sa,sb,⟨.inr ⟨oa.1,a1,ha⟩,a2⟩,⟨.inr ⟨ob.1,b1,hb⟩,b2⟩,?_,?_,fun it h=>by simp at h,fun _ it h=>by simp at h,fun _=>⟨?_,?_⟩⟩,?_,?_⟩
 ·rw[er];exact .start hL
 ·rw[er];exact hL.text
 ·have:=oa.1;omega
 ·have:=ob.1;omega
 ·rw[er,aa,la.length,lb.length]
 rw[er,aa];omega
end
section
variable {E:Env}{Es:List Ent}{pp tb s most S:Nat}
def pg_sq {L:List Rl}{lv:Nat}{ids o:List Nat}(h:lv%2=0)(hp:Pg L (num lv) ids o):Sq L lv ids o:=by
 unfold Sq;rw[if_neg oO];exact hp
def rg_sq {L:List Rl}{lv:Nat}{ids o:List Nat}(h:lv%2=1)(hp:Rg L ids o):Sq L lv ids o:=by
 unfold Sq;rw[if_pos h];exact hp
def row_run {L:List Rl}{X A B Y:List Nat}{x t:Nat}:len L x*t≤(rowT L (X++(A++List.replicate t x++B++Y))).length:=by
 have:=qQu (L:=L) (A:=X++A) (B:=B++Y) (x:=x) (t:=t);rw[len];simpa[ah]using this
def row_two {L:List Rl}{X A B Y:List Nat}{x y:Nat}:len L x+len L y≤(rowT L (X++(A++[x,y]++B++Y))).length:=by
 have:=qQv (L:=L) (ids:=X++(A++[x,y]++B++Y)) (i:=X.length+A.length) (x:=x) (y:=y) (by rw[ax oO];simp) (by rw[ax oO];simp[oV,oh];exact ap_1);rw[len,len];exact this
def ones_sng (out:List Nat):Sng (kU out)∧∀it∈kU out,it.times=1:=by
 refine⟨fun it h=>?_,fun it h=>?_⟩
 ·obtain⟨x,_,rfl⟩:=fq.1 h;exact⟨rfl,ai _⟩
 obtain⟨x,_,rfl⟩:=fq.1 h;rfl
def ct_merge (hE:Seat E)(hB:Base E.w0){bs:List UInt8}{l a b:Nat}{A0 B0 A B:Sd}{M0 M:Md}(hI:SpI (rls Es) bs l a b A0 B0 M0)(h2:2≤(rowS (rls Es) l A0 B0 M0).length)(hr:Rdy (rls Es) l a b A0 B0 M0 A B M)(hb:bs.length≤dC)(hn:(rowS (rls Es) l A0 B0 M0).length≤1000000000)(hroom:Es.length+(rowS (rls Es) l A0 B0 M0).length≤most)(hll:l+1<1000000000000):
  Ct E 274 [uPt S,.int .i64 ((l+1:Nat):Int)] [cells pp [uPt s,uPt tb] 117,tabP tb s (rls Es),bR s most Es,cells S [uPt pp,uPt pp,.bool false,.slice A.p A.fs.length A.c,.int .i64 (A.x:Nat),.int .u64 (key (rls Es) A.x:Nat),uPt pp,.bool true,.slice B.p B.fs.length B.c,.int .i64 (B.x:Nat),.int .u64 (key (rls Es) B.x:Nat),.slice M.p M.its.length M.c] 370,sl A.p A.c 389 8 A.fs.length (eG (rls Es) A.fs),sl B.p B.c 389 8 B.fs.length (eG (rls Es) B.fs),sl M.p M.c 400 4 M.its.length (itsC (rls Es) M.its)]
   (fun v Q=>∃(N:List Ent)(A' B':Sd)(M':Md),v= .nilIface∧SpI (rls (Es++N)) bs (l+1) a b A' B' M'∧N.length+(rowS (rls (Es++N)) (l+1) A' B' M').length≤(rowS (rls Es) l A0 B0 M0).length∧(Dk (rls Es)→N.length+pot M'.its≤pot M0.its+4)∧Q=[cells pp [uPt s,uPt tb] 117,tabP tb s (rls (Es++N)),bR s most (Es++N),cells S [uPt pp,uPt pp,.bool false,.slice A'.p A'.fs.length A'.c,.int .i64 (A'.x:Nat),.int .u64 (key (rls (Es++N)) A'.x:Nat),uPt pp,.bool true,.slice B'.p B'.fs.length B'.c,.int .i64 (B'.x:Nat),.int .u64 (key (rls (Es++N)) B'.x:Nat),.slice M'.p M'.its.length M'.c] 370,sl A'.p A'.c 389 8 A'.fs.length (eG (rls (Es++N)) A'.fs),sl B'.p B'.c 389 8 B'.fs.length (eG (rls (Es++N)) B'.fs),sl M'.p M'.c 400 4 M'.its.length (itsC (rls (Es++N)) M'.its)]):=by
 refine eU (p:=bR s most Es) uK (fun _ h=>dS h) (fun hsay=>?_);have hw:=hsay.1;have hrow:=hr.same;have hmem:=hI.mem hw;have htx:=hI.tx;rw[←hrow]at hmem hn hroom htx;have hR:∀x∈dV M.its,1≤x∧x≤(rls Es).length:=fun x hx=>hmem x (by unfold rowS;simp[hx])
 have hfl:(dV M.its).length≤(rowS (rls Es) l A B M).length:=by unfold rowS;simp;omega
 have hadj:∀P x y R,dV M.its=P++[x,y]++R→len (rls Es) x+len (rls Es) y≤dC:=fun P x y R e=>by
  unfold rowS at htx;rw[e]at htx;have:=row_two (L:=rls Es) (X:=seqE (rls Es) false l A.x A.fs) (A:=P) (B:=R) (Y:=seqE (rls Es) true l B.x B.fs) (x:=x) (y:=y);rw[htx]at this;omega
 have hrun:∀P x t R,dV M.its=P++List.replicate t x++R→len (rls Es) x*t≤dC:=fun P x t R e=>by
  unfold rowS at htx;rw[e]at htx;have:=row_run (L:=rls Es) (X:=seqE (rls Es) false l A.x A.fs) (A:=P) (B:=R) (Y:=seqE (rls Es) true l B.x B.fs) (x:=x) (t:=t);rw[htx]at this;omega
 have hrm:Es.length+(dV M.its).length≤most:=oO;have hfl9:(dV M.its).length≤1000000000:=oO;have hinv:=(hI.ch.rows hw).1;rw[←hrow]at hinv;unfold rowS at hinv;have hshp:=hr.shp;unfold Shp at hshp;refine bO (hE.fn Tryz.func274) O O O (fun R=>?_);simp only[dX,uV,uW];refine gg10 ?_;refine nM (fun q:List Ent×Md=>[(0,uPt S),(1,.int .i64 ((l+1:Nat):Int)),(5,.nilIface)]) (fun q=>[cells pp [uPt s,uPt tb] 117,tabP tb s (rls (Es++q.1)),bR s most (Es++q.1),cells S [uPt pp,uPt pp,.bool false,.slice A.p A.fs.length A.c,.int .i64 (A.x:Nat),.int .u64 (key (rls Es) A.x:Nat),uPt pp,.bool true,.slice B.p B.fs.length B.c,.int .i64 (B.x:Nat),.int .u64 (key (rls Es) B.x:Nat),.slice q.2.p q.2.its.length q.2.c] 370,sl A.p A.c 389 8 A.fs.length (eG (rls Es) A.fs),sl B.p B.c 389 8 B.fs.length (eG (rls Es) B.fs),sl q.2.p q.2.c 400 4 q.2.its.length (itsC (rls (Es++q.1)) q.2.its),R]) (fun q=>Sq (rls (Es++q.1)) (l+1) (dV M.its) (dV q.2.its)∧Sng q.2.its∧((l+1+1)%2=0→∀it∈q.2.its,it.times=1)∧q.1.length+(dV q.2.its).length≤(dV M.its).length∧(Dk (rls Es)→q.1.length+pot q.2.its≤pot M.its)) ?_ ?_
 ·refine gg7 ?_;refine bE O (fun h0=>?_) (fun h0=>?_)
  ·have hodd:(l+1)%2=1:=oO;rw[if_pos hodd]at hshp;refine gg3 ?_;refine uX (qKm hE hB (pp:=pp) (S:=S) (cs:=[uPt pp,uPt pp,.bool false,.slice A.p A.fs.length A.c,.int .i64 (A.x:Nat),.int .u64 (key (rls Es) A.x:Nat),uPt pp,.bool true,.slice B.p B.fs.length B.c,.int .i64 (B.x:Nat),.int .u64 (key (rls Es) B.x:Nat),.slice M.p M.its.length M.c]) (its:=M.its) (p:=M.p) (c:=M.c) O O hshp hfl9 hR hrun hrm) O ?_;rintro _ _⟨N,out,p',c',rfl,hN,hN2,hrg,rfl⟩;simp only[uV,uW];have hlo:(kU out).length=out.length:=by simp[kU]
   rw[←hlo]at*;refine gg8 ?_;obtain⟨o1,o2⟩:=ones_sng out;refine fZ (ι:=List Ent×Md) (N,⟨kU out,p',c'⟩) ⟨rg_sq hodd (by show Rg _ _ (dV (kU out));rw[zA];exact hrg),o1,fun _=>o2,by show _+(dV (kU out)).length≤_;rw[zA];omega,fun _=>by have:=qIf o1;rw[zA]at this;show N.length+pot (kU out)≤_;omega⟩ ⟨rfl,rfl,rfl,trivial⟩ ?_;exact uI
  have hev:(l+1)%2=0:=oO;have hodd:¬(l+1)%2=1:=oO;have h2l:2≤l+1:=oO;have hlt:l+1<1099511627776:=oO;rw[if_neg hodd]at hshp;refine gg3 ?_;refine uX (qKp hE h2l hev hlt) O ?_;rintro _ _⟨⟨q1,q2,d,rfl,hd⟩,rfl⟩;simp only[uV,uW];refine gg14 ?_;cases d with
  |true=>
   have hnm:=hd.1 O
   rw[if_pos hnm]at hshp
   refine gg4 ?_
   refine uX (yT hE hB (pp:=pp) (S:=S) (cs:=[uPt pp,uPt pp,.bool false,.slice A.p A.fs.length A.c,.int .i64 (A.x:Nat),.int .u64 (key (rls Es) A.x:Nat),uPt pp,.bool true,.slice B.p B.fs.length B.c,.int .i64 (B.x:Nat),.int .u64 (key (rls Es) B.x:Nat),.slice M.p M.its.length M.c]) (its:=M.its) (p:=M.p) (c:=M.c) O O hshp hfl9 hR hadj hrm) O ?_
   rintro _ _⟨N,l2,p',c',rfl,hN,hpg,hsn,rfl⟩
   simp only[uV,uW]
   refine gg8 ?_
   refine fZ (ι:=List Ent×Md) (N,⟨l2,p',c'⟩) ⟨pg_sq hev (by rw[hnm];exact hpg),hsn,(fun h=>by omega),hN,fun hd=>by have h1:=qIf hsn;have h2:=qGi (qYz hinv hev hshp hd);show N.length+pot l2≤_;unfold pot at h1 ⊢;omega⟩ ⟨rfl,rfl,rfl,trivial⟩ ?_
   exact uI
  |false=>
   have hnm:num (l+1)≠122:=fun h=>by have:=hd.2 h;cases this
   rw[if_neg hnm]at hshp
   refine gg5 ?_
   refine uX (qHg hE hB (pp:=pp) (S:=S) (cs:=[uPt pp,uPt pp,.bool false,.slice A.p A.fs.length A.c,.int .i64 (A.x:Nat),.int .u64 (key (rls Es) A.x:Nat),uPt pp,.bool true,.slice B.p B.fs.length B.c,.int .i64 (B.x:Nat),.int .u64 (key (rls Es) B.x:Nat),.slice M.p M.its.length M.c]) (its:=M.its) (p:=M.p) (c:=M.c) O O hshp.1 hshp.2 hfl9 hR hadj hrm h2l hev hlt) O ?_
   rintro _ _⟨N,l2,p',c',rfl,hN,hpg,hsn,rfl⟩
   simp only[uV,uW]
   refine gg8 ?_
   refine fZ (ι:=List Ent×Md) (N,⟨l2,p',c'⟩) ⟨pg_sq hev hpg,hsn,(fun h=>by omega),hN,fun _=>by have h1:=qIf hsn;have h2:=qGi (its:=M.its) fun it hit=>⟨(hshp.1 it hit).1,hshp.2 it hit⟩;show N.length+pot l2≤_;unfold pot at h1 ⊢;omega⟩ ⟨rfl,rfl,rfl,trivial⟩ ?_
   exact uI
 rintro⟨N,M'⟩⟨q1,q2,q3,q4,q5⟩;simp only at q1 q2 q3 q4 q5 ⊢;refine jG (p:=bR s most (Es++N)) uK (fun _ h=>dS h) ?_;rintro⟨hw2, -, -, -⟩;have eL:=dA Es N;rw[eL]at hw2 q1;obtain⟨i1,i2⟩:=hr.left.eo.ids hw hI.sa;obtain⟨j1,j2⟩:=hr.right.eo.ids hw hI.sb;have sa2:Sig (rls (Es++N)) a:=by rw[eL];exact hI.sa.ext _ hw hw2
 have sb2:Sig (rls (Es++N)) b:=by rw[eL];exact hI.sb.ext _ hw hw2
 have ea2:EO (rls (Es++N)) false l a A.x A.fs:=by rw[eL];exact hr.left.eo.ext _ hw hI.sa
 have eb2:EO (rls (Es++N)) true l b B.x B.fs:=by rw[eL];exact hr.right.eo.ext _ hw hI.sb
 have hst:=hI.step (rls N) hw hw2 h2 hr q1 q2 q3 (by rw[bQ];exact q4);rw[←eL,bQ]at hst;have k1:key (rls (Es++N)) A.x=key (rls Es) A.x:=by rw[eL];exact fM _ i1
 have k2:key (rls (Es++N)) B.x=key (rls Es) B.x:=by rw[eL];exact fM _ j1
 have k3:eG (rls (Es++N)) A.fs=eG (rls Es) A.fs:=by rw[eL];exact qLt _ i2
 have k4:eG (rls (Es++N)) B.fs=eG (rls Es) B.fs:=by rw[eL];exact qLt _ j2
 rw[←k1,←k2,←k3,←k4];refine gg6 ?_;refine uX (ct_up hE hB (Es:=Es++N) (b:=S) (pre:=[uPt pp]) (suf:=[uPt pp,.bool true,.slice B.p B.fs.length B.c,.int .i64 (B.x:Nat),.int .u64 (key (rls (Es++N)) B.x:Nat),.slice M'.p M'.its.length M'.c]) (fs:=A.fs) sa2 ea2) O ?_;rintro _ _⟨rfl,rfl⟩;simp only[uV,uW];refine gg8 ?_;refine uX (ct_up hE hB (Es:=Es++N) (b:=S) (pre:=[uPt pp,uPt pp,.bool false,.slice (upS (rls (Es++N)) (l+1) A).p (upS (rls (Es++N)) (l+1) A).fs.length (upS (rls (Es++N)) (l+1) A).c,.int .i64 ((upS (rls (Es++N)) (l+1) A).x:Nat),.int .u64 (key (rls (Es++N)) (upS (rls (Es++N)) (l+1) A).x:Nat)]) (suf:=[.slice M'.p M'.its.length M'.c]) (fs:=B.fs) sb2 eb2) O ?_;rintro _ _⟨rfl,rfl⟩;simp only[uV,uW];refine gg9 ?_;exact uZ O (.tmp O .nil) ⟨N,upS (rls (Es++N)) (l+1) A,upS (rls (Es++N)) (l+1) B,M',O,hst.1,hst.2,(fun hd=>by have h1:=q5 hd;have h2:=(hr.grow hd).pot;show N.length+pot M'.its≤_;omega),rfl⟩
end
section
variable {E:Env}{Es:List Ent}{pp tb s most:Nat}
structure Sn (L:List Rl)(bs:List UInt8)(id:Nat):Prop where
 sg:Sg L bs id
 tx:txt L id=bs
 gd:good L id
def Sn.len {L:List Rl}{bs:List UInt8}{id:Nat}(h:Sn L bs id):len L id=bs.length:=by show(txt L id).length=_;rw[h.tx]
def Sn.zero {L:List Rl}{bs:List UInt8}(h:Sn L bs 0):bs=[]:=h.tx.symm
def Sn.parts {L:List Rl}(hw:Wf L){bs:List UInt8}{id:Nat}(h:Sn L bs id)(h0:id≠0):Sig L id∧Lts L (expd L 0 id) bs∧1≤bs.length:=by
 rcases h.sg with⟨_,e⟩|⟨lv,hc⟩
 ·exact absurd e h0
 obtain⟨h1,h2⟩:=hc.sig hw;exact⟨h1,h2,qw.2 hc.nonempty⟩
def Sn.lv {L:List Rl}(hw:Wf L){bs:List UInt8}{id:Nat}(h:Sn L bs id)(hb:bs.length≤dC):lvl L id≤25544:=by
 by_cases h0:id=0
 ·subst h0;show(0:Int)≤25544;omega
 obtain⟨h1,h2,_⟩:=h.parts hw h0;exact h1.lv_le hw h2 hb
structure SpG where
 l:Nat
 M:List Ent
 A:Sd
 B:Sd
 C:Md
def qUi (hE:Seat E)(hB:Base E.w0){a b:Nat}{ta tb':List UInt8}(ha:Sn (rls Es) ta a)(hb:Sn (rls Es) tb' b)(hlen:ta.length+tb'.length≤1000000000)(hroom:Es.length+(ta.length+tb'.length)≤most):
  Ct E 253 [uPt pp,.int .i64 (a:Nat),.int .i64 (len (rls Es) a:Nat),.int .i64 (b:Nat),.int .i64 0] [cells pp [uPt s,uPt tb] 117,tabP tb s (rls Es),bR s most Es]
   (fun v Q=>∃M id,v= .tuple #[.int .i64 (id:Nat),.nilIface]∧M.length≤ta.length+tb'.length∧Sn (rls (Es++M)) (ta++tb') id∧(Dk (rls (Es++M))→(M.length:Int)≤4*lvl (rls (Es++M)) id)∧Q=[cells pp [uPt s,uPt tb] 117,tabP tb s (rls (Es++M)),bR s most (Es++M)]):=by
 refine eU (p:=bR s most Es) uK (fun _ h=>dS h) (fun hsay=>?_);have hw:=hsay.1;have hmx:dC=1152921504606846976:=rfl;have lva:=ha.lv hw oO;have lvb:=hb.lv hw oO;have la:=ha.len;have lb:=hb.len;refine bO (hE.fn Tryz.func253) O O O (fun R=>?_);simp only[dX,uV,uW];refine gg16 ?_;refine yL 3 ?_;refine gg22 ?_;refine uX (qHb hE hB ha.gd) O ?_;rintro _ _⟨rfl,rfl⟩;simp only[uV,uW];refine gg19 ?_;refine bE O (fun g1=>?_) (fun g1=>?_)
 ·exfalso;omega
 refine gg30 ?_;refine uX (qHb hE hB hb.gd) O ?_;rintro _ _⟨rfl,rfl⟩;simp only[uV,uW];refine gg19 ?_;refine bE O (fun g2=>?_) (fun g2=>?_)
 ·exfalso;omega
 refine gg25 ?_;refine uX (vB hE hb.gd.1) O ?_;rintro _ _⟨rfl,rfl⟩;simp only[uV,uW];refine gg2 ?_;refine l_eq 44 (.int .i64 (len (rls Es) b:Nat)) O (bW oO) ?_;refine gg10 ?_;rcases jr a with rfl|hap
 ·obtain rfl:=ha.zero;have e0:len (rls Es) 0=0:=la;rw[e0];refine eF 48 O (fun h1=>?_) (fun h1=>?_)
  ·refine gg19 ?_;exact uZ O (.tmp O (.tmp O .nil)) ⟨[],b,O,au _,by rw[aj];exact hb,(fun _=>by have:=hb.gd.2;rw[aj];simp only[di];omega),by rw[aj]⟩
  exfalso;exact h1 rfl
 obtain⟨sa,na,ca⟩:=ha.parts hw oO;refine eF 48 O (fun h1=>?_) (fun h1=>?_)
 ·exfalso;omega
 refine gg12 ?_;rcases jr b with rfl|hbp
 ·obtain rfl:=hb.zero;have e0:len (rls Es) 0=0:=lb;rw[e0];refine eF 56 O (fun h2=>?_) (fun h2=>?_)
  ·refine gg7 ?_;refine uX (vB hE ha.gd.1) O ?_;rintro _ _⟨rfl,rfl⟩;simp only[uV,uW];refine gg6 ?_;refine bE O (fun h3=>?_) (fun h3=>?_)
   ·refine gg10 ?_;exact uZ O (.tmp O (.tmp O .nil)) ⟨[],a,O,au _,by rw[aj,aj];exact ha,(fun _=>by have:=ha.gd.2;rw[aj];simp only[di];omega),by rw[aj]⟩
   exfalso;exact h3 rfl
  exfalso;exact h2 rfl
 obtain⟨sb,nb,cb⟩:=hb.parts hw oO;refine eF 56 O (fun h2=>?_) (fun h2=>?_)
 ·exfalso;omega
 refine gg15 ?_;refine eF 67 O (fun h3=>?_) (fun h3=>?_)
 ·exfalso;omega
 refine gg16 ?_;refine uX (qKo hE hB sa) O ?_;rintro _ _⟨ya,ga,p1,c1,rfl,da,da0,rfl⟩;simp only[uV,uW];refine gg3 ?_;refine uX (qKo hE hB sb) O ?_;rintro _ _⟨yb,gb,p2,c2,rfl,db,db0,rfl⟩;simp only[uV,uW];refine gg1 ?_;refine uU (cZ (hE.t O) (fun b17=>?_));refine gg9 ?_;obtain⟨hst,hsl,hs2⟩:=SpI.start (A:=⟨ya,ga,p1,c1⟩) (B:=⟨yb,gb,p2,c2⟩) hw none 0 sa sb na nb da db da0 db0;refine iY (gU (t:=400) (sz:=4)) ?_
 refine eQ (fun x:SpG=>[(0,uPt pp),(17,uPt b17),(18,.int .i64 ((x.l+1:Nat):Int))]) (fun x=>[cells pp [uPt s,uPt tb] 117,tabP tb s (rls (Es++x.M)),bR s most (Es++x.M),cells b17 [uPt pp,uPt pp,.bool false,.slice x.A.p x.A.fs.length x.A.c,.int .i64 (x.A.x:Nat),.int .u64 (key (rls (Es++x.M)) x.A.x:Nat),uPt pp,.bool true,.slice x.B.p x.B.fs.length x.B.c,.int .i64 (x.B.x:Nat),.int .u64 (key (rls (Es++x.M)) x.B.x:Nat),.slice x.C.p x.C.its.length x.C.c] 370,sl x.A.p x.A.c 389 8 x.A.fs.length (eG (rls (Es++x.M)) x.A.fs),sl x.B.p x.B.c 389 8 x.B.fs.length (eG (rls (Es++x.M)) x.B.fs),sl x.C.p x.C.c 400 4 x.C.its.length (itsC (rls (Es++x.M)) x.C.its),R]) (fun x=>30000-x.l) (fun x=>SpI (rls (Es++x.M)) (ta++tb') x.l a b x.A x.B x.C∧2≤(rowS (rls (Es++x.M)) x.l x.A x.B x.C).length∧x.M.length+(rowS (rls (Es++x.M)) x.l x.A x.B x.C).length≤ta.length+tb'.length∧(Dk (rls (Es++x.M))→x.M.length+pot x.C.its≤4*x.l)) ⟨0,[],⟨ya,ga,p1,c1⟩,⟨yb,gb,p2,c2⟩,⟨[],none,0⟩⟩ ⟨by rw[aj];exact hst,by rw[aj];exact hs2,by rw[aj,hsl];simp,fun _=>ai 0⟩ ⟨rfl,rfl,rfl,trivial⟩ ?_ ?_
 ·rw[aj];exact uI
 rintro⟨l,M,A,B,C⟩⟨hI,h2r,hrm,hpt⟩;simp only at hI h2r hrm hpt ⊢;refine jG (p:=bR s most (Es++M)) uK (fun _ h=>dS h) ?_;rintro⟨hw2, -, -, -⟩;have hbl:(ta++tb').length≤dC:=by rw[aa];omega
 have hlv:=hI.ch.lv_le hw2 hbl h2r;have hel:(Es++M).length=Es.length+M.length:=aa;have hids:∀x∈dV C.its,1≤x∧x≤(rls (Es++M)).length:=fun x hx=>hI.mem hw2 x (by unfold rowS;simp[hx])
 have hrl:(seqE (rls (Es++M)) false l A.x A.fs++(dV C.its++seqE (rls (Es++M)) true l B.x B.fs)).length≤1000000000:=by show(rowS (rls (Es++M)) l A B C).length≤_;omega
 refine gg5 ?_;refine uX (qUq hE hB (Es:=Es++M) (S:=b17) hI.sa hI.sb hI.ea hI.eb hI.sng hI.one hids hrl oO oO) O ?_;rintro _ _⟨A1,B1,C1,rfl,hr,rfl⟩;simp only[uV,uW];refine gg6 ?_;refine uX (ct_merge hE hB (Es:=Es++M) (S:=b17) (most:=most) hI h2r hr hbl oO oO oO) O ?_;rintro _ _⟨N,A2,B2,C2,rfl,hI2,hN,hN2,rfl⟩;rw[ah]at hI2 hN ⊢;simp only[uV,uW];refine sZ (p:=bR s most (Es++(M++N))) uK (fun _ h=>dS h) ?_;rintro⟨hw3, -, -, -⟩;refine gg19 ?_
 have hpt2:Dk (rls (Es++(M++N)))→(M++N).length+pot C2.its≤4*(l+1):=fun hd=>by
  rw[←ah,dA (Es++M)]at hd;have h1:=hpt hd.left;have h2:=hN2 hd.left;rw[aa];omega
 have again:¬(A2.x=0∧B2.x=0∧∃it,C2.its=[it]∧it.times=1)→SpI (rls (Es++(M++N))) (ta++tb') (l+1) a b A2 B2 C2∧2≤(rowS (rls (Es++(M++N))) (l+1) A2 B2 C2).length∧(M++N).length+(rowS (rls (Es++(M++N))) (l+1) A2 B2 C2).length≤ta.length+tb'.length∧(Dk (rls (Es++(M++N)))→(M++N).length+pot C2.its≤4*(l+1)):=fun h=>⟨hI2,hI2.two_left h,by rw[aa];omega,hpt2⟩
 obtain⟨its2,p3,c3⟩:=C2;simp only at hI2 hN hpt2 again ⊢;refine eF 94 O (fun h4=>?_) (fun h4=>?_)
 ·have hA:A2.x=0:=oO;refine gg10 ?_;refine eF 100 O (fun h5=>?_) (fun h5=>?_)
  ·have hB2:B2.x=0:=oO;refine gg10 ?_;refine eF 106 O (fun h6=>?_) (fun h6=>?_)
   ·obtain⟨it,rfl⟩:∃it,its2=[it]:=nz.1 oO;refine sZ (p:=sl p3 c3 400 4 [it].length (itsC (rls (Es++(M++N))) [it])) uK (fun _ h=>fA h (by simp)) ?_;rintro⟨g,rfl⟩;rw[gV];have hl1:(1:Int)≤(([it].length:Nat):Int):=(by simp);refine gg15 ?_;refine bE O (fun h7=>?_) (fun h7=>?_)
    ·obtain⟨r1,r2,r3,r4,r5,r6,r7⟩:=hI2.one_left hw3 hA hB2 rfl oO;refine gg16 ?_;exact uZ O (.tmp O (.tmp O .nil)) ⟨M++N,it.id,O,by rw[aa];omega,⟨r1,r5,r3,r4⟩,(fun hd=>by have h1:=hpt2 hd;have h2:=r7 oO;omega),rfl⟩
    have hag:=again (fun⟨_,_,i,e,ht⟩=>by cases e;exact h7 (by rw[ht];rfl));refine gg8 ?_;refine jR 18 (.int .i64 ((l+1+1:Nat):Int)) O (bW oO) ?_;refine bS (ι:=SpG) (j:=⟨l+1,M++N,A2,B2,⟨[it],some ⟨g,0,none⟩,c3⟩⟩) hag (by show 30000-(l+1)<30000-l;omega) ⟨O,O,O,trivial⟩ ?_;rw[←gV];exact uI
   have hag:=again (fun⟨_,_,i,e,ht⟩=>by rw[e]at h6;exact h6 rfl);refine gg18 ?_;refine jR 18 (.int .i64 ((l+1+1:Nat):Int)) O (bW oO) ?_;refine bS (ι:=SpG) (j:=⟨l+1,M++N,A2,B2,⟨its2,p3,c3⟩⟩) hag (by show 30000-(l+1)<30000-l;omega) ⟨O,O,O,trivial⟩ ?_;exact uI
  have hag:=again (fun⟨_,h,_⟩=>h5 (by rw[h];rfl));refine gg24 ?_;refine jR 18 (.int .i64 ((l+1+1:Nat):Int)) O (bW oO) ?_;refine bS (ι:=SpG) (j:=⟨l+1,M++N,A2,B2,⟨its2,p3,c3⟩⟩) hag (by show 30000-(l+1)<30000-l;omega) ⟨O,O,O,trivial⟩ ?_;exact uI
 have hag:=again (fun⟨h,_⟩=>h4 (by rw[h];rfl));refine gg30 ?_;refine jR 18 (.int .i64 ((l+1+1:Nat):Int)) O (bW oO) ?_;refine bS (ι:=SpG) (j:=⟨l+1,M++N,A2,B2,⟨its2,p3,c3⟩⟩) hag (by show 30000-(l+1)<30000-l;omega) ⟨O,O,O,trivial⟩ ?_;exact uI
end
section
variable {E:Env}{Es:List Ent}{pp tb s most:Nat}
def JoinPost (pp s tb most:Nat)(Es:List Ent)(n:Nat)(bs:List UInt8)(v:Value)(Q:List HP):Prop:=∃M id,v= .tuple #[.int .i64 (id:Nat),.nilIface]∧M.length≤n∧Sn (rls (Es++M)) bs id∧(Dk (rls (Es++M))→(M.length:Int)≤4*lvl (rls (Es++M)) id)∧Q=[cells pp [uPt s,uPt tb] 117,tabP tb s (rls (Es++M)),bR s most (Es++M)]
def ct_join (hE:Seat E)(hB:Base E.w0){a b:Nat}{ta tb':List UInt8}(ha:Sn (rls Es) ta a)(hb:Sn (rls Es) tb' b)(hlen:ta.length+tb'.length≤1000000000)(hroom:Es.length+(ta.length+tb'.length)≤most):
  Ct E 227 [uPt pp,.int .i64 (a:Nat),.int .i64 (b:Nat)] [cells pp [uPt s,uPt tb] 117,tabP tb s (rls Es),bR s most Es] (JoinPost pp s tb most Es (ta.length+tb'.length) (ta++tb')):=by
 refine bO (hE.fn Tryz.func227) O O O (fun R=>?_);simp only[dX,uV,uW];refine gg12 ?_;refine uX (vB hE ha.gd.1) O ?_;rintro _ _⟨rfl,rfl⟩;simp only[uV,uW];refine gg1 ?_;refine uX (qUi hE hB ha hb hlen hroom) O ?_;rintro _ _⟨M,id,rfl,hM,hs,hdk,rfl⟩;simp only[uV,uW];refine gg7 ?_;exact uZ O (.tmp O (.tmp O .nil)) ⟨M,id,O,hM,hs,hdk,O⟩
def ct_ladd (hE:Seat E){a b:Nat}(h:a+b≤dC):Ct E 132 [.int .i64 (a:Nat),.int .i64 (b:Nat)] [] (fun v Q=>v= .tuple #[.int .i64 ((a+b:Nat):Int),.nilIface]∧Q=[]):=by
 apply vY;intro w;rw[hE.P];exact vJ a b w h
def ct_Join (hE:Seat E)(hB:Base E.w0){a b:Nat}{ta tb':List UInt8}(ha:Sn (rls Es) ta a)(hb:Sn (rls Es) tb' b)(hlen:ta.length+tb'.length≤1000000000)(hroom:Es.length+(ta.length+tb'.length)≤most):
  Ct E 193 [uPt pp,.int .i64 (a:Nat),.int .i64 (b:Nat)] [cells pp [uPt s,uPt tb] 117,tabP tb s (rls Es),bR s most Es] (JoinPost pp s tb most Es (ta.length+tb'.length) (ta++tb')):=by
 have hmx:dC=1152921504606846976:=rfl;have hi1:=ha.gd.1;have hj1:=hb.gd.1;have la:=ha.len;have lb:=hb.len;rw[bQ]at hi1 hj1;refine bO (hE.fn Tryz.func193) O O O (fun R=>?_);simp only[dX,uV,uW];refine gg10 ?_;refine uX (jS hE) O ?_;rintro _ _⟨rfl,rfl⟩;simp only[uV,uW];refine gg16 ?_;refine yL 3 ?_;refine gg23 ?_;refine eF 28 O (fun h1=>?_) (fun h1=>?_)
 ·exact absurd h1 oO
 refine gg5 ?_;refine uX (jS hE) O ?_;rintro _ _⟨rfl,rfl⟩;simp only[uV,uW];refine gg1 ?_;refine uX (qFm hE) O ?_;rintro _ _⟨rfl,rfl⟩;simp only[uV,uW];refine gg5 ?_;refine bE O (fun h2=>?_) (fun h2=>?_)
 ·exact absurd h2 oO
 refine gg31 ?_;refine eF 28 O (fun h3=>?_) (fun h3=>?_)
 ·exact absurd h3 oO
 refine gg5 ?_;refine uX (jS hE) O ?_;rintro _ _⟨rfl,rfl⟩;simp only[uV,uW];refine gg1 ?_;refine uX (qFm hE) O ?_;rintro _ _⟨rfl,rfl⟩;simp only[uV,uW];refine gg5 ?_;refine bE O (fun h4=>?_) (fun h4=>?_)
 ·exact absurd h4 oO
 refine gg31 ?_;refine yL 3 ?_;refine gg22 ?_;refine uX (qHb hE hB ha.gd) O ?_;rintro _ _⟨rfl,rfl⟩;simp only[uV,uW];refine gg44 ?_;refine uX (qHb hE hB hb.gd) O ?_;rintro _ _⟨rfl,rfl⟩;simp only[uV,uW];refine gg40 ?_;refine uX (vB hE ha.gd.1) O ?_;rintro _ _⟨rfl,rfl⟩;simp only[uV,uW];refine gg2 ?_;refine uX (vB hE hb.gd.1) O ?_;rintro _ _⟨rfl,rfl⟩;simp only[uV,uW];refine uX (ct_ladd hE oO) O ?_;rintro _ _⟨rfl,rfl⟩;simp only[uV,uW];refine gg21 ?_;refine uX (ct_join hE hB ha hb hlen hroom) O ?_;rintro _ _⟨M,id,rfl,hM,hs,hdk,rfl⟩;simp only[uV,uW];refine gg7 ?_;exact uZ O (.tmp O (.tmp O .nil)) ⟨M,id,O,hM,hs,hdk,O⟩
end
section
def rep {α:Type}(k:Nat)(l:List α):List α:=(List.replicate k l).flatten
end
