import Derived.Test.YtnicahfnolhgbaaGreatDoorQ83
set_option linter.all false
set_option maxHeartbeats 1000000
namespace Go.Proofs.YtnicahfnolhgbaaGreatDoor
open Go Go.RowKit Sl Eg
section
def FR:Nat->List Rl->List UInt8
 |_,[]=>[]
 |k,r::G=>Co (k+1) r++FR (k+1) G
def GOk (k:Nat)(G:List Rl):Prop:=∀(i:Nat)(r:Rl),G[i]?=some r->r.ok (k+i+1)
def wV:∀(A B:List Rl)(k:Nat),FR k (A++B)=FR k A++FR (k+A.length) B
 |[],B,k=>rfl
 |r::A,B,k=>by
  simp only[jq,FR,ah,wV A B (k+1),az];rw[show k+1+A.length=k+(A.length+1) by omega]
def GY (l:List (List UInt8×Nat)):List UInt8:=l.flatMap fun p=>eY p.1++BS p.2
def Qx (G:List Rl)(A:List (List UInt8×Nat)):List UInt8:=BS G.length++FR 0 G++BS A.length++GY A
def Cs (L:List Rl)(ids:List Nat):List Rl:=ids.map fun x=>gP ids (L.getD (x-1) (.letter 0))
def rR {L:List Rl}{ids:List Nat}{i n:Nat}{r:Rl}(h:ids[i]?=some (n+1))(hr:L[n]?=some r):(Cs L ids)[i]?=some (gP ids r):=by
 unfold Cs;rw[bn,h];simp only[ut,fu,lh,hr,xg]
def qMb {L:List Rl}{ids:List Nat}(hx:∀x∈ids,1<=x/\x<=L.length):∀i,i<=ids.length->Gj L ids i=FR 0 ((Cs L ids).take i)
 |0,_=>rfl
 |i+1,hi=>by
  obtain⟨x,hA⟩:∃x,ids[i]?=some x:=BG;have hB:=hx x (ak hA);obtain⟨n,rfl⟩:∃n,x=n+1:=⟨x-1,oO⟩;obtain⟨r,hr⟩:∃r,L[n]?=some r:=BG;have hg:=rR hA hr;rw[yH hA hr,qMb hx i oO,ed,hg,wV];have hl:((Cs L ids).take i).length=i:=by rw[ig];unfold Cs;rw[jr];omega
  rw[hl,jh];simp only[zm,FR,ax]
def qXt {L ids}(hx:∀x∈ids,1<=x/\x<=L.length) (nm:List (List UInt8×Nat)):Gn L ids nm=Qx (Cs L ids) (nm.map fun p=>(p.1,Bh ids p.2)):=by
 have hl:(Cs L ids).length=ids.length:=jr _;unfold Gn Qx;rw[qMb hx _ (ai _),hl,fe oO,jr];congr 1;unfold Hr GY;rw[List.flatMap_map];rfl
def qYj {L:List Rl}(hw:Wf L){ids:List Nat}(hx:DU L ids)(ho:II L ids):GOk 0 (Cs L ids):=fun i r hr=>by
 have hD:i<ids.length:=by have:=(ae.1 hr).1;unfold Cs at this;rwa [jr]at this
 obtain⟨x,hB⟩:∃x,ids[i]?=some x:=⟨_,ag hD⟩;have hF:=hx.2 x (ak hB);obtain⟨n,rfl⟩:∃n,x=n+1:=⟨x-1,oO⟩;obtain⟨r0,hC⟩:∃r,L[n]?=some r:=BG;rw[rR hB hC]at hr;cases hr
 have hA:ids=ids.take i++(n+1)::ids.drop (i+1):=by
  have:=dh i ids;rw[lK hB]at this;exact this.symm
 have hE:ids.take (i+1)=ids.take i++[n+1]:=by rw[ed,hB];rfl
 obtain⟨g1,g2⟩:=Xn hE (hw.ok _ _ hC) (ho _ _ _ _ hA hC);have hl:(ids.take i).length=i:=by rw[ig];omega
 have e:=g2 (ids.drop (i+1));rw[dh]at e;rw[hl]at g1;rw[e,jh];exact g1
def MQ {L:List Rl}(hw:Wf L){ids:List Nat}(hx:DU L ids)(ho:II L ids):∀(x:Nat),x=0\/x∈ids->txt (Cs L ids) (Bh ids x)=txt L x:=by
 intro x;induction x using Nat.strongRecOn with
 |ind x ih=>
  intro h
  rcases h with rfl| h
  ·have:Bh ids 0=0:=gH.2 fun h=>by have:=(hx.2 0 h).1;omega
   rw[this,jI,jI]
  have hE:=xE h
  have hF:Bh ids x≠0:=fun e=>gH.1 e h
  have hG:=hx.2 x h
  obtain⟨n,rfl⟩:∃n,x=n+1:=⟨x-1,oO⟩
  obtain⟨r,hr⟩:∃r,L[n]?=some r:=BG
  obtain⟨i,hi⟩:∃i,Bh ids (n+1)=i+1:=⟨Bh ids (n+1)-1,oO⟩
  rw[hi,fu]at hE
  have hg:=rR hE hr
  have hB:=qYj hw hx ho i _ hg
  rw[jh]at hB
  have hC:=hw.ok _ _ hr
  have hA:∀k∈BZ r,k∈ids:=ho.closed n r h hr
  have hD:=kH hC
  rw[hi]
  cases r with
  |letter b=>rw[fP hg,fP hr]
  |pair a b=>
   rw[iK hg hB,iK hr hC,ih a (hD a (by simp[BZ])).2 (.inr (hA a (by simp[BZ]))),ih b (hD b (by simp[BZ])).2 (.inr (hA b (by simp[BZ])))]
  |power a k=>
   rw[iY hg hB,iY hr hC,ih a (hD a (by simp[BZ])).2 (.inr (hA a (by simp[BZ])))]
end
section
inductive Ey (L1 L2:List Rl):Nat->Nat->Prop where
 |letter {n m:Nat} {c:UInt8}:L1[n]?=some (.letter c)->L2[m]?=some (.letter c)->Ey L1 L2 (n+1) (m+1)
 |pair {n m a b a' b':Nat}:L1[n]?=some (.pair a b)->L2[m]?=some (.pair a' b')->Ey L1 L2 a a'->Ey L1 L2 b b'->Ey L1 L2 (n+1) (m+1)
 |power {n m a a' k:Nat}:L1[n]?=some (.power a k)->L2[m]?=some (.power a' k)->Ey L1 L2 a a'->Ey L1 L2 (n+1) (m+1)
def Ey.symm {L1 L2 x y}(h:Ey L1 L2 x y):Ey L2 L1 y x:=by
 induction h with
 |letter h1 h2=>exact .letter h2 h1
 |pair h1 h2 _ _ ih1 ih2=>exact .pair h2 h1 ih1 ih2
 |power h1 h2 _ ih=>exact .power h2 h1 ih
def Ey.fn {L1 L2}(hw:Wf L2){x y z}(h:Ey L1 L2 x y)(h':Ey L1 L2 x z):y=z:=by
 induction h generalizing z with
 | @letter n m c h1 h2=>
  generalize e:n+1=x at h'
  cases h' with
  |letter g1 g2=>
   obtain rfl:=oh e
   rw[h1]at g1
   cases g1
   rw[hw.nodup _ _ _ h2 g2]
  |pair g1 _ _ _=>obtain rfl:=oh e;rw[h1]at g1;cases g1
  |power g1 _ _=>obtain rfl:=oh e;rw[h1]at g1;cases g1
 | @pair n m a b a' b' h1 h2 _ _ ih1 ih2=>
  generalize e:n+1=x at h'
  cases h' with
  |letter g1 _=>obtain rfl:=oh e;rw[h1]at g1;cases g1
  |pair g1 g2 ga gb=>
   obtain rfl:=oh e
   rw[h1]at g1
   cases g1
   obtain rfl:=ih1 ga
   obtain rfl:=ih2 gb
   rw[hw.nodup _ _ _ h2 g2]
  |power g1 _ _=>obtain rfl:=oh e;rw[h1]at g1;cases g1
 | @power n m a a' k h1 h2 _ ih=>
  generalize e:n+1=x at h'
  cases h' with
  |letter g1 _=>obtain rfl:=oh e;rw[h1]at g1;cases g1
  |pair g1 _ _ _=>obtain rfl:=oh e;rw[h1]at g1;cases g1
  |power g1 g2 ga=>
   obtain rfl:=oh e
   rw[h1]at g1
   cases g1
   obtain rfl:=ih ga
   rw[hw.nodup _ _ _ h2 g2]
def Ey.fn' {L1 L2}(hw:Wf L1){x y z}(h:Ey L1 L2 x y)(h':Ey L1 L2 z y):x=z:=h.symm.fn hw h'.symm
def Ey.key {L1 L2}(h1:Wf L1)(h2:Wf L2){x y}(h:Ey L1 L2 x y):Eg.key L1 x=Eg.key L2 y:=by
 induction h with
 |letter g1 g2=>rw[(jL g1).1,(jL g2).1]
 |pair g1 g2 _ _ ih1 ih2=>rw[(nM g1 (h1.ok _ _ g1)).1,(nM g2 (h2.ok _ _ g2)).1,ih1,ih2]
 |power g1 g2 _ ih=>rw[(nA g1 (h1.ok _ _ g1)).1,(nA g2 (h2.ok _ _ g2)).1,ih]
def FO (L1 L2:List Rl)(A B:List Nat):Prop:=∃ps:List (Nat×Nat),A=ps.map (·.1)/\B=ps.map (·.2)/\∀p∈ps,Ey L1 L2 p.1 p.2
def FO.nil (L1 L2:List Rl):FO L1 L2 [] []:=⟨[],rfl,rfl,by simp⟩
def FO.one {L1 L2 x y}(h:Ey L1 L2 x y):FO L1 L2 [x] [y]:=⟨[(x,y)],rfl,rfl,fun p hp=>by rw[bg.1 hp];exact h⟩
def FO.app {L1 L2 A B A' B'}(h:FO L1 L2 A B)(h':FO L1 L2 A' B'):FO L1 L2 (A++A') (B++B'):=by
 obtain⟨ps,rfl,rfl,h1⟩:=h;obtain⟨qs,rfl,rfl,h2⟩:=h';refine⟨ps++qs,by simp,by simp,fun p hp=>?_⟩;rcases ay.1 hp with hp|hp
 ·exact h1 p hp
 exact h2 p hp
def FO.length {L1 L2 A B}(h:FO L1 L2 A B):A.length=B.length:=by
 obtain⟨ps,rfl,rfl,_⟩:=h;simp
def FO.drop {L1 L2 A B}(h:FO L1 L2 A B)(k:Nat):FO L1 L2 (A.drop k) (B.drop k):=by
 obtain⟨ps,rfl,rfl,h1⟩:=h;exact⟨ps.drop k,by rw[qp],by rw[qp],fun p hp=>h1 p (qf hp)⟩
def FO.take {L1 L2 A B}(h:FO L1 L2 A B)(k:Nat):FO L1 L2 (A.take k) (B.take k):=by
 obtain⟨ps,rfl,rfl,h1⟩:=h;exact⟨ps.take k,by rw[qo],by rw[qo],fun p hp=>h1 p (mq hp)⟩
def FO.get {L1 L2:List Rl}{A B:List Nat}(h:FO L1 L2 A B){i x y:Nat}(hx:A[i]?=some x)(hy:B[i]?=some y):Ey L1 L2 x y:=by
 obtain⟨ps,rfl,rfl,h1⟩:=h;rw[bn]at hx hy;cases e:ps[i]? with
 |none=>rw[e]at hx;cases hx
 |some p=>
  rw[e]at hx hy
  cases hx
  cases hy
  exact h1 p (ak e)
def FO.keys {L1 L2}(h1:Wf L1)(h2:Wf L2){A B}(h:FO L1 L2 A B):A.map (Eg.key L1)=B.map (Eg.key L2):=by
 obtain⟨ps,rfl,rfl,hp⟩:=h;rw[qx,qx];exact qi fun p hA=>(hp p hA).key h1 h2
def FO.mem {L1 L2}(h1:Wf L1)(h2:Wf L2){A B}(h:FO L1 L2 A B){x y}(hi:Ey L1 L2 x y):x∈A↔y∈B:=by
 obtain⟨ps,rfl,rfl,hp⟩:=h;constructor
 ·intro hx;obtain⟨p,hA,rfl⟩:=jg.1 hx;rw[hi.fn h2 (hp p hA)];exact jg.2 ⟨p,hA,O⟩
 intro hy;obtain⟨p,hA,rfl⟩:=jg.1 hy;rw[hi.fn' h1 (hp p hA)];exact jg.2 ⟨p,hA,O⟩
def Ej.rel {L1 L2 A B bs}(h:Ej L1 A bs)(h':Ej L2 B bs):FO L1 L2 A B:=by
 induction h generalizing B with
 |nil=>rw[h'.nil_inv];exact .nil _ _
 |snoc _ g1 ih=>
  generalize e:(_++[_]:List UInt8)=c at h'
  cases h' with
  |nil=>simp at e
  |snoc g2 g3=>
   obtain⟨rfl,rfl⟩:=wF e
   exact(ih g2).app (.one (.letter g1 g3))
def MB {L1 L2:List Rl}(h1:Wf L1)(h2:Wf L2){ps:List (Nat×Nat)}(hp:∀p∈ps,Ey L1 L2 p.1 p.2):∃qs:List ((Nat×Nat)×Nat),dE (ps.map (·.1))=qs.map (fun q=>(q.1.1,q.2))/\dE (ps.map (·.2))=qs.map (fun q=>(q.1.2,q.2))/\∀q∈qs,Ey L1 L2 q.1.1 q.1.2:=by
 generalize hn:ps.length=n;induction n generalizing ps with
 |zero=>obtain rfl:=dw hn;exact⟨[],rfl,rfl,by simp⟩
 |succ n ih=>
  rcases bq ps with rfl|⟨ps,p,rfl⟩
  ·simp at hn
  rw[bu]at hp hn ⊢
  obtain⟨qs,e1,e2,hq⟩:=ih (ps:=ps) (fun p' hB=>hp p' (by simp[hB])) (by simpa using hn)
  have hA:=hp p BF
  simp only[kv,kz,qg]
  rw[iX,iX,e1,e2]
  rcases bq qs with rfl|⟨qs,⟨⟨y1,y2⟩,k⟩,rfl⟩
  ·exact⟨[(p,1)],by simp[qI],by simp[qI],fun q h=>by rw[bg.1 h];exact hA⟩
  rw[bu]at hq ⊢
  have hy:=hq ((y1,y2),k) BF
  simp only[kv,kz,qg]
  by_cases e:y1=p.1
  ·have e':y2=p.2:=by subst e;exact hy.fn h2 hA
   rw[e,e',jR,jR]
   refine⟨qs++[(p,k+1)],by simp,by simp,fun q h=>?_⟩
   rcases ay.1 h with h| h
   ·exact hq q (by simp[h])
   rw[bg.1 h];exact hA
  have e':¬y2=p.2:=fun e'=>e (by subst e';exact hy.fn' h1 hA)
  rw[kK _ e,kK _ e']
  refine⟨qs++[((y1,y2),k)]++[(p,1)],by simp,by simp,fun q h=>?_⟩
  rcases ay.1 h with h| h
  ·exact hq q h
  rw[bg.1 h];exact hA
def Dx.nil_inv {L out}(h:Dx L [] out):out=[]:=by
 generalize e:([]:List (Nat×Nat))=c at h;cases h with
 |nil=>rfl
 |snoc _ _=>simp at e
def Dx.snoc_inv {L rs x t out}(h:Dx L (rs++[(x,t)]) out):∃o id,out=o++[id]/\Dx L rs o/\EI L x t id:=by
 generalize e:rs++[(x,t)]=c at h;cases h with
 |nil=>simp at e
 |snoc g1 g2=>
  obtain⟨rfl,e2⟩:=wF e
  cases e2
  exact⟨_,_,O,g1,g2⟩
def Dx.rel {L1 L2:List Rl}{qs:List ((Nat×Nat)×Nat)}(hq:∀q∈qs,Ey L1 L2 q.1.1 q.1.2) {o1 o2:List Nat} (h:Dx L1 (qs.map fun q=>(q.1.1,q.2)) o1) (h':Dx L2 (qs.map fun q=>(q.1.2,q.2)) o2):FO L1 L2 o1 o2:=by
 generalize hn:qs.length=n;induction n generalizing qs o1 o2 with
 |zero=>
  obtain rfl:=dw hn
  rw[h.nil_inv,h'.nil_inv]
  exact .nil _ _
 |succ n ih=>
  rcases bq qs with rfl|⟨qs,⟨⟨x1,x2⟩,t⟩,rfl⟩
  ·simp at hn
  rw[bu]at hq hn h h'
  simp only[kv,kz,qg]at h h'
  obtain⟨a,i,rfl,g1,g2⟩:=h.snoc_inv
  obtain⟨b,j,rfl,k1,k2⟩:=h'.snoc_inv
  refine(ih (qs:=qs) (fun q h=>hq q (by simp[h])) g1 k1 (by simpa using hn)).app (.one ?_)
  have hx:=hq ((x1,x2),t) BF
  rcases g2 with⟨e1,rfl⟩|⟨e1,i',rfl,hi⟩<;>rcases k2 with⟨e2,rfl⟩|⟨e2,j',rfl,hj⟩
  ·exact hx
  ·omega
  ·omega
  exact .power hi hj hx
def Er.rel {L1 L2:List Rl}{A B:List Nat}(hr:FO L1 L2 A B){js o1 o2:List Nat}{a a':Nat}(h:Er L1 A js a o1)(h':Er L2 B js a' o2):a=a'/\FO L1 L2 o1 o2:=by
 induction h generalizing a' o2 with
 |nil=>
  generalize e:([]:List Nat)=c at h'
  cases h' with
  |nil=>exact⟨rfl,.nil _ _⟩
  |snoc _ _ _ _ _=>simp at e
 |snoc h1 h2 h3 h4 h5 ih=>
  generalize e:(_++[_]:List Nat)=c at h'
  cases h' with
  |nil=>simp at e
  |snoc g1 g2 g3 g4 g5=>
   obtain⟨rfl,rfl⟩:=wF e
   obtain⟨rfl,hA⟩:=ih g1
   exact⟨O,(hA.app ((hr.drop _).take _)).app (.one (.pair h5 g5 (hr.get h3 g3) (hr.get h4 g4)))⟩
def EQ.rel {L1 L2:List Rl}(w1:Wf L1)(w2:Wf L2){bs:List UInt8}{lv:Nat}{A B:List Nat}(h:EQ L1 bs lv A)(h':EQ L2 bs lv B):FO L1 L2 A B:=by
 induction h generalizing B with
 |start h=>
  generalize e:1=l at h'
  cases h' with
  |start g=>exact h.rel g
  |odd g _ _ _=>have:=g.pos;omega
  |even g _ _ _ _=>have:=g.pos;omega
 |odd h h1 h2 h3 ih=>
  generalize e:_+1=l at h'
  cases h' with
  |start g=>have:=h.pos;omega
  |odd g g1 g2 g3=>
   obtain rfl:=oh e
   obtain⟨ps,rfl,rfl,hp⟩:=ih g
   obtain⟨qs,e1,e2,hq⟩:=MB w1 w2 hp
   rw[e1]at h3
   rw[e2]at g3
   exact Dx.rel hq h3 g3
  |even g g1 _ _ _=>omega
 |even h h1 h2 h3 h4 ih=>
  generalize e:_+1=l at h'
  cases h' with
  |start g=>have:=h.pos;omega
  |odd g g1 g2 g3=>omega
  |even g g1 g2 g3 g4=>
   obtain rfl:=oh e
   have hr:=ih g
   rw[hr.keys w1 w2]at h4
   obtain⟨rfl,ho⟩:=Er.rel hr h4 g4
   exact ho.app (hr.drop _)
def Sg.rel {L1 L2:List Rl}(w1:Wf L1)(w2:Wf L2){bs:List UInt8}{x y:Nat}(h:Sg L1 bs x)(h':Sg L2 bs y):(x=0/\y=0)\/Ey L1 L2 x y:=by
 rcases h with⟨h1,h2⟩|⟨lv,h⟩<;>rcases h' with⟨g1,g2⟩|⟨lv',h'⟩
 ·exact .inl ⟨h2,g2⟩
 ·exact absurd h1 h'.nonempty
 ·exact absurd g1 h.nonempty
 right
 have key:lv=lv':=by
  rcases uz lv lv' with hl|hl|hl
  ·obtain⟨r,hr,h2⟩:=h'.before lv h.pos hl;have:=(h.rel w1 w2 hr).length;simp at this;omega
  ·exact hl
  obtain⟨r,hr,h2⟩:=h.before lv' h'.pos hl;have:=(hr.rel w1 w2 h').length;simp at this;omega
 subst key;exact(h.rel w1 w2 h').get (i:=0) O O
def zBn {L1 L2}(w1:Wf L1)(w2:Wf L2){x y}(h:Ey L1 L2 x y):∀{A B:List Nat},FO L1 L2 A B->FO L1 L2 (lG L1 x A) (lG L2 y B):=by
 induction h with
 | @letter n m c g1 g2=>
  intro A B hr
  have hi:Ey L1 L2 (n+1) (m+1):= .letter g1 g2
  by_cases hm:n+1∈A
  ·rw[mU hm,mU ((hr.mem w1 w2 hi).1 hm)];exact hr
  rw[jD w1 g1 hm,jD w2 g2 (fun h=>hm ((hr.mem w1 w2 hi).2 h))]
  exact hr.app (.one hi)
 | @pair n m a b a' b' g1 g2 ha hb ih1 ih2=>
  intro A B hr
  have hi:Ey L1 L2 (n+1) (m+1):= .pair g1 g2 ha hb
  by_cases hm:n+1∈A
  ·rw[mU hm,mU ((hr.mem w1 w2 hi).1 hm)];exact hr
  rw[jD w1 g1 hm,jD w2 g2 (fun h=>hm ((hr.mem w1 w2 hi).2 h))]
  exact(ih2 (ih1 hr)).app (.one hi)
 | @power n m a a' k g1 g2 ha ih=>
  intro A B hr
  have hi:Ey L1 L2 (n+1) (m+1):= .power g1 g2 ha
  by_cases hm:n+1∈A
  ·rw[mU hm,mU ((hr.mem w1 w2 hi).1 hm)];exact hr
  rw[jD w1 g1 hm,jD w2 g2 (fun h=>hm ((hr.mem w1 w2 hi).2 h))]
  exact(ih hr).app (.one hi)
def qHt {L1 L2}(w1:Wf L1)(w2:Wf L2):∀{xs ys A B:List Nat},xs.length=ys.length->(∀(i x y:Nat),xs[i]?=some x->ys[i]?=some y->(x=0/\y=0)\/Ey L1 L2 x y)->FO L1 L2 A B->FO L1 L2 (dD L1 xs A) (dD L2 ys B)
 |[],[],_,_,_,_,h=>h
 |[],_::_,_,_,h,_,_=>by simp at h
 |_::_,[],_,_,h,_,_=>by simp at h
 |x::xs,y::ys,A,B,hl,hx,h=>by
  rw[iZ,iZ];refine qHt w1 w2 (by simpa using hl) (fun i x' y' h1 h2=>hx (i+1) x' y' (by simpa using h1) (by simpa using h2)) ?_;rcases hx 0 x y rfl rfl with⟨rfl,rfl⟩|hi
  ·rw[mM,mM];exact h
  exact zBn w1 w2 hi h
def yU {L1 L2}(w1:Wf L1)(w2:Wf L2){x y}(hi:Ey L1 L2 x y):∀{ps:List (Nat×Nat)},(∀p∈ps,Ey L1 L2 p.1 p.2)->Bh (ps.map (·.1)) x=Bh (ps.map (·.2)) y
 |[],_=>rfl
 |p::ps,hp=>by
  have ih:=yU w1 w2 hi (ps:=ps) fun q h=>hp q (by simp[h])
  have hA:=hp p BF;simp only[kz,Bh];rw[ih];by_cases e:p.1=x
  ·have e':p.2=y:=by subst e;exact hA.fn w2 hi
   rw[if_pos e,if_pos e']
  have e':¬p.2=y:=fun e'=>e (by subst e';exact hA.fn' w1 hi)
  rw[if_neg e,if_neg e']
def Kl {L1 L2}(w1:Wf L1)(w2:Wf L2){A B}(h:FO L1 L2 A B):Cs L1 A=Cs L2 B:=by
 obtain⟨ps,rfl,rfl,hp⟩:=h;unfold Cs;rw[qx,qx];refine qi fun p hA=>?_
 have hi:=hp p hA;obtain⟨x,y⟩:=p;simp only[Function.comp]at hi ⊢;cases hi with
 |letter g1 g2=>simp[lh,g1,g2,gP]
 |pair g1 g2 ha hb=>simp[lh,g1,g2,gP,yU w1 w2 ha hp,yU w1 w2 hb hp]
 |power g1 g2 ha=>simp[lh,g1,g2,gP,yU w1 w2 ha hp]
end
section
def QE (l:List Im):List (List UInt8×List UInt8):=l.map fun x=>(x.name,x.bs)
structure Ih (L:List Rl)(l:List Im)(ids ys:List Nat):Prop where
 wf:Wf L
 il:ids.length=l.length
 yl:ys.length=l.length
 tx:Txs L l ids
 sg:EJ L ids ys
variable {L L1 L2:List Rl}{l l1 l2:List Im}{ids ys ids1 ids2 y1 y2:List Nat}
def Ih.bound (h:Ih L l ids ys):∀y∈ys,y<=L.length:=h.sg.bound (by rw[h.yl,h.il])
def Ih.acc (h:Ih L l ids ys):DU L (dD L ys []):=DU.visits h.wf h.bound
def Ih.at (h:Ih L l ids ys){i y:Nat}(hy:ys[i]?=some y):∃x id,l[i]?=some x/\ids[i]?=some id/\DF L id y/\txt L id=x.bs:=by
 have hi:=(ae.1 hy).1;have h1:=h.il;have h2:=h.yl;obtain⟨x,hx⟩:∃x,l[i]?=some x:=BG;obtain⟨id,hA⟩:∃x,ids[i]?=some x:=BG;exact⟨x,id,hx,hA,h.sg i id y hA hy,(h.tx i x id hx hA).2⟩
def OZ (h:ids.length=l.length):(LJ l ids).map (·.1)=l.map (·.name):=by
 unfold LJ;rw[qx];have e:((fun x:List UInt8×Int=>x.1)∘fun p:Im×Nat=>(p.1.name,(p.2:Int)))=(fun x:Im=>x.name)∘Prod.fst:=rfl;rw[e,<-qx,List.map_fst_zip oO]
def Ih.enc (h:Ih L l ids ys):Gn L (dD L ys []) (Gy (LJ l ids) ys)=Qx (Cs L (dD L ys [])) ((l.map (·.name)).zip (ys.map (Bh (dD L ys [])))):=by
 rw[qXt h.acc.2];congr 1;unfold Gy;rw[OZ h.il,List.zip_map_right];rfl
def Ih.same (h1:Ih L1 l1 ids1 y1)(h2:Ih L2 l2 ids2 y2)(e:QE l1=QE l2):Gn L1 (dD L1 y1 []) (Gy (LJ l1 ids1) y1)=Gn L2 (dD L2 y2 []) (Gy (LJ l2 ids2) y2):=by
 have a1:=h1.yl;have a2:=h2.yl
 have el:l1.length=l2.length:=by
  have:=au List.length e;simpa[QE]using this
 have en:l1.map (·.name)=l2.map (·.name):=by
  have:=au (List.map Prod.fst) e;simpa[QE,qx,Function.comp_def]using this
 have hx:∀(i x y:Nat),y1[i]?=some x->y2[i]?=some y->(x=0/\y=0)\/Ey L1 L2 x y:=fun i x y hi hj=>by
  obtain⟨u,id,g1,g2,g3,g4⟩:=h1.at hi;obtain⟨v,jd,k1,k2,k3,k4⟩:=h2.at hj;have e1:(QE l1)[i]?=some (u.name,u.bs):=by unfold QE;rw[bn,g1];rfl
  have e2:(QE l2)[i]?=some (v.name,v.bs):=by unfold QE;rw[bn,k1];rfl
  rw[e,e2]at e1;have e3:v.bs=u.bs:=(Prod.mk.inj (oH e1)).2;have s1:Sg L1 u.bs x:=by rw[<-g4];exact g3.2.2.2
  have s2:Sg L2 u.bs y:=by rw[<-e3,<-k4];exact k3.2.2.2
  exact Sg.rel h1.wf h2.wf s1 s2
 have hr:=qHt h1.wf h2.wf oO hx (FO.nil L1 L2);have z1:0∉dD L1 y1 []:=fun h=>by have:=(h1.acc.2 0 h).1;omega
 have z2:0∉dD L2 y2 []:=fun h=>by have:=(h2.acc.2 0 h).1;omega
 have em:y1.map (Bh (dD L1 y1 []))=y2.map (Bh (dD L2 y2 [])):=by
  apply mh;intro i;rw[bn,bn];rcases fw i y1.length with hi|hi
  ·obtain⟨x,hA⟩:∃x,y1[i]?=some x:=⟨_,ag hi⟩;obtain⟨y,hB⟩:∃x,y2[i]?=some x:=BG;rw[hA,hB];refine au some ?_;rcases hx i x y hA hB with⟨rfl,rfl⟩|hi
   ·rw[gH.2 z1,gH.2 z2]
   obtain⟨ps,e1,e2,hp⟩:=hr;rw[e1,e2];exact yU h1.wf h2.wf hi hp
  rw[ku hi,ku oO];rfl
 rw[h1.enc,h2.enc,Kl h1.wf h2.wf hr,en,em]
end
