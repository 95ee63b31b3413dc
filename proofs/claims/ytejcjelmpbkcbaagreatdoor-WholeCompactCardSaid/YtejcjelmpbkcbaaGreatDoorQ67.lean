import Derived.Test.YtejcjelmpbkcbaaGreatDoorQ62
set_option linter.all false
set_option maxHeartbeats 1000000
namespace Go.Proofs.YtejcjelmpbkcbaaGreatDoor
open Go Go.RowKit Sl Eg
set_option maxRecDepth 10000
section
variable {E:Env}{Es:List Ent}{pp tb s most m bm:Nat}{f:Int->Option Value}
def SigOf.fn {L:List Rl}(hw:Wf L){x y y':Nat}(h:SigOf L x y)(h':SigOf L x y'):y=y':=Sg.fn hw h.2.2.2 h'.2.2.2
def SigL.fn {L:List Rl}(hw:Wf L){xs ys ys':List Nat}(h:SigL L xs ys)(h':SigL L xs ys')(hl:ys.length=xs.length)(hl':ys'.length=xs.length):ys=ys':=by
 apply kz;intro i;rcases ed i xs.length with hi|hi
 ·obtain⟨x,hx⟩:∃x,xs[i]?=some x:=⟨_,ah hi⟩;obtain⟨y,hy⟩:∃y,ys[i]?=some y:=⟨_,ah oO⟩;obtain⟨y',hy'⟩:∃y,ys'[i]?=some y:=⟨_,ah oO⟩;rw[hy,hy',(h i x y hx hy).fn hw (h' i x y' hx hy')]
 rw[fq oO,fq oO]
def SigL.bound {L:List Rl}{xs ys:List Nat}(h:SigL L xs ys)(hl:ys.length=xs.length):∀y∈ys,y<=L.length:=fun y hy=>by
 obtain⟨i,hi⟩:=jv hy;have hil:=(ag.1 hi).1;obtain⟨x,hx⟩:∃x,xs[i]?=some x:=⟨_,ah oO⟩;exact(h i x y hx hi).2.2.1.1
def qSp {l:List Im}{ids:List Nat}(h:ids.length=l.length):(mkN l ids).length=l.length:=by simp[mkN,h]
def mkN_at {l:List Im}{ids:List Nat}{i id:Nat}{x:Im}(hx:l[i]?=some x)(hi:ids[i]?=some id):(mkN l ids)[i]?=some (x.name,(id:Int)):=by
 unfold mkN;rw[bu];have:(l.zip ids)[i]?=some (x,id):=by rw[vw];exact⟨hx,hi⟩
 rw[this];rfl
end
section
def encG:Nat->List Rl->List UInt8
 |_,[]=>[]
 |k,r::G=>rulB (k+1) r++encG (k+1) G
def GOk (k:Nat)(G:List Rl):Prop:=∀(i:Nat)(r:Rl),G[i]?=some r->r.ok (k+i+1)
def qCg:∀(A B:List Rl)(k:Nat),encG k (A++B)=encG k A++encG (k+A.length) B
 |[],B,k=>rfl
 |r::A,B,k=>by
  simp only[jq,encG,ai,qCg A B (k+1),bf];rw[show k+1+A.length=k+(A.length+1) by omega]
def encM (l:List (List UInt8×Nat)):List UInt8:=l.flatMap fun p=>gX p.1++vput p.2
def encA (G:List Rl)(A:List (List UInt8×Nat)):List UInt8:=vput G.length++encG 0 G++vput A.length++encM A
def gram (L:List Rl)(ids:List Nat):List Rl:=ids.map fun x=>iO ids (L.getD (x-1) (.letter 0))
def vS {L:List Rl}{ids:List Nat}{i n:Nat}{r:Rl}(h:ids[i]?=some (n+1))(hr:L[n]?=some r):(gram L ids)[i]?=some (iO ids r):=by
 unfold gram;rw[bu,h];simp only[ru,fe,jg,hr,uh]
def qKu {L:List Rl}{ids:List Nat}(hx:∀x∈ids,1<=x/\x<=L.length):∀i,i<=ids.length->encR L ids i=encG 0 ((gram L ids).take i)
 |0,_=>rfl
 |i+1,hi=>by
  obtain⟨x,hxi⟩:∃x,ids[i]?=some x:=⟨_,ah oO⟩;have hxx:=hx x (ak hxi);obtain⟨n,rfl⟩:∃n,x=n+1:=⟨x-1,oO⟩;obtain⟨r,hr⟩:∃r,L[n]?=some r:=⟨_,ah oO⟩;have hg:=vS hxi hr;rw[xD hxi hr,qKu hx i oO,di,hg,qCg];have hl:((gram L ids).take i).length=i:=by rw[fw];unfold gram;rw[ic];omega
  rw[hl,kg];simp only[yz,encG,av]
def qKt {L:List Rl}{ids:List Nat}(hx:∀x∈ids,1<=x/\x<=L.length) (nm:List (List UInt8×Nat)):encB L ids nm=encA (gram L ids) (nm.map fun p=>(p.1,numb ids p.2)):=by
 have hl:(gram L ids).length=ids.length:=ic _;unfold encB encA;rw[qKu hx _ (aj _),hl,dh oO,ic];congr 1;unfold encN encM;rw[List.flatMap_map];rfl
def qWf {L:List Rl}(hw:Wf L){ids:List Nat}(hx:AccOk L ids)(ho:Odr L ids):GOk 0 (gram L ids):=fun i r hr=>by
 have hil:i<ids.length:=by have:=(ag.1 hr).1;unfold gram at this;rwa [ic]at this
 obtain⟨x,hxi⟩:∃x,ids[i]?=some x:=⟨_,ah hil⟩;have hxx:=hx.2 x (ak hxi);obtain⟨n,rfl⟩:∃n,x=n+1:=⟨x-1,oO⟩;obtain⟨r0,hr0⟩:∃r,L[n]?=some r:=⟨_,ah oO⟩;rw[vS hxi hr0]at hr;cases hr
 have hsplit:ids=ids.take i++(n+1)::ids.drop (i+1):=by
  have:=ig i ids;rw[qHn hxi]at this;exact this.symm
 have htk:ids.take (i+1)=ids.take i++[n+1]:=by rw[di,hxi];rfl
 obtain⟨g1,g2⟩:=qQg htk (hw.ok _ _ hr0) (ho _ _ _ _ hsplit hr0);have hl:(ids.take i).length=i:=by rw[fw];omega
 have e:=g2 (ids.drop (i+1));rw[ig]at e;rw[hl]at g1;rw[e,kg];exact g1
def txt_gram {L:List Rl}(hw:Wf L){ids:List Nat}(hx:AccOk L ids)(ho:Odr L ids):∀(x:Nat),x=0\/x∈ids->txt (gram L ids) (numb ids x)=txt L x:=by
 intro x;induction x using Nat.strongRecOn with
 |ind x ih=>
  intro h
  rcases h with rfl| h
  ·have:numb ids 0=0:=fZ.2 fun h=>by have:=(hx.2 0 h).1;omega
   rw[this,jC,jC]
  have hat:=vY h
  have hne:numb ids x≠0:=fun e=>fZ.1 e h
  have hxx:=hx.2 x h
  obtain⟨n,rfl⟩:∃n,x=n+1:=⟨x-1,oO⟩
  obtain⟨r,hr⟩:∃r,L[n]?=some r:=⟨_,ah oO⟩
  obtain⟨i,hi⟩:∃i,numb ids (n+1)=i+1:=⟨numb ids (n+1)-1,oO⟩
  rw[hi,fe]at hat
  have hg:=vS hat hr
  have hok:=qWf hw hx ho i _ hg
  rw[kg]at hok
  have hlo:=hw.ok _ _ hr
  have hkids:∀k∈kids r,k∈ids:=ho.closed n r h hr
  have hkl:=jW hlo
  rw[hi]
  cases r with
  |letter b=>rw[fC hg,fC hr]
  |pair a b=>
   rw[iC hg hok,iC hr hlo,ih a (hkl a (by simp[kids])).2 (.inr (hkids a (by simp[kids]))),ih b (hkl b (by simp[kids])).2 (.inr (hkids b (by simp[kids])))]
  |power a k=>
   rw[iG hg hok,iG hr hlo,ih a (hkl a (by simp[kids])).2 (.inr (hkids a (by simp[kids])))]
end
section
inductive Iso (L1 L2:List Rl):Nat->Nat->Prop where
 |letter {n m:Nat} {c:UInt8}:L1[n]?=some (.letter c)->L2[m]?=some (.letter c)->Iso L1 L2 (n+1) (m+1)
 |pair {n m a b a' b':Nat}:L1[n]?=some (.pair a b)->L2[m]?=some (.pair a' b')->Iso L1 L2 a a'->Iso L1 L2 b b'->Iso L1 L2 (n+1) (m+1)
 |power {n m a a' k:Nat}:L1[n]?=some (.power a k)->L2[m]?=some (.power a' k)->Iso L1 L2 a a'->Iso L1 L2 (n+1) (m+1)
def Iso.symm {L1 L2:List Rl}{x y:Nat}(h:Iso L1 L2 x y):Iso L2 L1 y x:=by
 induction h with
 |letter h1 h2=>exact .letter h2 h1
 |pair h1 h2 _ _ ih1 ih2=>exact .pair h2 h1 ih1 ih2
 |power h1 h2 _ ih=>exact .power h2 h1 ih
def Iso.pos {L1 L2:List Rl}{x y:Nat}(h:Iso L1 L2 x y):1<=x/\1<=y:=by cases h<;>exact⟨zz _,zz _⟩
def Iso.fn {L1 L2:List Rl}(hw:Wf L2){x y z:Nat}(h:Iso L1 L2 x y)(h':Iso L1 L2 x z):y=z:=by
 induction h generalizing z with
 | @letter n m c h1 h2=>
  generalize e:n+1=x at h'
  cases h' with
  |letter g1 g2=>
   obtain rfl:=oU e
   rw[h1]at g1
   cases g1
   rw[hw.nodup _ _ _ h2 g2]
  |pair g1 _ _ _=>obtain rfl:=oU e;rw[h1]at g1;cases g1
  |power g1 _ _=>obtain rfl:=oU e;rw[h1]at g1;cases g1
 | @pair n m a b a' b' h1 h2 _ _ ih1 ih2=>
  generalize e:n+1=x at h'
  cases h' with
  |letter g1 _=>obtain rfl:=oU e;rw[h1]at g1;cases g1
  |pair g1 g2 ga gb=>
   obtain rfl:=oU e
   rw[h1]at g1
   cases g1
   obtain rfl:=ih1 ga
   obtain rfl:=ih2 gb
   rw[hw.nodup _ _ _ h2 g2]
  |power g1 _ _=>obtain rfl:=oU e;rw[h1]at g1;cases g1
 | @power n m a a' k h1 h2 _ ih=>
  generalize e:n+1=x at h'
  cases h' with
  |letter g1 _=>obtain rfl:=oU e;rw[h1]at g1;cases g1
  |pair g1 _ _ _=>obtain rfl:=oU e;rw[h1]at g1;cases g1
  |power g1 g2 ga=>
   obtain rfl:=oU e
   rw[h1]at g1
   cases g1
   obtain rfl:=ih ga
   rw[hw.nodup _ _ _ h2 g2]
def Iso.fn' {L1 L2:List Rl}(hw:Wf L1){x y z:Nat}(h:Iso L1 L2 x y)(h':Iso L1 L2 z y):x=z:=h.symm.fn hw h'.symm
def Iso.key {L1 L2:List Rl}(h1:Wf L1)(h2:Wf L2){x y:Nat}(h:Iso L1 L2 x y):Eg.key L1 x=Eg.key L2 y:=by
 induction h with
 |letter g1 g2=>rw[(jB g1).1,(jB g2).1]
 |pair g1 g2 _ _ ih1 ih2=>rw[(mK g1 (h1.ok _ _ g1)).1,(mK g2 (h2.ok _ _ g2)).1,ih1,ih2]
 |power g1 g2 _ ih=>rw[(lI g1 (h1.ok _ _ g1)).1,(lI g2 (h2.ok _ _ g2)).1,ih]
def Rel (L1 L2:List Rl)(A B:List Nat):Prop:=∃ps:List (Nat×Nat),A=ps.map (·.1)/\B=ps.map (·.2)/\∀p∈ps,Iso L1 L2 p.1 p.2
def Rel.nil (L1 L2:List Rl):Rel L1 L2 [] []:=⟨[],rfl,rfl,by simp⟩
def Rel.one {L1 L2:List Rl}{x y:Nat}(h:Iso L1 L2 x y):Rel L1 L2 [x] [y]:=⟨[(x,y)],rfl,rfl,fun p hp=>by rw[az.1 hp];exact h⟩
def Rel.app {L1 L2:List Rl}{A B A' B':List Nat}(h:Rel L1 L2 A B)(h':Rel L1 L2 A' B'):Rel L1 L2 (A++A') (B++B'):=by
 obtain⟨ps,rfl,rfl,h1⟩:=h;obtain⟨qs,rfl,rfl,h2⟩:=h';refine⟨ps++qs,by simp,by simp,fun p hp=>?_⟩;rcases bi.1 hp with hp|hp
 ·exact h1 p hp
 exact h2 p hp
def Rel.length {L1 L2:List Rl}{A B:List Nat}(h:Rel L1 L2 A B):A.length=B.length:=by
 obtain⟨ps,rfl,rfl,_⟩:=h;simp
def Rel.drop {L1 L2:List Rl}{A B:List Nat}(h:Rel L1 L2 A B)(k:Nat):Rel L1 L2 (A.drop k) (B.drop k):=by
 obtain⟨ps,rfl,rfl,h1⟩:=h;exact⟨ps.drop k,by rw[qx],by rw[qx],fun p hp=>h1 p (ow hp)⟩
def Rel.take {L1 L2:List Rl}{A B:List Nat}(h:Rel L1 L2 A B)(k:Nat):Rel L1 L2 (A.take k) (B.take k):=by
 obtain⟨ps,rfl,rfl,h1⟩:=h;exact⟨ps.take k,by rw[qf],by rw[qf],fun p hp=>h1 p (lm hp)⟩
def Rel.get {L1 L2:List Rl}{A B:List Nat}(h:Rel L1 L2 A B){i x y:Nat}(hx:A[i]?=some x)(hy:B[i]?=some y):Iso L1 L2 x y:=by
 obtain⟨ps,rfl,rfl,h1⟩:=h;rw[bu]at hx hy;cases e:ps[i]? with
 |none=>rw[e]at hx;cases hx
 |some p=>
  rw[e]at hx hy
  cases hx
  cases hy
  exact h1 p (ak e)
def Rel.keys {L1 L2:List Rl}(h1:Wf L1)(h2:Wf L2){A B:List Nat}(h:Rel L1 L2 A B):A.map (Eg.key L1)=B.map (Eg.key L2):=by
 obtain⟨ps,rfl,rfl,hp⟩:=h;rw[nz,nz];exact oZ fun p hp'=>(hp p hp').key h1 h2
def Rel.mem {L1 L2:List Rl}(h1:Wf L1)(h2:Wf L2){A B:List Nat}(h:Rel L1 L2 A B){x y:Nat}(hi:Iso L1 L2 x y):x∈A↔y∈B:=by
 obtain⟨ps,rfl,rfl,hp⟩:=h;constructor
 ·intro hx;obtain⟨p,hp1,rfl⟩:=dw.1 hx;rw[hi.fn h2 (hp p hp1)];exact dw.2 ⟨p,hp1,O⟩
 intro hy;obtain⟨p,hp1,rfl⟩:=dw.1 hy;rw[hi.fn' h1 (hp p hp1)];exact dw.2 ⟨p,hp1,O⟩
def Lts.rel {L1 L2:List Rl}{A B:List Nat}{bs:List UInt8}(h:Lts L1 A bs)(h':Lts L2 B bs):Rel L1 L2 A B:=by
 induction h generalizing B with
 |nil=>rw[h'.nil_inv];exact .nil _ _
 |snoc _ g1 ih=>
  generalize e:(_++[_]:List UInt8)=c at h'
  cases h' with
  |nil=>simp at e
  |snoc g2 g3=>
   obtain⟨rfl,rfl⟩:=vF e
   exact(ih g2).app (.one (.letter g1 g3))
def runs_rel {L1 L2:List Rl}(h1:Wf L1)(h2:Wf L2){ps:List (Nat×Nat)}(hp:∀p∈ps,Iso L1 L2 p.1 p.2):∃qs:List ((Nat×Nat)×Nat),dE (ps.map (·.1))=qs.map (fun q=>(q.1.1,q.2))/\dE (ps.map (·.2))=qs.map (fun q=>(q.1.2,q.2))/\∀q∈qs,Iso L1 L2 q.1.1 q.1.2:=by
 generalize hn:ps.length=n;induction n generalizing ps with
 |zero=>obtain rfl:=cz hn;exact⟨[],rfl,rfl,by simp⟩
 |succ n ih=>
  rcases bv ps with rfl|⟨ps,p,rfl⟩
  ·simp at hn
  rw[bz]at hp hn ⊢
  obtain⟨qs,e1,e2,hq⟩:=ih (ps:=ps) (fun p' hp'=>hp p' (by simp[hp'])) (by simpa using hn)
  have hpp:=hp p (by simp)
  simp only[jh,jr,oW]
  rw[iU,iU,e1,e2]
  rcases bv qs with rfl|⟨qs,⟨⟨y1,y2⟩,k⟩,rfl⟩
  ·exact⟨[(p,1)],by simp[qC],by simp[qC],fun q h=>by rw[az.1 h];exact hpp⟩
  rw[bz]at hq ⊢
  have hy:=hq ((y1,y2),k) (by simp)
  simp only[jh,jr,oW]
  by_cases e:y1=p.1
  ·have e':y2=p.2:=by subst e;exact hy.fn h2 hpp
   rw[e,e',jL,jL]
   refine⟨qs++[(p,k+1)],by simp,by simp,fun q h=>?_⟩
   rcases bi.1 h with h| h
   ·exact hq q (by simp[h])
   rw[az.1 h];exact hpp
  have e':¬y2=p.2:=fun e'=>e (by subst e';exact hy.fn' h1 hpp)
  rw[kE _ e,kE _ e']
  refine⟨qs++[((y1,y2),k)]++[(p,1)],by simp,by simp,fun q h=>?_⟩
  rcases bi.1 h with h| h
  ·exact hq q h
  rw[az.1 h];exact hpp
def Rns.nil_inv {L:List Rl}{out:List Nat}(h:Rns L [] out):out=[]:=by
 generalize e:([]:List (Nat×Nat))=c at h;cases h with
 |nil=>rfl
 |snoc _ _=>simp at e
def Rns.snoc_inv {L:List Rl}{rs:List (Nat×Nat)}{x t:Nat}{out:List Nat}(h:Rns L (rs++[(x,t)]) out):∃o id,out=o++[id]/\Rns L rs o/\RunId L x t id:=by
 generalize e:rs++[(x,t)]=c at h;cases h with
 |nil=>simp at e
 |snoc g1 g2=>
  obtain⟨rfl,e2⟩:=vF e
  cases e2
  exact⟨_,_,O,g1,g2⟩
def Rns.rel {L1 L2:List Rl}{qs:List ((Nat×Nat)×Nat)}(hq:∀q∈qs,Iso L1 L2 q.1.1 q.1.2) {o1 o2:List Nat} (h:Rns L1 (qs.map fun q=>(q.1.1,q.2)) o1) (h':Rns L2 (qs.map fun q=>(q.1.2,q.2)) o2):Rel L1 L2 o1 o2:=by
 generalize hn:qs.length=n;induction n generalizing qs o1 o2 with
 |zero=>
  obtain rfl:=cz hn
  rw[h.nil_inv,h'.nil_inv]
  exact .nil _ _
 |succ n ih=>
  rcases bv qs with rfl|⟨qs,⟨⟨x1,x2⟩,t⟩,rfl⟩
  ·simp at hn
  rw[bz]at hq hn h h'
  simp only[jh,jr,oW]at h h'
  obtain⟨a,i,rfl,g1,g2⟩:=h.snoc_inv
  obtain⟨b,j,rfl,k1,k2⟩:=h'.snoc_inv
  refine(ih (qs:=qs) (fun q h=>hq q (by simp[h])) g1 k1 (by simpa using hn)).app (.one ?_)
  have hx:=hq ((x1,x2),t) (by simp)
  rcases g2 with⟨e1,rfl⟩|⟨e1,i',rfl,hi⟩<;>rcases k2 with⟨e2,rfl⟩|⟨e2,j',rfl,hj⟩
  ·exact hx
  ·omega
  ·omega
  exact .power hi hj hx
def Prs.rel {L1 L2:List Rl}{A B:List Nat}(hr:Rel L1 L2 A B){js o1 o2:List Nat}{a a':Nat}(h:Prs L1 A js a o1)(h':Prs L2 B js a' o2):a=a'/\Rel L1 L2 o1 o2:=by
 induction h generalizing a' o2 with
 |nil=>
  generalize e:([]:List Nat)=c at h'
  cases h' with
  |nil=>exact⟨rfl,.nil _ _⟩
  |snoc _ _ _ _ _=>simp at e
 |snoc h1 h2 h3 h4 h5 ih=>
  generalize e:(_++[_]:List Nat)=c at h'
  cases h' with
  |nil=>simp at e
  |snoc g1 g2 g3 g4 g5=>
   obtain⟨rfl,rfl⟩:=vF e
   obtain⟨rfl,hro⟩:=ih g1
   exact⟨O,(hro.app ((hr.drop _).take _)).app (.one (.pair h5 g5 (hr.get h3 g3) (hr.get h4 g4)))⟩
def Rch.rel {L1 L2:List Rl}(w1:Wf L1)(w2:Wf L2){bs:List UInt8}{lv:Nat}{A B:List Nat}(h:Rch L1 bs lv A)(h':Rch L2 bs lv B):Rel L1 L2 A B:=by
 induction h generalizing B with
 |start h=>
  generalize e:1=l at h'
  cases h' with
  |start g=>exact h.rel g
  |odd g _ _ _=>have:=g.pos;omega
  |even g _ _ _ _=>have:=g.pos;omega
 |odd h h1 h2 h3 ih=>
  generalize e:_+1=l at h'
  cases h' with
  |start g=>have:=h.pos;omega
  |odd g g1 g2 g3=>
   obtain rfl:=oU e
   obtain⟨ps,rfl,rfl,hp⟩:=ih g
   obtain⟨qs,e1,e2,hq⟩:=runs_rel w1 w2 hp
   rw[e1]at h3
   rw[e2]at g3
   exact Rns.rel hq h3 g3
  |even g g1 _ _ _=>omega
 |even h h1 h2 h3 h4 ih=>
  generalize e:_+1=l at h'
  cases h' with
  |start g=>have:=h.pos;omega
  |odd g g1 g2 g3=>omega
  |even g g1 g2 g3 g4=>
   obtain rfl:=oU e
   have hr:=ih g
   rw[hr.keys w1 w2]at h4
   obtain⟨rfl,ho⟩:=Prs.rel hr h4 g4
   exact ho.app (hr.drop _)
def Sg.rel {L1 L2:List Rl}(w1:Wf L1)(w2:Wf L2){bs:List UInt8}{x y:Nat}(h:Sg L1 bs x)(h':Sg L2 bs y):(x=0/\y=0)\/Iso L1 L2 x y:=by
 rcases h with⟨h1,h2⟩|⟨lv,h⟩<;>rcases h' with⟨g1,g2⟩|⟨lv',h'⟩
 ·exact .inl ⟨h2,g2⟩
 ·exact absurd h1 h'.nonempty
 ·exact absurd g1 h.nonempty
 right
 have key:lv=lv':=by
  rcases si lv lv' with hl|hl|hl
  ·obtain⟨r,hr,h2⟩:=h'.before lv h.pos hl;have:=(h.rel w1 w2 hr).length;simp at this;omega
  ·exact hl
  obtain⟨r,hr,h2⟩:=h.before lv' h'.pos hl;have:=(hr.rel w1 w2 h').length;simp at this;omega
 subst key;exact(h.rel w1 w2 h').get (i:=0) O O
def qZk {L1 L2:List Rl}(w1:Wf L1)(w2:Wf L2){x y:Nat}(h:Iso L1 L2 x y):∀{A B:List Nat},Rel L1 L2 A B->Rel L1 L2 (visit L1 x A) (visit L2 y B):=by
 induction h with
 | @letter n m c g1 g2=>
  intro A B hr
  have hi:Iso L1 L2 (n+1) (m+1):= .letter g1 g2
  by_cases hm:n+1∈A
  ·rw[kH hm,kH ((hr.mem w1 w2 hi).1 hm)];exact hr
  rw[gQ w1 g1 hm,gQ w2 g2 (fun h=>hm ((hr.mem w1 w2 hi).2 h))]
  exact hr.app (.one hi)
 | @pair n m a b a' b' g1 g2 ha hb ih1 ih2=>
  intro A B hr
  have hi:Iso L1 L2 (n+1) (m+1):= .pair g1 g2 ha hb
  by_cases hm:n+1∈A
  ·rw[kH hm,kH ((hr.mem w1 w2 hi).1 hm)];exact hr
  rw[gQ w1 g1 hm,gQ w2 g2 (fun h=>hm ((hr.mem w1 w2 hi).2 h))]
  exact(ih2 (ih1 hr)).app (.one hi)
 | @power n m a a' k g1 g2 ha ih=>
  intro A B hr
  have hi:Iso L1 L2 (n+1) (m+1):= .power g1 g2 ha
  by_cases hm:n+1∈A
  ·rw[kH hm,kH ((hr.mem w1 w2 hi).1 hm)];exact hr
  rw[gQ w1 g1 hm,gQ w2 g2 (fun h=>hm ((hr.mem w1 w2 hi).2 h))]
  exact(ih hr).app (.one hi)
def qGt {L1 L2:List Rl}(w1:Wf L1)(w2:Wf L2):∀{xs ys A B:List Nat},xs.length=ys.length->(∀(i x y:Nat),xs[i]?=some x->ys[i]?=some y->(x=0/\y=0)\/Iso L1 L2 x y)->Rel L1 L2 A B->Rel L1 L2 (dD L1 xs A) (dD L2 ys B)
 |[],[],_,_,_,_,h=>h
 |[],_::_,_,_,h,_,_=>by simp at h
 |_::_,[],_,_,h,_,_=>by simp at h
 |x::xs,y::ys,A,B,hl,hx,h=>by
  rw[fO,fO];refine qGt w1 w2 (by simpa using hl) (fun i x' y' h1 h2=>hx (i+1) x' y' (by simpa using h1) (by simpa using h2)) ?_;rcases hx 0 x y rfl rfl with⟨rfl,rfl⟩|hi
  ·rw[jP,jP];exact h
  exact qZk w1 w2 hi h
def xW {L1 L2:List Rl}(w1:Wf L1)(w2:Wf L2){x y:Nat}(hi:Iso L1 L2 x y):∀{ps:List (Nat×Nat)},(∀p∈ps,Iso L1 L2 p.1 p.2)->numb (ps.map (·.1)) x=numb (ps.map (·.2)) y
 |[],_=>rfl
 |p::ps,hp=>by
  have ih:=xW w1 w2 hi (ps:=ps) fun q h=>hp q (by simp[h])
  have hpp:=hp p (by simp);simp only[jr,numb];rw[ih];by_cases e:p.1=x
  ·have e':p.2=y:=by subst e;exact hpp.fn w2 hi
   rw[if_pos e,if_pos e']
  have e':¬p.2=y:=fun e'=>e (by subst e';exact hpp.fn' w1 hi)
  rw[if_neg e,if_neg e']
def gram_rel {L1 L2:List Rl}(w1:Wf L1)(w2:Wf L2){A B:List Nat}(h:Rel L1 L2 A B):gram L1 A=gram L2 B:=by
 obtain⟨ps,rfl,rfl,hp⟩:=h;unfold gram;rw[nz,nz];refine oZ fun p hp'=>?_
 have hi:=hp p hp';obtain⟨x,y⟩:=p;simp only[Function.comp]at hi ⊢;cases hi with
 |letter g1 g2=>simp[jg,g1,g2,iO]
 |pair g1 g2 ha hb=>simp[jg,g1,g2,iO,xW w1 w2 ha hp,xW w1 w2 hb hp]
 |power g1 g2 ha=>simp[jg,g1,g2,iO,xW w1 w2 ha hp]
end
section
def imP (l:List Im):List (List UInt8×List UInt8):=l.map fun x=>(x.name,x.bs)
structure EqL (L:List Rl)(l:List Im)(ids ys:List Nat):Prop where
 wf:Wf L
 il:ids.length=l.length
 yl:ys.length=l.length
 tx:Txs L l ids
 sg:SigL L ids ys
variable {L L1 L2:List Rl}{l l1 l2:List Im}{ids ys ids1 ids2 y1 y2:List Nat}
def EqL.bound (h:EqL L l ids ys):∀y∈ys,y<=L.length:=h.sg.bound (by rw[h.yl,h.il])
def EqL.acc (h:EqL L l ids ys):AccOk L (dD L ys []):=AccOk.visits h.wf h.bound
def EqL.at (h:EqL L l ids ys){i y:Nat}(hy:ys[i]?=some y):∃x id,l[i]?=some x/\ids[i]?=some id/\SigOf L id y/\txt L id=x.bs:=by
 have hi:=(ag.1 hy).1;have h1:=h.il;have h2:=h.yl;obtain⟨x,hx⟩:∃x,l[i]?=some x:=⟨_,ah oO⟩;obtain⟨id,hid⟩:∃x,ids[i]?=some x:=⟨_,ah oO⟩;exact⟨x,id,hx,hid,h.sg i id y hid hy,(h.tx i x id hx hid).2⟩
def mkN_fst (h:ids.length=l.length):(mkN l ids).map (·.1)=l.map (·.name):=by
 unfold mkN;rw[nz];have e:((fun x:List UInt8×Int=>x.1)∘fun p:Im×Nat=>(p.1.name,(p.2:Int)))=(fun x:Im=>x.name)∘Prod.fst:=rfl;rw[e,<-nz,List.map_fst_zip oO]
def EqL.enc (h:EqL L l ids ys):encB L (dD L ys []) (nmY (mkN l ids) ys)=encA (gram L (dD L ys [])) ((l.map (·.name)).zip (ys.map (numb (dD L ys [])))):=by
 rw[qKt h.acc.2];congr 1;unfold nmY;rw[mkN_fst h.il,List.zip_map_right];rfl
def EqL.same (h1:EqL L1 l1 ids1 y1)(h2:EqL L2 l2 ids2 y2)(e:imP l1=imP l2):encB L1 (dD L1 y1 []) (nmY (mkN l1 ids1) y1)=encB L2 (dD L2 y2 []) (nmY (mkN l2 ids2) y2):=by
 have a1:=h1.yl;have a2:=h2.yl
 have el:l1.length=l2.length:=by
  have:=bg List.length e;simpa[imP]using this
 have en:l1.map (·.name)=l2.map (·.name):=by
  have:=bg (List.map Prod.fst) e;simpa[imP,nz,Function.comp_def]using this
 have hx:∀(i x y:Nat),y1[i]?=some x->y2[i]?=some y->(x=0/\y=0)\/Iso L1 L2 x y:=fun i x y hi hj=>by
  obtain⟨u,id,g1,g2,g3,g4⟩:=h1.at hi;obtain⟨v,jd,k1,k2,k3,k4⟩:=h2.at hj;have e1:(imP l1)[i]?=some (u.name,u.bs):=by unfold imP;rw[bu,g1];rfl
  have e2:(imP l2)[i]?=some (v.name,v.bs):=by unfold imP;rw[bu,k1];rfl
  rw[e,e2]at e1;have e3:v.bs=u.bs:=(Prod.mk.inj (mg e1)).2;have s1:Sg L1 u.bs x:=by rw[<-g4];exact g3.2.2.2
  have s2:Sg L2 u.bs y:=by rw[<-e3,<-k4];exact k3.2.2.2
  exact Sg.rel h1.wf h2.wf s1 s2
 have hr:=qGt h1.wf h2.wf oO hx (Rel.nil L1 L2);have z1:0∉dD L1 y1 []:=fun h=>by have:=(h1.acc.2 0 h).1;omega
 have z2:0∉dD L2 y2 []:=fun h=>by have:=(h2.acc.2 0 h).1;omega
 have em:y1.map (numb (dD L1 y1 []))=y2.map (numb (dD L2 y2 [])):=by
  apply kz;intro i;rw[bu,bu];rcases ed i y1.length with hi|hi
  ·obtain⟨x,hx1⟩:∃x,y1[i]?=some x:=⟨_,ah hi⟩;obtain⟨y,hy1⟩:∃x,y2[i]?=some x:=⟨_,ah oO⟩;rw[hx1,hy1];refine bg some ?_;rcases hx i x y hx1 hy1 with⟨rfl,rfl⟩|hi
   ·rw[fZ.2 z1,fZ.2 z2]
   obtain⟨ps,e1,e2,hp⟩:=hr;rw[e1,e2];exact xW h1.wf h2.wf hi hp
  rw[fq hi,fq oO];rfl
 rw[h1.enc,h2.enc,gram_rel h1.wf h2.wf hr,en,em]
end
section
variable {E:Env}{Es:List Ent}{pp tb s most m bm:Nat}{f:Int->Option Value}
structure EqG where
 i:Nat
 e:Bool
def EqOk (l r:List Im)(q:EqG):Prop:=q.i<=l.length/\(q.e=true↔l.length=r.length/\imP (l.take q.i)=imP (r.take q.i))
def EqOk.all {l r:List Im}{e:Bool}(h:EqOk l r ⟨l.length,e⟩):e=decide (imP l=imP r):=by
 have h2:=h.2;simp only at h2;by_cases hh:imP l=imP r
 ·have hl:l.length=r.length:=by have:=bg List.length hh;simpa[imP]using this
  rw[lq hh];refine h2.2 ⟨hl,?_⟩;rw[dh (aj _),dh oO];exact hh
 rw[ma hh];cases e with
 |false=>rfl
 |true=>
  obtain⟨hl,ht⟩:=h2.1 rfl
  rw[dh (aj _),dh oO]at ht
  exact absurd ht hh
end
section
def qId {V:List Nat}{x y:Nat}(hx:x∈V)(h:numb V x=numb V y):x=y:=by
 have h1:=vY hx;have hy:y∈V:=Classical.byContradiction fun hy=>fZ.1 (h.trans (fZ.2 hy)) hx
 have h2:=vY hy;rw[h,h2]at h1;exact(mg h1).symm
def qIe {V:List Nat}{x:Nat}(h:x∈V):1<=numb V x:=by
 have:numb V x≠0:=fun e=>fZ.1 e h
 omega
structure Lis (L:List Rl)(V:List Nat):Prop where
 wf:Wf L
 acc:AccOk L V
 ord:Odr L V
variable {L:List Rl}{V:List Nat}
def Lis.closed (h:Lis L V):Closed L V:=h.ord.closed
def Lis.mem (h:Lis L V){x:Nat}(hx:x∈V):∃n r,x=n+1/\L[n]?=some r/\∀k∈kids r,k∈V:=by
 have hb:=h.acc.2 x hx;obtain⟨n,rfl⟩:∃n,x=n+1:=⟨x-1,oO⟩;obtain⟨r,hr⟩:∃r,L[n]?=some r:=⟨_,ah oO⟩;exact⟨n,r,O,hr,h.closed n r hx hr⟩
def rF:(gram L V).length=V.length:=ic _
def Lis.get (h:Lis L V){n:Nat}{r:Rl}(hx:n+1∈V)(hr:L[n]?=some r):∃i,numb V (n+1)=i+1/\(gram L V)[i]?=some (iO V r):=by
 have h1:=qIe hx;refine⟨numb V (n+1)-1,oO,vS (vY hx) hr⟩
def Lis.zero (h:Lis L V):0∉V:=fun h0=>by have:=(h.acc.2 0 h0).1;omega
def Lis.one (h:Lis L V){i:Nat}{r:Rl}(hr:(gram L V)[i]?=some r):∃n q,V[i]?=some (n+1)/\L[n]?=some q/\r=iO V q/\numb V (n+1)=i+1:=by
 have hil:i<V.length:=by have:=(ag.1 hr).1;rwa [rF]at this
 obtain⟨x,hxi⟩:∃x,V[i]?=some x:=⟨_,ah hil⟩;have hm:=ak hxi;obtain⟨n,q,rfl,hq,_⟩:=h.mem hm;rw[vS hxi hq]at hr;refine⟨n,q,hxi,hq,(mg hr).symm,?_⟩;have h1:=vY hm;have h2:=qIe hm;have h3:=vZ V (n+1)
 have:numb V (n+1)-1=i:=by
  have hnd:=h.acc.1;exact(zl oO hnd).1 (h1.trans hxi.symm)
 omega
def qXs {q q':Rl}(h1:∀k∈kids q,k∈V) (h2:∀k∈kids q',k∈V) (h:iO V q=iO V q'):q=q':=by
 cases q<;>cases q'<;>simp only[iO,Rl.letter.injEq,Rl.pair.injEq,Rl.power.injEq,reduceCtorEq]at h
 ·rw[h]
 ·rw[qId (h1 _ (by simp[kids])) h.1,qId (h1 _ (by simp[kids])) h.2]
 rw[qId (h1 _ (by simp[kids])) h.1,h.2]
def Lis.gwf (h:Lis L V):Wf (gram L V):=by
 have hok:=qWf h.wf h.acc h.ord;refine⟨fun i r hr=>by have:=hok i r hr;rwa [kg]at this,fun i j r hi hj=>?_,fun i=>?_,by rw[rF];exact iw h.acc.len h.wf.room⟩
 ·obtain⟨n,q,v1,q1,e1,m1⟩:=h.one hi;obtain⟨n',q',v2,q2,e2,m2⟩:=h.one hj;have k1:=h.closed n q (ak v1) q1;have k2:=h.closed n' q' (ak v2) q2;obtain rfl:=qXs k1 k2 (e1.symm.trans e2);obtain rfl:=h.wf.nodup _ _ _ q1 q2;omega
 rcases ed (gram L V).length i with hi|hi
 ·rw[qHz hi];exact au _
 cases i with
 |zero=>rw[qBd];exact au _
 |succ i=>
  obtain⟨r,hr⟩:∃r,(gram L V)[i]?=some r:=⟨_,ah oO⟩
  obtain⟨n,q,v1,q1,e1,m1⟩:=h.one hr
  have:=txt_gram h.wf h.acc h.ord (n+1) (.inr (ak v1))
  rw[m1]at this
  unfold len
  rw[this]
  exact h.wf.short (n+1)
def Lis.iso (h:Lis L V):∀x,x∈V->Iso L (gram L V) x (numb V x):=by
 intro x;induction x using Nat.strongRecOn with
 |ind x ih=>
  intro hx
  obtain⟨n,r,rfl,hr,hk⟩:=h.mem hx
  obtain⟨i,e,hg⟩:=h.get hx hr
  have hkl:=jW (h.wf.ok _ _ hr)
  rw[e]
  cases r with
  |letter b=>exact .letter hr hg
  |pair a b=>exact .pair hr hg (ih a (hkl a (by simp[kids])).2 (hk a (by simp[kids]))) (ih b (hkl b (by simp[kids])).2 (hk b (by simp[kids])))
  |power a t=>exact .power hr hg (ih a (hkl a (by simp[kids])).2 (hk a (by simp[kids])))
end
