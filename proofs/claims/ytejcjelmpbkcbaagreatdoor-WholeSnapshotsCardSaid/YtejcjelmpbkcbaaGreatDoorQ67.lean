import Derived.Test.YtejcjelmpbkcbaaGreatDoorQ62
set_option linter.all false
set_option maxHeartbeats 1000000
namespace Go.Proofs.YtejcjelmpbkcbaaGreatDoor
open Go Go.RowKit Sl Eg
set_option maxRecDepth 10000
section
variable {E:Env}{Es:List Ent}{pp tb s most m bm:Nat}{f:Int→Option Value}
def SigOf.fn {L:List Rl}(hw:Wf L){x y y':Nat}(h:SigOf L x y)(h':SigOf L x y'):y=y':=Sg.fn hw h.2.2.2 h'.2.2.2
def SigL.fn {L:List Rl}(hw:Wf L){xs ys ys':List Nat}(h:SigL L xs ys)(h':SigL L xs ys')(hl:ys.length=xs.length)(hl':ys'.length=xs.length):ys=ys':=by
 apply nu;intro i;rcases ed i xs.length with hi|hi
 ·obtain⟨x,hx⟩:∃x,xs[i]?=some x:=⟨_,ag hi⟩;obtain⟨y,hy⟩:∃y,ys[i]?=some y:=⟨_,ag oO⟩;obtain⟨y',hy'⟩:∃y,ys'[i]?=some y:=⟨_,ag oO⟩;rw[hy,hy',(h i x y hx hy).fn hw (h' i x y' hx hy')]
 rw[ig oO,ig oO]
def SigL.bound {L:List Rl}{xs ys:List Nat}(h:SigL L xs ys)(hl:ys.length=xs.length):∀y∈ys,y≤L.length:=fun y hy=>by
 obtain⟨i,hi⟩:=kg hy;have hil:=(ae.1 hi).1;obtain⟨x,hx⟩:∃x,xs[i]?=some x:=⟨_,ag oO⟩;exact(h i x y hx hi).2.2.1.1
def qSx {l:List Im}{ids:List Nat}(h:ids.length=l.length):(mkN l ids).length=l.length:=by simp[mkN,h]
def mkN_at {l:List Im}{ids:List Nat}{i id:Nat}{x:Im}(hx:l[i]?=some x)(hi:ids[i]?=some id):(mkN l ids)[i]?=some (x.name,(id:Int)):=by
 unfold mkN;rw[bq];have:(l.zip ids)[i]?=some (x,id):=by rw[ym];exact⟨hx,hi⟩
 rw[this];rfl
end
section
def encG:Nat→List Rl→List UInt8
 |_,[]=>[]
 |k,r::G=>rulB (k+1) r++encG (k+1) G
def GOk (k:Nat)(G:List Rl):Prop:=∀(i:Nat)(r:Rl),G[i]?=some r→r.ok (k+i+1)
def qCg:∀(A B:List Rl)(k:Nat),encG k (A++B)=encG k A++encG (k+A.length) B
 |[],B,k=>rfl
 |r::A,B,k=>by
  simp only[ik,encG,ah,qCg A B (k+1),av];rw[show k+1+A.length=k+(A.length+1) by omega]
def encM (l:List (List UInt8×Nat)):List UInt8:=l.flatMap fun p=>pU p.1++vput p.2
def encA (G:List Rl)(A:List (List UInt8×Nat)):List UInt8:=vput G.length++encG 0 G++vput A.length++encM A
def gram (L:List Rl)(ids:List Nat):List Rl:=ids.map fun x=>kL ids (L.getD (x-1) (.letter 0))
def qWd {L:List Rl}{ids:List Nat}{i n:Nat}{r:Rl}(h:ids[i]?=some (n+1))(hr:L[n]?=some r):(gram L ids)[i]?=some (kL ids r):=by
 unfold gram;rw[bq,h];simp only[xe,dw,fe,hr,uk]
def qKv {L:List Rl}{ids:List Nat}(hx:∀x∈ids,1≤x∧x≤L.length):∀i,i≤ids.length→encR L ids i=encG 0 ((gram L ids).take i)
 |0,_=>rfl
 |i+1,hi=>by
  obtain⟨x,hxi⟩:∃x,ids[i]?=some x:=⟨_,ag oO⟩;have hxx:=hx x (ay hxi);obtain⟨n,rfl⟩:∃n,x=n+1:=⟨x-1,oO⟩;obtain⟨r,hr⟩:∃r,L[n]?=some r:=⟨_,ag oO⟩;have hg:=qWd hxi hr;rw[xG hxi hr,qKv hx i oO,ic,hg,qCg];have hl:((gram L ids).take i).length=i:=by rw[jv];unfold gram;rw[ku];omega
  rw[hl,jg];simp only[Option.toList_some,encG,aj]
def qKu {L:List Rl}{ids:List Nat}(hx:∀x∈ids,1≤x∧x≤L.length) (nm:List (List UInt8×Nat)):encB L ids nm=encA (gram L ids) (nm.map fun p=>(p.1,numb ids p.2)):=by
 have hl:(gram L ids).length=ids.length:=ku _;unfold encB encA;rw[qKv hx _ (ai _),hl,bz oO,ku];congr 1;unfold encN encM;rw[List.flatMap_map];rfl
end
section
inductive Iso (L1 L2:List Rl):Nat→Nat→Prop where
 |letter {n m:Nat} {c:UInt8}:L1[n]?=some (.letter c)→L2[m]?=some (.letter c)→Iso L1 L2 (n+1) (m+1)
 |pair {n m a b a' b':Nat}:L1[n]?=some (.pair a b)→L2[m]?=some (.pair a' b')→Iso L1 L2 a a'→Iso L1 L2 b b'→Iso L1 L2 (n+1) (m+1)
 |power {n m a a' k:Nat}:L1[n]?=some (.power a k)→L2[m]?=some (.power a' k)→Iso L1 L2 a a'→Iso L1 L2 (n+1) (m+1)
def Iso.symm {L1 L2:List Rl}{x y:Nat}(h:Iso L1 L2 x y):Iso L2 L1 y x:=by
 induction h with
 |letter h1 h2=>exact .letter h2 h1
 |pair h1 h2 _ _ ih1 ih2=>exact .pair h2 h1 ih1 ih2
 |power h1 h2 _ ih=>exact .power h2 h1 ih
def Iso.pos {L1 L2:List Rl}{x y:Nat}(h:Iso L1 L2 x y):1≤x∧1≤y:=by cases h<;>exact⟨Nat.succ_pos _,Nat.succ_pos _⟩
def Iso.fn {L1 L2:List Rl}(hw:Wf L2){x y z:Nat}(h:Iso L1 L2 x y)(h':Iso L1 L2 x z):y=z:=by
 induction h generalizing z with
 | @letter n m c h1 h2=>
  generalize e:n+1=x at h'
  cases h' with
  |letter g1 g2=>
   obtain rfl:=oI e
   rw[h1]at g1
   cases g1
   rw[hw.nodup _ _ _ h2 g2]
  |pair g1 _ _ _=>obtain rfl:=oI e;rw[h1]at g1;cases g1
  |power g1 _ _=>obtain rfl:=oI e;rw[h1]at g1;cases g1
 | @pair n m a b a' b' h1 h2 _ _ ih1 ih2=>
  generalize e:n+1=x at h'
  cases h' with
  |letter g1 _=>obtain rfl:=oI e;rw[h1]at g1;cases g1
  |pair g1 g2 ga gb=>
   obtain rfl:=oI e
   rw[h1]at g1
   cases g1
   obtain rfl:=ih1 ga
   obtain rfl:=ih2 gb
   rw[hw.nodup _ _ _ h2 g2]
  |power g1 _ _=>obtain rfl:=oI e;rw[h1]at g1;cases g1
 | @power n m a a' k h1 h2 _ ih=>
  generalize e:n+1=x at h'
  cases h' with
  |letter g1 _=>obtain rfl:=oI e;rw[h1]at g1;cases g1
  |pair g1 _ _ _=>obtain rfl:=oI e;rw[h1]at g1;cases g1
  |power g1 g2 ga=>
   obtain rfl:=oI e
   rw[h1]at g1
   cases g1
   obtain rfl:=ih ga
   rw[hw.nodup _ _ _ h2 g2]
def Iso.fn' {L1 L2:List Rl}(hw:Wf L1){x y z:Nat}(h:Iso L1 L2 x y)(h':Iso L1 L2 z y):x=z:=h.symm.fn hw h'.symm
def Iso.key {L1 L2:List Rl}(h1:Wf L1)(h2:Wf L2){x y:Nat}(h:Iso L1 L2 x y):Eg.key L1 x=Eg.key L2 y:=by
 induction h with
 |letter g1 g2=>rw[(jD g1).1,(jD g2).1]
 |pair g1 g2 _ _ ih1 ih2=>rw[(nI g1 (h1.ok _ _ g1)).1,(nI g2 (h2.ok _ _ g2)).1,ih1,ih2]
 |power g1 g2 _ ih=>rw[(mY g1 (h1.ok _ _ g1)).1,(mY g2 (h2.ok _ _ g2)).1,ih]
def Rel (L1 L2:List Rl)(A B:List Nat):Prop:=∃ps:List (Nat×Nat),A=ps.map (·.1)∧B=ps.map (·.2)∧∀p∈ps,Iso L1 L2 p.1 p.2
def Rel.nil (L1 L2:List Rl):Rel L1 L2 [] []:=⟨[],rfl,rfl,by simp⟩
def Rel.one {L1 L2:List Rl}{x y:Nat}(h:Iso L1 L2 x y):Rel L1 L2 [x] [y]:=⟨[(x,y)],rfl,rfl,fun p hp=>by rw[bg.1 hp];exact h⟩
def Rel.app {L1 L2:List Rl}{A B A' B':List Nat}(h:Rel L1 L2 A B)(h':Rel L1 L2 A' B'):Rel L1 L2 (A++A') (B++B'):=by
 obtain⟨ps,rfl,rfl,h1⟩:=h;obtain⟨qs,rfl,rfl,h2⟩:=h';refine⟨ps++qs,by simp,by simp,fun p hp=>?_⟩;rcases bn.1 hp with hp|hp
 ·exact h1 p hp
 exact h2 p hp
def Rel.length {L1 L2:List Rl}{A B:List Nat}(h:Rel L1 L2 A B):A.length=B.length:=by
 obtain⟨ps,rfl,rfl,_⟩:=h;simp
def Rel.drop {L1 L2:List Rl}{A B:List Nat}(h:Rel L1 L2 A B)(k:Nat):Rel L1 L2 (A.drop k) (B.drop k):=by
 obtain⟨ps,rfl,rfl,h1⟩:=h;exact⟨ps.drop k,by rw[qy],by rw[qy],fun p hp=>h1 p (ol hp)⟩
def Rel.take {L1 L2:List Rl}{A B:List Nat}(h:Rel L1 L2 A B)(k:Nat):Rel L1 L2 (A.take k) (B.take k):=by
 obtain⟨ps,rfl,rfl,h1⟩:=h;exact⟨ps.take k,by rw[qg],by rw[qg],fun p hp=>h1 p (lc hp)⟩
def Rel.get {L1 L2:List Rl}{A B:List Nat}(h:Rel L1 L2 A B){i x y:Nat}(hx:A[i]?=some x)(hy:B[i]?=some y):Iso L1 L2 x y:=by
 obtain⟨ps,rfl,rfl,h1⟩:=h;rw[bq]at hx hy;cases e:ps[i]? with
 |none=>rw[e]at hx;cases hx
 |some p=>
  rw[e]at hx hy
  cases hx
  cases hy
  exact h1 p (ay e)
def Rel.keys {L1 L2:List Rl}(h1:Wf L1)(h2:Wf L2){A B:List Nat}(h:Rel L1 L2 A B):A.map (Eg.key L1)=B.map (Eg.key L2):=by
 obtain⟨ps,rfl,rfl,hp⟩:=h;rw[mi,mi];exact oD fun p hp'=>(hp p hp').key h1 h2
def Rel.mem {L1 L2:List Rl}(h1:Wf L1)(h2:Wf L2){A B:List Nat}(h:Rel L1 L2 A B){x y:Nat}(hi:Iso L1 L2 x y):x∈A↔y∈B:=by
 obtain⟨ps,rfl,rfl,hp⟩:=h;constructor
 ·intro hx;obtain⟨p,hp1,rfl⟩:=fq.1 hx;rw[hi.fn h2 (hp p hp1)];exact fq.2 ⟨p,hp1,O⟩
 intro hy;obtain⟨p,hp1,rfl⟩:=fq.1 hy;rw[hi.fn' h1 (hp p hp1)];exact fq.2 ⟨p,hp1,O⟩
def Lts.rel {L1 L2:List Rl}{A B:List Nat}{bs:List UInt8}(h:Lts L1 A bs)(h':Lts L2 B bs):Rel L1 L2 A B:=by
 induction h generalizing B with
 |nil=>rw[h'.nil_inv];exact .nil _ _
 |snoc _ g1 ih=>
  generalize e:(_++[_]:List UInt8)=c at h'
  cases h' with
  |nil=>simp at e
  |snoc g2 g3=>
   obtain⟨rfl,rfl⟩:=vO e
   exact(ih g2).app (.one (.letter g1 g3))
def runs_rel {L1 L2:List Rl}(h1:Wf L1)(h2:Wf L2){ps:List (Nat×Nat)}(hp:∀p∈ps,Iso L1 L2 p.1 p.2):∃qs:List ((Nat×Nat)×Nat),dE (ps.map (·.1))=qs.map (fun q=>(q.1.1,q.2))∧dE (ps.map (·.2))=qs.map (fun q=>(q.1.2,q.2))∧∀q∈qs,Iso L1 L2 q.1.1 q.1.2:=by
 generalize hn:ps.length=n;induction n generalizing ps with
 |zero=>obtain rfl:=dh hn;exact⟨[],rfl,rfl,by simp⟩
 |succ n ih=>
  rcases bu ps with rfl|⟨ps,p,rfl⟩
  ·simp at hn
  rw[bv]at hp hn ⊢
  obtain⟨qs,e1,e2,hq⟩:=ih (ps:=ps) (fun p' hp'=>hp p' (by simp[hp'])) (by simpa using hn)
  have hpp:=hp p (by simp)
  simp only[fw,jo,oN]
  rw[iJ,iJ,e1,e2]
  rcases bu qs with rfl|⟨qs,⟨⟨y1,y2⟩,k⟩,rfl⟩
  ·exact⟨[(p,1)],by simp[qI],by simp[qI],fun q h=>by rw[bg.1 h];exact hpp⟩
  rw[bv]at hq ⊢
  have hy:=hq ((y1,y2),k) (by simp)
  simp only[fw,jo,oN]
  by_cases e:y1=p.1
  ·have e':y2=p.2:=by subst e;exact hy.fn h2 hpp
   rw[e,e',jJ,jJ]
   refine⟨qs++[(p,k+1)],by simp,by simp,fun q h=>?_⟩
   rcases bn.1 h with h| h
   ·exact hq q (by simp[h])
   rw[bg.1 h];exact hpp
  have e':¬y2=p.2:=fun e'=>e (by subst e';exact hy.fn' h1 hpp)
  rw[kG _ e,kG _ e']
  refine⟨qs++[((y1,y2),k)]++[(p,1)],by simp,by simp,fun q h=>?_⟩
  rcases bn.1 h with h| h
  ·exact hq q h
  rw[bg.1 h];exact hpp
def Rns.nil_inv {L:List Rl}{out:List Nat}(h:Rns L [] out):out=[]:=by
 generalize e:([]:List (Nat×Nat))=c at h;cases h with
 |nil=>rfl
 |snoc _ _=>simp at e
def Rns.snoc_inv {L:List Rl}{rs:List (Nat×Nat)}{x t:Nat}{out:List Nat}(h:Rns L (rs++[(x,t)]) out):∃o id,out=o++[id]∧Rns L rs o∧RunId L x t id:=by
 generalize e:rs++[(x,t)]=c at h;cases h with
 |nil=>simp at e
 |snoc g1 g2=>
  obtain⟨rfl,e2⟩:=vO e
  cases e2
  exact⟨_,_,O,g1,g2⟩
def Rns.rel {L1 L2:List Rl}{qs:List ((Nat×Nat)×Nat)}(hq:∀q∈qs,Iso L1 L2 q.1.1 q.1.2) {o1 o2:List Nat} (h:Rns L1 (qs.map fun q=>(q.1.1,q.2)) o1) (h':Rns L2 (qs.map fun q=>(q.1.2,q.2)) o2):Rel L1 L2 o1 o2:=by
 generalize hn:qs.length=n;induction n generalizing qs o1 o2 with
 |zero=>
  obtain rfl:=dh hn
  rw[h.nil_inv,h'.nil_inv]
  exact .nil _ _
 |succ n ih=>
  rcases bu qs with rfl|⟨qs,⟨⟨x1,x2⟩,t⟩,rfl⟩
  ·simp at hn
  rw[bv]at hq hn h h'
  simp only[fw,jo,oN]at h h'
  obtain⟨a,i,rfl,g1,g2⟩:=h.snoc_inv
  obtain⟨b,j,rfl,k1,k2⟩:=h'.snoc_inv
  refine(ih (qs:=qs) (fun q h=>hq q (by simp[h])) g1 k1 (by simpa using hn)).app (.one ?_)
  have hx:=hq ((x1,x2),t) (by simp)
  rcases g2 with⟨e1,rfl⟩|⟨e1,i',rfl,hi⟩<;>rcases k2 with⟨e2,rfl⟩|⟨e2,j',rfl,hj⟩
  ·exact hx
  ·omega
  ·omega
  exact .power hi hj hx
def Prs.rel {L1 L2:List Rl}{A B:List Nat}(hr:Rel L1 L2 A B){js o1 o2:List Nat}{a a':Nat}(h:Prs L1 A js a o1)(h':Prs L2 B js a' o2):a=a'∧Rel L1 L2 o1 o2:=by
 induction h generalizing a' o2 with
 |nil=>
  generalize e:([]:List Nat)=c at h'
  cases h' with
  |nil=>exact⟨rfl,.nil _ _⟩
  |snoc _ _ _ _ _=>simp at e
 |snoc h1 h2 h3 h4 h5 ih=>
  generalize e:(_++[_]:List Nat)=c at h'
  cases h' with
  |nil=>simp at e
  |snoc g1 g2 g3 g4 g5=>
   obtain⟨rfl,rfl⟩:=vO e
   obtain⟨rfl,hro⟩:=ih g1
   exact⟨O,(hro.app ((hr.drop _).take _)).app (.one (.pair h5 g5 (hr.get h3 g3) (hr.get h4 g4)))⟩
def Rch.rel {L1 L2:List Rl}(w1:Wf L1)(w2:Wf L2){bs:List UInt8}{lv:Nat}{A B:List Nat}(h:Rch L1 bs lv A)(h':Rch L2 bs lv B):Rel L1 L2 A B:=by
 induction h generalizing B with
 |start h=>
  generalize e:1=l at h'
  cases h' with
  |start g=>exact h.rel g
  |odd g _ _ _=>have:=g.pos;omega
  |even g _ _ _ _=>have:=g.pos;omega
 |odd h h1 h2 h3 ih=>
  generalize e:_+1=l at h'
  cases h' with
  |start g=>have:=h.pos;omega
  |odd g g1 g2 g3=>
   obtain rfl:=oI e
   obtain⟨ps,rfl,rfl,hp⟩:=ih g
   obtain⟨qs,e1,e2,hq⟩:=runs_rel w1 w2 hp
   rw[e1]at h3
   rw[e2]at g3
   exact Rns.rel hq h3 g3
  |even g g1 _ _ _=>omega
 |even h h1 h2 h3 h4 ih=>
  generalize e:_+1=l at h'
  cases h' with
  |start g=>have:=h.pos;omega
  |odd g g1 g2 g3=>omega
  |even g g1 g2 g3 g4=>
   obtain rfl:=oI e
   have hr:=ih g
   rw[hr.keys w1 w2]at h4
   obtain⟨rfl,ho⟩:=Prs.rel hr h4 g4
   exact ho.app (hr.drop _)
def Sg.rel {L1 L2:List Rl}(w1:Wf L1)(w2:Wf L2){bs:List UInt8}{x y:Nat}(h:Sg L1 bs x)(h':Sg L2 bs y):(x=0∧y=0)∨Iso L1 L2 x y:=by
 rcases h with⟨h1,h2⟩|⟨lv,h⟩<;>rcases h' with⟨g1,g2⟩|⟨lv',h'⟩
 ·exact .inl ⟨h2,g2⟩
 ·exact absurd h1 h'.nonempty
 ·exact absurd g1 h.nonempty
 right
 have key:lv=lv':=by
  rcases ql lv lv' with hl|hl|hl
  ·obtain⟨r,hr,h2⟩:=h'.before lv h.pos hl;have:=(h.rel w1 w2 hr).length;simp at this;omega
  ·exact hl
  obtain⟨r,hr,h2⟩:=h.before lv' h'.pos hl;have:=(hr.rel w1 w2 h').length;simp at this;omega
 subst key;exact(h.rel w1 w2 h').get (i:=0) O O
def qZk {L1 L2:List Rl}(w1:Wf L1)(w2:Wf L2){x y:Nat}(h:Iso L1 L2 x y):∀{A B:List Nat},Rel L1 L2 A B→Rel L1 L2 (visit L1 x A) (visit L2 y B):=by
 induction h with
 | @letter n m c g1 g2=>
  intro A B hr
  have hi:Iso L1 L2 (n+1) (m+1):= .letter g1 g2
  by_cases hm:n+1∈A
  ·rw[kY hm,kY ((hr.mem w1 w2 hi).1 hm)];exact hr
  rw[gQ w1 g1 hm,gQ w2 g2 (fun h=>hm ((hr.mem w1 w2 hi).2 h))]
  exact hr.app (.one hi)
 | @pair n m a b a' b' g1 g2 ha hb ih1 ih2=>
  intro A B hr
  have hi:Iso L1 L2 (n+1) (m+1):= .pair g1 g2 ha hb
  by_cases hm:n+1∈A
  ·rw[kY hm,kY ((hr.mem w1 w2 hi).1 hm)];exact hr
  rw[gQ w1 g1 hm,gQ w2 g2 (fun h=>hm ((hr.mem w1 w2 hi).2 h))]
  exact(ih2 (ih1 hr)).app (.one hi)
 | @power n m a a' k g1 g2 ha ih=>
  intro A B hr
  have hi:Iso L1 L2 (n+1) (m+1):= .power g1 g2 ha
  by_cases hm:n+1∈A
  ·rw[kY hm,kY ((hr.mem w1 w2 hi).1 hm)];exact hr
  rw[gQ w1 g1 hm,gQ w2 g2 (fun h=>hm ((hr.mem w1 w2 hi).2 h))]
  exact(ih hr).app (.one hi)
def qGr {L1 L2:List Rl}(w1:Wf L1)(w2:Wf L2):∀{xs ys A B:List Nat},xs.length=ys.length→(∀(i x y:Nat),xs[i]?=some x→ys[i]?=some y→(x=0∧y=0)∨Iso L1 L2 x y)→Rel L1 L2 A B→Rel L1 L2 (dD L1 xs A) (dD L2 ys B)
 |[],[],_,_,_,_,h=>h
 |[],_::_,_,_,h,_,_=>by simp at h
 |_::_,[],_,_,h,_,_=>by simp at h
 |x::xs,y::ys,A,B,hl,hx,h=>by
  rw[fV,fV];refine qGr w1 w2 (by simpa using hl) (fun i x' y' h1 h2=>hx (i+1) x' y' (by simpa using h1) (by simpa using h2)) ?_;rcases hx 0 x y rfl rfl with⟨rfl,rfl⟩|hi
  ·rw[kP,kP];exact h
  exact qZk w1 w2 hi h
def xX {L1 L2:List Rl}(w1:Wf L1)(w2:Wf L2){x y:Nat}(hi:Iso L1 L2 x y):∀{ps:List (Nat×Nat)},(∀p∈ps,Iso L1 L2 p.1 p.2)→numb (ps.map (·.1)) x=numb (ps.map (·.2)) y
 |[],_=>rfl
 |p::ps,hp=>by
  have ih:=xX w1 w2 hi (ps:=ps) fun q h=>hp q (by simp[h])
  have hpp:=hp p (by simp);simp only[jo,numb];rw[ih];by_cases e:p.1=x
  ·have e':p.2=y:=by subst e;exact hpp.fn w2 hi
   rw[if_pos e,if_pos e']
  have e':¬p.2=y:=fun e'=>e (by subst e';exact hpp.fn' w1 hi)
  rw[if_neg e,if_neg e']
def gram_rel {L1 L2:List Rl}(w1:Wf L1)(w2:Wf L2){A B:List Nat}(h:Rel L1 L2 A B):gram L1 A=gram L2 B:=by
 obtain⟨ps,rfl,rfl,hp⟩:=h;unfold gram;rw[mi,mi];refine oD fun p hp'=>?_
 have hi:=hp p hp';obtain⟨x,y⟩:=p;simp only[Function.comp]at hi ⊢;cases hi with
 |letter g1 g2=>simp[fe,g1,g2,kL]
 |pair g1 g2 ha hb=>simp[fe,g1,g2,kL,xX w1 w2 ha hp,xX w1 w2 hb hp]
 |power g1 g2 ha=>simp[fe,g1,g2,kL,xX w1 w2 ha hp]
end
section
def imP (l:List Im):List (List UInt8×List UInt8):=l.map fun x=>(x.name,x.bs)
structure EqL (L:List Rl)(l:List Im)(ids ys:List Nat):Prop where
 wf:Wf L
 il:ids.length=l.length
 yl:ys.length=l.length
 tx:Txs L l ids
 sg:SigL L ids ys
variable {L L1 L2:List Rl}{l l1 l2:List Im}{ids ys ids1 ids2 y1 y2:List Nat}
def EqL.bound (h:EqL L l ids ys):∀y∈ys,y≤L.length:=h.sg.bound (by rw[h.yl,h.il])
def EqL.acc (h:EqL L l ids ys):AccOk L (dD L ys []):=AccOk.visits h.wf h.bound
def EqL.at (h:EqL L l ids ys){i y:Nat}(hy:ys[i]?=some y):∃x id,l[i]?=some x∧ids[i]?=some id∧SigOf L id y∧txt L id=x.bs:=by
 have hi:=(ae.1 hy).1;have h1:=h.il;have h2:=h.yl;obtain⟨x,hx⟩:∃x,l[i]?=some x:=⟨_,ag oO⟩;obtain⟨id,hid⟩:∃x,ids[i]?=some x:=⟨_,ag oO⟩;exact⟨x,id,hx,hid,h.sg i id y hid hy,(h.tx i x id hx hid).2⟩
def mkN_fst (h:ids.length=l.length):(mkN l ids).map (·.1)=l.map (·.name):=by
 unfold mkN;rw[mi];have e:((fun x:List UInt8×Int=>x.1)∘fun p:Im×Nat=>(p.1.name,(p.2:Int)))=(fun x:Im=>x.name)∘Prod.fst:=rfl;rw[e,←mi,List.map_fst_zip oO]
def EqL.enc (h:EqL L l ids ys):encB L (dD L ys []) (nmY (mkN l ids) ys)=encA (gram L (dD L ys [])) ((l.map (·.name)).zip (ys.map (numb (dD L ys [])))):=by
 rw[qKu h.acc.2];congr 1;unfold nmY;rw[mkN_fst h.il,List.zip_map_right];rfl
def EqL.same (h1:EqL L1 l1 ids1 y1)(h2:EqL L2 l2 ids2 y2)(e:imP l1=imP l2):encB L1 (dD L1 y1 []) (nmY (mkN l1 ids1) y1)=encB L2 (dD L2 y2 []) (nmY (mkN l2 ids2) y2):=by
 have a1:=h1.yl;have a2:=h2.yl
 have el:l1.length=l2.length:=by
  have:=bf List.length e;simpa[imP]using this
 have en:l1.map (·.name)=l2.map (·.name):=by
  have:=bf (List.map Prod.fst) e;simpa[imP,mi,Function.comp_def]using this
 have hx:∀(i x y:Nat),y1[i]?=some x→y2[i]?=some y→(x=0∧y=0)∨Iso L1 L2 x y:=fun i x y hi hj=>by
  obtain⟨u,id,g1,g2,g3,g4⟩:=h1.at hi;obtain⟨v,jd,k1,k2,k3,k4⟩:=h2.at hj;have e1:(imP l1)[i]?=some (u.name,u.bs):=by unfold imP;rw[bq,g1];rfl
  have e2:(imP l2)[i]?=some (v.name,v.bs):=by unfold imP;rw[bq,k1];rfl
  rw[e,e2]at e1;have e3:v.bs=u.bs:=(Prod.mk.inj (lm e1)).2;have s1:Sg L1 u.bs x:=by rw[←g4];exact g3.2.2.2
  have s2:Sg L2 u.bs y:=by rw[←e3,←k4];exact k3.2.2.2
  exact Sg.rel h1.wf h2.wf s1 s2
 have hr:=qGr h1.wf h2.wf oO hx (Rel.nil L1 L2);have z1:0∉dD L1 y1 []:=fun h=>by have:=(h1.acc.2 0 h).1;omega
 have z2:0∉dD L2 y2 []:=fun h=>by have:=(h2.acc.2 0 h).1;omega
 have em:y1.map (numb (dD L1 y1 []))=y2.map (numb (dD L2 y2 [])):=by
  apply nu;intro i;rw[bq,bq];rcases ed i y1.length with hi|hi
  ·obtain⟨x,hx1⟩:∃x,y1[i]?=some x:=⟨_,ag hi⟩;obtain⟨y,hy1⟩:∃x,y2[i]?=some x:=⟨_,ag oO⟩;rw[hx1,hy1];refine bf some ?_;rcases hx i x y hx1 hy1 with⟨rfl,rfl⟩|hi
   ·rw[jM.2 z1,jM.2 z2]
   obtain⟨ps,e1,e2,hp⟩:=hr;rw[e1,e2];exact xX h1.wf h2.wf hi hp
  rw[ig hi,ig oO];rfl
 rw[h1.enc,h2.enc,gram_rel h1.wf h2.wf hr,en,em]
end
section
variable {E:Env}{Es:List Ent}{pp tb s most m bm:Nat}{f:Int→Option Value}
structure EqG where
 i:Nat
 e:Bool
def EqOk (l r:List Im)(q:EqG):Prop:=q.i≤l.length∧(q.e=true↔l.length=r.length∧imP (l.take q.i)=imP (r.take q.i))
def EqOk.all {l r:List Im}{e:Bool}(h:EqOk l r ⟨l.length,e⟩):e=decide (imP l=imP r):=by
 have h2:=h.2;simp only at h2;by_cases hh:imP l=imP r
 ·have hl:l.length=r.length:=by have:=bf List.length hh;simpa[imP]using this
  rw[ma hh];refine h2.2 ⟨hl,?_⟩;rw[bz (ai _),bz oO];exact hh
 rw[ni hh];cases e with
 |false=>rfl
 |true=>
  obtain⟨hl,ht⟩:=h2.1 rfl
  rw[bz (ai _),bz oO]at ht
  exact absurd ht hh
end
section
def numb_pos {V:List Nat}{x:Nat}(h:x∈V):1≤numb V x:=by
 have:numb V x≠0:=fun e=>jM.1 e h
 omega
variable {L:List Rl}{V:List Nat}
def gram_len:(gram L V).length=V.length:=ku _
end
