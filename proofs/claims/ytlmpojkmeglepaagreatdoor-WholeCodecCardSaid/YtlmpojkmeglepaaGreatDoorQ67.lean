import Derived.Test.YtlmpojkmeglepaaGreatDoorQ62
set_option linter.all false
set_option maxHeartbeats 1000000
namespace Go.Proofs.YtlmpojkmeglepaaGreatDoor
open Go Go.RowKit Sl Eg
set_option maxRecDepth 10000
section
variable {E:Env}{Es:List Ent}{pp tb s most m bm:Nat}{f:Int→Option Value}
def SigOf.fn {L:List Rl}(hw:Wf L){x y y':Nat}(h:SigOf L x y)(h':SigOf L x y'):y=y':=Sg.fn hw h.2.2.2 h'.2.2.2
def SigL.fn {L:List Rl}(hw:Wf L){xs ys ys':List Nat}(h:SigL L xs ys)(h':SigL L xs ys')(hl:ys.length=xs.length)(hl':ys'.length=xs.length):ys=ys':=by
 apply lm;intro i;rcases dw i xs.length with hi|hi
 ·obtain⟨x,hx⟩:∃x,xs[i]?=some x:=⟨_,ag hi⟩;obtain⟨y,hy⟩:∃y,ys[i]?=some y:=⟨_,ag oO⟩;obtain⟨y',hy'⟩:∃y,ys'[i]?=some y:=⟨_,ag oO⟩;rw[hy,hy',(h i x y hx hy).fn hw (h' i x y' hx hy')]
 rw[fq oO,fq oO]
def SigL.bound {L:List Rl}{xs ys:List Nat}(h:SigL L xs ys)(hl:ys.length=xs.length):∀y∈ys,y≤L.length:=fun y hy=>by
 obtain⟨i,hi⟩:=jy hy;have hil:=(ae.1 hi).1;obtain⟨x,hx⟩:∃x,xs[i]?=some x:=⟨_,ag oO⟩;exact(h i x y hx hi).2.2.1.1
def qRx {l:List Im}{ids:List Nat}(h:ids.length=l.length):(mkN l ids).length=l.length:=by simp[mkN,h]
def mkN_at {l:List Im}{ids:List Nat}{i id:Nat}{x:Im}(hx:l[i]?=some x)(hi:ids[i]?=some id):(mkN l ids)[i]?=some (x.name,(id:Int)):=by
 unfold mkN;rw[bi];have:(l.zip ids)[i]?=some (x,id):=by rw[ut];exact⟨hx,hi⟩
 rw[this];rfl
end
section
def xY {a b:Nat}(ha:a<256)(hb:b<256)(h:UInt8.ofNat a=UInt8.ofNat b):a=b:=by
 have:=bg UInt8.toNat h;rw[UInt8.toNat_ofNat',UInt8.toNat_ofNat']at this;simp at this;omega
def qA:∀(n:Nat){m:Nat}{s t:List UInt8},vput n++s=vput m++t→n=m∧s=t:=by
 intro n;induction n using Nat.strongRecOn with
 |ind n ih=>
  intro m s t h
  by_cases hn:n<128<;>by_cases hm:m<128
  ·rw[iF hn,iF hm]at h
   simp only[ik,fu,qg]at h
   exact⟨xY oO oO h.1,h.2⟩
  ·rw[iF hn,lU hm]at h
   simp only[ik,fu,qg]at h
   have:=xY oO oO h.1
   omega
  ·rw[lU hn,iF hm]at h
   simp only[ik,fu,qg]at h
   have:=xY oO oO h.1
   omega
  rw[lU hn,lU hm]at h
  simp only[ik,qg]at h
  have h1:=xY oO oO h.1
  obtain⟨h2,h3⟩:=ih (n/128) oO h.2
  exact⟨oO,h3⟩
def rulB_inj {i:Nat}{r r':Rl}(h:r.ok i)(h':r'.ok i){s t:List UInt8}(e:rulB i r++s=rulB i r'++t):r=r'∧s=t:=by
 cases r<;>cases r'<;>simp only[rulB,ik,fu,qg,ah]at e
 ·exact⟨by rw[e.2.1],e.2.2⟩
 ·exact absurd e.1 (by decide)
 ·exact absurd e.1 (by decide)
 ·exact absurd e.1 (by decide)
 ·obtain⟨e1,e2⟩:=qA _ e.2;obtain⟨e3,e4⟩:=qA _ e2;simp only[Rl.ok]at h h';refine⟨?_,e4⟩;congr 1<;>omega
 ·exact absurd e.1 (by decide)
 ·exact absurd e.1 (by decide)
 ·exact absurd e.1 (by decide)
 obtain⟨e1,e2⟩:=qA _ e.2;obtain⟨e3,e4⟩:=qA _ e2;simp only[Rl.ok]at h h';refine⟨?_,e4⟩;congr 1<;>omega
def encG:Nat→List Rl→List UInt8
 |_,[]=>[]
 |k,r::G=>rulB (k+1) r++encG (k+1) G
def GOk (k:Nat)(G:List Rl):Prop:=∀(i:Nat)(r:Rl),G[i]?=some r→r.ok (k+i+1)
def GOk.tail {k:Nat}{r:Rl}{G:List Rl}(h:GOk k (r::G)):r.ok (k+1)∧GOk (k+1) G:=⟨h 0 r rfl,fun i r' hr=>by
 have:=h (i+1) r' (by simpa using hr);rwa [show k+(i+1)+1=k+1+i+1 by omega]at this⟩
def qOr:∀{G G':List Rl}{k:Nat}{s t:List UInt8},G.length=G'.length→GOk k G→GOk k G'→encG k G++s=encG k G'++t→G=G'∧s=t
 |[],[],_,_,_,_,_,_,h=>⟨rfl,h⟩
 |[],_::_,_,_,_,h,_,_,_=>by simp at h
 |_::_,[],_,_,_,h,_,_,_=>by simp at h
 |r::G,r'::G',k,s,t,hl,h1,h2,h=>by
  simp only[encG,ah]at h;obtain⟨rfl,h3⟩:=rulB_inj h1.tail.1 h2.tail.1 h;obtain⟨rfl,h4⟩:=qOr (by simpa using hl) h1.tail.2 h2.tail.2 h3;exact⟨O,h4⟩
def qCh:∀(A B:List Rl)(k:Nat),encG k (A++B)=encG k A++encG (k+A.length) B
 |[],B,k=>rfl
 |r::A,B,k=>by
  simp only[ik,encG,ah,qCh A B (k+1),ax];rw[show k+1+A.length=k+(A.length+1) by omega]
def encM (l:List (List UInt8×Nat)):List UInt8:=l.flatMap fun p=>gH p.1++vput p.2
def qOt:∀{A B:List (List UInt8×Nat)}{s t:List UInt8},A.length=B.length→encM A++s=encM B++t→A=B∧s=t
 |[],[],_,_,_,h=>⟨rfl,h⟩
 |[],_::_,_,_,h,_=>by simp at h
 |_::_,[],_,_,h,_=>by simp at h
 |(a,n)::A,(b,m)::B,s,t,hl,h=>by
  simp only[encM,qd,gH,ah]at h;obtain⟨h1,h2⟩:=qA _ h;obtain⟨rfl,h3⟩:=List.append_inj h2 h1;obtain⟨rfl,h4⟩:=qA _ h3
  have h4':encM A++s=encM B++t:=by
   unfold encM gH;simpa only[ah]using h4
  obtain⟨rfl,h5⟩:=qOt (A:=A) (B:=B) (by simpa using hl) h4';exact⟨O,h5⟩
def encA (G:List Rl)(A:List (List UInt8×Nat)):List UInt8:=vput G.length++encG 0 G++vput A.length++encM A
def encA_inj {G G':List Rl}{A A':List (List UInt8×Nat)}(h1:GOk 0 G)(h2:GOk 0 G')(h:encA G A=encA G' A'):G=G'∧A=A':=by
 simp only[encA,ah]at h;obtain⟨e1,h3⟩:=qA _ h;obtain⟨rfl,h4⟩:=qOr e1 h1 h2 h3;obtain⟨e2,h5⟩:=qA _ h4;have h':encM A++[]=encM A'++[]:=by rw[aj,aj];exact h5
 exact⟨O,(qOt e2 h').1⟩
def gram (L:List Rl)(ids:List Nat):List Rl:=ids.map fun x=>iC ids (L.getD (x-1) (.letter 0))
def zA {L:List Rl}{ids:List Nat}{i n:Nat}{r:Rl}(h:ids[i]?=some (n+1))(hr:L[n]?=some r):(gram L ids)[i]?=some (iC ids r):=by
 unfold gram;rw[bi,h];simp only[oZ,cu,iq,hr,um]
def qKc {L:List Rl}{ids:List Nat}(hx:∀x∈ids,1≤x∧x≤L.length):∀i,i≤ids.length→encR L ids i=encG 0 ((gram L ids).take i)
 |0,_=>rfl
 |i+1,hi=>by
  obtain⟨x,hxi⟩:∃x,ids[i]?=some x:=⟨_,ag oO⟩;have hxx:=hx x (ak hxi);obtain⟨n,rfl⟩:∃n,x=n+1:=⟨x-1,oO⟩;obtain⟨r,hr⟩:∃r,L[n]?=some r:=⟨_,ag oO⟩;have hg:=zA hxi hr;rw[sS hxi hr,qKc hx i oO,ed,hg,qCh];have hl:((gram L ids).take i).length=i:=by rw[ig];unfold gram;rw[gz];omega
  rw[hl,ko];simp only[Option.toList_some,encG,aj]
def qJz {L:List Rl}{ids:List Nat}(hx:∀x∈ids,1≤x∧x≤L.length) (nm:List (List UInt8×Nat)):encB L ids nm=encA (gram L ids) (nm.map fun p=>(p.1,numb ids p.2)):=by
 have hl:(gram L ids).length=ids.length:=gz _;unfold encB encA;rw[qKc hx _ (ai _),hl,di oO,gz];congr 1;unfold encN encM;rw[List.flatMap_map];rfl
def qCs {L:List Rl}(hw:Wf L){ids:List Nat}(hx:AccOk L ids)(ho:Odr L ids):GOk 0 (gram L ids):=fun i r hr=>by
 have hil:i<ids.length:=by have:=(ae.1 hr).1;unfold gram at this;rwa [gz]at this
 obtain⟨x,hxi⟩:∃x,ids[i]?=some x:=⟨_,ag hil⟩;have hxx:=hx.2 x (ak hxi);obtain⟨n,rfl⟩:∃n,x=n+1:=⟨x-1,oO⟩;obtain⟨r0,hr0⟩:∃r,L[n]?=some r:=⟨_,ag oO⟩;rw[zA hxi hr0]at hr;cases hr
 have hsplit:ids=ids.take i++(n+1)::ids.drop (i+1):=by
  have:=dz i ids;rw[rG hxi]at this;exact this.symm
 have htk:ids.take (i+1)=ids.take i++[n+1]:=by rw[ed,hxi];rfl
 obtain⟨g1,g2⟩:=qHz htk (hw.ok _ _ hr0) (ho _ _ _ _ hsplit hr0);have hl:(ids.take i).length=i:=by rw[ig];omega
 have e:=g2 (ids.drop (i+1));rw[dz]at e;rw[hl]at g1;rw[e,ko];exact g1
def qQi {L:List Rl}(hw:Wf L){ids:List Nat}(hx:AccOk L ids)(ho:Odr L ids):∀(x:Nat),x=0∨x∈ids→txt (gram L ids) (numb ids x)=txt L x:=by
 intro x;induction x using Nat.strongRecOn with
 |ind x ih=>
  intro h
  rcases h with rfl| h
  ·have:numb ids 0=0:=gZ.2 fun h=>by have:=(hx.2 0 h).1;omega
   rw[this,jG,jG]
  have hat:=tJ h
  have hne:numb ids x≠0:=fun e=>gZ.1 e h
  have hxx:=hx.2 x h
  obtain⟨n,rfl⟩:∃n,x=n+1:=⟨x-1,oO⟩
  obtain⟨r,hr⟩:∃r,L[n]?=some r:=⟨_,ag oO⟩
  obtain⟨i,hi⟩:∃i,numb ids (n+1)=i+1:=⟨numb ids (n+1)-1,oO⟩
  rw[hi,cu]at hat
  have hg:=zA hat hr
  have hok:=qCs hw hx ho i _ hg
  rw[ko]at hok
  have hlo:=hw.ok _ _ hr
  have hkids:∀k∈kids r,k∈ids:=ho.closed n r h hr
  have hkl:=iG hlo
  rw[hi]
  cases r with
  |letter b=>rw[fM hg,fM hr]
  |pair a b=>
   rw[iO hg hok,iO hr hlo,ih a (hkl a (by simp[kids])).2 (.inr (hkids a (by simp[kids]))),ih b (hkl b (by simp[kids])).2 (.inr (hkids b (by simp[kids])))]
  |power a k=>
   rw[jE hg hok,jE hr hlo,ih a (hkl a (by simp[kids])).2 (.inr (hkids a (by simp[kids])))]
end
section
inductive Iso (L1 L2:List Rl):Nat→Nat→Prop where
 |letter {n m:Nat} {c:UInt8}:L1[n]?=some (.letter c)→L2[m]?=some (.letter c)→Iso L1 L2 (n+1) (m+1)
 |pair {n m a b a' b':Nat}:L1[n]?=some (.pair a b)→L2[m]?=some (.pair a' b')→Iso L1 L2 a a'→Iso L1 L2 b b'→Iso L1 L2 (n+1) (m+1)
 |power {n m a a' k:Nat}:L1[n]?=some (.power a k)→L2[m]?=some (.power a' k)→Iso L1 L2 a a'→Iso L1 L2 (n+1) (m+1)
def Iso.symm {L1 L2:List Rl}{x y:Nat}(h:Iso L1 L2 x y):Iso L2 L1 y x:=by
 induction h with
 |letter h1 h2=>exact .letter h2 h1
 |pair h1 h2 _ _ ih1 ih2=>exact .pair h2 h1 ih1 ih2
 |power h1 h2 _ ih=>exact .power h2 h1 ih
def Iso.pos {L1 L2:List Rl}{x y:Nat}(h:Iso L1 L2 x y):1≤x∧1≤y:=by cases h<;>exact⟨Nat.succ_pos _,Nat.succ_pos _⟩
def Iso.fn {L1 L2:List Rl}(hw:Wf L2){x y z:Nat}(h:Iso L1 L2 x y)(h':Iso L1 L2 x z):y=z:=by
 induction h generalizing z with
 | @letter n m c h1 h2=>
  generalize e:n+1=x at h'
  cases h' with
  |letter g1 g2=>
   obtain rfl:=oJ e
   rw[h1]at g1
   cases g1
   rw[hw.nodup _ _ _ h2 g2]
  |pair g1 _ _ _=>obtain rfl:=oJ e;rw[h1]at g1;cases g1
  |power g1 _ _=>obtain rfl:=oJ e;rw[h1]at g1;cases g1
 | @pair n m a b a' b' h1 h2 _ _ ih1 ih2=>
  generalize e:n+1=x at h'
  cases h' with
  |letter g1 _=>obtain rfl:=oJ e;rw[h1]at g1;cases g1
  |pair g1 g2 ga gb=>
   obtain rfl:=oJ e
   rw[h1]at g1
   cases g1
   obtain rfl:=ih1 ga
   obtain rfl:=ih2 gb
   rw[hw.nodup _ _ _ h2 g2]
  |power g1 _ _=>obtain rfl:=oJ e;rw[h1]at g1;cases g1
 | @power n m a a' k h1 h2 _ ih=>
  generalize e:n+1=x at h'
  cases h' with
  |letter g1 _=>obtain rfl:=oJ e;rw[h1]at g1;cases g1
  |pair g1 _ _ _=>obtain rfl:=oJ e;rw[h1]at g1;cases g1
  |power g1 g2 ga=>
   obtain rfl:=oJ e
   rw[h1]at g1
   cases g1
   obtain rfl:=ih ga
   rw[hw.nodup _ _ _ h2 g2]
def Iso.fn' {L1 L2:List Rl}(hw:Wf L1){x y z:Nat}(h:Iso L1 L2 x y)(h':Iso L1 L2 z y):x=z:=h.symm.fn hw h'.symm
def Iso.key {L1 L2:List Rl}(h1:Wf L1)(h2:Wf L2){x y:Nat}(h:Iso L1 L2 x y):Eg.key L1 x=Eg.key L2 y:=by
 induction h with
 |letter g1 g2=>rw[(fU g1).1,(fU g2).1]
 |pair g1 g2 _ _ ih1 ih2=>rw[(jY g1 (h1.ok _ _ g1)).1,(jY g2 (h2.ok _ _ g2)).1,ih1,ih2]
 |power g1 g2 _ ih=>rw[(jS g1 (h1.ok _ _ g1)).1,(jS g2 (h2.ok _ _ g2)).1,ih]
def Rel (L1 L2:List Rl)(A B:List Nat):Prop:=∃ps:List (Nat×Nat),A=ps.map (·.1)∧B=ps.map (·.2)∧∀p∈ps,Iso L1 L2 p.1 p.2
def Rel.nil (L1 L2:List Rl):Rel L1 L2 [] []:=⟨[],rfl,rfl,by simp⟩
def Rel.one {L1 L2:List Rl}{x y:Nat}(h:Iso L1 L2 x y):Rel L1 L2 [x] [y]:=⟨[(x,y)],rfl,rfl,fun p hp=>by rw[bf.1 hp];exact h⟩
def Rel.app {L1 L2:List Rl}{A B A' B':List Nat}(h:Rel L1 L2 A B)(h':Rel L1 L2 A' B'):Rel L1 L2 (A++A') (B++B'):=by
 obtain⟨ps,rfl,rfl,h1⟩:=h;obtain⟨qs,rfl,rfl,h2⟩:=h';refine⟨ps++qs,by simp,by simp,fun p hp=>?_⟩;rcases bu.1 hp with hp|hp
 ·exact h1 p hp
 exact h2 p hp
def Rel.length {L1 L2:List Rl}{A B:List Nat}(h:Rel L1 L2 A B):A.length=B.length:=by
 obtain⟨ps,rfl,rfl,_⟩:=h;simp
def Rel.drop {L1 L2:List Rl}{A B:List Nat}(h:Rel L1 L2 A B)(k:Nat):Rel L1 L2 (A.drop k) (B.drop k):=by
 obtain⟨ps,rfl,rfl,h1⟩:=h;exact⟨ps.drop k,by rw[pu],by rw[pu],fun p hp=>h1 p (oh hp)⟩
def Rel.take {L1 L2:List Rl}{A B:List Nat}(h:Rel L1 L2 A B)(k:Nat):Rel L1 L2 (A.take k) (B.take k):=by
 obtain⟨ps,rfl,rfl,h1⟩:=h;exact⟨ps.take k,by rw[qj],by rw[qj],fun p hp=>h1 p (lg hp)⟩
def Rel.get {L1 L2:List Rl}{A B:List Nat}(h:Rel L1 L2 A B){i x y:Nat}(hx:A[i]?=some x)(hy:B[i]?=some y):Iso L1 L2 x y:=by
 obtain⟨ps,rfl,rfl,h1⟩:=h;rw[bi]at hx hy;cases e:ps[i]? with
 |none=>rw[e]at hx;cases hx
 |some p=>
  rw[e]at hx hy
  cases hx
  cases hy
  exact h1 p (ak e)
def Rel.keys {L1 L2:List Rl}(h1:Wf L1)(h2:Wf L2){A B:List Nat}(h:Rel L1 L2 A B):A.map (Eg.key L1)=B.map (Eg.key L2):=by
 obtain⟨ps,rfl,rfl,hp⟩:=h;rw[lw,lw];exact ow fun p hp'=>(hp p hp').key h1 h2
def Rel.mem {L1 L2:List Rl}(h1:Wf L1)(h2:Wf L2){A B:List Nat}(h:Rel L1 L2 A B){x y:Nat}(hi:Iso L1 L2 x y):x∈A↔y∈B:=by
 obtain⟨ps,rfl,rfl,hp⟩:=h;constructor
 ·intro hx;obtain⟨p,hp1,rfl⟩:=jg.1 hx;rw[hi.fn h2 (hp p hp1)];exact jg.2 ⟨p,hp1,O⟩
 intro hy;obtain⟨p,hp1,rfl⟩:=jg.1 hy;rw[hi.fn' h1 (hp p hp1)];exact jg.2 ⟨p,hp1,O⟩
def Lts.rel {L1 L2:List Rl}{A B:List Nat}{bs:List UInt8}(h:Lts L1 A bs)(h':Lts L2 B bs):Rel L1 L2 A B:=by
 induction h generalizing B with
 |nil=>rw[h'.nil_inv];exact .nil _ _
 |snoc _ g1 ih=>
  generalize e:(_++[_]:List UInt8)=c at h'
  cases h' with
  |nil=>simp at e
  |snoc g2 g3=>
   obtain⟨rfl,rfl⟩:=vS e
   exact(ih g2).app (.one (.letter g1 g3))
def runs_rel {L1 L2:List Rl}(h1:Wf L1)(h2:Wf L2){ps:List (Nat×Nat)}(hp:∀p∈ps,Iso L1 L2 p.1 p.2):∃qs:List ((Nat×Nat)×Nat),dE (ps.map (·.1))=qs.map (fun q=>(q.1.1,q.2))∧dE (ps.map (·.2))=qs.map (fun q=>(q.1.2,q.2))∧∀q∈qs,Iso L1 L2 q.1.1 q.1.2:=by
 generalize hn:ps.length=n;induction n generalizing ps with
 |zero=>obtain rfl:=az hn;exact⟨[],rfl,rfl,by simp⟩
 |succ n ih=>
  rcases cz ps with rfl|⟨ps,p,rfl⟩
  ·simp at hn
  rw[dh]at hp hn ⊢
  obtain⟨qs,e1,e2,hq⟩:=ih (ps:=ps) (fun p' hp'=>hp p' (by simp[hp'])) (by simpa using hn)
  have hpp:=hp p (by simp)
  simp only[kg,jq,oG]
  rw[iZ,iZ,e1,e2]
  rcases cz qs with rfl|⟨qs,⟨⟨y1,y2⟩,k⟩,rfl⟩
  ·exact⟨[(p,1)],by simp[qF],by simp[qF],fun q h=>by rw[bf.1 h];exact hpp⟩
  rw[dh]at hq ⊢
  have hy:=hq ((y1,y2),k) (by simp)
  simp only[kg,jq,oG]
  by_cases e:y1=p.1
  ·have e':y2=p.2:=by subst e;exact hy.fn h2 hpp
   rw[e,e',jO,jO]
   refine⟨qs++[(p,k+1)],by simp,by simp,fun q h=>?_⟩
   rcases bu.1 h with h| h
   ·exact hq q (by simp[h])
   rw[bf.1 h];exact hpp
  have e':¬y2=p.2:=fun e'=>e (by subst e';exact hy.fn' h1 hpp)
  rw[kH _ e,kH _ e']
  refine⟨qs++[((y1,y2),k)]++[(p,1)],by simp,by simp,fun q h=>?_⟩
  rcases bu.1 h with h| h
  ·exact hq q h
  rw[bf.1 h];exact hpp
def Rns.nil_inv {L:List Rl}{out:List Nat}(h:Rns L [] out):out=[]:=by
 generalize e:([]:List (Nat×Nat))=c at h;cases h with
 |nil=>rfl
 |snoc _ _=>simp at e
def Rns.snoc_inv {L:List Rl}{rs:List (Nat×Nat)}{x t:Nat}{out:List Nat}(h:Rns L (rs++[(x,t)]) out):∃o id,out=o++[id]∧Rns L rs o∧RunId L x t id:=by
 generalize e:rs++[(x,t)]=c at h;cases h with
 |nil=>simp at e
 |snoc g1 g2=>
  obtain⟨rfl,e2⟩:=vS e
  cases e2
  exact⟨_,_,O,g1,g2⟩
def Rns.rel {L1 L2:List Rl}{qs:List ((Nat×Nat)×Nat)}(hq:∀q∈qs,Iso L1 L2 q.1.1 q.1.2) {o1 o2:List Nat} (h:Rns L1 (qs.map fun q=>(q.1.1,q.2)) o1) (h':Rns L2 (qs.map fun q=>(q.1.2,q.2)) o2):Rel L1 L2 o1 o2:=by
 generalize hn:qs.length=n;induction n generalizing qs o1 o2 with
 |zero=>
  obtain rfl:=az hn
  rw[h.nil_inv,h'.nil_inv]
  exact .nil _ _
 |succ n ih=>
  rcases cz qs with rfl|⟨qs,⟨⟨x1,x2⟩,t⟩,rfl⟩
  ·simp at hn
  rw[dh]at hq hn h h'
  simp only[kg,jq,oG]at h h'
  obtain⟨a,i,rfl,g1,g2⟩:=h.snoc_inv
  obtain⟨b,j,rfl,k1,k2⟩:=h'.snoc_inv
  refine(ih (qs:=qs) (fun q h=>hq q (by simp[h])) g1 k1 (by simpa using hn)).app (.one ?_)
  have hx:=hq ((x1,x2),t) (by simp)
  rcases g2 with⟨e1,rfl⟩|⟨e1,i',rfl,hi⟩<;>rcases k2 with⟨e2,rfl⟩|⟨e2,j',rfl,hj⟩
  ·exact hx
  ·omega
  ·omega
  exact .power hi hj hx
def Prs.rel {L1 L2:List Rl}{A B:List Nat}(hr:Rel L1 L2 A B){js o1 o2:List Nat}{a a':Nat}(h:Prs L1 A js a o1)(h':Prs L2 B js a' o2):a=a'∧Rel L1 L2 o1 o2:=by
 induction h generalizing a' o2 with
 |nil=>
  generalize e:([]:List Nat)=c at h'
  cases h' with
  |nil=>exact⟨rfl,.nil _ _⟩
  |snoc _ _ _ _ _=>simp at e
 |snoc h1 h2 h3 h4 h5 ih=>
  generalize e:(_++[_]:List Nat)=c at h'
  cases h' with
  |nil=>simp at e
  |snoc g1 g2 g3 g4 g5=>
   obtain⟨rfl,rfl⟩:=vS e
   obtain⟨rfl,hro⟩:=ih g1
   exact⟨O,(hro.app ((hr.drop _).take _)).app (.one (.pair h5 g5 (hr.get h3 g3) (hr.get h4 g4)))⟩
def Rch.rel {L1 L2:List Rl}(w1:Wf L1)(w2:Wf L2){bs:List UInt8}{lv:Nat}{A B:List Nat}(h:Rch L1 bs lv A)(h':Rch L2 bs lv B):Rel L1 L2 A B:=by
 induction h generalizing B with
 |start h=>
  generalize e:1=l at h'
  cases h' with
  |start g=>exact h.rel g
  |odd g _ _ _=>have:=g.pos;omega
  |even g _ _ _ _=>have:=g.pos;omega
 |odd h h1 h2 h3 ih=>
  generalize e:_+1=l at h'
  cases h' with
  |start g=>have:=h.pos;omega
  |odd g g1 g2 g3=>
   obtain rfl:=oJ e
   obtain⟨ps,rfl,rfl,hp⟩:=ih g
   obtain⟨qs,e1,e2,hq⟩:=runs_rel w1 w2 hp
   rw[e1]at h3
   rw[e2]at g3
   exact Rns.rel hq h3 g3
  |even g g1 _ _ _=>omega
 |even h h1 h2 h3 h4 ih=>
  generalize e:_+1=l at h'
  cases h' with
  |start g=>have:=h.pos;omega
  |odd g g1 g2 g3=>omega
  |even g g1 g2 g3 g4=>
   obtain rfl:=oJ e
   have hr:=ih g
   rw[hr.keys w1 w2]at h4
   obtain⟨rfl,ho⟩:=Prs.rel hr h4 g4
   exact ho.app (hr.drop _)
def Sg.rel {L1 L2:List Rl}(w1:Wf L1)(w2:Wf L2){bs:List UInt8}{x y:Nat}(h:Sg L1 bs x)(h':Sg L2 bs y):(x=0∧y=0)∨Iso L1 L2 x y:=by
 rcases h with⟨h1,h2⟩|⟨lv,h⟩<;>rcases h' with⟨g1,g2⟩|⟨lv',h'⟩
 ·exact .inl ⟨h2,g2⟩
 ·exact absurd h1 h'.nonempty
 ·exact absurd g1 h.nonempty
 right
 have key:lv=lv':=by
  rcases vo lv lv' with hl|hl|hl
  ·obtain⟨r,hr,h2⟩:=h'.before lv h.pos hl;have:=(h.rel w1 w2 hr).length;simp at this;omega
  ·exact hl
  obtain⟨r,hr,h2⟩:=h.before lv' h'.pos hl;have:=(hr.rel w1 w2 h').length;simp at this;omega
 subst key;exact(h.rel w1 w2 h').get (i:=0) O O
def qXk {L1 L2:List Rl}(w1:Wf L1)(w2:Wf L2){x y:Nat}(h:Iso L1 L2 x y):∀{A B:List Nat},Rel L1 L2 A B→Rel L1 L2 (visit L1 x A) (visit L2 y B):=by
 induction h with
 | @letter n m c g1 g2=>
  intro A B hr
  have hi:Iso L1 L2 (n+1) (m+1):= .letter g1 g2
  by_cases hm:n+1∈A
  ·rw[kJ hm,kJ ((hr.mem w1 w2 hi).1 hm)];exact hr
  rw[gU w1 g1 hm,gU w2 g2 (fun h=>hm ((hr.mem w1 w2 hi).2 h))]
  exact hr.app (.one hi)
 | @pair n m a b a' b' g1 g2 ha hb ih1 ih2=>
  intro A B hr
  have hi:Iso L1 L2 (n+1) (m+1):= .pair g1 g2 ha hb
  by_cases hm:n+1∈A
  ·rw[kJ hm,kJ ((hr.mem w1 w2 hi).1 hm)];exact hr
  rw[gU w1 g1 hm,gU w2 g2 (fun h=>hm ((hr.mem w1 w2 hi).2 h))]
  exact(ih2 (ih1 hr)).app (.one hi)
 | @power n m a a' k g1 g2 ha ih=>
  intro A B hr
  have hi:Iso L1 L2 (n+1) (m+1):= .power g1 g2 ha
  by_cases hm:n+1∈A
  ·rw[kJ hm,kJ ((hr.mem w1 w2 hi).1 hm)];exact hr
  rw[gU w1 g1 hm,gU w2 g2 (fun h=>hm ((hr.mem w1 w2 hi).2 h))]
  exact(ih hr).app (.one hi)
def zY {L1 L2:List Rl}(w1:Wf L1)(w2:Wf L2):∀{xs ys A B:List Nat},xs.length=ys.length→(∀(i x y:Nat),xs[i]?=some x→ys[i]?=some y→(x=0∧y=0)∨Iso L1 L2 x y)→Rel L1 L2 A B→Rel L1 L2 (dD L1 xs A) (dD L2 ys B)
 |[],[],_,_,_,_,h=>h
 |[],_::_,_,_,h,_,_=>by simp at h
 |_::_,[],_,_,h,_,_=>by simp at h
 |x::xs,y::ys,A,B,hl,hx,h=>by
  rw[fP,fP];refine zY w1 w2 (by simpa using hl) (fun i x' y' h1 h2=>hx (i+1) x' y' (by simpa using h1) (by simpa using h2)) ?_;rcases hx 0 x y rfl rfl with⟨rfl,rfl⟩|hi
  ·rw[jW,jW];exact h
  exact qXk w1 w2 hi h
def xX {L1 L2:List Rl}(w1:Wf L1)(w2:Wf L2){x y:Nat}(hi:Iso L1 L2 x y):∀{ps:List (Nat×Nat)},(∀p∈ps,Iso L1 L2 p.1 p.2)→numb (ps.map (·.1)) x=numb (ps.map (·.2)) y
 |[],_=>rfl
 |p::ps,hp=>by
  have ih:=xX w1 w2 hi (ps:=ps) fun q h=>hp q (by simp[h])
  have hpp:=hp p (by simp);simp only[jq,numb];rw[ih];by_cases e:p.1=x
  ·have e':p.2=y:=by subst e;exact hpp.fn w2 hi
   rw[if_pos e,if_pos e']
  have e':¬p.2=y:=fun e'=>e (by subst e';exact hpp.fn' w1 hi)
  rw[if_neg e,if_neg e']
def gram_rel {L1 L2:List Rl}(w1:Wf L1)(w2:Wf L2){A B:List Nat}(h:Rel L1 L2 A B):gram L1 A=gram L2 B:=by
 obtain⟨ps,rfl,rfl,hp⟩:=h;unfold gram;rw[lw,lw];refine ow fun p hp'=>?_
 have hi:=hp p hp';obtain⟨x,y⟩:=p;simp only[Function.comp]at hi ⊢;cases hi with
 |letter g1 g2=>simp[iq,g1,g2,iC]
 |pair g1 g2 ha hb=>simp[iq,g1,g2,iC,xX w1 w2 ha hp,xX w1 w2 hb hp]
 |power g1 g2 ha=>simp[iq,g1,g2,iC,xX w1 w2 ha hp]
end
section
def imP (l:List Im):List (List UInt8×List UInt8):=l.map fun x=>(x.name,x.bs)
def qUq (l:List Im):imP l=(l.map (·.name)).zip (l.map (·.bs)):=by unfold imP;rw[List.zip_map']
structure EqL (L:List Rl)(l:List Im)(ids ys:List Nat):Prop where
 wf:Wf L
 il:ids.length=l.length
 yl:ys.length=l.length
 tx:Txs L l ids
 sg:SigL L ids ys
variable {L L1 L2:List Rl}{l l1 l2:List Im}{ids ys ids1 ids2 y1 y2:List Nat}
def EqL.bound (h:EqL L l ids ys):∀y∈ys,y≤L.length:=h.sg.bound (by rw[h.yl,h.il])
def EqL.acc (h:EqL L l ids ys):AccOk L (dD L ys []):=AccOk.visits h.wf h.bound
def EqL.ord (h:EqL L l ids ys):Odr L (dD L ys []):=qX h.wf ys [] (qHw _)
def EqL.at (h:EqL L l ids ys){i y:Nat}(hy:ys[i]?=some y):∃x id,l[i]?=some x∧ids[i]?=some id∧SigOf L id y∧txt L id=x.bs:=by
 have hi:=(ae.1 hy).1;have h1:=h.il;have h2:=h.yl;obtain⟨x,hx⟩:∃x,l[i]?=some x:=⟨_,ag oO⟩;obtain⟨id,hid⟩:∃x,ids[i]?=some x:=⟨_,ag oO⟩;exact⟨x,id,hx,hid,h.sg i id y hid hy,(h.tx i x id hx hid).2⟩
def EqL.here (h:EqL L l ids ys){y:Nat}(hy:y∈ys):y=0∨y∈dD L ys []:=by
 rcases fe y with e| e
 ·exact .inl e
 exact .inr (((qY h.wf ys []).2 (qEz L)).2 y hy e (h.bound y hy))
def EqL.texts (h:EqL L l ids ys):l.map (·.bs)=(ys.map (numb (dD L ys []))).map (txt (gram L (dD L ys []))):=by
 apply lm;intro i;rw[lw,bi,bi];cases e:ys[i]? with
 |none=>
  have h1:=uu.1 e
  have h2:=h.yl
  rw[fq oO]
  rfl
 |some y=>
  obtain⟨x,id,hx,hid,hs,ht⟩:=h.at e
  rw[hx]
  have e1:=qQi h.wf h.acc h.ord y (h.here (ak e))
  simp only[oZ,Function.comp,e1]
  rw[hs.2.1,ht]
def mkN_fst (h:ids.length=l.length):(mkN l ids).map (·.1)=l.map (·.name):=by
 unfold mkN;rw[lw];have e:((fun x:List UInt8×Int=>x.1)∘fun p:Im×Nat=>(p.1.name,(p.2:Int)))=(fun x:Im=>x.name)∘Prod.fst:=rfl;rw[e,←lw,yz oO]
def EqL.enc (h:EqL L l ids ys):encB L (dD L ys []) (nmY (mkN l ids) ys)=encA (gram L (dD L ys [])) ((l.map (·.name)).zip (ys.map (numb (dD L ys [])))):=by
 rw[qJz h.acc.2];congr 1;unfold nmY;rw[mkN_fst h.il,List.zip_map_right];rfl
def EqL.only (h1:EqL L1 l1 ids1 y1)(h2:EqL L2 l2 ids2 y2)(e:encB L1 (dD L1 y1 []) (nmY (mkN l1 ids1) y1)=encB L2 (dD L2 y2 []) (nmY (mkN l2 ids2) y2)):imP l1=imP l2:=by
 rw[h1.enc,h2.enc]at e;obtain⟨eg,ez⟩:=encA_inj (qCs h1.wf h1.acc h1.ord) (qCs h2.wf h2.acc h2.ord) e;have a1:=h1.yl;have a2:=h2.yl
 have en:l1.map (·.name)=l2.map (·.name):=by
  have:=bg (List.map Prod.fst) ez;rwa [yz (by simp only[gz];omega),yz (by simp only[gz];omega)]at this
 have em:y1.map (numb (dD L1 y1 []))=y2.map (numb (dD L2 y2 [])):=by
  have:=bg (List.map Prod.snd) ez;rwa [za (by simp only[gz];omega),za (by simp only[gz];omega)]at this
 rw[qUq,qUq,h1.texts,h2.texts,en,em,eg]
def EqL.same (h1:EqL L1 l1 ids1 y1)(h2:EqL L2 l2 ids2 y2)(e:imP l1=imP l2):encB L1 (dD L1 y1 []) (nmY (mkN l1 ids1) y1)=encB L2 (dD L2 y2 []) (nmY (mkN l2 ids2) y2):=by
 have a1:=h1.yl;have a2:=h2.yl
 have el:l1.length=l2.length:=by
  have:=bg List.length e;simpa[imP]using this
 have en:l1.map (·.name)=l2.map (·.name):=by
  have:=bg (List.map Prod.fst) e;simpa[imP,lw,Function.comp_def]using this
 have hx:∀(i x y:Nat),y1[i]?=some x→y2[i]?=some y→(x=0∧y=0)∨Iso L1 L2 x y:=fun i x y hi hj=>by
  obtain⟨u,id,g1,g2,g3,g4⟩:=h1.at hi;obtain⟨v,jd,k1,k2,k3,k4⟩:=h2.at hj;have e1:(imP l1)[i]?=some (u.name,u.bs):=by unfold imP;rw[bi,g1];rfl
  have e2:(imP l2)[i]?=some (v.name,v.bs):=by unfold imP;rw[bi,k1];rfl
  rw[e,e2]at e1;have e3:v.bs=u.bs:=(Prod.mk.inj (oH e1)).2;have s1:Sg L1 u.bs x:=by rw[←g4];exact g3.2.2.2
  have s2:Sg L2 u.bs y:=by rw[←e3,←k4];exact k3.2.2.2
  exact Sg.rel h1.wf h2.wf s1 s2
 have hr:=zY h1.wf h2.wf oO hx (Rel.nil L1 L2);have z1:0∉dD L1 y1 []:=fun h=>by have:=(h1.acc.2 0 h).1;omega
 have z2:0∉dD L2 y2 []:=fun h=>by have:=(h2.acc.2 0 h).1;omega
 have em:y1.map (numb (dD L1 y1 []))=y2.map (numb (dD L2 y2 [])):=by
  apply lm;intro i;rw[bi,bi];rcases dw i y1.length with hi|hi
  ·obtain⟨x,hx1⟩:∃x,y1[i]?=some x:=⟨_,ag hi⟩;obtain⟨y,hy1⟩:∃x,y2[i]?=some x:=⟨_,ag oO⟩;rw[hx1,hy1];refine bg some ?_;rcases hx i x y hx1 hy1 with⟨rfl,rfl⟩|hi
   ·rw[gZ.2 z1,gZ.2 z2]
   obtain⟨ps,e1,e2,hp⟩:=hr;rw[e1,e2];exact xX h1.wf h2.wf hi hp
  rw[fq hi,fq oO];rfl
 rw[h1.enc,h2.enc,gram_rel h1.wf h2.wf hr,en,em]
end
section
variable {E:Env}{Es:List Ent}{pp tb s most m bm:Nat}{f:Int→Option Value}
structure EqG where
 i:Nat
 e:Bool
def EqOk (l r:List Im)(q:EqG):Prop:=q.i≤l.length∧(q.e=true↔l.length=r.length∧imP (l.take q.i)=imP (r.take q.i))
def EqOk.all {l r:List Im}{e:Bool}(h:EqOk l r ⟨l.length,e⟩):e=decide (imP l=imP r):=by
 have h2:=h.2;simp only at h2;by_cases hh:imP l=imP r
 ·have hl:l.length=r.length:=by have:=bg List.length hh;simpa[imP]using this
  rw[mr hh];refine h2.2 ⟨hl,?_⟩;rw[di (ai _),di oO];exact hh
 rw[mo hh];cases e with
 |false=>rfl
 |true=>
  obtain⟨hl,ht⟩:=h2.1 rfl
  rw[di (ai _),di oO]at ht
  exact absurd ht hh
end
