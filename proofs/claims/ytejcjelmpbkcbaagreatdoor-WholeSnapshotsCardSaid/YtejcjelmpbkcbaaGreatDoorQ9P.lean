import Derived.Test.YtejcjelmpbkcbaaGreatDoorQ87
set_option linter.all false
set_option maxHeartbeats 1000000
namespace Go.Proofs.YtejcjelmpbkcbaaGreatDoor
open Go Go.RowKit Sl Eg
set_option maxRecDepth 10000
section
variable {E:Env}
def OrdN (A:List (List UInt8×Nat)):Prop:=∀(i:Nat)(p q:List UInt8×Nat),A[i]?=some p→A[i+1]?=some q→Op.bytesLess p.1 q.1=true
end
section
variable {E:Env}{Es:List Ent}{pp tb s most m bm:Nat}
structure Prop50 (G:List Rl)(A:List (List UInt8×Nat)):Prop where
 ok:GOk 0 G
 wf:Wf G
 names:∀p∈A,ValidN p.1∧p.2≤G.length
 ord:OrdN A
 sig:∀j,1≤j→j≤G.length→Sig G j∧lvl G j≤1048576
 vis:dD G (A.map (·.2)) []=(List.range G.length).map (· +1)
end
section
variable {E:Env}{Es:List Ent}{pp tb s most S:Nat}
def Ful (L:List Rl)(fs:List Fm):Prop:=∀f∈fs,f.hv=fT (rlAt L f.id)
structure Calm (L:List Rl)(l:Nat)(A B:Sd):Prop where
 fa:Ful L A.fs
 fb:Ful L B.fs
 ha:A.x≠0
 hb:B.x≠0
 ne:(l+1)%2=1→A.x≠B.x
 nl:(l+1)%2=0→Par L (l+1) A.fs none→¬eY (num (l+1)) (key L A.x) (key L B.x)
 nr:(l+1)%2=0→num (l+1)≠122→¬eY (num (l+1)) (key L A.x) (key L B.x)
end
section
variable {E:Env}{Es:List Ent}{pp tb s most m bm:Nat}{f:Int→Option Value}
def unk (f:Int→Option Value):Nat→Nat
 |0=>0
 |n+1=>unk f n+if(f ((n+1:Nat):Int)).isNone then 1 else 0
end
section
variable {G L:List Rl}{Z:List Nat}
def zat (Z:List Nat)(j:Nat):Nat:=Z.getD j 0
def DcI.zero (h:DcI G L G.length Z):zat Z 0=0:=by unfold zat;rw[fe,h.2.1];rfl
def DcI.iso (h:DcI G L G.length Z){j:Nat}(h1:1≤j)(h2:j≤G.length):Iso G L j (zat Z j):=by
 obtain⟨z,hz,iz⟩:=h.2.2 j h1 h2;unfold zat;rw[fe,hz];exact iz
def DcI.inj (hw:Wf G)(h:DcI G L G.length Z){i j:Nat}(hi:i≤G.length)(hj:j≤G.length)(e:zat Z i=zat Z j):i=j:=by
 rcases jr i with rfl|hi1<;>rcases jr j with rfl|hj1
 ·rfl
 ·have:=(h.iso hj1 hj).pos.2;rw[h.zero]at e;omega
 ·have:=(h.iso hi1 hi).pos.2;rw[h.zero]at e;omega
 have h1:=h.iso hi1 hi;have h2:=h.iso hj1 hj;rw[←e]at h2;exact h1.fn' hw h2
def DcI.rule (hw:Wf G)(hL:Wf L)(h:DcI G L G.length Z){n:Nat}{r:Rl}(hr:G[n]?=some r):∃m r',zat Z (n+1)=m+1∧L[m]?=some r'∧kids r'=(kids r).map (zat Z)∧∀V:List Nat,(∀k∈kids r,numb V (zat Z k)=k)→kL V r'=r:=by
 have hn:=(ae.1 hr).1;have hk:=nD (hw.ok n r hr);have hi:=h.iso (j:=n+1) oO oO;generalize hx:zat Z (n+1)=x at hi;generalize hn1:n+1=y at hi;cases hi with
 | @letter a m b h1 h2=>
  obtain rfl:n=a:=by omega
  rw[h1]at hr
  cases hr
  exact⟨m,_,O,h2,O,fun V _=>O⟩
 | @pair a m p q p' q' h1 h2 i1 i2=>
  obtain rfl:n=a:=by omega
  rw[h1]at hr
  cases hr
  have k1:=hk p (by simp[kids])
  have k2:=hk q (by simp[kids])
  have e1:p'=zat Z p:=i1.fn hL (h.iso k1.1 oO)
  have e2:q'=zat Z q:=i2.fn hL (h.iso k2.1 oO)
  subst e1 e2
  exact⟨m,_,O,h2,O,fun V hV=>by rw[kL,hV p (by simp[kids]),hV q (by simp[kids])]⟩
 | @power a m p p' k h1 h2 i1=>
  obtain rfl:n=a:=by omega
  rw[h1]at hr
  cases hr
  have k1:=hk p (by simp[kids])
  have e1:p'=zat Z p:=i1.fn hL (h.iso k1.1 oO)
  subst e1
  exact⟨m,_,O,h2,O,fun V hV=>by rw[kL,hV p (by simp[kids])]⟩
def DcI.mem (hw:Wf G)(h:DcI G L G.length Z){j:Nat}{acc:List Nat}(hj:j≤G.length)(ha:∀y∈acc,y≤G.length):zat Z j∈acc.map (zat Z)↔j∈acc:=by
 constructor
 ·intro hm;obtain⟨y,hy,e⟩:=fq.1 hm;have:=h.inj hw (ha y hy) hj e;subst this;exact hy
 exact fun hm=>fq.2 ⟨j,hm,O⟩
def DcI.visit (hw:Wf G)(hL:Wf L)(h:DcI G L G.length Z):∀(n:Nat)(acc:List Nat),n≤G.length→(∀y∈acc,y≤G.length)→visit L (zat Z n) (acc.map (zat Z))=(visit G n acc).map (zat Z):=by
 intro n;induction n using Nat.strongRecOn with
 |_ n ih=>
  intro acc hn ha
  rcases jr n with rfl|hpos
  ·rw[h.zero,kP,kP]
  obtain⟨n,rfl⟩:∃k,n=k+1:=⟨n-1,oO⟩
  by_cases hm:n+1∈acc
  ·rw[kY hm,kY ((h.mem hw hn ha).2 hm)]
  obtain⟨r,hr⟩:∃r,G[n]?=some r:=⟨_,ag oO⟩
  obtain⟨m,r',e1,e2,e3,_⟩:=h.rule hw hL hr
  have hk:=nD (hw.ok n r hr)
  have hm2:m+1∉acc.map (zat Z):=by rw[←e1];exact fun hh=>hm ((h.mem hw hn ha).1 hh)
  rw[e1,gQ hL e2 hm2,gQ hw hr hm,e3]
  have key:∀(ks acc:List Nat),(∀k∈ks,k<n+1)→(∀y∈acc,y≤G.length)→dD L (ks.map (zat Z)) (acc.map (zat Z))=(dD G ks acc).map (zat Z):=by
   intro ks;induction ks with
   |nil=>intro acc _ _;rfl
   |cons k ks ihk=>
    intro acc hks hacc
    have hkn:=hks k (by simp)
    rw[jo,fV,fV,ih k hkn acc oO hacc]
    refine ihk _ (fun x hx=>hks x (by simp[hx])) (fun y hy=>?_)
    rcases(qEi hw k acc).1 y hy with h| h
    ·exact hacc y h
    exact h.2.2
  rw[key (kids r) acc (fun k hk'=>(hk k hk').2) ha,fw,jo,oN,e1]
def DcI.visitsL (hw:Wf G)(hL:Wf L)(h:DcI G L G.length Z):∀(xs acc:List Nat),(∀x∈xs,x≤G.length)→(∀y∈acc,y≤G.length)→dD L (xs.map (zat Z)) (acc.map (zat Z))=(dD G xs acc).map (zat Z)
 |[],acc,_,_=>rfl
 |x::xs,acc,hx,ha=>by
  rw[jo,fV,fV,h.visit hw hL x acc (hx x (by simp)) ha];refine h.visitsL hw hL xs _ (fun y hy=>hx y (by simp[hy])) (fun y hy=>?_);rcases(qEi hw x acc).1 y hy with h| h
  ·exact ha y h
  exact h.2.2
def qQl {W:List Nat}{j:Nat}:∀{V:List Nat},(∀y∈V,∀z∈V,zat W y=zat W z→y=z)→j∈V→numb (V.map (zat W)) (zat W j)=numb V j
 |[],_,hj=>by simp at hj
 |x::V,hi,hj=>by
  rw[jo,numb,numb];by_cases e:x=j
  ·rw[if_pos (by rw[e]),if_pos e]
  rw[if_neg (fun h=>e (hi x (by simp) j hj h)),if_neg e]
  have hj2:j∈V:=by
   rcases iq.1 hj with h| h
   ·exact absurd h.symm e
   exact h
  rw[qQl (fun y hy z hz=>hi y (by simp[hy]) z (by simp[hz])) hj2]
def qTb {n j:Nat}(h1:1≤j)(h2:j≤n):numb ((List.range n).map (· +1)) j=j:=by
 have hm:j∈(List.range n).map (· +1):=fq.2 ⟨j-1,oQ.2 oO,oO⟩;have h:=qXl hm;have hp:=numb_pos hm;have hl:=qIe ((List.range n).map (· +1)) j;simp only[ku,List.length_range]at hl;rw[bq,mh oO]at h;simp at h;omega
def uniq_enc {A:List (List UInt8×Nat)}(hP:Prop50 G A)(hL:Wf L)(h:DcI G L G.length Z):encB L (dD L (A.map fun p=>zat Z p.2) []) (A.map fun p=>(p.1,zat Z p.2))=encA G A:=by
 have hw:=hP.wf
 have hA:∀x∈A.map (·.2),x≤G.length:=fun x hx=>by
  obtain⟨p,hp,rfl⟩:=fq.1 hx;exact(hP.names p hp).2
 have hv:=h.visitsL hw hL (A.map (·.2)) [] hA (by simp);rw[mi,oN,hP.vis]at hv;have hv2:dD L (A.map fun p=>zat Z p.2) []=((List.range G.length).map (· +1)).map (zat Z):=hv;rw[hv2];obtain⟨V,hV⟩:∃V,V=(List.range G.length).map (· +1):=⟨_,rfl⟩;rw[←hV]
 have hVm:∀y∈V,1≤y∧y≤G.length:=fun y hy=>by
  rw[hV]at hy;obtain⟨i,hi,rfl⟩:=fq.1 hy;have:=oQ.1 hi;omega
 have hin:∀j,1≤j→j≤G.length→j∈V:=fun j h1 h2=>by rw[hV];exact fq.2 ⟨j-1,oQ.2 oO,oO⟩
 have hinj:∀y∈V,∀z∈V,zat Z y=zat Z z→y=z:=fun y hy z hz e=>h.inj hw (hVm y hy).2 (hVm z hz).2 e
 have hnb:∀j,1≤j→j≤G.length→numb (V.map (zat Z)) (zat Z j)=j:=fun j h1 h2=>by
  rw[qQl hinj (hin j h1 h2),hV,qTb h1 h2]
 have hx:∀x∈V.map (zat Z),1≤x∧x≤L.length:=fun x hx=>by
  obtain⟨y,hy,rfl⟩:=fq.1 hx;have hi:=h.iso (hVm y hy).1 (hVm y hy).2;exact⟨hi.pos.2,hi.le.2⟩
 rw[qKu hx];congr 1
 ·apply nu;intro i;rcases ed i G.length with hi|hi
  ·obtain⟨r,hr⟩:∃r,G[i]?=some r:=⟨_,ag hi⟩;obtain⟨m,r',e1,e2,e3,e4⟩:=h.rule hw hL hr
   have hVi:(V.map (zat Z))[i]?=some (m+1):=by
    rw[hV,bq,bq,mh hi,←e1];rfl
   rw[qWd hVi e2,hr,e4];intro k hk;have:=nD (hw.ok i r hr) k hk;exact hnb k this.1 oO
  have hgl:(gram L (V.map (zat Z))).length=G.length:=by rw[gram_len,ku,hV,ku,List.length_range]
  rw[ig oO,ig oO]
 rw[mi];conv=>rhs;rw[←List.map_id A]
 refine oD fun p hp=>?_
 have h2:=(hP.names p hp).2;show(p.1,numb (V.map (zat Z)) (zat Z p.2))=p;rcases jr p.2 with h0|h0
 ·rw[h0,h.zero,jM.2 (fun hm=>by have:=(hx 0 hm).1;omega)];exact Prod.ext O h0.symm
 rw[hnb p.2 h0 h2]
end
section
variable {G L:List Rl}{Z:List Nat}
def InB (G:List Rl)(x:Nat):Prop:=1≤x∧x≤G.length
structure Twi (G L:List Rl)(Z:List Nat):Prop where
 wf:Wf G
 gwf:Wf L
 dc:DcI G L G.length Z
def Twi.inj (h:Twi G L Z){x y:Nat}(hx:InB G x)(hy:InB G y)(e:zat Z x=zat Z y):x=y:=h.dc.inj h.wf hx.2 hy.2 e
def nmY_zat {A:List (List UInt8×Nat)}:nmY (nmI (A.map fun p=>(p.1,zat Z p.2))) (A.map fun p=>zat Z p.2)=A.map fun p=>(p.1,zat Z p.2):=by
 unfold nmY nmI;rw[mi,mi];induction A with
 |nil=>rfl
 |cons p A ih=>simp only[jo,List.zip_cons_cons,ih];rfl
end
