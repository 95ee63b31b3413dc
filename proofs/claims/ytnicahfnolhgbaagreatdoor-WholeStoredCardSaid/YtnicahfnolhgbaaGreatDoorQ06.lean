import Derived.Test.YtnicahfnolhgbaaGreatDoorQ04
set_option linter.all false
set_option maxHeartbeats 1000000
namespace Go.Proofs.YtnicahfnolhgbaaGreatDoor
open Go Go.RowKit Sl Eg
set_option maxRecDepth 10000
variable {E:Bp}{Es:List Bj}{tb s most:Nat}
def XM {L K j b}(h:K[j]?=some b)(x:Nat)(hx:x=j*3+2):(jC L K 0)[x]?=some (.bool b):=by
 subst hx;rw[Tu h 2 oO];cases b<;>rfl
def Zb {K:List Bool}(h:0<K.length)(h0:K[0]?≠some true):K[0]?=some false:=by
 have h1:K[0]?=some K[0]:=ag h;rw[h1]at h0 ⊢;cases h2:K[0]with
 |false=>rfl
 |true=>rw[h2]at h0;exact absurd rfl h0
def OE (T:List Nat)(x k:Nat)(hk:k=T.length):((T++[x]).map fun y=>Value.int .i64 (y:Nat))[k]?=some (BK x):=by
 subst hk;simp
structure Gt where
 T:List Nat
 K:List Bool
 p:Option Addr
 c:Nat
structure Gr (i N:Nat)(T:List Nat)(K:List Bool):Prop where
 klen:K.length=N
 k0:K[0]?=some false
 dec:T.Pairwise (· > ·)
 unk:∀x∈T,K[x]?=some false/\1<=x/\x<=i+1
 top:(T=[]/\K[i+1]?=some true)\/T.head?=some (i+1)

def Vb {L:List Rl}(K:List Bool)(j:Nat)(h:j<K.length)(x:Nat)(hx:x=j*3):bX (jC L K 0) x (bP (.agg #[.int .u64 (key L j:Nat),BL (Bt L j),.bool true]))=jC L (K.set j true) 0:=by
 subst hx;rw[zAf h 0,jh];rfl
def OQ {r:Rl}{m:Nat}(h:r.ok (m+1)):r.left<=m/\r.right<=m:=by
 cases r with
 |letter b=>exact⟨av _,av _⟩
 |pair l r=>obtain⟨_,_,_,_⟩:=h;exact⟨by simp only[Rl.left];omega,by simp only[Rl.right];omega⟩
 |power x k=>obtain⟨_,_,_⟩:=h;exact⟨by simp only[Rl.left];omega,av _⟩
def WW {i N x y T K}(h:Gr i N (T++[x]) K)(hy:K[y]?=some false)(hA:1<=y)(hB:y<x):Gr i N (T++[x]++[y]) K:=by
 have hx:=h.unk x BF;refine⟨h.klen,h.k0,?_,?_,?_⟩
 ·rw[uw];refine⟨h.dec,by simp,fun a ha b hb=>?_⟩;obtain rfl:b=y:=by simpa using hb
  rcases ay.1 ha with ha'|ha'
  ·have:=(uw.1 h.dec).2.2 a ha' x BF;omega
  obtain rfl:a=x:=by simpa using ha'
  exact hB
 ·intro z hz;rcases ay.1 hz with hz'|hz'
  ·exact h.unk z hz'
  obtain rfl:z=y:=by simpa using hz'
  exact⟨hy,hA,oO⟩
 right;rcases h.top with⟨h0,_⟩|h0
 ·simp at h0
 cases T with
 |nil=>simpa using h0
 |cons a T=>simpa using h0
def zA {i N x T K}(h:Gr i N (T++[x]) K):Gr i N T (K.set x true):=by
 have hx:=h.unk x BF;have hA:x<K.length:=(ae.1 hx.1).1;refine⟨by rw[List.length_set];exact h.klen,by rw[List.getElem?_set_ne oO];exact h.k0,(uw.1 h.dec).1,?_,?_⟩
 ·intro z hz;have hB:=(uw.1 h.dec).2.2 z hz x BF;have:=h.unk z (by simp[hz]);refine⟨?_,this.2⟩;rw[List.getElem?_set_ne oO];exact this.1
 rcases h.top with⟨h0,_⟩|h0
 ·simp at h0
 cases T with
 |nil=>
  obtain rfl:x=i+1:=by simpa using h0
  exact .inl ⟨O,by simp[hA]⟩
 |cons a T=>exact .inr (by simpa using h0)
def KE (hE:BP E)(hB:Ca E.w0){i:Nat}(hi:i<Es.length):
  Ct E 205 [uPt tb,.int .i64 ((i+1:Nat):Int)] [BV tb s (BO Es),bR s most Es]
   (fun v Q=>v= .tuple #[.agg #[.int .u64 (key (BO Es) (i+1):Nat),.int .i64 (Bt (BO Es) (i+1)),.bool true],.nilIface]/\Q=[BV tb s (BO Es),bR s most Es]):=by
 refine eF (p:=bR s most Es) uK (fun _ h=>dR h) (fun he=>?_);obtain⟨hS,gg,h5,gA⟩:=he;have hU:=hS.room;rw[bQ]at hU;unfold fJ at hU
 refine ct_open (ι:={x:List Bool×Option Addr×Nat//x.1.length<=(BO Es).length+1/\x.1[0]?≠some true}) (ps:=fun x=>[cells tb [uPt s,.slice x.1.2.1 x.1.1.length x.1.2.2] 177,sl x.1.2.1 x.1.2.2 322 3 x.1.1.length (jC (BO Es) x.1.1 0)])
  (fun k⟨K,p,c,h1,h2,h3⟩=>⟨⟨(K,p,c),h1,h2⟩,h3⟩) ?_
 rintro⟨⟨K,p,c⟩,hK,ha⟩;simp only at hK ha ⊢;rw[bQ]at hK;refine bO (hE.fn Tryz.func205) O O O (fun R=>?_);simp only[dS,uV,uW];refine CL ?_;refine uU (dA (hE.t O) (fun b4=>?_));refine GN ?_;refine dV 23 O (fun hs=>?_) (fun hs=>?_)
 ·exact absurd hs oO
 refine Bo ?_;refine uX (Rf hE) O ?_;rintro _ _⟨rfl,rfl⟩;simp only[uV,uW];refine Bw ?_;refine bE O (fun h6=>?_) (fun h6=>?_)
 ·exact absurd h6 oO
 refine CL ?_;refine jT (fun x:List Bool×Nat×Nat=>[(0,uPt tb),(1,.int .i64 ((i+1:Nat):Int)),(4,uPt b4),(5,.nilIface)]) (fun x=>[cells tb [uPt s,.slice (some ⟨x.2.1,0,none⟩) x.1.length x.2.2] 177,sl (some ⟨x.2.1,0,none⟩) x.2.2 322 3 x.1.length (jC (BO Es) x.1 0),cells b4 [.int .u64 0,.int .i64 0,.bool false] 322,bR s most Es,R]) (fun x=>x.1.length<=Es.length+1/\i+1<x.1.length/\x.1[0]?=some false) ?_ ?_
 ·refine Bo ?_;refine bE O (fun hg=>?_) (fun hg=>?_)
  ·refine uN 16 ([cells tb [uPt s,.slice p K.length c] 177]) ?_;refine Bi ?_;apply dG 7 O oK
   ·exact aB O
   ·rfl
   apply dG 8 O oK
   ·exact bA O
   ·rfl
   apply dG 9 O oK
   ·exact EC O
   ·rfl
   apply dG 10 O oK
   ·(apply aO rfl (hE.t rfl) rfl;(repeat(first |rfl|assumption|constructor));done)
   ·rfl
   apply dG 11 O oK
   ·exact Yo O
   ·rfl
   apply dG 12 O oK
   ·exact Hd O O
   ·rfl
   apply fE 13 O oK O;obtain⟨k,hk⟩:∃k,k=i+2-K.length:=⟨_,rfl⟩;apply qDt (k:=k) (hE.t O) (hE.t O) (hE.t O) O O O
   ·omega
   ·exact uK
   ·omega
   ·omega
   ·unfold maxLen;omega
   intro gE gO us h7;have hz:=h7 (.agg #[.int .u64 0,.int .i64 0,.bool false]) O;simp only[Value.cells]at hz;rw[<-qPy (BO Es) k K.length]at hz;have h8:jC (BO Es) K 0++us=jC (BO Es) (K++List.replicate k false) 0:=by rw[hz,qNn,jh]
   have gR:K.length+k=(K++List.replicate k false).length:=by simp
   rw[h8,gR];clear hz h8 h7
   have hI:(K++List.replicate k false)[0]?=some false:=by
    have hf:0<(K++List.replicate k false).length:=(by simp;omega);exact Zb hf (by cases K with |nil=>cases k<;>simp[dz]|cons b K=>simpa using ha)
   refine uE ?_;apply dG 14 O oK
   ·exact bA O
   ·rfl
   apply dG 15 O oK
   ·exact EC O
   ·rfl
   apply gW O oK oK O;refine uS ?_;refine eX (K++List.replicate k false,gE,gO) ⟨by simp;omega,by simp;omega,hI⟩ ⟨rfl,rfl,rfl,rfl,trivial⟩ ?_;exact uI
  refine Bv ?_;refine Sz (p:=sl p c 322 3 K.length (jC (BO Es) K 0)) uK (fun _ h=>eG h oO) ?_;rintro⟨g,rfl⟩;have hI:K[0]?=some false:=Zb oO ha;refine eX (K,g,c) ⟨hK,by show i+1<K.length;omega,hI⟩ ⟨rfl,rfl,rfl,rfl,trivial⟩ ?_;exact uI
 clear hK ha p c K;rintro⟨K,g,c⟩⟨hK,h9,hI⟩;simp only at hK h9 hI ⊢;obtain⟨N,hN⟩:∃N,N=K.length:=⟨_,rfl⟩;rw[<-hN]at hK h9 ⊢;refine Bw ?_;refine jT (fun x:Gt=>[(0,uPt tb),(1,.int .i64 ((i+1:Nat):Int)),(4,uPt b4),(5,.nilIface),(6,.slice x.p x.T.length x.c)]) (fun x=>[cells tb [uPt s,.slice (some ⟨g,0,none⟩) N c] 177,sl (some ⟨g,0,none⟩) c 322 3 N (jC (BO Es) x.K 0),sl x.p x.c 41 1 x.T.length (x.T.map fun y=> .int .i64 (y:Nat)),cells b4 [.int .u64 0,.int .i64 0,.bool false] 322,bR s most Es,R]) (fun x=>Gr i N x.T x.K) ?_ ?_
 ·have hH:K[i+1]?=some (K[i+1]'oO):=ag _;generalize K[i+1]'oO=b at hH;have gh:=XM (L:=BO Es) hH (0+(((i+1:Nat):Int)).toNat*3+2) oO;cases b with
  |true=>
   refine CK ?_
   refine eX ⟨[],K,none,0⟩ ⟨hN.symm,hI,by simp,by simp,.inl ⟨rfl,hH⟩⟩ ⟨rfl,rfl,rfl,rfl,rfl,trivial⟩ (cZ (fU (t:=41) (sz:=1)) ?_)
   exact uI
  |false=>
   refine CU ?_
   refine fF (fU (t:=41) (sz:=1)) ?_
   refine CG ?_
   refine uU ?_
   refine aU (hE.t O) (hE.t O) O O O (fun gi=>?_)
   refine uU ?_
   apply bU (hE.t O) (hE.t O) O O O
   ·exact uK
   ·exact uK
   ·rfl
   ·rfl
   ·omega
   ·omega
   ·(unfold maxLen;omega)
   intro gj gk ga gb hh hj
   refine CL ?_
   obtain rfl:ga=[i+1].length:=hh
   obtain rfl:gb=[i+1].map (fun y=>Value.int .i64 (y:Nat)):=hj
   refine eX ⟨[i+1],K,_,_⟩ ⟨hN.symm,hI,by simp,fun x hx=>?_,.inr rfl⟩ ⟨rfl,rfl,rfl,rfl,rfl,trivial⟩ ?_
   ·obtain rfl:x=i+1:=by simpa using hx
    exact⟨hH,oO,oO⟩
   exact uI
 rintro⟨T0,K0,p0,c0⟩hJ;simp only at hJ ⊢;refine CL ?_;refine dX (fun x:Gt=>[(0,uPt tb),(1,.int .i64 ((i+1:Nat):Int)),(4,uPt b4),(5,.nilIface),(6,.slice x.p x.T.length x.c)]) (fun x=>[cells tb [uPt s,.slice (some ⟨g,0,none⟩) N c] 177,sl (some ⟨g,0,none⟩) c 322 3 N (jC (BO Es) x.K 0),sl x.p x.c 41 1 x.T.length (x.T.map fun y=> .int .i64 (y:Nat)),cells b4 [.int .u64 0,.int .i64 0,.bool false] 322,bR s most Es,R]) (fun x=>Ii x.K*(N+1)+x.T.getLast?.getD 0) (fun x=>Gr i N x.T x.K) ⟨T0,K0,p0,c0⟩ hJ ?_ (fun _ h=>h) ?_
 ·exact⟨O,O,O,O,O,trivial⟩
 clear hJ T0 K0 p0 c0;rintro⟨T,K1,p1,c1⟩hA;simp only at hA ⊢;have hT:=hA.klen;rcases bq T with rfl|⟨T',x,rfl⟩
 ·have hn:K1[i+1]?=some true:=by
   rcases hA.top with⟨_,h⟩| h
   ·exact h
   simp at h
  have f0:(jC (BO Es) K1 0)[0+(((i+1:Nat):Int)).toNat*3]?=some (.int .u64 (key (BO Es) (i+1):Nat)):=by
   rw[show 0+(((i+1:Nat):Int)).toNat*3=(i+1)*3+0 by omega,Tu hn 0 oO];rfl
  have f1:(jC (BO Es) K1 0)[0+(((i+1:Nat):Int)).toNat*3+1]?=some (.int .i64 (Bt (BO Es) (i+1))):=by
   rw[show 0+(((i+1:Nat):Int)).toNat*3+1=(i+1)*3+1 by omega,Tu hn 1 oO];rfl
  have f2:(jC (BO Es) K1 0)[0+(((i+1:Nat):Int)).toNat*3+1+1]?=some (.bool true):=by
   rw[show 0+(((i+1:Nat):Int)).toNat*3+1+1=(i+1)*3+2 by omega,Tu hn 2 oO];rfl
  refine Nz ?_;apply cK
  ·rfl
  ·((apply Rs.cell rfl (hE.t rfl) rfl;(focus((repeat(first |rfl|assumption|constructor));done)));apply Rs.tmp rfl;exact Rs.nil)
  ·exact⟨O,O⟩
  apply cZ
  ·apply qHp (K:=K1) (L:=BO Es)
   ·exact uK
   ·exact hT
   ·rw[bQ];exact hK
   rw[hA.k0];simp
  exact uI
 rw[bu]at hA ⊢;have hV:=hA.unk x (by simp);have hc:x<K1.length:=(ae.1 hV.1).1;obtain⟨m,rfl⟩:∃m,x=m+1:=⟨x-1,oO⟩;have hm:m<Es.length:=oO;have hL:Es[m]?=some (Es[m]'hm):=ag hm;generalize Es[m]'hm=en at hL
 have gc:T'.length+1<=1048577:=by
  have:=qTv (n:=i+1) hA.dec (fun x hx=>(hA.unk x hx).2);simp at this;omega
 have gd:(T'++[m+1]).length=T'.length+1:=by simp
 rw[gd];have hd:K1.length<=(BO Es).length+1:=by rw[hT,bQ];exact hK
 have hr:=tX hL;have hp:=hS.ok m en.r hr;have ht:=OE T' (m+1) (((T'.length+1:Nat):Int)-1).toNat oO;refine iO (p:=sl p1 c1 41 1 (T'.length+1) ((T'++[m+1]).map fun y=>Value.int .i64 (y:Nat))) uK (fun _ h=>And.intro (eG h oO) (lX h).1) ?_;rintro⟨⟨gT,rfl⟩,ge⟩;refine Br ?_;refine bE O (fun ho=>?_) (fun ho=>?_)
 ·refine DW ?_;refine uX (kF hE hL) O ?_;rintro _ _⟨rfl,rfl⟩;simp only[uV,uW];refine CG ?_;refine uU (dA (hE.t O) (fun b8=>?_));refine Bq ?_;have hb:=OQ hp;obtain⟨bl,hq⟩:∃b,K1[en.r.left]?=some b:=⟨_,ag oO⟩;obtain⟨br,hW⟩:∃b,K1[en.r.right]?=some b:=⟨_,ag oO⟩;have kl:=XM (L:=BO Es) hq (0+((en.r.left:Nat):Int).toNat*3+2) oO;have kr:=XM (L:=BO Es) hW (0+((en.r.right:Nat):Int).toNat*3+2) oO;refine Bu ?_;refine dV 110 O (fun hl=>?_) (fun hl=>?_)
  ·cases bl with
   |false=>
    refine Hw ?_
    refine uU ?_
    refine aU (hE.t O) (hE.t O) O O O (fun gf=>?_)
    refine uU ?_
    apply bU (hE.t O) (hE.t O) O O O
    ·exact uK
    ·exact uK
    ·rfl
    ·rfl
    ·omega
    ·omega
    ·(unfold maxLen;omega)
    intro hu hv hw hy hX hY
    refine Bz ?_
    obtain rfl:hw=(T'++[m+1]++[en.r.left]).length:=by rw[hX];simp
    obtain rfl:hy=(T'++[m+1]++[en.r.left]).map (fun y=>Value.int .i64 (y:Nat)):=by rw[hY];simp[bX,bP]
    refine bS (ι:=Gt) (j:=⟨T'++[m+1]++[en.r.left],K1,some ⟨hu,0,none⟩,hv⟩) ?_ ?_ ?_ ?_
    ·exact WW hA hq oO oO
    ·simp;omega
    ·exact⟨O,O,O,O,O,trivial⟩
    exact uI
   |true=>
    refine EK ?_
    have hZ:en.r.left=0\/K1[en.r.left]?=some true:= .inr hq
    refine CB ?_
    refine dV 131 O (fun h0=>?_) (fun h0=>?_)
    ·cases br with
     |false=>
      refine Hw ?_
      refine uU ?_
      refine aU (hE.t O) (hE.t O) O O O (fun h4=>?_)
      refine uU ?_
      apply bU (hE.t O) (hE.t O) O O O
      ·exact uK
      ·exact uK
      ·rfl
      ·rfl
      ·omega
      ·omega
      ·(unfold maxLen;omega)
      intro hM hO hP hQ hD hF
      refine Bz ?_
      obtain rfl:hP=(T'++[m+1]++[en.r.right]).length:=by rw[hD];simp
      obtain rfl:hQ=(T'++[m+1]++[en.r.right]).map (fun y=>Value.int .i64 (y:Nat)):=by rw[hF];simp[bX,bP]
      refine bS (ι:=Gt) (j:=⟨T'++[m+1]++[en.r.right],K1,some ⟨hM,0,none⟩,hO⟩) ?_ ?_ ?_ ?_
      ·exact WW hA hW oO oO
      ·simp;omega
      ·exact⟨O,O,O,O,O,trivial⟩
      exact uI
     |true=>
      refine EK ?_
      have hR:en.r.right=0\/K1[en.r.right]?=some true:= .inr hW
      refine Bv ?_
      refine uH ([cells tb [uPt s,.slice (some ⟨g,0,none⟩) N c] 177,cells b8 (bX [.int .i64 0,.int .u8 0,.int .i64 0,.int .i64 0,.int .i64 0] 0 (bP (.agg #[.int .i64 (Rl.kind (en.r):Nat),.int .u8 (Rl.byte (en.r):Nat),.int .i64 (Rl.left (en.r):Nat),.int .i64 (Rl.right (en.r):Nat),.int .i64 (Rl.times (en.r):Nat)]))) 111]) ?_
      refine Bi ?_
      apply dH 7 O oK O
      refine uC (rE hE hB hS hT hr hA.k0 hZ hR hd) O ?_
      rintro _ _⟨rfl,rfl⟩
      simp only[uV,uW]
      refine uE ?_
      refine Bv ?_
      apply dH 9 O oK O
      refine uJ ?_
      refine uE ?_
      refine Bi ?_
      refine uB (gF T'.length O O (hE.t O) oO oO) ?_
      refine Bz ?_
      refine bS (ι:=Gt) (j:=⟨T',K1.set (m+1) true,some ⟨gT,0,none⟩,c1⟩) ?_ ?_ ?_ ?_
      ·exact zA hA
      ·have hC:=Ut hV.1
       have hG:T'.getLast?.getD 0<=N:=by
        cases hl9:T'.getLast? with
        |none=>simp
        |some y=>
         have:=(hA.unk y (by simp[oq hl9])).2.2
         simp;omega
       simp only
       rw[<-hC,qc]
       simp
       omega
      ·exact⟨O,O,O,O,O,trivial⟩
      rw[Vb K1 (m+1) hc (0+((m+1:Nat):Int).toNat*3) oO]
      apply cZ
      ·apply cO (p:=sl (some ⟨gT,0,none⟩) c1 41 1 (T'.length+1) ((T'++[m+1]).map fun y=>Value.int .i64 (y:Nat))) (p':=sl (some ⟨gT,0,none⟩) c1 41 1 T'.length (T'.map fun y=>Value.int .i64 (y:Nat)))
       ·exact uK
       exact nK oO (by simp) (by simp)
      exact uI
    refine CK ?_
    have hR:en.r.right=0\/K1[en.r.right]?=some true:= .inl oO
    refine Bv ?_
    refine uH ([cells tb [uPt s,.slice (some ⟨g,0,none⟩) N c] 177,cells b8 (bX [.int .i64 0,.int .u8 0,.int .i64 0,.int .i64 0,.int .i64 0] 0 (bP (.agg #[.int .i64 (Rl.kind (en.r):Nat),.int .u8 (Rl.byte (en.r):Nat),.int .i64 (Rl.left (en.r):Nat),.int .i64 (Rl.right (en.r):Nat),.int .i64 (Rl.times (en.r):Nat)]))) 111]) ?_
    refine Bi ?_
    apply dH 7 O oK O
    refine uC (rE hE hB hS hT hr hA.k0 hZ hR hd) O ?_
    rintro _ _⟨rfl,rfl⟩
    simp only[uV,uW]
    refine uE ?_
    refine Bv ?_
    apply dH 9 O oK O
    refine uJ ?_
    refine uE ?_
    refine Bi ?_
    refine uB (gF T'.length O O (hE.t O) oO oO) ?_
    refine Bz ?_
    refine bS (ι:=Gt) (j:=⟨T',K1.set (m+1) true,some ⟨gT,0,none⟩,c1⟩) ?_ ?_ ?_ ?_
    ·exact zA hA
    ·have hC:=Ut hV.1
     have hG:T'.getLast?.getD 0<=N:=by
      cases hl9:T'.getLast? with
      |none=>simp
      |some y=>
       have:=(hA.unk y (by simp[oq hl9])).2.2
       simp;omega
     simp only
     rw[<-hC,qc]
     simp
     omega
    ·exact⟨O,O,O,O,O,trivial⟩
    rw[Vb K1 (m+1) hc (0+((m+1:Nat):Int).toNat*3) oO]
    apply cZ
    ·apply cO (p:=sl (some ⟨gT,0,none⟩) c1 41 1 (T'.length+1) ((T'++[m+1]).map fun y=>Value.int .i64 (y:Nat))) (p':=sl (some ⟨gT,0,none⟩) c1 41 1 T'.length (T'.map fun y=>Value.int .i64 (y:Nat)))
     ·exact uK
     exact nK oO (by simp) (by simp)
    exact uI
  refine CK ?_;have hZ:en.r.left=0\/K1[en.r.left]?=some true:= .inl oO;refine CB ?_;refine dV 131 O (fun h0=>?_) (fun h0=>?_)
  ·cases br with
   |false=>
    refine Hw ?_
    refine uU ?_
    refine aU (hE.t O) (hE.t O) O O O (fun h4=>?_)
    refine uU ?_
    apply bU (hE.t O) (hE.t O) O O O
    ·exact uK
    ·exact uK
    ·rfl
    ·rfl
    ·omega
    ·omega
    ·(unfold maxLen;omega)
    intro hM hO hP hQ hD hF
    refine Bz ?_
    obtain rfl:hP=(T'++[m+1]++[en.r.right]).length:=by rw[hD];simp
    obtain rfl:hQ=(T'++[m+1]++[en.r.right]).map (fun y=>Value.int .i64 (y:Nat)):=by rw[hF];simp[bX,bP]
    refine bS (ι:=Gt) (j:=⟨T'++[m+1]++[en.r.right],K1,some ⟨hM,0,none⟩,hO⟩) ?_ ?_ ?_ ?_
    ·exact WW hA hW oO oO
    ·simp;omega
    ·exact⟨O,O,O,O,O,trivial⟩
    exact uI
   |true=>
    refine EK ?_
    have hR:en.r.right=0\/K1[en.r.right]?=some true:= .inr hW
    refine Bv ?_
    refine uH ([cells tb [uPt s,.slice (some ⟨g,0,none⟩) N c] 177,cells b8 (bX [.int .i64 0,.int .u8 0,.int .i64 0,.int .i64 0,.int .i64 0] 0 (bP (.agg #[.int .i64 (Rl.kind (en.r):Nat),.int .u8 (Rl.byte (en.r):Nat),.int .i64 (Rl.left (en.r):Nat),.int .i64 (Rl.right (en.r):Nat),.int .i64 (Rl.times (en.r):Nat)]))) 111]) ?_
    refine Bi ?_
    apply dH 7 O oK O
    refine uC (rE hE hB hS hT hr hA.k0 hZ hR hd) O ?_
    rintro _ _⟨rfl,rfl⟩
    simp only[uV,uW]
    refine uE ?_
    refine Bv ?_
    apply dH 9 O oK O
    refine uJ ?_
    refine uE ?_
    refine Bi ?_
    refine uB (gF T'.length O O (hE.t O) oO oO) ?_
    refine Bz ?_
    refine bS (ι:=Gt) (j:=⟨T',K1.set (m+1) true,some ⟨gT,0,none⟩,c1⟩) ?_ ?_ ?_ ?_
    ·exact zA hA
    ·have hC:=Ut hV.1
     have hG:T'.getLast?.getD 0<=N:=by
      cases hl9:T'.getLast? with
      |none=>simp
      |some y=>
       have:=(hA.unk y (by simp[oq hl9])).2.2
       simp;omega
     simp only
     rw[<-hC,qc]
     simp
     omega
    ·exact⟨O,O,O,O,O,trivial⟩
    rw[Vb K1 (m+1) hc (0+((m+1:Nat):Int).toNat*3) oO]
    apply cZ
    ·apply cO (p:=sl (some ⟨gT,0,none⟩) c1 41 1 (T'.length+1) ((T'++[m+1]).map fun y=>Value.int .i64 (y:Nat))) (p':=sl (some ⟨gT,0,none⟩) c1 41 1 T'.length (T'.map fun y=>Value.int .i64 (y:Nat)))
     ·exact uK
     exact nK oO (by simp) (by simp)
    exact uI
  refine CK ?_;have hR:en.r.right=0\/K1[en.r.right]?=some true:= .inl oO;refine Bv ?_;refine uH ([cells tb [uPt s,.slice (some ⟨g,0,none⟩) N c] 177,cells b8 (bX [.int .i64 0,.int .u8 0,.int .i64 0,.int .i64 0,.int .i64 0] 0 (bP (.agg #[.int .i64 (Rl.kind (en.r):Nat),.int .u8 (Rl.byte (en.r):Nat),.int .i64 (Rl.left (en.r):Nat),.int .i64 (Rl.right (en.r):Nat),.int .i64 (Rl.times (en.r):Nat)]))) 111]) ?_;refine Bi ?_;apply dH 7 O oK O;refine uC (rE hE hB hS hT hr hA.k0 hZ hR hd) O ?_;rintro _ _⟨rfl,rfl⟩;simp only[uV,uW];refine uE ?_;refine Bv ?_;apply dH 9 O oK O;refine uJ ?_;refine uE ?_;refine Bi ?_;refine uB (gF T'.length O O (hE.t O) oO oO) ?_;refine Bz ?_;refine bS (ι:=Gt) (j:=⟨T',K1.set (m+1) true,some ⟨gT,0,none⟩,c1⟩) ?_ ?_ ?_ ?_
  ·exact zA hA
  ·have hC:=Ut hV.1
   have hG:T'.getLast?.getD 0<=N:=by
    cases hl9:T'.getLast? with
    |none=>simp
    |some y=>
     have:=(hA.unk y (by simp[oq hl9])).2.2
     simp;omega
   simp only;rw[<-hC,qc];simp;omega
  ·exact⟨O,O,O,O,O,trivial⟩
  rw[Vb K1 (m+1) hc (0+((m+1:Nat):Int).toNat*3) oO];apply cZ
  ·apply cO (p:=sl (some ⟨gT,0,none⟩) c1 41 1 (T'.length+1) ((T'++[m+1]).map fun y=>Value.int .i64 (y:Nat))) (p':=sl (some ⟨gT,0,none⟩) c1 41 1 T'.length (T'.map fun y=>Value.int .i64 (y:Nat)))
   ·exact uK
   exact nK oO (by simp) (by simp)
  exact uI
 exact absurd ho oO
