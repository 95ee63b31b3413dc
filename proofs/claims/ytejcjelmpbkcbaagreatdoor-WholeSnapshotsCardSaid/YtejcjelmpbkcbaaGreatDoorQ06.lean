import Derived.Test.YtejcjelmpbkcbaaGreatDoorQ04
import Derived.LoopN
set_option linter.all false
set_option maxHeartbeats 1000000
namespace Go.Proofs.YtejcjelmpbkcbaaGreatDoor
open Go Go.RowKit Sl Eg
set_option maxRecDepth 10000
section
variable {E:Env}{Es:List Ent}{tb s most:Nat}
def qDx {L:List Rl}{K:List Bool}{j:Nat}{b:Bool}(h:K[j]?=some b)(x:Nat)(hx:x=j*3+2):(iT L K 0)[x]?=some (.bool b):=by
 subst hx;rw[qDw h 2 oO];cases b<;>rfl
def qCk {K:List Bool}(h:0<K.length)(h0:K[0]?≠some true):K[0]?=some false:=by
 have h1:K[0]?=some K[0]:=ag h;rw[h1]at h0 ⊢;cases h2:K[0]with
 |false=>rfl
 |true=>rw[h2]at h0;exact absurd rfl h0
def ids_get (T:List Nat)(x k:Nat)(hk:k=T.length):((T++[x]).map fun y=>Value.int .i64 (y:Nat))[k]?=some (.int .i64 (x:Nat)):=by
 subst hk;simp
structure RowG where
 T:List Nat
 K:List Bool
 p:Option Addr
 c:Nat
structure RowOk (i N:Nat)(T:List Nat)(K:List Bool):Prop where
 klen:K.length=N
 k0:K[0]?=some false
 dec:T.Pairwise (· > ·)
 unk:∀x∈T,K[x]?=some false∧1≤x∧x≤i+1
 top:(T=[]∧K[i+1]?=some true)∨T.head?=some (i+1)

def qIr {L:List Rl}(K:List Bool)(j:Nat)(h:j<K.length)(x:Nat)(hx:x=j*3):bX (iT L K 0) x (bP (.agg #[.int .u64 (key L j:Nat),.int .i64 (lvl L j),.bool true]))=iT L (K.set j true) 0:=by
 subst hx;rw[qYg h 0,jg];rfl
def left_le {r:Rl}{m:Nat}(h:r.ok (m+1)):r.left≤m∧r.right≤m:=by
 cases r with
 |letter b=>exact⟨au _,au _⟩
 |pair l r=>obtain⟨_,_,_,_⟩:=h;exact⟨by simp only[Rl.left];omega,by simp only[Rl.right];omega⟩
 |power x k=>obtain⟨_,_,_⟩:=h;exact⟨by simp only[Rl.left];omega,au _⟩
def zJ {i N x y:Nat}{T:List Nat}{K:List Bool}(h:RowOk i N (T++[x]) K)(hy:K[y]?=some false)(hy1:1≤y)(hyx:y<x):RowOk i N (T++[x]++[y]) K:=by
 have hx:=h.unk x (by simp);refine⟨h.klen,h.k0,?_,?_,?_⟩
 ·rw[qj];refine⟨h.dec,by simp,fun a ha b hb=>?_⟩;obtain rfl:b=y:=by simpa using hb
  rcases bn.1 ha with ha'|ha'
  ·have:=(qj.1 h.dec).2.2 a ha' x (by simp);omega
  obtain rfl:a=x:=by simpa using ha'
  exact hyx
 ·intro z hz;rcases bn.1 hz with hz'|hz'
  ·exact h.unk z hz'
  obtain rfl:z=y:=by simpa using hz'
  exact⟨hy,hy1,oO⟩
 right;rcases h.top with⟨h0,_⟩|h0
 ·simp at h0
 cases T with
 |nil=>simpa using h0
 |cons a T=>simpa using h0
def yC {i N x:Nat}{T:List Nat}{K:List Bool}(h:RowOk i N (T++[x]) K):RowOk i N T (K.set x true):=by
 have hx:=h.unk x (by simp);have hxl:x<K.length:=(ae.1 hx.1).1;refine⟨by rw[List.length_set];exact h.klen,by rw[List.getElem?_set_ne oO];exact h.k0,(qj.1 h.dec).1,?_,?_⟩
 ·intro z hz;have hzx:=(qj.1 h.dec).2.2 z hz x (by simp);have:=h.unk z (by simp[hz]);refine⟨?_,this.2⟩;rw[List.getElem?_set_ne oO];exact this.1
 rcases h.top with⟨h0,_⟩|h0
 ·simp at h0
 cases T with
 |nil=>
  obtain rfl:x=i+1:=by simpa using h0
  exact .inl ⟨O,by simp[hxl]⟩
 |cons a T=>exact .inr (by simpa using h0)
def ct_row (hE:Seat E)(hB:Base E.w0){i:Nat}(hi:i<Es.length):
  Ct E 259 [uPt tb,.int .i64 ((i+1:Nat):Int)] [tabP tb s (rls Es),bR s most Es]
   (fun v Q=>v= .tuple #[.agg #[.int .u64 (key (rls Es) (i+1):Nat),.int .i64 (lvl (rls Es) (i+1)),.bool true],.nilIface]∧Q=[tabP tb s (rls Es),bR s most Es]):=by
 refine eU (p:=bR s most Es) uK (fun _ h=>dS h) (fun hsay=>?_);obtain⟨hwf,htx,hmost,hfit⟩:=hsay;have hlen:=hwf.room;rw[bQ]at hlen;unfold fP at hlen
 refine qHh (ι:={x:List Bool×Option Addr×Nat//x.1.length≤(rls Es).length+1∧x.1[0]?≠some true}) (ps:=fun x=>[cells tb [uPt s,.slice x.1.2.1 x.1.1.length x.1.2.2] 201,sl x.1.2.1 x.1.2.2 379 3 x.1.1.length (iT (rls Es) x.1.1 0)])
  (fun k⟨K,p,c,h1,h2,h3⟩=>⟨⟨(K,p,c),h1,h2⟩,h3⟩) ?_
 rintro⟨⟨K,p,c⟩,hK,hK0⟩;simp only at hK hK0 ⊢;rw[bQ]at hK;refine bO (hE.fn Tryz.func259) O O O (fun R=>?_);simp only[dX,uV,uW];refine gg2 ?_;refine uU (cZ (hE.t O) (fun b4=>?_));refine gg31 ?_;refine eF 23 O (fun hs=>?_) (fun hs=>?_)
 ·exact absurd hs oO
 refine gg11 ?_;refine uX (qFm hE) O ?_;rintro _ _⟨rfl,rfl⟩;simp only[uV,uW];refine gg5 ?_;refine bE O (fun hs2=>?_) (fun hs2=>?_)
 ·exact absurd hs2 oO
 refine gg2 ?_;refine nM (fun x:List Bool×Nat×Nat=>[(0,uPt tb),(1,.int .i64 ((i+1:Nat):Int)),(4,uPt b4),(5,.nilIface)]) (fun x=>[cells tb [uPt s,.slice (some ⟨x.2.1,0,none⟩) x.1.length x.2.2] 201,sl (some ⟨x.2.1,0,none⟩) x.2.2 379 3 x.1.length (iT (rls Es) x.1 0),cells b4 [.int .u64 0,.int .i64 0,.bool false] 379,bR s most Es,R]) (fun x=>x.1.length≤Es.length+1∧i+1<x.1.length∧x.1[0]?=some false) ?_ ?_
 ·refine gg11 ?_;refine bE O (fun hg=>?_) (fun hg=>?_)
  ·refine uN 16 ([cells tb [uPt s,.slice p K.length c] 201]) ?_;refine gg7 ?_;apply dG 7 O oK
   ·exact aB O
   ·rfl
   apply dG 8 O oK
   ·exact bA O
   ·rfl
   apply dG 9 O oK
   ·exact uBf O
   ·rfl
   apply dG 10 O oK
   ·(apply aO rfl (hE.t rfl) rfl;(repeat(first |rfl|assumption|constructor));done)
   ·rfl
   apply dG 11 O oK
   ·exact uBl O
   ·rfl
   apply dG 12 O oK
   ·exact uAs O O
   ·rfl
   apply fI 13 O oK O;obtain⟨k,hk⟩:∃k,k=i+2-K.length:=⟨_,rfl⟩;apply qCy (k:=k) (hE.t O) (hE.t O) (hE.t O) O O O
   ·omega
   ·exact uK
   ·omega
   ·omega
   ·unfold maxLen;omega
   intro g54 c54 us hus;have hz:=hus (.agg #[.int .u64 0,.int .i64 0,.bool false]) O;simp only[Value.cells]at hz;rw[←qOm (rls Es) k K.length]at hz;have hz2:iT (rls Es) K 0++us=iT (rls Es) (K++List.replicate k false) 0:=by rw[hz,qMd,jg]
   have hz3:K.length+k=(K++List.replicate k false).length:=by simp
   rw[hz2,hz3];clear hz hz2 hus
   have hk0:(K++List.replicate k false)[0]?=some false:=by
    have hpos:0<(K++List.replicate k false).length:=(by simp;omega);exact qCk hpos (by cases K with |nil=>cases k<;>simp[cu]|cons b K=>simpa using hK0)
   refine uE ?_;apply dG 14 O oK
   ·exact bA O
   ·rfl
   apply dG 15 O oK
   ·exact uBf O
   ·rfl
   apply iH O oK oK O;refine uS ?_;refine fZ (K++List.replicate k false,g54,c54) ⟨by simp;omega,by simp;omega,hk0⟩ ⟨rfl,rfl,rfl,rfl,trivial⟩ ?_;exact uI
  refine gg1 ?_;refine qGs (p:=sl p c 379 3 K.length (iT (rls Es) K 0)) uK (fun _ h=>fA h oO) ?_;rintro⟨g,rfl⟩;have hk0:K[0]?=some false:=qCk oO hK0;refine fZ (K,g,c) ⟨hK,by show i+1<K.length;omega,hk0⟩ ⟨rfl,rfl,rfl,rfl,trivial⟩ ?_;exact uI
 clear hK hK0 p c K;rintro⟨K,g,c⟩⟨hK,hiK,hk0⟩;simp only at hK hiK hk0 ⊢;obtain⟨N,hN⟩:∃N,N=K.length:=⟨_,rfl⟩;rw[←hN]at hK hiK ⊢;refine gg5 ?_;refine nM (fun x:RowG=>[(0,uPt tb),(1,.int .i64 ((i+1:Nat):Int)),(4,uPt b4),(5,.nilIface),(6,.slice x.p x.T.length x.c)]) (fun x=>[cells tb [uPt s,.slice (some ⟨g,0,none⟩) N c] 201,sl (some ⟨g,0,none⟩) c 379 3 N (iT (rls Es) x.K 0),sl x.p x.c 56 1 x.T.length (x.T.map fun y=> .int .i64 (y:Nat)),cells b4 [.int .u64 0,.int .i64 0,.bool false] 379,bR s most Es,R]) (fun x=>RowOk i N x.T x.K) ?_ ?_
 ·have hget:K[i+1]?=some (K[i+1]'oO):=ag _;generalize K[i+1]'oO=b at hget;have hkn:=qDx (L:=rls Es) hget (0+(((i+1:Nat):Int)).toNat*3+2) oO;cases b with
  |true=>
   refine gg15 ?_
   refine fZ ⟨[],K,none,0⟩ ⟨hN.symm,hk0,by simp,by simp,.inl ⟨rfl,hget⟩⟩ ⟨rfl,rfl,rfl,rfl,rfl,trivial⟩ (cO (gU (t:=56) (sz:=1)) ?_)
   exact uI
  |false=>
   refine gg14 ?_
   refine iY (gU (t:=56) (sz:=1)) ?_
   refine gg3 ?_
   refine uU ?_
   refine aU (hE.t O) (hE.t O) O O O (fun b68=>?_)
   refine uU ?_
   apply bU (hE.t O) (hE.t O) O O O
   ·exact uK
   ·exact uK
   ·rfl
   ·rfl
   ·omega
   ·omega
   ·(unfold maxLen;omega)
   intro g69 c69 n69 x69 hn69 hx69
   refine gg2 ?_
   obtain rfl:n69=[i+1].length:=hn69
   obtain rfl:x69=[i+1].map (fun y=>Value.int .i64 (y:Nat)):=hx69
   refine fZ ⟨[i+1],K,_,_⟩ ⟨hN.symm,hk0,by simp,fun x hx=>?_,.inr rfl⟩ ⟨rfl,rfl,rfl,rfl,rfl,trivial⟩ ?_
   ·obtain rfl:x=i+1:=by simpa using hx
    exact⟨hget,oO,oO⟩
   exact uI
 rintro⟨T0,K0,p0,c0⟩hok0;simp only at hok0 ⊢;refine gg2 ?_;refine eQ (fun x:RowG=>[(0,uPt tb),(1,.int .i64 ((i+1:Nat):Int)),(4,uPt b4),(5,.nilIface),(6,.slice x.p x.T.length x.c)]) (fun x=>[cells tb [uPt s,.slice (some ⟨g,0,none⟩) N c] 201,sl (some ⟨g,0,none⟩) c 379 3 N (iT (rls Es) x.K 0),sl x.p x.c 56 1 x.T.length (x.T.map fun y=> .int .i64 (y:Nat)),cells b4 [.int .u64 0,.int .i64 0,.bool false] 379,bR s most Es,R]) (fun x=>cntF x.K*(N+1)+x.T.getLast?.getD 0) (fun x=>RowOk i N x.T x.K) ⟨T0,K0,p0,c0⟩ hok0 ?_ (fun _ h=>h) ?_
 ·exact⟨O,O,O,O,O,trivial⟩
 clear hok0 T0 K0 p0 c0;rintro⟨T,K1,p1,c1⟩hok;simp only at hok ⊢;have hkl:=hok.klen;rcases bu T with rfl|⟨T',x,rfl⟩
 ·have hk1:K1[i+1]?=some true:=by
   rcases hok.top with⟨_,h⟩| h
   ·exact h
   simp at h
  have f0:(iT (rls Es) K1 0)[0+(((i+1:Nat):Int)).toNat*3]?=some (.int .u64 (key (rls Es) (i+1):Nat)):=by
   rw[show 0+(((i+1:Nat):Int)).toNat*3=(i+1)*3+0 by omega,qDw hk1 0 oO];rfl
  have f1:(iT (rls Es) K1 0)[0+(((i+1:Nat):Int)).toNat*3+1]?=some (.int .i64 (lvl (rls Es) (i+1))):=by
   rw[show 0+(((i+1:Nat):Int)).toNat*3+1=(i+1)*3+1 by omega,qDw hk1 1 oO];rfl
  have f2:(iT (rls Es) K1 0)[0+(((i+1:Nat):Int)).toNat*3+1+1]?=some (.bool true):=by
   rw[show 0+(((i+1:Nat):Int)).toNat*3+1+1=(i+1)*3+2 by omega,qDw hk1 2 oO];rfl
  refine gg28 ?_;apply cB
  ·rfl
  ·((apply Rs.cell rfl (hE.t rfl) rfl;(focus((repeat(first |rfl|assumption|constructor));done)));apply Rs.tmp rfl;exact Rs.nil)
  ·exact⟨O,O⟩
  apply cO
  ·apply qGo (K:=K1) (L:=rls Es)
   ·exact uK
   ·exact hkl
   ·rw[bQ];exact hK
   rw[hok.k0];simp
  exact uI
 rw[bv]at hok ⊢;have hux:=hok.unk x (by simp);have hxl:x<K1.length:=(ae.1 hux.1).1;obtain⟨m,rfl⟩:∃m,x=m+1:=⟨x-1,oO⟩;have hm:m<Es.length:=oO;have hent:Es[m]?=some (Es[m]'hm):=ag hm;generalize Es[m]'hm=en at hent
 have hT20:T'.length+1≤1048577:=by
  have:=qSk (n:=i+1) hok.dec (fun x hx=>(hok.unk x hx).2);simp at this;omega
 have hlT:(T'++[m+1]).length=T'.length+1:=by simp
 rw[hlT];have hKl:K1.length≤(rls Es).length+1:=by rw[hkl,bQ];exact hK
 have hr:=wL hent;have hrok:=hwf.ok m en.r hr;have ht:=ids_get T' (m+1) (((T'.length+1:Nat):Int)-1).toNat oO;refine jG (p:=sl p1 c1 56 1 (T'.length+1) ((T'++[m+1]).map fun y=>Value.int .i64 (y:Nat))) uK (fun _ h=>And.intro (fA h oO) (pM h).1) ?_;rintro⟨⟨gT,rfl⟩,hcap⟩;refine gg8 ?_;refine bE O (fun ho=>?_) (fun ho=>?_)
 ·refine gg21 ?_;refine uX (kZ hE hent) O ?_;rintro _ _⟨rfl,rfl⟩;simp only[uV,uW];refine gg3 ?_;refine uU (cZ (hE.t O) (fun b8=>?_));refine gg12 ?_;have hb:=left_le hrok;obtain⟨bl,hbl⟩:∃b,K1[en.r.left]?=some b:=⟨_,ag oO⟩;obtain⟨br,hbr⟩:∃b,K1[en.r.right]?=some b:=⟨_,ag oO⟩;have kl:=qDx (L:=rls Es) hbl (0+((en.r.left:Nat):Int).toNat*3+2) oO;have kr:=qDx (L:=rls Es) hbr (0+((en.r.right:Nat):Int).toNat*3+2) oO;refine gg9 ?_;refine eF 110 O (fun hl=>?_) (fun hl=>?_)
  ·cases bl with
   |false=>
    refine gg29 ?_
    refine uU ?_
    refine aU (hE.t O) (hE.t O) O O O (fun b125=>?_)
    refine uU ?_
    apply bU (hE.t O) (hE.t O) O O O
    ·exact uK
    ·exact uK
    ·rfl
    ·rfl
    ·omega
    ·omega
    ·(unfold maxLen;omega)
    intro g126 c126 n126 x126 hn126 hx126
    refine gg4 ?_
    obtain rfl:n126=(T'++[m+1]++[en.r.left]).length:=by rw[hn126];simp
    obtain rfl:x126=(T'++[m+1]++[en.r.left]).map (fun y=>Value.int .i64 (y:Nat)):=by rw[hx126];simp[bX,bP]
    refine bS (ι:=RowG) (j:=⟨T'++[m+1]++[en.r.left],K1,some ⟨g126,0,none⟩,c126⟩) ?_ ?_ ?_ ?_
    ·exact zJ hok hbl oO oO
    ·simp;omega
    ·exact⟨O,O,O,O,O,trivial⟩
    exact uI
   |true=>
    refine gg25 ?_
    have hlk:en.r.left=0∨K1[en.r.left]?=some true:= .inr hbl
    refine gg6 ?_
    refine eF 131 O (fun hr2=>?_) (fun hr2=>?_)
    ·cases br with
     |false=>
      refine gg29 ?_
      refine uU ?_
      refine aU (hE.t O) (hE.t O) O O O (fun b146=>?_)
      refine uU ?_
      apply bU (hE.t O) (hE.t O) O O O
      ·exact uK
      ·exact uK
      ·rfl
      ·rfl
      ·omega
      ·omega
      ·(unfold maxLen;omega)
      intro g147 c147 n147 x147 hn147 hx147
      refine gg4 ?_
      obtain rfl:n147=(T'++[m+1]++[en.r.right]).length:=by rw[hn147];simp
      obtain rfl:x147=(T'++[m+1]++[en.r.right]).map (fun y=>Value.int .i64 (y:Nat)):=by rw[hx147];simp[bX,bP]
      refine bS (ι:=RowG) (j:=⟨T'++[m+1]++[en.r.right],K1,some ⟨g147,0,none⟩,c147⟩) ?_ ?_ ?_ ?_
      ·exact zJ hok hbr oO oO
      ·simp;omega
      ·exact⟨O,O,O,O,O,trivial⟩
      exact uI
     |true=>
      refine gg25 ?_
      have hrk:en.r.right=0∨K1[en.r.right]?=some true:= .inr hbr
      refine gg1 ?_
      refine uH ([cells tb [uPt s,.slice (some ⟨g,0,none⟩) N c] 201,cells b8 (bX [.int .i64 0,.int .u8 0,.int .i64 0,.int .i64 0,.int .i64 0] 0 (bP (.agg #[.int .i64 (Rl.kind (en.r):Nat),.int .u8 (Rl.byte (en.r):Nat),.int .i64 (Rl.left (en.r):Nat),.int .i64 (Rl.right (en.r):Nat),.int .i64 (Rl.times (en.r):Nat)]))) 141]) ?_
      refine gg7 ?_
      apply dH 7 O oK O
      refine uC (rF hE hB hwf hkl hr hok.k0 hlk hrk hKl) O ?_
      rintro _ _⟨rfl,rfl⟩
      simp only[uV,uW]
      refine uE ?_
      refine gg1 ?_
      apply dH 9 O oK O
      refine uJ ?_
      refine uE ?_
      refine gg7 ?_
      refine uB (fU T'.length O O (hE.t O) oO oO) ?_
      refine gg4 ?_
      refine bS (ι:=RowG) (j:=⟨T',K1.set (m+1) true,some ⟨gT,0,none⟩,c1⟩) ?_ ?_ ?_ ?_
      ·exact yC hok
      ·have hcnt:=qAu hux.1
       have hlast:T'.getLast?.getD 0≤N:=by
        cases hl9:T'.getLast? with
        |none=>simp
        |some y=>
         have:=(hok.unk y (by simp[oL hl9])).2.2
         simp;omega
       simp only
       rw[←hcnt,ou]
       simp
       omega
      ·exact⟨O,O,O,O,O,trivial⟩
      rw[qIr K1 (m+1) hxl (0+((m+1:Nat):Int).toNat*3) oO]
      apply cO
      ·apply cK (p:=sl (some ⟨gT,0,none⟩) c1 56 1 (T'.length+1) ((T'++[m+1]).map fun y=>Value.int .i64 (y:Nat))) (p':=sl (some ⟨gT,0,none⟩) c1 56 1 T'.length (T'.map fun y=>Value.int .i64 (y:Nat)))
       ·exact uK
       exact nG oO (by simp) (by simp)
      exact uI
    refine gg15 ?_
    have hrk:en.r.right=0∨K1[en.r.right]?=some true:= .inl oO
    refine gg1 ?_
    refine uH ([cells tb [uPt s,.slice (some ⟨g,0,none⟩) N c] 201,cells b8 (bX [.int .i64 0,.int .u8 0,.int .i64 0,.int .i64 0,.int .i64 0] 0 (bP (.agg #[.int .i64 (Rl.kind (en.r):Nat),.int .u8 (Rl.byte (en.r):Nat),.int .i64 (Rl.left (en.r):Nat),.int .i64 (Rl.right (en.r):Nat),.int .i64 (Rl.times (en.r):Nat)]))) 141]) ?_
    refine gg7 ?_
    apply dH 7 O oK O
    refine uC (rF hE hB hwf hkl hr hok.k0 hlk hrk hKl) O ?_
    rintro _ _⟨rfl,rfl⟩
    simp only[uV,uW]
    refine uE ?_
    refine gg1 ?_
    apply dH 9 O oK O
    refine uJ ?_
    refine uE ?_
    refine gg7 ?_
    refine uB (fU T'.length O O (hE.t O) oO oO) ?_
    refine gg4 ?_
    refine bS (ι:=RowG) (j:=⟨T',K1.set (m+1) true,some ⟨gT,0,none⟩,c1⟩) ?_ ?_ ?_ ?_
    ·exact yC hok
    ·have hcnt:=qAu hux.1
     have hlast:T'.getLast?.getD 0≤N:=by
      cases hl9:T'.getLast? with
      |none=>simp
      |some y=>
       have:=(hok.unk y (by simp[oL hl9])).2.2
       simp;omega
     simp only
     rw[←hcnt,ou]
     simp
     omega
    ·exact⟨O,O,O,O,O,trivial⟩
    rw[qIr K1 (m+1) hxl (0+((m+1:Nat):Int).toNat*3) oO]
    apply cO
    ·apply cK (p:=sl (some ⟨gT,0,none⟩) c1 56 1 (T'.length+1) ((T'++[m+1]).map fun y=>Value.int .i64 (y:Nat))) (p':=sl (some ⟨gT,0,none⟩) c1 56 1 T'.length (T'.map fun y=>Value.int .i64 (y:Nat)))
     ·exact uK
     exact nG oO (by simp) (by simp)
    exact uI
  refine gg15 ?_;have hlk:en.r.left=0∨K1[en.r.left]?=some true:= .inl oO;refine gg6 ?_;refine eF 131 O (fun hr2=>?_) (fun hr2=>?_)
  ·cases br with
   |false=>
    refine gg29 ?_
    refine uU ?_
    refine aU (hE.t O) (hE.t O) O O O (fun b146=>?_)
    refine uU ?_
    apply bU (hE.t O) (hE.t O) O O O
    ·exact uK
    ·exact uK
    ·rfl
    ·rfl
    ·omega
    ·omega
    ·(unfold maxLen;omega)
    intro g147 c147 n147 x147 hn147 hx147
    refine gg4 ?_
    obtain rfl:n147=(T'++[m+1]++[en.r.right]).length:=by rw[hn147];simp
    obtain rfl:x147=(T'++[m+1]++[en.r.right]).map (fun y=>Value.int .i64 (y:Nat)):=by rw[hx147];simp[bX,bP]
    refine bS (ι:=RowG) (j:=⟨T'++[m+1]++[en.r.right],K1,some ⟨g147,0,none⟩,c147⟩) ?_ ?_ ?_ ?_
    ·exact zJ hok hbr oO oO
    ·simp;omega
    ·exact⟨O,O,O,O,O,trivial⟩
    exact uI
   |true=>
    refine gg25 ?_
    have hrk:en.r.right=0∨K1[en.r.right]?=some true:= .inr hbr
    refine gg1 ?_
    refine uH ([cells tb [uPt s,.slice (some ⟨g,0,none⟩) N c] 201,cells b8 (bX [.int .i64 0,.int .u8 0,.int .i64 0,.int .i64 0,.int .i64 0] 0 (bP (.agg #[.int .i64 (Rl.kind (en.r):Nat),.int .u8 (Rl.byte (en.r):Nat),.int .i64 (Rl.left (en.r):Nat),.int .i64 (Rl.right (en.r):Nat),.int .i64 (Rl.times (en.r):Nat)]))) 141]) ?_
    refine gg7 ?_
    apply dH 7 O oK O
    refine uC (rF hE hB hwf hkl hr hok.k0 hlk hrk hKl) O ?_
    rintro _ _⟨rfl,rfl⟩
    simp only[uV,uW]
    refine uE ?_
    refine gg1 ?_
    apply dH 9 O oK O
    refine uJ ?_
    refine uE ?_
    refine gg7 ?_
    refine uB (fU T'.length O O (hE.t O) oO oO) ?_
    refine gg4 ?_
    refine bS (ι:=RowG) (j:=⟨T',K1.set (m+1) true,some ⟨gT,0,none⟩,c1⟩) ?_ ?_ ?_ ?_
    ·exact yC hok
    ·have hcnt:=qAu hux.1
     have hlast:T'.getLast?.getD 0≤N:=by
      cases hl9:T'.getLast? with
      |none=>simp
      |some y=>
       have:=(hok.unk y (by simp[oL hl9])).2.2
       simp;omega
     simp only
     rw[←hcnt,ou]
     simp
     omega
    ·exact⟨O,O,O,O,O,trivial⟩
    rw[qIr K1 (m+1) hxl (0+((m+1:Nat):Int).toNat*3) oO]
    apply cO
    ·apply cK (p:=sl (some ⟨gT,0,none⟩) c1 56 1 (T'.length+1) ((T'++[m+1]).map fun y=>Value.int .i64 (y:Nat))) (p':=sl (some ⟨gT,0,none⟩) c1 56 1 T'.length (T'.map fun y=>Value.int .i64 (y:Nat)))
     ·exact uK
     exact nG oO (by simp) (by simp)
    exact uI
  refine gg15 ?_;have hrk:en.r.right=0∨K1[en.r.right]?=some true:= .inl oO;refine gg1 ?_;refine uH ([cells tb [uPt s,.slice (some ⟨g,0,none⟩) N c] 201,cells b8 (bX [.int .i64 0,.int .u8 0,.int .i64 0,.int .i64 0,.int .i64 0] 0 (bP (.agg #[.int .i64 (Rl.kind (en.r):Nat),.int .u8 (Rl.byte (en.r):Nat),.int .i64 (Rl.left (en.r):Nat),.int .i64 (Rl.right (en.r):Nat),.int .i64 (Rl.times (en.r):Nat)]))) 141]) ?_;refine gg7 ?_;apply dH 7 O oK O;refine uC (rF hE hB hwf hkl hr hok.k0 hlk hrk hKl) O ?_;rintro _ _⟨rfl,rfl⟩;simp only[uV,uW];refine uE ?_;refine gg1 ?_;apply dH 9 O oK O;refine uJ ?_;refine uE ?_;refine gg7 ?_;refine uB (fU T'.length O O (hE.t O) oO oO) ?_;refine gg4 ?_;refine bS (ι:=RowG) (j:=⟨T',K1.set (m+1) true,some ⟨gT,0,none⟩,c1⟩) ?_ ?_ ?_ ?_
  ·exact yC hok
  ·have hcnt:=qAu hux.1
   have hlast:T'.getLast?.getD 0≤N:=by
    cases hl9:T'.getLast? with
    |none=>simp
    |some y=>
     have:=(hok.unk y (by simp[oL hl9])).2.2
     simp;omega
   simp only;rw[←hcnt,ou];simp;omega
  ·exact⟨O,O,O,O,O,trivial⟩
  rw[qIr K1 (m+1) hxl (0+((m+1:Nat):Int).toNat*3) oO];apply cO
  ·apply cK (p:=sl (some ⟨gT,0,none⟩) c1 56 1 (T'.length+1) ((T'++[m+1]).map fun y=>Value.int .i64 (y:Nat))) (p':=sl (some ⟨gT,0,none⟩) c1 56 1 T'.length (T'.map fun y=>Value.int .i64 (y:Nat)))
   ·exact uK
   exact nG oO (by simp) (by simp)
  exact uI
 exact absurd ho oO
end
section
variable {E:Env}{Es:List Ent}{pp tb s most:Nat}
def qFl (hE:Seat E)(hB:Base E.w0){i:Nat}(hi:i<Es.length):
  Ct E 246 [uPt tb,.int .i64 ((i+1:Nat):Int)] [tabP tb s (rls Es),bR s most Es] (fun v Q=>v= .tuple #[.int .u64 (key (rls Es) (i+1):Nat),.nilIface]∧Q=[tabP tb s (rls Es),bR s most Es]):=by
 refine bO (hE.fn Tryz.func246) O O O (fun R=>?_);simp only[dX,uV,uW];refine gg10 ?_;refine uX (ct_row hE hB hi) O ?_;rintro _ _⟨rfl,rfl⟩;simp only[uV,uW];refine gg3 ?_;refine uU (cZ (hE.t O) (fun b6=>?_));refine gg23 ?_;exact uZ O (.tmp O (.tmp O .nil)) ⟨O,O⟩
def qPn (hE:Seat E)(hB:Base E.w0){i:Nat}(hi:i<Es.length)(hl:0≤lvl (rls Es) (i+1)):
  Ct E 248 [uPt tb,.int .i64 ((i+1:Nat):Int)] [tabP tb s (rls Es),bR s most Es] (fun v Q=>v= .tuple #[.int .i64 (lvl (rls Es) (i+1)),.nilIface]∧Q=[tabP tb s (rls Es),bR s most Es]):=by
 refine bO (hE.fn Tryz.func248) O O O (fun R=>?_);simp only[dX,uV,uW];refine gg10 ?_;refine uX (ct_row hE hB hi) O ?_;rintro _ _⟨rfl,rfl⟩;simp only[uV,uW];refine gg3 ?_;refine uU (cZ (hE.t O) (fun b6=>?_));refine gg22 ?_;refine bE O (fun h=>?_) (fun h=>?_)
 ·exact absurd h oO
 refine gg11 ?_;exact uZ O (.tmp O (.tmp O .nil)) ⟨O,O⟩
def qSa (hE:Seat E):Ct E 45 [uPt s] [] (fun v Q=>∃tb,v=uPt tb∧Q=[tabP tb s []]):=by
 refine bO (hE.fn Tryz.func45) O O O (fun R=>?_);simp only[dX,uV,uW];refine gg19 ?_;refine uU ?_;refine gW O (fun b7=>?_);refine gg4 ?_;apply cB
 ·rfl
 ·(apply Rs.tmp rfl;exact Rs.nil)
 ·exact⟨b7,O,O⟩
 apply cO (gU (t:=379) (sz:=3));apply cO
 ·apply qGo (K:=[]) (L:=[]) (tb:=b7) (s:=s) (p:=none) (c:=0)
  ·exact uK
  ·rfl
  ·simp
  simp
 exact uI
def jS (hE:Seat E):Ct E 86 [uPt pp] [cells pp [uPt s,uPt tb] 117] (fun v Q=>v=uPt s∧Q=[cells pp [uPt s,uPt tb] 117]):=by
 refine bO (hE.fn Tryz.func86) O O O (fun R=>?_);simp only[dX,uV,uW];refine gg25 ?_;exact uZ O (.tmp O .nil) ⟨O,O⟩
def qBt (hE:Seat E):Ct E 273 [uPt pp] [cells pp [uPt s,uPt tb] 117] (fun v Q=>v=uPt tb∧Q=[cells pp [uPt s,uPt tb] 117]):=by
 refine bO (hE.fn Tryz.func273) O O O (fun R=>?_);simp only[dX,uV,uW];refine gg25 ?_;exact uZ O (.tmp O .nil) ⟨O,O⟩
def ct_Top0 (hE:Seat E):Ct E 223 [uPt pp,.int .i64 ((0:Nat):Int)] [cells pp [uPt s,uPt tb] 117,tabP tb s (rls Es),bR s most Es] (fun v Q=>v= .tuple #[.int .i64 0,.nilIface]∧Q=[cells pp [uPt s,uPt tb] 117,tabP tb s (rls Es),bR s most Es]):=by
 refine bO (hE.fn Tryz.func223) O O O (fun R=>?_);simp only[dX,uV,uW];refine gg44 ?_;exact uZ O (.tmp O (.tmp O .nil)) ⟨O,O⟩
def ct_Top (hE:Seat E)(hB:Base E.w0){i:Nat}(hi:i<Es.length)(hl:0≤lvl (rls Es) (i+1)):Ct E 223 [uPt pp,.int .i64 ((i+1:Nat):Int)] [cells pp [uPt s,uPt tb] 117,tabP tb s (rls Es),bR s most Es] (fun v Q=>v= .tuple #[.int .i64 (lvl (rls Es) (i+1)),.nilIface]∧Q=[cells pp [uPt s,uPt tb] 117,tabP tb s (rls Es),bR s most Es]):=by
 refine bO (hE.fn Tryz.func223) O O O (fun R=>?_);simp only[dX,uV,uW];refine gg35 ?_;refine bE O (fun h=>?_) (fun h=>?_)
 ·exact absurd h oO
 refine gg9 ?_;refine uX (qPn hE hB hi hl) O ?_;rintro _ _⟨rfl,rfl⟩;simp only[uV,uW];refine gg7 ?_;exact uZ O (.tmp O (.tmp O .nil)) ⟨O,O⟩
end
section
variable {E:Env}{Es:List Ent}{pp tb s most:Nat}
def gsC:List (Nat×Nat)→List Value
 |[]=>[]
 |g::r=> .int .i64 (g.1:Nat):: .int .i64 (g.2:Nat)::gsC r
def vG:∀(a b:List (Nat×Nat)),gsC (a++b)=gsC a++gsC b
 |[],_=>rfl
 |_::a,b=>by simp[gsC,vG a b]
def qCr {gs:List (Nat×Nat)}{i:Nat}{g:Nat×Nat}(h:gs[i]?=some g):(gsC gs)[i*2]?=some (.int .i64 (g.1:Nat))∧(gsC gs)[i*2+1]?=some (.int .i64 (g.2:Nat)):=by
 induction gs generalizing i with
 |nil=>simp at h
 |cons x r ih=>
  cases i with
  |zero=>obtain rfl:x=g:=by simpa using h
         exact⟨O,O⟩
  |succ i=>
   obtain⟨h1,h2⟩:=ih (i:=i) (by simpa using h)
   exact⟨by rw[show(i+1)*2=i*2+1+1 by omega];simpa[gsC]using h1,by rw[show(i+1)*2+1=i*2+1+1+1 by omega];simpa[gsC]using h2⟩
def gsC_set {gs:List (Nat×Nat)}{i:Nat}{g:Nat×Nat}(h:gs[i]?=some g)(k:Nat):(gsC gs).set (i*2+1) (.int .i64 (k:Nat))=gsC (gs.set i (g.1,k)):=by
 induction gs generalizing i with
 |nil=>simp at h
 |cons x r ih=>
  cases i with
  |zero=>obtain rfl:x=g:=by simpa using h
         rfl
  |succ i=>
   have:=ih (i:=i) (by simpa using h)
   rw[show(i+1)*2+1=i*2+1+1+1 by omega]
   simp[gsC,this]
end
end Go.Proofs.YtejcjelmpbkcbaaGreatDoor
namespace Eg
section
def tx (L:List Rl)(bk:Bool)(i:Nat):List UInt8:=if bk then(txt L i).reverse else txt L i
end
section
def lcp:List UInt8→List UInt8→Nat
 |a::x,b::y=>if a=b then lcp x y+1 else 0
 |_,_=>0
def cost (L:List Rl):List (Nat×Nat)→Nat
 |[]=>0
 |g::r=>g.2*(2*len L g.1-1)+cost L r
end
end Eg
namespace Sl
open Go Go.RowKit
variable {E:Env}{n:Nat}{L:Fr}{S H H':List HP}{ty:TypeId}{pos:String}{af:Array Edge}{d:Option Nat}{gd:Option (Nat×Bool)}{K:Value→List HP→Prop}{Q:Exit→Act→World→Prop}
def jH {x y:Operand}{t e:TypeId}{p:Option Addr}{c m k cc g es by_ sz sz':Nat}{xs us zs zs':List Value}{kk:TK}{H'':List HP}(ht:E.tab t=some ⟨.slice e es by_,sz,zs⟩)(he:E.tab e=some ⟨kk,sz',zs'⟩)(hz:(Nat.beq zs'.length es&&Nat.blt 0 es)=true)
  (hx:ev L x=some (.slice p m c)) (hy:ev L y=some (.slice (some ⟨g,0,none⟩) k cc)) (hm:Take (sl (some ⟨g,0,none⟩) cc e es k us) H H') (hm2:Take (sl p c e es m xs) H' H'') (hp:∀u∈us,u.oneCell'=true) (h0:0<k) (hb:(m+k)*by_≤140737488355328) (hb2:m+k≤maxLen)
  (hk:∀g' c' m' xs',m'=m+k→xs'=xs++us→K (.slice (some ⟨g',0,none⟩) m' c') (sl (some ⟨g',0,none⟩) c' e es m' xs'::sl (some ⟨g,0,none⟩) cc e es k us::H'')):Ld E n L H ⟨d,.call {callee:= .builtin .append,args:= #[x,y],argTypes:= #[t,t]},ty,pos,af,gd⟩ K:=fun Q next a w G hn=>by
 obtain⟨hu,j,hj,hs,hby⟩:=fQ ht;obtain⟨i,z,hi,hi2,hiz,hzc,_⟩:=fH he;obtain rfl:i=j:=by rw[hi]at hj;simpa using hj
 simp only[dz]at hz;have z1:=lh hz.1;have z2:0<es:=by simpa[vz]using hz.2
 have s1:=G.hp.take hm;have hl:us.length=k*es:=by obtain⟨h1,h2,_,_,hh,_⟩:=s1.hp;exact hh.1
 have s2:Sat E.w0 w (sl p c e es m xs::sl (some ⟨g,0,none⟩) cc e es k us::H''):=(s1.imp fun _ h=>fK (fC (fun _=>hm2.out) h));have hnews:∀j u,us[j]?=some u→w.cell? ((⟨g,0,none⟩:Addr).add j)=some u:=fun j u hu=>by rw[addr_add,jg];exact(HasC.slice hu).cell s1
 obtain⟨g',c',w',hr,ho,hgr,hat,_⟩:=run_append_lies (P:=E.P) w t ty E.w0.heap.size e i z es by_ hu hi hiz hs hby (by rw[←lq,hzc];exact z1) z2 (.slice p m c) m xs s2.owns ⟨g,0,none⟩ k cc us hl hnews hp h0 hb2 hb s2.size _ rfl
 have hrun:(execOp a.eval ⟨d,.call {callee:= .builtin .append,args:= #[x,y],argTypes:= #[t,t]},ty,pos,af,gd⟩).run E.P w= .ok (.value (.slice (some ⟨g',0,none⟩) (m+k) c')) w':=by
  simp[execOp,resolve,invoke,builtin,G.f.ev hx,G.f.ev hy,hr]
 unfold Oper.wp;rw[hrun,Oper.upon_value];exact hn _ _ _ (hk g' c' _ _ O O) (s2.resl ho hgr hat)
def qXa {ops:List Oper}{m:Nat}{S:List HP}{fuel:Nat}{listed:Array Bool}(i j:Nat){d d':Option Nat}{op op':Op}{ty ty':TypeId}{pos pos':String}{af af':Array Edge}(hi:ops[i]?=some ⟨d,op,ty,pos,af,none⟩)(hj:ops[j]?=some ⟨d',op',ty',pos',af',none⟩)(hr:Region.ready .any ops.toArray listed=[i,j])(hd:inB n d=true)(hd':inB n d'=true)
  (h:Ld E n L H ⟨d,op,ty,pos,af,none⟩ (fun v H'=>(∀k,dU H' k→dU S k)∧WPM E ops m S Q fuel (listed.setIfInBounds i true) n (putL d v L) H')) (h':Ld E n L H ⟨d',op',ty',pos',af',none⟩ (fun v H'=>(∀k,dU H' k→dU S k)∧WPM E ops m S Q fuel (listed.setIfInBounds j true) n (putL d' v L) H')):WPM E ops m S Q (fuel+1) listed n L H:=fun _ a w g=>
 ⟨fun h0=>(by rw[hr]at h0;cases h0),fun x hx=>by
  have hx':x=i∨x=j:=by rw[hr]at hx;simpa using hx
  rcases hx' with rfl|rfl
  ·unfold wpOp;simp only[eH hi,Region.wanted,if_true];exact .inl (h _ _ a w g (fun v H' w' hk hs=>⟨fun _=>hs.imp hk.1,hk.2 hk.1 _ _ ⟨g.f.put d v hd,hs⟩⟩))
  unfold wpOp;simp only[eH hj,Region.wanted,if_true];exact .inl (h' _ _ a w g (fun v H' w' hk hs=>⟨fun _=>hs.imp hk.1,hk.2 hk.1 _ _ ⟨g.f.put d' v hd',hs⟩⟩))⟩
def y_and {x y:Operand}{xt yt:TypeId}{i j:Int}{kd:IntKind}(hx:ev L x=some (.int kd i))(hy:ev L y=some (.int kd j)):
  Yl E n L S ⟨d,.binOp .and xt x y yt,ty,pos,af,gd⟩ (.int kd (kd.wrap (BitVec.ofInt kd.bits i&&&BitVec.ofInt kd.bits j).toNat)):=fun a w g _=>by
 simp[execOp,eqGuard,binOp,Op.intBits,g.ev hx,g.ev hy]
def WRd (E:Env)(c:Code)(Q:Exit→Act→World→Prop)(m:Nat)(n:Nat)(L:Fr)(H:List HP):Prop:=∀a w,Good E n L H a w→Code.rounds E.P c Q m a w
def yL (m:Nat){c:Code}(h:WRd E c Q m n L H):WP E (.loop c) Q n L H:=fun a w g=>wp_loop_rounds m (h a w g)
def r_succ {m:Nat}{c:Code}(h:WP E c (Exit.then (Code.rounds E.P c Q m) Q) n L H):WRd E c Q (m+1) n L H:=fun a w g=>h a w g
def a_rd {m:Nat}{c:Code}(h:WRd E c Q m n L H):AT E (Exit.then (Code.rounds E.P c Q m) Q) .normal n L H:=h
def y_idx {x y:Operand}{t e:TypeId}{len sz sz':Nat}{k:IntKind}{i:Int}{kk:TK}{zs zs' cs:List Value}{v:Value}(h:ev L x=some (.agg ⟨cs⟩))(hy:ev L y=some (.int k i))(ht:E.tab t=some ⟨.array len e 1,sz,zs⟩)(he:E.tab e=some ⟨kk,sz',zs'⟩)(hk:kk.agg=false)
  (h0:0≤i) (h1:i<len) (hv:cs[i.toNat]?=some v):Yl E n L S ⟨d,.index t x y,ty,pos,af,gd⟩ v:=fun a w g _=>by
 obtain⟨hu,j,hj,hs⟩:=qEf ht;simp[execOp,Instr.index,asIntOf,underlying,program,Sem.run,hu,g.ev h,g.ev hy,h0,h1,Go.sizeOf,typeInfo,hj,hs,part,lZ he,hk,hv]
def qJr {t e:TypeId}{len s:Nat}{ps:List (Nat×Operand)}{vs:List (Nat×Value)}{sz:Nat}{zs cs:List Value}(ht:E.tab t=some ⟨.array len e s,sz,zs⟩)(hp:evP L ps=some vs)(hf:qNs (fun i=>some (i*s,s)) zs vs=some cs):
  Yl E n L S ⟨d,.build t ps.toArray,ty,pos,af,gd⟩ (.agg ⟨cs⟩):=fun a w g _=>by
 obtain⟨z,hz,hc⟩:=qBi ht w;obtain⟨hu,j,hj,hs⟩:=qEf ht;have hps:=g.evP hp;have hfill:=qHo (fun i=>some (i*s,s)) vs zs cs hf;have e':z.cells=⟨zs⟩:=by rw[←hc]
 have hpl:(ps.toArray.map fun x=>match x with |(i,x)=>(i,a.eval x)).toList=vs:=by simpa using hps
 simp only[execOp,Instr.build,Sem.run_bind,hz,Result.andThen_ok,underlying,program,Sem.run,hu,Go.sizeOf,typeInfo,hj,hs,e',hpl,Sem.run_pure];rw[hfill];rfl
end Sl
namespace Eg
def Per (T:List UInt8)(d:Nat):Prop:=lcp T (T.drop d)=T.length-d
instance (T:List UInt8)(d:Nat):Decidable (Per T d):=inferInstanceAs (Decidable (_=_))
def seg (T:List UInt8)(a b:Nat):List UInt8:=(T.take b).drop a
def aft (T:List UInt8)(p d:Nat):Nat:=lcp (T.drop p) (T.drop (p+d))
end Eg
namespace Go.Proofs.YtejcjelmpbkcbaaGreatDoor
open Go Go.RowKit Sl Eg
set_option maxRecDepth 10000
variable {E:Env}{Es:List Ent}{pp tb s most:Nat}
def good (L:List Rl)(i:Nat):Prop:=i≤L.length∧0≤lvl L i
def qHb (hE:Seat E)(hB:Base E.w0){i:Nat}(hg:good (rls Es) i):Ct E 223 [uPt pp,.int .i64 (i:Nat)] [cells pp [uPt s,uPt tb] 117,tabP tb s (rls Es),bR s most Es] (fun v Q=>v= .tuple #[.int .i64 (lvl (rls Es) i),.nilIface]∧Q=[cells pp [uPt s,uPt tb] 117,tabP tb s (rls Es),bR s most Es]):=by
 cases i with
 |zero=>exact ct_Top0 hE
 |succ i=>exact ct_Top hE hB (by have:=hg.1;rw[bQ]at this;omega) hg.2
