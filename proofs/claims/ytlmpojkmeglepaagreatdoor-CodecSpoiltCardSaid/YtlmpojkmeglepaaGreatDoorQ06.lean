import Derived.Test.YtlmpojkmeglepaaGreatDoorQ04
set_option linter.all false
set_option maxHeartbeats 1000000
namespace Go.Proofs.YtlmpojkmeglepaaGreatDoor
open Go Go.RowKit Sl Eg
set_option maxRecDepth 10000
variable {E:Env}{Es:List Ent}{tb s most:Nat}
theorem qBp {L:List Rl}{K:List Bool}{j:Nat}{b:Bool}(h:K[j]?=some b)(x:Nat)(hx:x=j*3+2):(jA L K 0)[x]?=some (.bool b):=by
 subst hx
 rw[qBo h 2 oO]
 cases b<;>rfl
theorem qAl {K:List Bool}(h:0<K.length)(h0:K[0]?≠some true):K[0]?=some false:=by
 have h1:K[0]?=some K[0]:=List.getElem?_eq_getElem h
 rw[h1]at h0 ⊢
 cases h2:K[0]with
 |false=>rfl
 |true=>rw[h2]at h0;exact absurd rfl h0
theorem ids_get (T:List Nat)(x k:Nat)(hk:k=T.length):((T++[x]).map fun y=>Value.int .i64 (y:Nat))[k]?=some (.int .i64 (x:Nat)):=by
 subst hk;simp
structure RowG where
 T:List Nat
 K:List Bool
 p:Option Addr
 c:Nat
structure RowOk (i N:Nat)(T:List Nat)(K:List Bool):Prop where
 klen:K.length=N
 k0:K[0]?=some false
 dec:T.Pairwise (· > ·)
 unk:∀x∈T,K[x]?=some false∧1≤x∧x≤i+1
 top:(T=[]∧K[i+1]?=some true)∨T.head?=some (i+1)

theorem qFy {L:List Rl}(K:List Bool)(j:Nat)(h:j<K.length)(x:Nat)(hx:x=j*3):bX (jA L K 0) x (bP (.agg #[.int .u64 (key L j:Nat),.int .i64 (lvl L j),.bool true]))=jA L (K.set j true) 0:=by
 subst hx
 rw[qTl h 0,Nat.zero_add]
 rfl
theorem left_le {r:Rl}{m:Nat}(h:r.ok (m+1)):r.left≤m∧r.right≤m:=by
 cases r with
 |letter b=>exact⟨Nat.zero_le _,Nat.zero_le _⟩
 |pair l r=>obtain⟨_,_,_,_⟩:=h;exact⟨by simp only[Rl.left];omega,by simp only[Rl.right];omega⟩
 |power x k=>obtain⟨_,_,_⟩:=h;exact⟨by simp only[Rl.left];omega,Nat.zero_le _⟩
theorem xY {i N x y:Nat}{T:List Nat}{K:List Bool}(h:RowOk i N (T++[x]) K)(hy:K[y]?=some false)(hy1:1≤y)(hyx:y<x):RowOk i N (T++[x]++[y]) K:=by
 have hx:=h.unk x (by simp)
 refine⟨h.klen,h.k0,?_,?_,?_⟩
 ·rw[List.pairwise_append]
  refine⟨h.dec,by simp,fun a ha b hb=>?_⟩
  obtain rfl:b=y:=by simpa using hb
  rcases List.mem_append.1 ha with ha'|ha'
  ·have:=(List.pairwise_append.1 h.dec).2.2 a ha' x (by simp)
   omega
  obtain rfl:a=x:=by simpa using ha'
  exact hyx
 ·intro z hz
  rcases List.mem_append.1 hz with hz'|hz'
  ·exact h.unk z hz'
  obtain rfl:z=y:=by simpa using hz'
  exact⟨hy,hy1,oO⟩
 right
 rcases h.top with⟨h0,_⟩|h0
 ·simp at h0
 cases T with
 |nil=>simpa using h0
 |cons a T=>simpa using h0
theorem wU {i N x:Nat}{T:List Nat}{K:List Bool}(h:RowOk i N (T++[x]) K):RowOk i N T (K.set x true):=by
 have hx:=h.unk x (by simp)
 have hxl:x<K.length:=(List.getElem?_eq_some_iff.1 hx.1).1
 refine⟨by rw[List.length_set];exact h.klen,by rw[List.getElem?_set_ne oO];exact h.k0,(List.pairwise_append.1 h.dec).1,?_,?_⟩
 ·intro z hz
  have hzx:=(List.pairwise_append.1 h.dec).2.2 z hz x (by simp)
  have:=h.unk z (by simp[hz])
  refine⟨?_,this.2⟩
  rw[List.getElem?_set_ne oO];exact this.1
 rcases h.top with⟨h0,_⟩|h0
 ·simp at h0
 cases T with
 |nil=>
  obtain rfl:x=i+1:=by simpa using h0
  exact .inl ⟨O,by simp[hxl]⟩
 |cons a T=>exact .inr (by simpa using h0)
theorem qRd (hE:Seat E)(hB:Base E.w0){i:Nat}(hi:i<Es.length):
  Ct E 90 [uPt tb,.int .i64 ((i+1:Nat):Int)] [tabP tb s (rls Es),bR s most Es]
   (fun v Q=>v= .tuple #[.agg #[.int .u64 (key (rls Es) (i+1):Nat),.int .i64 (lvl (rls Es) (i+1)),.bool true],.nilIface]∧Q=[tabP tb s (rls Es),bR s most Es]):=by
 refine eQ (p:=bR s most Es) uK (fun _ h=>dR h) (fun hsay=>?_)
 obtain⟨hwf,htx,hmost,hfit⟩:=hsay
 have hlen:=hwf.room
 rw[bQ]at hlen
 unfold fB at hlen
 refine qEk (ι:={x:List Bool×Option Addr×Nat//x.1.length≤(rls Es).length+1∧x.1[0]?≠some true}) (ps:=fun x=>[cells tb [uPt s,.slice x.1.2.1 x.1.1.length x.1.2.2] 139,sl x.1.2.1 x.1.2.2 187 3 x.1.1.length (jA (rls Es) x.1.1 0)])
  (fun k⟨K,p,c,h1,h2,h3⟩=>⟨⟨(K,p,c),h1,h2⟩,h3⟩) ?_
 rintro⟨⟨K,p,c⟩,hK,hK0⟩
 simp only at hK hK0 ⊢
 rw[bQ]at hK
 refine bO (hE.fn Tryz.func90) O O O (fun R=>?_)
 simp only[dU,uV,uW]
 refine gg2 ?_
 refine uU (dA (hE.t O) (fun b4=>?_))
 refine gg31 ?_
 refine dY 23 O (fun hs=>?_) (fun hs=>?_)
 ·exact absurd hs oO
 refine gg11 ?_
 refine uX (vU hE) O ?_
 rintro _ _⟨rfl,rfl⟩
 simp only[uV,uW]
 refine gg5 ?_
 refine bE O (fun hs2=>?_) (fun hs2=>?_)
 ·exact absurd hs2 oO
 refine gg2 ?_
 refine nS (fun x:List Bool×Nat×Nat=>[(0,uPt tb),(1,.int .i64 ((i+1:Nat):Int)),(4,uPt b4),(5,.nilIface)]) (fun x=>[cells tb [uPt s,.slice (some ⟨x.2.1,0,none⟩) x.1.length x.2.2] 139,sl (some ⟨x.2.1,0,none⟩) x.2.2 187 3 x.1.length (jA (rls Es) x.1 0),cells b4 [.int .u64 0,.int .i64 0,.bool false] 187,bR s most Es,R]) (fun x=>x.1.length≤Es.length+1∧i+1<x.1.length∧x.1[0]?=some false) ?_ ?_
 ·refine gg11 ?_
  refine bE O (fun hg=>?_) (fun hg=>?_)
  ·refine uN 16 ([cells tb [uPt s,.slice p K.length c] 139]) ?_
   refine gg7 ?_
   apply dG 7 O oK
   ·exact aB O
   ·rfl
   apply dG 8 O oK
   ·exact bA O
   ·rfl
   apply dG 9 O oK
   ·exact uBf O
   ·rfl
   apply dG 10 O oK
   ·(apply aO rfl (hE.t rfl) rfl;(repeat(first |rfl|assumption|constructor));done)
   ·rfl
   apply dG 11 O oK
   ·exact uBl O
   ·rfl
   apply dG 12 O oK
   ·exact uAs O O
   ·rfl
   apply dV 13 O oK O
   obtain⟨k,hk⟩:∃k,k=i+2-K.length:=⟨_,rfl⟩
   apply qAz (k:=k) (hE.t O) (hE.t O) (hE.t O) O O O
   ·omega
   ·exact uK
   ·omega
   ·omega
   ·unfold maxLen;omega
   intro g54 c54 us hus
   have hz:=hus (.agg #[.int .u64 0,.int .i64 0,.bool false]) O
   simp only[Value.cells]at hz
   rw[←qKz (rls Es) k K.length]at hz
   have hz2:jA (rls Es) K 0++us=jA (rls Es) (K++List.replicate k false) 0:=by rw[hz,qIs,Nat.zero_add]
   have hz3:K.length+k=(K++List.replicate k false).length:=by simp
   rw[hz2,hz3]
   clear hz hz2 hus
   have hk0:(K++List.replicate k false)[0]?=some false:=by
    have hpos:0<(K++List.replicate k false).length:=by simp;omega
    exact qAl hpos (by cases K with |nil=>cases k<;>simp[List.replicate_succ]|cons b K=>simpa using hK0)
   refine uE ?_
   apply dG 14 O oK
   ·exact bA O
   ·rfl
   apply dG 15 O oK
   ·exact uBf O
   ·rfl
   apply iF O oK oK O
   refine uS ?_
   refine fJ (K++List.replicate k false,g54,c54) ⟨by simp;omega,by simp;omega,hk0⟩ ⟨rfl,rfl,rfl,rfl,trivial⟩ ?_
   exact uI
  refine gg1 ?_
  refine xD (p:=sl p c 187 3 K.length (jA (rls Es) K 0)) uK (fun _ h=>eU h oO) ?_
  rintro⟨g,rfl⟩
  have hk0:K[0]?=some false:=qAl oO hK0
  refine fJ (K,g,c) ⟨hK,by show i+1<K.length;omega,hk0⟩ ⟨rfl,rfl,rfl,rfl,trivial⟩ ?_
  exact uI
 clear hK hK0 p c K
 rintro⟨K,g,c⟩⟨hK,hiK,hk0⟩
 simp only at hK hiK hk0 ⊢
 obtain⟨N,hN⟩:∃N,N=K.length:=⟨_,rfl⟩
 rw[←hN]at hK hiK ⊢
 refine gg5 ?_
 refine nS (fun x:RowG=>[(0,uPt tb),(1,.int .i64 ((i+1:Nat):Int)),(4,uPt b4),(5,.nilIface),(6,.slice x.p x.T.length x.c)]) (fun x=>[cells tb [uPt s,.slice (some ⟨g,0,none⟩) N c] 139,sl (some ⟨g,0,none⟩) c 187 3 N (jA (rls Es) x.K 0),sl x.p x.c 44 1 x.T.length (x.T.map fun y=> .int .i64 (y:Nat)),cells b4 [.int .u64 0,.int .i64 0,.bool false] 187,bR s most Es,R]) (fun x=>RowOk i N x.T x.K) ?_ ?_
 ·have hget:K[i+1]?=some (K[i+1]'oO):=List.getElem?_eq_getElem _
  generalize K[i+1]'oO=b at hget
  have hkn:=qBp (L:=rls Es) hget (0+(((i+1:Nat):Int)).toNat*3+2) oO
  cases b with
  |true=>
   refine gg15 ?_
   refine fJ ⟨[],K,none,0⟩ ⟨hN.symm,hk0,by simp,by simp,.inl ⟨rfl,hget⟩⟩ ⟨rfl,rfl,rfl,rfl,rfl,trivial⟩ (cZ (iP (t:=44) (sz:=1)) ?_)
   exact uI
  |false=>
   refine gg14 ?_
   refine jE (iP (t:=44) (sz:=1)) ?_
   refine gg3 ?_
   refine uU ?_
   refine aU (hE.t O) (hE.t O) O O O (fun b68=>?_)
   refine uU ?_
   apply bU (hE.t O) (hE.t O) O O O
   ·exact uK
   ·exact uK
   ·rfl
   ·rfl
   ·omega
   ·omega
   ·(unfold maxLen;omega)
   intro g69 c69 n69 x69 hn69 hx69
   refine gg2 ?_
   obtain rfl:n69=[i+1].length:=hn69
   obtain rfl:x69=[i+1].map (fun y=>Value.int .i64 (y:Nat)):=hx69
   refine fJ ⟨[i+1],K,_,_⟩ ⟨hN.symm,hk0,by simp,fun x hx=>?_,.inr rfl⟩ ⟨rfl,rfl,rfl,rfl,rfl,trivial⟩ ?_
   ·obtain rfl:x=i+1:=by simpa using hx
    exact⟨hget,oO,oO⟩
   exact uI
 rintro⟨T0,K0,p0,c0⟩hok0
 simp only at hok0 ⊢
 refine gg2 ?_
 refine eZ (fun x:RowG=>[(0,uPt tb),(1,.int .i64 ((i+1:Nat):Int)),(4,uPt b4),(5,.nilIface),(6,.slice x.p x.T.length x.c)]) (fun x=>[cells tb [uPt s,.slice (some ⟨g,0,none⟩) N c] 139,sl (some ⟨g,0,none⟩) c 187 3 N (jA (rls Es) x.K 0),sl x.p x.c 44 1 x.T.length (x.T.map fun y=> .int .i64 (y:Nat)),cells b4 [.int .u64 0,.int .i64 0,.bool false] 187,bR s most Es,R]) (fun x=>cntF x.K*(N+1)+x.T.getLast?.getD 0) (fun x=>RowOk i N x.T x.K) ⟨T0,K0,p0,c0⟩ hok0 ?_ (fun _ h=>h) ?_
 ·exact⟨O,O,O,O,O,trivial⟩
 clear hok0 T0 K0 p0 c0
 rintro⟨T,K1,p1,c1⟩hok
 simp only at hok ⊢
 have hkl:=hok.klen
 rcases List.eq_nil_or_concat T with rfl|⟨T',x,rfl⟩
 ·have hk1:K1[i+1]?=some true:=by
   rcases hok.top with⟨_,h⟩| h
   ·exact h
   simp at h
  have f0:(jA (rls Es) K1 0)[0+(((i+1:Nat):Int)).toNat*3]?=some (.int .u64 (key (rls Es) (i+1):Nat)):=by
   rw[show 0+(((i+1:Nat):Int)).toNat*3=(i+1)*3+0 by omega,qBo hk1 0 oO];rfl
  have f1:(jA (rls Es) K1 0)[0+(((i+1:Nat):Int)).toNat*3+1]?=some (.int .i64 (lvl (rls Es) (i+1))):=by
   rw[show 0+(((i+1:Nat):Int)).toNat*3+1=(i+1)*3+1 by omega,qBo hk1 1 oO];rfl
  have f2:(jA (rls Es) K1 0)[0+(((i+1:Nat):Int)).toNat*3+1+1]?=some (.bool true):=by
   rw[show 0+(((i+1:Nat):Int)).toNat*3+1+1=(i+1)*3+2 by omega,qBo hk1 2 oO];rfl
  refine gg28 ?_
  apply cB
  ·rfl
  ·((apply Rs.cell rfl (hE.t rfl) rfl;(focus((repeat(first |rfl|assumption|constructor));done)));apply Rs.tmp rfl;exact Rs.nil)
  ·exact⟨O,O⟩
  apply cZ
  ·apply qDt (K:=K1) (L:=rls Es)
   ·exact uK
   ·exact hkl
   ·rw[bQ];exact hK
   rw[hok.k0];simp
  exact uI
 rw[List.concat_eq_append]at hok ⊢
 have hux:=hok.unk x (by simp)
 have hxl:x<K1.length:=(List.getElem?_eq_some_iff.1 hux.1).1
 obtain⟨m,rfl⟩:∃m,x=m+1:=⟨x-1,oO⟩
 have hm:m<Es.length:=oO
 have hent:Es[m]?=some (Es[m]'hm):=List.getElem?_eq_getElem hm
 generalize Es[m]'hm=en at hent
 have hT20:T'.length+1≤1048577:=by
  have:=qOz (n:=i+1) hok.dec (fun x hx=>(hok.unk x hx).2)
  simp at this
  omega
 have hlT:(T'++[m+1]).length=T'.length+1:=by simp
 rw[hlT]
 have hKl:K1.length≤(rls Es).length+1:=by rw[hkl,bQ];exact hK
 have hr:=sK hent
 have hrok:=hwf.ok m en.r hr
 have ht:=ids_get T' (m+1) (((T'.length+1:Nat):Int)-1).toNat oO
 refine iJ (p:=sl p1 c1 44 1 (T'.length+1) ((T'++[m+1]).map fun y=>Value.int .i64 (y:Nat))) uK (fun _ h=>And.intro (eU h oO) (jK h).1) ?_
 rintro⟨⟨gT,rfl⟩,hcap⟩
 refine gg8 ?_
 refine bE O (fun ho=>?_) (fun ho=>?_)
 ·refine gg21 ?_
  refine uX (nK hE hent) O ?_
  rintro _ _⟨rfl,rfl⟩
  simp only[uV,uW]
  refine gg3 ?_
  refine uU (dA (hE.t O) (fun b8=>?_))
  refine gg12 ?_
  have hb:=left_le hrok
  obtain⟨bl,hbl⟩:∃b,K1[en.r.left]?=some b:=⟨_,List.getElem?_eq_getElem oO⟩
  obtain⟨br,hbr⟩:∃b,K1[en.r.right]?=some b:=⟨_,List.getElem?_eq_getElem oO⟩
  have kl:=qBp (L:=rls Es) hbl (0+((en.r.left:Nat):Int).toNat*3+2) oO
  have kr:=qBp (L:=rls Es) hbr (0+((en.r.right:Nat):Int).toNat*3+2) oO
  refine gg9 ?_
  refine dY 110 O (fun hl=>?_) (fun hl=>?_)
  ·cases bl with
   |false=>
    refine gg29 ?_
    refine uU ?_
    refine aU (hE.t O) (hE.t O) O O O (fun b125=>?_)
    refine uU ?_
    apply bU (hE.t O) (hE.t O) O O O
    ·exact uK
    ·exact uK
    ·rfl
    ·rfl
    ·omega
    ·omega
    ·(unfold maxLen;omega)
    intro g126 c126 n126 x126 hn126 hx126
    refine gg4 ?_
    obtain rfl:n126=(T'++[m+1]++[en.r.left]).length:=by rw[hn126];simp
    obtain rfl:x126=(T'++[m+1]++[en.r.left]).map (fun y=>Value.int .i64 (y:Nat)):=by rw[hx126];simp[bX,bP]
    refine bS (ι:=RowG) (j:=⟨T'++[m+1]++[en.r.left],K1,some ⟨g126,0,none⟩,c126⟩) ?_ ?_ ?_ ?_
    ·exact xY hok hbl oO oO
    ·simp;omega
    ·exact⟨O,O,O,O,O,trivial⟩
    exact uI
   |true=>
    refine gg25 ?_
    have hlk:en.r.left=0∨K1[en.r.left]?=some true:= .inr hbl
    refine gg6 ?_
    refine dY 131 O (fun hr2=>?_) (fun hr2=>?_)
    ·cases br with
     |false=>
      refine gg29 ?_
      refine uU ?_
      refine aU (hE.t O) (hE.t O) O O O (fun b146=>?_)
      refine uU ?_
      apply bU (hE.t O) (hE.t O) O O O
      ·exact uK
      ·exact uK
      ·rfl
      ·rfl
      ·omega
      ·omega
      ·(unfold maxLen;omega)
      intro g147 c147 n147 x147 hn147 hx147
      refine gg4 ?_
      obtain rfl:n147=(T'++[m+1]++[en.r.right]).length:=by rw[hn147];simp
      obtain rfl:x147=(T'++[m+1]++[en.r.right]).map (fun y=>Value.int .i64 (y:Nat)):=by rw[hx147];simp[bX,bP]
      refine bS (ι:=RowG) (j:=⟨T'++[m+1]++[en.r.right],K1,some ⟨g147,0,none⟩,c147⟩) ?_ ?_ ?_ ?_
      ·exact xY hok hbr oO oO
      ·simp;omega
      ·exact⟨O,O,O,O,O,trivial⟩
      exact uI
     |true=>
      refine gg25 ?_
      have hrk:en.r.right=0∨K1[en.r.right]?=some true:= .inr hbr
      refine gg1 ?_
      refine uH ([cells tb [uPt s,.slice (some ⟨g,0,none⟩) N c] 139,cells b8 (bX [.int .i64 0,.int .u8 0,.int .i64 0,.int .i64 0,.int .i64 0] 0 (bP (.agg #[.int .i64 (Rl.kind (en.r):Nat),.int .u8 (Rl.byte (en.r):Nat),.int .i64 (Rl.left (en.r):Nat),.int .i64 (Rl.right (en.r):Nat),.int .i64 (Rl.times (en.r):Nat)]))) 86]) ?_
      refine gg7 ?_
      apply dH 7 O oK O
      refine uC (qF hE hB hwf hkl hr hok.k0 hlk hrk hKl) O ?_
      rintro _ _⟨rfl,rfl⟩
      simp only[uV,uW]
      refine uE ?_
      refine gg1 ?_
      apply dH 9 O oK O
      refine uJ ?_
      refine uE ?_
      refine gg7 ?_
      refine uB (fU T'.length O O (hE.t O) oO oO) ?_
      refine gg4 ?_
      refine bS (ι:=RowG) (j:=⟨T',K1.set (m+1) true,some ⟨gT,0,none⟩,c1⟩) ?_ ?_ ?_ ?_
      ·exact wU hok
      ·have hcnt:=zD hux.1
       have hlast:T'.getLast?.getD 0≤N:=by
        cases hl9:T'.getLast? with
        |none=>simp
        |some y=>
         have:=(hok.unk y (by simp[List.mem_of_getLast? hl9])).2.2
         simp;omega
       simp only
       rw[←hcnt,Nat.add_mul]
       simp
       omega
      ·exact⟨O,O,O,O,O,trivial⟩
      rw[qFy K1 (m+1) hxl (0+((m+1:Nat):Int).toNat*3) oO]
      apply cZ
      ·apply cO (p:=sl (some ⟨gT,0,none⟩) c1 44 1 (T'.length+1) ((T'++[m+1]).map fun y=>Value.int .i64 (y:Nat))) (p':=sl (some ⟨gT,0,none⟩) c1 44 1 T'.length (T'.map fun y=>Value.int .i64 (y:Nat)))
       ·exact uK
       exact lS oO (by simp) (by simp)
      exact uI
    refine gg15 ?_
    have hrk:en.r.right=0∨K1[en.r.right]?=some true:= .inl oO
    refine gg1 ?_
    refine uH ([cells tb [uPt s,.slice (some ⟨g,0,none⟩) N c] 139,cells b8 (bX [.int .i64 0,.int .u8 0,.int .i64 0,.int .i64 0,.int .i64 0] 0 (bP (.agg #[.int .i64 (Rl.kind (en.r):Nat),.int .u8 (Rl.byte (en.r):Nat),.int .i64 (Rl.left (en.r):Nat),.int .i64 (Rl.right (en.r):Nat),.int .i64 (Rl.times (en.r):Nat)]))) 86]) ?_
    refine gg7 ?_
    apply dH 7 O oK O
    refine uC (qF hE hB hwf hkl hr hok.k0 hlk hrk hKl) O ?_
    rintro _ _⟨rfl,rfl⟩
    simp only[uV,uW]
    refine uE ?_
    refine gg1 ?_
    apply dH 9 O oK O
    refine uJ ?_
    refine uE ?_
    refine gg7 ?_
    refine uB (fU T'.length O O (hE.t O) oO oO) ?_
    refine gg4 ?_
    refine bS (ι:=RowG) (j:=⟨T',K1.set (m+1) true,some ⟨gT,0,none⟩,c1⟩) ?_ ?_ ?_ ?_
    ·exact wU hok
    ·have hcnt:=zD hux.1
     have hlast:T'.getLast?.getD 0≤N:=by
      cases hl9:T'.getLast? with
      |none=>simp
      |some y=>
       have:=(hok.unk y (by simp[List.mem_of_getLast? hl9])).2.2
       simp;omega
     simp only
     rw[←hcnt,Nat.add_mul]
     simp
     omega
    ·exact⟨O,O,O,O,O,trivial⟩
    rw[qFy K1 (m+1) hxl (0+((m+1:Nat):Int).toNat*3) oO]
    apply cZ
    ·apply cO (p:=sl (some ⟨gT,0,none⟩) c1 44 1 (T'.length+1) ((T'++[m+1]).map fun y=>Value.int .i64 (y:Nat))) (p':=sl (some ⟨gT,0,none⟩) c1 44 1 T'.length (T'.map fun y=>Value.int .i64 (y:Nat)))
     ·exact uK
     exact lS oO (by simp) (by simp)
    exact uI
  refine gg15 ?_
  have hlk:en.r.left=0∨K1[en.r.left]?=some true:= .inl oO
  refine gg6 ?_
  refine dY 131 O (fun hr2=>?_) (fun hr2=>?_)
  ·cases br with
   |false=>
    refine gg29 ?_
    refine uU ?_
    refine aU (hE.t O) (hE.t O) O O O (fun b146=>?_)
    refine uU ?_
    apply bU (hE.t O) (hE.t O) O O O
    ·exact uK
    ·exact uK
    ·rfl
    ·rfl
    ·omega
    ·omega
    ·(unfold maxLen;omega)
    intro g147 c147 n147 x147 hn147 hx147
    refine gg4 ?_
    obtain rfl:n147=(T'++[m+1]++[en.r.right]).length:=by rw[hn147];simp
    obtain rfl:x147=(T'++[m+1]++[en.r.right]).map (fun y=>Value.int .i64 (y:Nat)):=by rw[hx147];simp[bX,bP]
    refine bS (ι:=RowG) (j:=⟨T'++[m+1]++[en.r.right],K1,some ⟨g147,0,none⟩,c147⟩) ?_ ?_ ?_ ?_
    ·exact xY hok hbr oO oO
    ·simp;omega
    ·exact⟨O,O,O,O,O,trivial⟩
    exact uI
   |true=>
    refine gg25 ?_
    have hrk:en.r.right=0∨K1[en.r.right]?=some true:= .inr hbr
    refine gg1 ?_
    refine uH ([cells tb [uPt s,.slice (some ⟨g,0,none⟩) N c] 139,cells b8 (bX [.int .i64 0,.int .u8 0,.int .i64 0,.int .i64 0,.int .i64 0] 0 (bP (.agg #[.int .i64 (Rl.kind (en.r):Nat),.int .u8 (Rl.byte (en.r):Nat),.int .i64 (Rl.left (en.r):Nat),.int .i64 (Rl.right (en.r):Nat),.int .i64 (Rl.times (en.r):Nat)]))) 86]) ?_
    refine gg7 ?_
    apply dH 7 O oK O
    refine uC (qF hE hB hwf hkl hr hok.k0 hlk hrk hKl) O ?_
    rintro _ _⟨rfl,rfl⟩
    simp only[uV,uW]
    refine uE ?_
    refine gg1 ?_
    apply dH 9 O oK O
    refine uJ ?_
    refine uE ?_
    refine gg7 ?_
    refine uB (fU T'.length O O (hE.t O) oO oO) ?_
    refine gg4 ?_
    refine bS (ι:=RowG) (j:=⟨T',K1.set (m+1) true,some ⟨gT,0,none⟩,c1⟩) ?_ ?_ ?_ ?_
    ·exact wU hok
    ·have hcnt:=zD hux.1
     have hlast:T'.getLast?.getD 0≤N:=by
      cases hl9:T'.getLast? with
      |none=>simp
      |some y=>
       have:=(hok.unk y (by simp[List.mem_of_getLast? hl9])).2.2
       simp;omega
     simp only
     rw[←hcnt,Nat.add_mul]
     simp
     omega
    ·exact⟨O,O,O,O,O,trivial⟩
    rw[qFy K1 (m+1) hxl (0+((m+1:Nat):Int).toNat*3) oO]
    apply cZ
    ·apply cO (p:=sl (some ⟨gT,0,none⟩) c1 44 1 (T'.length+1) ((T'++[m+1]).map fun y=>Value.int .i64 (y:Nat))) (p':=sl (some ⟨gT,0,none⟩) c1 44 1 T'.length (T'.map fun y=>Value.int .i64 (y:Nat)))
     ·exact uK
     exact lS oO (by simp) (by simp)
    exact uI
  refine gg15 ?_
  have hrk:en.r.right=0∨K1[en.r.right]?=some true:= .inl oO
  refine gg1 ?_
  refine uH ([cells tb [uPt s,.slice (some ⟨g,0,none⟩) N c] 139,cells b8 (bX [.int .i64 0,.int .u8 0,.int .i64 0,.int .i64 0,.int .i64 0] 0 (bP (.agg #[.int .i64 (Rl.kind (en.r):Nat),.int .u8 (Rl.byte (en.r):Nat),.int .i64 (Rl.left (en.r):Nat),.int .i64 (Rl.right (en.r):Nat),.int .i64 (Rl.times (en.r):Nat)]))) 86]) ?_
  refine gg7 ?_
  apply dH 7 O oK O
  refine uC (qF hE hB hwf hkl hr hok.k0 hlk hrk hKl) O ?_
  rintro _ _⟨rfl,rfl⟩
  simp only[uV,uW]
  refine uE ?_
  refine gg1 ?_
  apply dH 9 O oK O
  refine uJ ?_
  refine uE ?_
  refine gg7 ?_
  refine uB (fU T'.length O O (hE.t O) oO oO) ?_
  refine gg4 ?_
  refine bS (ι:=RowG) (j:=⟨T',K1.set (m+1) true,some ⟨gT,0,none⟩,c1⟩) ?_ ?_ ?_ ?_
  ·exact wU hok
  ·have hcnt:=zD hux.1
   have hlast:T'.getLast?.getD 0≤N:=by
    cases hl9:T'.getLast? with
    |none=>simp
    |some y=>
     have:=(hok.unk y (by simp[List.mem_of_getLast? hl9])).2.2
     simp;omega
   simp only
   rw[←hcnt,Nat.add_mul]
   simp
   omega
  ·exact⟨O,O,O,O,O,trivial⟩
  rw[qFy K1 (m+1) hxl (0+((m+1:Nat):Int).toNat*3) oO]
  apply cZ
  ·apply cO (p:=sl (some ⟨gT,0,none⟩) c1 44 1 (T'.length+1) ((T'++[m+1]).map fun y=>Value.int .i64 (y:Nat))) (p':=sl (some ⟨gT,0,none⟩) c1 44 1 T'.length (T'.map fun y=>Value.int .i64 (y:Nat)))
   ·exact uK
   exact lS oO (by simp) (by simp)
  exact uI
 exact absurd ho oO
end Go.Proofs.YtlmpojkmeglepaaGreatDoor
