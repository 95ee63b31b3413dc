import Derived.Test.YtlmpojkmeglepaaGreatDoorQ04
set_option linter.all false
set_option maxHeartbeats 1000000
namespace Go.Proofs.YtlmpojkmeglepaaGreatDoor
open Go Go.RowKit Sl Eg
set_option maxRecDepth 10000
variable {E:Env}{Es:List Ent}{tb s most:Nat}
theorem qAs {L:List Rl}{K:List Bool}{j:Nat}{b:Bool}(h:K[j]?=some b)(x:Nat)(hx:x=j*3+2):(iO L K 0)[x]?=some (.bool b):=by
 subst hx
 rw[qAr h 2 oO]
 cases b<;>rfl
theorem zO {K:List Bool}(h:0<K.length)(h0:K[0]?≠some true):K[0]?=some false:=by
 have h1:K[0]?=some K[0]:=List.getElem?_eq_getElem h
 rw[h1]at h0 ⊢
 cases h2:K[0]with
 |false=>rfl
 |true=>rw[h2]at h0;exact absurd rfl h0
theorem ids_get (T:List Nat)(x k:Nat)(hk:k=T.length):((T++[x]).map fun y=>Value.int .i64 (y:Nat))[k]?=some (.int .i64 (x:Nat)):=by
 subst hk;simp
structure RowG where
 T:List Nat
 K:List Bool
 p:Option Addr
 c:Nat
structure RowOk (i N:Nat)(T:List Nat)(K:List Bool):Prop where
 klen:K.length=N
 k0:K[0]?=some false
 dec:T.Pairwise (· > ·)
 unk:∀x∈T,K[x]?=some false∧1≤x∧x≤i+1
 top:(T=[]∧K[i+1]?=some true)∨T.head?=some (i+1)

theorem qFf {L:List Rl}(K:List Bool)(j:Nat)(h:j<K.length)(x:Nat)(hx:x=j*3):bX (iO L K 0) x (bP (.agg #[.int .u64 (key L j:Nat),.int .i64 (lvl L j),.bool true]))=iO L (K.set j true) 0:=by
 subst hx
 rw[qRj h 0,Nat.zero_add]
 rfl
theorem left_le {r:Rl}{m:Nat}(h:r.ok (m+1)):r.left≤m∧r.right≤m:=by
 cases r with
 |letter b=>exact⟨Nat.zero_le _,Nat.zero_le _⟩
 |pair l r=>obtain⟨_,_,_,_⟩:=h;exact⟨by simp only[Rl.left];omega,by simp only[Rl.right];omega⟩
 |power x k=>obtain⟨_,_,_⟩:=h;exact⟨by simp only[Rl.left];omega,Nat.zero_le _⟩
theorem wX {i N x y:Nat}{T:List Nat}{K:List Bool}(h:RowOk i N (T++[x]) K)(hy:K[y]?=some false)(hy1:1≤y)(hyx:y<x):RowOk i N (T++[x]++[y]) K:=by
 have hx:=h.unk x (by simp)
 refine⟨h.klen,h.k0,?_,?_,?_⟩
 ·rw[List.pairwise_append]
  refine⟨h.dec,by simp,fun a ha b hb=>?_⟩
  obtain rfl:b=y:=by simpa using hb
  rcases List.mem_append.1 ha with ha'|ha'
  ·have:=(List.pairwise_append.1 h.dec).2.2 a ha' x (by simp)
   omega
  obtain rfl:a=x:=by simpa using ha'
  exact hyx
 ·intro z hz
  rcases List.mem_append.1 hz with hz'|hz'
  ·exact h.unk z hz'
  obtain rfl:z=y:=by simpa using hz'
  exact⟨hy,hy1,oO⟩
 right
 rcases h.top with⟨h0,_⟩|h0
 ·simp at h0
 cases T with
 |nil=>simpa using h0
 |cons a T=>simpa using h0
theorem vW {i N x:Nat}{T:List Nat}{K:List Bool}(h:RowOk i N (T++[x]) K):RowOk i N T (K.set x true):=by
 have hx:=h.unk x (by simp)
 have hxl:x<K.length:=(List.getElem?_eq_some_iff.1 hx.1).1
 refine⟨by rw[List.length_set];exact h.klen,by rw[List.getElem?_set_ne oO];exact h.k0,(List.pairwise_append.1 h.dec).1,?_,?_⟩
 ·intro z hz
  have hzx:=(List.pairwise_append.1 h.dec).2.2 z hz x (by simp)
  have:=h.unk z (by simp[hz])
  refine⟨?_,this.2⟩
  rw[List.getElem?_set_ne oO];exact this.1
 rcases h.top with⟨h0,_⟩|h0
 ·simp at h0
 cases T with
 |nil=>
  obtain rfl:x=i+1:=by simpa using h0
  exact .inl ⟨O,by simp[hxl]⟩
 |cons a T=>exact .inr (by simpa using h0)
theorem qPc (hE:Seat E)(hB:Base E.w0){i:Nat}(hi:i<Es.length):
  Ct E 90 [uPt tb,.int .i64 ((i+1:Nat):Int)] [tabP tb s (rls Es),bR s most Es]
   (fun v Q=>v= .tuple #[.agg #[.int .u64 (key (rls Es) (i+1):Nat),.int .i64 (lvl (rls Es) (i+1)),.bool true],.nilIface]∧Q=[tabP tb s (rls Es),bR s most Es]):=by
 refine eZ (p:=bR s most Es) uK (fun _ h=>dR h) (fun hsay=>?_)
 obtain⟨hwf,htx,hmost,hfit⟩:=hsay
 have hlen:=hwf.room
 rw[bQ]at hlen
 unfold fA at hlen
 refine qEc (ι:={x:List Bool×Option Addr×Nat//x.1.length≤(rls Es).length+1∧x.1[0]?≠some true}) (ps:=fun x=>[cells tb [uPt s,.slice x.1.2.1 x.1.1.length x.1.2.2] 139,sl x.1.2.1 x.1.2.2 187 3 x.1.1.length (iO (rls Es) x.1.1 0)])
  (fun k⟨K,p,c,h1,h2,h3⟩=>⟨⟨(K,p,c),h1,h2⟩,h3⟩) ?_
 rintro⟨⟨K,p,c⟩,hK,hK0⟩
 simp only at hK hK0 ⊢
 rw[bQ]at hK
 refine bO (hE.fn Tryz.func90) O O O (fun R=>?_)
 simp only[dY,uV,uW]
 refine dO (uU (dA (hE.t O) (fun b4=>?_)))
 refine uA O (dN (aL (dO (uM O (uB (eU O (hE.t O)) ?_)))))
 refine uM O (dP (uM O (dP (uB (bA O) (dP (uB (uBf O) ?_))))))
 refine dP (uL ?_)
 refine dP (uB (eU O (hE.t O)) ?_)
 refine uB (aX O O) (dN (bD O (bC (aK (aL (dO (uM O (uB (y_lt O O) (uM O ?_)))))))))
 refine eG 23 O (fun hs=>?_) (fun hs=>?_)
 ·exact absurd hs oO
 refine dP (uM O (dP (uM O (dP (uB (bA O) (dP (uB (uBf O) ?_)))))))
 refine dP (uL ?_)
 refine dP (uX (tZ hE) O ?_)
 rintro _ _⟨rfl,rfl⟩
 simp only[uV,uW]
 refine dP (uB (y_gt O O) (uB (aX O O) (dN ?_)))
 refine bE O (fun hs2=>?_) (fun hs2=>?_)
 ·exact absurd hs2 oO
 refine bC (aK ?_)
 refine rP (fun x:List Bool×Nat×Nat=>[(0,uPt tb),(1,.int .i64 ((i+1:Nat):Int)),(4,uPt b4),(5,.nilIface)]) (fun x=>[cells tb [uPt s,.slice (some ⟨x.2.1,0,none⟩) x.1.length x.2.2] 139,sl (some ⟨x.2.1,0,none⟩) x.2.2 187 3 x.1.length (iO (rls Es) x.1 0),cells b4 [.int .u64 0,.int .i64 0,.bool false] 187,bR s most Es,R]) (fun x=>x.1.length≤Es.length+1∧i+1<x.1.length∧x.1[0]?=some false) ?_ ?_
 ·refine aL (aJ ?_)
  refine uM O (uM O (uB (bA O) (uB (uBf O) ?_)))
  refine uL ?_
  refine uB (uBl O) (uB (y_ge O O) (dN ?_))
  refine bE O (fun hg=>?_) (fun hg=>?_)
  ·refine qBb 16 ([cells tb [uPt s,.slice p K.length c] 139]) ?_ ?_
   ·exact uI
   refine uT 0 O (aB O) (uT 1 O (aB O) (uT 2 O (bA O) ?_))
   refine uT 3 O (uBf O) ?_
   refine uT 4 O (uY) ?_
   refine uT 5 O (aB O) (uT 6 O (uAa O O) ?_)
   apply dG 7 O oK
   ·exact aB O
   ·rfl
   apply dG 8 O oK
   ·exact bA O
   ·rfl
   apply dG 9 O oK
   ·exact uBf O
   ·rfl
   apply dG 10 O oK
   ·(apply aO rfl (hE.t rfl) rfl;(repeat(first |rfl|assumption|constructor));done)
   ·rfl
   apply dG 11 O oK
   ·exact uBl O
   ·rfl
   apply dG 12 O oK
   ·exact uAs O O
   ·rfl
   apply eH 13 O oK O
   obtain⟨k,hk⟩:∃k,k=i+2-K.length:=⟨_,rfl⟩
   apply qAa (k:=k) (hE.t O) (hE.t O) (hE.t O) O O O
   ·omega
   ·exact uK
   ·omega
   ·omega
   ·unfold maxLen;omega
   intro g54 c54 us hus
   have hz:=hus (.agg #[.int .u64 0,.int .i64 0,.bool false]) O
   simp only[Value.cells]at hz
   rw[←qJu (rls Es) k K.length]at hz
   have hz2:iO (rls Es) K 0++us=iO (rls Es) (K++List.replicate k false) 0:=by rw[hz,qHv,Nat.zero_add]
   have hz3:K.length+k=(K++List.replicate k false).length:=by simp
   rw[hz2,hz3]
   clear hz hz2 hus
   have hk0:(K++List.replicate k false)[0]?=some false:=by
    have hpos:0<(K++List.replicate k false).length:=by simp;omega
    exact zO hpos (by cases K with |nil=>cases k<;>simp[List.replicate_succ]|cons b K=>simpa using hK0)
   refine uE ?_
   apply dG 14 O oK
   ·exact bA O
   ·rfl
   apply dG 15 O oK
   ·exact uBf O
   ·rfl
   apply iB O oK oK O
   refine uS ?_
   refine gM (K++List.replicate k false,g54,c54) ⟨by simp;omega,by simp;omega,hk0⟩ ⟨rfl,rfl,rfl,rfl,trivial⟩ ?_
   exact uI
  refine bC ?_
  refine wF (p:=sl p c 187 3 K.length (iO (rls Es) K 0)) uK (fun _ h=>fB h oO) ?_
  rintro⟨g,rfl⟩
  have hk0:K[0]?=some false:=zO oO hK0
  refine gM (K,g,c) ⟨hK,by show i+1<K.length;omega,hk0⟩ ⟨rfl,rfl,rfl,rfl,trivial⟩ ?_
  exact uI
 clear hK hK0 p c K
 rintro⟨K,g,c⟩⟨hK,hiK,hk0⟩
 simp only at hK hiK hk0 ⊢
 obtain⟨N,hN⟩:∃N,N=K.length:=⟨_,rfl⟩
 rw[←hN]at hK hiK ⊢
 refine dO (uA O (dN ?_))
 refine rP (fun x:RowG=>[(0,uPt tb),(1,.int .i64 ((i+1:Nat):Int)),(4,uPt b4),(5,.nilIface),(6,.slice x.p x.T.length x.c)]) (fun x=>[cells tb [uPt s,.slice (some ⟨g,0,none⟩) N c] 139,sl (some ⟨g,0,none⟩) c 187 3 N (iO (rls Es) x.K 0),sl x.p x.c 44 1 x.T.length (x.T.map fun y=> .int .i64 (y:Nat)),cells b4 [.int .u64 0,.int .i64 0,.bool false] 187,bR s most Es,R]) (fun x=>RowOk i N x.T x.K) ?_ ?_
 ·have hget:K[i+1]?=some (K[i+1]'oO):=List.getElem?_eq_getElem _
  generalize K[i+1]'oO=b at hget
  have hkn:=qAs (L:=rls Es) hget (0+(((i+1:Nat):Int)).toNat*3+2) oO
  cases b with
  |true=>
   refine dO (uM O (uB (bA O) (uB (uBf O) ?_)))
   refine uL ?_
   refine uM O (uB (uAi O O) ?_)
   refine uB (uBf O) ?_
   refine uL ?_
   refine uB (gY O) (dN (bD O (bC ?_)))
   refine gM ⟨[],K,none,0⟩ ⟨hN.symm,hk0,by simp,by simp,.inl ⟨rfl,hget⟩⟩ ⟨rfl,rfl,rfl,rfl,rfl,trivial⟩ (cZ (iV (t:=44) (sz:=1)) ?_)
   exact uI
  |false=>
   refine dO (uM O (uB (bA O) (uB (uBf O) ?_)))
   refine uL ?_
   refine uM O (uB (uAi O O) ?_)
   refine uB (uBf O) ?_
   refine uL ?_
   refine uB (gY O) (dN (bF O ?_))
   refine iU (iV (t:=44) (sz:=1)) ?_
   refine aJ (uM O (uM O (uU ?_)))
   refine aU (hE.t O) (hE.t O) O O O (fun b68=>?_)
   refine uU ?_
   apply bU (hE.t O) (hE.t O) O O O
   ·exact uK
   ·exact uK
   ·rfl
   ·rfl
   ·omega
   ·omega
   ·(unfold maxLen;omega)
   intro g69 c69 n69 x69 hn69 hx69
   refine uA O (aM ?_)
   obtain rfl:n69=[i+1].length:=hn69
   obtain rfl:x69=[i+1].map (fun y=>Value.int .i64 (y:Nat)):=hx69
   refine gM ⟨[i+1],K,_,_⟩ ⟨hN.symm,hk0,by simp,fun x hx=>?_,.inr rfl⟩ ⟨rfl,rfl,rfl,rfl,rfl,trivial⟩ ?_
   ·obtain rfl:x=i+1:=by simpa using hx
    exact⟨hget,oO,oO⟩
   exact uI
 rintro⟨T0,K0,p0,c0⟩hok0
 simp only at hok0 ⊢
 refine aL (bK ?_)
 refine fD (fun x:RowG=>[(0,uPt tb),(1,.int .i64 ((i+1:Nat):Int)),(4,uPt b4),(5,.nilIface),(6,.slice x.p x.T.length x.c)]) (fun x=>[cells tb [uPt s,.slice (some ⟨g,0,none⟩) N c] 139,sl (some ⟨g,0,none⟩) c 187 3 N (iO (rls Es) x.K 0),sl x.p x.c 44 1 x.T.length (x.T.map fun y=> .int .i64 (y:Nat)),cells b4 [.int .u64 0,.int .i64 0,.bool false] 187,bR s most Es,R]) (fun x=>cntF x.K*(N+1)+x.T.getLast?.getD 0) (fun x=>RowOk i N x.T x.K) ⟨T0,K0,p0,c0⟩ hok0 ?_ (fun _ h=>h) ?_
 ·exact⟨O,O,O,O,O,trivial⟩
 clear hok0 T0 K0 p0 c0
 rintro⟨T,K1,p1,c1⟩hok
 simp only at hok ⊢
 have hkl:=hok.klen
 rcases List.eq_nil_or_concat T with rfl|⟨T',x,rfl⟩
 ·have hk1:K1[i+1]?=some true:=by
   rcases hok.top with⟨_,h⟩| h
   ·exact h
   simp at h
  have f0:(iO (rls Es) K1 0)[0+(((i+1:Nat):Int)).toNat*3]?=some (.int .u64 (key (rls Es) (i+1):Nat)):=by
   rw[show 0+(((i+1:Nat):Int)).toNat*3=(i+1)*3+0 by omega,qAr hk1 0 oO];rfl
  have f1:(iO (rls Es) K1 0)[0+(((i+1:Nat):Int)).toNat*3+1]?=some (.int .i64 (lvl (rls Es) (i+1))):=by
   rw[show 0+(((i+1:Nat):Int)).toNat*3+1=(i+1)*3+1 by omega,qAr hk1 1 oO];rfl
  have f2:(iO (rls Es) K1 0)[0+(((i+1:Nat):Int)).toNat*3+1+1]?=some (.bool true):=by
   rw[show 0+(((i+1:Nat):Int)).toNat*3+1+1=(i+1)*3+2 by omega,qAr hk1 2 oO];rfl
  refine aL (dO (uM O (uB (uBl O) (uB (y_gt O O) (dN (bD O (dF (aQ (aQ (bH (aK (dO (uM O (uB (bA O) (uB (uBf O) ?_)))))))))))))))
  refine uL ?_
  refine uM O (uB (uAi O O) ?_)
  refine uB (uG) ?_
  refine uU (uS ?_)
  refine uA O (dN (bZ ?_))
  apply cB
  ·rfl
  ·((apply Rs.cell rfl (hE.t rfl) rfl;(focus((repeat(first |rfl|assumption|constructor));done)));apply Rs.tmp rfl;exact Rs.nil)
  ·exact⟨O,O⟩
  apply cZ
  ·apply qDl (K:=K1) (L:=rls Es)
   ·exact uK
   ·exact hkl
   ·rw[bQ];exact hK
   rw[hok.k0];simp
  exact uI
 rw[List.concat_eq_append]at hok ⊢
 have hux:=hok.unk x (by simp)
 have hxl:x<K1.length:=(List.getElem?_eq_some_iff.1 hux.1).1
 obtain⟨m,rfl⟩:∃m,x=m+1:=⟨x-1,oO⟩
 have hm:m<Es.length:=oO
 have hent:Es[m]?=some (Es[m]'hm):=List.getElem?_eq_getElem hm
 generalize Es[m]'hm=en at hent
 have hT20:T'.length+1≤1048577:=by
  have:=qNg (n:=i+1) hok.dec (fun x hx=>(hok.unk x hx).2)
  simp at this
  omega
 have hlT:(T'++[m+1]).length=T'.length+1:=by simp
 rw[hlT]
 have hKl:K1.length≤(rls Es).length+1:=by rw[hkl,bQ];exact hK
 have hr:=qI hent
 have hrok:=hwf.ok m en.r hr
 have ht:=ids_get T' (m+1) (((T'.length+1:Nat):Int)-1).toNat oO
 refine iT (p:=sl p1 c1 44 1 (T'.length+1) ((T'++[m+1]).map fun y=>Value.int .i64 (y:Nat))) uK (fun _ h=>And.intro (fB h oO) (lH h).1) ?_
 rintro⟨⟨gT,rfl⟩,hcap⟩
 refine aL (dO (uM O (uB (uBl O) (uB (y_gt O O) (dN ?_)))))
 refine bE O (fun ho=>?_) (fun ho=>?_)
 ·refine bC (aK (bK (aL (aJ ?_))))
  refine uM O (uM O (uB (uBl O) (uB (uAs O O) (uB (uAj O O) (uL ?_)))))
  refine uA O (dN (dO (uM O (uB (bA O) (uB (uBf O) ?_)))))
  refine uL ?_
  refine uM O (uX (mD hE hent) O ?_)
  rintro _ _⟨rfl,rfl⟩
  simp only[uV,uW]
  refine uM O (uB (aT O O) (uB (aT O O) (uU (dA (hE.t O) (fun b8=>?_)))))
  refine uU (uS ?_)
  refine uA O (dN (aL (dO (uM O (uB (dU O (hE.t O)) ?_)))))
  refine dN (bD O ?_)
  have hb:=left_le hrok
  obtain⟨bl,hbl⟩:∃b,K1[en.r.left]?=some b:=⟨_,List.getElem?_eq_getElem oO⟩
  obtain⟨br,hbr⟩:∃b,K1[en.r.right]?=some b:=⟨_,List.getElem?_eq_getElem oO⟩
  have kl:=qAs (L:=rls Es) hbl (0+((en.r.left:Nat):Int).toNat*3+2) oO
  have kr:=qAs (L:=rls Es) hbr (0+((en.r.right:Nat):Int).toNat*3+2) oO
  refine bC (aK (bK (aL (iP oK ?_))))
  refine uB (uBf O) ?_
  refine uL ?_
  refine uB (y_ne O O) (uM O ?_)
  refine eG 110 O (fun hl=>?_) (fun hl=>?_)
  ·cases bl with
   |false=>
    refine dP (uM O (dP (uB (bA O) (dP (uB (uBf O) ?_)))))
    refine dP (uL ?_)
    refine dP (uB (uBf O) ?_)
    refine dP (uL ?_)
    refine dP (uB (uAi O O) ?_)
    refine dP (uB (uBf O) ?_)
    refine dP (uL ?_)
    refine dP (uB (gY O) (uB (aW O O) (uA O (dN (bF O (aJ (uM O (uB (uBf O) ?_))))))))
    refine uL ?_
    refine uU ?_
    refine aU (hE.t O) (hE.t O) O O O (fun b125=>?_)
    refine uU ?_
    apply bU (hE.t O) (hE.t O) O O O
    ·exact uK
    ·exact uK
    ·rfl
    ·rfl
    ·omega
    ·omega
    ·(unfold maxLen;omega)
    intro g126 c126 n126 x126 hn126 hx126
    refine uA O (aM (bI (bI ?_)))
    obtain rfl:n126=(T'++[m+1]++[en.r.left]).length:=by rw[hn126];simp
    obtain rfl:x126=(T'++[m+1]++[en.r.left]).map (fun y=>Value.int .i64 (y:Nat)):=by rw[hx126];simp[bX,bP]
    refine bS (ι:=RowG) (j:=⟨T'++[m+1]++[en.r.left],K1,some ⟨g126,0,none⟩,c126⟩) ?_ ?_ ?_ ?_
    ·exact wX hok hbl oO oO
    ·simp;omega
    ·exact⟨O,O,O,O,O,trivial⟩
    exact uI
   |true=>
    refine dP (uM O (dP (uB (bA O) (dP (uB (uBf O) ?_)))))
    refine dP (uL ?_)
    refine dP (uB (uBf O) ?_)
    refine dP (uL ?_)
    refine dP (uB (uAi O O) ?_)
    refine dP (uB (uBf O) ?_)
    refine dP (uL ?_)
    refine dP (uB (gY O) (uB (aW O O) (uA O (dN (bD O ?_)))))
    have hlk:en.r.left=0∨K1[en.r.left]?=some true:= .inr hbl
    refine aL (iP oK ?_)
    refine uB (uBf O) ?_
    refine uL ?_
    refine uB (y_ne O O) (uM O ?_)
    refine eG 131 O (fun hr2=>?_) (fun hr2=>?_)
    ·cases br with
     |false=>
      refine dP (uM O (dP (uB (bA O) (dP (uB (uBf O) ?_)))))
      refine dP (uL ?_)
      refine dP (uB (uBf O) ?_)
      refine dP (uL ?_)
      refine dP (uB (uAi O O) ?_)
      refine dP (uB (uBf O) ?_)
      refine dP (uL ?_)
      refine dP (uB (gY O) (uB (aW O O) (uA O (dN (bF O (aJ (uM O (uB (uBf O) ?_))))))))
      refine uL ?_
      refine uU ?_
      refine aU (hE.t O) (hE.t O) O O O (fun b146=>?_)
      refine uU ?_
      apply bU (hE.t O) (hE.t O) O O O
      ·exact uK
      ·exact uK
      ·rfl
      ·rfl
      ·omega
      ·omega
      ·(unfold maxLen;omega)
      intro g147 c147 n147 x147 hn147 hx147
      refine uA O (aM (bI (bI ?_)))
      obtain rfl:n147=(T'++[m+1]++[en.r.right]).length:=by rw[hn147];simp
      obtain rfl:x147=(T'++[m+1]++[en.r.right]).map (fun y=>Value.int .i64 (y:Nat)):=by rw[hx147];simp[bX,bP]
      refine bS (ι:=RowG) (j:=⟨T'++[m+1]++[en.r.right],K1,some ⟨g147,0,none⟩,c147⟩) ?_ ?_ ?_ ?_
      ·exact wX hok hbr oO oO
      ·simp;omega
      ·exact⟨O,O,O,O,O,trivial⟩
      exact uI
     |true=>
      refine dP (uM O (dP (uB (bA O) (dP (uB (uBf O) ?_)))))
      refine dP (uL ?_)
      refine dP (uB (uBf O) ?_)
      refine dP (uL ?_)
      refine dP (uB (uAi O O) ?_)
      refine dP (uB (uBf O) ?_)
      refine dP (uL ?_)
      refine dP (uB (gY O) (uB (aW O O) (uA O (dN (bD O ?_)))))
      have hrk:en.r.right=0∨K1[en.r.right]?=some true:= .inr hbr
      refine aL ?_
      refine uH ([cells tb [uPt s,.slice (some ⟨g,0,none⟩) N c] 139,cells b8 (bX [.int .i64 0,.int .u8 0,.int .i64 0,.int .i64 0,.int .i64 0] 0 (bP (.agg #[.int .i64 (Rl.kind (en.r):Nat),.int .u8 (Rl.byte (en.r):Nat),.int .i64 (Rl.left (en.r):Nat),.int .i64 (Rl.right (en.r):Nat),.int .i64 (Rl.times (en.r):Nat)]))) 86]) ?_
      refine uD 0 O (aB O) (uD 1 O (bA O) ?_)
      refine uD 2 O (uBf O) ?_
      refine uD 3 O (uY) ?_
      refine uD 4 O (aB O) (uD 5 O (aB O) ?_)
      refine uD 6 O (uG) ?_
      apply dH 7 O oK O
      refine uC (pJ hE hB hwf hkl hr hok.k0 hlk hrk hKl) O ?_
      rintro _ _⟨rfl,rfl⟩
      simp only[uV,uW]
      refine uE ?_
      refine uD 8 O (uAi O O) ?_
      apply dH 9 O oK O
      refine uJ ?_
      refine uE ?_
      refine jT oK ?_
      refine aK (aJ (uM O (uM O (uB (uBl O) (uB (uAs O O) (uB (fV T'.length O O (hE.t O) oO oO) ?_))))))
      refine uA O (aM (bI (bI ?_)))
      refine bS (ι:=RowG) (j:=⟨T',K1.set (m+1) true,some ⟨gT,0,none⟩,c1⟩) ?_ ?_ ?_ ?_
      ·exact vW hok
      ·have hcnt:=yD hux.1
       have hlast:T'.getLast?.getD 0≤N:=by
        cases hl9:T'.getLast? with
        |none=>simp
        |some y=>
         have:=(hok.unk y (by simp[List.mem_of_getLast? hl9])).2.2
         simp;omega
       simp only
       rw[←hcnt,Nat.add_mul]
       simp
       omega
      ·exact⟨O,O,O,O,O,trivial⟩
      rw[qFf K1 (m+1) hxl (0+((m+1:Nat):Int).toNat*3) oO]
      apply cZ
      ·apply cO (p:=sl (some ⟨gT,0,none⟩) c1 44 1 (T'.length+1) ((T'++[m+1]).map fun y=>Value.int .i64 (y:Nat))) (p':=sl (some ⟨gT,0,none⟩) c1 44 1 T'.length (T'.map fun y=>Value.int .i64 (y:Nat)))
       ·exact uK
       exact lD oO (by simp) (by simp)
      exact uI
    refine bT O O O O (bT O O O O (bT O O O O (bT O O O O (bT O O O O (bT O O O O (bT O O O O (bT O O O O ?_)))))))
    refine dQ (dQ (uB (aX O O) (uA O (dN (bD O ?_)))))
    have hrk:en.r.right=0∨K1[en.r.right]?=some true:= .inl oO
    refine aL ?_
    refine uH ([cells tb [uPt s,.slice (some ⟨g,0,none⟩) N c] 139,cells b8 (bX [.int .i64 0,.int .u8 0,.int .i64 0,.int .i64 0,.int .i64 0] 0 (bP (.agg #[.int .i64 (Rl.kind (en.r):Nat),.int .u8 (Rl.byte (en.r):Nat),.int .i64 (Rl.left (en.r):Nat),.int .i64 (Rl.right (en.r):Nat),.int .i64 (Rl.times (en.r):Nat)]))) 86]) ?_
    refine uD 0 O (aB O) (uD 1 O (bA O) ?_)
    refine uD 2 O (uBf O) ?_
    refine uD 3 O (uY) ?_
    refine uD 4 O (aB O) (uD 5 O (aB O) ?_)
    refine uD 6 O (uG) ?_
    apply dH 7 O oK O
    refine uC (pJ hE hB hwf hkl hr hok.k0 hlk hrk hKl) O ?_
    rintro _ _⟨rfl,rfl⟩
    simp only[uV,uW]
    refine uE ?_
    refine uD 8 O (uAi O O) ?_
    apply dH 9 O oK O
    refine uJ ?_
    refine uE ?_
    refine jT oK ?_
    refine aK (aJ (uM O (uM O (uB (uBl O) (uB (uAs O O) (uB (fV T'.length O O (hE.t O) oO oO) ?_))))))
    refine uA O (aM (bI (bI ?_)))
    refine bS (ι:=RowG) (j:=⟨T',K1.set (m+1) true,some ⟨gT,0,none⟩,c1⟩) ?_ ?_ ?_ ?_
    ·exact vW hok
    ·have hcnt:=yD hux.1
     have hlast:T'.getLast?.getD 0≤N:=by
      cases hl9:T'.getLast? with
      |none=>simp
      |some y=>
       have:=(hok.unk y (by simp[List.mem_of_getLast? hl9])).2.2
       simp;omega
     simp only
     rw[←hcnt,Nat.add_mul]
     simp
     omega
    ·exact⟨O,O,O,O,O,trivial⟩
    rw[qFf K1 (m+1) hxl (0+((m+1:Nat):Int).toNat*3) oO]
    apply cZ
    ·apply cO (p:=sl (some ⟨gT,0,none⟩) c1 44 1 (T'.length+1) ((T'++[m+1]).map fun y=>Value.int .i64 (y:Nat))) (p':=sl (some ⟨gT,0,none⟩) c1 44 1 T'.length (T'.map fun y=>Value.int .i64 (y:Nat)))
     ·exact uK
     exact lD oO (by simp) (by simp)
    exact uI
  refine bT O O O O (bT O O O O (bT O O O O (bT O O O O (bT O O O O (bT O O O O (bT O O O O (bT O O O O ?_)))))))
  refine dQ (dQ (uB (aX O O) (uA O (dN (bD O ?_)))))
  have hlk:en.r.left=0∨K1[en.r.left]?=some true:= .inl oO
  refine aL (iP oK ?_)
  refine uB (uBf O) ?_
  refine uL ?_
  refine uB (y_ne O O) (uM O ?_)
  refine eG 131 O (fun hr2=>?_) (fun hr2=>?_)
  ·cases br with
   |false=>
    refine dP (uM O (dP (uB (bA O) (dP (uB (uBf O) ?_)))))
    refine dP (uL ?_)
    refine dP (uB (uBf O) ?_)
    refine dP (uL ?_)
    refine dP (uB (uAi O O) ?_)
    refine dP (uB (uBf O) ?_)
    refine dP (uL ?_)
    refine dP (uB (gY O) (uB (aW O O) (uA O (dN (bF O (aJ (uM O (uB (uBf O) ?_))))))))
    refine uL ?_
    refine uU ?_
    refine aU (hE.t O) (hE.t O) O O O (fun b146=>?_)
    refine uU ?_
    apply bU (hE.t O) (hE.t O) O O O
    ·exact uK
    ·exact uK
    ·rfl
    ·rfl
    ·omega
    ·omega
    ·(unfold maxLen;omega)
    intro g147 c147 n147 x147 hn147 hx147
    refine uA O (aM (bI (bI ?_)))
    obtain rfl:n147=(T'++[m+1]++[en.r.right]).length:=by rw[hn147];simp
    obtain rfl:x147=(T'++[m+1]++[en.r.right]).map (fun y=>Value.int .i64 (y:Nat)):=by rw[hx147];simp[bX,bP]
    refine bS (ι:=RowG) (j:=⟨T'++[m+1]++[en.r.right],K1,some ⟨g147,0,none⟩,c147⟩) ?_ ?_ ?_ ?_
    ·exact wX hok hbr oO oO
    ·simp;omega
    ·exact⟨O,O,O,O,O,trivial⟩
    exact uI
   |true=>
    refine dP (uM O (dP (uB (bA O) (dP (uB (uBf O) ?_)))))
    refine dP (uL ?_)
    refine dP (uB (uBf O) ?_)
    refine dP (uL ?_)
    refine dP (uB (uAi O O) ?_)
    refine dP (uB (uBf O) ?_)
    refine dP (uL ?_)
    refine dP (uB (gY O) (uB (aW O O) (uA O (dN (bD O ?_)))))
    have hrk:en.r.right=0∨K1[en.r.right]?=some true:= .inr hbr
    refine aL ?_
    refine uH ([cells tb [uPt s,.slice (some ⟨g,0,none⟩) N c] 139,cells b8 (bX [.int .i64 0,.int .u8 0,.int .i64 0,.int .i64 0,.int .i64 0] 0 (bP (.agg #[.int .i64 (Rl.kind (en.r):Nat),.int .u8 (Rl.byte (en.r):Nat),.int .i64 (Rl.left (en.r):Nat),.int .i64 (Rl.right (en.r):Nat),.int .i64 (Rl.times (en.r):Nat)]))) 86]) ?_
    refine uD 0 O (aB O) (uD 1 O (bA O) ?_)
    refine uD 2 O (uBf O) ?_
    refine uD 3 O (uY) ?_
    refine uD 4 O (aB O) (uD 5 O (aB O) ?_)
    refine uD 6 O (uG) ?_
    apply dH 7 O oK O
    refine uC (pJ hE hB hwf hkl hr hok.k0 hlk hrk hKl) O ?_
    rintro _ _⟨rfl,rfl⟩
    simp only[uV,uW]
    refine uE ?_
    refine uD 8 O (uAi O O) ?_
    apply dH 9 O oK O
    refine uJ ?_
    refine uE ?_
    refine jT oK ?_
    refine aK (aJ (uM O (uM O (uB (uBl O) (uB (uAs O O) (uB (fV T'.length O O (hE.t O) oO oO) ?_))))))
    refine uA O (aM (bI (bI ?_)))
    refine bS (ι:=RowG) (j:=⟨T',K1.set (m+1) true,some ⟨gT,0,none⟩,c1⟩) ?_ ?_ ?_ ?_
    ·exact vW hok
    ·have hcnt:=yD hux.1
     have hlast:T'.getLast?.getD 0≤N:=by
      cases hl9:T'.getLast? with
      |none=>simp
      |some y=>
       have:=(hok.unk y (by simp[List.mem_of_getLast? hl9])).2.2
       simp;omega
     simp only
     rw[←hcnt,Nat.add_mul]
     simp
     omega
    ·exact⟨O,O,O,O,O,trivial⟩
    rw[qFf K1 (m+1) hxl (0+((m+1:Nat):Int).toNat*3) oO]
    apply cZ
    ·apply cO (p:=sl (some ⟨gT,0,none⟩) c1 44 1 (T'.length+1) ((T'++[m+1]).map fun y=>Value.int .i64 (y:Nat))) (p':=sl (some ⟨gT,0,none⟩) c1 44 1 T'.length (T'.map fun y=>Value.int .i64 (y:Nat)))
     ·exact uK
     exact lD oO (by simp) (by simp)
    exact uI
  refine bT O O O O (bT O O O O (bT O O O O (bT O O O O (bT O O O O (bT O O O O (bT O O O O (bT O O O O ?_)))))))
  refine dQ (dQ (uB (aX O O) (uA O (dN (bD O ?_)))))
  have hrk:en.r.right=0∨K1[en.r.right]?=some true:= .inl oO
  refine aL ?_
  refine uH ([cells tb [uPt s,.slice (some ⟨g,0,none⟩) N c] 139,cells b8 (bX [.int .i64 0,.int .u8 0,.int .i64 0,.int .i64 0,.int .i64 0] 0 (bP (.agg #[.int .i64 (Rl.kind (en.r):Nat),.int .u8 (Rl.byte (en.r):Nat),.int .i64 (Rl.left (en.r):Nat),.int .i64 (Rl.right (en.r):Nat),.int .i64 (Rl.times (en.r):Nat)]))) 86]) ?_
  refine uD 0 O (aB O) (uD 1 O (bA O) ?_)
  refine uD 2 O (uBf O) ?_
  refine uD 3 O (uY) ?_
  refine uD 4 O (aB O) (uD 5 O (aB O) ?_)
  refine uD 6 O (uG) ?_
  apply dH 7 O oK O
  refine uC (pJ hE hB hwf hkl hr hok.k0 hlk hrk hKl) O ?_
  rintro _ _⟨rfl,rfl⟩
  simp only[uV,uW]
  refine uE ?_
  refine uD 8 O (uAi O O) ?_
  apply dH 9 O oK O
  refine uJ ?_
  refine uE ?_
  refine jT oK ?_
  refine aK (aJ (uM O (uM O (uB (uBl O) (uB (uAs O O) (uB (fV T'.length O O (hE.t O) oO oO) ?_))))))
  refine uA O (aM (bI (bI ?_)))
  refine bS (ι:=RowG) (j:=⟨T',K1.set (m+1) true,some ⟨gT,0,none⟩,c1⟩) ?_ ?_ ?_ ?_
  ·exact vW hok
  ·have hcnt:=yD hux.1
   have hlast:T'.getLast?.getD 0≤N:=by
    cases hl9:T'.getLast? with
    |none=>simp
    |some y=>
     have:=(hok.unk y (by simp[List.mem_of_getLast? hl9])).2.2
     simp;omega
   simp only
   rw[←hcnt,Nat.add_mul]
   simp
   omega
  ·exact⟨O,O,O,O,O,trivial⟩
  rw[qFf K1 (m+1) hxl (0+((m+1:Nat):Int).toNat*3) oO]
  apply cZ
  ·apply cO (p:=sl (some ⟨gT,0,none⟩) c1 44 1 (T'.length+1) ((T'++[m+1]).map fun y=>Value.int .i64 (y:Nat))) (p':=sl (some ⟨gT,0,none⟩) c1 44 1 T'.length (T'.map fun y=>Value.int .i64 (y:Nat)))
   ·exact uK
   exact lD oO (by simp) (by simp)
  exact uI
 exact absurd ho oO
end Go.Proofs.YtlmpojkmeglepaaGreatDoor
