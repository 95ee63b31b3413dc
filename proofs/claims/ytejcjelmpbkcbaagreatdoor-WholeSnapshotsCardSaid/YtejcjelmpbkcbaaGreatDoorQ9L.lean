import Derived.Test.YtejcjelmpbkcbaaGreatDoorQ87
set_option linter.all false
set_option maxHeartbeats 1000000
namespace Go.Proofs.YtejcjelmpbkcbaaGreatDoor
open Go Go.RowKit Sl Eg
set_option maxRecDepth 10000
variable {E:Env}{Es:List Ent}{pp tb s most m bm:Nat}{f:Int→Option Value}
def qEw (hE:Seat E)(hB:Base E.w0){U:List Nat}{l:List (List UInt8×Int)}{a:Option Addr}{c:Nat}{q:HP}(hq:Rdb E.w0 a (nlC l) q)(hn:l.length≤1000)
  (hl:∀p∈l,0≤p.2→p.2≤Es.length→p.2.toNat∈U) (hU:∀u∈U,Ev (rls Es) u∧Eg.len (rls Es) u≤400) (hroom:Es.length+pot' (rls Es) f U≤most) (hk:Kn (rls Es) f):
  Ct E 49 [uPt m,.slice a l.length c] [cells pp [uPt s,uPt tb] 117,tabP tb s (rls Es),bR s most Es,cells m [uPt pp,.map (some bm)] 113,mapF bm .i64 f,q]
   (fun v Q=>(∃e,SgE Es.length l e∧v= .tuple #[.pointer none,.slice none 0 0,.iface 54 (.int .i64 e)]∧Q=[cells pp [uPt s,uPt tb] 117,tabP tb s (rls Es),bR s most Es,cells m [uPt pp,.map (some bm)] 113,mapF bm .i64 f,q])∨
    ∃M f' ys p' c',SgO Es.length l∧v= .tuple #[uPt s,.slice p' l.length c',.nilIface]∧M.length+pot' (rls Es) f' U≤pot' (rls Es) f U∧(∀z,Kf f z=true→Kf f' z=true)∧Kn (rls (Es++M)) f'∧ys.length=l.length∧SigL (rls (Es++M)) (rawN l) ys∧Q=[cells pp [uPt s,uPt tb] 117,tabP tb s (rls (Es++M)),bR s most (Es++M),cells m [uPt pp,.map (some bm)] 113,mapF bm .i64 f',q,sl p' c' 56 1 l.length (idC ys)]):=by
 refine bO (hE.fn Tryz.func49) O O O (fun R=>?_);simp only[dX,uV,uW];refine gg10 ?_;refine uX (qKi (m:=m) (pp:=pp) (bm:=bm) hE) O ?_;rintro _ _⟨rfl,rfl⟩;simp only[uV,uW];refine uX (jS hE) O ?_;rintro _ _⟨rfl,rfl⟩;simp only[uV,uW];refine gg22 ?_;refine eQ (fun k:Nat=>[(0,uPt m),(1,.slice a l.length c),(7,uPt s),(22,.slice a l.length c),(23,.int .i64 (l.length:Nat)),(24,.int .i64 (k:Nat))]) (fun k=>[cells pp [uPt s,uPt tb] 117,tabP tb s (rls Es),bR s most Es,cells m [uPt pp,.map (some bm)] 113,mapF bm .i64 f,q,R]) (fun k=>l.length-k) (fun k=>k≤l.length∧∀j p,j<k→l[j]?=some p→ValidN p.1) 0 ⟨au _,fun j p h=>by omega⟩ ⟨rfl,rfl,rfl,rfl,rfl,rfl,trivial⟩ uI ?_;rintro k⟨hk1,hall⟩;refine gg6 ?_;refine bE O (fun h=>?_) (fun h=>?_)
 ·have hkl:k<l.length:=oO;obtain⟨p,hp⟩:∃p,l[k]?=some p:=⟨_,ag hkl⟩;have hpm:=ay hp;obtain⟨g,o,rfl,hq'⟩:=hq (qQg oO);have fm:=qOe hp;refine gg7 ?_;apply aA
  ·(first |(apply bV rfl (hE.t rfl) rfl;(repeat(first |rfl|assumption|constructor));done)|(apply dL rfl (hE.t rfl) rfl (by assumption);(focus((repeat constructor);done));(focus exact fm);(focus rfl);(focus omega)))
  ·rfl
  refine uU (cZ (hE.t O) (fun b9=>?_));refine gg7 ?_;refine uX (qKq (bs:=p.1) hE) O ?_;rintro _ _⟨rfl,rfl⟩;simp only[uV,uW];refine gg3 ?_;refine kF O (fun hv=>?_) (fun hv=>?_)
  ·refine gg14 ?_;exact uZ O (.tmp O (.tmp O (.tmp O .nil))) (.inl ⟨13,.inl ⟨O,fun hN=>hv (hN p hpm)⟩,O,O⟩)
  refine gg7 ?_;refine bS (ι:=Nat) (j:=k+1) ⟨oO,fun j p' hj hjp=>?_⟩ oO ⟨O,O,O,O,O,bf some (bW oO),trivial⟩ uI;rcases ed j k with h'|h'
  ·exact hall j p' h' hjp
  obtain rfl:j=k:=by omega
  rw[hp]at hjp;cases hjp
  exact hv
 have hNames:Names l:=fun p hp=>by
  obtain⟨j,hj⟩:=kg hp;exact hall j p (by have:=(ae.1 hj).1;omega) hj
 clear hall;refine gg14 ?_;refine eQ (fun k:Nat=>[(0,uPt m),(1,.slice a l.length c),(7,uPt s),(35,.int .i64 (l.length:Nat)),(36,.int .i64 (k:Nat))]) (fun k=>[cells pp [uPt s,uPt tb] 117,tabP tb s (rls Es),bR s most Es,cells m [uPt pp,.map (some bm)] 113,mapF bm .i64 f,q,R]) (fun k=>l.length-k) (fun k=>k≤l.length∧Ordered l k) 0 ⟨au _,fun j p q h=>by omega⟩ ⟨rfl,rfl,rfl,rfl,rfl,trivial⟩ uI ?_;rintro k⟨hk1,hord⟩;refine gg6 ?_;refine bE O (fun h=>?_) (fun h=>?_)
 ·have hkl:k<l.length:=oO;obtain⟨p,hp⟩:∃p,l[k]?=some p:=⟨_,ag hkl⟩;obtain⟨g,o,rfl,hq'⟩:=hq (qQg oO);have f0:=(qLp hp).1;refine gg15 ?_;refine eF 41 O (fun h0=>?_) (fun h0=>?_)
  ·obtain⟨k,rfl⟩:∃k',k=k'+1:=⟨k-1,oO⟩;obtain⟨p0,hp0⟩:∃p,l[k]?=some p:=⟨_,ag oO⟩;have f1:=(qLp hp0).1;refine gg23 ?_;refine uB (y_le_str O O) ?_;refine gg3 ?_;refine w_eq 54 (.bool (!Op.bytesLess p0.1 p.1)) O (bf Value.bool qWu) ?_;refine yK O (fun hv=>?_) (fun hv=>?_)
   ·refine gg14 ?_;apply cB
    ·rfl
    ·(apply Rs.tmp rfl;apply Rs.tmp rfl;apply Rs.tmp rfl;exact Rs.nil)
    ·refine .inl ⟨4,.inr (.inl ⟨O,hNames,fun hN=>?_⟩),O,O⟩;have:=hN k p0 p oO hp0 hp;rw[this]at hv;cases hv
    exact uI
   refine gg7 ?_;refine bS (ι:=Nat) (j:=k+1+1) ⟨oO,fun j x y hj hx hy=>?_⟩ oO ⟨O,O,O,O,bf some (bW oO),trivial⟩ uI;rcases ed (j+1) (k+1)with h'|h'
   ·exact hord j x y h' hx hy
   obtain rfl:j=k:=by omega
   rw[hp0]at hx;rw[hp]at hy;cases hx
   cases hy
   simpa using hv
  obtain rfl:k=0:=by omega
  refine gg23 ?_;refine bS (ι:=Nat) (j:=1) ⟨oO,fun j x y hj hx hy=>by omega⟩ oO ⟨rfl,rfl,rfl,rfl,bf some (bW oO),trivial⟩ uI
 obtain rfl:k=l.length:=by omega
 refine gg9 ?_;refine uU ?_;refine ld_makeN (hE.t O) (hE.t O) O oO (by(unfold maxLen;omega)) (fun b59 us59 hu59=>?_);refine gg12 ?_;have hrl:(rawN l).length=l.length:=ku _;refine eQ (fun k:Nat=>[(0,uPt m),(7,uPt s),(11,.slice (some ⟨b59,0,none⟩) l.length l.length),(60,.slice a l.length c),(61,.int .i64 (l.length:Nat)),(62,.int .i64 (k:Nat))]) (fun k=>[cells pp [uPt s,uPt tb] 117,tabP tb s (rls Es),bR s most Es,cells m [uPt pp,.map (some bm)] 113,mapF bm .i64 f,q,sl (some ⟨b59,0,none⟩) l.length 56 1 l.length (idC ((rawN l).take k)++us59.drop k),R]) (fun k=>l.length-k) (fun k=>k≤l.length∧∀j p,j<k→l[j]?=some p→0≤p.2∧p.2≤(Es.length:Nat)) 0 ⟨au _,fun j p h=>by omega⟩ ⟨rfl,rfl,rfl,rfl,rfl,rfl,trivial⟩ uI ?_;rintro k⟨hk1,hall⟩;refine gg6 ?_;refine bE O (fun h=>?_) (fun h=>?_)
 ·have hkl:k<l.length:=oO;obtain⟨p,hp⟩:∃p,l[k]?=some p:=⟨_,ag hkl⟩;have hpm:=ay hp;obtain⟨g,o,rfl,hq'⟩:=hq (qQg oO);have fm:=qOe hp;refine gg8 ?_;apply aA
  ·(first |(apply bV rfl (hE.t rfl) rfl;(repeat(first |rfl|assumption|constructor));done)|(apply dL rfl (hE.t rfl) rfl (by assumption);(focus((repeat constructor);done));(focus exact fm);(focus rfl);(focus omega)))
  ·rfl
  refine uU (cZ (hE.t O) (fun b13=>?_));refine gg6 ?_;refine uH ([cells b13 [.string ⟨⟨p.1⟩⟩,.int .i64 p.2] 105]) ?_;refine gg4 ?_;refine qVo 70 O (fun h1=>?_) (fun h1=>?_)
  ·refine uR 4 O O O O ?_;refine gg23 ?_;exact uZ O (.tmp O (.tmp O (.tmp O .nil))) (.inl ⟨1,.inr (.inr ⟨O,hNames,hord,fun hI=>by have:=(hI p hpm).1;omega⟩),rfl,rfl⟩)
  refine uO 4 O O O (uBf O) ?_;refine gg2 ?_;apply qCb 7 O O O oK O;refine uC (qFm hE) O ?_;rintro _ _⟨rfl,rfl⟩;simp only[uV,uW];refine uE ?_;refine gg4 ?_;refine bE O (fun h2=>?_) (fun h2=>?_)
  ·refine gg15 ?_;exact uZ O (.tmp O (.tmp O (.tmp O .nil))) (.inl ⟨1,.inr (.inr ⟨O,hNames,hord,fun hI=>by have:=(hI p hpm).2;omega⟩),rfl,rfl⟩)
  refine gg7 ?_;refine l_eq 81 (.int .i64 (p.2.toNat:Nat)) O (bW oO) ?_;refine gg1 ?_;refine l_eq 82 (.pointer (some ⟨b59,k,none⟩)) O (by simp) ?_;refine gg4 ?_;have hrk:(rawN l)[k]?=some p.2.toNat:=by unfold rawN;rw[bq,hp];rfl
  simp only[bP];rw[qTq hrk oO];refine gg4 ?_;refine bS (ι:=Nat) (j:=k+1) ⟨oO,fun j p' hj hjp=>?_⟩ oO ⟨O,O,O,O,O,bf some (bW oO),trivial⟩ uI;rcases ed j k with h'|h'
  ·exact hall j p' h' hjp
  obtain rfl:j=k:=by omega
  rw[hp]at hjp;cases hjp
  exact⟨oO,oO⟩
 obtain rfl:k=l.length:=by omega
 have hIn:InR Es.length l:=fun p hp=>by
  obtain⟨j,hj⟩:=kg hp;exact hall j p (ae.1 hj).1 hj
 have hxs:∀x∈rawN l,x∈U:=fun x hx=>by
  obtain⟨p,hp,rfl⟩:=fq.1 hx;have:=hIn p hp;exact hl p hp this.1 this.2
 have hv:idC ((rawN l).take l.length)++us59.drop l.length=idC (rawN l):=by
  rw[bz oO,List.drop_eq_nil_of_le oO,aj]
 rw[hv];refine gg9 ?_;refine uX (ct_AllWN (s:=s) (tb:=tb) (most:=most) (f:=f) (m:=m) (pp:=pp) (bm:=bm) hE hB hrl hxs hU hn hroom hk) O ?_;rintro _ _⟨M,f',ys,g',c',rfl,hM,hmo,hkn,hyl,hsl,rfl⟩;simp only[uV,uW];refine gg27 ?_;exact uZ O (.tmp O (.tmp O (.tmp O .nil))) (.inr ⟨M,f',ys,some ⟨g',0,none⟩,c',⟨hNames,hord,hIn⟩,O,hM,hmo,hkn,hyl,hsl,O⟩)
def qNk (hE:Seat E){xs:List Nat}{n:Nat}(hxn:xs.length=n){a:Option Addr}{ca:Nat}(hx:∀x∈xs,x≤Es.length∧len (rls Es) x≤400) (hn:n≤1000):
  Ct E 50 [uPt s,.slice a n ca] [bR s most Es,sl a ca 56 1 n (idC xs)]
   (fun v Q=>∃p c,v= .slice p (dD (rls Es) xs []).length c∧Q=[bR s most Es,sl a ca 56 1 n (idC xs),sl p c 56 1 (dD (rls Es) xs []).length (idC (dD (rls Es) xs []))]):=by
 refine eU (p:=bR s most Es) uK (fun _ h=>dS h) (fun hsay=>?_);have hmr:fP=1048576:=rfl;have hLl:=bQ Es;have hx1:∀x∈xs,x≤(rls Es).length:=fun x h=>by have:=(hx x h).1;omega
 refine bO (hE.fn Tryz.func50) O O O (fun R=>?_);simp only[dX,uV,uW];refine gg17 ?_;refine uU ?_;refine qDa .i64 (fun b15=>?_);refine uU ?_;apply qLh (kt:=56) (et:=4) (by rw[hE.P];kernel_rfl) (by rw[hE.P];kernel_rfl) O O O
 ·exact uK
 refine gg13 ?_;rw[lsF_nil];refine eQ (fun q:LoG=>[(0,uPt s),(5,.slice q.p (q.acc).length q.c),(6,.slice q.ps (([]:List (Nat×Bool))).length q.cs),(7,.map (some b15)),(17,.slice a n ca),(18,.int .i64 (n:Nat)),(19,.int .i64 (q.k:Nat))]) (fun q=>[bR s most Es,sl a ca 56 1 n (idC xs),mapF b15 .i64 (lsF q.acc),sl q.p q.c 56 1 (q.acc).length (idC (q.acc)),sl q.ps q.cs 212 2 (([]:List (Nat×Bool))).length (stC (([]:List (Nat×Bool)))),R]) (fun q=>n-q.k) (fun q=>q.k≤n∧q.acc=dD (rls Es) (xs.take q.k) []) ⟨0,[],none,0,none,0⟩ ⟨au _,O⟩ ⟨O,O,O,O,O,O,O,trivial⟩ ?_ ?_
 ·apply cO (gU (t:=56) (sz:=1));apply cO (gU (t:=212) (sz:=2));exact uI
 rintro⟨k,acc,p,c,ps,cs⟩⟨hk,hacc⟩;simp only at hk hacc ⊢;have hnl:([]:List (Nat×Bool)).length=0:=rfl;refine gg6 ?_;refine bE O (fun h=>?_) (fun h=>?_)
 ·have hlt:k<xs.length:=oO;obtain⟨x,hxi⟩:∃x,xs[k]?=some x:=⟨_,ag hlt⟩;have hxx:=hx x (ay hxi);have hwm:=qZn hsay.1 (show x≤(rls Es).length by omega) hxx.2;have htk:xs.take (k+1)=xs.take k++[x]:=by rw[ic,hxi];rfl
  have hvs:dD (rls Es) (xs.take (k+1)) []=visit (rls Es) x acc:=by rw[htk,qJl,hacc];rfl
  have hao:AccOk (rls Es) acc:=by rw[hacc];exact AccOk.visits hsay.1 (fun y hy=>hx1 y (lc hy))
  refine jG (p:=sl a ca 56 1 n (idC xs)) uK (fun _ h=>fA h oO) ?_;rintro⟨gx,rfl⟩;have f0:=gL hxi (0+((k:Nat):Int).toNat) oO;have f1:=gL hxi (((k:Nat):Int).toNat) oO;refine gg16 ?_;refine uU ?_;refine aU (hE.t O) (hE.t O) O O O (fun b26=>?_);refine uU ?_;apply bU (hE.t O) (hE.t O) O O O
  ·exact uK
  ·exact uK
  ·rfl
  ·rfl
  ·omega
  ·omega
  ·(unfold maxLen;omega)
  intro g27 c27 n27 x27 hn27 hx27;refine gg4 ?_;obtain rfl:x27=stC [(x,false)]:=by rw[hx27];rfl
  subst hn27
  refine eQ (fun q:LiG=>[(0,uPt s),(5,.slice q.p (q.acc).length q.c),(6,.slice q.ps (q.st).length q.cs),(7,.map (some b15)),(17,.slice (some ⟨gx,0,none⟩) n ca),(18,.int .i64 (n:Nat)),(19,.int .i64 (k:Nat))]) (fun q=>[bR s most Es,sl (some ⟨gx,0,none⟩) ca 56 1 n (idC xs),mapF b15 .i64 (lsF q.acc),sl q.p q.c 56 1 (q.acc).length (idC (q.acc)),sl q.ps q.cs 212 2 (q.st).length (stC (q.st)),R]) (fun q=>tQ (rls Es) q.st) (fun q=>runS (rls Es) q.st q.acc=dD (rls Es) (xs.take (k+1)) []∧StOk (rls Es) q.st∧tQ (rls Es) q.st≤1601∧AccOk (rls Es) q.acc) ⟨[(x,false)],acc,p,c,some ⟨g27,0,none⟩,c27⟩ ⟨hvs.symm,fun q hq=>by
   obtain rfl:=bg.1 hq;exact⟨by simp only;omega,fun h=>by cases h⟩,by simp only[tQ];omega,hao⟩ ⟨rfl,rfl,rfl,rfl,rfl,rfl,rfl,trivial⟩ uI ?_
  clear hao hvs hacc;rintro⟨st,acc,p,c,ps,cs⟩⟨hrun,hst,hwk,hao⟩;simp only at hrun hst hwk hao ⊢;have hal:=hao.len;have hsl:=qEn (rls Es) st;refine gg8 ?_;refine bE O (fun h2=>?_) (fun h2=>?_)
  ·obtain⟨y,b,st,rfl⟩:∃y b st',st=(y,b)::st':=by
    cases st with
    |nil=>simp at h2
    |cons q st=>exact⟨q.1,q.2,st,rfl⟩
   have hyy:=hst (y,b) (by simp);simp only at hyy;have hstl:((y,b)::st).length=st.length+1:=rfl;have hws:=qTs (rls Es) y b st;obtain⟨f2,f3⟩:=st_last (st:=st) (x:=y) (b:=b);refine jG (p:=sl ps cs 212 2 ((y,b)::st).length (stC ((y,b)::st))) uK (fun _ h=>And.intro (fA h oO) (pM h).1) ?_;rintro⟨⟨gs,rfl⟩,hcap⟩;refine gg10 ?_;refine l_eq 35 _ O (st_ptr (st:=st) hstl) ?_;apply aA
   ·(first |(apply bV rfl (hE.t rfl) rfl;(repeat(first |rfl|assumption|constructor));done)|(apply dL rfl (hE.t rfl) rfl (by assumption);(focus((repeat constructor);done));(focus exact fm);(focus rfl);(focus omega)))
   ·rfl
   refine uU (cZ (hE.t O) (fun b10=>?_));refine gg9 ?_;refine uB (fU st.length O O (hE.t O) oO oO) ?_;refine gg3 ?_;refine iY (cK (p:=sl (some ⟨gs,0,none⟩) cs 212 2 ((y,b)::st).length (stC ((y,b)::st))) (p':=sl (some ⟨gs,0,none⟩) cs 212 2 st.length (stC st)) uK (nG oO (by rw[←zQ];simp[stC]) (by simp))) ?_;by_cases hin:y=0∨y∈acc
   ·have hf:=lsF_in hin;refine gg6 ?_;refine uB (nH (kt:=56) (et:=4) (z:= .bool false) (by rw[hE.P];kernel_rfl) (by rw[hE.P];kernel_rfl) (fun w=>by rw[hE.P];kernel_rfl) rfl rfl uK (by assumption)) ?_;refine gg2 ?_;refine w_eq 45 (.bool true) O O ?_;refine gg4 ?_;refine bS (ι:=LiG) (j:=⟨st,acc,p,c,some ⟨gs,0,none⟩,cs⟩) ⟨by rw[←qYj hst hin];exact hrun,hst.tail,by simp only;omega,hao⟩ hws ⟨rfl,rfl,rfl,rfl,rfl,rfl,rfl,trivial⟩ ?_;exact uI
   have hf:=lsF_out hin;refine gg6 ?_;refine uB (nH (kt:=56) (et:=4) (z:= .bool false) (by rw[hE.P];kernel_rfl) (by rw[hE.P];kernel_rfl) (fun w=>by rw[hE.P];kernel_rfl) rfl rfl uK (by assumption)) ?_;refine gg2 ?_;refine w_eq 45 (.bool false) O O ?_;refine gg10 ?_;refine yK O (fun hb=>?_) (fun hb=>?_)
   ·subst hb;refine gg5 ?_;refine uU ?_;apply qQ (kt:=56) (et:=4) (by rw[hE.P];kernel_rfl) (by rw[hE.P];kernel_rfl) O O O
    ·exact uK
    refine gg2 ?_;rw[lsF_set];refine gg5 ?_;refine uU ?_;refine aU (hE.t O) (hE.t O) O O O (fun b54=>?_);refine uU ?_;apply bU (hE.t O) (hE.t O) O O O
    ·exact uK
    ·exact uK
    ·rfl
    ·rfl
    ·omega
    ·omega
    ·(unfold maxLen;omega)
    intro g55 c55 n55 x55 hn55 hx55;refine gg6 ?_;obtain rfl:x55=idC (acc++[y]):=by rw[hx55,lI];rfl
    have hal2:(acc++[y]).length=acc.length+1:=by simp
    subst hn55;refine bS (ι:=LiG) (j:=⟨st,acc++[y],some ⟨g55,0,none⟩,c55,some ⟨gs,0,none⟩,cs⟩) ⟨by rw[←qYh hin];exact hrun,hst.tail,by simp only;omega,hao.snoc oO hin⟩ hws ⟨rfl,by simp only[hal2];rfl,rfl,rfl,rfl,rfl,rfl,trivial⟩ ?_;simp only[hal2];exact uI
   subst hb;obtain⟨i,rfl⟩:∃i,y=i+1:=⟨y-1,by have:y≠0:=fun e=>hin (.inl e);omega⟩;have hent:Es[i]?=some (Es[i]'oO):=ag oO;generalize Es[i]'oO=en at hent;have hri:=wL hent;have hkk:=qQd en.r;have hwr:=qZo hsay.1 hri st;have hrr:=qYi hsay.1 hri (fun h=>hin (.inr h)) st;have hso:=qYo hsay.1 hri hst.tail;refine gg8 ?_;refine uU ?_;refine aU (hE.t O) (hE.t O) O O O (fun b60=>?_);refine uU ?_;apply bU (hE.t O) (hE.t O) O O O
   ·exact uK
   ·exact uK
   ·rfl
   ·rfl
   ·omega
   ·omega
   ·(unfold maxLen;omega)
   intro g61 c61 n61 x61 hn61 hx61;refine gg8 ?_;obtain rfl:x61=stC ((i+1,true)::st):=by rw[hx61];rfl
   subst hn61;refine uX (kZ hE hent) O ?_;rintro _ _⟨rfl,rfl⟩;simp only[uV,uW];refine gg3 ?_;refine uU (cZ (hE.t O) (fun b11=>?_));refine gg6 ?_;apply aA
   ·(first |(apply bV rfl (hE.t rfl) rfl;(repeat(first |rfl|assumption|constructor));done)|(apply dL rfl (hE.t rfl) rfl (by assumption);(focus((repeat constructor);done));(focus exact fm);(focus rfl);(focus omega)))
   ·rfl
   refine uX (qHk hE en.r) O ?_;rintro _ _⟨pk,ck,rfl,rfl⟩;simp only[uV,uW];refine gg12 ?_
   refine eQ (fun q:LkG=>[(0,uPt s),(5,.slice p acc.length c),(6,.slice q.ps (((kids en.r).drop q.j).map (·,false)++(i+1,true)::st).length q.cs),(7,.map (some b15)),(13,.slice pk (kids en.r).length ck),(14,.int .i64 ((q.j:Nat)-1:Int)),(17,.slice (some ⟨gx,0,none⟩) n ca),(18,.int .i64 (n:Nat)),(19,.int .i64 (k:Nat))])
    (fun q=>[bR s most Es,sl (some ⟨gx,0,none⟩) ca 56 1 n (idC xs),mapF b15 .i64 (lsF acc),sl p c 56 1 acc.length (idC acc),sl q.ps q.cs 212 2 (((kids en.r).drop q.j).map (·,false)++(i+1,true)::st).length (stC (((kids en.r).drop q.j).map (·,false)++(i+1,true)::st)),sl pk ck 56 1 (kids en.r).length (idC (kids en.r)),R]) (fun q=>q.j) (fun q=>q.j≤(kids en.r).length) ⟨(kids en.r).length,some ⟨g61,0,none⟩,c61⟩ (ai _) ⟨rfl,rfl,by simp only[wo];rfl,rfl,rfl,rfl,rfl,rfl,rfl,trivial⟩ ?_ ?_
   ·simp only[wo,oN,jq,av];exact uI
   rintro⟨j,ps,cs⟩hj;simp only at hj ⊢;have hjl:(((kids en.r).drop j).map (·,false)++(i+1,true)::st).length=(kids en.r).length-j+1+st.length:=by simp;omega
   refine gg7 ?_;refine bE O (fun h4=>?_) (fun h4=>?_)
   ·obtain⟨j,rfl⟩:∃j',j=j'+1:=⟨j-1,oO⟩;obtain⟨z,hz⟩:∃z,(kids en.r)[j]?=some z:=⟨_,ag oO⟩;have f4:=gL hz j O;refine jG (p:=sl pk ck 56 1 (kids en.r).length (idC (kids en.r))) uK (fun _ h=>fA h oO) ?_;rintro⟨gk,rfl⟩;refine gg9 ?_;refine l_eq 81 (.pointer (some ⟨gk,j,none⟩)) O (by congr 3;omega) ?_;refine gg2 ?_;refine uU ?_;refine aU (hE.t O) (hE.t O) O O O (fun b84=>?_);refine uU ?_;apply bU (hE.t O) (hE.t O) O O O
    ·exact uK
    ·exact uK
    ·rfl
    ·rfl
    ·omega
    ·omega
    ·(unfold maxLen;omega)
    intro g85 c85 n85 x85 hn85 hx85;refine gg9 ?_;have hdr:((kids en.r).drop j).map (·,false)=(z,false)::((kids en.r).drop (j+1)).map (·,false):=by rw[qPv hz];rfl
    obtain rfl:x85=stC (((kids en.r).drop j).map (·,false)++(i+1,true)::st):=by rw[hx85,hdr];rfl
    have hjl2:(((kids en.r).drop j).map (·,false)++(i+1,true)::st).length=(((kids en.r).drop (j+1)).map (·,false)++(i+1,true)::st).length+1:=by rw[hdr];rfl
    subst hn85;refine bS (ι:=LkG) (j:=⟨j,some ⟨g85,0,none⟩,c85⟩) (by simp only;omega) (by simp only;omega) ⟨O,O,by simp only[hjl2];rfl,rfl,rfl,bf some (bW (by simp only;omega)),rfl,rfl,rfl,trivial⟩ ?_;simp only[hjl2];exact uI
   obtain rfl:j=0:=by omega
   refine gg5 ?_;refine bS (ι:=LiG) (j:=⟨stOpen en.r (i+1) st,acc,p,c,ps,cs⟩) ⟨by rw[←hrun,hrr];rfl,hso,jh (zx hwr) hwk,hao⟩ hwr ⟨rfl,rfl,rfl,rfl,rfl,rfl,rfl,trivial⟩ ?_;exact uI
  obtain rfl:st=[]:=dh oO;refine gg10 ?_;refine bS (ι:=LoG) (j:=⟨k+1,acc,p,c,ps,cs⟩) ⟨by simp only;omega,hrun⟩ (by simp only;omega) ⟨rfl,rfl,rfl,rfl,rfl,rfl,bf some (bW (by simp only;omega)),trivial⟩ ?_;exact uI
 obtain rfl:k=n:=by omega
 have hall:xs.take k=xs:=bz oO;rw[hall]at hacc;subst hacc;refine gg12 ?_;exact uZ O (.tmp O .nil) ⟨p,c,O,O⟩
def ys_okW {U:List Nat}{M:List Ent}{l:List (List UInt8×Int)}{ys:List Nat}(hl:∀p∈l,0≤p.2→p.2≤(Es.length:Nat)→p.2.toNat∈U) (hU:∀u∈U,Ev (rls Es) u∧Eg.len (rls Es) u≤400) (hI:InR Es.length l) (hyl:ys.length=l.length) (hs:SigL (rls (Es++M)) (rawN l) ys):∀y∈ys,y≤(Es++M).length∧Eg.len (rls (Es++M)) y≤400:=fun y hy=>by
 obtain⟨i,hi⟩:=kg hy;have hil:=(ae.1 hi).1;obtain⟨p,hp⟩:∃p,l[i]?=some p:=⟨_,ag oO⟩;have hpm:=ay hp;have hx:(rawN l)[i]?=some p.2.toNat:=by unfold rawN;rw[bq,hp];rfl
 have h:=hs i _ y hx hi;have hIp:=hI p hpm;refine⟨by have:=h.2.2.1.1;rwa [bQ]at this,?_⟩;unfold Eg.len;rw[h.2.1,dA,jQ _ (by rw[bQ];omega)];exact(hU _ (hl p hpm hIp.1 hIp.2)).2
def qFi (hE:Seat E)(hB:Base E.w0){U:List Nat}{l:List (List UInt8×Int)}{a:Option Addr}{ca:Nat}{q:HP}(hq:Rdb E.w0 a (nlC l) q)(hn:l.length≤1000)
  (hl:∀p∈l,0≤p.2→p.2≤Es.length→p.2.toNat∈U) (hU:∀u∈U,Ev (rls Es) u∧Eg.len (rls Es) u≤400) (hroom:Es.length+pot' (rls Es) f U≤most) (hk:Kn (rls Es) f):
  Ct E 14 [uPt m,.slice a l.length ca] [cells pp [uPt s,uPt tb] 117,tabP tb s (rls Es),bR s most Es,cells m [uPt pp,.map (some bm)] 113,mapF bm .i64 f,q]
   (fun v Q=>(∃e,SgE Es.length l e∧v= .tuple #[.slice none 0 0,.iface 54 (.int .i64 e)]∧Q=[cells pp [uPt s,uPt tb] 117,tabP tb s (rls Es),bR s most Es,cells m [uPt pp,.map (some bm)] 113,mapF bm .i64 f,q])∨
    ∃M f' ys g c B,SgO Es.length l∧v= .tuple #[.slice (some ⟨g,0,none⟩) B.length c,.nilIface]∧B=encB (rls (Es++M)) (dD (rls (Es++M)) ys []) (nmY l ys)∧M.length+pot' (rls Es) f' U≤pot' (rls Es) f U∧(∀z,Kf f z=true→Kf f' z=true)∧Kn (rls (Es++M)) f'∧ys.length=l.length∧SigL (rls (Es++M)) (rawN l) ys∧Q=[cells pp [uPt s,uPt tb] 117,tabP tb s (rls (Es++M)),bR s most (Es++M),cells m [uPt pp,.map (some bm)] 113,mapF bm .i64 f',q,sl (some ⟨g,0,none⟩) c 5 1 B.length (byC B)]):=by
 refine bO (hE.fn Tryz.func14) O O O (fun R=>?_);simp only[dX,uV,uW];refine gg10 ?_;refine uX (qEw (U:=U) (s:=s) (tb:=tb) (most:=most) (f:=f) (m:=m) (pp:=pp) (bm:=bm) hE hB hq hn hl hU hroom hk) O ?_;rintro _ _(⟨e,he,rfl,rfl⟩|⟨M,f',ys,p',c',ho,rfl,hM,hmo,hkn,hyl,hsl,rfl⟩)
 ·simp only[uV,uW];refine gg26 ?_;exact uZ O (.tmp O (.tmp O .nil)) (.inl ⟨e,he,O,O⟩)
 have hyo:=ys_okW hl hU ho.2.2 hyl hsl;simp only[uV,uW];refine gg23 ?_;refine uX (qNk (s:=s) (most:=most) (Es:=Es++M) hE hyl hyo hn) O ?_;rintro _ _⟨pl,cl,rfl,rfl⟩;simp only[uV,uW];refine sZ (p:=bR s most (Es++M)) uK (fun _ h=>dS h) (fun hsay=>?_);have hmr:fP=1048576:=rfl;have hLl:=bQ (Es++M);have hao:AccOk (rls (Es++M)) (dD (rls (Es++M)) ys []):=AccOk.visits hsay.1 (fun y hy=>by have:=(hyo y hy).1;omega);have hord:=qGp hsay.1 ys [] (ord_nil _);obtain⟨ids,hids⟩:∃ids,ids=dD (rls (Es++M)) ys []:=⟨_,rfl⟩;rw[←hids]at hao hord ⊢;have hal:=hao.len;have h0i:0∉ids:=fun h=>by have:=(hao.2 0 h).1;omega
 refine gg7 ?_;refine uU ?_;refine qGa .i64 (kt:=56) (et:=3) (by rw[hE.P];kernel_rfl) O (fun b35=>?_);refine gg3 ?_;rw[nuF_nil];refine gg5 ?_;refine uX (sK (n:=ids.length) hE oO) O ?_;rintro _ _⟨g0,c0,rfl,rfl⟩;simp only[uV,uW];have hv10:=jV (n:=ids.length) oO;refine gg12 ?_
 refine eQ (fun x:EnG=>[(1,.slice a l.length ca),(6,uPt s),(7,.slice p' l.length c'),(10,.map (some b35)),(11,.slice (some ⟨x.g,0,none⟩) x.done.length x.c),(40,.slice pl ids.length cl),(41,.int .i64 (ids.length:Nat)),(42,.int .i64 (x.k:Nat))])
  (fun x=>[bR s most (Es++M),cells pp [uPt s,uPt tb] 117,tabP tb s (rls (Es++M)),cells m [uPt pp,.map (some bm)] 113,mapF bm .i64 f',q,sl p' c' 56 1 l.length (idC ys),mapF b35 .i64 (nuF (ids.take x.k)),sl (some ⟨x.g,0,none⟩) x.c 5 1 x.done.length (byC x.done),sl pl cl 56 1 ids.length (idC ids),R]) (fun x=>ids.length-x.k)
  (fun x=>x.k≤ids.length∧x.done=vput ids.length++encR (rls (Es++M)) ids x.k∧x.done.length≤10+21*x.k) ⟨0,vput ids.length,g0,c0⟩ ⟨au _,by simp[encR],by simp only;omega⟩ ⟨rfl,rfl,rfl,rfl,rfl,rfl,rfl,rfl,trivial⟩ uI ?_
 rintro⟨k,done,g,c⟩⟨hk1,hdone,hdl⟩;simp only at hk1 hdone hdl ⊢;refine gg6 ?_;refine bE O (fun h=>?_) (fun h=>?_)
 ·have hkl:k<ids.length:=oO;obtain⟨x,hx⟩:∃x,ids[k]?=some x:=⟨_,ag hkl⟩;have hxx:=hao.2 x (ay hx);obtain⟨i,rfl⟩:∃i,x=i+1:=⟨x-1,oO⟩;have hent:(Es++M)[i]?=some ((Es++M)[i]'oO):=ag oO;generalize(Es++M)[i]'oO=en at hent;have hri:=wL hent
  have hsplit:ids=ids.take k++(i+1)::ids.drop (k+1):=by
   have:=iw k ids;rw[qPv hx]at this;exact this.symm
  have hkids:=hord _ _ _ _ hsplit hri;have htk:ids.take (k+1)=ids.take k++[i+1]:=by rw[ic,hx];rfl
  have htl:(ids.take k).length=k:=by simp;omega
  obtain⟨hro,hrn⟩:=renum_ok htk (hsay.1.ok _ _ hri) hkids;rw[htl]at hro
  have hrn2:kL ids en.r=kL (ids.take (k+1)) en.r:=by
   have:=hrn (ids.drop (k+1));rwa [iw]at this
  have h0t:0∉ids.take (k+1):=fun h=>h0i (lc h)
  have hrt:(kL (ids.take (k+1)) en.r).times≤1152921504606846976:=by
   rw[qDu];have hsh:=hsay.1.short (i+1);have hmx:dC=1152921504606846976:=rfl;have hok:=hsay.1.ok _ _ hri;generalize en.r=r at hri hok ⊢;cases r with
   |letter b=>simp[Rl.times]
   |pair a b=>simp[Rl.times]
   |power x t=>
    have e:=xR hri hok
    simp only[Rl.ok]at hok
    have h1:=hsay.1.pos x hok.1 oO
    have h2:t*1≤t*Eg.len (rls (Es++M)) x:=qp _ h1
    simp only[Rl.times]
    have e2:Eg.len (rls (Es++M)) (i+1)=(txt (rls (Es++M)) (i+1)).length:=rfl
    have e3:t*Eg.len (rls (Es++M)) x=Eg.len (rls (Es++M)) (i+1):=by rw[e]
    omega
  have hrl:=rulB_len (k+1) oO (kL (ids.take (k+1)) en.r) hrt;refine jG (p:=sl pl cl 56 1 ids.length (idC ids)) uK (fun _ h=>fA h oO) ?_;rintro⟨gx,rfl⟩;have f0:=gL hx (0+((k:Nat):Int).toNat) oO;have f1:=gL hx (((k:Nat):Int).toNat) oO;refine gg19 ?_;refine l_eq 50 (.int .i64 ((k+1:Nat):Int)) O (bW oO) ?_;refine uU ?_;apply qQ (kt:=56) (et:=3) (by rw[hE.P];kernel_rfl) (by rw[hE.P];kernel_rfl) O O O
  ·exact uK
  refine gg2 ?_;rw[nuF_at hx hao.1];refine gg4 ?_;refine uX (kZ hE hent) O ?_;rintro _ _⟨rfl,rfl⟩;simp only[uV,uW];have hf1:nuF (ids.take (k+1)) ((en.r.left:Nat):Int)=nuF (ids.take (k+1)) ((en.r.left:Nat):Int):=rfl;have hf2:nuF (ids.take (k+1)) ((en.r.right:Nat):Int)=nuF (ids.take (k+1)) ((en.r.right:Nat):Int):=rfl;refine gg3 ?_;refine uU (cZ (hE.t O) (fun b14=>?_));refine gg9 ?_;refine uB (nH (kt:=56) (et:=3) (z:= .int .i64 0) (by rw[hE.P];kernel_rfl) (by rw[hE.P];kernel_rfl) (fun w=>by rw[hE.P];kernel_rfl) rfl rfl uK (by assumption)) ?_;refine l_eq 60 (.int .i64 (numb (ids.take (k+1)) en.r.left:Nat)) O (qOf _ _) ?_;refine gg9 ?_;refine uB (nH (kt:=56) (et:=3) (z:= .int .i64 0) (by rw[hE.P];kernel_rfl) (by rw[hE.P];kernel_rfl) (fun w=>by rw[hE.P];kernel_rfl) rfl rfl uK (by assumption)) ?_;refine l_eq 65 (.int .i64 (numb (ids.take (k+1)) en.r.right:Nat)) O (qOf _ _) ?_;refine gg4 ?_
  refine iY (cK (p:=cells b14 [.int .i64 (en.r.kind:Nat),.int .u8 (en.r.byte:Nat),.int .i64 (numb (ids.take (k+1)) en.r.left:Nat),.int .i64 (numb (ids.take (k+1)) en.r.right:Nat),.int .i64 (en.r.times:Nat)] 141) (p':=cells b14 [.int .i64 (Rl.kind ((kL (ids.take (k+1)) en.r)):Nat),.int .u8 (Rl.byte ((kL (ids.take (k+1)) en.r)):Nat),.int .i64 (Rl.left ((kL (ids.take (k+1)) en.r)):Nat),.int .i64 (Rl.right ((kL (ids.take (k+1)) en.r)):Nat),.int .i64 (Rl.times ((kL (ids.take (k+1)) en.r)):Nat)] 141) uK (fun _ h=>by rw[qTh,qTg,qTi h0t,qOj h0t,qDu];exact h)) ?_;refine gg2 ?_;apply aA
  ·(first |(apply bV rfl (hE.t rfl) rfl;(repeat(first |rfl|assumption|constructor));done)|(apply dL rfl (hE.t rfl) rfl (by assumption);(focus((repeat constructor);done));(focus exact fm);(focus rfl);(focus omega)))
  ·rfl
  refine gg2 ?_;refine l_eq 70 (.int .i64 ((k+1:Nat):Int)) O (bW oO) ?_;refine uX (ct_rPut (r:=kL (ids.take (k+1)) en.r) (n:=k+1) hE hro oO oO hrt) O ?_;rintro _ _⟨gr,cr,rfl,rfl⟩;simp only[uV,uW];refine gg10 ?_;refine uU ?_;apply jH (hE.t O) (hE.t O) O O O
  ·exact uK
  ·exact uK
  ·exact lN _
  ·exact hrl.1
  ·omega
  ·unfold maxLen;omega
  intro g1 c1 m' x' hm' hx';obtain rfl:m'=(done++rulB (k+1) (kL (ids.take (k+1)) en.r)).length:=hm'.trans aa.symm;obtain rfl:x'=byC (done++rulB (k+1) (kL (ids.take (k+1)) en.r)):=hx'.trans (iZ _ _).symm;clear hm' hx';refine gg8 ?_;refine bS (ι:=EnG) (j:=⟨k+1,done++rulB (k+1) (kL (ids.take (k+1)) en.r),g1,c1⟩) ⟨by simp only;omega,by simp only;rw[xG hx hri,←ah,←hdone,hrn2],by simp only[aa];omega⟩ (by simp only;omega) ⟨rfl,rfl,rfl,rfl,rfl,rfl,rfl,bf some (bW (by simp only;omega)),trivial⟩ ?_;exact uI
 obtain rfl:k=ids.length:=by omega
 rw[qa];clear h hk1;have hv2:=jV (n:=l.length) oO;refine gg11 ?_;refine uX (sK (n:=l.length) hE oO) O ?_;rintro _ _⟨g2,c2,rfl,rfl⟩;simp only[uV,uW];refine uU ?_;apply jH (hE.t O) (hE.t O) O O O
 ·exact uK
 ·exact uK
 ·exact lN _
 ·exact(qG _)
 ·omega
 ·unfold maxLen;omega
 intro g3 c3 m' x' hm' hx';obtain rfl:m'=(done++vput l.length).length:=hm'.trans aa.symm;obtain rfl:x'=byC (done++vput l.length):=hx'.trans (iZ _ _).symm;clear hm' hx';have hd3:(done++vput l.length).length=done.length+(vput l.length).length:=aa;refine gg12 ?_
 refine eQ (fun x:EnG=>[(7,.slice p' l.length c'),(10,.map (some b35)),(11,.slice (some ⟨x.g,0,none⟩) x.done.length x.c),(84,.slice a l.length ca),(85,.int .i64 (l.length:Nat)),(86,.int .i64 (x.k:Nat))])
  (fun x=>[bR s most (Es++M),cells pp [uPt s,uPt tb] 117,tabP tb s (rls (Es++M)),cells m [uPt pp,.map (some bm)] 113,mapF bm .i64 f',q,sl p' c' 56 1 l.length (idC ys),mapF b35 .i64 (nuF ids),sl (some ⟨x.g,0,none⟩) x.c 5 1 x.done.length (byC x.done),R]) (fun x=>l.length-x.k)
  (fun x=>x.k≤l.length∧x.done=done++vput l.length++encN ids ((nmY l ys).take x.k)∧x.done.length≤10+21*ids.length+10+52*x.k) ⟨0,done++vput l.length,g3,c3⟩ ⟨au _,by simp[encN],by simp only;omega⟩ ⟨rfl,rfl,rfl,rfl,rfl,rfl,trivial⟩ uI ?_
 rintro⟨k,dn,g,c⟩⟨hk1,hdn,hdl2⟩;simp only at hk1 hdn hdl2 ⊢;refine gg6 ?_;refine bE O (fun h=>?_) (fun h=>?_)
 ·have hkl:k<l.length:=oO;obtain⟨p,hp⟩:∃p,l[k]?=some p:=⟨_,ag hkl⟩;obtain⟨y,hy⟩:∃y,ys[k]?=some y:=⟨_,ag oO⟩;have hpl:=(ho.1 p (ay hp)).2.1;obtain⟨go,o,rfl,hq'⟩:=hq (qQg oO);have fm:=qOe hp;have hnb:=qIe ids y;have hv1:=jV (n:=p.1.length) oO;have hv3:=jV (n:=numb ids y) oO;have hbl:(pU p.1).length=(vput p.1.length).length+p.1.length:=aa;have hbp:0<(pU p.1).length:=by have:=qG p.1.length;omega
  refine jG (p:=sl p' c' 56 1 l.length (idC ys)) uK (fun _ h=>fA h oO) ?_;rintro⟨gy,rfl⟩;have f0:=gL hy (0+((k:Nat):Int).toNat) oO;have f1:=gL hy (((k:Nat):Int).toNat) oO;have hf1:nuF ids ((y:Nat):Int)=nuF ids ((y:Nat):Int):=rfl;refine gg8 ?_;apply aA
  ·(first |(apply bV rfl (hE.t rfl) rfl;(repeat(first |rfl|assumption|constructor));done)|(apply dL rfl (hE.t rfl) rfl (by assumption);(focus((repeat constructor);done));(focus exact fm);(focus rfl);(focus omega)))
  ·rfl
  refine uU (cZ (hE.t O) (fun b19=>?_));refine gg9 ?_;refine uU ?_;refine ld_bytes O (hE.t O) (hE.t O) (hE.t O) (fun gb cb=>?_);refine uX (qNg (g:=gb) (c:=cb) (bs:=p.1) hE oO) O ?_;rintro _ _⟨g4,c4,rfl,rfl⟩;simp only[uV,uW];refine uU ?_;apply jH (hE.t O) (hE.t O) O O O
  ·exact uK
  ·exact uK
  ·exact lN _
  ·exact hbp
  ·omega
  ·unfold maxLen;omega
  intro g5 c5 m' x' hm' hx';obtain rfl:m'=(dn++pU p.1).length:=hm'.trans aa.symm;obtain rfl:x'=byC (dn++pU p.1):=hx'.trans (iZ _ _).symm;clear hm' hx';have hd5:(dn++pU p.1).length=dn.length+(pU p.1).length:=aa;refine gg10 ?_;refine uB (nH (kt:=56) (et:=3) (z:= .int .i64 0) (by rw[hE.P];kernel_rfl) (by rw[hE.P];kernel_rfl) (fun w=>by rw[hE.P];kernel_rfl) rfl rfl uK (by assumption)) ?_;refine l_eq 103 (.int .i64 (numb ids y:Nat)) O (qOf _ _) ?_;refine gg1 ?_;refine uX (sK (n:=numb ids y) hE oO) O ?_;rintro _ _⟨g6,c6,rfl,rfl⟩;simp only[uV,uW];refine uU ?_;apply jH (hE.t O) (hE.t O) O O O
  ·exact uK
  ·exact uK
  ·exact lN _
  ·exact(qG _)
  ·omega
  ·unfold maxLen;omega
  intro g7 c7 m' x' hm' hx';obtain rfl:m'=(dn++pU p.1++vput (numb ids y)).length:=hm'.trans aa.symm;obtain rfl:x'=byC (dn++pU p.1++vput (numb ids y)):=hx'.trans (iZ _ _).symm;clear hm' hx';have hd7:(dn++pU p.1++vput (numb ids y)).length=(dn++pU p.1).length+(vput (numb ids y)).length:=aa;refine gg8 ?_;refine bS (ι:=EnG) (j:=⟨k+1,dn++pU p.1++vput (numb ids y),g7,c7⟩) ⟨by simp only;omega,by simp only;rw[nmY_take hp hy,qVs,hdn];simp only[ah],by simp only;omega⟩ (by simp only;omega) ⟨rfl,rfl,rfl,rfl,rfl,bf some (bW (by simp only;omega)),trivial⟩ ?_;exact uI
 obtain rfl:k=l.length:=by omega
 have hnl:(nmY l ys).take l.length=nmY l ys:=bz (by unfold nmY;simp;omega)
 have hB:dn=encB (rls (Es++M)) ids (nmY l ys):=by
  have hnn:(nmY l ys).length=l.length:=by unfold nmY;simp;omega
  rw[hdn,hnl,hdone,encB,hnn]
 refine gg13 ?_;exact uZ O (.tmp O (.tmp O .nil)) (.inr ⟨M,f',ys,g,c,dn,ho,O,by rw[hB,hids],hM,hmo,hkn,hyl,hsl,rfl⟩)
