import Derived.Test.YtlmpojkmeglepaaGreatDoorQ9S
set_option linter.all false
set_option maxHeartbeats 1000000
namespace Go.Proofs.YtlmpojkmeglepaaGreatDoor
open Go Go.RowKit Sl Eg
set_option maxRecDepth 10000
variable {E:Env}{Es:List Ent}{pp tb s most m bm:Nat}{f:Int→Option Value}
def qEq (hE:Seat E){P:List Ent→(Int→Option Value)→List Nat→Prop}{l:List (List UInt8×Int)}{a:Option Addr}{c:Nat}{q:HP}(hq:Rdb E.w0 a (nlC l) q)(hn:l.length≤1000)
  (hAll:SgO Es.length l→∀p c,Ct E 55 [uPt m,.slice p l.length c] [cells pp [uPt s,uPt tb] 97,tabP tb s (rls Es),bR s most Es,cells m [uPt pp,.map (some bm)] 93,mapF bm .i64 f,sl p c 44 1 l.length (idC (rawN l))] (fun v Q=>∃(M:List Ent)(f':Int→Option Value)(ys:List Nat)(g' c':Nat),v= .tuple #[.slice (some ⟨g',0,none⟩) l.length c',.nilIface]∧ys.length=l.length∧P M f' ys∧Q=[cells pp [uPt s,uPt tb] 97,tabP tb s (rls (Es++M)),bR s most (Es++M),cells m [uPt pp,.map (some bm)] 93,mapF bm .i64 f',sl p c 44 1 l.length (idC (rawN l)),sl (some ⟨g',0,none⟩) c' 44 1 l.length (idC ys)])):
  Ct E 28 [uPt m,.slice a l.length c] [cells pp [uPt s,uPt tb] 97,tabP tb s (rls Es),bR s most Es,cells m [uPt pp,.map (some bm)] 93,mapF bm .i64 f,q]
   (fun v Q=>(∃e,SgE Es.length l e∧v= .tuple #[.pointer none,.slice none 0 0,.iface 58 (.int .i64 e)]∧Q=[cells pp [uPt s,uPt tb] 97,tabP tb s (rls Es),bR s most Es,cells m [uPt pp,.map (some bm)] 93,mapF bm .i64 f,q])∨
    ∃M f' ys p' c',SgO Es.length l∧v= .tuple #[uPt s,.slice p' l.length c',.nilIface]∧ys.length=l.length∧P M f' ys∧Q=[cells pp [uPt s,uPt tb] 97,tabP tb s (rls (Es++M)),bR s most (Es++M),cells m [uPt pp,.map (some bm)] 93,mapF bm .i64 f',q,sl p' c' 44 1 l.length (idC ys)]):=by
 refine bO (hE.fn Tryz.func28) O O O (fun R=>?_);simp only[dR,uV,uW];refine gg10 ?_;refine uX (sI (m:=m) (pp:=pp) (bm:=bm) hE) O ?_;rintro _ _⟨rfl,rfl⟩;simp only[uV,uW];refine uX (fQ hE) O ?_;rintro _ _⟨rfl,rfl⟩;simp only[uV,uW];refine gg22 ?_;refine dW (fun k:Nat=>[(0,uPt m),(1,.slice a l.length c),(7,uPt s),(22,.slice a l.length c),(23,.int .i64 (l.length:Nat)),(24,.int .i64 (k:Nat))]) (fun k=>[cells pp [uPt s,uPt tb] 97,tabP tb s (rls Es),bR s most Es,cells m [uPt pp,.map (some bm)] 93,mapF bm .i64 f,q,R]) (fun k=>l.length-k) (fun k=>k≤l.length∧∀j p,j<k→l[j]?=some p→ValidN p.1) 0 ⟨av _,fun j p h=>by omega⟩ ⟨rfl,rfl,rfl,rfl,rfl,rfl,trivial⟩ uI ?_;rintro k⟨hk1,hall⟩;refine gg6 ?_;refine bE O (fun h=>?_) (fun h=>?_)
 ·have hkl:k<l.length:=oO;obtain⟨p,hp⟩:∃p,l[k]?=some p:=⟨_,ag hkl⟩;have hpm:=ak hp;obtain⟨g,o,rfl,hq'⟩:=hq (qAi oO);have fm:=zJ hp;refine gg7 ?_;apply aA
  ·(first |(apply bV rfl (hE.t rfl) rfl;(repeat(first |rfl|assumption|constructor));done)|(apply dL rfl (hE.t rfl) rfl (by assumption);(focus((repeat constructor);done));(focus exact fm);(focus rfl);(focus omega)))
  ·rfl
  refine uU (dA (hE.t O) (fun b9=>?_));refine gg7 ?_;refine uX (sJ (bs:=p.1) hE) O ?_;rintro _ _⟨rfl,rfl⟩;simp only[uV,uW];refine gg3 ?_;refine jU O (fun hv=>?_) (fun hv=>?_)
  ·refine gg14 ?_;exact uZ O (.tmp O (.tmp O (.tmp O .nil))) (.inl ⟨13,.inl ⟨O,fun hN=>hv (hN p hpm)⟩,O,O⟩)
  refine gg7 ?_;refine bS (ι:=Nat) (j:=k+1) ⟨oO,fun j p' hj hjp=>?_⟩ oO ⟨O,O,O,O,O,bg some (bW oO),trivial⟩ uI;rcases dw j k with h'|h'
  ·exact hall j p' h' hjp
  obtain rfl:j=k:=by omega
  rw[hp]at hjp;cases hjp
  exact hv
 have hNames:Names l:=fun p hp=>by
  obtain⟨j,hj⟩:=jy hp;exact hall j p (by have:=(ae.1 hj).1;omega) hj
 clear hall;refine gg14 ?_;refine dW (fun k:Nat=>[(0,uPt m),(1,.slice a l.length c),(7,uPt s),(35,.int .i64 (l.length:Nat)),(36,.int .i64 (k:Nat))]) (fun k=>[cells pp [uPt s,uPt tb] 97,tabP tb s (rls Es),bR s most Es,cells m [uPt pp,.map (some bm)] 93,mapF bm .i64 f,q,R]) (fun k=>l.length-k) (fun k=>k≤l.length∧Ordered l k) 0 ⟨av _,fun j p q h=>by omega⟩ ⟨rfl,rfl,rfl,rfl,rfl,trivial⟩ uI ?_;rintro k⟨hk1,hord⟩;refine gg6 ?_;refine bE O (fun h=>?_) (fun h=>?_)
 ·have hkl:k<l.length:=oO;obtain⟨p,hp⟩:∃p,l[k]?=some p:=⟨_,ag hkl⟩;obtain⟨g,o,rfl,hq'⟩:=hq (qAi oO);have f0:=(qDg hp).1;refine gg15 ?_;refine dS 41 O (fun h0=>?_) (fun h0=>?_)
  ·obtain⟨k,rfl⟩:∃k',k=k'+1:=⟨k-1,oO⟩;obtain⟨p0,hp0⟩:∃p,l[k]?=some p:=⟨_,ag oO⟩;have f1:=(qDg hp0).1;refine gg23 ?_;refine uB (qJc O O) ?_;refine gg3 ?_;refine w_eq 54 (.bool (!Op.bytesLess p0.1 p.1)) O (bg Value.bool qHp) ?_;refine sD O (fun hv=>?_) (fun hv=>?_)
   ·refine gg14 ?_;apply cB
    ·rfl
    ·(apply Rs.tmp rfl;apply Rs.tmp rfl;apply Rs.tmp rfl;exact Rs.nil)
    ·refine .inl ⟨4,.inr (.inl ⟨O,hNames,fun hN=>?_⟩),O,O⟩;have:=hN k p0 p oO hp0 hp;rw[this]at hv;cases hv
    exact uI
   refine gg7 ?_;refine bS (ι:=Nat) (j:=k+1+1) ⟨oO,fun j x y hj hx hy=>?_⟩ oO ⟨O,O,O,O,bg some (bW oO),trivial⟩ uI;rcases dw (j+1) (k+1)with h'|h'
   ·exact hord j x y h' hx hy
   obtain rfl:j=k:=by omega
   rw[hp0]at hx;rw[hp]at hy;cases hx
   cases hy
   simpa using hv
  obtain rfl:k=0:=by omega
  refine gg23 ?_;refine bS (ι:=Nat) (j:=1) ⟨oO,fun j x y hj hx hy=>by omega⟩ oO ⟨rfl,rfl,rfl,rfl,bg some (bW oO),trivial⟩ uI
 obtain rfl:k=l.length:=by omega
 refine gg9 ?_;refine uU ?_;refine qPd (hE.t O) (hE.t O) O oO (by(unfold maxLen;omega)) (fun b59 us59 hu59=>?_);refine gg12 ?_;have hrl:(rawN l).length=l.length:=gz _;refine dW (fun k:Nat=>[(0,uPt m),(7,uPt s),(11,.slice (some ⟨b59,0,none⟩) l.length l.length),(60,.slice a l.length c),(61,.int .i64 (l.length:Nat)),(62,.int .i64 (k:Nat))]) (fun k=>[cells pp [uPt s,uPt tb] 97,tabP tb s (rls Es),bR s most Es,cells m [uPt pp,.map (some bm)] 93,mapF bm .i64 f,q,sl (some ⟨b59,0,none⟩) l.length 44 1 l.length (idC ((rawN l).take k)++us59.drop k),R]) (fun k=>l.length-k) (fun k=>k≤l.length∧∀j p,j<k→l[j]?=some p→0≤p.2∧p.2≤(Es.length:Nat)) 0 ⟨av _,fun j p h=>by omega⟩ ⟨rfl,rfl,rfl,rfl,rfl,rfl,trivial⟩ uI ?_;rintro k⟨hk1,hall⟩;refine gg6 ?_;refine bE O (fun h=>?_) (fun h=>?_)
 ·have hkl:k<l.length:=oO;obtain⟨p,hp⟩:∃p,l[k]?=some p:=⟨_,ag hkl⟩;have hpm:=ak hp;obtain⟨g,o,rfl,hq'⟩:=hq (qAi oO);have fm:=zJ hp;refine gg8 ?_;apply aA
  ·(first |(apply bV rfl (hE.t rfl) rfl;(repeat(first |rfl|assumption|constructor));done)|(apply dL rfl (hE.t rfl) rfl (by assumption);(focus((repeat constructor);done));(focus exact fm);(focus rfl);(focus omega)))
  ·rfl
  refine uU (dA (hE.t O) (fun b13=>?_));refine gg6 ?_;refine uH ([cells b13 [.string ⟨⟨p.1⟩⟩,.int .i64 p.2] 53]) ?_;refine gg4 ?_;refine qMo 70 O (fun h1=>?_) (fun h1=>?_)
  ·refine uR 4 O O O O ?_;refine gg23 ?_;exact uZ O (.tmp O (.tmp O (.tmp O .nil))) (.inl ⟨1,.inr (.inr ⟨O,hNames,hord,fun hI=>by have:=(hI p hpm).1;omega⟩),rfl,rfl⟩)
  refine uO 4 O O O (uBf O) ?_;refine gg2 ?_;apply sN 7 O O O oK O;refine uC (sF hE) O ?_;rintro _ _⟨rfl,rfl⟩;simp only[uV,uW];refine uE ?_;refine gg4 ?_;refine bE O (fun h2=>?_) (fun h2=>?_)
  ·refine gg15 ?_;exact uZ O (.tmp O (.tmp O (.tmp O .nil))) (.inl ⟨1,.inr (.inr ⟨O,hNames,hord,fun hI=>by have:=(hI p hpm).2;omega⟩),rfl,rfl⟩)
  refine gg7 ?_;refine l_eq 81 (.int .i64 (p.2.toNat:Nat)) O (bW oO) ?_;refine gg1 ?_;refine l_eq 82 (.pointer (some ⟨b59,k,none⟩)) O (by simp) ?_;refine gg4 ?_;have hrk:(rawN l)[k]?=some p.2.toNat:=by unfold rawN;rw[bi,hp];rfl
  simp only[bP];rw[qGj hrk oO];refine gg4 ?_;refine bS (ι:=Nat) (j:=k+1) ⟨oO,fun j p' hj hjp=>?_⟩ oO ⟨O,O,O,O,O,bg some (bW oO),trivial⟩ uI;rcases dw j k with h'|h'
  ·exact hall j p' h' hjp
  obtain rfl:j=k:=by omega
  rw[hp]at hjp;cases hjp
  exact⟨oO,oO⟩
 obtain rfl:k=l.length:=by omega
 have hIn:InR Es.length l:=fun p hp=>by
  obtain⟨j,hj⟩:=jy hp;exact hall j p (ae.1 hj).1 hj
 have hv:idC ((rawN l).take l.length)++us59.drop l.length=idC (rawN l):=by
  rw[di oO,rz oO,aj]
 rw[hv];refine gg9 ?_;refine uX (hAll ⟨hNames,hord,hIn⟩ (some ⟨b59,0,none⟩) l.length) O ?_;rintro _ _⟨M,f',ys,g',c',rfl,hyl,hP,rfl⟩;simp only[uV,uW];refine gg27 ?_;exact uZ O (.tmp O (.tmp O (.tmp O .nil))) (.inr ⟨M,f',ys,some ⟨g',0,none⟩,c',⟨hNames,hord,hIn⟩,O,hyl,hP,O⟩)
def qQt (hE:Seat E){P:List Ent→(Int→Option Value)→List Nat→Prop}{l:List (List UInt8×Int)}{a:Option Addr}{ca:Nat}{q:HP}(hq:Rdb E.w0 a (nlC l) q)(hn:l.length≤1000)
  (hAll:SgO Es.length l→∀p c,Ct E 55 [uPt m,.slice p l.length c] [cells pp [uPt s,uPt tb] 97,tabP tb s (rls Es),bR s most Es,cells m [uPt pp,.map (some bm)] 93,mapF bm .i64 f,sl p c 44 1 l.length (idC (rawN l))] (fun v Q=>∃(M:List Ent)(f':Int→Option Value)(ys:List Nat)(g' c':Nat),v= .tuple #[.slice (some ⟨g',0,none⟩) l.length c',.nilIface]∧ys.length=l.length∧P M f' ys∧Q=[cells pp [uPt s,uPt tb] 97,tabP tb s (rls (Es++M)),bR s most (Es++M),cells m [uPt pp,.map (some bm)] 93,mapF bm .i64 f',sl p c 44 1 l.length (idC (rawN l)),sl (some ⟨g',0,none⟩) c' 44 1 l.length (idC ys)])) (hPy:∀M f' ys,SgO Es.length l→ys.length=l.length→P M f' ys→∀y∈ys,y≤(Es++M).length):
  Ct E 9 [uPt m,.slice a l.length ca] [cells pp [uPt s,uPt tb] 97,tabP tb s (rls Es),bR s most Es,cells m [uPt pp,.map (some bm)] 93,mapF bm .i64 f,q]
   (fun v Q=>(∃e,SgE Es.length l e∧v= .tuple #[.slice none 0 0,.iface 58 (.int .i64 e)]∧Q=[cells pp [uPt s,uPt tb] 97,tabP tb s (rls Es),bR s most Es,cells m [uPt pp,.map (some bm)] 93,mapF bm .i64 f,q])∨
    ∃M f' ys g c B,SgO Es.length l∧v= .tuple #[.slice (some ⟨g,0,none⟩) B.length c,.nilIface]∧B=encB (rls (Es++M)) (dD (rls (Es++M)) ys []) (nmY l ys)∧ys.length=l.length∧P M f' ys∧Q=[cells pp [uPt s,uPt tb] 97,tabP tb s (rls (Es++M)),bR s most (Es++M),cells m [uPt pp,.map (some bm)] 93,mapF bm .i64 f',q,sl (some ⟨g,0,none⟩) c 5 1 B.length (byC B)]):=by
 refine bO (hE.fn Tryz.func9) O O O (fun R=>?_);simp only[dR,uV,uW];refine gg10 ?_;refine uX (qEq (s:=s) (tb:=tb) (most:=most) (f:=f) (m:=m) (pp:=pp) (bm:=bm) hE hq hn hAll) O ?_;rintro _ _(⟨e,he,rfl,rfl⟩|⟨M,f',ys,p',c',ho,rfl,hyl,hP,rfl⟩)
 ·simp only[uV,uW];refine gg26 ?_;exact uZ O (.tmp O (.tmp O .nil)) (.inl ⟨e,he,O,O⟩)
 have hyo:=hPy M f' ys ho hyl hP;simp only[uV,uW];refine gg23 ?_;refine uX (qCe (s:=s) (most:=most) (Es:=Es++M) hE hyl hyo oO) O ?_;rintro _ _⟨pl,cl,rfl,rfl⟩;simp only[uV,uW];refine mX (p:=bR s most (Es++M)) uK (fun _ h=>dP h) (fun hsay=>?_);have hmr:eU=1048576:=rfl;have hLl:=bQ (Es++M);have hao:AccOk (rls (Es++M)) (dD (rls (Es++M)) ys []):=AccOk.visits hsay.1 (fun y hy=>by have:=hyo y hy;omega);have hord:=qX hsay.1 ys [] (qHw _);obtain⟨ids,hids⟩:∃ids,ids=dD (rls (Es++M)) ys []:=⟨_,rfl⟩;rw[←hids]at hao hord ⊢;have hal:=hao.len;have h0i:0∉ids:=fun h=>by have:=(hao.2 0 h).1;omega
 refine gg7 ?_;refine uU ?_;refine zC .i64 (kt:=44) (et:=3) (by rw[hE.P];kernel_rfl) O (fun b35=>?_);refine gg3 ?_;rw[qVi];refine gg5 ?_;refine uX (nS (n:=ids.length) hE oO) O ?_;rintro _ _⟨g0,c0,rfl,rfl⟩;simp only[uV,uW];have hv10:=fG (n:=ids.length) oO;refine gg12 ?_
 refine dW (fun x:EnG=>[(1,.slice a l.length ca),(6,uPt s),(7,.slice p' l.length c'),(10,.map (some b35)),(11,.slice (some ⟨x.g,0,none⟩) x.done.length x.c),(40,.slice pl ids.length cl),(41,.int .i64 (ids.length:Nat)),(42,.int .i64 (x.k:Nat))])
  (fun x=>[bR s most (Es++M),cells pp [uPt s,uPt tb] 97,tabP tb s (rls (Es++M)),cells m [uPt pp,.map (some bm)] 93,mapF bm .i64 f',q,sl p' c' 44 1 l.length (idC ys),mapF b35 .i64 (nuF (ids.take x.k)),sl (some ⟨x.g,0,none⟩) x.c 5 1 x.done.length (byC x.done),sl pl cl 44 1 ids.length (idC ids),R]) (fun x=>ids.length-x.k)
  (fun x=>x.k≤ids.length∧x.done=vput ids.length++encR (rls (Es++M)) ids x.k∧x.done.length≤10+21*x.k) ⟨0,vput ids.length,g0,c0⟩ ⟨av _,by simp[encR],by simp only;omega⟩ ⟨rfl,rfl,rfl,rfl,rfl,rfl,rfl,rfl,trivial⟩ uI ?_
 rintro⟨k,done,g,c⟩⟨hk1,hdone,hdl⟩;simp only at hk1 hdone hdl ⊢;refine gg6 ?_;refine bE O (fun h=>?_) (fun h=>?_)
 ·have hkl:k<ids.length:=oO;obtain⟨x,hx⟩:∃x,ids[k]?=some x:=⟨_,ag hkl⟩;have hxx:=hao.2 x (ak hx);obtain⟨i,rfl⟩:∃i,x=i+1:=⟨x-1,oO⟩;have hent:(Es++M)[i]?=some ((Es++M)[i]'oO):=ag oO;generalize(Es++M)[i]'oO=en at hent;have hri:=mY hent
  have hsplit:ids=ids.take k++(i+1)::ids.drop (k+1):=by
   have:=dz k ids;rw[rG hx]at this;exact this.symm
  have hkids:=hord _ _ _ _ hsplit hri;have htk:ids.take (k+1)=ids.take k++[i+1]:=by rw[ed,hx];rfl
  have htl:(ids.take k).length=k:=by simp;omega
  obtain⟨hro,hrn⟩:=qHz htk (hsay.1.ok _ _ hri) hkids;rw[htl]at hro
  have hrn2:iC ids en.r=iC (ids.take (k+1)) en.r:=by
   have:=hrn (ids.drop (k+1));rwa [dz]at this
  have h0t:0∉ids.take (k+1):=fun h=>h0i (lg h)
  have hrt:(iC (ids.take (k+1)) en.r).times≤1152921504606846976:=by
   rw[pF];have hsh:=hsay.1.short (i+1);have hmx:dC=1152921504606846976:=rfl;have hok:=hsay.1.ok _ _ hri;generalize en.r=r at hri hok ⊢;cases r with
   |letter b=>simp[Rl.times]
   |pair a b=>simp[Rl.times]
   |power x t=>
    have e:=kC hri hok
    simp only[Rl.ok]at hok
    have h1:=hsay.1.pos x hok.1 oO
    have h2:t*1≤t*Eg.len (rls (Es++M)) x:=mh _ h1
    simp only[Rl.times]
    have e2:Eg.len (rls (Es++M)) (i+1)=(txt (rls (Es++M)) (i+1)).length:=rfl
    have e3:t*Eg.len (rls (Es++M)) x=Eg.len (rls (Es++M)) (i+1):=by rw[e]
    omega
  have hrl:=yE (k+1) oO (iC (ids.take (k+1)) en.r) hrt;refine gP (p:=sl pl cl 44 1 ids.length (idC ids)) uK (fun _ h=>eF h oO) ?_;rintro⟨gx,rfl⟩;have f0:=eQ hx (0+((k:Nat):Int).toNat) oO;have f1:=eQ hx (((k:Nat):Int).toNat) oO;refine gg19 ?_;refine l_eq 50 (.int .i64 ((k+1:Nat):Int)) O (bW oO) ?_;refine uU ?_;apply jT (kt:=44) (et:=3) (by rw[hE.P];kernel_rfl) (by rw[hE.P];kernel_rfl) O O O
  ·exact uK
  refine gg2 ?_;rw[nuF_at hx hao.1];refine gg4 ?_;refine uX (jP hE hent) O ?_;rintro _ _⟨rfl,rfl⟩;simp only[uV,uW];have hf1:nuF (ids.take (k+1)) ((en.r.left:Nat):Int)=nuF (ids.take (k+1)) ((en.r.left:Nat):Int):=rfl;have hf2:nuF (ids.take (k+1)) ((en.r.right:Nat):Int)=nuF (ids.take (k+1)) ((en.r.right:Nat):Int):=rfl;refine gg3 ?_;refine uU (dA (hE.t O) (fun b14=>?_));refine gg9 ?_;refine uB (iP (kt:=44) (et:=3) (z:= .int .i64 0) (by rw[hE.P];kernel_rfl) (by rw[hE.P];kernel_rfl) (fun w=>by rw[hE.P];kernel_rfl) rfl rfl uK (by assumption)) ?_;refine l_eq 60 (.int .i64 (numb (ids.take (k+1)) en.r.left:Nat)) O (zL _ _) ?_;refine gg9 ?_;refine uB (iP (kt:=44) (et:=3) (z:= .int .i64 0) (by rw[hE.P];kernel_rfl) (by rw[hE.P];kernel_rfl) (fun w=>by rw[hE.P];kernel_rfl) rfl rfl uK (by assumption)) ?_;refine l_eq 65 (.int .i64 (numb (ids.take (k+1)) en.r.right:Nat)) O (zL _ _) ?_;refine gg4 ?_
  refine iB (cO (p:=cells b14 [.int .i64 (en.r.kind:Nat),.int .u8 (en.r.byte:Nat),.int .i64 (numb (ids.take (k+1)) en.r.left:Nat),.int .i64 (numb (ids.take (k+1)) en.r.right:Nat),.int .i64 (en.r.times:Nat)] 86) (p':=cells b14 [.int .i64 (Rl.kind ((iC (ids.take (k+1)) en.r)):Nat),.int .u8 (Rl.byte ((iC (ids.take (k+1)) en.r)):Nat),.int .i64 (Rl.left ((iC (ids.take (k+1)) en.r)):Nat),.int .i64 (Rl.right ((iC (ids.take (k+1)) en.r)):Nat),.int .i64 (Rl.times ((iC (ids.take (k+1)) en.r)):Nat)] 86) uK (fun _ h=>by rw[qGb,qGa,qGc h0t,qDo h0t,pF];exact h)) ?_;refine gg2 ?_;apply aA
  ·(first |(apply bV rfl (hE.t rfl) rfl;(repeat(first |rfl|assumption|constructor));done)|(apply dL rfl (hE.t rfl) rfl (by assumption);(focus((repeat constructor);done));(focus exact fm);(focus rfl);(focus omega)))
  ·rfl
  refine gg2 ?_;refine l_eq 70 (.int .i64 ((k+1:Nat):Int)) O (bW oO) ?_;refine uX (qTs (r:=iC (ids.take (k+1)) en.r) (n:=k+1) hE hro oO oO hrt) O ?_;rintro _ _⟨gr,cr,rfl,rfl⟩;simp only[uV,uW];refine gg10 ?_;refine uU ?_;apply gD (hE.t O) (hE.t O) O O O
  ·exact uK
  ·exact uK
  ·exact jH _
  ·exact hrl.1
  ·omega
  ·unfold maxLen;omega
  intro g1 c1 m' x' hm' hx';obtain rfl:m'=(done++rulB (k+1) (iC (ids.take (k+1)) en.r)).length:=hm'.trans aa.symm;obtain rfl:x'=byC (done++rulB (k+1) (iC (ids.take (k+1)) en.r)):=hx'.trans (gM _ _).symm;clear hm' hx';refine gg8 ?_;refine bS (ι:=EnG) (j:=⟨k+1,done++rulB (k+1) (iC (ids.take (k+1)) en.r),g1,c1⟩) ⟨by simp only;omega,by simp only;rw[sS hx hri,←ah,←hdone,hrn2],by simp only[aa];omega⟩ (by simp only;omega) ⟨rfl,rfl,rfl,rfl,rfl,rfl,rfl,bg some (bW (by simp only;omega)),trivial⟩ ?_;exact uI
 obtain rfl:k=ids.length:=by omega
 rw[oU];clear h hk1;have hv2:=fG (n:=l.length) oO;refine gg11 ?_;refine uX (nS (n:=l.length) hE oO) O ?_;rintro _ _⟨g2,c2,rfl,rfl⟩;simp only[uV,uW];refine uU ?_;apply gD (hE.t O) (hE.t O) O O O
 ·exact uK
 ·exact uK
 ·exact jH _
 ·exact(kK _)
 ·omega
 ·unfold maxLen;omega
 intro g3 c3 m' x' hm' hx';obtain rfl:m'=(done++vput l.length).length:=hm'.trans aa.symm;obtain rfl:x'=byC (done++vput l.length):=hx'.trans (gM _ _).symm;clear hm' hx';have hd3:(done++vput l.length).length=done.length+(vput l.length).length:=aa;refine gg12 ?_
 refine dW (fun x:EnG=>[(7,.slice p' l.length c'),(10,.map (some b35)),(11,.slice (some ⟨x.g,0,none⟩) x.done.length x.c),(84,.slice a l.length ca),(85,.int .i64 (l.length:Nat)),(86,.int .i64 (x.k:Nat))])
  (fun x=>[bR s most (Es++M),cells pp [uPt s,uPt tb] 97,tabP tb s (rls (Es++M)),cells m [uPt pp,.map (some bm)] 93,mapF bm .i64 f',q,sl p' c' 44 1 l.length (idC ys),mapF b35 .i64 (nuF ids),sl (some ⟨x.g,0,none⟩) x.c 5 1 x.done.length (byC x.done),R]) (fun x=>l.length-x.k)
  (fun x=>x.k≤l.length∧x.done=done++vput l.length++encN ids ((nmY l ys).take x.k)∧x.done.length≤10+21*ids.length+10+52*x.k) ⟨0,done++vput l.length,g3,c3⟩ ⟨av _,by simp[encN],by simp only;omega⟩ ⟨rfl,rfl,rfl,rfl,rfl,rfl,trivial⟩ uI ?_
 rintro⟨k,dn,g,c⟩⟨hk1,hdn,hdl2⟩;simp only at hk1 hdn hdl2 ⊢;refine gg6 ?_;refine bE O (fun h=>?_) (fun h=>?_)
 ·have hkl:k<l.length:=oO;obtain⟨p,hp⟩:∃p,l[k]?=some p:=⟨_,ag hkl⟩;obtain⟨y,hy⟩:∃y,ys[k]?=some y:=⟨_,ag oO⟩;have hpl:=(ho.1 p (ak hp)).2.1;obtain⟨go,o,rfl,hq'⟩:=hq (qAi oO);have fm:=zJ hp;have hnb:=qD ids y;have hv1:=fG (n:=p.1.length) oO;have hv3:=fG (n:=numb ids y) oO;have hbl:(gH p.1).length=(vput p.1.length).length+p.1.length:=aa;have hbp:0<(gH p.1).length:=by have:=kK p.1.length;omega
  refine gP (p:=sl p' c' 44 1 l.length (idC ys)) uK (fun _ h=>eF h oO) ?_;rintro⟨gy,rfl⟩;have f0:=eQ hy (0+((k:Nat):Int).toNat) oO;have f1:=eQ hy (((k:Nat):Int).toNat) oO;have hf1:nuF ids ((y:Nat):Int)=nuF ids ((y:Nat):Int):=rfl;refine gg8 ?_;apply aA
  ·(first |(apply bV rfl (hE.t rfl) rfl;(repeat(first |rfl|assumption|constructor));done)|(apply dL rfl (hE.t rfl) rfl (by assumption);(focus((repeat constructor);done));(focus exact fm);(focus rfl);(focus omega)))
  ·rfl
  refine uU (dA (hE.t O) (fun b19=>?_));refine gg9 ?_;refine uU ?_;refine qPc O (hE.t O) (hE.t O) (hE.t O) (fun gb cb=>?_);refine uX (qBt (g:=gb) (c:=cb) (bs:=p.1) hE oO) O ?_;rintro _ _⟨g4,c4,rfl,rfl⟩;simp only[uV,uW];refine uU ?_;apply gD (hE.t O) (hE.t O) O O O
  ·exact uK
  ·exact uK
  ·exact jH _
  ·exact hbp
  ·omega
  ·unfold maxLen;omega
  intro g5 c5 m' x' hm' hx';obtain rfl:m'=(dn++gH p.1).length:=hm'.trans aa.symm;obtain rfl:x'=byC (dn++gH p.1):=hx'.trans (gM _ _).symm;clear hm' hx';have hd5:(dn++gH p.1).length=dn.length+(gH p.1).length:=aa;refine gg10 ?_;refine uB (iP (kt:=44) (et:=3) (z:= .int .i64 0) (by rw[hE.P];kernel_rfl) (by rw[hE.P];kernel_rfl) (fun w=>by rw[hE.P];kernel_rfl) rfl rfl uK (by assumption)) ?_;refine l_eq 103 (.int .i64 (numb ids y:Nat)) O (zL _ _) ?_;refine gg1 ?_;refine uX (nS (n:=numb ids y) hE oO) O ?_;rintro _ _⟨g6,c6,rfl,rfl⟩;simp only[uV,uW];refine uU ?_;apply gD (hE.t O) (hE.t O) O O O
  ·exact uK
  ·exact uK
  ·exact jH _
  ·exact(kK _)
  ·omega
  ·unfold maxLen;omega
  intro g7 c7 m' x' hm' hx';obtain rfl:m'=(dn++gH p.1++vput (numb ids y)).length:=hm'.trans aa.symm;obtain rfl:x'=byC (dn++gH p.1++vput (numb ids y)):=hx'.trans (gM _ _).symm;clear hm' hx';have hd7:(dn++gH p.1++vput (numb ids y)).length=(dn++gH p.1).length+(vput (numb ids y)).length:=aa;refine gg8 ?_;refine bS (ι:=EnG) (j:=⟨k+1,dn++gH p.1++vput (numb ids y),g7,c7⟩) ⟨by simp only;omega,by simp only;rw[qPj hp hy,qKb,hdn];simp only[ah],by simp only;omega⟩ (by simp only;omega) ⟨rfl,rfl,rfl,rfl,rfl,bg some (bW (by simp only;omega)),trivial⟩ ?_;exact uI
 obtain rfl:k=l.length:=by omega
 have hnl:(nmY l ys).take l.length=nmY l ys:=di (by unfold nmY;simp;omega)
 have hB:dn=encB (rls (Es++M)) ids (nmY l ys):=by
  have hnn:(nmY l ys).length=l.length:=by unfold nmY;simp;omega
  rw[hdn,hnl,hdone,encB,hnn]
 refine gg13 ?_;exact uZ O (.tmp O (.tmp O .nil)) (.inr ⟨M,f',ys,g,c,dn,ho,O,by rw[hB,hids],hyl,hP,rfl⟩)
end Go.Proofs.YtlmpojkmeglepaaGreatDoor
namespace Sl
open Go Go.RowKit
def ct_postW {E:Env}{f:FuncId}{args:List Value}{Pre:List HP}{Φ Φ':Value→List HP→Prop}(h:Ct E f args Pre Φ)(hi:∀v Q,Φ v Q→Φ' v Q):Ct E f args Pre Φ':=fun R w s=>
 (h R w s).mono fun e w'⟨v,Qs,h1,h2,h3⟩=>⟨v,Qs,h1,hi v Qs h2,h3⟩
end Sl
namespace Go.Proofs.YtlmpojkmeglepaaGreatDoor
open Go Go.RowKit Sl Eg
section
set_option maxRecDepth 10000
variable {E:Env}{Es:List Ent}{pp tb s most m bm:Nat}{f:Int→Option Value}
structure AlS where
 M:List Ent
 f:Int→Option Value
 k:Nat
 g:Nat
 c:Nat
def ct_AllS (hE:Seat E)(hB:Base E.w0){xs:List Nat}{N n:Nat}(hxn:xs.length=n){p:Option Addr}{c:Nat}(hx:∀x∈xs,x=0∨Sig (rls Es) x) (hxN:∀x∈xs,x≤N) (hN:N≤Es.length) (hn:n≤1000) (hroom:Es.length+256+unk f N≤most) (hk:Kn (rls Es) f):
  Ct E 55 [uPt m,.slice p n c] [cells pp [uPt s,uPt tb] 97,tabP tb s (rls Es),bR s most Es,cells m [uPt pp,.map (some bm)] 93,mapF bm .i64 f,sl p c 44 1 n (idC xs)]
   (fun v Q=>∃(M:List Ent)(f':Int→Option Value)(ys:List Nat)(g' c':Nat),v= .tuple #[.slice (some ⟨g',0,none⟩) n c',.nilIface]∧ys.length=n∧(ys=xs∧M.length+unk f' N≤unk f N∧Kn (rls (Es++M)) f')∧Q=[cells pp [uPt s,uPt tb] 97,tabP tb s (rls (Es++M)),bR s most (Es++M),cells m [uPt pp,.map (some bm)] 93,mapF bm .i64 f',sl p c 44 1 n (idC xs),sl (some ⟨g',0,none⟩) c' 44 1 n (idC ys)]):=by
 subst hxn;refine dX (p:=bR s most Es) uK (fun _ h=>dP h) (fun hsay=>?_);have hw:=hsay.1;refine bO (hE.fn Tryz.func55) O O O (fun R=>?_);simp only[dR,uV,uW];refine gg10 ?_;refine uU ?_;refine jQ (hE.t O) (hE.t O) O O (by first |omega |exact bz rfl) (by(unfold maxLen;first |omega |exact bz rfl)) (fun b13 us13 hu13=>?_);refine gg12 ?_;refine iB (cO (p:=sl (some ⟨b13,0,none⟩) xs.length 44 1 xs.length us13) (p':=sl (some ⟨b13,0,none⟩) xs.length 44 1 0 (idC [])) uK (kX (av _) O (by simp))) ?_
 refine dW (fun q:AlS=>[(0,uPt m),(6,.slice (some ⟨q.g,0,none⟩) q.k q.c),(14,.slice p xs.length c),(15,.int .i64 (xs.length:Nat)),(16,.int .i64 (q.k:Nat))]) (fun q=>[cells pp [uPt s,uPt tb] 97,tabP tb s (rls (Es++q.M)),bR s most (Es++q.M),cells m [uPt pp,.map (some bm)] 93,mapF bm .i64 q.f,sl p c 44 1 xs.length (idC xs),sl (some ⟨q.g,0,none⟩) q.c 44 1 q.k (idC (xs.take q.k)),R])
  (fun q=>xs.length-q.k) (fun q=>q.k≤xs.length∧q.M.length+unk q.f N≤unk f N∧Kn (rls (Es++q.M)) q.f) ⟨[],f,0,b13,xs.length⟩ ⟨av _,by simp,by rw[aj];exact hk⟩ ⟨rfl,rfl,rfl,rfl,rfl,trivial⟩ ?_ ?_
 ·rw[aj];exact uI
 rintro⟨M,f',k,g,c2⟩⟨hle,hM,hkn⟩;simp only at hle hM hkn ⊢;have hEM:(Es++M).length=Es.length+M.length:=aa;refine gP (p:=bR s most (Es++M)) uK (fun _ h=>dP h) ?_;rintro⟨hw2, -, -, -⟩;refine gg6 ?_;refine bE O (fun h=>?_) (fun h=>?_)
 ·have hlt:k<xs.length:=oO;obtain⟨x,hxi⟩:∃x,xs[k]?=some x:=⟨_,ag hlt⟩;have hxm:=ak hxi
  have hxs:x=0∨Sig (rls (Es++M)) x:=by
   rcases hx x hxm with h| h
   ·exact .inl h
   right;rw[dB]at hw2 ⊢;exact h.ext _ hw hw2
  refine gP (p:=sl p c 44 1 xs.length (idC xs)) uK (fun _ h=>eF h oO) ?_;rintro⟨gx,rfl⟩;have f0:=eQ hxi (0+((k:Nat):Int).toNat) oO;have f1:=eQ hxi (((k:Nat):Int).toNat) oO;refine gg15 ?_;refine uX (qTg (s:=s) (tb:=tb) (most:=most) (Es:=Es++M) (f:=f') (m:=m) (pp:=pp) (bm:=bm) (N:=N) hE hB hxs (hxN x hxm) oO oO hkn) O ?_;rintro _ _⟨M2,f2,rfl,hM2,hkn2,rfl⟩;simp only[uV,uW];rw[ah]at hkn2 ⊢;refine gg20 ?_;refine uU ?_;refine aU (hE.t O) (hE.t O) O O O (fun b31=>?_);refine uU ?_;apply bU (hE.t O) (hE.t O) O O O
  ·exact uK
  ·exact uK
  ·rfl
  ·rfl
  ·omega
  ·omega
  ·(unfold maxLen;omega)
  intro g32 c32 n32 x32 hn32 hx32;refine gg8 ?_;obtain rfl:x32=idC (xs.take (k+1)):=by rw[hx32,ed,hxi,jD];rfl
  subst hn32;refine bS (ι:=AlS) (j:=⟨M++M2,f2,k+1,g32,c32⟩) ⟨by simp only;omega,by simp only[aa];omega,hkn2⟩ (by simp only;omega) ⟨rfl,rfl,rfl,rfl,bg some (bW (by simp only;omega)),trivial⟩ ?_;exact uI
 obtain rfl:k=xs.length:=by omega
 rw[oU];refine gg13 ?_;exact uZ O (.tmp O (.tmp O .nil)) ⟨M,f',xs,g,c2,O,O,⟨O,hM,hkn⟩,O⟩
def SgL (L:List Rl)(N:Nat)(l:List (List UInt8×Int)):Prop:=∀p∈l,0≤p.2→p.2≤(L.length:Nat)→p.2.toNat≤N∧(p.2.toNat=0∨Sig L p.2.toNat)
def qQu (hE:Seat E)(hB:Base E.w0){N:Nat}{l:List (List UInt8×Int)}{a:Option Addr}{ca:Nat}{q:HP}(hq:Rdb E.w0 a (nlC l) q)(hn:l.length≤1000)(hl:SgL (rls Es) N l)(hN:N≤Es.length)(hroom:Es.length+256+unk f N≤most)(hk:Kn (rls Es) f):
  Ct E 9 [uPt m,.slice a l.length ca] [cells pp [uPt s,uPt tb] 97,tabP tb s (rls Es),bR s most Es,cells m [uPt pp,.map (some bm)] 93,mapF bm .i64 f,q]
   (fun v Q=>(∃e,SgE Es.length l e∧v= .tuple #[.slice none 0 0,.iface 58 (.int .i64 e)]∧Q=[cells pp [uPt s,uPt tb] 97,tabP tb s (rls Es),bR s most Es,cells m [uPt pp,.map (some bm)] 93,mapF bm .i64 f,q])∨
    ∃(M:List Ent)(f':Int→Option Value)(g c:Nat)(B:List UInt8),SgO Es.length l∧v= .tuple #[.slice (some ⟨g,0,none⟩) B.length c,.nilIface]∧B=encB (rls (Es++M)) (dD (rls (Es++M)) (rawN l) []) (nmY l (rawN l))∧M.length+unk f' N≤unk f N∧Kn (rls (Es++M)) f'∧Q=[cells pp [uPt s,uPt tb] 97,tabP tb s (rls (Es++M)),bR s most (Es++M),cells m [uPt pp,.map (some bm)] 93,mapF bm .i64 f',q,sl (some ⟨g,0,none⟩) c 5 1 B.length (byC B)]):=by
 have hrl:(rawN l).length=l.length:=gz _;refine ct_postW (qQt (P:=fun M f' ys=>ys=rawN l∧M.length+unk f' N≤unk f N∧Kn (rls (Es++M)) f') (s:=s) (tb:=tb) (most:=most) (Es:=Es) (f:=f) (m:=m) (pp:=pp) (bm:=bm) hE hq hn (fun ho p c=>?_) (fun M f' ys ho hyl hP y hy=>?_)) (fun v Q h=>?_)
 ·have hall:∀x∈rawN l,x≤N∧(x=0∨Sig (rls Es) x):=fun x hx=>by
   obtain⟨p,hp,rfl⟩:=jg.1 hx;have:=ho.2.2 p hp;exact hl p hp this.1 (by rw[bQ];exact this.2)
  exact ct_AllS hE hB hrl (fun x hx=>(hall x hx).2) (fun x hx=>(hall x hx).1) hN hn hroom hk
 ·obtain⟨rfl,_,_⟩:=hP;obtain⟨p,hp,rfl⟩:=jg.1 hy;have:=ho.2.2 p hp;rw[aa];omega
 rcases h with h|⟨M,f',ys,g,c,B,h1,h2,h3,h4,⟨rfl,h5,h6⟩,h7⟩
 ·exact .inl h
 exact .inr ⟨M,f',g,c,B,h1,h2,h3,h5,h6,h7⟩
end
section
variable {G L:List Rl}{Z:List Nat}
def zat (Z:List Nat)(j:Nat):Nat:=Z.getD j 0
def DcI.zero (h:DcI G L G.length Z):zat Z 0=0:=by unfold zat;rw[iq,h.2.1];rfl
def DcI.iso (h:DcI G L G.length Z){j:Nat}(h1:1≤j)(h2:j≤G.length):Iso G L j (zat Z j):=by
 obtain⟨z,hz,iz⟩:=h.2.2 j h1 h2;unfold zat;rw[iq,hz];exact iz
def DcI.inj (hw:Wf G)(h:DcI G L G.length Z){i j:Nat}(hi:i≤G.length)(hj:j≤G.length)(e:zat Z i=zat Z j):i=j:=by
 rcases fe i with rfl|hi1<;>rcases fe j with rfl|hj1
 ·rfl
 ·have:=(h.iso hj1 hj).pos.2;rw[h.zero]at e;omega
 ·have:=(h.iso hi1 hi).pos.2;rw[h.zero]at e;omega
 have h1:=h.iso hi1 hi;have h2:=h.iso hj1 hj;rw[←e]at h2;exact h1.fn' hw h2
def DcI.rule (hw:Wf G)(hL:Wf L)(h:DcI G L G.length Z){n:Nat}{r:Rl}(hr:G[n]?=some r):∃m r',zat Z (n+1)=m+1∧L[m]?=some r'∧kids r'=(kids r).map (zat Z)∧∀V:List Nat,(∀k∈kids r,numb V (zat Z k)=k)→iC V r'=r:=by
 have hn:=(ae.1 hr).1;have hk:=iG (hw.ok n r hr);have hi:=h.iso (j:=n+1) oO oO;generalize hx:zat Z (n+1)=x at hi;generalize hn1:n+1=y at hi;cases hi with
 | @letter a m b h1 h2=>
  obtain rfl:n=a:=by omega
  rw[h1]at hr
  cases hr
  exact⟨m,_,O,h2,O,fun V _=>O⟩
 | @pair a m p q p' q' h1 h2 i1 i2=>
  obtain rfl:n=a:=by omega
  rw[h1]at hr
  cases hr
  have k1:=hk p (by simp[kids])
  have k2:=hk q (by simp[kids])
  have e1:p'=zat Z p:=i1.fn hL (h.iso k1.1 oO)
  have e2:q'=zat Z q:=i2.fn hL (h.iso k2.1 oO)
  subst e1 e2
  exact⟨m,_,O,h2,O,fun V hV=>by rw[iC,hV p (by simp[kids]),hV q (by simp[kids])]⟩
 | @power a m p p' k h1 h2 i1=>
  obtain rfl:n=a:=by omega
  rw[h1]at hr
  cases hr
  have k1:=hk p (by simp[kids])
  have e1:p'=zat Z p:=i1.fn hL (h.iso k1.1 oO)
  subst e1
  exact⟨m,_,O,h2,O,fun V hV=>by rw[iC,hV p (by simp[kids])]⟩
def DcI.mem (hw:Wf G)(h:DcI G L G.length Z){j:Nat}{acc:List Nat}(hj:j≤G.length)(ha:∀y∈acc,y≤G.length):zat Z j∈acc.map (zat Z)↔j∈acc:=by
 constructor
 ·intro hm;obtain⟨y,hy,e⟩:=jg.1 hm;have:=h.inj hw (ha y hy) hj e;subst this;exact hy
 exact fun hm=>jg.2 ⟨j,hm,O⟩
def DcI.visit (hw:Wf G)(hL:Wf L)(h:DcI G L G.length Z):∀(n:Nat)(acc:List Nat),n≤G.length→(∀y∈acc,y≤G.length)→visit L (zat Z n) (acc.map (zat Z))=(visit G n acc).map (zat Z):=by
 intro n;induction n using Nat.strongRecOn with
 |_ n ih=>
  intro acc hn ha
  rcases fe n with rfl|hpos
  ·rw[h.zero,jW,jW]
  obtain⟨n,rfl⟩:∃k,n=k+1:=⟨n-1,oO⟩
  by_cases hm:n+1∈acc
  ·rw[kJ hm,kJ ((h.mem hw hn ha).2 hm)]
  obtain⟨r,hr⟩:∃r,G[n]?=some r:=⟨_,ag oO⟩
  obtain⟨m,r',e1,e2,e3,_⟩:=h.rule hw hL hr
  have hk:=iG (hw.ok n r hr)
  have hm2:m+1∉acc.map (zat Z):=by rw[←e1];exact fun hh=>hm ((h.mem hw hn ha).1 hh)
  rw[e1,gU hL e2 hm2,gU hw hr hm,e3]
  have key:∀(ks acc:List Nat),(∀k∈ks,k<n+1)→(∀y∈acc,y≤G.length)→dD L (ks.map (zat Z)) (acc.map (zat Z))=(dD G ks acc).map (zat Z):=by
   intro ks;induction ks with
   |nil=>intro acc _ _;rfl
   |cons k ks ihk=>
    intro acc hks hacc
    have hkn:=hks k (by simp)
    rw[jq,fP,fP,ih k hkn acc oO hacc]
    refine ihk _ (fun x hx=>hks x (by simp[hx])) (fun y hy=>?_)
    rcases(qDz hw k acc).1 y hy with h| h
    ·exact hacc y h
    exact h.2.2
  rw[key (kids r) acc (fun k hk'=>(hk k hk').2) ha,kg,jq,oG,e1]
def DcI.visitsL (hw:Wf G)(hL:Wf L)(h:DcI G L G.length Z):∀(xs acc:List Nat),(∀x∈xs,x≤G.length)→(∀y∈acc,y≤G.length)→dD L (xs.map (zat Z)) (acc.map (zat Z))=(dD G xs acc).map (zat Z)
 |[],acc,_,_=>rfl
 |x::xs,acc,hx,ha=>by
  rw[jq,fP,fP,h.visit hw hL x acc (hx x (by simp)) ha];refine h.visitsL hw hL xs _ (fun y hy=>hx y (by simp[hy])) (fun y hy=>?_);rcases(qDz hw x acc).1 y hy with h| h
  ·exact ha y h
  exact h.2.2
def qPl {W:List Nat}{j:Nat}:∀{V:List Nat},(∀y∈V,∀z∈V,zat W y=zat W z→y=z)→j∈V→numb (V.map (zat W)) (zat W j)=numb V j
 |[],_,hj=>by simp at hj
 |x::V,hi,hj=>by
  rw[jq,numb,numb];by_cases e:x=j
  ·rw[if_pos (by rw[e]),if_pos e]
  rw[if_neg (fun h=>e (hi x (by simp) j hj h)),if_neg e]
  have hj2:j∈V:=by
   rcases ku.1 hj with h| h
   ·exact absurd h.symm e
   exact h
  rw[qPl (fun y hy z hz=>hi y (by simp[hy]) z (by simp[hz])) hj2]
def qSc {n j:Nat}(h1:1≤j)(h2:j≤n):numb ((List.range n).map (· +1)) j=j:=by
 have hm:j∈(List.range n).map (· +1):=jg.2 ⟨j-1,qp.2 oO,oO⟩;have h:=tJ hm;have hp:=rU hm;have hl:=qD ((List.range n).map (· +1)) j;simp only[gz,List.length_range]at hl;rw[bi,lc oO]at h;simp at h;omega
def qQj {A:List (List UInt8×Nat)}(hP:Prop50 G A)(hL:Wf L)(h:DcI G L G.length Z):encB L (dD L (A.map fun p=>zat Z p.2) []) (A.map fun p=>(p.1,zat Z p.2))=encA G A:=by
 have hw:=hP.wf
 have hA:∀x∈A.map (·.2),x≤G.length:=fun x hx=>by
  obtain⟨p,hp,rfl⟩:=jg.1 hx;exact(hP.names p hp).2
 have hv:=h.visitsL hw hL (A.map (·.2)) [] hA (by simp);rw[lw,oG,hP.vis]at hv;have hv2:dD L (A.map fun p=>zat Z p.2) []=((List.range G.length).map (· +1)).map (zat Z):=hv;rw[hv2];obtain⟨V,hV⟩:∃V,V=(List.range G.length).map (· +1):=⟨_,rfl⟩;rw[←hV]
 have hVm:∀y∈V,1≤y∧y≤G.length:=fun y hy=>by
  rw[hV]at hy;obtain⟨i,hi,rfl⟩:=jg.1 hy;have:=qp.1 hi;omega
 have hin:∀j,1≤j→j≤G.length→j∈V:=fun j h1 h2=>by rw[hV];exact jg.2 ⟨j-1,qp.2 oO,oO⟩
 have hinj:∀y∈V,∀z∈V,zat Z y=zat Z z→y=z:=fun y hy z hz e=>h.inj hw (hVm y hy).2 (hVm z hz).2 e
 have hnb:∀j,1≤j→j≤G.length→numb (V.map (zat Z)) (zat Z j)=j:=fun j h1 h2=>by
  rw[qPl hinj (hin j h1 h2),hV,qSc h1 h2]
 have hx:∀x∈V.map (zat Z),1≤x∧x≤L.length:=fun x hx=>by
  obtain⟨y,hy,rfl⟩:=jg.1 hx;have hi:=h.iso (hVm y hy).1 (hVm y hy).2;exact⟨hi.pos.2,hi.le.2⟩
 rw[qJz hx];congr 1
 ·apply lm;intro i;rcases dw i G.length with hi|hi
  ·obtain⟨r,hr⟩:∃r,G[i]?=some r:=⟨_,ag hi⟩;obtain⟨m,r',e1,e2,e3,e4⟩:=h.rule hw hL hr
   have hVi:(V.map (zat Z))[i]?=some (m+1):=by
    rw[hV,bi,bi,lc hi,←e1];rfl
   rw[zA hVi e2,hr,e4];intro k hk;have:=iG (hw.ok i r hr) k hk;exact hnb k this.1 oO
  have hgl:(gram L (V.map (zat Z))).length=G.length:=by rw[rP,gz,hV,gz,List.length_range]
  rw[fq oO,fq oO]
 rw[lw];conv=>rhs;rw[←List.map_id A]
 refine ow fun p hp=>?_
 have h2:=(hP.names p hp).2;show(p.1,numb (V.map (zat Z)) (zat Z p.2))=p;rcases fe p.2 with h0|h0
 ·rw[h0,h.zero,gZ.2 (fun hm=>by have:=(hx 0 hm).1;omega)];exact Prod.ext O h0.symm
 rw[hnb p.2 h0 h2]
end
section
variable {G L:List Rl}{Z:List Nat}
def zmap (Z:List Nat):Rl→Rl
 | .letter b=> .letter b
 | .pair a b=> .pair (zat Z a) (zat Z b)
 | .power a t=> .power (zat Z a) t
def InB (G:List Rl)(x:Nat):Prop:=1≤x∧x≤G.length
def DcI.get2 (hw:Wf G)(hL:Wf L)(h:DcI G L G.length Z){n:Nat}{r:Rl}(hr:G[n]?=some r):∃m,zat Z (n+1)=m+1∧L[m]?=some (zmap Z r):=by
 have hn:=(ae.1 hr).1;have hk:=iG (hw.ok n r hr);have hi:=h.iso (j:=n+1) oO oO;generalize hx:zat Z (n+1)=x at hi;generalize hn1:n+1=y at hi;cases hi with
 | @letter a m b h1 h2=>
  obtain rfl:n=a:=by omega
  rw[h1]at hr
  cases hr
  exact⟨m,O,h2⟩
 | @pair a m p q p' q' h1 h2 i1 i2=>
  obtain rfl:n=a:=by omega
  rw[h1]at hr
  cases hr
  have k1:=hk p (by simp[kids])
  have k2:=hk q (by simp[kids])
  have e1:p'=zat Z p:=i1.fn hL (h.iso k1.1 oO)
  have e2:q'=zat Z q:=i2.fn hL (h.iso k2.1 oO)
  subst e1 e2
  exact⟨m,O,h2⟩
 | @power a m p p' k h1 h2 i1=>
  obtain rfl:n=a:=by omega
  rw[h1]at hr
  cases hr
  have k1:=hk p (by simp[kids])
  have e1:p'=zat Z p:=i1.fn hL (h.iso k1.1 oO)
  subst e1
  exact⟨m,O,h2⟩
structure Twi (G L:List Rl)(Z:List Nat):Prop where
 wf:Wf G
 gwf:Wf L
 dc:DcI G L G.length Z
def Twi.iso (h:Twi G L Z){x:Nat}(hx:InB G x):Iso G L x (zat Z x):=h.dc.iso hx.1 hx.2
def Twi.lv (h:Twi G L Z){x:Nat}(hx:InB G x):Eg.lvl L (zat Z x)=Eg.lvl G x:=((h.iso hx).lvl h.wf h.gwf).symm
def Twi.ky (h:Twi G L Z){x:Nat}(hx:InB G x):Eg.key L (zat Z x)=Eg.key G x:=((h.iso hx).key h.wf h.gwf).symm
def Twi.inj (h:Twi G L Z){x y:Nat}(hx:InB G x)(hy:InB G y)(e:zat Z x=zat Z y):x=y:=h.dc.inj h.wf hx.2 hy.2 e
def Twi.mem (h:Twi G L Z){x:Nat}(hx:InB G x):∃n r,x=n+1∧G[n]?=some r∧∀k∈kids r,InB G k:=by
 obtain⟨n,rfl⟩:∃n,x=n+1:=⟨x-1,by have:=hx.1;omega⟩;obtain⟨r,hr⟩:∃r,G[n]?=some r:=⟨_,ag (by have:=hx.2;omega)⟩;have hkl:=iG (h.wf.ok _ _ hr);exact⟨n,r,O,hr,fun k hk=>⟨(hkl k hk).1,by have:=(hkl k hk).2;have:=hx.2;omega⟩⟩
def Twi.get (h:Twi G L Z){n:Nat}{r:Rl}(hr:G[n]?=some r):∃m,zat Z (n+1)=m+1∧L[m]?=some (zmap Z r):=h.dc.get2 h.wf h.gwf hr
def Twi.exps (h:Twi G L Z)(k:Nat):∀x,InB G x→(∀e∈expd G k x,InB G e)∧expd L k (zat Z x)=(expd G k x).map (zat Z):=by
 intro x;induction x using Nat.strongRecOn with
 |ind x ih=>
  intro hx
  obtain⟨n,r,rfl,hr,hk⟩:=h.mem hx
  obtain⟨i,e,hg⟩:=h.get hr
  have hkl:=iG (h.wf.ok _ _ hr)
  have hl:=h.lv hx
  rw[e]at hl ⊢
  by_cases hlow:Eg.lvl G (n+1)≤(k:Nat)
  ·rw[eO oO hlow,eO oO (by rw[hl];exact hlow)]
   exact⟨fun z hz=>by rw[bf.1 hz];exact hx,by simp[e]⟩
  have h1:(k:Int)<Eg.lvl G (n+1):=oO
  have h2:(k:Int)<Eg.lvl L (i+1):=oO
  cases r with
  |letter b=>have:=(fU hr).2;omega
  |pair a b=>
   obtain⟨a1,a2⟩:=ih a (hkl a (by simp[kids])).2 (hk a (by simp[kids]))
   obtain⟨b1,b2⟩:=ih b (hkl b (by simp[kids])).2 (hk b (by simp[kids]))
   rw[fZ h.wf hr h1,fZ h.gwf hg h2,a2,b2,kg]
   exact⟨fun z hz=>(bu.1 hz).elim (a1 z) (b1 z),O⟩
  |power a t=>
   obtain⟨a1,a2⟩:=ih a (hkl a (by simp[kids])).2 (hk a (by simp[kids]))
   rw[gB h.wf hr h1,gB h.gwf hg h2,a2,qPg]
   exact⟨fun z hz=>a1 z (qPh hz),O⟩
def Twi.pg (h:Twi G L Z){c:Nat}{X U:List Nat}(hp:Pg G c X U):(∀x∈X,InB G x)→(∀x∈U,InB G x)→Pg L c (X.map (zat Z)) (U.map (zat Z)):=by
 induction hp with
 |nil=>intro _ _;exact .nil
 | @one x r o h1 h2 ih=>
  intro hx ho
  simp only[jq]
  refine .one (fun y hy=>?_) (ih (fun z hz=>hx z (by simp[hz])) (fun z hz=>ho z (by simp[hz])))
  cases r with
  |nil=>simp at hy
  |cons y' r=>
   simp at hy
   subst hy
   rw[h.ky (hx x (by simp)),h.ky (hx y' (by simp))]
   exact h1 y' O
 | @two x y j r o h1 h2 h3 ih=>
  intro hx ho
  simp only[jq]
  obtain⟨i,e,hg⟩:=h.get h2
  rw[e]
  exact .two (by rw[h.ky (hx x (by simp)),h.ky (hx y (by simp))];exact h1) hg (ih (fun z hz=>hx z (by simp[hz])) (fun z hz=>ho z (by simp[hz])))
def Twi.rg (h:Twi G L Z){X U:List Nat}(hp:Rg G X U):(∀x∈X,InB G x)→(∀x∈U,InB G x)→Rg L (X.map (zat Z)) (U.map (zat Z)):=by
 induction hp with
 |nil=>intro _ _;exact .nil
 | @run x t id r o h1 h2 h3 h4 ih=>
  intro hx ho
  obtain⟨t,rfl⟩:∃s,t=s+1:=⟨t-1,oO⟩
  have hxV:=hx x (by simp[bn])
  simp only[jq,kg,yf]
  refine .run h1 ?_ (fun e=>h3 ?_) (ih (fun z hz=>hx z (by simp[hz])) (fun z hz=>ho z (by simp[hz])))
  ·rcases h2 with⟨e1,rfl⟩|⟨e1,i,rfl,hi⟩
   ·exact .inl ⟨e1,O⟩
   obtain⟨i',e',hg⟩:=h.get hi
   rw[e']
   exact .inr ⟨e1,i',O,hg⟩
  cases r with
  |nil=>simp at e
  |cons y r=>
   simp at e ⊢
   exact h.inj (hx y (by simp)) hxV e
def Twi.inv (h:Twi G L Z){k:Nat}{X:List Nat}(hi:Inv G k X)(hx:∀x∈X,InB G x):Inv L k (X.map (zat Z)):=by
 refine⟨h.gwf,fun z hz=>?_,fun i z h1 h2=>?_,fun i z w h1 h2 h3=>?_⟩
 ·obtain⟨x,hxx,rfl⟩:=jg.1 hz;have:=hi.ok x hxx;rw[h.lv (hx x hxx)];exact⟨(h.iso (hx x hxx)).pos.2,(h.iso (hx x hxx)).le.2,this.2.2.1,this.2.2.2⟩
 ·obtain⟨x,e1,rfl⟩:=qC h1;obtain⟨y,e2,e3⟩:=qC h2;obtain rfl:=h.inj (hx x (ak e1)) (hx y (ak e2)) e3;rw[h.lv (hx x (ak e1))];exact hi.same i x e1 e2
 obtain⟨x,e1,rfl⟩:=qC h1;obtain⟨y,e2,rfl⟩:=qC h2;have hx1:=hx x (ak e1);have hy1:=hx y (ak e2);have:=hi.diff i x y e1 e2 (fun e=>h3 (by rw[e]));unfold aft at this ⊢;rw[h.lv hx1,h.lv hy1,h.ky hx1,h.ky hy1];exact this
def Twi.sig (h:Twi G L Z){x:Nat}(hx:InB G x)(hs:Sig G x):Sig L (zat Z x):=by
 refine⟨(h.iso hx).pos.2,(h.iso hx).le.2,by rw[h.lv hx];exact hs.lv,fun k hk=>?_,fun k hk=>?_⟩
 ·rw[(h.exps (k-1) x hx).2];exact h.inv (hs.inv k hk) (h.exps (k-1) x hx).1
 rw[(h.exps (k-1) x hx).2,(h.exps k x hx).2];have:=hs.step k hk;unfold Sq at this ⊢;split
 ·rename_i ho;rw[if_pos ho]at this;exact h.rg this (h.exps (k-1) x hx).1 (h.exps k x hx).1
 rename_i ho;rw[if_neg ho]at this;exact h.pg this (h.exps (k-1) x hx).1 (h.exps k x hx).1
def Prop50.sgl {A:List (List UInt8×Nat)}(hP:Prop50 G A)(hL:Wf L)(h:DcI G L G.length Z):SgL L L.length (nmI (A.map fun p=>(p.1,zat Z p.2))):=by
 intro p hp h1 h2;obtain⟨p',hp',rfl⟩:=jg.1 hp;obtain⟨p'',hp'',rfl⟩:=jg.1 hp';simp only[mf]at h1 h2 ⊢;refine⟨oO,?_⟩;have hn:=(hP.names p'' hp'').2;rcases fe p''.2 with e| e
 ·exact .inl (by rw[e];exact h.zero)
 exact .inr ((Twi.mk hP.wf hL h).sig ⟨e,hn⟩ (hP.sig _ e hn).1)
def Prop50.sgo {A:List (List UInt8×Nat)}(hP:Prop50 G A)(hL:Wf L)(h:DcI G L G.length Z):SgO L.length (nmI (A.map fun p=>(p.1,zat Z p.2))):=by
 refine⟨fun p hp=>?_,fun i p q _ h1 h2=>?_,fun p hp=>?_⟩
 ·obtain⟨p',hp',rfl⟩:=jg.1 hp;obtain⟨p'',hp'',rfl⟩:=jg.1 hp';exact(hP.names p'' hp'').1
 ·unfold nmI at h1 h2;rw[lw,bi]at h1 h2;cases e1:A[i]? with
  |none=>rw[e1]at h1;cases h1
  |some x=>
   cases e2:A[i+1]? with
   |none=>rw[e2]at h2;cases h2
   |some y=>
    rw[e1]at h1
    rw[e2]at h2
    cases h1
    cases h2
    exact hP.ord i x y e1 e2
 obtain⟨p',hp',rfl⟩:=jg.1 hp;obtain⟨p'',hp'',rfl⟩:=jg.1 hp';refine⟨oF _,?_⟩;have hn:=(hP.names p'' hp'').2
 have:zat Z p''.2≤L.length:=by
  rcases fe p''.2 with e| e
  ·rw[e,h.zero];exact av _
  exact(h.iso e hn).le.2
 exact Int.ofNat_le.2 this
def DcI.ext (M:List Rl)(h:DcI G L G.length Z):DcI G (L++M) G.length Z:=⟨h.1,h.2.1,fun j h1 h2=>by
 obtain⟨z,hz,hi⟩:=h.2.2 j h1 h2;exact⟨z,hz,hi.ext M⟩⟩
def nmK_zat {A:List (List UInt8×Nat)}:nmK Z A A.length=A.map fun p=>(p.1,zat Z p.2):=nmK_all Z A
def rawN_zat {A:List (List UInt8×Nat)}:rawN (nmI (A.map fun p=>(p.1,zat Z p.2)))=A.map fun p=>zat Z p.2:=by
 unfold rawN nmI;rw[lw,lw];rfl
def qVh {A:List (List UInt8×Nat)}:nmY (nmI (A.map fun p=>(p.1,zat Z p.2))) (A.map fun p=>zat Z p.2)=A.map fun p=>(p.1,zat Z p.2):=by
 unfold nmY nmI;rw[lw,lw];induction A with
 |nil=>rfl
 |cons p A ih=>simp only[jq,List.zip_cons_cons,ih];rfl
end
