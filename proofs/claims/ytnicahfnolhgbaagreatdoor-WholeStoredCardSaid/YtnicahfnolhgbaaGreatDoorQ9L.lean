import Derived.Test.YtnicahfnolhgbaaGreatDoorQ87
set_option linter.all false
set_option maxHeartbeats 1000000
namespace Go.Proofs.YtnicahfnolhgbaaGreatDoor
open Go Go.RowKit Sl Eg
set_option maxRecDepth 10000
variable {E:Bp}{Es:List Bj}{pp tb s most m bm:Nat}{f:Int->Option Value}
def qFr (hE:BP E)(hB:Ca E.w0){U l a c q}(hq:Cv E.w0 a (FY l) q)(hn:l.length<=1000)
  (hl:∀p∈l,0<=p.2->p.2<=Es.length->p.2.toNat∈U) (hU:∀u∈U,Ev (BO Es) u/\Eg.len (BO Es) u<=400) (hG:Es.length+DR (BO Es) f U<=most) (hk:Kn (BO Es) f):
  Ct E 35 [uPt m,.slice a l.length c] [cells pp [uPt s,uPt tb] 122,BV tb s (BO Es),bR s most Es,cells m [uPt pp,.map (some bm)] 118,Bn bm .i64 f,q]
   (fun v Q=>(∃e,Uk Es.length l e/\v= .tuple #[.pointer none,.slice none 0 0,.iface 78 (BL e)]/\Q=[cells pp [uPt s,uPt tb] 122,BV tb s (BO Es),bR s most Es,cells m [uPt pp,.map (some bm)] 118,Bn bm .i64 f,q])\/
    ∃M f' ys p' c',TJ Es.length l/\v= .tuple #[uPt s,.slice p' l.length c',.nilIface]/\M.length+DR (BO Es) f' U<=DR (BO Es) f U/\(∀z,Kf f z=true->Kf f' z=true)/\Kn (BO (Es++M)) f'/\ys.length=l.length/\EJ (BO (Es++M)) (Fp l) ys/\Q=[cells pp [uPt s,uPt tb] 122,BV tb s (BO (Es++M)),bR s most (Es++M),cells m [uPt pp,.map (some bm)] 118,Bn bm .i64 f',q,sl p' c' 41 1 l.length (Bg ys)]):=by
 refine bO (hE.fn Tryz.func35) O O O (fun R=>?_);simp only[dS,uV,uW];refine Bc ?_;refine BH (qLk (m:=m) (pp:=pp) (bm:=bm) hE) O ?_;refine BH (kC hE) O ?_;refine Df ?_;refine dX (fun k:Nat=>[(0,uPt m),(1,.slice a l.length c),(7,uPt s),(22,.slice a l.length c),(23,BK l.length),(24,BK k)]) (fun k=>[cells pp [uPt s,uPt tb] 122,BV tb s (BO Es),bR s most Es,cells m [uPt pp,.map (some bm)] 118,Bn bm .i64 f,q,R]) (fun k=>l.length-k) (fun k=>k<=l.length/\∀j p,j<k->l[j]?=some p->Ff p.1) 0 ⟨av _,fun j p h=>by omega⟩ BC uI ?_;rintro k⟨hO,hC⟩;refine CB ?_;refine bE O (fun h=>?_) (fun h=>?_)
 ·have hH:k<l.length:=oO;obtain⟨p,hp⟩:∃p,l[k]?=some p:=⟨_,ag hH⟩;have hJ:=ak hp;obtain⟨g,o,rfl,hP⟩:=hq (Vp oO);have fm:=YQ hp;refine Bi ?_;apply aA
  ·(first |(apply bV rfl (hE.t rfl) rfl;(repeat(first |rfl|assumption|constructor));done)|(apply dL rfl (hE.t rfl) rfl (by assumption);(focus((repeat constructor);done));(focus exact fm);(focus rfl);(focus omega)))
  ·rfl
  refine uU (dA (hE.t O) (fun b9=>?_));refine Bi ?_;refine BH (qLs (bs:=p.1) hE) O ?_;refine CG ?_;refine gJ O (fun hv=>?_) (fun hv=>?_)
  ·refine CU ?_;exact uZ O (.tmp O (.tmp O (.tmp O .nil))) (.inl ⟨13,.inl ⟨O,fun hN=>hv (hN p hJ)⟩,O,O⟩)
  refine Bi ?_;refine bS (ι:=Nat) (j:=k+1) ⟨oO,fun j p' hj hF=>?_⟩ oO ⟨O,O,O,O,O,au some (bW oO),trivial⟩ uI;rcases fw j k with h'|h'
  ·exact hC j p' h' hF
  obtain rfl:j=k:=by omega
  rw[hp]at hF;cases hF
  exact hv
 have hA:Hl l:=fun p hp=>by
  obtain⟨j,hj⟩:=mf hp;exact hC j p (by have:=(ae.1 hj).1;omega) hj
 clear hC;refine CU ?_;refine dX (fun k:Nat=>[(0,uPt m),(1,.slice a l.length c),(7,uPt s),(35,BK l.length),(36,BK k)]) (fun k=>[cells pp [uPt s,uPt tb] 122,BV tb s (BO Es),bR s most Es,cells m [uPt pp,.map (some bm)] 118,Bn bm .i64 f,q,R]) (fun k=>l.length-k) (fun k=>k<=l.length/\Gb l k) 0 ⟨av _,fun j p q h=>by omega⟩ BC uI ?_;rintro k⟨hO,hD⟩;refine CB ?_;refine bE O (fun h=>?_) (fun h=>?_)
 ·have hH:k<l.length:=oO;obtain⟨p,hp⟩:∃p,l[k]?=some p:=⟨_,ag hH⟩;obtain⟨g,o,rfl,hP⟩:=hq (Vp oO);have f0:=(Ty hp).1;refine CK ?_;refine dV 41 O (fun h0=>?_) (fun h0=>?_)
  ·obtain⟨k,rfl⟩:∃k',k=k'+1:=⟨k-1,oO⟩;obtain⟨p0,hK⟩:∃p,l[k]?=some p:=BG;have f1:=(Ty hK).1;refine DL ?_;refine uB (Ml O O) ?_;refine CG ?_;refine CW 54 (.bool (!Op.bytesLess p0.1 p.1)) O (au Value.bool qYv) ?_;refine sI O (fun hv=>?_) (fun hv=>?_)
   ·refine CU ?_;apply cK
    ·rfl
    ·(apply Rs.tmp rfl;apply Rs.tmp rfl;apply Rs.tmp rfl;exact Rs.nil)
    ·refine .inl ⟨4,.inr (.inl ⟨O,hA,fun hN=>?_⟩),O,O⟩;have:=hN k p0 p oO hK hp;rw[this]at hv;cases hv
    exact uI
   refine Bi ?_;refine bS (ι:=Nat) (j:=k+1+1) ⟨oO,fun j x y hj hx hy=>?_⟩ oO ⟨O,O,O,O,au some (bW oO),trivial⟩ uI;rcases fw (j+1) (k+1)with h'|h'
   ·exact hD j x y h' hx hy
   obtain rfl:j=k:=by omega
   rw[hK]at hx;rw[hp]at hy;cases hx
   cases hy
   simpa using hv
  obtain rfl:k=0:=by omega
  refine DL ?_;refine bS (ι:=Nat) (j:=1) ⟨oO,fun j x y hj hx hy=>by omega⟩ oO ⟨rfl,rfl,rfl,rfl,au some (bW oO),trivial⟩ uI
 obtain rfl:k=l.length:=by omega
 refine Bu ?_;refine uU (LA (hE.t O) (hE.t O) O oO (by(unfold maxLen;omega)) (fun hL us59 hR=>?_));refine Bq ?_;have hS:(Fp l).length=l.length:=jr _;refine dX (fun k:Nat=>[(0,uPt m),(7,uPt s),(11,.slice (BM hL) l.length l.length),(60,.slice a l.length c),(61,BK l.length),(62,BK k)]) (fun k=>[cells pp [uPt s,uPt tb] 122,BV tb s (BO Es),bR s most Es,cells m [uPt pp,.map (some bm)] 118,Bn bm .i64 f,q,sl (BM hL) l.length 41 1 l.length (Bg ((Fp l).take k)++us59.drop k),R]) (fun k=>l.length-k) (fun k=>k<=l.length/\∀j p,j<k->l[j]?=some p->0<=p.2/\p.2<=(Es.length:Nat)) 0 ⟨av _,fun j p h=>by omega⟩ BC uI ?_;rintro k⟨hO,hC⟩;refine CB ?_;refine bE O (fun h=>?_) (fun h=>?_)
 ·have hH:k<l.length:=oO;obtain⟨p,hp⟩:∃p,l[k]?=some p:=⟨_,ag hH⟩;have hJ:=ak hp;obtain⟨g,o,rfl,hP⟩:=hq (Vp oO);have fm:=YQ hp;refine Br ?_;apply aA
  ·(first |(apply bV rfl (hE.t rfl) rfl;(repeat(first |rfl|assumption|constructor));done)|(apply dL rfl (hE.t rfl) rfl (by assumption);(focus((repeat constructor);done));(focus exact fm);(focus rfl);(focus omega)))
  ·rfl
  refine uU (dA (hE.t O) (fun hT=>?_));refine CB ?_;refine uH ([cells hT [BN (p.1),BL p.2] 43]) ?_;refine Bz ?_;refine qXn 70 O (fun h1=>?_) (fun h1=>?_)
  ·refine uR 4 O O O O ?_;refine DL ?_;exact uZ O (.tmp O (.tmp O (.tmp O .nil))) (.inl ⟨1,.inr (.inr ⟨O,hA,hD,fun hI=>by have:=(hI p hJ).1;omega⟩),rfl,rfl⟩)
  refine uO 4 O O O (EC O) ?_;refine CL ?_;apply Wx 7 O O O oK O;refine uC (Rf hE) O ?_;rintro _ _⟨rfl,rfl⟩;simp only[uV,uW];refine uE ?_;refine Bz ?_;refine bE O (fun h2=>?_) (fun h2=>?_)
  ·refine CK ?_;exact uZ O (.tmp O (.tmp O (.tmp O .nil))) (.inl ⟨1,.inr (.inr ⟨O,hA,hD,fun hI=>by have:=(hI p hJ).2;omega⟩),rfl,rfl⟩)
  refine Bi ?_;refine BU 81 (BK (p.2.toNat)) O (bW oO) ?_;refine Bv ?_;refine BU 82 (.pointer (some ⟨hL,k,none⟩)) O BF ?_;refine Bz ?_;have hV:(Fp l)[k]?=some p.2.toNat:=by unfold Fp;rw[bn,hp];rfl
  simp only[bP];rw[qVc hV oO];refine Bz ?_;refine bS (ι:=Nat) (j:=k+1) ⟨oO,fun j p' hj hF=>?_⟩ oO ⟨O,O,O,O,O,au some (bW oO),trivial⟩ uI;rcases fw j k with h'|h'
  ·exact hC j p' h' hF
  obtain rfl:j=k:=by omega
  rw[hp]at hF;cases hF
  exact⟨oO,oO⟩
 obtain rfl:k=l.length:=by omega
 have hQ:Ug Es.length l:=fun p hp=>by
  obtain⟨j,hj⟩:=mf hp;exact hC j p (ae.1 hj).1 hj
 have hW:∀x∈Fp l,x∈U:=fun x hx=>by
  obtain⟨p,hp,rfl⟩:=jg.1 hx;have:=hQ p hp;exact hl p hp this.1 this.2
 have hv:Bg ((Fp l).take l.length)++us59.drop l.length=Bg (Fp l):=by
  rw[fe oO,yg oO,ax]
 rw[hv];refine Bu ?_;refine uX (Jg (s:=s) (tb:=tb) (most:=most) (f:=f) (m:=m) (pp:=pp) (bm:=bm) hE hB hS hW hU hn hG hk) O ?_;rintro _ _⟨M,f',ys,g',c',rfl,hM,hX,hY,hZ,ha,rfl⟩;simp only[uV,uW];refine Gp ?_;exact uZ O (.tmp O (.tmp O (.tmp O .nil))) (.inr ⟨M,f',ys,some ⟨g',0,none⟩,c',⟨hA,hD,hQ⟩,O,hM,hX,hY,hZ,ha,O⟩)
def qOt (hE:BP E){xs n}(h7:xs.length=n){a ca}(hx:∀x∈xs,x<=Es.length/\len (BO Es) x<=400) (hn:n<=1000):
  Ct E 36 [uPt s,.slice a n ca] [bR s most Es,sl a ca 41 1 n (Bg xs)]
   (fun v Q=>∃p c,v= .slice p (dD (BO Es) xs []).length c/\Q=[bR s most Es,sl a ca 41 1 n (Bg xs),sl p c 41 1 (dD (BO Es) xs []).length (Bg (dD (BO Es) xs []))]):=by
 refine eF (p:=bR s most Es) uK (fun _ h=>dR h) (fun hB=>?_);have h8:fJ=1048576:=rfl;have h9:=bQ Es;have hd:∀x∈xs,x<=(BO Es).length:=fun x h=>by have:=(hx x h).1;omega
 refine bO (hE.fn Tryz.func36) O O O (fun R=>?_);simp only[dS,uV,uW];refine CY ?_;refine uU (jS .i64 (fun hH=>?_));refine uU ?_;apply XD (kt:=41) (et:=4) hE.uu hE.uu O O O
 ·exact uK
 refine CP ?_;rw[OV];refine dX (fun q:ZG=>[(0,uPt s),(5,.slice q.p (q.acc).length q.c),(6,.slice q.ps (([]:List (Nat×Bool))).length q.cs),(7,.map (some hH)),(17,.slice a n ca),(18,BK n),(19,BK (q.k))]) (fun q=>[bR s most Es,sl a ca 41 1 n (Bg xs),Bn hH .i64 (Iy q.acc),sl q.p q.c 41 1 (q.acc).length (Bg (q.acc)),sl q.ps q.cs 171 2 (([]:List (Nat×Bool))).length (Ha (([]:List (Nat×Bool)))),R]) (fun q=>n-q.k) (fun q=>q.k<=n/\q.acc=dD (BO Es) (xs.take q.k) []) ⟨0,[],none,0,none,0⟩ ⟨av _,O⟩ BC ?_ ?_
 ·apply cZ (fU (t:=41) (sz:=1));apply cZ (fU (t:=171) (sz:=2));exact uI
 rintro⟨k,acc,p,c,ps,cs⟩⟨hk,hA⟩;simp only at hk hA ⊢;have gA:([]:List (Nat×Bool)).length=0:=rfl;refine CB ?_;refine bE O (fun h=>?_) (fun h=>?_)
 ·have he:k<xs.length:=oO;obtain⟨x,hL⟩:∃x,xs[k]?=some x:=⟨_,ag he⟩;have hg:=hx x (ak hL);have gE:=zBp hB.1 (show x<=(BO Es).length by omega) hg.2;have hh:xs.take (k+1)=xs.take k++[x]:=by rw[ed,hL];rfl
  have hX:dD (BO Es) (xs.take (k+1)) []=lG (BO Es) x acc:=by rw[hh,qKh,hA];rfl
  have hD:DU (BO Es) acc:=by rw[hA];exact DU.visits hB.1 (fun y hy=>hd y (mq hy))
  refine iO (p:=sl a ca 41 1 n (Bg xs)) uK (fun _ h=>eG h oO) ?_;rintro⟨gx,rfl⟩;have f0:=fT hL (0+((k:Nat):Int).toNat) oO;have f1:=fT hL (((k:Nat):Int).toNat) oO;refine CX ?_;refine uU (aU (hE.t O) (hE.t O) O O O (fun gO=>?_));refine uU (BJ (fun hi hl gR hm hM hN=>?_));refine Bz ?_;obtain rfl:hm=Ha [(x,false)]:=by rw[hN];rfl
  subst hM
  refine dX (fun q:Uh=>[(0,uPt s),(5,.slice q.p (q.acc).length q.c),(6,.slice q.ps (q.st).length q.cs),(7,.map (some hH)),(17,.slice (BM gx) n ca),(18,BK n),(19,BK k)]) (fun q=>[bR s most Es,sl (BM gx) ca 41 1 n (Bg xs),Bn hH .i64 (Iy q.acc),sl q.p q.c 41 1 (q.acc).length (Bg (q.acc)),sl q.ps q.cs 171 2 (q.st).length (Ha (q.st)),R]) (fun q=>vF (BO Es) q.st) (fun q=>FL (BO Es) q.st q.acc=dD (BO Es) (xs.take (k+1)) []/\Gu (BO Es) q.st/\vF (BO Es) q.st<=1601/\DU (BO Es) q.acc) ⟨[(x,false)],acc,p,c,some ⟨hi,0,none⟩,hl⟩ ⟨hX.symm,fun q hq=>by
   obtain rfl:=bg.1 hq;exact⟨BD,fun h=>by cases h⟩,by simp only[vF];omega,hD⟩ BC uI ?_
  clear hD hX hA;rintro⟨st,acc,p,c,ps,cs⟩⟨hC,hI,hY,hD⟩;simp only at hC hI hY hD ⊢;have gT:=hD.len;have ga:=XV (BO Es) st;refine Br ?_;refine bE O (fun h2=>?_) (fun h2=>?_)
  ·obtain⟨y,b,st,rfl⟩:∃y b st',st=(y,b)::st':=by
    cases st with
    |nil=>simp at h2
    |cons q st=>exact⟨q.1,q.2,st,rfl⟩
   have ho:=hI (y,b) BF;simp only at ho;have hO:((y,b)::st).length=st.length+1:=rfl;have hZ:=qVd (BO Es) y b st;obtain⟨f2,f3⟩:=PR (st:=st) (x:=y) (b:=b);refine iO (p:=sl ps cs 171 2 ((y,b)::st).length (Ha ((y,b)::st))) uK (fun _ h=>And.intro (eG h oO) (lX h).1) ?_;rintro⟨⟨gs,rfl⟩,hp⟩;refine Bc ?_;refine BU 35 _ O (SA (st:=st) hO) ?_;apply aA
   ·(first |(apply bV rfl (hE.t rfl) rfl;(repeat(first |rfl|assumption|constructor));done)|(apply dL rfl (hE.t rfl) rfl (by assumption);(focus((repeat constructor);done));(focus exact fm);(focus rfl);(focus omega)))
   ·rfl
   refine uU (dA (hE.t O) (fun gb=>?_));refine Bu ?_;refine uB (gF st.length O O (hE.t O) oO oO) ?_;refine CG ?_;refine fF (cO (p:=sl (BM gs) cs 171 2 ((y,b)::st).length (Ha ((y,b)::st))) (p':=sl (BM gs) cs 171 2 st.length (Ha st)) uK (nK oO (by rw[<-Wd];simp[Ha]) BF)) ?_;by_cases hF:y=0\/y∈acc
   ·have hf:=RQ hF;refine CB ?_;refine uB (lY (kt:=41) (et:=4) (z:= .bool false) hE.uu hE.uu hE.zz rfl rfl uK (by assumption)) ?_;refine CL ?_;refine CW 45 (.bool true) O O ?_;refine Bz ?_;refine bS (ι:=Uh) (j:=⟨st,acc,p,c,some ⟨gs,0,none⟩,cs⟩) ⟨by rw[<-zAi hI hF];exact hC,hI.tail,BD,hD⟩ hZ BC ?_;exact uI
   have hf:=OW hF;refine CB ?_;refine uB (lY (kt:=41) (et:=4) (z:= .bool false) hE.uu hE.uu hE.zz rfl rfl uK (by assumption)) ?_;refine CL ?_;refine CW 45 (.bool false) O O ?_;refine Bc ?_;refine sI O (fun hb=>?_) (fun hb=>?_)
   ·subst hb;refine Bw ?_;refine uU ?_;apply lS (kt:=41) (et:=4) hE.uu hE.uu O O O
    ·exact uK
    refine CL ?_;rw[OX];refine Bw ?_;refine uU (aU (hE.t O) (hE.t O) O O O (fun gc=>?_));refine uU (BJ (fun hr hs gd ht hP hQ=>?_));refine CB ?_;obtain rfl:ht=Bg (acc++[y]):=by rw[hQ,iF];rfl
    have hJ:(acc++[y]).length=acc.length+1:=by simp
    subst hP;refine bS (ι:=Uh) (j:=⟨st,acc++[y],some ⟨hr,0,none⟩,hs,some ⟨gs,0,none⟩,cs⟩) ⟨by rw[<-zAg hF];exact hC,hI.tail,BD,hD.snoc oO hF⟩ hZ ⟨rfl,by simp only[hJ];rfl,rfl,rfl,rfl,rfl,rfl,trivial⟩ ?_;simp only[hJ];exact uI
   subst hb;obtain⟨i,rfl⟩:∃i,y=i+1:=⟨y-1,by have:y≠0:=fun e=>hF (.inl e);omega⟩;have hG:Es[i]?=some (Es[i]'oO):=ag oO;generalize Es[i]'oO=en at hG;have hR:=tX hG;have ge:=qRj en.r;have ha:=zBq hB.1 hR st;have hu:=zAh hB.1 hR (fun h=>hF (.inr h)) st;have hv:=zAp hB.1 hR hI.tail;refine Br ?_;refine uU (aU (hE.t O) (hE.t O) O O O (fun gf=>?_));refine uU (BJ (fun hw h0 gg h1 hS hT=>?_));refine Br ?_;obtain rfl:h1=Ha ((i+1,true)::st):=by rw[hT];rfl
   subst hS;refine BH (kF hE hG) O ?_;refine CG ?_;refine uU (dA (hE.t O) (fun gh=>?_));refine CB ?_;apply aA
   ·(first |(apply bV rfl (hE.t rfl) rfl;(repeat(first |rfl|assumption|constructor));done)|(apply dL rfl (hE.t rfl) rfl (by assumption);(focus((repeat constructor);done));(focus exact fm);(focus rfl);(focus omega)))
   ·rfl
   refine uX (Uv hE en.r) O ?_;rintro _ _⟨pk,ck,rfl,rfl⟩;simp only[uV,uW];refine Bq ?_
   refine dX (fun q:ZF=>[(0,uPt s),(5,.slice p acc.length c),(6,.slice q.ps (((BZ en.r).drop q.j).map (·,false)++(i+1,true)::st).length q.cs),(7,.map (some hH)),(13,.slice pk (BZ en.r).length ck),(14,BL ((q.j:Nat)-1:Int)),(17,.slice (BM gx) n ca),(18,BK n),(19,BK k)])
    (fun q=>[bR s most Es,sl (BM gx) ca 41 1 n (Bg xs),Bn hH .i64 (Iy acc),sl p c 41 1 acc.length (Bg acc),sl q.ps q.cs 171 2 (((BZ en.r).drop q.j).map (·,false)++(i+1,true)::st).length (Ha (((BZ en.r).drop q.j).map (·,false)++(i+1,true)::st)),sl pk ck 41 1 (BZ en.r).length (Bg (BZ en.r)),R]) (fun q=>q.j) (fun q=>q.j<=(BZ en.r).length) ⟨(BZ en.r).length,some ⟨hw,0,none⟩,h0⟩ (ai _) ⟨rfl,rfl,by simp only[uj];rfl,rfl,rfl,rfl,rfl,rfl,rfl,trivial⟩ ?_ ?_
   ·simp only[uj,qg,jw,az];exact uI
   rintro⟨j,ps,cs⟩hj;simp only at hj ⊢;have gi:(((BZ en.r).drop j).map (·,false)++(i+1,true)::st).length=(BZ en.r).length-j+1+st.length:=by simp;omega
   refine Bi ?_;refine bE O (fun h4=>?_) (fun h4=>?_)
   ·obtain⟨j,rfl⟩:∃j',j=j'+1:=⟨j-1,oO⟩;obtain⟨z,hz⟩:∃z,(BZ en.r)[j]?=some z:=BG;have f4:=fT hz j O;refine iO (p:=sl pk ck 41 1 (BZ en.r).length (Bg (BZ en.r))) uK (fun _ h=>eG h oO) ?_;rintro⟨gk,rfl⟩;refine Bu ?_;refine BU 81 (.pointer (some ⟨gk,j,none⟩)) O (by congr 3;omega) ?_;refine CL ?_;refine uU (aU (hE.t O) (hE.t O) O O O (fun gj=>?_));refine uU (BJ (fun h3 h5 gl h6 hU hV=>?_));refine Bu ?_;have hc:((BZ en.r).drop j).map (·,false)=(z,false)::((BZ en.r).drop (j+1)).map (·,false):=by rw[lK hz];rfl
    obtain rfl:h6=Ha (((BZ en.r).drop j).map (·,false)++(i+1,true)::st):=by rw[hV,hc];rfl
    have hK:(((BZ en.r).drop j).map (·,false)++(i+1,true)::st).length=(((BZ en.r).drop (j+1)).map (·,false)++(i+1,true)::st).length+1:=by rw[hc];rfl
    subst hU;refine bS (ι:=ZF) (j:=⟨j,some ⟨h3,0,none⟩,h5⟩) BD BD ⟨O,O,by simp only[hK];rfl,rfl,rfl,au some (bW BD),rfl,rfl,rfl,trivial⟩ ?_;simp only[hK];exact uI
   obtain rfl:j=0:=by omega
   refine Bw ?_;refine bS (ι:=Uh) (j:=⟨MI en.r (i+1) st,acc,p,c,ps,cs⟩) ⟨by rw[<-hC,hu];rfl,hv,jv (Ay ha) hY,hD⟩ ha BC ?_;exact uI
  obtain rfl:st=[]:=dw oO;refine Bc ?_;refine bS (ι:=ZG) (j:=⟨k+1,acc,p,c,ps,cs⟩) ⟨BD,hC⟩ BD ⟨rfl,rfl,rfl,rfl,rfl,rfl,au some (bW BD),trivial⟩ ?_;exact uI
 obtain rfl:k=n:=by omega
 have hW:xs.take k=xs:=fe oO;rw[hW]at hA;subst hA;refine Bq ?_;exact uZ O (.tmp O .nil) ⟨p,c,O,O⟩
def SQ {U:List Nat}{M:List Bj}{l:List (List UInt8×Int)}{ys:List Nat}(hl:∀p∈l,0<=p.2->p.2<=(Es.length:Nat)->p.2.toNat∈U) (hU:∀u∈U,Ev (BO Es) u/\Eg.len (BO Es) u<=400) (hI:Ug Es.length l) (hC:ys.length=l.length) (hs:EJ (BO (Es++M)) (Fp l) ys):∀y∈ys,y<=(Es++M).length/\Eg.len (BO (Es++M)) y<=400:=fun y hy=>by
 obtain⟨i,hi⟩:=mf hy;have hD:=(ae.1 hi).1;obtain⟨p,hp⟩:∃p,l[i]?=some p:=BG;have hA:=ak hp;have hx:(Fp l)[i]?=some p.2.toNat:=by unfold Fp;rw[bn,hp];rfl
 have h:=hs i _ y hx hi;have hB:=hI p hA;refine⟨by have:=h.2.2.1.1;rwa [bQ]at this,?_⟩;unfold Eg.len;rw[h.2.1,dB,jX _ (by rw[bQ];omega)];exact(hU _ (hl p hA hB.1 hB.2)).2
def zL (hE:BP E)(hB:Ca E.w0){U:List Nat}{l:List (List UInt8×Int)}{a:Option Addr}{ca:Nat}{q:HP}(hq:Cv E.w0 a (FY l) q)(hn:l.length<=1000)
  (hl:∀p∈l,0<=p.2->p.2<=Es.length->p.2.toNat∈U) (hU:∀u∈U,Ev (BO Es) u/\Eg.len (BO Es) u<=400) (hJ:Es.length+DR (BO Es) f U<=most) (hk:Kn (BO Es) f):
  Ct E 12 [uPt m,.slice a l.length ca] [cells pp [uPt s,uPt tb] 122,BV tb s (BO Es),bR s most Es,cells m [uPt pp,.map (some bm)] 118,Bn bm .i64 f,q]
   (fun v Q=>(∃e,Uk Es.length l e/\v= .tuple #[.slice none 0 0,.iface 78 (.int .i64 e)]/\Q=[cells pp [uPt s,uPt tb] 122,BV tb s (BO Es),bR s most Es,cells m [uPt pp,.map (some bm)] 118,Bn bm .i64 f,q])\/
    ∃M f' ys g c B,TJ Es.length l/\v= .tuple #[.slice (some ⟨g,0,none⟩) B.length c,.nilIface]/\B=Gn (BO (Es++M)) (dD (BO (Es++M)) ys []) (Gy l ys)/\M.length+DR (BO Es) f' U<=DR (BO Es) f U/\(∀z,Kf f z=true->Kf f' z=true)/\Kn (BO (Es++M)) f'/\ys.length=l.length/\EJ (BO (Es++M)) (Fp l) ys/\Q=[cells pp [uPt s,uPt tb] 122,BV tb s (BO (Es++M)),bR s most (Es++M),cells m [uPt pp,.map (some bm)] 118,Bn bm .i64 f',q,sl (some ⟨g,0,none⟩) c 5 1 B.length (Bd B)]):=by
 refine bO (hE.fn Tryz.func12) O O O (fun R=>?_);simp only[dS,uV,uW];refine Bc ?_;refine uX (qFr (U:=U) (s:=s) (tb:=tb) (most:=most) (f:=f) (m:=m) (pp:=pp) (bm:=bm) hE hB hq hn hl hU hJ hk) O ?_;rintro _ _(⟨e,he,rfl,rfl⟩|⟨M,f',ys,p',c',ho,rfl,hM,hf,hg,hS,hY,rfl⟩)
 ·simp only[uV,uW];refine RB ?_;exact uZ O (.tmp O (.tmp O .nil)) (.inl ⟨e,he,O,O⟩)
 have hZ:=SQ hl hU ho.2.2 hS hY;simp only[uV,uW];refine DL ?_;refine uX (qOt (s:=s) (most:=most) (Es:=Es++M) hE hS hZ hn) O ?_;rintro _ _⟨pl,cl,rfl,rfl⟩;simp only[uV,uW];refine lQ (p:=bR s most (Es++M)) uK (fun _ h=>dR h) (fun hA=>?_);have h0:fJ=1048576:=rfl;have h3:=bQ (Es++M);have hK:DU (BO (Es++M)) (dD (BO (Es++M)) ys []):=DU.visits hA.1 (fun y hy=>by have:=(hZ y hy).1;omega);have hL:=qHr hA.1 ys [] (Om _);obtain⟨ids,hN⟩:∃ids,ids=dD (BO (Es++M)) ys []:=⟨_,rfl⟩;rw[<-hN]at hK hL ⊢;have h4:=hK.len;have hh:0∉ids:=fun h=>by have:=(hK.2 0 h).1;omega
 refine Bi ?_;refine uU (qGx .i64 (kt:=41) (et:=3) hE.uu O (fun hP=>?_));refine CG ?_;rw[qZh];refine Bw ?_;refine uX (nG (n:=ids.length) hE oO) O ?_;rintro _ _⟨g0,c0,rfl,rfl⟩;simp only[uV,uW];have hi:=gM (n:=ids.length) oO;refine Bq ?_
 refine dX (fun x:Ue=>[(1,.slice a l.length ca),(6,uPt s),(7,.slice p' l.length c'),(10,.map (some hP)),(11,.slice (some ⟨x.g,0,none⟩) x.done.length x.c),(40,.slice pl ids.length cl),(41,.int .i64 (ids.length:Nat)),(42,.int .i64 (x.k:Nat))])
  (fun x=>[bR s most (Es++M),cells pp [uPt s,uPt tb] 122,BV tb s (BO (Es++M)),cells m [uPt pp,.map (some bm)] 118,Bn bm .i64 f',q,sl p' c' 41 1 l.length (Bg ys),Bn hP .i64 (Dw (ids.take x.k)),sl (some ⟨x.g,0,none⟩) x.c 5 1 x.done.length (Bd x.done),sl pl cl 41 1 ids.length (Bg ids),R]) (fun x=>ids.length-x.k)
  (fun x=>x.k<=ids.length/\x.done=BS ids.length++Gj (BO (Es++M)) ids x.k/\x.done.length<=10+21*x.k) ⟨0,BS ids.length,g0,c0⟩ ⟨av _,by simp[Gj],BD⟩ BC uI ?_
 rintro⟨k,done,g,c⟩⟨hQ,hC,hj⟩;simp only at hQ hC hj ⊢;refine CB ?_;refine bE O (fun h=>?_) (fun h=>?_)
 ·have hT:k<ids.length:=oO;obtain⟨x,hx⟩:∃x,ids[k]?=some x:=⟨_,ag hT⟩;have h5:=hK.2 x (ak hx);obtain⟨i,rfl⟩:∃i,x=i+1:=⟨x-1,oO⟩;have hG:(Es++M)[i]?=some ((Es++M)[i]'oO):=ag oO;generalize(Es++M)[i]'oO=en at hG;have hI:=tX hG
  have hH:ids=ids.take k++(i+1)::ids.drop (k+1):=by
   have:=dh k ids;rw[lK hx]at this;exact this.symm
  have hO:=hL _ _ _ _ hH hI;have hm:ids.take (k+1)=ids.take k++[i+1]:=by rw[ed,hx];rfl
  have hr:(ids.take k).length=k:=by simp;omega
  obtain⟨ha,hs⟩:=Xn hm (hA.1.ok _ _ hI) hO;rw[hr]at ha
  have hV:gP ids en.r=gP (ids.take (k+1)) en.r:=by
   have:=hs (ids.drop (k+1));rwa [dh]at this
  have hb:0∉ids.take (k+1):=fun h=>hh (mq h)
  have hc:(gP (ids.take (k+1)) en.r).times<=1152921504606846976:=by
   rw[rX];have h6:=hA.1.short (i+1);have h7:dC=1152921504606846976:=rfl;have hR:=hA.1.ok _ _ hI;generalize en.r=r at hI hR ⊢;cases r with
   |letter b=>simp[Rl.times]
   |pair a b=>simp[Rl.times]
   |power x t=>
    have e:=pM hI hR
    simp only[Rl.ok]at hR
    have h1:=hA.1.pos x hR.1 oO
    have h2:t*1<=t*Eg.len (BO (Es++M)) x:=pu _ h1
    simp only[Rl.times]
    have e2:Eg.len (BO (Es++M)) (i+1)=(txt (BO (Es++M)) (i+1)).length:=rfl
    have e3:t*Eg.len (BO (Es++M)) x=Eg.len (BO (Es++M)) (i+1):=by rw[e]
    omega
  have ht:=Xt (k+1) oO (gP (ids.take (k+1)) en.r) hc;refine iO (p:=sl pl cl 41 1 ids.length (Bg ids)) uK (fun _ h=>eG h oO) ?_;rintro⟨gx,rfl⟩;have f0:=fT hx (0+((k:Nat):Int).toNat) oO;have f1:=fT hx (((k:Nat):Int).toNat) oO;refine Ci ?_;refine BU 50 (.int .i64 ((k+1:Nat):Int)) O (bW oO) ?_;refine uU ?_;apply lS (kt:=41) (et:=3) hE.uu hE.uu O O O
  ·exact uK
  refine CL ?_;rw[Yh hx hK.1];refine Bz ?_;refine BH (kF hE hG) O ?_;have hu:Dw (ids.take (k+1)) ((en.r.left:Nat):Int)=Dw (ids.take (k+1)) ((en.r.left:Nat):Int):=rfl;have h8:Dw (ids.take (k+1)) ((en.r.right:Nat):Int)=Dw (ids.take (k+1)) ((en.r.right:Nat):Int):=rfl;refine CG ?_;refine uU (dA (hE.t O) (fun hd=>?_));refine Bu ?_;refine uB (lY (kt:=41) (et:=3) (z:= .int .i64 0) hE.uu hE.uu hE.zz rfl rfl uK (by assumption)) ?_;refine BU 60 (.int .i64 (Bh (ids.take (k+1)) en.r.left:Nat)) O (VY _ _) ?_;refine Bu ?_;refine uB (lY (kt:=41) (et:=3) (z:= .int .i64 0) hE.uu hE.uu hE.zz rfl rfl uK (by assumption)) ?_;refine BU 65 (.int .i64 (Bh (ids.take (k+1)) en.r.right:Nat)) O (VY _ _) ?_;refine Bz ?_
  refine fF (cO (p:=cells hd [.int .i64 (en.r.kind:Nat),.int .u8 (en.r.byte:Nat),.int .i64 (Bh (ids.take (k+1)) en.r.left:Nat),.int .i64 (Bh (ids.take (k+1)) en.r.right:Nat),.int .i64 (en.r.times:Nat)] 111) (p':=cells hd [.int .i64 (Rl.kind ((gP (ids.take (k+1)) en.r)):Nat),.int .u8 (Rl.byte ((gP (ids.take (k+1)) en.r)):Nat),.int .i64 (Rl.left ((gP (ids.take (k+1)) en.r)):Nat),.int .i64 (Rl.right ((gP (ids.take (k+1)) en.r)):Nat),.int .i64 (Rl.times ((gP (ids.take (k+1)) en.r)):Nat)] 111) uK (fun _ h=>by rw[qHj,qHi,qHk hb,Zn hb,rX];exact h)) ?_;refine CL ?_;apply aA
  ·(first |(apply bV rfl (hE.t rfl) rfl;(repeat(first |rfl|assumption|constructor));done)|(apply dL rfl (hE.t rfl) rfl (by assumption);(focus((repeat constructor);done));(focus exact fm);(focus rfl);(focus omega)))
  ·rfl
  refine CL ?_;refine BU 70 (.int .i64 ((k+1:Nat):Int)) O (bW oO) ?_;refine uX (qXd (r:=gP (ids.take (k+1)) en.r) (n:=k+1) hE ha oO oO hc) O ?_;rintro _ _⟨gr,cr,rfl,rfl⟩;simp only[uV,uW];refine Bc ?_;refine uU ?_;apply gB (hE.t O) (hE.t O) O O O
  ·exact uK
  ·exact uK
  ·exact gG _
  ·exact ht.1
  ·omega
  ·unfold maxLen;omega
  intro g1 c1 m' x' hD hF;obtain rfl:m'=(done++Co (k+1) (gP (ids.take (k+1)) en.r)).length:=hD.trans aa.symm;obtain rfl:x'=Bd (done++Co (k+1) (gP (ids.take (k+1)) en.r)):=hF.trans (fM _ _).symm;clear hD hF;refine Br ?_;refine bS (ι:=Ue) (j:=⟨k+1,done++Co (k+1) (gP (ids.take (k+1)) en.r),g1,c1⟩) ⟨BD,by simp only;rw[yH hx hI,<-ah,<-hC,hV],by simp only[aa];omega⟩ BD ⟨rfl,rfl,rfl,rfl,rfl,rfl,rfl,au some (bW BD),trivial⟩ ?_;exact uI
 obtain rfl:k=ids.length:=by omega
 rw[nu];clear h hQ;have h9:=gM (n:=l.length) oO;refine Bo ?_;refine uX (nG (n:=l.length) hE oO) O ?_;rintro _ _⟨g2,c2,rfl,rfl⟩;simp only[uV,uW];refine uU ?_;apply gB (hE.t O) (hE.t O) O O O
 ·exact uK
 ·exact uK
 ·exact gG _
 ·exact(jG _)
 ·omega
 ·unfold maxLen;omega
 intro g3 c3 m' x' hD hF;obtain rfl:m'=(done++BS l.length).length:=hD.trans aa.symm;obtain rfl:x'=Bd (done++BS l.length):=hF.trans (fM _ _).symm;clear hD hF;have gA:(done++BS l.length).length=done.length+(BS l.length).length:=aa;refine Bq ?_
 refine dX (fun x:Ue=>[(7,.slice p' l.length c'),(10,.map (some hP)),(11,.slice (some ⟨x.g,0,none⟩) x.done.length x.c),(84,.slice a l.length ca),(85,.int .i64 (l.length:Nat)),(86,.int .i64 (x.k:Nat))])
  (fun x=>[bR s most (Es++M),cells pp [uPt s,uPt tb] 122,BV tb s (BO (Es++M)),cells m [uPt pp,.map (some bm)] 118,Bn bm .i64 f',q,sl p' c' 41 1 l.length (Bg ys),Bn hP .i64 (Dw ids),sl (some ⟨x.g,0,none⟩) x.c 5 1 x.done.length (Bd x.done),R]) (fun x=>l.length-x.k)
  (fun x=>x.k<=l.length/\x.done=done++BS l.length++Hr ids ((Gy l ys).take x.k)/\x.done.length<=10+21*ids.length+10+52*x.k) ⟨0,done++BS l.length,g3,c3⟩ ⟨av _,by simp[Hr],BD⟩ BC uI ?_
 rintro⟨k,dn,g,c⟩⟨hQ,hW,hX⟩;simp only at hQ hW hX ⊢;refine CB ?_;refine bE O (fun h=>?_) (fun h=>?_)
 ·have hT:k<l.length:=oO;obtain⟨p,hp⟩:∃p,l[k]?=some p:=⟨_,ag hT⟩;obtain⟨y,hy⟩:∃y,ys[k]?=some y:=BG;have gE:=(ho.1 p (ak hp)).2.1;obtain⟨go,o,rfl,gO⟩:=hq (Vp oO);have fm:=YQ hp;have gR:=qG ids y;have gT:=gM (n:=p.1.length) oO;have ga:=gM (n:=Bh ids y) oO;have gc:(eY p.1).length=(BS p.1.length).length+p.1.length:=aa;have hv:0<(eY p.1).length:=by have:=jG p.1.length;omega
  refine iO (p:=sl p' c' 41 1 l.length (Bg ys)) uK (fun _ h=>eG h oO) ?_;rintro⟨gy,rfl⟩;have f0:=fT hy (0+((k:Nat):Int).toNat) oO;have f1:=fT hy (((k:Nat):Int).toNat) oO;have hu:Dw ids ((y:Nat):Int)=Dw ids ((y:Nat):Int):=rfl;refine Br ?_;apply aA
  ·(first |(apply bV rfl (hE.t rfl) rfl;(repeat(first |rfl|assumption|constructor));done)|(apply dL rfl (hE.t rfl) rfl (by assumption);(focus((repeat constructor);done));(focus exact fm);(focus rfl);(focus omega)))
  ·rfl
  refine uU (dA (hE.t O) (fun gd=>?_));refine Bu ?_;refine uU (Xe O (hE.t O) (hE.t O) (hE.t O) (fun gb cb=>?_));refine uX (wQ (g:=gb) (c:=cb) (bs:=p.1) hE oO) O ?_;rintro _ _⟨g4,c4,rfl,rfl⟩;simp only[uV,uW];refine uU ?_;apply gB (hE.t O) (hE.t O) O O O
  ·exact uK
  ·exact uK
  ·exact gG _
  ·exact hv
  ·omega
  ·unfold maxLen;omega
  intro g5 c5 m' x' hD hF;obtain rfl:m'=(dn++eY p.1).length:=hD.trans aa.symm;obtain rfl:x'=Bd (dn++eY p.1):=hF.trans (fM _ _).symm;clear hD hF;have ge:(dn++eY p.1).length=dn.length+(eY p.1).length:=aa;refine Bc ?_;refine uB (lY (kt:=41) (et:=3) (z:= .int .i64 0) hE.uu hE.uu hE.zz rfl rfl uK (by assumption)) ?_;refine BU 103 (.int .i64 (Bh ids y:Nat)) O (VY _ _) ?_;refine Bv ?_;refine uX (nG (n:=Bh ids y) hE oO) O ?_;rintro _ _⟨g6,c6,rfl,rfl⟩;simp only[uV,uW];refine uU ?_;apply gB (hE.t O) (hE.t O) O O O
  ·exact uK
  ·exact uK
  ·exact gG _
  ·exact(jG _)
  ·omega
  ·unfold maxLen;omega
  intro g7 c7 m' x' hD hF;obtain rfl:m'=(dn++eY p.1++BS (Bh ids y)).length:=hD.trans aa.symm;obtain rfl:x'=Bd (dn++eY p.1++BS (Bh ids y)):=hF.trans (fM _ _).symm;clear hD hF;have gf:(dn++eY p.1++BS (Bh ids y)).length=(dn++eY p.1).length+(BS (Bh ids y)).length:=aa;refine Br ?_;refine bS (ι:=Ue) (j:=⟨k+1,dn++eY p.1++BS (Bh ids y),g7,c7⟩) ⟨BD,by simp only;rw[LQ hp hy,qXw,hW];simp only[ah],BD⟩ BD ⟨rfl,rfl,rfl,rfl,rfl,au some (bW BD),trivial⟩ ?_;exact uI
 obtain rfl:k=l.length:=by omega
 have hw:(Gy l ys).take l.length=Gy l ys:=fe (by unfold Gy;simp;omega)
 have hB:dn=Gn (BO (Es++M)) ids (Gy l ys):=by
  have hz:(Gy l ys).length=l.length:=by unfold Gy;simp;omega
  rw[hW,hw,hC,Gn,hz]
 refine CP ?_;exact uZ O (.tmp O (.tmp O .nil)) (.inr ⟨M,f',ys,g,c,dn,ho,O,by rw[hB,hN],hM,hf,hg,hS,hY,rfl⟩)
