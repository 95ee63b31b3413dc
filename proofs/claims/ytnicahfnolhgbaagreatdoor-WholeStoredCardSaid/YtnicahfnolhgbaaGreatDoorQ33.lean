import Derived.Test.YtnicahfnolhgbaaGreatDoorQ32
set_option linter.all false
set_option maxHeartbeats 1000000
namespace Go.Proofs.YtnicahfnolhgbaaGreatDoor
open Go Go.RowKit Sl Eg
set_option maxRecDepth 10000
section
variable {E:Bp}{Es:List Bj}{pp tb s most S:Nat}
def vS (x t:Nat)(its:List It):dU (⟨x,0,t⟩::its)=List.replicate t x++dU its:=by rw[iP,Tk]
def vR (x t:Nat)(its:List It):dU (its++[⟨x,0,t⟩])=dU its++List.replicate t x:=by rw[fQ,jJ,Tk]
def qRs {t x}(h:1<=t)(r:List Nat):(List.replicate t x++r).head?=some x:=by
 obtain⟨m,rfl⟩:∃m,t=m+1:=⟨t-1,oO⟩;rw[dz];rfl
def qRu {t x}(h:1<=t)(r:List Nat):(r++List.replicate t x).getLast?=some x:=by
 obtain⟨m,rfl⟩:∃m,t=m+1:=⟨t-1,oO⟩;rw[oG,<-ah];simp
def qNo {L}(hw:Wf L){bh l root x fs o}(hs:De L root)(he:EO L bh l root x fs)(hx:x≠0)(hA:(l+1)%2=1)(ho:IV L (l+1) fs o):
  NE L (many L o) fs/\(KM L o=false->∀f,o=some f->f.hv=gD (Bf L f.id)):=by
 obtain⟨_,h2,_,_⟩:=he.low hx;cases o with
 |none=>exact⟨sV h2,fun _ f e=>by cases e⟩
 |some f=>
  obtain⟨⟨gs,rfl⟩,hB⟩:=ho
  obtain⟨r,l1,l2,l3,l4,l5,l6,ex⟩:=h2.inv
  have er:=iV l3
  have okf:=l1.ok hw hs
  cases r with
  |letter b=>exact absurd rfl (l4 b)
  |pair a b=>have:=(wC hw l2 l3 okf.2.2.1).1;omega
  |power y n=>
   have em:many L (some f)=f.hv:=by simp[many,er]
   refine⟨?_,fun hc f' e=>?_⟩
   ·rw[em]
    exact⟨l5,fun e=>by simp at e,fun g2 f2 e=>by obtain⟨_,rfl⟩:=nH e;exact⟨ai _,.inr ⟨_,_,er⟩⟩⟩
   cases e
   simp only[KM,er,decide_eq_false_iff_not]at hc
   rw[er]
   omega
def YW {x t its}(h:Ez its)(ht:1<=t):Ez (⟨x,0,t⟩::its):=fun it hit=>by
 rcases di.1 hit with rfl|hit
 ·exact⟨O,ht⟩
 exact h it hit
def YV {x t its}(h:Ez its)(ht:1<=t):Ez (its++[⟨x,0,t⟩]):=fun it hit=>by
 rcases ay.1 hit with hit|hit
 ·exact h it hit
 obtain rfl:=bg.1 hit;exact⟨rfl,ht⟩
def EO.mem {L:List Rl}(hw:Wf L){bh:Bool}{l root x:Nat}{fs:List Fm}(hs:De L root)(he:EO L bh l root x fs):∀y∈BX L bh l x fs,1<=y/\y<=L.length/\Bt L y<=(l:Nat):=by
 intro y hy;by_cases hx:x=0
 ·subst hx;rw[he.zero,kJ]at hy;simp at hy
 obtain⟨_,h2,_,_⟩:=he.low hx;have hf:=h2.full hw he.hi
 have hm:y∈CF L l root:=by
  rw[hf];cases bh
  ·simp only[Cy,ou,if_false];exact cu _ (by simpa[BX,Cy]using hy)
  simp only[Cy,if_true];exact jy _ (by simpa[BX,Cy]using hy)
 have:=KV hw root hs.le y hm;have:=hs.le;omega
def Dk (L:List Rl):Prop:=∀x y,1<=x->x<=L.length->1<=y->y<=L.length->key L x=key L y->x=y
def Uf (its its':List It):Prop:=∃a b,its'=a++its++b/\a.length<=1/\b.length<=1
structure GR (L:List Rl)(l rl rr:Nat)(A B:Sd)(M:Md)(A' B':Sd)(M':Md):Prop where
 left:RL L l rl A'.x A'.fs (dU M'.its++BX L true l B'.x B'.fs)
 right:RR L l rr B'.x B'.fs (dU M'.its)
 row:BX L false l A'.x A'.fs++(dU M'.its++BX L true l B'.x B'.fs)=BX L false l A.x A.fs++(dU M.its++BX L true l B.x B.fs)
 ne:M'.its=[]->M.its=[]/\A'=A/\B'=B
 grow:Uf M.its M'.its
def qIh (hE:BP E)(hB:Ca E.w0){l rl rr A0 B M0}(hs:De (BO Es) rl)(hO:De (BO Es) rr)(eA0:EO (BO Es) false l rl A0.x A0.fs)(eB:EO (BO Es) true l rr B.x B.fs)(hj:Ez M0.its)(hf:∀x∈dU M0.its,1<=x/\x<=(BO Es).length) (hk:M0.its.length<=1000000000000) (hF:(l+1)%2=1) (ht:l+1<1099511627776):
  Ct E 212 [uPt S,BL ((l+1:Nat):Int)] [cells pp [uPt s,uPt tb] 122,BV tb s (BO Es),bR s most Es,cells S [uPt pp,uPt pp,.bool false,.slice A0.p A0.fs.length A0.c,BK (A0.x),.int .u64 (key (BO Es) A0.x:Nat),uPt pp,.bool true,.slice B.p B.fs.length B.c,BK (B.x),.int .u64 (key (BO Es) B.x:Nat),.slice M0.p M0.its.length M0.c] 316,sl A0.p A0.c 332 8 A0.fs.length (dZ (BO Es) A0.fs),sl B.p B.c 332 8 B.fs.length (dZ (BO Es) B.fs),sl M0.p M0.c 343 4 M0.its.length (Ba (BO Es) M0.its)]
   (fun v Q=>∃(A' B':Sd)(M':Md),v= .tuple #[]/\GR (BO Es) l rl rr A0 B M0 A' B' M'/\Ez M'.its/\M'.its.length<=M0.its.length+2/\Q=[cells pp [uPt s,uPt tb] 122,BV tb s (BO Es),bR s most Es,cells S [uPt pp,uPt pp,.bool false,.slice A'.p A'.fs.length A'.c,BK (A'.x),.int .u64 (key (BO Es) A'.x:Nat),uPt pp,.bool true,.slice B'.p B'.fs.length B'.c,BK (B'.x),.int .u64 (key (BO Es) B'.x:Nat),.slice M'.p M'.its.length M'.c] 316,sl A'.p A'.c 332 8 A'.fs.length (dZ (BO Es) A'.fs),sl B'.p B'.c 332 8 B'.fs.length (dZ (BO Es) B'.fs),sl M'.p M'.c 343 4 M'.its.length (Ba (BO Es) M'.its)]):=by
 refine eF (p:=bR s most Es) uK (fun _ h=>dR h) (fun hS=>?_);have hw:=hS.1;have hL:(BO Es).length<=1048576:=by have:=hS.2.2;rw[bQ];unfold fJ at this;omega
 have hV:l<=1099511627776:=oO;have hW:∀{o:Option Fm},(l+1)%2=0->∀f:Fm,o=some f->f.hv=1:=fun h=>by omega
 refine bO (hE.fn Tryz.func212) O O O (fun R=>?_);simp only[dS,uV,uW];refine jT (fun q:Sd×Md=>[(0,uPt S),(1,BL ((l+1:Nat):Int))]) (fun q=>[cells pp [uPt s,uPt tb] 122,BV tb s (BO Es),bR s most Es,cells S [uPt pp,uPt pp,.bool false,.slice q.1.p q.1.fs.length q.1.c,BK (q.1.x),.int .u64 (key (BO Es) q.1.x:Nat),uPt pp,.bool true,.slice B.p B.fs.length B.c,BK (B.x),.int .u64 (key (BO Es) B.x:Nat),.slice q.2.p q.2.its.length q.2.c] 316,sl q.1.p q.1.c 332 8 q.1.fs.length (dZ (BO Es) q.1.fs),sl B.p B.c 332 8 B.fs.length (dZ (BO Es) B.fs),sl q.2.p q.2.c 343 4 q.2.its.length (Ba (BO Es) q.2.its),R]) (fun q=>RL (BO Es) l rl q.1.x q.1.fs (dU q.2.its++BX (BO Es) true l B.x B.fs)/\BX (BO Es) false l q.1.x q.1.fs++dU q.2.its=BX (BO Es) false l A0.x A0.fs++dU M0.its/\Ez q.2.its/\q.2.its.length<=M0.its.length+1/\(q.2.its=[]->M0.its=[]/\q.1=A0)/\∃a,q.2.its=a++M0.its/\a.length<=1) ?_ ?_
 ·obtain⟨A,hA⟩:∃A,A=A0:=⟨_,rfl⟩;obtain⟨M,hl⟩:∃M,M=M0:=⟨_,rfl⟩;subst hA hl;have eA:=eA0;have hM:=hj;have hX:M.its.length<=1099511627776:=oO;have hm:=eA.pl hw hL hs;have hg:=qGw (BO Es) M.its;obtain⟨hn,hp⟩:=qRg (L:=BO Es) eB (fun it h=>(hM it h).2) hf;refine CG ?_;refine BH (qQv hE) O ?_;refine CY ?_;refine bE O (fun h0=>?_) (fun h0=>?_)
  ·have hx:A.x≠0:=oO;obtain⟨k1,k2,k3,k4⟩:=eA.low hx;refine CB ?_;refine uX (KF hE (b:=S) (pre:=[uPt pp]) (suf:=[uPt pp,.bool true,.slice B.p B.fs.length B.c,BK (B.x),.int .u64 (key (BO Es) B.x:Nat),.slice M.p M.its.length M.c]) (fs:=A.fs) hw hL hs eA hx hF) O ?_;rintro _ _⟨⟨o,ho,rfl⟩,rfl⟩;simp only[uV,uW];have hG:=qNo hw hs eA hx hF ho;refine Bo ?_;refine vY 32 O (fun h3=>?_) (fun h3=>?_)
   ·refine Bq ?_;refine uN 21 ([cells S [uPt pp,uPt pp,.bool false,.slice A.p A.fs.length A.c,BK (A.x),.int .u64 (key (BO Es) A.x:Nat),uPt pp,.bool true,.slice B.p B.fs.length B.c,BK (B.x),.int .u64 (key (BO Es) B.x:Nat),.slice M.p M.its.length M.c] 316]) ?_;refine CK ?_;apply dG 15 O oK
    ·exact aB O
    ·rfl
    apply dG 16 O oK
    ·exact iE (hE.t O) O O
    ·rfl
    apply fE 17 O oK O;refine aU (hE.t O) (hE.t O) O O O (fun hq=>?_);refine uE ?_;apply fE 18 O oK O;refine uC (xV hE hX hg (a1:=(A.x:Nat)) (a2:=0) (a3:=(key (BO Es) A.x:Nat)) (a4:=(many (BO Es) o:Nat))) O ?_;rintro _ _⟨g',c',rfl,rfl⟩;simp only[uV,uW];have ei:(BK (A.x):: BL 0:: .int .u64 (key (BO Es) A.x:Nat):: BK (many (BO Es) o)::Ba (BO Es) M.its:List Value)=Ba (BO Es) (⟨A.x,0,many (BO Es) o⟩::M.its):=by rw[iG];rfl
    rw[ei];refine uE ?_;apply dG 19 O oK
    ·exact bA O
    ·rfl
    apply dG 20 O oK
    ·exact EC O
    ·rfl
    apply gW O oK oK O;refine uS ?_;refine Br ?_;refine BU 67 (BK l) O (bW oO) ?_;have hK:=lH (pp:=pp) (tb:=tb) (s:=s) (most:=most) hE hB (b:=S) (bt:=316) (p:=A.p) (c:=A.c) (k:=key (BO Es) A.x) (pre:=[uPt pp]) (suf:=[uPt pp,.bool true,.slice B.p B.fs.length B.c,BK (B.x),.int .u64 (key (BO Es) B.x:Nat),.slice (⟨⟨A.x,0,many (BO Es) o⟩::M.its,some ⟨g',0,none⟩,c'⟩:Md).p (⟨⟨A.x,0,many (BO Es) o⟩::M.its,some ⟨g',0,none⟩,c'⟩:Md).its.length (⟨⟨A.x,0,many (BO Es) o⟩::M.its,some ⟨g',0,none⟩,c'⟩:Md).c]) hs k2 hG.1 hV;refine uX (hK) O ?_;rintro _ _⟨x',gs',p',c'',rfl,q1,rfl⟩;simp only[uV,uW];refine Bv ?_;have hH:=Mx hw hs eA hx ho O hW q1;refine eX (ι:=Sd×Md) (⟨x',gs',p',c''⟩,⟨⟨A.x,0,many (BO Es) o⟩::M.its,some ⟨g',0,none⟩,c'⟩) ⟨VZ hH (by rw[vS,ah];exact qRs hG.1.1 _),?_,YW hM hG.1.1,by simp only[az];omega,(fun h=>by cases h),[⟨A.x,0,many (BO Es) o⟩],rfl,ai _⟩ BC ?_
    ·rw[hH.seq,vS];simp[Cy]
    exact uI
   refine CY ?_;refine bE O (fun h4=>?_) (fun h4=>?_)
   ·skip
    refine Bv ?_;refine uN 21 ([cells S [uPt pp,uPt pp,.bool false,.slice A.p A.fs.length A.c,BK (A.x),.int .u64 (key (BO Es) A.x:Nat),uPt pp,.bool true,.slice B.p B.fs.length B.c,BK (B.x),.int .u64 (key (BO Es) B.x:Nat),.slice M.p M.its.length M.c] 316]) ?_;refine CK ?_;apply dG 15 O oK
    ·exact aB O
    ·rfl
    apply dG 16 O oK
    ·exact iE (hE.t O) O O
    ·rfl
    apply fE 17 O oK O;refine aU (hE.t O) (hE.t O) O O O (fun hq=>?_);refine uE ?_;apply fE 18 O oK O;refine uC (xV hE hX hg (a1:=(A.x:Nat)) (a2:=0) (a3:=(key (BO Es) A.x:Nat)) (a4:=(many (BO Es) o:Nat))) O ?_;rintro _ _⟨g',c',rfl,rfl⟩;simp only[uV,uW];have ei:(BK (A.x):: BL 0:: .int .u64 (key (BO Es) A.x:Nat):: BK (many (BO Es) o)::Ba (BO Es) M.its:List Value)=Ba (BO Es) (⟨A.x,0,many (BO Es) o⟩::M.its):=by rw[iG];rfl
    rw[ei];refine uE ?_;apply dG 19 O oK
    ·exact bA O
    ·rfl
    apply dG 20 O oK
    ·exact EC O
    ·rfl
    apply gW O oK oK O;refine uS ?_;refine Br ?_;refine BU 67 (BK l) O (bW oO) ?_;have hK:=lH (pp:=pp) (tb:=tb) (s:=s) (most:=most) hE hB (b:=S) (bt:=316) (p:=A.p) (c:=A.c) (k:=key (BO Es) A.x) (pre:=[uPt pp]) (suf:=[uPt pp,.bool true,.slice B.p B.fs.length B.c,BK (B.x),.int .u64 (key (BO Es) B.x:Nat),.slice (⟨⟨A.x,0,many (BO Es) o⟩::M.its,some ⟨g',0,none⟩,c'⟩:Md).p (⟨⟨A.x,0,many (BO Es) o⟩::M.its,some ⟨g',0,none⟩,c'⟩:Md).its.length (⟨⟨A.x,0,many (BO Es) o⟩::M.its,some ⟨g',0,none⟩,c'⟩:Md).c]) hs k2 hG.1 hV;refine uX (hK) O ?_;rintro _ _⟨x',gs',p',c'',rfl,q1,rfl⟩;simp only[uV,uW];refine Bv ?_;have hH:=Mx hw hs eA hx ho O hW q1;refine eX (ι:=Sd×Md) (⟨x',gs',p',c''⟩,⟨⟨A.x,0,many (BO Es) o⟩::M.its,some ⟨g',0,none⟩,c'⟩) ⟨VZ hH (by rw[vS,ah];exact qRs hG.1.1 _),?_,YW hM hG.1.1,by simp only[az];omega,(fun h=>by cases h),[⟨A.x,0,many (BO Es) o⟩],rfl,ai _⟩ BC ?_
    ·rw[hH.seq,vS];simp[Cy]
    exact uI
   refine Bv ?_;refine eX (ι:=Sd×Md) (A,M) ⟨Rq hw hs eA hx ho (hG.2 h3) hF (fun v hv e=>?_),O,hM,Ar _,(fun h=>⟨h,O⟩),[],O,av _⟩ BC ?_
   ·by_cases hz:Hu B M=0
    ·rw[hn hz]at hv;cases hv
    rw[hp hz]at hv;have e2:=oH hv;rw[<-e]at e2;apply h4;rw[e2]
   exact uI
  have hT:A.x=0:=oO;refine Bv ?_;refine eX (ι:=Sd×Md) (A,M) ⟨?_,O,hM,Ar _,(fun h=>⟨h,O⟩),[],O,av _⟩ BC ?_
  ·have:=zAb (L:=BO Es) (l:=l) (root:=rl) (fs:=A.fs) (Z:=dU M.its++BX (BO Es) true l B.x B.fs) (by rw[<-hT];exact eA);rwa [<-hT]at this
  exact uI
 rintro⟨A,M⟩⟨hh,hP,hM,hY,hZ,ga,hi,hU⟩;simp only at hh hP hM hY hZ hi hU ⊢;have hX:M.its.length<=1099511627776:=oO;have hm:=eB.pl hw hL hO
 have hR:∀x∈dU M.its,1<=x:=by
  intro x hx;have ha:x∈BX (BO Es) false l A0.x A0.fs++dU M0.its:=by rw[<-hP];simp[hx]
  rcases ay.1 ha with h| h
  ·exact(eA0.mem hw hs x h).1
  exact(hf x h).1
 have hN:∀(v:Value)(B':Sd)(M':Md),RR (BO Es) l rr B'.x B'.fs (dU M'.its)->dU M'.its++BX (BO Es) true l B'.x B'.fs=dU M.its++BX (BO Es) true l B.x B.fs->Ez M'.its->M'.its.length<=M.its.length+1->(M'.its=[]->M.its=[]/\B'=B)->(∃b,M'.its=M.its++b/\b.length<=1)->v= .tuple #[]->
   ∃(A' B'':Sd)(M'':Md),v= .tuple #[]/\GR (BO Es) l rl rr A0 B M0 A' B'' M''/\Ez M''.its/\M''.its.length<=M0.its.length+2/\[cells pp [uPt s,uPt tb] 122,BV tb s (BO Es),bR s most Es,cells S [uPt pp,uPt pp,.bool false,.slice A.p A.fs.length A.c,BK (A.x),.int .u64 (key (BO Es) A.x:Nat),uPt pp,.bool true,.slice B'.p B'.fs.length B'.c,BK (B'.x),.int .u64 (key (BO Es) B'.x:Nat),.slice M'.p M'.its.length M'.c] 316,sl A.p A.c 332 8 A.fs.length (dZ (BO Es) A.fs),sl B'.p B'.c 332 8 B'.fs.length (dZ (BO Es) B'.fs),sl M'.p M'.c 343 4 M'.its.length (Ba (BO Es) M'.its)]=[cells pp [uPt s,uPt tb] 122,BV tb s (BO Es),bR s most Es,cells S [uPt pp,uPt pp,.bool false,.slice A'.p A'.fs.length A'.c,BK (A'.x),.int .u64 (key (BO Es) A'.x:Nat),uPt pp,.bool true,.slice B''.p B''.fs.length B''.c,BK (B''.x),.int .u64 (key (BO Es) B''.x:Nat),.slice M''.p M''.its.length M''.c] 316,sl A'.p A'.c 332 8 A'.fs.length (dZ (BO Es) A'.fs),sl B''.p B''.c 332 8 B''.fs.length (dZ (BO Es) B''.fs),sl M''.p M''.c 343 4 M''.its.length (Ba (BO Es) M''.its)]:=by
  intro v B' M' h1 h2 h3 h4 h5 ⟨gb,hr,hb⟩ h6;refine⟨A,B',M',h6,⟨by rw[h2];exact hh,h1,?_,fun h=>?_,ga,gb,by rw[hr,hi],hU,hb⟩,h3,oO,rfl⟩
  ·rw[h2,<-ah,hP,ah]
  obtain⟨q1,q2⟩:=h5 h;exact⟨(hZ q1).1,(hZ q1).2,q2⟩
 refine CG ?_;refine BH (qWw hE hX) O ?_;have hc:=Xi (L:=BO Es) (l:=l) (rl:=rr) (A:=A) hM;refine CY ?_;refine bE O (fun h0=>?_) (fun h0=>?_)
 ·have hx:B.x≠0:=oO;obtain⟨k1,k2,k3,k4⟩:=eB.low hx;refine CB ?_;refine uX (KF hE (b:=S) (pre:=[uPt pp,uPt pp,.bool false,.slice A.p A.fs.length A.c,BK (A.x),.int .u64 (key (BO Es) A.x:Nat)]) (suf:=[.slice M.p M.its.length M.c]) (fs:=B.fs) hw hL hO eB hx hF) O ?_;rintro _ _⟨⟨o,ho,rfl⟩,rfl⟩;simp only[uV,uW];have hG:=qNo hw hO eB hx hF ho;refine Bo ?_;refine vY 89 O (fun h3=>?_) (fun h3=>?_)
  ·refine Bq ?_;refine uN 21 ([cells S [uPt pp,uPt pp,.bool false,.slice A.p A.fs.length A.c,BK (A.x),.int .u64 (key (BO Es) A.x:Nat),uPt pp,.bool true,.slice B.p B.fs.length B.c,BK (B.x),.int .u64 (key (BO Es) B.x:Nat),.slice M.p M.its.length M.c] 316]) ?_;refine CK ?_;apply dG 15 O oK
   ·exact aB O
   ·rfl
   apply dG 16 O oK
   ·exact iE (hE.t O) O O
   ·rfl
   apply fE 17 O oK O;refine aU (hE.t O) (hE.t O) O O O (fun hd=>?_);refine uE ?_;apply fE 18 O oK O;refine BJ (fun hC hD he hQ hI hJ=>?_);refine uE ?_;apply dG 19 O oK
   ·exact bA O
   ·rfl
   apply dG 20 O oK
   ·exact EC O
   ·rfl
   apply gW O oK oK O;refine uS ?_;refine Bv ?_;obtain rfl:hQ=Ba (BO Es) (M.its++[⟨B.x,0,many (BO Es) o⟩]):=by rw[hJ,jK];rfl
   subst hI;refine Bi ?_;refine BU 124 (BK l) O (bW oO) ?_;have hK:=lH (pp:=pp) (tb:=tb) (s:=s) (most:=most) hE hB (b:=S) (bt:=316) (p:=B.p) (c:=B.c) (k:=key (BO Es) B.x) (pre:=[uPt pp,uPt pp,.bool false,.slice A.p A.fs.length A.c,BK (A.x),.int .u64 (key (BO Es) A.x:Nat)]) (suf:=[.slice (⟨M.its++[⟨B.x,0,many (BO Es) o⟩],some ⟨hC,0,none⟩,hD⟩:Md).p (⟨M.its++[⟨B.x,0,many (BO Es) o⟩],some ⟨hC,0,none⟩,hD⟩:Md).its.length (⟨M.its++[⟨B.x,0,many (BO Es) o⟩],some ⟨hC,0,none⟩,hD⟩:Md).c]) hO k2 hG.1 hV;simp only[aa,bf]at hK;refine uX (hK) O ?_;rintro _ _⟨x',gs',p',c'',rfl,q1,rfl⟩;simp only[uV,uW];refine Bv ?_;have hH:=Mx hw hO eB hx ho O hW q1;apply xP
   ·rfl
   ·(exact Rs.nil)
   ·refine hN _ ⟨x',gs',p',c''⟩ ⟨M.its++[⟨B.x,0,many (BO Es) o⟩],some ⟨hC,0,none⟩,hD⟩ (Ve hH (.inr (.inl hF)) (by rw[vR];exact qRu hG.1.1 _)) ?_ (YV hM hG.1.1) (by simp only[aa,bf];omega) (fun h=>by simp at h) ⟨_,rfl,ai _⟩ rfl;rw[hH.seq,vR];simp[Cy]
   simp only[aa,bf];exact uI
  refine CY ?_;refine bE O (fun h4=>?_) (fun h4=>?_)
  ·skip
   refine Bv ?_;refine uN 21 ([cells S [uPt pp,uPt pp,.bool false,.slice A.p A.fs.length A.c,BK (A.x),.int .u64 (key (BO Es) A.x:Nat),uPt pp,.bool true,.slice B.p B.fs.length B.c,BK (B.x),.int .u64 (key (BO Es) B.x:Nat),.slice M.p M.its.length M.c] 316]) ?_;refine CK ?_;apply dG 15 O oK
   ·exact aB O
   ·rfl
   apply dG 16 O oK
   ·exact iE (hE.t O) O O
   ·rfl
   apply fE 17 O oK O;refine aU (hE.t O) (hE.t O) O O O (fun hd=>?_);refine uE ?_;apply fE 18 O oK O;refine BJ (fun hC hD he hQ hI hJ=>?_);refine uE ?_;apply dG 19 O oK
   ·exact bA O
   ·rfl
   apply dG 20 O oK
   ·exact EC O
   ·rfl
   apply gW O oK oK O;refine uS ?_;refine Bv ?_;obtain rfl:hQ=Ba (BO Es) (M.its++[⟨B.x,0,many (BO Es) o⟩]):=by rw[hJ,jK];rfl
   subst hI;refine Bi ?_;refine BU 124 (BK l) O (bW oO) ?_;have hK:=lH (pp:=pp) (tb:=tb) (s:=s) (most:=most) hE hB (b:=S) (bt:=316) (p:=B.p) (c:=B.c) (k:=key (BO Es) B.x) (pre:=[uPt pp,uPt pp,.bool false,.slice A.p A.fs.length A.c,BK (A.x),.int .u64 (key (BO Es) A.x:Nat)]) (suf:=[.slice (⟨M.its++[⟨B.x,0,many (BO Es) o⟩],some ⟨hC,0,none⟩,hD⟩:Md).p (⟨M.its++[⟨B.x,0,many (BO Es) o⟩],some ⟨hC,0,none⟩,hD⟩:Md).its.length (⟨M.its++[⟨B.x,0,many (BO Es) o⟩],some ⟨hC,0,none⟩,hD⟩:Md).c]) hO k2 hG.1 hV;simp only[aa,bf]at hK;refine uX (hK) O ?_;rintro _ _⟨x',gs',p',c'',rfl,q1,rfl⟩;simp only[uV,uW];refine Bv ?_;have hH:=Mx hw hO eB hx ho O hW q1;apply xP
   ·rfl
   ·(exact Rs.nil)
   ·refine hN _ ⟨x',gs',p',c''⟩ ⟨M.its++[⟨B.x,0,many (BO Es) o⟩],some ⟨hC,0,none⟩,hD⟩ (Ve hH (.inr (.inl hF)) (by rw[vR];exact qRu hG.1.1 _)) ?_ (YV hM hG.1.1) (by simp only[aa,bf];omega) (fun h=>by simp at h) ⟨_,rfl,ai _⟩ rfl;rw[hH.seq,vR];simp[Cy]
   simp only[aa,bf];exact uI
  refine Bv ?_;apply xP
  ·rfl
  ·(exact Rs.nil)
  ·refine hN _ B M (Ru hw hO eB hx ho (hG.2 h3) hF (fun u hu e=>?_)) O hM oO (fun h=>⟨h,O⟩) ⟨[],by simp,by simp⟩ rfl;have:=hc u hu;omega
  exact uI
 have hT:B.x=0:=oO;refine Bv ?_;apply xP
 ·rfl
 ·(exact Rs.nil)
 ·refine hN _ B M ?_ O hM oO (fun h=>⟨h,O⟩) ⟨[],by simp,by simp⟩ rfl;have:=Vf (L:=BO Es) (l:=l) (root:=rr) (fs:=B.fs) (M:=dU M.its) (by rw[<-hT];exact eB);rwa [<-hT]at this
 exact uI
end
section
variable {E:Bp}{Es:List Bj}{pp tb s most S:Nat}
def JF (L:List Rl)(its:List It):Prop:=∀it∈its,1<=it.times/\(it.next=0->it.times=1)/\(it.next≠0->key L it.next=key L it.id)
def pK {its}(h:∀it∈its,1<=it.times):its.length<=(dU its).length:=by
 induction its with
 |nil=>exact ai _
 |cons it its ih=>
  have h1:=ih fun i hi=>h i (by simp[hi])
  have h2:=vX (h it BF)
  have h3:1<=(Ed it).length:=by
   cases e:Ed it with
   |nil=>rw[e]at h2;simp at h2
   |cons a b=>simp
  rw[iP,aa,az]
  omega
def rP {c x y}(h:c=122):fB c x y↔x=y:=by unfold fB;rw[if_pos h]
def YL {L its it}(h:JF L its)(h1:1<=it.times/\(it.next=0->it.times=1)/\(it.next≠0->key L it.next=key L it.id)):JF L (its++[it]):=fun i hi=>by
 rcases ay.1 hi with hi|hi
 ·exact h i hi
 obtain rfl:=bg.1 hi;exact h1
def qZm {a b t}(h:1<=t)(hb:b≠0)(r:List Nat):(r++Ed ⟨a,b,t⟩).getLast?=some b:=by
 obtain⟨m,rfl⟩:∃m,t=m+1:=⟨t-1,oO⟩;unfold Ed;simp only[if_neg hb];rw[oG,tu,<-ah];simp
def EO.ids {L}(hw:Wf L){bh l root x fs}(hs:De L root)(h:EO L bh l root x fs):x<=L.length/\∀f∈fs,1<=f.id/\f.id<=L.length:=by
 rcases h.lk with⟨rfl,rfl⟩|⟨h1,h2,h3⟩
 ·simp
 have ok:=h2.ok hw hs;exact⟨ok.2.1,fun f hf=>⟨(ok.2.2.2 f hf).1,(ok.2.2.2 f hf).2.1⟩⟩
def EO.adj {L}(hw:Wf L){l root x a fs r}(hs:De L root)(he:EO L true l root x fs)(hx:x≠0)(hB:(l+1)%2=0)(h:BX L true l x fs=a::a::r):False:=by
 obtain⟨_,h2,_,_⟩:=he.low hx;have hf:=h2.full hw he.hi;have hA:=hs.inv (l+1) oO;have e:CF L l root=IK L true l fs++BX L true l x fs:=by rw[hf];rfl
 rw[fu,e,h]at hA;have:=(hA.same (IK L true l fs).length a (by rw[bi (ai _),uf];rfl) (by rw[bi oO,qd];rfl)).1;omega
structure JI where
 B:Sd
 M:Md
structure WC (L:List Rl)(l rr k0:Nat)(B0:Sd)(M0:Md)(y:JI):Prop where
 eo:EO L true l rr y.B.x y.B.fs
 itt:JF L y.M.its
 row:dU y.M.its++BX L true l y.B.x y.B.fs=dU M0.its++BX L true l B0.x B0.fs
 bb:(y.B=B0/\y.M=M0)\/(BB L (l+1) y.B.fs/\y.M.its≠[]/\∀u,(dU y.M.its).getLast?=some u->key L u=k0)
 grow:Dk L->∃d,y.M.its=M0.its++d/\d.length<=1/\(d≠[]->y.B.x≠B0.x)
def qNc {L gs f}:(dZ L (gs++[f]))[(dZ L gs).length+3]?=some (BK (Rl.left (Bf L f.id)))/\(dZ L (gs++[f]))[(dZ L gs).length+4]?=some (BK (Rl.right (Bf L f.id))):=by
 rw[kN];exact⟨Fg,GL⟩
def qMn {L is it}:(Ba L (is++[it]))[(Ba L is).length+2]?=some (.int .u64 (key L it.id:Nat)):=by rw[jK];exact Fx
def qBl (hE:BP E)(hB:Ca E.w0){l rr:Nat}{A B0:Sd}{M0:Md}(hs:De (BO Es) rr)(eB0:EO (BO Es) true l rr B0.x B0.fs)(gc:Ez M0.its)(hl:JF (BO Es) M0.its)(hR:∀x∈dU M0.its,1<=x/\x<=(BO Es).length) (hU:(dU M0.its++BX (BO Es) true l B0.x B0.fs).length<=1000000000) (hV:(l+1)%2=0) (gq:l+1<1000000000000) (hn:Cu (l+1)=122):
  Ct E 215 [uPt S,.int .i64 ((l+1:Nat):Int)] [cells pp [uPt s,uPt tb] 122,BV tb s (BO Es),bR s most Es,cells S [uPt pp,uPt pp,.bool false,.slice A.p A.fs.length A.c,.int .i64 (A.x:Nat),.int .u64 (key (BO Es) A.x:Nat),uPt pp,.bool true,.slice B0.p B0.fs.length B0.c,.int .i64 (B0.x:Nat),.int .u64 (key (BO Es) B0.x:Nat),.slice M0.p M0.its.length M0.c] 316,sl A.p A.c 332 8 A.fs.length (dZ (BO Es) A.fs),sl B0.p B0.c 332 8 B0.fs.length (dZ (BO Es) B0.fs),sl M0.p M0.c 343 4 M0.its.length (Ba (BO Es) M0.its)]
   (fun v Q=>∃(B':Sd)(M':Md),v= .tuple #[]/\RR (BO Es) l rr B'.x B'.fs (dU M'.its)/\dU M'.its++BX (BO Es) true l B'.x B'.fs=dU M0.its++BX (BO Es) true l B0.x B0.fs/\JF (BO Es) M'.its/\(M'.its=[]->M0.its=[]/\B'=B0)/\(Dk (BO Es)->∃b,M'.its=M0.its++b/\b.length<=1)/\Q=[cells pp [uPt s,uPt tb] 122,BV tb s (BO Es),bR s most Es,cells S [uPt pp,uPt pp,.bool false,.slice A.p A.fs.length A.c,.int .i64 (A.x:Nat),.int .u64 (key (BO Es) A.x:Nat),uPt pp,.bool true,.slice B'.p B'.fs.length B'.c,.int .i64 (B'.x:Nat),.int .u64 (key (BO Es) B'.x:Nat),.slice M'.p M'.its.length M'.c] 316,sl A.p A.c 332 8 A.fs.length (dZ (BO Es) A.fs),sl B'.p B'.c 332 8 B'.fs.length (dZ (BO Es) B'.fs),sl M'.p M'.c 343 4 M'.its.length (Ba (BO Es) M'.its)]):=by
 refine eF (p:=bR s most Es) uK (fun _ h=>dR h) (fun hW=>?_);have hw:=hW.1;have hL:(BO Es).length<=1048576:=by have:=hW.2.2;rw[bQ];unfold fJ at this;omega
 have hm:=eB0.pl hw hL hs;have hq:l<=1099511627776:=oO
 have gd:M0.its.length<=1000000000:=by
  have:=pK (its:=M0.its) fun it h=>(hl it h).1
  rw[aa]at hU;omega
 have same:RR (BO Es) l rr B0.x B0.fs (dU M0.its)->∃(B':Sd)(M':Md),Value.tuple #[]= .tuple #[]/\RR (BO Es) l rr B'.x B'.fs (dU M'.its)/\dU M'.its++BX (BO Es) true l B'.x B'.fs=dU M0.its++BX (BO Es) true l B0.x B0.fs/\JF (BO Es) M'.its/\(M'.its=[]->M0.its=[]/\B'=B0)/\(Dk (BO Es)->∃b,M'.its=M0.its++b/\b.length<=1)/\[cells pp [uPt s,uPt tb] 122,BV tb s (BO Es),bR s most Es,cells S [uPt pp,uPt pp,.bool false,.slice A.p A.fs.length A.c,.int .i64 (A.x:Nat),.int .u64 (key (BO Es) A.x:Nat),uPt pp,.bool true,.slice B0.p B0.fs.length B0.c,.int .i64 (B0.x:Nat),.int .u64 (key (BO Es) B0.x:Nat),.slice M0.p M0.its.length M0.c] 316,sl A.p A.c 332 8 A.fs.length (dZ (BO Es) A.fs),sl B0.p B0.c 332 8 B0.fs.length (dZ (BO Es) B0.fs),sl M0.p M0.c 343 4 M0.its.length (Ba (BO Es) M0.its)]=[cells pp [uPt s,uPt tb] 122,BV tb s (BO Es),bR s most Es,cells S [uPt pp,uPt pp,.bool false,.slice A.p A.fs.length A.c,.int .i64 (A.x:Nat),.int .u64 (key (BO Es) A.x:Nat),uPt pp,.bool true,.slice B'.p B'.fs.length B'.c,.int .i64 (B'.x:Nat),.int .u64 (key (BO Es) B'.x:Nat),.slice M'.p M'.its.length M'.c] 316,sl A.p A.c 332 8 A.fs.length (dZ (BO Es) A.fs),sl B'.p B'.c 332 8 B'.fs.length (dZ (BO Es) B'.fs),sl M'.p M'.c 343 4 M'.its.length (Ba (BO Es) M'.its)]:=fun h=>⟨B0,M0,O,h,O,hl,(fun h=>⟨h,O⟩),(fun _=>⟨[],by simp,by simp⟩),rfl⟩
 refine bO (hE.fn Tryz.func215) O O O (fun R=>?_);simp only[dS,uV,uW];refine Bo ?_;refine bE O (fun h0=>?_) (fun h0=>?_)
 ·have hX:B0.x=0:=oO;refine CL ?_;apply cK
  ·rfl
  ·(exact Rs.nil)
  ·refine same ?_;have:=Vf (L:=BO Es) (l:=l) (root:=rr) (fs:=B0.fs) (M:=dU M0.its) (by rw[<-hX];exact eB0);rwa [<-hX]at this
  exact uI
 have hX:B0.x≠0:=oO;refine Bq ?_;refine jT (fun q:Nat=>[(0,uPt S),(1,.int .i64 ((l+1:Nat):Int)),(4,.int .u64 (key (BO Es) B0.x:Nat))]) (fun q=>[cells pp [uPt s,uPt tb] 122,BV tb s (BO Es),bR s most Es,cells S [uPt pp,uPt pp,.bool false,.slice A.p A.fs.length A.c,.int .i64 (A.x:Nat),.int .u64 (key (BO Es) A.x:Nat),uPt pp,.bool true,.slice B0.p B0.fs.length B0.c,.int .i64 (B0.x:Nat),.int .u64 (key (BO Es) B0.x:Nat),.slice M0.p M0.its.length M0.c] 316,sl A.p A.c 332 8 A.fs.length (dZ (BO Es) A.fs),sl B0.p B0.c 332 8 B0.fs.length (dZ (BO Es) B0.fs),sl M0.p M0.c 343 4 M0.its.length (Ba (BO Es) M0.its),R]) (fun q=>True) ?_ ?_
 ·refine CB ?_;refine uX (nZ hE (b:=S) (pre:=[uPt pp,uPt pp,.bool false,.slice A.p A.fs.length A.c,.int .i64 (A.x:Nat),.int .u64 (key (BO Es) A.x:Nat)]) (suf:=[.slice M0.p M0.its.length M0.c]) (fs:=B0.fs) hm) O ?_;rintro v _⟨⟨o,ho,hv⟩,rfl⟩;simp only[uV,uW];refine CG ?_;have early:(∀f,o=some f->f.hv=2)->(∀u,(dU M0.its).getLast?=some u->key (BO Es) u≠key (BO Es) B0.x)->RR (BO Es) l rr B0.x B0.fs (dU M0.its):=fun h1 h2=>Vd hw hs eB0 hX ho h1 hV fun u hu hf=>h2 u hu ((rP hn).1 hf)
  have hM:∀is it u,M0.its=is++[it]->(dU M0.its).getLast?=some u->u=it.id:=fun is it u e hu=>by
   have h1:=Xi (L:=BO Es) (l:=l) (rl:=rr) (A:=A) gc u hu;rw[<-h1];simp[IQ,e]
  cases o with
  |none=>
   obtain rfl:v= .pointer none:=hv
   refine CU ?_
   have hY:∀f',(none:Option Fm)=some f'->f'.hv=2:=fun f' e=>by cases e
   refine CK ?_
   refine dV 42 O (fun h4=>?_) (fun h4=>?_)
   ·have hr:M0.its=[]:=dw oO
    refine CY ?_
    apply cK
    ·rfl
    ·(exact Rs.nil)
    ·refine same (early hY fun u hu=>?_)
     rw[hr]at hu
     simp[dU]at hu
    exact uI
   obtain⟨is,it,hO⟩:∃is it,M0.its=is++[it]:=by
    rcases bq M0.its with h|⟨is,it,h⟩
    ·rw[h]at h4;simp at h4
    exact⟨is,it,by rw[h,bu]⟩
   have ht:M0.its.length=is.length+1:=by rw[hO];simp
   refine lQ (p:=sl M0.p M0.c 343 4 M0.its.length (Ba (BO Es) M0.its)) uK (fun _ h=>eG h oO) ?_
   rintro⟨gm,hP⟩
   have f2:(Ba (BO Es) M0.its)[(Ba (BO Es) is).length+2]?=some (.int .u64 (key (BO Es) it.id:Nat)):=by rw[hO];exact qMn
   rw[hP]
   refine CU ?_
   refine BU 49 _ O (pQ (L:=BO Es) (its:=is) ht) ?_
   refine Bo ?_
   refine bE O (fun h5=>?_) (fun h5=>?_)
   ·refine CL ?_
    apply cK
    ·rfl
    ·(exact Rs.nil)
    ·refine same (early hY fun u hu e=>?_)
     rw[hM is it u hO hu]at e
     omega
    rw[hP]
    exact uI
   refine Bv ?_
   rw[<-hP]
   refine eX (ι:=Nat) 0 trivial BC ?_
   exact uI
  |some f=>
   obtain⟨gs,g,hF,hp,rfl⟩:=hv
   have f7:(dZ (BO Es) B0.fs)[(dZ (BO Es) gs).length+7]?=some (.int .i64 (f.hv:Nat)):=by rw[hF];exact Tq
   rw[hp]
   refine Cw ?_
   refine bE O (fun h2=>?_) (fun h2=>?_)
   ·have hY:∀f',some f=some f'->f'.hv=2:=fun f' e=>by cases e;omega
    rw[<-hp]
    refine CK ?_
    refine dV 42 O (fun h4=>?_) (fun h4=>?_)
    ·have hr:M0.its=[]:=dw oO
     refine CY ?_
     apply cK
     ·rfl
     ·(exact Rs.nil)
     ·refine same (early hY fun u hu=>?_)
      rw[hr]at hu
      simp[dU]at hu
     exact uI
    obtain⟨is,it,hO⟩:∃is it,M0.its=is++[it]:=by
     rcases bq M0.its with h|⟨is,it,h⟩
     ·rw[h]at h4;simp at h4
     exact⟨is,it,by rw[h,bu]⟩
    have ht:M0.its.length=is.length+1:=by rw[hO];simp
    refine lQ (p:=sl M0.p M0.c 343 4 M0.its.length (Ba (BO Es) M0.its)) uK (fun _ h=>eG h oO) ?_
    rintro⟨gm,hP⟩
    have f2:(Ba (BO Es) M0.its)[(Ba (BO Es) is).length+2]?=some (.int .u64 (key (BO Es) it.id:Nat)):=by rw[hO];exact qMn
    rw[hP]
    refine CU ?_
    refine BU 49 _ O (pQ (L:=BO Es) (its:=is) ht) ?_
    refine Bo ?_
    refine bE O (fun h5=>?_) (fun h5=>?_)
    ·refine CL ?_
     apply cK
     ·rfl
     ·(exact Rs.nil)
     ·refine same (early hY fun u hu e=>?_)
      rw[hM is it u hO hu]at e
      omega
     rw[hP]
     exact uI
    refine Bv ?_
    rw[<-hP]
    refine eX (ι:=Nat) 0 trivial BC ?_
    exact uI
   refine Bv ?_
   rw[<-hp]
   refine eX (ι:=Nat) 0 trivial BC ?_
   exact uI
 rintro _ -;refine Bv ?_;refine dX (fun y:JI=>[(0,uPt S),(1,.int .i64 ((l+1:Nat):Int)),(4,.int .u64 (key (BO Es) B0.x:Nat))]) (fun y=>[cells pp [uPt s,uPt tb] 122,BV tb s (BO Es),bR s most Es,cells S [uPt pp,uPt pp,.bool false,.slice A.p A.fs.length A.c,.int .i64 (A.x:Nat),.int .u64 (key (BO Es) A.x:Nat),uPt pp,.bool true,.slice y.B.p y.B.fs.length y.B.c,.int .i64 (y.B.x:Nat),.int .u64 (key (BO Es) y.B.x:Nat),.slice y.M.p y.M.its.length y.M.c] 316,sl A.p A.c 332 8 A.fs.length (dZ (BO Es) A.fs),sl y.B.p y.B.c 332 8 y.B.fs.length (dZ (BO Es) y.B.fs),sl y.M.p y.M.c 343 4 y.M.its.length (Ba (BO Es) y.M.its),R]) (fun y=>(BX (BO Es) true l y.B.x y.B.fs).length) (fun y=>WC (BO Es) l rr (key (BO Es) B0.x) B0 M0 y) ⟨B0,M0⟩ ⟨eB0,hl,O,.inl ⟨O,O⟩,fun _=>⟨[],by simp,by simp,fun h=>absurd rfl h⟩⟩ BC ?_ ?_
 ·exact uI
 rintro⟨B,M⟩⟨eB,hI,hA,hy,hi⟩;simp only at eB hI hA hy hi ⊢
 have gr:M.its.length<=1000000000:=by
  have h1:=pK (its:=M.its) fun it h=>(hI it h).1
  rw[<-hA,aa]at hU;omega
 have ge:=eB.pl hw hL hs
 have fin:(B.x=0\/key (BO Es) B.x≠key (BO Es) B0.x)->∃(B':Sd)(M':Md),Value.tuple #[]= .tuple #[]/\RR (BO Es) l rr B'.x B'.fs (dU M'.its)/\dU M'.its++BX (BO Es) true l B'.x B'.fs=dU M0.its++BX (BO Es) true l B0.x B0.fs/\JF (BO Es) M'.its/\(M'.its=[]->M0.its=[]/\B'=B0)/\(Dk (BO Es)->∃b,M'.its=M0.its++b/\b.length<=1)/\[cells pp [uPt s,uPt tb] 122,BV tb s (BO Es),bR s most Es,cells S [uPt pp,uPt pp,.bool false,.slice A.p A.fs.length A.c,.int .i64 (A.x:Nat),.int .u64 (key (BO Es) A.x:Nat),uPt pp,.bool true,.slice B.p B.fs.length B.c,.int .i64 (B.x:Nat),.int .u64 (key (BO Es) B.x:Nat),.slice M.p M.its.length M.c] 316,sl A.p A.c 332 8 A.fs.length (dZ (BO Es) A.fs),sl B.p B.c 332 8 B.fs.length (dZ (BO Es) B.fs),sl M.p M.c 343 4 M.its.length (Ba (BO Es) M.its)]=[cells pp [uPt s,uPt tb] 122,BV tb s (BO Es),bR s most Es,cells S [uPt pp,uPt pp,.bool false,.slice A.p A.fs.length A.c,.int .i64 (A.x:Nat),.int .u64 (key (BO Es) A.x:Nat),uPt pp,.bool true,.slice B'.p B'.fs.length B'.c,.int .i64 (B'.x:Nat),.int .u64 (key (BO Es) B'.x:Nat),.slice M'.p M'.its.length M'.c] 316,sl A.p A.c 332 8 A.fs.length (dZ (BO Es) A.fs),sl B'.p B'.c 332 8 B'.fs.length (dZ (BO Es) B'.fs),sl M'.p M'.c 343 4 M'.its.length (Ba (BO Es) M'.its)]:=by
  intro hc;refine⟨B,M,O,?_,hA,hI,?_,fun hd=>(hi hd).imp fun _ h=>⟨h.1,h.2.1⟩,O⟩
  ·rcases hy with⟨rfl,rfl⟩|⟨h1,h2,h3⟩
   ·rcases hc with h| h
    ·exact absurd h hX
    exact absurd O h
   by_cases hx:B.x=0
   ·have:=Vf (L:=BO Es) (l:=l) (root:=rr) (fs:=B.fs) (M:=dU M.its) (by rw[<-hx];exact eB);rwa [<-hx]at this
   refine⟨eB,h1,fun u v e1 e2=>?_⟩;rw[eB.head hx]at e2;cases e2
   rw[if_neg oO,rP hn,h3 u e1];rcases hc with h| h
   ·exact absurd h hx
   exact fun e=>h e.symm
  intro h;rcases hy with⟨rfl,rfl⟩|⟨h1,h2,h3⟩
  ·exact⟨h,O⟩
  exact absurd h h2
 refine Bc ?_;refine dV 61 O (fun g0=>?_) (fun g0=>?_)
 ·refine CY ?_;refine bE O (fun g1=>?_) (fun g1=>?_)
  ·have hx:B.x≠0:=oO;have hQ:key (BO Es) B.x=key (BO Es) B0.x:=oO;obtain⟨k1,k2,k3,k4⟩:=eB.low hx;have gt:=eB.mem hw hs;refine Bu ?_;refine uX (nZ hE (b:=S) (pre:=[uPt pp,uPt pp,.bool false,.slice A.p A.fs.length A.c,.int .i64 (A.x:Nat),.int .u64 (key (BO Es) A.x:Nat)]) (suf:=[.slice M.p M.its.length M.c]) (fs:=B.fs) ge) O ?_;rintro v _⟨⟨o,ho,hv⟩,rfl⟩;simp only[uV,uW];refine CG ?_;cases o with
   |none=>
    obtain rfl:v= .pointer none:=hv
    have hz:1=many (BO Es) none:=rfl
    have h6:(l+1)%2=0->∀f:Fm,none=some f->f.hv=1:=fun _ f e=>by cases e
    refine CX ?_
    refine uN 16 ([cells S [uPt pp,uPt pp,.bool false,.slice A.p A.fs.length A.c,.int .i64 (A.x:Nat),.int .u64 (key (BO Es) A.x:Nat),uPt pp,.bool true,.slice B.p B.fs.length B.c,.int .i64 (B.x:Nat),.int .u64 (key (BO Es) B.x:Nat),.slice M.p M.its.length M.c] 316]) ?_
    refine Bc ?_
    apply dG 10 O oK
    ·exact aB O
    ·rfl
    apply dG 11 O oK
    ·exact iE (hE.t O) O O
    ·rfl
    apply fE 12 O oK O
    refine aU (hE.t O) (hE.t O) O O O (fun gf=>?_)
    refine uE ?_
    apply fE 13 O oK O
    refine BJ (fun hG hH gg h7 hS hT=>?_)
    refine uE ?_
    apply dG 14 O oK
    ·exact bA O
    ·rfl
    apply dG 15 O oK
    ·exact EC O
    ·rfl
    apply gW O oK oK O
    refine uS ?_
    refine Bv ?_
    obtain rfl:h7=Ba (BO Es) (M.its++[⟨B.x,0,1⟩]):=by rw[hT,jK];simp only;rw[hQ];rfl
    subst hS
    refine Bi ?_
    refine BU 104 (.int .i64 (l:Nat)) O (bW oO) ?_
    have hN:=lH (pp:=pp) (tb:=tb) (s:=s) (most:=most) hE hB (b:=S) (bt:=316) (p:=B.p) (c:=B.c) (k:=key (BO Es) B.x) (pre:=[uPt pp,uPt pp,.bool false,.slice A.p A.fs.length A.c,.int .i64 (A.x:Nat),.int .u64 (key (BO Es) A.x:Nat)]) (suf:=[.slice (⟨M.its++[⟨B.x,0,1⟩],some ⟨hG,0,none⟩,hH⟩:Md).p (⟨M.its++[⟨B.x,0,1⟩],some ⟨hG,0,none⟩,hH⟩:Md).its.length (⟨M.its++[⟨B.x,0,1⟩],some ⟨hG,0,none⟩,hH⟩:Md).c]) hs k2 (sV k2) hq
    simp only[aa,bf]at hN
    refine uX (hN) O ?_
    rintro _ _⟨x',gs',p',c'',rfl,q1,rfl⟩
    simp only[uV,uW]
    refine Bw ?_
    have hC:=Mx hw hs eB hx ho hz h6 q1
    refine bS (ι:=JI) (j:=⟨⟨x',gs',p',c''⟩,⟨M.its++[⟨B.x,0,1⟩],some ⟨hG,0,none⟩,hH⟩⟩) ⟨hC.eo,YL hI ⟨ai _,fun _=>O,fun h=>absurd O h⟩,?_,.inr ⟨hC.bb,by simp,fun u hu=>?_⟩,fun hd=>?_⟩ ?_ BC ?_
    ·rw[<-hA,hC.seq]
     simp only
     rw[sZ]
     simp[Cy]
    ·simp only at hu
     rw[Uz]at hu
     cases hu
     exact hQ
    ·obtain⟨d,d1,d2,d3⟩:=hi hd
     have hZ:B.x=B0.x:=hd _ _ oO (eB.ids hw hs).1 oO (eB0.ids hw hs).1 hQ
     have h8:d=[]:=Classical.byContradiction fun h=>d3 h hZ
     subst h8
     refine⟨[⟨B.x,0,1⟩],by show M.its++[_]=_;rw[d1,ax],ai _,fun _ e=>?_⟩
     have e':x'=B.x:=by rw[hZ];exact e
     have ha:=hC.seq
     have h9:x'≠0:=oO
     have hD:=hC.eo.head h9
     cases es:BX (BO Es) true l x' gs' with
     |nil=>rw[es]at hD;simp at hD
     |cons q qs=>
      rw[es]at hD ha
      simp at hD
      refine eB.adj (a:=B.x) (r:=qs) hw hs hx hV ?_
      rw[ha,hD,e']
      rfl
    ·show(BX (BO Es) true l x' gs').length<(BX (BO Es) true l B.x B.fs).length
     rw[hC.seq]
     simp[Cy]
    simp only[aa,bf]
    exact uI
   |some f=>
    obtain⟨gs,g,hF,hp,rfl⟩:=hv
    have f7:(dZ (BO Es) B.fs)[(dZ (BO Es) gs).length+7]?=some (.int .i64 (f.hv:Nat)):=by rw[hF];exact Tq
    obtain⟨_,a,b,gA,l1,l2,l3,l4,l5,l6,gh,gi,gu,gv⟩:=pW hw hs eB hx ho hV
    rw[hp]
    refine Ci ?_
    refine bE O (fun g2=>?_) (fun g2=>?_)
    ·have hz:=(XH l4).symm
     have h6:(l+1)%2=0->∀f':Fm,some f=some f'->f'.hv=1:=fun _ f' e=>by cases e;omega
     rw[<-hp]
     refine Bv ?_
     refine uN 16 ([cells S [uPt pp,uPt pp,.bool false,.slice A.p A.fs.length A.c,.int .i64 (A.x:Nat),.int .u64 (key (BO Es) A.x:Nat),uPt pp,.bool true,.slice B.p B.fs.length B.c,.int .i64 (B.x:Nat),.int .u64 (key (BO Es) B.x:Nat),.slice M.p M.its.length M.c] 316]) ?_
     refine Bc ?_
     apply dG 10 O oK
     ·exact aB O
     ·rfl
     apply dG 11 O oK
     ·exact iE (hE.t O) O O
     ·rfl
     apply fE 12 O oK O
     refine aU (hE.t O) (hE.t O) O O O (fun gf=>?_)
     refine uE ?_
     apply fE 13 O oK O
     refine BJ (fun hG hH gg h7 hS hT=>?_)
     refine uE ?_
     apply dG 14 O oK
     ·exact bA O
     ·rfl
     apply dG 15 O oK
     ·exact EC O
     ·rfl
     apply gW O oK oK O
     refine uS ?_
     refine Bv ?_
     obtain rfl:h7=Ba (BO Es) (M.its++[⟨B.x,0,1⟩]):=by rw[hT,jK];simp only;rw[hQ];rfl
     subst hS
     refine Bi ?_
     refine BU 104 (.int .i64 (l:Nat)) O (bW oO) ?_
     have hN:=lH (pp:=pp) (tb:=tb) (s:=s) (most:=most) hE hB (b:=S) (bt:=316) (p:=B.p) (c:=B.c) (k:=key (BO Es) B.x) (pre:=[uPt pp,uPt pp,.bool false,.slice A.p A.fs.length A.c,.int .i64 (A.x:Nat),.int .u64 (key (BO Es) A.x:Nat)]) (suf:=[.slice (⟨M.its++[⟨B.x,0,1⟩],some ⟨hG,0,none⟩,hH⟩:Md).p (⟨M.its++[⟨B.x,0,1⟩],some ⟨hG,0,none⟩,hH⟩:Md).its.length (⟨M.its++[⟨B.x,0,1⟩],some ⟨hG,0,none⟩,hH⟩:Md).c]) hs k2 (sV k2) hq
     simp only[aa,bf]at hN
     refine uX (hN) O ?_
     rintro _ _⟨x',gs',p',c'',rfl,q1,rfl⟩
     simp only[uV,uW]
     refine Bw ?_
     have hC:=Mx hw hs eB hx ho hz h6 q1
     refine bS (ι:=JI) (j:=⟨⟨x',gs',p',c''⟩,⟨M.its++[⟨B.x,0,1⟩],some ⟨hG,0,none⟩,hH⟩⟩) ⟨hC.eo,YL hI ⟨ai _,fun _=>O,fun h=>absurd O h⟩,?_,.inr ⟨hC.bb,by simp,fun u hu=>?_⟩,fun hd=>?_⟩ ?_ BC ?_
     ·rw[<-hA,hC.seq]
      simp only
      rw[sZ]
      simp[Cy]
     ·simp only at hu
      rw[Uz]at hu
      cases hu
      exact hQ
     ·obtain⟨d,d1,d2,d3⟩:=hi hd
      have hZ:B.x=B0.x:=hd _ _ oO (eB.ids hw hs).1 oO (eB0.ids hw hs).1 hQ
      have h8:d=[]:=Classical.byContradiction fun h=>d3 h hZ
      subst h8
      refine⟨[⟨B.x,0,1⟩],by show M.its++[_]=_;rw[d1,ax],ai _,fun _ e=>?_⟩
      have e':x'=B.x:=by rw[hZ];exact e
      have ha:=hC.seq
      have h9:x'≠0:=oO
      have hD:=hC.eo.head h9
      cases es:BX (BO Es) true l x' gs' with
      |nil=>rw[es]at hD;simp at hD
      |cons q qs=>
       rw[es]at hD ha
       simp at hD
       refine eB.adj (a:=B.x) (r:=qs) hw hs hx hV ?_
       rw[ha,hD,e']
       rfl
     ·show(BX (BO Es) true l x' gs').length<(BX (BO Es) true l B.x B.fs).length
      rw[hC.seq]
      simp[Cy]
     simp only[aa,bf]
     exact uI
    have h2:f.hv=2:=oO
    have gT:=ho.2
    obtain⟨rfl,_⟩:=nH (hF.symm.trans gA)
    have f3:(dZ (BO Es) B.fs)[(dZ (BO Es) gs).length+3]?=some (.int .i64 (a:Nat)):=by
     have:=(qNc (L:=BO Es) (gs:=gs) (f:=f)).1;rw[l4]at this;rw[hF];exact this
    have f4:(dZ (BO Es) B.fs)[(dZ (BO Es) gs).length+4]?=some (.int .i64 (b:Nat)):=by
     have:=(qNc (L:=BO Es) (gs:=gs) (f:=f)).2;rw[l4]at this;rw[hF];exact this
    have gj:B.x=a:=by rw[gh,h2];simp[jA]
    have hj:key (BO Es) a=key (BO Es) B0.x:=by rw[<-gj];exact hQ
    have gE:key (BO Es) b=key (BO Es) B0.x:=by rw[<-hj];exact((rP hn).1 gi).symm
    have gO:b≠0:=by have:=(hw.ok _ _ l3).2.2.1;omega
    have eu:Fq (BO Es) (l+1) B.x B.fs=(f.id,gs):=by rw[hF,mQ,if_pos ⟨gT,by rw[l4,h2];exact ai 2⟩]
    have gk:=l1.short' hw hs hL
    have eBf:EO (BO Es) true l rr B.x (gs++[f]):=by rw[<-hF];exact eB
    refine CG ?_
    refine uN 13 ([sl (some ⟨g,0,none⟩) B.c 332 8 B.fs.length (dZ (BO Es) B.fs)]) ?_
    refine Bq ?_
    apply fE 12 O oK O
    refine dA (hE.t O) (fun b8=>?_)
    refine uE ?_
    apply gW O oK oK O
    refine uS ?_
    refine Bv ?_
    rw[<-hp]
    have ga:=KL (pp:=pp) (tb:=tb) (s:=s) (most:=most) hE hB (b:=S) (bt:=316) (p:=B.p) (c:=B.c) (pre:=[uPt pp,uPt pp,.bool false,.slice A.p A.fs.length A.c,.int .i64 (A.x:Nat),.int .u64 (key (BO Es) A.x:Nat)]) (suf:=[.slice M.p M.its.length M.c]) (lv:=l+1) hs eB
    rw[eu]at ga
    refine CB ?_
    refine BH (ga) O ?_
    refine CL ?_
    refine jT (fun t:Nat=>[(0,uPt S),(1,.int .i64 ((l+1:Nat):Int)),(4,.int .u64 (key (BO Es) B0.x:Nat)),(8,uPt b8)]) (fun t=>[cells pp [uPt s,uPt tb] 122,BV tb s (BO Es),bR s most Es,cells S [uPt pp,uPt pp,.bool false,.slice A.p A.fs.length A.c,.int .i64 (A.x:Nat),.int .u64 (key (BO Es) A.x:Nat),uPt pp,.bool true,.slice (⟨f.id,gs,B.p,B.c⟩:Sd).p (⟨f.id,gs,B.p,B.c⟩:Sd).fs.length (⟨f.id,gs,B.p,B.c⟩:Sd).c,.int .i64 ((⟨f.id,gs,B.p,B.c⟩:Sd).x:Nat),.int .u64 (key (BO Es) (⟨f.id,gs,B.p,B.c⟩:Sd).x:Nat),.slice M.p M.its.length M.c] 316,sl A.p A.c 332 8 A.fs.length (dZ (BO Es) A.fs),sl (⟨f.id,gs,B.p,B.c⟩:Sd).p (⟨f.id,gs,B.p,B.c⟩:Sd).c 332 8 (⟨f.id,gs,B.p,B.c⟩:Sd).fs.length (dZ (BO Es) (⟨f.id,gs,B.p,B.c⟩:Sd).fs),sl M.p M.c 343 4 M.its.length (Ba (BO Es) M.its),cells b8 [.int .i64 (a:Nat),.int .i64 (b:Nat),.int .u64 (key (BO Es) B0.x:Nat),.int .i64 (t:Nat)] 343,R]) (fun t=>NE (BO Es) t gs) ?_ ?_
    ·refine Bi ?_
     refine BU 127 (.int .i64 ((l+1+1:Nat):Int)) O (bW oO) ?_
     refine uX (nZ hE (b:=S) (pre:=[uPt pp,uPt pp,.bool false,.slice A.p A.fs.length A.c,.int .i64 (A.x:Nat),.int .u64 (key (BO Es) A.x:Nat)]) (suf:=[.slice M.p M.its.length M.c]) (fs:=gs) gk) O ?_
     rintro v _⟨⟨o2,gl,gb⟩,rfl⟩
     simp only[uV,uW]
     refine CG ?_
     cases o2 with
     |none=>
      obtain rfl:v= .pointer none:=gb
      refine Br ?_
      refine eX (ι:=Nat) 1 (sV l1) BC ?_
      exact uI
     |some f2=>
      obtain⟨gs2,g2',hb,hk,rfl⟩:=gb
      have f8:(dZ (BO Es) gs)[(dZ (BO Es) gs2).length+7]?=some (.int .i64 (f2.hv:Nat)):=by rw[hb];exact Tq
      rw[hk]
      refine CK ?_
      rw[<-hk]
      refine eX (ι:=Nat) f2.hv ?_ BC ?_
      ·subst hb
       obtain⟨r2,m1,m2,m3,m4,m5,m6,_⟩:=l1.inv
       have ok2:=m1.ok hw hs
       have er2:=iV m3
       have gw:=gl.2
       refine⟨m5,fun e=>by simp at e,fun g3 f3' e=>?_⟩
       obtain⟨_,rfl⟩:=nH e
       refine⟨ai _,.inr ?_⟩
       cases r2 with
       |letter b=>exact absurd rfl (m4 b)
       |pair a' b'=>have:=(wC hw m2 m3 ok2.2.2.1).1;omega
       |power y n=>exact⟨y,n,er2⟩
      exact uI
    intro t he
    refine Bv ?_
    refine uN 10 ([cells S [uPt pp,uPt pp,.bool false,.slice A.p A.fs.length A.c,.int .i64 (A.x:Nat),.int .u64 (key (BO Es) A.x:Nat),uPt pp,.bool true,.slice (⟨f.id,gs,B.p,B.c⟩:Sd).p (⟨f.id,gs,B.p,B.c⟩:Sd).fs.length (⟨f.id,gs,B.p,B.c⟩:Sd).c,.int .i64 ((⟨f.id,gs,B.p,B.c⟩:Sd).x:Nat),.int .u64 (key (BO Es) (⟨f.id,gs,B.p,B.c⟩:Sd).x:Nat),.slice M.p M.its.length M.c] 316,cells b8 [.int .i64 (a:Nat),.int .i64 (b:Nat),.int .u64 (key (BO Es) B0.x:Nat),.int .i64 (t:Nat)] 343]) ?_
    refine Bw ?_
    apply dG 5 O oK
    ·(apply bV rfl (hE.t rfl) rfl;(repeat(first |rfl|assumption|constructor));done)
    ·rfl
    apply fE 6 O oK O
    refine aU (hE.t O) (hE.t O) O O O (fun gn=>?_)
    refine uE ?_
    apply fE 7 O oK O
    refine BJ (fun hJ hK go gR hg hh=>?_)
    refine uE ?_
    apply dG 8 O oK
    ·exact bA O
    ·rfl
    apply dG 9 O oK
    ·exact EC O
    ·rfl
    apply gW O oK oK O
    refine uS ?_
    refine Bv ?_
    obtain rfl:gR=Ba (BO Es) (M.its++[⟨a,b,t⟩]):=by rw[hh,jK];simp only;rw[hj];rfl
    subst hg
    refine Br ?_
    refine BU 152 (.int .i64 (l:Nat)) O (bW oO) ?_
    have hN:=lH (pp:=pp) (tb:=tb) (s:=s) (most:=most) hE hB (b:=S) (bt:=316) (p:=B.p) (c:=B.c) (k:=key (BO Es) f.id) (pre:=[uPt pp,uPt pp,.bool false,.slice A.p A.fs.length A.c,.int .i64 (A.x:Nat),.int .u64 (key (BO Es) A.x:Nat)]) (suf:=[.slice (⟨M.its++[⟨a,b,t⟩],some ⟨hJ,0,none⟩,hK⟩:Md).p (⟨M.its++[⟨a,b,t⟩],some ⟨hJ,0,none⟩,hK⟩:Md).its.length (⟨M.its++[⟨a,b,t⟩],some ⟨hJ,0,none⟩,hK⟩:Md).c]) hs l1 he hq
    simp only[aa,bf]at hN
    refine uX (hN) O ?_
    rintro _ _⟨x',gs',p',c'',rfl,q1,rfl⟩
    simp only[uV,uW]
    refine CL ?_
    obtain⟨v1,v2,v3⟩:=qZc hw hs eBf hx gT hV h2 l4 he q1
    have ef:Ed ⟨a,b,t⟩=(List.replicate t [a,b]).flatten:=by unfold Ed;simp only[if_neg gO]
    refine bS (ι:=JI) (j:=⟨⟨x',gs',p',c''⟩,⟨M.its++[⟨a,b,t⟩],some ⟨hJ,0,none⟩,hK⟩⟩) ⟨v1,YL hI ⟨he.1,fun h=>absurd h gO,fun _=>by rw[hj,gE]⟩,?_,.inr ⟨v2,by simp,fun u hu=>?_⟩,fun hd=>?_⟩ ?_ BC ?_
    ·rw[<-hA]
     rw[hF,v3,fQ,jJ,ef,ah]
    ·simp only at hu
     rw[fQ,jJ,qZm he.1 gO]at hu
     cases hu
     exact gE
    ·exfalso
     have okf:=l1.ok hw hs
     have hk:=wC hw l2 l3 okf.2.2.1
     obtain⟨k1',k2',k3',k4'⟩:=hw.ok _ _ l3
     have gp:=okf.2.1
     exact hk.2.1 (hd a b k1' oO k3' oO (by rw[hj,gE]))
    ·show(BX (BO Es) true l x' gs').length<(BX (BO Es) true l B.x B.fs).length
     rw[hF,v3,<-ef]
     have:=vX (it:=⟨a,b,t⟩) he.1
     cases e:Ed ⟨a,b,t⟩with
     |nil=>rw[e]at this;simp at this
     |cons q qs=>simp;omega
    simp only[aa,bf]
    exact uI
  refine Bz ?_;exact Gf O .nil (fin (.inr oO))
 refine CK ?_;exact Gf O .nil (fin (.inl oO))
end
section
variable {E:Bp}{Es:List Bj}{pp tb s most S:Nat}
def Qh (L:List Rl)(lv:Nat)(its:List It):Prop:=if lv%2=1 then Ez its else if Cu lv=122 then JF L its else Ez its/\∀it∈its,it.times=1
structure TF (L:List Rl)(l rl rr:Nat)(A B:Sd)(M:Md)(A' B':Sd)(M':Md):Prop where
 left:RL L l rl A'.x A'.fs (dU M'.its++BX L true l B'.x B'.fs)
 right:RR L l rr B'.x B'.fs (dU M'.its)
 row:BX L false l A'.x A'.fs++(dU M'.its++BX L true l B'.x B'.fs)=BX L false l A.x A.fs++(dU M.its++BX L true l B.x B.fs)
 ne:M'.its=[]->M.its=[]/\A'=A/\B'=B
 grow:Dk L->Uf M.its M'.its
 shp:Qh L (l+1) M'.its
def Ol {x its}(h:∀it∈its,it.times=1):∀it∈(⟨x,0,1⟩::its:List It),it.times=1:=fun it hit=>by
 rcases di.1 hit with rfl|hit
 ·rfl
 exact h it hit
def Oj {x its}(h:∀it∈its,it.times=1):∀it∈(its++[⟨x,0,1⟩]:List It),it.times=1:=fun it hit=>by
 rcases ay.1 hit with hit|hit
 ·exact h it hit
 obtain rfl:=bg.1 hit;rfl
def qWr (hE:BP E)(hB:Ca E.w0){l rl rr:Nat}{A B:Sd}{M:Md}(hs:De (BO Es) rl)(hQ:De (BO Es) rr)(eA:EO (BO Es) false l rl A.x A.fs)(eB:EO (BO Es) true l rr B.x B.fs)(hM:Ez M.its)(hI:(l+1)%2=0->∀it∈M.its,it.times=1) (hR:∀x∈dU M.its,1<=x/\x<=(BO Es).length) (hJ:(BX (BO Es) false l A.x A.fs++(dU M.its++BX (BO Es) true l B.x B.fs)).length<=1000000000) (hZ:l+1<1000000000000) (hj:1<=l+1):
  Ct E 200 [uPt S,.int .i64 ((l+1:Nat):Int)] [cells pp [uPt s,uPt tb] 122,BV tb s (BO Es),bR s most Es,cells S [uPt pp,uPt pp,.bool false,.slice A.p A.fs.length A.c,.int .i64 (A.x:Nat),.int .u64 (key (BO Es) A.x:Nat),uPt pp,.bool true,.slice B.p B.fs.length B.c,.int .i64 (B.x:Nat),.int .u64 (key (BO Es) B.x:Nat),.slice M.p M.its.length M.c] 316,sl A.p A.c 332 8 A.fs.length (dZ (BO Es) A.fs),sl B.p B.c 332 8 B.fs.length (dZ (BO Es) B.fs),sl M.p M.c 343 4 M.its.length (Ba (BO Es) M.its)]
   (fun v Q=>∃(A' B':Sd)(M':Md),v= .tuple #[]/\TF (BO Es) l rl rr A B M A' B' M'/\Q=[cells pp [uPt s,uPt tb] 122,BV tb s (BO Es),bR s most Es,cells S [uPt pp,uPt pp,.bool false,.slice A'.p A'.fs.length A'.c,.int .i64 (A'.x:Nat),.int .u64 (key (BO Es) A'.x:Nat),uPt pp,.bool true,.slice B'.p B'.fs.length B'.c,.int .i64 (B'.x:Nat),.int .u64 (key (BO Es) B'.x:Nat),.slice M'.p M'.its.length M'.c] 316,sl A'.p A'.c 332 8 A'.fs.length (dZ (BO Es) A'.fs),sl B'.p B'.c 332 8 B'.fs.length (dZ (BO Es) B'.fs),sl M'.p M'.c 343 4 M'.its.length (Ba (BO Es) M'.its)]):=by
 refine eF (p:=bR s most Es) uK (fun _ h=>dR h) (fun hS=>?_);have hw:=hS.1
 have hk:M.its.length<=1000000000:=by
  have:=pK (its:=M.its) fun it h=>(hM it h).2
  rw[aa,aa]at hJ;omega
 have hl:(BX (BO Es) false l A.x A.fs).length+(dU M.its).length+(BX (BO Es) true l B.x B.fs).length<=1000000000:=by
  rw[aa,aa]at hJ;omega
 refine bO (hE.fn Tryz.func200) O O O (fun R=>?_);simp only[dS,uV,uW];refine Br ?_;refine bE O (fun h0=>?_) (fun h0=>?_)
 ·have hC:(l+1)%2=1:=oO;refine Bz ?_;refine uX (qIh hE hB (S:=S) hs hQ eA eB hM hR oO hC oO) O ?_;rintro _ _⟨A',B',M',rfl,hK,ha, -,rfl⟩;simp only[uV,uW];refine Bz ?_;exact uZ O .nil ⟨A',B',M',O,⟨hK.left,hK.right,hK.row,hK.ne,fun _=>hK.grow,by unfold Qh;rw[if_pos hC];exact ha⟩,rfl⟩
 have hH:(l+1)%2=0:=oO;have hC:¬(l+1)%2=1:=oO;have hb:2<=l+1:=oO;have hT:l+1<1099511627776:=oO;refine Bw ?_;refine uX (qLr hE hb hH hT) O ?_;rintro _ _⟨⟨q1,q2,d,rfl,hd⟩,rfl⟩;simp only[uV,uW];refine CP ?_;refine uX (qIg hE hB (S:=S) hs eA eB (fun it h=>(hM it h).2) hR oO hH hT) O ?_;rintro _ _⟨A',M1,rfl,hX,hF,hc,rfl⟩;simp only[uV,uW]
 have hA:Ez M1.its/\(∀it∈M1.its,it.times=1)/\(M1.its=[]->M.its=[]/\A'=A)/\∃a,M1.its=a++M.its/\a.length<=1:=by
  rcases hc with⟨rfl,rfl⟩|⟨e,_⟩
  ·exact⟨hM,hI hH,(fun h=>⟨h,O⟩),[],O,av _⟩
  rw[e];exact⟨YW hM (ai _),Ol (hI hH),(fun h=>by cases h),[_],rfl,ai _⟩
 have hY:∀x∈dU M1.its,1<=x/\x<=(BO Es).length:=by
  intro x hx;have hU:x∈BX (BO Es) false l A.x A.fs++dU M.its:=by rw[<-hF];simp[hx]
  rcases ay.1 hU with h| h
  ·have:=eA.mem hw hs x h;omega
  exact hR x h
 have hm:(BX (BO Es) false l A'.x A'.fs).length+(dU M1.its).length=(BX (BO Es) false l A.x A.fs).length+(dU M.its).length:=by
  rw[<-aa,hF,aa]
 have hV:M1.its.length<=1099511627776:=by
  have:=pK (its:=M1.its) fun it h=>(hA.1 it h).2
  omega
 refine Bi ?_;cases d with
 |true=>
  have hn:=hd.1 O
  have he:JF (BO Es) M1.its:=fun it hN=>by
   have h1:=hA.1 it hN;have h2:=hA.2.1 it hN;exact⟨h1.2,fun _=>h2,fun h=>absurd h1.1 h⟩
  have hL:(dU M1.its++BX (BO Es) true l B.x B.fs).length<=1000000000:=by rw[aa];omega
  refine Bz ?_
  refine uX (qBl hE hB (S:=S) hQ eB hA.1 he hY hL hH hZ hn) O ?_
  rintro _ _⟨B',M',rfl,hW,hD,hN,hf,hg,rfl⟩
  simp only[uV,uW]
  refine Bv ?_
  apply xP
  ·rfl
  ·(exact Rs.nil)
  ·refine⟨A',B',M',O,⟨by rw[hD];exact hX,hW,by rw[hD,<-ah,hF,ah],fun h=>?_,fun hd=>?_,by unfold Qh;rw[if_neg hC,if_pos hn];exact hN⟩,rfl⟩
   ·obtain⟨n1,n2⟩:=hf h
    exact⟨(hA.2.2.1 n1).1,(hA.2.2.1 n1).2,n2⟩
   obtain⟨a,hO,hP⟩:=hA.2.2.2
   obtain⟨b,hh,hi⟩:=hg hd
   exact⟨a,b,by rw[hh,hO],hP,hi⟩
  exact uI
 |false=>
  have hn:Cu (l+1)≠122:=fun h=>by have:=hd.2 h;cases this
  refine Bz ?_
  refine uX (qFq hE hB (S:=S) (A:=A') hQ eB hA.1 hY hV hH hT hn) O ?_
  rintro _ _⟨B',M',rfl,hW,hD,hG,rfl⟩
  simp only[uV,uW]
  refine Bv ?_
  apply xP
  ·rfl
  ·(exact Rs.nil)
  ·refine⟨A',B',M',O,⟨by rw[hD];exact hX,hW,by rw[hD,<-ah,hF,ah],fun h=>?_,fun _=>?_,by
    unfold Qh;rw[if_neg hC,if_neg hn];rcases hG with⟨rfl,_⟩|⟨e,_⟩
    ·exact⟨hA.1,hA.2.1⟩
    rw[e];exact⟨YV hA.1 (ai _),Oj hA.2.1⟩⟩,rfl⟩
   ·rcases hG with⟨rfl,rfl⟩|⟨e,_⟩
    ·exact⟨(hA.2.2.1 h).1,(hA.2.2.1 h).2,O⟩
    rw[e]at h;simp at h
   obtain⟨a,hO,hP⟩:=hA.2.2.2
   rcases hG with⟨rfl,rfl⟩|⟨e,_⟩
   ·exact⟨a,[],by rw[hO,ax],hP,av _⟩
   exact⟨a,[_],by rw[e,hO],hP,ai _⟩
  exact uI
end
section
variable {E:Bp}{Es:List Bj}{pp tb s most S:Nat}
def OO {L is y}:(Ba L (is++[y]))[(Ba L is).length]?=some (BK (y.id))/\(Ba L (is++[y]))[(Ba L is).length+3]?=some (BK (y.times)):=by
 rw[jK];exact⟨FP,Fg⟩
def qYp {L is y t}:bX (Ba L (is++[y])) ((Ba L is).length+3) [BK t]=Ba L (is++[⟨y.id,y.next,t⟩]):=by
 rw[jK,jK,EP]
def Uu (hE:BP E){L l x p c}(hl:l.length<=1000000000000)(ht:∀y∈l,y.times+x.times<=9223372036854775807):
  Ct E 237 [.slice p l.length c,.agg #[BK (x.id),BK (x.next),.int .u64 (key L x.id:Nat),BK (x.times)]] [sl p c 343 4 l.length (Ba L l)] (fun v Q=>∃p' c',v= .slice p' (iC l x).length c'/\Q=[sl p' c' 343 4 (iC l x).length (Ba L (iC l x))]):=by
 rcases bq l with rfl|⟨is,y,rfl⟩
 ·refine bO (hE.fn Tryz.func237) O O O (fun R=>?_);simp only[dS,uV,uW];refine CL ?_;refine uU (gN O (fun b3=>?_));refine CX ?_;refine BU 10 (.bool false) O BF ?_;refine Ci ?_;refine uU (aU (hE.t O) (hE.t O) O O O (fun hG=>?_));refine uU (BJ (fun hH hI hF hC hA hB=>?_));refine Bz ?_;obtain rfl:hC=Ba L [x]:=by rw[hB,iG];rfl
  subst hA;exact uZ O (.tmp O .nil) ⟨_,_,O,O⟩
 rw[bu]at*;have hD:(is++[y]).length=is.length+1:=by simp
 have hJ:=ht y BF;have hK:=rU L is;obtain⟨f0,f3⟩:=OO (L:=L) (is:=is) (y:=y);refine eF (p:=sl p c 343 4 (is++[y]).length (Ba L (is++[y]))) uK (fun _ h=>eG h oO) ?_;rintro⟨g,rfl⟩;refine bO (hE.fn Tryz.func237) O O O (fun R=>?_);simp only[dS,uV,uW];refine CL ?_;refine uU (gN O (fun b3=>?_));refine CX ?_;refine BU 10 (.bool true) O BF ?_;refine Br ?_;refine BU 14 _ O (pQ (L:=L) (its:=is) hD) ?_;refine CP ?_;refine bE O (fun h=>?_) (fun h=>?_)
 ·have e:iC (is++[y]) x=is++[⟨y.id,y.next,y.times+x.times⟩]:=by rw[lC,if_pos oO]
  rw[e];refine CB ?_;refine BU 24 _ O (pQ (L:=L) (its:=is) hD) ?_;refine Bw ?_;refine BU 29 (BL ((y.times+x.times:Nat):Int)) O (bW oO) ?_;refine Bv ?_;refine BU 30 _ O (pQ (L:=L) (its:=is) hD) ?_;refine Bz ?_;simp only[bP];rw[qYp];refine Br ?_;apply cK
  ·rfl
  ·(apply Rs.tmp rfl;exact Rs.nil)
  ·exact⟨some ⟨g,0,none⟩,c,by simp;rfl,rfl⟩
  simp only[aa,bf];exact uI
 have e:iC (is++[y]) x=is++[y]++[x]:=by rw[lC,if_neg oO]
 rw[e];refine CB ?_;refine uU (aU (hE.t O) (hE.t O) O O O (fun hG=>?_));refine uU (BJ (fun hH hI hF hC hA hB=>?_));refine Bz ?_;obtain rfl:hC=Ba L (is++[y]++[x]):=by rw[hB,jK _ (is++[y])];rfl
 obtain rfl:hF=(is++[y]++[x]).length:=by rw[hA];simp
 exact uZ O (.tmp O .nil) ⟨_,_,O,O⟩
def rF (hE:BP E)(hB:Ca E.w0){cs l x y t p c}(h0:cs[0]?=some (uPt pp))(hl:l.length<=1000000000000)(ht:∀i∈l,i.times+t<=9223372036854775807) (hD:∀i∈l,i.id<=(BO Es).length)
  (hx:1<=x/\x<=(BO Es).length) (hy:1<=y/\y<=(BO Es).length) (hF:len (BO Es) x+len (BO Es) y<=dC) (hA:Es.length<most):
  Ct E 238 [uPt S,.slice p l.length c,BK x,BK y,BK t] [cells pp [uPt s,uPt tb] 122,BV tb s (BO Es),bR s most Es,cells S cs 316,sl p c 343 4 l.length (Ba (BO Es) l)]
   (fun v Q=>∃M2 j p' c',v= .tuple #[.slice p' (iC l ⟨j+1,0,t⟩).length c',.nilIface]/\M2.length<=1/\(BO (Es++M2))[j]?=some (.pair x y)/\Q=[cells pp [uPt s,uPt tb] 122,BV tb s (BO (Es++M2)),bR s most (Es++M2),cells S cs 316,sl p' c' 343 4 (iC l ⟨j+1,0,t⟩).length (Ba (BO (Es++M2)) (iC l ⟨j+1,0,t⟩))]):=by
 obtain⟨i,rfl⟩:∃i,x=i+1:=⟨x-1,oO⟩;obtain⟨j,rfl⟩:∃i,y=i+1:=⟨y-1,oO⟩;have hJ:i<Es.length:=by have:=hx.2;rw[bQ]at this;omega
 have hK:j<Es.length:=by have:=hy.2;rw[bQ]at this;omega
 obtain⟨ei,hH⟩:∃e,Es[i]?=some e:=⟨_,ag hJ⟩;obtain⟨ej,hI⟩:∃e,Es[j]?=some e:=⟨_,ag hK⟩;refine eF (p:=bR s most Es) uK (fun _ h=>dR h) (fun hC=>?_);have hL:ei.t.length+ej.t.length<=dC:=by rw[hC.2.1 i ei hH,hC.2.1 j ej hI];exact hF
 refine bO (hE.fn Tryz.func238) O O O (fun R=>?_);simp only[dS,uV,uW];refine Bq ?_;refine BH (kC hE) O ?_;refine CL ?_;refine uX (qXa hE hH hI hL hA) O ?_;rintro _ _⟨M2,id,rfl,hM,hP,hG,rfl⟩;obtain⟨q,rfl⟩:∃j,id=j+1:=⟨id-1,oO⟩;rw[fu]at hG;have hN:q<(Es++M2).length:=by have:=(ae.1 hG).1;rwa [bQ]at this
 have hO:Ba (BO (Es++M2)) l=Ba (BO Es) l:=by rw[dB];exact qRi _ hD
 simp only[uV,uW];refine jM (cO (p:=BV tb s (BO Es)) (p':=BV tb s (BO (Es++M2))) uK (fun _ h=>by rw[dB Es];exact sG _ h)) ?_;refine DL ?_;refine BH (Tg hE) O ?_;refine Bv ?_;refine BH (Su hE hB hN) O ?_;refine Dv ?_;rw[<-hO];refine uX (Uu (x:=⟨q+1,0,t⟩) (l:=l) (p:=p) (c:=c) (L:=BO (Es++M2)) hE hl ht) O ?_;rintro _ _⟨p',c',rfl,rfl⟩;simp only[uV,uW];refine Bw ?_;exact uZ O (.tmp O (.tmp O .nil)) ⟨M2,q,p',c',O,hM,hG,O⟩
end
