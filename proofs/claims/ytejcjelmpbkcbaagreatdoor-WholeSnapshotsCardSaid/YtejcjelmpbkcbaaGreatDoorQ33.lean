import Derived.Test.YtejcjelmpbkcbaaGreatDoorQ32
set_option linter.all false
set_option maxHeartbeats 1000000
namespace Go.Proofs.YtejcjelmpbkcbaaGreatDoor
open Go Go.RowKit Sl Eg
set_option maxRecDepth 10000
section
variable {E:Env}{Es:List Ent}{pp tb s most S:Nat}
def vF (x t:Nat)(its:List It):dV (⟨x,0,t⟩::its)=List.replicate t x++dV its:=by rw[iC,qCx]
def vE (x t:Nat)(its:List It):dV (its++[⟨x,0,t⟩])=dV its++List.replicate t x:=by rw[fO,jB,qCx]
def qQp {t x:Nat}(h:1≤t)(r:List Nat):(List.replicate t x++r).head?=some x:=by
 obtain⟨m,rfl⟩:∃m,t=m+1:=⟨t-1,oO⟩;rw[cu];rfl
def qQr {t x:Nat}(h:1≤t)(r:List Nat):(r++List.replicate t x).getLast?=some x:=by
 obtain⟨m,rfl⟩:∃m,t=m+1:=⟨t-1,oO⟩;rw[lg,←ah];simp
def qMe {L:List Rl}(hw:Wf L){bh:Bool}{l root x:Nat}{fs:List Fm}{o:Option Fm}(hs:Sig L root)(he:EO L bh l root x fs)(hx:x≠0)(hodd:(l+1)%2=1)(ho:Par L (l+1) fs o):
  Drp L (many L o) fs∧(cutO L o=false→∀f,o=some f→f.hv=fT (rlAt L f.id)):=by
 obtain⟨_,h2,_,_⟩:=he.low hx;cases o with
 |none=>exact⟨sO h2,fun _ f e=>by cases e⟩
 |some f=>
  obtain⟨⟨gs,rfl⟩,hlv⟩:=ho
  obtain⟨r,l1,l2,l3,l4,l5,l6,ex⟩:=h2.inv
  have er:=iI l3
  have okf:=l1.ok hw hs
  cases r with
  |letter b=>exact absurd rfl (l4 b)
  |pair a b=>have:=(vL hw l2 l3 okf.2.2.1).1;omega
  |power y n=>
   have em:many L (some f)=f.hv:=by simp[many,er]
   refine⟨?_,fun hc f' e=>?_⟩
   ·rw[em]
    exact⟨l5,fun e=>by simp at e,fun g2 f2 e=>by obtain⟨_,rfl⟩:=nC e;exact⟨ai _,.inr ⟨_,_,er⟩⟩⟩
   cases e
   simp only[cutO,er,decide_eq_false_iff_not]at hc
   rw[er]
   omega
def qOt {x t:Nat}{its:List It}(h:Sng its)(ht:1≤t):Sng (⟨x,0,t⟩::its):=fun it hit=>by
 rcases iq.1 hit with rfl|hit
 ·exact⟨O,ht⟩
 exact h it hit
def qOs {x t:Nat}{its:List It}(h:Sng its)(ht:1≤t):Sng (its++[⟨x,0,t⟩]):=fun it hit=>by
 rcases bn.1 hit with hit|hit
 ·exact h it hit
 obtain rfl:=bg.1 hit;exact⟨rfl,ht⟩
def EO.mem {L:List Rl}(hw:Wf L){bh:Bool}{l root x:Nat}{fs:List Fm}(hs:Sig L root)(he:EO L bh l root x fs):∀y∈seqE L bh l x fs,1≤y∧y≤L.length∧lvl L y≤(l:Nat):=by
 intro y hy;by_cases hx:x=0
 ·subst hx;rw[he.zero,kC]at hy;simp at hy
 obtain⟨_,h2,_,_⟩:=he.low hx;have hf:=h2.full hw he.hi
 have hm:y∈expd L l root:=by
  rw[hf];cases bh
  ·simp only[cat,oJ,if_false];exact fu _ (by simpa[seqE,cat]using hy)
  simp only[cat,if_true];exact mg _ (by simpa[seqE,cat]using hy)
 have:=expd_mem hw root hs.le y hm;have:=hs.le;omega
def Dk (L:List Rl):Prop:=∀x y,1≤x→x≤L.length→1≤y→y≤L.length→key L x=key L y→x=y
def Grw (its its':List It):Prop:=∃a b,its'=a++its++b∧a.length≤1∧b.length≤1
structure GR (L:List Rl)(l rl rr:Nat)(A B:Sd)(M:Md)(A' B':Sd)(M':Md):Prop where
 left:RL L l rl A'.x A'.fs (dV M'.its++seqE L true l B'.x B'.fs)
 right:RR L l rr B'.x B'.fs (dV M'.its)
 row:seqE L false l A'.x A'.fs++(dV M'.its++seqE L true l B'.x B'.fs)=seqE L false l A.x A.fs++(dV M.its++seqE L true l B.x B.fs)
 ne:M'.its=[]→M.its=[]∧A'=A∧B'=B
 grow:Grw M.its M'.its
def qHd (hE:Seat E)(hB:Base E.w0){l rl rr:Nat}{A0 B:Sd}{M0:Md}(hs:Sig (rls Es) rl)(hsr:Sig (rls Es) rr)(eA0:EO (rls Es) false l rl A0.x A0.fs)(eB:EO (rls Es) true l rr B.x B.fs)(hM0:Sng M0.its)(hR0:∀x∈dV M0.its,1≤x∧x≤(rls Es).length) (hml0:M0.its.length≤1000000000000) (hodd:(l+1)%2=1) (hll:l+1<1099511627776):
  Ct E 266 [uPt S,.int .i64 ((l+1:Nat):Int)] [cells pp [uPt s,uPt tb] 117,tabP tb s (rls Es),bR s most Es,cells S [uPt pp,uPt pp,.bool false,.slice A0.p A0.fs.length A0.c,.int .i64 (A0.x:Nat),.int .u64 (key (rls Es) A0.x:Nat),uPt pp,.bool true,.slice B.p B.fs.length B.c,.int .i64 (B.x:Nat),.int .u64 (key (rls Es) B.x:Nat),.slice M0.p M0.its.length M0.c] 370,sl A0.p A0.c 389 8 A0.fs.length (eG (rls Es) A0.fs),sl B.p B.c 389 8 B.fs.length (eG (rls Es) B.fs),sl M0.p M0.c 400 4 M0.its.length (itsC (rls Es) M0.its)]
   (fun v Q=>∃(A' B':Sd)(M':Md),v= .tuple #[]∧GR (rls Es) l rl rr A0 B M0 A' B' M'∧Sng M'.its∧M'.its.length≤M0.its.length+2∧Q=[cells pp [uPt s,uPt tb] 117,tabP tb s (rls Es),bR s most Es,cells S [uPt pp,uPt pp,.bool false,.slice A'.p A'.fs.length A'.c,.int .i64 (A'.x:Nat),.int .u64 (key (rls Es) A'.x:Nat),uPt pp,.bool true,.slice B'.p B'.fs.length B'.c,.int .i64 (B'.x:Nat),.int .u64 (key (rls Es) B'.x:Nat),.slice M'.p M'.its.length M'.c] 370,sl A'.p A'.c 389 8 A'.fs.length (eG (rls Es) A'.fs),sl B'.p B'.c 389 8 B'.fs.length (eG (rls Es) B'.fs),sl M'.p M'.c 400 4 M'.its.length (itsC (rls Es) M'.its)]):=by
 refine eU (p:=bR s most Es) uK (fun _ h=>dS h) (fun hsay=>?_);have hw:=hsay.1;have hL:(rls Es).length≤1048576:=by have:=hsay.2.2;rw[bQ];unfold fP at this;omega
 have hl1:l≤1099511627776:=oO;have hov:∀{o:Option Fm},(l+1)%2=0→∀f:Fm,o=some f→f.hv=1:=fun h=>by omega
 refine bO (hE.fn Tryz.func266) O O O (fun R=>?_);simp only[dX,uV,uW];refine nM (fun q:Sd×Md=>[(0,uPt S),(1,.int .i64 ((l+1:Nat):Int))]) (fun q=>[cells pp [uPt s,uPt tb] 117,tabP tb s (rls Es),bR s most Es,cells S [uPt pp,uPt pp,.bool false,.slice q.1.p q.1.fs.length q.1.c,.int .i64 (q.1.x:Nat),.int .u64 (key (rls Es) q.1.x:Nat),uPt pp,.bool true,.slice B.p B.fs.length B.c,.int .i64 (B.x:Nat),.int .u64 (key (rls Es) B.x:Nat),.slice q.2.p q.2.its.length q.2.c] 370,sl q.1.p q.1.c 389 8 q.1.fs.length (eG (rls Es) q.1.fs),sl B.p B.c 389 8 B.fs.length (eG (rls Es) B.fs),sl q.2.p q.2.c 400 4 q.2.its.length (itsC (rls Es) q.2.its),R]) (fun q=>RL (rls Es) l rl q.1.x q.1.fs (dV q.2.its++seqE (rls Es) true l B.x B.fs)∧seqE (rls Es) false l q.1.x q.1.fs++dV q.2.its=seqE (rls Es) false l A0.x A0.fs++dV M0.its∧Sng q.2.its∧q.2.its.length≤M0.its.length+1∧(q.2.its=[]→M0.its=[]∧q.1=A0)∧∃a,q.2.its=a++M0.its∧a.length≤1) ?_ ?_
 ·obtain⟨A,hA⟩:∃A,A=A0:=⟨_,rfl⟩;obtain⟨M,hMM⟩:∃M,M=M0:=⟨_,rfl⟩;subst hA hMM;have eA:=eA0;have hM:=hM0;have hml:M.its.length≤1099511627776:=oO;have hfl:=eA.pl hw hL hs;have hpl:=qFz (rls Es) M.its;obtain⟨hf0,hf1⟩:=qPy (L:=rls Es) eB (fun it h=>(hM it h).2) hR0;refine gg3 ?_;refine uX (qPl hE) O ?_;rintro _ _⟨rfl,rfl⟩;simp only[uV,uW];refine gg17 ?_;refine bE O (fun h0=>?_) (fun h0=>?_)
  ·have hx:A.x≠0:=oO;obtain⟨k1,k2,k3,k4⟩:=eA.low hx;refine gg6 ?_;refine uX (ct_run hE (b:=S) (pre:=[uPt pp]) (suf:=[uPt pp,.bool true,.slice B.p B.fs.length B.c,.int .i64 (B.x:Nat),.int .u64 (key (rls Es) B.x:Nat),.slice M.p M.its.length M.c]) (fs:=A.fs) hw hL hs eA hx hodd) O ?_;rintro _ _⟨⟨o,ho,rfl⟩,rfl⟩;simp only[uV,uW];have hrf:=qMe hw hs eA hx hodd ho;refine gg11 ?_;refine qAz 32 O (fun h3=>?_) (fun h3=>?_)
   ·refine gg12 ?_;refine uN 21 ([cells S [uPt pp,uPt pp,.bool false,.slice A.p A.fs.length A.c,.int .i64 (A.x:Nat),.int .u64 (key (rls Es) A.x:Nat),uPt pp,.bool true,.slice B.p B.fs.length B.c,.int .i64 (B.x:Nat),.int .u64 (key (rls Es) B.x:Nat),.slice M.p M.its.length M.c] 370]) ?_;refine gg15 ?_;apply dG 15 O oK
    ·exact aB O
    ·rfl
    apply dG 16 O oK
    ·exact jK (hE.t O) O O
    ·rfl
    apply fI 17 O oK O;refine aU (hE.t O) (hE.t O) O O O (fun b58=>?_);refine uE ?_;apply fI 18 O oK O;refine uC (wU hE hml hpl (a1:=(A.x:Nat)) (a2:=0) (a3:=(key (rls Es) A.x:Nat)) (a4:=(many (rls Es) o:Nat))) O ?_;rintro _ _⟨g',c',rfl,rfl⟩;simp only[uV,uW];have ei:(.int .i64 (A.x:Nat):: .int .i64 0:: .int .u64 (key (rls Es) A.x:Nat):: .int .i64 (many (rls Es) o:Nat)::itsC (rls Es) M.its:List Value)=itsC (rls Es) (⟨A.x,0,many (rls Es) o⟩::M.its):=by rw[gV];rfl
    rw[ei];refine uE ?_;apply dG 19 O oK
    ·exact bA O
    ·rfl
    apply dG 20 O oK
    ·exact uBf O
    ·rfl
    apply iH O oK oK O;refine uS ?_;refine gg8 ?_;refine l_eq 67 (.int .i64 (l:Nat)) O (bW oO) ?_;have hdr:=lQ (pp:=pp) (tb:=tb) (s:=s) (most:=most) hE hB (b:=S) (bt:=370) (p:=A.p) (c:=A.c) (k:=key (rls Es) A.x) (pre:=[uPt pp]) (suf:=[uPt pp,.bool true,.slice B.p B.fs.length B.c,.int .i64 (B.x:Nat),.int .u64 (key (rls Es) B.x:Nat),.slice (⟨⟨A.x,0,many (rls Es) o⟩::M.its,some ⟨g',0,none⟩,c'⟩:Md).p (⟨⟨A.x,0,many (rls Es) o⟩::M.its,some ⟨g',0,none⟩,c'⟩:Md).its.length (⟨⟨A.x,0,many (rls Es) o⟩::M.its,some ⟨g',0,none⟩,c'⟩:Md).c]) hs k2 hrf.1 hl1;refine uX (hdr) O ?_;rintro _ _⟨x',gs',p',c'',rfl,q1,rfl⟩;simp only[uV,uW];refine gg1 ?_;have hmv:=mvd hw hs eA hx ho O hov q1;refine fZ (ι:=Sd×Md) (⟨x',gs',p',c''⟩,⟨⟨A.x,0,many (rls Es) o⟩::M.its,some ⟨g',0,none⟩,c'⟩) ⟨qIo hmv (by rw[vF,ah];exact qQp hrf.1.1 _),?_,qOt hM hrf.1.1,by simp only[av];omega,(fun h=>by cases h),[⟨A.x,0,many (rls Es) o⟩],rfl,ai _⟩ ⟨rfl,rfl,trivial⟩ ?_
    ·rw[hmv.seq,vF];simp[cat]
    exact uI
   refine gg17 ?_;refine bE O (fun h4=>?_) (fun h4=>?_)
   ·skip
    refine gg1 ?_;refine uN 21 ([cells S [uPt pp,uPt pp,.bool false,.slice A.p A.fs.length A.c,.int .i64 (A.x:Nat),.int .u64 (key (rls Es) A.x:Nat),uPt pp,.bool true,.slice B.p B.fs.length B.c,.int .i64 (B.x:Nat),.int .u64 (key (rls Es) B.x:Nat),.slice M.p M.its.length M.c] 370]) ?_;refine gg15 ?_;apply dG 15 O oK
    ·exact aB O
    ·rfl
    apply dG 16 O oK
    ·exact jK (hE.t O) O O
    ·rfl
    apply fI 17 O oK O;refine aU (hE.t O) (hE.t O) O O O (fun b58=>?_);refine uE ?_;apply fI 18 O oK O;refine uC (wU hE hml hpl (a1:=(A.x:Nat)) (a2:=0) (a3:=(key (rls Es) A.x:Nat)) (a4:=(many (rls Es) o:Nat))) O ?_;rintro _ _⟨g',c',rfl,rfl⟩;simp only[uV,uW];have ei:(.int .i64 (A.x:Nat):: .int .i64 0:: .int .u64 (key (rls Es) A.x:Nat):: .int .i64 (many (rls Es) o:Nat)::itsC (rls Es) M.its:List Value)=itsC (rls Es) (⟨A.x,0,many (rls Es) o⟩::M.its):=by rw[gV];rfl
    rw[ei];refine uE ?_;apply dG 19 O oK
    ·exact bA O
    ·rfl
    apply dG 20 O oK
    ·exact uBf O
    ·rfl
    apply iH O oK oK O;refine uS ?_;refine gg8 ?_;refine l_eq 67 (.int .i64 (l:Nat)) O (bW oO) ?_;have hdr:=lQ (pp:=pp) (tb:=tb) (s:=s) (most:=most) hE hB (b:=S) (bt:=370) (p:=A.p) (c:=A.c) (k:=key (rls Es) A.x) (pre:=[uPt pp]) (suf:=[uPt pp,.bool true,.slice B.p B.fs.length B.c,.int .i64 (B.x:Nat),.int .u64 (key (rls Es) B.x:Nat),.slice (⟨⟨A.x,0,many (rls Es) o⟩::M.its,some ⟨g',0,none⟩,c'⟩:Md).p (⟨⟨A.x,0,many (rls Es) o⟩::M.its,some ⟨g',0,none⟩,c'⟩:Md).its.length (⟨⟨A.x,0,many (rls Es) o⟩::M.its,some ⟨g',0,none⟩,c'⟩:Md).c]) hs k2 hrf.1 hl1;refine uX (hdr) O ?_;rintro _ _⟨x',gs',p',c'',rfl,q1,rfl⟩;simp only[uV,uW];refine gg1 ?_;have hmv:=mvd hw hs eA hx ho O hov q1;refine fZ (ι:=Sd×Md) (⟨x',gs',p',c''⟩,⟨⟨A.x,0,many (rls Es) o⟩::M.its,some ⟨g',0,none⟩,c'⟩) ⟨qIo hmv (by rw[vF,ah];exact qQp hrf.1.1 _),?_,qOt hM hrf.1.1,by simp only[av];omega,(fun h=>by cases h),[⟨A.x,0,many (rls Es) o⟩],rfl,ai _⟩ ⟨rfl,rfl,trivial⟩ ?_
    ·rw[hmv.seq,vF];simp[cat]
    exact uI
   refine gg1 ?_;refine fZ (ι:=Sd×Md) (A,M) ⟨rl_odd hw hs eA hx ho (hrf.2 h3) hodd (fun v hv e=>?_),O,hM,Nat.le_succ _,(fun h=>⟨h,O⟩),[],O,au _⟩ ⟨O,O,trivial⟩ ?_
   ·by_cases hz:fstS B M=0
    ·rw[hf0 hz]at hv;cases hv
    rw[hf1 hz]at hv;have e2:=lm hv;rw[←e]at e2;apply h4;rw[e2]
   exact uI
  have hx0:A.x=0:=oO;refine gg1 ?_;refine fZ (ι:=Sd×Md) (A,M) ⟨?_,O,hM,Nat.le_succ _,(fun h=>⟨h,O⟩),[],O,au _⟩ ⟨O,O,trivial⟩ ?_
  ·have:=qYc (L:=rls Es) (l:=l) (root:=rl) (fs:=A.fs) (Z:=dV M.its++seqE (rls Es) true l B.x B.fs) (by rw[←hx0];exact eA);rwa [←hx0]at this
  exact uI
 rintro⟨A,M⟩⟨hRL,hseq,hM,hml1,hne,ga,hga,hgal⟩;simp only at hRL hseq hM hml1 hne hga hgal ⊢;have hml:M.its.length≤1099511627776:=oO;have hfl:=eB.pl hw hL hsr
 have hR:∀x∈dV M.its,1≤x:=by
  intro x hx;have hmem:x∈seqE (rls Es) false l A0.x A0.fs++dV M0.its:=by rw[←hseq];simp[hx]
  rcases bn.1 hmem with h| h
  ·exact(eA0.mem hw hs x h).1
  exact(hR0 x h).1
 have hfin:∀(v:Value)(B':Sd)(M':Md),RR (rls Es) l rr B'.x B'.fs (dV M'.its)→dV M'.its++seqE (rls Es) true l B'.x B'.fs=dV M.its++seqE (rls Es) true l B.x B.fs→Sng M'.its→M'.its.length≤M.its.length+1→(M'.its=[]→M.its=[]∧B'=B)→(∃b,M'.its=M.its++b∧b.length≤1)→v= .tuple #[]→
   ∃(A' B'':Sd)(M'':Md),v= .tuple #[]∧GR (rls Es) l rl rr A0 B M0 A' B'' M''∧Sng M''.its∧M''.its.length≤M0.its.length+2∧[cells pp [uPt s,uPt tb] 117,tabP tb s (rls Es),bR s most Es,cells S [uPt pp,uPt pp,.bool false,.slice A.p A.fs.length A.c,.int .i64 (A.x:Nat),.int .u64 (key (rls Es) A.x:Nat),uPt pp,.bool true,.slice B'.p B'.fs.length B'.c,.int .i64 (B'.x:Nat),.int .u64 (key (rls Es) B'.x:Nat),.slice M'.p M'.its.length M'.c] 370,sl A.p A.c 389 8 A.fs.length (eG (rls Es) A.fs),sl B'.p B'.c 389 8 B'.fs.length (eG (rls Es) B'.fs),sl M'.p M'.c 400 4 M'.its.length (itsC (rls Es) M'.its)]=[cells pp [uPt s,uPt tb] 117,tabP tb s (rls Es),bR s most Es,cells S [uPt pp,uPt pp,.bool false,.slice A'.p A'.fs.length A'.c,.int .i64 (A'.x:Nat),.int .u64 (key (rls Es) A'.x:Nat),uPt pp,.bool true,.slice B''.p B''.fs.length B''.c,.int .i64 (B''.x:Nat),.int .u64 (key (rls Es) B''.x:Nat),.slice M''.p M''.its.length M''.c] 370,sl A'.p A'.c 389 8 A'.fs.length (eG (rls Es) A'.fs),sl B''.p B''.c 389 8 B''.fs.length (eG (rls Es) B''.fs),sl M''.p M''.c 400 4 M''.its.length (itsC (rls Es) M''.its)]:=by
  intro v B' M' h1 h2 h3 h4 h5 ⟨gb,hgb,hgbl⟩ h6;refine⟨A,B',M',h6,⟨by rw[h2];exact hRL,h1,?_,fun h=>?_,ga,gb,by rw[hgb,hga],hgal,hgbl⟩,h3,oO,rfl⟩
  ·rw[h2,←ah,hseq,ah]
  obtain⟨q1,q2⟩:=h5 h;exact⟨(hne q1).1,(hne q1).2,q2⟩
 refine gg3 ?_;refine uX (qUt hE hml) O ?_;rintro _ _⟨rfl,rfl⟩;simp only[uV,uW];have hlst:=qHy (L:=rls Es) (l:=l) (rl:=rr) (A:=A) hM;refine gg17 ?_;refine bE O (fun h0=>?_) (fun h0=>?_)
 ·have hx:B.x≠0:=oO;obtain⟨k1,k2,k3,k4⟩:=eB.low hx;refine gg6 ?_;refine uX (ct_run hE (b:=S) (pre:=[uPt pp,uPt pp,.bool false,.slice A.p A.fs.length A.c,.int .i64 (A.x:Nat),.int .u64 (key (rls Es) A.x:Nat)]) (suf:=[.slice M.p M.its.length M.c]) (fs:=B.fs) hw hL hsr eB hx hodd) O ?_;rintro _ _⟨⟨o,ho,rfl⟩,rfl⟩;simp only[uV,uW];have hrf:=qMe hw hsr eB hx hodd ho;refine gg11 ?_;refine qAz 89 O (fun h3=>?_) (fun h3=>?_)
  ·refine gg12 ?_;refine uN 21 ([cells S [uPt pp,uPt pp,.bool false,.slice A.p A.fs.length A.c,.int .i64 (A.x:Nat),.int .u64 (key (rls Es) A.x:Nat),uPt pp,.bool true,.slice B.p B.fs.length B.c,.int .i64 (B.x:Nat),.int .u64 (key (rls Es) B.x:Nat),.slice M.p M.its.length M.c] 370]) ?_;refine gg15 ?_;apply dG 15 O oK
   ·exact aB O
   ·rfl
   apply dG 16 O oK
   ·exact jK (hE.t O) O O
   ·rfl
   apply fI 17 O oK O;refine aU (hE.t O) (hE.t O) O O O (fun b115=>?_);refine uE ?_;apply fI 18 O oK O;apply bU (hE.t O) (hE.t O) O O O
   ·exact uK
   ·exact uK
   ·rfl
   ·rfl
   ·omega
   ·omega
   ·(unfold maxLen;omega)
   intro g116 c116 n116 x116 hn116 hx116;refine uE ?_;apply dG 19 O oK
   ·exact bA O
   ·rfl
   apply dG 20 O oK
   ·exact uBf O
   ·rfl
   apply iH O oK oK O;refine uS ?_;refine gg1 ?_;obtain rfl:x116=itsC (rls Es) (M.its++[⟨B.x,0,many (rls Es) o⟩]):=by rw[hx116,jC];rfl
   subst hn116;refine gg7 ?_;refine l_eq 124 (.int .i64 (l:Nat)) O (bW oO) ?_;have hdr:=lQ (pp:=pp) (tb:=tb) (s:=s) (most:=most) hE hB (b:=S) (bt:=370) (p:=B.p) (c:=B.c) (k:=key (rls Es) B.x) (pre:=[uPt pp,uPt pp,.bool false,.slice A.p A.fs.length A.c,.int .i64 (A.x:Nat),.int .u64 (key (rls Es) A.x:Nat)]) (suf:=[.slice (⟨M.its++[⟨B.x,0,many (rls Es) o⟩],some ⟨g116,0,none⟩,c116⟩:Md).p (⟨M.its++[⟨B.x,0,many (rls Es) o⟩],some ⟨g116,0,none⟩,c116⟩:Md).its.length (⟨M.its++[⟨B.x,0,many (rls Es) o⟩],some ⟨g116,0,none⟩,c116⟩:Md).c]) hsr k2 hrf.1 hl1;simp only[aa,az]at hdr;refine uX (hdr) O ?_;rintro _ _⟨x',gs',p',c'',rfl,q1,rfl⟩;simp only[uV,uW];refine gg1 ?_;have hmv:=mvd hw hsr eB hx ho O hov q1;apply yM
   ·rfl
   ·(exact Rs.nil)
   ·refine hfin _ ⟨x',gs',p',c''⟩ ⟨M.its++[⟨B.x,0,many (rls Es) o⟩],some ⟨g116,0,none⟩,c116⟩ (qIu hmv (.inr (.inl hodd)) (by rw[vE];exact qQr hrf.1.1 _)) ?_ (qOs hM hrf.1.1) (by simp only[aa,az];omega) (fun h=>by simp at h) ⟨_,rfl,ai _⟩ rfl;rw[hmv.seq,vE];simp[cat]
   simp only[aa,az];exact uI
  refine gg17 ?_;refine bE O (fun h4=>?_) (fun h4=>?_)
  ·skip
   refine gg1 ?_;refine uN 21 ([cells S [uPt pp,uPt pp,.bool false,.slice A.p A.fs.length A.c,.int .i64 (A.x:Nat),.int .u64 (key (rls Es) A.x:Nat),uPt pp,.bool true,.slice B.p B.fs.length B.c,.int .i64 (B.x:Nat),.int .u64 (key (rls Es) B.x:Nat),.slice M.p M.its.length M.c] 370]) ?_;refine gg15 ?_;apply dG 15 O oK
   ·exact aB O
   ·rfl
   apply dG 16 O oK
   ·exact jK (hE.t O) O O
   ·rfl
   apply fI 17 O oK O;refine aU (hE.t O) (hE.t O) O O O (fun b115=>?_);refine uE ?_;apply fI 18 O oK O;apply bU (hE.t O) (hE.t O) O O O
   ·exact uK
   ·exact uK
   ·rfl
   ·rfl
   ·omega
   ·omega
   ·(unfold maxLen;omega)
   intro g116 c116 n116 x116 hn116 hx116;refine uE ?_;apply dG 19 O oK
   ·exact bA O
   ·rfl
   apply dG 20 O oK
   ·exact uBf O
   ·rfl
   apply iH O oK oK O;refine uS ?_;refine gg1 ?_;obtain rfl:x116=itsC (rls Es) (M.its++[⟨B.x,0,many (rls Es) o⟩]):=by rw[hx116,jC];rfl
   subst hn116;refine gg7 ?_;refine l_eq 124 (.int .i64 (l:Nat)) O (bW oO) ?_;have hdr:=lQ (pp:=pp) (tb:=tb) (s:=s) (most:=most) hE hB (b:=S) (bt:=370) (p:=B.p) (c:=B.c) (k:=key (rls Es) B.x) (pre:=[uPt pp,uPt pp,.bool false,.slice A.p A.fs.length A.c,.int .i64 (A.x:Nat),.int .u64 (key (rls Es) A.x:Nat)]) (suf:=[.slice (⟨M.its++[⟨B.x,0,many (rls Es) o⟩],some ⟨g116,0,none⟩,c116⟩:Md).p (⟨M.its++[⟨B.x,0,many (rls Es) o⟩],some ⟨g116,0,none⟩,c116⟩:Md).its.length (⟨M.its++[⟨B.x,0,many (rls Es) o⟩],some ⟨g116,0,none⟩,c116⟩:Md).c]) hsr k2 hrf.1 hl1;simp only[aa,az]at hdr;refine uX (hdr) O ?_;rintro _ _⟨x',gs',p',c'',rfl,q1,rfl⟩;simp only[uV,uW];refine gg1 ?_;have hmv:=mvd hw hsr eB hx ho O hov q1;apply yM
   ·rfl
   ·(exact Rs.nil)
   ·refine hfin _ ⟨x',gs',p',c''⟩ ⟨M.its++[⟨B.x,0,many (rls Es) o⟩],some ⟨g116,0,none⟩,c116⟩ (qIu hmv (.inr (.inl hodd)) (by rw[vE];exact qQr hrf.1.1 _)) ?_ (qOs hM hrf.1.1) (by simp only[aa,az];omega) (fun h=>by simp at h) ⟨_,rfl,ai _⟩ rfl;rw[hmv.seq,vE];simp[cat]
   simp only[aa,az];exact uI
  refine gg1 ?_;apply yM
  ·rfl
  ·(exact Rs.nil)
  ·refine hfin _ B M (rr_odd hw hsr eB hx ho (hrf.2 h3) hodd (fun u hu e=>?_)) O hM oO (fun h=>⟨h,O⟩) ⟨[],by simp,by simp⟩ rfl;have:=hlst u hu;omega
  exact uI
 have hx0:B.x=0:=oO;refine gg1 ?_;apply yM
 ·rfl
 ·(exact Rs.nil)
 ·refine hfin _ B M ?_ O hM oO (fun h=>⟨h,O⟩) ⟨[],by simp,by simp⟩ rfl;have:=qIv (L:=rls Es) (l:=l) (root:=rr) (fs:=B.fs) (M:=dV M.its) (by rw[←hx0];exact eB);rwa [←hx0]at this
 exact uI
end
section
variable {E:Env}{Es:List Ent}{pp tb s most S:Nat}
def ItT (L:List Rl)(its:List It):Prop:=∀it∈its,1≤it.times∧(it.next=0→it.times=1)∧(it.next≠0→key L it.next=key L it.id)
def pF {its:List It}(h:∀it∈its,1≤it.times):its.length≤(dV its).length:=by
 induction its with
 |nil=>exact ai _
 |cons it its ih=>
  have h1:=ih fun i hi=>h i (by simp[hi])
  have h2:=vI (h it (by simp))
  have h3:1≤(itF it).length:=by
   cases e:itF it with
   |nil=>rw[e]at h2;simp at h2
   |cons a b=>simp
  rw[iC,aa,av]
  omega
def rP {c x y:Nat}(h:c=122):eY c x y↔x=y:=by unfold eY;rw[if_pos h]
def qNx {L:List Rl}{its:List It}{it:It}(h:ItT L its)(h1:1≤it.times∧(it.next=0→it.times=1)∧(it.next≠0→key L it.next=key L it.id)):ItT L (its++[it]):=fun i hi=>by
 rcases bn.1 hi with hi|hi
 ·exact h i hi
 obtain rfl:=bg.1 hi;exact h1
def qXp {a b t:Nat}(h:1≤t)(hb:b≠0)(r:List Nat):(r++itF ⟨a,b,t⟩).getLast?=some b:=by
 obtain⟨m,rfl⟩:∃m,t=m+1:=⟨t-1,oO⟩;unfold itF;simp only[if_neg hb];rw[lg,xm,←ah];simp
def EO.ids {L:List Rl}(hw:Wf L){bh:Bool}{l root x:Nat}{fs:List Fm}(hs:Sig L root)(h:EO L bh l root x fs):x≤L.length∧∀f∈fs,1≤f.id∧f.id≤L.length:=by
 rcases h.lk with⟨rfl,rfl⟩|⟨h1,h2,h3⟩
 ·simp
 have ok:=h2.ok hw hs;exact⟨ok.2.1,fun f hf=>⟨(ok.2.2.2 f hf).1,(ok.2.2.2 f hf).2.1⟩⟩
def EO.adj {L:List Rl}(hw:Wf L){l root x a:Nat}{fs:List Fm}{r:List Nat}(hs:Sig L root)(he:EO L true l root x fs)(hx:x≠0)(hev:(l+1)%2=0)(h:seqE L true l x fs=a::a::r):False:=by
 obtain⟨_,h2,_,_⟩:=he.low hx;have hf:=h2.full hw he.hi;have hin:=hs.inv (l+1) oO;have e:expd L l root=cutS L true l fs++seqE L true l x fs:=by rw[hf];rfl
 rw[dw,e,h]at hin;have:=(hin.same (cutS L true l fs).length a (by rw[ax (ai _),oW];rfl) (by rw[ax oO,oh];rfl)).1;omega
structure StrG where
 B:Sd
 M:Md
structure StrI (L:List Rl)(l rr k0:Nat)(B0:Sd)(M0:Md)(y:StrG):Prop where
 eo:EO L true l rr y.B.x y.B.fs
 itt:ItT L y.M.its
 row:dV y.M.its++seqE L true l y.B.x y.B.fs=dV M0.its++seqE L true l B0.x B0.fs
 bb:(y.B=B0∧y.M=M0)∨(BB L (l+1) y.B.fs∧y.M.its≠[]∧∀u,(dV y.M.its).getLast?=some u→key L u=k0)
 grow:Dk L→∃d,y.M.its=M0.its++d∧d.length≤1∧(d≠[]→y.B.x≠B0.x)
def qLu {L:List Rl}{gs:List Fm}{f:Fm}:(eG L (gs++[f]))[(eG L gs).length+3]?=some (.int .i64 (Rl.left (rlAt L f.id):Nat))∧(eG L (gs++[f]))[(eG L gs).length+4]?=some (.int .i64 (Rl.right (rlAt L f.id):Nat)):=by
 rw[kK];exact⟨ap_3,ap_4⟩
def qLf {L:List Rl}{is:List It}{it:It}:(itsC L (is++[it]))[(itsC L is).length+2]?=some (.int .u64 (key L it.id:Nat)):=by rw[jC];exact ap_2
def qAn (hE:Seat E)(hB:Base E.w0){l rr:Nat}{A B0:Sd}{M0:Md}(hs:Sig (rls Es) rr)(eB0:EO (rls Es) true l rr B0.x B0.fs)(hM0:Sng M0.its)(hI0:ItT (rls Es) M0.its)(hR:∀x∈dV M0.its,1≤x∧x≤(rls Es).length) (hlen:(dV M0.its++seqE (rls Es) true l B0.x B0.fs).length≤1000000000) (hev:(l+1)%2=0) (hll:l+1<1000000000000) (hn:num (l+1)=122):
  Ct E 269 [uPt S,.int .i64 ((l+1:Nat):Int)] [cells pp [uPt s,uPt tb] 117,tabP tb s (rls Es),bR s most Es,cells S [uPt pp,uPt pp,.bool false,.slice A.p A.fs.length A.c,.int .i64 (A.x:Nat),.int .u64 (key (rls Es) A.x:Nat),uPt pp,.bool true,.slice B0.p B0.fs.length B0.c,.int .i64 (B0.x:Nat),.int .u64 (key (rls Es) B0.x:Nat),.slice M0.p M0.its.length M0.c] 370,sl A.p A.c 389 8 A.fs.length (eG (rls Es) A.fs),sl B0.p B0.c 389 8 B0.fs.length (eG (rls Es) B0.fs),sl M0.p M0.c 400 4 M0.its.length (itsC (rls Es) M0.its)]
   (fun v Q=>∃(B':Sd)(M':Md),v= .tuple #[]∧RR (rls Es) l rr B'.x B'.fs (dV M'.its)∧dV M'.its++seqE (rls Es) true l B'.x B'.fs=dV M0.its++seqE (rls Es) true l B0.x B0.fs∧ItT (rls Es) M'.its∧(M'.its=[]→M0.its=[]∧B'=B0)∧(Dk (rls Es)→∃b,M'.its=M0.its++b∧b.length≤1)∧Q=[cells pp [uPt s,uPt tb] 117,tabP tb s (rls Es),bR s most Es,cells S [uPt pp,uPt pp,.bool false,.slice A.p A.fs.length A.c,.int .i64 (A.x:Nat),.int .u64 (key (rls Es) A.x:Nat),uPt pp,.bool true,.slice B'.p B'.fs.length B'.c,.int .i64 (B'.x:Nat),.int .u64 (key (rls Es) B'.x:Nat),.slice M'.p M'.its.length M'.c] 370,sl A.p A.c 389 8 A.fs.length (eG (rls Es) A.fs),sl B'.p B'.c 389 8 B'.fs.length (eG (rls Es) B'.fs),sl M'.p M'.c 400 4 M'.its.length (itsC (rls Es) M'.its)]):=by
 refine eU (p:=bR s most Es) uK (fun _ h=>dS h) (fun hsay=>?_);have hw:=hsay.1;have hL:(rls Es).length≤1048576:=by have:=hsay.2.2;rw[bQ];unfold fP at this;omega
 have hfl0:=eB0.pl hw hL hs;have hl1:l≤1099511627776:=oO
 have hml0:M0.its.length≤1000000000:=by
  have:=pF (its:=M0.its) fun it h=>(hI0 it h).1
  rw[aa]at hlen;omega
 have same:RR (rls Es) l rr B0.x B0.fs (dV M0.its)→∃(B':Sd)(M':Md),Value.tuple #[]= .tuple #[]∧RR (rls Es) l rr B'.x B'.fs (dV M'.its)∧dV M'.its++seqE (rls Es) true l B'.x B'.fs=dV M0.its++seqE (rls Es) true l B0.x B0.fs∧ItT (rls Es) M'.its∧(M'.its=[]→M0.its=[]∧B'=B0)∧(Dk (rls Es)→∃b,M'.its=M0.its++b∧b.length≤1)∧[cells pp [uPt s,uPt tb] 117,tabP tb s (rls Es),bR s most Es,cells S [uPt pp,uPt pp,.bool false,.slice A.p A.fs.length A.c,.int .i64 (A.x:Nat),.int .u64 (key (rls Es) A.x:Nat),uPt pp,.bool true,.slice B0.p B0.fs.length B0.c,.int .i64 (B0.x:Nat),.int .u64 (key (rls Es) B0.x:Nat),.slice M0.p M0.its.length M0.c] 370,sl A.p A.c 389 8 A.fs.length (eG (rls Es) A.fs),sl B0.p B0.c 389 8 B0.fs.length (eG (rls Es) B0.fs),sl M0.p M0.c 400 4 M0.its.length (itsC (rls Es) M0.its)]=[cells pp [uPt s,uPt tb] 117,tabP tb s (rls Es),bR s most Es,cells S [uPt pp,uPt pp,.bool false,.slice A.p A.fs.length A.c,.int .i64 (A.x:Nat),.int .u64 (key (rls Es) A.x:Nat),uPt pp,.bool true,.slice B'.p B'.fs.length B'.c,.int .i64 (B'.x:Nat),.int .u64 (key (rls Es) B'.x:Nat),.slice M'.p M'.its.length M'.c] 370,sl A.p A.c 389 8 A.fs.length (eG (rls Es) A.fs),sl B'.p B'.c 389 8 B'.fs.length (eG (rls Es) B'.fs),sl M'.p M'.c 400 4 M'.its.length (itsC (rls Es) M'.its)]:=fun h=>⟨B0,M0,O,h,O,hI0,(fun h=>⟨h,O⟩),(fun _=>⟨[],by simp,by simp⟩),rfl⟩
 refine bO (hE.fn Tryz.func269) O O O (fun R=>?_);simp only[dX,uV,uW];refine gg11 ?_;refine bE O (fun h0=>?_) (fun h0=>?_)
 ·have hx0:B0.x=0:=oO;refine gg2 ?_;apply cB
  ·rfl
  ·(exact Rs.nil)
  ·refine same ?_;have:=qIv (L:=rls Es) (l:=l) (root:=rr) (fs:=B0.fs) (M:=dV M0.its) (by rw[←hx0];exact eB0);rwa [←hx0]at this
  exact uI
 have hx0:B0.x≠0:=oO;refine gg12 ?_;refine nM (fun q:Nat=>[(0,uPt S),(1,.int .i64 ((l+1:Nat):Int)),(4,.int .u64 (key (rls Es) B0.x:Nat))]) (fun q=>[cells pp [uPt s,uPt tb] 117,tabP tb s (rls Es),bR s most Es,cells S [uPt pp,uPt pp,.bool false,.slice A.p A.fs.length A.c,.int .i64 (A.x:Nat),.int .u64 (key (rls Es) A.x:Nat),uPt pp,.bool true,.slice B0.p B0.fs.length B0.c,.int .i64 (B0.x:Nat),.int .u64 (key (rls Es) B0.x:Nat),.slice M0.p M0.its.length M0.c] 370,sl A.p A.c 389 8 A.fs.length (eG (rls Es) A.fs),sl B0.p B0.c 389 8 B0.fs.length (eG (rls Es) B0.fs),sl M0.p M0.c 400 4 M0.its.length (itsC (rls Es) M0.its),R]) (fun q=>True) ?_ ?_
 ·refine gg6 ?_;refine uX (nX hE (b:=S) (pre:=[uPt pp,uPt pp,.bool false,.slice A.p A.fs.length A.c,.int .i64 (A.x:Nat),.int .u64 (key (rls Es) A.x:Nat)]) (suf:=[.slice M0.p M0.its.length M0.c]) (fs:=B0.fs) hfl0) O ?_;rintro v _⟨⟨o,ho,hv⟩,rfl⟩;simp only[uV,uW];refine gg3 ?_;have early:(∀f,o=some f→f.hv=2)→(∀u,(dV M0.its).getLast?=some u→key (rls Es) u≠key (rls Es) B0.x)→RR (rls Es) l rr B0.x B0.fs (dV M0.its):=fun h1 h2=>qIt hw hs eB0 hx0 ho h1 hev fun u hu hf=>h2 u hu ((rP hn).1 hf)
  have hlast:∀is it u,M0.its=is++[it]→(dV M0.its).getLast?=some u→u=it.id:=fun is it u e hu=>by
   have h1:=qHy (L:=rls Es) (l:=l) (rl:=rr) (A:=A) hM0 u hu;rw[←h1];simp[lstS,e]
  cases o with
  |none=>
   obtain rfl:v= .pointer none:=hv
   refine gg14 ?_
   have h22:∀f',(none:Option Fm)=some f'→f'.hv=2:=fun f' e=>by cases e
   refine gg15 ?_
   refine eF 42 O (fun h4=>?_) (fun h4=>?_)
   ·have hm0:M0.its=[]:=dh oO
    refine gg17 ?_
    apply cB
    ·rfl
    ·(exact Rs.nil)
    ·refine same (early h22 fun u hu=>?_)
     rw[hm0]at hu
     simp[dV]at hu
    exact uI
   obtain⟨is,it,hmi⟩:∃is it,M0.its=is++[it]:=by
    rcases bu M0.its with h|⟨is,it,h⟩
    ·rw[h]at h4;simp at h4
    exact⟨is,it,by rw[h,bv]⟩
   have hil:M0.its.length=is.length+1:=by rw[hmi];simp
   refine sZ (p:=sl M0.p M0.c 400 4 M0.its.length (itsC (rls Es) M0.its)) uK (fun _ h=>fA h oO) ?_
   rintro⟨gm,hpm⟩
   have f2:(itsC (rls Es) M0.its)[(itsC (rls Es) is).length+2]?=some (.int .u64 (key (rls Es) it.id:Nat)):=by rw[hmi];exact qLf
   rw[hpm]
   refine gg14 ?_
   refine l_eq 49 _ O (pJ (L:=rls Es) (its:=is) hil) ?_
   refine gg11 ?_
   refine bE O (fun h5=>?_) (fun h5=>?_)
   ·refine gg2 ?_
    apply cB
    ·rfl
    ·(exact Rs.nil)
    ·refine same (early h22 fun u hu e=>?_)
     rw[hlast is it u hmi hu]at e
     omega
    rw[hpm]
    exact uI
   refine gg1 ?_
   rw[←hpm]
   refine fZ (ι:=Nat) 0 trivial ⟨O,O,O,trivial⟩ ?_
   exact uI
  |some f=>
   obtain⟨gs,g,hfs,hp,rfl⟩:=hv
   have f7:(eG (rls Es) B0.fs)[(eG (rls Es) gs).length+7]?=some (.int .i64 (f.hv:Nat)):=by rw[hfs];exact qDp
   rw[hp]
   refine gg18 ?_
   refine bE O (fun h2=>?_) (fun h2=>?_)
   ·have h22:∀f',some f=some f'→f'.hv=2:=fun f' e=>by cases e;omega
    rw[←hp]
    refine gg15 ?_
    refine eF 42 O (fun h4=>?_) (fun h4=>?_)
    ·have hm0:M0.its=[]:=dh oO
     refine gg17 ?_
     apply cB
     ·rfl
     ·(exact Rs.nil)
     ·refine same (early h22 fun u hu=>?_)
      rw[hm0]at hu
      simp[dV]at hu
     exact uI
    obtain⟨is,it,hmi⟩:∃is it,M0.its=is++[it]:=by
     rcases bu M0.its with h|⟨is,it,h⟩
     ·rw[h]at h4;simp at h4
     exact⟨is,it,by rw[h,bv]⟩
    have hil:M0.its.length=is.length+1:=by rw[hmi];simp
    refine sZ (p:=sl M0.p M0.c 400 4 M0.its.length (itsC (rls Es) M0.its)) uK (fun _ h=>fA h oO) ?_
    rintro⟨gm,hpm⟩
    have f2:(itsC (rls Es) M0.its)[(itsC (rls Es) is).length+2]?=some (.int .u64 (key (rls Es) it.id:Nat)):=by rw[hmi];exact qLf
    rw[hpm]
    refine gg14 ?_
    refine l_eq 49 _ O (pJ (L:=rls Es) (its:=is) hil) ?_
    refine gg11 ?_
    refine bE O (fun h5=>?_) (fun h5=>?_)
    ·refine gg2 ?_
     apply cB
     ·rfl
     ·(exact Rs.nil)
     ·refine same (early h22 fun u hu e=>?_)
      rw[hlast is it u hmi hu]at e
      omega
     rw[hpm]
     exact uI
    refine gg1 ?_
    rw[←hpm]
    refine fZ (ι:=Nat) 0 trivial ⟨O,O,O,trivial⟩ ?_
    exact uI
   refine gg1 ?_
   rw[←hp]
   refine fZ (ι:=Nat) 0 trivial ⟨O,O,O,trivial⟩ ?_
   exact uI
 rintro _ -;refine gg1 ?_;refine eQ (fun y:StrG=>[(0,uPt S),(1,.int .i64 ((l+1:Nat):Int)),(4,.int .u64 (key (rls Es) B0.x:Nat))]) (fun y=>[cells pp [uPt s,uPt tb] 117,tabP tb s (rls Es),bR s most Es,cells S [uPt pp,uPt pp,.bool false,.slice A.p A.fs.length A.c,.int .i64 (A.x:Nat),.int .u64 (key (rls Es) A.x:Nat),uPt pp,.bool true,.slice y.B.p y.B.fs.length y.B.c,.int .i64 (y.B.x:Nat),.int .u64 (key (rls Es) y.B.x:Nat),.slice y.M.p y.M.its.length y.M.c] 370,sl A.p A.c 389 8 A.fs.length (eG (rls Es) A.fs),sl y.B.p y.B.c 389 8 y.B.fs.length (eG (rls Es) y.B.fs),sl y.M.p y.M.c 400 4 y.M.its.length (itsC (rls Es) y.M.its),R]) (fun y=>(seqE (rls Es) true l y.B.x y.B.fs).length) (fun y=>StrI (rls Es) l rr (key (rls Es) B0.x) B0 M0 y) ⟨B0,M0⟩ ⟨eB0,hI0,O,.inl ⟨O,O⟩,fun _=>⟨[],by simp,by simp,fun h=>absurd rfl h⟩⟩ ⟨rfl,rfl,rfl,trivial⟩ ?_ ?_
 ·exact uI
 rintro⟨B,M⟩⟨eB,hI,hrow,hbb,hgr⟩;simp only at eB hI hrow hbb hgr ⊢
 have hml:M.its.length≤1000000000:=by
  have h1:=pF (its:=M.its) fun it h=>(hI it h).1
  rw[←hrow,aa]at hlen;omega
 have hfl:=eB.pl hw hL hs
 have fin:(B.x=0∨key (rls Es) B.x≠key (rls Es) B0.x)→∃(B':Sd)(M':Md),Value.tuple #[]= .tuple #[]∧RR (rls Es) l rr B'.x B'.fs (dV M'.its)∧dV M'.its++seqE (rls Es) true l B'.x B'.fs=dV M0.its++seqE (rls Es) true l B0.x B0.fs∧ItT (rls Es) M'.its∧(M'.its=[]→M0.its=[]∧B'=B0)∧(Dk (rls Es)→∃b,M'.its=M0.its++b∧b.length≤1)∧[cells pp [uPt s,uPt tb] 117,tabP tb s (rls Es),bR s most Es,cells S [uPt pp,uPt pp,.bool false,.slice A.p A.fs.length A.c,.int .i64 (A.x:Nat),.int .u64 (key (rls Es) A.x:Nat),uPt pp,.bool true,.slice B.p B.fs.length B.c,.int .i64 (B.x:Nat),.int .u64 (key (rls Es) B.x:Nat),.slice M.p M.its.length M.c] 370,sl A.p A.c 389 8 A.fs.length (eG (rls Es) A.fs),sl B.p B.c 389 8 B.fs.length (eG (rls Es) B.fs),sl M.p M.c 400 4 M.its.length (itsC (rls Es) M.its)]=[cells pp [uPt s,uPt tb] 117,tabP tb s (rls Es),bR s most Es,cells S [uPt pp,uPt pp,.bool false,.slice A.p A.fs.length A.c,.int .i64 (A.x:Nat),.int .u64 (key (rls Es) A.x:Nat),uPt pp,.bool true,.slice B'.p B'.fs.length B'.c,.int .i64 (B'.x:Nat),.int .u64 (key (rls Es) B'.x:Nat),.slice M'.p M'.its.length M'.c] 370,sl A.p A.c 389 8 A.fs.length (eG (rls Es) A.fs),sl B'.p B'.c 389 8 B'.fs.length (eG (rls Es) B'.fs),sl M'.p M'.c 400 4 M'.its.length (itsC (rls Es) M'.its)]:=by
  intro hc;refine⟨B,M,O,?_,hrow,hI,?_,fun hd=>(hgr hd).imp fun _ h=>⟨h.1,h.2.1⟩,O⟩
  ·rcases hbb with⟨rfl,rfl⟩|⟨h1,h2,h3⟩
   ·rcases hc with h| h
    ·exact absurd h hx0
    exact absurd O h
   by_cases hx:B.x=0
   ·have:=qIv (L:=rls Es) (l:=l) (root:=rr) (fs:=B.fs) (M:=dV M.its) (by rw[←hx];exact eB);rwa [←hx]at this
   refine⟨eB,h1,fun u v e1 e2=>?_⟩;rw[eB.head hx]at e2;cases e2
   rw[if_neg oO,rP hn,h3 u e1];rcases hc with h| h
   ·exact absurd h hx
   exact fun e=>h e.symm
  intro h;rcases hbb with⟨rfl,rfl⟩|⟨h1,h2,h3⟩
  ·exact⟨h,O⟩
  exact absurd h h2
 refine gg10 ?_;refine eF 61 O (fun g0=>?_) (fun g0=>?_)
 ·refine gg17 ?_;refine bE O (fun g1=>?_) (fun g1=>?_)
  ·have hx:B.x≠0:=oO;have hkk:key (rls Es) B.x=key (rls Es) B0.x:=oO;obtain⟨k1,k2,k3,k4⟩:=eB.low hx;have hRB:=eB.mem hw hs;refine gg9 ?_;refine uX (nX hE (b:=S) (pre:=[uPt pp,uPt pp,.bool false,.slice A.p A.fs.length A.c,.int .i64 (A.x:Nat),.int .u64 (key (rls Es) A.x:Nat)]) (suf:=[.slice M.p M.its.length M.c]) (fs:=B.fs) hfl) O ?_;rintro v _⟨⟨o,ho,hv⟩,rfl⟩;simp only[uV,uW];refine gg3 ?_;cases o with
   |none=>
    obtain rfl:v= .pointer none:=hv
    have hmt:1=many (rls Es) none:=rfl
    have hov:(l+1)%2=0→∀f:Fm,none=some f→f.hv=1:=fun _ f e=>by cases e
    refine gg16 ?_
    refine uN 16 ([cells S [uPt pp,uPt pp,.bool false,.slice A.p A.fs.length A.c,.int .i64 (A.x:Nat),.int .u64 (key (rls Es) A.x:Nat),uPt pp,.bool true,.slice B.p B.fs.length B.c,.int .i64 (B.x:Nat),.int .u64 (key (rls Es) B.x:Nat),.slice M.p M.its.length M.c] 370]) ?_
    refine gg10 ?_
    apply dG 10 O oK
    ·exact aB O
    ·rfl
    apply dG 11 O oK
    ·exact jK (hE.t O) O O
    ·rfl
    apply fI 12 O oK O
    refine aU (hE.t O) (hE.t O) O O O (fun b96=>?_)
    refine uE ?_
    apply fI 13 O oK O
    apply bU (hE.t O) (hE.t O) O O O
    ·exact uK
    ·exact uK
    ·rfl
    ·rfl
    ·omega
    ·omega
    ·(unfold maxLen;omega)
    intro g97 c97 n97 x97 hn97 hx97
    refine uE ?_
    apply dG 14 O oK
    ·exact bA O
    ·rfl
    apply dG 15 O oK
    ·exact uBf O
    ·rfl
    apply iH O oK oK O
    refine uS ?_
    refine gg1 ?_
    obtain rfl:x97=itsC (rls Es) (M.its++[⟨B.x,0,1⟩]):=by rw[hx97,jC];simp only;rw[hkk];rfl
    subst hn97
    refine gg7 ?_
    refine l_eq 104 (.int .i64 (l:Nat)) O (bW oO) ?_
    have hdr:=lQ (pp:=pp) (tb:=tb) (s:=s) (most:=most) hE hB (b:=S) (bt:=370) (p:=B.p) (c:=B.c) (k:=key (rls Es) B.x) (pre:=[uPt pp,uPt pp,.bool false,.slice A.p A.fs.length A.c,.int .i64 (A.x:Nat),.int .u64 (key (rls Es) A.x:Nat)]) (suf:=[.slice (⟨M.its++[⟨B.x,0,1⟩],some ⟨g97,0,none⟩,c97⟩:Md).p (⟨M.its++[⟨B.x,0,1⟩],some ⟨g97,0,none⟩,c97⟩:Md).its.length (⟨M.its++[⟨B.x,0,1⟩],some ⟨g97,0,none⟩,c97⟩:Md).c]) hs k2 (sO k2) hl1
    simp only[aa,az]at hdr
    refine uX (hdr) O ?_
    rintro _ _⟨x',gs',p',c'',rfl,q1,rfl⟩
    simp only[uV,uW]
    refine gg5 ?_
    have hmv:=mvd hw hs eB hx ho hmt hov q1
    refine bS (ι:=StrG) (j:=⟨⟨x',gs',p',c''⟩,⟨M.its++[⟨B.x,0,1⟩],some ⟨g97,0,none⟩,c97⟩⟩) ⟨hmv.eo,qNx hI ⟨ai _,fun _=>O,fun h=>absurd O h⟩,?_,.inr ⟨hmv.bb,by simp,fun u hu=>?_⟩,fun hd=>?_⟩ ?_ ⟨rfl,rfl,rfl,trivial⟩ ?_
    ·rw[←hrow,hmv.seq]
     simp only
     rw[sQ]
     simp[cat]
    ·simp only at hu
     rw[qBa]at hu
     cases hu
     exact hkk
    ·obtain⟨d,d1,d2,d3⟩:=hgr hd
     have hbx:B.x=B0.x:=hd _ _ oO (eB.ids hw hs).1 oO (eB0.ids hw hs).1 hkk
     have hd0:d=[]:=Classical.byContradiction fun h=>d3 h hbx
     subst hd0
     refine⟨[⟨B.x,0,1⟩],by show M.its++[_]=_;rw[d1,aj],ai _,fun _ e=>?_⟩
     have e':x'=B.x:=by rw[hbx];exact e
     have hsq:=hmv.seq
     have hx':x'≠0:=oO
     have hhd:=hmv.eo.head hx'
     cases es:seqE (rls Es) true l x' gs' with
     |nil=>rw[es]at hhd;simp at hhd
     |cons q qs=>
      rw[es]at hhd hsq
      simp at hhd
      refine eB.adj (a:=B.x) (r:=qs) hw hs hx hev ?_
      rw[hsq,hhd,e']
      rfl
    ·show(seqE (rls Es) true l x' gs').length<(seqE (rls Es) true l B.x B.fs).length
     rw[hmv.seq]
     simp[cat]
    simp only[aa,az]
    exact uI
   |some f=>
    obtain⟨gs,g,hfs,hp,rfl⟩:=hv
    have f7:(eG (rls Es) B.fs)[(eG (rls Es) gs).length+7]?=some (.int .i64 (f.hv:Nat)):=by rw[hfs];exact qDp
    obtain⟨_,a,b,hfs2,l1,l2,l3,l4,l5,l6,hch,hft,hla,hlb⟩:=pR hw hs eB hx ho hev
    rw[hp]
    refine gg19 ?_
    refine bE O (fun g2=>?_) (fun g2=>?_)
    ·have hmt:=(qDi l4).symm
     have hov:(l+1)%2=0→∀f':Fm,some f=some f'→f'.hv=1:=fun _ f' e=>by cases e;omega
     rw[←hp]
     refine gg1 ?_
     refine uN 16 ([cells S [uPt pp,uPt pp,.bool false,.slice A.p A.fs.length A.c,.int .i64 (A.x:Nat),.int .u64 (key (rls Es) A.x:Nat),uPt pp,.bool true,.slice B.p B.fs.length B.c,.int .i64 (B.x:Nat),.int .u64 (key (rls Es) B.x:Nat),.slice M.p M.its.length M.c] 370]) ?_
     refine gg10 ?_
     apply dG 10 O oK
     ·exact aB O
     ·rfl
     apply dG 11 O oK
     ·exact jK (hE.t O) O O
     ·rfl
     apply fI 12 O oK O
     refine aU (hE.t O) (hE.t O) O O O (fun b96=>?_)
     refine uE ?_
     apply fI 13 O oK O
     apply bU (hE.t O) (hE.t O) O O O
     ·exact uK
     ·exact uK
     ·rfl
     ·rfl
     ·omega
     ·omega
     ·(unfold maxLen;omega)
     intro g97 c97 n97 x97 hn97 hx97
     refine uE ?_
     apply dG 14 O oK
     ·exact bA O
     ·rfl
     apply dG 15 O oK
     ·exact uBf O
     ·rfl
     apply iH O oK oK O
     refine uS ?_
     refine gg1 ?_
     obtain rfl:x97=itsC (rls Es) (M.its++[⟨B.x,0,1⟩]):=by rw[hx97,jC];simp only;rw[hkk];rfl
     subst hn97
     refine gg7 ?_
     refine l_eq 104 (.int .i64 (l:Nat)) O (bW oO) ?_
     have hdr:=lQ (pp:=pp) (tb:=tb) (s:=s) (most:=most) hE hB (b:=S) (bt:=370) (p:=B.p) (c:=B.c) (k:=key (rls Es) B.x) (pre:=[uPt pp,uPt pp,.bool false,.slice A.p A.fs.length A.c,.int .i64 (A.x:Nat),.int .u64 (key (rls Es) A.x:Nat)]) (suf:=[.slice (⟨M.its++[⟨B.x,0,1⟩],some ⟨g97,0,none⟩,c97⟩:Md).p (⟨M.its++[⟨B.x,0,1⟩],some ⟨g97,0,none⟩,c97⟩:Md).its.length (⟨M.its++[⟨B.x,0,1⟩],some ⟨g97,0,none⟩,c97⟩:Md).c]) hs k2 (sO k2) hl1
     simp only[aa,az]at hdr
     refine uX (hdr) O ?_
     rintro _ _⟨x',gs',p',c'',rfl,q1,rfl⟩
     simp only[uV,uW]
     refine gg5 ?_
     have hmv:=mvd hw hs eB hx ho hmt hov q1
     refine bS (ι:=StrG) (j:=⟨⟨x',gs',p',c''⟩,⟨M.its++[⟨B.x,0,1⟩],some ⟨g97,0,none⟩,c97⟩⟩) ⟨hmv.eo,qNx hI ⟨ai _,fun _=>O,fun h=>absurd O h⟩,?_,.inr ⟨hmv.bb,by simp,fun u hu=>?_⟩,fun hd=>?_⟩ ?_ ⟨rfl,rfl,rfl,trivial⟩ ?_
     ·rw[←hrow,hmv.seq]
      simp only
      rw[sQ]
      simp[cat]
     ·simp only at hu
      rw[qBa]at hu
      cases hu
      exact hkk
     ·obtain⟨d,d1,d2,d3⟩:=hgr hd
      have hbx:B.x=B0.x:=hd _ _ oO (eB.ids hw hs).1 oO (eB0.ids hw hs).1 hkk
      have hd0:d=[]:=Classical.byContradiction fun h=>d3 h hbx
      subst hd0
      refine⟨[⟨B.x,0,1⟩],by show M.its++[_]=_;rw[d1,aj],ai _,fun _ e=>?_⟩
      have e':x'=B.x:=by rw[hbx];exact e
      have hsq:=hmv.seq
      have hx':x'≠0:=oO
      have hhd:=hmv.eo.head hx'
      cases es:seqE (rls Es) true l x' gs' with
      |nil=>rw[es]at hhd;simp at hhd
      |cons q qs=>
       rw[es]at hhd hsq
       simp at hhd
       refine eB.adj (a:=B.x) (r:=qs) hw hs hx hev ?_
       rw[hsq,hhd,e']
       rfl
     ·show(seqE (rls Es) true l x' gs').length<(seqE (rls Es) true l B.x B.fs).length
      rw[hmv.seq]
      simp[cat]
     simp only[aa,az]
     exact uI
    have h2:f.hv=2:=oO
    have hlv:=ho.2
    obtain⟨rfl,_⟩:=nC (hfs.symm.trans hfs2)
    have f3:(eG (rls Es) B.fs)[(eG (rls Es) gs).length+3]?=some (.int .i64 (a:Nat)):=by
     have:=(qLu (L:=rls Es) (gs:=gs) (f:=f)).1;rw[l4]at this;rw[hfs];exact this
    have f4:(eG (rls Es) B.fs)[(eG (rls Es) gs).length+4]?=some (.int .i64 (b:Nat)):=by
     have:=(qLu (L:=rls Es) (gs:=gs) (f:=f)).2;rw[l4]at this;rw[hfs];exact this
    have hxa:B.x=a:=by rw[hch,h2];simp[iQ]
    have hka:key (rls Es) a=key (rls Es) B0.x:=by rw[←hxa];exact hkk
    have hkb:key (rls Es) b=key (rls Es) B0.x:=by rw[←hka];exact((rP hn).1 hft).symm
    have hb0:b≠0:=by have:=(hw.ok _ _ l3).2.2.1;omega
    have eu:upF (rls Es) (l+1) B.x B.fs=(f.id,gs):=by rw[hfs,mR,if_pos ⟨hlv,by rw[l4,h2];exact ai 2⟩]
    have hgs:=l1.short' hw hs hL
    have eBf:EO (rls Es) true l rr B.x (gs++[f]):=by rw[←hfs];exact eB
    refine gg3 ?_
    refine uN 13 ([sl (some ⟨g,0,none⟩) B.c 389 8 B.fs.length (eG (rls Es) B.fs)]) ?_
    refine gg12 ?_
    apply fI 12 O oK O
    refine cZ (hE.t O) (fun b8=>?_)
    refine uE ?_
    apply iH O oK oK O
    refine uS ?_
    refine gg1 ?_
    rw[←hp]
    have hup:=ct_up (pp:=pp) (tb:=tb) (s:=s) (most:=most) hE hB (b:=S) (bt:=370) (p:=B.p) (c:=B.c) (pre:=[uPt pp,uPt pp,.bool false,.slice A.p A.fs.length A.c,.int .i64 (A.x:Nat),.int .u64 (key (rls Es) A.x:Nat)]) (suf:=[.slice M.p M.its.length M.c]) (lv:=l+1) hs eB
    rw[eu]at hup
    refine gg6 ?_
    refine uX (hup) O ?_
    rintro _ _⟨rfl,rfl⟩
    simp only[uV,uW]
    refine gg2 ?_
    refine nM (fun t:Nat=>[(0,uPt S),(1,.int .i64 ((l+1:Nat):Int)),(4,.int .u64 (key (rls Es) B0.x:Nat)),(8,uPt b8)]) (fun t=>[cells pp [uPt s,uPt tb] 117,tabP tb s (rls Es),bR s most Es,cells S [uPt pp,uPt pp,.bool false,.slice A.p A.fs.length A.c,.int .i64 (A.x:Nat),.int .u64 (key (rls Es) A.x:Nat),uPt pp,.bool true,.slice (⟨f.id,gs,B.p,B.c⟩:Sd).p (⟨f.id,gs,B.p,B.c⟩:Sd).fs.length (⟨f.id,gs,B.p,B.c⟩:Sd).c,.int .i64 ((⟨f.id,gs,B.p,B.c⟩:Sd).x:Nat),.int .u64 (key (rls Es) (⟨f.id,gs,B.p,B.c⟩:Sd).x:Nat),.slice M.p M.its.length M.c] 370,sl A.p A.c 389 8 A.fs.length (eG (rls Es) A.fs),sl (⟨f.id,gs,B.p,B.c⟩:Sd).p (⟨f.id,gs,B.p,B.c⟩:Sd).c 389 8 (⟨f.id,gs,B.p,B.c⟩:Sd).fs.length (eG (rls Es) (⟨f.id,gs,B.p,B.c⟩:Sd).fs),sl M.p M.c 400 4 M.its.length (itsC (rls Es) M.its),cells b8 [.int .i64 (a:Nat),.int .i64 (b:Nat),.int .u64 (key (rls Es) B0.x:Nat),.int .i64 (t:Nat)] 400,R]) (fun t=>Drp (rls Es) t gs) ?_ ?_
    ·refine gg7 ?_
     refine l_eq 127 (.int .i64 ((l+1+1:Nat):Int)) O (bW oO) ?_
     refine uX (nX hE (b:=S) (pre:=[uPt pp,uPt pp,.bool false,.slice A.p A.fs.length A.c,.int .i64 (A.x:Nat),.int .u64 (key (rls Es) A.x:Nat)]) (suf:=[.slice M.p M.its.length M.c]) (fs:=gs) hgs) O ?_
     rintro v _⟨⟨o2,ho2,hv2⟩,rfl⟩
     simp only[uV,uW]
     refine gg3 ?_
     cases o2 with
     |none=>
      obtain rfl:v= .pointer none:=hv2
      refine gg8 ?_
      refine fZ (ι:=Nat) 1 (sO l1) ⟨O,O,O,O,trivial⟩ ?_
      exact uI
     |some f2=>
      obtain⟨gs2,g2',hfs3,hp2,rfl⟩:=hv2
      have f8:(eG (rls Es) gs)[(eG (rls Es) gs2).length+7]?=some (.int .i64 (f2.hv:Nat)):=by rw[hfs3];exact qDp
      rw[hp2]
      refine gg15 ?_
      rw[←hp2]
      refine fZ (ι:=Nat) f2.hv ?_ ⟨O,O,O,O,trivial⟩ ?_
      ·subst hfs3
       obtain⟨r2,m1,m2,m3,m4,m5,m6,_⟩:=l1.inv
       have ok2:=m1.ok hw hs
       have er2:=iI m3
       have hl2:=ho2.2
       refine⟨m5,fun e=>by simp at e,fun g3 f3' e=>?_⟩
       obtain⟨_,rfl⟩:=nC e
       refine⟨ai _,.inr ?_⟩
       cases r2 with
       |letter b=>exact absurd rfl (m4 b)
       |pair a' b'=>have:=(vL hw m2 m3 ok2.2.2.1).1;omega
       |power y n=>exact⟨y,n,er2⟩
      exact uI
    intro t hdt
    refine gg1 ?_
    refine uN 10 ([cells S [uPt pp,uPt pp,.bool false,.slice A.p A.fs.length A.c,.int .i64 (A.x:Nat),.int .u64 (key (rls Es) A.x:Nat),uPt pp,.bool true,.slice (⟨f.id,gs,B.p,B.c⟩:Sd).p (⟨f.id,gs,B.p,B.c⟩:Sd).fs.length (⟨f.id,gs,B.p,B.c⟩:Sd).c,.int .i64 ((⟨f.id,gs,B.p,B.c⟩:Sd).x:Nat),.int .u64 (key (rls Es) (⟨f.id,gs,B.p,B.c⟩:Sd).x:Nat),.slice M.p M.its.length M.c] 370,cells b8 [.int .i64 (a:Nat),.int .i64 (b:Nat),.int .u64 (key (rls Es) B0.x:Nat),.int .i64 (t:Nat)] 400]) ?_
    refine gg5 ?_
    apply dG 5 O oK
    ·(apply bV rfl (hE.t rfl) rfl;(repeat(first |rfl|assumption|constructor));done)
    ·rfl
    apply fI 6 O oK O
    refine aU (hE.t O) (hE.t O) O O O (fun b142=>?_)
    refine uE ?_
    apply fI 7 O oK O
    apply bU (hE.t O) (hE.t O) O O O
    ·exact uK
    ·exact uK
    ·rfl
    ·rfl
    ·omega
    ·omega
    ·(unfold maxLen;omega)
    intro g143 c143 n143 x143 hn143 hx143
    refine uE ?_
    apply dG 8 O oK
    ·exact bA O
    ·rfl
    apply dG 9 O oK
    ·exact uBf O
    ·rfl
    apply iH O oK oK O
    refine uS ?_
    refine gg1 ?_
    obtain rfl:x143=itsC (rls Es) (M.its++[⟨a,b,t⟩]):=by rw[hx143,jC];simp only;rw[hka];rfl
    subst hn143
    refine gg8 ?_
    refine l_eq 152 (.int .i64 (l:Nat)) O (bW oO) ?_
    have hdr:=lQ (pp:=pp) (tb:=tb) (s:=s) (most:=most) hE hB (b:=S) (bt:=370) (p:=B.p) (c:=B.c) (k:=key (rls Es) f.id) (pre:=[uPt pp,uPt pp,.bool false,.slice A.p A.fs.length A.c,.int .i64 (A.x:Nat),.int .u64 (key (rls Es) A.x:Nat)]) (suf:=[.slice (⟨M.its++[⟨a,b,t⟩],some ⟨g143,0,none⟩,c143⟩:Md).p (⟨M.its++[⟨a,b,t⟩],some ⟨g143,0,none⟩,c143⟩:Md).its.length (⟨M.its++[⟨a,b,t⟩],some ⟨g143,0,none⟩,c143⟩:Md).c]) hs l1 hdt hl1
    simp only[aa,az]at hdr
    refine uX (hdr) O ?_
    rintro _ _⟨x',gs',p',c'',rfl,q1,rfl⟩
    simp only[uV,uW]
    refine gg2 ?_
    obtain⟨v1,v2,v3⟩:=qXg hw hs eBf hx hlv hev h2 l4 hdt q1
    have ef:itF ⟨a,b,t⟩=(List.replicate t [a,b]).flatten:=by unfold itF;simp only[if_neg hb0]
    refine bS (ι:=StrG) (j:=⟨⟨x',gs',p',c''⟩,⟨M.its++[⟨a,b,t⟩],some ⟨g143,0,none⟩,c143⟩⟩) ⟨v1,qNx hI ⟨hdt.1,fun h=>absurd h hb0,fun _=>by rw[hka,hkb]⟩,?_,.inr ⟨v2,by simp,fun u hu=>?_⟩,fun hd=>?_⟩ ?_ ⟨rfl,rfl,rfl,trivial⟩ ?_
    ·rw[←hrow]
     rw[hfs,v3,fO,jB,ef,ah]
    ·simp only at hu
     rw[fO,jB,qXp hdt.1 hb0]at hu
     cases hu
     exact hkb
    ·exfalso
     have okf:=l1.ok hw hs
     have hp2:=vL hw l2 l3 okf.2.2.1
     obtain⟨k1',k2',k3',k4'⟩:=hw.ok _ _ l3
     have hfl':=okf.2.1
     exact hp2.2.1 (hd a b k1' oO k3' oO (by rw[hka,hkb]))
    ·show(seqE (rls Es) true l x' gs').length<(seqE (rls Es) true l B.x B.fs).length
     rw[hfs,v3,←ef]
     have:=vI (it:=⟨a,b,t⟩) hdt.1
     cases e:itF ⟨a,b,t⟩with
     |nil=>rw[e]at this;simp at this
     |cons q qs=>simp;omega
    simp only[aa,az]
    exact uI
  refine gg4 ?_;exact uZe O .nil (fin (.inr oO))
 refine gg15 ?_;exact uZe O .nil (fin (.inl oO))
end
section
variable {E:Env}{Es:List Ent}{pp tb s most S:Nat}
def Shp (L:List Rl)(lv:Nat)(its:List It):Prop:=if lv%2=1 then Sng its else if num lv=122 then ItT L its else Sng its∧∀it∈its,it.times=1
structure Rdy (L:List Rl)(l rl rr:Nat)(A B:Sd)(M:Md)(A' B':Sd)(M':Md):Prop where
 left:RL L l rl A'.x A'.fs (dV M'.its++seqE L true l B'.x B'.fs)
 right:RR L l rr B'.x B'.fs (dV M'.its)
 row:seqE L false l A'.x A'.fs++(dV M'.its++seqE L true l B'.x B'.fs)=seqE L false l A.x A.fs++(dV M.its++seqE L true l B.x B.fs)
 ne:M'.its=[]→M.its=[]∧A'=A∧B'=B
 grow:Dk L→Grw M.its M'.its
 shp:Shp L (l+1) M'.its
def one_ins {x:Nat}{its:List It}(h:∀it∈its,it.times=1):∀it∈(⟨x,0,1⟩::its:List It),it.times=1:=fun it hit=>by
 rcases iq.1 hit with rfl|hit
 ·rfl
 exact h it hit
def one_add {x:Nat}{its:List It}(h:∀it∈its,it.times=1):∀it∈(its++[⟨x,0,1⟩]:List It),it.times=1:=fun it hit=>by
 rcases bn.1 hit with hit|hit
 ·exact h it hit
 obtain rfl:=bg.1 hit;rfl
def qUq (hE:Seat E)(hB:Base E.w0){l rl rr:Nat}{A B:Sd}{M:Md}(hs:Sig (rls Es) rl)(hsr:Sig (rls Es) rr)(eA:EO (rls Es) false l rl A.x A.fs)(eB:EO (rls Es) true l rr B.x B.fs)(hM:Sng M.its)(hone:(l+1)%2=0→∀it∈M.its,it.times=1) (hR:∀x∈dV M.its,1≤x∧x≤(rls Es).length) (hlen:(seqE (rls Es) false l A.x A.fs++(dV M.its++seqE (rls Es) true l B.x B.fs)).length≤1000000000) (hll:l+1<1000000000000) (h1l:1≤l+1):
  Ct E 250 [uPt S,.int .i64 ((l+1:Nat):Int)] [cells pp [uPt s,uPt tb] 117,tabP tb s (rls Es),bR s most Es,cells S [uPt pp,uPt pp,.bool false,.slice A.p A.fs.length A.c,.int .i64 (A.x:Nat),.int .u64 (key (rls Es) A.x:Nat),uPt pp,.bool true,.slice B.p B.fs.length B.c,.int .i64 (B.x:Nat),.int .u64 (key (rls Es) B.x:Nat),.slice M.p M.its.length M.c] 370,sl A.p A.c 389 8 A.fs.length (eG (rls Es) A.fs),sl B.p B.c 389 8 B.fs.length (eG (rls Es) B.fs),sl M.p M.c 400 4 M.its.length (itsC (rls Es) M.its)]
   (fun v Q=>∃(A' B':Sd)(M':Md),v= .tuple #[]∧Rdy (rls Es) l rl rr A B M A' B' M'∧Q=[cells pp [uPt s,uPt tb] 117,tabP tb s (rls Es),bR s most Es,cells S [uPt pp,uPt pp,.bool false,.slice A'.p A'.fs.length A'.c,.int .i64 (A'.x:Nat),.int .u64 (key (rls Es) A'.x:Nat),uPt pp,.bool true,.slice B'.p B'.fs.length B'.c,.int .i64 (B'.x:Nat),.int .u64 (key (rls Es) B'.x:Nat),.slice M'.p M'.its.length M'.c] 370,sl A'.p A'.c 389 8 A'.fs.length (eG (rls Es) A'.fs),sl B'.p B'.c 389 8 B'.fs.length (eG (rls Es) B'.fs),sl M'.p M'.c 400 4 M'.its.length (itsC (rls Es) M'.its)]):=by
 refine eU (p:=bR s most Es) uK (fun _ h=>dS h) (fun hsay=>?_);have hw:=hsay.1
 have hml:M.its.length≤1000000000:=by
  have:=pF (its:=M.its) fun it h=>(hM it h).2
  rw[aa,aa]at hlen;omega
 have hlf:(seqE (rls Es) false l A.x A.fs).length+(dV M.its).length+(seqE (rls Es) true l B.x B.fs).length≤1000000000:=by
  rw[aa,aa]at hlen;omega
 refine bO (hE.fn Tryz.func250) O O O (fun R=>?_);simp only[dX,uV,uW];refine gg8 ?_;refine bE O (fun h0=>?_) (fun h0=>?_)
 ·have hodd:(l+1)%2=1:=oO;refine gg4 ?_;refine uX (qHd hE hB (S:=S) hs hsr eA eB hM hR oO hodd oO) O ?_;rintro _ _⟨A',B',M',rfl,hgr,hsg, -,rfl⟩;simp only[uV,uW];refine gg4 ?_;exact uZ O .nil ⟨A',B',M',O,⟨hgr.left,hgr.right,hgr.row,hgr.ne,fun _=>hgr.grow,by unfold Shp;rw[if_pos hodd];exact hsg⟩,rfl⟩
 have hev:(l+1)%2=0:=oO;have hodd:¬(l+1)%2=1:=oO;have h2l:2≤l+1:=oO;have hlt:l+1<1099511627776:=oO;refine gg5 ?_;refine uX (qKp hE h2l hev hlt) O ?_;rintro _ _⟨⟨q1,q2,d,rfl,hd⟩,rfl⟩;simp only[uV,uW];refine gg13 ?_;refine uX (qHc hE hB (S:=S) hs eA eB (fun it h=>(hM it h).2) hR oO hev hlt) O ?_;rintro _ _⟨A',M1,rfl,hRL,hseq,hsh,rfl⟩;simp only[uV,uW]
 have hM1:Sng M1.its∧(∀it∈M1.its,it.times=1)∧(M1.its=[]→M.its=[]∧A'=A)∧∃a,M1.its=a++M.its∧a.length≤1:=by
  rcases hsh with⟨rfl,rfl⟩|⟨e,_⟩
  ·exact⟨hM,hone hev,(fun h=>⟨h,O⟩),[],O,au _⟩
  rw[e];exact⟨qOt hM (ai _),one_ins (hone hev),(fun h=>by cases h),[_],rfl,ai _⟩
 have hR1:∀x∈dV M1.its,1≤x∧x≤(rls Es).length:=by
  intro x hx;have hmem:x∈seqE (rls Es) false l A.x A.fs++dV M.its:=by rw[←hseq];simp[hx]
  rcases bn.1 hmem with h| h
  ·have:=eA.mem hw hs x h;omega
  exact hR x h
 have hl1:(seqE (rls Es) false l A'.x A'.fs).length+(dV M1.its).length=(seqE (rls Es) false l A.x A.fs).length+(dV M.its).length:=by
  rw[←aa,hseq,aa]
 have hml1:M1.its.length≤1099511627776:=by
  have:=pF (its:=M1.its) fun it h=>(hM1.1 it h).2
  omega
 refine gg7 ?_;cases d with
 |true=>
  have hn:=hd.1 O
  have hI1:ItT (rls Es) M1.its:=fun it hit=>by
   have h1:=hM1.1 it hit;have h2:=hM1.2.1 it hit;exact⟨h1.2,fun _=>h2,fun h=>absurd h1.1 h⟩
  have hlen1:(dV M1.its++seqE (rls Es) true l B.x B.fs).length≤1000000000:=by rw[aa];omega
  refine gg4 ?_
  refine uX (qAn hE hB (S:=S) hsr eB hM1.1 hI1 hR1 hlen1 hev hll hn) O ?_
  rintro _ _⟨B',M',rfl,hRR,hrow,hit,hne,hgw,rfl⟩
  simp only[uV,uW]
  refine gg1 ?_
  apply yM
  ·rfl
  ·(exact Rs.nil)
  ·refine⟨A',B',M',O,⟨by rw[hrow];exact hRL,hRR,by rw[hrow,←ah,hseq,ah],fun h=>?_,fun hd=>?_,by unfold Shp;rw[if_neg hodd,if_pos hn];exact hit⟩,rfl⟩
   ·obtain⟨n1,n2⟩:=hne h
    exact⟨(hM1.2.2.1 n1).1,(hM1.2.2.1 n1).2,n2⟩
   obtain⟨a,ha1,ha2⟩:=hM1.2.2.2
   obtain⟨b,hb1,hb2⟩:=hgw hd
   exact⟨a,b,by rw[hb1,ha1],ha2,hb2⟩
  exact uI
 |false=>
  have hn:num (l+1)≠122:=fun h=>by have:=hd.2 h;cases this
  refine gg4 ?_
  refine uX (qEv hE hB (S:=S) (A:=A') hsr eB hM1.1 hR1 hml1 hev hlt hn) O ?_
  rintro _ _⟨B',M',rfl,hRR,hrow,hsh2,rfl⟩
  simp only[uV,uW]
  refine gg1 ?_
  apply yM
  ·rfl
  ·(exact Rs.nil)
  ·refine⟨A',B',M',O,⟨by rw[hrow];exact hRL,hRR,by rw[hrow,←ah,hseq,ah],fun h=>?_,fun _=>?_,by
    unfold Shp;rw[if_neg hodd,if_neg hn];rcases hsh2 with⟨rfl,_⟩|⟨e,_⟩
    ·exact⟨hM1.1,hM1.2.1⟩
    rw[e];exact⟨qOs hM1.1 (ai _),one_add hM1.2.1⟩⟩,rfl⟩
   ·rcases hsh2 with⟨rfl,rfl⟩|⟨e,_⟩
    ·exact⟨(hM1.2.2.1 h).1,(hM1.2.2.1 h).2,O⟩
    rw[e]at h;simp at h
   obtain⟨a,ha1,ha2⟩:=hM1.2.2.2
   rcases hsh2 with⟨rfl,rfl⟩|⟨e,_⟩
   ·exact⟨a,[],by rw[ha1,aj],ha2,au _⟩
   exact⟨a,[_],by rw[e,ha1],ha2,ai _⟩
  exact uI
end
section
variable {E:Env}{Es:List Ent}{pp tb s most S:Nat}
def last_id {L:List Rl}{is:List It}{y:It}:(itsC L (is++[y]))[(itsC L is).length]?=some (.int .i64 (y.id:Nat))∧(itsC L (is++[y]))[(itsC L is).length+3]?=some (.int .i64 (y.times:Nat)):=by
 rw[jC];exact⟨ap_0,ap_3⟩
def qWr {L:List Rl}{is:List It}{y:It}{t:Nat}:bX (itsC L (is++[y])) ((itsC L is).length+3) [.int .i64 (t:Nat)]=itsC L (is++[⟨y.id,y.next,t⟩]):=by
 rw[jC,jC,sm_3]
def qAv (hE:Seat E){L:List Rl}{l:List It}{x:It}{p:Option Addr}{c:Nat}(hl:l.length≤1000000000000)(ht:∀y∈l,y.times+x.times≤9223372036854775807):
  Ct E 292 [.slice p l.length c,.agg #[.int .i64 (x.id:Nat),.int .i64 (x.next:Nat),.int .u64 (key L x.id:Nat),.int .i64 (x.times:Nat)]] [sl p c 400 4 l.length (itsC L l)] (fun v Q=>∃p' c',v= .slice p' (gP l x).length c'∧Q=[sl p' c' 400 4 (gP l x).length (itsC L (gP l x))]):=by
 rcases bu l with rfl|⟨is,y,rfl⟩
 ·refine bO (hE.fn Tryz.func292) O O O (fun R=>?_);simp only[dX,uV,uW];refine gg2 ?_;refine uU ?_;refine gW O (fun b3=>?_);refine gg16 ?_;refine l_eq 10 (.bool false) O (by simp) ?_;refine gg19 ?_;refine uU ?_;refine aU (hE.t O) (hE.t O) O O O (fun b35=>?_);refine uU ?_;apply bU (hE.t O) (hE.t O) O O O
  ·exact uK
  ·exact uK
  ·rfl
  ·rfl
  ·omega
  ·omega
  ·(unfold maxLen;omega)
  intro g36 c36 n36 x36 hn36 hx36;refine gg4 ?_;obtain rfl:x36=itsC L [x]:=by rw[hx36,gV];rfl
  subst hn36;exact uZ O (.tmp O .nil) ⟨_,_,O,O⟩
 rw[bv]at*;have hil:(is++[y]).length=is.length+1:=by simp
 have hty:=ht y (by simp);have hpl:=rT L is;obtain⟨f0,f3⟩:=last_id (L:=L) (is:=is) (y:=y);refine eU (p:=sl p c 400 4 (is++[y]).length (itsC L (is++[y]))) uK (fun _ h=>fA h oO) ?_;rintro⟨g,rfl⟩;refine bO (hE.fn Tryz.func292) O O O (fun R=>?_);simp only[dX,uV,uW];refine gg2 ?_;refine uU ?_;refine gW O (fun b3=>?_);refine gg16 ?_;refine l_eq 10 (.bool true) O (by simp) ?_;refine gg8 ?_;refine l_eq 14 _ O (pJ (L:=L) (its:=is) hil) ?_;refine gg13 ?_;refine bE O (fun h=>?_) (fun h=>?_)
 ·have e:gP (is++[y]) x=is++[⟨y.id,y.next,y.times+x.times⟩]:=by rw[lJ,if_pos oO]
  rw[e];refine gg6 ?_;refine l_eq 24 _ O (pJ (L:=L) (its:=is) hil) ?_;refine gg5 ?_;refine l_eq 29 (.int .i64 ((y.times+x.times:Nat):Int)) O (bW oO) ?_;refine gg1 ?_;refine l_eq 30 _ O (pJ (L:=L) (its:=is) hil) ?_;refine gg4 ?_;simp only[bP];rw[qWr];refine gg8 ?_;apply cB
  ·rfl
  ·(apply Rs.tmp rfl;exact Rs.nil)
  ·exact⟨some ⟨g,0,none⟩,c,by simp;rfl,rfl⟩
  simp only[aa,az];exact uI
 have e:gP (is++[y]) x=is++[y]++[x]:=by rw[lJ,if_neg oO]
 rw[e];refine gg6 ?_;refine uU ?_;refine aU (hE.t O) (hE.t O) O O O (fun b35=>?_);refine uU ?_;apply bU (hE.t O) (hE.t O) O O O
 ·exact uK
 ·exact uK
 ·rfl
 ·rfl
 ·omega
 ·omega
 ·(unfold maxLen;omega)
 intro g36 c36 n36 x36 hn36 hx36;refine gg4 ?_;obtain rfl:x36=itsC L (is++[y]++[x]):=by rw[hx36,jC _ (is++[y])];rfl
 obtain rfl:n36=(is++[y]++[x]).length:=by rw[hn36];simp
 exact uZ O (.tmp O .nil) ⟨_,_,O,O⟩
def rG (hE:Seat E)(hB:Base E.w0){cs:List Value}{l:List It}{x y t:Nat}{p:Option Addr}{c:Nat}(h0:cs[0]?=some (uPt pp))(hl:l.length≤1000000000000)(ht:∀i∈l,i.times+t≤9223372036854775807) (hids:∀i∈l,i.id≤(rls Es).length)
  (hx:1≤x∧x≤(rls Es).length) (hy:1≤y∧y≤(rls Es).length) (hlen:len (rls Es) x+len (rls Es) y≤dC) (hroom:Es.length<most):
  Ct E 293 [uPt S,.slice p l.length c,.int .i64 (x:Nat),.int .i64 (y:Nat),.int .i64 (t:Nat)] [cells pp [uPt s,uPt tb] 117,tabP tb s (rls Es),bR s most Es,cells S cs 370,sl p c 400 4 l.length (itsC (rls Es) l)]
   (fun v Q=>∃M2 j p' c',v= .tuple #[.slice p' (gP l ⟨j+1,0,t⟩).length c',.nilIface]∧M2.length≤1∧(rls (Es++M2))[j]?=some (.pair x y)∧Q=[cells pp [uPt s,uPt tb] 117,tabP tb s (rls (Es++M2)),bR s most (Es++M2),cells S cs 370,sl p' c' 400 4 (gP l ⟨j+1,0,t⟩).length (itsC (rls (Es++M2)) (gP l ⟨j+1,0,t⟩))]):=by
 obtain⟨i,rfl⟩:∃i,x=i+1:=⟨x-1,oO⟩;obtain⟨j,rfl⟩:∃i,y=i+1:=⟨y-1,oO⟩;have hil:i<Es.length:=by have:=hx.2;rw[bQ]at this;omega
 have hjl:j<Es.length:=by have:=hy.2;rw[bQ]at this;omega
 obtain⟨ei,hei⟩:∃e,Es[i]?=some e:=⟨_,ag hil⟩;obtain⟨ej,hej⟩:∃e,Es[j]?=some e:=⟨_,ag hjl⟩;refine eU (p:=bR s most Es) uK (fun _ h=>dS h) (fun hsay=>?_);have hlt:ei.t.length+ej.t.length≤dC:=by rw[hsay.2.1 i ei hei,hsay.2.1 j ej hej];exact hlen
 refine bO (hE.fn Tryz.func293) O O O (fun R=>?_);simp only[dX,uV,uW];refine gg12 ?_;refine uX (jS hE) O ?_;rintro _ _⟨rfl,rfl⟩;simp only[uV,uW];refine gg2 ?_;refine uX (ct_pair hE hei hej hlt hroom) O ?_;rintro _ _⟨M2,id,rfl,hM2,hid,hrl,rfl⟩;obtain⟨q,rfl⟩:∃j,id=j+1:=⟨id-1,oO⟩;rw[dw]at hrl;have hql:q<(Es++M2).length:=by have:=(ae.1 hrl).1;rwa [bQ]at this
 have hie:itsC (rls (Es++M2)) l=itsC (rls Es) l:=by rw[dA];exact qQc _ hids
 simp only[uV,uW];refine qAh (cK (p:=tabP tb s (rls Es)) (p':=tabP tb s (rls (Es++M2))) uK (fun _ h=>by rw[dA Es];exact sD _ h)) ?_;refine gg23 ?_;refine uX (qBt hE) O ?_;rintro _ _⟨rfl,rfl⟩;simp only[uV,uW];refine gg1 ?_;refine uX (qFl hE hB hql) O ?_;rintro _ _⟨rfl,rfl⟩;simp only[uV,uW];refine gg24 ?_;rw[←hie];refine uX (qAv (x:=⟨q+1,0,t⟩) (l:=l) (p:=p) (c:=c) (L:=rls (Es++M2)) hE hl ht) O ?_;rintro _ _⟨p',c',rfl,rfl⟩;simp only[uV,uW];refine gg5 ?_;exact uZ O (.tmp O (.tmp O .nil)) ⟨M2,q,p',c',O,hM2,hrl,O⟩
end
