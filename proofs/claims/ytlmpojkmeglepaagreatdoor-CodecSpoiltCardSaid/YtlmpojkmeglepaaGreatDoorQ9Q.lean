import Derived.Test.YtlmpojkmeglepaaGreatDoorQ53
import Derived.Test.YtlmpojkmeglepaaGreatDoorQ75
import Derived.Test.YtlmpojkmeglepaaGreatDoorQ9P
set_option linter.all false
set_option maxHeartbeats 1000000
namespace Go.Proofs.YtlmpojkmeglepaaGreatDoor
open Go Go.RowKit Sl Eg
set_option maxRecDepth 10000
section
variable {E:Env}
structure Rg50 where
 G:List Rl
 a:Option Addr
 c:Nat
 Bs:List UInt8
 pg:Option Addr
 cg:Nat
structure Rn50 where
 A:List (List UInt8×Nat)
 a:Option Addr
 c:Nat
 Bs:List UInt8
 pl:Option Addr
 cl:Nat
 prev:List UInt8
theorem rulB_two (n:Nat)(r:Rl):2≤(rulB n r).length:=by
 cases r with
 |letter b=>exact Nat.le_refl _
 |pair a b=>
  have:=jR (n-a)
  have e:(rulB n (.pair a b)).length=(vput (n-a)).length+(vput (n-b)).length+1:=by simp[rulB]
  omega
 |power a k=>
  have:=jR (n-a)
  have e:(rulB n (.power a k)).length=(vput (n-a)).length+(vput (k-2)).length+1:=by simp[rulB]
  omega
theorem GOk.snoc {G:List Rl}(h:GOk 0 G){r:Rl}(hr:r.ok (G.length+1)):GOk 0 (G++[r]):=fun i q hq=>by
 rcases Nat.lt_or_ge i G.length with hl|hl
 ·rw[List.getElem?_append_left hl]at hq
  exact h i q hq
 rw[List.getElem?_append_right hl]at hq
 have h0:=(List.getElem?_eq_some_iff.1 hq).1
 have hi:i-G.length=0:=by simp at h0;omega
 rw[hi]at hq
 cases hq
 rw[show 0+i+1=G.length+1 by omega]
 exact hr
theorem qRp {G:List Rl}{r:Rl}:encG 0 (G++[r])=encG 0 G++rulB (G.length+1) r:=by
 rw[vF]
 simp[encG]
theorem qSa {α:Type}{A:List α}{x p q:α}{i:Nat}(h1:(A++[x])[i]?=some p)(h2:(A++[x])[i+1]?=some q):(A[i]?=some p∧A[i+1]?=some q)∨(i+1=A.length∧A[i]?=some p∧q=x):=by
 have hl:=(List.getElem?_eq_some_iff.1 h2).1
 rw[List.length_append,List.length_singleton]at hl
 rw[List.getElem?_append_left oO]at h1
 rcases Nat.lt_or_ge (i+1) A.length with h| h
 ·rw[List.getElem?_append_left h]at h2
  exact .inl ⟨h1,h2⟩
 rw[List.getElem?_append_right h,show i+1-A.length=0 by omega]at h2
 cases h2
 exact .inr ⟨oO,h1,O⟩
def OrdN (A:List (List UInt8×Nat)):Prop:=∀(i:Nat)(p q:List UInt8×Nat),A[i]?=some p→A[i+1]?=some q→Op.bytesLess p.1 q.1=true
theorem ct_readG (hE:Seat E){Bs:List UInt8}{a:Option Addr}{c:Nat}{q:HP}(hq:Rdb E.w0 a (byC Bs) q)(hc:Bs.length≤c)(hcl:Bs.length≤100000):
  Ct E 38 [.slice a Bs.length c] [q]
   (fun v Q=>(∃x y,v= .tuple #[x,y,.bool false]∧Q=[q])∨∃(G:List Rl)(A:List (List UInt8×Nat))(pg:Option Addr)(cg:Nat)(pl:Option Addr)(cl:Nat),v= .tuple #[.slice pg G.length cg,.slice pl A.length cl,.bool true]∧Q=[q,sl pg cg 86 5 G.length (rusC G),sl pl cl 53 2 A.length (nlC (nmI A))]∧
    GOk 0 G∧(∀r∈G,r.times<9223372036854775808)∧(∀p∈A,ValidN p.1∧p.2≤G.length)∧OrdN A∧Bs=encA G A∧2*G.length≤Bs.length∧2*A.length≤Bs.length):=by
 refine bO (hE.fn Tryz.func38) O O O (fun R=>?_)
 simp only[dU,uV,uW]
 refine gg10 ?_
 refine uX (pW hE hq) O ?_
 rintro _ _⟨rfl,⟨N,t,hN,hBs1,rfl⟩|rfl⟩
 rotate_left
 ·simp only[uV,uW]
  refine gg30 ?_
  exact uZ O (.tmp O (.tmp O (.tmp O .nil))) (.inl ⟨_,_,O,O⟩)
 simp only[uV,uW]
 have hv1:=fC hN
 have hl1:Bs.length=(vput N).length+t.length:=by rw[hBs1,List.length_append]
 have hd1:Bs.drop (vput N).length=t:=by rw[hBs1];simp
 refine gg22 ?_
 refine bE O (fun e1=>?_) (fun e1=>?_)
 ·refine gg9 ?_
  exact uZ O (.tmp O (.tmp O (.tmp O .nil))) (.inl ⟨_,_,O,O⟩)
 refine gg6 ?_
 refine uB (jJ (l:=(vput N).length) (h:=Bs.length) O (hE.t O) ⟨_,O⟩ O oO oO) ?_
 refine l_eq 33 (.slice (vwA a c ((vput N).length)) (Bs.drop (vput N).length).length (c-((vput N).length))) O (congrArg (fun z=>Value.slice _ z _) (by rw[List.length_drop])) ?_
 have hq1:=jO (k:=(vput N).length) hq hc
 have hc1:(Bs.drop (vput N).length).length≤c-(vput N).length:=by rw[List.length_drop];omega
 generalize vwA a c (vput N).length=a1 at hq1 ⊢
 generalize c-(vput N).length=c1 at hc1 ⊢
 rw[hd1]at hq1 hc1 ⊢
 refine gg16 ?_
 refine eZ (fun x:Rg50=>[(0,.slice x.a x.Bs.length x.c),(5,.int .u64 (N:Nat)),(8,.slice x.pg x.G.length x.cg),(34,.int .u64 (N:Nat)),(35,.int .u64 (x.G.length:Nat))]) (fun x=>[q,sl x.pg x.cg 86 5 x.G.length (rusC x.G),R]) (fun x=>N-x.G.length) (fun x=>x.G.length≤N∧Rdb E.w0 x.a (byC x.Bs) q∧x.Bs.length≤x.c∧vput N++(encG 0 x.G++x.Bs)=Bs∧2*x.G.length+x.Bs.length≤Bs.length∧GOk 0 x.G∧∀r∈x.G,r.times<9223372036854775808) ⟨[],a1,c1,t,none,0⟩ ⟨Nat.zero_le _,hq1,hc1,by rw[hBs1];rfl,by simp only[List.length_nil];omega,fun i r h=>by simp at h,by simp⟩ ⟨rfl,rfl,rfl,rfl,rfl,trivial⟩ ?_ ?_
 ·apply cZ (iP (t:=86) (sz:=5))
  exact uI
 clear hq1 hc1 a1 c1 hd1 hl1 hBs1
 rintro⟨G,a1,c1,B1,pg,cg⟩⟨hk,hq1,hc1,hB1,hsz,hG,hGt⟩
 simp only at hk hq1 hc1 hB1 hsz hG hGt ⊢
 refine gg6 ?_
 refine bE O (fun h1=>?_) (fun h1=>?_)
 ·have hkl:G.length<N:=oO
  refine gg10 ?_
  refine l_eq 41 (.int .i64 ((G.length+1:Nat):Int)) O (bW oO) ?_
  refine uX (qRc (n:=G.length+1) hE oO oO hq1 hc1 oO) O ?_
  rintro _ _⟨rfl,⟨r,t1,hro,hrt,hd2,rfl⟩|⟨e,rfl⟩⟩
  rotate_left
  ·simp only[uV,uW]
   refine gg4 ?_
   refine uU (dA (hE.t O) (fun b9=>?_))
   refine gg27 ?_
   exact uZ O (.tmp O (.tmp O (.tmp O .nil))) (.inl ⟨_,_,O,O⟩)
  simp only[uV,uW]
  have hr2:=rulB_two (G.length+1) r
  have hl2:B1.length=(rulB (G.length+1) r).length+t1.length:=by rw[hd2,List.length_append]
  have hd3:B1.drop (rulB (G.length+1) r).length=t1:=by rw[hd2];simp
  have hq2:=jO (k:=(rulB (G.length+1) r).length) hq1 hc1
  have hdl:(B1.drop (rulB (G.length+1) r).length).length=B1.length-(rulB (G.length+1) r).length:=List.length_drop
  refine gg4 ?_
  refine uU (dA (hE.t O) (fun b9=>?_))
  refine gg19 ?_
  refine uB (jJ (l:=(rulB (G.length+1) r).length) (h:=B1.length) O (hE.t O) ⟨_,O⟩ O oO oO) ?_
  refine l_eq 50 (.slice (vwA a1 c1 ((rulB (G.length+1) r).length)) (B1.drop (rulB (G.length+1) r).length).length (c1-((rulB (G.length+1) r).length))) O (congrArg (fun z=>Value.slice _ z _) (by rw[List.length_drop])) ?_
  refine gg5 ?_
  apply aA
  ·(first |(apply bV rfl (hE.t rfl) rfl;(repeat(first |rfl|assumption|constructor));done)|(apply y_load_agg_old rfl (hE.t rfl) rfl;assumption))
  ·rfl
  refine uU ?_
  refine aU (hE.t O) (hE.t O) O O O (fun b53=>?_)
  refine uU ?_
  apply bU (hE.t O) (hE.t O) O O O
  ·exact uK
  ·exact uK
  ·rfl
  ·rfl
  ·omega
  ·omega
  ·(unfold maxLen;omega)
  intro g54 c54 n54 x54 hn54 hx54
  refine gg5 ?_
  refine uB (qUz O O oO oO) ?_
  refine gg2 ?_
  have hGl:(G++[r]).length=G.length+1:=by simp
  obtain rfl:x54=rusC (G++[r]):=by
   rw[hx54,qIx]
   rfl
  subst hn54
  refine bS (ι:=Rg50) (j:=⟨G++[r],vwA a1 c1 (rulB (G.length+1) r).length,c1-(rulB (G.length+1) r).length,B1.drop (rulB (G.length+1) r).length,some ⟨g54,0,none⟩,c54⟩) ⟨by simp only[hGl];omega,hq2,by simp only;omega,?_,by simp only[hGl];omega,hG.snoc hro,fun x hx=>?_⟩ (by simp only[hGl];omega) ⟨rfl,rfl,by simp only[hGl];rfl,rfl,congrArg some (congrArg (Value.int .u64) (by simp only[hGl];omega)),trivial⟩ ?_
  ·simp only
   rw[hd3,qRp,List.append_assoc,←hd2]
   exact hB1
  ·rcases List.mem_append.1 hx with hx|hx
   ·exact hGt x hx
   rw[List.mem_singleton.1 hx];exact hrt
  simp only[hGl]
  exact uI
 obtain rfl:N=G.length:=by omega
 refine gg8 ?_
 refine uX (pW hE hq1) O ?_
 rintro _ _⟨rfl,⟨M,t,hM,hd2,rfl⟩|rfl⟩
 rotate_left
 ·simp only[uV,uW]
  refine gg26 ?_
  exact uZ O (.tmp O (.tmp O (.tmp O .nil))) (.inl ⟨_,_,O,O⟩)
 simp only[uV,uW]
 have hv2:=fC hM
 have hl2:B1.length=(vput M).length+t.length:=by rw[hd2,List.length_append]
 have hd3:B1.drop (vput M).length=t:=by rw[hd2];simp
 have hq2:=jO (k:=(vput M).length) hq1 hc1
 have hc2:(B1.drop (vput M).length).length≤c1-(vput M).length:=by rw[List.length_drop];omega
 refine gg23 ?_
 refine uB (jJ (l:=(vput M).length) (h:=B1.length) O (hE.t O) ⟨_,O⟩ O oO oO) ?_
 refine l_eq 66 (.slice (vwA a1 c1 ((vput M).length)) (B1.drop (vput M).length).length (c1-((vput M).length))) O (congrArg (fun z=>Value.slice _ z _) (by rw[List.length_drop])) ?_
 generalize vwA a1 c1 (vput M).length=a2 at hq2 ⊢
 generalize c1-(vput M).length=c2 at hc2 ⊢
 rw[hd3]at hq2 hc2 ⊢
 have hBs2:vput G.length++(encG 0 G++(vput M++t))=Bs:=by rw[←hd2];exact hB1
 refine gg15 ?_
 refine eZ (fun x:Rn50=>[(0,.slice x.a x.Bs.length x.c),(5,.int .u64 (G.length:Nat)),(8,.slice pg G.length cg),(12,.int .u64 ((M-x.A.length:Nat):Int)),(13,.slice x.pl x.A.length x.cl),(14,.string ⟨⟨x.prev⟩⟩)]) (fun x=>[q,sl pg cg 86 5 G.length (rusC G),sl x.pl x.cl 53 2 x.A.length (nlC (nmI x.A)),R]) (fun x=>M-x.A.length) (fun x=>x.A.length≤M∧Rdb E.w0 x.a (byC x.Bs) q∧x.Bs.length≤x.c∧vput G.length++(encG 0 G++(vput M++(encM x.A++x.Bs)))=Bs∧2*x.A.length+x.Bs.length≤Bs.length∧(∀p∈x.A,ValidN p.1∧p.2≤G.length)∧OrdN x.A∧Prv x.A x.A.length x.prev) ⟨[],a2,c2,t,none,0,[]⟩ ⟨Nat.zero_le _,hq2,hc2,hBs2,by simp only[List.length_nil];omega,by simp,fun i p q h=>by simp at h,.inl ⟨rfl,rfl⟩⟩ ⟨rfl,rfl,rfl,rfl,rfl,rfl,trivial⟩ ?_ ?_
 ·apply cZ (iP (t:=53) (sz:=2))
  exact uI
 have hgl:2*G.length≤Bs.length:=oO
 clear hq2 hc2 hd3 a2 c2 hl2 hd2 hc1 hq1 hB1 hsz B1 hBs2 t
 rintro⟨A,a1,c1,B1,pl,cl,prev⟩⟨hkA,hq1,hc1,hB1,hszA,hA,hO,hpv⟩
 simp only at hkA hq1 hc1 hB1 hszA hA hO hpv ⊢
 refine gg7 ?_
 refine bE O (fun h2=>?_) (fun h2=>?_)
 ·have hkl:A.length<M:=oO
  refine gg7 ?_
  refine uX (qCi (mx:=32) hE oO hq1 hc1 oO) O ?_
  rintro _ _(⟨rfl,e,rfl⟩|⟨nm,t,gn,hd2,hnm,rfl,rfl⟩)
  ·simp only[uV,uW]
   refine gg43 ?_
   exact uZ O (.tmp O (.tmp O (.tmp O .nil))) (.inl ⟨_,_,O,O⟩)
  simp only[uV,uW]
  have hv10:=fC (n:=nm.length) oO
  have hvp:=jR nm.length
  have hbb:(fZ nm).length=(vput nm.length).length+nm.length:=List.length_append
  have hl2:B1.length=(fZ nm).length+t.length:=by rw[hd2,List.length_append]
  have hd3:B1.drop (fZ nm).length=t:=by rw[hd2];simp
  have hq2:=jO (k:=(fZ nm).length) hq1 hc1
  have hc2:(B1.drop (fZ nm).length).length≤c1-(fZ nm).length:=by rw[List.length_drop];omega
  have hqn:Rdb E.w0 (some ⟨gn,0,none⟩) (byC nm) (sl (some ⟨gn,0,none⟩) nm.length 5 1 nm.length (byC nm)):=fun _=>⟨gn,0,O,sH (fun _ _ h=>h)⟩
  refine gg18 ?_
  refine uB (sS (q:=sl (some ⟨gn,0,none⟩) nm.length 5 1 nm.length (byC nm)) (src:=29) (dst:=9) (e:=5) O (hE.t O) (hE.t O) (hE.t O) (by assumption) uK) ?_
  refine gg1 ?_
  refine uX (rM (bs:=nm) hE) O ?_
  rintro _ _⟨rfl,rfl⟩
  simp only[uV,uW]
  by_cases hval:ValidN nm
  rotate_left
  ·rw[decide_eq_false hval]
   refine gg26 ?_
   exact uZ O (.tmp O (.tmp O (.tmp O .nil))) (.inl ⟨_,_,O,O⟩)
  have hp1:=hval.1
  rw[decide_eq_true hval]
  refine gg7 ?_
  refine uB (sS (q:=sl (some ⟨gn,0,none⟩) nm.length 5 1 nm.length (byC nm)) (src:=29) (dst:=9) (e:=5) O (hE.t O) (hE.t O) (hE.t O) (by assumption) uK) ?_
  refine gg3 ?_
  refine uB (qGu O O) ?_
  refine gg3 ?_
  cases hless:Op.bytesLess prev nm with
  |false=>
   refine w_eq 90 (.bool true) O (congrArg Value.bool (by rw[qBa,hless];rfl)) ?_
   refine gg15 ?_
   exact uZ O (.tmp O (.tmp O (.tmp O .nil))) (.inl ⟨_,_,O,O⟩)
  |true=>
   refine w_eq 90 (.bool false) O (congrArg Value.bool (by rw[qBa,hless];rfl)) ?_
   refine gg6 ?_
   refine uB (sS (q:=sl (some ⟨gn,0,none⟩) nm.length 5 1 nm.length (byC nm)) (src:=29) (dst:=9) (e:=5) O (hE.t O) (hE.t O) (hE.t O) (by assumption) uK) ?_
   refine gg7 ?_
   refine uB (jJ (l:=(fZ nm).length) (h:=B1.length) O (hE.t O) ⟨_,O⟩ O oO oO) ?_
   refine l_eq 95 (.slice (vwA a1 c1 ((fZ nm).length)) (B1.drop (fZ nm).length).length (c1-((fZ nm).length))) O (congrArg (fun z=>Value.slice _ z _) (by rw[List.length_drop])) ?_
   generalize vwA a1 c1 (fZ nm).length=a2 at hq2 ⊢
   generalize c1-(fZ nm).length=c2 at hc2 ⊢
   rw[hd3]at hq2 hc2 ⊢
   refine gg6 ?_
   refine uX (pW hE hq2) O ?_
   rintro _ _⟨rfl,⟨x,t1,hx,hd4,rfl⟩|rfl⟩
   rotate_left
   ·simp only[uV,uW]
    refine gg36 ?_
    exact uZ O (.tmp O (.tmp O (.tmp O .nil))) (.inl ⟨_,_,O,O⟩)
   simp only[uV,uW]
   have hv11:=fC hx
   have hl4:t.length=(vput x).length+t1.length:=by rw[hd4,List.length_append]
   have hd5:t.drop (vput x).length=t1:=by rw[hd4];simp
   have hq3:=jO (k:=(vput x).length) hq2 hc2
   have hdl3:(t.drop (vput x).length).length=t.length-(vput x).length:=List.length_drop
   refine gg24 ?_
   refine bE O (fun e5=>?_) (fun e5=>?_)
   ·refine gg14 ?_
    exact uZ O (.tmp O (.tmp O (.tmp O .nil))) (.inl ⟨_,_,O,O⟩)
   refine gg6 ?_
   refine uB (jJ (l:=(vput x).length) (h:=t.length) O (hE.t O) ⟨_,O⟩ O oO oO) ?_
   refine l_eq 111 (.slice (vwA a2 c2 ((vput x).length)) (t.drop (vput x).length).length (c2-((vput x).length))) O (congrArg (fun z=>Value.slice _ z _) (by rw[List.length_drop])) ?_
   refine gg9 ?_
   refine uU ?_
   refine aU (hE.t O) (hE.t O) O O O (fun b117=>?_)
   refine uU ?_
   apply bU (hE.t O) (hE.t O) O O O
   ·exact uK
   ·exact uK
   ·rfl
   ·rfl
   ·omega
   ·omega
   ·(unfold maxLen;omega)
   intro g118 c118 n118 x118 hn118 hx118
   refine gg6 ?_
   refine uB (qLo O O oO oO) ?_
   refine gg2 ?_
   have hAl:(A++[(nm,x)]).length=A.length+1:=by simp
   obtain rfl:x118=nlC (nmI (A++[(nm,x)])):=by rw[hx118,tY,lW];rfl
   subst hn118
   refine bS (ι:=Rn50) (j:=⟨A++[(nm,x)],vwA a2 c2 (vput x).length,c2-(vput x).length,t.drop (vput x).length,some ⟨g118,0,none⟩,c118,nm⟩) ⟨by simp only[hAl];omega,hq3,by simp only;omega,?_,by simp only[hAl];omega,fun p hp=>?_,fun i p r g1 g2=>?_,.inr ⟨(nm,x),by simp only[hAl];omega,by simp only[hAl,Nat.add_sub_cancel];simp,rfl⟩⟩ (by simp only[hAl];omega) ⟨rfl,rfl,rfl,congrArg some (congrArg (Value.int .u64) (by simp only[hAl];omega)),by simp only[hAl];rfl,rfl,trivial⟩ ?_
   ·simp only
    rw[hd5,qRq,List.append_assoc,List.append_assoc,←hd4,←hd2]
    exact hB1
   ·rcases List.mem_append.1 hp with hp|hp
    ·exact hA p hp
    rw[List.mem_singleton.1 hp];exact⟨hval,by simp only;omega⟩
   ·rcases qSa g1 g2 with⟨q1,q2⟩|⟨q1,q2,rfl⟩
    ·exact hO i p r q1 q2
    rcases hpv with⟨q3,_⟩|⟨p0,q4,q5,rfl⟩
    ·omega
    rw[←q1,Nat.add_sub_cancel,q2]at q5
    cases q5
    exact hless
   simp only[hAl]
   exact uI
 obtain rfl:M=A.length:=by omega
 by_cases hB0:B1=[]
 ·subst hB0
  refine gg18 ?_
  apply cB
  ·rfl
  ·(apply Rs.tmp rfl;apply Rs.tmp rfl;apply Rs.tmp rfl;exact Rs.nil)
  ·refine .inr ⟨G,A,pg,cg,pl,cl,O,O,hG,hGt,hA,hO,?_,oO,oO⟩
   rw[←hB1]
   simp only[encA,List.append_assoc,List.append_nil]
  exact uI
 have hne:¬((B1.length:Nat):Int)=0:=fun e=>hB0 (List.eq_nil_of_length_eq_zero oO)
 refine gg18 ?_
 exact uZ O (.tmp O (.tmp O (.tmp O .nil))) (.inl ⟨_,_,by rw[decide_eq_false hne];rfl,rfl⟩)
end
section
variable {E:Env}{Es:List Ent}{s most:Nat}
inductive MkG (n:Nat)(T:List Nat):Rl→Rl→Prop where
 |letter (b:UInt8):MkG n T (.letter b) (.letter b)
 |pair {a b x y:Nat}:T[a]?=some x→T[b]?=some y→1≤x→x≤n→1≤y→y≤n→MkG n T (.pair a b) (.pair x y)
 |power {a k x:Nat}:T[a]?=some x→1≤x→x≤n→2≤k→k<9223372036854775808→MkG n T (.power a k) (.power x k)
def PutG (s most:Nat)(Es:List Ent)(r:Rl)(H:List HP)(u:Value)(Q:List HP):Prop:=(u= .tuple #[.int .i64 0,.iface 58 (.int .i64 2)]∧Q=bR s most Es::H)∨∃(M:List Ent)(id:Nat),u= .tuple #[.int .i64 id,.nilIface]∧1≤id∧(rls (Es++M))[id-1]?=some r∧(M=[]∨∃x:Ent,M=[x]∧x.r=r)∧Q=bR s most (Es++M)::H
theorem ct_xPutG (hE:Seat E){r r':Rl}{T:List Nat}{gt ct:Nat}(hTl:T.length≤1000000)(hm:MkG Es.length T r r')(hroom:Es.length<most):Ct E 89 [uPt s,.agg #[.int .i64 (Rl.kind (r):Nat),.int .u8 (Rl.byte (r):Nat),.int .i64 (Rl.left (r):Nat),.int .i64 (Rl.right (r):Nat),.int .i64 (Rl.times (r):Nat)],.slice (some ⟨gt,0,none⟩) T.length ct] [bR s most Es,sl (some ⟨gt,0,none⟩) ct 44 1 T.length (idC T)] (PutG s most Es r' [sl (some ⟨gt,0,none⟩) ct 44 1 T.length (idC T)]):=by
 refine eQ (p:=bR s most Es) uK (fun _ h=>dR h) (fun hsay=>?_)
 have hT100:=hTl
 have hmx:dC=1152921504606846976:=rfl
 have hsh:∀(i:Nat)(x:Ent),Es[i]?=some x→x.t.length≤dC∧1≤x.t.length:=fun i x hx=>by
  have hi:=(List.getElem?_eq_some_iff.1 hx).1
  rw[hsay.2.1 _ _ hx]
  exact⟨hsay.1.short (i+1),hsay.1.pos (i+1) oO (by rw[bQ];omega)⟩
 cases hm with
 |letter b=>
  refine bO (hE.fn Tryz.func89) O O O (fun R=>?_)
  simp only[dU,uV,uW]
  simp only[Rl.kind,Rl.byte,Rl.left,Rl.right,Rl.times]
  refine gg2 ?_
  refine uU ?_
  refine fA O (fun b4=>?_)
  refine gg24 ?_
  refine uX (qCs (s:=s) (most:=most) (Es:=Es) hE b hroom) O ?_
  rintro _ _⟨M,id,rfl,h1,h2,h3,rfl⟩
  simp only[uV,uW]
  refine gg9 ?_
  exact uZ O (.tmp O (.tmp O .nil)) (.inr ⟨M,id,O,h1,h2,h3,O⟩)
 | @pair a b x y ha hb x1 x2 y1 y2=>
  have hat:=(List.getElem?_eq_some_iff.1 ha).1
  have hbt:=(List.getElem?_eq_some_iff.1 hb).1
  obtain⟨x,rfl⟩:∃k,x=k+1:=⟨x-1,oO⟩
  obtain⟨y,rfl⟩:∃k,y=k+1:=⟨y-1,oO⟩
  obtain⟨e1,he1⟩:∃x',Es[x]?=some x':=⟨_,List.getElem?_eq_getElem oO⟩
  obtain⟨e2,he2⟩:∃x',Es[y]?=some x':=⟨_,List.getElem?_eq_getElem oO⟩
  have f0:=fP ha (((a:Nat):Int).toNat) oO
  have f1:=fP hb (((b:Nat):Int).toNat) oO
  refine bO (hE.fn Tryz.func89) O O O (fun R=>?_)
  simp only[dU,uV,uW]
  simp only[Rl.kind,Rl.byte,Rl.left,Rl.right,Rl.times]
  refine gg2 ?_
  refine uU ?_
  refine fA O (fun b4=>?_)
  refine gg27 ?_
  refine uH ([cells b4 [.int .i64 ((2:Nat):Int),.int .u8 ((0:Nat):Int),.int .i64 (a:Nat),.int .i64 (b:Nat),.int .i64 ((0:Nat):Int)] 86,sl (some ⟨gt,0,none⟩) ct 44 1 T.length (idC T)]) ?_
  refine gg11 ?_
  apply dH 11 O oK O
  by_cases hlen:e1.t.length+e2.t.length≤dC
  ·refine uC (qLx (s:=s) (most:=most) (Es:=Es) hE he1 he2 hlen hroom) O ?_
   rintro _ _⟨M,id,rfl,h1,h2,h3,rfl⟩
   simp only[uV,uW]
   refine uE ?_
   refine gg9 ?_
   exact uZ O (.tmp O (.tmp O .nil)) (.inr ⟨M,id,O,h1,h2,h3,O⟩)
  refine uC (qHh (s:=s) (most:=most) (Es:=Es) hE he1 he2 (hsh _ _ he1).1 (hsh _ _ he2).1 oO) O ?_
  rintro _ _⟨rfl,rfl⟩
  simp only[uV,uW]
  refine uE ?_
  refine gg9 ?_
  exact uZ O (.tmp O (.tmp O .nil)) (.inl ⟨O,O⟩)
 | @power a k x ha x1 x2 hk hk2=>
  have hat:=(List.getElem?_eq_some_iff.1 ha).1
  obtain⟨x,rfl⟩:∃k,x=k+1:=⟨x-1,oO⟩
  obtain⟨e1,he1⟩:∃x',Es[x]?=some x':=⟨_,List.getElem?_eq_getElem oO⟩
  have f0:=fP ha (((a:Nat):Int).toNat) oO
  refine bO (hE.fn Tryz.func89) O O O (fun R=>?_)
  simp only[dU,uV,uW]
  simp only[Rl.kind,Rl.byte,Rl.left,Rl.right,Rl.times]
  refine gg2 ?_
  refine uU ?_
  refine fA O (fun b4=>?_)
  refine gg30 ?_
  refine uH ([cells b4 [.int .i64 ((3:Nat):Int),.int .u8 ((0:Nat):Int),.int .i64 (a:Nat),.int .i64 ((0:Nat):Int),.int .i64 (k:Nat)] 86,sl (some ⟨gt,0,none⟩) ct 44 1 T.length (idC T)]) ?_
  refine gg8 ?_
  apply dH 8 O oK O
  by_cases hlen:e1.t.length*k≤dC
  ·refine uC (qAd (s:=s) (most:=most) (Es:=Es) hE he1 hk hlen hroom) O ?_
   rintro _ _⟨M,id,rfl,h1,h2,h3,rfl⟩
   simp only[uV,uW]
   refine uE ?_
   refine gg7 ?_
   exact uZ O (.tmp O (.tmp O .nil)) (.inr ⟨M,id,O,h1,h2,h3,O⟩)
  have hp:=hsh _ _ he1
  apply aZ (qEm (s:=s) (most:=most) (Es:=Es) hE he1 hp.1 hp.2 hk (by
   apply Classical.byContradiction
   intro hn
   have h1:k≤dC/e1.t.length:=oO
   have h2:=Nat.mul_le_mul_left e1.t.length h1
   have h3:=Nat.mul_div_le dC e1.t.length
   omega)) rfl (hE.f oK)
  ·exact uK
  rintro _ _⟨rfl,rfl⟩
  simp only[uV,uW]
  refine uE ?_
  refine gg7 ?_
  exact uZ O (.tmp O (.tmp O .nil)) (.inl ⟨O,O⟩)
structure ImI (G:List Rl)(Es:List Ent)(k:Nat)(Z:List Nat):Prop where
 len:Z.length=k+1
 zero:Z[0]?=some 0
 ids:∀j,1≤j→j≤k→∃z,Z[j]?=some z∧1≤z∧z≤Es.length
 few:Es.length≤k
 same:Es.length=k→rls Es=G.take k∧∀j,j≤k→Z[j]?=some j
theorem ImI.make {G:List Rl}(hG:GOk 0 G)(hGt:∀r∈G,r.times<9223372036854775808) {Es:List Ent} {k:Nat} {Z:List Nat} (h:ImI G Es k Z) {r:Rl} (hr:G[k]?=some r):∃r',MkG Es.length (pad Z (G.length+1)) r r'∧(Es.length=k→r'=r):=by
 have ho:=hG k r hr
 rw[Nat.zero_add]at ho
 have hkl:=iE ho
 have ht:=hGt r (List.mem_of_getElem? hr)
 cases r with
 |letter b=>exact⟨_,.letter b,fun _=>rfl⟩
 |pair a b=>
  have ha:=hkl a (by simp[kids])
  have hb:=hkl b (by simp[kids])
  obtain⟨x,hx,x1,x2⟩:=h.ids a ha.1 oO
  obtain⟨y,hy,y1,y2⟩:=h.ids b hb.1 oO
  refine⟨_,.pair (sF hx) (sF hy) x1 x2 y1 y2,fun e=>?_⟩
  have e1:=(h.same e).2 a oO
  have e2:=(h.same e).2 b oO
  rw[hx]at e1
  rw[hy]at e2
  cases e1
  cases e2
  rfl
 |power a t=>
  have ha:=hkl a (by simp[kids])
  obtain⟨x,hx,x1,x2⟩:=h.ids a ha.1 oO
  simp only[Rl.ok]at ho
  simp only[Rl.times]at ht
  refine⟨_,.power (sF hx) x1 x2 ho.2.2 ht,fun e=>?_⟩
  have e1:=(h.same e).2 a oO
  rw[hx]at e1
  cases e1
  rfl
theorem ImI.next {G:List Rl}{Es M:List Ent}{k:Nat}{Z:List Nat}(h:ImI G Es k Z)(hw:Wf (rls (Es++M))){r r':Rl}(hr:G[k]?=some r)(hs:Es.length=k→r'=r){id:Nat}(h1:1≤id)(hid:(rls (Es++M))[id-1]?=some r')(hM:M=[]∨∃x:Ent,M=[x]∧x.r=r'):ImI G (Es++M) (k+1) (Z++[id]):=by
 have hil:=(List.getElem?_eq_some_iff.1 hid).1
 rw[bQ,List.length_append]at hil
 have hlen:=h.len
 have hf:=h.few
 refine⟨by simp[hlen],by rw[List.getElem?_append_left oO];exact h.zero,fun j j1 j2=>?_,?_,fun e=>?_⟩
 ·rcases Nat.lt_or_ge k j with hj|hj
  ·obtain rfl:j=k+1:=by omega
   exact⟨id,by rw[List.getElem?_append_right oO,hlen,Nat.sub_self];rfl,h1,by rw[List.length_append];omega⟩
  obtain⟨z,hz,z1,z2⟩:=h.ids j j1 hj
  exact⟨z,by rw[List.getElem?_append_left oO];exact hz,z1,by rw[List.length_append];omega⟩
 ·rw[List.length_append]
  rcases hM with rfl|⟨x,rfl,_⟩<;>simp <;>omega
 rw[List.length_append]at e
 rcases hM with rfl|⟨x,rfl,hx⟩
 ·simp only[List.length_nil]at e;omega
 simp only[List.length_singleton]at e
 have hk:Es.length=k:=oO
 obtain⟨g1,g2⟩:=h.same hk
 have hr2:=hs hk
 have e1:rls (Es++[x])=G.take k++[r]:=by rw[dB,g1];simp[rls,hx,hr2]
 have htl:(G.take k).length=k:=by rw[←g1,bQ,hk]
 refine⟨by rw[e1,List.take_add_one,hr];rfl,fun j hj=>?_⟩
 rcases Nat.lt_or_ge k j with hjk|hjk
 ·obtain rfl:j=k+1:=by omega
  have e2:(rls (Es++[x]))[k]?=some r':=by rw[e1,List.getElem?_append_right oO,htl,Nat.sub_self,hr2];rfl
  have:=hw.nodup _ _ _ hid e2
  rw[List.getElem?_append_right oO,hlen,Nat.sub_self]
  show some id=some (k+1)
  congr 1
  omega
 rw[List.getElem?_append_left oO]
 exact g2 j hjk
structure IgG where
 k:Nat
 Es:List Ent
 Z:List Nat
theorem qOi (hE:Seat E){G:List Rl}(hG:GOk 0 G)(hGt:∀r∈G,r.times<9223372036854775808) (hGl:G.length≤100000) {p:Option Addr} {c:Nat}:Ct E 62 [uPt s,.slice p G.length c] [bR s G.length [],sl p c 86 5 G.length (rusC G)]
  (fun v Q=>∃Es,((∃x,v= .tuple #[x,.nilIface]∧(Es.length=G.length→rls Es=G))∨v= .tuple #[.int .i64 0,.iface 58 (.int .i64 2)])∧Q=[bR s G.length Es,sl p c 86 5 G.length (rusC G)]):=by
 have hml:G.length+1≤maxLen:=by unfold maxLen;omega
 refine eQ (p:=sl p c 86 5 G.length (rusC G)) uK (fun _ h=>fun hpos=>eU h hpos) (fun hp=>?_)
 refine bO (hE.fn Tryz.func62) O O O (fun R=>?_)
 simp only[dU,uV,uW]
 refine gg25 ?_
 refine eZ (fun k:Nat=>[(0,uPt s),(1,.slice p G.length c),(17,.slice p G.length c),(18,.int .i64 (G.length:Nat)),(19,.int .i64 (k:Nat))]) (fun k=>[bR s G.length [],sl p c 86 5 G.length (rusC G),R]) (fun k=>G.length-k) (fun k=>k≤G.length) 0 (Nat.zero_le _) ⟨O,O,O,O,O,trivial⟩ uI ?_
 rintro k hk
 refine gg6 ?_
 refine bE O (fun h1=>?_) (fun h1=>?_)
 ·have hkl:k<G.length:=oO
  obtain⟨g,rfl⟩:=hp oO
  obtain⟨r,hr⟩:∃x,G[k]?=some x:=⟨_,List.getElem?_eq_getElem hkl⟩
  obtain⟨f0,f1,f2,f3,f4⟩:=yA hr (0+((k:Nat):Int).toNat*5) oO
  have hro:=hG k r hr
  rw[Nat.zero_add]at hro
  refine gg9 ?_
  refine uU (dA (hE.t O) (fun b7=>?_))
  refine gg9 ?_
  refine l_eq 26 (.int .i64 ((k+1:Nat):Int)) O (bW oO) ?_
  refine uX (rJ (r:=r) (n:=k+1) hE hro oO oO) O ?_
  rintro _ _⟨rfl,rfl⟩
  simp only[uV,uW]
  refine gg17 ?_
  refine bS (ι:=Nat) (j:=k+1) oO oO ⟨O,O,O,O,congrArg some (bW oO),trivial⟩ uI
 refine gg10 ?_
 refine l_eq 34 (.int .i64 ((G.length+1:Nat):Int)) O (bW oO) ?_
 refine uU ?_
 refine qFf (hE.t O) (hE.t O) O oO hml (fun b35=>?_)
 rw[qFo]
 refine gg12 ?_
 refine eZ (fun x:IgG=>[(0,uPt s),(1,.slice p G.length c),(9,.slice (some ⟨b35,0,none⟩) (G.length+1) (G.length+1)),(36,.slice p G.length c),(37,.int .i64 (G.length:Nat)),(38,.int .i64 (x.k:Nat))]) (fun x=>[bR s G.length x.Es,sl p c 86 5 G.length (rusC G),sl (some ⟨b35,0,none⟩) (G.length+1) 44 1 (G.length+1) (idC (pad x.Z (G.length+1))),R]) (fun x=>G.length-x.k) (fun x=>x.k≤G.length∧ImI G x.Es x.k x.Z) ⟨0,[],[0]⟩ ⟨Nat.zero_le _,O,O,fun j h1 h2=>by simp only at h2;omega,Nat.zero_le _,fun _=>⟨rfl,fun j hj=>by have h0:j=0:=Nat.le_zero.1 hj;subst h0;rfl⟩⟩ ⟨rfl,rfl,rfl,rfl,rfl,rfl,trivial⟩ uI ?_
 clear hk h1 k
 rintro⟨k,Es,Z⟩⟨hk,hI⟩
 simp only at hk hI ⊢
 refine gg6 ?_
 refine bE O (fun h1=>?_) (fun h1=>?_)
 ·have hkl:k<G.length:=oO
  obtain⟨g,rfl⟩:=hp oO
  obtain⟨r,hr⟩:∃x,G[k]?=some x:=⟨_,List.getElem?_eq_getElem hkl⟩
  obtain⟨f0,f1,f2,f3,f4⟩:=yA hr (0+((k:Nat):Int).toNat*5) oO
  obtain⟨r',hmk,hsm⟩:=hI.make hG hGt hr
  have hf:=hI.few
  have hzl:=hI.len
  have htl:(pad Z (G.length+1)).length=G.length+1:=xW oO
  refine gg9 ?_
  refine uU (dA (hE.t O) (fun b11=>?_))
  refine gg9 ?_
  refine l_eq 46 (.slice (some ⟨b35,0,none⟩) (pad Z (G.length+1)).length (G.length+1)) O (by rw[htl]) ?_
  refine nX (cO (p:=sl (some ⟨b35,0,none⟩) (G.length+1) 44 1 (G.length+1) (idC (pad Z (G.length+1)))) (p':=sl (some ⟨b35,0,none⟩) (G.length+1) 44 1 (pad Z (G.length+1)).length (idC (pad Z (G.length+1)))) uK (fun _ h=>by rw[htl];exact h)) ?_
  refine uX (ct_xPutG (s:=s) (most:=G.length) (Es:=Es) (r:=r) (r':=r') (T:=pad Z (G.length+1)) (gt:=b35) (ct:=G.length+1) hE oO hmk oO) O ?_
  rintro _ _(⟨rfl,rfl⟩|⟨M,i,rfl,hi1,hid,hM,rfl⟩)
  ·simp only[uV,uW]
   refine gg29 ?_
   exact uZ O (.tmp O (.tmp O .nil)) ⟨Es,.inr O,O⟩
  rw[htl]
  simp only[uV,uW]
  refine lV (p:=bR s G.length (Es++M)) uK (fun _ h=>(dR h).1) ?_
  intro hw
  have hI':=hI.next hw hr hsm hi1 hid hM
  refine gg27 ?_
  rw[qKt (Z:=Z) (n:=G.length+1) (x:=i) oO ((((k:Nat):Int)+1).toNat) oO rfl]
  refine gg4 ?_
  refine bS (ι:=IgG) (j:=⟨k+1,Es++M,Z++[i]⟩) ⟨by simp only;omega,hI'⟩ (by simp only;omega) ⟨rfl,rfl,rfl,rfl,rfl,congrArg some (bW (by simp only;omega)),trivial⟩ uI
 obtain rfl:k=G.length:=by omega
 obtain⟨z,hz⟩:∃z,Z[G.length]?=some z:=⟨_,List.getElem?_eq_getElem (by have:=hI.len;omega)⟩
 have f5:=fP (sF (n:=G.length+1) hz) (((G.length:Nat):Int).toNat) oO
 refine gg17 ?_
 apply cB
 ·rfl
 ·(apply Rs.tmp rfl;apply Rs.tmp rfl;exact Rs.nil)
 ·refine⟨Es,.inl ⟨_,O,fun e=>?_⟩,O⟩
  have:=(hI.same e).1
  rwa [List.take_length]at this
 exact uI
end
section
variable {E:Env}{G:List Rl}{Es:List Ent}
theorem qPw {L:List Rl}(hw:Wf L){i:Nat}{b:UInt8}(hr:L[i]?=some (.letter b)):Sig L (i+1):=by
 have hi:=(List.getElem?_eq_some_iff.1 hr).1
 have hl:=(fT hr).2
 have low:∀k:Nat,expd L k (i+1)=[i+1]:=fun k=>dZ oO oO
 exact⟨oO,oO,oO,fun k hk=>by rw[low];exact .one hw oO oO oO oO,fun k hk=>by rw[low,low];exact .one L k _⟩
theorem qOt (hE:Seat E)(hB:Base E.w0)(hw:Wf G)(hGl:G.length≤100000){k pb g1 c1 g2 c2 g3 c3:Nat}{r:Rl}(hkG:k<G.length)(hlk:∀j,1≤j→j≤k+1→0≤lvl G j∧lvl G j≤1048576) (hr:G[k]?=some r) (hs:∀j,1≤j→j≤k→Sig G j):
  Ct E 65 [uPt pb,.agg #[.int .i64 (Rl.kind (r):Nat),.int .u8 (Rl.byte (r):Nat),.int .i64 (Rl.left (r):Nat),.int .i64 (Rl.right (r):Nat),.int .i64 (Rl.times (r):Nat)]] [cells pb [.slice (some ⟨g1,0,none⟩) (G.length+1) c1,.slice (some ⟨g2,0,none⟩) (G.length+1) c2,.slice (some ⟨g3,0,none⟩) (G.length+1) c3] 151,sl (some ⟨g1,0,none⟩) c1 86 5 (G.length+1) (ruC G),sl (some ⟨g2,0,none⟩) c2 3 1 (G.length+1) (lvC G (k+1)),sl (some ⟨g3,0,none⟩) c3 70 1 (G.length+1) (kzC G (k+1))] (fun v Q=>∃b,v= .bool b∧(b=true→Sig G (k+1))∧Q=[cells pb [.slice (some ⟨g1,0,none⟩) (G.length+1) c1,.slice (some ⟨g2,0,none⟩) (G.length+1) c2,.slice (some ⟨g3,0,none⟩) (G.length+1) c3] 151,sl (some ⟨g1,0,none⟩) c1 86 5 (G.length+1) (ruC G),sl (some ⟨g2,0,none⟩) c2 3 1 (G.length+1) (lvC G (k+1)),sl (some ⟨g3,0,none⟩) c3 70 1 (G.length+1) (kzC G (k+1))]):=by
 have hkl:=iE (hw.ok k r hr)
 cases r with
 |letter b=>
  refine bO (hE.fn Tryz.func65) O O O (fun R=>?_)
  simp only[dU,uV,uW]
  simp only[Rl.kind,Rl.byte,Rl.left,Rl.right,Rl.times]
  refine gg2 ?_
  refine uU ?_
  refine fA O (fun b3=>?_)
  refine gg34 ?_
  exact uZ O (.tmp O .nil) ⟨true,O,fun _=>qPw hw hr,O⟩
 |pair a b=>
  have ha:=hkl a (by simp[kids])
  have hb:=hkl b (by simp[kids])
  refine bO (hE.fn Tryz.func65) O O O (fun R=>?_)
  simp only[dU,uV,uW]
  simp only[Rl.kind,Rl.byte,Rl.left,Rl.right,Rl.times]
  refine gg2 ?_
  refine uU ?_
  refine fA O (fun b3=>?_)
  refine gg25 ?_
  refine uX (qCt (k:=k+1) hE hB hw hGl oO hlk ⟨ha.1,oO⟩ ⟨hb.1,oO⟩ (hs a ha.1 oO)) O ?_
  rintro _ _⟨d,rfl,hd,rfl⟩
  simp only[uV,uW]
  refine gg6 ?_
  exact uZ O (.tmp O .nil) ⟨d,O,fun e=>sig_pair hw hr (hlk (k+1) oO oO).1 (hs a ha.1 oO) (hs b hb.1 oO) ((hd e).nb hw (hs a ha.1 oO) (hs b hb.1 oO)),O⟩
 |power a t=>
  have ha:=hkl a (by simp[kids])
  refine bO (hE.fn Tryz.func65) O O O (fun R=>?_)
  simp only[dU,uV,uW]
  simp only[Rl.kind,Rl.byte,Rl.left,Rl.right,Rl.times]
  refine gg2 ?_
  refine uU ?_
  refine fA O (fun b3=>?_)
  refine gg32 ?_
  refine uX (qCt (k:=k+1) hE hB hw hGl oO hlk ⟨ha.1,oO⟩ ⟨ha.1,oO⟩ (hs a ha.1 oO)) O ?_
  rintro _ _⟨d,rfl,hd,rfl⟩
  simp only[uV,uW]
  refine gg6 ?_
  exact uZ O (.tmp O .nil) ⟨d,O,fun e=>qTn hw hr (hlk (k+1) oO oO).1 (hs a ha.1 oO) ((hd e).nb hw (hs a ha.1 oO) (hs a ha.1 oO)),O⟩
theorem qOw (hE:Seat E)(hB:Base E.w0)(hG:GOk 0 G)(hGt:∀r∈G,r.times<9223372036854775808) (hGl:G.length≤100000) {A:List (List UInt8×Nat)} (hAl:A.length≤50000) (hA:∀p∈A,p.2≤G.length) {pg pl:Option Addr} {cg cl:Nat}:
  Ct E 39 [.slice pg G.length cg,.slice pl A.length cl] [sl pg cg 86 5 G.length (rusC G),sl pl cl 53 2 A.length (nlC (nmI A))] (fun v Q=>∃b,v= .bool b∧Q=[sl pg cg 86 5 G.length (rusC G),sl pl cl 53 2 A.length (nlC (nmI A))]∧(b=true→Wf G∧(∀j,1≤j→j≤G.length→Sig G j∧lvl G j≤1048576)∧dD G (A.map (·.2)) []=(List.range G.length).map (· +1))):=by
 have hmr:fB=1048576:=rfl
 refine eQ (p:=sl pl cl 53 2 A.length (nlC (nmI A))) uK (fun _ h=>fun hpos=>eU h hpos) (fun hpl=>?_)
 refine bO (hE.fn Tryz.func39) O O O (fun R=>?_)
 simp only[dU,uV,uW]
 refine gg9 ?_
 refine uX (qAa (most:=G.length) hE oO) O ?_
 rintro _ _⟨s,rfl,rfl⟩
 simp only[uV,uW]
 refine gg8 ?_
 refine uX (qOi hE hG hGt hGl) O ?_
 rintro _ _⟨Es,⟨x0,rfl,hsame⟩|rfl,rfl⟩
 rotate_left
 ·simp only[uV,uW]
  refine gg28 ?_
  exact uZ O (.tmp O .nil) ⟨false,O,O,fun e=>by cases e⟩
 simp only[uV,uW]
 have hEl:(rls Es).length=Es.length:=bQ Es
 refine gg15 ?_
 refine uX (vU hE) O ?_
 rintro _ _⟨rfl,rfl⟩
 simp only[uV,uW]
 refine gg9 ?_
 refine bE O (fun h1=>?_) (fun h1=>?_)
 ·refine gg7 ?_
  exact uZ O (.tmp O .nil) ⟨false,O,O,fun e=>by cases e⟩
 obtain rfl:G=rls Es:=(hsame oO).symm
 refine iJ (p:=bR s (rls Es).length Es) uK (fun _ h=>dR h) ?_
 rintro⟨hw, -, -, -⟩
 refine gg6 ?_
 refine uU ?_
 refine eH (c:=A.length) (hE.t O) (hE.t O) O oO oO (by(unfold maxLen;omega)) (fun b40=>?_)
 refine gg12 ?_
 have ez:List.replicate A.length (Value.int .i64 0)=idC (tkS (A.map (·.2)) 0):=by
  have:=qNr (A.map (·.2))
  rwa [List.length_map]at this
 rw[ez]
 refine eZ (fun k:Nat=>[(0,.slice pg (rls Es).length cg),(5,uPt s),(8,.slice (some ⟨b40,0,none⟩) A.length A.length),(41,.slice pl A.length cl),(42,.int .i64 (A.length:Nat)),(43,.int .i64 (k:Nat))]) (fun k=>[bR s (rls Es).length Es,sl pg cg 86 5 (rls Es).length (rusC (rls Es)),sl pl cl 53 2 A.length (nlC (nmI A)),sl (some ⟨b40,0,none⟩) A.length 44 1 A.length (idC (tkS (A.map (·.2)) k)),R]) (fun k=>A.length-k) (fun k=>k≤A.length) 0 (Nat.zero_le _) ⟨O,O,O,O,O,O,trivial⟩ uI ?_
 rintro k hk
 refine gg6 ?_
 refine bE O (fun h2=>?_) (fun h2=>?_)
 ·have hkl:k<A.length:=oO
  obtain⟨p,hp⟩:∃x,A[k]?=some x:=⟨_,List.getElem?_eq_getElem hkl⟩
  obtain⟨f0,f1⟩:=qMt hp (0+((k:Nat):Int).toNat*2) oO
  have hpk:(A.map (·.2))[k]?=some p.2:=by rw[List.getElem?_map,hp];rfl
  obtain⟨gl,rfl⟩:=hpl oO
  refine gg9 ?_
  refine uU (dA (hE.t O) (fun b10=>?_))
  refine gg18 ?_
  rw[qUf (k:=k) hpk (((k:Nat):Int).toNat) oO rfl]
  refine bS (ι:=Nat) (j:=k+1) oO oO ⟨O,O,O,O,O,congrArg some (bW oO),trivial⟩ uI
 obtain rfl:k=A.length:=by omega
 have ez2:tkS (A.map (·.2)) A.length=A.map (·.2):=by
  have:=qUe (A.map (·.2))
  rwa [List.length_map]at this
 rw[ez2]
 refine gg9 ?_
 refine uU ?_
 apply aZ (qAb (s:=s) (most:=(rls Es).length) (Es:=Es) (xs:=A.map (·.2)) hE (by simp) (fun x hx=>by
  obtain⟨q,hq,rfl⟩:=List.mem_map.1 hx
  have:=hA q hq
  omega) hAl) rfl (hE.f oK)
 ·exact uK
 rintro _ _⟨p1,c1,rfl,rfl⟩
 generalize hV:dD (rls Es) (A.map (·.2)) []=V
 simp only[uV,uW]
 refine gg13 ?_
 refine bE O (fun h3=>?_) (fun h3=>?_)
 ·refine gg7 ?_
  exact uZ O (.tmp O .nil) ⟨false,O,O,fun e=>by cases e⟩
 have hvl:V.length=(rls Es).length:=oO
 rw[hvl]
 refine iJ (p:=sl p1 c1 44 1 (rls Es).length (idC V)) uK (fun _ h=>fun hpos=>eU h hpos) ?_
 intro hp1
 refine gg11 ?_
 refine eZ (fun k:Nat=>[(0,.slice pg (rls Es).length cg),(5,uPt s),(62,.slice p1 (rls Es).length c1),(63,.int .i64 ((rls Es).length:Nat)),(64,.int .i64 (k:Nat))]) (fun k=>[bR s (rls Es).length Es,sl pg cg 86 5 (rls Es).length (rusC (rls Es)),sl pl cl 53 2 A.length (nlC (nmI A)),sl p1 c1 44 1 (rls Es).length (idC V),R]) (fun k=>(rls Es).length-k) (fun k=>k≤(rls Es).length∧∀j,j<k→V[j]?=some (j+1)) 0 ⟨Nat.zero_le _,fun j h=>by omega⟩ ⟨rfl,rfl,rfl,rfl,rfl,trivial⟩ uI ?_
 clear h2 hk h3 h1
 rintro k⟨hk,hVk⟩
 refine gg6 ?_
 refine bE O (fun h2=>?_) (fun h2=>?_)
 ·have hkl:k<(rls Es).length:=oO
  obtain⟨g1,rfl⟩:=hp1 oO
  obtain⟨z,hat⟩:∃z,V[k]?=some z:=⟨_,List.getElem?_eq_getElem oO⟩
  have f0:=fP hat (((k:Nat):Int).toNat) oO
  refine gg21 ?_
  refine bE O (fun h3=>?_) (fun h3=>?_)
  ·refine gg11 ?_
   exact uZ O (.tmp O .nil) ⟨false,O,O,fun e=>by cases e⟩
  refine gg7 ?_
  refine bS (ι:=Nat) (j:=k+1) ⟨oO,fun j hj=>by
   rcases Nat.lt_or_ge j k with h| h
   ·exact hVk j h
   obtain rfl:j=k:=by omega
   rw[hat]
   congr 1
   omega⟩ oO ⟨rfl,rfl,rfl,rfl,congrArg some (bW oO),trivial⟩ uI
 have hvis:V=(List.range (rls Es).length).map (· +1):=by
  apply List.ext_getElem?
  intro j
  rcases Nat.lt_or_ge j (rls Es).length with h| h
  ·rw[hVk j oO,List.getElem?_map,List.getElem?_range h];rfl
  rw[List.getElem?_eq_none oO,List.getElem?_eq_none (by simpa using h)]
 refine iJ (p:=sl pg cg 86 5 (rls Es).length (rusC (rls Es))) uK (fun _ h=>(jK h).2.2) ?_
 intro hGRl
 refine gg5 ?_
 refine nS (fun x:PpG=>[(0,.slice pg (rls Es).length cg),(5,uPt s),(14,.pointer (some ⟨x.b,0,none⟩))]) (fun x=>[bR s (rls Es).length Es,sl pg cg 86 5 (rls Es).length (rusC (rls Es)),sl pl cl 53 2 A.length (nlC (nmI A)),cells x.b [.slice x.p ((rls Es).length+1) x.c,.slice (some ⟨x.b2,0,none⟩) ((rls Es).length+1) ((rls Es).length+1),.slice (some ⟨x.b3,0,none⟩) ((rls Es).length+1) ((rls Es).length+1)] 151,sl x.p x.c 86 5 ((rls Es).length+1) (ruC (rls Es)),sl (some ⟨x.b2,0,none⟩) ((rls Es).length+1) 3 1 ((rls Es).length+1) (lvC (rls Es) 0),sl (some ⟨x.b3,0,none⟩) ((rls Es).length+1) 70 1 ((rls Es).length+1) (kzC (rls Es) 0),R]) (fun _=>True) ?_ ?_
 ·have el:List.replicate ((rls Es).length+1) (Value.int .i64 0)=lvC (rls Es) 0:=tJ (f:=fun j=> .int .i64 (lvl (rls Es) j)) O _
  have ek:List.replicate ((rls Es).length+1) (Value.int .u64 0)=kzC (rls Es) 0:=tJ (f:=fun j=> .int .u64 (key (rls Es) j:Nat)) O _
  refine uN 14 ([]) ?_
  refine gg1 ?_
  refine uT 2 O (aB O) (uT 4 O (aB O) ?_)
  refine gg2 ?_
  refine uT 8 O (aB O) ?_
  refine gg2 ?_
  apply qBe 1 7 11 O O O oK O O O
  ·refine aU (hE.t O) (hE.t O) O O O (fun b75=>?_)
   refine uE ?_
   apply qBe 3 7 11 O O O oK O O O
   ·refine iZ (cO (p:=cells b75 [.int .i64 0,.int .u8 0,.int .i64 0,.int .i64 0,.int .i64 0] 86) (p':=sl (some ⟨b75,0,none⟩) 1 86 5 1 [.int .i64 0,.int .u8 0,.int .i64 0,.int .i64 0,.int .i64 0]) uK (dX O (by unfold maxLen;omega))) ?_
    apply eF (hE.t O) (hE.t O) O O O
    ·exact uK
    ·exact uK
    ·exact gP _
    ·omega
    ·unfold maxLen;omega
    intro pK cK mK xK hmK hxK
    obtain rfl:mK=(rls Es).length+1:=by omega
    obtain rfl:xK=ruC (rls Es):=by rw[hxK];rfl
    refine uE ?_
    apply pM 7 11 O O oK O O
    ·refine eH (c:=(rls Es).length+1) (hE.t O) (hE.t O) O oO oO (by(unfold maxLen;omega)) (fun b81=>?_)
     refine uE ?_
     apply dV 11 O oK O
     refine eH (c:=(rls Es).length+1) (hE.t O) (hE.t O) O oO oO (by(unfold maxLen;omega)) (fun b85=>?_)
     refine uE ?_
     apply dG 12 O oK
     ·(first |exact fE (hE.t rfl) rfl rfl|exact kH (hE.t rfl) rfl rfl)
     ·rfl
     apply dV 13 O oK O
     refine fA O (fun b87=>?_)
     refine uE ?_
     apply dG 14 O oK
     ·exact aC O
     ·rfl
     refine gg1 ?_
     rw[el,ek]
     refine fJ (ι:=PpG) ⟨b87,pK,cK,b81,b85⟩ trivial ⟨O,O,O,trivial⟩ ?_
     exact uI
    refine eH (c:=(rls Es).length+1) (hE.t O) (hE.t O) O oO oO (by(unfold maxLen;omega)) (fun b85=>?_)
    refine uE ?_
    apply dV 7 O oK O
    refine eH (c:=(rls Es).length+1) (hE.t O) (hE.t O) O oO oO (by(unfold maxLen;omega)) (fun b81=>?_)
    refine uE ?_
    apply dG 12 O oK
    ·(first |exact fE (hE.t rfl) rfl rfl|exact kH (hE.t rfl) rfl rfl)
    ·rfl
    apply dV 13 O oK O
    refine fA O (fun b87=>?_)
    refine uE ?_
    apply dG 14 O oK
    ·exact aC O
    ·rfl
    refine gg1 ?_
    rw[el,ek]
    refine fJ (ι:=PpG) ⟨b87,pK,cK,b81,b85⟩ trivial ⟨O,O,O,trivial⟩ ?_
    exact uI
   ·refine eH (c:=(rls Es).length+1) (hE.t O) (hE.t O) O oO oO (by(unfold maxLen;omega)) (fun b81=>?_)
    refine uE ?_
    apply pM 3 11 O O oK O O
    ·refine iZ (cO (p:=cells b75 [.int .i64 0,.int .u8 0,.int .i64 0,.int .i64 0,.int .i64 0] 86) (p':=sl (some ⟨b75,0,none⟩) 1 86 5 1 [.int .i64 0,.int .u8 0,.int .i64 0,.int .i64 0,.int .i64 0]) uK (dX O (by unfold maxLen;omega))) ?_
     apply eF (hE.t O) (hE.t O) O O O
     ·exact uK
     ·exact uK
     ·exact gP _
     ·omega
     ·unfold maxLen;omega
     intro pK cK mK xK hmK hxK
     obtain rfl:mK=(rls Es).length+1:=by omega
     obtain rfl:xK=ruC (rls Es):=by rw[hxK];rfl
     refine uE ?_
     apply dV 11 O oK O
     refine eH (c:=(rls Es).length+1) (hE.t O) (hE.t O) O oO oO (by(unfold maxLen;omega)) (fun b85=>?_)
     refine uE ?_
     apply dG 12 O oK
     ·(first |exact fE (hE.t rfl) rfl rfl|exact kH (hE.t rfl) rfl rfl)
     ·rfl
     apply dV 13 O oK O
     refine fA O (fun b87=>?_)
     refine uE ?_
     apply dG 14 O oK
     ·exact aC O
     ·rfl
     refine gg1 ?_
     rw[el,ek]
     refine fJ (ι:=PpG) ⟨b87,pK,cK,b81,b85⟩ trivial ⟨O,O,O,trivial⟩ ?_
     exact uI
    refine eH (c:=(rls Es).length+1) (hE.t O) (hE.t O) O oO oO (by(unfold maxLen;omega)) (fun b85=>?_)
    refine uE ?_
    apply dV 3 O oK O
    refine iZ (cO (p:=cells b75 [.int .i64 0,.int .u8 0,.int .i64 0,.int .i64 0,.int .i64 0] 86) (p':=sl (some ⟨b75,0,none⟩) 1 86 5 1 [.int .i64 0,.int .u8 0,.int .i64 0,.int .i64 0,.int .i64 0]) uK (dX O (by unfold maxLen;omega))) ?_
    apply eF (hE.t O) (hE.t O) O O O
    ·exact uK
    ·exact uK
    ·exact gP _
    ·omega
    ·unfold maxLen;omega
    intro pK cK mK xK hmK hxK
    obtain rfl:mK=(rls Es).length+1:=by omega
    obtain rfl:xK=ruC (rls Es):=by rw[hxK];rfl
    refine uE ?_
    apply dG 12 O oK
    ·(first |exact fE (hE.t rfl) rfl rfl|exact kH (hE.t rfl) rfl rfl)
    ·rfl
    apply dV 13 O oK O
    refine fA O (fun b87=>?_)
    refine uE ?_
    apply dG 14 O oK
    ·exact aC O
    ·rfl
    refine gg1 ?_
    rw[el,ek]
    refine fJ (ι:=PpG) ⟨b87,pK,cK,b81,b85⟩ trivial ⟨O,O,O,trivial⟩ ?_
    exact uI
   refine eH (c:=(rls Es).length+1) (hE.t O) (hE.t O) O oO oO (by(unfold maxLen;omega)) (fun b85=>?_)
   refine uE ?_
   apply pM 3 7 O O oK O O
   ·refine iZ (cO (p:=cells b75 [.int .i64 0,.int .u8 0,.int .i64 0,.int .i64 0,.int .i64 0] 86) (p':=sl (some ⟨b75,0,none⟩) 1 86 5 1 [.int .i64 0,.int .u8 0,.int .i64 0,.int .i64 0,.int .i64 0]) uK (dX O (by unfold maxLen;omega))) ?_
    apply eF (hE.t O) (hE.t O) O O O
    ·exact uK
    ·exact uK
    ·exact gP _
    ·omega
    ·unfold maxLen;omega
    intro pK cK mK xK hmK hxK
    obtain rfl:mK=(rls Es).length+1:=by omega
    obtain rfl:xK=ruC (rls Es):=by rw[hxK];rfl
    refine uE ?_
    apply dV 7 O oK O
    refine eH (c:=(rls Es).length+1) (hE.t O) (hE.t O) O oO oO (by(unfold maxLen;omega)) (fun b81=>?_)
    refine uE ?_
    apply dG 12 O oK
    ·(first |exact fE (hE.t rfl) rfl rfl|exact kH (hE.t rfl) rfl rfl)
    ·rfl
    apply dV 13 O oK O
    refine fA O (fun b87=>?_)
    refine uE ?_
    apply dG 14 O oK
    ·exact aC O
    ·rfl
    refine gg1 ?_
    rw[el,ek]
    refine fJ (ι:=PpG) ⟨b87,pK,cK,b81,b85⟩ trivial ⟨O,O,O,trivial⟩ ?_
    exact uI
   refine eH (c:=(rls Es).length+1) (hE.t O) (hE.t O) O oO oO (by(unfold maxLen;omega)) (fun b81=>?_)
   refine uE ?_
   apply dV 3 O oK O
   refine iZ (cO (p:=cells b75 [.int .i64 0,.int .u8 0,.int .i64 0,.int .i64 0,.int .i64 0] 86) (p':=sl (some ⟨b75,0,none⟩) 1 86 5 1 [.int .i64 0,.int .u8 0,.int .i64 0,.int .i64 0,.int .i64 0]) uK (dX O (by unfold maxLen;omega))) ?_
   apply eF (hE.t O) (hE.t O) O O O
   ·exact uK
   ·exact uK
   ·exact gP _
   ·omega
   ·unfold maxLen;omega
   intro pK cK mK xK hmK hxK
   obtain rfl:mK=(rls Es).length+1:=by omega
   obtain rfl:xK=ruC (rls Es):=by rw[hxK];rfl
   refine uE ?_
   apply dG 12 O oK
   ·(first |exact fE (hE.t rfl) rfl rfl|exact kH (hE.t rfl) rfl rfl)
   ·rfl
   apply dV 13 O oK O
   refine fA O (fun b87=>?_)
   refine uE ?_
   apply dG 14 O oK
   ·exact aC O
   ·rfl
   refine gg1 ?_
   rw[el,ek]
   refine fJ (ι:=PpG) ⟨b87,pK,cK,b81,b85⟩ trivial ⟨O,O,O,trivial⟩ ?_
   exact uI
  ·refine eH (c:=(rls Es).length+1) (hE.t O) (hE.t O) O oO oO (by(unfold maxLen;omega)) (fun b81=>?_)
   refine uE ?_
   apply pM 1 11 O O oK O O
   ·refine aU (hE.t O) (hE.t O) O O O (fun b75=>?_)
    refine uE ?_
    apply pM 3 11 O O oK O O
    ·refine iZ (cO (p:=cells b75 [.int .i64 0,.int .u8 0,.int .i64 0,.int .i64 0,.int .i64 0] 86) (p':=sl (some ⟨b75,0,none⟩) 1 86 5 1 [.int .i64 0,.int .u8 0,.int .i64 0,.int .i64 0,.int .i64 0]) uK (dX O (by unfold maxLen;omega))) ?_
     apply eF (hE.t O) (hE.t O) O O O
     ·exact uK
     ·exact uK
     ·exact gP _
     ·omega
     ·unfold maxLen;omega
     intro pK cK mK xK hmK hxK
     obtain rfl:mK=(rls Es).length+1:=by omega
     obtain rfl:xK=ruC (rls Es):=by rw[hxK];rfl
     refine uE ?_
     apply dV 11 O oK O
     refine eH (c:=(rls Es).length+1) (hE.t O) (hE.t O) O oO oO (by(unfold maxLen;omega)) (fun b85=>?_)
     refine uE ?_
     apply dG 12 O oK
     ·(first |exact fE (hE.t rfl) rfl rfl|exact kH (hE.t rfl) rfl rfl)
     ·rfl
     apply dV 13 O oK O
     refine fA O (fun b87=>?_)
     refine uE ?_
     apply dG 14 O oK
     ·exact aC O
     ·rfl
     refine gg1 ?_
     rw[el,ek]
     refine fJ (ι:=PpG) ⟨b87,pK,cK,b81,b85⟩ trivial ⟨O,O,O,trivial⟩ ?_
     exact uI
    refine eH (c:=(rls Es).length+1) (hE.t O) (hE.t O) O oO oO (by(unfold maxLen;omega)) (fun b85=>?_)
    refine uE ?_
    apply dV 3 O oK O
    refine iZ (cO (p:=cells b75 [.int .i64 0,.int .u8 0,.int .i64 0,.int .i64 0,.int .i64 0] 86) (p':=sl (some ⟨b75,0,none⟩) 1 86 5 1 [.int .i64 0,.int .u8 0,.int .i64 0,.int .i64 0,.int .i64 0]) uK (dX O (by unfold maxLen;omega))) ?_
    apply eF (hE.t O) (hE.t O) O O O
    ·exact uK
    ·exact uK
    ·exact gP _
    ·omega
    ·unfold maxLen;omega
    intro pK cK mK xK hmK hxK
    obtain rfl:mK=(rls Es).length+1:=by omega
    obtain rfl:xK=ruC (rls Es):=by rw[hxK];rfl
    refine uE ?_
    apply dG 12 O oK
    ·(first |exact fE (hE.t rfl) rfl rfl|exact kH (hE.t rfl) rfl rfl)
    ·rfl
    apply dV 13 O oK O
    refine fA O (fun b87=>?_)
    refine uE ?_
    apply dG 14 O oK
    ·exact aC O
    ·rfl
    refine gg1 ?_
    rw[el,ek]
    refine fJ (ι:=PpG) ⟨b87,pK,cK,b81,b85⟩ trivial ⟨O,O,O,trivial⟩ ?_
    exact uI
   refine eH (c:=(rls Es).length+1) (hE.t O) (hE.t O) O oO oO (by(unfold maxLen;omega)) (fun b85=>?_)
   refine uE ?_
   apply dV 1 O oK O
   refine aU (hE.t O) (hE.t O) O O O (fun b75=>?_)
   refine uE ?_
   apply dV 3 O oK O
   refine iZ (cO (p:=cells b75 [.int .i64 0,.int .u8 0,.int .i64 0,.int .i64 0,.int .i64 0] 86) (p':=sl (some ⟨b75,0,none⟩) 1 86 5 1 [.int .i64 0,.int .u8 0,.int .i64 0,.int .i64 0,.int .i64 0]) uK (dX O (by unfold maxLen;omega))) ?_
   apply eF (hE.t O) (hE.t O) O O O
   ·exact uK
   ·exact uK
   ·exact gP _
   ·omega
   ·unfold maxLen;omega
   intro pK cK mK xK hmK hxK
   obtain rfl:mK=(rls Es).length+1:=by omega
   obtain rfl:xK=ruC (rls Es):=by rw[hxK];rfl
   refine uE ?_
   apply dG 12 O oK
   ·(first |exact fE (hE.t rfl) rfl rfl|exact kH (hE.t rfl) rfl rfl)
   ·rfl
   apply dV 13 O oK O
   refine fA O (fun b87=>?_)
   refine uE ?_
   apply dG 14 O oK
   ·exact aC O
   ·rfl
   refine gg1 ?_
   rw[el,ek]
   refine fJ (ι:=PpG) ⟨b87,pK,cK,b81,b85⟩ trivial ⟨O,O,O,trivial⟩ ?_
   exact uI
  refine eH (c:=(rls Es).length+1) (hE.t O) (hE.t O) O oO oO (by(unfold maxLen;omega)) (fun b85=>?_)
  refine uE ?_
  apply pM 1 7 O O oK O O
  ·refine aU (hE.t O) (hE.t O) O O O (fun b75=>?_)
   refine uE ?_
   apply pM 3 7 O O oK O O
   ·refine iZ (cO (p:=cells b75 [.int .i64 0,.int .u8 0,.int .i64 0,.int .i64 0,.int .i64 0] 86) (p':=sl (some ⟨b75,0,none⟩) 1 86 5 1 [.int .i64 0,.int .u8 0,.int .i64 0,.int .i64 0,.int .i64 0]) uK (dX O (by unfold maxLen;omega))) ?_
    apply eF (hE.t O) (hE.t O) O O O
    ·exact uK
    ·exact uK
    ·exact gP _
    ·omega
    ·unfold maxLen;omega
    intro pK cK mK xK hmK hxK
    obtain rfl:mK=(rls Es).length+1:=by omega
    obtain rfl:xK=ruC (rls Es):=by rw[hxK];rfl
    refine uE ?_
    apply dV 7 O oK O
    refine eH (c:=(rls Es).length+1) (hE.t O) (hE.t O) O oO oO (by(unfold maxLen;omega)) (fun b81=>?_)
    refine uE ?_
    apply dG 12 O oK
    ·(first |exact fE (hE.t rfl) rfl rfl|exact kH (hE.t rfl) rfl rfl)
    ·rfl
    apply dV 13 O oK O
    refine fA O (fun b87=>?_)
    refine uE ?_
    apply dG 14 O oK
    ·exact aC O
    ·rfl
    refine gg1 ?_
    rw[el,ek]
    refine fJ (ι:=PpG) ⟨b87,pK,cK,b81,b85⟩ trivial ⟨O,O,O,trivial⟩ ?_
    exact uI
   refine eH (c:=(rls Es).length+1) (hE.t O) (hE.t O) O oO oO (by(unfold maxLen;omega)) (fun b81=>?_)
   refine uE ?_
   apply dV 3 O oK O
   refine iZ (cO (p:=cells b75 [.int .i64 0,.int .u8 0,.int .i64 0,.int .i64 0,.int .i64 0] 86) (p':=sl (some ⟨b75,0,none⟩) 1 86 5 1 [.int .i64 0,.int .u8 0,.int .i64 0,.int .i64 0,.int .i64 0]) uK (dX O (by unfold maxLen;omega))) ?_
   apply eF (hE.t O) (hE.t O) O O O
   ·exact uK
   ·exact uK
   ·exact gP _
   ·omega
   ·unfold maxLen;omega
   intro pK cK mK xK hmK hxK
   obtain rfl:mK=(rls Es).length+1:=by omega
   obtain rfl:xK=ruC (rls Es):=by rw[hxK];rfl
   refine uE ?_
   apply dG 12 O oK
   ·(first |exact fE (hE.t rfl) rfl rfl|exact kH (hE.t rfl) rfl rfl)
   ·rfl
   apply dV 13 O oK O
   refine fA O (fun b87=>?_)
   refine uE ?_
   apply dG 14 O oK
   ·exact aC O
   ·rfl
   refine gg1 ?_
   rw[el,ek]
   refine fJ (ι:=PpG) ⟨b87,pK,cK,b81,b85⟩ trivial ⟨O,O,O,trivial⟩ ?_
   exact uI
  refine eH (c:=(rls Es).length+1) (hE.t O) (hE.t O) O oO oO (by(unfold maxLen;omega)) (fun b81=>?_)
  refine uE ?_
  apply dV 1 O oK O
  refine aU (hE.t O) (hE.t O) O O O (fun b75=>?_)
  refine uE ?_
  apply dV 3 O oK O
  refine iZ (cO (p:=cells b75 [.int .i64 0,.int .u8 0,.int .i64 0,.int .i64 0,.int .i64 0] 86) (p':=sl (some ⟨b75,0,none⟩) 1 86 5 1 [.int .i64 0,.int .u8 0,.int .i64 0,.int .i64 0,.int .i64 0]) uK (dX O (by unfold maxLen;omega))) ?_
  apply eF (hE.t O) (hE.t O) O O O
  ·exact uK
  ·exact uK
  ·exact gP _
  ·omega
  ·unfold maxLen;omega
  intro pK cK mK xK hmK hxK
  obtain rfl:mK=(rls Es).length+1:=by omega
  obtain rfl:xK=ruC (rls Es):=by rw[hxK];rfl
  refine uE ?_
  apply dG 12 O oK
  ·(first |exact fE (hE.t rfl) rfl rfl|exact kH (hE.t rfl) rfl rfl)
  ·rfl
  apply dV 13 O oK O
  refine fA O (fun b87=>?_)
  refine uE ?_
  apply dG 14 O oK
  ·exact aC O
  ·rfl
  refine gg1 ?_
  rw[el,ek]
  refine fJ (ι:=PpG) ⟨b87,pK,cK,b81,b85⟩ trivial ⟨O,O,O,trivial⟩ ?_
  exact uI
 rintro⟨pb,p2,c2,b2,b3⟩_
 simp only
 refine iJ (p:=sl p2 c2 86 5 ((rls Es).length+1) (ruC (rls Es))) uK (fun _ h=>eU h oO) ?_
 rintro⟨g1,rfl⟩
 refine gg3 ?_
 refine uX (xL hE) O ?_
 rintro _ _⟨tb,rfl,rfl⟩
 simp only[uV,uW]
 refine nX (cO (p:=tabP tb s []) (p':=tabP tb s (rls Es)) uK (fun _ h=>kS (rls Es) h)) ?_
 refine gg10 ?_
 refine eZ (fun k:Nat=>[(0,.slice pg (rls Es).length cg),(14,uPt pb),(15,uPt tb),(16,.int .i64 ((k+1:Nat):Int))]) (fun k=>[bR s (rls Es).length Es,tabP tb s (rls Es),sl pg cg 86 5 (rls Es).length (rusC (rls Es)),sl pl cl 53 2 A.length (nlC (nmI A)),cells pb [.slice (some ⟨g1,0,none⟩) ((rls Es).length+1) c2,.slice (some ⟨b2,0,none⟩) ((rls Es).length+1) ((rls Es).length+1),.slice (some ⟨b3,0,none⟩) ((rls Es).length+1) ((rls Es).length+1)] 151,sl (some ⟨g1,0,none⟩) c2 86 5 ((rls Es).length+1) (ruC (rls Es)),sl (some ⟨b2,0,none⟩) ((rls Es).length+1) 3 1 ((rls Es).length+1) (lvC (rls Es) k),sl (some ⟨b3,0,none⟩) ((rls Es).length+1) 70 1 ((rls Es).length+1) (kzC (rls Es) k),R]) (fun k=>(rls Es).length-k) (fun k=>k≤(rls Es).length∧∀j,1≤j→j≤k→Sig (rls Es) j∧lvl (rls Es) j≤1048576) 0 ⟨Nat.zero_le _,fun j h1 h2=>by omega⟩ ⟨rfl,rfl,rfl,rfl,trivial⟩ uI ?_
 clear h2 hk hVk k
 rintro k⟨hk,hsg⟩
 refine gg9 ?_
 refine bE O (fun h2=>?_) (fun h2=>?_)
 ·have hkl:k<(rls Es).length:=oO
  obtain⟨r,hr⟩:∃x,(rls Es)[k]?=some x:=⟨_,List.getElem?_eq_getElem hkl⟩
  obtain⟨f0,f1,f2,f3,f4⟩:=wV hr (0+((k+1:Nat):Int).toNat*5) oO
  refine gg8 ?_
  by_cases hlv0:0≤lvl (rls Es) (k+1)
  rotate_left
  ·refine uX (qJy (s:=s) (most:=(rls Es).length) (Es:=Es) (i:=k) hE hB oO oO) O ?_
   rintro _ _⟨rfl,rfl⟩
   simp only[uV,uW]
   refine gg31 ?_
   exact uZ O (.tmp O .nil) ⟨false,O,O,fun e=>by cases e⟩
  refine uX (zG (s:=s) (most:=(rls Es).length) (Es:=Es) (i:=k) hE hB oO hlv0) O ?_
  rintro _ _⟨rfl,rfl⟩
  simp only[uV,uW]
  refine gg20 ?_
  refine bE O (fun h3=>?_) (fun h3=>?_)
  ·refine gg12 ?_
   exact uZ O (.tmp O .nil) ⟨false,O,O,fun e=>by cases e⟩
  have hlk:∀j,1≤j→j≤k+1→0≤lvl (rls Es) j∧lvl (rls Es) j≤1048576:=fun j j1 j2=>by
   rcases Nat.lt_or_ge k j with h| h
   ·obtain rfl:j=k+1:=by omega
    exact⟨hlv0,oO⟩
   exact⟨(hsg j j1 h).1.lv,(hsg j j1 h).2⟩
  refine gg6 ?_
  refine uX (yL (s:=s) (most:=(rls Es).length) (Es:=Es) (i:=k) hE hB oO) O ?_
  rintro _ _⟨rfl,rfl⟩
  simp only[uV,uW]
  refine gg29 ?_
  rw[qSm (k:=k) oO (((k+1:Nat):Int).toNat) oO]
  refine gg12 ?_
  rw[qSg (k:=k) oO (((k+1:Nat):Int).toNat) oO]
  refine gg10 ?_
  refine uX (qOt (k:=k) hE hB hw hGl hkl hlk hr (fun j j1 j2=>(hsg j j1 j2).1)) O ?_
  rintro _ _⟨d,rfl,hd,rfl⟩
  cases d with
  |false=>
   simp only[uV,uW]
   refine gg15 ?_
   exact uZ O (.tmp O .nil) ⟨false,O,O,fun e=>by cases e⟩
  |true=>
   simp only[uV,uW]
   refine gg12 ?_
   refine bS (ι:=Nat) (j:=k+1) ⟨oO,fun j j1 j2=>by
    rcases Nat.lt_or_ge k j with h| h
    ·obtain rfl:j=k+1:=by omega
     exact⟨hd O,(hlk _ j1 j2).2⟩
    exact hsg j j1 h⟩ oO ⟨rfl,rfl,rfl,congrArg some (bW oO),trivial⟩ uI
 refine gg11 ?_
 exact uZ O (.tmp O .nil) ⟨true,O,O,fun _=>⟨hw,fun j j1 j2=>hsg j j1 oO,hvis⟩⟩
end
end Go.Proofs.YtlmpojkmeglepaaGreatDoor
