import Derived.Test.YtlmpojkmeglepaaGreatDoorQ53
import Derived.Test.YtlmpojkmeglepaaGreatDoorQ75
import Derived.Test.YtlmpojkmeglepaaGreatDoorQ9P
set_option linter.all false
set_option maxHeartbeats 1000000
namespace Go.Proofs.YtlmpojkmeglepaaGreatDoor
open Go Go.RowKit Sl Eg
set_option maxRecDepth 10000
section
variable {E:Env}
structure Rg50 where
 G:List Rl
 a:Option Addr
 c:Nat
 Bs:List UInt8
 pg:Option Addr
 cg:Nat
structure Rn50 where
 A:List (List UInt8×Nat)
 a:Option Addr
 c:Nat
 Bs:List UInt8
 pl:Option Addr
 cl:Nat
 prev:List UInt8
theorem rulB_two (n:Nat)(r:Rl):2≤(rulB n r).length:=by
 cases r with
 |letter b=>exact Nat.le_refl _
 |pair a b=>
  have:=jD (n-a)
  have e:(rulB n (.pair a b)).length=(vput (n-a)).length+(vput (n-b)).length+1:=by simp[rulB]
  omega
 |power a k=>
  have:=jD (n-a)
  have e:(rulB n (.power a k)).length=(vput (n-a)).length+(vput (k-2)).length+1:=by simp[rulB]
  omega
theorem GOk.snoc {G:List Rl}(h:GOk 0 G){r:Rl}(hr:r.ok (G.length+1)):GOk 0 (G++[r]):=fun i q hq=>by
 rcases Nat.lt_or_ge i G.length with hl|hl
 ·rw[List.getElem?_append_left hl]at hq
  exact h i q hq
 rw[List.getElem?_append_right hl]at hq
 have h0:=(List.getElem?_eq_some_iff.1 hq).1
 have hi:i-G.length=0:=by simp at h0;omega
 rw[hi]at hq
 cases hq
 rw[show 0+i+1=G.length+1 by omega]
 exact hr
theorem qPn {G:List Rl}{r:Rl}:encG 0 (G++[r])=encG 0 G++rulB (G.length+1) r:=by
 rw[sW]
 simp[encG]
theorem qPx {α:Type}{A:List α}{x p q:α}{i:Nat}(h1:(A++[x])[i]?=some p)(h2:(A++[x])[i+1]?=some q):(A[i]?=some p∧A[i+1]?=some q)∨(i+1=A.length∧A[i]?=some p∧q=x):=by
 have hl:=(List.getElem?_eq_some_iff.1 h2).1
 rw[List.length_append,List.length_singleton]at hl
 rw[List.getElem?_append_left oO]at h1
 rcases Nat.lt_or_ge (i+1) A.length with h| h
 ·rw[List.getElem?_append_left h]at h2
  exact .inl ⟨h1,h2⟩
 rw[List.getElem?_append_right h,show i+1-A.length=0 by omega]at h2
 cases h2
 exact .inr ⟨oO,h1,O⟩
def OrdN (A:List (List UInt8×Nat)):Prop:=∀(i:Nat)(p q:List UInt8×Nat),A[i]?=some p→A[i+1]?=some q→Op.bytesLess p.1 q.1=true
theorem ct_readG (hE:Seat E){Bs:List UInt8}{a:Option Addr}{c:Nat}{q:HP}(hq:Rdb E.w0 a (byC Bs) q)(hc:Bs.length≤c)(hcl:Bs.length≤100000):
  Ct E 38 [.slice a Bs.length c] [q]
   (fun v Q=>(∃x y,v= .tuple #[x,y,.bool false]∧Q=[q])∨∃(G:List Rl)(A:List (List UInt8×Nat))(pg:Option Addr)(cg:Nat)(pl:Option Addr)(cl:Nat),v= .tuple #[.slice pg G.length cg,.slice pl A.length cl,.bool true]∧Q=[q,sl pg cg 86 5 G.length (rusC G),sl pl cl 53 2 A.length (nlC (nmI A))]∧
    GOk 0 G∧(∀r∈G,r.times<9223372036854775808)∧(∀p∈A,ValidN p.1∧p.2≤G.length)∧OrdN A∧Bs=encA G A∧2*G.length≤Bs.length∧2*A.length≤Bs.length):=by
 refine bO (hE.fn Tryz.func38) O O O (fun R=>?_)
 simp only[dY,uV,uW]
 refine dO (uA O (uA O (uA O (dN (dO (uM O (uX (nU hE hq) O ?_)))))))
 rintro _ _⟨rfl,⟨N,t,hN,hBs1,rfl⟩|rfl⟩
 rotate_left
 ·simp only[uV,uW]
  refine uM O (uB (aT O O) (uB (aT O O) (uB (aT O O) (uA O (uA O (uA O (dN (aL (dO (uM O ?_))))))))))
  apply aA
  ·(first |exact dU rfl (hE.t rfl)|exact dX rfl (hE.t rfl))
  ·rfl
  refine uM O (dQ (dQ ?_))
  apply aA
  ·(first |exact aW rfl rfl|exact aX rfl rfl)
  ·rfl
  refine dN (bF O (dO (uA O (uA O (uA O (dN (bZ (aV ?_))))))))
  exact uZ O (.tmp O (.tmp O (.tmp O .nil))) (.inl ⟨_,_,O,O⟩)
 simp only[uV,uW]
 have hv1:=gB hN
 have hl1:Bs.length=(vput N).length+t.length:=by rw[hBs1,List.length_append]
 have hd1:Bs.drop (vput N).length=t:=by rw[hBs1];simp
 refine uM O (uB (aT O O) (uB (aT O O) (uB (aT O O) (uA O (uA O (uA O (dN (aL (dO (uM O ?_))))))))))
 apply aA
 ·(first |exact dU rfl (hE.t rfl)|exact dX rfl (hE.t rfl))
 ·rfl
 refine uM O (dP (uM O (dP (uB (y_gt O O) ?_))))
 apply aA
 ·(first |exact aW rfl rfl|exact aX rfl rfl)
 ·rfl
 refine dN ?_
 refine bE O (fun e1=>?_) (fun e1=>?_)
 ·refine aL (aJ ?_)
  refine uA O (uA O (uA O (dN (bZ (aV ?_)))))
  exact uZ O (.tmp O (.tmp O (.tmp O .nil))) (.inl ⟨_,_,O,O⟩)
 refine bC (aK (dO (uM O (uM O (uB (mH (l:=(vput N).length) (h:=Bs.length) O (hE.t O) ⟨_,O⟩ O oO oO) ?_)))))
 refine l_eq 33 (.slice (vwA a c ((vput N).length)) (Bs.drop (vput N).length).length (c-((vput N).length))) O (congrArg (fun z=>Value.slice _ z _) (by rw[List.length_drop])) ?_
 have hq1:=qF (k:=(vput N).length) hq hc
 have hc1:(Bs.drop (vput N).length).length≤c-(vput N).length:=by rw[List.length_drop];omega
 generalize vwA a c (vput N).length=a1 at hq1 ⊢
 generalize c-(vput N).length=c1 at hc1 ⊢
 rw[hd1]at hq1 hc1 ⊢
 refine uA O (dN (dO (uA O (dN (aL (dO (uM O (uM O (dN (bK ?_))))))))))
 refine fD (fun x:Rg50=>[(0,.slice x.a x.Bs.length x.c),(5,.int .u64 (N:Nat)),(8,.slice x.pg x.G.length x.cg),(34,.int .u64 (N:Nat)),(35,.int .u64 (x.G.length:Nat))]) (fun x=>[q,sl x.pg x.cg 86 5 x.G.length (rusC x.G),R]) (fun x=>N-x.G.length) (fun x=>x.G.length≤N∧Rdb E.w0 x.a (byC x.Bs) q∧x.Bs.length≤x.c∧vput N++(encG 0 x.G++x.Bs)=Bs∧2*x.G.length+x.Bs.length≤Bs.length∧GOk 0 x.G∧∀r∈x.G,r.times<9223372036854775808) ⟨[],a1,c1,t,none,0⟩ ⟨Nat.zero_le _,hq1,hc1,by rw[hBs1];rfl,by simp only[List.length_nil];omega,fun i r h=>by simp at h,by simp⟩ ⟨rfl,rfl,rfl,rfl,rfl,trivial⟩ ?_ ?_
 ·apply cZ (iV (t:=86) (sz:=5))
  exact uI
 clear hq1 hc1 a1 c1 hd1 hl1 hBs1
 rintro⟨G,a1,c1,B1,pg,cg⟩⟨hk,hq1,hc1,hB1,hsz,hG,hGt⟩
 simp only at hk hq1 hc1 hB1 hsz hG hGt ⊢
 refine dO (uB (y_lt O O) (dN (aL ?_)))
 refine bE O (fun h1=>?_) (fun h1=>?_)
 ·have hkl:G.length<N:=oO
  refine bC (aK (aL (bK (dO (uM O (uM O (uB (uBl O) (uB (uAa O O) ?_))))))))
  refine l_eq 41 (.int .i64 ((G.length+1:Nat):Int)) O (bW oO) ?_
  refine uX (qPb (n:=G.length+1) hE oO oO hq1 hc1 oO) O ?_
  rintro _ _⟨rfl,⟨r,t1,hro,hrt,hd2,rfl⟩|⟨e,rfl⟩⟩
  rotate_left
  ·simp only[uV,uW]
   refine uM O (uB (aT O O) (uB (aT O O) (uB (aT O O) (uU (dA (hE.t O) (fun b9=>?_))))))
   refine uU ?_
   (first |(apply bL rfl rfl (hE.t rfl) rfl;(focus((repeat constructor);done));(focus rfl);(focus(exact Nat.le_of_ble_eq_true rfl)))|(apply aS rfl rfl (hE.t rfl) rfl;(focus((repeat constructor);done));(focus rfl);(focus(first |omega |(simp only[bP,aN,List.length_cons,List.length_nil];omega)))))
   refine uA O (uA O (dN (aL (dO (uM O ?_)))))
   apply aA
   ·(first |exact dU rfl (hE.t rfl)|exact dX rfl (hE.t rfl))
   ·rfl
   refine dN (bF O (dO (uA O (uA O (uA O (dN (bZ (aV (bN (aV (aV (bN (aV ?_)))))))))))))
   exact uZ O (.tmp O (.tmp O (.tmp O .nil))) (.inl ⟨_,_,O,O⟩)
  simp only[uV,uW]
  have hr2:=rulB_two (G.length+1) r
  have hl2:B1.length=(rulB (G.length+1) r).length+t1.length:=by rw[hd2,List.length_append]
  have hd3:B1.drop (rulB (G.length+1) r).length=t1:=by rw[hd2];simp
  have hq2:=qF (k:=(rulB (G.length+1) r).length) hq1 hc1
  have hdl:(B1.drop (rulB (G.length+1) r).length).length=B1.length-(rulB (G.length+1) r).length:=List.length_drop
  refine uM O (uB (aT O O) (uB (aT O O) (uB (aT O O) (uU (dA (hE.t O) (fun b9=>?_))))))
  refine uU ?_
  (first |(apply bL rfl rfl (hE.t rfl) rfl;(focus((repeat constructor);done));(focus rfl);(focus(exact Nat.le_of_ble_eq_true rfl)))|(apply aS rfl rfl (hE.t rfl) rfl;(focus((repeat constructor);done));(focus rfl);(focus(first |omega |(simp only[bP,aN,List.length_cons,List.length_nil];omega)))))
  refine uA O (uA O (dN (aL (dO (uM O ?_)))))
  apply aA
  ·(first |exact dU rfl (hE.t rfl)|exact dX rfl (hE.t rfl))
  ·rfl
  refine dN (bD O (bC (aK (dO (uM O (uM O (uB (mH (l:=(rulB (G.length+1) r).length) (h:=B1.length) O (hE.t O) ⟨_,O⟩ O oO oO) ?_)))))))
  refine l_eq 50 (.slice (vwA a1 c1 ((rulB (G.length+1) r).length)) (B1.drop (rulB (G.length+1) r).length).length (c1-((rulB (G.length+1) r).length))) O (congrArg (fun z=>Value.slice _ z _) (by rw[List.length_drop])) ?_
  refine uA O (dN (aJ (uM O ?_)))
  apply aA
  ·(first |(apply bV rfl (hE.t rfl) rfl;(repeat(first |rfl|assumption|constructor));done)|(apply y_load_agg_old rfl (hE.t rfl) rfl;assumption))
  ·rfl
  refine uU ?_
  refine aU (hE.t O) (hE.t O) O O O (fun b53=>?_)
  refine uU ?_
  apply bU (hE.t O) (hE.t O) O O O
  ·exact uK
  ·exact uK
  ·rfl
  ·rfl
  ·omega
  ·omega
  ·(unfold maxLen;omega)
  intro g54 c54 n54 x54 hn54 hx54
  refine uA O (aM (bI (aK (aJ (uB (y_add_u O O oO oO) ?_)))))
  refine uM O (aM ?_)
  have hGl:(G++[r]).length=G.length+1:=by simp
  obtain rfl:x54=rusC (G++[r]):=by
   rw[hx54,qRl]
   rfl
  subst hn54
  refine bS (ι:=Rg50) (j:=⟨G++[r],vwA a1 c1 (rulB (G.length+1) r).length,c1-(rulB (G.length+1) r).length,B1.drop (rulB (G.length+1) r).length,some ⟨g54,0,none⟩,c54⟩) ⟨by simp only[hGl];omega,hq2,by simp only;omega,?_,by simp only[hGl];omega,hG.snoc hro,fun x hx=>?_⟩ (by simp only[hGl];omega) ⟨rfl,rfl,by simp only[hGl];rfl,rfl,congrArg some (congrArg (Value.int .u64) (by simp only[hGl];omega)),trivial⟩ ?_
  ·simp only
   rw[hd3,qPn,List.append_assoc,←hd2]
   exact hB1
  ·rcases List.mem_append.1 hx with hx|hx
   ·exact hGt x hx
   rw[List.mem_singleton.1 hx];exact hrt
  simp only[hGl]
  exact uI
 obtain rfl:N=G.length:=by omega
 refine dF (aQ (aQ (bH (aK (dO (uM O (uX (nU hE hq1) O ?_)))))))
 rintro _ _⟨rfl,⟨M,t,hM,hd2,rfl⟩|rfl⟩
 rotate_left
 ·simp only[uV,uW]
  refine uM O (uB (aT O O) (uB (aT O O) (uB (aT O O) (uA O (uA O (uA O (dN (aL (dO (uM O ?_))))))))))
  apply aA
  ·(first |exact dU rfl (hE.t rfl)|exact dX rfl (hE.t rfl))
  ·rfl
  refine dN (bF O (dO (uA O (uA O (uA O (dN (bZ (aV ?_))))))))
  exact uZ O (.tmp O (.tmp O (.tmp O .nil))) (.inl ⟨_,_,O,O⟩)
 simp only[uV,uW]
 have hv2:=gB hM
 have hl2:B1.length=(vput M).length+t.length:=by rw[hd2,List.length_append]
 have hd3:B1.drop (vput M).length=t:=by rw[hd2];simp
 have hq2:=qF (k:=(vput M).length) hq1 hc1
 have hc2:(B1.drop (vput M).length).length≤c1-(vput M).length:=by rw[List.length_drop];omega
 refine uM O (uB (aT O O) (uB (aT O O) (uB (aT O O) (uA O (uA O (uA O (dN (aL (dO (uM O ?_))))))))))
 apply aA
 ·(first |exact dU rfl (hE.t rfl)|exact dX rfl (hE.t rfl))
 ·rfl
 refine dN (bD O (bC (aK (dO (uM O (uM O (uB (mH (l:=(vput M).length) (h:=B1.length) O (hE.t O) ⟨_,O⟩ O oO oO) ?_)))))))
 refine l_eq 66 (.slice (vwA a1 c1 ((vput M).length)) (B1.drop (vput M).length).length (c1-((vput M).length))) O (congrArg (fun z=>Value.slice _ z _) (by rw[List.length_drop])) ?_
 generalize vwA a1 c1 (vput M).length=a2 at hq2 ⊢
 generalize c1-(vput M).length=c2 at hc2 ⊢
 rw[hd3]at hq2 hc2 ⊢
 have hBs2:vput G.length++(encG 0 G++(vput M++t))=Bs:=by rw[←hd2];exact hB1
 refine uA O (dN (dO (uA O (dN (dO (uA O (dN (aL (bK ?_)))))))))
 refine fD (fun x:Rn50=>[(0,.slice x.a x.Bs.length x.c),(5,.int .u64 (G.length:Nat)),(8,.slice pg G.length cg),(12,.int .u64 ((M-x.A.length:Nat):Int)),(13,.slice x.pl x.A.length x.cl),(14,.string ⟨⟨x.prev⟩⟩)]) (fun x=>[q,sl pg cg 86 5 G.length (rusC G),sl x.pl x.cl 53 2 x.A.length (nlC (nmI x.A)),R]) (fun x=>M-x.A.length) (fun x=>x.A.length≤M∧Rdb E.w0 x.a (byC x.Bs) q∧x.Bs.length≤x.c∧vput G.length++(encG 0 G++(vput M++(encM x.A++x.Bs)))=Bs∧2*x.A.length+x.Bs.length≤Bs.length∧(∀p∈x.A,ValidN p.1∧p.2≤G.length)∧OrdN x.A∧Prv x.A x.A.length x.prev) ⟨[],a2,c2,t,none,0,[]⟩ ⟨Nat.zero_le _,hq2,hc2,hBs2,by simp only[List.length_nil];omega,by simp,fun i p q h=>by simp at h,.inl ⟨rfl,rfl⟩⟩ ⟨rfl,rfl,rfl,rfl,rfl,rfl,trivial⟩ ?_ ?_
 ·apply cZ (iV (t:=53) (sz:=2))
  exact uI
 have hgl:2*G.length≤Bs.length:=oO
 clear hq2 hc2 hd3 a2 c2 hl2 hd2 hc1 hq1 hB1 hsz B1 hBs2 t
 rintro⟨A,a1,c1,B1,pl,cl,prev⟩⟨hkA,hq1,hc1,hB1,hszA,hA,hO,hpv⟩
 simp only at hkA hq1 hc1 hB1 hszA hA hO hpv ⊢
 refine aL (dO (uM O (uB (y_gt O O) (dN ?_))))
 refine bE O (fun h2=>?_) (fun h2=>?_)
 ·have hkl:A.length<M:=oO
  refine bC (aK (aL (bK (dO (uM O (uX (qBq (mx:=32) hE oO hq1 hc1 oO) O ?_))))))
  rintro _ _(⟨rfl,e,rfl⟩|⟨nm,t,gn,hd2,hnm,rfl,rfl⟩)
  ·simp only[uV,uW]
   refine uM O (uB (aT O O) (uB (aT O O) (uB (aT O O) (uA O (uA O (uA O (dN (aL (dO (uM O ?_))))))))))
   apply aA
   ·(first |exact dU rfl (hE.t rfl)|exact dX rfl (hE.t rfl))
   ·rfl
   refine uM O (dQ (dQ (dQ (dQ ?_))))
   apply aA
   ·(first |exact aW rfl rfl|exact aX rfl rfl)
   ·rfl
   refine uM O (dQ (dQ (dQ (dQ ?_))))
   apply aA
   ·(first |exact aW rfl rfl|exact aX rfl rfl)
   ·rfl
   refine dN (bF O (dO (uA O (uA O (uA O (dN (bZ (aV (bN (aV (aV (bN (aV ?_)))))))))))))
   exact uZ O (.tmp O (.tmp O (.tmp O .nil))) (.inl ⟨_,_,O,O⟩)
  simp only[uV,uW]
  have hv10:=gB (n:=nm.length) oO
  have hvp:=jD nm.length
  have hbb:(iA nm).length=(vput nm.length).length+nm.length:=List.length_append
  have hl2:B1.length=(iA nm).length+t.length:=by rw[hd2,List.length_append]
  have hd3:B1.drop (iA nm).length=t:=by rw[hd2];simp
  have hq2:=qF (k:=(iA nm).length) hq1 hc1
  have hc2:(B1.drop (iA nm).length).length≤c1-(iA nm).length:=by rw[List.length_drop];omega
  have hqn:Rdb E.w0 (some ⟨gn,0,none⟩) (byC nm) (sl (some ⟨gn,0,none⟩) nm.length 5 1 nm.length (byC nm)):=fun _=>⟨gn,0,O,qCz (fun _ _ h=>h)⟩
  refine uM O (uB (aT O O) (uB (aT O O) (uB (aT O O) (uA O (uA O (uA O (dN (aL (dO (uM O ?_))))))))))
  apply aA
  ·(first |exact dU rfl (hE.t rfl)|exact dX rfl (hE.t rfl))
  ·rfl
  refine uM O (dP (uM O (dP (uB (qBj (q:=sl (some ⟨gn,0,none⟩) nm.length 5 1 nm.length (byC nm)) (src:=29) (dst:=9) (e:=5) O (hE.t O) (hE.t O) (hE.t O) (by assumption) uK) ?_))))
  refine dP (uX (qQ (bs:=nm) hE) O ?_)
  rintro _ _⟨rfl,rfl⟩
  simp only[uV,uW]
  by_cases hval:ValidN nm
  rotate_left
  ·rw[decide_eq_false hval]
   refine dP (uB (gY O) ?_)
   apply aA
   ·(first |exact aW rfl rfl|exact aX rfl rfl)
   ·rfl
   refine uM O (dQ (dQ (dQ (dQ ?_))))
   apply aA
   ·(first |exact aW rfl rfl|exact aX rfl rfl)
   ·rfl
   refine dN (bF O (dO (uA O (uA O (uA O (dN (bZ (aV (bN (aV (aV (bN (aV ?_)))))))))))))
   exact uZ O (.tmp O (.tmp O (.tmp O .nil))) (.inl ⟨_,_,O,O⟩)
  have hp1:=hval.1
  rw[decide_eq_true hval]
  refine dP (uB (gY O) ?_)
  apply aA
  ·(first |exact aW rfl rfl|exact aX rfl rfl)
  ·rfl
  refine uM O (dP (uM O (dP (uB (qBj (q:=sl (some ⟨gn,0,none⟩) nm.length 5 1 nm.length (byC nm)) (src:=29) (dst:=9) (e:=5) O (hE.t O) (hE.t O) (hE.t O) (by assumption) uK) ?_))))
  refine dP (uM O (dP (uB (qGd O O) ?_)))
  apply aA
  ·(first |exact aW rfl rfl|exact aX rfl rfl)
  ·rfl
  refine dN ?_
  cases hless:Op.bytesLess prev nm with
  |false=>
   refine w_eq 90 (.bool true) O (congrArg Value.bool (by rw[qAb,hless];rfl)) ?_
   refine bF O (dO (uA O (uA O (uA O (dN (bZ (aV (bN (aV (aV (bN (aV ?_))))))))))))
   exact uZ O (.tmp O (.tmp O (.tmp O .nil))) (.inl ⟨_,_,O,O⟩)
  |true=>
   refine w_eq 90 (.bool false) O (congrArg Value.bool (by rw[qAb,hless];rfl)) ?_
   refine bD O (bC (aK (dO (uM O (uB (qBj (q:=sl (some ⟨gn,0,none⟩) nm.length 5 1 nm.length (byC nm)) (src:=29) (dst:=9) (e:=5) O (hE.t O) (hE.t O) (hE.t O) (by assumption) uK) ?_)))))
   refine uA O (dN (dO (uM O (uM O (uB (mH (l:=(iA nm).length) (h:=B1.length) O (hE.t O) ⟨_,O⟩ O oO oO) ?_)))))
   refine l_eq 95 (.slice (vwA a1 c1 ((iA nm).length)) (B1.drop (iA nm).length).length (c1-((iA nm).length))) O (congrArg (fun z=>Value.slice _ z _) (by rw[List.length_drop])) ?_
   generalize vwA a1 c1 (iA nm).length=a2 at hq2 ⊢
   generalize c1-(iA nm).length=c2 at hc2 ⊢
   rw[hd3]at hq2 hc2 ⊢
   refine uA O (dN (dO (uM O (uX (nU hE hq2) O ?_))))
   rintro _ _⟨rfl,⟨x,t1,hx,hd4,rfl⟩|rfl⟩
   rotate_left
   ·simp only[uV,uW]
    refine uM O (uB (aT O O) (uB (aT O O) (uB (aT O O) (uA O (uA O (uA O (dN (aL (dO (uM O ?_))))))))))
    apply aA
    ·(first |exact dU rfl (hE.t rfl)|exact dX rfl (hE.t rfl))
    ·rfl
    refine uM O (dQ (dQ (dQ ?_)))
    apply aA
    ·(first |exact aW rfl rfl|exact aX rfl rfl)
    ·rfl
    refine dN (bF O (dO (uA O (uA O (uA O (dN (bZ (aV (bN (aV (aV (bN (aV ?_)))))))))))))
    exact uZ O (.tmp O (.tmp O (.tmp O .nil))) (.inl ⟨_,_,O,O⟩)
   simp only[uV,uW]
   have hv11:=gB hx
   have hl4:t.length=(vput x).length+t1.length:=by rw[hd4,List.length_append]
   have hd5:t.drop (vput x).length=t1:=by rw[hd4];simp
   have hq3:=qF (k:=(vput x).length) hq2 hc2
   have hdl3:(t.drop (vput x).length).length=t.length-(vput x).length:=List.length_drop
   refine uM O (uB (aT O O) (uB (aT O O) (uB (aT O O) (uA O (uA O (uA O (dN (aL (dO (uM O ?_))))))))))
   apply aA
   ·(first |exact dU rfl (hE.t rfl)|exact dX rfl (hE.t rfl))
   ·rfl
   refine uM O (dP (uM O (dP (uM O (dP (uB (y_gt O O) ?_))))))
   apply aA
   ·(first |exact aW rfl rfl|exact aX rfl rfl)
   ·rfl
   refine dN ?_
   refine bE O (fun e5=>?_) (fun e5=>?_)
   ·refine aL (aJ ?_)
    refine uA O (uA O (uA O (dN (bZ (aV (bN (aV (aV (bN (aV ?_))))))))))
    exact uZ O (.tmp O (.tmp O (.tmp O .nil))) (.inl ⟨_,_,O,O⟩)
   refine bC (aK (dO (uM O (uM O (uB (mH (l:=(vput x).length) (h:=t.length) O (hE.t O) ⟨_,O⟩ O oO oO) ?_)))))
   refine l_eq 111 (.slice (vwA a2 c2 ((vput x).length)) (t.drop (vput x).length).length (c2-((vput x).length))) O (congrArg (fun z=>Value.slice _ z _) (by rw[List.length_drop])) ?_
   refine uA O (dN (aJ (uM O (uM O (uM O (uB (uAc O) ?_))))))
   apply aA
   ·(first |exact dV (hE.t rfl) rfl rfl|exact fC (hE.t rfl) rfl rfl)
   ·rfl
   refine uU ?_
   refine aU (hE.t O) (hE.t O) O O O (fun b117=>?_)
   refine uU ?_
   apply bU (hE.t O) (hE.t O) O O O
   ·exact uK
   ·exact uK
   ·rfl
   ·rfl
   ·omega
   ·omega
   ·(unfold maxLen;omega)
   intro g118 c118 n118 x118 hn118 hx118
   refine uA O (aM (bI (aK (aJ (uM O (uB (qSu O O oO oO) ?_))))))
   refine uA O (aM ?_)
   have hAl:(A++[(nm,x)]).length=A.length+1:=by simp
   obtain rfl:x118=nlC (nmI (A++[(nm,x)])):=by rw[hx118,sJ,nY];rfl
   subst hn118
   refine bS (ι:=Rn50) (j:=⟨A++[(nm,x)],vwA a2 c2 (vput x).length,c2-(vput x).length,t.drop (vput x).length,some ⟨g118,0,none⟩,c118,nm⟩) ⟨by simp only[hAl];omega,hq3,by simp only;omega,?_,by simp only[hAl];omega,fun p hp=>?_,fun i p r g1 g2=>?_,.inr ⟨(nm,x),by simp only[hAl];omega,by simp only[hAl,Nat.add_sub_cancel];simp,rfl⟩⟩ (by simp only[hAl];omega) ⟨rfl,rfl,rfl,congrArg some (congrArg (Value.int .u64) (by simp only[hAl];omega)),by simp only[hAl];rfl,rfl,trivial⟩ ?_
   ·simp only
    rw[hd5,qPo,List.append_assoc,List.append_assoc,←hd4,←hd2]
    exact hB1
   ·rcases List.mem_append.1 hp with hp|hp
    ·exact hA p hp
    rw[List.mem_singleton.1 hp];exact⟨hval,by simp only;omega⟩
   ·rcases qPx g1 g2 with⟨q1,q2⟩|⟨q1,q2,rfl⟩
    ·exact hO i p r q1 q2
    rcases hpv with⟨q3,_⟩|⟨p0,q4,q5,rfl⟩
    ·omega
    rw[←q1,Nat.add_sub_cancel,q2]at q5
    cases q5
    exact hless
   simp only[hAl]
   exact uI
 obtain rfl:M=A.length:=by omega
 by_cases hB0:B1=[]
 ·subst hB0
  refine dF (aQ (aQ (bH (aK (dO (uM O (uM O (uM O (uB (uBl O) (uB (y_eq O O) (uA O (uA O (uA O (dN (bZ ?_)))))))))))))))
  apply cB
  ·rfl
  ·(apply Rs.tmp rfl;apply Rs.tmp rfl;apply Rs.tmp rfl;exact Rs.nil)
  ·refine .inr ⟨G,A,pg,cg,pl,cl,O,O,hG,hGt,hA,hO,?_,oO,oO⟩
   rw[←hB1]
   simp only[encA,List.append_assoc,List.append_nil]
  exact uI
 have hne:¬((B1.length:Nat):Int)=0:=fun e=>hB0 (List.eq_nil_of_length_eq_zero oO)
 refine dF (aQ (aQ (bH (aK (dO (uM O (uM O (uM O (uB (uBl O) (uB (y_eq O O) (uA O (uA O (uA O (dN (bZ ?_)))))))))))))))
 exact uZ O (.tmp O (.tmp O (.tmp O .nil))) (.inl ⟨_,_,by rw[decide_eq_false hne];rfl,rfl⟩)
end
section
variable {E:Env}{Es:List Ent}{pp tb s most m bm:Nat}{f:Int→Option Value}
def Lim (N:Nat):List (Nat×Bool)→Prop
 |[]=>True
 |(x,_)::st=>st.length≤3*(N-x)∧Lim N st
theorem lim_len {N:Nat}{st:List (Nat×Bool)}(h:Lim N st):st.length≤3*N+1:=by
 cases st with
 |nil=>simp
 |cons q st=>obtain⟨x,b⟩:=q;have:=h.1;simp only[List.length_cons];omega
theorem lim_open {L:List Rl}(hw:Wf L){n:Nat}{r:Rl}(h:L[n]?=some r){b:Bool}{st:List (Nat×Bool)}(hs:Lim L.length ((n+1,b)::st)):Lim L.length (qLx r (n+1) st):=by
 have hl:=(List.getElem?_eq_some_iff.1 h).1
 have ho:=hw.ok n r h
 obtain⟨h1,h2⟩:=hs
 cases r with
 |letter b=>exact⟨h1,h2⟩
 |pair a b=>
  simp only[Rl.ok]at ho
  have e1:((n+1,true)::st).length=st.length+1:=rfl
  exact⟨by show((b,false)::(n+1,true)::st).length≤_;simp only[List.length_cons];omega,by show((n+1,true)::st).length≤_;simp only[List.length_cons];omega,h1,h2⟩
 |power a k=>
  simp only[Rl.ok]at ho
  exact⟨by show((n+1,true)::st).length≤_;simp only[List.length_cons];omega,h1,h2⟩
theorem zG (hE:Seat E){xs:List Nat}{n:Nat}(hxn:xs.length=n){a:Option Addr}{ca:Nat}(hx:∀x∈xs,x≤Es.length) (hn:n≤50000):
  Ct E 29 [uPt s,.slice a n ca] [bR s most Es,sl a ca 44 1 n (idC xs)]
   (fun v Q=>∃p c,v= .slice p (dD (rls Es) xs []).length c∧Q=[bR s most Es,sl a ca 44 1 n (idC xs),sl p c 44 1 (dD (rls Es) xs []).length (idC (dD (rls Es) xs []))]):=by
 refine eZ (p:=bR s most Es) uK (fun _ h=>dR h) (fun hsay=>?_)
 have hmr:fA=1048576:=rfl
 have hLl:=bQ Es
 have hx1:∀x∈xs,x≤(rls Es).length:=fun x h=>by have:=hx x h;omega
 have hEm:(rls Es).length≤1048576:=by have:=hsay;omega
 refine bO (hE.fn Tryz.func29) O O O (fun R=>?_)
 simp only[dY,uV,uW]
 refine dO (uA O (dN (dO (uA O (dN (dO (uA O (dN (dO (uU ?_))))))))))
 refine vR .i64 (fun b15=>?_)
 refine uU ?_
 apply qHg (kt:=44) (et:=4) (by rw[hE.P];kernel_rfl) (by rw[hE.P];kernel_rfl) O O O
 ·exact uK
 refine uM O (uA O (dN (aL (dO (uM O (uB (uBl O) (uM O (dN (bK ?_)))))))))
 rw[qQh]
 refine fD (fun q:LoG=>[(0,uPt s),(5,.slice q.p (q.acc).length q.c),(6,.slice q.ps (([]:List (Nat×Bool))).length q.cs),(7,.map (some b15)),(17,.slice a n ca),(18,.int .i64 (n:Nat)),(19,.int .i64 (q.k:Nat))]) (fun q=>[bR s most Es,sl a ca 44 1 n (idC xs),mapF b15 .i64 (lsF q.acc),sl q.p q.c 44 1 (q.acc).length (idC (q.acc)),sl q.ps q.cs 133 2 (([]:List (Nat×Bool))).length (stC (([]:List (Nat×Bool)))),R]) (fun q=>n-q.k) (fun q=>q.k≤n∧q.acc=dD (rls Es) (xs.take q.k) []) ⟨0,[],none,0,none,0⟩ ⟨Nat.zero_le _,O⟩ ⟨O,O,O,O,O,O,O,trivial⟩ ?_ ?_
 ·apply cZ (iV (t:=44) (sz:=1))
  apply cZ (iV (t:=133) (sz:=2))
  exact uI
 rintro⟨k,acc,p,c,ps,cs⟩⟨hk,hacc⟩
 simp only at hk hacc ⊢
 have hnl:([]:List (Nat×Bool)).length=0:=rfl
 refine dO (uB (y_lt O O) (dN (aL ?_)))
 refine bE O (fun h=>?_) (fun h=>?_)
 ·have hlt:k<xs.length:=oO
  obtain⟨x,hxi⟩:∃x,xs[k]?=some x:=⟨_,List.getElem?_eq_getElem hlt⟩
  have hxx:=hx x (List.mem_of_getElem? hxi)
  have htk:xs.take (k+1)=xs.take k++[x]:=by rw[List.take_add_one,hxi];rfl
  have hvs:dD (rls Es) (xs.take (k+1)) []=visit (rls Es) x acc:=by rw[htk,wD,hacc];rfl
  have hao:AccOk (rls Es) acc:=by rw[hacc];exact AccOk.visits hsay.1 (fun y hy=>hx1 y (List.mem_of_mem_take hy))
  refine iT (p:=sl a ca 44 1 n (idC xs)) uK (fun _ h=>fB h oO) ?_
  rintro⟨gx,rfl⟩
  have f0:=fK hxi (0+((k:Nat):Int).toNat) oO
  have f1:=fK hxi (((k:Nat):Int).toNat) oO
  refine bC (aK (aL (bK (dO ?_))))
  apply aA
  ·(first |exact uAj rfl rfl|exact uAi rfl rfl)
  ·rfl
  refine uL ?_
  refine uA O (dN (dO (uM O (uM O ?_))))
  apply aA
  ·(first |exact dV (hE.t rfl) rfl rfl|exact fC (hE.t rfl) rfl rfl)
  ·rfl
  refine uU ?_
  refine aU (hE.t O) (hE.t O) O O O (fun b26=>?_)
  refine uU ?_
  apply bU (hE.t O) (hE.t O) O O O
  ·exact uK
  ·exact uK
  ·rfl
  ·rfl
  ·omega
  ·omega
  ·(unfold maxLen;omega)
  intro g27 c27 n27 x27 hn27 hx27
  refine uA O (dN (bK ?_))
  obtain rfl:x27=stC [(x,false)]:=by rw[hx27];rfl
  subst hn27
  refine fD (fun q:LiG=>[(0,uPt s),(5,.slice q.p (q.acc).length q.c),(6,.slice q.ps (q.st).length q.cs),(7,.map (some b15)),(17,.slice (some ⟨gx,0,none⟩) n ca),(18,.int .i64 (n:Nat)),(19,.int .i64 (k:Nat))]) (fun q=>[bR s most Es,sl (some ⟨gx,0,none⟩) ca 44 1 n (idC xs),mapF b15 .i64 (lsF q.acc),sl q.p q.c 44 1 (q.acc).length (idC (q.acc)),sl q.ps q.cs 133 2 (q.st).length (stC (q.st)),R]) (fun q=>qO (rls Es) q.st) (fun q=>runS (rls Es) q.st q.acc=dD (rls Es) (xs.take (k+1)) []∧StOk (rls Es) q.st∧Lim (rls Es).length q.st∧AccOk (rls Es) q.acc) ⟨[(x,false)],acc,p,c,some ⟨g27,0,none⟩,c27⟩ ⟨hvs.symm,fun q hq=>by
   obtain rfl:=List.mem_singleton.1 hq
   exact⟨by simp only;omega,fun h=>by cases h⟩,⟨Nat.zero_le _,trivial⟩,hao⟩ ⟨rfl,rfl,rfl,rfl,rfl,rfl,rfl,trivial⟩ uI ?_
  clear hao hvs hacc
  rintro⟨st,acc,p,c,ps,cs⟩⟨hrun,hst,hwk,hao⟩
  simp only at hrun hst hwk hao ⊢
  have hal:=hao.len
  have hsl:=lim_len hwk
  refine aL (dO (uM O (uB (uBl O) (uB (y_gt O O) (dN ?_)))))
  refine bE O (fun h2=>?_) (fun h2=>?_)
  ·obtain⟨y,b,st,rfl⟩:∃y b st',st=(y,b)::st':=by
    cases st with
    |nil=>simp at h2
    |cons q st=>exact⟨q.1,q.2,st,rfl⟩
   have hyy:=hst (y,b) (by simp)
   simp only at hyy
   have hstl:((y,b)::st).length=st.length+1:=rfl
   have hws:=qDp (rls Es) y b st
   obtain⟨f2,f3⟩:=qRq (st:=st) (x:=y) (b:=b)
   refine iT (p:=sl ps cs 133 2 ((y,b)::st).length (stC ((y,b)::st))) uK (fun _ h=>And.intro (fB h oO) (lH h).1) ?_
   rintro⟨⟨gs,rfl⟩,hcap⟩
   refine bC (aK (bK (dO (uM O (uM O (uB (uBl O) (uB (uAs O O) (uB (uAi O O) ?_))))))))
   refine l_eq 35 _ O (st_ptr (st:=st) hstl) ?_
   refine uB (uG) ?_
   refine uU (dA (hE.t O) (fun b10=>?_))
   refine uU ?_
   (first |(apply bL rfl rfl (hE.t rfl) rfl;(focus((repeat constructor);done));(focus rfl);(focus(exact Nat.le_of_ble_eq_true rfl)))|(apply aS rfl rfl (hE.t rfl) rfl;(focus((repeat constructor);done));(focus rfl);(focus(first |omega |(simp only[bP,aN,List.length_cons,List.length_nil];omega)))))
   refine dN (dO (uM O (uM O (uB (uBl O) (uB (uAs O O) (uB (fV st.length O O (hE.t O) oO oO) ?_))))))
   refine uA O (dN ?_)
   refine iU (cO (p:=sl (some ⟨gs,0,none⟩) cs 133 2 ((y,b)::st).length (stC ((y,b)::st))) (p':=sl (some ⟨gs,0,none⟩) cs 133 2 st.length (stC st)) uK (lD oO (by rw[←sK];simp[stC]) (by simp))) ?_
   by_cases hin:y=0∨y∈acc
   ·have hf:=lsF_in hin
    refine aL (dO (uM O (uB (uBf O) ?_)))
    refine uL ?_
    refine uB (jJ (kt:=44) (et:=4) (z:= .bool false) (by rw[hE.P];kernel_rfl) (by rw[hE.P];kernel_rfl) (fun w=>by rw[hE.P];kernel_rfl) rfl rfl uK (by assumption)) ?_
    refine dN ?_
    refine w_eq 45 (.bool true) O O ?_
    refine bF O (dF (aQ (bH ?_)))
    refine bS (ι:=LiG) (j:=⟨st,acc,p,c,some ⟨gs,0,none⟩,cs⟩) ⟨by rw[←qHy hst hin];exact hrun,hst.tail,hwk.2,hao⟩ hws ⟨rfl,rfl,rfl,rfl,rfl,rfl,rfl,trivial⟩ ?_
    exact uI
   have hf:=qQi hin
   refine aL (dO (uM O (uB (uBf O) ?_)))
   refine uL ?_
   refine uB (jJ (kt:=44) (et:=4) (z:= .bool false) (by rw[hE.P];kernel_rfl) (by rw[hE.P];kernel_rfl) (fun w=>by rw[hE.P];kernel_rfl) rfl rfl uK (by assumption)) ?_
   refine dN ?_
   refine w_eq 45 (.bool false) O O ?_
   refine bD O (bC (aK (aL (dO (uB (uBf O) ?_)))))
   refine uL ?_
   refine dN ?_
   refine yP O (fun hb=>?_) (fun hb=>?_)
   ·subst hb
    refine dO (uM O (uB (uBf O) ?_))
    refine uL ?_
    refine uU ?_
    apply kU (kt:=44) (et:=4) (by rw[hE.P];kernel_rfl) (by rw[hE.P];kernel_rfl) O O O
    ·exact uK
    refine dN ?_
    rw[qQj]
    refine dO (uM O (uB (uBf O) ?_))
    refine uL ?_
    refine uU ?_
    refine aU (hE.t O) (hE.t O) O O O (fun b54=>?_)
    refine uU ?_
    apply bU (hE.t O) (hE.t O) O O O
    ·exact uK
    ·exact uK
    ·rfl
    ·rfl
    ·omega
    ·omega
    ·(unfold maxLen;omega)
    intro g55 c55 n55 x55 hn55 hx55
    refine uA O (dN (dF (aQ (bH ?_))))
    obtain rfl:x55=idC (acc++[y]):=by rw[hx55,kM];rfl
    have hal2:(acc++[y]).length=acc.length+1:=by simp
    subst hn55
    refine bS (ι:=LiG) (j:=⟨st,acc++[y],some ⟨g55,0,none⟩,c55,some ⟨gs,0,none⟩,cs⟩) ⟨by rw[←qHw hin];exact hrun,hst.tail,hwk.2,hao.snoc oO hin⟩ hws ⟨rfl,by simp only[hal2];rfl,rfl,rfl,rfl,rfl,rfl,trivial⟩ ?_
    simp only[hal2]
    exact uI
   subst hb
   obtain⟨i,rfl⟩:∃i,y=i+1:=⟨y-1,by have:y≠0:=fun e=>hin (.inl e);omega⟩
   have hent:Es[i]?=some (Es[i]'oO):=List.getElem?_eq_getElem oO
   generalize Es[i]'oO=en at hent
   have hri:=qI hent
   have hkk:=qEp en.r
   have hwr:=qIo hsay.1 hri st
   have hrr:=qHx hsay.1 hri (fun h=>hin (.inr h)) st
   have hso:=qIh hsay.1 hri hst.tail
   refine bC (aK (dO (uM O (uB (uBf O) ?_))))
   refine uL ?_
   apply aA
   ·(first |exact dV (hE.t rfl) rfl rfl|exact fC (hE.t rfl) rfl rfl)
   ·rfl
   refine uU ?_
   refine aU (hE.t O) (hE.t O) O O O (fun b60=>?_)
   refine uU ?_
   apply bU (hE.t O) (hE.t O) O O O
   ·exact uK
   ·exact uK
   ·rfl
   ·rfl
   ·omega
   ·omega
   ·(unfold maxLen;omega)
   intro g61 c61 n61 x61 hn61 hx61
   refine uA O (dN (dO (uM O (uB (uBf O) ?_))))
   refine uL ?_
   obtain rfl:x61=stC ((i+1,true)::st):=by rw[hx61];rfl
   subst hn61
   refine uX (mD hE hent) O ?_
   rintro _ _⟨rfl,rfl⟩
   simp only[uV,uW]
   refine uM O (uB (aT O O) (uB (aT O O) (uU (dA (hE.t O) (fun b11=>?_)))))
   refine uU ?_
   (first |(apply bL rfl rfl (hE.t rfl) rfl;(focus((repeat constructor);done));(focus rfl);(focus(exact Nat.le_of_ble_eq_true rfl)))|(apply aS rfl rfl (hE.t rfl) rfl;(focus((repeat constructor);done));(focus rfl);(focus(first |omega |(simp only[bP,aN,List.length_cons,List.length_nil];omega)))))
   refine uA O (dN (dO (uB (uG) ?_)))
   refine uX (qEg hE en.r) O ?_
   rintro _ _⟨pk,ck,rfl,rfl⟩
   simp only[uV,uW]
   refine uA O (dN (dO (uM O (uB (uBl O) (uB (uAs O O) (uA O (dN (bK ?_))))))))
   refine fD (fun q:LkG=>[(0,uPt s),(5,.slice p acc.length c),(6,.slice q.ps (((kids en.r).drop q.j).map (·,false)++(i+1,true)::st).length q.cs),(7,.map (some b15)),(13,.slice pk (kids en.r).length ck),(14,.int .i64 ((q.j:Nat)-1:Int)),(17,.slice (some ⟨gx,0,none⟩) n ca),(18,.int .i64 (n:Nat)),(19,.int .i64 (k:Nat))])
    (fun q=>[bR s most Es,sl (some ⟨gx,0,none⟩) ca 44 1 n (idC xs),mapF b15 .i64 (lsF acc),sl p c 44 1 acc.length (idC acc),sl q.ps q.cs 133 2 (((kids en.r).drop q.j).map (·,false)++(i+1,true)::st).length (stC (((kids en.r).drop q.j).map (·,false)++(i+1,true)::st)),sl pk ck 44 1 (kids en.r).length (idC (kids en.r)),R]) (fun q=>q.j) (fun q=>q.j≤(kids en.r).length) ⟨(kids en.r).length,some ⟨g61,0,none⟩,c61⟩ (Nat.le_refl _) ⟨rfl,rfl,by simp only[List.drop_length];rfl,rfl,rfl,rfl,rfl,rfl,rfl,trivial⟩ ?_ ?_
   ·simp only[List.drop_length,List.map_nil,List.nil_append,List.length_cons]
    exact uI
   rintro⟨j,ps,cs⟩hj
   simp only at hj ⊢
   have hjl:(((kids en.r).drop j).map (·,false)++(i+1,true)::st).length=(kids en.r).length-j+1+st.length:=by simp;omega
   refine aL (dO (uM O (uB (y_ge O O) (dN ?_))))
   refine bE O (fun h4=>?_) (fun h4=>?_)
   ·obtain⟨j,rfl⟩:∃j',j=j'+1:=⟨j-1,oO⟩
    obtain⟨z,hz⟩:∃z,(kids en.r)[j]?=some z:=⟨_,List.getElem?_eq_getElem oO⟩
    have f4:=fK hz j O
    refine iT (p:=sl pk ck 44 1 (kids en.r).length (idC (kids en.r))) uK (fun _ h=>fB h oO) ?_
    rintro⟨gk,rfl⟩
    refine bC (aK (aL (bK (aJ (uM O (uM O (uM O ?_)))))))
    apply aA
    ·(first |exact uAj rfl rfl|exact uAi rfl rfl)
    ·rfl
    refine l_eq 81 (.pointer (some ⟨gk,j,none⟩)) O (by congr 3;omega) ?_
    refine uL ?_
    apply aA
    ·(first |exact dV (hE.t rfl) rfl rfl|exact fC (hE.t rfl) rfl rfl)
    ·rfl
    refine uU ?_
    refine aU (hE.t O) (hE.t O) O O O (fun b84=>?_)
    refine uU ?_
    apply bU (hE.t O) (hE.t O) O O O
    ·exact uK
    ·exact uK
    ·rfl
    ·rfl
    ·omega
    ·omega
    ·(unfold maxLen;omega)
    intro g85 c85 n85 x85 hn85 hx85
    refine uA O (aM (bI (aK (aJ (uM O (uB (uAs O O) (uA O (aM ?_))))))))
    have hdr:((kids en.r).drop j).map (·,false)=(z,false)::((kids en.r).drop (j+1)).map (·,false):=by rw[yH hz];rfl
    obtain rfl:x85=stC (((kids en.r).drop j).map (·,false)++(i+1,true)::st):=by rw[hx85,hdr];rfl
    have hjl2:(((kids en.r).drop j).map (·,false)++(i+1,true)::st).length=(((kids en.r).drop (j+1)).map (·,false)++(i+1,true)::st).length+1:=by rw[hdr];rfl
    subst hn85
    refine bS (ι:=LkG) (j:=⟨j,some ⟨g85,0,none⟩,c85⟩) (by simp only;omega) (by simp only;omega) ⟨O,O,by simp only[hjl2];rfl,rfl,rfl,congrArg some (bW (by simp only;omega)),rfl,rfl,rfl,trivial⟩ ?_
    simp only[hjl2]
    exact uI
   obtain rfl:j=0:=by omega
   refine dF (aQ (aQ (bH (bI ?_))))
   refine bS (ι:=LiG) (j:=⟨qLx en.r (i+1) st,acc,p,c,ps,cs⟩) ⟨by rw[←hrun,hrr];rfl,hso,lim_open hsay.1 hri hwk,hao⟩ hwr ⟨rfl,rfl,rfl,rfl,rfl,rfl,rfl,trivial⟩ ?_
   exact uI
  obtain rfl:st=[]:=List.eq_nil_of_length_eq_zero oO
  refine dF (aQ (aQ (bH (bI (aK (aJ (uB (uAa O O) (uM O (aM ?_)))))))))
  refine bS (ι:=LoG) (j:=⟨k+1,acc,p,c,ps,cs⟩) ⟨by simp only;omega,hrun⟩ (by simp only;omega) ⟨rfl,rfl,rfl,rfl,rfl,rfl,congrArg some (bW (by simp only;omega)),trivial⟩ ?_
  exact uI
 obtain rfl:k=n:=by omega
 have hall:xs.take k=xs:=List.take_of_length_le oO
 rw[hall]at hacc
 subst hacc
 refine dF (aQ (aQ (bH (aK (dO (uM O (uA O (dN (bZ ?_)))))))))
 exact uZ O (.tmp O .nil) ⟨p,c,O,O⟩
end
section
variable {E:Env}{Es:List Ent}{s most:Nat}
inductive MkG (n:Nat)(T:List Nat):Rl→Rl→Prop where
 |letter (b:UInt8):MkG n T (.letter b) (.letter b)
 |pair {a b x y:Nat}:T[a]?=some x→T[b]?=some y→1≤x→x≤n→1≤y→y≤n→MkG n T (.pair a b) (.pair x y)
 |power {a k x:Nat}:T[a]?=some x→1≤x→x≤n→2≤k→k<9223372036854775808→MkG n T (.power a k) (.power x k)
def PutG (s most:Nat)(Es:List Ent)(r:Rl)(H:List HP)(u:Value)(Q:List HP):Prop:=(u= .tuple #[.int .i64 0,.iface 58 (.int .i64 2)]∧Q=bR s most Es::H)∨∃(M:List Ent)(id:Nat),u= .tuple #[.int .i64 id,.nilIface]∧1≤id∧(rls (Es++M))[id-1]?=some r∧(M=[]∨∃x:Ent,M=[x]∧x.r=r)∧Q=bR s most (Es++M)::H
theorem ct_xPutG (hE:Seat E){r r':Rl}{T:List Nat}{gt ct:Nat}(hTl:T.length≤1000000)(hm:MkG Es.length T r r')(hroom:Es.length<most):Ct E 89 [uPt s,.agg #[.int .i64 (Rl.kind (r):Nat),.int .u8 (Rl.byte (r):Nat),.int .i64 (Rl.left (r):Nat),.int .i64 (Rl.right (r):Nat),.int .i64 (Rl.times (r):Nat)],.slice (some ⟨gt,0,none⟩) T.length ct] [bR s most Es,sl (some ⟨gt,0,none⟩) ct 44 1 T.length (idC T)] (PutG s most Es r' [sl (some ⟨gt,0,none⟩) ct 44 1 T.length (idC T)]):=by
 refine eZ (p:=bR s most Es) uK (fun _ h=>dR h) (fun hsay=>?_)
 have hT100:=hTl
 have hmx:dC=1152921504606846976:=rfl
 have hsh:∀(i:Nat)(x:Ent),Es[i]?=some x→x.t.length≤dC∧1≤x.t.length:=fun i x hx=>by
  have hi:=(List.getElem?_eq_some_iff.1 hx).1
  rw[hsay.2.1 _ _ hx]
  exact⟨hsay.1.short (i+1),hsay.1.pos (i+1) oO (by rw[bQ];omega)⟩
 cases hm with
 |letter b=>
  refine bO (hE.fn Tryz.func89) O O O (fun R=>?_)
  simp only[dY,uV,uW]
  simp only[Rl.kind,Rl.byte,Rl.left,Rl.right,Rl.times]
  refine dO (uU ?_)
  refine fJ O (fun b4=>?_)
  refine uA O (uA O (dN (aL (dO (uB (uBf O) ?_)))))
  refine uL ?_
  refine dN (bK (dO (uB (y_eq O O) (uA O (dN (bF O (dO (uM O (uB (uBf O) ?_)))))))))
  refine uL ?_
  refine uX (qCd (s:=s) (most:=most) (Es:=Es) hE b hroom) O ?_
  rintro _ _⟨M,id,rfl,h1,h2,h3,rfl⟩
  simp only[uV,uW]
  refine uB (aT O O) (uB (aT O O) (uA O (uA O (dN (bZ (bN (aV ?_)))))))
  exact uZ O (.tmp O (.tmp O .nil)) (.inr ⟨M,id,O,h1,h2,h3,O⟩)
 | @pair a b x y ha hb x1 x2 y1 y2=>
  have hat:=(List.getElem?_eq_some_iff.1 ha).1
  have hbt:=(List.getElem?_eq_some_iff.1 hb).1
  obtain⟨x,rfl⟩:∃k,x=k+1:=⟨x-1,oO⟩
  obtain⟨y,rfl⟩:∃k,y=k+1:=⟨y-1,oO⟩
  obtain⟨e1,he1⟩:∃x',Es[x]?=some x':=⟨_,List.getElem?_eq_getElem oO⟩
  obtain⟨e2,he2⟩:∃x',Es[y]?=some x':=⟨_,List.getElem?_eq_getElem oO⟩
  have f0:=fK ha (((a:Nat):Int).toNat) oO
  have f1:=fK hb (((b:Nat):Int).toNat) oO
  refine bO (hE.fn Tryz.func89) O O O (fun R=>?_)
  simp only[dY,uV,uW]
  simp only[Rl.kind,Rl.byte,Rl.left,Rl.right,Rl.times]
  refine dO (uU ?_)
  refine fJ O (fun b4=>?_)
  refine uA O (uA O (dN (aL (dO (uB (uBf O) ?_)))))
  refine uL ?_
  refine dN (bK (dO (uB (y_eq O O) (uA O (dN (bD O (dO (uB (y_eq O O) (uA O (dN (bF O (aL ?_))))))))))))
  refine uH ([cells b4 [.int .i64 ((2:Nat):Int),.int .u8 ((0:Nat):Int),.int .i64 (a:Nat),.int .i64 (b:Nat),.int .i64 ((0:Nat):Int)] 86,sl (some ⟨gt,0,none⟩) ct 44 1 T.length (idC T)]) ?_
  refine uD 0 O (aB O) (uD 1 O (aB O) ?_)
  refine uD 2 O (uBf O) ?_
  refine uD 3 O (uY) ?_
  apply bG 4 O
  ·(first |exact uAj rfl rfl|exact uAi rfl rfl)
  ·with_reducible (repeat(first |exact aF|apply aG|apply aH))
  ·kernel_rfl
  ·rfl
  refine uD 5 O (uY) ?_
  refine uD 6 O (aB O) ?_
  refine uD 7 O (uBf O) ?_
  refine uD 8 O (uY) ?_
  apply bG 9 O
  ·(first |exact uAj rfl rfl|exact uAi rfl rfl)
  ·with_reducible (repeat(first |exact aF|apply aG|apply aH))
  ·kernel_rfl
  ·rfl
  refine uD 10 O (uY) ?_
  apply dH 11 O oK O
  by_cases hlen:e1.t.length+e2.t.length≤dC
  ·apply aZ (qKr (s:=s) (most:=most) (Es:=Es) hE he1 he2 hlen hroom) O (hE.f oK)
   ·exact uK
   rintro _ _⟨M,id,rfl,h1,h2,h3,rfl⟩
   simp only[uV,uW]
   refine uE ?_
   refine uD 12 O (aT O O) (uD 13 O (aT O O) (uD 14 O (aC O) (uD 15 O (aC O) ?_)))
   refine jT oK ?_
   refine aK (bZ (bN (aV ?_)))
   exact uZ O (.tmp O (.tmp O .nil)) (.inr ⟨M,id,O,h1,h2,h3,O⟩)
  apply aZ (qGn (s:=s) (most:=most) (Es:=Es) hE he1 he2 (hsh _ _ he1).1 (hsh _ _ he2).1 oO) O (hE.f oK)
  ·exact uK
  rintro _ _⟨rfl,rfl⟩
  simp only[uV,uW]
  refine uE ?_
  refine uD 12 O (aT O O) (uD 13 O (aT O O) (uD 14 O (aC O) (uD 15 O (aC O) ?_)))
  refine jT oK ?_
  refine aK (bZ (bN (aV ?_)))
  exact uZ O (.tmp O (.tmp O .nil)) (.inl ⟨O,O⟩)
 | @power a k x ha x1 x2 hk hk2=>
  have hat:=(List.getElem?_eq_some_iff.1 ha).1
  obtain⟨x,rfl⟩:∃k,x=k+1:=⟨x-1,oO⟩
  obtain⟨e1,he1⟩:∃x',Es[x]?=some x':=⟨_,List.getElem?_eq_getElem oO⟩
  have f0:=fK ha (((a:Nat):Int).toNat) oO
  refine bO (hE.fn Tryz.func89) O O O (fun R=>?_)
  simp only[dY,uV,uW]
  simp only[Rl.kind,Rl.byte,Rl.left,Rl.right,Rl.times]
  refine dO (uU ?_)
  refine fJ O (fun b4=>?_)
  refine uA O (uA O (dN (aL (dO (uB (uBf O) ?_)))))
  refine uL ?_
  refine dN (bK (dO (uB (y_eq O O) (uA O (dN (bD O (dO (uB (y_eq O O) (uA O (dN (bD O (bC (bI (aK (aL ?_)))))))))))))))
  refine uH ([cells b4 [.int .i64 ((3:Nat):Int),.int .u8 ((0:Nat):Int),.int .i64 (a:Nat),.int .i64 ((0:Nat):Int),.int .i64 (k:Nat)] 86,sl (some ⟨gt,0,none⟩) ct 44 1 T.length (idC T)]) ?_
  refine uD 0 O (aB O) (uD 1 O (aB O) ?_)
  refine uD 2 O (uBf O) ?_
  refine uD 3 O (uY) ?_
  apply bG 4 O
  ·(first |exact uAj rfl rfl|exact uAi rfl rfl)
  ·with_reducible (repeat(first |exact aF|apply aG|apply aH))
  ·kernel_rfl
  ·rfl
  refine uD 5 O (uY) ?_
  refine uD 6 O (uBf O) ?_
  refine uD 7 O (uY) ?_
  apply dH 8 O oK O
  by_cases hlen:e1.t.length*k≤dC
  ·apply aZ (zH (s:=s) (most:=most) (Es:=Es) hE he1 hk hlen hroom) O (hE.f oK)
   ·exact uK
   rintro _ _⟨M,id,rfl,h1,h2,h3,rfl⟩
   simp only[uV,uW]
   refine uE ?_
   refine uD 9 O (aT O O) (uD 10 O (aT O O) (uD 11 O (aC O) (uD 12 O (aC O) ?_)))
   refine jT oK ?_
   refine aK (bZ ?_)
   exact uZ O (.tmp O (.tmp O .nil)) (.inr ⟨M,id,O,h1,h2,h3,O⟩)
  have hp:=hsh _ _ he1
  apply aZ (qEf (s:=s) (most:=most) (Es:=Es) hE he1 hp.1 hp.2 hk (by
   apply Classical.byContradiction
   intro hn
   have h1:k≤dC/e1.t.length:=oO
   have h2:=Nat.mul_le_mul_left e1.t.length h1
   have h3:=Nat.mul_div_le dC e1.t.length
   omega)) rfl (hE.f oK)
  ·exact uK
  rintro _ _⟨rfl,rfl⟩
  simp only[uV,uW]
  refine uE ?_
  refine uD 9 O (aT O O) (uD 10 O (aT O O) (uD 11 O (aC O) (uD 12 O (aC O) ?_)))
  refine jT oK ?_
  refine aK (bZ ?_)
  exact uZ O (.tmp O (.tmp O .nil)) (.inl ⟨O,O⟩)
structure ImI (G:List Rl)(Es:List Ent)(k:Nat)(Z:List Nat):Prop where
 len:Z.length=k+1
 zero:Z[0]?=some 0
 ids:∀j,1≤j→j≤k→∃z,Z[j]?=some z∧1≤z∧z≤Es.length
 few:Es.length≤k
 same:Es.length=k→rls Es=G.take k∧∀j,j≤k→Z[j]?=some j
theorem ImI.make {G:List Rl}(hG:GOk 0 G)(hGt:∀r∈G,r.times<9223372036854775808) {Es:List Ent} {k:Nat} {Z:List Nat} (h:ImI G Es k Z) {r:Rl} (hr:G[k]?=some r):∃r',MkG Es.length (pad Z (G.length+1)) r r'∧(Es.length=k→r'=r):=by
 have ho:=hG k r hr
 rw[Nat.zero_add]at ho
 have hkl:=jB ho
 have ht:=hGt r (List.mem_of_getElem? hr)
 cases r with
 |letter b=>exact⟨_,.letter b,fun _=>rfl⟩
 |pair a b=>
  have ha:=hkl a (by simp[kids])
  have hb:=hkl b (by simp[kids])
  obtain⟨x,hx,x1,x2⟩:=h.ids a ha.1 oO
  obtain⟨y,hy,y1,y2⟩:=h.ids b hb.1 oO
  refine⟨_,.pair (wV hx) (wV hy) x1 x2 y1 y2,fun e=>?_⟩
  have e1:=(h.same e).2 a oO
  have e2:=(h.same e).2 b oO
  rw[hx]at e1
  rw[hy]at e2
  cases e1
  cases e2
  rfl
 |power a t=>
  have ha:=hkl a (by simp[kids])
  obtain⟨x,hx,x1,x2⟩:=h.ids a ha.1 oO
  simp only[Rl.ok]at ho
  simp only[Rl.times]at ht
  refine⟨_,.power (wV hx) x1 x2 ho.2.2 ht,fun e=>?_⟩
  have e1:=(h.same e).2 a oO
  rw[hx]at e1
  cases e1
  rfl
theorem ImI.next {G:List Rl}{Es M:List Ent}{k:Nat}{Z:List Nat}(h:ImI G Es k Z)(hw:Wf (rls (Es++M))){r r':Rl}(hr:G[k]?=some r)(hs:Es.length=k→r'=r){id:Nat}(h1:1≤id)(hid:(rls (Es++M))[id-1]?=some r')(hM:M=[]∨∃x:Ent,M=[x]∧x.r=r'):ImI G (Es++M) (k+1) (Z++[id]):=by
 have hil:=(List.getElem?_eq_some_iff.1 hid).1
 rw[bQ,List.length_append]at hil
 have hlen:=h.len
 have hf:=h.few
 refine⟨by simp[hlen],by rw[List.getElem?_append_left oO];exact h.zero,fun j j1 j2=>?_,?_,fun e=>?_⟩
 ·rcases Nat.lt_or_ge k j with hj|hj
  ·obtain rfl:j=k+1:=by omega
   exact⟨id,by rw[List.getElem?_append_right oO,hlen,Nat.sub_self];rfl,h1,by rw[List.length_append];omega⟩
  obtain⟨z,hz,z1,z2⟩:=h.ids j j1 hj
  exact⟨z,by rw[List.getElem?_append_left oO];exact hz,z1,by rw[List.length_append];omega⟩
 ·rw[List.length_append]
  rcases hM with rfl|⟨x,rfl,_⟩<;>simp <;>omega
 rw[List.length_append]at e
 rcases hM with rfl|⟨x,rfl,hx⟩
 ·simp only[List.length_nil]at e;omega
 simp only[List.length_singleton]at e
 have hk:Es.length=k:=oO
 obtain⟨g1,g2⟩:=h.same hk
 have hr2:=hs hk
 have e1:rls (Es++[x])=G.take k++[r]:=by rw[dB,g1];simp[rls,hx,hr2]
 have htl:(G.take k).length=k:=by rw[←g1,bQ,hk]
 refine⟨by rw[e1,List.take_add_one,hr];rfl,fun j hj=>?_⟩
 rcases Nat.lt_or_ge k j with hjk|hjk
 ·obtain rfl:j=k+1:=by omega
  have e2:(rls (Es++[x]))[k]?=some r':=by rw[e1,List.getElem?_append_right oO,htl,Nat.sub_self,hr2];rfl
  have:=hw.nodup _ _ _ hid e2
  rw[List.getElem?_append_right oO,hlen,Nat.sub_self]
  show some id=some (k+1)
  congr 1
  omega
 rw[List.getElem?_append_left oO]
 exact g2 j hjk
structure IgG where
 k:Nat
 Es:List Ent
 Z:List Nat
theorem qMr (hE:Seat E){G:List Rl}(hG:GOk 0 G)(hGt:∀r∈G,r.times<9223372036854775808) (hGl:G.length≤100000) {p:Option Addr} {c:Nat}:Ct E 62 [uPt s,.slice p G.length c] [bR s G.length [],sl p c 86 5 G.length (rusC G)]
  (fun v Q=>∃Es,((∃x,v= .tuple #[x,.nilIface]∧(Es.length=G.length→rls Es=G))∨v= .tuple #[.int .i64 0,.iface 58 (.int .i64 2)])∧Q=[bR s G.length Es,sl p c 86 5 G.length (rusC G)]):=by
 have hml:G.length+1≤maxLen:=by unfold maxLen;omega
 refine eZ (p:=sl p c 86 5 G.length (rusC G)) uK (fun _ h=>fun hpos=>fB h hpos) (fun hp=>?_)
 refine bO (hE.fn Tryz.func62) O O O (fun R=>?_)
 simp only[dY,uV,uW]
 refine dO (uA O (uA O (dN (aL (dO (uM O ?_))))))
 apply aA
 ·(first |exact eU rfl (hE.t rfl)|exact gX rfl (hE.t rfl))
 ·rfl
 refine dN (bD O (bC (aK (aL (dO (uM O (uB (uBl O) (uM O (dN (bK ?_))))))))))
 refine fD (fun k:Nat=>[(0,uPt s),(1,.slice p G.length c),(17,.slice p G.length c),(18,.int .i64 (G.length:Nat)),(19,.int .i64 (k:Nat))]) (fun k=>[bR s G.length [],sl p c 86 5 G.length (rusC G),R]) (fun k=>G.length-k) (fun k=>k≤G.length) 0 (Nat.zero_le _) ⟨O,O,O,O,O,trivial⟩ uI ?_
 rintro k hk
 refine dO (uB (y_lt O O) (dN (aL ?_)))
 refine bE O (fun h1=>?_) (fun h1=>?_)
 ·have hkl:k<G.length:=oO
  obtain⟨g,rfl⟩:=hp oO
  obtain⟨r,hr⟩:∃x,G[k]?=some x:=⟨_,List.getElem?_eq_getElem hkl⟩
  obtain⟨f0,f1,f2,f3,f4⟩:=qJx hr (0+((k:Nat):Int).toNat*5) oO
  have hro:=hG k r hr
  rw[Nat.zero_add]at hro
  refine bC (aK (aL (bK (dO (uM O (uB (uAi O O) ?_))))))
  refine uB (uG) ?_
  refine uU (dA (hE.t O) (fun b7=>?_))
  refine uA O (uU ?_)
  (first |(apply bL rfl rfl (hE.t rfl) rfl;(focus((repeat constructor);done));(focus rfl);(focus(exact Nat.le_of_ble_eq_true rfl)))|(apply aS rfl rfl (hE.t rfl) rfl;(focus((repeat constructor);done));(focus rfl);(focus(first |omega |(simp only[bP,aN,List.length_cons,List.length_nil];omega)))))
  refine dN (dO (uB (uG) ?_))
  refine uM O (uB (uAa O O) ?_)
  refine l_eq 26 (.int .i64 ((k+1:Nat):Int)) O (bW oO) ?_
  refine uX (vB (r:=r) (n:=k+1) hE hro oO oO) O ?_
  rintro _ _⟨rfl,rfl⟩
  simp only[uV,uW]
  refine uA O (dN (dO (uM O ?_)))
  apply aA
  ·(first |exact dU rfl (hE.t rfl)|exact dX rfl (hE.t rfl))
  ·rfl
  refine dN (bD O (bC (bI (aK (aJ (uB (uAa O O) (uM O (aM ?_))))))))
  refine bS (ι:=Nat) (j:=k+1) oO oO ⟨O,O,O,O,congrArg some (bW oO),trivial⟩ uI
 refine dF (aQ (aQ (bH (aK (dO (uM O (uB (uBl O) (uB (uAa O O) ?_))))))))
 refine l_eq 34 (.int .i64 ((G.length+1:Nat):Int)) O (bW oO) ?_
 refine uU ?_
 refine qLe (hE.t O) (hE.t O) O oO hml (fun b35=>?_)
 rw[qLi]
 refine uA O (dN (aL (dO (uM O (uB (uBl O) (uM O (dN (bK ?_))))))))
 refine fD (fun x:IgG=>[(0,uPt s),(1,.slice p G.length c),(9,.slice (some ⟨b35,0,none⟩) (G.length+1) (G.length+1)),(36,.slice p G.length c),(37,.int .i64 (G.length:Nat)),(38,.int .i64 (x.k:Nat))]) (fun x=>[bR s G.length x.Es,sl p c 86 5 G.length (rusC G),sl (some ⟨b35,0,none⟩) (G.length+1) 44 1 (G.length+1) (idC (pad x.Z (G.length+1))),R]) (fun x=>G.length-x.k) (fun x=>x.k≤G.length∧ImI G x.Es x.k x.Z) ⟨0,[],[0]⟩ ⟨Nat.zero_le _,O,O,fun j h1 h2=>by simp only at h2;omega,Nat.zero_le _,fun _=>⟨rfl,fun j hj=>by have h0:j=0:=Nat.le_zero.1 hj;subst h0;rfl⟩⟩ ⟨rfl,rfl,rfl,rfl,rfl,rfl,trivial⟩ uI ?_
 clear hk h1 k
 rintro⟨k,Es,Z⟩⟨hk,hI⟩
 simp only at hk hI ⊢
 refine dO (uB (y_lt O O) (dN (aL ?_)))
 refine bE O (fun h1=>?_) (fun h1=>?_)
 ·have hkl:k<G.length:=oO
  obtain⟨g,rfl⟩:=hp oO
  obtain⟨r,hr⟩:∃x,G[k]?=some x:=⟨_,List.getElem?_eq_getElem hkl⟩
  obtain⟨f0,f1,f2,f3,f4⟩:=qJx hr (0+((k:Nat):Int).toNat*5) oO
  obtain⟨r',hmk,hsm⟩:=hI.make hG hGt hr
  have hf:=hI.few
  have hzl:=hI.len
  have htl:(pad Z (G.length+1)).length=G.length+1:=qCx oO
  refine bC (aK (aL (bK (dO (uM O (uB (uAi O O) ?_))))))
  refine uB (uG) ?_
  refine uU (dA (hE.t O) (fun b11=>?_))
  refine uA O (uU ?_)
  (first |(apply bL rfl rfl (hE.t rfl) rfl;(focus((repeat constructor);done));(focus rfl);(focus(exact Nat.le_of_ble_eq_true rfl)))|(apply aS rfl rfl (hE.t rfl) rfl;(focus((repeat constructor);done));(focus rfl);(focus(first |omega |(simp only[bP,aN,List.length_cons,List.length_nil];omega)))))
  refine dN (dO (uM O (uB (uG) ?_)))
  refine uM O ?_
  refine l_eq 46 (.slice (some ⟨b35,0,none⟩) (pad Z (G.length+1)).length (G.length+1)) O (by rw[htl]) ?_
  refine xO (cO (p:=sl (some ⟨b35,0,none⟩) (G.length+1) 44 1 (G.length+1) (idC (pad Z (G.length+1)))) (p':=sl (some ⟨b35,0,none⟩) (G.length+1) 44 1 (pad Z (G.length+1)).length (idC (pad Z (G.length+1)))) uK (fun _ h=>by rw[htl];exact h)) ?_
  refine uX (ct_xPutG (s:=s) (most:=G.length) (Es:=Es) (r:=r) (r':=r') (T:=pad Z (G.length+1)) (gt:=b35) (ct:=G.length+1) hE oO hmk oO) O ?_
  rintro _ _(⟨rfl,rfl⟩|⟨M,i,rfl,hi1,hid,hM,rfl⟩)
  ·simp only[uV,uW]
   refine uM O (uB (aT O O) (uB (aT O O) (uA O (uA O (dN (aL (dO (uM O ?_))))))))
   apply aA
   ·(first |exact dU rfl (hE.t rfl)|exact dX rfl (hE.t rfl))
   ·rfl
   refine dN (bF O (dO (uM O (uA O (uA O (dN (bZ (aV (bN (aV (aV (bN (aV ?_)))))))))))))
   exact uZ O (.tmp O (.tmp O .nil)) ⟨Es,.inr O,O⟩
  rw[htl]
  simp only[uV,uW]
  refine qC (p:=bR s G.length (Es++M)) uK (fun _ h=>(dR h).1) ?_
  intro hw
  have hI':=hI.next hw hr hsm hi1 hid hM
  refine uM O (uB (aT O O) (uB (aT O O) (uA O (uA O (dN (aL (dO (uM O ?_))))))))
  apply aA
  ·(first |exact dU rfl (hE.t rfl)|exact dX rfl (hE.t rfl))
  ·rfl
  refine dN (bD O (bC (aK (aJ (uM O (uM O (uB (uAa O O) (uM O ?_))))))))
  apply aA
  ·(first |exact uAj rfl rfl|exact uAi rfl rfl)
  ·rfl
  refine uU ?_
  (first |(apply bL rfl rfl (hE.t rfl) rfl;(focus((repeat constructor);done));(focus rfl);(focus(exact Nat.le_of_ble_eq_true rfl)))|(apply aS rfl rfl (hE.t rfl) rfl;(focus((repeat constructor);done));(focus rfl);(focus(first |omega |(simp only[bP,aN,List.length_cons,List.length_nil];omega)))))
  refine aM (bI (aK ?_))
  rw[qQv (Z:=Z) (n:=G.length+1) (x:=i) oO ((((k:Nat):Int)+1).toNat) oO rfl]
  refine aJ (uB (uAa O O) (uM O (aM ?_)))
  refine bS (ι:=IgG) (j:=⟨k+1,Es++M,Z++[i]⟩) ⟨by simp only;omega,hI'⟩ (by simp only;omega) ⟨rfl,rfl,rfl,rfl,rfl,congrArg some (bW (by simp only;omega)),trivial⟩ uI
 obtain rfl:k=G.length:=by omega
 obtain⟨z,hz⟩:∃z,Z[G.length]?=some z:=⟨_,List.getElem?_eq_getElem (by have:=hI.len;omega)⟩
 have f5:=fK (wV (n:=G.length+1) hz) (((G.length:Nat):Int).toNat) oO
 refine dF (aQ (aQ (bH (aK (dO (uM O (uM O (uB (uBl O) ?_))))))))
 apply aA
 ·(first |exact uAj rfl rfl|exact uAi rfl rfl)
 ·rfl
 refine uL ?_
 refine uA O (uA O (dN (bZ ?_)))
 apply cB
 ·rfl
 ·(apply Rs.tmp rfl;apply Rs.tmp rfl;exact Rs.nil)
 ·refine⟨Es,.inl ⟨_,O,fun e=>?_⟩,O⟩
  have:=(hI.same e).1
  rwa [List.take_length]at this
 exact uI
end
section
variable {E:Env}{G:List Rl}{Es:List Ent}
theorem qNx {L:List Rl}(hw:Wf L){i:Nat}{b:UInt8}(hr:L[i]?=some (.letter b)):Sig L (i+1):=by
 have hi:=(List.getElem?_eq_some_iff.1 hr).1
 have hl:=(fT hr).2
 have low:∀k:Nat,expd L k (i+1)=[i+1]:=fun k=>dZ oO oO
 exact⟨oO,oO,oO,fun k hk=>by rw[low];exact .one hw oO oO oO oO,fun k hk=>by rw[low,low];exact .one L k _⟩
theorem qNb (hE:Seat E)(hB:Base E.w0)(hw:Wf G)(hGl:G.length≤100000){k pb g1 c1 g2 c2 g3 c3:Nat}{r:Rl}(hkG:k<G.length)(hlk:∀j,1≤j→j≤k+1→0≤lvl G j∧lvl G j≤1048576) (hr:G[k]?=some r) (hs:∀j,1≤j→j≤k→Sig G j):
  Ct E 65 [uPt pb,.agg #[.int .i64 (Rl.kind (r):Nat),.int .u8 (Rl.byte (r):Nat),.int .i64 (Rl.left (r):Nat),.int .i64 (Rl.right (r):Nat),.int .i64 (Rl.times (r):Nat)]] [cells pb [.slice (some ⟨g1,0,none⟩) (G.length+1) c1,.slice (some ⟨g2,0,none⟩) (G.length+1) c2,.slice (some ⟨g3,0,none⟩) (G.length+1) c3] 151,sl (some ⟨g1,0,none⟩) c1 86 5 (G.length+1) (ruC G),sl (some ⟨g2,0,none⟩) c2 3 1 (G.length+1) (lvC G (k+1)),sl (some ⟨g3,0,none⟩) c3 70 1 (G.length+1) (kzC G (k+1))] (fun v Q=>∃b,v= .bool b∧(b=true→Sig G (k+1))∧Q=[cells pb [.slice (some ⟨g1,0,none⟩) (G.length+1) c1,.slice (some ⟨g2,0,none⟩) (G.length+1) c2,.slice (some ⟨g3,0,none⟩) (G.length+1) c3] 151,sl (some ⟨g1,0,none⟩) c1 86 5 (G.length+1) (ruC G),sl (some ⟨g2,0,none⟩) c2 3 1 (G.length+1) (lvC G (k+1)),sl (some ⟨g3,0,none⟩) c3 70 1 (G.length+1) (kzC G (k+1))]):=by
 have hkl:=jB (hw.ok k r hr)
 cases r with
 |letter b=>
  refine bO (hE.fn Tryz.func65) O O O (fun R=>?_)
  simp only[dY,uV,uW]
  simp only[Rl.kind,Rl.byte,Rl.left,Rl.right,Rl.times]
  refine dO (uU ?_)
  refine fJ O (fun b3=>?_)
  refine uA O (dN (aL (dO (uB (uBf O) ?_))))
  refine uL ?_
  refine dN (bK (dO (uB (y_eq O O) (uA O (dN (bD O (dO (uB (y_eq O O) (uA O (dN (bD O (bC (bI (aK (dO (uA O (dN (bZ ?_))))))))))))))))))
  exact uZ O (.tmp O .nil) ⟨true,O,fun _=>qNx hw hr,O⟩
 |pair a b=>
  have ha:=hkl a (by simp[kids])
  have hb:=hkl b (by simp[kids])
  refine bO (hE.fn Tryz.func65) O O O (fun R=>?_)
  simp only[dY,uV,uW]
  simp only[Rl.kind,Rl.byte,Rl.left,Rl.right,Rl.times]
  refine dO (uU ?_)
  refine fJ O (fun b3=>?_)
  refine uA O (dN (aL (dO (uB (uBf O) ?_))))
  refine uL ?_
  refine dN (bK (dO (uB (y_eq O O) (uA O (dN (bF O (dO (uM O (uB (uBf O) ?_)))))))))
  refine uL ?_
  refine uB (uBf O) ?_
  refine uL ?_
  refine uX (qCe (k:=k+1) hE hB hw hGl oO hlk ⟨ha.1,oO⟩ ⟨hb.1,oO⟩ (hs a ha.1 oO)) O ?_
  rintro _ _⟨d,rfl,hd,rfl⟩
  simp only[uV,uW]
  refine uA O (dN (bZ (bN (aV ?_))))
  exact uZ O (.tmp O .nil) ⟨d,O,fun e=>sig_pair hw hr (hlk (k+1) oO oO).1 (hs a ha.1 oO) (hs b hb.1 oO) ((hd e).nb hw (hs a ha.1 oO) (hs b hb.1 oO)),O⟩
 |power a t=>
  have ha:=hkl a (by simp[kids])
  refine bO (hE.fn Tryz.func65) O O O (fun R=>?_)
  simp only[dY,uV,uW]
  simp only[Rl.kind,Rl.byte,Rl.left,Rl.right,Rl.times]
  refine dO (uU ?_)
  refine fJ O (fun b3=>?_)
  refine uA O (dN (aL (dO (uB (uBf O) ?_))))
  refine uL ?_
  refine dN (bK (dO (uB (y_eq O O) (uA O (dN (bD O (dO (uB (y_eq O O) (uA O (dN (bF O (dO (uM O (uB (uBf O) ?_))))))))))))))
  refine uL ?_
  refine uB (uBf O) ?_
  refine uL ?_
  refine uX (qCe (k:=k+1) hE hB hw hGl oO hlk ⟨ha.1,oO⟩ ⟨ha.1,oO⟩ (hs a ha.1 oO)) O ?_
  rintro _ _⟨d,rfl,hd,rfl⟩
  simp only[uV,uW]
  refine uA O (dN (bZ (bN (aV ?_))))
  exact uZ O (.tmp O .nil) ⟨d,O,fun e=>qRm hw hr (hlk (k+1) oO oO).1 (hs a ha.1 oO) ((hd e).nb hw (hs a ha.1 oO) (hs a ha.1 oO)),O⟩
theorem qNe (hE:Seat E)(hB:Base E.w0)(hG:GOk 0 G)(hGt:∀r∈G,r.times<9223372036854775808) (hGl:G.length≤100000) {A:List (List UInt8×Nat)} (hAl:A.length≤50000) (hA:∀p∈A,p.2≤G.length) {pg pl:Option Addr} {cg cl:Nat}:
  Ct E 39 [.slice pg G.length cg,.slice pl A.length cl] [sl pg cg 86 5 G.length (rusC G),sl pl cl 53 2 A.length (nlC (nmI A))] (fun v Q=>∃b,v= .bool b∧Q=[sl pg cg 86 5 G.length (rusC G),sl pl cl 53 2 A.length (nlC (nmI A))]∧(b=true→Wf G∧(∀j,1≤j→j≤G.length→Sig G j∧lvl G j≤1048576)∧dD G (A.map (·.2)) []=(List.range G.length).map (· +1))):=by
 have hmr:fA=1048576:=rfl
 refine eZ (p:=sl pl cl 53 2 A.length (nlC (nmI A))) uK (fun _ h=>fun hpos=>fB h hpos) (fun hpl=>?_)
 refine bO (hE.fn Tryz.func39) O O O (fun R=>?_)
 simp only[dY,uV,uW]
 refine dO (uA O (dN (dO (uM O (uB (uBl O) (uX (qGl (most:=G.length) hE oO) O ?_))))))
 rintro _ _⟨s,rfl,rfl⟩
 simp only[uV,uW]
 refine uA O (dN (aL (dO (uM O (uM O (uX (qMr hE hG hGt hGl) O ?_))))))
 rintro _ _⟨Es,⟨x0,rfl,hsame⟩|rfl,rfl⟩
 rotate_left
 ·simp only[uV,uW]
  refine uM O (uB (aT O O) (uB (aT O O) (uA O (uA O (dN (dO (uM O ?_)))))))
  apply aA
  ·(first |exact dU rfl (hE.t rfl)|exact dX rfl (hE.t rfl))
  ·rfl
  refine uM O (dQ (dQ (dQ (dQ (dQ ?_)))))
  apply aA
  ·(first |exact aW rfl rfl|exact aX rfl rfl)
  ·rfl
  refine dN (bF O (dO (uA O (dN (bZ (aV ?_))))))
  exact uZ O (.tmp O .nil) ⟨false,O,O,fun e=>by cases e⟩
 simp only[uV,uW]
 have hEl:(rls Es).length=Es.length:=bQ Es
 refine uM O (uB (aT O O) (uB (aT O O) (uA O (uA O (dN (dO (uM O ?_)))))))
 apply aA
 ·(first |exact dU rfl (hE.t rfl)|exact dX rfl (hE.t rfl))
 ·rfl
 refine uM O (dP (uM O (dP (uX (tZ hE) O ?_))))
 rintro _ _⟨rfl,rfl⟩
 simp only[uV,uW]
 refine dP (uM O (dP (uB (uBl O) (dP (uB (y_ne O O) ?_)))))
 apply aA
 ·(first |exact aW rfl rfl|exact aX rfl rfl)
 ·rfl
 refine dN ?_
 refine bE O (fun h1=>?_) (fun h1=>?_)
 ·refine aL (aJ ?_)
  refine uA O (dN (bZ (aV ?_)))
  exact uZ O (.tmp O .nil) ⟨false,O,O,fun e=>by cases e⟩
 obtain rfl:G=rls Es:=(hsame oO).symm
 refine iT (p:=bR s (rls Es).length Es) uK (fun _ h=>dR h) ?_
 rintro⟨hw, -, -, -⟩
 refine bC (aK (dO (uM O (uB (uBl O) (uU ?_)))))
 refine gH (c:=A.length) (hE.t O) (hE.t O) O oO oO (by(unfold maxLen;omega)) (fun b40=>?_)
 refine uA O (dN (aL (dO (uM O (uB (uBl O) (uM O (dN (bK ?_))))))))
 have ez:List.replicate A.length (Value.int .i64 0)=idC (tkS (A.map (·.2)) 0):=by
  have:=tkS_zero (A.map (·.2))
  rwa [List.length_map]at this
 rw[ez]
 refine fD (fun k:Nat=>[(0,.slice pg (rls Es).length cg),(5,uPt s),(8,.slice (some ⟨b40,0,none⟩) A.length A.length),(41,.slice pl A.length cl),(42,.int .i64 (A.length:Nat)),(43,.int .i64 (k:Nat))]) (fun k=>[bR s (rls Es).length Es,sl pg cg 86 5 (rls Es).length (rusC (rls Es)),sl pl cl 53 2 A.length (nlC (nmI A)),sl (some ⟨b40,0,none⟩) A.length 44 1 A.length (idC (tkS (A.map (·.2)) k)),R]) (fun k=>A.length-k) (fun k=>k≤A.length) 0 (Nat.zero_le _) ⟨O,O,O,O,O,O,trivial⟩ uI ?_
 rintro k hk
 refine dO (uB (y_lt O O) (dN (aL ?_)))
 refine bE O (fun h2=>?_) (fun h2=>?_)
 ·have hkl:k<A.length:=oO
  obtain⟨p,hp⟩:∃x,A[k]?=some x:=⟨_,List.getElem?_eq_getElem hkl⟩
  obtain⟨f0,f1⟩:=nmI_at hp (0+((k:Nat):Int).toNat*2) oO
  have hpk:(A.map (·.2))[k]?=some p.2:=by rw[List.getElem?_map,hp];rfl
  obtain⟨gl,rfl⟩:=hpl oO
  refine bC (aK (aL (bK (dO (uM O (uB (uAi O O) ?_))))))
  refine uB (uG) ?_
  refine uU (dA (hE.t O) (fun b10=>?_))
  refine uA O (uU ?_)
  (first |(apply bL rfl rfl (hE.t rfl) rfl;(focus((repeat constructor);done));(focus rfl);(focus(exact Nat.le_of_ble_eq_true rfl)))|(apply aS rfl rfl (hE.t rfl) rfl;(focus((repeat constructor);done));(focus rfl);(focus(first |omega |(simp only[bP,aN,List.length_cons,List.length_nil];omega)))))
  refine dN (aJ (uM O (uM O (uB (uBf O) ?_))))
  refine uL ?_
  apply aA
  ·(first |exact uAj rfl rfl|exact uAi rfl rfl)
  ·rfl
  refine uU ?_
  (first |(apply bL rfl rfl (hE.t rfl) rfl;(focus((repeat constructor);done));(focus rfl);(focus(exact Nat.le_of_ble_eq_true rfl)))|(apply aS rfl rfl (hE.t rfl) rfl;(focus((repeat constructor);done));(focus rfl);(focus(first |omega |(simp only[bP,aN,List.length_cons,List.length_nil];omega)))))
  refine aM (bI (aK (aJ (uB (uAa O O) (uM O (aM ?_))))))
  rw[tkS_set (k:=k) hpk (((k:Nat):Int).toNat) oO rfl]
  refine bS (ι:=Nat) (j:=k+1) oO oO ⟨O,O,O,O,O,congrArg some (bW oO),trivial⟩ uI
 obtain rfl:k=A.length:=by omega
 have ez2:tkS (A.map (·.2)) A.length=A.map (·.2):=by
  have:=tkS_all (A.map (·.2))
  rwa [List.length_map]at this
 rw[ez2]
 refine dF (aQ (aQ (bH (aK (dO (uM O (uM O (uU ?_))))))))
 apply aZ (zG (s:=s) (most:=(rls Es).length) (Es:=Es) (xs:=A.map (·.2)) hE (by simp) (fun x hx=>by
  obtain⟨q,hq,rfl⟩:=List.mem_map.1 hx
  have:=hA q hq
  omega) hAl) rfl (hE.f oK)
 ·exact uK
 rintro _ _⟨p1,c1,rfl,rfl⟩
 generalize hV:dD (rls Es) (A.map (·.2)) []=V
 simp only[uV,uW]
 refine uA O (dN (aL (dO (uM O (uB (uBl O) (uM O (uB (uBl O) (uB (y_ne O O) (dN ?_)))))))))
 refine bE O (fun h3=>?_) (fun h3=>?_)
 ·refine aL (aJ ?_)
  refine uA O (dN (bZ (aV ?_)))
  exact uZ O (.tmp O .nil) ⟨false,O,O,fun e=>by cases e⟩
 have hvl:V.length=(rls Es).length:=oO
 rw[hvl]
 refine iT (p:=sl p1 c1 44 1 (rls Es).length (idC V)) uK (fun _ h=>fun hpos=>fB h hpos) ?_
 intro hp1
 refine bC (aK (aL (dO (uM O (uB (uBl O) (uM O (dN (bK ?_))))))))
 refine fD (fun k:Nat=>[(0,.slice pg (rls Es).length cg),(5,uPt s),(62,.slice p1 (rls Es).length c1),(63,.int .i64 ((rls Es).length:Nat)),(64,.int .i64 (k:Nat))]) (fun k=>[bR s (rls Es).length Es,sl pg cg 86 5 (rls Es).length (rusC (rls Es)),sl pl cl 53 2 A.length (nlC (nmI A)),sl p1 c1 44 1 (rls Es).length (idC V),R]) (fun k=>(rls Es).length-k) (fun k=>k≤(rls Es).length∧∀j,j<k→V[j]?=some (j+1)) 0 ⟨Nat.zero_le _,fun j h=>by omega⟩ ⟨rfl,rfl,rfl,rfl,rfl,trivial⟩ uI ?_
 clear h2 hk h3 h1
 rintro k⟨hk,hVk⟩
 refine dO (uB (y_lt O O) (dN (aL ?_)))
 refine bE O (fun h2=>?_) (fun h2=>?_)
 ·have hkl:k<(rls Es).length:=oO
  obtain⟨g1,rfl⟩:=hp1 oO
  obtain⟨z,hat⟩:∃z,V[k]?=some z:=⟨_,List.getElem?_eq_getElem oO⟩
  have f0:=fK hat (((k:Nat):Int).toNat) oO
  refine bC (aK (aL (bK (dO (uM O ?_)))))
  apply aA
  ·(first |exact uAj rfl rfl|exact uAi rfl rfl)
  ·rfl
  refine uL ?_
  refine uA O (uA O (dN (dO (uM O (uM O (uB (uAa O O) (uB (y_ne O O) (dN ?_))))))))
  refine bE O (fun h3=>?_) (fun h3=>?_)
  ·refine aL (aJ ?_)
   refine uA O (dN (bZ (bN (aV (aV (bN (aV ?_)))))))
   exact uZ O (.tmp O .nil) ⟨false,O,O,fun e=>by cases e⟩
  refine bC (bI (aK (aJ (uB (uAa O O) (uM O (aM ?_))))))
  refine bS (ι:=Nat) (j:=k+1) ⟨oO,fun j hj=>by
   rcases Nat.lt_or_ge j k with h| h
   ·exact hVk j h
   obtain rfl:j=k:=by omega
   rw[hat]
   congr 1
   omega⟩ oO ⟨rfl,rfl,rfl,rfl,congrArg some (bW oO),trivial⟩ uI
 have hvis:V=(List.range (rls Es).length).map (· +1):=by
  apply List.ext_getElem?
  intro j
  rcases Nat.lt_or_ge j (rls Es).length with h| h
  ·rw[hVk j oO,List.getElem?_map,List.getElem?_range h];rfl
  rw[List.getElem?_eq_none oO,List.getElem?_eq_none (by simpa using h)]
 refine iT (p:=sl pg cg 86 5 (rls Es).length (rusC (rls Es))) uK (fun _ h=>(lH h).2.2) ?_
 intro hGRl
 refine dF (aQ (aQ (bH (aK ?_))))
 refine rP (fun x:PpG=>[(0,.slice pg (rls Es).length cg),(5,uPt s),(14,.pointer (some ⟨x.b,0,none⟩))]) (fun x=>[bR s (rls Es).length Es,sl pg cg 86 5 (rls Es).length (rusC (rls Es)),sl pl cl 53 2 A.length (nlC (nmI A)),cells x.b [.slice x.p ((rls Es).length+1) x.c,.slice (some ⟨x.b2,0,none⟩) ((rls Es).length+1) ((rls Es).length+1),.slice (some ⟨x.b3,0,none⟩) ((rls Es).length+1) ((rls Es).length+1)] 151,sl x.p x.c 86 5 ((rls Es).length+1) (ruC (rls Es)),sl (some ⟨x.b2,0,none⟩) ((rls Es).length+1) 3 1 ((rls Es).length+1) (lvC (rls Es) 0),sl (some ⟨x.b3,0,none⟩) ((rls Es).length+1) 70 1 ((rls Es).length+1) (kzC (rls Es) 0),R]) (fun _=>True) ?_ ?_
 ·have el:List.replicate ((rls Es).length+1) (Value.int .i64 0)=lvC (rls Es) 0:=qCn (f:=fun j=> .int .i64 (lvl (rls Es) j)) O _
  have ek:List.replicate ((rls Es).length+1) (Value.int .u64 0)=kzC (rls Es) 0:=qCn (f:=fun j=> .int .u64 (key (rls Es) j:Nat)) O _
  refine uN 14 ([]) ?_
  apply bY 0 O
  ·(first |exact dV (hE.t rfl) rfl rfl|exact fC (hE.t rfl) rfl rfl)
  ·with_reducible (repeat(first |exact aF|apply aG|apply aH))
  ·kernel_rfl
  ·rfl
  refine uT 2 O (aB O) (uT 4 O (aB O) (uT 5 O (uBl O) (uT 6 O (uAa O O) (uT 8 O (aB O) (uT 9 O (uBl O) (uT 10 O (uAa O O) ?_))))))
  apply qJn 1 7 11 O O O oK O O O
  ·refine aU (hE.t O) (hE.t O) O O O (fun b75=>?_)
   refine uE ?_
   apply qJn 3 7 11 O O O oK O O O
   ·refine nD (cO (p:=cells b75 [.int .i64 0,.int .u8 0,.int .i64 0,.int .i64 0,.int .i64 0] 86) (p':=sl (some ⟨b75,0,none⟩) 1 86 5 1 [.int .i64 0,.int .u8 0,.int .i64 0,.int .i64 0,.int .i64 0]) uK (eO O (by unfold maxLen;omega))) ?_
    apply gJ (hE.t O) (hE.t O) O O O
    ·exact uK
    ·exact uK
    ·exact lC _
    ·omega
    ·unfold maxLen;omega
    intro pK cK mK xK hmK hxK
    obtain rfl:mK=(rls Es).length+1:=by omega
    obtain rfl:xK=ruC (rls Es):=by rw[hxK];rfl
    refine uE ?_
    apply vT 7 11 O O oK O O
    ·refine gH (c:=(rls Es).length+1) (hE.t O) (hE.t O) O oO oO (by(unfold maxLen;omega)) (fun b81=>?_)
     refine uE ?_
     apply eH 11 O oK O
     refine gH (c:=(rls Es).length+1) (hE.t O) (hE.t O) O oO oO (by(unfold maxLen;omega)) (fun b85=>?_)
     refine uE ?_
     apply dG 12 O oK
     ·(first |exact dV (hE.t rfl) rfl rfl|exact fC (hE.t rfl) rfl rfl)
     ·rfl
     apply eH 13 O oK O
     refine fJ O (fun b87=>?_)
     refine uE ?_
     apply dG 14 O oK
     ·exact aC O
     ·rfl
     refine tK oK ?_
     rw[el,ek]
     refine gM (ι:=PpG) ⟨b87,pK,cK,b81,b85⟩ trivial ⟨O,O,O,trivial⟩ ?_
     exact uI
    refine gH (c:=(rls Es).length+1) (hE.t O) (hE.t O) O oO oO (by(unfold maxLen;omega)) (fun b85=>?_)
    refine uE ?_
    apply eH 7 O oK O
    refine gH (c:=(rls Es).length+1) (hE.t O) (hE.t O) O oO oO (by(unfold maxLen;omega)) (fun b81=>?_)
    refine uE ?_
    apply dG 12 O oK
    ·(first |exact dV (hE.t rfl) rfl rfl|exact fC (hE.t rfl) rfl rfl)
    ·rfl
    apply eH 13 O oK O
    refine fJ O (fun b87=>?_)
    refine uE ?_
    apply dG 14 O oK
    ·exact aC O
    ·rfl
    refine tK oK ?_
    rw[el,ek]
    refine gM (ι:=PpG) ⟨b87,pK,cK,b81,b85⟩ trivial ⟨O,O,O,trivial⟩ ?_
    exact uI
   ·refine gH (c:=(rls Es).length+1) (hE.t O) (hE.t O) O oO oO (by(unfold maxLen;omega)) (fun b81=>?_)
    refine uE ?_
    apply vT 3 11 O O oK O O
    ·refine nD (cO (p:=cells b75 [.int .i64 0,.int .u8 0,.int .i64 0,.int .i64 0,.int .i64 0] 86) (p':=sl (some ⟨b75,0,none⟩) 1 86 5 1 [.int .i64 0,.int .u8 0,.int .i64 0,.int .i64 0,.int .i64 0]) uK (eO O (by unfold maxLen;omega))) ?_
     apply gJ (hE.t O) (hE.t O) O O O
     ·exact uK
     ·exact uK
     ·exact lC _
     ·omega
     ·unfold maxLen;omega
     intro pK cK mK xK hmK hxK
     obtain rfl:mK=(rls Es).length+1:=by omega
     obtain rfl:xK=ruC (rls Es):=by rw[hxK];rfl
     refine uE ?_
     apply eH 11 O oK O
     refine gH (c:=(rls Es).length+1) (hE.t O) (hE.t O) O oO oO (by(unfold maxLen;omega)) (fun b85=>?_)
     refine uE ?_
     apply dG 12 O oK
     ·(first |exact dV (hE.t rfl) rfl rfl|exact fC (hE.t rfl) rfl rfl)
     ·rfl
     apply eH 13 O oK O
     refine fJ O (fun b87=>?_)
     refine uE ?_
     apply dG 14 O oK
     ·exact aC O
     ·rfl
     refine tK oK ?_
     rw[el,ek]
     refine gM (ι:=PpG) ⟨b87,pK,cK,b81,b85⟩ trivial ⟨O,O,O,trivial⟩ ?_
     exact uI
    refine gH (c:=(rls Es).length+1) (hE.t O) (hE.t O) O oO oO (by(unfold maxLen;omega)) (fun b85=>?_)
    refine uE ?_
    apply eH 3 O oK O
    refine nD (cO (p:=cells b75 [.int .i64 0,.int .u8 0,.int .i64 0,.int .i64 0,.int .i64 0] 86) (p':=sl (some ⟨b75,0,none⟩) 1 86 5 1 [.int .i64 0,.int .u8 0,.int .i64 0,.int .i64 0,.int .i64 0]) uK (eO O (by unfold maxLen;omega))) ?_
    apply gJ (hE.t O) (hE.t O) O O O
    ·exact uK
    ·exact uK
    ·exact lC _
    ·omega
    ·unfold maxLen;omega
    intro pK cK mK xK hmK hxK
    obtain rfl:mK=(rls Es).length+1:=by omega
    obtain rfl:xK=ruC (rls Es):=by rw[hxK];rfl
    refine uE ?_
    apply dG 12 O oK
    ·(first |exact dV (hE.t rfl) rfl rfl|exact fC (hE.t rfl) rfl rfl)
    ·rfl
    apply eH 13 O oK O
    refine fJ O (fun b87=>?_)
    refine uE ?_
    apply dG 14 O oK
    ·exact aC O
    ·rfl
    refine tK oK ?_
    rw[el,ek]
    refine gM (ι:=PpG) ⟨b87,pK,cK,b81,b85⟩ trivial ⟨O,O,O,trivial⟩ ?_
    exact uI
   refine gH (c:=(rls Es).length+1) (hE.t O) (hE.t O) O oO oO (by(unfold maxLen;omega)) (fun b85=>?_)
   refine uE ?_
   apply vT 3 7 O O oK O O
   ·refine nD (cO (p:=cells b75 [.int .i64 0,.int .u8 0,.int .i64 0,.int .i64 0,.int .i64 0] 86) (p':=sl (some ⟨b75,0,none⟩) 1 86 5 1 [.int .i64 0,.int .u8 0,.int .i64 0,.int .i64 0,.int .i64 0]) uK (eO O (by unfold maxLen;omega))) ?_
    apply gJ (hE.t O) (hE.t O) O O O
    ·exact uK
    ·exact uK
    ·exact lC _
    ·omega
    ·unfold maxLen;omega
    intro pK cK mK xK hmK hxK
    obtain rfl:mK=(rls Es).length+1:=by omega
    obtain rfl:xK=ruC (rls Es):=by rw[hxK];rfl
    refine uE ?_
    apply eH 7 O oK O
    refine gH (c:=(rls Es).length+1) (hE.t O) (hE.t O) O oO oO (by(unfold maxLen;omega)) (fun b81=>?_)
    refine uE ?_
    apply dG 12 O oK
    ·(first |exact dV (hE.t rfl) rfl rfl|exact fC (hE.t rfl) rfl rfl)
    ·rfl
    apply eH 13 O oK O
    refine fJ O (fun b87=>?_)
    refine uE ?_
    apply dG 14 O oK
    ·exact aC O
    ·rfl
    refine tK oK ?_
    rw[el,ek]
    refine gM (ι:=PpG) ⟨b87,pK,cK,b81,b85⟩ trivial ⟨O,O,O,trivial⟩ ?_
    exact uI
   refine gH (c:=(rls Es).length+1) (hE.t O) (hE.t O) O oO oO (by(unfold maxLen;omega)) (fun b81=>?_)
   refine uE ?_
   apply eH 3 O oK O
   refine nD (cO (p:=cells b75 [.int .i64 0,.int .u8 0,.int .i64 0,.int .i64 0,.int .i64 0] 86) (p':=sl (some ⟨b75,0,none⟩) 1 86 5 1 [.int .i64 0,.int .u8 0,.int .i64 0,.int .i64 0,.int .i64 0]) uK (eO O (by unfold maxLen;omega))) ?_
   apply gJ (hE.t O) (hE.t O) O O O
   ·exact uK
   ·exact uK
   ·exact lC _
   ·omega
   ·unfold maxLen;omega
   intro pK cK mK xK hmK hxK
   obtain rfl:mK=(rls Es).length+1:=by omega
   obtain rfl:xK=ruC (rls Es):=by rw[hxK];rfl
   refine uE ?_
   apply dG 12 O oK
   ·(first |exact dV (hE.t rfl) rfl rfl|exact fC (hE.t rfl) rfl rfl)
   ·rfl
   apply eH 13 O oK O
   refine fJ O (fun b87=>?_)
   refine uE ?_
   apply dG 14 O oK
   ·exact aC O
   ·rfl
   refine tK oK ?_
   rw[el,ek]
   refine gM (ι:=PpG) ⟨b87,pK,cK,b81,b85⟩ trivial ⟨O,O,O,trivial⟩ ?_
   exact uI
  ·refine gH (c:=(rls Es).length+1) (hE.t O) (hE.t O) O oO oO (by(unfold maxLen;omega)) (fun b81=>?_)
   refine uE ?_
   apply vT 1 11 O O oK O O
   ·refine aU (hE.t O) (hE.t O) O O O (fun b75=>?_)
    refine uE ?_
    apply vT 3 11 O O oK O O
    ·refine nD (cO (p:=cells b75 [.int .i64 0,.int .u8 0,.int .i64 0,.int .i64 0,.int .i64 0] 86) (p':=sl (some ⟨b75,0,none⟩) 1 86 5 1 [.int .i64 0,.int .u8 0,.int .i64 0,.int .i64 0,.int .i64 0]) uK (eO O (by unfold maxLen;omega))) ?_
     apply gJ (hE.t O) (hE.t O) O O O
     ·exact uK
     ·exact uK
     ·exact lC _
     ·omega
     ·unfold maxLen;omega
     intro pK cK mK xK hmK hxK
     obtain rfl:mK=(rls Es).length+1:=by omega
     obtain rfl:xK=ruC (rls Es):=by rw[hxK];rfl
     refine uE ?_
     apply eH 11 O oK O
     refine gH (c:=(rls Es).length+1) (hE.t O) (hE.t O) O oO oO (by(unfold maxLen;omega)) (fun b85=>?_)
     refine uE ?_
     apply dG 12 O oK
     ·(first |exact dV (hE.t rfl) rfl rfl|exact fC (hE.t rfl) rfl rfl)
     ·rfl
     apply eH 13 O oK O
     refine fJ O (fun b87=>?_)
     refine uE ?_
     apply dG 14 O oK
     ·exact aC O
     ·rfl
     refine tK oK ?_
     rw[el,ek]
     refine gM (ι:=PpG) ⟨b87,pK,cK,b81,b85⟩ trivial ⟨O,O,O,trivial⟩ ?_
     exact uI
    refine gH (c:=(rls Es).length+1) (hE.t O) (hE.t O) O oO oO (by(unfold maxLen;omega)) (fun b85=>?_)
    refine uE ?_
    apply eH 3 O oK O
    refine nD (cO (p:=cells b75 [.int .i64 0,.int .u8 0,.int .i64 0,.int .i64 0,.int .i64 0] 86) (p':=sl (some ⟨b75,0,none⟩) 1 86 5 1 [.int .i64 0,.int .u8 0,.int .i64 0,.int .i64 0,.int .i64 0]) uK (eO O (by unfold maxLen;omega))) ?_
    apply gJ (hE.t O) (hE.t O) O O O
    ·exact uK
    ·exact uK
    ·exact lC _
    ·omega
    ·unfold maxLen;omega
    intro pK cK mK xK hmK hxK
    obtain rfl:mK=(rls Es).length+1:=by omega
    obtain rfl:xK=ruC (rls Es):=by rw[hxK];rfl
    refine uE ?_
    apply dG 12 O oK
    ·(first |exact dV (hE.t rfl) rfl rfl|exact fC (hE.t rfl) rfl rfl)
    ·rfl
    apply eH 13 O oK O
    refine fJ O (fun b87=>?_)
    refine uE ?_
    apply dG 14 O oK
    ·exact aC O
    ·rfl
    refine tK oK ?_
    rw[el,ek]
    refine gM (ι:=PpG) ⟨b87,pK,cK,b81,b85⟩ trivial ⟨O,O,O,trivial⟩ ?_
    exact uI
   refine gH (c:=(rls Es).length+1) (hE.t O) (hE.t O) O oO oO (by(unfold maxLen;omega)) (fun b85=>?_)
   refine uE ?_
   apply eH 1 O oK O
   refine aU (hE.t O) (hE.t O) O O O (fun b75=>?_)
   refine uE ?_
   apply eH 3 O oK O
   refine nD (cO (p:=cells b75 [.int .i64 0,.int .u8 0,.int .i64 0,.int .i64 0,.int .i64 0] 86) (p':=sl (some ⟨b75,0,none⟩) 1 86 5 1 [.int .i64 0,.int .u8 0,.int .i64 0,.int .i64 0,.int .i64 0]) uK (eO O (by unfold maxLen;omega))) ?_
   apply gJ (hE.t O) (hE.t O) O O O
   ·exact uK
   ·exact uK
   ·exact lC _
   ·omega
   ·unfold maxLen;omega
   intro pK cK mK xK hmK hxK
   obtain rfl:mK=(rls Es).length+1:=by omega
   obtain rfl:xK=ruC (rls Es):=by rw[hxK];rfl
   refine uE ?_
   apply dG 12 O oK
   ·(first |exact dV (hE.t rfl) rfl rfl|exact fC (hE.t rfl) rfl rfl)
   ·rfl
   apply eH 13 O oK O
   refine fJ O (fun b87=>?_)
   refine uE ?_
   apply dG 14 O oK
   ·exact aC O
   ·rfl
   refine tK oK ?_
   rw[el,ek]
   refine gM (ι:=PpG) ⟨b87,pK,cK,b81,b85⟩ trivial ⟨O,O,O,trivial⟩ ?_
   exact uI
  refine gH (c:=(rls Es).length+1) (hE.t O) (hE.t O) O oO oO (by(unfold maxLen;omega)) (fun b85=>?_)
  refine uE ?_
  apply vT 1 7 O O oK O O
  ·refine aU (hE.t O) (hE.t O) O O O (fun b75=>?_)
   refine uE ?_
   apply vT 3 7 O O oK O O
   ·refine nD (cO (p:=cells b75 [.int .i64 0,.int .u8 0,.int .i64 0,.int .i64 0,.int .i64 0] 86) (p':=sl (some ⟨b75,0,none⟩) 1 86 5 1 [.int .i64 0,.int .u8 0,.int .i64 0,.int .i64 0,.int .i64 0]) uK (eO O (by unfold maxLen;omega))) ?_
    apply gJ (hE.t O) (hE.t O) O O O
    ·exact uK
    ·exact uK
    ·exact lC _
    ·omega
    ·unfold maxLen;omega
    intro pK cK mK xK hmK hxK
    obtain rfl:mK=(rls Es).length+1:=by omega
    obtain rfl:xK=ruC (rls Es):=by rw[hxK];rfl
    refine uE ?_
    apply eH 7 O oK O
    refine gH (c:=(rls Es).length+1) (hE.t O) (hE.t O) O oO oO (by(unfold maxLen;omega)) (fun b81=>?_)
    refine uE ?_
    apply dG 12 O oK
    ·(first |exact dV (hE.t rfl) rfl rfl|exact fC (hE.t rfl) rfl rfl)
    ·rfl
    apply eH 13 O oK O
    refine fJ O (fun b87=>?_)
    refine uE ?_
    apply dG 14 O oK
    ·exact aC O
    ·rfl
    refine tK oK ?_
    rw[el,ek]
    refine gM (ι:=PpG) ⟨b87,pK,cK,b81,b85⟩ trivial ⟨O,O,O,trivial⟩ ?_
    exact uI
   refine gH (c:=(rls Es).length+1) (hE.t O) (hE.t O) O oO oO (by(unfold maxLen;omega)) (fun b81=>?_)
   refine uE ?_
   apply eH 3 O oK O
   refine nD (cO (p:=cells b75 [.int .i64 0,.int .u8 0,.int .i64 0,.int .i64 0,.int .i64 0] 86) (p':=sl (some ⟨b75,0,none⟩) 1 86 5 1 [.int .i64 0,.int .u8 0,.int .i64 0,.int .i64 0,.int .i64 0]) uK (eO O (by unfold maxLen;omega))) ?_
   apply gJ (hE.t O) (hE.t O) O O O
   ·exact uK
   ·exact uK
   ·exact lC _
   ·omega
   ·unfold maxLen;omega
   intro pK cK mK xK hmK hxK
   obtain rfl:mK=(rls Es).length+1:=by omega
   obtain rfl:xK=ruC (rls Es):=by rw[hxK];rfl
   refine uE ?_
   apply dG 12 O oK
   ·(first |exact dV (hE.t rfl) rfl rfl|exact fC (hE.t rfl) rfl rfl)
   ·rfl
   apply eH 13 O oK O
   refine fJ O (fun b87=>?_)
   refine uE ?_
   apply dG 14 O oK
   ·exact aC O
   ·rfl
   refine tK oK ?_
   rw[el,ek]
   refine gM (ι:=PpG) ⟨b87,pK,cK,b81,b85⟩ trivial ⟨O,O,O,trivial⟩ ?_
   exact uI
  refine gH (c:=(rls Es).length+1) (hE.t O) (hE.t O) O oO oO (by(unfold maxLen;omega)) (fun b81=>?_)
  refine uE ?_
  apply eH 1 O oK O
  refine aU (hE.t O) (hE.t O) O O O (fun b75=>?_)
  refine uE ?_
  apply eH 3 O oK O
  refine nD (cO (p:=cells b75 [.int .i64 0,.int .u8 0,.int .i64 0,.int .i64 0,.int .i64 0] 86) (p':=sl (some ⟨b75,0,none⟩) 1 86 5 1 [.int .i64 0,.int .u8 0,.int .i64 0,.int .i64 0,.int .i64 0]) uK (eO O (by unfold maxLen;omega))) ?_
  apply gJ (hE.t O) (hE.t O) O O O
  ·exact uK
  ·exact uK
  ·exact lC _
  ·omega
  ·unfold maxLen;omega
  intro pK cK mK xK hmK hxK
  obtain rfl:mK=(rls Es).length+1:=by omega
  obtain rfl:xK=ruC (rls Es):=by rw[hxK];rfl
  refine uE ?_
  apply dG 12 O oK
  ·(first |exact dV (hE.t rfl) rfl rfl|exact fC (hE.t rfl) rfl rfl)
  ·rfl
  apply eH 13 O oK O
  refine fJ O (fun b87=>?_)
  refine uE ?_
  apply dG 14 O oK
  ·exact aC O
  ·rfl
  refine tK oK ?_
  rw[el,ek]
  refine gM (ι:=PpG) ⟨b87,pK,cK,b81,b85⟩ trivial ⟨O,O,O,trivial⟩ ?_
  exact uI
 rintro⟨pb,p2,c2,b2,b3⟩_
 simp only
 refine iT (p:=sl p2 c2 86 5 ((rls Es).length+1) (ruC (rls Es))) uK (fun _ h=>fB h oO) ?_
 rintro⟨g1,rfl⟩
 refine dO (uM O (uX (qCb hE) O ?_))
 rintro _ _⟨tb,rfl,rfl⟩
 simp only[uV,uW]
 refine xO (cO (p:=tabP tb s []) (p':=tabP tb s (rls Es)) uK (fun _ h=>nQ (rls Es) h)) ?_
 refine uA O (dN (aL (dO (uA O (dN (bK ?_))))))
 refine fD (fun k:Nat=>[(0,.slice pg (rls Es).length cg),(14,uPt pb),(15,uPt tb),(16,.int .i64 ((k+1:Nat):Int))]) (fun k=>[bR s (rls Es).length Es,tabP tb s (rls Es),sl pg cg 86 5 (rls Es).length (rusC (rls Es)),sl pl cl 53 2 A.length (nlC (nmI A)),cells pb [.slice (some ⟨g1,0,none⟩) ((rls Es).length+1) c2,.slice (some ⟨b2,0,none⟩) ((rls Es).length+1) ((rls Es).length+1),.slice (some ⟨b3,0,none⟩) ((rls Es).length+1) ((rls Es).length+1)] 151,sl (some ⟨g1,0,none⟩) c2 86 5 ((rls Es).length+1) (ruC (rls Es)),sl (some ⟨b2,0,none⟩) ((rls Es).length+1) 3 1 ((rls Es).length+1) (lvC (rls Es) k),sl (some ⟨b3,0,none⟩) ((rls Es).length+1) 70 1 ((rls Es).length+1) (kzC (rls Es) k),R]) (fun k=>(rls Es).length-k) (fun k=>k≤(rls Es).length∧∀j,1≤j→j≤k→Sig (rls Es) j∧lvl (rls Es) j≤1048576) 0 ⟨Nat.zero_le _,fun j h1 h2=>by omega⟩ ⟨rfl,rfl,rfl,rfl,trivial⟩ uI ?_
 clear h2 hk hVk k
 rintro k⟨hk,hsg⟩
 refine aL (dO (uM O (uM O (uB (uBl O) (uB (y_le O O) (dN ?_))))))
 refine bE O (fun h2=>?_) (fun h2=>?_)
 ·have hkl:k<(rls Es).length:=oO
  obtain⟨r,hr⟩:∃x,(rls Es)[k]?=some x:=⟨_,List.getElem?_eq_getElem hkl⟩
  obtain⟨f0,f1,f2,f3,f4⟩:=qDg hr (0+((k+1:Nat):Int).toNat*5) oO
  refine bC (aK (aL (bK (dO (uM O (uM O ?_))))))
  by_cases hlv0:0≤lvl (rls Es) (k+1)
  rotate_left
  ·apply aI oK O
   refine uC (qIw (s:=s) (most:=(rls Es).length) (Es:=Es) (i:=k) hE hB oO oO) O ?_
   rintro _ _⟨rfl,rfl⟩
   simp only[uV,uW]
   refine uM O (uB (aT O O) (uB (aT O O) (uA O (uA O (dN (aL (dO (uM O ?_))))))))
   apply aA
   ·(first |exact dU rfl (hE.t rfl)|exact dX rfl (hE.t rfl))
   ·rfl
   refine uM O (dQ (dQ ?_))
   apply aA
   ·(first |exact aW rfl rfl|exact aX rfl rfl)
   ·rfl
   refine dN (bF O (dO (uA O (dN (bZ (aV (bN (aV (aV (bN (aV ?_)))))))))))
   exact uZ O (.tmp O .nil) ⟨false,O,O,fun e=>by cases e⟩
  refine uX (qEb (s:=s) (most:=(rls Es).length) (Es:=Es) (i:=k) hE hB oO hlv0) O ?_
  rintro _ _⟨rfl,rfl⟩
  simp only[uV,uW]
  refine uM O (uB (aT O O) (uB (aT O O) (uA O (uA O (dN (aL (dO (uM O ?_))))))))
  apply aA
  ·(first |exact dU rfl (hE.t rfl)|exact dX rfl (hE.t rfl))
  ·rfl
  refine uM O (dP (uM O (dP (uB (y_gt O O) ?_))))
  apply aA
  ·(first |exact aW rfl rfl|exact aX rfl rfl)
  ·rfl
  refine dN ?_
  refine bE O (fun h3=>?_) (fun h3=>?_)
  ·refine aL (aJ ?_)
   refine uA O (dN (bZ (aV (bN (aV (aV (bN (aV ?_))))))))
   exact uZ O (.tmp O .nil) ⟨false,O,O,fun e=>by cases e⟩
  have hlk:∀j,1≤j→j≤k+1→0≤lvl (rls Es) j∧lvl (rls Es) j≤1048576:=fun j j1 j2=>by
   rcases Nat.lt_or_ge k j with h| h
   ·obtain rfl:j=k+1:=by omega
    exact⟨hlv0,oO⟩
   exact⟨(hsg j j1 h).1.lv,(hsg j j1 h).2⟩
  refine bC (aK (dO (uM O (uM O (uX (zF (s:=s) (most:=(rls Es).length) (Es:=Es) (i:=k) hE hB oO) O ?_)))))
  rintro _ _⟨rfl,rfl⟩
  simp only[uV,uW]
  refine uM O (uB (aT O O) (uB (aT O O) (uA O (uA O (dN (aL (dO (uM O ?_))))))))
  apply aA
  ·(first |exact dU rfl (hE.t rfl)|exact dX rfl (hE.t rfl))
  ·rfl
  refine dN (bD O (bC (aK (dO (uM O (uB (bA O) (uB (uBf O) ?_)))))))
  refine uL ?_
  refine uM O (uM O ?_)
  apply aA
  ·(first |exact uAj rfl rfl|exact uAi rfl rfl)
  ·rfl
  refine uU ?_
  (first |(apply bL rfl rfl (hE.t rfl) rfl;(focus((repeat constructor);done));(focus rfl);(focus(exact Nat.le_of_ble_eq_true rfl)))|(apply aS rfl rfl (hE.t rfl) rfl;(focus((repeat constructor);done));(focus rfl);(focus(first |omega |(simp only[bP,aN,List.length_cons,List.length_nil];omega)))))
  refine dN ?_
  rw[lvC_set (k:=k) oO (((k+1:Nat):Int).toNat) oO]
  refine dO (uM O (uB (bA O) (uB (uBf O) ?_)))
  refine uL ?_
  refine uM O (uM O ?_)
  apply aA
  ·(first |exact uAj rfl rfl|exact uAi rfl rfl)
  ·rfl
  refine uU ?_
  (first |(apply bL rfl rfl (hE.t rfl) rfl;(focus((repeat constructor);done));(focus rfl);(focus(exact Nat.le_of_ble_eq_true rfl)))|(apply aS rfl rfl (hE.t rfl) rfl;(focus((repeat constructor);done));(focus rfl);(focus(first |omega |(simp only[bP,aN,List.length_cons,List.length_nil];omega)))))
  refine dN ?_
  rw[kzC_set (k:=k) oO (((k+1:Nat):Int).toNat) oO]
  refine dO (uM O (uM O (uB (bA O) (uB (uBf O) ?_))))
  refine uL ?_
  refine uM O (uB (uAi O O) ?_)
  refine uB (uG) ?_
  refine uX (qNb (k:=k) hE hB hw hGl hkl hlk hr (fun j j1 j2=>(hsg j j1 j2).1)) O ?_
  rintro _ _⟨d,rfl,hd,rfl⟩
  cases d with
  |false=>
   simp only[uV,uW]
   refine uB (gY O) (dN (bF O (dO (uA O (dN (bZ (bN (aV (aV (bN (aV ?_)))))))))))
   exact uZ O (.tmp O .nil) ⟨false,O,O,fun e=>by cases e⟩
  |true=>
   simp only[uV,uW]
   refine uB (gY O) (dN (bD O (bC (bI (aK (aJ (uM O (uB (uAa O O) (uA O (aM ?_))))))))))
   refine bS (ι:=Nat) (j:=k+1) ⟨oO,fun j j1 j2=>by
    rcases Nat.lt_or_ge k j with h| h
    ·obtain rfl:j=k+1:=by omega
     exact⟨hd O,(hlk _ j1 j2).2⟩
    exact hsg j j1 h⟩ oO ⟨rfl,rfl,rfl,congrArg some (bW oO),trivial⟩ uI
 refine dF (aQ (aQ (bH (aK (dO (uA O (dN (bZ ?_))))))))
 exact uZ O (.tmp O .nil) ⟨true,O,O,fun _=>⟨hw,fun j j1 j2=>hsg j j1 oO,hvis⟩⟩
end
end Go.Proofs.YtlmpojkmeglepaaGreatDoor
