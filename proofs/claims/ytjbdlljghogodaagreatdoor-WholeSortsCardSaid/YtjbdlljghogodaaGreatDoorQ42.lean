import Derived.Test.YtjbdlljghogodaaGreatDoorQ18
import Derived.Test.YtjbdlljghogodaaGreatDoorQ41
set_option linter.all false
set_option maxHeartbeats 1000000
namespace Go.Sort
def pdqC (lt:Nat→Nat→Bool)(d3:Array Nat)(a b limit:Nat)(wB wP:Bool)(pivot:Nat):Array Nat:=
 if a>0&&!lt d3[a-1]! d3[pivot]! then
  match partitionEqual lt d3 a b pivot with
  |(mid,d4)=>if _h:a<mid∧mid≤b then pdq lt d4 mid b limit wB wP else d4
 else
  match partition lt d3 a b pivot with
  |(mid,alreadyPartitioned,d4)=>
   if _h:a≤mid∧mid<b then
    if mid-a<b-mid then
     pdq lt (pdq lt d4 a mid limit true true) (mid+1) b limit (decide (mid-a≥(b-a)/8)) alreadyPartitioned
    else
     pdq lt (pdq lt d4 (mid+1) b limit true true) a mid limit (decide (b-mid≥(b-a)/8)) alreadyPartitioned
   else d4
def pdqB (lt:Nat→Nat→Bool)(d2:Array Nat)(a b limit:Nat)(wB wP:Bool)(pivot:Nat)(hint:Hint):Array Nat:=
 let pi:=if wB&&wP&&hint= .increasing then partialInsertionSort lt d2 a b else(d2,false)
 if pi.2 then pi.1 else pdqC lt pi.1 a b limit wB wP pivot
def pdqA (lt:Nat→Nat→Bool)(d1:Array Nat)(a b limit:Nat)(wB wP:Bool):Array Nat:=
 let c:=choosePivot lt d1 a b
 pdqB lt (if c.2= .decreasing then reverseRange d1 a b else d1) a b limit wB wP (if c.2= .decreasing then(b-1)-(c.1-a)else c.1) (if c.2= .decreasing then Hint.increasing else c.2)
theorem qSl {lt:Nat→Nat→Bool}{d:Array Nat}{a b limit:Nat}{wB wP:Bool}(h:¬b-a≤12)(h0:¬limit=0):pdq lt d a b limit wB wP=pdqA lt (if !wB then breakPatterns d a b else d) a b (if !wB then limit-1 else limit) wB wP:=by
 rw[pdq,if_neg h,if_neg h0]
 rfl
end Go.Sort
namespace Go.Proofs.YtjbdlljghogodaaGreatDoor
open Go Go.RowKit Sl Eg
set_option maxRecDepth 10000
section
variable {E:Env}
variable {fc:FuncId}{caps:List Value}{q:HP}{ok:Nat→Prop}{cf:Nat→Nat→Int}{g c n:Nat}
theorem qRn {h:Go.Sort.Hint}(e:qNz h=2):h= .decreasing:=by cases h<;>simp[qNz]at e ⊢
theorem qRo {h:Go.Sort.Hint}(e:qNz h=1):h= .increasing:=by cases h<;>simp[qNz]at e ⊢
open Go.Sort in
theorem ct_pdq (hE:Seat E)(hf:goFn E.P fc=true)(hc:Cmp E fc caps q ok cf)(hO:SWO (ltF cf))(hn:n<65536):∀(k:Nat){d:Array Nat}(hd:OkD ok n d){a b limit:Nat}(hk:b-a≤k)(hab:a≤b)(hb:b≤n)(hlim:limit≤1000),
  Ct E 115 [.slice (some ⟨g,0,none⟩) n c,.int .i64 (a:Nat),.int .i64 (b:Nat),.int .i64 (limit:Nat),.func (.func fc) #[] ⟨caps⟩] [sl (some ⟨g,0,none⟩) c 56 1 n (dC d),q]
   (fun v Q=>v= .tuple #[]∧Q=[sl (some ⟨g,0,none⟩) c 56 1 n (dC (pdq (ltF cf) d a b limit true true)),q]∧OkD ok n (pdq (ltF cf) d a b limit true true)):=by
 intro k
 induction k using Nat.strongRecOn with
 |_ k ih=>
 intro d hd a b limit hk hab hb hlim
 obtain⟨r,hr⟩:∃r,r=pdq (ltF cf) d a b limit true true:=⟨_,rfl⟩
 rw[←hr]
 refine bO (hE.fn Tryz.func115) O O O (fun R=>?_)
 simp only[dR,uV,uW]
 refine gg11 ?_
 refine dW (fun x:(Nat×Nat×Nat)×Bool×Bool×Array Nat=>[(0,.slice (some ⟨g,0,none⟩) n c),(1,.int .i64 (x.1.1:Nat)),(2,.int .i64 (x.1.2.1:Nat)),(3,.int .i64 (x.1.2.2:Nat)),(4,.func (.func fc) #[] ⟨caps⟩),(10,.bool x.2.1),(11,.bool x.2.2.1)]) (fun x=>[sl (some ⟨g,0,none⟩) c 56 1 n (dC x.2.2.2),q,R]) (fun x=>x.1.2.1-x.1.1) (fun x=>pdq (ltF cf) x.2.2.2 x.1.1 x.1.2.1 x.1.2.2 x.2.1 x.2.2.1=r∧OkD ok n x.2.2.2∧x.1.1≤x.1.2.1∧x.1.2.1≤n∧x.1.2.2≤1000∧x.1.2.1-x.1.1≤k) ((a,b,limit),true,true,d) ?_ ?_ ?_ ?_
 ·exact⟨hr.symm,hd,hab,hb,hlim,hk⟩
 ·exact⟨O,O,O,O,O,O,O,trivial⟩
 ·exact uI
 clear hr hd hk hab hb hlim a b limit d
 rintro⟨⟨a,b,limit⟩,wB,wP,d⟩⟨he,hd,hab,hb,hlim,hk⟩
 simp only at he hd hab hb hlim hk ⊢
 have hs:=hd.1
 refine gg9 ?_
 obtain⟨l,hl⟩:∃l,l=b-a:=⟨_,rfl⟩
 refine w_eq 12 (.int .i64 ((l:Nat):Int)) O (bW oO) ?_
 refine gg7 ?_
 refine bE O (fun h1=>?_) (fun h1=>?_)
 ·rw[pdq,if_pos oO]at he
  refine gg6 ?_
  refine uX (yV hE hf hc hd hab hb oO) O ?_
  rintro _ _⟨rfl,rfl,hd2⟩
  simp only[uV,uW]
  rw[he]at hd2 ⊢
  refine gg7 ?_
  exact uZ O .nil ⟨O,O,hd2⟩
 refine gg9 ?_
 refine bE O (fun h2=>?_) (fun h2=>?_)
 ·rw[pdq,if_neg oO,if_pos oO]at he
  refine gg6 ?_
  refine uX (qJk hE hf hc hd oO hb oO) O ?_
  rintro _ _⟨rfl,rfl,hd2⟩
  simp only[uV,uW]
  rw[he]at hd2 ⊢
  refine gg7 ?_
  exact uZ O .nil ⟨O,O,hd2⟩
 rw[qSl oO oO]at he
 obtain⟨d1,hd1⟩:∃d1,(if !wB then breakPatterns d a b else d)=d1:=⟨_,rfl⟩
 obtain⟨li,hli⟩:∃li,(if !wB then limit-1 else limit)=li:=⟨_,rfl⟩
 rw[hd1,hli]at he
 refine gg2 ?_
 refine iT (fun _:Unit=>[(0,.slice (some ⟨g,0,none⟩) n c),(1,.int .i64 (a:Nat)),(2,.int .i64 (b:Nat)),(4,.func (.func fc) #[] ⟨caps⟩),(10,.bool wB),(11,.bool wP),(12,.int .i64 ((l:Nat):Int)),(3,.int .i64 ((li:Nat):Int))]) (fun _=>[sl (some ⟨g,0,none⟩) c 56 1 n (dC d1),q,R]) (fun _=>OkD ok n d1∧li≤1000) ?_ ?_
 ·refine gg6 ?_
  refine xC O (fun h3=>?_) (fun h3=>?_)
  ·rw[if_pos h3]at hd1 hli
   refine gg6 ?_
   refine uX (yT hE hd oO hb hn) O ?_
   rintro _ _⟨rfl,rfl,hd2⟩
   simp only[uV,uW]
   rw[hd1]at hd2 ⊢
   refine gg7 ?_
   refine dZ () ⟨hd2,oO⟩ ⟨O,O,O,O,O,O,O,congrArg some (bW oO),trivial⟩ uI
  rw[if_neg (by rw[h3];simp)]at hd1 hli
  subst hd1 hli
  refine gg1 ?_
  refine dZ () ⟨hd,oO⟩ ⟨O,O,O,O,O,O,O,O,trivial⟩ uI
 rintro _⟨hdd,hli2⟩
 unfold pdqA at he
 obtain⟨cp,hcp⟩:∃cp,choosePivot (ltF cf) d1 a b=cp:=⟨_,rfl⟩
 have hcr:=choosePivot_holds (ltF cf) d1 a b oO
 rw[hcp]at hcr he
 simp only at he
 refine gg6 ?_
 refine uX (qBy hE hf hc hdd oO hb oO) O ?_
 rintro _ _⟨rfl,rfl⟩
 simp only[uV,uW]
 rw[hcp]
 obtain⟨d2,hd2⟩:∃d2,(if cp.2=Hint.decreasing then reverseRange d1 a b else d1)=d2:=⟨_,rfl⟩
 obtain⟨pv,hpv⟩:∃pv,(if cp.2=Hint.decreasing then(b-1)-(cp.1-a)else cp.1)=pv:=⟨_,rfl⟩
 obtain⟨hi,hhi⟩:∃hi,(if cp.2=Hint.decreasing then Hint.increasing else cp.2)=hi:=⟨_,rfl⟩
 rw[hd2,hpv,hhi]at he
 refine gg7 ?_
 refine iT (fun _:Unit=>[(0,.slice (some ⟨g,0,none⟩) n c),(1,.int .i64 (a:Nat)),(2,.int .i64 (b:Nat)),(4,.func (.func fc) #[] ⟨caps⟩),(10,.bool wB),(11,.bool wP),(12,.int .i64 ((l:Nat):Int)),(3,.int .i64 ((li:Nat):Int)),(13,.int .i64 ((pv:Nat):Int)),(14,.int .i64 ((qNz hi:Nat):Int))]) (fun _=>[sl (some ⟨g,0,none⟩) c 56 1 n (dC d2),q,R]) (fun _=>OkD ok n d2∧a≤pv∧pv<b) ?_ ?_
 ·refine gg6 ?_
  refine bE O (fun h4=>?_) (fun h4=>?_)
  ·have hde:cp.2= .decreasing:=qRn oO
   rw[if_pos hde]at hd2 hpv hhi
   refine gg6 ?_
   refine uX (zZ hE hdd oO hb oO) O ?_
   rintro _ _⟨rfl,rfl,hdr⟩
   simp only[uV,uW]
   rw[hd2]at hdr ⊢
   refine gg16 ?_
   refine dZ () ⟨hdr,oO,oO⟩ ⟨O,O,O,O,O,O,O,O,congrArg some (bW oO),by subst hhi;rfl,trivial⟩ uI
  have hde:¬cp.2= .decreasing:=fun e=>h4 (by rw[e];rfl)
  rw[if_neg hde]at hd2 hpv hhi
  subst hd2 hpv hhi
  refine gg1 ?_
  refine dZ () ⟨hdd,hcr.1,hcr.2⟩ ⟨O,O,O,O,O,O,O,O,O,O,trivial⟩ uI
 rintro _⟨hdd2,hpv1,hpv2⟩
 unfold pdqB at he
 obtain⟨pi,hpi⟩:∃pi,(if wB&&wP&&decide (hi=Hint.increasing)then partialInsertionSort (ltF cf) d2 a b else(d2,false))=pi:=⟨_,rfl⟩
 rw[hpi]at he
 refine iT (fun _:Unit=>[(0,.slice (some ⟨g,0,none⟩) n c),(1,.int .i64 (a:Nat)),(2,.int .i64 (b:Nat)),(4,.func (.func fc) #[] ⟨caps⟩),(10,.bool wB),(11,.bool wP),(12,.int .i64 ((l:Nat):Int)),(3,.int .i64 ((li:Nat):Int)),(13,.int .i64 ((pv:Nat):Int))]) (fun _=>[sl (some ⟨g,0,none⟩) c 56 1 n (dC pi.1),q,R]) (fun _=>OkD ok n pi.1∧pi.2=false) ?_ ?_
 ·refine gg4 ?_
  refine sU 69 O (fun h5=>?_) (fun h5=>?_)
  ·refine gg4 ?_
   refine sU 72 O (fun h6=>?_) (fun h6=>?_)
   ·refine gg7 ?_
    refine bE O (fun h7=>?_) (fun h7=>?_)
    ·have hin:hi= .increasing:=qRo oO
     rw[if_pos (by rw[h5,h6,hin];rfl)]at hpi
     refine gg6 ?_
     refine uX (vB hE hf hc hdd2 oO hb oO) O ?_
     rintro _ _⟨rfl,rfl,hdp⟩
     simp only[uV,uW]
     rw[hpi]at hdp ⊢
     refine gg2 ?_
     refine xC O (fun h8=>?_) (fun h8=>?_)
     ·rw[if_pos h8]at he
      subst he
      refine gg5 ?_
      exact uZ O .nil ⟨O,O,hdp⟩
     refine gg1 ?_
     refine dZ () ⟨hdp,h8⟩ ⟨O,O,O,O,O,O,O,O,O,trivial⟩ uI
    rw[if_neg (by intro e;simp at e;rw[e.2]at h7;exact h7 rfl)]at hpi
    subst hpi
    refine gg1 ?_
    refine dZ () ⟨hdd2,O⟩ ⟨O,O,O,O,O,O,O,O,O,trivial⟩ uI
   rw[if_neg (by intro e;simp at e;rw[h6]at e;simp at e)]at hpi
   subst hpi
   refine gg7 ?_
   refine dZ () ⟨hdd2,O⟩ ⟨O,O,O,O,O,O,O,O,O,trivial⟩ uI
  rw[if_neg (by intro e;simp at e;rw[h5]at e;simp at e)]at hpi
  subst hpi
  refine gg10 ?_
  refine dZ () ⟨hdd2,O⟩ ⟨O,O,O,O,O,O,O,O,O,trivial⟩ uI
 rintro _⟨hdp,hpf⟩
 rw[if_neg (by rw[hpf];simp)]at he
 obtain⟨d3,hd3⟩:∃d3,pi.1=d3:=⟨_,rfl⟩
 rw[hd3]at he hdp ⊢
 clear hpi hpf hd3 hd2 hpv hhi hd1 hli
 have hs3:=hdp.1
 unfold pdqC at he
 refine iT (fun _:Unit=>[(0,.slice (some ⟨g,0,none⟩) n c),(1,.int .i64 (a:Nat)),(2,.int .i64 (b:Nat)),(4,.func (.func fc) #[] ⟨caps⟩),(10,.bool wB),(11,.bool wP),(12,.int .i64 ((l:Nat):Int)),(3,.int .i64 ((li:Nat):Int)),(13,.int .i64 ((pv:Nat):Int))]) (fun _=>[sl (some ⟨g,0,none⟩) c 56 1 n (dC d3),q,R]) (fun _=>¬(decide (a>0)&&!ltF cf d3[a-1]! d3[pv]!)=true) ?_ ?_
 ·refine gg5 ?_
  refine dS 83 O (fun h9=>?_) (fun h9=>?_)
  ·have f0:=eX d3 (i:=a-1) oO ((a:Int)-1).toNat oO
   have f1:=eX d3 (i:=pv) oO ((pv:Int)).toNat oO
   have hcc:=hc _ _ (hdp.2 (a-1) oO) (hdp.2 pv oO)
   refine gg21 ?_
   refine uU ?_
   apply fP (hx:=O) (ha:=O) (hf:=hf)
   ·exact hcc
   ·exact uK
   rintro _ _⟨rfl,rfl⟩
   simp only[uV,uW]
   refine gg7 ?_
   refine fJ O (fun g9=>?_) (fun g9=>?_)
   ·rw[if_pos (by simp[ltF,g9];omega)]at he
    have hsz:=Go.Sort.size_swp d3 a pv
    have hrg:=partEqLoop_spec (ltF cf) a b _ (a+1) (b-1) (swp d3 a pv) (Nat.le_refl _) oO oO oO oO (fun t h1 h2=>by omega) (fun t h1 h2=>by omega)
    obtain⟨pq,hpq⟩:∃pq,partitionEqual (ltF cf) d3 a b pv=pq:=⟨_,rfl⟩
    have hrg1:a<pq.1∧pq.1≤b:=by rw[←hpq];exact⟨hrg.1,hrg.2.1⟩
    rw[hpq]at he
    obtain⟨md,dq⟩:=pq
    simp only at he hrg1
    rw[dif_pos hrg1]at he
    refine gg7 ?_
    refine uX (xK hE hf hc hdp hpv1 hpv2 hb oO) O ?_
    rintro _ _⟨rfl,rfl,hdq⟩
    simp only[uV,uW]
    rw[hpq]at hdq ⊢
    refine gg12 ?_
    refine bS (ι:=(Nat×Nat×Nat)×Bool×Bool×Array Nat) (j:=((md,b,li),wB,wP,dq)) ⟨he,hdq,hrg1.2,hb,hli2,by show b-md≤k;omega⟩ (by show b-md<b-a;omega) ⟨rfl,rfl,rfl,rfl,rfl,rfl,rfl,trivial⟩ uI
   refine gg1 ?_
   refine dZ () (by simp[ltF,g9]) ⟨O,O,O,O,O,O,O,O,O,trivial⟩ uI
  refine gg18 ?_
  refine dZ () (by simp;omega) ⟨O,O,O,O,O,O,O,O,O,trivial⟩ uI
 intro _ hno
 rw[if_neg hno]at he
 obtain⟨pt,hpt⟩:∃pt,partition (ltF cf) d3 a b pv=pt:=⟨_,rfl⟩
 have hrg:=partition_holds (ltF cf) hO d3 a b pv hpv1 hpv2 oO
 rw[hpt]at he hrg
 have hr1:=hrg.1
 have hr2:=hrg.2.1
 clear hrg hno
 obtain⟨mid,al,d4⟩:=pt
 simp only at he hr1 hr2
 rw[dif_pos ⟨hr1,hr2⟩]at he
 refine gg7 ?_
 refine uX (qHb hE hf hc hdp hpv1 hpv2 hb oO) O ?_
 rintro _ _⟨rfl,rfl,hdq⟩
 simp only[uV,uW]
 rw[hpt]at hdq ⊢
 refine gg39 ?_
 refine bE O (fun h10=>?_) (fun h10=>?_)
 ·rw[if_pos oO]at he
  refine gg8 ?_
  refine w_eq 10 (.bool (decide (mid-a≥(b-a)/8))) O (congrArg Value.bool (decide_eq_decide.2 oO)) ?_
  refine gg7 ?_
  refine uX (ih (mid-a) oO hdq (Nat.le_refl _) hr1 oO hli2) O ?_
  rintro _ _⟨rfl,rfl,hdz⟩
  simp only[uV,uW]
  refine gg8 ?_
  refine bS (ι:=(Nat×Nat×Nat)×Bool×Bool×Array Nat) (j:=((mid+1,b,li),decide (mid-a≥(b-a)/8),al,pdq (ltF cf) d4 a mid li true true)) ⟨he,hdz,by show mid+1≤b;omega,hb,hli2,by show b-(mid+1)≤k;omega⟩ (by show b-(mid+1)<b-a;omega) ⟨rfl,congrArg some (bW (by simp only;omega)),rfl,rfl,rfl,rfl,rfl,trivial⟩ uI
 rw[if_neg oO]at he
 refine gg8 ?_
 refine w_eq 10 (.bool (decide (b-mid≥(b-a)/8))) O (congrArg Value.bool (decide_eq_decide.2 oO)) ?_
 refine gg8 ?_
 refine l_eq 142 (.int .i64 ((mid+1:Nat):Int)) O (bW oO) ?_
 refine uX (ih (b-(mid+1)) oO hdq (Nat.le_refl _) oO hb hli2) O ?_
 rintro _ _⟨rfl,rfl,hdz⟩
 simp only[uV,uW]
 refine gg7 ?_
 refine bS (ι:=(Nat×Nat×Nat)×Bool×Bool×Array Nat) (j:=((a,mid,li),decide (b-mid≥(b-a)/8),al,pdq (ltF cf) d4 (mid+1) b li true true)) ⟨he,hdz,hr1,by show mid≤n;omega,hli2,by show mid-a≤k;omega⟩ (by show mid-a<b-a;omega) ⟨rfl,rfl,rfl,rfl,rfl,rfl,rfl,trivial⟩ uI
end
section
variable {E:Env}{Es:List Ent}{pp tb s most:Nat}
theorem qSr {w0:World}{g c m:Nat}{vs xs:List Value}{t:TypeId}(h:∀(i:Nat)(v:Value),vs[i]?=some v→xs[i]?=some v):∀k,sl (some ⟨g,0,none⟩) c t 1 m xs k→RdAt w0 g 0 vs k:=fun k hk i v hv=>by
 obtain⟨_,h1|⟨g',cur,h1,h2,h3,h4,h5,h6⟩⟩:=hk
 ·cases h1.1
 cases h1
 refine .inr ⟨cur,t,(0,0),h2,?_⟩
 have hx:=h i v hv
 rw[←h6,List.getElem?_take]at hx
 split at hx
 ·rw[Nat.zero_add];simpa using hx
 cases hx
theorem idC_oneJ (ids:List Nat):∀u∈idC ids,u.oneCell'=true:=fun u h=>by
 obtain⟨x,_,rfl⟩:=List.mem_map.1 h;rfl
theorem qQa (hE:Seat E){g c:Nat}{ids:List Nat}(h0:0<ids.length)(hl:ids.length<1000000):
  Ct E 69 [.slice (some ⟨g,0,none⟩) ids.length c] [sl (some ⟨g,0,none⟩) c 56 1 ids.length (idC ids)]
   (fun v Q=>∃g' c',v= .slice (some ⟨g',0,none⟩) ids.length c'∧Q=[sl (some ⟨g',0,none⟩) c' 56 1 ids.length (idC ids),sl (some ⟨g,0,none⟩) c 56 1 ids.length (idC ids)]):=by
 refine bO (hE.fn Tryz.func69) O O O (fun R=>?_)
 simp only[dR,uV,uW]
 refine gg17 ?_
 refine uU ?_
 refine nU (hE.t O) (fun b5=>?_)
 refine gg1 ?_
 refine uU ?_
 apply yN (hE.t O) (hE.t O) O O O
 ·exact uK
 ·exact uK
 ·exact idC_oneJ ids
 ·exact h0
 ·omega
 ·unfold maxLen;omega
 intro g' c' m' xs' hm hx
 obtain rfl:m'=ids.length:=by omega
 obtain rfl:xs'=idC ids:=by rw[hx];rfl
 refine gg4 ?_
 exact uZ O (.tmp O .nil) ⟨g',c',O,O⟩
section
variable {fc:FuncId}{caps:List Value}{q:HP}{ok:Nat→Prop}{cf:Nat→Nat→Int}{g c n:Nat}
open Go.Sort in
theorem qJh (hE:Seat E)(hf:goFn E.P fc=true)(hc:Cmp E fc caps q ok cf)(hO:SWO (ltF cf))(hn:n<65536){d:Array Nat}(hd:OkD ok n d):
  Ct E 70 [.slice (some ⟨g,0,none⟩) n c,.func (.func fc) #[] ⟨caps⟩] [sl (some ⟨g,0,none⟩) c 56 1 n (dC d),q]
   (fun v Q=>∃d',v= .tuple #[]∧Q=[sl (some ⟨g,0,none⟩) c 56 1 n (dC d'),q]∧OkD ok n d'∧d'.toList.Perm d.toList∧SortedIn (ltF cf) 0 n d'):=by
 have hb:=xE hn
 have hs:=hd.1
 have hl:=pdq_sorts (ltF cf) hO d 0 n (bitsLen n) true true (Nat.zero_le _) oO (.inl O)
 obtain⟨⟨p1,p2,p3⟩,hl2⟩:=hl
 have hx:∀e:Array Nat,e.size=n→e.extract 0 n=e:=fun e h=>by subst h;simp
 rw[hx d hs,hx _ (p1.trans hs)]at p3
 refine bO (hE.fn Tryz.func70) O O O (fun R=>?_)
 simp only[dR,uV,uW]
 refine gg12 ?_
 refine uX (qCl hE hn) O ?_
 rintro _ _⟨rfl,rfl⟩
 simp only[uV,uW]
 refine gg1 ?_
 refine uX (ct_pdq (a:=0) (b:=n) (limit:=bitsLen n) hE hf hc hO hn n hd oO (Nat.zero_le _) (Nat.le_refl _) oO) O ?_
 rintro _ _⟨rfl,rfl,hd2⟩
 simp only[uV,uW]
 refine gg1 ?_
 exact uZe O .nil ⟨_,O,O,hd2,p3,hl2⟩
end
theorem ct_Sort1 (hE:Seat E)(hB:Base E.w0){x y b2:Nat}(hx:good (rls Es) x∧len (rls Es) x≤4000000)(hy:good (rls Es) y∧len (rls Es) y≤4000000):
  Ct E 71 [.int .i64 (x:Nat),.int .i64 (y:Nat),uPt b2] [cells b2 [uPt pp] 32,cells pp [uPt s,uPt tb] 108,tabP tb s (rls Es),bR s most Es] (fun v Q=>v= .int .i64 (cmpT (txt (rls Es) x) (txt (rls Es) y))∧Q=[cells b2 [uPt pp] 32,cells pp [uPt s,uPt tb] 108,tabP tb s (rls Es),bR s most Es]):=by
 have h1:=hx.2
 have h2:=hy.2
 refine bO (hE.fn Tryz.func71) O O O (fun R=>?_)
 simp only[dR,uV,uW]
 refine gg10 ?_
 refine uX (sI hE hB hx.1 hy.1 oO) O ?_
 rintro _ _⟨rfl,rfl⟩
 simp only[uV,uW]
 refine gg4 ?_
 exact uZ O (.tmp O .nil) ⟨O,O⟩
theorem swo_txt (L:List Rl):Go.Sort.SWO (ltF fun x y=>cmpT (txt L x) (txt L y)) where
 irrefl x:=by simp[ltF,nV]
 trans x y z h1 h2:=by
  simp only[ltF,decide_eq_true_eq]at h1 h2 ⊢
  have h3:=sG (A:=txt L x) (B:=txt L y) (C:=txt L z) oO oO
  have h4:cmpT (txt L x) (txt L z)≠0:=fun e=>by
   have e:=vS.1 e
   rw[e]at h1
   have:=lG (txt L y) (txt L z)
   omega
  omega
 ntrans x y z h1 h2:=by
  simp only[ltF,decide_eq_false_iff_not,Int.not_lt]at h1 h2 ⊢
  have e1:=lG (txt L x) (txt L y)
  have e2:=lG (txt L y) (txt L z)
  have e3:=lG (txt L x) (txt L z)
  have:=sG (A:=txt L z) (B:=txt L y) (C:=txt L x) oO oO
  omega
theorem qNt {f:FuncId}{args:List Value}{p:HP}{l:List HP}{Φ:Value→HP→Prop}(h:Ct E f args [p,dU l] (fun v Q=>∃p',Φ v p'∧Q=[p',dU l])):Ct E f args (p::l) (fun v Q=>∃p',Φ v p'∧Q=p'::l):=fun R w s=>
 (h R w (s.imp fun _=>fT (fun _=>pM (fun _ x=>x)))).mono fun e w'⟨v,Qs,h1,⟨p',h2,h3⟩,h4⟩=>⟨v,p'::l,h1,⟨p',h2,rfl⟩,by subst h3;exact h4.imp fun _=>fT (fun _=>rP (ps:=l) (r:=[R]) (p:=dU l) (fun _ x=>x))⟩
end
end Go.Proofs.YtjbdlljghogodaaGreatDoor
