import Derived.Test.YtjbdlljghogodaaGreatDoorQ40
import Derived.Laws.Bits64
import Derived.Sort.LotD5
set_option linter.all false
set_option maxHeartbeats 1000000
namespace Go.Proofs.YtjbdlljghogodaaGreatDoor
open Go Go.RowKit Sl Eg
set_option maxRecDepth 10000
variable {E:Env}
variable {fc:FuncId}{caps:List Value}{q:HP}{ok:Nat→Prop}{cf:Nat→Nat→Int}{g c n:Nat}
open Go.Sort in
theorem xK (hE:Seat E)(hf:goFn E.P fc=true)(hc:Cmp E fc caps q ok cf){d:Array Nat}(hd:OkD ok n d){a b pv:Nat}(hap:a≤pv)(hpb:pv<b)(hb:b≤n)(hn:n<1099511627776):
  Ct E 161 [.slice (some ⟨g,0,none⟩) n c,.int .i64 (a:Nat),.int .i64 (b:Nat),.int .i64 (pv:Nat),.func (.func fc) #[] ⟨caps⟩] [sl (some ⟨g,0,none⟩) c 56 1 n (dC d),q]
   (fun v Q=>v= .int .i64 ((partitionEqual (ltF cf) d a b pv).1:Nat)∧Q=[sl (some ⟨g,0,none⟩) c 56 1 n (dC (partitionEqual (ltF cf) d a b pv).2),q]∧OkD ok n (partitionEqual (ltF cf) d a b pv).2):=by
 have hs:=hd.1
 have f2:=eX d (i:=pv) oO ((pv:Int)).toNat oO
 have f3:=eX d (i:=a) oO ((a:Int)).toNat oO
 obtain⟨r,hr⟩:∃r,r=partitionEqual (ltF cf) d a b pv:=⟨_,rfl⟩
 have hr':=hr
 unfold partitionEqual at hr'
 rw[←hr]
 refine bO (hE.fn Tryz.func161) O O O (fun R=>?_)
 simp only[dR,uV,uW]
 refine gg6 ?_
 refine eF 13 ([sl (some ⟨g,0,none⟩) c 56 1 n (dC d),q]) [(15,[])] ?_ ?_
 ·exact uI
 refine uP 0 O (aB O) (uP 1 O (aB O) (uP 2 O (aB O) (uP 3 O (aB O) (uP 4 O (aB O) (uP 5 O (aB O) (uP 6 O (uAj O O) ?_))))))
 refine uQ 7 O (uY) ?_
 refine uP 8 O (aB O) (uP 9 O (aB O) (uP 10 O (uAj O O) ?_))
 refine uQ 11 O (uY) ?_
 refine uP 12 O (uAj O O) ?_
 apply gD O oK O
 refine uJ ?_
 refine uE ?_
 refine uP 14 O (uAj O O) ?_
 apply gB O oK oK O
 refine uJ ?_
 refine gg11 ?_
 simp only[bP]
 rw[kP d (i:=a) (j:=pv) oO oO]
 case ho=>omega
 case ho'=>omega
 refine w_eq 11 (.int .i64 ((a+1:Nat):Int)) O (bW oO) ?_
 refine w_eq 12 (.int .i64 ((b-1:Nat):Int)) O (bW oO) ?_
 have hd1:=hd.swp (show a<n by omega) (show pv<n by omega)
 generalize swp d a pv=d1 at*
 refine gg2 ?_
 refine dW (fun x:Nat×Nat×Array Nat=>[(0,.slice (some ⟨g,0,none⟩) n c),(1,.int .i64 (a:Nat)),(4,.func (.func fc) #[] ⟨caps⟩),(11,.int .i64 (x.1:Nat)),(12,.int .i64 (x.2.1:Nat))]) (fun x=>[sl (some ⟨g,0,none⟩) c 56 1 n (dC x.2.2),q,R]) (fun x=>x.2.1+1-x.1) (fun x=>partEqLoop (ltF cf) a x.1 x.2.1 x.2.2=r∧OkD ok n x.2.2∧a<x.1∧a≤x.2.1∧x.1≤x.2.1+2∧x.2.1<b) (a+1,b-1,d1) ?_ ?_ ?_ ?_
 ·exact⟨hr'.symm,hd1,by show a<a+1;omega,by show a≤b-1;omega,by show a+1≤b-1+2;omega,by show b-1<b;omega⟩
 ·exact⟨O,O,O,O,O,trivial⟩
 ·exact uI
 rintro⟨i,j,e⟩⟨he,hde,hi,haj,hij,hj⟩
 simp only at he hde hi haj hij hj ⊢
 have hse:=hde.1
 rw[partEqLoop_eq]at he
 obtain⟨i2,hi2⟩:∃i2,scanUp (fun x=>!ltF cf e[a]! x) e j i=i2:=⟨_,rfl⟩
 rw[hi2]at he
 obtain⟨j2,hj2⟩:∃j2,scanDown (fun x=>ltF cf e[a]! x) e i2 j=j2:=⟨_,rfl⟩
 rw[hj2]at he
 refine gg1 ?_
 refine iT (fun _:Unit=>[(0,.slice (some ⟨g,0,none⟩) n c),(1,.int .i64 (a:Nat)),(4,.func (.func fc) #[] ⟨caps⟩),(11,.int .i64 ((i2:Nat):Int)),(12,.int .i64 ((j:Nat):Int))]) (fun _=>[sl (some ⟨g,0,none⟩) c 56 1 n (dC (e)),q,R]) (fun _=>i≤i2∧i2≤j+2) ?_ ?_
 ·refine gg1 ?_
  refine dW (fun x:Nat=>[(0,.slice (some ⟨g,0,none⟩) n c),(1,.int .i64 (a:Nat)),(4,.func (.func fc) #[] ⟨caps⟩),(11,.int .i64 ((x:Nat):Int)),(12,.int .i64 ((j:Nat):Int))]) (fun _=>[sl (some ⟨g,0,none⟩) c 56 1 n (dC (e)),q,R]) (fun x=>j+1-x) (fun x=>scanUp (fun x=>!ltF cf (e)[a]! x) (e) (j) x=i2∧i≤x∧x≤j+2) (i) ?_ ?_ ?_ ?_
  ·exact⟨hi2,oO,oO⟩
  ·exact⟨O,O,O,O,O,trivial⟩
  ·exact uI
  rintro x⟨hx,hx1,hx2⟩
  refine gg7 ?_
  refine dS 34 O (fun su=>?_) (fun su=>?_)
  ·have f0:=eX (e) (i:=x) oO ((x:Nat):Int).toNat oO
   have f1:=eX (e) (i:=a) oO ((a:Nat):Int).toNat oO
   have hcc:=hc _ _ (hde.2 (a) oO) (hde.2 (x) oO)
   refine gg19 ?_
   refine uU ?_
   apply fP (hx:=O) (ha:=O) (hf:=hf)
   ·exact hcc
   ·exact uK
   rintro _ _⟨rfl,rfl⟩
   simp only[uV,uW]
   refine gg7 ?_
   refine fJ O (fun gu=>?_) (fun gu=>?_)
   ·refine gg9 ?_
    refine bS (x+1) ⟨?_,oO,oO⟩ oO ⟨O,O,O,congrArg some (bW oO),O,trivial⟩ uI
    rw[←hx]
    conv=>rhs;rw[scanUp,if_pos (by simp[ltF,gu];omega)]
   rw[scanUp,if_neg (by simp[ltF,gu])]at hx
   rw[←hx]
   refine gg4 ?_
   refine dZ () oO ⟨O,O,O,O,O,trivial⟩ uI
  rw[scanUp,if_neg (by simp;omega)]at hx
  rw[←hx]
  refine gg20 ?_
  refine dZ () oO ⟨O,O,O,O,O,trivial⟩ uI
 rintro _⟨hi2a,hi2b⟩
 refine iT (fun _:Unit=>[(0,.slice (some ⟨g,0,none⟩) n c),(1,.int .i64 (a:Nat)),(4,.func (.func fc) #[] ⟨caps⟩),(11,.int .i64 ((i2:Nat):Int)),(12,.int .i64 ((j2:Nat):Int))]) (fun _=>[sl (some ⟨g,0,none⟩) c 56 1 n (dC (e)),q,R]) (fun _=>a≤j2∧j2≤j) ?_ ?_
 ·refine gg1 ?_
  refine dW (fun x:Nat=>[(0,.slice (some ⟨g,0,none⟩) n c),(1,.int .i64 (a:Nat)),(4,.func (.func fc) #[] ⟨caps⟩),(11,.int .i64 ((i2:Nat):Int)),(12,.int .i64 ((x:Nat):Int))]) (fun _=>[sl (some ⟨g,0,none⟩) c 56 1 n (dC (e)),q,R]) (fun x=>x) (fun x=>scanDown (fun x=>ltF cf (e)[a]! x) (e) (i2) x=j2∧a≤x∧x≤j) (j) ?_ ?_ ?_ ?_
  ·exact⟨hj2,oO,oO⟩
  ·exact⟨O,O,O,O,O,trivial⟩
  ·exact uI
  rintro x⟨hx,hx1,hx2⟩
  refine gg7 ?_
  refine dS 53 O (fun sw=>?_) (fun sw=>?_)
  ·obtain⟨x,rfl⟩:∃k,x=k+1:=⟨x-1,oO⟩
   have f0:=eX (e) (i:=x+1) oO ((x+1:Nat):Int).toNat oO
   have f1:=eX (e) (i:=a) oO ((a:Nat):Int).toNat oO
   have hcc:=hc _ _ (hde.2 (a) oO) (hde.2 (x+1) oO)
   refine gg19 ?_
   refine uU ?_
   apply fP (hx:=O) (ha:=O) (hf:=hf)
   ·exact hcc
   ·exact uK
   rintro _ _⟨rfl,rfl⟩
   simp only[uV,uW]
   refine gg5 ?_
   refine bE O (fun gw=>?_) (fun gw=>?_)
   ·refine gg9 ?_
    refine bS (x) ⟨?_,oO,oO⟩ oO ⟨O,O,O,O,congrArg some (bW oO),trivial⟩ uI
    rw[←hx]
    conv=>rhs;rw[scanDown,if_pos (by simp[ltF,gw];omega)]
   rw[scanDown,if_neg (by simp[ltF,gw])]at hx
   rw[←hx]
   refine gg4 ?_
   refine dZ () oO ⟨O,O,O,O,O,trivial⟩ uI
  have hx':x=j2:=by
   rw[←hx]
   cases x with
   |zero=>rfl
   |succ x=>rw[scanDown,if_neg (by simp;omega)]
  rw[←hx']
  refine gg19 ?_
  refine dZ () oO ⟨O,O,O,O,O,trivial⟩ uI
 rintro _⟨hj2a,hj2b⟩
 refine gg8 ?_
 refine bE O (fun h7=>?_) (fun h7=>?_)
 ·rw[if_pos oO]at he
  subst he
  refine gg13 ?_
  exact uZ O (.tmp O .nil) ⟨O,O,hde⟩
 rw[if_neg oO]at he
 have f4:=eX e (i:=i2) oO ((i2:Int)).toNat oO
 have f5:=eX e (i:=j2) oO ((j2:Int)).toNat oO
 refine gg3 ?_
 refine eF 13 ([sl (some ⟨g,0,none⟩) c 56 1 n (dC e),q]) [(15,[])] ?_ ?_
 ·exact uI
 refine uP 0 O (aB O) (uP 1 O (aB O) (uP 2 O (aB O) (uP 3 O (aB O) (uP 4 O (aB O) (uP 5 O (aB O) (uP 6 O (uAj O O) ?_))))))
 refine uQ 7 O (uY) ?_
 refine uP 8 O (aB O) (uP 9 O (aB O) (uP 10 O (uAj O O) ?_))
 refine uQ 11 O (uY) ?_
 refine uP 12 O (uAj O O) ?_
 apply gD O oK O
 refine uJ ?_
 refine uE ?_
 refine uP 14 O (uAj O O) ?_
 apply gB O oK oK O
 refine uJ ?_
 refine gg14 ?_
 simp only[bP]
 rw[kP e (i:=i2) (j:=j2) oO oO]
 case ho=>omega
 case ho'=>omega
 refine bS (ι:=Nat×Nat×Array Nat) (j:=(i2+1,j2-1,swp e i2 j2)) ⟨he,hde.swp oO oO,by show a<i2+1;omega,by show a≤j2-1;omega,by show i2+1≤j2-1+2;omega,by show j2-1<b;omega⟩ (by show j2-1+1-(i2+1)<j+1-i;omega) ⟨rfl,rfl,rfl,congrArg some (bW (by simp only;omega)),congrArg some (bW (by simp only;omega)),trivial⟩ uI
open Go.Sort in
theorem qHb (hE:Seat E)(hf:goFn E.P fc=true)(hc:Cmp E fc caps q ok cf){d:Array Nat}(hd:OkD ok n d){a b pv:Nat}(hap:a≤pv)(hpb:pv<b)(hb:b≤n)(hn:n<1099511627776):
  Ct E 162 [.slice (some ⟨g,0,none⟩) n c,.int .i64 (a:Nat),.int .i64 (b:Nat),.int .i64 (pv:Nat),.func (.func fc) #[] ⟨caps⟩] [sl (some ⟨g,0,none⟩) c 56 1 n (dC d),q]
   (fun v Q=>v= .tuple #[.int .i64 ((partition (ltF cf) d a b pv).1:Nat),.bool (partition (ltF cf) d a b pv).2.1]∧Q=[sl (some ⟨g,0,none⟩) c 56 1 n (dC (partition (ltF cf) d a b pv).2.2),q]∧OkD ok n (partition (ltF cf) d a b pv).2.2):=by
 have hs:=hd.1
 have f2:=eX d (i:=pv) oO ((pv:Int)).toNat oO
 have f3:=eX d (i:=a) oO ((a:Int)).toNat oO
 obtain⟨r,hr⟩:∃r,r=partition (ltF cf) d a b pv:=⟨_,rfl⟩
 have hr':=hr
 unfold partition at hr'
 simp only at hr'
 rw[←hr]
 refine bO (hE.fn Tryz.func162) O O O (fun R=>?_)
 simp only[dR,uV,uW]
 refine gg7 ?_
 refine eF 13 ([sl (some ⟨g,0,none⟩) c 56 1 n (dC d),q]) [(15,[])] ?_ ?_
 ·exact uI
 refine uP 0 O (aB O) (uP 1 O (aB O) (uP 2 O (aB O) (uP 3 O (aB O) (uP 4 O (aB O) (uP 5 O (aB O) (uP 6 O (uAj O O) ?_))))))
 refine uQ 7 O (uY) ?_
 refine uP 8 O (aB O) (uP 9 O (aB O) (uP 10 O (uAj O O) ?_))
 refine uQ 11 O (uY) ?_
 refine uP 12 O (uAj O O) ?_
 apply gD O oK O
 refine uJ ?_
 refine uE ?_
 refine uP 14 O (uAj O O) ?_
 apply gB O oK oK O
 refine uJ ?_
 refine gg11 ?_
 simp only[bP]
 rw[kP d (i:=a) (j:=pv) oO oO]
 case ho=>omega
 case ho'=>omega
 refine w_eq 12 (.int .i64 ((a+1:Nat):Int)) O (bW oO) ?_
 refine w_eq 13 (.int .i64 ((b-1:Nat):Int)) O (bW oO) ?_
 have hd1:=hd.swp (show a<n by omega) (show pv<n by omega)
 generalize swp d a pv=d1 at*
 have hs1:=hd1.1
 obtain⟨i1,hi1⟩:∃i1,scanUp (fun x=>ltF cf x d1[a]!) d1 (b-1) (a+1)=i1:=⟨_,rfl⟩
 rw[hi1]at hr'
 obtain⟨j1,hj1⟩:∃j1,scanDown (fun x=>!ltF cf x d1[a]!) d1 i1 (b-1)=j1:=⟨_,rfl⟩
 rw[hj1]at hr'
 refine iT (fun _:Unit=>[(0,.slice (some ⟨g,0,none⟩) n c),(1,.int .i64 (a:Nat)),(4,.func (.func fc) #[] ⟨caps⟩),(12,.int .i64 ((i1:Nat):Int)),(13,.int .i64 (((b-1):Nat):Int))]) (fun _=>[sl (some ⟨g,0,none⟩) c 56 1 n (dC (d1)),q,R]) (fun _=>(a+1)≤i1∧i1≤(b-1)+2) ?_ ?_
 ·refine gg1 ?_
  refine dW (fun x:Nat=>[(0,.slice (some ⟨g,0,none⟩) n c),(1,.int .i64 (a:Nat)),(4,.func (.func fc) #[] ⟨caps⟩),(12,.int .i64 ((x:Nat):Int)),(13,.int .i64 (((b-1):Nat):Int))]) (fun _=>[sl (some ⟨g,0,none⟩) c 56 1 n (dC (d1)),q,R]) (fun x=>(b-1)+1-x) (fun x=>scanUp (fun x=>ltF cf x (d1)[a]!) (d1) ((b-1)) x=i1∧(a+1)≤x∧x≤(b-1)+2) ((a+1)) ?_ ?_ ?_ ?_
  ·exact⟨hi1,oO,oO⟩
  ·exact⟨O,O,O,O,O,trivial⟩
  ·exact uI
  rintro x⟨hx,hx1,hx2⟩
  refine gg7 ?_
  refine dS 35 O (fun sp=>?_) (fun sp=>?_)
  ·have f0:=eX (d1) (i:=x) oO ((x:Nat):Int).toNat oO
   have f1:=eX (d1) (i:=a) oO ((a:Nat):Int).toNat oO
   have hcc:=hc _ _ (hd1.2 (x) oO) (hd1.2 (a) oO)
   refine gg19 ?_
   refine uU ?_
   apply fP (hx:=O) (ha:=O) (hf:=hf)
   ·exact hcc
   ·exact uK
   rintro _ _⟨rfl,rfl⟩
   simp only[uV,uW]
   refine gg5 ?_
   refine bE O (fun gp=>?_) (fun gp=>?_)
   ·refine gg9 ?_
    refine bS (x+1) ⟨?_,oO,oO⟩ oO ⟨O,O,O,congrArg some (bW oO),O,trivial⟩ uI
    rw[←hx]
    conv=>rhs;rw[scanUp,if_pos (by simp[ltF,gp];omega)]
   rw[scanUp,if_neg (by simp[ltF,gp])]at hx
   rw[←hx]
   refine gg4 ?_
   refine dZ () oO ⟨O,O,O,O,O,trivial⟩ uI
  rw[scanUp,if_neg (by simp;omega)]at hx
  rw[←hx]
  refine gg19 ?_
  refine dZ () oO ⟨O,O,O,O,O,trivial⟩ uI
 rintro _⟨hi1a,hi1b⟩
 refine iT (fun _:Unit=>[(0,.slice (some ⟨g,0,none⟩) n c),(1,.int .i64 (a:Nat)),(4,.func (.func fc) #[] ⟨caps⟩),(12,.int .i64 ((i1:Nat):Int)),(13,.int .i64 ((j1:Nat):Int))]) (fun _=>[sl (some ⟨g,0,none⟩) c 56 1 n (dC (d1)),q,R]) (fun _=>a≤j1∧j1≤(b-1)) ?_ ?_
 ·refine gg1 ?_
  refine dW (fun x:Nat=>[(0,.slice (some ⟨g,0,none⟩) n c),(1,.int .i64 (a:Nat)),(4,.func (.func fc) #[] ⟨caps⟩),(12,.int .i64 ((i1:Nat):Int)),(13,.int .i64 ((x:Nat):Int))]) (fun _=>[sl (some ⟨g,0,none⟩) c 56 1 n (dC (d1)),q,R]) (fun x=>x) (fun x=>scanDown (fun x=>!ltF cf x (d1)[a]!) (d1) (i1) x=j1∧a≤x∧x≤(b-1)) ((b-1)) ?_ ?_ ?_ ?_
  ·exact⟨hj1,oO,oO⟩
  ·exact⟨O,O,O,O,O,trivial⟩
  ·exact uI
  rintro x⟨hx,hx1,hx2⟩
  refine gg7 ?_
  refine dS 53 O (fun sq=>?_) (fun sq=>?_)
  ·obtain⟨x,rfl⟩:∃k,x=k+1:=⟨x-1,oO⟩
   have f0:=eX (d1) (i:=x+1) oO ((x+1:Nat):Int).toNat oO
   have f1:=eX (d1) (i:=a) oO ((a:Nat):Int).toNat oO
   have hcc:=hc _ _ (hd1.2 (x+1) oO) (hd1.2 (a) oO)
   refine gg19 ?_
   refine uU ?_
   apply fP (hx:=O) (ha:=O) (hf:=hf)
   ·exact hcc
   ·exact uK
   rintro _ _⟨rfl,rfl⟩
   simp only[uV,uW]
   refine gg7 ?_
   refine fJ O (fun gq=>?_) (fun gq=>?_)
   ·refine gg9 ?_
    refine bS (x) ⟨?_,oO,oO⟩ oO ⟨O,O,O,O,congrArg some (bW oO),trivial⟩ uI
    rw[←hx]
    conv=>rhs;rw[scanDown,if_pos (by simp[ltF,gq];omega)]
   rw[scanDown,if_neg (by simp[ltF,gq])]at hx
   rw[←hx]
   refine gg4 ?_
   refine dZ () oO ⟨O,O,O,O,O,trivial⟩ uI
  have hx':x=j1:=by
   rw[←hx]
   cases x with
   |zero=>rfl
   |succ x=>rw[scanDown,if_neg (by simp;omega)]
  rw[←hx']
  refine gg20 ?_
  refine dZ () oO ⟨O,O,O,O,O,trivial⟩ uI
 rintro _⟨hj1a,hj1b⟩
 refine gg8 ?_
 refine bE O (fun h6=>?_) (fun h6=>?_)
 ·rw[if_pos oO]at hr'
  subst hr'
  have f4:=eX d1 (i:=a) oO ((a:Int)).toNat oO
  have f5:=eX d1 (i:=j1) oO ((j1:Int)).toNat oO
  refine gg1 ?_
  refine eF 13 ([sl (some ⟨g,0,none⟩) c 56 1 n (dC d1),q]) [(15,[])] ?_ ?_
  ·exact uI
  refine uP 0 O (aB O) (uP 1 O (aB O) (uP 2 O (aB O) (uP 3 O (aB O) (uP 4 O (aB O) (uP 5 O (aB O) (uP 6 O (uAj O O) ?_))))))
  refine uQ 7 O (uY) ?_
  refine uP 8 O (aB O) (uP 9 O (aB O) (uP 10 O (uAj O O) ?_))
  refine uQ 11 O (uY) ?_
  refine uP 12 O (uAj O O) ?_
  apply gD O oK O
  refine uJ ?_
  refine uE ?_
  refine uP 14 O (uAj O O) ?_
  apply gB O oK oK O
  refine uJ ?_
  refine gg10 ?_
  simp only[bP]
  rw[kP d1 (i:=j1) (j:=a) oO oO]
  case ho=>omega
  case ho'=>omega
  exact uZ O (.tmp O (.tmp O .nil)) ⟨O,O,hd1.swp oO oO⟩
 rw[if_neg oO]at hr'
 have f4:=eX d1 (i:=i1) oO ((i1:Int)).toNat oO
 have f5:=eX d1 (i:=j1) oO ((j1:Int)).toNat oO
 obtain⟨u,hu⟩:∃u,partLoop (ltF cf) a (i1+1) (j1-1) (swp d1 i1 j1)=u:=⟨_,rfl⟩
 rw[hu]at hr'
 refine gg3 ?_
 refine eF 13 ([sl (some ⟨g,0,none⟩) c 56 1 n (dC d1),q]) [(15,[])] ?_ ?_
 ·exact uI
 refine uP 0 O (aB O) (uP 1 O (aB O) (uP 2 O (aB O) (uP 3 O (aB O) (uP 4 O (aB O) (uP 5 O (aB O) (uP 6 O (uAj O O) ?_))))))
 refine uQ 7 O (uY) ?_
 refine uP 8 O (aB O) (uP 9 O (aB O) (uP 10 O (uAj O O) ?_))
 refine uQ 11 O (uY) ?_
 refine uP 12 O (uAj O O) ?_
 apply gD O oK O
 refine uJ ?_
 refine uE ?_
 refine uP 14 O (uAj O O) ?_
 apply gB O oK oK O
 refine uJ ?_
 refine gg17 ?_
 simp only[bP]
 rw[kP d1 (i:=i1) (j:=j1) oO oO]
 case ho=>omega
 case ho'=>omega
 refine dW (fun x:Nat×Nat×Array Nat=>[(0,.slice (some ⟨g,0,none⟩) n c),(1,.int .i64 (a:Nat)),(4,.func (.func fc) #[] ⟨caps⟩),(12,.int .i64 (x.1:Nat)),(13,.int .i64 (x.2.1:Nat))]) (fun x=>[sl (some ⟨g,0,none⟩) c 56 1 n (dC x.2.2),q,R]) (fun x=>x.2.1+1-x.1) (fun x=>partLoop (ltF cf) a x.1 x.2.1 x.2.2=u∧OkD ok n x.2.2∧a<x.1∧a≤x.2.1∧x.1≤x.2.1+2∧x.2.1<b) (i1+1,j1-1,swp d1 i1 j1) ?_ ?_ ?_ ?_
 ·exact⟨hu,hd1.swp oO oO,by show a<i1+1;omega,by show a≤j1-1;omega,by show i1+1≤j1-1+2;omega,by show j1-1<b;omega⟩
 ·exact⟨O,O,O,congrArg some (bW (by simp only;omega)),congrArg some (bW (by simp only;omega)),trivial⟩
 ·exact uI
 rintro⟨i,j,e⟩⟨he,hde,hi,haj,hij,hj⟩
 simp only at he hde hi haj hij hj ⊢
 have hse:=hde.1
 rw[partLoop_eq]at he
 obtain⟨i2,hi2⟩:∃i2,scanUp (fun x=>ltF cf x e[a]!) e j i=i2:=⟨_,rfl⟩
 rw[hi2]at he
 obtain⟨j2,hj2⟩:∃j2,scanDown (fun x=>!ltF cf x e[a]!) e i2 j=j2:=⟨_,rfl⟩
 rw[hj2]at he
 refine gg1 ?_
 refine iT (fun _:Unit=>[(0,.slice (some ⟨g,0,none⟩) n c),(1,.int .i64 (a:Nat)),(4,.func (.func fc) #[] ⟨caps⟩),(12,.int .i64 ((i2:Nat):Int)),(13,.int .i64 ((j:Nat):Int))]) (fun _=>[sl (some ⟨g,0,none⟩) c 56 1 n (dC (e)),q,R]) (fun _=>i≤i2∧i2≤j+2) ?_ ?_
 ·refine gg1 ?_
  refine dW (fun x:Nat=>[(0,.slice (some ⟨g,0,none⟩) n c),(1,.int .i64 (a:Nat)),(4,.func (.func fc) #[] ⟨caps⟩),(12,.int .i64 ((x:Nat):Int)),(13,.int .i64 ((j:Nat):Int))]) (fun _=>[sl (some ⟨g,0,none⟩) c 56 1 n (dC (e)),q,R]) (fun x=>j+1-x) (fun x=>scanUp (fun x=>ltF cf x (e)[a]!) (e) (j) x=i2∧i≤x∧x≤j+2) (i) ?_ ?_ ?_ ?_
  ·exact⟨hi2,oO,oO⟩
  ·exact⟨O,O,O,O,O,trivial⟩
  ·exact uI
  rintro x⟨hx,hx1,hx2⟩
  refine gg7 ?_
  refine dS 108 O (fun su=>?_) (fun su=>?_)
  ·have f0:=eX (e) (i:=x) oO ((x:Nat):Int).toNat oO
   have f1:=eX (e) (i:=a) oO ((a:Nat):Int).toNat oO
   have hcc:=hc _ _ (hde.2 (x) oO) (hde.2 (a) oO)
   refine gg19 ?_
   refine uU ?_
   apply fP (hx:=O) (ha:=O) (hf:=hf)
   ·exact hcc
   ·exact uK
   rintro _ _⟨rfl,rfl⟩
   simp only[uV,uW]
   refine gg5 ?_
   refine bE O (fun gu=>?_) (fun gu=>?_)
   ·refine gg9 ?_
    refine bS (x+1) ⟨?_,oO,oO⟩ oO ⟨O,O,O,congrArg some (bW oO),O,trivial⟩ uI
    rw[←hx]
    conv=>rhs;rw[scanUp,if_pos (by simp[ltF,gu];omega)]
   rw[scanUp,if_neg (by simp[ltF,gu])]at hx
   rw[←hx]
   refine gg4 ?_
   refine dZ () oO ⟨O,O,O,O,O,trivial⟩ uI
  rw[scanUp,if_neg (by simp;omega)]at hx
  rw[←hx]
  refine gg19 ?_
  refine dZ () oO ⟨O,O,O,O,O,trivial⟩ uI
 rintro _⟨hi2a,hi2b⟩
 refine iT (fun _:Unit=>[(0,.slice (some ⟨g,0,none⟩) n c),(1,.int .i64 (a:Nat)),(4,.func (.func fc) #[] ⟨caps⟩),(12,.int .i64 ((i2:Nat):Int)),(13,.int .i64 ((j2:Nat):Int))]) (fun _=>[sl (some ⟨g,0,none⟩) c 56 1 n (dC (e)),q,R]) (fun _=>a≤j2∧j2≤j) ?_ ?_
 ·refine gg1 ?_
  refine dW (fun x:Nat=>[(0,.slice (some ⟨g,0,none⟩) n c),(1,.int .i64 (a:Nat)),(4,.func (.func fc) #[] ⟨caps⟩),(12,.int .i64 ((i2:Nat):Int)),(13,.int .i64 ((x:Nat):Int))]) (fun _=>[sl (some ⟨g,0,none⟩) c 56 1 n (dC (e)),q,R]) (fun x=>x) (fun x=>scanDown (fun x=>!ltF cf x (e)[a]!) (e) (i2) x=j2∧a≤x∧x≤j) (j) ?_ ?_ ?_ ?_
  ·exact⟨hj2,oO,oO⟩
  ·exact⟨O,O,O,O,O,trivial⟩
  ·exact uI
  rintro x⟨hx,hx1,hx2⟩
  refine gg7 ?_
  refine dS 126 O (fun sw=>?_) (fun sw=>?_)
  ·obtain⟨x,rfl⟩:∃k,x=k+1:=⟨x-1,oO⟩
   have f0:=eX (e) (i:=x+1) oO ((x+1:Nat):Int).toNat oO
   have f1:=eX (e) (i:=a) oO ((a:Nat):Int).toNat oO
   have hcc:=hc _ _ (hde.2 (x+1) oO) (hde.2 (a) oO)
   refine gg19 ?_
   refine uU ?_
   apply fP (hx:=O) (ha:=O) (hf:=hf)
   ·exact hcc
   ·exact uK
   rintro _ _⟨rfl,rfl⟩
   simp only[uV,uW]
   refine gg7 ?_
   refine fJ O (fun gw=>?_) (fun gw=>?_)
   ·refine gg9 ?_
    refine bS (x) ⟨?_,oO,oO⟩ oO ⟨O,O,O,O,congrArg some (bW oO),trivial⟩ uI
    rw[←hx]
    conv=>rhs;rw[scanDown,if_pos (by simp[ltF,gw];omega)]
   rw[scanDown,if_neg (by simp[ltF,gw])]at hx
   rw[←hx]
   refine gg4 ?_
   refine dZ () oO ⟨O,O,O,O,O,trivial⟩ uI
  have hx':x=j2:=by
   rw[←hx]
   cases x with
   |zero=>rfl
   |succ x=>rw[scanDown,if_neg (by simp;omega)]
  rw[←hx']
  refine gg20 ?_
  refine dZ () oO ⟨O,O,O,O,O,trivial⟩ uI
 rintro _⟨hj2a,hj2b⟩
 refine gg8 ?_
 refine bE O (fun h7=>?_) (fun h7=>?_)
 ·rw[if_pos oO]at he
  subst he
  subst hr'
  have f6:=eX e (i:=a) oO ((a:Int)).toNat oO
  have f7:=eX e (i:=j2) oO ((j2:Int)).toNat oO
  refine gg7 ?_
  refine eF 13 ([sl (some ⟨g,0,none⟩) c 56 1 n (dC e),q]) [(15,[])] ?_ ?_
  ·exact uI
  refine uP 0 O (aB O) (uP 1 O (aB O) (uP 2 O (aB O) (uP 3 O (aB O) (uP 4 O (aB O) (uP 5 O (aB O) (uP 6 O (uAj O O) ?_))))))
  refine uQ 7 O (uY) ?_
  refine uP 8 O (aB O) (uP 9 O (aB O) (uP 10 O (uAj O O) ?_))
  refine uQ 11 O (uY) ?_
  refine uP 12 O (uAj O O) ?_
  apply gD O oK O
  refine uJ ?_
  refine uE ?_
  refine uP 14 O (uAj O O) ?_
  apply gB O oK oK O
  refine uJ ?_
  refine gg9 ?_
  simp only[bP]
  rw[kP e (i:=j2) (j:=a) oO oO]
  case ho=>omega
  case ho'=>omega
  exact uZ O (.tmp O (.tmp O .nil)) ⟨O,O,hde.swp oO oO⟩
 rw[if_neg oO]at he
 have f6:=eX e (i:=i2) oO ((i2:Int)).toNat oO
 have f7:=eX e (i:=j2) oO ((j2:Int)).toNat oO
 refine gg3 ?_
 refine eF 13 ([sl (some ⟨g,0,none⟩) c 56 1 n (dC e),q]) [(15,[])] ?_ ?_
 ·exact uI
 refine uP 0 O (aB O) (uP 1 O (aB O) (uP 2 O (aB O) (uP 3 O (aB O) (uP 4 O (aB O) (uP 5 O (aB O) (uP 6 O (uAj O O) ?_))))))
 refine uQ 7 O (uY) ?_
 refine uP 8 O (aB O) (uP 9 O (aB O) (uP 10 O (uAj O O) ?_))
 refine uQ 11 O (uY) ?_
 refine uP 12 O (uAj O O) ?_
 apply gD O oK O
 refine uJ ?_
 refine uE ?_
 refine uP 14 O (uAj O O) ?_
 apply gB O oK oK O
 refine uJ ?_
 refine gg14 ?_
 simp only[bP]
 rw[kP e (i:=i2) (j:=j2) oO oO]
 case ho=>omega
 case ho'=>omega
 refine bS (ι:=Nat×Nat×Array Nat) (j:=(i2+1,j2-1,swp e i2 j2)) ⟨he,hde.swp oO oO,by show a<i2+1;omega,by show a≤j2-1;omega,by show i2+1≤j2-1+2;omega,by show j2-1<b;omega⟩ (by show j2-1+1-(i2+1)<j+1-i;omega) ⟨rfl,rfl,rfl,congrArg some (bW (by simp only;omega)),congrArg some (bW (by simp only;omega)),trivial⟩ uI
end Go.Proofs.YtjbdlljghogodaaGreatDoor
namespace Sl
open Go Go.RowKit
variable {E:Env}{n:Nat}{L:Fr}{S:List HP}{ty:TypeId}{pos:String}{af:Array Edge}{d:Option Nat}{gd:Option (Nat×Bool)}
theorem qKu {x y:Operand}{xt yt:TypeId}{i j:Nat}{ky:IntKind}(hx:ev L x=some (.int .u64 (i:Nat)))(hy:ev L y=some (.int ky (j:Nat)))(hj:j≤64):
  Yl E n L S ⟨d,.binOp .shl xt x y yt,ty,pos,af,gd⟩ (.int .u64 ((i*2^j%18446744073709551616:Nat):Int)):=fun a w g _=>by
 have h:=shift_shl_any .u64 ky (i:Int) ((j:Nat):Int) (Int.natCast_nonneg j)
 have e:IntKind.u64.wrap ((i:Int)*2^min ((j:Nat):Int).toNat IntKind.u64.bits)=((i*2^j%18446744073709551616:Nat):Int):=by
  rw[Int.toNat_natCast,show min j IntKind.u64.bits=j from Nat.min_eq_left hj,IntKind.wrap_u64,Int.natCast_emod,Int.natCast_mul,Int.natCast_pow];rfl
 rw[e]at h
 simp[execOp,eqGuard,binOp,g.ev hx,g.ev hy,h]
 exact IntKind.wrap_u64 _
theorem qKv {x y:Operand}{xt yt:TypeId}{i j:Nat}(hx:ev L x=some (.int .u64 (i:Nat)))(hy:ev L y=some (.int .u64 (j:Nat)))(hi:i<18446744073709551616)(hj:j<18446744073709551616):
  Yl E n L S ⟨d,.binOp .xor xt x y yt,ty,pos,af,gd⟩ (.int .u64 ((i^^^j:Nat):Int)):=fun a w g _=>by
 have h:=bits_xor_u64_nat i j hi hj
 simp[execOp,eqGuard,binOp,Op.intBits,g.ev hx,g.ev hy]
 exact h
theorem y_and64 {x y:Operand}{xt yt:TypeId}{i j:Nat}(hx:ev L x=some (.int .u64 (i:Nat)))(hy:ev L y=some (.int .u64 (j:Nat)))(hi:i<18446744073709551616)(hj:j<18446744073709551616):
  Yl E n L S ⟨d,.binOp .and xt x y yt,ty,pos,af,gd⟩ (.int .u64 ((i&&&j:Nat):Int)):=fun a w g _=>by
 have h:=bits_and_u64_nat i j hi hj
 simp[execOp,eqGuard,binOp,Op.intBits,g.ev hx,g.ev hy]
 exact h
theorem y_sub64 {x y:Operand}{xt yt:TypeId}{i j:Nat}(hx:ev L x=some (.int .u64 (i:Nat)))(hy:ev L y=some (.int .u64 (j:Nat)))(hi:i<18446744073709551616)(hj:j≤i):
  Yl E n L S ⟨d,.binOp .sub xt x y yt,ty,pos,af,gd⟩ (.int .u64 ((i-j:Nat):Int)):=fun a w g _=>by
 have h:IntKind.u64.wrap ((i:Int)-j)=((i-j:Nat):Int):=by rw[IntKind.wrap_u64];omega
 simp[execOp,eqGuard,binOp,Op.intArith,g.ev hx,g.ev hy]
 exact h
end Sl
namespace Go.Proofs.YtjbdlljghogodaaGreatDoor
open Go Go.RowKit Sl Eg
set_option maxRecDepth 10000
section
variable {E:Env}
variable {fc:FuncId}{caps:List Value}{q:HP}{ok:Nat→Prop}{cf:Nat→Nat→Int}{g c n:Nat}
def tab8:ByteArray:=⟨([0,1]++(List.replicate 2 2++(List.replicate 4 3++(List.replicate 8 4++(List.replicate 16 5++(List.replicate 32 6++(List.replicate 64 7++List.replicate 128 8)))))):List UInt8).toArray⟩
theorem tab8_all:(List.range 256).all (fun k=>match tab8[k]? with |some c=>Nat.beq c.toNat (Go.Sort.bitsLen k)|none=>false)=true:=by decide +kernel
theorem qTo {k:Nat}(h:k<256):∃c,tab8[k]?=some c∧c.toNat=Go.Sort.bitsLen k:=by
 have h:=List.all_eq_true.1 tab8_all k (List.mem_range.2 h)
 cases e:tab8[k]? with
 |none=>rw[e]at h;simp at h
 |some c=>rw[e]at h;exact⟨c,rfl,Nat.eq_of_beq_eq_true h⟩
theorem qUh {i:Nat}(h:i<256):IntKind.u8.wrap ((i:Nat):Int)=(i:Nat):=by
 simp[IntKind.wrap,IntKind.bits,IntKind.signed]
 omega
theorem qJf (k:Nat)(h:256≤k):Go.Sort.bitsLen k=8+Go.Sort.bitsLen (k/2^8):=by
 apply Nat.le_antisymm
 ·rw[Go.Sort.bitsLen_le_iff]
  have:=Go.Sort.lt_two_pow_bitsLen (k/2^8)
  rw[Nat.pow_add]
  have h2:k=2^8*(k/2^8)+k%2^8:=(Nat.div_add_mod k (2^8)).symm
  have h3:=Nat.mod_lt k (show 2^8>0 by decide)
  have h4:2^8*(k/2^8+1)≤2^8*2^Go.Sort.bitsLen (k/2^8):=Nat.mul_le_mul_left _ this
  rw[Nat.mul_add]at h4
  omega
 have h9:8≤Go.Sort.bitsLen k:=by
  apply Classical.byContradiction
  intro hh
  have:=(Go.Sort.bitsLen_le_iff k 7).1 oO
  omega
 have:Go.Sort.bitsLen (k/2^8)≤Go.Sort.bitsLen k-8:=by
  rw[Go.Sort.bitsLen_le_iff]
  have:=Go.Sort.lt_two_pow_bitsLen k
  apply Nat.div_lt_of_lt_mul
  rw[←Nat.pow_add,show 8+(Go.Sort.bitsLen k-8)=Go.Sort.bitsLen k by omega]
  exact this
 omega
theorem qPm (hE:Seat E){k:Nat}(h2:k<65536):Ct E 164 [.int .u64 (k:Nat)] [] (fun v Q=>v= .int .i64 (Go.Sort.bitsLen k:Nat)∧Q=[]):=by
 refine bO (hE.fn Tryz.func164) O O O (fun R=>?_)
 simp only[dR,uV,uW]
 refine gg12 ?_
 refine bE O (fun g1=>?_) (fun g1=>?_)
 ·exfalso;omega
 refine gg9 ?_
 refine bE O (fun g2=>?_) (fun g2=>?_)
 ·exfalso;omega
 refine gg9 ?_
 refine bE O (fun g3=>?_) (fun g3=>?_)
 ·refine gg3 ?_
  refine uB (rX (j:=8) O O (by decide)) ?_
  have hk:k/2^8<256:=oO
  obtain⟨ch,f0,hcn⟩:=qTo hk
  have hcb:=ch.toNat_lt
  refine gg13 ?_
  refine uB (dI O (hE.t O) (hE.t O) (qUh hk)) ?_
  refine uB (pO (bs:=tab8) O O (hE.t O) oO f0) ?_
  refine uB (dI (i:=(ch.toNat:Int)) O (hE.t O) (hE.t O) (dJ oO oO)) ?_
  refine uB (qUk (j:=(ch.toNat:Int)) O O oO oO) ?_
  refine gg4 ?_
  exact uZ O (.tmp O .nil) ⟨by rw[hcn,qJf k oO];exact bW oO,rfl⟩
 obtain⟨ch,f0,hcn⟩:=qTo (k:=k) oO
 have hcb:=ch.toNat_lt
 refine gg6 ?_
 refine uB (dI O (hE.t O) (hE.t O) (qUh oO)) ?_
 refine uB (pO (bs:=tab8) O O (hE.t O) oO f0) ?_
 refine uB (dI (i:=(ch.toNat:Int)) O (hE.t O) (hE.t O) (dJ oO oO)) ?_
 refine uB (qUk (j:=(ch.toNat:Int)) O O oO oO) ?_
 refine gg4 ?_
 exact uZ O (.tmp O .nil) ⟨by rw[hcn];exact bW oO,rfl⟩
theorem qCl (hE:Seat E){k:Nat}(h2:k<65536):Ct E 116 [.int .u64 (k:Nat)] [] (fun v Q=>v= .int .i64 (Go.Sort.bitsLen k:Nat)∧Q=[]):=by
 refine bO (hE.fn Tryz.func116) O O O (fun R=>?_)
 simp only[dR,uV,uW]
 refine gg12 ?_
 refine uX (qPm hE h2) O ?_
 rintro _ _⟨rfl,rfl⟩
 simp only[uV,uW]
 refine gg4 ?_
 exact uZ O (.tmp O .nil) ⟨O,O⟩
theorem xE {k:Nat}(h:k<65536):Go.Sort.bitsLen k≤16:=(Go.Sort.bitsLen_le_iff k 16).2 h
theorem qNl (hE:Seat E){k:Nat}(h2:k<65536):Ct E 209 [.int .i64 (k:Nat)] [] (fun v Q=>v= .int .u64 ((1<<<Go.Sort.bitsLen k:Nat):Int)∧Q=[]):=by
 have hb:=xE h2
 have hp:2^Go.Sort.bitsLen k≤2^16:=Nat.pow_le_pow_right (by decide) hb
 refine bO (hE.fn Tryz.func209) O O O (fun R=>?_)
 simp only[dR,uV,uW]
 refine gg9 ?_
 refine uX (qCl hE h2) O ?_
 rintro _ _⟨rfl,rfl⟩
 simp only[uV,uW]
 refine uB (qKu (i:=1) O O oO) ?_
 refine gg4 ?_
 exact uZ O (.tmp O .nil) ⟨bW (by rw[Nat.shiftLeft_eq,Nat.mod_eq_of_lt oO]),O⟩
theorem qNu (hE:Seat E){r X:Nat}(hX:X<18446744073709551616):Ct E 210 [uPt r] [cells r [.int .u64 (X:Nat)] 338] (fun v Q=>v= .int .u64 ((Go.Sort.xorNextN X:Nat):Int)∧Q=[cells r [.int .u64 ((Go.Sort.xorNextN X:Nat):Int)] 338]):=by
 obtain⟨A,hA⟩:∃A:Nat,A=X^^^(X*8192%18446744073709551616):=⟨_,rfl⟩
 obtain⟨B,hB⟩:∃B:Nat,B=A^^^(A/128):=⟨_,rfl⟩
 obtain⟨C,hC⟩:∃C:Nat,C=B^^^(B*131072%18446744073709551616):=⟨_,rfl⟩
 have lA:A<18446744073709551616:=by rw[hA];exact Nat.xor_lt_two_pow (n:=64) oO oO
 have lB:B<18446744073709551616:=by rw[hB];exact Nat.xor_lt_two_pow (n:=64) oO oO
 have hv:Go.Sort.xorNextN X=C:=by unfold Go.Sort.xorNextN;simp only[];rw[←hA,←hB,←hC]
 rw[hv]
 refine bO (hE.fn Tryz.func210) O O O (fun R=>?_)
 simp only[dR,uV,uW]
 refine gg13 ?_
 refine uB (qKu (i:=X) (j:=13) O O (by decide)) ?_
 refine uB (qKv (i:=X) (j:=X*2^13%18446744073709551616) O O hX oO) ?_
 refine l_eq 10 (.int .u64 ((A:Nat):Int)) O (bW (by rw[hA])) ?_
 refine gg12 ?_
 refine uB (rX (i:=A) (j:=7) O O (by decide)) ?_
 refine uB (qKv (i:=A) (j:=A/2^7) O O lA oO) ?_
 refine l_eq 19 (.int .u64 ((B:Nat):Int)) O (bW (by rw[hB])) ?_
 refine gg12 ?_
 refine uB (qKu (i:=B) (j:=17) O O (by decide)) ?_
 refine uB (qKv (i:=B) (j:=B*2^17%18446744073709551616) O O lB oO) ?_
 refine l_eq 28 (.int .u64 ((C:Nat):Int)) O (bW (by rw[hC])) ?_
 refine gg13 ?_
 exact uZ O (.tmp O .nil) ⟨O,O⟩
def brk (a l m i0:Nat)(d:Array Nat):Nat→UInt64×Array Nat
 |0=>(UInt64.ofNat l,d)
 |t+1=>Go.Sort.breakStep a l m (brk a l m i0 d t) (i0+t)
theorem brk_eq {d:Array Nat}{a b:Nat}(h:b-a≥8):Go.Sort.breakPatterns d a b=(brk a (b-a) (1<<<Go.Sort.bitsLen (b-a)) (a+(b-a)/4*2-1) d 3).2:=by
 unfold Go.Sort.breakPatterns
 simp only[if_pos h]
 rfl
open Go.Sort in
theorem yT (hE:Seat E){d:Array Nat}(hd:OkD ok n d){a b:Nat}(hab:a+12<b)(hb:b≤n)(hn:n<65536):
  Ct E 157 [.slice (some ⟨g,0,none⟩) n c,.int .i64 (a:Nat),.int .i64 (b:Nat),.func (.func fc) #[] ⟨caps⟩] [sl (some ⟨g,0,none⟩) c 56 1 n (dC d),q]
   (fun v Q=>v= .tuple #[]∧Q=[sl (some ⟨g,0,none⟩) c 56 1 n (dC (breakPatterns d a b)),q]∧OkD ok n (breakPatterns d a b)):=by
 have e0:=brk_eq (d:=d) (a:=a) (b:=b) oO
 obtain⟨l,hl⟩:∃l,l=b-a:=⟨_,rfl⟩
 obtain⟨i0,hi0⟩:∃i0,i0=a+l/4*2-1:=⟨_,rfl⟩
 rw[←hl,←hi0]at e0
 have hl16:=xE (k:=l) oO
 have hlp:=lt_two_pow_bitsLen l
 have hlq:=two_pow_bitsLen_le (n:=l) oO
 have hm0:1<<<bitsLen l=2^bitsLen l:=by rw[Nat.shiftLeft_eq,Nat.one_mul]
 obtain⟨m,hm⟩:∃m,m=1<<<bitsLen l:=⟨_,rfl⟩
 have hml:l<m∧m≤2*l:=by rw[hm,hm0];exact⟨hlp,hlq⟩
 rw[←hm]at e0
 rw[e0]
 have h64:(UInt64.ofNat l).toNat=l:=by simp;omega
 refine bO (hE.fn Tryz.func157) O O O (fun R=>?_)
 simp only[dR,uV,uW]
 refine gg8 ?_
 refine w_eq 8 (.int .i64 ((l:Nat):Int)) O (bW oO) ?_
 refine gg6 ?_
 refine bE O (fun h0=>?_) (fun h0=>?_)
 ·refine gg4 ?_
  refine uU (cZ (hE.t O) (fun b9=>?_))
  refine gg6 ?_
  refine uX (qNl (k:=l) hE oO) O ?_
  rintro _ _⟨rfl,rfl⟩
  simp only[uV,uW]
  refine gg14 ?_
  refine w_eq 11 (.int .i64 ((i0:Nat):Int)) O (bW oO) ?_
  refine w_eq 10 (.int .u64 ((m:Nat):Int)) O (bW (by rw[hm])) ?_
  refine gg1 ?_
  refine dW (fun t:Nat=>[(0,.slice (some ⟨g,0,none⟩) n c),(1,.int .i64 (a:Nat)),(8,.int .i64 (l:Nat)),(9,uPt b9),(10,.int .u64 (m:Nat)),(11,.int .i64 ((i0+t:Nat):Int))]) (fun t=>[cells b9 [.int .u64 (((brk a l m i0 d t).1.toNat:Nat):Int)] 338,sl (some ⟨g,0,none⟩) c 56 1 n (dC (brk a l m i0 d t).2),q,R]) (fun t=>3-t) (fun t=>t≤3∧OkD ok n (brk a l m i0 d t).2) 0 ?_ ?_ ?_ ?_
  ·exact⟨oO,hd⟩
  ·exact⟨O,O,O,O,O,O,trivial⟩
  ·show ∀k,_→dU [cells b9 [.int .u64 (((UInt64.ofNat l).toNat:Nat):Int)] 338,sl (some ⟨g,0,none⟩) c 56 1 n (dC d),q,R] k
   rw[h64]
   exact uI
  rintro t⟨ht,hdt⟩
  refine gg13 ?_
  refine bE O (fun h1=>?_) (fun h1=>?_)
  ·have hx:=(brk a l m i0 d t).1.toNat_lt
   have hxn:=xorNextN_lt _ hx
   have hts:=hdt.1
   obtain⟨o,ho⟩:∃o,o=xorNextN (brk a l m i0 d t).1.toNat&&&(m-1):=⟨_,rfl⟩
   have hom:o≤m-1:=by rw[ho];exact Nat.and_le_right
   have hst:∀o',o'=(if o≥l then o-l else o)→brk a l m i0 d (t+1)=(xorNext (brk a l m i0 d t).1,swp (brk a l m i0 d t).2 (i0+t) (a+o')):=by
    intro o' h'
    subst h'
    show breakStep a l m (brk a l m i0 d t) (i0+t)=_
    unfold breakStep
    simp only
    rw[xorNext_toNat,←ho]
   refine gg6 ?_
   refine uX (qNu hE hx) O ?_
   rintro _ _⟨rfl,rfl⟩
   simp only[uV,uW]
   refine gg1 ?_
   refine uB (y_sub64 (i:=m) (j:=1) O O oO oO) ?_
   refine uB (y_and64 (i:=xorNextN (brk a l m i0 d t).1.toNat) (j:=m-1) O O hxn oO) ?_
   refine l_eq 41 (.int .u64 ((o:Nat):Int)) O (bW (by rw[ho])) ?_
   refine uB (dI O (hE.t O) (hE.t O) (dJ oO oO)) ?_
   refine gg11 ?_
   refine bE O (fun h2=>?_) (fun h2=>?_)
   ·refine gg7 ?_
    refine w_eq 12 (.int .i64 (((o-l):Nat):Int)) O (bW oO) ?_
    have hs:=hst ((o-l)) (by rw[if_pos (show o≥l by omega)])
    have f0:=eX (brk a l m i0 d t).2 (i:=i0+t) oO (((i0+t:Nat):Int)).toNat oO
    have f1:=eX (brk a l m i0 d t).2 (i:=a+((o-l))) oO ((a:Int)+(((o-l):Nat):Int)).toNat oO
    refine eF 17 ([sl (some ⟨g,0,none⟩) c 56 1 n (dC ((brk a l m i0 d t).2)),q]) [(19,[])] ?_ ?_
    ·exact uI
    refine uP 0 O (aB O) (uP 1 O (aB O) (uP 2 O (aB O) (uP 3 O (aB O) (uP 4 O (aB O) (uP 5 O (uAa O O) (uP 6 O (aB O) (uP 7 O (aB O) (uP 8 O (aB O) (uP 9 O (uAa O O) (uP 10 O (uAj O O) ?_))))))))))
    refine uQ 11 O (uY) ?_
    refine uP 12 O (aB O) (uP 13 O (aB O) (uP 14 O (uAj O O) ?_))
    refine uQ 15 O (uY) ?_
    refine uP 16 O (uAj O O) ?_
    apply gD O oK O
    refine uJ ?_
    refine uE ?_
    refine uP 18 O (uAj O O) ?_
    apply gB O oK oK O
    refine uJ ?_
    refine gg7 ?_
    simp only[bP]
    rw[kP (brk a l m i0 d t).2 (i:=(i0+t)) (j:=(a+((o-l)))) oO oO]
    case ho=>omega
    case ho'=>omega
    refine bS (t+1) ⟨oO,?_⟩ oO ⟨O,O,O,O,O,congrArg some (bW oO),trivial⟩ ?_
    ·rw[hs]
     exact hdt.swp oO oO
    rw[hs,xorNext_toNat]
    exact uI
   refine gg2 ?_
   refine w_eq 12 (.int .i64 ((o:Nat):Int)) O (bW oO) ?_
   have hs:=hst (o) (by rw[if_neg (show ¬o≥l by omega)])
   have f0:=eX (brk a l m i0 d t).2 (i:=i0+t) oO (((i0+t:Nat):Int)).toNat oO
   have f1:=eX (brk a l m i0 d t).2 (i:=a+(o)) oO ((a:Int)+((o:Nat):Int)).toNat oO
   refine eF 17 ([sl (some ⟨g,0,none⟩) c 56 1 n (dC ((brk a l m i0 d t).2)),q]) [(19,[])] ?_ ?_
   ·exact uI
   refine uP 0 O (aB O) (uP 1 O (aB O) (uP 2 O (aB O) (uP 3 O (aB O) (uP 4 O (aB O) (uP 5 O (uAa O O) (uP 6 O (aB O) (uP 7 O (aB O) (uP 8 O (aB O) (uP 9 O (uAa O O) (uP 10 O (uAj O O) ?_))))))))))
   refine uQ 11 O (uY) ?_
   refine uP 12 O (aB O) (uP 13 O (aB O) (uP 14 O (uAj O O) ?_))
   refine uQ 15 O (uY) ?_
   refine uP 16 O (uAj O O) ?_
   apply gD O oK O
   refine uJ ?_
   refine uE ?_
   refine uP 18 O (uAj O O) ?_
   apply gB O oK oK O
   refine uJ ?_
   refine gg7 ?_
   simp only[bP]
   rw[kP (brk a l m i0 d t).2 (i:=(i0+t)) (j:=(a+(o))) oO oO]
   case ho=>omega
   case ho'=>omega
   refine bS (t+1) ⟨oO,?_⟩ oO ⟨O,O,O,O,O,congrArg some (bW oO),trivial⟩ ?_
   ·rw[hs]
    exact hdt.swp oO oO
   rw[hs,xorNext_toNat]
   exact uI
  obtain rfl:t=3:=by omega
  refine gg4 ?_
  exact uZe O .nil ⟨O,O,hdt⟩
 exfalso;omega
end
section
variable {E:Env}
variable {fc:FuncId}{caps:List Value}{q:HP}{ok:Nat→Prop}{cf:Nat→Nat→Int}{g c n:Nat}
open Go.Sort in
theorem vB (hE:Seat E)(hf:goFn E.P fc=true)(hc:Cmp E fc caps q ok cf){d:Array Nat}(hd:OkD ok n d){a b:Nat}(hab:a<b)(hb:b≤n)(hn:n<1099511627776):
  Ct E 160 [.slice (some ⟨g,0,none⟩) n c,.int .i64 (a:Nat),.int .i64 (b:Nat),.func (.func fc) #[] ⟨caps⟩] [sl (some ⟨g,0,none⟩) c 56 1 n (dC d),q]
   (fun v Q=>v= .bool (partialInsertionSort (ltF cf) d a b).2∧Q=[sl (some ⟨g,0,none⟩) c 56 1 n (dC (partialInsertionSort (ltF cf) d a b).1),q]∧OkD ok n (partialInsertionSort (ltF cf) d a b).1):=by
 obtain⟨r,hr⟩:∃r,r=partialInsertionSort (ltF cf) d a b:=⟨_,rfl⟩
 have hr':=hr.symm
 unfold partialInsertionSort at hr'
 rw[←hr]
 refine bO (hE.fn Tryz.func160) O O O (fun R=>?_)
 simp only[dR,uV,uW]
 refine gg19 ?_
 refine dW (fun x:Nat×Nat×Array Nat=>[(0,.slice (some ⟨g,0,none⟩) n c),(1,.int .i64 (a:Nat)),(2,.int .i64 (b:Nat)),(3,.func (.func fc) #[] ⟨caps⟩),(9,.int .i64 (x.2.1:Nat)),(10,.int .i64 (5-(x.1:Int)))]) (fun x=>[sl (some ⟨g,0,none⟩) c 56 1 n (dC x.2.2),q,R]) (fun x=>x.1) (fun x=>partialIns (ltF cf) a b x.1 x.2.1 x.2.2=r∧OkD ok n x.2.2∧x.1≤5∧a+1≤x.2.1∧x.2.1≤b) (5,a+1,d) ?_ ?_ ?_ ?_
 ·exact⟨hr',hd,Nat.le_refl 5,by show a+1≤a+1;omega,by show a+1≤b;omega⟩
 ·exact⟨O,O,O,O,congrArg some (bW (by simp only;omega)),O,trivial⟩
 ·exact uI
 rintro⟨s,i,e⟩⟨he,hde,hs5,hi,hib⟩
 simp only at he hde hs5 hi hib ⊢
 have hse:=hde.1
 refine gg7 ?_
 refine bE O (fun h0=>?_) (fun h0=>?_)
 ·obtain⟨s,rfl⟩:∃k,s=k+1:=⟨s-1,oO⟩
  rw[partialIns_succ]at he
  obtain⟨i2,hi2⟩:∃i2,scanSorted (ltF cf) e b i=i2:=⟨_,rfl⟩
  rw[hi2]at he
  refine gg4 ?_
  refine iT (fun _:Unit=>[(0,.slice (some ⟨g,0,none⟩) n c),(1,.int .i64 (a:Nat)),(2,.int .i64 (b:Nat)),(3,.func (.func fc) #[] ⟨caps⟩),(9,.int .i64 ((i2:Nat):Int)),(10,.int .i64 (5-((s+1:Nat):Int)))]) (fun _=>[sl (some ⟨g,0,none⟩) c 56 1 n (dC e),q,R]) (fun _=>i≤i2∧i2≤b) ?_ ?_
  ·refine gg1 ?_
   refine dW (fun x:Nat=>[(0,.slice (some ⟨g,0,none⟩) n c),(1,.int .i64 (a:Nat)),(2,.int .i64 (b:Nat)),(3,.func (.func fc) #[] ⟨caps⟩),(9,.int .i64 ((x:Nat):Int)),(10,.int .i64 (5-((s+1:Nat):Int)))]) (fun _=>[sl (some ⟨g,0,none⟩) c 56 1 n (dC e),q,R]) (fun x=>b-x) (fun x=>scanSorted (ltF cf) e b x=i2∧i≤x∧x≤b) i ?_ ?_ ?_ ?_
   ·exact⟨hi2,Nat.le_refl _,hib⟩
   ·exact⟨O,O,O,O,O,O,trivial⟩
   ·exact uI
   rintro x⟨hx,hx1,hx2⟩
   refine gg7 ?_
   refine dS 22 O (fun g1=>?_) (fun g1=>?_)
   ·have f0:=eX e (i:=x) oO ((x:Int)).toNat oO
    have f1:=eX e (i:=x-1) oO ((x:Int)-1).toNat oO
    have hcc:=hc _ _ (hde.2 x oO) (hde.2 (x-1) oO)
    refine gg21 ?_
    refine uU ?_
    apply fP (hx:=O) (ha:=O) (hf:=hf)
    ·exact hcc
    ·exact uK
    rintro _ _⟨rfl,rfl⟩
    simp only[uV,uW]
    refine gg7 ?_
    refine fJ O (fun g2=>?_) (fun g2=>?_)
    ·refine gg9 ?_
     refine bS (x+1) ⟨?_,oO,oO⟩ oO ⟨O,O,O,O,congrArg some (bW oO),O,trivial⟩ uI
     rw[←hx]
     conv=>rhs;rw[scanSorted,if_pos (by simp[ltF,g2];omega)]
    rw[scanSorted,if_neg (by simp[ltF,g2])]at hx
    rw[←hx]
    refine gg4 ?_
    refine dZ () oO ⟨O,O,O,O,O,O,trivial⟩ uI
   rw[scanSorted,if_neg (by simp;omega)]at hx
   rw[←hx]
   refine gg21 ?_
   refine dZ () oO ⟨O,O,O,O,O,O,trivial⟩ uI
  rintro _⟨k1,k2⟩
  refine gg8 ?_
  refine bE O (fun h1=>?_) (fun h1=>?_)
  ·rw[if_pos oO]at he
   subst he
   refine gg12 ?_
   exact uZ O (.tmp O .nil) ⟨O,O,hde⟩
  rw[if_neg oO]at he
  refine gg11 ?_
  refine bE O (fun h2=>?_) (fun h2=>?_)
  ·rw[if_pos oO]at he
   subst he
   refine gg12 ?_
   exact uZ O (.tmp O .nil) ⟨O,O,hde⟩
  rw[if_neg oO]at he
  have f2:=eX e (i:=i2) oO ((i2:Int)).toNat oO
  have f3:=eX e (i:=i2-1) oO ((i2:Int)-1).toNat oO
  refine gg3 ?_
  refine eF 15 ([sl (some ⟨g,0,none⟩) c 56 1 n (dC e),q]) [(17,[])] ?_ ?_
  ·exact uI
  refine uP 0 O (aB O) (uP 1 O (aB O) (uP 2 O (aB O) (uP 3 O (aB O) (uP 4 O (uAs O O) (uP 5 O (aB O) (uP 6 O (aB O) (uP 7 O (uAs O O) (uP 8 O (uAj O O) ?_))))))))
  refine uQ 9 O (uY) ?_
  refine uP 10 O (aB O) (uP 11 O (aB O) (uP 12 O (uAj O O) ?_))
  refine uQ 13 O (uY) ?_
  refine uP 14 O (uAj O O) ?_
  apply gD O oK O
  refine uJ ?_
  refine uE ?_
  refine uP 16 O (uAj O O) ?_
  apply gB O oK oK O
  refine uJ ?_
  refine gg1 ?_
  simp only[bP]
  rw[kP e (i:=i2) (j:=(i2-1)) oO oO]
  case ho=>omega
  case ho'=>omega
  have hd1:=hde.swp (show i2<n by omega) (show i2-1<n by omega)
  generalize swp e i2 (i2-1)=e1 at*
  obtain⟨e2,he2⟩:∃e2,fixDown (ltF cf) a i2 e1=e2:=⟨_,rfl⟩
  rw[he2]at he
  unfold fixDown at he2
  refine iT (fun _:Unit=>[(0,.slice (some ⟨g,0,none⟩) n c),(1,.int .i64 (a:Nat)),(2,.int .i64 (b:Nat)),(3,.func (.func fc) #[] ⟨caps⟩),(9,.int .i64 ((i2:Nat):Int)),(10,.int .i64 (5-((s+1:Nat):Int)))]) (fun _=>[sl (some ⟨g,0,none⟩) c 56 1 n (dC e2),q,R]) (fun _=>OkD ok n e2) ?_ ?_
  ·refine gg8 ?_
   refine bE O (fun h3=>?_) (fun h3=>?_)
   ·rw[if_pos oO]at he2
    refine gg8 ?_
    refine dW (fun x:Nat×Array Nat=>[(0,.slice (some ⟨g,0,none⟩) n c),(1,.int .i64 (a:Nat)),(2,.int .i64 (b:Nat)),(3,.func (.func fc) #[] ⟨caps⟩),(9,.int .i64 ((i2:Nat):Int)),(10,.int .i64 (5-((s+1:Nat):Int))),(11,.int .i64 ((x.1:Nat):Int))]) (fun x=>[sl (some ⟨g,0,none⟩) c 56 1 n (dC x.2),q,R]) (fun x=>x.1) (fun x=>shiftDown (ltF cf) x.1 x.2=e2∧OkD ok n x.2∧x.1<n) (i2-1,e1) ?_ ?_ ?_ ?_
    ·exact⟨he2,hd1,by show i2-1<n;omega⟩
    ·exact⟨O,O,O,O,O,O,congrArg some (bW (by simp only;omega)),trivial⟩
    ·exact uI
    rintro⟨j,u⟩⟨hu,hdu,hj⟩
    simp only at hu hdu hj ⊢
    have hsu:=hdu.1
    refine gg7 ?_
    refine bE O (fun g3=>?_) (fun g3=>?_)
    ·obtain⟨j,rfl⟩:∃k,j=k+1:=⟨j-1,oO⟩
     have f4:=eX u (i:=j+1) oO (((j+1:Nat):Int)).toNat oO
     have f5:=eX u (i:=j) oO (((j+1:Nat):Int)-1).toNat oO
     have hcc:=hc _ _ (hdu.2 (j+1) oO) (hdu.2 j oO)
     rw[shiftDown]at hu
     refine gg17 ?_
     refine uU ?_
     apply fP (hx:=O) (ha:=O) (hf:=hf)
     ·exact hcc
     ·exact uK
     rintro _ _⟨rfl,rfl⟩
     simp only[uV,uW]
     refine gg4 ?_
     refine fJ O (fun g4=>?_) (fun g4=>?_)
     ·rw[if_pos (by simp[ltF,g4])]at hu
      subst hu
      refine gg6 ?_
      refine dZ () hdu ⟨O,O,O,O,O,O,trivial⟩ uI
     rw[if_neg (by simp[ltF,g4])]at hu
     refine gg2 ?_
     refine eF 15 ([sl (some ⟨g,0,none⟩) c 56 1 n (dC u),q]) [(17,[])] ?_ ?_
     ·exact uI
     refine uP 0 O (aB O) (uP 1 O (aB O) (uP 2 O (aB O) (uP 3 O (aB O) (uP 4 O (uAs O O) (uP 5 O (aB O) (uP 6 O (aB O) (uP 7 O (uAs O O) (uP 8 O (uAj O O) ?_))))))))
     refine uQ 9 O (uY) ?_
     refine uP 10 O (aB O) (uP 11 O (aB O) (uP 12 O (uAj O O) ?_))
     refine uQ 13 O (uY) ?_
     refine uP 14 O (uAj O O) ?_
     apply gD O oK O
     refine uJ ?_
     refine uE ?_
     refine uP 16 O (uAj O O) ?_
     apply gB O oK oK O
     refine uJ ?_
     refine gg7 ?_
     simp only[bP]
     rw[kP u (i:=(j+1)) (j:=j) oO oO]
     case ho=>omega
     case ho'=>omega
     refine bS (ι:=Nat×Array Nat) (j:=(j,swp u (j+1) j)) ⟨hu,hdu.swp oO oO,by show j<n;omega⟩ (by show j<j+1;omega) ⟨rfl,rfl,rfl,rfl,rfl,rfl,congrArg some (bW (by simp only;omega)),trivial⟩ uI
    obtain rfl:j=0:=by omega
    rw[shiftDown]at hu
    subst hu
    refine gg4 ?_
    refine dZ () hdu ⟨O,O,O,O,O,O,trivial⟩ uI
   rw[if_neg oO]at he2
   subst he2
   refine gg1 ?_
   refine dZ () hd1 ⟨O,O,O,O,O,O,trivial⟩ uI
  intro _ hd2
  obtain⟨e3,he3⟩:∃e3,fixUp (ltF cf) b i2 e2=e3:=⟨_,rfl⟩
  rw[he3]at he
  unfold fixUp at he3
  refine gg8 ?_
  refine bE O (fun h4=>?_) (fun h4=>?_)
  ·rw[if_pos oO]at he3
   refine gg8 ?_
   refine dW (fun x:Nat×Array Nat=>[(0,.slice (some ⟨g,0,none⟩) n c),(1,.int .i64 (a:Nat)),(2,.int .i64 (b:Nat)),(3,.func (.func fc) #[] ⟨caps⟩),(9,.int .i64 ((i2:Nat):Int)),(10,.int .i64 (5-((s+1:Nat):Int))),(12,.int .i64 ((x.1:Nat):Int))]) (fun x=>[sl (some ⟨g,0,none⟩) c 56 1 n (dC x.2),q,R]) (fun x=>b-x.1) (fun x=>shiftUp (ltF cf) b x.1 x.2=e3∧OkD ok n x.2∧1≤x.1∧x.1≤b) (i2+1,e2) ?_ ?_ ?_ ?_
   ·exact⟨he3,hd2,by show 1≤i2+1;omega,by show i2+1≤b;omega⟩
   ·exact⟨O,O,O,O,O,O,congrArg some (bW (by simp only;omega)),trivial⟩
   ·exact uI
   rintro⟨j,u⟩⟨hu,hdu,hj1,hj⟩
   simp only at hu hdu hj1 hj ⊢
   have hsu:=hdu.1
   refine gg8 ?_
   rw[shiftUp]at hu
   refine bE O (fun g5=>?_) (fun g5=>?_)
   ·rw[if_pos (show j<b by omega)]at hu
    have f6:=eX u (i:=j) oO ((j:Int)).toNat oO
    have f7:=eX u (i:=j-1) oO ((j:Int)-1).toNat oO
    have hcc:=hc _ _ (hdu.2 j oO) (hdu.2 (j-1) oO)
    refine gg17 ?_
    refine uU ?_
    apply fP (hx:=O) (ha:=O) (hf:=hf)
    ·exact hcc
    ·exact uK
    rintro _ _⟨rfl,rfl⟩
    simp only[uV,uW]
    refine gg4 ?_
    refine fJ O (fun g6=>?_) (fun g6=>?_)
    ·rw[if_pos (by simp[ltF,g6])]at hu
     subst hu
     refine gg13 ?_
     refine bS (ι:=Nat×Nat×Array Nat) (j:=(s,i2,u)) ⟨he,hdu,by show s≤5;omega,by show a+1≤i2;omega,by show i2≤b;omega⟩ (by show s<s+1;omega) ⟨rfl,rfl,rfl,rfl,rfl,congrArg some (bW (by simp only;omega)),trivial⟩ uI
    rw[if_neg (by simp[ltF,g6])]at hu
    refine gg2 ?_
    refine eF 15 ([sl (some ⟨g,0,none⟩) c 56 1 n (dC u),q]) [(17,[])] ?_ ?_
    ·exact uI
    refine uP 0 O (aB O) (uP 1 O (aB O) (uP 2 O (aB O) (uP 3 O (aB O) (uP 4 O (uAs O O) (uP 5 O (aB O) (uP 6 O (aB O) (uP 7 O (uAs O O) (uP 8 O (uAj O O) ?_))))))))
    refine uQ 9 O (uY) ?_
    refine uP 10 O (aB O) (uP 11 O (aB O) (uP 12 O (uAj O O) ?_))
    refine uQ 13 O (uY) ?_
    refine uP 14 O (uAj O O) ?_
    apply gD O oK O
    refine uJ ?_
    refine uE ?_
    refine uP 16 O (uAj O O) ?_
    apply gB O oK oK O
    refine uJ ?_
    refine gg7 ?_
    simp only[bP]
    rw[kP u (i:=j) (j:=(j-1)) oO oO]
    case ho=>omega
    case ho'=>omega
    refine bS (ι:=Nat×Array Nat) (j:=(j+1,swp u j (j-1))) ⟨hu,hdu.swp oO oO,by show 1≤j+1;omega,by show j+1≤b;omega⟩ (by show b-(j+1)<b-j;omega) ⟨rfl,rfl,rfl,rfl,rfl,rfl,congrArg some (bW (by simp only;omega)),trivial⟩ uI
   rw[if_neg (show ¬j<b by omega)]at hu
   subst hu
   refine gg11 ?_
   refine bS (ι:=Nat×Nat×Array Nat) (j:=(s,i2,u)) ⟨he,hdu,by show s≤5;omega,by show a+1≤i2;omega,by show i2≤b;omega⟩ (by show s<s+1;omega) ⟨rfl,rfl,rfl,rfl,rfl,congrArg some (bW (by simp only;omega)),trivial⟩ uI
  rw[if_neg oO]at he3
  subst he3
  refine gg8 ?_
  refine bS (ι:=Nat×Nat×Array Nat) (j:=(s,i2,e2)) ⟨he,hd2,by show s≤5;omega,by show a+1≤i2;omega,by show i2≤b;omega⟩ (by show s<s+1;omega) ⟨rfl,rfl,rfl,rfl,rfl,congrArg some (bW (by simp only;omega)),trivial⟩ uI
 obtain rfl:s=0:=by omega
 rw[partialIns]at he
 subst he
 refine gg11 ?_
 exact uZ O (.tmp O .nil) ⟨O,O,hde⟩
end
end Go.Proofs.YtjbdlljghogodaaGreatDoor
