import Derived.Test.YtjbdlljghogodaaGreatDoorQ05
import Derived.Test.YtjbdlljghogodaaGreatDoorQ13
import Derived.Sort.AssemblyPlain
set_option linter.all false
set_option maxHeartbeats 1000000
namespace Go.Proofs.YtjbdlljghogodaaGreatDoor
open Go Go.RowKit Sl Eg
set_option maxRecDepth 10000
section
variable {E:Env}
def dC (d:Array Nat):List Value:=idC d.toList
theorem dC_len (d:Array Nat):(dC d).length=d.size:=by simp[dC,idC]
theorem eX (d:Array Nat){i:Nat}(h:i<d.size)(o:Nat)(ho:o=i):(dC d)[o]?=some (.int .i64 (d[i]!:Nat)):=by
 subst ho
 simp[dC,idC,h]
theorem dC_set (d:Array Nat){i:Nat}(h:i<d.size)(x o:Nat)(ho:o=i):bX (dC d) o [.int .i64 (x:Nat)]=dC (d.setIfInBounds i x):=by
 subst ho
 rw[iV _ _ _ (by rw[dC_len];simp;omega)]
 apply List.ext_getElem?
 intro k
 simp only[dC,idC,Array.toList_setIfInBounds,List.length_singleton]
 rw[List.map_set]
 rw[List.set_eq_take_append_cons_drop]
 simp[h]
theorem kP (d:Array Nat){i j:Nat}(hi:i<d.size)(hj:j<d.size)(o o':Nat)(ho:o=i)(ho':o'=j):bX (bX (dC d) o [.int .i64 (d[j]!:Nat)]) o' [.int .i64 (d[i]!:Nat)]=dC (Go.Sort.swp d i j):=by
 rw[dC_set d hi _ o ho,dC_set _ (by simpa using hj) _ o' ho']
 rfl
def OkD (ok:Nat→Prop)(n:Nat)(d:Array Nat):Prop:=d.size=n∧∀i,i<n→ok d[i]!
theorem OkD.swp {ok:Nat→Prop}{n:Nat}{d:Array Nat}(h:OkD ok n d){i j:Nat}(hi:i<n)(hj:j<n):OkD ok n (Go.Sort.swp d i j):=by
 obtain⟨hs,ho⟩:=h
 refine⟨by simp[Go.Sort.swp,hs],fun k hk=>?_⟩
 have ki:k<d.size:=oO
 simp only[Go.Sort.swp]
 have e:((d.setIfInBounds i d[j]!).setIfInBounds j d[i]!)[k]! =if j=k then d[i]! else if i=k then d[j]! else d[k]!:=by
  rw[getElem!_pos _ k (by simpa using ki),Array.getElem_setIfInBounds (by simpa using ki)]
  split
  ·rfl
  rw[Array.getElem_setIfInBounds ki]
  split
  ·rfl
  rw[getElem!_pos d k ki]
 rw[e]
 split
 ·exact ho i hi
 split
 ·exact ho j hj
 exact ho k hk
variable {fc:FuncId}{caps:List Value}{q:HP}{ok:Nat→Prop}{cf:Nat→Nat→Int}{g c n:Nat}
def Cmp (E:Env)(fc:FuncId)(caps:List Value)(q:HP)(ok:Nat→Prop)(cf:Nat→Nat→Int):Prop:=∀x y,ok x→ok y→Ct E fc (.int .i64 (x:Nat):: .int .i64 (y:Nat)::caps) [q] (fun v Q=>v= .int .i64 (cf x y)∧Q=[q])
def ltF (cf:Nat→Nat→Int)(x y:Nat):Bool:=decide (cf x y<0)
theorem zX (hE:Seat E)(hf:goFn E.P fc=true)(hc:Cmp E fc caps q ok cf){d:Array Nat}(hd:OkD ok n d){a b sw k:Nat}(ha:a<n)(hb:b<n)(hk:k<1000):
  Ct E 244 [.slice (some ⟨g,0,none⟩) n c,.int .i64 (a:Nat),.int .i64 (b:Nat),uPt sw,.func (.func fc) #[] ⟨caps⟩] [cells sw [.int .i64 (k:Nat)] 3,sl (some ⟨g,0,none⟩) c 56 1 n (dC d),q]
   (fun v Q=>v= .tuple #[.int .i64 ((Go.Sort.order2 (ltF cf) d a b k).1:Nat),.int .i64 ((Go.Sort.order2 (ltF cf) d a b k).2.1:Nat)]∧Q=[cells sw [.int .i64 ((Go.Sort.order2 (ltF cf) d a b k).2.2:Nat)] 3,sl (some ⟨g,0,none⟩) c 56 1 n (dC d),q]):=by
 have hs:=hd.1
 have f0:=eX d (i:=b) oO ((b:Int)).toNat oO
 have f1:=eX d (i:=a) oO ((a:Int)).toNat oO
 have hcc:=hc _ _ (hd.2 b hb) (hd.2 a ha)
 refine bO (hE.fn Tryz.func244) O O O (fun R=>?_)
 simp only[dR,uV,uW]
 refine gg18 ?_
 refine uU ?_
 apply fP (hx:=O) (ha:=O) (hf:=hf)
 ·exact hcc
 ·exact uK
 rintro _ _⟨rfl,rfl⟩
 simp only[uV,uW]
 refine gg3 ?_
 refine bE O (fun h1=>?_) (fun h1=>?_)
 ·have e:Go.Sort.order2 (ltF cf) d a b k=(b,a,k+1):=by unfold Go.Sort.order2;rw[if_pos (by simp[ltF,h1])]
  rw[e]
  refine gg6 ?_
  refine l_eq 26 (.int .i64 ((k+1:Nat):Int)) O (bW oO) ?_
  refine gg14 ?_
  exact uZ O (.tmp O (.tmp O .nil)) ⟨O,O⟩
 have e:Go.Sort.order2 (ltF cf) d a b k=(a,b,k):=by unfold Go.Sort.order2;rw[if_neg (by simp[ltF,h1])]
 rw[e]
 refine gg11 ?_
 exact uZ O (.tmp O (.tmp O .nil)) ⟨O,O⟩
open Go.Sort in
theorem rF {lt:Nat→Nat→Bool}{d:Array Nat}{a b k m:Nat}(ha:a<m)(hb:b<m):(order2 lt d a b k).1<m∧(order2 lt d a b k).2.1<m∧(order2 lt d a b k).2.2≤k+1:=by
 unfold order2
 split
 ·exact⟨hb,ha,Nat.le_refl _⟩
 exact⟨ha,hb,Nat.le_succ _⟩
open Go.Sort in
theorem qAw {lt:Nat→Nat→Bool}{d:Array Nat}{a b e k m:Nat}(ha:a<m)(hb:b<m)(he:e<m):(median lt d a b e k).1<m∧(median lt d a b e k).2≤k+3:=by
 have h1:=rF (lt:=lt) (d:=d) (k:=k) ha hb
 have h2:=rF (lt:=lt) (d:=d) (k:=(order2 lt d a b k).2.2) h1.2.1 he
 have h3:=rF (lt:=lt) (d:=d) (k:=(order2 lt d (order2 lt d a b k).2.1 e (order2 lt d a b k).2.2).2.2) h1.1 h2.1
 unfold median
 exact⟨h3.2.1,by simp only;omega⟩
theorem zV (hE:Seat E)(hf:goFn E.P fc=true)(hc:Cmp E fc caps q ok cf){d:Array Nat}(hd:OkD ok n d){a b e sw k:Nat}(ha:a<n)(hb:b<n)(he:e<n)(hk:k<900):
  Ct E 212 [.slice (some ⟨g,0,none⟩) n c,.int .i64 (a:Nat),.int .i64 (b:Nat),.int .i64 (e:Nat),uPt sw,.func (.func fc) #[] ⟨caps⟩] [cells sw [.int .i64 (k:Nat)] 3,sl (some ⟨g,0,none⟩) c 56 1 n (dC d),q]
   (fun v Q=>v= .int .i64 ((Go.Sort.median (ltF cf) d a b e k).1:Nat)∧Q=[cells sw [.int .i64 ((Go.Sort.median (ltF cf) d a b e k).2:Nat)] 3,sl (some ⟨g,0,none⟩) c 56 1 n (dC d),q]):=by
 have h1:=rF (lt:=ltF cf) (d:=d) (k:=k) ha hb
 have h2:=rF (lt:=ltF cf) (d:=d) (k:=(Go.Sort.order2 (ltF cf) d a b k).2.2) h1.2.1 he
 unfold Go.Sort.median
 simp only
 refine bO (hE.fn Tryz.func212) O O O (fun R=>?_)
 simp only[dR,uV,uW]
 refine gg12 ?_
 refine uX (zX (k:=k) hE hf hc hd ha hb oO) O ?_
 rintro _ _⟨rfl,rfl⟩
 simp only[uV,uW]
 refine gg14 ?_
 refine uX (zX (k:=(Go.Sort.order2 (ltF cf) d a b k).2.2) hE hf hc hd h1.2.1 he oO) O ?_
 rintro _ _⟨rfl,rfl⟩
 simp only[uV,uW]
 refine gg14 ?_
 refine uX (zX (k:=(Go.Sort.order2 (ltF cf) d (Go.Sort.order2 (ltF cf) d a b k).2.1 e (Go.Sort.order2 (ltF cf) d a b k).2.2).2.2) hE hf hc hd h1.1 h2.1 oO) O ?_
 rintro _ _⟨rfl,rfl⟩
 simp only[uV,uW]
 refine gg14 ?_
 exact uZ O (.tmp O .nil) ⟨O,O⟩
theorem kT (hE:Seat E)(hf:goFn E.P fc=true)(hc:Cmp E fc caps q ok cf){d:Array Nat}(hd:OkD ok n d){a sw k:Nat}(ha:a+1<n)(h1:1≤a)(hn:n<1099511627776)(hk:k<900):
  Ct E 211 [.slice (some ⟨g,0,none⟩) n c,.int .i64 (a:Nat),uPt sw,.func (.func fc) #[] ⟨caps⟩] [cells sw [.int .i64 (k:Nat)] 3,sl (some ⟨g,0,none⟩) c 56 1 n (dC d),q]
   (fun v Q=>v= .int .i64 ((Go.Sort.medianAdjacent (ltF cf) d a k).1:Nat)∧Q=[cells sw [.int .i64 ((Go.Sort.medianAdjacent (ltF cf) d a k).2:Nat)] 3,sl (some ⟨g,0,none⟩) c 56 1 n (dC d),q]):=by
 unfold Go.Sort.medianAdjacent
 refine bO (hE.fn Tryz.func211) O O O (fun R=>?_)
 simp only[dR,uV,uW]
 refine gg15 ?_
 refine l_eq 11 (.int .i64 ((a-1:Nat):Int)) O (bW oO) ?_
 refine l_eq 14 (.int .i64 ((a+1:Nat):Int)) O (bW oO) ?_
 refine uX (zV (a:=a-1) (b:=a) (e:=a+1) (k:=k) hE hf hc hd oO oO ha hk) O ?_
 rintro _ _⟨rfl,rfl⟩
 simp only[uV,uW]
 refine gg4 ?_
 exact uZ O (.tmp O .nil) ⟨O,O⟩
def qNz:Go.Sort.Hint→Nat
 | .unknown=>0
 | .increasing=>1
 | .decreasing=>2
theorem qBy (hE:Seat E)(hf:goFn E.P fc=true)(hc:Cmp E fc caps q ok cf){d:Array Nat}(hd:OkD ok n d){a b:Nat}(hab:a+12<b)(hb:b≤n)(hn:n<1099511627776):
  Ct E 158 [.slice (some ⟨g,0,none⟩) n c,.int .i64 (a:Nat),.int .i64 (b:Nat),.func (.func fc) #[] ⟨caps⟩] [sl (some ⟨g,0,none⟩) c 56 1 n (dC d),q]
   (fun v Q=>v= .tuple #[.int .i64 ((Go.Sort.choosePivot (ltF cf) d a b).1:Nat),.int .i64 (qNz (Go.Sort.choosePivot (ltF cf) d a b).2:Nat)]∧Q=[sl (some ⟨g,0,none⟩) c 56 1 n (dC d),q]):=by
 refine bO (hE.fn Tryz.func158) O O O (fun R=>?_)
 simp only[dR,uV,uW]
 refine gg14 ?_
 obtain⟨l,hl⟩:∃l,l=b-a:=⟨_,rfl⟩
 obtain⟨i,hi⟩:∃i,i=a+l/4*1:=⟨_,rfl⟩
 obtain⟨j,hj⟩:∃j,j=a+l/4*2:=⟨_,rfl⟩
 obtain⟨m,hm⟩:∃m,m=a+l/4*3:=⟨_,rfl⟩
 refine w_eq 10 (.int .i64 ((l:Nat):Int)) O (bW oO) ?_
 refine gg2 ?_
 refine uU (cZ (hE.t O) (fun b11=>?_))
 refine gg32 ?_
 refine w_eq 12 (.int .i64 ((i:Nat):Int)) O (bW oO) ?_
 refine w_eq 13 (.int .i64 ((j:Nat):Int)) O (bW oO) ?_
 refine w_eq 14 (.int .i64 ((m:Nat):Int)) O (bW oO) ?_
 refine gg7 ?_
 refine bE O (fun h8=>?_) (fun h8=>?_)
 ·have hh:∀r:Nat×Nat,(if l≥50 then Go.Sort.median (ltF cf) d (Go.Sort.medianAdjacent (ltF cf) d i 0).1 (Go.Sort.medianAdjacent (ltF cf) d j (Go.Sort.medianAdjacent (ltF cf) d i 0).2).1 (Go.Sort.medianAdjacent (ltF cf) d m (Go.Sort.medianAdjacent (ltF cf) d j (Go.Sort.medianAdjacent (ltF cf) d i 0).2).2).1 (Go.Sort.medianAdjacent (ltF cf) d m (Go.Sort.medianAdjacent (ltF cf) d j (Go.Sort.medianAdjacent (ltF cf) d i 0).2).2).2 else Go.Sort.median (ltF cf) d i j m 0)=r→Go.Sort.choosePivot (ltF cf) d a b=(r.1,if r.2=0 then .increasing else if r.2=12 then .decreasing else .unknown):=by
   intro r hr
   subst hr
   unfold Go.Sort.choosePivot
   simp only[←hl,←hi,←hj,←hm,if_pos (show l≥8 by omega)]
  refine gg7 ?_
  refine bE O (fun h50=>?_) (fun h50=>?_)
  ·rw[if_pos (show l≥50 by omega)]at hh
   refine gg5 ?_
   refine uX (kT (a:=i) (k:=0) hE hf hc hd oO oO hn oO) O ?_
   rintro _ _⟨rfl,rfl⟩
   simp only[uV,uW]
   refine gg8 ?_
   have c1:=(qAw (lt:=ltF cf) (d:=d) (a:=i-1) (b:=i) (e:=i+1) (k:=0) (m:=n) oO oO oO)
   have c1':(Go.Sort.medianAdjacent (ltF cf) d i 0).1<n∧(Go.Sort.medianAdjacent (ltF cf) d i 0).2≤0+3:=c1
   refine uX (kT (a:=j) (k:=(Go.Sort.medianAdjacent (ltF cf) d i 0).2) hE hf hc hd oO oO hn oO) O ?_
   rintro _ _⟨rfl,rfl⟩
   simp only[uV,uW]
   refine gg7 ?_
   have c2:=(qAw (lt:=ltF cf) (d:=d) (a:=j-1) (b:=j) (e:=j+1) (k:=(Go.Sort.medianAdjacent (ltF cf) d i 0).2) (m:=n) oO oO oO)
   have c2':(Go.Sort.medianAdjacent (ltF cf) d j (Go.Sort.medianAdjacent (ltF cf) d i 0).2).1<n∧(Go.Sort.medianAdjacent (ltF cf) d j (Go.Sort.medianAdjacent (ltF cf) d i 0).2).2≤(Go.Sort.medianAdjacent (ltF cf) d i 0).2+3:=c2
   refine uX (kT (a:=m) (k:=(Go.Sort.medianAdjacent (ltF cf) d j (Go.Sort.medianAdjacent (ltF cf) d i 0).2).2) hE hf hc hd oO oO hn oO) O ?_
   rintro _ _⟨rfl,rfl⟩
   simp only[uV,uW]
   refine gg9 ?_
   have c3:=(qAw (lt:=ltF cf) (d:=d) (a:=m-1) (b:=m) (e:=m+1) (k:=(Go.Sort.medianAdjacent (ltF cf) d j (Go.Sort.medianAdjacent (ltF cf) d i 0).2).2) (m:=n) oO oO oO)
   have c3':(Go.Sort.medianAdjacent (ltF cf) d m (Go.Sort.medianAdjacent (ltF cf) d j (Go.Sort.medianAdjacent (ltF cf) d i 0).2).2).1<n∧(Go.Sort.medianAdjacent (ltF cf) d m (Go.Sort.medianAdjacent (ltF cf) d j (Go.Sort.medianAdjacent (ltF cf) d i 0).2).2).2≤(Go.Sort.medianAdjacent (ltF cf) d j (Go.Sort.medianAdjacent (ltF cf) d i 0).2).2+3:=c3
   clear c1 c2 c3
   generalize Go.Sort.medianAdjacent (ltF cf) d m (Go.Sort.medianAdjacent (ltF cf) d j (Go.Sort.medianAdjacent (ltF cf) d i 0).2).2=r3 at*
   generalize Go.Sort.medianAdjacent (ltF cf) d j (Go.Sort.medianAdjacent (ltF cf) d i 0).2=r2 at*
   generalize Go.Sort.medianAdjacent (ltF cf) d i 0=r1 at*
   refine uX (zV (a:=r1.1) (b:=r2.1) (e:=r3.1) (k:=r3.2) hE hf hc hd c1'.1 c2'.1 c3'.1 oO) O ?_
   rintro _ _⟨rfl,rfl⟩
   simp only[uV,uW]
   generalize Go.Sort.median (ltF cf) d r1.1 r2.1 r3.1 r3.2=r at*
   rw[hh r rfl]
   refine gg15 ?_
   refine bE O (fun g0=>?_) (fun g0=>?_)
   ·rw[if_pos oO]
    refine gg9 ?_
    exact uZ O (.tmp O (.tmp O .nil)) ⟨O,O⟩
   rw[if_neg oO]
   refine gg6 ?_
   refine bE O (fun g1=>?_) (fun g1=>?_)
   ·rw[if_pos oO]
    refine gg9 ?_
    exact uZ O (.tmp O (.tmp O .nil)) ⟨O,O⟩
   rw[if_neg oO]
   refine gg9 ?_
   exact uZ O (.tmp O (.tmp O .nil)) ⟨O,O⟩
  rw[if_neg (show ¬l≥50 by omega)]at hh
  refine gg8 ?_
  refine uX (zV (a:=i) (b:=j) (e:=m) (k:=0) hE hf hc hd oO oO oO oO) O ?_
  rintro _ _⟨rfl,rfl⟩
  simp only[uV,uW]
  generalize Go.Sort.median (ltF cf) d i j m 0=r at*
  rw[hh r rfl]
  refine gg15 ?_
  refine bE O (fun g0=>?_) (fun g0=>?_)
  ·rw[if_pos oO]
   refine gg9 ?_
   exact uZ O (.tmp O (.tmp O .nil)) ⟨O,O⟩
  rw[if_neg oO]
  refine gg6 ?_
  refine bE O (fun g1=>?_) (fun g1=>?_)
  ·rw[if_pos oO]
   refine gg9 ?_
   exact uZ O (.tmp O (.tmp O .nil)) ⟨O,O⟩
  rw[if_neg oO]
  refine gg9 ?_
  exact uZ O (.tmp O (.tmp O .nil)) ⟨O,O⟩
 exfalso;omega
end
section
variable {E:Env}
variable {fc:FuncId}{caps:List Value}{q:HP}{ok:Nat→Prop}{cf:Nat→Nat→Int}{g c n:Nat}
open Go.Sort in
theorem zZ (hE:Seat E){d:Array Nat}(hd:OkD ok n d){a b:Nat}(hab:a<b)(hb:b≤n)(hn:n<1099511627776):
  Ct E 159 [.slice (some ⟨g,0,none⟩) n c,.int .i64 (a:Nat),.int .i64 (b:Nat),.func (.func fc) #[] ⟨caps⟩] [sl (some ⟨g,0,none⟩) c 56 1 n (dC d),q]
   (fun v Q=>v= .tuple #[]∧Q=[sl (some ⟨g,0,none⟩) c 56 1 n (dC (reverseRange d a b)),q]∧OkD ok n (reverseRange d a b)):=by
 refine bO (hE.fn Tryz.func159) O O O (fun R=>?_)
 simp only[dR,uV,uW]
 refine gg14 ?_
 refine dW (fun x:Nat×Nat×Array Nat=>[(0,.slice (some ⟨g,0,none⟩) n c),(8,.int .i64 (x.1:Nat)),(9,.int .i64 (x.2.1:Nat))]) (fun x=>[sl (some ⟨g,0,none⟩) c 56 1 n (dC x.2.2),q,R]) (fun x=>x.2.1-x.1) (fun x=>reverseLoop x.1 x.2.1 x.2.2=reverseRange d a b∧OkD ok n x.2.2∧x.2.1<n∧x.1≤n) (a,b-1,d) ?_ ?_ ?_ ?_
 ·exact⟨O,hd,by show b-1<n;omega,by show a≤n;omega⟩
 ·exact⟨O,O,congrArg some (bW (by simp only;omega)),trivial⟩
 ·exact uI
 rintro⟨i,j,e⟩⟨he,hd',hj,hi⟩
 simp only at he hd' hj hi ⊢
 have hs:=hd'.1
 refine gg8 ?_
 refine bE O (fun h1=>?_) (fun h1=>?_)
 ·have f0:=eX e (i:=i) oO ((i:Int)).toNat oO
  have f1:=eX e (i:=j) oO ((j:Int)).toNat oO
  refine gg4 ?_
  refine eF 13 ([sl (some ⟨g,0,none⟩) c 56 1 n (dC e),q]) [(15,[])] ?_ ?_
  ·exact uI
  refine uP 0 O (aB O) (uP 1 O (aB O) (uP 2 O (aB O) (uP 3 O (aB O) (uP 4 O (aB O) (uP 5 O (aB O) (uP 6 O (uAj O O) ?_))))))
  refine uQ 7 O (uY) ?_
  refine uP 8 O (aB O) (uP 9 O (aB O) (uP 10 O (uAj O O) ?_))
  refine uQ 11 O (uY) ?_
  refine uP 12 O (uAj O O) ?_
  apply gD O oK O
  refine uJ ?_
  refine uE ?_
  refine uP 14 O (uAj O O) ?_
  apply gB O oK oK O
  refine uJ ?_
  refine gg14 ?_
  simp only[bP]
  rw[kP e (i:=i) (j:=j) oO oO]
  case ho=>omega
  case ho'=>omega
  refine bS (ι:=Nat×Nat×Array Nat) (j:=(i+1,j-1,swp e i j)) ⟨?_,hd'.swp oO hj,by show j-1<n;omega,by show i+1≤n;omega⟩ (by show j-1-(i+1)<j-i;omega) ⟨rfl,rfl,?_,trivial⟩ uI
  ·rw[←he]
   conv=>rhs;rw[reverseLoop,if_pos (show i<j by omega)]
  exact congrArg some (bW (by simp only;omega))
 rw[reverseLoop,if_neg (show ¬i<j by omega)]at he
 subst he
 refine gg4 ?_
 exact uZe O .nil ⟨O,O,hd'⟩
open Go.Sort in
theorem yV (hE:Seat E)(hf:goFn E.P fc=true)(hc:Cmp E fc caps q ok cf){d:Array Nat}(hd:OkD ok n d){a b:Nat}(hab:a≤b)(hb:b≤n)(hn:n<1099511627776):
  Ct E 155 [.slice (some ⟨g,0,none⟩) n c,.int .i64 (a:Nat),.int .i64 (b:Nat),.func (.func fc) #[] ⟨caps⟩] [sl (some ⟨g,0,none⟩) c 56 1 n (dC d),q]
   (fun v Q=>v= .tuple #[]∧Q=[sl (some ⟨g,0,none⟩) c 56 1 n (dC (insertionSort (ltF cf) d a b)),q]∧OkD ok n (insertionSort (ltF cf) d a b)):=by
 refine bO (hE.fn Tryz.func155) O O O (fun R=>?_)
 simp only[dR,uV,uW]
 refine gg8 ?_
 refine dW (fun x:Nat×Array Nat=>[(0,.slice (some ⟨g,0,none⟩) n c),(1,.int .i64 (a:Nat)),(2,.int .i64 (b:Nat)),(3,.func (.func fc) #[] ⟨caps⟩),(8,.int .i64 (x.1:Nat))]) (fun x=>[sl (some ⟨g,0,none⟩) c 56 1 n (dC x.2),q,R]) (fun x=>b-x.1) (fun x=>insOuter (ltF cf) a b x.1 x.2=insertionSort (ltF cf) d a b∧OkD ok n x.2∧a+1≤x.1∧x.1≤n+1) (a+1,d) ?_ ?_ ?_ ?_
 ·exact⟨O,hd,Nat.le_refl _,by show a+1≤n+1;omega⟩
 ·exact⟨O,O,O,O,congrArg some (bW (by simp only;omega)),trivial⟩
 ·exact uI
 rintro⟨i,e⟩⟨he,hd',hi,hi2⟩
 simp only at he hd' hi hi2 ⊢
 refine gg8 ?_
 refine bE O (fun h1=>?_) (fun h1=>?_)
 ·rw[insOuter,if_pos (show i<b by omega)]at he
  refine gg11 ?_
  refine dW (fun x:Nat×Array Nat=>[(0,.slice (some ⟨g,0,none⟩) n c),(1,.int .i64 (a:Nat)),(2,.int .i64 (b:Nat)),(3,.func (.func fc) #[] ⟨caps⟩),(8,.int .i64 (i:Nat)),(9,.int .i64 (x.1:Nat))]) (fun x=>[sl (some ⟨g,0,none⟩) c 56 1 n (dC x.2),q,R]) (fun x=>x.1) (fun x=>insInner (ltF cf) a x.1 x.2=insInner (ltF cf) a i e∧OkD ok n x.2∧x.1≤i) (i,e) ?_ ?_ ?_ ?_
  ·exact⟨O,hd',Nat.le_refl _⟩
  ·exact⟨O,O,O,O,O,O,trivial⟩
  ·exact uI
  rintro⟨j,u⟩⟨hu,hdu,hj⟩
  simp only at hu hdu hj ⊢
  have hs:=hdu.1
  refine gg7 ?_
  refine dS 21 O (fun h2=>?_) (fun h2=>?_)
  ·obtain⟨j,rfl⟩:∃k,j=k+1:=⟨j-1,oO⟩
   have f0:=eX u (i:=j+1) oO (((j+1:Nat):Int)).toNat oO
   have f1:=eX u (i:=j) oO (((j+1:Nat):Int)-1).toNat oO
   have hcc:=hc _ _ (hdu.2 (j+1) oO) (hdu.2 j oO)
   refine gg21 ?_
   refine uU ?_
   apply fP (hx:=O) (ha:=O) (hf:=hf)
   ·exact hcc
   ·exact uK
   rintro _ _⟨rfl,rfl⟩
   simp only[uV,uW]
   refine gg5 ?_
   refine bE O (fun h3=>?_) (fun h3=>?_)
   ·refine gg4 ?_
    refine eF 15 ([sl (some ⟨g,0,none⟩) c 56 1 n (dC u),q]) [(17,[])] ?_ ?_
    ·exact uI
    refine uP 0 O (aB O) (uP 1 O (aB O) (uP 2 O (aB O) (uP 3 O (aB O) (uP 4 O (uAs O O) (uP 5 O (aB O) (uP 6 O (aB O) (uP 7 O (uAs O O) (uP 8 O (uAj O O) ?_))))))))
    refine uQ 9 O (uY) ?_
    refine uP 10 O (aB O) (uP 11 O (aB O) (uP 12 O (uAj O O) ?_))
    refine uQ 13 O (uY) ?_
    refine uP 14 O (uAj O O) ?_
    apply gD O oK O
    refine uJ ?_
    refine uE ?_
    refine uP 16 O (uAj O O) ?_
    apply gB O oK oK O
    refine uJ ?_
    refine gg7 ?_
    simp only[bP]
    rw[kP u (i:=(j+1)) (j:=j) oO oO]
    case ho=>omega
    case ho'=>omega
    refine bS (ι:=Nat×Array Nat) (j:=(j,swp u (j+1) j)) ⟨?_,hdu.swp oO oO,by show j≤i;omega⟩ (by show j<j+1;omega) ⟨rfl,rfl,rfl,rfl,rfl,congrArg some (bW (by simp only;omega)),trivial⟩ uI
    rw[←hu]
    conv=>rhs;rw[insInner,if_pos (by simp[ltF,h3];omega)]
   rw[insInner,if_neg (by simp[ltF,h3])]at hu
   rw[←hu]at he
   refine gg11 ?_
   refine bS (ι:=Nat×Array Nat) (j:=(i+1,u)) ⟨he,hdu,by show a+1≤i+1;omega,by show i+1≤n+1;omega⟩ (by show b-(i+1)<b-i;omega) ⟨rfl,rfl,rfl,rfl,congrArg some (bW (by simp only;omega)),trivial⟩ uI
  have hu':u=insInner (ltF cf) a i e:=by
   rw[←hu]
   cases j with
   |zero=>rfl
   |succ j=>rw[insInner,if_neg (by simp;omega)]
  rw[←hu']at he
  refine gg27 ?_
  refine bS (ι:=Nat×Array Nat) (j:=(i+1,u)) ⟨he,hdu,by show a+1≤i+1;omega,by show i+1≤n+1;omega⟩ (by show b-(i+1)<b-i;omega) ⟨rfl,rfl,rfl,rfl,congrArg some (bW (by simp only;omega)),trivial⟩ uI
 rw[insOuter,if_neg (show ¬i<b by omega)]at he
 subst he
 refine gg4 ?_
 exact uZe O .nil ⟨O,O,hd'⟩
open Go.Sort in
theorem vN {lt:Nat→Nat→Bool}{hi first root ch:Nat}{d:Array Nat}(h:¬2*root+1≥hi)(hc:ch<hi)(e:if 2*root+1+1<hi&&lt d[first +(2*root+1)]! d[first +(2*root+1)+1]! then ch=2*root+2 else ch=2*root+1):
  siftDown lt hi first root d=if !lt d[first +root]! d[first +ch]! then d else siftDown lt hi first ch (swp d (first +root) (first +ch)):=by
 rw[siftDown,dif_neg h]
 split at e
 ·rename_i h1
  subst e
  rw[if_pos h1]
  split
  ·rfl
  first |rw[dif_pos hc]|rfl
 rename_i h1
 subst e
 rw[if_neg h1]
open Go.Sort in
theorem qAa (hE:Seat E)(hf:goFn E.P fc=true)(hc:Cmp E fc caps q ok cf){d:Array Nat}(hd:OkD ok n d){lo hi first:Nat}(hlo:lo≤n)(hb:first +hi≤n)(hn:n<1099511627776):
  Ct E 208 [.slice (some ⟨g,0,none⟩) n c,.int .i64 (lo:Nat),.int .i64 (hi:Nat),.int .i64 (first:Nat),.func (.func fc) #[] ⟨caps⟩] [sl (some ⟨g,0,none⟩) c 56 1 n (dC d),q]
   (fun v Q=>v= .tuple #[]∧Q=[sl (some ⟨g,0,none⟩) c 56 1 n (dC (siftDown (ltF cf) hi first lo d)),q]∧OkD ok n (siftDown (ltF cf) hi first lo d)):=by
 refine bO (hE.fn Tryz.func208) O O O (fun R=>?_)
 simp only[dR,uV,uW]
 refine gg7 ?_
 refine dW (fun x:Nat×Array Nat=>[(0,.slice (some ⟨g,0,none⟩) n c),(2,.int .i64 (hi:Nat)),(3,.int .i64 (first:Nat)),(4,.func (.func fc) #[] ⟨caps⟩),(10,.int .i64 (x.1:Nat))]) (fun x=>[sl (some ⟨g,0,none⟩) c 56 1 n (dC x.2),q,R]) (fun x=>hi-x.1) (fun x=>siftDown (ltF cf) hi first x.1 x.2=siftDown (ltF cf) hi first lo d∧OkD ok n x.2∧x.1≤n) (lo,d) ?_ ?_ ?_ ?_
 ·exact⟨O,hd,hlo⟩
 ·exact⟨O,O,O,O,O,trivial⟩
 ·exact uI
 rintro⟨ro,e⟩⟨he,hd',hro⟩
 simp only at he hd' hro ⊢
 have hs:=hd'.1
 refine gg17 ?_
 refine bE O (fun h1=>?_) (fun h1=>?_)
 ·rw[siftDown,dif_pos (show 2*ro+1≥hi by omega)]at he
  subst he
  refine gg5 ?_
  exact uZe O .nil ⟨O,O,hd'⟩
 refine gg10 ?_
 refine dS 23 O (fun h2=>?_) (fun h2=>?_)
 ·have f0:=eX e (i:=first +(2*ro+1)) oO ((first:Int)+(2*(ro:Int)+1)).toNat oO
  have f1:=eX e (i:=first +(2*ro+1)+1) oO ((first:Int)+(2*(ro:Int)+1)+1).toNat oO
  have hcc:=hc _ _ (hd'.2 (first +(2*ro+1)) oO) (hd'.2 (first +(2*ro+1)+1) oO)
  refine gg29 ?_
  refine uU ?_
  apply fP (hx:=O) (ha:=O) (hf:=hf)
  ·exact hcc
  ·exact uK
  rintro _ _⟨rfl,rfl⟩
  simp only[uV,uW]
  refine gg5 ?_
  refine bE O (fun h3=>?_) (fun h3=>?_)
  ·have hk:=vN (lt:=ltF cf) (d:=e) (first:=first) (show ¬2*ro+1≥hi by omega) (show 2*ro+2<hi by omega) (by rw[if_pos (by simp[ltF,h3];omega)])
   refine gg6 ?_
   refine w_eq 11 (.int .i64 ((2*ro+2:Nat):Int)) O (bW oO) ?_
   rw[hk]at he
   have f2:=eX e (i:=first +ro) oO ((first:Int)+(ro:Int)).toNat oO
   have f3:=eX e (i:=first +(2*ro+2)) oO ((first:Int)+((2*ro+2:Nat):Int)).toNat oO
   have hcd:=hc _ _ (hd'.2 (first +ro) oO) (hd'.2 (first +(2*ro+2)) oO)
   refine gg16 ?_
   refine uU ?_
   apply fP (hx:=O) (ha:=O) (hf:=hf)
   ·exact hcd
   ·exact uK
   rintro _ _⟨rfl,rfl⟩
   simp only[uV,uW]
   refine gg4 ?_
   refine fJ O (fun h5=>?_) (fun h5=>?_)
   ·rw[if_pos (by simp[ltF,h5])]at he
    subst he
    refine gg5 ?_
    exact uZ O .nil ⟨O,O,hd'⟩
   rw[if_neg (by simp[ltF,h5])]at he
   refine gg3 ?_
   refine eF 21 ([sl (some ⟨g,0,none⟩) c 56 1 n (dC e),q]) [(23,[])] ?_ ?_
   ·exact uI
   refine uP 0 O (aB O) (uP 1 O (aB O) (uP 2 O (aB O) (uP 3 O (uAa O O) (uP 4 O (aB O) (uP 5 O (aB O) (uP 6 O (aB O) (uP 7 O (uAa O O) (uP 8 O (aB O) (uP 9 O (aB O) (uP 10 O (aB O) (uP 11 O (uAa O O) (uP 12 O (uAj O O) ?_))))))))))))
   refine uQ 13 O (uY) ?_
   refine uP 14 O (aB O) (uP 15 O (aB O) (uP 16 O (aB O) (uP 17 O (uAa O O) (uP 18 O (uAj O O) ?_))))
   refine uQ 19 O (uY) ?_
   refine uP 20 O (uAj O O) ?_
   apply gD O oK O
   refine uJ ?_
   refine uE ?_
   refine uP 22 O (uAj O O) ?_
   apply gB O oK oK O
   refine uJ ?_
   refine gg6 ?_
   simp only[bP]
   rw[kP e (i:=(first +ro)) (j:=(first +(2*ro+2))) oO oO]
   case ho=>omega
   case ho'=>omega
   refine bS (ι:=Nat×Array Nat) (j:=(2*ro+2,swp e (first +ro) (first +(2*ro+2)))) ⟨he,hd'.swp oO oO,by show 2*ro+2≤n;omega⟩ (by show hi-(2*ro+2)<hi-ro;omega) ⟨rfl,rfl,rfl,rfl,rfl,trivial⟩ uI
  have hk:=vN (lt:=ltF cf) (d:=e) (first:=first) (show ¬2*ro+1≥hi by omega) (show 2*ro+1<hi by omega) (by rw[if_neg (by simp[ltF,h3])])
  refine gg2 ?_
  refine w_eq 11 (.int .i64 ((2*ro+1:Nat):Int)) O (bW oO) ?_
  rw[hk]at he
  have f2:=eX e (i:=first +ro) oO ((first:Int)+(ro:Int)).toNat oO
  have f3:=eX e (i:=first +(2*ro+1)) oO ((first:Int)+((2*ro+1:Nat):Int)).toNat oO
  have hcd:=hc _ _ (hd'.2 (first +ro) oO) (hd'.2 (first +(2*ro+1)) oO)
  refine gg16 ?_
  refine uU ?_
  apply fP (hx:=O) (ha:=O) (hf:=hf)
  ·exact hcd
  ·exact uK
  rintro _ _⟨rfl,rfl⟩
  simp only[uV,uW]
  refine gg4 ?_
  refine fJ O (fun h5=>?_) (fun h5=>?_)
  ·rw[if_pos (by simp[ltF,h5])]at he
   subst he
   refine gg5 ?_
   exact uZ O .nil ⟨O,O,hd'⟩
  rw[if_neg (by simp[ltF,h5])]at he
  refine gg3 ?_
  refine eF 21 ([sl (some ⟨g,0,none⟩) c 56 1 n (dC e),q]) [(23,[])] ?_ ?_
  ·exact uI
  refine uP 0 O (aB O) (uP 1 O (aB O) (uP 2 O (aB O) (uP 3 O (uAa O O) (uP 4 O (aB O) (uP 5 O (aB O) (uP 6 O (aB O) (uP 7 O (uAa O O) (uP 8 O (aB O) (uP 9 O (aB O) (uP 10 O (aB O) (uP 11 O (uAa O O) (uP 12 O (uAj O O) ?_))))))))))))
  refine uQ 13 O (uY) ?_
  refine uP 14 O (aB O) (uP 15 O (aB O) (uP 16 O (aB O) (uP 17 O (uAa O O) (uP 18 O (uAj O O) ?_))))
  refine uQ 19 O (uY) ?_
  refine uP 20 O (uAj O O) ?_
  apply gD O oK O
  refine uJ ?_
  refine uE ?_
  refine uP 22 O (uAj O O) ?_
  apply gB O oK oK O
  refine uJ ?_
  refine gg6 ?_
  simp only[bP]
  rw[kP e (i:=(first +ro)) (j:=(first +(2*ro+1))) oO oO]
  case ho=>omega
  case ho'=>omega
  refine bS (ι:=Nat×Array Nat) (j:=(2*ro+1,swp e (first +ro) (first +(2*ro+1)))) ⟨he,hd'.swp oO oO,by show 2*ro+1≤n;omega⟩ (by show hi-(2*ro+1)<hi-ro;omega) ⟨rfl,rfl,rfl,rfl,rfl,trivial⟩ uI
 have hk:=vN (lt:=ltF cf) (d:=e) (first:=first) (show ¬2*ro+1≥hi by omega) (show 2*ro+1<hi by omega) (by rw[if_neg (by simp;omega)])
 refine gg22 ?_
 refine w_eq 11 (.int .i64 ((2*ro+1:Nat):Int)) O (bW oO) ?_
 rw[hk]at he
 have f2:=eX e (i:=first +ro) oO ((first:Int)+(ro:Int)).toNat oO
 have f3:=eX e (i:=first +(2*ro+1)) oO ((first:Int)+((2*ro+1:Nat):Int)).toNat oO
 have hcd:=hc _ _ (hd'.2 (first +ro) oO) (hd'.2 (first +(2*ro+1)) oO)
 refine gg16 ?_
 refine uU ?_
 apply fP (hx:=O) (ha:=O) (hf:=hf)
 ·exact hcd
 ·exact uK
 rintro _ _⟨rfl,rfl⟩
 simp only[uV,uW]
 refine gg4 ?_
 refine fJ O (fun h5=>?_) (fun h5=>?_)
 ·rw[if_pos (by simp[ltF,h5])]at he
  subst he
  refine gg5 ?_
  exact uZ O .nil ⟨O,O,hd'⟩
 rw[if_neg (by simp[ltF,h5])]at he
 refine gg3 ?_
 refine eF 21 ([sl (some ⟨g,0,none⟩) c 56 1 n (dC e),q]) [(23,[])] ?_ ?_
 ·exact uI
 refine uP 0 O (aB O) (uP 1 O (aB O) (uP 2 O (aB O) (uP 3 O (uAa O O) (uP 4 O (aB O) (uP 5 O (aB O) (uP 6 O (aB O) (uP 7 O (uAa O O) (uP 8 O (aB O) (uP 9 O (aB O) (uP 10 O (aB O) (uP 11 O (uAa O O) (uP 12 O (uAj O O) ?_))))))))))))
 refine uQ 13 O (uY) ?_
 refine uP 14 O (aB O) (uP 15 O (aB O) (uP 16 O (aB O) (uP 17 O (uAa O O) (uP 18 O (uAj O O) ?_))))
 refine uQ 19 O (uY) ?_
 refine uP 20 O (uAj O O) ?_
 apply gD O oK O
 refine uJ ?_
 refine uE ?_
 refine uP 22 O (uAj O O) ?_
 apply gB O oK oK O
 refine uJ ?_
 refine gg6 ?_
 simp only[bP]
 rw[kP e (i:=(first +ro)) (j:=(first +(2*ro+1))) oO oO]
 case ho=>omega
 case ho'=>omega
 refine bS (ι:=Nat×Array Nat) (j:=(2*ro+1,swp e (first +ro) (first +(2*ro+1)))) ⟨he,hd'.swp oO oO,by show 2*ro+1≤n;omega⟩ (by show hi-(2*ro+1)<hi-ro;omega) ⟨rfl,rfl,rfl,rfl,rfl,trivial⟩ uI
open Go.Sort in
theorem qJk (hE:Seat E)(hf:goFn E.P fc=true)(hc:Cmp E fc caps q ok cf){d:Array Nat}(hd:OkD ok n d){a b:Nat}(hab:a<b)(hb:b≤n)(hn:n<1099511627776):
  Ct E 156 [.slice (some ⟨g,0,none⟩) n c,.int .i64 (a:Nat),.int .i64 (b:Nat),.func (.func fc) #[] ⟨caps⟩] [sl (some ⟨g,0,none⟩) c 56 1 n (dC d),q]
   (fun v Q=>v= .tuple #[]∧Q=[sl (some ⟨g,0,none⟩) c 56 1 n (dC (heapSort (ltF cf) d a b)),q]∧OkD ok n (heapSort (ltF cf) d a b)):=by
 obtain⟨l,hl⟩:∃l,l=b-a:=⟨_,rfl⟩
 have e0:heapSort (ltF cf) d a b=heapPop (ltF cf) a l (heapBuild (ltF cf) l a ((l-1)/2+1) d):=by unfold heapSort;rw[←hl]
 rw[e0]
 refine bO (hE.fn Tryz.func156) O O O (fun R=>?_)
 simp only[dR,uV,uW]
 refine gg19 ?_
 refine w_eq 10 (.int .i64 ((l:Nat):Int)) O (bW oO) ?_
 refine gg10 ?_
 refine dW (fun x:Nat×Array Nat=>[(0,.slice (some ⟨g,0,none⟩) n c),(3,.func (.func fc) #[] ⟨caps⟩),(8,.int .i64 (a:Nat)),(9,.int .i64 0),(10,.int .i64 (l:Nat)),(11,.int .i64 ((x.1:Int)-1))]) (fun x=>[sl (some ⟨g,0,none⟩) c 56 1 n (dC x.2),q,R]) (fun x=>x.1) (fun x=>heapBuild (ltF cf) l a x.1 x.2=heapBuild (ltF cf) l a ((l-1)/2+1) d∧OkD ok n x.2∧x.1≤l) ((l-1)/2+1,d) ?_ ?_ ?_ ?_
 ·exact⟨O,hd,by show(l-1)/2+1≤l;omega⟩
 ·exact⟨O,O,O,O,O,congrArg some (bW (by simp only;omega)),trivial⟩
 ·exact uI
 rintro⟨k,e⟩⟨he,hd',hk⟩
 simp only at he hd' hk ⊢
 refine gg7 ?_
 refine bE O (fun h1=>?_) (fun h1=>?_)
 ·obtain⟨k,rfl⟩:∃j,k=j+1:=⟨k-1,oO⟩
  refine gg2 ?_
  refine w_eq 11 (.int .i64 ((k:Nat):Int)) O (bW oO) ?_
  refine gg8 ?_
  refine uX (qAa hE hf hc hd' oO oO hn) O ?_
  rintro _ _⟨rfl,rfl,hd2⟩
  simp only[uV,uW]
  refine gg8 ?_
  refine bS (ι:=Nat×Array Nat) (j:=(k,siftDown (ltF cf) l a k e)) ⟨he,hd2,by show k≤l;omega⟩ (by show k<k+1;omega) ⟨rfl,rfl,rfl,rfl,rfl,rfl,trivial⟩ uI
 obtain rfl:k=0:=by omega
 rw[heapBuild]at he
 rw[←he]
 clear he hd e0
 refine gg13 ?_
 refine dW (fun x:Nat×Array Nat=>[(0,.slice (some ⟨g,0,none⟩) n c),(3,.func (.func fc) #[] ⟨caps⟩),(8,.int .i64 (a:Nat)),(9,.int .i64 0),(12,.int .i64 ((x.1:Int)-1))]) (fun x=>[sl (some ⟨g,0,none⟩) c 56 1 n (dC x.2),q,R]) (fun x=>x.1) (fun x=>heapPop (ltF cf) a x.1 x.2=heapPop (ltF cf) a l e∧OkD ok n x.2∧x.1≤l) (l,e) ?_ ?_ ?_ ?_
 ·exact⟨O,hd',Nat.le_refl _⟩
 ·exact⟨O,O,O,O,O,trivial⟩
 ·exact uI
 rintro⟨k,u⟩⟨hu,hdu,hk⟩
 simp only at hu hdu hk ⊢
 have hs:=hdu.1
 refine gg7 ?_
 refine bE O (fun h2=>?_) (fun h2=>?_)
 ·obtain⟨k,rfl⟩:∃j,k=j+1:=⟨k-1,oO⟩
  have f0:=eX u (i:=a+k) oO ((a:Int)+(k:Int)).toNat oO
  have f1:=eX u (i:=a) oO (a:Int).toNat oO
  refine gg2 ?_
  refine w_eq 12 (.int .i64 ((k:Nat):Int)) O (bW oO) ?_
  refine gg3 ?_
  refine eF 17 ([sl (some ⟨g,0,none⟩) c 56 1 n (dC u),q]) [(19,[])] ?_ ?_
  ·exact uI
  refine uP 0 O (aB O) (uP 1 O (aB O) (uP 2 O (aB O) (uP 3 O (aB O) (uP 4 O (aB O) (uP 5 O (uAa O O) (uP 6 O (aB O) (uP 7 O (aB O) (uP 8 O (aB O) (uP 9 O (uAa O O) (uP 10 O (uAj O O) ?_))))))))))
  refine uQ 11 O (uY) ?_
  refine uP 12 O (aB O) (uP 13 O (aB O) (uP 14 O (uAj O O) ?_))
  refine uQ 15 O (uY) ?_
  refine uP 16 O (uAj O O) ?_
  apply gD O oK O
  refine uJ ?_
  refine uE ?_
  refine uP 18 O (uAj O O) ?_
  apply gB O oK oK O
  refine uJ ?_
  refine gg1 ?_
  simp only[bP]
  rw[kP u (i:=a) (j:=(a+k)) oO oO]
  case ho=>omega
  case ho'=>omega
  refine gg6 ?_
  refine uX (qAa (lo:=0) hE hf hc (hdu.swp (show a<n by omega) (show a+k<n by omega)) oO oO hn) rfl ?_
  rintro _ _⟨rfl,rfl,hd2⟩
  simp only[uV,uW]
  refine gg8 ?_
  refine bS (ι:=Nat×Array Nat) (j:=(k,siftDown (ltF cf) k a 0 (swp u a (a+k)))) ⟨hu,hd2,by show k≤l;omega⟩ (by show k<k+1;omega) ⟨rfl,rfl,rfl,rfl,rfl,trivial⟩ uI
 obtain rfl:k=0:=by omega
 rw[heapPop]at hu
 subst hu
 refine gg4 ?_
 exact uZe O .nil ⟨O,O,hdu⟩
end
end Go.Proofs.YtjbdlljghogodaaGreatDoor
