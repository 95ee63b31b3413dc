import Derived.Test.YtblljbllmnbiaaaGreatDoorQ78
import Derived.Test.YtblljbllmnbiaaaGreatDoorQ91
set_option linter.all false
set_option maxHeartbeats 1000000
namespace Go.Proofs.YtblljbllmnbiaaaGreatDoor
open Go Go.RowKit Sl Eg
set_option maxRecDepth 10000
section
variable {E:Env}
def tmv (x:Nat):Nat:=x/4611686018427387904
def atv (x:Nat):Nat:=x%4611686018427387904
def enc2 (p:Nat×Nat):Nat:=p.1*4611686018427387904+p.2
theorem qWi {p:Nat×Nat}(h:p.2<4611686018427387904):tmv (enc2 p)=p.1:=by unfold tmv enc2;omega
theorem qRw {p:Nat×Nat}(h:p.2<4611686018427387904):atv (enc2 p)=p.2:=by unfold atv enc2;omega
def dCP (d:Array Nat):List Value:=d.toList.flatMap fun x=>[.int .i64 (tmv x:Nat),.int .i64 (atv x:Nat)]
theorem two_at:∀(l:List Nat)(i x o:Nat),l[i]?=some x→o=0+i*2→(l.flatMap fun x=>[Value.int .i64 (tmv x:Nat),.int .i64 (atv x:Nat)])[o]?=some (.int .i64 (tmv x:Nat))∧(l.flatMap fun x=>[Value.int .i64 (tmv x:Nat),.int .i64 (atv x:Nat)])[o+1]?=some (.int .i64 (atv x:Nat))
 |[],i,x,o,h,_=>by simp at h
 |y::l,0,x,o,h,ho=>by
  obtain rfl:o=0:=by omega
  simp at h
  subst h
  exact⟨O,O⟩
 |y::l,i+1,x,o,h,ho=>by
  rw[List.getElem?_cons_succ]at h
  obtain⟨m,rfl⟩:∃m,o=m+2:=⟨o-2,oO⟩
  have:=two_at l i x m h oO
  rw[List.flatMap_cons]
  exact this
theorem fV (d:Array Nat){i:Nat}(h:i<d.size)(o:Nat)(ho:o=0+i*2):(dCP d)[o]?=some (.int .i64 (tmv d[i]!:Nat))∧(dCP d)[o+1]?=some (.int .i64 (atv d[i]!:Nat)):=
 two_at d.toList i _ o (by simp[h]) ho
theorem qWl:∀(l:List Nat)(i x o:Nat),i<l.length→o=0+i*2→bX (l.flatMap fun x=>[Value.int .i64 (tmv x:Nat),.int .i64 (atv x:Nat)]) o [.int .i64 (tmv x:Nat),.int .i64 (atv x:Nat)]=(l.set i x).flatMap fun x=>[Value.int .i64 (tmv x:Nat),.int .i64 (atv x:Nat)]
 |[],i,x,o,h,_=>by simp at h
 |y::l,0,x,o,h,ho=>by
  obtain rfl:o=0:=by omega
  rfl
 |y::l,i+1,x,o,h,ho=>by
  obtain⟨m,rfl⟩:∃m,o=m+2:=⟨o-2,oO⟩
  have:=qWl l i x m (by simpa using h) oO
  rw[List.flatMap_cons,List.set_cons_succ,List.flatMap_cons,←this]
  rfl
theorem qTf (d:Array Nat){i:Nat}(h:i<d.size)(x o:Nat)(ho:o=0+i*2):bX (dCP d) o [.int .i64 (tmv x:Nat),.int .i64 (atv x:Nat)]=dCP (d.setIfInBounds i x):=by
 unfold dCP
 rw[Array.toList_setIfInBounds]
 exact qWl d.toList i x o (by simpa using h) ho
theorem jP (d:Array Nat){i j:Nat}(hi:i<d.size)(hj:j<d.size)(o o':Nat)(ho:o=0+i*2)(ho':o'=0+j*2):bX (bX (dCP d) o [.int .i64 (tmv d[j]!:Nat),.int .i64 (atv d[j]!:Nat)]) o' [.int .i64 (tmv d[i]!:Nat),.int .i64 (atv d[i]!:Nat)]=dCP (Go.Sort.swp d i j):=by
 rw[qTf d hi _ o ho,qTf _ (by simpa using hj) _ o' ho']
 rfl
def OkDP (ok:Nat→Prop)(n:Nat)(d:Array Nat):Prop:=d.size=n∧∀i,i<n→ok d[i]!
theorem OkDP.swp {ok:Nat→Prop}{n:Nat}{d:Array Nat}(h:OkDP ok n d){i j:Nat}(hi:i<n)(hj:j<n):OkDP ok n (Go.Sort.swp d i j):=by
 obtain⟨hs,ho⟩:=h
 refine⟨by simp[Go.Sort.swp,hs],fun k hk=>?_⟩
 have ki:k<d.size:=oO
 simp only[Go.Sort.swp]
 have e:((d.setIfInBounds i d[j]!).setIfInBounds j d[i]!)[k]! =if j=k then d[i]! else if i=k then d[j]! else d[k]!:=by
  rw[getElem!_pos _ k (by simpa using ki),Array.getElem_setIfInBounds (by simpa using ki)]
  split
  ·rfl
  rw[Array.getElem_setIfInBounds ki]
  split
  ·rfl
  rw[getElem!_pos d k ki]
 rw[e]
 split
 ·exact ho i hi
 split
 ·exact ho j hj
 exact ho k hk
variable {fc:FuncId}{caps:List Value}{q:HP}{ok:Nat→Prop}{cf:Nat→Nat→Int}{g c n:Nat}
def CmpP (E:Env)(fc:FuncId)(caps:List Value)(q:HP)(ok:Nat→Prop)(cf:Nat→Nat→Int):Prop:=∀x y,ok x→ok y→Ct E fc (.agg ⟨[.int .i64 (tmv x:Nat),.int .i64 (atv x:Nat)]⟩:: .agg ⟨[.int .i64 (tmv y:Nat),.int .i64 (atv y:Nat)]⟩::caps) [q] (fun v Q=>v= .int .i64 (cf x y)∧Q=[q])
def ltFP (cf:Nat→Nat→Int)(x y:Nat):Bool:=decide (cf x y<0)
theorem xS (hE:Seat E)(hf:goFn E.P fc=true)(hc:CmpP E fc caps q ok cf){d:Array Nat}(hd:OkDP ok n d){a b sw k:Nat}(ha:a<n)(hb:b<n)(hk:k<1000):
  Ct E 175 [.slice (some ⟨g,0,none⟩) n c,.int .i64 (a:Nat),.int .i64 (b:Nat),uPt sw,.func (.func fc) #[] ⟨caps⟩] [cells sw [.int .i64 (k:Nat)] 3,sl (some ⟨g,0,none⟩) c 143 2 n (dCP d),q]
   (fun v Q=>v= .tuple #[.int .i64 ((Go.Sort.order2 (ltFP cf) d a b k).1:Nat),.int .i64 ((Go.Sort.order2 (ltFP cf) d a b k).2.1:Nat)]∧Q=[cells sw [.int .i64 ((Go.Sort.order2 (ltFP cf) d a b k).2.2:Nat)] 3,sl (some ⟨g,0,none⟩) c 143 2 n (dCP d),q]):=by
 have hs:=hd.1
 obtain⟨f0,f0'⟩:=fV d (i:=b) oO (0+((b:Int)).toNat*2) oO
 obtain⟨f1,f1'⟩:=fV d (i:=a) oO (0+((a:Int)).toNat*2) oO
 have hcc:=hc _ _ (hd.2 b hb) (hd.2 a ha)
 refine bO (hE.fn Tryz.func175) O O O (fun R=>?_)
 simp only[dR,uV,uW]
 refine gg18 ?_
 refine uU ?_
 apply fO (hx:=O) (ha:=O) (hf:=hf)
 ·exact hcc
 ·exact uK
 rintro _ _⟨rfl,rfl⟩
 simp only[uV,uW]
 refine gg3 ?_
 refine bE O (fun h1=>?_) (fun h1=>?_)
 ·have e:Go.Sort.order2 (ltFP cf) d a b k=(b,a,k+1):=by unfold Go.Sort.order2;rw[if_pos (by simp[ltFP,h1])]
  rw[e]
  refine gg6 ?_
  refine l_eq 26 (.int .i64 ((k+1:Nat):Int)) O (bW oO) ?_
  refine gg14 ?_
  exact uZ O (.tmp O (.tmp O .nil)) ⟨O,O⟩
 have e:Go.Sort.order2 (ltFP cf) d a b k=(a,b,k):=by unfold Go.Sort.order2;rw[if_neg (by simp[ltFP,h1])]
 rw[e]
 refine gg11 ?_
 exact uZ O (.tmp O (.tmp O .nil)) ⟨O,O⟩
open Go.Sort in
theorem pM {lt:Nat→Nat→Bool}{d:Array Nat}{a b k m:Nat}(ha:a<m)(hb:b<m):(order2 lt d a b k).1<m∧(order2 lt d a b k).2.1<m∧(order2 lt d a b k).2.2≤k+1:=by
 unfold order2
 split
 ·exact⟨hb,ha,Nat.le_refl _⟩
 exact⟨ha,hb,Nat.le_succ _⟩
open Go.Sort in
theorem yE {lt:Nat→Nat→Bool}{d:Array Nat}{a b e k m:Nat}(ha:a<m)(hb:b<m)(he:e<m):(median lt d a b e k).1<m∧(median lt d a b e k).2≤k+3:=by
 have h1:=pM (lt:=lt) (d:=d) (k:=k) ha hb
 have h2:=pM (lt:=lt) (d:=d) (k:=(order2 lt d a b k).2.2) h1.2.1 he
 have h3:=pM (lt:=lt) (d:=d) (k:=(order2 lt d (order2 lt d a b k).2.1 e (order2 lt d a b k).2.2).2.2) h1.1 h2.1
 unfold median
 exact⟨h3.2.1,by simp only;omega⟩
theorem xQ (hE:Seat E)(hf:goFn E.P fc=true)(hc:CmpP E fc caps q ok cf){d:Array Nat}(hd:OkDP ok n d){a b e sw k:Nat}(ha:a<n)(hb:b<n)(he:e<n)(hk:k<900):
  Ct E 156 [.slice (some ⟨g,0,none⟩) n c,.int .i64 (a:Nat),.int .i64 (b:Nat),.int .i64 (e:Nat),uPt sw,.func (.func fc) #[] ⟨caps⟩] [cells sw [.int .i64 (k:Nat)] 3,sl (some ⟨g,0,none⟩) c 143 2 n (dCP d),q]
   (fun v Q=>v= .int .i64 ((Go.Sort.median (ltFP cf) d a b e k).1:Nat)∧Q=[cells sw [.int .i64 ((Go.Sort.median (ltFP cf) d a b e k).2:Nat)] 3,sl (some ⟨g,0,none⟩) c 143 2 n (dCP d),q]):=by
 have h1:=pM (lt:=ltFP cf) (d:=d) (k:=k) ha hb
 have h2:=pM (lt:=ltFP cf) (d:=d) (k:=(Go.Sort.order2 (ltFP cf) d a b k).2.2) h1.2.1 he
 unfold Go.Sort.median
 simp only
 refine bO (hE.fn Tryz.func156) O O O (fun R=>?_)
 simp only[dR,uV,uW]
 refine gg12 ?_
 refine uX (xS (k:=k) hE hf hc hd ha hb oO) O ?_
 rintro _ _⟨rfl,rfl⟩
 simp only[uV,uW]
 refine gg14 ?_
 refine uX (xS (k:=(Go.Sort.order2 (ltFP cf) d a b k).2.2) hE hf hc hd h1.2.1 he oO) O ?_
 rintro _ _⟨rfl,rfl⟩
 simp only[uV,uW]
 refine gg14 ?_
 refine uX (xS (k:=(Go.Sort.order2 (ltFP cf) d (Go.Sort.order2 (ltFP cf) d a b k).2.1 e (Go.Sort.order2 (ltFP cf) d a b k).2.2).2.2) hE hf hc hd h1.1 h2.1 oO) O ?_
 rintro _ _⟨rfl,rfl⟩
 simp only[uV,uW]
 refine gg14 ?_
 exact uZ O (.tmp O .nil) ⟨O,O⟩
theorem kV (hE:Seat E)(hf:goFn E.P fc=true)(hc:CmpP E fc caps q ok cf){d:Array Nat}(hd:OkDP ok n d){a sw k:Nat}(ha:a+1<n)(h1:1≤a)(hn:n<1099511627776)(hk:k<900):
  Ct E 155 [.slice (some ⟨g,0,none⟩) n c,.int .i64 (a:Nat),uPt sw,.func (.func fc) #[] ⟨caps⟩] [cells sw [.int .i64 (k:Nat)] 3,sl (some ⟨g,0,none⟩) c 143 2 n (dCP d),q]
   (fun v Q=>v= .int .i64 ((Go.Sort.medianAdjacent (ltFP cf) d a k).1:Nat)∧Q=[cells sw [.int .i64 ((Go.Sort.medianAdjacent (ltFP cf) d a k).2:Nat)] 3,sl (some ⟨g,0,none⟩) c 143 2 n (dCP d),q]):=by
 unfold Go.Sort.medianAdjacent
 refine bO (hE.fn Tryz.func155) O O O (fun R=>?_)
 simp only[dR,uV,uW]
 refine gg15 ?_
 refine l_eq 11 (.int .i64 ((a-1:Nat):Int)) O (bW oO) ?_
 refine l_eq 14 (.int .i64 ((a+1:Nat):Int)) O (bW oO) ?_
 refine uX (xQ (a:=a-1) (b:=a) (e:=a+1) (k:=k) hE hf hc hd oO oO ha hk) O ?_
 rintro _ _⟨rfl,rfl⟩
 simp only[uV,uW]
 refine gg4 ?_
 exact uZ O (.tmp O .nil) ⟨O,O⟩
def qEj:Go.Sort.Hint→Nat
 | .unknown=>0
 | .increasing=>1
 | .decreasing=>2
theorem qAt (hE:Seat E)(hf:goFn E.P fc=true)(hc:CmpP E fc caps q ok cf){d:Array Nat}(hd:OkDP ok n d){a b:Nat}(hab:a+12<b)(hb:b≤n)(hn:n<1099511627776):
  Ct E 126 [.slice (some ⟨g,0,none⟩) n c,.int .i64 (a:Nat),.int .i64 (b:Nat),.func (.func fc) #[] ⟨caps⟩] [sl (some ⟨g,0,none⟩) c 143 2 n (dCP d),q]
   (fun v Q=>v= .tuple #[.int .i64 ((Go.Sort.choosePivot (ltFP cf) d a b).1:Nat),.int .i64 (qEj (Go.Sort.choosePivot (ltFP cf) d a b).2:Nat)]∧Q=[sl (some ⟨g,0,none⟩) c 143 2 n (dCP d),q]):=by
 refine bO (hE.fn Tryz.func126) O O O (fun R=>?_)
 simp only[dR,uV,uW]
 refine gg14 ?_
 obtain⟨l,hl⟩:∃l,l=b-a:=⟨_,rfl⟩
 obtain⟨i,hi⟩:∃i,i=a+l/4*1:=⟨_,rfl⟩
 obtain⟨j,hj⟩:∃j,j=a+l/4*2:=⟨_,rfl⟩
 obtain⟨m,hm⟩:∃m,m=a+l/4*3:=⟨_,rfl⟩
 refine w_eq 10 (.int .i64 ((l:Nat):Int)) O (bW oO) ?_
 refine gg2 ?_
 refine uU (cZ (hE.t O) (fun b11=>?_))
 refine gg32 ?_
 refine w_eq 12 (.int .i64 ((i:Nat):Int)) O (bW oO) ?_
 refine w_eq 13 (.int .i64 ((j:Nat):Int)) O (bW oO) ?_
 refine w_eq 14 (.int .i64 ((m:Nat):Int)) O (bW oO) ?_
 refine gg7 ?_
 refine bE O (fun h8=>?_) (fun h8=>?_)
 ·have hh:∀r:Nat×Nat,(if l≥50 then Go.Sort.median (ltFP cf) d (Go.Sort.medianAdjacent (ltFP cf) d i 0).1 (Go.Sort.medianAdjacent (ltFP cf) d j (Go.Sort.medianAdjacent (ltFP cf) d i 0).2).1 (Go.Sort.medianAdjacent (ltFP cf) d m (Go.Sort.medianAdjacent (ltFP cf) d j (Go.Sort.medianAdjacent (ltFP cf) d i 0).2).2).1 (Go.Sort.medianAdjacent (ltFP cf) d m (Go.Sort.medianAdjacent (ltFP cf) d j (Go.Sort.medianAdjacent (ltFP cf) d i 0).2).2).2 else Go.Sort.median (ltFP cf) d i j m 0)=r→Go.Sort.choosePivot (ltFP cf) d a b=(r.1,if r.2=0 then .increasing else if r.2=12 then .decreasing else .unknown):=by
   intro r hr
   subst hr
   unfold Go.Sort.choosePivot
   simp only[←hl,←hi,←hj,←hm,if_pos (show l≥8 by omega)]
  refine gg7 ?_
  refine bE O (fun h50=>?_) (fun h50=>?_)
  ·rw[if_pos (show l≥50 by omega)]at hh
   refine gg5 ?_
   refine uX (kV (a:=i) (k:=0) hE hf hc hd oO oO hn oO) O ?_
   rintro _ _⟨rfl,rfl⟩
   simp only[uV,uW]
   refine gg8 ?_
   have c1:=(yE (lt:=ltFP cf) (d:=d) (a:=i-1) (b:=i) (e:=i+1) (k:=0) (m:=n) oO oO oO)
   have c1':(Go.Sort.medianAdjacent (ltFP cf) d i 0).1<n∧(Go.Sort.medianAdjacent (ltFP cf) d i 0).2≤0+3:=c1
   refine uX (kV (a:=j) (k:=(Go.Sort.medianAdjacent (ltFP cf) d i 0).2) hE hf hc hd oO oO hn oO) O ?_
   rintro _ _⟨rfl,rfl⟩
   simp only[uV,uW]
   refine gg7 ?_
   have c2:=(yE (lt:=ltFP cf) (d:=d) (a:=j-1) (b:=j) (e:=j+1) (k:=(Go.Sort.medianAdjacent (ltFP cf) d i 0).2) (m:=n) oO oO oO)
   have c2':(Go.Sort.medianAdjacent (ltFP cf) d j (Go.Sort.medianAdjacent (ltFP cf) d i 0).2).1<n∧(Go.Sort.medianAdjacent (ltFP cf) d j (Go.Sort.medianAdjacent (ltFP cf) d i 0).2).2≤(Go.Sort.medianAdjacent (ltFP cf) d i 0).2+3:=c2
   refine uX (kV (a:=m) (k:=(Go.Sort.medianAdjacent (ltFP cf) d j (Go.Sort.medianAdjacent (ltFP cf) d i 0).2).2) hE hf hc hd oO oO hn oO) O ?_
   rintro _ _⟨rfl,rfl⟩
   simp only[uV,uW]
   refine gg9 ?_
   have c3:=(yE (lt:=ltFP cf) (d:=d) (a:=m-1) (b:=m) (e:=m+1) (k:=(Go.Sort.medianAdjacent (ltFP cf) d j (Go.Sort.medianAdjacent (ltFP cf) d i 0).2).2) (m:=n) oO oO oO)
   have c3':(Go.Sort.medianAdjacent (ltFP cf) d m (Go.Sort.medianAdjacent (ltFP cf) d j (Go.Sort.medianAdjacent (ltFP cf) d i 0).2).2).1<n∧(Go.Sort.medianAdjacent (ltFP cf) d m (Go.Sort.medianAdjacent (ltFP cf) d j (Go.Sort.medianAdjacent (ltFP cf) d i 0).2).2).2≤(Go.Sort.medianAdjacent (ltFP cf) d j (Go.Sort.medianAdjacent (ltFP cf) d i 0).2).2+3:=c3
   clear c1 c2 c3
   generalize Go.Sort.medianAdjacent (ltFP cf) d m (Go.Sort.medianAdjacent (ltFP cf) d j (Go.Sort.medianAdjacent (ltFP cf) d i 0).2).2=r3 at*
   generalize Go.Sort.medianAdjacent (ltFP cf) d j (Go.Sort.medianAdjacent (ltFP cf) d i 0).2=r2 at*
   generalize Go.Sort.medianAdjacent (ltFP cf) d i 0=r1 at*
   refine uX (xQ (a:=r1.1) (b:=r2.1) (e:=r3.1) (k:=r3.2) hE hf hc hd c1'.1 c2'.1 c3'.1 oO) O ?_
   rintro _ _⟨rfl,rfl⟩
   simp only[uV,uW]
   generalize Go.Sort.median (ltFP cf) d r1.1 r2.1 r3.1 r3.2=r at*
   rw[hh r rfl]
   refine gg15 ?_
   refine bE O (fun g0=>?_) (fun g0=>?_)
   ·rw[if_pos oO]
    refine gg9 ?_
    exact uZ O (.tmp O (.tmp O .nil)) ⟨O,O⟩
   rw[if_neg oO]
   refine gg6 ?_
   refine bE O (fun g1=>?_) (fun g1=>?_)
   ·rw[if_pos oO]
    refine gg9 ?_
    exact uZ O (.tmp O (.tmp O .nil)) ⟨O,O⟩
   rw[if_neg oO]
   refine gg9 ?_
   exact uZ O (.tmp O (.tmp O .nil)) ⟨O,O⟩
  rw[if_neg (show ¬l≥50 by omega)]at hh
  refine gg8 ?_
  refine uX (xQ (a:=i) (b:=j) (e:=m) (k:=0) hE hf hc hd oO oO oO oO) O ?_
  rintro _ _⟨rfl,rfl⟩
  simp only[uV,uW]
  generalize Go.Sort.median (ltFP cf) d i j m 0=r at*
  rw[hh r rfl]
  refine gg15 ?_
  refine bE O (fun g0=>?_) (fun g0=>?_)
  ·rw[if_pos oO]
   refine gg9 ?_
   exact uZ O (.tmp O (.tmp O .nil)) ⟨O,O⟩
  rw[if_neg oO]
  refine gg6 ?_
  refine bE O (fun g1=>?_) (fun g1=>?_)
  ·rw[if_pos oO]
   refine gg9 ?_
   exact uZ O (.tmp O (.tmp O .nil)) ⟨O,O⟩
  rw[if_neg oO]
  refine gg9 ?_
  exact uZ O (.tmp O (.tmp O .nil)) ⟨O,O⟩
 exfalso;omega
end
section
variable {E:Env}
variable {fc:FuncId}{caps:List Value}{q:HP}{ok:Nat→Prop}{cf:Nat→Nat→Int}{g c n:Nat}
open Go.Sort in
theorem zJ (hE:Seat E){d:Array Nat}(hd:OkDP ok n d){a b:Nat}(hab:a<b)(hb:b≤n)(hn:n<1099511627776):
  Ct E 127 [.slice (some ⟨g,0,none⟩) n c,.int .i64 (a:Nat),.int .i64 (b:Nat),.func (.func fc) #[] ⟨caps⟩] [sl (some ⟨g,0,none⟩) c 143 2 n (dCP d),q]
   (fun v Q=>v= .tuple #[]∧Q=[sl (some ⟨g,0,none⟩) c 143 2 n (dCP (reverseRange d a b)),q]∧OkDP ok n (reverseRange d a b)):=by
 refine bO (hE.fn Tryz.func127) O O O (fun R=>?_)
 simp only[dR,uV,uW]
 refine gg14 ?_
 refine dV (fun x:Nat×Nat×Array Nat=>[(0,.slice (some ⟨g,0,none⟩) n c),(8,.int .i64 (x.1:Nat)),(9,.int .i64 (x.2.1:Nat))]) (fun x=>[sl (some ⟨g,0,none⟩) c 143 2 n (dCP x.2.2),q,R]) (fun x=>x.2.1-x.1) (fun x=>reverseLoop x.1 x.2.1 x.2.2=reverseRange d a b∧OkDP ok n x.2.2∧x.2.1<n∧x.1≤n) (a,b-1,d) ?_ ?_ ?_ ?_
 ·exact⟨O,hd,by show b-1<n;omega,by show a≤n;omega⟩
 ·exact⟨O,O,congrArg some (bW (by simp only;omega)),trivial⟩
 ·exact uI
 rintro⟨i,j,e⟩⟨he,hd',hj,hi⟩
 simp only at he hd' hj hi ⊢
 have hs:=hd'.1
 refine gg8 ?_
 refine bE O (fun h1=>?_) (fun h1=>?_)
 ·obtain⟨f0,f0'⟩:=fV e (i:=i) oO (0+((i:Int)).toNat*2) oO
  obtain⟨f1,f1'⟩:=fV e (i:=j) oO (0+((j:Int)).toNat*2) oO
  refine gg4 ?_
  refine eH 13 ([sl (some ⟨g,0,none⟩) c 143 2 n (dCP e),q]) [(15,[])] ?_ ?_
  ·exact uI
  refine uP 0 O (aB O) (uP 1 O (aB O) (uP 2 O (aB O) (uP 3 O (aB O) (uP 4 O (aB O) (uP 5 O (aB O) ?_)))))
  refine uP 6 O (uAi O O) ?_
  refine uQ 7 O (uG) ?_
  refine uP 8 O (aB O) (uP 9 O (aB O) ?_)
  refine uP 10 O (uAi O O) ?_
  refine uQ 11 O (uG) ?_
  refine uP 12 O (uAi O O) ?_
  apply gH O oK O
  refine uJ ?_
  refine uE ?_
  refine uP 14 O (uAi O O) ?_
  apply gG O oK oK O
  refine uJ ?_
  refine gg14 ?_
  simp only[bP]
  rw[jP e (i:=i) (j:=j) oO oO]
  case ho=>omega
  case ho'=>omega
  refine bS (ι:=Nat×Nat×Array Nat) (j:=(i+1,j-1,swp e i j)) ⟨?_,hd'.swp oO hj,by show j-1<n;omega,by show i+1≤n;omega⟩ (by show j-1-(i+1)<j-i;omega) ⟨rfl,rfl,?_,trivial⟩ uI
  ·rw[←he]
   conv=>rhs;rw[reverseLoop,if_pos (show i<j by omega)]
  exact congrArg some (bW (by simp only;omega))
 rw[reverseLoop,if_neg (show ¬i<j by omega)]at he
 subst he
 refine gg4 ?_
 exact uZe O .nil ⟨O,O,hd'⟩
open Go.Sort in
theorem xO (hE:Seat E)(hf:goFn E.P fc=true)(hc:CmpP E fc caps q ok cf){d:Array Nat}(hd:OkDP ok n d){a b:Nat}(hab:a≤b)(hb:b≤n)(hn:n<1099511627776):
  Ct E 123 [.slice (some ⟨g,0,none⟩) n c,.int .i64 (a:Nat),.int .i64 (b:Nat),.func (.func fc) #[] ⟨caps⟩] [sl (some ⟨g,0,none⟩) c 143 2 n (dCP d),q]
   (fun v Q=>v= .tuple #[]∧Q=[sl (some ⟨g,0,none⟩) c 143 2 n (dCP (insertionSort (ltFP cf) d a b)),q]∧OkDP ok n (insertionSort (ltFP cf) d a b)):=by
 refine bO (hE.fn Tryz.func123) O O O (fun R=>?_)
 simp only[dR,uV,uW]
 refine gg8 ?_
 refine dV (fun x:Nat×Array Nat=>[(0,.slice (some ⟨g,0,none⟩) n c),(1,.int .i64 (a:Nat)),(2,.int .i64 (b:Nat)),(3,.func (.func fc) #[] ⟨caps⟩),(8,.int .i64 (x.1:Nat))]) (fun x=>[sl (some ⟨g,0,none⟩) c 143 2 n (dCP x.2),q,R]) (fun x=>b-x.1) (fun x=>insOuter (ltFP cf) a b x.1 x.2=insertionSort (ltFP cf) d a b∧OkDP ok n x.2∧a+1≤x.1∧x.1≤n+1) (a+1,d) ?_ ?_ ?_ ?_
 ·exact⟨O,hd,Nat.le_refl _,by show a+1≤n+1;omega⟩
 ·exact⟨O,O,O,O,congrArg some (bW (by simp only;omega)),trivial⟩
 ·exact uI
 rintro⟨i,e⟩⟨he,hd',hi,hi2⟩
 simp only at he hd' hi hi2 ⊢
 refine gg8 ?_
 refine bE O (fun h1=>?_) (fun h1=>?_)
 ·rw[insOuter,if_pos (show i<b by omega)]at he
  refine gg11 ?_
  refine dV (fun x:Nat×Array Nat=>[(0,.slice (some ⟨g,0,none⟩) n c),(1,.int .i64 (a:Nat)),(2,.int .i64 (b:Nat)),(3,.func (.func fc) #[] ⟨caps⟩),(8,.int .i64 (i:Nat)),(9,.int .i64 (x.1:Nat))]) (fun x=>[sl (some ⟨g,0,none⟩) c 143 2 n (dCP x.2),q,R]) (fun x=>x.1) (fun x=>insInner (ltFP cf) a x.1 x.2=insInner (ltFP cf) a i e∧OkDP ok n x.2∧x.1≤i) (i,e) ?_ ?_ ?_ ?_
  ·exact⟨O,hd',Nat.le_refl _⟩
  ·exact⟨O,O,O,O,O,O,trivial⟩
  ·exact uI
  rintro⟨j,u⟩⟨hu,hdu,hj⟩
  simp only at hu hdu hj ⊢
  have hs:=hdu.1
  refine gg7 ?_
  refine dS 21 O (fun h2=>?_) (fun h2=>?_)
  ·obtain⟨j,rfl⟩:∃k,j=k+1:=⟨j-1,oO⟩
   obtain⟨f0,f0'⟩:=fV u (i:=j+1) oO (0+(((j+1:Nat):Int)).toNat*2) oO
   obtain⟨f1,f1'⟩:=fV u (i:=j) oO (0+(((j+1:Nat):Int)-1).toNat*2) oO
   have hcc:=hc _ _ (hdu.2 (j+1) oO) (hdu.2 j oO)
   refine gg21 ?_
   refine uU ?_
   apply fO (hx:=O) (ha:=O) (hf:=hf)
   ·exact hcc
   ·exact uK
   rintro _ _⟨rfl,rfl⟩
   simp only[uV,uW]
   refine gg5 ?_
   refine bE O (fun h3=>?_) (fun h3=>?_)
   ·refine gg4 ?_
    refine eH 15 ([sl (some ⟨g,0,none⟩) c 143 2 n (dCP u),q]) [(17,[])] ?_ ?_
    ·exact uI
    refine uP 0 O (aB O) (uP 1 O (aB O) (uP 2 O (aB O) (uP 3 O (aB O) (uP 4 O (uAs O O) (uP 5 O (aB O) (uP 6 O (aB O) (uP 7 O (uAs O O) ?_)))))))
    refine uP 8 O (uAi O O) ?_
    refine uQ 9 O (uG) ?_
    refine uP 10 O (aB O) (uP 11 O (aB O) ?_)
    refine uP 12 O (uAi O O) ?_
    refine uQ 13 O (uG) ?_
    refine uP 14 O (uAi O O) ?_
    apply gH O oK O
    refine uJ ?_
    refine uE ?_
    refine uP 16 O (uAi O O) ?_
    apply gG O oK oK O
    refine uJ ?_
    refine gg7 ?_
    simp only[bP]
    rw[jP u (i:=(j+1)) (j:=j) oO oO]
    case ho=>omega
    case ho'=>omega
    refine bS (ι:=Nat×Array Nat) (j:=(j,swp u (j+1) j)) ⟨?_,hdu.swp oO oO,by show j≤i;omega⟩ (by show j<j+1;omega) ⟨rfl,rfl,rfl,rfl,rfl,congrArg some (bW (by simp only;omega)),trivial⟩ uI
    rw[←hu]
    conv=>rhs;rw[insInner,if_pos (by simp[ltFP,h3];omega)]
   rw[insInner,if_neg (by simp[ltFP,h3])]at hu
   rw[←hu]at he
   refine gg11 ?_
   refine bS (ι:=Nat×Array Nat) (j:=(i+1,u)) ⟨he,hdu,by show a+1≤i+1;omega,by show i+1≤n+1;omega⟩ (by show b-(i+1)<b-i;omega) ⟨rfl,rfl,rfl,rfl,congrArg some (bW (by simp only;omega)),trivial⟩ uI
  have hu':u=insInner (ltFP cf) a i e:=by
   rw[←hu]
   cases j with
   |zero=>rfl
   |succ j=>rw[insInner,if_neg (by simp;omega)]
  rw[←hu']at he
  refine gg27 ?_
  refine bS (ι:=Nat×Array Nat) (j:=(i+1,u)) ⟨he,hdu,by show a+1≤i+1;omega,by show i+1≤n+1;omega⟩ (by show b-(i+1)<b-i;omega) ⟨rfl,rfl,rfl,rfl,congrArg some (bW (by simp only;omega)),trivial⟩ uI
 rw[insOuter,if_neg (show ¬i<b by omega)]at he
 subst he
 refine gg4 ?_
 exact uZe O .nil ⟨O,O,hd'⟩
open Go.Sort in
theorem rV {lt:Nat→Nat→Bool}{hi first root ch:Nat}{d:Array Nat}(h:¬2*root+1≥hi)(hc:ch<hi)(e:if 2*root+1+1<hi&&lt d[first +(2*root+1)]! d[first +(2*root+1)+1]! then ch=2*root+2 else ch=2*root+1):
  siftDown lt hi first root d=if !lt d[first +root]! d[first +ch]! then d else siftDown lt hi first ch (swp d (first +root) (first +ch)):=by
 rw[siftDown,dif_neg h]
 split at e
 ·rename_i h1
  subst e
  rw[if_pos h1]
  split
  ·rfl
  first |rw[dif_pos hc]|rfl
 rename_i h1
 subst e
 rw[if_neg h1]
open Go.Sort in
theorem yY (hE:Seat E)(hf:goFn E.P fc=true)(hc:CmpP E fc caps q ok cf){d:Array Nat}(hd:OkDP ok n d){lo hi first:Nat}(hlo:lo≤n)(hb:first +hi≤n)(hn:n<1099511627776):
  Ct E 152 [.slice (some ⟨g,0,none⟩) n c,.int .i64 (lo:Nat),.int .i64 (hi:Nat),.int .i64 (first:Nat),.func (.func fc) #[] ⟨caps⟩] [sl (some ⟨g,0,none⟩) c 143 2 n (dCP d),q]
   (fun v Q=>v= .tuple #[]∧Q=[sl (some ⟨g,0,none⟩) c 143 2 n (dCP (siftDown (ltFP cf) hi first lo d)),q]∧OkDP ok n (siftDown (ltFP cf) hi first lo d)):=by
 refine bO (hE.fn Tryz.func152) O O O (fun R=>?_)
 simp only[dR,uV,uW]
 refine gg7 ?_
 refine dV (fun x:Nat×Array Nat=>[(0,.slice (some ⟨g,0,none⟩) n c),(2,.int .i64 (hi:Nat)),(3,.int .i64 (first:Nat)),(4,.func (.func fc) #[] ⟨caps⟩),(10,.int .i64 (x.1:Nat))]) (fun x=>[sl (some ⟨g,0,none⟩) c 143 2 n (dCP x.2),q,R]) (fun x=>hi-x.1) (fun x=>siftDown (ltFP cf) hi first x.1 x.2=siftDown (ltFP cf) hi first lo d∧OkDP ok n x.2∧x.1≤n) (lo,d) ?_ ?_ ?_ ?_
 ·exact⟨O,hd,hlo⟩
 ·exact⟨O,O,O,O,O,trivial⟩
 ·exact uI
 rintro⟨ro,e⟩⟨he,hd',hro⟩
 simp only at he hd' hro ⊢
 have hs:=hd'.1
 refine gg17 ?_
 refine bE O (fun h1=>?_) (fun h1=>?_)
 ·rw[siftDown,dif_pos (show 2*ro+1≥hi by omega)]at he
  subst he
  refine gg5 ?_
  exact uZe O .nil ⟨O,O,hd'⟩
 refine gg10 ?_
 refine dS 23 O (fun h2=>?_) (fun h2=>?_)
 ·obtain⟨f0,f0'⟩:=fV e (i:=first +(2*ro+1)) oO (0+((first:Int)+(2*(ro:Int)+1)).toNat*2) oO
  obtain⟨f1,f1'⟩:=fV e (i:=first +(2*ro+1)+1) oO (0+((first:Int)+(2*(ro:Int)+1)+1).toNat*2) oO
  have hcc:=hc _ _ (hd'.2 (first +(2*ro+1)) oO) (hd'.2 (first +(2*ro+1)+1) oO)
  refine gg29 ?_
  refine uU ?_
  apply fO (hx:=O) (ha:=O) (hf:=hf)
  ·exact hcc
  ·exact uK
  rintro _ _⟨rfl,rfl⟩
  simp only[uV,uW]
  refine gg5 ?_
  refine bE O (fun h3=>?_) (fun h3=>?_)
  ·have hk:=rV (lt:=ltFP cf) (d:=e) (first:=first) (show ¬2*ro+1≥hi by omega) (show 2*ro+2<hi by omega) (by rw[if_pos (by simp[ltFP,h3];omega)])
   refine gg6 ?_
   refine w_eq 11 (.int .i64 ((2*ro+2:Nat):Int)) O (bW oO) ?_
   rw[hk]at he
   obtain⟨f2,f2'⟩:=fV e (i:=first +ro) oO (0+((first:Int)+(ro:Int)).toNat*2) oO
   obtain⟨f3,f3'⟩:=fV e (i:=first +(2*ro+2)) oO (0+((first:Int)+((2*ro+2:Nat):Int)).toNat*2) oO
   have hcd:=hc _ _ (hd'.2 (first +ro) oO) (hd'.2 (first +(2*ro+2)) oO)
   refine gg16 ?_
   refine uU ?_
   apply fO (hx:=O) (ha:=O) (hf:=hf)
   ·exact hcd
   ·exact uK
   rintro _ _⟨rfl,rfl⟩
   simp only[uV,uW]
   refine gg4 ?_
   refine fJ O (fun h5=>?_) (fun h5=>?_)
   ·rw[if_pos (by simp[ltFP,h5])]at he
    subst he
    refine gg5 ?_
    exact uZ O .nil ⟨O,O,hd'⟩
   rw[if_neg (by simp[ltFP,h5])]at he
   refine gg3 ?_
   refine eH 21 ([sl (some ⟨g,0,none⟩) c 143 2 n (dCP e),q]) [(23,[])] ?_ ?_
   ·exact uI
   refine uP 0 O (aB O) (uP 1 O (aB O) (uP 2 O (aB O) (uP 3 O (uAa O O) (uP 4 O (aB O) (uP 5 O (aB O) (uP 6 O (aB O) (uP 7 O (uAa O O) (uP 8 O (aB O) (uP 9 O (aB O) (uP 10 O (aB O) (uP 11 O (uAa O O) ?_)))))))))))
   refine uP 12 O (uAi O O) ?_
   refine uQ 13 O (uG) ?_
   refine uP 14 O (aB O) (uP 15 O (aB O) (uP 16 O (aB O) (uP 17 O (uAa O O) ?_)))
   refine uP 18 O (uAi O O) ?_
   refine uQ 19 O (uG) ?_
   refine uP 20 O (uAi O O) ?_
   apply gH O oK O
   refine uJ ?_
   refine uE ?_
   refine uP 22 O (uAi O O) ?_
   apply gG O oK oK O
   refine uJ ?_
   refine gg6 ?_
   simp only[bP]
   rw[jP e (i:=(first +ro)) (j:=(first +(2*ro+2))) oO oO]
   case ho=>omega
   case ho'=>omega
   refine bS (ι:=Nat×Array Nat) (j:=(2*ro+2,swp e (first +ro) (first +(2*ro+2)))) ⟨he,hd'.swp oO oO,by show 2*ro+2≤n;omega⟩ (by show hi-(2*ro+2)<hi-ro;omega) ⟨rfl,rfl,rfl,rfl,rfl,trivial⟩ uI
  have hk:=rV (lt:=ltFP cf) (d:=e) (first:=first) (show ¬2*ro+1≥hi by omega) (show 2*ro+1<hi by omega) (by rw[if_neg (by simp[ltFP,h3])])
  refine gg2 ?_
  refine w_eq 11 (.int .i64 ((2*ro+1:Nat):Int)) O (bW oO) ?_
  rw[hk]at he
  obtain⟨f2,f2'⟩:=fV e (i:=first +ro) oO (0+((first:Int)+(ro:Int)).toNat*2) oO
  obtain⟨f3,f3'⟩:=fV e (i:=first +(2*ro+1)) oO (0+((first:Int)+((2*ro+1:Nat):Int)).toNat*2) oO
  have hcd:=hc _ _ (hd'.2 (first +ro) oO) (hd'.2 (first +(2*ro+1)) oO)
  refine gg16 ?_
  refine uU ?_
  apply fO (hx:=O) (ha:=O) (hf:=hf)
  ·exact hcd
  ·exact uK
  rintro _ _⟨rfl,rfl⟩
  simp only[uV,uW]
  refine gg4 ?_
  refine fJ O (fun h5=>?_) (fun h5=>?_)
  ·rw[if_pos (by simp[ltFP,h5])]at he
   subst he
   refine gg5 ?_
   exact uZ O .nil ⟨O,O,hd'⟩
  rw[if_neg (by simp[ltFP,h5])]at he
  refine gg3 ?_
  refine eH 21 ([sl (some ⟨g,0,none⟩) c 143 2 n (dCP e),q]) [(23,[])] ?_ ?_
  ·exact uI
  refine uP 0 O (aB O) (uP 1 O (aB O) (uP 2 O (aB O) (uP 3 O (uAa O O) (uP 4 O (aB O) (uP 5 O (aB O) (uP 6 O (aB O) (uP 7 O (uAa O O) (uP 8 O (aB O) (uP 9 O (aB O) (uP 10 O (aB O) (uP 11 O (uAa O O) ?_)))))))))))
  refine uP 12 O (uAi O O) ?_
  refine uQ 13 O (uG) ?_
  refine uP 14 O (aB O) (uP 15 O (aB O) (uP 16 O (aB O) (uP 17 O (uAa O O) ?_)))
  refine uP 18 O (uAi O O) ?_
  refine uQ 19 O (uG) ?_
  refine uP 20 O (uAi O O) ?_
  apply gH O oK O
  refine uJ ?_
  refine uE ?_
  refine uP 22 O (uAi O O) ?_
  apply gG O oK oK O
  refine uJ ?_
  refine gg6 ?_
  simp only[bP]
  rw[jP e (i:=(first +ro)) (j:=(first +(2*ro+1))) oO oO]
  case ho=>omega
  case ho'=>omega
  refine bS (ι:=Nat×Array Nat) (j:=(2*ro+1,swp e (first +ro) (first +(2*ro+1)))) ⟨he,hd'.swp oO oO,by show 2*ro+1≤n;omega⟩ (by show hi-(2*ro+1)<hi-ro;omega) ⟨rfl,rfl,rfl,rfl,rfl,trivial⟩ uI
 have hk:=rV (lt:=ltFP cf) (d:=e) (first:=first) (show ¬2*ro+1≥hi by omega) (show 2*ro+1<hi by omega) (by rw[if_neg (by simp;omega)])
 refine gg22 ?_
 refine w_eq 11 (.int .i64 ((2*ro+1:Nat):Int)) O (bW oO) ?_
 rw[hk]at he
 obtain⟨f2,f2'⟩:=fV e (i:=first +ro) oO (0+((first:Int)+(ro:Int)).toNat*2) oO
 obtain⟨f3,f3'⟩:=fV e (i:=first +(2*ro+1)) oO (0+((first:Int)+((2*ro+1:Nat):Int)).toNat*2) oO
 have hcd:=hc _ _ (hd'.2 (first +ro) oO) (hd'.2 (first +(2*ro+1)) oO)
 refine gg16 ?_
 refine uU ?_
 apply fO (hx:=O) (ha:=O) (hf:=hf)
 ·exact hcd
 ·exact uK
 rintro _ _⟨rfl,rfl⟩
 simp only[uV,uW]
 refine gg4 ?_
 refine fJ O (fun h5=>?_) (fun h5=>?_)
 ·rw[if_pos (by simp[ltFP,h5])]at he
  subst he
  refine gg5 ?_
  exact uZ O .nil ⟨O,O,hd'⟩
 rw[if_neg (by simp[ltFP,h5])]at he
 refine gg3 ?_
 refine eH 21 ([sl (some ⟨g,0,none⟩) c 143 2 n (dCP e),q]) [(23,[])] ?_ ?_
 ·exact uI
 refine uP 0 O (aB O) (uP 1 O (aB O) (uP 2 O (aB O) (uP 3 O (uAa O O) (uP 4 O (aB O) (uP 5 O (aB O) (uP 6 O (aB O) (uP 7 O (uAa O O) (uP 8 O (aB O) (uP 9 O (aB O) (uP 10 O (aB O) (uP 11 O (uAa O O) ?_)))))))))))
 refine uP 12 O (uAi O O) ?_
 refine uQ 13 O (uG) ?_
 refine uP 14 O (aB O) (uP 15 O (aB O) (uP 16 O (aB O) (uP 17 O (uAa O O) ?_)))
 refine uP 18 O (uAi O O) ?_
 refine uQ 19 O (uG) ?_
 refine uP 20 O (uAi O O) ?_
 apply gH O oK O
 refine uJ ?_
 refine uE ?_
 refine uP 22 O (uAi O O) ?_
 apply gG O oK oK O
 refine uJ ?_
 refine gg6 ?_
 simp only[bP]
 rw[jP e (i:=(first +ro)) (j:=(first +(2*ro+1))) oO oO]
 case ho=>omega
 case ho'=>omega
 refine bS (ι:=Nat×Array Nat) (j:=(2*ro+1,swp e (first +ro) (first +(2*ro+1)))) ⟨he,hd'.swp oO oO,by show 2*ro+1≤n;omega⟩ (by show hi-(2*ro+1)<hi-ro;omega) ⟨rfl,rfl,rfl,rfl,rfl,trivial⟩ uI
open Go.Sort in
theorem qIg (hE:Seat E)(hf:goFn E.P fc=true)(hc:CmpP E fc caps q ok cf){d:Array Nat}(hd:OkDP ok n d){a b:Nat}(hab:a<b)(hb:b≤n)(hn:n<1099511627776):
  Ct E 124 [.slice (some ⟨g,0,none⟩) n c,.int .i64 (a:Nat),.int .i64 (b:Nat),.func (.func fc) #[] ⟨caps⟩] [sl (some ⟨g,0,none⟩) c 143 2 n (dCP d),q]
   (fun v Q=>v= .tuple #[]∧Q=[sl (some ⟨g,0,none⟩) c 143 2 n (dCP (heapSort (ltFP cf) d a b)),q]∧OkDP ok n (heapSort (ltFP cf) d a b)):=by
 obtain⟨l,hl⟩:∃l,l=b-a:=⟨_,rfl⟩
 have e0:heapSort (ltFP cf) d a b=heapPop (ltFP cf) a l (heapBuild (ltFP cf) l a ((l-1)/2+1) d):=by unfold heapSort;rw[←hl]
 rw[e0]
 refine bO (hE.fn Tryz.func124) O O O (fun R=>?_)
 simp only[dR,uV,uW]
 refine gg19 ?_
 refine w_eq 10 (.int .i64 ((l:Nat):Int)) O (bW oO) ?_
 refine gg10 ?_
 refine dV (fun x:Nat×Array Nat=>[(0,.slice (some ⟨g,0,none⟩) n c),(3,.func (.func fc) #[] ⟨caps⟩),(8,.int .i64 (a:Nat)),(9,.int .i64 0),(10,.int .i64 (l:Nat)),(11,.int .i64 ((x.1:Int)-1))]) (fun x=>[sl (some ⟨g,0,none⟩) c 143 2 n (dCP x.2),q,R]) (fun x=>x.1) (fun x=>heapBuild (ltFP cf) l a x.1 x.2=heapBuild (ltFP cf) l a ((l-1)/2+1) d∧OkDP ok n x.2∧x.1≤l) ((l-1)/2+1,d) ?_ ?_ ?_ ?_
 ·exact⟨O,hd,by show(l-1)/2+1≤l;omega⟩
 ·exact⟨O,O,O,O,O,congrArg some (bW (by simp only;omega)),trivial⟩
 ·exact uI
 rintro⟨k,e⟩⟨he,hd',hk⟩
 simp only at he hd' hk ⊢
 refine gg7 ?_
 refine bE O (fun h1=>?_) (fun h1=>?_)
 ·obtain⟨k,rfl⟩:∃j,k=j+1:=⟨k-1,oO⟩
  refine gg2 ?_
  refine w_eq 11 (.int .i64 ((k:Nat):Int)) O (bW oO) ?_
  refine gg8 ?_
  refine uX (yY hE hf hc hd' oO oO hn) O ?_
  rintro _ _⟨rfl,rfl,hd2⟩
  simp only[uV,uW]
  refine gg8 ?_
  refine bS (ι:=Nat×Array Nat) (j:=(k,siftDown (ltFP cf) l a k e)) ⟨he,hd2,by show k≤l;omega⟩ (by show k<k+1;omega) ⟨rfl,rfl,rfl,rfl,rfl,rfl,trivial⟩ uI
 obtain rfl:k=0:=by omega
 rw[heapBuild]at he
 rw[←he]
 clear he hd e0
 refine gg13 ?_
 refine dV (fun x:Nat×Array Nat=>[(0,.slice (some ⟨g,0,none⟩) n c),(3,.func (.func fc) #[] ⟨caps⟩),(8,.int .i64 (a:Nat)),(9,.int .i64 0),(12,.int .i64 ((x.1:Int)-1))]) (fun x=>[sl (some ⟨g,0,none⟩) c 143 2 n (dCP x.2),q,R]) (fun x=>x.1) (fun x=>heapPop (ltFP cf) a x.1 x.2=heapPop (ltFP cf) a l e∧OkDP ok n x.2∧x.1≤l) (l,e) ?_ ?_ ?_ ?_
 ·exact⟨O,hd',Nat.le_refl _⟩
 ·exact⟨O,O,O,O,O,trivial⟩
 ·exact uI
 rintro⟨k,u⟩⟨hu,hdu,hk⟩
 simp only at hu hdu hk ⊢
 have hs:=hdu.1
 refine gg7 ?_
 refine bE O (fun h2=>?_) (fun h2=>?_)
 ·obtain⟨k,rfl⟩:∃j,k=j+1:=⟨k-1,oO⟩
  obtain⟨f0,f0'⟩:=fV u (i:=a+k) oO (0+((a:Int)+(k:Int)).toNat*2) oO
  obtain⟨f1,f1'⟩:=fV u (i:=a) oO (0+(a:Int).toNat*2) oO
  refine gg2 ?_
  refine w_eq 12 (.int .i64 ((k:Nat):Int)) O (bW oO) ?_
  refine gg3 ?_
  refine eH 17 ([sl (some ⟨g,0,none⟩) c 143 2 n (dCP u),q]) [(19,[])] ?_ ?_
  ·exact uI
  refine uP 0 O (aB O) (uP 1 O (aB O) (uP 2 O (aB O) (uP 3 O (aB O) (uP 4 O (aB O) (uP 5 O (uAa O O) (uP 6 O (aB O) (uP 7 O (aB O) (uP 8 O (aB O) (uP 9 O (uAa O O) ?_)))))))))
  refine uP 10 O (uAi O O) ?_
  refine uQ 11 O (uG) ?_
  refine uP 12 O (aB O) (uP 13 O (aB O) ?_)
  refine uP 14 O (uAi O O) ?_
  refine uQ 15 O (uG) ?_
  refine uP 16 O (uAi O O) ?_
  apply gH O oK O
  refine uJ ?_
  refine uE ?_
  refine uP 18 O (uAi O O) ?_
  apply gG O oK oK O
  refine uJ ?_
  refine gg1 ?_
  simp only[bP]
  rw[jP u (i:=a) (j:=(a+k)) oO oO]
  case ho=>omega
  case ho'=>omega
  refine gg6 ?_
  refine uX (yY (lo:=0) hE hf hc (hdu.swp (show a<n by omega) (show a+k<n by omega)) oO oO hn) rfl ?_
  rintro _ _⟨rfl,rfl,hd2⟩
  simp only[uV,uW]
  refine gg8 ?_
  refine bS (ι:=Nat×Array Nat) (j:=(k,siftDown (ltFP cf) k a 0 (swp u a (a+k)))) ⟨hu,hd2,by show k≤l;omega⟩ (by show k<k+1;omega) ⟨rfl,rfl,rfl,rfl,rfl,trivial⟩ uI
 obtain rfl:k=0:=by omega
 rw[heapPop]at hu
 subst hu
 refine gg4 ?_
 exact uZe O .nil ⟨O,O,hdu⟩
end
section
variable {E:Env}
variable {fc:FuncId}{caps:List Value}{q:HP}{ok:Nat→Prop}{cf:Nat→Nat→Int}{g c n:Nat}
open Go.Sort in
theorem wD (hE:Seat E)(hf:goFn E.P fc=true)(hc:CmpP E fc caps q ok cf){d:Array Nat}(hd:OkDP ok n d){a b pv:Nat}(hap:a≤pv)(hpb:pv<b)(hb:b≤n)(hn:n<1099511627776):
  Ct E 129 [.slice (some ⟨g,0,none⟩) n c,.int .i64 (a:Nat),.int .i64 (b:Nat),.int .i64 (pv:Nat),.func (.func fc) #[] ⟨caps⟩] [sl (some ⟨g,0,none⟩) c 143 2 n (dCP d),q]
   (fun v Q=>v= .int .i64 ((partitionEqual (ltFP cf) d a b pv).1:Nat)∧Q=[sl (some ⟨g,0,none⟩) c 143 2 n (dCP (partitionEqual (ltFP cf) d a b pv).2),q]∧OkDP ok n (partitionEqual (ltFP cf) d a b pv).2):=by
 have hs:=hd.1
 obtain⟨f2,f2'⟩:=fV d (i:=pv) oO (0+((pv:Int)).toNat*2) oO
 obtain⟨f3,f3'⟩:=fV d (i:=a) oO (0+((a:Int)).toNat*2) oO
 obtain⟨r,hr⟩:∃r,r=partitionEqual (ltFP cf) d a b pv:=⟨_,rfl⟩
 have hr':=hr
 unfold partitionEqual at hr'
 rw[←hr]
 refine bO (hE.fn Tryz.func129) O O O (fun R=>?_)
 simp only[dR,uV,uW]
 refine gg6 ?_
 refine eH 13 ([sl (some ⟨g,0,none⟩) c 143 2 n (dCP d),q]) [(15,[])] ?_ ?_
 ·exact uI
 refine uP 0 O (aB O) (uP 1 O (aB O) (uP 2 O (aB O) (uP 3 O (aB O) (uP 4 O (aB O) (uP 5 O (aB O) ?_)))))
 refine uP 6 O (uAi O O) ?_
 refine uQ 7 O (uG) ?_
 refine uP 8 O (aB O) (uP 9 O (aB O) ?_)
 refine uP 10 O (uAi O O) ?_
 refine uQ 11 O (uG) ?_
 refine uP 12 O (uAi O O) ?_
 apply gH O oK O
 refine uJ ?_
 refine uE ?_
 refine uP 14 O (uAi O O) ?_
 apply gG O oK oK O
 refine uJ ?_
 refine gg11 ?_
 simp only[bP]
 rw[jP d (i:=a) (j:=pv) oO oO]
 case ho=>omega
 case ho'=>omega
 refine w_eq 11 (.int .i64 ((a+1:Nat):Int)) O (bW oO) ?_
 refine w_eq 12 (.int .i64 ((b-1:Nat):Int)) O (bW oO) ?_
 have hd1:=hd.swp (show a<n by omega) (show pv<n by omega)
 generalize swp d a pv=d1 at*
 refine gg2 ?_
 refine dV (fun x:Nat×Nat×Array Nat=>[(0,.slice (some ⟨g,0,none⟩) n c),(1,.int .i64 (a:Nat)),(4,.func (.func fc) #[] ⟨caps⟩),(11,.int .i64 (x.1:Nat)),(12,.int .i64 (x.2.1:Nat))]) (fun x=>[sl (some ⟨g,0,none⟩) c 143 2 n (dCP x.2.2),q,R]) (fun x=>x.2.1+1-x.1) (fun x=>partEqLoop (ltFP cf) a x.1 x.2.1 x.2.2=r∧OkDP ok n x.2.2∧a<x.1∧a≤x.2.1∧x.1≤x.2.1+2∧x.2.1<b) (a+1,b-1,d1) ?_ ?_ ?_ ?_
 ·exact⟨hr'.symm,hd1,by show a<a+1;omega,by show a≤b-1;omega,by show a+1≤b-1+2;omega,by show b-1<b;omega⟩
 ·exact⟨O,O,O,O,O,trivial⟩
 ·exact uI
 rintro⟨i,j,e⟩⟨he,hde,hi,haj,hij,hj⟩
 simp only at he hde hi haj hij hj ⊢
 have hse:=hde.1
 rw[partEqLoop_eq]at he
 obtain⟨i2,hi2⟩:∃i2,scanUp (fun x=>!ltFP cf e[a]! x) e j i=i2:=⟨_,rfl⟩
 rw[hi2]at he
 obtain⟨j2,hj2⟩:∃j2,scanDown (fun x=>ltFP cf e[a]! x) e i2 j=j2:=⟨_,rfl⟩
 rw[hj2]at he
 refine gg1 ?_
 refine jF (fun _:Unit=>[(0,.slice (some ⟨g,0,none⟩) n c),(1,.int .i64 (a:Nat)),(4,.func (.func fc) #[] ⟨caps⟩),(11,.int .i64 ((i2:Nat):Int)),(12,.int .i64 ((j:Nat):Int))]) (fun _=>[sl (some ⟨g,0,none⟩) c 143 2 n (dCP (e)),q,R]) (fun _=>i≤i2∧i2≤j+2) ?_ ?_
 ·refine gg1 ?_
  refine dV (fun x:Nat=>[(0,.slice (some ⟨g,0,none⟩) n c),(1,.int .i64 (a:Nat)),(4,.func (.func fc) #[] ⟨caps⟩),(11,.int .i64 ((x:Nat):Int)),(12,.int .i64 ((j:Nat):Int))]) (fun _=>[sl (some ⟨g,0,none⟩) c 143 2 n (dCP (e)),q,R]) (fun x=>j+1-x) (fun x=>scanUp (fun x=>!ltFP cf (e)[a]! x) (e) (j) x=i2∧i≤x∧x≤j+2) (i) ?_ ?_ ?_ ?_
  ·exact⟨hi2,oO,oO⟩
  ·exact⟨O,O,O,O,O,trivial⟩
  ·exact uI
  rintro x⟨hx,hx1,hx2⟩
  refine gg7 ?_
  refine dS 34 O (fun su=>?_) (fun su=>?_)
  ·obtain⟨f0,f0'⟩:=fV (e) (i:=x) oO (0+((x:Nat):Int).toNat*2) oO
   obtain⟨f1,f1'⟩:=fV (e) (i:=a) oO (0+((a:Nat):Int).toNat*2) oO
   have hcc:=hc _ _ (hde.2 (a) oO) (hde.2 (x) oO)
   refine gg19 ?_
   refine uU ?_
   apply fO (hx:=O) (ha:=O) (hf:=hf)
   ·exact hcc
   ·exact uK
   rintro _ _⟨rfl,rfl⟩
   simp only[uV,uW]
   refine gg7 ?_
   refine fJ O (fun gu=>?_) (fun gu=>?_)
   ·refine gg9 ?_
    refine bS (x+1) ⟨?_,oO,oO⟩ oO ⟨O,O,O,congrArg some (bW oO),O,trivial⟩ uI
    rw[←hx]
    conv=>rhs;rw[scanUp,if_pos (by simp[ltFP,gu];omega)]
   rw[scanUp,if_neg (by simp[ltFP,gu])]at hx
   rw[←hx]
   refine gg4 ?_
   refine dY () oO ⟨O,O,O,O,O,trivial⟩ uI
  rw[scanUp,if_neg (by simp;omega)]at hx
  rw[←hx]
  refine gg20 ?_
  refine dY () oO ⟨O,O,O,O,O,trivial⟩ uI
 rintro _⟨hi2a,hi2b⟩
 refine jF (fun _:Unit=>[(0,.slice (some ⟨g,0,none⟩) n c),(1,.int .i64 (a:Nat)),(4,.func (.func fc) #[] ⟨caps⟩),(11,.int .i64 ((i2:Nat):Int)),(12,.int .i64 ((j2:Nat):Int))]) (fun _=>[sl (some ⟨g,0,none⟩) c 143 2 n (dCP (e)),q,R]) (fun _=>a≤j2∧j2≤j) ?_ ?_
 ·refine gg1 ?_
  refine dV (fun x:Nat=>[(0,.slice (some ⟨g,0,none⟩) n c),(1,.int .i64 (a:Nat)),(4,.func (.func fc) #[] ⟨caps⟩),(11,.int .i64 ((i2:Nat):Int)),(12,.int .i64 ((x:Nat):Int))]) (fun _=>[sl (some ⟨g,0,none⟩) c 143 2 n (dCP (e)),q,R]) (fun x=>x) (fun x=>scanDown (fun x=>ltFP cf (e)[a]! x) (e) (i2) x=j2∧a≤x∧x≤j) (j) ?_ ?_ ?_ ?_
  ·exact⟨hj2,oO,oO⟩
  ·exact⟨O,O,O,O,O,trivial⟩
  ·exact uI
  rintro x⟨hx,hx1,hx2⟩
  refine gg7 ?_
  refine dS 53 O (fun sw=>?_) (fun sw=>?_)
  ·obtain⟨x,rfl⟩:∃k,x=k+1:=⟨x-1,oO⟩
   obtain⟨f0,f0'⟩:=fV (e) (i:=x+1) oO (0+((x+1:Nat):Int).toNat*2) oO
   obtain⟨f1,f1'⟩:=fV (e) (i:=a) oO (0+((a:Nat):Int).toNat*2) oO
   have hcc:=hc _ _ (hde.2 (a) oO) (hde.2 (x+1) oO)
   refine gg19 ?_
   refine uU ?_
   apply fO (hx:=O) (ha:=O) (hf:=hf)
   ·exact hcc
   ·exact uK
   rintro _ _⟨rfl,rfl⟩
   simp only[uV,uW]
   refine gg5 ?_
   refine bE O (fun gw=>?_) (fun gw=>?_)
   ·refine gg9 ?_
    refine bS (x) ⟨?_,oO,oO⟩ oO ⟨O,O,O,O,congrArg some (bW oO),trivial⟩ uI
    rw[←hx]
    conv=>rhs;rw[scanDown,if_pos (by simp[ltFP,gw];omega)]
   rw[scanDown,if_neg (by simp[ltFP,gw])]at hx
   rw[←hx]
   refine gg4 ?_
   refine dY () oO ⟨O,O,O,O,O,trivial⟩ uI
  have hx':x=j2:=by
   rw[←hx]
   cases x with
   |zero=>rfl
   |succ x=>rw[scanDown,if_neg (by simp;omega)]
  rw[←hx']
  refine gg19 ?_
  refine dY () oO ⟨O,O,O,O,O,trivial⟩ uI
 rintro _⟨hj2a,hj2b⟩
 refine gg8 ?_
 refine bE O (fun h7=>?_) (fun h7=>?_)
 ·rw[if_pos oO]at he
  subst he
  refine gg13 ?_
  exact uZ O (.tmp O .nil) ⟨O,O,hde⟩
 rw[if_neg oO]at he
 obtain⟨f4,f4'⟩:=fV e (i:=i2) oO (0+((i2:Int)).toNat*2) oO
 obtain⟨f5,f5'⟩:=fV e (i:=j2) oO (0+((j2:Int)).toNat*2) oO
 refine gg3 ?_
 refine eH 13 ([sl (some ⟨g,0,none⟩) c 143 2 n (dCP e),q]) [(15,[])] ?_ ?_
 ·exact uI
 refine uP 0 O (aB O) (uP 1 O (aB O) (uP 2 O (aB O) (uP 3 O (aB O) (uP 4 O (aB O) (uP 5 O (aB O) ?_)))))
 refine uP 6 O (uAi O O) ?_
 refine uQ 7 O (uG) ?_
 refine uP 8 O (aB O) (uP 9 O (aB O) ?_)
 refine uP 10 O (uAi O O) ?_
 refine uQ 11 O (uG) ?_
 refine uP 12 O (uAi O O) ?_
 apply gH O oK O
 refine uJ ?_
 refine uE ?_
 refine uP 14 O (uAi O O) ?_
 apply gG O oK oK O
 refine uJ ?_
 refine gg14 ?_
 simp only[bP]
 rw[jP e (i:=i2) (j:=j2) oO oO]
 case ho=>omega
 case ho'=>omega
 refine bS (ι:=Nat×Nat×Array Nat) (j:=(i2+1,j2-1,swp e i2 j2)) ⟨he,hde.swp oO oO,by show a<i2+1;omega,by show a≤j2-1;omega,by show i2+1≤j2-1+2;omega,by show j2-1<b;omega⟩ (by show j2-1+1-(i2+1)<j+1-i;omega) ⟨rfl,rfl,rfl,congrArg some (bW (by simp only;omega)),congrArg some (bW (by simp only;omega)),trivial⟩ uI
open Go.Sort in
theorem qFq (hE:Seat E)(hf:goFn E.P fc=true)(hc:CmpP E fc caps q ok cf){d:Array Nat}(hd:OkDP ok n d){a b pv:Nat}(hap:a≤pv)(hpb:pv<b)(hb:b≤n)(hn:n<1099511627776):
  Ct E 130 [.slice (some ⟨g,0,none⟩) n c,.int .i64 (a:Nat),.int .i64 (b:Nat),.int .i64 (pv:Nat),.func (.func fc) #[] ⟨caps⟩] [sl (some ⟨g,0,none⟩) c 143 2 n (dCP d),q]
   (fun v Q=>v= .tuple #[.int .i64 ((partition (ltFP cf) d a b pv).1:Nat),.bool (partition (ltFP cf) d a b pv).2.1]∧Q=[sl (some ⟨g,0,none⟩) c 143 2 n (dCP (partition (ltFP cf) d a b pv).2.2),q]∧OkDP ok n (partition (ltFP cf) d a b pv).2.2):=by
 have hs:=hd.1
 obtain⟨f2,f2'⟩:=fV d (i:=pv) oO (0+((pv:Int)).toNat*2) oO
 obtain⟨f3,f3'⟩:=fV d (i:=a) oO (0+((a:Int)).toNat*2) oO
 obtain⟨r,hr⟩:∃r,r=partition (ltFP cf) d a b pv:=⟨_,rfl⟩
 have hr':=hr
 unfold partition at hr'
 simp only at hr'
 rw[←hr]
 refine bO (hE.fn Tryz.func130) O O O (fun R=>?_)
 simp only[dR,uV,uW]
 refine gg7 ?_
 refine eH 13 ([sl (some ⟨g,0,none⟩) c 143 2 n (dCP d),q]) [(15,[])] ?_ ?_
 ·exact uI
 refine uP 0 O (aB O) (uP 1 O (aB O) (uP 2 O (aB O) (uP 3 O (aB O) (uP 4 O (aB O) (uP 5 O (aB O) ?_)))))
 refine uP 6 O (uAi O O) ?_
 refine uQ 7 O (uG) ?_
 refine uP 8 O (aB O) (uP 9 O (aB O) ?_)
 refine uP 10 O (uAi O O) ?_
 refine uQ 11 O (uG) ?_
 refine uP 12 O (uAi O O) ?_
 apply gH O oK O
 refine uJ ?_
 refine uE ?_
 refine uP 14 O (uAi O O) ?_
 apply gG O oK oK O
 refine uJ ?_
 refine gg11 ?_
 simp only[bP]
 rw[jP d (i:=a) (j:=pv) oO oO]
 case ho=>omega
 case ho'=>omega
 refine w_eq 12 (.int .i64 ((a+1:Nat):Int)) O (bW oO) ?_
 refine w_eq 13 (.int .i64 ((b-1:Nat):Int)) O (bW oO) ?_
 have hd1:=hd.swp (show a<n by omega) (show pv<n by omega)
 generalize swp d a pv=d1 at*
 have hs1:=hd1.1
 obtain⟨i1,hi1⟩:∃i1,scanUp (fun x=>ltFP cf x d1[a]!) d1 (b-1) (a+1)=i1:=⟨_,rfl⟩
 rw[hi1]at hr'
 obtain⟨j1,hj1⟩:∃j1,scanDown (fun x=>!ltFP cf x d1[a]!) d1 i1 (b-1)=j1:=⟨_,rfl⟩
 rw[hj1]at hr'
 refine jF (fun _:Unit=>[(0,.slice (some ⟨g,0,none⟩) n c),(1,.int .i64 (a:Nat)),(4,.func (.func fc) #[] ⟨caps⟩),(12,.int .i64 ((i1:Nat):Int)),(13,.int .i64 (((b-1):Nat):Int))]) (fun _=>[sl (some ⟨g,0,none⟩) c 143 2 n (dCP (d1)),q,R]) (fun _=>(a+1)≤i1∧i1≤(b-1)+2) ?_ ?_
 ·refine gg1 ?_
  refine dV (fun x:Nat=>[(0,.slice (some ⟨g,0,none⟩) n c),(1,.int .i64 (a:Nat)),(4,.func (.func fc) #[] ⟨caps⟩),(12,.int .i64 ((x:Nat):Int)),(13,.int .i64 (((b-1):Nat):Int))]) (fun _=>[sl (some ⟨g,0,none⟩) c 143 2 n (dCP (d1)),q,R]) (fun x=>(b-1)+1-x) (fun x=>scanUp (fun x=>ltFP cf x (d1)[a]!) (d1) ((b-1)) x=i1∧(a+1)≤x∧x≤(b-1)+2) ((a+1)) ?_ ?_ ?_ ?_
  ·exact⟨hi1,oO,oO⟩
  ·exact⟨O,O,O,O,O,trivial⟩
  ·exact uI
  rintro x⟨hx,hx1,hx2⟩
  refine gg7 ?_
  refine dS 35 O (fun sp=>?_) (fun sp=>?_)
  ·obtain⟨f0,f0'⟩:=fV (d1) (i:=x) oO (0+((x:Nat):Int).toNat*2) oO
   obtain⟨f1,f1'⟩:=fV (d1) (i:=a) oO (0+((a:Nat):Int).toNat*2) oO
   have hcc:=hc _ _ (hd1.2 (x) oO) (hd1.2 (a) oO)
   refine gg19 ?_
   refine uU ?_
   apply fO (hx:=O) (ha:=O) (hf:=hf)
   ·exact hcc
   ·exact uK
   rintro _ _⟨rfl,rfl⟩
   simp only[uV,uW]
   refine gg5 ?_
   refine bE O (fun gp=>?_) (fun gp=>?_)
   ·refine gg9 ?_
    refine bS (x+1) ⟨?_,oO,oO⟩ oO ⟨O,O,O,congrArg some (bW oO),O,trivial⟩ uI
    rw[←hx]
    conv=>rhs;rw[scanUp,if_pos (by simp[ltFP,gp];omega)]
   rw[scanUp,if_neg (by simp[ltFP,gp])]at hx
   rw[←hx]
   refine gg4 ?_
   refine dY () oO ⟨O,O,O,O,O,trivial⟩ uI
  rw[scanUp,if_neg (by simp;omega)]at hx
  rw[←hx]
  refine gg19 ?_
  refine dY () oO ⟨O,O,O,O,O,trivial⟩ uI
 rintro _⟨hi1a,hi1b⟩
 refine jF (fun _:Unit=>[(0,.slice (some ⟨g,0,none⟩) n c),(1,.int .i64 (a:Nat)),(4,.func (.func fc) #[] ⟨caps⟩),(12,.int .i64 ((i1:Nat):Int)),(13,.int .i64 ((j1:Nat):Int))]) (fun _=>[sl (some ⟨g,0,none⟩) c 143 2 n (dCP (d1)),q,R]) (fun _=>a≤j1∧j1≤(b-1)) ?_ ?_
 ·refine gg1 ?_
  refine dV (fun x:Nat=>[(0,.slice (some ⟨g,0,none⟩) n c),(1,.int .i64 (a:Nat)),(4,.func (.func fc) #[] ⟨caps⟩),(12,.int .i64 ((i1:Nat):Int)),(13,.int .i64 ((x:Nat):Int))]) (fun _=>[sl (some ⟨g,0,none⟩) c 143 2 n (dCP (d1)),q,R]) (fun x=>x) (fun x=>scanDown (fun x=>!ltFP cf x (d1)[a]!) (d1) (i1) x=j1∧a≤x∧x≤(b-1)) ((b-1)) ?_ ?_ ?_ ?_
  ·exact⟨hj1,oO,oO⟩
  ·exact⟨O,O,O,O,O,trivial⟩
  ·exact uI
  rintro x⟨hx,hx1,hx2⟩
  refine gg7 ?_
  refine dS 53 O (fun sq=>?_) (fun sq=>?_)
  ·obtain⟨x,rfl⟩:∃k,x=k+1:=⟨x-1,oO⟩
   obtain⟨f0,f0'⟩:=fV (d1) (i:=x+1) oO (0+((x+1:Nat):Int).toNat*2) oO
   obtain⟨f1,f1'⟩:=fV (d1) (i:=a) oO (0+((a:Nat):Int).toNat*2) oO
   have hcc:=hc _ _ (hd1.2 (x+1) oO) (hd1.2 (a) oO)
   refine gg19 ?_
   refine uU ?_
   apply fO (hx:=O) (ha:=O) (hf:=hf)
   ·exact hcc
   ·exact uK
   rintro _ _⟨rfl,rfl⟩
   simp only[uV,uW]
   refine gg7 ?_
   refine fJ O (fun gq=>?_) (fun gq=>?_)
   ·refine gg9 ?_
    refine bS (x) ⟨?_,oO,oO⟩ oO ⟨O,O,O,O,congrArg some (bW oO),trivial⟩ uI
    rw[←hx]
    conv=>rhs;rw[scanDown,if_pos (by simp[ltFP,gq];omega)]
   rw[scanDown,if_neg (by simp[ltFP,gq])]at hx
   rw[←hx]
   refine gg4 ?_
   refine dY () oO ⟨O,O,O,O,O,trivial⟩ uI
  have hx':x=j1:=by
   rw[←hx]
   cases x with
   |zero=>rfl
   |succ x=>rw[scanDown,if_neg (by simp;omega)]
  rw[←hx']
  refine gg20 ?_
  refine dY () oO ⟨O,O,O,O,O,trivial⟩ uI
 rintro _⟨hj1a,hj1b⟩
 refine gg8 ?_
 refine bE O (fun h6=>?_) (fun h6=>?_)
 ·rw[if_pos oO]at hr'
  subst hr'
  obtain⟨f4,f4'⟩:=fV d1 (i:=a) oO (0+((a:Int)).toNat*2) oO
  obtain⟨f5,f5'⟩:=fV d1 (i:=j1) oO (0+((j1:Int)).toNat*2) oO
  refine gg1 ?_
  refine eH 13 ([sl (some ⟨g,0,none⟩) c 143 2 n (dCP d1),q]) [(15,[])] ?_ ?_
  ·exact uI
  refine uP 0 O (aB O) (uP 1 O (aB O) (uP 2 O (aB O) (uP 3 O (aB O) (uP 4 O (aB O) (uP 5 O (aB O) ?_)))))
  refine uP 6 O (uAi O O) ?_
  refine uQ 7 O (uG) ?_
  refine uP 8 O (aB O) (uP 9 O (aB O) ?_)
  refine uP 10 O (uAi O O) ?_
  refine uQ 11 O (uG) ?_
  refine uP 12 O (uAi O O) ?_
  apply gH O oK O
  refine uJ ?_
  refine uE ?_
  refine uP 14 O (uAi O O) ?_
  apply gG O oK oK O
  refine uJ ?_
  refine gg10 ?_
  simp only[bP]
  rw[jP d1 (i:=j1) (j:=a) oO oO]
  case ho=>omega
  case ho'=>omega
  exact uZ O (.tmp O (.tmp O .nil)) ⟨O,O,hd1.swp oO oO⟩
 rw[if_neg oO]at hr'
 obtain⟨f4,f4'⟩:=fV d1 (i:=i1) oO (0+((i1:Int)).toNat*2) oO
 obtain⟨f5,f5'⟩:=fV d1 (i:=j1) oO (0+((j1:Int)).toNat*2) oO
 obtain⟨u,hu⟩:∃u,partLoop (ltFP cf) a (i1+1) (j1-1) (swp d1 i1 j1)=u:=⟨_,rfl⟩
 rw[hu]at hr'
 refine gg3 ?_
 refine eH 13 ([sl (some ⟨g,0,none⟩) c 143 2 n (dCP d1),q]) [(15,[])] ?_ ?_
 ·exact uI
 refine uP 0 O (aB O) (uP 1 O (aB O) (uP 2 O (aB O) (uP 3 O (aB O) (uP 4 O (aB O) (uP 5 O (aB O) ?_)))))
 refine uP 6 O (uAi O O) ?_
 refine uQ 7 O (uG) ?_
 refine uP 8 O (aB O) (uP 9 O (aB O) ?_)
 refine uP 10 O (uAi O O) ?_
 refine uQ 11 O (uG) ?_
 refine uP 12 O (uAi O O) ?_
 apply gH O oK O
 refine uJ ?_
 refine uE ?_
 refine uP 14 O (uAi O O) ?_
 apply gG O oK oK O
 refine uJ ?_
 refine gg17 ?_
 simp only[bP]
 rw[jP d1 (i:=i1) (j:=j1) oO oO]
 case ho=>omega
 case ho'=>omega
 refine dV (fun x:Nat×Nat×Array Nat=>[(0,.slice (some ⟨g,0,none⟩) n c),(1,.int .i64 (a:Nat)),(4,.func (.func fc) #[] ⟨caps⟩),(12,.int .i64 (x.1:Nat)),(13,.int .i64 (x.2.1:Nat))]) (fun x=>[sl (some ⟨g,0,none⟩) c 143 2 n (dCP x.2.2),q,R]) (fun x=>x.2.1+1-x.1) (fun x=>partLoop (ltFP cf) a x.1 x.2.1 x.2.2=u∧OkDP ok n x.2.2∧a<x.1∧a≤x.2.1∧x.1≤x.2.1+2∧x.2.1<b) (i1+1,j1-1,swp d1 i1 j1) ?_ ?_ ?_ ?_
 ·exact⟨hu,hd1.swp oO oO,by show a<i1+1;omega,by show a≤j1-1;omega,by show i1+1≤j1-1+2;omega,by show j1-1<b;omega⟩
 ·exact⟨O,O,O,congrArg some (bW (by simp only;omega)),congrArg some (bW (by simp only;omega)),trivial⟩
 ·exact uI
 rintro⟨i,j,e⟩⟨he,hde,hi,haj,hij,hj⟩
 simp only at he hde hi haj hij hj ⊢
 have hse:=hde.1
 rw[partLoop_eq]at he
 obtain⟨i2,hi2⟩:∃i2,scanUp (fun x=>ltFP cf x e[a]!) e j i=i2:=⟨_,rfl⟩
 rw[hi2]at he
 obtain⟨j2,hj2⟩:∃j2,scanDown (fun x=>!ltFP cf x e[a]!) e i2 j=j2:=⟨_,rfl⟩
 rw[hj2]at he
 refine gg1 ?_
 refine jF (fun _:Unit=>[(0,.slice (some ⟨g,0,none⟩) n c),(1,.int .i64 (a:Nat)),(4,.func (.func fc) #[] ⟨caps⟩),(12,.int .i64 ((i2:Nat):Int)),(13,.int .i64 ((j:Nat):Int))]) (fun _=>[sl (some ⟨g,0,none⟩) c 143 2 n (dCP (e)),q,R]) (fun _=>i≤i2∧i2≤j+2) ?_ ?_
 ·refine gg1 ?_
  refine dV (fun x:Nat=>[(0,.slice (some ⟨g,0,none⟩) n c),(1,.int .i64 (a:Nat)),(4,.func (.func fc) #[] ⟨caps⟩),(12,.int .i64 ((x:Nat):Int)),(13,.int .i64 ((j:Nat):Int))]) (fun _=>[sl (some ⟨g,0,none⟩) c 143 2 n (dCP (e)),q,R]) (fun x=>j+1-x) (fun x=>scanUp (fun x=>ltFP cf x (e)[a]!) (e) (j) x=i2∧i≤x∧x≤j+2) (i) ?_ ?_ ?_ ?_
  ·exact⟨hi2,oO,oO⟩
  ·exact⟨O,O,O,O,O,trivial⟩
  ·exact uI
  rintro x⟨hx,hx1,hx2⟩
  refine gg7 ?_
  refine dS 108 O (fun su=>?_) (fun su=>?_)
  ·obtain⟨f0,f0'⟩:=fV (e) (i:=x) oO (0+((x:Nat):Int).toNat*2) oO
   obtain⟨f1,f1'⟩:=fV (e) (i:=a) oO (0+((a:Nat):Int).toNat*2) oO
   have hcc:=hc _ _ (hde.2 (x) oO) (hde.2 (a) oO)
   refine gg19 ?_
   refine uU ?_
   apply fO (hx:=O) (ha:=O) (hf:=hf)
   ·exact hcc
   ·exact uK
   rintro _ _⟨rfl,rfl⟩
   simp only[uV,uW]
   refine gg5 ?_
   refine bE O (fun gu=>?_) (fun gu=>?_)
   ·refine gg9 ?_
    refine bS (x+1) ⟨?_,oO,oO⟩ oO ⟨O,O,O,congrArg some (bW oO),O,trivial⟩ uI
    rw[←hx]
    conv=>rhs;rw[scanUp,if_pos (by simp[ltFP,gu];omega)]
   rw[scanUp,if_neg (by simp[ltFP,gu])]at hx
   rw[←hx]
   refine gg4 ?_
   refine dY () oO ⟨O,O,O,O,O,trivial⟩ uI
  rw[scanUp,if_neg (by simp;omega)]at hx
  rw[←hx]
  refine gg19 ?_
  refine dY () oO ⟨O,O,O,O,O,trivial⟩ uI
 rintro _⟨hi2a,hi2b⟩
 refine jF (fun _:Unit=>[(0,.slice (some ⟨g,0,none⟩) n c),(1,.int .i64 (a:Nat)),(4,.func (.func fc) #[] ⟨caps⟩),(12,.int .i64 ((i2:Nat):Int)),(13,.int .i64 ((j2:Nat):Int))]) (fun _=>[sl (some ⟨g,0,none⟩) c 143 2 n (dCP (e)),q,R]) (fun _=>a≤j2∧j2≤j) ?_ ?_
 ·refine gg1 ?_
  refine dV (fun x:Nat=>[(0,.slice (some ⟨g,0,none⟩) n c),(1,.int .i64 (a:Nat)),(4,.func (.func fc) #[] ⟨caps⟩),(12,.int .i64 ((i2:Nat):Int)),(13,.int .i64 ((x:Nat):Int))]) (fun _=>[sl (some ⟨g,0,none⟩) c 143 2 n (dCP (e)),q,R]) (fun x=>x) (fun x=>scanDown (fun x=>!ltFP cf x (e)[a]!) (e) (i2) x=j2∧a≤x∧x≤j) (j) ?_ ?_ ?_ ?_
  ·exact⟨hj2,oO,oO⟩
  ·exact⟨O,O,O,O,O,trivial⟩
  ·exact uI
  rintro x⟨hx,hx1,hx2⟩
  refine gg7 ?_
  refine dS 126 O (fun sw=>?_) (fun sw=>?_)
  ·obtain⟨x,rfl⟩:∃k,x=k+1:=⟨x-1,oO⟩
   obtain⟨f0,f0'⟩:=fV (e) (i:=x+1) oO (0+((x+1:Nat):Int).toNat*2) oO
   obtain⟨f1,f1'⟩:=fV (e) (i:=a) oO (0+((a:Nat):Int).toNat*2) oO
   have hcc:=hc _ _ (hde.2 (x+1) oO) (hde.2 (a) oO)
   refine gg19 ?_
   refine uU ?_
   apply fO (hx:=O) (ha:=O) (hf:=hf)
   ·exact hcc
   ·exact uK
   rintro _ _⟨rfl,rfl⟩
   simp only[uV,uW]
   refine gg7 ?_
   refine fJ O (fun gw=>?_) (fun gw=>?_)
   ·refine gg9 ?_
    refine bS (x) ⟨?_,oO,oO⟩ oO ⟨O,O,O,O,congrArg some (bW oO),trivial⟩ uI
    rw[←hx]
    conv=>rhs;rw[scanDown,if_pos (by simp[ltFP,gw];omega)]
   rw[scanDown,if_neg (by simp[ltFP,gw])]at hx
   rw[←hx]
   refine gg4 ?_
   refine dY () oO ⟨O,O,O,O,O,trivial⟩ uI
  have hx':x=j2:=by
   rw[←hx]
   cases x with
   |zero=>rfl
   |succ x=>rw[scanDown,if_neg (by simp;omega)]
  rw[←hx']
  refine gg20 ?_
  refine dY () oO ⟨O,O,O,O,O,trivial⟩ uI
 rintro _⟨hj2a,hj2b⟩
 refine gg8 ?_
 refine bE O (fun h7=>?_) (fun h7=>?_)
 ·rw[if_pos oO]at he
  subst he
  subst hr'
  obtain⟨f6,f6'⟩:=fV e (i:=a) oO (0+((a:Int)).toNat*2) oO
  obtain⟨f7,f7'⟩:=fV e (i:=j2) oO (0+((j2:Int)).toNat*2) oO
  refine gg7 ?_
  refine eH 13 ([sl (some ⟨g,0,none⟩) c 143 2 n (dCP e),q]) [(15,[])] ?_ ?_
  ·exact uI
  refine uP 0 O (aB O) (uP 1 O (aB O) (uP 2 O (aB O) (uP 3 O (aB O) (uP 4 O (aB O) (uP 5 O (aB O) ?_)))))
  refine uP 6 O (uAi O O) ?_
  refine uQ 7 O (uG) ?_
  refine uP 8 O (aB O) (uP 9 O (aB O) ?_)
  refine uP 10 O (uAi O O) ?_
  refine uQ 11 O (uG) ?_
  refine uP 12 O (uAi O O) ?_
  apply gH O oK O
  refine uJ ?_
  refine uE ?_
  refine uP 14 O (uAi O O) ?_
  apply gG O oK oK O
  refine uJ ?_
  refine gg9 ?_
  simp only[bP]
  rw[jP e (i:=j2) (j:=a) oO oO]
  case ho=>omega
  case ho'=>omega
  exact uZ O (.tmp O (.tmp O .nil)) ⟨O,O,hde.swp oO oO⟩
 rw[if_neg oO]at he
 obtain⟨f6,f6'⟩:=fV e (i:=i2) oO (0+((i2:Int)).toNat*2) oO
 obtain⟨f7,f7'⟩:=fV e (i:=j2) oO (0+((j2:Int)).toNat*2) oO
 refine gg3 ?_
 refine eH 13 ([sl (some ⟨g,0,none⟩) c 143 2 n (dCP e),q]) [(15,[])] ?_ ?_
 ·exact uI
 refine uP 0 O (aB O) (uP 1 O (aB O) (uP 2 O (aB O) (uP 3 O (aB O) (uP 4 O (aB O) (uP 5 O (aB O) ?_)))))
 refine uP 6 O (uAi O O) ?_
 refine uQ 7 O (uG) ?_
 refine uP 8 O (aB O) (uP 9 O (aB O) ?_)
 refine uP 10 O (uAi O O) ?_
 refine uQ 11 O (uG) ?_
 refine uP 12 O (uAi O O) ?_
 apply gH O oK O
 refine uJ ?_
 refine uE ?_
 refine uP 14 O (uAi O O) ?_
 apply gG O oK oK O
 refine uJ ?_
 refine gg14 ?_
 simp only[bP]
 rw[jP e (i:=i2) (j:=j2) oO oO]
 case ho=>omega
 case ho'=>omega
 refine bS (ι:=Nat×Nat×Array Nat) (j:=(i2+1,j2-1,swp e i2 j2)) ⟨he,hde.swp oO oO,by show a<i2+1;omega,by show a≤j2-1;omega,by show i2+1≤j2-1+2;omega,by show j2-1<b;omega⟩ (by show j2-1+1-(i2+1)<j+1-i;omega) ⟨rfl,rfl,rfl,congrArg some (bW (by simp only;omega)),congrArg some (bW (by simp only;omega)),trivial⟩ uI
end
end Go.Proofs.YtblljbllmnbiaaaGreatDoor
namespace Sl
open Go Go.RowKit
variable {E:Env}{n:Nat}{L:Fr}{S:List HP}{ty:TypeId}{pos:String}{af:Array Edge}{d:Option Nat}{gd:Option (Nat×Bool)}
theorem qHp {x y:Operand}{xt yt:TypeId}{i j:Nat}{ky:IntKind}(hx:ev L x=some (.int .u64 (i:Nat)))(hy:ev L y=some (.int ky (j:Nat)))(hj:j≤64):
  Yl E n L S ⟨d,.binOp .shl xt x y yt,ty,pos,af,gd⟩ (.int .u64 ((i*2^j%18446744073709551616:Nat):Int)):=fun a w g _=>by
 have h:=shift_shl_any .u64 ky (i:Int) ((j:Nat):Int) (Int.natCast_nonneg j)
 have e:IntKind.u64.wrap ((i:Int)*2^min ((j:Nat):Int).toNat IntKind.u64.bits)=((i*2^j%18446744073709551616:Nat):Int):=by
  rw[Int.toNat_natCast,show min j IntKind.u64.bits=j from Nat.min_eq_left hj,IntKind.wrap_u64,Int.natCast_emod,Int.natCast_mul,Int.natCast_pow];rfl
 rw[e]at h
 simp[execOp,eqGuard,binOp,g.ev hx,g.ev hy,h]
 exact IntKind.wrap_u64 _
theorem qHs {x y:Operand}{xt yt:TypeId}{i j:Nat}(hx:ev L x=some (.int .u64 (i:Nat)))(hy:ev L y=some (.int .u64 (j:Nat)))(hi:i<18446744073709551616)(hj:j<18446744073709551616):
  Yl E n L S ⟨d,.binOp .xor xt x y yt,ty,pos,af,gd⟩ (.int .u64 ((i^^^j:Nat):Int)):=fun a w g _=>by
 have h:=bits_xor_u64_nat i j hi hj
 simp[execOp,eqGuard,binOp,Op.intBits,g.ev hx,g.ev hy]
 exact h
theorem y_and64P {x y:Operand}{xt yt:TypeId}{i j:Nat}(hx:ev L x=some (.int .u64 (i:Nat)))(hy:ev L y=some (.int .u64 (j:Nat)))(hi:i<18446744073709551616)(hj:j<18446744073709551616):
  Yl E n L S ⟨d,.binOp .and xt x y yt,ty,pos,af,gd⟩ (.int .u64 ((i&&&j:Nat):Int)):=fun a w g _=>by
 have h:=bits_and_u64_nat i j hi hj
 simp[execOp,eqGuard,binOp,Op.intBits,g.ev hx,g.ev hy]
 exact h
theorem y_sub64P {x y:Operand}{xt yt:TypeId}{i j:Nat}(hx:ev L x=some (.int .u64 (i:Nat)))(hy:ev L y=some (.int .u64 (j:Nat)))(hi:i<18446744073709551616)(hj:j≤i):
  Yl E n L S ⟨d,.binOp .sub xt x y yt,ty,pos,af,gd⟩ (.int .u64 ((i-j:Nat):Int)):=fun a w g _=>by
 have h:IntKind.u64.wrap ((i:Int)-j)=((i-j:Nat):Int):=by rw[IntKind.wrap_u64];omega
 simp[execOp,eqGuard,binOp,Op.intArith,g.ev hx,g.ev hy]
 exact h
end Sl
namespace Go.Proofs.YtblljbllmnbiaaaGreatDoor
open Go Go.RowKit Sl Eg
set_option maxRecDepth 10000
section
variable {E:Env}
variable {fc:FuncId}{caps:List Value}{q:HP}{ok:Nat→Prop}{cf:Nat→Nat→Int}{g c n:Nat}
def qWc:ByteArray:=⟨([0,1]++(List.replicate 2 2++(List.replicate 4 3++(List.replicate 8 4++(List.replicate 16 5++(List.replicate 32 6++(List.replicate 64 7++List.replicate 128 8)))))):List UInt8).toArray⟩
theorem qWe:(List.range 256).all (fun k=>match qWc[k]? with |some c=>Nat.beq c.toNat (Go.Sort.bitsLen k)|none=>false)=true:=by decide +kernel
theorem qOz {k:Nat}(h:k<256):∃c,qWc[k]?=some c∧c.toNat=Go.Sort.bitsLen k:=by
 have h:=List.all_eq_true.1 qWe k (List.mem_range.2 h)
 cases e:qWc[k]? with
 |none=>rw[e]at h;simp at h
 |some c=>rw[e]at h;exact⟨c,rfl,Nat.eq_of_beq_eq_true h⟩
theorem qPd {i:Nat}(h:i<256):IntKind.u8.wrap ((i:Nat):Int)=(i:Nat):=by
 simp[IntKind.wrap,IntKind.bits,IntKind.signed]
 omega
theorem qHv (k:Nat)(h:256≤k):Go.Sort.bitsLen k=8+Go.Sort.bitsLen (k/2^8):=by
 apply Nat.le_antisymm
 ·rw[Go.Sort.bitsLen_le_iff]
  have:=Go.Sort.lt_two_pow_bitsLen (k/2^8)
  rw[Nat.pow_add]
  have h2:k=2^8*(k/2^8)+k%2^8:=(Nat.div_add_mod k (2^8)).symm
  have h3:=Nat.mod_lt k (show 2^8>0 by decide)
  have h4:2^8*(k/2^8+1)≤2^8*2^Go.Sort.bitsLen (k/2^8):=Nat.mul_le_mul_left _ this
  rw[Nat.mul_add]at h4
  omega
 have h9:8≤Go.Sort.bitsLen k:=by
  apply Classical.byContradiction
  intro hh
  have:=(Go.Sort.bitsLen_le_iff k 7).1 oO
  omega
 have:Go.Sort.bitsLen (k/2^8)≤Go.Sort.bitsLen k-8:=by
  rw[Go.Sort.bitsLen_le_iff]
  have:=Go.Sort.lt_two_pow_bitsLen k
  apply Nat.div_lt_of_lt_mul
  rw[←Nat.pow_add,show 8+(Go.Sort.bitsLen k-8)=Go.Sort.bitsLen k by omega]
  exact this
 omega
theorem qPs (hE:Seat E){k:Nat}(h2:k<65536):Ct E 132 [.int .u64 (k:Nat)] [] (fun v Q=>v= .int .i64 (Go.Sort.bitsLen k:Nat)∧Q=[]):=by
 refine bO (hE.fn Tryz.func132) O O O (fun R=>?_)
 simp only[dR,uV,uW]
 refine gg12 ?_
 refine bE O (fun g1=>?_) (fun g1=>?_)
 ·exfalso;omega
 refine gg9 ?_
 refine bE O (fun g2=>?_) (fun g2=>?_)
 ·exfalso;omega
 refine gg9 ?_
 refine bE O (fun g3=>?_) (fun g3=>?_)
 ·refine gg3 ?_
  refine uB (sG (j:=8) O O (by decide)) ?_
  have hk:k/2^8<256:=oO
  obtain⟨ch,f0,hcn⟩:=qOz hk
  have hcb:=ch.toNat_lt
  refine gg13 ?_
  refine uB (dH O (hE.t O) (hE.t O) (qPd hk)) ?_
  refine uB (pW (bs:=qWc) O O (hE.t O) oO f0) ?_
  refine uB (dH (i:=(ch.toNat:Int)) O (hE.t O) (hE.t O) (dI oO oO)) ?_
  refine uB (qWw (j:=(ch.toNat:Int)) O O oO oO) ?_
  refine gg4 ?_
  exact uZ O (.tmp O .nil) ⟨by rw[hcn,qHv k oO];exact bW oO,rfl⟩
 obtain⟨ch,f0,hcn⟩:=qOz (k:=k) oO
 have hcb:=ch.toNat_lt
 refine gg6 ?_
 refine uB (dH O (hE.t O) (hE.t O) (qPd oO)) ?_
 refine uB (pW (bs:=qWc) O O (hE.t O) oO f0) ?_
 refine uB (dH (i:=(ch.toNat:Int)) O (hE.t O) (hE.t O) (dI oO oO)) ?_
 refine uB (qWw (j:=(ch.toNat:Int)) O O oO oO) ?_
 refine gg4 ?_
 exact uZ O (.tmp O .nil) ⟨by rw[hcn];exact bW oO,rfl⟩
theorem qAr (hE:Seat E){k:Nat}(h2:k<65536):Ct E 101 [.int .u64 (k:Nat)] [] (fun v Q=>v= .int .i64 (Go.Sort.bitsLen k:Nat)∧Q=[]):=by
 refine bO (hE.fn Tryz.func101) O O O (fun R=>?_)
 simp only[dR,uV,uW]
 refine gg12 ?_
 refine uX (qPs hE h2) O ?_
 rintro _ _⟨rfl,rfl⟩
 simp only[uV,uW]
 refine gg4 ?_
 exact uZ O (.tmp O .nil) ⟨O,O⟩
theorem vC {k:Nat}(h:k<65536):Go.Sort.bitsLen k≤16:=(Go.Sort.bitsLen_le_iff k 16).2 h
theorem qLj (hE:Seat E){k:Nat}(h2:k<65536):Ct E 153 [.int .i64 (k:Nat)] [] (fun v Q=>v= .int .u64 ((1<<<Go.Sort.bitsLen k:Nat):Int)∧Q=[]):=by
 have hb:=vC h2
 have hp:2^Go.Sort.bitsLen k≤2^16:=Nat.pow_le_pow_right (by decide) hb
 refine bO (hE.fn Tryz.func153) O O O (fun R=>?_)
 simp only[dR,uV,uW]
 refine gg9 ?_
 refine uX (qAr hE h2) O ?_
 rintro _ _⟨rfl,rfl⟩
 simp only[uV,uW]
 refine uB (qHp (i:=1) O O oO) ?_
 refine gg4 ?_
 exact uZ O (.tmp O .nil) ⟨bW (by rw[Nat.shiftLeft_eq,Nat.mod_eq_of_lt oO]),O⟩
theorem qLm (hE:Seat E){r X:Nat}(hX:X<18446744073709551616):Ct E 154 [uPt r] [cells r [.int .u64 (X:Nat)] 246] (fun v Q=>v= .int .u64 ((Go.Sort.xorNextN X:Nat):Int)∧Q=[cells r [.int .u64 ((Go.Sort.xorNextN X:Nat):Int)] 246]):=by
 obtain⟨A,hA⟩:∃A:Nat,A=X^^^(X*8192%18446744073709551616):=⟨_,rfl⟩
 obtain⟨B,hB⟩:∃B:Nat,B=A^^^(A/128):=⟨_,rfl⟩
 obtain⟨C,hC⟩:∃C:Nat,C=B^^^(B*131072%18446744073709551616):=⟨_,rfl⟩
 have lA:A<18446744073709551616:=by rw[hA];exact Nat.xor_lt_two_pow (n:=64) oO oO
 have lB:B<18446744073709551616:=by rw[hB];exact Nat.xor_lt_two_pow (n:=64) oO oO
 have hv:Go.Sort.xorNextN X=C:=by unfold Go.Sort.xorNextN;simp only[];rw[←hA,←hB,←hC]
 rw[hv]
 refine bO (hE.fn Tryz.func154) O O O (fun R=>?_)
 simp only[dR,uV,uW]
 refine gg13 ?_
 refine uB (qHp (i:=X) (j:=13) O O (by decide)) ?_
 refine uB (qHs (i:=X) (j:=X*2^13%18446744073709551616) O O hX oO) ?_
 refine l_eq 10 (.int .u64 ((A:Nat):Int)) O (bW (by rw[hA])) ?_
 refine gg12 ?_
 refine uB (sG (i:=A) (j:=7) O O (by decide)) ?_
 refine uB (qHs (i:=A) (j:=A/2^7) O O lA oO) ?_
 refine l_eq 19 (.int .u64 ((B:Nat):Int)) O (bW (by rw[hB])) ?_
 refine gg12 ?_
 refine uB (qHp (i:=B) (j:=17) O O (by decide)) ?_
 refine uB (qHs (i:=B) (j:=B*2^17%18446744073709551616) O O lB oO) ?_
 refine l_eq 28 (.int .u64 ((C:Nat):Int)) O (bW (by rw[hC])) ?_
 refine gg13 ?_
 exact uZ O (.tmp O .nil) ⟨O,O⟩
def brkP (a l m i0:Nat)(d:Array Nat):Nat→UInt64×Array Nat
 |0=>(UInt64.ofNat l,d)
 |t+1=>Go.Sort.breakStep a l m (brkP a l m i0 d t) (i0+t)
theorem brk_eqP {d:Array Nat}{a b:Nat}(h:b-a≥8):Go.Sort.breakPatterns d a b=(brkP a (b-a) (1<<<Go.Sort.bitsLen (b-a)) (a+(b-a)/4*2-1) d 3).2:=by
 unfold Go.Sort.breakPatterns
 simp only[if_pos h]
 rfl
open Go.Sort in
theorem xM (hE:Seat E){d:Array Nat}(hd:OkDP ok n d){a b:Nat}(hab:a+12<b)(hb:b≤n)(hn:n<65536):
  Ct E 125 [.slice (some ⟨g,0,none⟩) n c,.int .i64 (a:Nat),.int .i64 (b:Nat),.func (.func fc) #[] ⟨caps⟩] [sl (some ⟨g,0,none⟩) c 143 2 n (dCP d),q]
   (fun v Q=>v= .tuple #[]∧Q=[sl (some ⟨g,0,none⟩) c 143 2 n (dCP (breakPatterns d a b)),q]∧OkDP ok n (breakPatterns d a b)):=by
 have e0:=brk_eqP (d:=d) (a:=a) (b:=b) oO
 obtain⟨l,hl⟩:∃l,l=b-a:=⟨_,rfl⟩
 obtain⟨i0,hi0⟩:∃i0,i0=a+l/4*2-1:=⟨_,rfl⟩
 rw[←hl,←hi0]at e0
 have hl16:=vC (k:=l) oO
 have hlp:=lt_two_pow_bitsLen l
 have hlq:=two_pow_bitsLen_le (n:=l) oO
 have hm0:1<<<bitsLen l=2^bitsLen l:=by rw[Nat.shiftLeft_eq,Nat.one_mul]
 obtain⟨m,hm⟩:∃m,m=1<<<bitsLen l:=⟨_,rfl⟩
 have hml:l<m∧m≤2*l:=by rw[hm,hm0];exact⟨hlp,hlq⟩
 rw[←hm]at e0
 rw[e0]
 have h64:(UInt64.ofNat l).toNat=l:=by simp;omega
 refine bO (hE.fn Tryz.func125) O O O (fun R=>?_)
 simp only[dR,uV,uW]
 refine gg8 ?_
 refine w_eq 8 (.int .i64 ((l:Nat):Int)) O (bW oO) ?_
 refine gg6 ?_
 refine bE O (fun h0=>?_) (fun h0=>?_)
 ·refine gg4 ?_
  refine uU (cZ (hE.t O) (fun b9=>?_))
  refine gg6 ?_
  refine uX (qLj (k:=l) hE oO) O ?_
  rintro _ _⟨rfl,rfl⟩
  simp only[uV,uW]
  refine gg14 ?_
  refine w_eq 11 (.int .i64 ((i0:Nat):Int)) O (bW oO) ?_
  refine w_eq 10 (.int .u64 ((m:Nat):Int)) O (bW (by rw[hm])) ?_
  refine gg1 ?_
  refine dV (fun t:Nat=>[(0,.slice (some ⟨g,0,none⟩) n c),(1,.int .i64 (a:Nat)),(8,.int .i64 (l:Nat)),(9,uPt b9),(10,.int .u64 (m:Nat)),(11,.int .i64 ((i0+t:Nat):Int))]) (fun t=>[cells b9 [.int .u64 (((brkP a l m i0 d t).1.toNat:Nat):Int)] 246,sl (some ⟨g,0,none⟩) c 143 2 n (dCP (brkP a l m i0 d t).2),q,R]) (fun t=>3-t) (fun t=>t≤3∧OkDP ok n (brkP a l m i0 d t).2) 0 ?_ ?_ ?_ ?_
  ·exact⟨oO,hd⟩
  ·exact⟨O,O,O,O,O,O,trivial⟩
  ·show ∀k,_→dQ [cells b9 [.int .u64 (((UInt64.ofNat l).toNat:Nat):Int)] 246,sl (some ⟨g,0,none⟩) c 143 2 n (dCP d),q,R] k
   rw[h64]
   exact uI
  rintro t⟨ht,hdt⟩
  refine gg13 ?_
  refine bE O (fun h1=>?_) (fun h1=>?_)
  ·have hx:=(brkP a l m i0 d t).1.toNat_lt
   have hxn:=xorNextN_lt _ hx
   have hts:=hdt.1
   obtain⟨o,ho⟩:∃o,o=xorNextN (brkP a l m i0 d t).1.toNat&&&(m-1):=⟨_,rfl⟩
   have hom:o≤m-1:=by rw[ho];exact Nat.and_le_right
   have hst:∀o',o'=(if o≥l then o-l else o)→brkP a l m i0 d (t+1)=(xorNext (brkP a l m i0 d t).1,swp (brkP a l m i0 d t).2 (i0+t) (a+o')):=by
    intro o' h'
    subst h'
    show breakStep a l m (brkP a l m i0 d t) (i0+t)=_
    unfold breakStep
    simp only
    rw[xorNext_toNat,←ho]
   refine gg6 ?_
   refine uX (qLm hE hx) O ?_
   rintro _ _⟨rfl,rfl⟩
   simp only[uV,uW]
   refine gg1 ?_
   refine uB (y_sub64P (i:=m) (j:=1) O O oO oO) ?_
   refine uB (y_and64P (i:=xorNextN (brkP a l m i0 d t).1.toNat) (j:=m-1) O O hxn oO) ?_
   refine l_eq 41 (.int .u64 ((o:Nat):Int)) O (bW (by rw[ho])) ?_
   refine uB (dH O (hE.t O) (hE.t O) (dI oO oO)) ?_
   refine gg11 ?_
   refine bE O (fun h2=>?_) (fun h2=>?_)
   ·refine gg7 ?_
    refine w_eq 12 (.int .i64 (((o-l):Nat):Int)) O (bW oO) ?_
    have hs:=hst ((o-l)) (by rw[if_pos (show o≥l by omega)])
    obtain⟨f0,f0'⟩:=fV (brkP a l m i0 d t).2 (i:=i0+t) oO (0+(((i0+t:Nat):Int)).toNat*2) oO
    obtain⟨f1,f1'⟩:=fV (brkP a l m i0 d t).2 (i:=a+((o-l))) oO (0+((a:Int)+(((o-l):Nat):Int)).toNat*2) oO
    refine eH 17 ([sl (some ⟨g,0,none⟩) c 143 2 n (dCP ((brkP a l m i0 d t).2)),q]) [(19,[])] ?_ ?_
    ·exact uI
    refine uP 0 O (aB O) (uP 1 O (aB O) (uP 2 O (aB O) (uP 3 O (aB O) (uP 4 O (aB O) (uP 5 O (uAa O O) (uP 6 O (aB O) (uP 7 O (aB O) (uP 8 O (aB O) (uP 9 O (uAa O O) ?_)))))))))
    refine uP 10 O (uAi O O) ?_
    refine uQ 11 O (uG) ?_
    refine uP 12 O (aB O) (uP 13 O (aB O) ?_)
    refine uP 14 O (uAi O O) ?_
    refine uQ 15 O (uG) ?_
    refine uP 16 O (uAi O O) ?_
    apply gH O oK O
    refine uJ ?_
    refine uE ?_
    refine uP 18 O (uAi O O) ?_
    apply gG O oK oK O
    refine uJ ?_
    refine gg7 ?_
    simp only[bP]
    rw[jP (brkP a l m i0 d t).2 (i:=(i0+t)) (j:=(a+((o-l)))) oO oO]
    case ho=>omega
    case ho'=>omega
    refine bS (t+1) ⟨oO,?_⟩ oO ⟨O,O,O,O,O,congrArg some (bW oO),trivial⟩ ?_
    ·rw[hs]
     exact hdt.swp oO oO
    rw[hs,xorNext_toNat]
    exact uI
   refine gg2 ?_
   refine w_eq 12 (.int .i64 ((o:Nat):Int)) O (bW oO) ?_
   have hs:=hst (o) (by rw[if_neg (show ¬o≥l by omega)])
   obtain⟨f0,f0'⟩:=fV (brkP a l m i0 d t).2 (i:=i0+t) oO (0+(((i0+t:Nat):Int)).toNat*2) oO
   obtain⟨f1,f1'⟩:=fV (brkP a l m i0 d t).2 (i:=a+(o)) oO (0+((a:Int)+((o:Nat):Int)).toNat*2) oO
   refine eH 17 ([sl (some ⟨g,0,none⟩) c 143 2 n (dCP ((brkP a l m i0 d t).2)),q]) [(19,[])] ?_ ?_
   ·exact uI
   refine uP 0 O (aB O) (uP 1 O (aB O) (uP 2 O (aB O) (uP 3 O (aB O) (uP 4 O (aB O) (uP 5 O (uAa O O) (uP 6 O (aB O) (uP 7 O (aB O) (uP 8 O (aB O) (uP 9 O (uAa O O) ?_)))))))))
   refine uP 10 O (uAi O O) ?_
   refine uQ 11 O (uG) ?_
   refine uP 12 O (aB O) (uP 13 O (aB O) ?_)
   refine uP 14 O (uAi O O) ?_
   refine uQ 15 O (uG) ?_
   refine uP 16 O (uAi O O) ?_
   apply gH O oK O
   refine uJ ?_
   refine uE ?_
   refine uP 18 O (uAi O O) ?_
   apply gG O oK oK O
   refine uJ ?_
   refine gg7 ?_
   simp only[bP]
   rw[jP (brkP a l m i0 d t).2 (i:=(i0+t)) (j:=(a+(o))) oO oO]
   case ho=>omega
   case ho'=>omega
   refine bS (t+1) ⟨oO,?_⟩ oO ⟨O,O,O,O,O,congrArg some (bW oO),trivial⟩ ?_
   ·rw[hs]
    exact hdt.swp oO oO
   rw[hs,xorNext_toNat]
   exact uI
  obtain rfl:t=3:=by omega
  refine gg4 ?_
  exact uZe O .nil ⟨O,O,hdt⟩
 exfalso;omega
end
section
variable {E:Env}
variable {fc:FuncId}{caps:List Value}{q:HP}{ok:Nat→Prop}{cf:Nat→Nat→Int}{g c n:Nat}
open Go.Sort in
theorem tN (hE:Seat E)(hf:goFn E.P fc=true)(hc:CmpP E fc caps q ok cf){d:Array Nat}(hd:OkDP ok n d){a b:Nat}(hab:a<b)(hb:b≤n)(hn:n<1099511627776):
  Ct E 128 [.slice (some ⟨g,0,none⟩) n c,.int .i64 (a:Nat),.int .i64 (b:Nat),.func (.func fc) #[] ⟨caps⟩] [sl (some ⟨g,0,none⟩) c 143 2 n (dCP d),q]
   (fun v Q=>v= .bool (partialInsertionSort (ltFP cf) d a b).2∧Q=[sl (some ⟨g,0,none⟩) c 143 2 n (dCP (partialInsertionSort (ltFP cf) d a b).1),q]∧OkDP ok n (partialInsertionSort (ltFP cf) d a b).1):=by
 obtain⟨r,hr⟩:∃r,r=partialInsertionSort (ltFP cf) d a b:=⟨_,rfl⟩
 have hr':=hr.symm
 unfold partialInsertionSort at hr'
 rw[←hr]
 refine bO (hE.fn Tryz.func128) O O O (fun R=>?_)
 simp only[dR,uV,uW]
 refine gg19 ?_
 refine dV (fun x:Nat×Nat×Array Nat=>[(0,.slice (some ⟨g,0,none⟩) n c),(1,.int .i64 (a:Nat)),(2,.int .i64 (b:Nat)),(3,.func (.func fc) #[] ⟨caps⟩),(9,.int .i64 (x.2.1:Nat)),(10,.int .i64 (5-(x.1:Int)))]) (fun x=>[sl (some ⟨g,0,none⟩) c 143 2 n (dCP x.2.2),q,R]) (fun x=>x.1) (fun x=>partialIns (ltFP cf) a b x.1 x.2.1 x.2.2=r∧OkDP ok n x.2.2∧x.1≤5∧a+1≤x.2.1∧x.2.1≤b) (5,a+1,d) ?_ ?_ ?_ ?_
 ·exact⟨hr',hd,Nat.le_refl 5,by show a+1≤a+1;omega,by show a+1≤b;omega⟩
 ·exact⟨O,O,O,O,congrArg some (bW (by simp only;omega)),O,trivial⟩
 ·exact uI
 rintro⟨s,i,e⟩⟨he,hde,hs5,hi,hib⟩
 simp only at he hde hs5 hi hib ⊢
 have hse:=hde.1
 refine gg7 ?_
 refine bE O (fun h0=>?_) (fun h0=>?_)
 ·obtain⟨s,rfl⟩:∃k,s=k+1:=⟨s-1,oO⟩
  rw[partialIns_succ]at he
  obtain⟨i2,hi2⟩:∃i2,scanSorted (ltFP cf) e b i=i2:=⟨_,rfl⟩
  rw[hi2]at he
  refine gg4 ?_
  refine jF (fun _:Unit=>[(0,.slice (some ⟨g,0,none⟩) n c),(1,.int .i64 (a:Nat)),(2,.int .i64 (b:Nat)),(3,.func (.func fc) #[] ⟨caps⟩),(9,.int .i64 ((i2:Nat):Int)),(10,.int .i64 (5-((s+1:Nat):Int)))]) (fun _=>[sl (some ⟨g,0,none⟩) c 143 2 n (dCP e),q,R]) (fun _=>i≤i2∧i2≤b) ?_ ?_
  ·refine gg1 ?_
   refine dV (fun x:Nat=>[(0,.slice (some ⟨g,0,none⟩) n c),(1,.int .i64 (a:Nat)),(2,.int .i64 (b:Nat)),(3,.func (.func fc) #[] ⟨caps⟩),(9,.int .i64 ((x:Nat):Int)),(10,.int .i64 (5-((s+1:Nat):Int)))]) (fun _=>[sl (some ⟨g,0,none⟩) c 143 2 n (dCP e),q,R]) (fun x=>b-x) (fun x=>scanSorted (ltFP cf) e b x=i2∧i≤x∧x≤b) i ?_ ?_ ?_ ?_
   ·exact⟨hi2,Nat.le_refl _,hib⟩
   ·exact⟨O,O,O,O,O,O,trivial⟩
   ·exact uI
   rintro x⟨hx,hx1,hx2⟩
   refine gg7 ?_
   refine dS 22 O (fun g1=>?_) (fun g1=>?_)
   ·obtain⟨f0,f0'⟩:=fV e (i:=x) oO (0+((x:Int)).toNat*2) oO
    obtain⟨f1,f1'⟩:=fV e (i:=x-1) oO (0+((x:Int)-1).toNat*2) oO
    have hcc:=hc _ _ (hde.2 x oO) (hde.2 (x-1) oO)
    refine gg21 ?_
    refine uU ?_
    apply fO (hx:=O) (ha:=O) (hf:=hf)
    ·exact hcc
    ·exact uK
    rintro _ _⟨rfl,rfl⟩
    simp only[uV,uW]
    refine gg7 ?_
    refine fJ O (fun g2=>?_) (fun g2=>?_)
    ·refine gg9 ?_
     refine bS (x+1) ⟨?_,oO,oO⟩ oO ⟨O,O,O,O,congrArg some (bW oO),O,trivial⟩ uI
     rw[←hx]
     conv=>rhs;rw[scanSorted,if_pos (by simp[ltFP,g2];omega)]
    rw[scanSorted,if_neg (by simp[ltFP,g2])]at hx
    rw[←hx]
    refine gg4 ?_
    refine dY () oO ⟨O,O,O,O,O,O,trivial⟩ uI
   rw[scanSorted,if_neg (by simp;omega)]at hx
   rw[←hx]
   refine gg21 ?_
   refine dY () oO ⟨O,O,O,O,O,O,trivial⟩ uI
  rintro _⟨k1,k2⟩
  refine gg8 ?_
  refine bE O (fun h1=>?_) (fun h1=>?_)
  ·rw[if_pos oO]at he
   subst he
   refine gg12 ?_
   exact uZ O (.tmp O .nil) ⟨O,O,hde⟩
  rw[if_neg oO]at he
  refine gg11 ?_
  refine bE O (fun h2=>?_) (fun h2=>?_)
  ·rw[if_pos oO]at he
   subst he
   refine gg12 ?_
   exact uZ O (.tmp O .nil) ⟨O,O,hde⟩
  rw[if_neg oO]at he
  obtain⟨f2,f2'⟩:=fV e (i:=i2) oO (0+((i2:Int)).toNat*2) oO
  obtain⟨f3,f3'⟩:=fV e (i:=i2-1) oO (0+((i2:Int)-1).toNat*2) oO
  refine gg3 ?_
  refine eH 15 ([sl (some ⟨g,0,none⟩) c 143 2 n (dCP e),q]) [(17,[])] ?_ ?_
  ·exact uI
  refine uP 0 O (aB O) (uP 1 O (aB O) (uP 2 O (aB O) (uP 3 O (aB O) (uP 4 O (uAs O O) (uP 5 O (aB O) (uP 6 O (aB O) (uP 7 O (uAs O O) ?_)))))))
  refine uP 8 O (uAi O O) ?_
  refine uQ 9 O (uG) ?_
  refine uP 10 O (aB O) (uP 11 O (aB O) ?_)
  refine uP 12 O (uAi O O) ?_
  refine uQ 13 O (uG) ?_
  refine uP 14 O (uAi O O) ?_
  apply gH O oK O
  refine uJ ?_
  refine uE ?_
  refine uP 16 O (uAi O O) ?_
  apply gG O oK oK O
  refine uJ ?_
  refine gg1 ?_
  simp only[bP]
  rw[jP e (i:=i2) (j:=(i2-1)) oO oO]
  case ho=>omega
  case ho'=>omega
  have hd1:=hde.swp (show i2<n by omega) (show i2-1<n by omega)
  generalize swp e i2 (i2-1)=e1 at*
  obtain⟨e2,he2⟩:∃e2,fixDown (ltFP cf) a i2 e1=e2:=⟨_,rfl⟩
  rw[he2]at he
  unfold fixDown at he2
  refine jF (fun _:Unit=>[(0,.slice (some ⟨g,0,none⟩) n c),(1,.int .i64 (a:Nat)),(2,.int .i64 (b:Nat)),(3,.func (.func fc) #[] ⟨caps⟩),(9,.int .i64 ((i2:Nat):Int)),(10,.int .i64 (5-((s+1:Nat):Int)))]) (fun _=>[sl (some ⟨g,0,none⟩) c 143 2 n (dCP e2),q,R]) (fun _=>OkDP ok n e2) ?_ ?_
  ·refine gg8 ?_
   refine bE O (fun h3=>?_) (fun h3=>?_)
   ·rw[if_pos oO]at he2
    refine gg8 ?_
    refine dV (fun x:Nat×Array Nat=>[(0,.slice (some ⟨g,0,none⟩) n c),(1,.int .i64 (a:Nat)),(2,.int .i64 (b:Nat)),(3,.func (.func fc) #[] ⟨caps⟩),(9,.int .i64 ((i2:Nat):Int)),(10,.int .i64 (5-((s+1:Nat):Int))),(11,.int .i64 ((x.1:Nat):Int))]) (fun x=>[sl (some ⟨g,0,none⟩) c 143 2 n (dCP x.2),q,R]) (fun x=>x.1) (fun x=>shiftDown (ltFP cf) x.1 x.2=e2∧OkDP ok n x.2∧x.1<n) (i2-1,e1) ?_ ?_ ?_ ?_
    ·exact⟨he2,hd1,by show i2-1<n;omega⟩
    ·exact⟨O,O,O,O,O,O,congrArg some (bW (by simp only;omega)),trivial⟩
    ·exact uI
    rintro⟨j,u⟩⟨hu,hdu,hj⟩
    simp only at hu hdu hj ⊢
    have hsu:=hdu.1
    refine gg7 ?_
    refine bE O (fun g3=>?_) (fun g3=>?_)
    ·obtain⟨j,rfl⟩:∃k,j=k+1:=⟨j-1,oO⟩
     obtain⟨f4,f4'⟩:=fV u (i:=j+1) oO (0+(((j+1:Nat):Int)).toNat*2) oO
     obtain⟨f5,f5'⟩:=fV u (i:=j) oO (0+(((j+1:Nat):Int)-1).toNat*2) oO
     have hcc:=hc _ _ (hdu.2 (j+1) oO) (hdu.2 j oO)
     rw[shiftDown]at hu
     refine gg17 ?_
     refine uU ?_
     apply fO (hx:=O) (ha:=O) (hf:=hf)
     ·exact hcc
     ·exact uK
     rintro _ _⟨rfl,rfl⟩
     simp only[uV,uW]
     refine gg4 ?_
     refine fJ O (fun g4=>?_) (fun g4=>?_)
     ·rw[if_pos (by simp[ltFP,g4])]at hu
      subst hu
      refine gg6 ?_
      refine dY () hdu ⟨O,O,O,O,O,O,trivial⟩ uI
     rw[if_neg (by simp[ltFP,g4])]at hu
     refine gg2 ?_
     refine eH 15 ([sl (some ⟨g,0,none⟩) c 143 2 n (dCP u),q]) [(17,[])] ?_ ?_
     ·exact uI
     refine uP 0 O (aB O) (uP 1 O (aB O) (uP 2 O (aB O) (uP 3 O (aB O) (uP 4 O (uAs O O) (uP 5 O (aB O) (uP 6 O (aB O) (uP 7 O (uAs O O) ?_)))))))
     refine uP 8 O (uAi O O) ?_
     refine uQ 9 O (uG) ?_
     refine uP 10 O (aB O) (uP 11 O (aB O) ?_)
     refine uP 12 O (uAi O O) ?_
     refine uQ 13 O (uG) ?_
     refine uP 14 O (uAi O O) ?_
     apply gH O oK O
     refine uJ ?_
     refine uE ?_
     refine uP 16 O (uAi O O) ?_
     apply gG O oK oK O
     refine uJ ?_
     refine gg7 ?_
     simp only[bP]
     rw[jP u (i:=(j+1)) (j:=j) oO oO]
     case ho=>omega
     case ho'=>omega
     refine bS (ι:=Nat×Array Nat) (j:=(j,swp u (j+1) j)) ⟨hu,hdu.swp oO oO,by show j<n;omega⟩ (by show j<j+1;omega) ⟨rfl,rfl,rfl,rfl,rfl,rfl,congrArg some (bW (by simp only;omega)),trivial⟩ uI
    obtain rfl:j=0:=by omega
    rw[shiftDown]at hu
    subst hu
    refine gg4 ?_
    refine dY () hdu ⟨O,O,O,O,O,O,trivial⟩ uI
   rw[if_neg oO]at he2
   subst he2
   refine gg1 ?_
   refine dY () hd1 ⟨O,O,O,O,O,O,trivial⟩ uI
  intro _ hd2
  obtain⟨e3,he3⟩:∃e3,fixUp (ltFP cf) b i2 e2=e3:=⟨_,rfl⟩
  rw[he3]at he
  unfold fixUp at he3
  refine gg8 ?_
  refine bE O (fun h4=>?_) (fun h4=>?_)
  ·rw[if_pos oO]at he3
   refine gg8 ?_
   refine dV (fun x:Nat×Array Nat=>[(0,.slice (some ⟨g,0,none⟩) n c),(1,.int .i64 (a:Nat)),(2,.int .i64 (b:Nat)),(3,.func (.func fc) #[] ⟨caps⟩),(9,.int .i64 ((i2:Nat):Int)),(10,.int .i64 (5-((s+1:Nat):Int))),(12,.int .i64 ((x.1:Nat):Int))]) (fun x=>[sl (some ⟨g,0,none⟩) c 143 2 n (dCP x.2),q,R]) (fun x=>b-x.1) (fun x=>shiftUp (ltFP cf) b x.1 x.2=e3∧OkDP ok n x.2∧1≤x.1∧x.1≤b) (i2+1,e2) ?_ ?_ ?_ ?_
   ·exact⟨he3,hd2,by show 1≤i2+1;omega,by show i2+1≤b;omega⟩
   ·exact⟨O,O,O,O,O,O,congrArg some (bW (by simp only;omega)),trivial⟩
   ·exact uI
   rintro⟨j,u⟩⟨hu,hdu,hj1,hj⟩
   simp only at hu hdu hj1 hj ⊢
   have hsu:=hdu.1
   refine gg8 ?_
   rw[shiftUp]at hu
   refine bE O (fun g5=>?_) (fun g5=>?_)
   ·rw[if_pos (show j<b by omega)]at hu
    obtain⟨f6,f6'⟩:=fV u (i:=j) oO (0+((j:Int)).toNat*2) oO
    obtain⟨f7,f7'⟩:=fV u (i:=j-1) oO (0+((j:Int)-1).toNat*2) oO
    have hcc:=hc _ _ (hdu.2 j oO) (hdu.2 (j-1) oO)
    refine gg17 ?_
    refine uU ?_
    apply fO (hx:=O) (ha:=O) (hf:=hf)
    ·exact hcc
    ·exact uK
    rintro _ _⟨rfl,rfl⟩
    simp only[uV,uW]
    refine gg4 ?_
    refine fJ O (fun g6=>?_) (fun g6=>?_)
    ·rw[if_pos (by simp[ltFP,g6])]at hu
     subst hu
     refine gg13 ?_
     refine bS (ι:=Nat×Nat×Array Nat) (j:=(s,i2,u)) ⟨he,hdu,by show s≤5;omega,by show a+1≤i2;omega,by show i2≤b;omega⟩ (by show s<s+1;omega) ⟨rfl,rfl,rfl,rfl,rfl,congrArg some (bW (by simp only;omega)),trivial⟩ uI
    rw[if_neg (by simp[ltFP,g6])]at hu
    refine gg2 ?_
    refine eH 15 ([sl (some ⟨g,0,none⟩) c 143 2 n (dCP u),q]) [(17,[])] ?_ ?_
    ·exact uI
    refine uP 0 O (aB O) (uP 1 O (aB O) (uP 2 O (aB O) (uP 3 O (aB O) (uP 4 O (uAs O O) (uP 5 O (aB O) (uP 6 O (aB O) (uP 7 O (uAs O O) ?_)))))))
    refine uP 8 O (uAi O O) ?_
    refine uQ 9 O (uG) ?_
    refine uP 10 O (aB O) (uP 11 O (aB O) ?_)
    refine uP 12 O (uAi O O) ?_
    refine uQ 13 O (uG) ?_
    refine uP 14 O (uAi O O) ?_
    apply gH O oK O
    refine uJ ?_
    refine uE ?_
    refine uP 16 O (uAi O O) ?_
    apply gG O oK oK O
    refine uJ ?_
    refine gg7 ?_
    simp only[bP]
    rw[jP u (i:=j) (j:=(j-1)) oO oO]
    case ho=>omega
    case ho'=>omega
    refine bS (ι:=Nat×Array Nat) (j:=(j+1,swp u j (j-1))) ⟨hu,hdu.swp oO oO,by show 1≤j+1;omega,by show j+1≤b;omega⟩ (by show b-(j+1)<b-j;omega) ⟨rfl,rfl,rfl,rfl,rfl,rfl,congrArg some (bW (by simp only;omega)),trivial⟩ uI
   rw[if_neg (show ¬j<b by omega)]at hu
   subst hu
   refine gg11 ?_
   refine bS (ι:=Nat×Nat×Array Nat) (j:=(s,i2,u)) ⟨he,hdu,by show s≤5;omega,by show a+1≤i2;omega,by show i2≤b;omega⟩ (by show s<s+1;omega) ⟨rfl,rfl,rfl,rfl,rfl,congrArg some (bW (by simp only;omega)),trivial⟩ uI
  rw[if_neg oO]at he3
  subst he3
  refine gg8 ?_
  refine bS (ι:=Nat×Nat×Array Nat) (j:=(s,i2,e2)) ⟨he,hd2,by show s≤5;omega,by show a+1≤i2;omega,by show i2≤b;omega⟩ (by show s<s+1;omega) ⟨rfl,rfl,rfl,rfl,rfl,congrArg some (bW (by simp only;omega)),trivial⟩ uI
 obtain rfl:s=0:=by omega
 rw[partialIns]at he
 subst he
 refine gg11 ?_
 exact uZ O (.tmp O .nil) ⟨O,O,hde⟩
end
end Go.Proofs.YtblljbllmnbiaaaGreatDoor
namespace Go.Sort
def pdqCP (lt:Nat→Nat→Bool)(d3:Array Nat)(a b limit:Nat)(wB wP:Bool)(pivot:Nat):Array Nat:=
 if a>0&&!lt d3[a-1]! d3[pivot]! then
  match partitionEqual lt d3 a b pivot with
  |(mid,d4)=>if _h:a<mid∧mid≤b then pdq lt d4 mid b limit wB wP else d4
 else
  match partition lt d3 a b pivot with
  |(mid,alreadyPartitioned,d4)=>
   if _h:a≤mid∧mid<b then
    if mid-a<b-mid then
     pdq lt (pdq lt d4 a mid limit true true) (mid+1) b limit (decide (mid-a≥(b-a)/8)) alreadyPartitioned
    else
     pdq lt (pdq lt d4 (mid+1) b limit true true) a mid limit (decide (b-mid≥(b-a)/8)) alreadyPartitioned
   else d4
def pdqBP (lt:Nat→Nat→Bool)(d2:Array Nat)(a b limit:Nat)(wB wP:Bool)(pivot:Nat)(hint:Hint):Array Nat:=
 let pi:=if wB&&wP&&hint= .increasing then partialInsertionSort lt d2 a b else(d2,false)
 if pi.2 then pi.1 else pdqCP lt pi.1 a b limit wB wP pivot
def pdqAP (lt:Nat→Nat→Bool)(d1:Array Nat)(a b limit:Nat)(wB wP:Bool):Array Nat:=
 let c:=choosePivot lt d1 a b
 pdqBP lt (if c.2= .decreasing then reverseRange d1 a b else d1) a b limit wB wP (if c.2= .decreasing then(b-1)-(c.1-a)else c.1) (if c.2= .decreasing then Hint.increasing else c.2)
theorem qRi {lt:Nat→Nat→Bool}{d:Array Nat}{a b limit:Nat}{wB wP:Bool}(h:¬b-a≤12)(h0:¬limit=0):pdq lt d a b limit wB wP=pdqAP lt (if !wB then breakPatterns d a b else d) a b (if !wB then limit-1 else limit) wB wP:=by
 rw[pdq,if_neg h,if_neg h0]
 rfl
end Go.Sort
namespace Go.Proofs.YtblljbllmnbiaaaGreatDoor
open Go Go.RowKit Sl Eg
set_option maxRecDepth 10000
section
variable {E:Env}
variable {fc:FuncId}{caps:List Value}{q:HP}{ok:Nat→Prop}{cf:Nat→Nat→Int}{g c n:Nat}
theorem qQv {h:Go.Sort.Hint}(e:qEj h=2):h= .decreasing:=by cases h<;>simp[qEj]at e ⊢
theorem qQx {h:Go.Sort.Hint}(e:qEj h=1):h= .increasing:=by cases h<;>simp[qEj]at e ⊢
open Go.Sort in
theorem ct_pdqP (hE:Seat E)(hf:goFn E.P fc=true)(hc:CmpP E fc caps q ok cf)(hO:SWO (ltFP cf))(hn:n<65536):∀(k:Nat){d:Array Nat}(hd:OkDP ok n d){a b limit:Nat}(hk:b-a≤k)(hab:a≤b)(hb:b≤n)(hlim:limit≤1000),
  Ct E 100 [.slice (some ⟨g,0,none⟩) n c,.int .i64 (a:Nat),.int .i64 (b:Nat),.int .i64 (limit:Nat),.func (.func fc) #[] ⟨caps⟩] [sl (some ⟨g,0,none⟩) c 143 2 n (dCP d),q]
   (fun v Q=>v= .tuple #[]∧Q=[sl (some ⟨g,0,none⟩) c 143 2 n (dCP (pdq (ltFP cf) d a b limit true true)),q]∧OkDP ok n (pdq (ltFP cf) d a b limit true true)):=by
 intro k
 induction k using Nat.strongRecOn with
 |_ k ih=>
 intro d hd a b limit hk hab hb hlim
 obtain⟨r,hr⟩:∃r,r=pdq (ltFP cf) d a b limit true true:=⟨_,rfl⟩
 rw[←hr]
 refine bO (hE.fn Tryz.func100) O O O (fun R=>?_)
 simp only[dR,uV,uW]
 refine gg11 ?_
 refine dV (fun x:(Nat×Nat×Nat)×Bool×Bool×Array Nat=>[(0,.slice (some ⟨g,0,none⟩) n c),(1,.int .i64 (x.1.1:Nat)),(2,.int .i64 (x.1.2.1:Nat)),(3,.int .i64 (x.1.2.2:Nat)),(4,.func (.func fc) #[] ⟨caps⟩),(10,.bool x.2.1),(11,.bool x.2.2.1)]) (fun x=>[sl (some ⟨g,0,none⟩) c 143 2 n (dCP x.2.2.2),q,R]) (fun x=>x.1.2.1-x.1.1) (fun x=>pdq (ltFP cf) x.2.2.2 x.1.1 x.1.2.1 x.1.2.2 x.2.1 x.2.2.1=r∧OkDP ok n x.2.2.2∧x.1.1≤x.1.2.1∧x.1.2.1≤n∧x.1.2.2≤1000∧x.1.2.1-x.1.1≤k) ((a,b,limit),true,true,d) ?_ ?_ ?_ ?_
 ·exact⟨hr.symm,hd,hab,hb,hlim,hk⟩
 ·exact⟨O,O,O,O,O,O,O,trivial⟩
 ·exact uI
 clear hr hd hk hab hb hlim a b limit d
 rintro⟨⟨a,b,limit⟩,wB,wP,d⟩⟨he,hd,hab,hb,hlim,hk⟩
 simp only at he hd hab hb hlim hk ⊢
 have hs:=hd.1
 refine gg9 ?_
 obtain⟨l,hl⟩:∃l,l=b-a:=⟨_,rfl⟩
 refine w_eq 12 (.int .i64 ((l:Nat):Int)) O (bW oO) ?_
 refine gg7 ?_
 refine bE O (fun h1=>?_) (fun h1=>?_)
 ·rw[pdq,if_pos oO]at he
  refine gg6 ?_
  refine uX (xO hE hf hc hd hab hb oO) O ?_
  rintro _ _⟨rfl,rfl,hd2⟩
  simp only[uV,uW]
  rw[he]at hd2 ⊢
  refine gg7 ?_
  exact uZ O .nil ⟨O,O,hd2⟩
 refine gg9 ?_
 refine bE O (fun h2=>?_) (fun h2=>?_)
 ·rw[pdq,if_neg oO,if_pos oO]at he
  refine gg6 ?_
  refine uX (qIg hE hf hc hd oO hb oO) O ?_
  rintro _ _⟨rfl,rfl,hd2⟩
  simp only[uV,uW]
  rw[he]at hd2 ⊢
  refine gg7 ?_
  exact uZ O .nil ⟨O,O,hd2⟩
 rw[qRi oO oO]at he
 obtain⟨d1,hd1⟩:∃d1,(if !wB then breakPatterns d a b else d)=d1:=⟨_,rfl⟩
 obtain⟨li,hli⟩:∃li,(if !wB then limit-1 else limit)=li:=⟨_,rfl⟩
 rw[hd1,hli]at he
 refine gg2 ?_
 refine jF (fun _:Unit=>[(0,.slice (some ⟨g,0,none⟩) n c),(1,.int .i64 (a:Nat)),(2,.int .i64 (b:Nat)),(4,.func (.func fc) #[] ⟨caps⟩),(10,.bool wB),(11,.bool wP),(12,.int .i64 ((l:Nat):Int)),(3,.int .i64 ((li:Nat):Int))]) (fun _=>[sl (some ⟨g,0,none⟩) c 143 2 n (dCP d1),q,R]) (fun _=>OkDP ok n d1∧li≤1000) ?_ ?_
 ·refine gg6 ?_
  refine qAc O (fun h3=>?_) (fun h3=>?_)
  ·rw[if_pos h3]at hd1 hli
   refine gg6 ?_
   refine uX (xM hE hd oO hb hn) O ?_
   rintro _ _⟨rfl,rfl,hd2⟩
   simp only[uV,uW]
   rw[hd1]at hd2 ⊢
   refine gg7 ?_
   refine dY () ⟨hd2,oO⟩ ⟨O,O,O,O,O,O,O,congrArg some (bW oO),trivial⟩ uI
  rw[if_neg (by rw[h3];simp)]at hd1 hli
  subst hd1 hli
  refine gg1 ?_
  refine dY () ⟨hd,oO⟩ ⟨O,O,O,O,O,O,O,O,trivial⟩ uI
 rintro _⟨hdd,hli2⟩
 unfold pdqAP at he
 obtain⟨cp,hcp⟩:∃cp,choosePivot (ltFP cf) d1 a b=cp:=⟨_,rfl⟩
 have hcr:=choosePivot_holds (ltFP cf) d1 a b oO
 rw[hcp]at hcr he
 simp only at he
 refine gg6 ?_
 refine uX (qAt hE hf hc hdd oO hb oO) O ?_
 rintro _ _⟨rfl,rfl⟩
 simp only[uV,uW]
 rw[hcp]
 obtain⟨d2,hd2⟩:∃d2,(if cp.2=Hint.decreasing then reverseRange d1 a b else d1)=d2:=⟨_,rfl⟩
 obtain⟨pv,hpv⟩:∃pv,(if cp.2=Hint.decreasing then(b-1)-(cp.1-a)else cp.1)=pv:=⟨_,rfl⟩
 obtain⟨hi,hhi⟩:∃hi,(if cp.2=Hint.decreasing then Hint.increasing else cp.2)=hi:=⟨_,rfl⟩
 rw[hd2,hpv,hhi]at he
 refine gg7 ?_
 refine jF (fun _:Unit=>[(0,.slice (some ⟨g,0,none⟩) n c),(1,.int .i64 (a:Nat)),(2,.int .i64 (b:Nat)),(4,.func (.func fc) #[] ⟨caps⟩),(10,.bool wB),(11,.bool wP),(12,.int .i64 ((l:Nat):Int)),(3,.int .i64 ((li:Nat):Int)),(13,.int .i64 ((pv:Nat):Int)),(14,.int .i64 ((qEj hi:Nat):Int))]) (fun _=>[sl (some ⟨g,0,none⟩) c 143 2 n (dCP d2),q,R]) (fun _=>OkDP ok n d2∧a≤pv∧pv<b) ?_ ?_
 ·refine gg6 ?_
  refine bE O (fun h4=>?_) (fun h4=>?_)
  ·have hde:cp.2= .decreasing:=qQv oO
   rw[if_pos hde]at hd2 hpv hhi
   refine gg6 ?_
   refine uX (zJ hE hdd oO hb oO) O ?_
   rintro _ _⟨rfl,rfl,hdr⟩
   simp only[uV,uW]
   rw[hd2]at hdr ⊢
   refine gg16 ?_
   refine dY () ⟨hdr,oO,oO⟩ ⟨O,O,O,O,O,O,O,O,congrArg some (bW oO),by subst hhi;rfl,trivial⟩ uI
  have hde:¬cp.2= .decreasing:=fun e=>h4 (by rw[e];rfl)
  rw[if_neg hde]at hd2 hpv hhi
  subst hd2 hpv hhi
  refine gg1 ?_
  refine dY () ⟨hdd,hcr.1,hcr.2⟩ ⟨O,O,O,O,O,O,O,O,O,O,trivial⟩ uI
 rintro _⟨hdd2,hpv1,hpv2⟩
 unfold pdqBP at he
 obtain⟨pi,hpi⟩:∃pi,(if wB&&wP&&decide (hi=Hint.increasing)then partialInsertionSort (ltFP cf) d2 a b else(d2,false))=pi:=⟨_,rfl⟩
 rw[hpi]at he
 refine jF (fun _:Unit=>[(0,.slice (some ⟨g,0,none⟩) n c),(1,.int .i64 (a:Nat)),(2,.int .i64 (b:Nat)),(4,.func (.func fc) #[] ⟨caps⟩),(10,.bool wB),(11,.bool wP),(12,.int .i64 ((l:Nat):Int)),(3,.int .i64 ((li:Nat):Int)),(13,.int .i64 ((pv:Nat):Int))]) (fun _=>[sl (some ⟨g,0,none⟩) c 143 2 n (dCP pi.1),q,R]) (fun _=>OkDP ok n pi.1∧pi.2=false) ?_ ?_
 ·refine gg4 ?_
  refine sZ 69 O (fun h5=>?_) (fun h5=>?_)
  ·refine gg4 ?_
   refine sZ 72 O (fun h6=>?_) (fun h6=>?_)
   ·refine gg7 ?_
    refine bE O (fun h7=>?_) (fun h7=>?_)
    ·have hin:hi= .increasing:=qQx oO
     rw[if_pos (by rw[h5,h6,hin];rfl)]at hpi
     refine gg6 ?_
     refine uX (tN hE hf hc hdd2 oO hb oO) O ?_
     rintro _ _⟨rfl,rfl,hdp⟩
     simp only[uV,uW]
     rw[hpi]at hdp ⊢
     refine gg2 ?_
     refine qAc O (fun h8=>?_) (fun h8=>?_)
     ·rw[if_pos h8]at he
      subst he
      refine gg5 ?_
      exact uZ O .nil ⟨O,O,hdp⟩
     refine gg1 ?_
     refine dY () ⟨hdp,h8⟩ ⟨O,O,O,O,O,O,O,O,O,trivial⟩ uI
    rw[if_neg (by intro e;simp at e;rw[e.2]at h7;exact h7 rfl)]at hpi
    subst hpi
    refine gg1 ?_
    refine dY () ⟨hdd2,O⟩ ⟨O,O,O,O,O,O,O,O,O,trivial⟩ uI
   rw[if_neg (by intro e;simp at e;rw[h6]at e;simp at e)]at hpi
   subst hpi
   refine gg7 ?_
   refine dY () ⟨hdd2,O⟩ ⟨O,O,O,O,O,O,O,O,O,trivial⟩ uI
  rw[if_neg (by intro e;simp at e;rw[h5]at e;simp at e)]at hpi
  subst hpi
  refine gg10 ?_
  refine dY () ⟨hdd2,O⟩ ⟨O,O,O,O,O,O,O,O,O,trivial⟩ uI
 rintro _⟨hdp,hpf⟩
 rw[if_neg (by rw[hpf];simp)]at he
 obtain⟨d3,hd3⟩:∃d3,pi.1=d3:=⟨_,rfl⟩
 rw[hd3]at he hdp ⊢
 clear hpi hpf hd3 hd2 hpv hhi hd1 hli
 have hs3:=hdp.1
 unfold pdqCP at he
 refine jF (fun _:Unit=>[(0,.slice (some ⟨g,0,none⟩) n c),(1,.int .i64 (a:Nat)),(2,.int .i64 (b:Nat)),(4,.func (.func fc) #[] ⟨caps⟩),(10,.bool wB),(11,.bool wP),(12,.int .i64 ((l:Nat):Int)),(3,.int .i64 ((li:Nat):Int)),(13,.int .i64 ((pv:Nat):Int))]) (fun _=>[sl (some ⟨g,0,none⟩) c 143 2 n (dCP d3),q,R]) (fun _=>¬(decide (a>0)&&!ltFP cf d3[a-1]! d3[pv]!)=true) ?_ ?_
 ·refine gg5 ?_
  refine dS 83 O (fun h9=>?_) (fun h9=>?_)
  ·obtain⟨f0,f0'⟩:=fV d3 (i:=a-1) oO (0+((a:Int)-1).toNat*2) oO
   obtain⟨f1,f1'⟩:=fV d3 (i:=pv) oO (0+((pv:Int)).toNat*2) oO
   have hcc:=hc _ _ (hdp.2 (a-1) oO) (hdp.2 pv oO)
   refine gg21 ?_
   refine uU ?_
   apply fO (hx:=O) (ha:=O) (hf:=hf)
   ·exact hcc
   ·exact uK
   rintro _ _⟨rfl,rfl⟩
   simp only[uV,uW]
   refine gg7 ?_
   refine fJ O (fun g9=>?_) (fun g9=>?_)
   ·rw[if_pos (by simp[ltFP,g9];omega)]at he
    have hsz:=Go.Sort.size_swp d3 a pv
    have hrg:=partEqLoop_spec (ltFP cf) a b _ (a+1) (b-1) (swp d3 a pv) (Nat.le_refl _) oO oO oO oO (fun t h1 h2=>by omega) (fun t h1 h2=>by omega)
    obtain⟨pq,hpq⟩:∃pq,partitionEqual (ltFP cf) d3 a b pv=pq:=⟨_,rfl⟩
    have hrg1:a<pq.1∧pq.1≤b:=by rw[←hpq];exact⟨hrg.1,hrg.2.1⟩
    rw[hpq]at he
    obtain⟨md,dq⟩:=pq
    simp only at he hrg1
    rw[dif_pos hrg1]at he
    refine gg7 ?_
    refine uX (wD hE hf hc hdp hpv1 hpv2 hb oO) O ?_
    rintro _ _⟨rfl,rfl,hdq⟩
    simp only[uV,uW]
    rw[hpq]at hdq ⊢
    refine gg12 ?_
    refine bS (ι:=(Nat×Nat×Nat)×Bool×Bool×Array Nat) (j:=((md,b,li),wB,wP,dq)) ⟨he,hdq,hrg1.2,hb,hli2,by show b-md≤k;omega⟩ (by show b-md<b-a;omega) ⟨rfl,rfl,rfl,rfl,rfl,rfl,rfl,trivial⟩ uI
   refine gg1 ?_
   refine dY () (by simp[ltFP,g9]) ⟨O,O,O,O,O,O,O,O,O,trivial⟩ uI
  refine gg18 ?_
  refine dY () (by simp;omega) ⟨O,O,O,O,O,O,O,O,O,trivial⟩ uI
 intro _ hno
 rw[if_neg hno]at he
 obtain⟨pt,hpt⟩:∃pt,partition (ltFP cf) d3 a b pv=pt:=⟨_,rfl⟩
 have hrg:=partition_holds (ltFP cf) hO d3 a b pv hpv1 hpv2 oO
 rw[hpt]at he hrg
 have hr1:=hrg.1
 have hr2:=hrg.2.1
 clear hrg hno
 obtain⟨mid,al,d4⟩:=pt
 simp only at he hr1 hr2
 rw[dif_pos ⟨hr1,hr2⟩]at he
 refine gg7 ?_
 refine uX (qFq hE hf hc hdp hpv1 hpv2 hb oO) O ?_
 rintro _ _⟨rfl,rfl,hdq⟩
 simp only[uV,uW]
 rw[hpt]at hdq ⊢
 refine gg39 ?_
 refine bE O (fun h10=>?_) (fun h10=>?_)
 ·rw[if_pos oO]at he
  refine gg8 ?_
  refine w_eq 10 (.bool (decide (mid-a≥(b-a)/8))) O (congrArg Value.bool (decide_eq_decide.2 oO)) ?_
  refine gg7 ?_
  refine uX (ih (mid-a) oO hdq (Nat.le_refl _) hr1 oO hli2) O ?_
  rintro _ _⟨rfl,rfl,hdz⟩
  simp only[uV,uW]
  refine gg8 ?_
  refine bS (ι:=(Nat×Nat×Nat)×Bool×Bool×Array Nat) (j:=((mid+1,b,li),decide (mid-a≥(b-a)/8),al,pdq (ltFP cf) d4 a mid li true true)) ⟨he,hdz,by show mid+1≤b;omega,hb,hli2,by show b-(mid+1)≤k;omega⟩ (by show b-(mid+1)<b-a;omega) ⟨rfl,congrArg some (bW (by simp only;omega)),rfl,rfl,rfl,rfl,rfl,trivial⟩ uI
 rw[if_neg oO]at he
 refine gg8 ?_
 refine w_eq 10 (.bool (decide (b-mid≥(b-a)/8))) O (congrArg Value.bool (decide_eq_decide.2 oO)) ?_
 refine gg8 ?_
 refine l_eq 142 (.int .i64 ((mid+1:Nat):Int)) O (bW oO) ?_
 refine uX (ih (b-(mid+1)) oO hdq (Nat.le_refl _) oO hb hli2) O ?_
 rintro _ _⟨rfl,rfl,hdz⟩
 simp only[uV,uW]
 refine gg7 ?_
 refine bS (ι:=(Nat×Nat×Nat)×Bool×Bool×Array Nat) (j:=((a,mid,li),decide (b-mid≥(b-a)/8),al,pdq (ltFP cf) d4 (mid+1) b li true true)) ⟨he,hdz,hr1,by show mid≤n;omega,hli2,by show mid-a≤k;omega⟩ (by show mid-a<b-a;omega) ⟨rfl,rfl,rfl,rfl,rfl,rfl,rfl,trivial⟩ uI
end
section
variable {E:Env}{g c:Nat}
theorem qIi (hE:Seat E){x:Nat}:Ct E 102 [.int .i64 (x:Nat)] [] (fun v Q=>v= .bool false∧Q=[]):=by
 refine bO (hE.fn Tryz.func102) O O O (fun R=>?_)
 simp only[dR,uV,uW]
 refine gg14 ?_
 exact uZ O (.tmp O .nil) ⟨congrArg Value.bool (by simp),O⟩
def cfP (x y:Nat):Int:=if tmv x<tmv y then -1 else if tmv y<tmv x then 1 else 0
def qLc (x y:Nat):Int:=if x<y then -1 else if y<x then 1 else 0
theorem qLd (hE:Seat E){x y:Nat}:Ct E 67 [.int .i64 (x:Nat),.int .i64 (y:Nat)] [] (fun v Q=>v= .int .i64 (qLc x y)∧Q=[]):=by
 refine bO (hE.fn Tryz.func67) O O O (fun R=>?_)
 simp only[dR,uV,uW]
 refine gg8 ?_
 refine uX (qIi hE) O ?_
 rintro _ _⟨rfl,rfl⟩
 simp only[uV,uW]
 refine gg6 ?_
 refine uX (qIi hE) O ?_
 rintro _ _⟨rfl,rfl⟩
 simp only[uV,uW]
 refine gg29 ?_
 refine bE O (fun h1=>?_) (fun h1=>?_)
 ·have e:qLc x y= -1:=by unfold qLc;rw[if_pos oO]
  rw[e]
  refine gg7 ?_
  exact uZ O (.tmp O .nil) ⟨O,O⟩
 refine gg10 ?_
 refine bE O (fun h2=>?_) (fun h2=>?_)
 ·have e:qLc x y=1:=by unfold qLc;rw[if_neg oO,if_pos oO]
  rw[e]
  refine gg7 ?_
  exact uZ O (.tmp O .nil) ⟨O,O⟩
 have e:qLc x y=0:=by unfold qLc;rw[if_neg oO,if_neg oO]
 rw[e]
 refine gg8 ?_
 exact uZ O (.tmp O .nil) ⟨O,O⟩
theorem qIl (hE:Seat E){x y:Nat}:Ct E 66 [.agg ⟨[.int .i64 (tmv x:Nat),.int .i64 (atv x:Nat)]⟩,.agg ⟨[.int .i64 (tmv y:Nat),.int .i64 (atv y:Nat)]⟩] [] (fun v Q=>v= .int .i64 (cfP x y)∧Q=[]):=by
 refine bO (hE.fn Tryz.func66) O O O (fun R=>?_)
 simp only[dR,uV,uW]
 refine gg2 ?_
 refine uU ?_
 refine iQ O (fun b2=>?_)
 refine uU ?_
 refine iQ O (fun b3=>?_)
 refine gg9 ?_
 refine uX (qLd hE) O ?_
 rintro _ _⟨rfl,rfl⟩
 simp only[uV,uW]
 refine gg4 ?_
 exact uZ O (.tmp O .nil) ⟨O,O⟩
theorem cmpPw (hE:Seat E):CmpP E 66 [] emp (fun _=>True) cfP:=fun x y _ _ R w hs=>((qIl (x:=x) (y:=y) hE) (dQ [emp,R]) w (hs.imp fun k h=>jS (l:=[]) h)).mono fun e w'⟨v,Qs,h1,⟨h2,h3⟩,h4⟩=>⟨v,[emp],h1,⟨h2,rfl⟩,by rw[h3]at h4;exact h4.imp fun k h=>lS (l:=[]) h⟩
theorem swoP:Go.Sort.SWO (ltFP cfP) where
 irrefl:=fun x=>by simp[ltFP,cfP]
 trans:=fun x y z h1 h2=>by
  have g1:cfP x y<0:=of_decide_eq_true h1
  have g2:cfP y z<0:=of_decide_eq_true h2
  refine decide_eq_true (show cfP x z<0 from ?_)
  unfold cfP at*
  split at g1
  ·split at g2
   ·rw[if_pos oO];omega
   split at g2<;>omega
  split at g1<;>omega
 ntrans:=fun x y z h1 h2=>by
  have g1:¬cfP x y<0:=of_decide_eq_false h1
  have g2:¬cfP y z<0:=of_decide_eq_false h2
  refine decide_eq_false (show ¬cfP x z<0 from ?_)
  have h3:¬tmv x<tmv y:=fun h=>g1 (by unfold cfP;rw[if_pos h];omega)
  have h4:¬tmv y<tmv z:=fun h=>g2 (by unfold cfP;rw[if_pos h];omega)
  unfold cfP
  rw[if_neg oO]
  split <;>omega
theorem pair_ofP {n:Nat}{d:Array Nat}(h:d.size=n)(hs:Go.Sort.SortedIn (ltFP cfP) 0 n d):d.toList.Pairwise fun a b=>tmv a≤tmv b:=by
 rw[List.pairwise_iff_getElem]
 intro i j hi hj hij
 have:=of_decide_eq_false (hs i j (Nat.zero_le _) hij (by simp at hj;omega))
 rw[getElem!_pos d j (by simpa using hj),getElem!_pos d i (by simpa using hi)]at this
 simp only[Array.getElem_toList]
 apply Classical.byContradiction
 intro hlt
 apply this
 unfold cfP
 rw[if_pos oO]
 omega
def pwC (l:List (Nat×Nat)):List Value:=l.flatMap fun p=>[.int .i64 (p.1:Nat),.int .i64 (p.2:Nat)]
theorem pwC_enc {l:List (Nat×Nat)}(h:∀p∈l,p.2<4611686018427387904):dCP (l.map enc2).toArray=pwC l:=by
 unfold dCP pwC
 simp only
 induction l with
 |nil=>rfl
 |cons p l ih=>
  rw[List.map_cons,List.flatMap_cons,List.flatMap_cons,ih fun q hq=>h q (by simp[hq]),qWi (h p (by simp)),qRw (h p (by simp))]
theorem pwC_dec (d:Array Nat):dCP d=pwC (d.toList.map fun x=>(tmv x,atv x)):=by
 unfold dCP pwC
 rw[List.flatMap_map]
open Go.Sort in
theorem qSy (hE:Seat E){l:List (Nat×Nat)}(hn:l.length<65536)(hl:∀p∈l,p.2<4611686018427387904):
  Ct E 65 [.slice (some ⟨g,0,none⟩) l.length c,.func (.func 66) #[] #[]] [sl (some ⟨g,0,none⟩) c 143 2 l.length (pwC l)]
   (fun v Q=>∃l':List (Nat×Nat),v= .tuple #[]∧l'.length=l.length∧l'.Perm l∧l'.Pairwise (fun a b=>a.1≤b.1)∧Q=[sl (some ⟨g,0,none⟩) c 143 2 l.length (pwC l')]):=by
 obtain⟨n,hnl⟩:∃n,n=l.length:=⟨_,rfl⟩
 have hd:OkDP (fun _=>True) n (l.map enc2).toArray:=⟨by simp[hnl],fun _ _=>trivial⟩
 have hb:=vC (k:=n) oO
 have hs:=hd.1
 have hpd:=pdq_sorts (ltFP cfP) swoP (l.map enc2).toArray 0 n (bitsLen n) true true (Nat.zero_le _) oO (.inl O)
 obtain⟨⟨p1,p2,p3⟩,hl2⟩:=hpd
 have hx:∀e:Array Nat,e.size=n→e.extract 0 n=e:=fun e h=>by subst h;simp
 rw[hx _ hs,hx _ (p1.trans hs)]at p3
 rw[←hnl,←pwC_enc hl]
 have hc:=cmpPw hE
 refine bO (hE.fn Tryz.func65) O O O (fun R=>?_)
 simp only[dR,uV,uW]
 refine gg12 ?_
 refine uX (qAr hE (k:=n) oO) O ?_
 rintro _ _⟨rfl,rfl⟩
 simp only[uV,uW]
 refine tX emp_in ?_
 refine gg1 ?_
 refine uX (ct_pdqP (a:=0) (b:=n) (limit:=bitsLen n) hE (hE.f oK) hc swoP oO n hd oO (Nat.zero_le _) (Nat.le_refl _) oO) O ?_
 rintro _ _⟨rfl,rfl,hd2⟩
 simp only[uV,uW]
 refine gg1 ?_
 rw[pwC_dec]
 apply xG
 ·rfl
 ·(exact Rs.nil)
 ·refine⟨(pdq (ltFP cfP) (l.map enc2).toArray 0 n (bitsLen n) true true).toList.map fun x=>(tmv x,atv x),O,?_,?_,?_,O⟩
  ·simp[p1];omega
  ·have h1:=p3.map fun x=>(tmv x,atv x)
   have h2:((l.map enc2).map fun x=>(tmv x,atv x))=l:=by
    rw[List.map_map]
    conv=>rhs;rw[←List.map_id l]
    exact List.map_congr_left fun p hp=>by simp[qWi (hl p hp),qRw (hl p hp)]
   rw[h2]at h1
   exact h1
  have h1:=pair_ofP (p1.trans hs) hl2
  exact List.pairwise_map.2 h1
 exact uI
end
end Go.Proofs.YtblljbllmnbiaaaGreatDoor
