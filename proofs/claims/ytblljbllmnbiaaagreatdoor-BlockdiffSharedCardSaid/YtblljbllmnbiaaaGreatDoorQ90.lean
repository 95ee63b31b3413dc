import Derived.Test.YtblljbllmnbiaaaGreatDoorQ05
import Derived.Test.YtblljbllmnbiaaaGreatDoorQ13
import Derived.Sort.AssemblyPlain
set_option linter.all false
set_option maxHeartbeats 1000000
namespace Go.Proofs.YtblljbllmnbiaaaGreatDoor
open Go Go.RowKit Sl Eg
set_option maxRecDepth 10000
section
variable {E:Env}
def tmv (x:Nat):Nat:=x/4611686018427387904
def atv (x:Nat):Nat:=x%4611686018427387904
def enc2 (p:Nat×Nat):Nat:=p.1*4611686018427387904+p.2
theorem qUb {p:Nat×Nat}(h:p.2<4611686018427387904):tmv (enc2 p)=p.1:=by unfold tmv enc2;omega
theorem qQc {p:Nat×Nat}(h:p.2<4611686018427387904):atv (enc2 p)=p.2:=by unfold atv enc2;omega
def dCP (d:Array Nat):List Value:=d.toList.flatMap fun x=>[.int .i64 (tmv x:Nat),.int .i64 (atv x:Nat)]
theorem two_at:∀(l:List Nat)(i x o:Nat),l[i]?=some x→o=0+i*2→(l.flatMap fun x=>[Value.int .i64 (tmv x:Nat),.int .i64 (atv x:Nat)])[o]?=some (.int .i64 (tmv x:Nat))∧(l.flatMap fun x=>[Value.int .i64 (tmv x:Nat),.int .i64 (atv x:Nat)])[o+1]?=some (.int .i64 (atv x:Nat))
 |[],i,x,o,h,_=>by simp at h
 |y::l,0,x,o,h,ho=>by
  obtain rfl:o=0:=by omega
  simp at h
  subst h
  exact⟨O,O⟩
 |y::l,i+1,x,o,h,ho=>by
  rw[List.getElem?_cons_succ]at h
  obtain⟨m,rfl⟩:∃m,o=m+2:=⟨o-2,oO⟩
  have:=two_at l i x m h oO
  rw[List.flatMap_cons]
  exact this
theorem fZ (d:Array Nat){i:Nat}(h:i<d.size)(o:Nat)(ho:o=0+i*2):(dCP d)[o]?=some (.int .i64 (tmv d[i]!:Nat))∧(dCP d)[o+1]?=some (.int .i64 (atv d[i]!:Nat)):=
 two_at d.toList i _ o (by simp[h]) ho
theorem qUd:∀(l:List Nat)(i x o:Nat),i<l.length→o=0+i*2→bX (l.flatMap fun x=>[Value.int .i64 (tmv x:Nat),.int .i64 (atv x:Nat)]) o [.int .i64 (tmv x:Nat),.int .i64 (atv x:Nat)]=(l.set i x).flatMap fun x=>[Value.int .i64 (tmv x:Nat),.int .i64 (atv x:Nat)]
 |[],i,x,o,h,_=>by simp at h
 |y::l,0,x,o,h,ho=>by
  obtain rfl:o=0:=by omega
  rfl
 |y::l,i+1,x,o,h,ho=>by
  obtain⟨m,rfl⟩:∃m,o=m+2:=⟨o-2,oO⟩
  have:=qUd l i x m (by simpa using h) oO
  rw[List.flatMap_cons,List.set_cons_succ,List.flatMap_cons,←this]
  rfl
theorem qRg (d:Array Nat){i:Nat}(h:i<d.size)(x o:Nat)(ho:o=0+i*2):bX (dCP d) o [.int .i64 (tmv x:Nat),.int .i64 (atv x:Nat)]=dCP (d.setIfInBounds i x):=by
 unfold dCP
 rw[Array.toList_setIfInBounds]
 exact qUd d.toList i x o (by simpa using h) ho
theorem jJ (d:Array Nat){i j:Nat}(hi:i<d.size)(hj:j<d.size)(o o':Nat)(ho:o=0+i*2)(ho':o'=0+j*2):bX (bX (dCP d) o [.int .i64 (tmv d[j]!:Nat),.int .i64 (atv d[j]!:Nat)]) o' [.int .i64 (tmv d[i]!:Nat),.int .i64 (atv d[i]!:Nat)]=dCP (Go.Sort.swp d i j):=by
 rw[qRg d hi _ o ho,qRg _ (by simpa using hj) _ o' ho']
 rfl
def OkDP (ok:Nat→Prop)(n:Nat)(d:Array Nat):Prop:=d.size=n∧∀i,i<n→ok d[i]!
theorem OkDP.swp {ok:Nat→Prop}{n:Nat}{d:Array Nat}(h:OkDP ok n d){i j:Nat}(hi:i<n)(hj:j<n):OkDP ok n (Go.Sort.swp d i j):=by
 obtain⟨hs,ho⟩:=h
 refine⟨by simp[Go.Sort.swp,hs],fun k hk=>?_⟩
 have ki:k<d.size:=oO
 simp only[Go.Sort.swp]
 have e:((d.setIfInBounds i d[j]!).setIfInBounds j d[i]!)[k]! =if j=k then d[i]! else if i=k then d[j]! else d[k]!:=by
  rw[getElem!_pos _ k (by simpa using ki),Array.getElem_setIfInBounds (by simpa using ki)]
  split
  ·rfl
  rw[Array.getElem_setIfInBounds ki]
  split
  ·rfl
  rw[getElem!_pos d k ki]
 rw[e]
 split
 ·exact ho i hi
 split
 ·exact ho j hj
 exact ho k hk
variable {fc:FuncId}{caps:List Value}{q:HP}{ok:Nat→Prop}{cf:Nat→Nat→Int}{g c n:Nat}
def CmpP (E:Env)(fc:FuncId)(caps:List Value)(q:HP)(ok:Nat→Prop)(cf:Nat→Nat→Int):Prop:=∀x y,ok x→ok y→Ct E fc (.agg ⟨[.int .i64 (tmv x:Nat),.int .i64 (atv x:Nat)]⟩:: .agg ⟨[.int .i64 (tmv y:Nat),.int .i64 (atv y:Nat)]⟩::caps) [q] (fun v Q=>v= .int .i64 (cf x y)∧Q=[q])
def ltFP (cf:Nat→Nat→Int)(x y:Nat):Bool:=decide (cf x y<0)
theorem wY (hE:Seat E)(hf:goFn E.P fc=true)(hc:CmpP E fc caps q ok cf){d:Array Nat}(hd:OkDP ok n d){a b sw k:Nat}(ha:a<n)(hb:b<n)(hk:k<1000):
  Ct E 175 [.slice (some ⟨g,0,none⟩) n c,.int .i64 (a:Nat),.int .i64 (b:Nat),uPt sw,.func (.func fc) #[] ⟨caps⟩] [cells sw [.int .i64 (k:Nat)] 3,sl (some ⟨g,0,none⟩) c 143 2 n (dCP d),q]
   (fun v Q=>v= .tuple #[.int .i64 ((Go.Sort.order2 (ltFP cf) d a b k).1:Nat),.int .i64 ((Go.Sort.order2 (ltFP cf) d a b k).2.1:Nat)]∧Q=[cells sw [.int .i64 ((Go.Sort.order2 (ltFP cf) d a b k).2.2:Nat)] 3,sl (some ⟨g,0,none⟩) c 143 2 n (dCP d),q]):=by
 have hs:=hd.1
 obtain⟨f0,f0'⟩:=fZ d (i:=b) oO (0+((b:Int)).toNat*2) oO
 obtain⟨f1,f1'⟩:=fZ d (i:=a) oO (0+((a:Int)).toNat*2) oO
 have hcc:=hc _ _ (hd.2 b hb) (hd.2 a ha)
 refine bO (hE.fn Tryz.func175) O O O (fun R=>?_)
 simp only[dR,uV,uW]
 refine gg18 ?_
 refine uU ?_
 apply fO (hx:=O) (ha:=O) (hf:=hf)
 ·exact hcc
 ·exact uK
 rintro _ _⟨rfl,rfl⟩
 simp only[uV,uW]
 refine gg3 ?_
 refine bE O (fun h1=>?_) (fun h1=>?_)
 ·have e:Go.Sort.order2 (ltFP cf) d a b k=(b,a,k+1):=by unfold Go.Sort.order2;rw[if_pos (by simp[ltFP,h1])]
  rw[e]
  refine gg6 ?_
  refine l_eq 26 (.int .i64 ((k+1:Nat):Int)) O (bW oO) ?_
  refine gg14 ?_
  exact uZ O (.tmp O (.tmp O .nil)) ⟨O,O⟩
 have e:Go.Sort.order2 (ltFP cf) d a b k=(a,b,k):=by unfold Go.Sort.order2;rw[if_neg (by simp[ltFP,h1])]
 rw[e]
 refine gg11 ?_
 exact uZ O (.tmp O (.tmp O .nil)) ⟨O,O⟩
open Go.Sort in
theorem nQ {lt:Nat→Nat→Bool}{d:Array Nat}{a b k m:Nat}(ha:a<m)(hb:b<m):(order2 lt d a b k).1<m∧(order2 lt d a b k).2.1<m∧(order2 lt d a b k).2.2≤k+1:=by
 unfold order2
 split
 ·exact⟨hb,ha,Nat.le_refl _⟩
 exact⟨ha,hb,Nat.le_succ _⟩
open Go.Sort in
theorem xL {lt:Nat→Nat→Bool}{d:Array Nat}{a b e k m:Nat}(ha:a<m)(hb:b<m)(he:e<m):(median lt d a b e k).1<m∧(median lt d a b e k).2≤k+3:=by
 have h1:=nQ (lt:=lt) (d:=d) (k:=k) ha hb
 have h2:=nQ (lt:=lt) (d:=d) (k:=(order2 lt d a b k).2.2) h1.2.1 he
 have h3:=nQ (lt:=lt) (d:=d) (k:=(order2 lt d (order2 lt d a b k).2.1 e (order2 lt d a b k).2.2).2.2) h1.1 h2.1
 unfold median
 exact⟨h3.2.1,by simp only;omega⟩
theorem wV (hE:Seat E)(hf:goFn E.P fc=true)(hc:CmpP E fc caps q ok cf){d:Array Nat}(hd:OkDP ok n d){a b e sw k:Nat}(ha:a<n)(hb:b<n)(he:e<n)(hk:k<900):
  Ct E 156 [.slice (some ⟨g,0,none⟩) n c,.int .i64 (a:Nat),.int .i64 (b:Nat),.int .i64 (e:Nat),uPt sw,.func (.func fc) #[] ⟨caps⟩] [cells sw [.int .i64 (k:Nat)] 3,sl (some ⟨g,0,none⟩) c 143 2 n (dCP d),q]
   (fun v Q=>v= .int .i64 ((Go.Sort.median (ltFP cf) d a b e k).1:Nat)∧Q=[cells sw [.int .i64 ((Go.Sort.median (ltFP cf) d a b e k).2:Nat)] 3,sl (some ⟨g,0,none⟩) c 143 2 n (dCP d),q]):=by
 have h1:=nQ (lt:=ltFP cf) (d:=d) (k:=k) ha hb
 have h2:=nQ (lt:=ltFP cf) (d:=d) (k:=(Go.Sort.order2 (ltFP cf) d a b k).2.2) h1.2.1 he
 unfold Go.Sort.median
 simp only
 refine bO (hE.fn Tryz.func156) O O O (fun R=>?_)
 simp only[dR,uV,uW]
 refine gg12 ?_
 refine uX (wY (k:=k) hE hf hc hd ha hb oO) O ?_
 rintro _ _⟨rfl,rfl⟩
 simp only[uV,uW]
 refine gg14 ?_
 refine uX (wY (k:=(Go.Sort.order2 (ltFP cf) d a b k).2.2) hE hf hc hd h1.2.1 he oO) O ?_
 rintro _ _⟨rfl,rfl⟩
 simp only[uV,uW]
 refine gg14 ?_
 refine uX (wY (k:=(Go.Sort.order2 (ltFP cf) d (Go.Sort.order2 (ltFP cf) d a b k).2.1 e (Go.Sort.order2 (ltFP cf) d a b k).2.2).2.2) hE hf hc hd h1.1 h2.1 oO) O ?_
 rintro _ _⟨rfl,rfl⟩
 simp only[uV,uW]
 refine gg14 ?_
 exact uZ O (.tmp O .nil) ⟨O,O⟩
theorem kP (hE:Seat E)(hf:goFn E.P fc=true)(hc:CmpP E fc caps q ok cf){d:Array Nat}(hd:OkDP ok n d){a sw k:Nat}(ha:a+1<n)(h1:1≤a)(hn:n<1099511627776)(hk:k<900):
  Ct E 155 [.slice (some ⟨g,0,none⟩) n c,.int .i64 (a:Nat),uPt sw,.func (.func fc) #[] ⟨caps⟩] [cells sw [.int .i64 (k:Nat)] 3,sl (some ⟨g,0,none⟩) c 143 2 n (dCP d),q]
   (fun v Q=>v= .int .i64 ((Go.Sort.medianAdjacent (ltFP cf) d a k).1:Nat)∧Q=[cells sw [.int .i64 ((Go.Sort.medianAdjacent (ltFP cf) d a k).2:Nat)] 3,sl (some ⟨g,0,none⟩) c 143 2 n (dCP d),q]):=by
 unfold Go.Sort.medianAdjacent
 refine bO (hE.fn Tryz.func155) O O O (fun R=>?_)
 simp only[dR,uV,uW]
 refine gg15 ?_
 refine l_eq 11 (.int .i64 ((a-1:Nat):Int)) O (bW oO) ?_
 refine l_eq 14 (.int .i64 ((a+1:Nat):Int)) O (bW oO) ?_
 refine uX (wV (a:=a-1) (b:=a) (e:=a+1) (k:=k) hE hf hc hd oO oO ha hk) O ?_
 rintro _ _⟨rfl,rfl⟩
 simp only[uV,uW]
 refine gg4 ?_
 exact uZ O (.tmp O .nil) ⟨O,O⟩
def qCz:Go.Sort.Hint→Nat
 | .unknown=>0
 | .increasing=>1
 | .decreasing=>2
theorem zV (hE:Seat E)(hf:goFn E.P fc=true)(hc:CmpP E fc caps q ok cf){d:Array Nat}(hd:OkDP ok n d){a b:Nat}(hab:a+12<b)(hb:b≤n)(hn:n<1099511627776):
  Ct E 126 [.slice (some ⟨g,0,none⟩) n c,.int .i64 (a:Nat),.int .i64 (b:Nat),.func (.func fc) #[] ⟨caps⟩] [sl (some ⟨g,0,none⟩) c 143 2 n (dCP d),q]
   (fun v Q=>v= .tuple #[.int .i64 ((Go.Sort.choosePivot (ltFP cf) d a b).1:Nat),.int .i64 (qCz (Go.Sort.choosePivot (ltFP cf) d a b).2:Nat)]∧Q=[sl (some ⟨g,0,none⟩) c 143 2 n (dCP d),q]):=by
 refine bO (hE.fn Tryz.func126) O O O (fun R=>?_)
 simp only[dR,uV,uW]
 refine gg14 ?_
 obtain⟨l,hl⟩:∃l,l=b-a:=⟨_,rfl⟩
 obtain⟨i,hi⟩:∃i,i=a+l/4*1:=⟨_,rfl⟩
 obtain⟨j,hj⟩:∃j,j=a+l/4*2:=⟨_,rfl⟩
 obtain⟨m,hm⟩:∃m,m=a+l/4*3:=⟨_,rfl⟩
 refine w_eq 10 (.int .i64 ((l:Nat):Int)) O (bW oO) ?_
 refine gg2 ?_
 refine uU (cZ (hE.t O) (fun b11=>?_))
 refine gg32 ?_
 refine w_eq 12 (.int .i64 ((i:Nat):Int)) O (bW oO) ?_
 refine w_eq 13 (.int .i64 ((j:Nat):Int)) O (bW oO) ?_
 refine w_eq 14 (.int .i64 ((m:Nat):Int)) O (bW oO) ?_
 refine gg7 ?_
 refine bE O (fun h8=>?_) (fun h8=>?_)
 ·have hh:∀r:Nat×Nat,(if l≥50 then Go.Sort.median (ltFP cf) d (Go.Sort.medianAdjacent (ltFP cf) d i 0).1 (Go.Sort.medianAdjacent (ltFP cf) d j (Go.Sort.medianAdjacent (ltFP cf) d i 0).2).1 (Go.Sort.medianAdjacent (ltFP cf) d m (Go.Sort.medianAdjacent (ltFP cf) d j (Go.Sort.medianAdjacent (ltFP cf) d i 0).2).2).1 (Go.Sort.medianAdjacent (ltFP cf) d m (Go.Sort.medianAdjacent (ltFP cf) d j (Go.Sort.medianAdjacent (ltFP cf) d i 0).2).2).2 else Go.Sort.median (ltFP cf) d i j m 0)=r→Go.Sort.choosePivot (ltFP cf) d a b=(r.1,if r.2=0 then .increasing else if r.2=12 then .decreasing else .unknown):=by
   intro r hr
   subst hr
   unfold Go.Sort.choosePivot
   simp only[←hl,←hi,←hj,←hm,if_pos (show l≥8 by omega)]
  refine gg7 ?_
  refine bE O (fun h50=>?_) (fun h50=>?_)
  ·rw[if_pos (show l≥50 by omega)]at hh
   refine gg5 ?_
   refine uX (kP (a:=i) (k:=0) hE hf hc hd oO oO hn oO) O ?_
   rintro _ _⟨rfl,rfl⟩
   simp only[uV,uW]
   refine gg8 ?_
   have c1:=(xL (lt:=ltFP cf) (d:=d) (a:=i-1) (b:=i) (e:=i+1) (k:=0) (m:=n) oO oO oO)
   have c1':(Go.Sort.medianAdjacent (ltFP cf) d i 0).1<n∧(Go.Sort.medianAdjacent (ltFP cf) d i 0).2≤0+3:=c1
   refine uX (kP (a:=j) (k:=(Go.Sort.medianAdjacent (ltFP cf) d i 0).2) hE hf hc hd oO oO hn oO) O ?_
   rintro _ _⟨rfl,rfl⟩
   simp only[uV,uW]
   refine gg7 ?_
   have c2:=(xL (lt:=ltFP cf) (d:=d) (a:=j-1) (b:=j) (e:=j+1) (k:=(Go.Sort.medianAdjacent (ltFP cf) d i 0).2) (m:=n) oO oO oO)
   have c2':(Go.Sort.medianAdjacent (ltFP cf) d j (Go.Sort.medianAdjacent (ltFP cf) d i 0).2).1<n∧(Go.Sort.medianAdjacent (ltFP cf) d j (Go.Sort.medianAdjacent (ltFP cf) d i 0).2).2≤(Go.Sort.medianAdjacent (ltFP cf) d i 0).2+3:=c2
   refine uX (kP (a:=m) (k:=(Go.Sort.medianAdjacent (ltFP cf) d j (Go.Sort.medianAdjacent (ltFP cf) d i 0).2).2) hE hf hc hd oO oO hn oO) O ?_
   rintro _ _⟨rfl,rfl⟩
   simp only[uV,uW]
   refine gg9 ?_
   have c3:=(xL (lt:=ltFP cf) (d:=d) (a:=m-1) (b:=m) (e:=m+1) (k:=(Go.Sort.medianAdjacent (ltFP cf) d j (Go.Sort.medianAdjacent (ltFP cf) d i 0).2).2) (m:=n) oO oO oO)
   have c3':(Go.Sort.medianAdjacent (ltFP cf) d m (Go.Sort.medianAdjacent (ltFP cf) d j (Go.Sort.medianAdjacent (ltFP cf) d i 0).2).2).1<n∧(Go.Sort.medianAdjacent (ltFP cf) d m (Go.Sort.medianAdjacent (ltFP cf) d j (Go.Sort.medianAdjacent (ltFP cf) d i 0).2).2).2≤(Go.Sort.medianAdjacent (ltFP cf) d j (Go.Sort.medianAdjacent (ltFP cf) d i 0).2).2+3:=c3
   clear c1 c2 c3
   generalize Go.Sort.medianAdjacent (ltFP cf) d m (Go.Sort.medianAdjacent (ltFP cf) d j (Go.Sort.medianAdjacent (ltFP cf) d i 0).2).2=r3 at*
   generalize Go.Sort.medianAdjacent (ltFP cf) d j (Go.Sort.medianAdjacent (ltFP cf) d i 0).2=r2 at*
   generalize Go.Sort.medianAdjacent (ltFP cf) d i 0=r1 at*
   refine uX (wV (a:=r1.1) (b:=r2.1) (e:=r3.1) (k:=r3.2) hE hf hc hd c1'.1 c2'.1 c3'.1 oO) O ?_
   rintro _ _⟨rfl,rfl⟩
   simp only[uV,uW]
   generalize Go.Sort.median (ltFP cf) d r1.1 r2.1 r3.1 r3.2=r at*
   rw[hh r rfl]
   refine gg15 ?_
   refine bE O (fun g0=>?_) (fun g0=>?_)
   ·rw[if_pos oO]
    refine gg9 ?_
    exact uZ O (.tmp O (.tmp O .nil)) ⟨O,O⟩
   rw[if_neg oO]
   refine gg6 ?_
   refine bE O (fun g1=>?_) (fun g1=>?_)
   ·rw[if_pos oO]
    refine gg9 ?_
    exact uZ O (.tmp O (.tmp O .nil)) ⟨O,O⟩
   rw[if_neg oO]
   refine gg9 ?_
   exact uZ O (.tmp O (.tmp O .nil)) ⟨O,O⟩
  rw[if_neg (show ¬l≥50 by omega)]at hh
  refine gg8 ?_
  refine uX (wV (a:=i) (b:=j) (e:=m) (k:=0) hE hf hc hd oO oO oO oO) O ?_
  rintro _ _⟨rfl,rfl⟩
  simp only[uV,uW]
  generalize Go.Sort.median (ltFP cf) d i j m 0=r at*
  rw[hh r rfl]
  refine gg15 ?_
  refine bE O (fun g0=>?_) (fun g0=>?_)
  ·rw[if_pos oO]
   refine gg9 ?_
   exact uZ O (.tmp O (.tmp O .nil)) ⟨O,O⟩
  rw[if_neg oO]
  refine gg6 ?_
  refine bE O (fun g1=>?_) (fun g1=>?_)
  ·rw[if_pos oO]
   refine gg9 ?_
   exact uZ O (.tmp O (.tmp O .nil)) ⟨O,O⟩
  rw[if_neg oO]
  refine gg9 ?_
  exact uZ O (.tmp O (.tmp O .nil)) ⟨O,O⟩
 exfalso;omega
end
section
variable {E:Env}
variable {fc:FuncId}{caps:List Value}{q:HP}{ok:Nat→Prop}{cf:Nat→Nat→Int}{g c n:Nat}
open Go.Sort in
theorem yP (hE:Seat E){d:Array Nat}(hd:OkDP ok n d){a b:Nat}(hab:a<b)(hb:b≤n)(hn:n<1099511627776):
  Ct E 127 [.slice (some ⟨g,0,none⟩) n c,.int .i64 (a:Nat),.int .i64 (b:Nat),.func (.func fc) #[] ⟨caps⟩] [sl (some ⟨g,0,none⟩) c 143 2 n (dCP d),q]
   (fun v Q=>v= .tuple #[]∧Q=[sl (some ⟨g,0,none⟩) c 143 2 n (dCP (reverseRange d a b)),q]∧OkDP ok n (reverseRange d a b)):=by
 refine bO (hE.fn Tryz.func127) O O O (fun R=>?_)
 simp only[dR,uV,uW]
 refine gg14 ?_
 refine dV (fun x:Nat×Nat×Array Nat=>[(0,.slice (some ⟨g,0,none⟩) n c),(8,.int .i64 (x.1:Nat)),(9,.int .i64 (x.2.1:Nat))]) (fun x=>[sl (some ⟨g,0,none⟩) c 143 2 n (dCP x.2.2),q,R]) (fun x=>x.2.1-x.1) (fun x=>reverseLoop x.1 x.2.1 x.2.2=reverseRange d a b∧OkDP ok n x.2.2∧x.2.1<n∧x.1≤n) (a,b-1,d) ?_ ?_ ?_ ?_
 ·exact⟨O,hd,by show b-1<n;omega,by show a≤n;omega⟩
 ·exact⟨O,O,congrArg some (bW (by simp only;omega)),trivial⟩
 ·exact uI
 rintro⟨i,j,e⟩⟨he,hd',hj,hi⟩
 simp only at he hd' hj hi ⊢
 have hs:=hd'.1
 refine gg8 ?_
 refine bE O (fun h1=>?_) (fun h1=>?_)
 ·obtain⟨f0,f0'⟩:=fZ e (i:=i) oO (0+((i:Int)).toNat*2) oO
  obtain⟨f1,f1'⟩:=fZ e (i:=j) oO (0+((j:Int)).toNat*2) oO
  refine gg4 ?_
  refine eH 13 ([sl (some ⟨g,0,none⟩) c 143 2 n (dCP e),q]) [(15,[])] ?_ ?_
  ·exact uI
  refine uP 0 O (aB O) (uP 1 O (aB O) (uP 2 O (aB O) (uP 3 O (aB O) (uP 4 O (aB O) (uP 5 O (aB O) ?_)))))
  refine uP 6 O (uAi O O) ?_
  refine uQ 7 O (uG) ?_
  refine uP 8 O (aB O) (uP 9 O (aB O) ?_)
  refine uP 10 O (uAi O O) ?_
  refine uQ 11 O (uG) ?_
  refine uP 12 O (uAi O O) ?_
  apply gG O oK O
  refine uJ ?_
  refine uE ?_
  refine uP 14 O (uAi O O) ?_
  apply gF O oK oK O
  refine uJ ?_
  refine gg14 ?_
  simp only[bP]
  rw[jJ e (i:=i) (j:=j) oO oO]
  case ho=>omega
  case ho'=>omega
  refine bS (ι:=Nat×Nat×Array Nat) (j:=(i+1,j-1,swp e i j)) ⟨?_,hd'.swp oO hj,by show j-1<n;omega,by show i+1≤n;omega⟩ (by show j-1-(i+1)<j-i;omega) ⟨rfl,rfl,?_,trivial⟩ uI
  ·rw[←he]
   conv=>rhs;rw[reverseLoop,if_pos (show i<j by omega)]
  exact congrArg some (bW (by simp only;omega))
 rw[reverseLoop,if_neg (show ¬i<j by omega)]at he
 subst he
 refine gg4 ?_
 exact uZe O .nil ⟨O,O,hd'⟩
open Go.Sort in
theorem wT (hE:Seat E)(hf:goFn E.P fc=true)(hc:CmpP E fc caps q ok cf){d:Array Nat}(hd:OkDP ok n d){a b:Nat}(hab:a≤b)(hb:b≤n)(hn:n<1099511627776):
  Ct E 123 [.slice (some ⟨g,0,none⟩) n c,.int .i64 (a:Nat),.int .i64 (b:Nat),.func (.func fc) #[] ⟨caps⟩] [sl (some ⟨g,0,none⟩) c 143 2 n (dCP d),q]
   (fun v Q=>v= .tuple #[]∧Q=[sl (some ⟨g,0,none⟩) c 143 2 n (dCP (insertionSort (ltFP cf) d a b)),q]∧OkDP ok n (insertionSort (ltFP cf) d a b)):=by
 refine bO (hE.fn Tryz.func123) O O O (fun R=>?_)
 simp only[dR,uV,uW]
 refine gg8 ?_
 refine dV (fun x:Nat×Array Nat=>[(0,.slice (some ⟨g,0,none⟩) n c),(1,.int .i64 (a:Nat)),(2,.int .i64 (b:Nat)),(3,.func (.func fc) #[] ⟨caps⟩),(8,.int .i64 (x.1:Nat))]) (fun x=>[sl (some ⟨g,0,none⟩) c 143 2 n (dCP x.2),q,R]) (fun x=>b-x.1) (fun x=>insOuter (ltFP cf) a b x.1 x.2=insertionSort (ltFP cf) d a b∧OkDP ok n x.2∧a+1≤x.1∧x.1≤n+1) (a+1,d) ?_ ?_ ?_ ?_
 ·exact⟨O,hd,Nat.le_refl _,by show a+1≤n+1;omega⟩
 ·exact⟨O,O,O,O,congrArg some (bW (by simp only;omega)),trivial⟩
 ·exact uI
 rintro⟨i,e⟩⟨he,hd',hi,hi2⟩
 simp only at he hd' hi hi2 ⊢
 refine gg8 ?_
 refine bE O (fun h1=>?_) (fun h1=>?_)
 ·rw[insOuter,if_pos (show i<b by omega)]at he
  refine gg11 ?_
  refine dV (fun x:Nat×Array Nat=>[(0,.slice (some ⟨g,0,none⟩) n c),(1,.int .i64 (a:Nat)),(2,.int .i64 (b:Nat)),(3,.func (.func fc) #[] ⟨caps⟩),(8,.int .i64 (i:Nat)),(9,.int .i64 (x.1:Nat))]) (fun x=>[sl (some ⟨g,0,none⟩) c 143 2 n (dCP x.2),q,R]) (fun x=>x.1) (fun x=>insInner (ltFP cf) a x.1 x.2=insInner (ltFP cf) a i e∧OkDP ok n x.2∧x.1≤i) (i,e) ?_ ?_ ?_ ?_
  ·exact⟨O,hd',Nat.le_refl _⟩
  ·exact⟨O,O,O,O,O,O,trivial⟩
  ·exact uI
  rintro⟨j,u⟩⟨hu,hdu,hj⟩
  simp only at hu hdu hj ⊢
  have hs:=hdu.1
  refine gg7 ?_
  refine dS 21 O (fun h2=>?_) (fun h2=>?_)
  ·obtain⟨j,rfl⟩:∃k,j=k+1:=⟨j-1,oO⟩
   obtain⟨f0,f0'⟩:=fZ u (i:=j+1) oO (0+(((j+1:Nat):Int)).toNat*2) oO
   obtain⟨f1,f1'⟩:=fZ u (i:=j) oO (0+(((j+1:Nat):Int)-1).toNat*2) oO
   have hcc:=hc _ _ (hdu.2 (j+1) oO) (hdu.2 j oO)
   refine gg21 ?_
   refine uU ?_
   apply fO (hx:=O) (ha:=O) (hf:=hf)
   ·exact hcc
   ·exact uK
   rintro _ _⟨rfl,rfl⟩
   simp only[uV,uW]
   refine gg5 ?_
   refine bE O (fun h3=>?_) (fun h3=>?_)
   ·refine gg4 ?_
    refine eH 15 ([sl (some ⟨g,0,none⟩) c 143 2 n (dCP u),q]) [(17,[])] ?_ ?_
    ·exact uI
    refine uP 0 O (aB O) (uP 1 O (aB O) (uP 2 O (aB O) (uP 3 O (aB O) (uP 4 O (uAs O O) (uP 5 O (aB O) (uP 6 O (aB O) (uP 7 O (uAs O O) ?_)))))))
    refine uP 8 O (uAi O O) ?_
    refine uQ 9 O (uG) ?_
    refine uP 10 O (aB O) (uP 11 O (aB O) ?_)
    refine uP 12 O (uAi O O) ?_
    refine uQ 13 O (uG) ?_
    refine uP 14 O (uAi O O) ?_
    apply gG O oK O
    refine uJ ?_
    refine uE ?_
    refine uP 16 O (uAi O O) ?_
    apply gF O oK oK O
    refine uJ ?_
    refine gg7 ?_
    simp only[bP]
    rw[jJ u (i:=(j+1)) (j:=j) oO oO]
    case ho=>omega
    case ho'=>omega
    refine bS (ι:=Nat×Array Nat) (j:=(j,swp u (j+1) j)) ⟨?_,hdu.swp oO oO,by show j≤i;omega⟩ (by show j<j+1;omega) ⟨rfl,rfl,rfl,rfl,rfl,congrArg some (bW (by simp only;omega)),trivial⟩ uI
    rw[←hu]
    conv=>rhs;rw[insInner,if_pos (by simp[ltFP,h3];omega)]
   rw[insInner,if_neg (by simp[ltFP,h3])]at hu
   rw[←hu]at he
   refine gg11 ?_
   refine bS (ι:=Nat×Array Nat) (j:=(i+1,u)) ⟨he,hdu,by show a+1≤i+1;omega,by show i+1≤n+1;omega⟩ (by show b-(i+1)<b-i;omega) ⟨rfl,rfl,rfl,rfl,congrArg some (bW (by simp only;omega)),trivial⟩ uI
  have hu':u=insInner (ltFP cf) a i e:=by
   rw[←hu]
   cases j with
   |zero=>rfl
   |succ j=>rw[insInner,if_neg (by simp;omega)]
  rw[←hu']at he
  refine gg27 ?_
  refine bS (ι:=Nat×Array Nat) (j:=(i+1,u)) ⟨he,hdu,by show a+1≤i+1;omega,by show i+1≤n+1;omega⟩ (by show b-(i+1)<b-i;omega) ⟨rfl,rfl,rfl,rfl,congrArg some (bW (by simp only;omega)),trivial⟩ uI
 rw[insOuter,if_neg (show ¬i<b by omega)]at he
 subst he
 refine gg4 ?_
 exact uZe O .nil ⟨O,O,hd'⟩
open Go.Sort in
theorem qY {lt:Nat→Nat→Bool}{hi first root ch:Nat}{d:Array Nat}(h:¬2*root+1≥hi)(hc:ch<hi)(e:if 2*root+1+1<hi&&lt d[first +(2*root+1)]! d[first +(2*root+1)+1]! then ch=2*root+2 else ch=2*root+1):
  siftDown lt hi first root d=if !lt d[first +root]! d[first +ch]! then d else siftDown lt hi first ch (swp d (first +root) (first +ch)):=by
 rw[siftDown,dif_neg h]
 split at e
 ·rename_i h1
  subst e
  rw[if_pos h1]
  split
  ·rfl
  first |rw[dif_pos hc]|rfl
 rename_i h1
 subst e
 rw[if_neg h1]
open Go.Sort in
theorem yE (hE:Seat E)(hf:goFn E.P fc=true)(hc:CmpP E fc caps q ok cf){d:Array Nat}(hd:OkDP ok n d){lo hi first:Nat}(hlo:lo≤n)(hb:first +hi≤n)(hn:n<1099511627776):
  Ct E 152 [.slice (some ⟨g,0,none⟩) n c,.int .i64 (lo:Nat),.int .i64 (hi:Nat),.int .i64 (first:Nat),.func (.func fc) #[] ⟨caps⟩] [sl (some ⟨g,0,none⟩) c 143 2 n (dCP d),q]
   (fun v Q=>v= .tuple #[]∧Q=[sl (some ⟨g,0,none⟩) c 143 2 n (dCP (siftDown (ltFP cf) hi first lo d)),q]∧OkDP ok n (siftDown (ltFP cf) hi first lo d)):=by
 refine bO (hE.fn Tryz.func152) O O O (fun R=>?_)
 simp only[dR,uV,uW]
 refine gg7 ?_
 refine dV (fun x:Nat×Array Nat=>[(0,.slice (some ⟨g,0,none⟩) n c),(2,.int .i64 (hi:Nat)),(3,.int .i64 (first:Nat)),(4,.func (.func fc) #[] ⟨caps⟩),(10,.int .i64 (x.1:Nat))]) (fun x=>[sl (some ⟨g,0,none⟩) c 143 2 n (dCP x.2),q,R]) (fun x=>hi-x.1) (fun x=>siftDown (ltFP cf) hi first x.1 x.2=siftDown (ltFP cf) hi first lo d∧OkDP ok n x.2∧x.1≤n) (lo,d) ?_ ?_ ?_ ?_
 ·exact⟨O,hd,hlo⟩
 ·exact⟨O,O,O,O,O,trivial⟩
 ·exact uI
 rintro⟨ro,e⟩⟨he,hd',hro⟩
 simp only at he hd' hro ⊢
 have hs:=hd'.1
 refine gg17 ?_
 refine bE O (fun h1=>?_) (fun h1=>?_)
 ·rw[siftDown,dif_pos (show 2*ro+1≥hi by omega)]at he
  subst he
  refine gg5 ?_
  exact uZe O .nil ⟨O,O,hd'⟩
 refine gg10 ?_
 refine dS 23 O (fun h2=>?_) (fun h2=>?_)
 ·obtain⟨f0,f0'⟩:=fZ e (i:=first +(2*ro+1)) oO (0+((first:Int)+(2*(ro:Int)+1)).toNat*2) oO
  obtain⟨f1,f1'⟩:=fZ e (i:=first +(2*ro+1)+1) oO (0+((first:Int)+(2*(ro:Int)+1)+1).toNat*2) oO
  have hcc:=hc _ _ (hd'.2 (first +(2*ro+1)) oO) (hd'.2 (first +(2*ro+1)+1) oO)
  refine gg29 ?_
  refine uU ?_
  apply fO (hx:=O) (ha:=O) (hf:=hf)
  ·exact hcc
  ·exact uK
  rintro _ _⟨rfl,rfl⟩
  simp only[uV,uW]
  refine gg5 ?_
  refine bE O (fun h3=>?_) (fun h3=>?_)
  ·have hk:=qY (lt:=ltFP cf) (d:=e) (first:=first) (show ¬2*ro+1≥hi by omega) (show 2*ro+2<hi by omega) (by rw[if_pos (by simp[ltFP,h3];omega)])
   refine gg6 ?_
   refine w_eq 11 (.int .i64 ((2*ro+2:Nat):Int)) O (bW oO) ?_
   rw[hk]at he
   obtain⟨f2,f2'⟩:=fZ e (i:=first +ro) oO (0+((first:Int)+(ro:Int)).toNat*2) oO
   obtain⟨f3,f3'⟩:=fZ e (i:=first +(2*ro+2)) oO (0+((first:Int)+((2*ro+2:Nat):Int)).toNat*2) oO
   have hcd:=hc _ _ (hd'.2 (first +ro) oO) (hd'.2 (first +(2*ro+2)) oO)
   refine gg16 ?_
   refine uU ?_
   apply fO (hx:=O) (ha:=O) (hf:=hf)
   ·exact hcd
   ·exact uK
   rintro _ _⟨rfl,rfl⟩
   simp only[uV,uW]
   refine gg4 ?_
   refine fK O (fun h5=>?_) (fun h5=>?_)
   ·rw[if_pos (by simp[ltFP,h5])]at he
    subst he
    refine gg5 ?_
    exact uZ O .nil ⟨O,O,hd'⟩
   rw[if_neg (by simp[ltFP,h5])]at he
   refine gg3 ?_
   refine eH 21 ([sl (some ⟨g,0,none⟩) c 143 2 n (dCP e),q]) [(23,[])] ?_ ?_
   ·exact uI
   refine uP 0 O (aB O) (uP 1 O (aB O) (uP 2 O (aB O) (uP 3 O (uAa O O) (uP 4 O (aB O) (uP 5 O (aB O) (uP 6 O (aB O) (uP 7 O (uAa O O) (uP 8 O (aB O) (uP 9 O (aB O) (uP 10 O (aB O) (uP 11 O (uAa O O) ?_)))))))))))
   refine uP 12 O (uAi O O) ?_
   refine uQ 13 O (uG) ?_
   refine uP 14 O (aB O) (uP 15 O (aB O) (uP 16 O (aB O) (uP 17 O (uAa O O) ?_)))
   refine uP 18 O (uAi O O) ?_
   refine uQ 19 O (uG) ?_
   refine uP 20 O (uAi O O) ?_
   apply gG O oK O
   refine uJ ?_
   refine uE ?_
   refine uP 22 O (uAi O O) ?_
   apply gF O oK oK O
   refine uJ ?_
   refine gg6 ?_
   simp only[bP]
   rw[jJ e (i:=(first +ro)) (j:=(first +(2*ro+2))) oO oO]
   case ho=>omega
   case ho'=>omega
   refine bS (ι:=Nat×Array Nat) (j:=(2*ro+2,swp e (first +ro) (first +(2*ro+2)))) ⟨he,hd'.swp oO oO,by show 2*ro+2≤n;omega⟩ (by show hi-(2*ro+2)<hi-ro;omega) ⟨rfl,rfl,rfl,rfl,rfl,trivial⟩ uI
  have hk:=qY (lt:=ltFP cf) (d:=e) (first:=first) (show ¬2*ro+1≥hi by omega) (show 2*ro+1<hi by omega) (by rw[if_neg (by simp[ltFP,h3])])
  refine gg2 ?_
  refine w_eq 11 (.int .i64 ((2*ro+1:Nat):Int)) O (bW oO) ?_
  rw[hk]at he
  obtain⟨f2,f2'⟩:=fZ e (i:=first +ro) oO (0+((first:Int)+(ro:Int)).toNat*2) oO
  obtain⟨f3,f3'⟩:=fZ e (i:=first +(2*ro+1)) oO (0+((first:Int)+((2*ro+1:Nat):Int)).toNat*2) oO
  have hcd:=hc _ _ (hd'.2 (first +ro) oO) (hd'.2 (first +(2*ro+1)) oO)
  refine gg16 ?_
  refine uU ?_
  apply fO (hx:=O) (ha:=O) (hf:=hf)
  ·exact hcd
  ·exact uK
  rintro _ _⟨rfl,rfl⟩
  simp only[uV,uW]
  refine gg4 ?_
  refine fK O (fun h5=>?_) (fun h5=>?_)
  ·rw[if_pos (by simp[ltFP,h5])]at he
   subst he
   refine gg5 ?_
   exact uZ O .nil ⟨O,O,hd'⟩
  rw[if_neg (by simp[ltFP,h5])]at he
  refine gg3 ?_
  refine eH 21 ([sl (some ⟨g,0,none⟩) c 143 2 n (dCP e),q]) [(23,[])] ?_ ?_
  ·exact uI
  refine uP 0 O (aB O) (uP 1 O (aB O) (uP 2 O (aB O) (uP 3 O (uAa O O) (uP 4 O (aB O) (uP 5 O (aB O) (uP 6 O (aB O) (uP 7 O (uAa O O) (uP 8 O (aB O) (uP 9 O (aB O) (uP 10 O (aB O) (uP 11 O (uAa O O) ?_)))))))))))
  refine uP 12 O (uAi O O) ?_
  refine uQ 13 O (uG) ?_
  refine uP 14 O (aB O) (uP 15 O (aB O) (uP 16 O (aB O) (uP 17 O (uAa O O) ?_)))
  refine uP 18 O (uAi O O) ?_
  refine uQ 19 O (uG) ?_
  refine uP 20 O (uAi O O) ?_
  apply gG O oK O
  refine uJ ?_
  refine uE ?_
  refine uP 22 O (uAi O O) ?_
  apply gF O oK oK O
  refine uJ ?_
  refine gg6 ?_
  simp only[bP]
  rw[jJ e (i:=(first +ro)) (j:=(first +(2*ro+1))) oO oO]
  case ho=>omega
  case ho'=>omega
  refine bS (ι:=Nat×Array Nat) (j:=(2*ro+1,swp e (first +ro) (first +(2*ro+1)))) ⟨he,hd'.swp oO oO,by show 2*ro+1≤n;omega⟩ (by show hi-(2*ro+1)<hi-ro;omega) ⟨rfl,rfl,rfl,rfl,rfl,trivial⟩ uI
 have hk:=qY (lt:=ltFP cf) (d:=e) (first:=first) (show ¬2*ro+1≥hi by omega) (show 2*ro+1<hi by omega) (by rw[if_neg (by simp;omega)])
 refine gg22 ?_
 refine w_eq 11 (.int .i64 ((2*ro+1:Nat):Int)) O (bW oO) ?_
 rw[hk]at he
 obtain⟨f2,f2'⟩:=fZ e (i:=first +ro) oO (0+((first:Int)+(ro:Int)).toNat*2) oO
 obtain⟨f3,f3'⟩:=fZ e (i:=first +(2*ro+1)) oO (0+((first:Int)+((2*ro+1:Nat):Int)).toNat*2) oO
 have hcd:=hc _ _ (hd'.2 (first +ro) oO) (hd'.2 (first +(2*ro+1)) oO)
 refine gg16 ?_
 refine uU ?_
 apply fO (hx:=O) (ha:=O) (hf:=hf)
 ·exact hcd
 ·exact uK
 rintro _ _⟨rfl,rfl⟩
 simp only[uV,uW]
 refine gg4 ?_
 refine fK O (fun h5=>?_) (fun h5=>?_)
 ·rw[if_pos (by simp[ltFP,h5])]at he
  subst he
  refine gg5 ?_
  exact uZ O .nil ⟨O,O,hd'⟩
 rw[if_neg (by simp[ltFP,h5])]at he
 refine gg3 ?_
 refine eH 21 ([sl (some ⟨g,0,none⟩) c 143 2 n (dCP e),q]) [(23,[])] ?_ ?_
 ·exact uI
 refine uP 0 O (aB O) (uP 1 O (aB O) (uP 2 O (aB O) (uP 3 O (uAa O O) (uP 4 O (aB O) (uP 5 O (aB O) (uP 6 O (aB O) (uP 7 O (uAa O O) (uP 8 O (aB O) (uP 9 O (aB O) (uP 10 O (aB O) (uP 11 O (uAa O O) ?_)))))))))))
 refine uP 12 O (uAi O O) ?_
 refine uQ 13 O (uG) ?_
 refine uP 14 O (aB O) (uP 15 O (aB O) (uP 16 O (aB O) (uP 17 O (uAa O O) ?_)))
 refine uP 18 O (uAi O O) ?_
 refine uQ 19 O (uG) ?_
 refine uP 20 O (uAi O O) ?_
 apply gG O oK O
 refine uJ ?_
 refine uE ?_
 refine uP 22 O (uAi O O) ?_
 apply gF O oK oK O
 refine uJ ?_
 refine gg6 ?_
 simp only[bP]
 rw[jJ e (i:=(first +ro)) (j:=(first +(2*ro+1))) oO oO]
 case ho=>omega
 case ho'=>omega
 refine bS (ι:=Nat×Array Nat) (j:=(2*ro+1,swp e (first +ro) (first +(2*ro+1)))) ⟨he,hd'.swp oO oO,by show 2*ro+1≤n;omega⟩ (by show hi-(2*ro+1)<hi-ro;omega) ⟨rfl,rfl,rfl,rfl,rfl,trivial⟩ uI
open Go.Sort in
theorem qGz (hE:Seat E)(hf:goFn E.P fc=true)(hc:CmpP E fc caps q ok cf){d:Array Nat}(hd:OkDP ok n d){a b:Nat}(hab:a<b)(hb:b≤n)(hn:n<1099511627776):
  Ct E 124 [.slice (some ⟨g,0,none⟩) n c,.int .i64 (a:Nat),.int .i64 (b:Nat),.func (.func fc) #[] ⟨caps⟩] [sl (some ⟨g,0,none⟩) c 143 2 n (dCP d),q]
   (fun v Q=>v= .tuple #[]∧Q=[sl (some ⟨g,0,none⟩) c 143 2 n (dCP (heapSort (ltFP cf) d a b)),q]∧OkDP ok n (heapSort (ltFP cf) d a b)):=by
 obtain⟨l,hl⟩:∃l,l=b-a:=⟨_,rfl⟩
 have e0:heapSort (ltFP cf) d a b=heapPop (ltFP cf) a l (heapBuild (ltFP cf) l a ((l-1)/2+1) d):=by unfold heapSort;rw[←hl]
 rw[e0]
 refine bO (hE.fn Tryz.func124) O O O (fun R=>?_)
 simp only[dR,uV,uW]
 refine gg19 ?_
 refine w_eq 10 (.int .i64 ((l:Nat):Int)) O (bW oO) ?_
 refine gg10 ?_
 refine dV (fun x:Nat×Array Nat=>[(0,.slice (some ⟨g,0,none⟩) n c),(3,.func (.func fc) #[] ⟨caps⟩),(8,.int .i64 (a:Nat)),(9,.int .i64 0),(10,.int .i64 (l:Nat)),(11,.int .i64 ((x.1:Int)-1))]) (fun x=>[sl (some ⟨g,0,none⟩) c 143 2 n (dCP x.2),q,R]) (fun x=>x.1) (fun x=>heapBuild (ltFP cf) l a x.1 x.2=heapBuild (ltFP cf) l a ((l-1)/2+1) d∧OkDP ok n x.2∧x.1≤l) ((l-1)/2+1,d) ?_ ?_ ?_ ?_
 ·exact⟨O,hd,by show(l-1)/2+1≤l;omega⟩
 ·exact⟨O,O,O,O,O,congrArg some (bW (by simp only;omega)),trivial⟩
 ·exact uI
 rintro⟨k,e⟩⟨he,hd',hk⟩
 simp only at he hd' hk ⊢
 refine gg7 ?_
 refine bE O (fun h1=>?_) (fun h1=>?_)
 ·obtain⟨k,rfl⟩:∃j,k=j+1:=⟨k-1,oO⟩
  refine gg2 ?_
  refine w_eq 11 (.int .i64 ((k:Nat):Int)) O (bW oO) ?_
  refine gg8 ?_
  refine uX (yE hE hf hc hd' oO oO hn) O ?_
  rintro _ _⟨rfl,rfl,hd2⟩
  simp only[uV,uW]
  refine gg8 ?_
  refine bS (ι:=Nat×Array Nat) (j:=(k,siftDown (ltFP cf) l a k e)) ⟨he,hd2,by show k≤l;omega⟩ (by show k<k+1;omega) ⟨rfl,rfl,rfl,rfl,rfl,rfl,trivial⟩ uI
 obtain rfl:k=0:=by omega
 rw[heapBuild]at he
 rw[←he]
 clear he hd e0
 refine gg13 ?_
 refine dV (fun x:Nat×Array Nat=>[(0,.slice (some ⟨g,0,none⟩) n c),(3,.func (.func fc) #[] ⟨caps⟩),(8,.int .i64 (a:Nat)),(9,.int .i64 0),(12,.int .i64 ((x.1:Int)-1))]) (fun x=>[sl (some ⟨g,0,none⟩) c 143 2 n (dCP x.2),q,R]) (fun x=>x.1) (fun x=>heapPop (ltFP cf) a x.1 x.2=heapPop (ltFP cf) a l e∧OkDP ok n x.2∧x.1≤l) (l,e) ?_ ?_ ?_ ?_
 ·exact⟨O,hd',Nat.le_refl _⟩
 ·exact⟨O,O,O,O,O,trivial⟩
 ·exact uI
 rintro⟨k,u⟩⟨hu,hdu,hk⟩
 simp only at hu hdu hk ⊢
 have hs:=hdu.1
 refine gg7 ?_
 refine bE O (fun h2=>?_) (fun h2=>?_)
 ·obtain⟨k,rfl⟩:∃j,k=j+1:=⟨k-1,oO⟩
  obtain⟨f0,f0'⟩:=fZ u (i:=a+k) oO (0+((a:Int)+(k:Int)).toNat*2) oO
  obtain⟨f1,f1'⟩:=fZ u (i:=a) oO (0+(a:Int).toNat*2) oO
  refine gg2 ?_
  refine w_eq 12 (.int .i64 ((k:Nat):Int)) O (bW oO) ?_
  refine gg3 ?_
  refine eH 17 ([sl (some ⟨g,0,none⟩) c 143 2 n (dCP u),q]) [(19,[])] ?_ ?_
  ·exact uI
  refine uP 0 O (aB O) (uP 1 O (aB O) (uP 2 O (aB O) (uP 3 O (aB O) (uP 4 O (aB O) (uP 5 O (uAa O O) (uP 6 O (aB O) (uP 7 O (aB O) (uP 8 O (aB O) (uP 9 O (uAa O O) ?_)))))))))
  refine uP 10 O (uAi O O) ?_
  refine uQ 11 O (uG) ?_
  refine uP 12 O (aB O) (uP 13 O (aB O) ?_)
  refine uP 14 O (uAi O O) ?_
  refine uQ 15 O (uG) ?_
  refine uP 16 O (uAi O O) ?_
  apply gG O oK O
  refine uJ ?_
  refine uE ?_
  refine uP 18 O (uAi O O) ?_
  apply gF O oK oK O
  refine uJ ?_
  refine gg1 ?_
  simp only[bP]
  rw[jJ u (i:=a) (j:=(a+k)) oO oO]
  case ho=>omega
  case ho'=>omega
  refine gg6 ?_
  refine uX (yE (lo:=0) hE hf hc (hdu.swp (show a<n by omega) (show a+k<n by omega)) oO oO hn) rfl ?_
  rintro _ _⟨rfl,rfl,hd2⟩
  simp only[uV,uW]
  refine gg8 ?_
  refine bS (ι:=Nat×Array Nat) (j:=(k,siftDown (ltFP cf) k a 0 (swp u a (a+k)))) ⟨hu,hd2,by show k≤l;omega⟩ (by show k<k+1;omega) ⟨rfl,rfl,rfl,rfl,rfl,trivial⟩ uI
 obtain rfl:k=0:=by omega
 rw[heapPop]at hu
 subst hu
 refine gg4 ?_
 exact uZe O .nil ⟨O,O,hdu⟩
end
section
variable {E:Env}
variable {fc:FuncId}{caps:List Value}{q:HP}{ok:Nat→Prop}{cf:Nat→Nat→Int}{g c n:Nat}
open Go.Sort in
theorem tZ (hE:Seat E)(hf:goFn E.P fc=true)(hc:CmpP E fc caps q ok cf){d:Array Nat}(hd:OkDP ok n d){a b pv:Nat}(hap:a≤pv)(hpb:pv<b)(hb:b≤n)(hn:n<1099511627776):
  Ct E 129 [.slice (some ⟨g,0,none⟩) n c,.int .i64 (a:Nat),.int .i64 (b:Nat),.int .i64 (pv:Nat),.func (.func fc) #[] ⟨caps⟩] [sl (some ⟨g,0,none⟩) c 143 2 n (dCP d),q]
   (fun v Q=>v= .int .i64 ((partitionEqual (ltFP cf) d a b pv).1:Nat)∧Q=[sl (some ⟨g,0,none⟩) c 143 2 n (dCP (partitionEqual (ltFP cf) d a b pv).2),q]∧OkDP ok n (partitionEqual (ltFP cf) d a b pv).2):=by
 have hs:=hd.1
 obtain⟨f2,f2'⟩:=fZ d (i:=pv) oO (0+((pv:Int)).toNat*2) oO
 obtain⟨f3,f3'⟩:=fZ d (i:=a) oO (0+((a:Int)).toNat*2) oO
 obtain⟨r,hr⟩:∃r,r=partitionEqual (ltFP cf) d a b pv:=⟨_,rfl⟩
 have hr':=hr
 unfold partitionEqual at hr'
 rw[←hr]
 refine bO (hE.fn Tryz.func129) O O O (fun R=>?_)
 simp only[dR,uV,uW]
 refine gg6 ?_
 refine eH 13 ([sl (some ⟨g,0,none⟩) c 143 2 n (dCP d),q]) [(15,[])] ?_ ?_
 ·exact uI
 refine uP 0 O (aB O) (uP 1 O (aB O) (uP 2 O (aB O) (uP 3 O (aB O) (uP 4 O (aB O) (uP 5 O (aB O) ?_)))))
 refine uP 6 O (uAi O O) ?_
 refine uQ 7 O (uG) ?_
 refine uP 8 O (aB O) (uP 9 O (aB O) ?_)
 refine uP 10 O (uAi O O) ?_
 refine uQ 11 O (uG) ?_
 refine uP 12 O (uAi O O) ?_
 apply gG O oK O
 refine uJ ?_
 refine uE ?_
 refine uP 14 O (uAi O O) ?_
 apply gF O oK oK O
 refine uJ ?_
 refine gg11 ?_
 simp only[bP]
 rw[jJ d (i:=a) (j:=pv) oO oO]
 case ho=>omega
 case ho'=>omega
 refine w_eq 11 (.int .i64 ((a+1:Nat):Int)) O (bW oO) ?_
 refine w_eq 12 (.int .i64 ((b-1:Nat):Int)) O (bW oO) ?_
 have hd1:=hd.swp (show a<n by omega) (show pv<n by omega)
 generalize swp d a pv=d1 at*
 refine gg2 ?_
 refine dV (fun x:Nat×Nat×Array Nat=>[(0,.slice (some ⟨g,0,none⟩) n c),(1,.int .i64 (a:Nat)),(4,.func (.func fc) #[] ⟨caps⟩),(11,.int .i64 (x.1:Nat)),(12,.int .i64 (x.2.1:Nat))]) (fun x=>[sl (some ⟨g,0,none⟩) c 143 2 n (dCP x.2.2),q,R]) (fun x=>x.2.1+1-x.1) (fun x=>partEqLoop (ltFP cf) a x.1 x.2.1 x.2.2=r∧OkDP ok n x.2.2∧a<x.1∧a≤x.2.1∧x.1≤x.2.1+2∧x.2.1<b) (a+1,b-1,d1) ?_ ?_ ?_ ?_
 ·exact⟨hr'.symm,hd1,by show a<a+1;omega,by show a≤b-1;omega,by show a+1≤b-1+2;omega,by show b-1<b;omega⟩
 ·exact⟨O,O,O,O,O,trivial⟩
 ·exact uI
 rintro⟨i,j,e⟩⟨he,hde,hi,haj,hij,hj⟩
 simp only at he hde hi haj hij hj ⊢
 have hse:=hde.1
 rw[partEqLoop_eq]at he
 obtain⟨i2,hi2⟩:∃i2,scanUp (fun x=>!ltFP cf e[a]! x) e j i=i2:=⟨_,rfl⟩
 rw[hi2]at he
 obtain⟨j2,hj2⟩:∃j2,scanDown (fun x=>ltFP cf e[a]! x) e i2 j=j2:=⟨_,rfl⟩
 rw[hj2]at he
 refine gg1 ?_
 refine jD (fun _:Unit=>[(0,.slice (some ⟨g,0,none⟩) n c),(1,.int .i64 (a:Nat)),(4,.func (.func fc) #[] ⟨caps⟩),(11,.int .i64 ((i2:Nat):Int)),(12,.int .i64 ((j:Nat):Int))]) (fun _=>[sl (some ⟨g,0,none⟩) c 143 2 n (dCP (e)),q,R]) (fun _=>i≤i2∧i2≤j+2) ?_ ?_
 ·refine gg1 ?_
  refine dV (fun x:Nat=>[(0,.slice (some ⟨g,0,none⟩) n c),(1,.int .i64 (a:Nat)),(4,.func (.func fc) #[] ⟨caps⟩),(11,.int .i64 ((x:Nat):Int)),(12,.int .i64 ((j:Nat):Int))]) (fun _=>[sl (some ⟨g,0,none⟩) c 143 2 n (dCP (e)),q,R]) (fun x=>j+1-x) (fun x=>scanUp (fun x=>!ltFP cf (e)[a]! x) (e) (j) x=i2∧i≤x∧x≤j+2) (i) ?_ ?_ ?_ ?_
  ·exact⟨hi2,oO,oO⟩
  ·exact⟨O,O,O,O,O,trivial⟩
  ·exact uI
  rintro x⟨hx,hx1,hx2⟩
  refine gg7 ?_
  refine dS 34 O (fun su=>?_) (fun su=>?_)
  ·obtain⟨f0,f0'⟩:=fZ (e) (i:=x) oO (0+((x:Nat):Int).toNat*2) oO
   obtain⟨f1,f1'⟩:=fZ (e) (i:=a) oO (0+((a:Nat):Int).toNat*2) oO
   have hcc:=hc _ _ (hde.2 (a) oO) (hde.2 (x) oO)
   refine gg19 ?_
   refine uU ?_
   apply fO (hx:=O) (ha:=O) (hf:=hf)
   ·exact hcc
   ·exact uK
   rintro _ _⟨rfl,rfl⟩
   simp only[uV,uW]
   refine gg7 ?_
   refine fK O (fun gu=>?_) (fun gu=>?_)
   ·refine gg9 ?_
    refine bS (x+1) ⟨?_,oO,oO⟩ oO ⟨O,O,O,congrArg some (bW oO),O,trivial⟩ uI
    rw[←hx]
    conv=>rhs;rw[scanUp,if_pos (by simp[ltFP,gu];omega)]
   rw[scanUp,if_neg (by simp[ltFP,gu])]at hx
   rw[←hx]
   refine gg4 ?_
   refine eG () oO ⟨O,O,O,O,O,trivial⟩ uI
  rw[scanUp,if_neg (by simp;omega)]at hx
  rw[←hx]
  refine gg20 ?_
  refine eG () oO ⟨O,O,O,O,O,trivial⟩ uI
 rintro _⟨hi2a,hi2b⟩
 refine jD (fun _:Unit=>[(0,.slice (some ⟨g,0,none⟩) n c),(1,.int .i64 (a:Nat)),(4,.func (.func fc) #[] ⟨caps⟩),(11,.int .i64 ((i2:Nat):Int)),(12,.int .i64 ((j2:Nat):Int))]) (fun _=>[sl (some ⟨g,0,none⟩) c 143 2 n (dCP (e)),q,R]) (fun _=>a≤j2∧j2≤j) ?_ ?_
 ·refine gg1 ?_
  refine dV (fun x:Nat=>[(0,.slice (some ⟨g,0,none⟩) n c),(1,.int .i64 (a:Nat)),(4,.func (.func fc) #[] ⟨caps⟩),(11,.int .i64 ((i2:Nat):Int)),(12,.int .i64 ((x:Nat):Int))]) (fun _=>[sl (some ⟨g,0,none⟩) c 143 2 n (dCP (e)),q,R]) (fun x=>x) (fun x=>scanDown (fun x=>ltFP cf (e)[a]! x) (e) (i2) x=j2∧a≤x∧x≤j) (j) ?_ ?_ ?_ ?_
  ·exact⟨hj2,oO,oO⟩
  ·exact⟨O,O,O,O,O,trivial⟩
  ·exact uI
  rintro x⟨hx,hx1,hx2⟩
  refine gg7 ?_
  refine dS 53 O (fun sw=>?_) (fun sw=>?_)
  ·obtain⟨x,rfl⟩:∃k,x=k+1:=⟨x-1,oO⟩
   obtain⟨f0,f0'⟩:=fZ (e) (i:=x+1) oO (0+((x+1:Nat):Int).toNat*2) oO
   obtain⟨f1,f1'⟩:=fZ (e) (i:=a) oO (0+((a:Nat):Int).toNat*2) oO
   have hcc:=hc _ _ (hde.2 (a) oO) (hde.2 (x+1) oO)
   refine gg19 ?_
   refine uU ?_
   apply fO (hx:=O) (ha:=O) (hf:=hf)
   ·exact hcc
   ·exact uK
   rintro _ _⟨rfl,rfl⟩
   simp only[uV,uW]
   refine gg5 ?_
   refine bE O (fun gw=>?_) (fun gw=>?_)
   ·refine gg9 ?_
    refine bS (x) ⟨?_,oO,oO⟩ oO ⟨O,O,O,O,congrArg some (bW oO),trivial⟩ uI
    rw[←hx]
    conv=>rhs;rw[scanDown,if_pos (by simp[ltFP,gw];omega)]
   rw[scanDown,if_neg (by simp[ltFP,gw])]at hx
   rw[←hx]
   refine gg4 ?_
   refine eG () oO ⟨O,O,O,O,O,trivial⟩ uI
  have hx':x=j2:=by
   rw[←hx]
   cases x with
   |zero=>rfl
   |succ x=>rw[scanDown,if_neg (by simp;omega)]
  rw[←hx']
  refine gg19 ?_
  refine eG () oO ⟨O,O,O,O,O,trivial⟩ uI
 rintro _⟨hj2a,hj2b⟩
 refine gg8 ?_
 refine bE O (fun h7=>?_) (fun h7=>?_)
 ·rw[if_pos oO]at he
  subst he
  refine gg13 ?_
  exact uZ O (.tmp O .nil) ⟨O,O,hde⟩
 rw[if_neg oO]at he
 obtain⟨f4,f4'⟩:=fZ e (i:=i2) oO (0+((i2:Int)).toNat*2) oO
 obtain⟨f5,f5'⟩:=fZ e (i:=j2) oO (0+((j2:Int)).toNat*2) oO
 refine gg3 ?_
 refine eH 13 ([sl (some ⟨g,0,none⟩) c 143 2 n (dCP e),q]) [(15,[])] ?_ ?_
 ·exact uI
 refine uP 0 O (aB O) (uP 1 O (aB O) (uP 2 O (aB O) (uP 3 O (aB O) (uP 4 O (aB O) (uP 5 O (aB O) ?_)))))
 refine uP 6 O (uAi O O) ?_
 refine uQ 7 O (uG) ?_
 refine uP 8 O (aB O) (uP 9 O (aB O) ?_)
 refine uP 10 O (uAi O O) ?_
 refine uQ 11 O (uG) ?_
 refine uP 12 O (uAi O O) ?_
 apply gG O oK O
 refine uJ ?_
 refine uE ?_
 refine uP 14 O (uAi O O) ?_
 apply gF O oK oK O
 refine uJ ?_
 refine gg14 ?_
 simp only[bP]
 rw[jJ e (i:=i2) (j:=j2) oO oO]
 case ho=>omega
 case ho'=>omega
 refine bS (ι:=Nat×Nat×Array Nat) (j:=(i2+1,j2-1,swp e i2 j2)) ⟨he,hde.swp oO oO,by show a<i2+1;omega,by show a≤j2-1;omega,by show i2+1≤j2-1+2;omega,by show j2-1<b;omega⟩ (by show j2-1+1-(i2+1)<j+1-i;omega) ⟨rfl,rfl,rfl,congrArg some (bW (by simp only;omega)),congrArg some (bW (by simp only;omega)),trivial⟩ uI
open Go.Sort in
theorem qEi (hE:Seat E)(hf:goFn E.P fc=true)(hc:CmpP E fc caps q ok cf){d:Array Nat}(hd:OkDP ok n d){a b pv:Nat}(hap:a≤pv)(hpb:pv<b)(hb:b≤n)(hn:n<1099511627776):
  Ct E 130 [.slice (some ⟨g,0,none⟩) n c,.int .i64 (a:Nat),.int .i64 (b:Nat),.int .i64 (pv:Nat),.func (.func fc) #[] ⟨caps⟩] [sl (some ⟨g,0,none⟩) c 143 2 n (dCP d),q]
   (fun v Q=>v= .tuple #[.int .i64 ((partition (ltFP cf) d a b pv).1:Nat),.bool (partition (ltFP cf) d a b pv).2.1]∧Q=[sl (some ⟨g,0,none⟩) c 143 2 n (dCP (partition (ltFP cf) d a b pv).2.2),q]∧OkDP ok n (partition (ltFP cf) d a b pv).2.2):=by
 have hs:=hd.1
 obtain⟨f2,f2'⟩:=fZ d (i:=pv) oO (0+((pv:Int)).toNat*2) oO
 obtain⟨f3,f3'⟩:=fZ d (i:=a) oO (0+((a:Int)).toNat*2) oO
 obtain⟨r,hr⟩:∃r,r=partition (ltFP cf) d a b pv:=⟨_,rfl⟩
 have hr':=hr
 unfold partition at hr'
 simp only at hr'
 rw[←hr]
 refine bO (hE.fn Tryz.func130) O O O (fun R=>?_)
 simp only[dR,uV,uW]
 refine gg7 ?_
 refine eH 13 ([sl (some ⟨g,0,none⟩) c 143 2 n (dCP d),q]) [(15,[])] ?_ ?_
 ·exact uI
 refine uP 0 O (aB O) (uP 1 O (aB O) (uP 2 O (aB O) (uP 3 O (aB O) (uP 4 O (aB O) (uP 5 O (aB O) ?_)))))
 refine uP 6 O (uAi O O) ?_
 refine uQ 7 O (uG) ?_
 refine uP 8 O (aB O) (uP 9 O (aB O) ?_)
 refine uP 10 O (uAi O O) ?_
 refine uQ 11 O (uG) ?_
 refine uP 12 O (uAi O O) ?_
 apply gG O oK O
 refine uJ ?_
 refine uE ?_
 refine uP 14 O (uAi O O) ?_
 apply gF O oK oK O
 refine uJ ?_
 refine gg11 ?_
 simp only[bP]
 rw[jJ d (i:=a) (j:=pv) oO oO]
 case ho=>omega
 case ho'=>omega
 refine w_eq 12 (.int .i64 ((a+1:Nat):Int)) O (bW oO) ?_
 refine w_eq 13 (.int .i64 ((b-1:Nat):Int)) O (bW oO) ?_
 have hd1:=hd.swp (show a<n by omega) (show pv<n by omega)
 generalize swp d a pv=d1 at*
 have hs1:=hd1.1
 obtain⟨i1,hi1⟩:∃i1,scanUp (fun x=>ltFP cf x d1[a]!) d1 (b-1) (a+1)=i1:=⟨_,rfl⟩
 rw[hi1]at hr'
 obtain⟨j1,hj1⟩:∃j1,scanDown (fun x=>!ltFP cf x d1[a]!) d1 i1 (b-1)=j1:=⟨_,rfl⟩
 rw[hj1]at hr'
 refine jD (fun _:Unit=>[(0,.slice (some ⟨g,0,none⟩) n c),(1,.int .i64 (a:Nat)),(4,.func (.func fc) #[] ⟨caps⟩),(12,.int .i64 ((i1:Nat):Int)),(13,.int .i64 (((b-1):Nat):Int))]) (fun _=>[sl (some ⟨g,0,none⟩) c 143 2 n (dCP (d1)),q,R]) (fun _=>(a+1)≤i1∧i1≤(b-1)+2) ?_ ?_
 ·refine gg1 ?_
  refine dV (fun x:Nat=>[(0,.slice (some ⟨g,0,none⟩) n c),(1,.int .i64 (a:Nat)),(4,.func (.func fc) #[] ⟨caps⟩),(12,.int .i64 ((x:Nat):Int)),(13,.int .i64 (((b-1):Nat):Int))]) (fun _=>[sl (some ⟨g,0,none⟩) c 143 2 n (dCP (d1)),q,R]) (fun x=>(b-1)+1-x) (fun x=>scanUp (fun x=>ltFP cf x (d1)[a]!) (d1) ((b-1)) x=i1∧(a+1)≤x∧x≤(b-1)+2) ((a+1)) ?_ ?_ ?_ ?_
  ·exact⟨hi1,oO,oO⟩
  ·exact⟨O,O,O,O,O,trivial⟩
  ·exact uI
  rintro x⟨hx,hx1,hx2⟩
  refine gg7 ?_
  refine dS 35 O (fun sp=>?_) (fun sp=>?_)
  ·obtain⟨f0,f0'⟩:=fZ (d1) (i:=x) oO (0+((x:Nat):Int).toNat*2) oO
   obtain⟨f1,f1'⟩:=fZ (d1) (i:=a) oO (0+((a:Nat):Int).toNat*2) oO
   have hcc:=hc _ _ (hd1.2 (x) oO) (hd1.2 (a) oO)
   refine gg19 ?_
   refine uU ?_
   apply fO (hx:=O) (ha:=O) (hf:=hf)
   ·exact hcc
   ·exact uK
   rintro _ _⟨rfl,rfl⟩
   simp only[uV,uW]
   refine gg5 ?_
   refine bE O (fun gp=>?_) (fun gp=>?_)
   ·refine gg9 ?_
    refine bS (x+1) ⟨?_,oO,oO⟩ oO ⟨O,O,O,congrArg some (bW oO),O,trivial⟩ uI
    rw[←hx]
    conv=>rhs;rw[scanUp,if_pos (by simp[ltFP,gp];omega)]
   rw[scanUp,if_neg (by simp[ltFP,gp])]at hx
   rw[←hx]
   refine gg4 ?_
   refine eG () oO ⟨O,O,O,O,O,trivial⟩ uI
  rw[scanUp,if_neg (by simp;omega)]at hx
  rw[←hx]
  refine gg19 ?_
  refine eG () oO ⟨O,O,O,O,O,trivial⟩ uI
 rintro _⟨hi1a,hi1b⟩
 refine jD (fun _:Unit=>[(0,.slice (some ⟨g,0,none⟩) n c),(1,.int .i64 (a:Nat)),(4,.func (.func fc) #[] ⟨caps⟩),(12,.int .i64 ((i1:Nat):Int)),(13,.int .i64 ((j1:Nat):Int))]) (fun _=>[sl (some ⟨g,0,none⟩) c 143 2 n (dCP (d1)),q,R]) (fun _=>a≤j1∧j1≤(b-1)) ?_ ?_
 ·refine gg1 ?_
  refine dV (fun x:Nat=>[(0,.slice (some ⟨g,0,none⟩) n c),(1,.int .i64 (a:Nat)),(4,.func (.func fc) #[] ⟨caps⟩),(12,.int .i64 ((i1:Nat):Int)),(13,.int .i64 ((x:Nat):Int))]) (fun _=>[sl (some ⟨g,0,none⟩) c 143 2 n (dCP (d1)),q,R]) (fun x=>x) (fun x=>scanDown (fun x=>!ltFP cf x (d1)[a]!) (d1) (i1) x=j1∧a≤x∧x≤(b-1)) ((b-1)) ?_ ?_ ?_ ?_
  ·exact⟨hj1,oO,oO⟩
  ·exact⟨O,O,O,O,O,trivial⟩
  ·exact uI
  rintro x⟨hx,hx1,hx2⟩
  refine gg7 ?_
  refine dS 53 O (fun sq=>?_) (fun sq=>?_)
  ·obtain⟨x,rfl⟩:∃k,x=k+1:=⟨x-1,oO⟩
   obtain⟨f0,f0'⟩:=fZ (d1) (i:=x+1) oO (0+((x+1:Nat):Int).toNat*2) oO
   obtain⟨f1,f1'⟩:=fZ (d1) (i:=a) oO (0+((a:Nat):Int).toNat*2) oO
   have hcc:=hc _ _ (hd1.2 (x+1) oO) (hd1.2 (a) oO)
   refine gg19 ?_
   refine uU ?_
   apply fO (hx:=O) (ha:=O) (hf:=hf)
   ·exact hcc
   ·exact uK
   rintro _ _⟨rfl,rfl⟩
   simp only[uV,uW]
   refine gg7 ?_
   refine fK O (fun gq=>?_) (fun gq=>?_)
   ·refine gg9 ?_
    refine bS (x) ⟨?_,oO,oO⟩ oO ⟨O,O,O,O,congrArg some (bW oO),trivial⟩ uI
    rw[←hx]
    conv=>rhs;rw[scanDown,if_pos (by simp[ltFP,gq];omega)]
   rw[scanDown,if_neg (by simp[ltFP,gq])]at hx
   rw[←hx]
   refine gg4 ?_
   refine eG () oO ⟨O,O,O,O,O,trivial⟩ uI
  have hx':x=j1:=by
   rw[←hx]
   cases x with
   |zero=>rfl
   |succ x=>rw[scanDown,if_neg (by simp;omega)]
  rw[←hx']
  refine gg20 ?_
  refine eG () oO ⟨O,O,O,O,O,trivial⟩ uI
 rintro _⟨hj1a,hj1b⟩
 refine gg8 ?_
 refine bE O (fun h6=>?_) (fun h6=>?_)
 ·rw[if_pos oO]at hr'
  subst hr'
  obtain⟨f4,f4'⟩:=fZ d1 (i:=a) oO (0+((a:Int)).toNat*2) oO
  obtain⟨f5,f5'⟩:=fZ d1 (i:=j1) oO (0+((j1:Int)).toNat*2) oO
  refine gg1 ?_
  refine eH 13 ([sl (some ⟨g,0,none⟩) c 143 2 n (dCP d1),q]) [(15,[])] ?_ ?_
  ·exact uI
  refine uP 0 O (aB O) (uP 1 O (aB O) (uP 2 O (aB O) (uP 3 O (aB O) (uP 4 O (aB O) (uP 5 O (aB O) ?_)))))
  refine uP 6 O (uAi O O) ?_
  refine uQ 7 O (uG) ?_
  refine uP 8 O (aB O) (uP 9 O (aB O) ?_)
  refine uP 10 O (uAi O O) ?_
  refine uQ 11 O (uG) ?_
  refine uP 12 O (uAi O O) ?_
  apply gG O oK O
  refine uJ ?_
  refine uE ?_
  refine uP 14 O (uAi O O) ?_
  apply gF O oK oK O
  refine uJ ?_
  refine gg10 ?_
  simp only[bP]
  rw[jJ d1 (i:=j1) (j:=a) oO oO]
  case ho=>omega
  case ho'=>omega
  exact uZ O (.tmp O (.tmp O .nil)) ⟨O,O,hd1.swp oO oO⟩
 rw[if_neg oO]at hr'
 obtain⟨f4,f4'⟩:=fZ d1 (i:=i1) oO (0+((i1:Int)).toNat*2) oO
 obtain⟨f5,f5'⟩:=fZ d1 (i:=j1) oO (0+((j1:Int)).toNat*2) oO
 obtain⟨u,hu⟩:∃u,partLoop (ltFP cf) a (i1+1) (j1-1) (swp d1 i1 j1)=u:=⟨_,rfl⟩
 rw[hu]at hr'
 refine gg3 ?_
 refine eH 13 ([sl (some ⟨g,0,none⟩) c 143 2 n (dCP d1),q]) [(15,[])] ?_ ?_
 ·exact uI
 refine uP 0 O (aB O) (uP 1 O (aB O) (uP 2 O (aB O) (uP 3 O (aB O) (uP 4 O (aB O) (uP 5 O (aB O) ?_)))))
 refine uP 6 O (uAi O O) ?_
 refine uQ 7 O (uG) ?_
 refine uP 8 O (aB O) (uP 9 O (aB O) ?_)
 refine uP 10 O (uAi O O) ?_
 refine uQ 11 O (uG) ?_
 refine uP 12 O (uAi O O) ?_
 apply gG O oK O
 refine uJ ?_
 refine uE ?_
 refine uP 14 O (uAi O O) ?_
 apply gF O oK oK O
 refine uJ ?_
 refine gg17 ?_
 simp only[bP]
 rw[jJ d1 (i:=i1) (j:=j1) oO oO]
 case ho=>omega
 case ho'=>omega
 refine dV (fun x:Nat×Nat×Array Nat=>[(0,.slice (some ⟨g,0,none⟩) n c),(1,.int .i64 (a:Nat)),(4,.func (.func fc) #[] ⟨caps⟩),(12,.int .i64 (x.1:Nat)),(13,.int .i64 (x.2.1:Nat))]) (fun x=>[sl (some ⟨g,0,none⟩) c 143 2 n (dCP x.2.2),q,R]) (fun x=>x.2.1+1-x.1) (fun x=>partLoop (ltFP cf) a x.1 x.2.1 x.2.2=u∧OkDP ok n x.2.2∧a<x.1∧a≤x.2.1∧x.1≤x.2.1+2∧x.2.1<b) (i1+1,j1-1,swp d1 i1 j1) ?_ ?_ ?_ ?_
 ·exact⟨hu,hd1.swp oO oO,by show a<i1+1;omega,by show a≤j1-1;omega,by show i1+1≤j1-1+2;omega,by show j1-1<b;omega⟩
 ·exact⟨O,O,O,congrArg some (bW (by simp only;omega)),congrArg some (bW (by simp only;omega)),trivial⟩
 ·exact uI
 rintro⟨i,j,e⟩⟨he,hde,hi,haj,hij,hj⟩
 simp only at he hde hi haj hij hj ⊢
 have hse:=hde.1
 rw[partLoop_eq]at he
 obtain⟨i2,hi2⟩:∃i2,scanUp (fun x=>ltFP cf x e[a]!) e j i=i2:=⟨_,rfl⟩
 rw[hi2]at he
 obtain⟨j2,hj2⟩:∃j2,scanDown (fun x=>!ltFP cf x e[a]!) e i2 j=j2:=⟨_,rfl⟩
 rw[hj2]at he
 refine gg1 ?_
 refine jD (fun _:Unit=>[(0,.slice (some ⟨g,0,none⟩) n c),(1,.int .i64 (a:Nat)),(4,.func (.func fc) #[] ⟨caps⟩),(12,.int .i64 ((i2:Nat):Int)),(13,.int .i64 ((j:Nat):Int))]) (fun _=>[sl (some ⟨g,0,none⟩) c 143 2 n (dCP (e)),q,R]) (fun _=>i≤i2∧i2≤j+2) ?_ ?_
 ·refine gg1 ?_
  refine dV (fun x:Nat=>[(0,.slice (some ⟨g,0,none⟩) n c),(1,.int .i64 (a:Nat)),(4,.func (.func fc) #[] ⟨caps⟩),(12,.int .i64 ((x:Nat):Int)),(13,.int .i64 ((j:Nat):Int))]) (fun _=>[sl (some ⟨g,0,none⟩) c 143 2 n (dCP (e)),q,R]) (fun x=>j+1-x) (fun x=>scanUp (fun x=>ltFP cf x (e)[a]!) (e) (j) x=i2∧i≤x∧x≤j+2) (i) ?_ ?_ ?_ ?_
  ·exact⟨hi2,oO,oO⟩
  ·exact⟨O,O,O,O,O,trivial⟩
  ·exact uI
  rintro x⟨hx,hx1,hx2⟩
  refine gg7 ?_
  refine dS 108 O (fun su=>?_) (fun su=>?_)
  ·obtain⟨f0,f0'⟩:=fZ (e) (i:=x) oO (0+((x:Nat):Int).toNat*2) oO
   obtain⟨f1,f1'⟩:=fZ (e) (i:=a) oO (0+((a:Nat):Int).toNat*2) oO
   have hcc:=hc _ _ (hde.2 (x) oO) (hde.2 (a) oO)
   refine gg19 ?_
   refine uU ?_
   apply fO (hx:=O) (ha:=O) (hf:=hf)
   ·exact hcc
   ·exact uK
   rintro _ _⟨rfl,rfl⟩
   simp only[uV,uW]
   refine gg5 ?_
   refine bE O (fun gu=>?_) (fun gu=>?_)
   ·refine gg9 ?_
    refine bS (x+1) ⟨?_,oO,oO⟩ oO ⟨O,O,O,congrArg some (bW oO),O,trivial⟩ uI
    rw[←hx]
    conv=>rhs;rw[scanUp,if_pos (by simp[ltFP,gu];omega)]
   rw[scanUp,if_neg (by simp[ltFP,gu])]at hx
   rw[←hx]
   refine gg4 ?_
   refine eG () oO ⟨O,O,O,O,O,trivial⟩ uI
  rw[scanUp,if_neg (by simp;omega)]at hx
  rw[←hx]
  refine gg19 ?_
  refine eG () oO ⟨O,O,O,O,O,trivial⟩ uI
 rintro _⟨hi2a,hi2b⟩
 refine jD (fun _:Unit=>[(0,.slice (some ⟨g,0,none⟩) n c),(1,.int .i64 (a:Nat)),(4,.func (.func fc) #[] ⟨caps⟩),(12,.int .i64 ((i2:Nat):Int)),(13,.int .i64 ((j2:Nat):Int))]) (fun _=>[sl (some ⟨g,0,none⟩) c 143 2 n (dCP (e)),q,R]) (fun _=>a≤j2∧j2≤j) ?_ ?_
 ·refine gg1 ?_
  refine dV (fun x:Nat=>[(0,.slice (some ⟨g,0,none⟩) n c),(1,.int .i64 (a:Nat)),(4,.func (.func fc) #[] ⟨caps⟩),(12,.int .i64 ((i2:Nat):Int)),(13,.int .i64 ((x:Nat):Int))]) (fun _=>[sl (some ⟨g,0,none⟩) c 143 2 n (dCP (e)),q,R]) (fun x=>x) (fun x=>scanDown (fun x=>!ltFP cf x (e)[a]!) (e) (i2) x=j2∧a≤x∧x≤j) (j) ?_ ?_ ?_ ?_
  ·exact⟨hj2,oO,oO⟩
  ·exact⟨O,O,O,O,O,trivial⟩
  ·exact uI
  rintro x⟨hx,hx1,hx2⟩
  refine gg7 ?_
  refine dS 126 O (fun sw=>?_) (fun sw=>?_)
  ·obtain⟨x,rfl⟩:∃k,x=k+1:=⟨x-1,oO⟩
   obtain⟨f0,f0'⟩:=fZ (e) (i:=x+1) oO (0+((x+1:Nat):Int).toNat*2) oO
   obtain⟨f1,f1'⟩:=fZ (e) (i:=a) oO (0+((a:Nat):Int).toNat*2) oO
   have hcc:=hc _ _ (hde.2 (x+1) oO) (hde.2 (a) oO)
   refine gg19 ?_
   refine uU ?_
   apply fO (hx:=O) (ha:=O) (hf:=hf)
   ·exact hcc
   ·exact uK
   rintro _ _⟨rfl,rfl⟩
   simp only[uV,uW]
   refine gg7 ?_
   refine fK O (fun gw=>?_) (fun gw=>?_)
   ·refine gg9 ?_
    refine bS (x) ⟨?_,oO,oO⟩ oO ⟨O,O,O,O,congrArg some (bW oO),trivial⟩ uI
    rw[←hx]
    conv=>rhs;rw[scanDown,if_pos (by simp[ltFP,gw];omega)]
   rw[scanDown,if_neg (by simp[ltFP,gw])]at hx
   rw[←hx]
   refine gg4 ?_
   refine eG () oO ⟨O,O,O,O,O,trivial⟩ uI
  have hx':x=j2:=by
   rw[←hx]
   cases x with
   |zero=>rfl
   |succ x=>rw[scanDown,if_neg (by simp;omega)]
  rw[←hx']
  refine gg20 ?_
  refine eG () oO ⟨O,O,O,O,O,trivial⟩ uI
 rintro _⟨hj2a,hj2b⟩
 refine gg8 ?_
 refine bE O (fun h7=>?_) (fun h7=>?_)
 ·rw[if_pos oO]at he
  subst he
  subst hr'
  obtain⟨f6,f6'⟩:=fZ e (i:=a) oO (0+((a:Int)).toNat*2) oO
  obtain⟨f7,f7'⟩:=fZ e (i:=j2) oO (0+((j2:Int)).toNat*2) oO
  refine gg7 ?_
  refine eH 13 ([sl (some ⟨g,0,none⟩) c 143 2 n (dCP e),q]) [(15,[])] ?_ ?_
  ·exact uI
  refine uP 0 O (aB O) (uP 1 O (aB O) (uP 2 O (aB O) (uP 3 O (aB O) (uP 4 O (aB O) (uP 5 O (aB O) ?_)))))
  refine uP 6 O (uAi O O) ?_
  refine uQ 7 O (uG) ?_
  refine uP 8 O (aB O) (uP 9 O (aB O) ?_)
  refine uP 10 O (uAi O O) ?_
  refine uQ 11 O (uG) ?_
  refine uP 12 O (uAi O O) ?_
  apply gG O oK O
  refine uJ ?_
  refine uE ?_
  refine uP 14 O (uAi O O) ?_
  apply gF O oK oK O
  refine uJ ?_
  refine gg9 ?_
  simp only[bP]
  rw[jJ e (i:=j2) (j:=a) oO oO]
  case ho=>omega
  case ho'=>omega
  exact uZ O (.tmp O (.tmp O .nil)) ⟨O,O,hde.swp oO oO⟩
 rw[if_neg oO]at he
 obtain⟨f6,f6'⟩:=fZ e (i:=i2) oO (0+((i2:Int)).toNat*2) oO
 obtain⟨f7,f7'⟩:=fZ e (i:=j2) oO (0+((j2:Int)).toNat*2) oO
 refine gg3 ?_
 refine eH 13 ([sl (some ⟨g,0,none⟩) c 143 2 n (dCP e),q]) [(15,[])] ?_ ?_
 ·exact uI
 refine uP 0 O (aB O) (uP 1 O (aB O) (uP 2 O (aB O) (uP 3 O (aB O) (uP 4 O (aB O) (uP 5 O (aB O) ?_)))))
 refine uP 6 O (uAi O O) ?_
 refine uQ 7 O (uG) ?_
 refine uP 8 O (aB O) (uP 9 O (aB O) ?_)
 refine uP 10 O (uAi O O) ?_
 refine uQ 11 O (uG) ?_
 refine uP 12 O (uAi O O) ?_
 apply gG O oK O
 refine uJ ?_
 refine uE ?_
 refine uP 14 O (uAi O O) ?_
 apply gF O oK oK O
 refine uJ ?_
 refine gg14 ?_
 simp only[bP]
 rw[jJ e (i:=i2) (j:=j2) oO oO]
 case ho=>omega
 case ho'=>omega
 refine bS (ι:=Nat×Nat×Array Nat) (j:=(i2+1,j2-1,swp e i2 j2)) ⟨he,hde.swp oO oO,by show a<i2+1;omega,by show a≤j2-1;omega,by show i2+1≤j2-1+2;omega,by show j2-1<b;omega⟩ (by show j2-1+1-(i2+1)<j+1-i;omega) ⟨rfl,rfl,rfl,congrArg some (bW (by simp only;omega)),congrArg some (bW (by simp only;omega)),trivial⟩ uI
end
end Go.Proofs.YtblljbllmnbiaaaGreatDoor
