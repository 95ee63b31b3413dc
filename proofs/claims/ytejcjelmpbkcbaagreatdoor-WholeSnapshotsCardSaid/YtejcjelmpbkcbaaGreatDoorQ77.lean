import Derived.Test.YtejcjelmpbkcbaaGreatDoorQ05
import Derived.Test.YtejcjelmpbkcbaaGreatDoorQ13
import Derived.Sort.AssemblyPlain
set_option linter.all false
set_option maxHeartbeats 1000000
namespace Go.Proofs.YtejcjelmpbkcbaaGreatDoor
open Go Go.RowKit Sl Eg
set_option maxRecDepth 10000
section
variable {E:Env}
def dCO (d:Array Nat):List Value:=idC d.toList
def dC_lenO (d:Array Nat):(dCO d).length=d.size:=by simp[dCO,idC]
def eO (d:Array Nat){i:Nat}(h:i<d.size)(o:Nat)(ho:o=i):(dCO d)[o]?=some (.int .i64 (d[i]!:Nat)):=by
 subst ho;simp[dCO,idC,h]
def qVn (d:Array Nat){i:Nat}(h:i<d.size)(x o:Nat)(ho:o=i):bX (dCO d) o [.int .i64 (x:Nat)]=dCO (d.setIfInBounds i x):=by
 subst ho;rw[kM _ _ _ (by rw[dC_lenO];simp;omega)];apply nu;intro k;simp only[dCO,idC,Array.toList_setIfInBounds,az];rw[List.map_set];rw[List.set_eq_take_append_cons_drop];simp[h]
def jP (d:Array Nat){i j:Nat}(hi:i<d.size)(hj:j<d.size)(o o':Nat)(ho:o=i)(ho':o'=j):bX (bX (dCO d) o [.int .i64 (d[j]!:Nat)]) o' [.int .i64 (d[i]!:Nat)]=dCO (Go.Sort.swp d i j):=by
 rw[qVn d hi _ o ho,qVn _ (by simpa using hj) _ o' ho'];rfl
def OkDO (ok:Nat→Prop)(n:Nat)(d:Array Nat):Prop:=d.size=n∧∀i,i<n→ok d[i]!
def OkDO.swp {ok:Nat→Prop}{n:Nat}{d:Array Nat}(h:OkDO ok n d){i j:Nat}(hi:i<n)(hj:j<n):OkDO ok n (Go.Sort.swp d i j):=by
 obtain⟨hs,ho⟩:=h;refine⟨by simp[Go.Sort.swp,hs],fun k hk=>?_⟩;have ki:k<d.size:=oO;simp only[Go.Sort.swp]
 have e:((d.setIfInBounds i d[j]!).setIfInBounds j d[i]!)[k]! =if j=k then d[i]! else if i=k then d[j]! else d[k]!:=by
  rw[getElem!_pos _ k (by simpa using ki),xu (by simpa using ki)];split
  ·rfl
  rw[xu ki];split
  ·rfl
  rw[getElem!_pos d k ki]
 rw[e];split
 ·exact ho i hi
 split
 ·exact ho j hj
 exact ho k hk
variable {q:HP}{ok:Nat→Prop}{cf:Nat→Nat→Int}{g c n:Nat}
def CmpO (E:Env)(q:HP)(ok:Nat→Prop)(cf:Nat→Nat→Int):Prop:=∀x y,ok x→ok y→Ct E 166 [.int .i64 (x:Nat),.int .i64 (y:Nat)] [q] (fun v Q=>v= .bool (decide (cf x y<0))∧Q=[q])
def qUs (hE:Seat E){x:Nat}:Ct E 207 [.int .i64 (x:Nat)] [] (fun v Q=>v= .bool false∧Q=[]):=by
 refine bO (hE.fn Tryz.func207) O O O (fun R=>?_);simp only[dX,uV,uW];refine gg14 ?_;exact uZ O (.tmp O .nil) ⟨bf Value.bool (by simp),O⟩
def ct_less (hE:Seat E){x y:Nat}:Ct E 166 [.int .i64 (x:Nat),.int .i64 (y:Nat)] [] (fun v Q=>v= .bool (decide ((x:Int)<(y:Nat)))∧Q=[]):=by
 refine bO (hE.fn Tryz.func166) O O O (fun R=>?_);simp only[dX,uV,uW];refine gg8 ?_;refine uX (qUs hE) O ?_;rintro _ _⟨rfl,rfl⟩;simp only[uV,uW];refine gg17 ?_;exact uZ O (.tmp O .nil) ⟨O,O⟩
def cfO (x y:Nat):Int:=(x:Int)-(y:Nat)
def cmpO (hE:Seat E){q:HP}{ok:Nat→Prop}:CmpO E q ok cfO:=fun x y _ _ R w hs=>((ct_less (x:=x) (y:=y) hE) (dU [q,R]) w (hs.imp fun k h=>kD (l:=[]) h)).mono fun e w'⟨v,Qs,h1,⟨h2,h3⟩,h4⟩=>⟨v,[q],h1,⟨by rw[h2];exact bf Value.bool (decide_eq_decide.2 (by unfold cfO;omega)),rfl⟩,by rw[h3]at h4;exact h4.imp fun k h=>nR (l:=[]) h⟩
def ltFO (cf:Nat→Nat→Int)(x y:Nat):Bool:=decide (cf x y<0)
def yU (hE:Seat E)(hc:CmpO E q ok cf){d:Array Nat}(hd:OkDO ok n d){a b sw k:Nat}(ha:a<n)(hb:b<n)(hk:k<1000):
  Ct E 237 [.slice (some ⟨g,0,none⟩) n c,.int .i64 (a:Nat),.int .i64 (b:Nat),uPt sw] [cells sw [.int .i64 (k:Nat)] 3,sl (some ⟨g,0,none⟩) c 56 1 n (dCO d),q]
   (fun v Q=>v= .tuple #[.int .i64 ((Go.Sort.order2 (ltFO cf) d a b k).1:Nat),.int .i64 ((Go.Sort.order2 (ltFO cf) d a b k).2.1:Nat)]∧Q=[cells sw [.int .i64 ((Go.Sort.order2 (ltFO cf) d a b k).2.2:Nat)] 3,sl (some ⟨g,0,none⟩) c 56 1 n (dCO d),q]):=by
 have hs:=hd.1;have f0:=eO d (i:=b) oO ((b:Int)).toNat oO;have f1:=eO d (i:=a) oO ((a:Int)).toNat oO;have hcc:=hc _ _ (hd.2 b hb) (hd.2 a ha);refine bO (hE.fn Tryz.func237) O O O (fun R=>?_);simp only[dX,uV,uW];refine gg17 ?_;refine uX (hcc) O ?_;rintro _ _⟨rfl,rfl⟩;simp only[uV,uW];refine gg2 ?_;refine bE O (fun h1=>?_) (fun h1=>?_)
 ·have e:Go.Sort.order2 (ltFO cf) d a b k=(b,a,k+1):=by unfold Go.Sort.order2;rw[if_pos (by simp[ltFO,h1])]
  rw[e];refine gg6 ?_;refine l_eq 22 (.int .i64 ((k+1:Nat):Int)) O (bW oO) ?_;refine gg14 ?_;exact uZ O (.tmp O (.tmp O .nil)) ⟨O,O⟩
 have e:Go.Sort.order2 (ltFO cf) d a b k=(a,b,k):=by unfold Go.Sort.order2;rw[if_neg (by simp[ltFO,h1])]
 rw[e];refine gg11 ?_;exact uZ O (.tmp O (.tmp O .nil)) ⟨O,O⟩
open Go.Sort in
def qX {lt:Nat→Nat→Bool}{d:Array Nat}{a b k m:Nat}(ha:a<m)(hb:b<m):(order2 lt d a b k).1<m∧(order2 lt d a b k).2.1<m∧(order2 lt d a b k).2.2≤k+1:=by
 unfold order2;split
 ·exact⟨hb,ha,ai _⟩
 exact⟨ha,hb,Nat.le_succ _⟩
open Go.Sort in
def zF {lt:Nat→Nat→Bool}{d:Array Nat}{a b e k m:Nat}(ha:a<m)(hb:b<m)(he:e<m):(median lt d a b e k).1<m∧(median lt d a b e k).2≤k+3:=by
 have h1:=qX (lt:=lt) (d:=d) (k:=k) ha hb;have h2:=qX (lt:=lt) (d:=d) (k:=(order2 lt d a b k).2.2) h1.2.1 he;have h3:=qX (lt:=lt) (d:=d) (k:=(order2 lt d (order2 lt d a b k).2.1 e (order2 lt d a b k).2.2).2.2) h1.1 h2.1;unfold median;exact⟨h3.2.1,by simp only;omega⟩
def yS (hE:Seat E)(hc:CmpO E q ok cf){d:Array Nat}(hd:OkDO ok n d){a b e sw k:Nat}(ha:a<n)(hb:b<n)(he:e<n)(hk:k<900):
  Ct E 206 [.slice (some ⟨g,0,none⟩) n c,.int .i64 (a:Nat),.int .i64 (b:Nat),.int .i64 (e:Nat),uPt sw] [cells sw [.int .i64 (k:Nat)] 3,sl (some ⟨g,0,none⟩) c 56 1 n (dCO d),q]
   (fun v Q=>v= .int .i64 ((Go.Sort.median (ltFO cf) d a b e k).1:Nat)∧Q=[cells sw [.int .i64 ((Go.Sort.median (ltFO cf) d a b e k).2:Nat)] 3,sl (some ⟨g,0,none⟩) c 56 1 n (dCO d),q]):=by
 have h1:=qX (lt:=ltFO cf) (d:=d) (k:=k) ha hb;have h2:=qX (lt:=ltFO cf) (d:=d) (k:=(Go.Sort.order2 (ltFO cf) d a b k).2.2) h1.2.1 he;unfold Go.Sort.median;simp only;refine bO (hE.fn Tryz.func206) O O O (fun R=>?_);simp only[dX,uV,uW];refine gg11 ?_;refine uX (yU (k:=k) hE hc hd ha hb oO) O ?_;rintro _ _⟨rfl,rfl⟩;simp only[uV,uW];refine gg13 ?_;refine uX (yU (k:=(Go.Sort.order2 (ltFO cf) d a b k).2.2) hE hc hd h1.2.1 he oO) O ?_;rintro _ _⟨rfl,rfl⟩;simp only[uV,uW];refine gg13 ?_;refine uX (yU (k:=(Go.Sort.order2 (ltFO cf) d (Go.Sort.order2 (ltFO cf) d a b k).2.1 e (Go.Sort.order2 (ltFO cf) d a b k).2.2).2.2) hE hc hd h1.1 h2.1 oO) O ?_;rintro _ _⟨rfl,rfl⟩;simp only[uV,uW];refine gg14 ?_;exact uZ O (.tmp O .nil) ⟨O,O⟩
def lS (hE:Seat E)(hc:CmpO E q ok cf){d:Array Nat}(hd:OkDO ok n d){a sw k:Nat}(ha:a+1<n)(h1:1≤a)(hn:n<1099511627776)(hk:k<900):
  Ct E 205 [.slice (some ⟨g,0,none⟩) n c,.int .i64 (a:Nat),uPt sw] [cells sw [.int .i64 (k:Nat)] 3,sl (some ⟨g,0,none⟩) c 56 1 n (dCO d),q]
   (fun v Q=>v= .int .i64 ((Go.Sort.medianAdjacent (ltFO cf) d a k).1:Nat)∧Q=[cells sw [.int .i64 ((Go.Sort.medianAdjacent (ltFO cf) d a k).2:Nat)] 3,sl (some ⟨g,0,none⟩) c 56 1 n (dCO d),q]):=by
 unfold Go.Sort.medianAdjacent;refine bO (hE.fn Tryz.func205) O O O (fun R=>?_);simp only[dX,uV,uW];refine gg14 ?_;refine l_eq 9 (.int .i64 ((a-1:Nat):Int)) O (bW oO) ?_;refine l_eq 12 (.int .i64 ((a+1:Nat):Int)) O (bW oO) ?_;refine uX (yS (a:=a-1) (b:=a) (e:=a+1) (k:=k) hE hc hd oO oO ha hk) O ?_;rintro _ _⟨rfl,rfl⟩;simp only[uV,uW];refine gg4 ?_;exact uZ O (.tmp O .nil) ⟨O,O⟩
def qFy:Go.Sort.Hint→Nat
 | .unknown=>0
 | .increasing=>1
 | .decreasing=>2
def qBw (hE:Seat E)(hc:CmpO E q ok cf){d:Array Nat}(hd:OkDO ok n d){a b:Nat}(hab:a+12<b)(hb:b≤n)(hn:n<1099511627776):
  Ct E 163 [.slice (some ⟨g,0,none⟩) n c,.int .i64 (a:Nat),.int .i64 (b:Nat)] [sl (some ⟨g,0,none⟩) c 56 1 n (dCO d),q]
   (fun v Q=>v= .tuple #[.int .i64 ((Go.Sort.choosePivot (ltFO cf) d a b).1:Nat),.int .i64 (qFy (Go.Sort.choosePivot (ltFO cf) d a b).2:Nat)]∧Q=[sl (some ⟨g,0,none⟩) c 56 1 n (dCO d),q]):=by
 refine bO (hE.fn Tryz.func163) O O O (fun R=>?_);simp only[dX,uV,uW];refine gg14 ?_;obtain⟨l,hl⟩:∃l,l=b-a:=⟨_,rfl⟩;obtain⟨i,hi⟩:∃i,i=a+l/4*1:=⟨_,rfl⟩;obtain⟨j,hj⟩:∃j,j=a+l/4*2:=⟨_,rfl⟩;obtain⟨m,hm⟩:∃m,m=a+l/4*3:=⟨_,rfl⟩;refine w_eq 8 (.int .i64 ((l:Nat):Int)) O (bW oO) ?_;refine gg2 ?_;refine uU (cZ (hE.t O) (fun b9=>?_));refine gg32 ?_;refine w_eq 10 (.int .i64 ((i:Nat):Int)) O (bW oO) ?_;refine w_eq 11 (.int .i64 ((j:Nat):Int)) O (bW oO) ?_;refine w_eq 12 (.int .i64 ((m:Nat):Int)) O (bW oO) ?_;refine gg7 ?_;refine bE O (fun h8=>?_) (fun h8=>?_)
 ·have hh:∀r:Nat×Nat,(if l≥50 then Go.Sort.median (ltFO cf) d (Go.Sort.medianAdjacent (ltFO cf) d i 0).1 (Go.Sort.medianAdjacent (ltFO cf) d j (Go.Sort.medianAdjacent (ltFO cf) d i 0).2).1 (Go.Sort.medianAdjacent (ltFO cf) d m (Go.Sort.medianAdjacent (ltFO cf) d j (Go.Sort.medianAdjacent (ltFO cf) d i 0).2).2).1 (Go.Sort.medianAdjacent (ltFO cf) d m (Go.Sort.medianAdjacent (ltFO cf) d j (Go.Sort.medianAdjacent (ltFO cf) d i 0).2).2).2 else Go.Sort.median (ltFO cf) d i j m 0)=r→Go.Sort.choosePivot (ltFO cf) d a b=(r.1,if r.2=0 then .increasing else if r.2=12 then .decreasing else .unknown):=by
   intro r hr;subst hr;unfold Go.Sort.choosePivot;simp only[←hl,←hi,←hj,←hm,if_pos (show l≥8 by omega)]
  refine gg7 ?_;refine bE O (fun h50=>?_) (fun h50=>?_)
  ·rw[if_pos (show l≥50 by omega)]at hh;refine gg4 ?_;refine uX (lS (a:=i) (k:=0) hE hc hd oO oO hn oO) O ?_;rintro _ _⟨rfl,rfl⟩;simp only[uV,uW];refine gg7 ?_;have c1:=(zF (lt:=ltFO cf) (d:=d) (a:=i-1) (b:=i) (e:=i+1) (k:=0) (m:=n) oO oO oO);have c1':(Go.Sort.medianAdjacent (ltFO cf) d i 0).1<n∧(Go.Sort.medianAdjacent (ltFO cf) d i 0).2≤0+3:=c1;refine uX (lS (a:=j) (k:=(Go.Sort.medianAdjacent (ltFO cf) d i 0).2) hE hc hd oO oO hn oO) O ?_;rintro _ _⟨rfl,rfl⟩;simp only[uV,uW];refine gg6 ?_;have c2:=(zF (lt:=ltFO cf) (d:=d) (a:=j-1) (b:=j) (e:=j+1) (k:=(Go.Sort.medianAdjacent (ltFO cf) d i 0).2) (m:=n) oO oO oO);have c2':(Go.Sort.medianAdjacent (ltFO cf) d j (Go.Sort.medianAdjacent (ltFO cf) d i 0).2).1<n∧(Go.Sort.medianAdjacent (ltFO cf) d j (Go.Sort.medianAdjacent (ltFO cf) d i 0).2).2≤(Go.Sort.medianAdjacent (ltFO cf) d i 0).2+3:=c2;refine uX (lS (a:=m) (k:=(Go.Sort.medianAdjacent (ltFO cf) d j (Go.Sort.medianAdjacent (ltFO cf) d i 0).2).2) hE hc hd oO oO hn oO) O ?_;rintro _ _⟨rfl,rfl⟩;simp only[uV,uW];refine gg8 ?_;have c3:=(zF (lt:=ltFO cf) (d:=d) (a:=m-1) (b:=m) (e:=m+1) (k:=(Go.Sort.medianAdjacent (ltFO cf) d j (Go.Sort.medianAdjacent (ltFO cf) d i 0).2).2) (m:=n) oO oO oO)
   have c3':(Go.Sort.medianAdjacent (ltFO cf) d m (Go.Sort.medianAdjacent (ltFO cf) d j (Go.Sort.medianAdjacent (ltFO cf) d i 0).2).2).1<n∧(Go.Sort.medianAdjacent (ltFO cf) d m (Go.Sort.medianAdjacent (ltFO cf) d j (Go.Sort.medianAdjacent (ltFO cf) d i 0).2).2).2≤(Go.Sort.medianAdjacent (ltFO cf) d j (Go.Sort.medianAdjacent (ltFO cf) d i 0).2).2+3:=c3;clear c1 c2 c3;generalize Go.Sort.medianAdjacent (ltFO cf) d m (Go.Sort.medianAdjacent (ltFO cf) d j (Go.Sort.medianAdjacent (ltFO cf) d i 0).2).2=r3 at*;generalize Go.Sort.medianAdjacent (ltFO cf) d j (Go.Sort.medianAdjacent (ltFO cf) d i 0).2=r2 at*;generalize Go.Sort.medianAdjacent (ltFO cf) d i 0=r1 at*;refine uX (yS (a:=r1.1) (b:=r2.1) (e:=r3.1) (k:=r3.2) hE hc hd c1'.1 c2'.1 c3'.1 oO) O ?_;rintro _ _⟨rfl,rfl⟩;simp only[uV,uW];generalize Go.Sort.median (ltFO cf) d r1.1 r2.1 r3.1 r3.2=r at*;rw[hh r rfl];refine gg15 ?_;refine bE O (fun g0=>?_) (fun g0=>?_)
   ·rw[if_pos oO];refine gg9 ?_;exact uZ O (.tmp O (.tmp O .nil)) ⟨O,O⟩
   rw[if_neg oO];refine gg6 ?_;refine bE O (fun g1=>?_) (fun g1=>?_)
   ·rw[if_pos oO];refine gg9 ?_;exact uZ O (.tmp O (.tmp O .nil)) ⟨O,O⟩
   rw[if_neg oO];refine gg9 ?_;exact uZ O (.tmp O (.tmp O .nil)) ⟨O,O⟩
  rw[if_neg (show ¬l≥50 by omega)]at hh;refine gg7 ?_;refine uX (yS (a:=i) (b:=j) (e:=m) (k:=0) hE hc hd oO oO oO oO) O ?_;rintro _ _⟨rfl,rfl⟩;simp only[uV,uW];generalize Go.Sort.median (ltFO cf) d i j m 0=r at*;rw[hh r rfl];refine gg15 ?_;refine bE O (fun g0=>?_) (fun g0=>?_)
  ·rw[if_pos oO];refine gg9 ?_;exact uZ O (.tmp O (.tmp O .nil)) ⟨O,O⟩
  rw[if_neg oO];refine gg6 ?_;refine bE O (fun g1=>?_) (fun g1=>?_)
  ·rw[if_pos oO];refine gg9 ?_;exact uZ O (.tmp O (.tmp O .nil)) ⟨O,O⟩
  rw[if_neg oO];refine gg9 ?_;exact uZ O (.tmp O (.tmp O .nil)) ⟨O,O⟩
 exfalso;omega
end
section
variable {E:Env}
variable {q:HP}{ok:Nat→Prop}{cf:Nat→Nat→Int}{g c n:Nat}
open Go.Sort in
def qAo (hE:Seat E){d:Array Nat}(hd:OkDO ok n d){a b:Nat}(hab:a<b)(hb:b≤n)(hn:n<1099511627776):
  Ct E 164 [.slice (some ⟨g,0,none⟩) n c,.int .i64 (a:Nat),.int .i64 (b:Nat)] [sl (some ⟨g,0,none⟩) c 56 1 n (dCO d),q]
   (fun v Q=>v= .tuple #[]∧Q=[sl (some ⟨g,0,none⟩) c 56 1 n (dCO (reverseRange d a b)),q]∧OkDO ok n (reverseRange d a b)):=by
 refine bO (hE.fn Tryz.func164) O O O (fun R=>?_);simp only[dX,uV,uW];refine gg14 ?_;refine eQ (fun x:Nat×Nat×Array Nat=>[(0,.slice (some ⟨g,0,none⟩) n c),(6,.int .i64 (x.1:Nat)),(7,.int .i64 (x.2.1:Nat))]) (fun x=>[sl (some ⟨g,0,none⟩) c 56 1 n (dCO x.2.2),q,R]) (fun x=>x.2.1-x.1) (fun x=>reverseLoop x.1 x.2.1 x.2.2=reverseRange d a b∧OkDO ok n x.2.2∧x.2.1<n∧x.1≤n) (a,b-1,d) ?_ ?_ ?_ ?_
 ·exact⟨O,hd,by show b-1<n;omega,by show a≤n;omega⟩
 ·exact⟨O,O,bf some (bW (by simp only;omega)),trivial⟩
 ·exact uI
 rintro⟨i,j,e⟩⟨he,hd',hj,hi⟩;simp only at he hd' hj hi ⊢;have hs:=hd'.1;refine gg8 ?_;refine bE O (fun h1=>?_) (fun h1=>?_)
 ·have f0:=eO e (i:=i) oO ((i:Int)).toNat oO;have f1:=eO e (i:=j) oO ((j:Int)).toNat oO;refine gg4 ?_;refine iO 13 ([sl (some ⟨g,0,none⟩) c 56 1 n (dCO e),q]) [(15,[])] ?_ ?_
  ·exact uI
  refine uP 0 O (aB O) (uP 1 O (aB O) (uP 2 O (aB O) (uP 3 O (aB O) (uP 4 O (aB O) (uP 5 O (aB O) (uP 6 O (uAj O O) ?_))))));refine uQ 7 O (uY) ?_;refine uP 8 O (aB O) (uP 9 O (aB O) (uP 10 O (uAj O O) ?_));refine uQ 11 O (uY) ?_;refine uP 12 O (uAj O O) ?_;apply mF O oK O;refine uJ ?_;refine uE ?_;refine uP 14 O (uAj O O) ?_;apply mE O oK oK O;refine uJ ?_;refine gg14 ?_;simp only[bP];rw[jP e (i:=i) (j:=j) oO oO]
  case ho=>omega
  case ho'=>omega
  refine bS (ι:=Nat×Nat×Array Nat) (j:=(i+1,j-1,swp e i j)) ⟨?_,hd'.swp oO hj,by show j-1<n;omega,by show i+1≤n;omega⟩ (by show j-1-(i+1)<j-i;omega) ⟨rfl,rfl,?_,trivial⟩ uI
  ·rw[←he];conv=>rhs;rw[reverseLoop,if_pos (show i<j by omega)]
  exact bf some (bW (by simp only;omega))
 rw[reverseLoop,if_neg (show ¬i<j by omega)]at he;subst he;refine gg4 ?_;exact uZe O .nil ⟨O,O,hd'⟩
open Go.Sort in
def yR (hE:Seat E)(hc:CmpO E q ok cf){d:Array Nat}(hd:OkDO ok n d){a b:Nat}(hab:a≤b)(hb:b≤n)(hn:n<1099511627776):
  Ct E 160 [.slice (some ⟨g,0,none⟩) n c,.int .i64 (a:Nat),.int .i64 (b:Nat)] [sl (some ⟨g,0,none⟩) c 56 1 n (dCO d),q]
   (fun v Q=>v= .tuple #[]∧Q=[sl (some ⟨g,0,none⟩) c 56 1 n (dCO (insertionSort (ltFO cf) d a b)),q]∧OkDO ok n (insertionSort (ltFO cf) d a b)):=by
 refine bO (hE.fn Tryz.func160) O O O (fun R=>?_);simp only[dX,uV,uW];refine gg8 ?_;refine eQ (fun x:Nat×Array Nat=>[(0,.slice (some ⟨g,0,none⟩) n c),(1,.int .i64 (a:Nat)),(2,.int .i64 (b:Nat)),(6,.int .i64 (x.1:Nat))]) (fun x=>[sl (some ⟨g,0,none⟩) c 56 1 n (dCO x.2),q,R]) (fun x=>b-x.1) (fun x=>insOuter (ltFO cf) a b x.1 x.2=insertionSort (ltFO cf) d a b∧OkDO ok n x.2∧a+1≤x.1∧x.1≤n+1) (a+1,d) ?_ ?_ ?_ ?_
 ·exact⟨O,hd,ai _,by show a+1≤n+1;omega⟩
 ·exact⟨O,O,O,bf some (bW (by simp only;omega)),trivial⟩
 ·exact uI
 rintro⟨i,e⟩⟨he,hd',hi,hi2⟩;simp only at he hd' hi hi2 ⊢;refine gg8 ?_;refine bE O (fun h1=>?_) (fun h1=>?_)
 ·rw[insOuter,if_pos (show i<b by omega)]at he;refine gg11 ?_;refine eQ (fun x:Nat×Array Nat=>[(0,.slice (some ⟨g,0,none⟩) n c),(1,.int .i64 (a:Nat)),(2,.int .i64 (b:Nat)),(6,.int .i64 (i:Nat)),(7,.int .i64 (x.1:Nat))]) (fun x=>[sl (some ⟨g,0,none⟩) c 56 1 n (dCO x.2),q,R]) (fun x=>x.1) (fun x=>insInner (ltFO cf) a x.1 x.2=insInner (ltFO cf) a i e∧OkDO ok n x.2∧x.1≤i) (i,e) ?_ ?_ ?_ ?_
  ·exact⟨O,hd',ai _⟩
  ·exact⟨O,O,O,O,O,trivial⟩
  ·exact uI
  rintro⟨j,u⟩⟨hu,hdu,hj⟩;simp only at hu hdu hj ⊢;have hs:=hdu.1;refine gg7 ?_;refine eF 19 O (fun h2=>?_) (fun h2=>?_)
  ·obtain⟨j,rfl⟩:∃k,j=k+1:=⟨j-1,oO⟩;have f0:=eO u (i:=j+1) oO (((j+1:Nat):Int)).toNat oO;have f1:=eO u (i:=j) oO (((j+1:Nat):Int)-1).toNat oO;have hcc:=hc _ _ (hdu.2 (j+1) oO) (hdu.2 j oO);refine gg19 ?_;refine uX (hcc) O ?_;rintro _ _⟨rfl,rfl⟩;simp only[uV,uW];refine gg3 ?_;refine bE O (fun h3=>?_) (fun h3=>?_)
   ·refine gg4 ?_;refine iO 15 ([sl (some ⟨g,0,none⟩) c 56 1 n (dCO u),q]) [(17,[])] ?_ ?_
    ·exact uI
    refine uP 0 O (aB O) (uP 1 O (aB O) (uP 2 O (aB O) (uP 3 O (aB O) (uP 4 O (uAs O O) (uP 5 O (aB O) (uP 6 O (aB O) (uP 7 O (uAs O O) (uP 8 O (uAj O O) ?_))))))));refine uQ 9 O (uY) ?_;refine uP 10 O (aB O) (uP 11 O (aB O) (uP 12 O (uAj O O) ?_));refine uQ 13 O (uY) ?_;refine uP 14 O (uAj O O) ?_;apply mF O oK O;refine uJ ?_;refine uE ?_;refine uP 16 O (uAj O O) ?_;apply mE O oK oK O;refine uJ ?_;refine gg7 ?_;simp only[bP];rw[jP u (i:=(j+1)) (j:=j) oO oO]
    case ho=>omega
    case ho'=>omega
    refine bS (ι:=Nat×Array Nat) (j:=(j,swp u (j+1) j)) ⟨?_,hdu.swp oO oO,by show j≤i;omega⟩ (by show j<j+1;omega) ⟨rfl,rfl,rfl,rfl,bf some (bW (by simp only;omega)),trivial⟩ uI;rw[←hu];conv=>rhs;rw[insInner,if_pos (by simp[ltFO,h3];omega)]
   rw[insInner,if_neg (by simp[ltFO,h3])]at hu;rw[←hu]at he;refine gg11 ?_;refine bS (ι:=Nat×Array Nat) (j:=(i+1,u)) ⟨he,hdu,by show a+1≤i+1;omega,by show i+1≤n+1;omega⟩ (by show b-(i+1)<b-i;omega) ⟨rfl,rfl,rfl,bf some (bW (by simp only;omega)),trivial⟩ uI
  have hu':u=insInner (ltFO cf) a i e:=by
   rw[←hu];cases j with
   |zero=>rfl
   |succ j=>rw[insInner,if_neg (by simp;omega)]
  rw[←hu']at he;refine gg25 ?_;refine bS (ι:=Nat×Array Nat) (j:=(i+1,u)) ⟨he,hdu,by show a+1≤i+1;omega,by show i+1≤n+1;omega⟩ (by show b-(i+1)<b-i;omega) ⟨rfl,rfl,rfl,bf some (bW (by simp only;omega)),trivial⟩ uI
 rw[insOuter,if_neg (show ¬i<b by omega)]at he;subst he;refine gg4 ?_;exact uZe O .nil ⟨O,O,hd'⟩
open Go.Sort in
def tL {lt:Nat→Nat→Bool}{hi first root ch:Nat}{d:Array Nat}(h:¬2*root+1≥hi)(hc:ch<hi)(e:if 2*root+1+1<hi&&lt d[first +(2*root+1)]! d[first +(2*root+1)+1]! then ch=2*root+2 else ch=2*root+1):
  siftDown lt hi first root d=if !lt d[first +root]! d[first +ch]! then d else siftDown lt hi first ch (swp d (first +root) (first +ch)):=by
 rw[siftDown,dif_neg h];split at e
 ·rename_i h1
  subst e;rw[if_pos h1];split
  ·rfl
  first |rw[dif_pos hc]|rfl
 rename_i h1
 subst e;rw[if_neg h1]
open Go.Sort in
def qAd (hE:Seat E)(hc:CmpO E q ok cf){d:Array Nat}(hd:OkDO ok n d){lo hi first:Nat}(hlo:lo≤n)(hb:first +hi≤n)(hn:n<1099511627776):
  Ct E 202 [.slice (some ⟨g,0,none⟩) n c,.int .i64 (lo:Nat),.int .i64 (hi:Nat),.int .i64 (first:Nat)] [sl (some ⟨g,0,none⟩) c 56 1 n (dCO d),q]
   (fun v Q=>v= .tuple #[]∧Q=[sl (some ⟨g,0,none⟩) c 56 1 n (dCO (siftDown (ltFO cf) hi first lo d)),q]∧OkDO ok n (siftDown (ltFO cf) hi first lo d)):=by
 refine bO (hE.fn Tryz.func202) O O O (fun R=>?_);simp only[dX,uV,uW];refine gg7 ?_;refine eQ (fun x:Nat×Array Nat=>[(0,.slice (some ⟨g,0,none⟩) n c),(2,.int .i64 (hi:Nat)),(3,.int .i64 (first:Nat)),(8,.int .i64 (x.1:Nat))]) (fun x=>[sl (some ⟨g,0,none⟩) c 56 1 n (dCO x.2),q,R]) (fun x=>hi-x.1) (fun x=>siftDown (ltFO cf) hi first x.1 x.2=siftDown (ltFO cf) hi first lo d∧OkDO ok n x.2∧x.1≤n) (lo,d) ?_ ?_ ?_ ?_
 ·exact⟨O,hd,hlo⟩
 ·exact⟨O,O,O,O,trivial⟩
 ·exact uI
 rintro⟨ro,e⟩⟨he,hd',hro⟩;simp only at he hd' hro ⊢;have hs:=hd'.1;refine gg17 ?_;refine bE O (fun h1=>?_) (fun h1=>?_)
 ·rw[siftDown,dif_pos (show 2*ro+1≥hi by omega)]at he;subst he;refine gg5 ?_;exact uZe O .nil ⟨O,O,hd'⟩
 refine gg10 ?_;refine eF 21 O (fun h2=>?_) (fun h2=>?_)
 ·have f0:=eO e (i:=first +(2*ro+1)) oO ((first:Int)+(2*(ro:Int)+1)).toNat oO;have f1:=eO e (i:=first +(2*ro+1)+1) oO ((first:Int)+(2*(ro:Int)+1)+1).toNat oO;have hcc:=hc _ _ (hd'.2 (first +(2*ro+1)) oO) (hd'.2 (first +(2*ro+1)+1) oO);refine gg27 ?_;refine uX (hcc) O ?_;rintro _ _⟨rfl,rfl⟩;simp only[uV,uW];refine gg3 ?_;refine bE O (fun h3=>?_) (fun h3=>?_)
  ·have hk:=tL (lt:=ltFO cf) (d:=e) (first:=first) (show ¬2*ro+1≥hi by omega) (show 2*ro+2<hi by omega) (by rw[if_pos (by simp[ltFO,h3];omega)]);refine gg6 ?_;refine w_eq 9 (.int .i64 ((2*ro+2:Nat):Int)) O (bW oO) ?_;rw[hk]at he;have f2:=eO e (i:=first +ro) oO ((first:Int)+(ro:Int)).toNat oO;have f3:=eO e (i:=first +(2*ro+2)) oO ((first:Int)+((2*ro+2:Nat):Int)).toNat oO;have hcd:=hc _ _ (hd'.2 (first +ro) oO) (hd'.2 (first +(2*ro+2)) oO);refine gg15 ?_;refine uX (hcd) O ?_;rintro _ _⟨rfl,rfl⟩;simp only[uV,uW];refine gg3 ?_;refine kF O (fun h5=>?_) (fun h5=>?_)
   ·rw[if_pos (by simp[ltFO,h5])]at he;subst he;refine gg5 ?_;exact uZ O .nil ⟨O,O,hd'⟩
   rw[if_neg (by simp[ltFO,h5])]at he;refine gg3 ?_;refine iO 21 ([sl (some ⟨g,0,none⟩) c 56 1 n (dCO e),q]) [(23,[])] ?_ ?_
   ·exact uI
   refine uP 0 O (aB O) (uP 1 O (aB O) (uP 2 O (aB O) (uP 3 O (uAa O O) (uP 4 O (aB O) (uP 5 O (aB O) (uP 6 O (aB O) (uP 7 O (uAa O O) (uP 8 O (aB O) (uP 9 O (aB O) (uP 10 O (aB O) (uP 11 O (uAa O O) (uP 12 O (uAj O O) ?_))))))))))));refine uQ 13 O (uY) ?_;refine uP 14 O (aB O) (uP 15 O (aB O) (uP 16 O (aB O) (uP 17 O (uAa O O) (uP 18 O (uAj O O) ?_))));refine uQ 19 O (uY) ?_;refine uP 20 O (uAj O O) ?_;apply mF O oK O;refine uJ ?_;refine uE ?_;refine uP 22 O (uAj O O) ?_;apply mE O oK oK O;refine uJ ?_;refine gg6 ?_;simp only[bP];rw[jP e (i:=(first +ro)) (j:=(first +(2*ro+2))) oO oO]
   case ho=>omega
   case ho'=>omega
   refine bS (ι:=Nat×Array Nat) (j:=(2*ro+2,swp e (first +ro) (first +(2*ro+2)))) ⟨he,hd'.swp oO oO,by show 2*ro+2≤n;omega⟩ (by show hi-(2*ro+2)<hi-ro;omega) ⟨rfl,rfl,rfl,rfl,trivial⟩ uI
  have hk:=tL (lt:=ltFO cf) (d:=e) (first:=first) (show ¬2*ro+1≥hi by omega) (show 2*ro+1<hi by omega) (by rw[if_neg (by simp[ltFO,h3])]);refine gg2 ?_;refine w_eq 9 (.int .i64 ((2*ro+1:Nat):Int)) O (bW oO) ?_;rw[hk]at he;have f2:=eO e (i:=first +ro) oO ((first:Int)+(ro:Int)).toNat oO;have f3:=eO e (i:=first +(2*ro+1)) oO ((first:Int)+((2*ro+1:Nat):Int)).toNat oO;have hcd:=hc _ _ (hd'.2 (first +ro) oO) (hd'.2 (first +(2*ro+1)) oO);refine gg15 ?_;refine uX (hcd) O ?_;rintro _ _⟨rfl,rfl⟩;simp only[uV,uW];refine gg3 ?_;refine kF O (fun h5=>?_) (fun h5=>?_)
  ·rw[if_pos (by simp[ltFO,h5])]at he;subst he;refine gg5 ?_;exact uZ O .nil ⟨O,O,hd'⟩
  rw[if_neg (by simp[ltFO,h5])]at he;refine gg3 ?_;refine iO 21 ([sl (some ⟨g,0,none⟩) c 56 1 n (dCO e),q]) [(23,[])] ?_ ?_
  ·exact uI
  refine uP 0 O (aB O) (uP 1 O (aB O) (uP 2 O (aB O) (uP 3 O (uAa O O) (uP 4 O (aB O) (uP 5 O (aB O) (uP 6 O (aB O) (uP 7 O (uAa O O) (uP 8 O (aB O) (uP 9 O (aB O) (uP 10 O (aB O) (uP 11 O (uAa O O) (uP 12 O (uAj O O) ?_))))))))))));refine uQ 13 O (uY) ?_;refine uP 14 O (aB O) (uP 15 O (aB O) (uP 16 O (aB O) (uP 17 O (uAa O O) (uP 18 O (uAj O O) ?_))));refine uQ 19 O (uY) ?_;refine uP 20 O (uAj O O) ?_;apply mF O oK O;refine uJ ?_;refine uE ?_;refine uP 22 O (uAj O O) ?_;apply mE O oK oK O;refine uJ ?_;refine gg6 ?_;simp only[bP];rw[jP e (i:=(first +ro)) (j:=(first +(2*ro+1))) oO oO]
  case ho=>omega
  case ho'=>omega
  refine bS (ι:=Nat×Array Nat) (j:=(2*ro+1,swp e (first +ro) (first +(2*ro+1)))) ⟨he,hd'.swp oO oO,by show 2*ro+1≤n;omega⟩ (by show hi-(2*ro+1)<hi-ro;omega) ⟨rfl,rfl,rfl,rfl,trivial⟩ uI
 have hk:=tL (lt:=ltFO cf) (d:=e) (first:=first) (show ¬2*ro+1≥hi by omega) (show 2*ro+1<hi by omega) (by rw[if_neg (by simp;omega)]);refine gg20 ?_;refine w_eq 9 (.int .i64 ((2*ro+1:Nat):Int)) O (bW oO) ?_;rw[hk]at he;have f2:=eO e (i:=first +ro) oO ((first:Int)+(ro:Int)).toNat oO;have f3:=eO e (i:=first +(2*ro+1)) oO ((first:Int)+((2*ro+1:Nat):Int)).toNat oO;have hcd:=hc _ _ (hd'.2 (first +ro) oO) (hd'.2 (first +(2*ro+1)) oO);refine gg15 ?_;refine uX (hcd) O ?_;rintro _ _⟨rfl,rfl⟩;simp only[uV,uW];refine gg3 ?_;refine kF O (fun h5=>?_) (fun h5=>?_)
 ·rw[if_pos (by simp[ltFO,h5])]at he;subst he;refine gg5 ?_;exact uZ O .nil ⟨O,O,hd'⟩
 rw[if_neg (by simp[ltFO,h5])]at he;refine gg3 ?_;refine iO 21 ([sl (some ⟨g,0,none⟩) c 56 1 n (dCO e),q]) [(23,[])] ?_ ?_
 ·exact uI
 refine uP 0 O (aB O) (uP 1 O (aB O) (uP 2 O (aB O) (uP 3 O (uAa O O) (uP 4 O (aB O) (uP 5 O (aB O) (uP 6 O (aB O) (uP 7 O (uAa O O) (uP 8 O (aB O) (uP 9 O (aB O) (uP 10 O (aB O) (uP 11 O (uAa O O) (uP 12 O (uAj O O) ?_))))))))))));refine uQ 13 O (uY) ?_;refine uP 14 O (aB O) (uP 15 O (aB O) (uP 16 O (aB O) (uP 17 O (uAa O O) (uP 18 O (uAj O O) ?_))));refine uQ 19 O (uY) ?_;refine uP 20 O (uAj O O) ?_;apply mF O oK O;refine uJ ?_;refine uE ?_;refine uP 22 O (uAj O O) ?_;apply mE O oK oK O;refine uJ ?_;refine gg6 ?_;simp only[bP];rw[jP e (i:=(first +ro)) (j:=(first +(2*ro+1))) oO oO]
 case ho=>omega
 case ho'=>omega
 refine bS (ι:=Nat×Array Nat) (j:=(2*ro+1,swp e (first +ro) (first +(2*ro+1)))) ⟨he,hd'.swp oO oO,by show 2*ro+1≤n;omega⟩ (by show hi-(2*ro+1)<hi-ro;omega) ⟨rfl,rfl,rfl,rfl,trivial⟩ uI
open Go.Sort in
def qKj (hE:Seat E)(hc:CmpO E q ok cf){d:Array Nat}(hd:OkDO ok n d){a b:Nat}(hab:a<b)(hb:b≤n)(hn:n<1099511627776):
  Ct E 161 [.slice (some ⟨g,0,none⟩) n c,.int .i64 (a:Nat),.int .i64 (b:Nat)] [sl (some ⟨g,0,none⟩) c 56 1 n (dCO d),q]
   (fun v Q=>v= .tuple #[]∧Q=[sl (some ⟨g,0,none⟩) c 56 1 n (dCO (heapSort (ltFO cf) d a b)),q]∧OkDO ok n (heapSort (ltFO cf) d a b)):=by
 obtain⟨l,hl⟩:∃l,l=b-a:=⟨_,rfl⟩;have e0:heapSort (ltFO cf) d a b=heapPop (ltFO cf) a l (heapBuild (ltFO cf) l a ((l-1)/2+1) d):=by unfold heapSort;rw[←hl]
 rw[e0];refine bO (hE.fn Tryz.func161) O O O (fun R=>?_);simp only[dX,uV,uW];refine gg19 ?_;refine w_eq 8 (.int .i64 ((l:Nat):Int)) O (bW oO) ?_;refine gg10 ?_;refine eQ (fun x:Nat×Array Nat=>[(0,.slice (some ⟨g,0,none⟩) n c),(6,.int .i64 (a:Nat)),(7,.int .i64 0),(8,.int .i64 (l:Nat)),(9,.int .i64 ((x.1:Int)-1))]) (fun x=>[sl (some ⟨g,0,none⟩) c 56 1 n (dCO x.2),q,R]) (fun x=>x.1) (fun x=>heapBuild (ltFO cf) l a x.1 x.2=heapBuild (ltFO cf) l a ((l-1)/2+1) d∧OkDO ok n x.2∧x.1≤l) ((l-1)/2+1,d) ?_ ?_ ?_ ?_
 ·exact⟨O,hd,by show(l-1)/2+1≤l;omega⟩
 ·exact⟨O,O,O,O,bf some (bW (by simp only;omega)),trivial⟩
 ·exact uI
 rintro⟨k,e⟩⟨he,hd',hk⟩;simp only at he hd' hk ⊢;refine gg7 ?_;refine bE O (fun h1=>?_) (fun h1=>?_)
 ·obtain⟨k,rfl⟩:∃j,k=j+1:=⟨k-1,oO⟩;refine gg2 ?_;refine w_eq 9 (.int .i64 ((k:Nat):Int)) O (bW oO) ?_;refine gg7 ?_;refine uX (qAd hE hc hd' oO oO hn) O ?_;rintro _ _⟨rfl,rfl,hd2⟩;simp only[uV,uW];refine gg8 ?_;refine bS (ι:=Nat×Array Nat) (j:=(k,siftDown (ltFO cf) l a k e)) ⟨he,hd2,by show k≤l;omega⟩ (by show k<k+1;omega) ⟨rfl,rfl,rfl,rfl,rfl,trivial⟩ uI
 obtain rfl:k=0:=by omega
 rw[heapBuild]at he;rw[←he];clear he hd e0;refine gg13 ?_;refine eQ (fun x:Nat×Array Nat=>[(0,.slice (some ⟨g,0,none⟩) n c),(6,.int .i64 (a:Nat)),(7,.int .i64 0),(10,.int .i64 ((x.1:Int)-1))]) (fun x=>[sl (some ⟨g,0,none⟩) c 56 1 n (dCO x.2),q,R]) (fun x=>x.1) (fun x=>heapPop (ltFO cf) a x.1 x.2=heapPop (ltFO cf) a l e∧OkDO ok n x.2∧x.1≤l) (l,e) ?_ ?_ ?_ ?_
 ·exact⟨O,hd',ai _⟩
 ·exact⟨O,O,O,O,trivial⟩
 ·exact uI
 rintro⟨k,u⟩⟨hu,hdu,hk⟩;simp only at hu hdu hk ⊢;have hs:=hdu.1;refine gg7 ?_;refine bE O (fun h2=>?_) (fun h2=>?_)
 ·obtain⟨k,rfl⟩:∃j,k=j+1:=⟨k-1,oO⟩;have f0:=eO u (i:=a+k) oO ((a:Int)+(k:Int)).toNat oO;have f1:=eO u (i:=a) oO (a:Int).toNat oO;refine gg2 ?_;refine w_eq 10 (.int .i64 ((k:Nat):Int)) O (bW oO) ?_;refine gg3 ?_;refine iO 17 ([sl (some ⟨g,0,none⟩) c 56 1 n (dCO u),q]) [(19,[])] ?_ ?_
  ·exact uI
  refine uP 0 O (aB O) (uP 1 O (aB O) (uP 2 O (aB O) (uP 3 O (aB O) (uP 4 O (aB O) (uP 5 O (uAa O O) (uP 6 O (aB O) (uP 7 O (aB O) (uP 8 O (aB O) (uP 9 O (uAa O O) (uP 10 O (uAj O O) ?_))))))))));refine uQ 11 O (uY) ?_;refine uP 12 O (aB O) (uP 13 O (aB O) (uP 14 O (uAj O O) ?_));refine uQ 15 O (uY) ?_;refine uP 16 O (uAj O O) ?_;apply mF O oK O;refine uJ ?_;refine uE ?_;refine uP 18 O (uAj O O) ?_;apply mE O oK oK O;refine uJ ?_;refine gg1 ?_;simp only[bP];rw[jP u (i:=a) (j:=(a+k)) oO oO]
  case ho=>omega
  case ho'=>omega
  refine gg5 ?_;refine uX (qAd (lo:=0) hE hc (hdu.swp (show a<n by omega) (show a+k<n by omega)) oO oO hn) rfl ?_;rintro _ _⟨rfl,rfl,hd2⟩;simp only[uV,uW];refine gg8 ?_;refine bS (ι:=Nat×Array Nat) (j:=(k,siftDown (ltFO cf) k a 0 (swp u a (a+k)))) ⟨hu,hd2,by show k≤l;omega⟩ (by show k<k+1;omega) ⟨rfl,rfl,rfl,rfl,trivial⟩ uI
 obtain rfl:k=0:=by omega
 rw[heapPop]at hu;subst hu;refine gg4 ?_;exact uZe O .nil ⟨O,O,hdu⟩
end
section
variable {E:Env}
variable {q:HP}{ok:Nat→Prop}{cf:Nat→Nat→Int}{g c n:Nat}
open Go.Sort in
def wZ (hE:Seat E)(hc:CmpO E q ok cf){d:Array Nat}(hd:OkDO ok n d){a b pv:Nat}(hap:a≤pv)(hpb:pv<b)(hb:b≤n)(hn:n<1099511627776):
  Ct E 167 [.slice (some ⟨g,0,none⟩) n c,.int .i64 (a:Nat),.int .i64 (b:Nat),.int .i64 (pv:Nat)] [sl (some ⟨g,0,none⟩) c 56 1 n (dCO d),q]
   (fun v Q=>v= .int .i64 ((partitionEqual (ltFO cf) d a b pv).1:Nat)∧Q=[sl (some ⟨g,0,none⟩) c 56 1 n (dCO (partitionEqual (ltFO cf) d a b pv).2),q]∧OkDO ok n (partitionEqual (ltFO cf) d a b pv).2):=by
 have hs:=hd.1;have f2:=eO d (i:=pv) oO ((pv:Int)).toNat oO;have f3:=eO d (i:=a) oO ((a:Int)).toNat oO;obtain⟨r,hr⟩:∃r,r=partitionEqual (ltFO cf) d a b pv:=⟨_,rfl⟩;have hr':=hr;unfold partitionEqual at hr';rw[←hr];refine bO (hE.fn Tryz.func167) O O O (fun R=>?_);simp only[dX,uV,uW];refine gg6 ?_;refine iO 13 ([sl (some ⟨g,0,none⟩) c 56 1 n (dCO d),q]) [(15,[])] ?_ ?_
 ·exact uI
 refine uP 0 O (aB O) (uP 1 O (aB O) (uP 2 O (aB O) (uP 3 O (aB O) (uP 4 O (aB O) (uP 5 O (aB O) (uP 6 O (uAj O O) ?_))))));refine uQ 7 O (uY) ?_;refine uP 8 O (aB O) (uP 9 O (aB O) (uP 10 O (uAj O O) ?_));refine uQ 11 O (uY) ?_;refine uP 12 O (uAj O O) ?_;apply mF O oK O;refine uJ ?_;refine uE ?_;refine uP 14 O (uAj O O) ?_;apply mE O oK oK O;refine uJ ?_;refine gg11 ?_;simp only[bP];rw[jP d (i:=a) (j:=pv) oO oO]
 case ho=>omega
 case ho'=>omega
 refine w_eq 9 (.int .i64 ((a+1:Nat):Int)) O (bW oO) ?_;refine w_eq 10 (.int .i64 ((b-1:Nat):Int)) O (bW oO) ?_;have hd1:=hd.swp (show a<n by omega) (show pv<n by omega);generalize swp d a pv=d1 at*;refine gg2 ?_;refine eQ (fun x:Nat×Nat×Array Nat=>[(0,.slice (some ⟨g,0,none⟩) n c),(1,.int .i64 (a:Nat)),(9,.int .i64 (x.1:Nat)),(10,.int .i64 (x.2.1:Nat))]) (fun x=>[sl (some ⟨g,0,none⟩) c 56 1 n (dCO x.2.2),q,R]) (fun x=>x.2.1+1-x.1) (fun x=>partEqLoop (ltFO cf) a x.1 x.2.1 x.2.2=r∧OkDO ok n x.2.2∧a<x.1∧a≤x.2.1∧x.1≤x.2.1+2∧x.2.1<b) (a+1,b-1,d1) ?_ ?_ ?_ ?_
 ·exact⟨hr'.symm,hd1,by show a<a+1;omega,by show a≤b-1;omega,by show a+1≤b-1+2;omega,by show b-1<b;omega⟩
 ·exact⟨O,O,O,O,trivial⟩
 ·exact uI
 rintro⟨i,j,e⟩⟨he,hde,hi,haj,hij,hj⟩;simp only at he hde hi haj hij hj ⊢;have hse:=hde.1;rw[partEqLoop_eq]at he;obtain⟨i2,hi2⟩:∃i2,scanUp (fun x=>!ltFO cf e[a]! x) e j i=i2:=⟨_,rfl⟩;rw[hi2]at he;obtain⟨j2,hj2⟩:∃j2,scanDown (fun x=>ltFO cf e[a]! x) e i2 j=j2:=⟨_,rfl⟩;rw[hj2]at he;refine gg1 ?_;refine nM (fun _:Unit=>[(0,.slice (some ⟨g,0,none⟩) n c),(1,.int .i64 (a:Nat)),(9,.int .i64 ((i2:Nat):Int)),(10,.int .i64 ((j:Nat):Int))]) (fun _=>[sl (some ⟨g,0,none⟩) c 56 1 n (dCO (e)),q,R]) (fun _=>i≤i2∧i2≤j+2) ?_ ?_
 ·refine gg1 ?_;refine eQ (fun x:Nat=>[(0,.slice (some ⟨g,0,none⟩) n c),(1,.int .i64 (a:Nat)),(9,.int .i64 ((x:Nat):Int)),(10,.int .i64 ((j:Nat):Int))]) (fun _=>[sl (some ⟨g,0,none⟩) c 56 1 n (dCO (e)),q,R]) (fun x=>j+1-x) (fun x=>scanUp (fun x=>!ltFO cf (e)[a]! x) (e) (j) x=i2∧i≤x∧x≤j+2) (i) ?_ ?_ ?_ ?_
  ·exact⟨hi2,oO,oO⟩
  ·exact⟨O,O,O,O,trivial⟩
  ·exact uI
  rintro x⟨hx,hx1,hx2⟩;refine gg7 ?_;refine eF 32 O (fun su=>?_) (fun su=>?_)
  ·have f0:=eO (e) (i:=x) oO ((x:Nat):Int).toNat oO;have f1:=eO (e) (i:=a) oO ((a:Nat):Int).toNat oO;have hcc:=hc _ _ (hde.2 (a) oO) (hde.2 (x) oO);refine gg17 ?_;refine uX (hcc) O ?_;rintro _ _⟨rfl,rfl⟩;simp only[uV,uW];refine gg5 ?_;refine kF O (fun gu=>?_) (fun gu=>?_)
   ·refine gg9 ?_;refine bS (x+1) ⟨?_,oO,oO⟩ oO ⟨O,O,bf some (bW oO),O,trivial⟩ uI;rw[←hx];conv=>rhs;rw[scanUp,if_pos (by simp[ltFO,gu];omega)]
   rw[scanUp,if_neg (by simp[ltFO,gu])]at hx;rw[←hx];refine gg4 ?_;refine fZ () oO ⟨O,O,O,O,trivial⟩ uI
  rw[scanUp,if_neg (by simp;omega)]at hx;rw[←hx];refine gg18 ?_;refine fZ () oO ⟨O,O,O,O,trivial⟩ uI
 rintro _⟨hi2a,hi2b⟩;refine nM (fun _:Unit=>[(0,.slice (some ⟨g,0,none⟩) n c),(1,.int .i64 (a:Nat)),(9,.int .i64 ((i2:Nat):Int)),(10,.int .i64 ((j2:Nat):Int))]) (fun _=>[sl (some ⟨g,0,none⟩) c 56 1 n (dCO (e)),q,R]) (fun _=>a≤j2∧j2≤j) ?_ ?_
 ·refine gg1 ?_;refine eQ (fun x:Nat=>[(0,.slice (some ⟨g,0,none⟩) n c),(1,.int .i64 (a:Nat)),(9,.int .i64 ((i2:Nat):Int)),(10,.int .i64 ((x:Nat):Int))]) (fun _=>[sl (some ⟨g,0,none⟩) c 56 1 n (dCO (e)),q,R]) (fun x=>x) (fun x=>scanDown (fun x=>ltFO cf (e)[a]! x) (e) (i2) x=j2∧a≤x∧x≤j) (j) ?_ ?_ ?_ ?_
  ·exact⟨hj2,oO,oO⟩
  ·exact⟨O,O,O,O,trivial⟩
  ·exact uI
  rintro x⟨hx,hx1,hx2⟩;refine gg7 ?_;refine eF 49 O (fun sw=>?_) (fun sw=>?_)
  ·obtain⟨x,rfl⟩:∃k,x=k+1:=⟨x-1,oO⟩;have f0:=eO (e) (i:=x+1) oO ((x+1:Nat):Int).toNat oO;have f1:=eO (e) (i:=a) oO ((a:Nat):Int).toNat oO;have hcc:=hc _ _ (hde.2 (a) oO) (hde.2 (x+1) oO);refine gg17 ?_;refine uX (hcc) O ?_;rintro _ _⟨rfl,rfl⟩;simp only[uV,uW];refine gg3 ?_;refine bE O (fun gw=>?_) (fun gw=>?_)
   ·refine gg9 ?_;refine bS (x) ⟨?_,oO,oO⟩ oO ⟨O,O,O,bf some (bW oO),trivial⟩ uI;rw[←hx];conv=>rhs;rw[scanDown,if_pos (by simp[ltFO,gw];omega)]
   rw[scanDown,if_neg (by simp[ltFO,gw])]at hx;rw[←hx];refine gg4 ?_;refine fZ () oO ⟨O,O,O,O,trivial⟩ uI
  have hx':x=j2:=by
   rw[←hx];cases x with
   |zero=>rfl
   |succ x=>rw[scanDown,if_neg (by simp;omega)]
  rw[←hx'];refine gg17 ?_;refine fZ () oO ⟨O,O,O,O,trivial⟩ uI
 rintro _⟨hj2a,hj2b⟩;refine gg8 ?_;refine bE O (fun h7=>?_) (fun h7=>?_)
 ·rw[if_pos oO]at he;subst he;refine gg13 ?_;exact uZ O (.tmp O .nil) ⟨O,O,hde⟩
 rw[if_neg oO]at he;have f4:=eO e (i:=i2) oO ((i2:Int)).toNat oO;have f5:=eO e (i:=j2) oO ((j2:Int)).toNat oO;refine gg3 ?_;refine iO 13 ([sl (some ⟨g,0,none⟩) c 56 1 n (dCO e),q]) [(15,[])] ?_ ?_
 ·exact uI
 refine uP 0 O (aB O) (uP 1 O (aB O) (uP 2 O (aB O) (uP 3 O (aB O) (uP 4 O (aB O) (uP 5 O (aB O) (uP 6 O (uAj O O) ?_))))));refine uQ 7 O (uY) ?_;refine uP 8 O (aB O) (uP 9 O (aB O) (uP 10 O (uAj O O) ?_));refine uQ 11 O (uY) ?_;refine uP 12 O (uAj O O) ?_;apply mF O oK O;refine uJ ?_;refine uE ?_;refine uP 14 O (uAj O O) ?_;apply mE O oK oK O;refine uJ ?_;refine gg14 ?_;simp only[bP];rw[jP e (i:=i2) (j:=j2) oO oO]
 case ho=>omega
 case ho'=>omega
 refine bS (ι:=Nat×Nat×Array Nat) (j:=(i2+1,j2-1,swp e i2 j2)) ⟨he,hde.swp oO oO,by show a<i2+1;omega,by show a≤j2-1;omega,by show i2+1≤j2-1+2;omega,by show j2-1<b;omega⟩ (by show j2-1+1-(i2+1)<j+1-i;omega) ⟨rfl,rfl,bf some (bW (by simp only;omega)),bf some (bW (by simp only;omega)),trivial⟩ uI
open Go.Sort in
def qHi (hE:Seat E)(hc:CmpO E q ok cf){d:Array Nat}(hd:OkDO ok n d){a b pv:Nat}(hap:a≤pv)(hpb:pv<b)(hb:b≤n)(hn:n<1099511627776):
  Ct E 168 [.slice (some ⟨g,0,none⟩) n c,.int .i64 (a:Nat),.int .i64 (b:Nat),.int .i64 (pv:Nat)] [sl (some ⟨g,0,none⟩) c 56 1 n (dCO d),q]
   (fun v Q=>v= .tuple #[.int .i64 ((partition (ltFO cf) d a b pv).1:Nat),.bool (partition (ltFO cf) d a b pv).2.1]∧Q=[sl (some ⟨g,0,none⟩) c 56 1 n (dCO (partition (ltFO cf) d a b pv).2.2),q]∧OkDO ok n (partition (ltFO cf) d a b pv).2.2):=by
 have hs:=hd.1;have f2:=eO d (i:=pv) oO ((pv:Int)).toNat oO;have f3:=eO d (i:=a) oO ((a:Int)).toNat oO;obtain⟨r,hr⟩:∃r,r=partition (ltFO cf) d a b pv:=⟨_,rfl⟩;have hr':=hr;unfold partition at hr';simp only at hr';rw[←hr];refine bO (hE.fn Tryz.func168) O O O (fun R=>?_);simp only[dX,uV,uW];refine gg7 ?_;refine iO 13 ([sl (some ⟨g,0,none⟩) c 56 1 n (dCO d),q]) [(15,[])] ?_ ?_
 ·exact uI
 refine uP 0 O (aB O) (uP 1 O (aB O) (uP 2 O (aB O) (uP 3 O (aB O) (uP 4 O (aB O) (uP 5 O (aB O) (uP 6 O (uAj O O) ?_))))));refine uQ 7 O (uY) ?_;refine uP 8 O (aB O) (uP 9 O (aB O) (uP 10 O (uAj O O) ?_));refine uQ 11 O (uY) ?_;refine uP 12 O (uAj O O) ?_;apply mF O oK O;refine uJ ?_;refine uE ?_;refine uP 14 O (uAj O O) ?_;apply mE O oK oK O;refine uJ ?_;refine gg11 ?_;simp only[bP];rw[jP d (i:=a) (j:=pv) oO oO]
 case ho=>omega
 case ho'=>omega
 refine w_eq 10 (.int .i64 ((a+1:Nat):Int)) O (bW oO) ?_;refine w_eq 11 (.int .i64 ((b-1:Nat):Int)) O (bW oO) ?_;have hd1:=hd.swp (show a<n by omega) (show pv<n by omega);generalize swp d a pv=d1 at*;have hs1:=hd1.1;obtain⟨i1,hi1⟩:∃i1,scanUp (fun x=>ltFO cf x d1[a]!) d1 (b-1) (a+1)=i1:=⟨_,rfl⟩;rw[hi1]at hr';obtain⟨j1,hj1⟩:∃j1,scanDown (fun x=>!ltFO cf x d1[a]!) d1 i1 (b-1)=j1:=⟨_,rfl⟩;rw[hj1]at hr';refine nM (fun _:Unit=>[(0,.slice (some ⟨g,0,none⟩) n c),(1,.int .i64 (a:Nat)),(10,.int .i64 ((i1:Nat):Int)),(11,.int .i64 (((b-1):Nat):Int))]) (fun _=>[sl (some ⟨g,0,none⟩) c 56 1 n (dCO (d1)),q,R]) (fun _=>(a+1)≤i1∧i1≤(b-1)+2) ?_ ?_
 ·refine gg1 ?_;refine eQ (fun x:Nat=>[(0,.slice (some ⟨g,0,none⟩) n c),(1,.int .i64 (a:Nat)),(10,.int .i64 ((x:Nat):Int)),(11,.int .i64 (((b-1):Nat):Int))]) (fun _=>[sl (some ⟨g,0,none⟩) c 56 1 n (dCO (d1)),q,R]) (fun x=>(b-1)+1-x) (fun x=>scanUp (fun x=>ltFO cf x (d1)[a]!) (d1) ((b-1)) x=i1∧(a+1)≤x∧x≤(b-1)+2) ((a+1)) ?_ ?_ ?_ ?_
  ·exact⟨hi1,oO,oO⟩
  ·exact⟨O,O,O,O,trivial⟩
  ·exact uI
  rintro x⟨hx,hx1,hx2⟩;refine gg7 ?_;refine eF 33 O (fun sp=>?_) (fun sp=>?_)
  ·have f0:=eO (d1) (i:=x) oO ((x:Nat):Int).toNat oO;have f1:=eO (d1) (i:=a) oO ((a:Nat):Int).toNat oO;have hcc:=hc _ _ (hd1.2 (x) oO) (hd1.2 (a) oO);refine gg17 ?_;refine uX (hcc) O ?_;rintro _ _⟨rfl,rfl⟩;simp only[uV,uW];refine gg3 ?_;refine bE O (fun gp=>?_) (fun gp=>?_)
   ·refine gg9 ?_;refine bS (x+1) ⟨?_,oO,oO⟩ oO ⟨O,O,bf some (bW oO),O,trivial⟩ uI;rw[←hx];conv=>rhs;rw[scanUp,if_pos (by simp[ltFO,gp];omega)]
   rw[scanUp,if_neg (by simp[ltFO,gp])]at hx;rw[←hx];refine gg4 ?_;refine fZ () oO ⟨O,O,O,O,trivial⟩ uI
  rw[scanUp,if_neg (by simp;omega)]at hx;rw[←hx];refine gg17 ?_;refine fZ () oO ⟨O,O,O,O,trivial⟩ uI
 rintro _⟨hi1a,hi1b⟩;refine nM (fun _:Unit=>[(0,.slice (some ⟨g,0,none⟩) n c),(1,.int .i64 (a:Nat)),(10,.int .i64 ((i1:Nat):Int)),(11,.int .i64 ((j1:Nat):Int))]) (fun _=>[sl (some ⟨g,0,none⟩) c 56 1 n (dCO (d1)),q,R]) (fun _=>a≤j1∧j1≤(b-1)) ?_ ?_
 ·refine gg1 ?_;refine eQ (fun x:Nat=>[(0,.slice (some ⟨g,0,none⟩) n c),(1,.int .i64 (a:Nat)),(10,.int .i64 ((i1:Nat):Int)),(11,.int .i64 ((x:Nat):Int))]) (fun _=>[sl (some ⟨g,0,none⟩) c 56 1 n (dCO (d1)),q,R]) (fun x=>x) (fun x=>scanDown (fun x=>!ltFO cf x (d1)[a]!) (d1) (i1) x=j1∧a≤x∧x≤(b-1)) ((b-1)) ?_ ?_ ?_ ?_
  ·exact⟨hj1,oO,oO⟩
  ·exact⟨O,O,O,O,trivial⟩
  ·exact uI
  rintro x⟨hx,hx1,hx2⟩;refine gg7 ?_;refine eF 49 O (fun sq=>?_) (fun sq=>?_)
  ·obtain⟨x,rfl⟩:∃k,x=k+1:=⟨x-1,oO⟩;have f0:=eO (d1) (i:=x+1) oO ((x+1:Nat):Int).toNat oO;have f1:=eO (d1) (i:=a) oO ((a:Nat):Int).toNat oO;have hcc:=hc _ _ (hd1.2 (x+1) oO) (hd1.2 (a) oO);refine gg17 ?_;refine uX (hcc) O ?_;rintro _ _⟨rfl,rfl⟩;simp only[uV,uW];refine gg5 ?_;refine kF O (fun gq=>?_) (fun gq=>?_)
   ·refine gg9 ?_;refine bS (x) ⟨?_,oO,oO⟩ oO ⟨O,O,O,bf some (bW oO),trivial⟩ uI;rw[←hx];conv=>rhs;rw[scanDown,if_pos (by simp[ltFO,gq];omega)]
   rw[scanDown,if_neg (by simp[ltFO,gq])]at hx;rw[←hx];refine gg4 ?_;refine fZ () oO ⟨O,O,O,O,trivial⟩ uI
  have hx':x=j1:=by
   rw[←hx];cases x with
   |zero=>rfl
   |succ x=>rw[scanDown,if_neg (by simp;omega)]
  rw[←hx'];refine gg18 ?_;refine fZ () oO ⟨O,O,O,O,trivial⟩ uI
 rintro _⟨hj1a,hj1b⟩;refine gg8 ?_;refine bE O (fun h6=>?_) (fun h6=>?_)
 ·rw[if_pos oO]at hr';subst hr';have f4:=eO d1 (i:=a) oO ((a:Int)).toNat oO;have f5:=eO d1 (i:=j1) oO ((j1:Int)).toNat oO;refine gg1 ?_;refine iO 13 ([sl (some ⟨g,0,none⟩) c 56 1 n (dCO d1),q]) [(15,[])] ?_ ?_
  ·exact uI
  refine uP 0 O (aB O) (uP 1 O (aB O) (uP 2 O (aB O) (uP 3 O (aB O) (uP 4 O (aB O) (uP 5 O (aB O) (uP 6 O (uAj O O) ?_))))));refine uQ 7 O (uY) ?_;refine uP 8 O (aB O) (uP 9 O (aB O) (uP 10 O (uAj O O) ?_));refine uQ 11 O (uY) ?_;refine uP 12 O (uAj O O) ?_;apply mF O oK O;refine uJ ?_;refine uE ?_;refine uP 14 O (uAj O O) ?_;apply mE O oK oK O;refine uJ ?_;refine gg10 ?_;simp only[bP];rw[jP d1 (i:=j1) (j:=a) oO oO]
  case ho=>omega
  case ho'=>omega
  exact uZ O (.tmp O (.tmp O .nil)) ⟨O,O,hd1.swp oO oO⟩
 rw[if_neg oO]at hr';have f4:=eO d1 (i:=i1) oO ((i1:Int)).toNat oO;have f5:=eO d1 (i:=j1) oO ((j1:Int)).toNat oO;obtain⟨u,hu⟩:∃u,partLoop (ltFO cf) a (i1+1) (j1-1) (swp d1 i1 j1)=u:=⟨_,rfl⟩;rw[hu]at hr';refine gg3 ?_;refine iO 13 ([sl (some ⟨g,0,none⟩) c 56 1 n (dCO d1),q]) [(15,[])] ?_ ?_
 ·exact uI
 refine uP 0 O (aB O) (uP 1 O (aB O) (uP 2 O (aB O) (uP 3 O (aB O) (uP 4 O (aB O) (uP 5 O (aB O) (uP 6 O (uAj O O) ?_))))));refine uQ 7 O (uY) ?_;refine uP 8 O (aB O) (uP 9 O (aB O) (uP 10 O (uAj O O) ?_));refine uQ 11 O (uY) ?_;refine uP 12 O (uAj O O) ?_;apply mF O oK O;refine uJ ?_;refine uE ?_;refine uP 14 O (uAj O O) ?_;apply mE O oK oK O;refine uJ ?_;refine gg17 ?_;simp only[bP];rw[jP d1 (i:=i1) (j:=j1) oO oO]
 case ho=>omega
 case ho'=>omega
 refine eQ (fun x:Nat×Nat×Array Nat=>[(0,.slice (some ⟨g,0,none⟩) n c),(1,.int .i64 (a:Nat)),(10,.int .i64 (x.1:Nat)),(11,.int .i64 (x.2.1:Nat))]) (fun x=>[sl (some ⟨g,0,none⟩) c 56 1 n (dCO x.2.2),q,R]) (fun x=>x.2.1+1-x.1) (fun x=>partLoop (ltFO cf) a x.1 x.2.1 x.2.2=u∧OkDO ok n x.2.2∧a<x.1∧a≤x.2.1∧x.1≤x.2.1+2∧x.2.1<b) (i1+1,j1-1,swp d1 i1 j1) ?_ ?_ ?_ ?_
 ·exact⟨hu,hd1.swp oO oO,by show a<i1+1;omega,by show a≤j1-1;omega,by show i1+1≤j1-1+2;omega,by show j1-1<b;omega⟩
 ·exact⟨O,O,bf some (bW (by simp only;omega)),bf some (bW (by simp only;omega)),trivial⟩
 ·exact uI
 rintro⟨i,j,e⟩⟨he,hde,hi,haj,hij,hj⟩;simp only at he hde hi haj hij hj ⊢;have hse:=hde.1;rw[partLoop_eq]at he;obtain⟨i2,hi2⟩:∃i2,scanUp (fun x=>ltFO cf x e[a]!) e j i=i2:=⟨_,rfl⟩;rw[hi2]at he;obtain⟨j2,hj2⟩:∃j2,scanDown (fun x=>!ltFO cf x e[a]!) e i2 j=j2:=⟨_,rfl⟩;rw[hj2]at he;refine gg1 ?_;refine nM (fun _:Unit=>[(0,.slice (some ⟨g,0,none⟩) n c),(1,.int .i64 (a:Nat)),(10,.int .i64 ((i2:Nat):Int)),(11,.int .i64 ((j:Nat):Int))]) (fun _=>[sl (some ⟨g,0,none⟩) c 56 1 n (dCO (e)),q,R]) (fun _=>i≤i2∧i2≤j+2) ?_ ?_
 ·refine gg1 ?_;refine eQ (fun x:Nat=>[(0,.slice (some ⟨g,0,none⟩) n c),(1,.int .i64 (a:Nat)),(10,.int .i64 ((x:Nat):Int)),(11,.int .i64 ((j:Nat):Int))]) (fun _=>[sl (some ⟨g,0,none⟩) c 56 1 n (dCO (e)),q,R]) (fun x=>j+1-x) (fun x=>scanUp (fun x=>ltFO cf x (e)[a]!) (e) (j) x=i2∧i≤x∧x≤j+2) (i) ?_ ?_ ?_ ?_
  ·exact⟨hi2,oO,oO⟩
  ·exact⟨O,O,O,O,trivial⟩
  ·exact uI
  rintro x⟨hx,hx1,hx2⟩;refine gg7 ?_;refine eF 102 O (fun su=>?_) (fun su=>?_)
  ·have f0:=eO (e) (i:=x) oO ((x:Nat):Int).toNat oO;have f1:=eO (e) (i:=a) oO ((a:Nat):Int).toNat oO;have hcc:=hc _ _ (hde.2 (x) oO) (hde.2 (a) oO);refine gg17 ?_;refine uX (hcc) O ?_;rintro _ _⟨rfl,rfl⟩;simp only[uV,uW];refine gg3 ?_;refine bE O (fun gu=>?_) (fun gu=>?_)
   ·refine gg9 ?_;refine bS (x+1) ⟨?_,oO,oO⟩ oO ⟨O,O,bf some (bW oO),O,trivial⟩ uI;rw[←hx];conv=>rhs;rw[scanUp,if_pos (by simp[ltFO,gu];omega)]
   rw[scanUp,if_neg (by simp[ltFO,gu])]at hx;rw[←hx];refine gg4 ?_;refine fZ () oO ⟨O,O,O,O,trivial⟩ uI
  rw[scanUp,if_neg (by simp;omega)]at hx;rw[←hx];refine gg17 ?_;refine fZ () oO ⟨O,O,O,O,trivial⟩ uI
 rintro _⟨hi2a,hi2b⟩;refine nM (fun _:Unit=>[(0,.slice (some ⟨g,0,none⟩) n c),(1,.int .i64 (a:Nat)),(10,.int .i64 ((i2:Nat):Int)),(11,.int .i64 ((j2:Nat):Int))]) (fun _=>[sl (some ⟨g,0,none⟩) c 56 1 n (dCO (e)),q,R]) (fun _=>a≤j2∧j2≤j) ?_ ?_
 ·refine gg1 ?_;refine eQ (fun x:Nat=>[(0,.slice (some ⟨g,0,none⟩) n c),(1,.int .i64 (a:Nat)),(10,.int .i64 ((i2:Nat):Int)),(11,.int .i64 ((x:Nat):Int))]) (fun _=>[sl (some ⟨g,0,none⟩) c 56 1 n (dCO (e)),q,R]) (fun x=>x) (fun x=>scanDown (fun x=>!ltFO cf x (e)[a]!) (e) (i2) x=j2∧a≤x∧x≤j) (j) ?_ ?_ ?_ ?_
  ·exact⟨hj2,oO,oO⟩
  ·exact⟨O,O,O,O,trivial⟩
  ·exact uI
  rintro x⟨hx,hx1,hx2⟩;refine gg7 ?_;refine eF 118 O (fun sw=>?_) (fun sw=>?_)
  ·obtain⟨x,rfl⟩:∃k,x=k+1:=⟨x-1,oO⟩;have f0:=eO (e) (i:=x+1) oO ((x+1:Nat):Int).toNat oO;have f1:=eO (e) (i:=a) oO ((a:Nat):Int).toNat oO;have hcc:=hc _ _ (hde.2 (x+1) oO) (hde.2 (a) oO);refine gg17 ?_;refine uX (hcc) O ?_;rintro _ _⟨rfl,rfl⟩;simp only[uV,uW];refine gg5 ?_;refine kF O (fun gw=>?_) (fun gw=>?_)
   ·refine gg9 ?_;refine bS (x) ⟨?_,oO,oO⟩ oO ⟨O,O,O,bf some (bW oO),trivial⟩ uI;rw[←hx];conv=>rhs;rw[scanDown,if_pos (by simp[ltFO,gw];omega)]
   rw[scanDown,if_neg (by simp[ltFO,gw])]at hx;rw[←hx];refine gg4 ?_;refine fZ () oO ⟨O,O,O,O,trivial⟩ uI
  have hx':x=j2:=by
   rw[←hx];cases x with
   |zero=>rfl
   |succ x=>rw[scanDown,if_neg (by simp;omega)]
  rw[←hx'];refine gg18 ?_;refine fZ () oO ⟨O,O,O,O,trivial⟩ uI
 rintro _⟨hj2a,hj2b⟩;refine gg8 ?_;refine bE O (fun h7=>?_) (fun h7=>?_)
 ·rw[if_pos oO]at he;subst he;subst hr';have f6:=eO e (i:=a) oO ((a:Int)).toNat oO;have f7:=eO e (i:=j2) oO ((j2:Int)).toNat oO;refine gg7 ?_;refine iO 13 ([sl (some ⟨g,0,none⟩) c 56 1 n (dCO e),q]) [(15,[])] ?_ ?_
  ·exact uI
  refine uP 0 O (aB O) (uP 1 O (aB O) (uP 2 O (aB O) (uP 3 O (aB O) (uP 4 O (aB O) (uP 5 O (aB O) (uP 6 O (uAj O O) ?_))))));refine uQ 7 O (uY) ?_;refine uP 8 O (aB O) (uP 9 O (aB O) (uP 10 O (uAj O O) ?_));refine uQ 11 O (uY) ?_;refine uP 12 O (uAj O O) ?_;apply mF O oK O;refine uJ ?_;refine uE ?_;refine uP 14 O (uAj O O) ?_;apply mE O oK oK O;refine uJ ?_;refine gg9 ?_;simp only[bP];rw[jP e (i:=j2) (j:=a) oO oO]
  case ho=>omega
  case ho'=>omega
  exact uZ O (.tmp O (.tmp O .nil)) ⟨O,O,hde.swp oO oO⟩
 rw[if_neg oO]at he;have f6:=eO e (i:=i2) oO ((i2:Int)).toNat oO;have f7:=eO e (i:=j2) oO ((j2:Int)).toNat oO;refine gg3 ?_;refine iO 13 ([sl (some ⟨g,0,none⟩) c 56 1 n (dCO e),q]) [(15,[])] ?_ ?_
 ·exact uI
 refine uP 0 O (aB O) (uP 1 O (aB O) (uP 2 O (aB O) (uP 3 O (aB O) (uP 4 O (aB O) (uP 5 O (aB O) (uP 6 O (uAj O O) ?_))))));refine uQ 7 O (uY) ?_;refine uP 8 O (aB O) (uP 9 O (aB O) (uP 10 O (uAj O O) ?_));refine uQ 11 O (uY) ?_;refine uP 12 O (uAj O O) ?_;apply mF O oK O;refine uJ ?_;refine uE ?_;refine uP 14 O (uAj O O) ?_;apply mE O oK oK O;refine uJ ?_;refine gg14 ?_;simp only[bP];rw[jP e (i:=i2) (j:=j2) oO oO]
 case ho=>omega
 case ho'=>omega
 refine bS (ι:=Nat×Nat×Array Nat) (j:=(i2+1,j2-1,swp e i2 j2)) ⟨he,hde.swp oO oO,by show a<i2+1;omega,by show a≤j2-1;omega,by show i2+1≤j2-1+2;omega,by show j2-1<b;omega⟩ (by show j2-1+1-(i2+1)<j+1-i;omega) ⟨rfl,rfl,bf some (bW (by simp only;omega)),bf some (bW (by simp only;omega)),trivial⟩ uI
end
