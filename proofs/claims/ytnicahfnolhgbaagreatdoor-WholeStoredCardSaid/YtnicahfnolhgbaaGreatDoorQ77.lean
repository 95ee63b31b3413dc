import Derived.Test.YtnicahfnolhgbaaGreatDoorQ05
import Derived.Test.YtnicahfnolhgbaaGreatDoorQ13
import Derived.Sort.AssemblyPlain
set_option linter.all false
set_option maxHeartbeats 1000000
namespace Go.Proofs.YtnicahfnolhgbaaGreatDoor
open Go Go.RowKit Sl Eg
set_option maxRecDepth 10000
section
variable {E:Bp}
def Ce (d:Array Nat):List Value:=Bg d.toList
def Nq (d:Array Nat):(Ce d).length=d.size:=by simp[Ce,Bg]
def eH (d:Array Nat){i}(h:i<d.size)(o:Nat)(ho:o=i):(Ce d)[o]?=some (BK (d[i]!)):=by
 subst ho;simp[Ce,Bg,h]
def qXl (d:Array Nat){i}(h:i<d.size)(x o:Nat)(ho:o=i):bX (Ce d) o [BK x]=Ce (d.setIfInBounds i x):=by
 subst ho;rw[jO _ _ _ (by rw[Nq];simp;omega)];apply mh;intro k;simp only[Ce,Bg,zt,bf];rw[List.map_set];rw[xz];simp[h]
def jV (d:Array Nat){i j}(hi:i<d.size)(hj:j<d.size)(o o':Nat)(ho:o=i)(ho':o'=j):bX (bX (Ce d) o [BK (d[j]!)]) o' [BK (d[i]!)]=Ce (Go.Sort.swp d i j):=by
 rw[qXl d hi _ o ho,qXl _ (by simpa using hj) _ o' ho'];rfl
def Cb (ok:Nat->Prop)(n:Nat)(d:Array Nat):Prop:=d.size=n/\∀i,i<n->ok d[i]!
def Cb.swp {ok:Nat->Prop}{n d}(h:Cb ok n d){i j}(hi:i<n)(hj:j<n):Cb ok n (Go.Sort.swp d i j):=by
 obtain⟨hs,ho⟩:=h;refine⟨by simp[Go.Sort.swp,hs],fun k hk=>?_⟩;have ki:k<d.size:=oO;simp only[Go.Sort.swp]
 have e:((d.setIfInBounds i d[j]!).setIfInBounds j d[i]!)[k]! =if j=k then d[i]! else if i=k then d[j]! else d[k]!:=by
  rw[getElem!_pos _ k (by simpa using ki),uh (by simpa using ki)];split
  ·rfl
  rw[uh ki];split
  ·rfl
  rw[getElem!_pos d k ki]
 rw[e];split
 ·exact ho i hi
 split
 ·exact ho j hj
 exact ho k hk
variable {q:HP}{ok:Nat->Prop}{cf:Nat->Nat->Int}{g c n:Nat}
def GI (E:Bp)(q:HP)(ok:Nat->Prop)(cf:Nat->Nat->Int):Prop:=∀x y,ok x->ok y->Ct E 170 [.int .i64 (x:Nat),.int .i64 (y:Nat)] [q] (fun v Q=>v= .bool (decide (cf x y<0))/\Q=[q])
def qWt (hE:BP E){x}:Ct E 190 [BK x] [] (fun v Q=>v= .bool false/\Q=[]):=by
 refine bO (hE.fn Tryz.func190) O O O (fun R=>?_);simp only[dS,uV,uW];refine CU ?_;exact uZ O (.tmp O .nil) ⟨au Value.bool BF,O⟩
def Nj (hE:BP E){x y}:Ct E 170 [BK x,BK y] [] (fun v Q=>v= .bool (decide ((x:Int)<(y:Nat)))/\Q=[]):=by
 refine bO (hE.fn Tryz.func170) O O O (fun R=>?_);simp only[dS,uV,uW];refine Br ?_;refine BH (qWt hE) O ?_;refine CY ?_;exact uZ O (.tmp O .nil) ⟨O,O⟩
def Pt (x y:Nat):Int:=(x:Int)-(y:Nat)
def WG (hE:BP E){q}{ok:Nat->Prop}:GI E q ok Pt:=fun x y _ _ R w hs=>((Nj (x:=x) (y:=y) hE) (dW [q,R]) w (hs.imp fun k h=>lD (l:=[]) h)).mono fun e w'⟨v,Qs,h1,⟨h2,h3⟩,h4⟩=>⟨v,[q],h1,⟨by rw[h2];exact au Value.bool (decide_eq_decide.2 (by unfold Pt;omega)),rfl⟩,by rw[h3]at h4;exact h4.imp fun k h=>qX (l:=[]) h⟩
def BQ (cf:Nat->Nat->Int)(x y:Nat):Bool:=decide (cf x y<0)
def zV (hE:BP E)(hc:GI E q ok cf){d}(hd:Cb ok n d){a b sw k}(ha:a<n)(hb:b<n)(hk:k<1000):
  Ct E 204 [.slice (BM g) n c,BK a,BK b,uPt sw] [cells sw [BK k] 3,sl (BM g) c 41 1 n (Ce d),q]
   (fun v Q=>v= .tuple #[BK ((Go.Sort.order2 (BQ cf) d a b k).1),BK ((Go.Sort.order2 (BQ cf) d a b k).2.1)]/\Q=[cells sw [BK ((Go.Sort.order2 (BQ cf) d a b k).2.2)] 3,sl (BM g) c 41 1 n (Ce d),q]):=by
 have hs:=hd.1;have f0:=eH d (i:=b) oO ((b:Int)).toNat oO;have f1:=eH d (i:=a) oO ((a:Int)).toNat oO;have hA:=hc _ _ (hd.2 b hb) (hd.2 a ha);refine bO (hE.fn Tryz.func204) O O O (fun R=>?_);simp only[dS,uV,uW];refine CY ?_;refine BH (hA) O ?_;refine CL ?_;refine bE O (fun h1=>?_) (fun h1=>?_)
 ·have e:Go.Sort.order2 (BQ cf) d a b k=(b,a,k+1):=by unfold Go.Sort.order2;rw[if_pos (by simp[BQ,h1])]
  rw[e];refine CB ?_;refine BU 22 (BL ((k+1:Nat):Int)) O (bW oO) ?_;refine CU ?_;exact uZ O (.tmp O (.tmp O .nil)) ⟨O,O⟩
 have e:Go.Sort.order2 (BQ cf) d a b k=(a,b,k):=by unfold Go.Sort.order2;rw[if_neg (by simp[BQ,h1])]
 rw[e];refine Bo ?_;exact uZ O (.tmp O (.tmp O .nil)) ⟨O,O⟩
open Go.Sort in
def qR {lt:Nat->Nat->Bool}{d a b k m}(ha:a<m)(hb:b<m):(order2 lt d a b k).1<m/\(order2 lt d a b k).2.1<m/\(order2 lt d a b k).2.2<=k+1:=by
 unfold order2;split
 ·exact⟨hb,ha,ai _⟩
 exact⟨ha,hb,Ar _⟩
open Go.Sort in
def WS {lt:Nat->Nat->Bool}{d a b e k m}(ha:a<m)(hb:b<m)(he:e<m):(median lt d a b e k).1<m/\(median lt d a b e k).2<=k+3:=by
 have h1:=qR (lt:=lt) (d:=d) (k:=k) ha hb;have h2:=qR (lt:=lt) (d:=d) (k:=(order2 lt d a b k).2.2) h1.2.1 he;have h3:=qR (lt:=lt) (d:=d) (k:=(order2 lt d (order2 lt d a b k).2.1 e (order2 lt d a b k).2.2).2.2) h1.1 h2.1;unfold median;exact⟨h3.2.1,BD⟩
def zS (hE:BP E)(hc:GI E q ok cf){d}(hd:Cb ok n d){a b e sw k}(ha:a<n)(hb:b<n)(he:e<n)(hk:k<900):
  Ct E 189 [.slice (BM g) n c,BK a,BK b,BK e,uPt sw] [cells sw [BK k] 3,sl (BM g) c 41 1 n (Ce d),q]
   (fun v Q=>v= BK ((Go.Sort.median (BQ cf) d a b e k).1)/\Q=[cells sw [BK ((Go.Sort.median (BQ cf) d a b e k).2)] 3,sl (BM g) c 41 1 n (Ce d),q]):=by
 have h1:=qR (lt:=BQ cf) (d:=d) (k:=k) ha hb;have h2:=qR (lt:=BQ cf) (d:=d) (k:=(Go.Sort.order2 (BQ cf) d a b k).2.2) h1.2.1 he;unfold Go.Sort.median;simp only;refine bO (hE.fn Tryz.func189) O O O (fun R=>?_);simp only[dS,uV,uW];refine Bo ?_;refine BH (zV (k:=k) hE hc hd ha hb oO) O ?_;refine CP ?_;refine BH (zV (k:=(Go.Sort.order2 (BQ cf) d a b k).2.2) hE hc hd h1.2.1 he oO) O ?_;refine CP ?_;refine BH (zV (k:=(Go.Sort.order2 (BQ cf) d (Go.Sort.order2 (BQ cf) d a b k).2.1 e (Go.Sort.order2 (BQ cf) d a b k).2.2).2.2) hE hc hd h1.1 h2.1 oO) O ?_;refine CU ?_;exact uZ O (.tmp O .nil) ⟨O,O⟩
def lI (hE:BP E)(hc:GI E q ok cf){d}(hd:Cb ok n d){a sw k}(ha:a+1<n)(h1:1<=a)(hn:n<1099511627776)(hk:k<900):
  Ct E 188 [.slice (BM g) n c,BK a,uPt sw] [cells sw [BK k] 3,sl (BM g) c 41 1 n (Ce d),q]
   (fun v Q=>v= BK ((Go.Sort.medianAdjacent (BQ cf) d a k).1)/\Q=[cells sw [BK ((Go.Sort.medianAdjacent (BQ cf) d a k).2)] 3,sl (BM g) c 41 1 n (Ce d),q]):=by
 unfold Go.Sort.medianAdjacent;refine bO (hE.fn Tryz.func188) O O O (fun R=>?_);simp only[dS,uV,uW];refine CU ?_;refine BU 9 (BL ((a-1:Nat):Int)) O (bW oO) ?_;refine BU 12 (BL ((a+1:Nat):Int)) O (bW oO) ?_;refine BH (zS (a:=a-1) (b:=a) (e:=a+1) (k:=k) hE hc hd oO oO ha hk) O ?_;refine Bz ?_;exact uZ O (.tmp O .nil) ⟨O,O⟩
def Sw:Go.Sort.Hint->Nat
 | .unknown=>0
 | .increasing=>1
 | .decreasing=>2
def qCu (hE:BP E)(hc:GI E q ok cf){d}(hd:Cb ok n d){a b}(hB:a+12<b)(hb:b<=n)(hn:n<1099511627776):
  Ct E 167 [.slice (BM g) n c,BK a,BK b] [sl (BM g) c 41 1 n (Ce d),q]
   (fun v Q=>v= .tuple #[BK ((Go.Sort.choosePivot (BQ cf) d a b).1),BK (Sw (Go.Sort.choosePivot (BQ cf) d a b).2)]/\Q=[sl (BM g) c 41 1 n (Ce d),q]):=by
 refine bO (hE.fn Tryz.func167) O O O (fun R=>?_);simp only[dS,uV,uW];refine CU ?_;obtain⟨l,hl⟩:∃l,l=b-a:=⟨_,rfl⟩;obtain⟨i,hi⟩:∃i,i=a+l/4*1:=⟨_,rfl⟩;obtain⟨j,hj⟩:∃j,j=a+l/4*2:=⟨_,rfl⟩;obtain⟨m,hm⟩:∃m,m=a+l/4*3:=⟨_,rfl⟩;refine CW 8 (BL ((l:Nat):Int)) O (bW oO) ?_;refine CL ?_;refine uU (dA (hE.t O) (fun b9=>?_));refine Kh ?_;refine CW 10 (BL ((i:Nat):Int)) O (bW oO) ?_;refine CW 11 (BL ((j:Nat):Int)) O (bW oO) ?_;refine CW 12 (BL ((m:Nat):Int)) O (bW oO) ?_;refine Bi ?_;refine bE O (fun h8=>?_) (fun h8=>?_)
 ·have hh:∀r:Nat×Nat,(if l≥50 then Go.Sort.median (BQ cf) d (Go.Sort.medianAdjacent (BQ cf) d i 0).1 (Go.Sort.medianAdjacent (BQ cf) d j (Go.Sort.medianAdjacent (BQ cf) d i 0).2).1 (Go.Sort.medianAdjacent (BQ cf) d m (Go.Sort.medianAdjacent (BQ cf) d j (Go.Sort.medianAdjacent (BQ cf) d i 0).2).2).1 (Go.Sort.medianAdjacent (BQ cf) d m (Go.Sort.medianAdjacent (BQ cf) d j (Go.Sort.medianAdjacent (BQ cf) d i 0).2).2).2 else Go.Sort.median (BQ cf) d i j m 0)=r->Go.Sort.choosePivot (BQ cf) d a b=(r.1,if r.2=0 then .increasing else if r.2=12 then .decreasing else .unknown):=by
   intro r hr;subst hr;unfold Go.Sort.choosePivot;simp only[<-hl,<-hi,<-hj,<-hm,if_pos (show l≥8 by omega)]
  refine Bi ?_;refine bE O (fun hA=>?_) (fun hA=>?_)
  ·rw[if_pos (show l≥50 by omega)]at hh;refine Bz ?_;refine BH (lI (a:=i) (k:=0) hE hc hd oO oO hn oO) O ?_;refine Bi ?_;have c1:=(WS (lt:=BQ cf) (d:=d) (a:=i-1) (b:=i) (e:=i+1) (k:=0) (m:=n) oO oO oO);have c1':(Go.Sort.medianAdjacent (BQ cf) d i 0).1<n/\(Go.Sort.medianAdjacent (BQ cf) d i 0).2<=0+3:=c1;refine BH (lI (a:=j) (k:=(Go.Sort.medianAdjacent (BQ cf) d i 0).2) hE hc hd oO oO hn oO) O ?_;refine CB ?_;have c2:=(WS (lt:=BQ cf) (d:=d) (a:=j-1) (b:=j) (e:=j+1) (k:=(Go.Sort.medianAdjacent (BQ cf) d i 0).2) (m:=n) oO oO oO);have c2':(Go.Sort.medianAdjacent (BQ cf) d j (Go.Sort.medianAdjacent (BQ cf) d i 0).2).1<n/\(Go.Sort.medianAdjacent (BQ cf) d j (Go.Sort.medianAdjacent (BQ cf) d i 0).2).2<=(Go.Sort.medianAdjacent (BQ cf) d i 0).2+3:=c2;refine BH (lI (a:=m) (k:=(Go.Sort.medianAdjacent (BQ cf) d j (Go.Sort.medianAdjacent (BQ cf) d i 0).2).2) hE hc hd oO oO hn oO) O ?_;refine Br ?_;have c3:=(WS (lt:=BQ cf) (d:=d) (a:=m-1) (b:=m) (e:=m+1) (k:=(Go.Sort.medianAdjacent (BQ cf) d j (Go.Sort.medianAdjacent (BQ cf) d i 0).2).2) (m:=n) oO oO oO)
   have c3':(Go.Sort.medianAdjacent (BQ cf) d m (Go.Sort.medianAdjacent (BQ cf) d j (Go.Sort.medianAdjacent (BQ cf) d i 0).2).2).1<n/\(Go.Sort.medianAdjacent (BQ cf) d m (Go.Sort.medianAdjacent (BQ cf) d j (Go.Sort.medianAdjacent (BQ cf) d i 0).2).2).2<=(Go.Sort.medianAdjacent (BQ cf) d j (Go.Sort.medianAdjacent (BQ cf) d i 0).2).2+3:=c3;clear c1 c2 c3;generalize Go.Sort.medianAdjacent (BQ cf) d m (Go.Sort.medianAdjacent (BQ cf) d j (Go.Sort.medianAdjacent (BQ cf) d i 0).2).2=r3 at*;generalize Go.Sort.medianAdjacent (BQ cf) d j (Go.Sort.medianAdjacent (BQ cf) d i 0).2=r2 at*;generalize Go.Sort.medianAdjacent (BQ cf) d i 0=r1 at*;refine BH (zS (a:=r1.1) (b:=r2.1) (e:=r3.1) (k:=r3.2) hE hc hd c1'.1 c2'.1 c3'.1 oO) O ?_;generalize Go.Sort.median (BQ cf) d r1.1 r2.1 r3.1 r3.2=r at*;rw[hh r rfl];refine CK ?_;refine bE O (fun g0=>?_) (fun g0=>?_)
   ·rw[if_pos oO];refine Bu ?_;exact uZ O (.tmp O (.tmp O .nil)) ⟨O,O⟩
   rw[if_neg oO];refine CB ?_;refine bE O (fun g1=>?_) (fun g1=>?_)
   ·rw[if_pos oO];refine Bu ?_;exact uZ O (.tmp O (.tmp O .nil)) ⟨O,O⟩
   rw[if_neg oO];refine Bu ?_;exact uZ O (.tmp O (.tmp O .nil)) ⟨O,O⟩
  rw[if_neg (show ¬l≥50 by omega)]at hh;refine Bi ?_;refine BH (zS (a:=i) (b:=j) (e:=m) (k:=0) hE hc hd oO oO oO oO) O ?_;generalize Go.Sort.median (BQ cf) d i j m 0=r at*;rw[hh r rfl];refine CK ?_;refine bE O (fun g0=>?_) (fun g0=>?_)
  ·rw[if_pos oO];refine Bu ?_;exact uZ O (.tmp O (.tmp O .nil)) ⟨O,O⟩
  rw[if_neg oO];refine CB ?_;refine bE O (fun g1=>?_) (fun g1=>?_)
  ·rw[if_pos oO];refine Bu ?_;exact uZ O (.tmp O (.tmp O .nil)) ⟨O,O⟩
  rw[if_neg oO];refine Bu ?_;exact uZ O (.tmp O (.tmp O .nil)) ⟨O,O⟩
 exfalso;omega
end
section
variable {E:Bp}
variable {q:HP}{ok:Nat->Prop}{cf:Nat->Nat->Int}{g c n:Nat}
open Go.Sort in
def qBm (hE:BP E){d}(hd:Cb ok n d){a b}(hB:a<b)(hb:b<=n)(hn:n<1099511627776):
  Ct E 168 [.slice (BM g) n c,BK a,BK b] [sl (BM g) c 41 1 n (Ce d),q]
   (fun v Q=>v= .tuple #[]/\Q=[sl (BM g) c 41 1 n (Ce (reverseRange d a b)),q]/\Cb ok n (reverseRange d a b)):=by
 refine bO (hE.fn Tryz.func168) O O O (fun R=>?_);simp only[dS,uV,uW];refine CU ?_;refine dX (fun x:Nat×Nat×Array Nat=>[(0,.slice (BM g) n c),(6,BK (x.1)),(7,BK (x.2.1))]) (fun x=>[sl (BM g) c 41 1 n (Ce x.2.2),q,R]) (fun x=>x.2.1-x.1) (fun x=>reverseLoop x.1 x.2.1 x.2.2=reverseRange d a b/\Cb ok n x.2.2/\x.2.1<n/\x.1<=n) (a,b-1,d) ?_ ?_ ?_ ?_
 ·exact⟨O,hd,by show b-1<n;omega,by show a<=n;omega⟩
 ·exact⟨O,O,au some (bW BD),trivial⟩
 ·exact uI
 rintro⟨i,j,e⟩⟨he,hA,hj,hi⟩;simp only at he hA hj hi ⊢;have hs:=hA.1;refine Br ?_;refine bE O (fun h1=>?_) (fun h1=>?_)
 ·have f0:=eH e (i:=i) oO ((i:Int)).toNat oO;have f1:=eH e (i:=j) oO ((j:Int)).toNat oO;refine Bz ?_;refine eZ 13 ([sl (BM g) c 41 1 n (Ce e),q]) [(15,[])] ?_ ?_
  ·exact uI
  refine uP 0 O (aB O) (uP 1 O (aB O) (uP 2 O (aB O) (uP 3 O (aB O) (uP 4 O (aB O) (uP 5 O (aB O) (uP 6 O (CE O O) ?_))))));refine uQ 7 O (uY) ?_;refine uP 8 O (aB O) (uP 9 O (aB O) (uP 10 O (CE O O) ?_));refine uQ 11 O (uY) ?_;refine uP 12 O (CE O O) ?_;apply iB O oK O;refine uJ ?_;refine uE ?_;refine uP 14 O (CE O O) ?_;apply gZ O oK oK O;refine uJ ?_;refine CU ?_;simp only[bP];rw[jV e (i:=i) (j:=j) oO oO]
  case ho=>omega
  case ho'=>omega
  refine bS (ι:=Nat×Nat×Array Nat) (j:=(i+1,j-1,swp e i j)) ⟨?_,hA.swp oO hj,by show j-1<n;omega,by show i+1<=n;omega⟩ (by show j-1-(i+1)<j-i;omega) ⟨rfl,rfl,?_,trivial⟩ uI
  ·rw[<-he];conv=>rhs;rw[reverseLoop,if_pos (show i<j by omega)]
  exact au some (bW BD)
 rw[reverseLoop,if_neg (show ¬i<j by omega)]at he;subst he;refine Bz ?_;exact Gf O .nil ⟨O,O,hA⟩
open Go.Sort in
def zP (hE:BP E)(hc:GI E q ok cf){d}(hd:Cb ok n d){a b}(hG:a<=b)(hb:b<=n)(hn:n<1099511627776):
  Ct E 164 [.slice (BM g) n c,BK a,BK b] [sl (BM g) c 41 1 n (Ce d),q]
   (fun v Q=>v= .tuple #[]/\Q=[sl (BM g) c 41 1 n (Ce (insertionSort (BQ cf) d a b)),q]/\Cb ok n (insertionSort (BQ cf) d a b)):=by
 refine bO (hE.fn Tryz.func164) O O O (fun R=>?_);simp only[dS,uV,uW];refine Br ?_;refine dX (fun x:Nat×Array Nat=>[(0,.slice (BM g) n c),(1,BK a),(2,BK b),(6,BK (x.1))]) (fun x=>[sl (BM g) c 41 1 n (Ce x.2),q,R]) (fun x=>b-x.1) (fun x=>insOuter (BQ cf) a b x.1 x.2=insertionSort (BQ cf) d a b/\Cb ok n x.2/\a+1<=x.1/\x.1<=n+1) (a+1,d) ?_ ?_ ?_ ?_
 ·exact⟨O,hd,ai _,by show a+1<=n+1;omega⟩
 ·exact⟨O,O,O,au some (bW BD),trivial⟩
 ·exact uI
 rintro⟨i,e⟩⟨he,hB,hi,hC⟩;simp only at he hB hi hC ⊢;refine Br ?_;refine bE O (fun h1=>?_) (fun h1=>?_)
 ·rw[insOuter,if_pos (show i<b by omega)]at he;refine Bo ?_;refine dX (fun x:Nat×Array Nat=>[(0,.slice (BM g) n c),(1,BK a),(2,BK b),(6,BK i),(7,BK (x.1))]) (fun x=>[sl (BM g) c 41 1 n (Ce x.2),q,R]) (fun x=>x.1) (fun x=>insInner (BQ cf) a x.1 x.2=insInner (BQ cf) a i e/\Cb ok n x.2/\x.1<=i) (i,e) ?_ ?_ ?_ ?_
  ·exact⟨O,hB,ai _⟩
  ·exact BC
  ·exact uI
  rintro⟨j,u⟩⟨hu,hA,hj⟩;simp only at hu hA hj ⊢;have hs:=hA.1;refine Bi ?_;refine dV 19 O (fun h2=>?_) (fun h2=>?_)
  ·obtain⟨j,rfl⟩:∃k,j=k+1:=⟨j-1,oO⟩;have f0:=eH u (i:=j+1) oO (((j+1:Nat):Int)).toNat oO;have f1:=eH u (i:=j) oO (((j+1:Nat):Int)-1).toNat oO;have hD:=hc _ _ (hA.2 (j+1) oO) (hA.2 j oO);refine Ci ?_;refine BH (hD) O ?_;refine CG ?_;refine bE O (fun h3=>?_) (fun h3=>?_)
   ·refine Bz ?_;refine eZ 15 ([sl (BM g) c 41 1 n (Ce u),q]) [(17,[])] ?_ ?_
    ·exact uI
    refine uP 0 O (aB O) (uP 1 O (aB O) (uP 2 O (aB O) (uP 3 O (aB O) (uP 4 O (Hd O O) (uP 5 O (aB O) (uP 6 O (aB O) (uP 7 O (Hd O O) (uP 8 O (CE O O) ?_))))))));refine uQ 9 O (uY) ?_;refine uP 10 O (aB O) (uP 11 O (aB O) (uP 12 O (CE O O) ?_));refine uQ 13 O (uY) ?_;refine uP 14 O (CE O O) ?_;apply iB O oK O;refine uJ ?_;refine uE ?_;refine uP 16 O (CE O O) ?_;apply gZ O oK oK O;refine uJ ?_;refine Bi ?_;simp only[bP];rw[jV u (i:=(j+1)) (j:=j) oO oO]
    case ho=>omega
    case ho'=>omega
    refine bS (ι:=Nat×Array Nat) (j:=(j,swp u (j+1) j)) ⟨?_,hA.swp oO oO,by show j<=i;omega⟩ (by show j<j+1;omega) ⟨rfl,rfl,rfl,rfl,au some (bW BD),trivial⟩ uI;rw[<-hu];conv=>rhs;rw[insInner,if_pos (by simp[BQ,h3];omega)]
   rw[insInner,if_neg (by simp[BQ,h3])]at hu;rw[<-hu]at he;refine Bo ?_;refine bS (ι:=Nat×Array Nat) (j:=(i+1,u)) ⟨he,hA,by show a+1<=i+1;omega,by show i+1<=n+1;omega⟩ (by show b-(i+1)<b-i;omega) ⟨rfl,rfl,rfl,au some (bW BD),trivial⟩ uI
  have hF:u=insInner (BQ cf) a i e:=by
   rw[<-hu];cases j with
   |zero=>rfl
   |succ j=>rw[insInner,if_neg (by simp;omega)]
  rw[<-hF]at he;refine EK ?_;refine bS (ι:=Nat×Array Nat) (j:=(i+1,u)) ⟨he,hA,by show a+1<=i+1;omega,by show i+1<=n+1;omega⟩ (by show b-(i+1)<b-i;omega) ⟨rfl,rfl,rfl,au some (bW BD),trivial⟩ uI
 rw[insOuter,if_neg (show ¬i<b by omega)]at he;subst he;refine Bz ?_;exact Gf O .nil ⟨O,O,hB⟩
open Go.Sort in
def uG {lt:Nat->Nat->Bool}{hi first root ch d}(h:¬2*root+1≥hi)(hc:ch<hi)(e:if 2*root+1+1<hi&&lt d[first +(2*root+1)]! d[first +(2*root+1)+1]! then ch=2*root+2 else ch=2*root+1):
  siftDown lt hi first root d=if !lt d[first +root]! d[first +ch]! then d else siftDown lt hi first ch (swp d (first +root) (first +ch)):=by
 rw[siftDown,dif_neg h];split at e
 ·rename_i h1
  subst e;rw[if_pos h1];split
  ·rfl
  first |rw[dif_pos hc]|rfl
 rename_i h1
 subst e;rw[if_neg h1]
open Go.Sort in
def ZO (hE:BP E)(hc:GI E q ok cf){d}(hd:Cb ok n d){lo hi first}(hC:lo<=n)(hb:first +hi<=n)(hn:n<1099511627776):
  Ct E 187 [.slice (BM g) n c,BK lo,BK hi,BK first] [sl (BM g) c 41 1 n (Ce d),q]
   (fun v Q=>v= .tuple #[]/\Q=[sl (BM g) c 41 1 n (Ce (siftDown (BQ cf) hi first lo d)),q]/\Cb ok n (siftDown (BQ cf) hi first lo d)):=by
 refine bO (hE.fn Tryz.func187) O O O (fun R=>?_);simp only[dS,uV,uW];refine Bi ?_;refine dX (fun x:Nat×Array Nat=>[(0,.slice (BM g) n c),(2,BK hi),(3,BK first),(8,BK (x.1))]) (fun x=>[sl (BM g) c 41 1 n (Ce x.2),q,R]) (fun x=>hi-x.1) (fun x=>siftDown (BQ cf) hi first x.1 x.2=siftDown (BQ cf) hi first lo d/\Cb ok n x.2/\x.1<=n) (lo,d) ?_ ?_ ?_ ?_
 ·exact⟨O,hd,hC⟩
 ·exact BC
 ·exact uI
 rintro⟨ro,e⟩⟨he,hA,hD⟩;simp only at he hA hD ⊢;have hs:=hA.1;refine CY ?_;refine bE O (fun h1=>?_) (fun h1=>?_)
 ·rw[siftDown,dif_pos (show 2*ro+1≥hi by omega)]at he;subst he;refine Bw ?_;exact Gf O .nil ⟨O,O,hA⟩
 refine Bc ?_;refine dV 21 O (fun h2=>?_) (fun h2=>?_)
 ·have f0:=eH e (i:=first +(2*ro+1)) oO ((first:Int)+(2*(ro:Int)+1)).toNat oO;have f1:=eH e (i:=first +(2*ro+1)+1) oO ((first:Int)+(2*(ro:Int)+1)+1).toNat oO;have hF:=hc _ _ (hA.2 (first +(2*ro+1)) oO) (hA.2 (first +(2*ro+1)+1) oO);refine Gp ?_;refine BH (hF) O ?_;refine CG ?_;refine bE O (fun h3=>?_) (fun h3=>?_)
  ·have hk:=uG (lt:=BQ cf) (d:=e) (first:=first) (show ¬2*ro+1≥hi by omega) (show 2*ro+2<hi by omega) (by rw[if_pos (by simp[BQ,h3];omega)]);refine CB ?_;refine CW 9 (BL ((2*ro+2:Nat):Int)) O (bW oO) ?_;rw[hk]at he;have f2:=eH e (i:=first +ro) oO ((first:Int)+(ro:Int)).toNat oO;have f3:=eH e (i:=first +(2*ro+2)) oO ((first:Int)+((2*ro+2:Nat):Int)).toNat oO;have hB:=hc _ _ (hA.2 (first +ro) oO) (hA.2 (first +(2*ro+2)) oO);refine CK ?_;refine BH (hB) O ?_;refine CG ?_;refine gJ O (fun h5=>?_) (fun h5=>?_)
   ·rw[if_pos (by simp[BQ,h5])]at he;subst he;refine Bw ?_;exact uZ O .nil ⟨O,O,hA⟩
   rw[if_neg (by simp[BQ,h5])]at he;refine CG ?_;refine eZ 21 ([sl (BM g) c 41 1 n (Ce e),q]) [(23,[])] ?_ ?_
   ·exact uI
   refine uP 0 O (aB O) (uP 1 O (aB O) (uP 2 O (aB O) (uP 3 O (FD O O) (uP 4 O (aB O) (uP 5 O (aB O) (uP 6 O (aB O) (uP 7 O (FD O O) (uP 8 O (aB O) (uP 9 O (aB O) (uP 10 O (aB O) (uP 11 O (FD O O) (uP 12 O (CE O O) ?_))))))))))));refine uQ 13 O (uY) ?_;refine uP 14 O (aB O) (uP 15 O (aB O) (uP 16 O (aB O) (uP 17 O (FD O O) (uP 18 O (CE O O) ?_))));refine uQ 19 O (uY) ?_;refine uP 20 O (CE O O) ?_;apply iB O oK O;refine uJ ?_;refine uE ?_;refine uP 22 O (CE O O) ?_;apply gZ O oK oK O;refine uJ ?_;refine CB ?_;simp only[bP];rw[jV e (i:=(first +ro)) (j:=(first +(2*ro+2))) oO oO]
   case ho=>omega
   case ho'=>omega
   refine bS (ι:=Nat×Array Nat) (j:=(2*ro+2,swp e (first +ro) (first +(2*ro+2)))) ⟨he,hA.swp oO oO,by show 2*ro+2<=n;omega⟩ (by show hi-(2*ro+2)<hi-ro;omega) BC uI
  have hk:=uG (lt:=BQ cf) (d:=e) (first:=first) (show ¬2*ro+1≥hi by omega) (show 2*ro+1<hi by omega) (by rw[if_neg (by simp[BQ,h3])]);refine CL ?_;refine CW 9 (BL ((2*ro+1:Nat):Int)) O (bW oO) ?_;rw[hk]at he;have f2:=eH e (i:=first +ro) oO ((first:Int)+(ro:Int)).toNat oO;have f3:=eH e (i:=first +(2*ro+1)) oO ((first:Int)+((2*ro+1:Nat):Int)).toNat oO;have hB:=hc _ _ (hA.2 (first +ro) oO) (hA.2 (first +(2*ro+1)) oO);refine CK ?_;refine BH (hB) O ?_;refine CG ?_;refine gJ O (fun h5=>?_) (fun h5=>?_)
  ·rw[if_pos (by simp[BQ,h5])]at he;subst he;refine Bw ?_;exact uZ O .nil ⟨O,O,hA⟩
  rw[if_neg (by simp[BQ,h5])]at he;refine CG ?_;refine eZ 21 ([sl (BM g) c 41 1 n (Ce e),q]) [(23,[])] ?_ ?_
  ·exact uI
  refine uP 0 O (aB O) (uP 1 O (aB O) (uP 2 O (aB O) (uP 3 O (FD O O) (uP 4 O (aB O) (uP 5 O (aB O) (uP 6 O (aB O) (uP 7 O (FD O O) (uP 8 O (aB O) (uP 9 O (aB O) (uP 10 O (aB O) (uP 11 O (FD O O) (uP 12 O (CE O O) ?_))))))))))));refine uQ 13 O (uY) ?_;refine uP 14 O (aB O) (uP 15 O (aB O) (uP 16 O (aB O) (uP 17 O (FD O O) (uP 18 O (CE O O) ?_))));refine uQ 19 O (uY) ?_;refine uP 20 O (CE O O) ?_;apply iB O oK O;refine uJ ?_;refine uE ?_;refine uP 22 O (CE O O) ?_;apply gZ O oK oK O;refine uJ ?_;refine CB ?_;simp only[bP];rw[jV e (i:=(first +ro)) (j:=(first +(2*ro+1))) oO oO]
  case ho=>omega
  case ho'=>omega
  refine bS (ι:=Nat×Array Nat) (j:=(2*ro+1,swp e (first +ro) (first +(2*ro+1)))) ⟨he,hA.swp oO oO,by show 2*ro+1<=n;omega⟩ (by show hi-(2*ro+1)<hi-ro;omega) BC uI
 have hk:=uG (lt:=BQ cf) (d:=e) (first:=first) (show ¬2*ro+1≥hi by omega) (show 2*ro+1<hi by omega) (by rw[if_neg (by simp;omega)]);refine FH ?_;refine CW 9 (BL ((2*ro+1:Nat):Int)) O (bW oO) ?_;rw[hk]at he;have f2:=eH e (i:=first +ro) oO ((first:Int)+(ro:Int)).toNat oO;have f3:=eH e (i:=first +(2*ro+1)) oO ((first:Int)+((2*ro+1:Nat):Int)).toNat oO;have hB:=hc _ _ (hA.2 (first +ro) oO) (hA.2 (first +(2*ro+1)) oO);refine CK ?_;refine BH (hB) O ?_;refine CG ?_;refine gJ O (fun h5=>?_) (fun h5=>?_)
 ·rw[if_pos (by simp[BQ,h5])]at he;subst he;refine Bw ?_;exact uZ O .nil ⟨O,O,hA⟩
 rw[if_neg (by simp[BQ,h5])]at he;refine CG ?_;refine eZ 21 ([sl (BM g) c 41 1 n (Ce e),q]) [(23,[])] ?_ ?_
 ·exact uI
 refine uP 0 O (aB O) (uP 1 O (aB O) (uP 2 O (aB O) (uP 3 O (FD O O) (uP 4 O (aB O) (uP 5 O (aB O) (uP 6 O (aB O) (uP 7 O (FD O O) (uP 8 O (aB O) (uP 9 O (aB O) (uP 10 O (aB O) (uP 11 O (FD O O) (uP 12 O (CE O O) ?_))))))))))));refine uQ 13 O (uY) ?_;refine uP 14 O (aB O) (uP 15 O (aB O) (uP 16 O (aB O) (uP 17 O (FD O O) (uP 18 O (CE O O) ?_))));refine uQ 19 O (uY) ?_;refine uP 20 O (CE O O) ?_;apply iB O oK O;refine uJ ?_;refine uE ?_;refine uP 22 O (CE O O) ?_;apply gZ O oK oK O;refine uJ ?_;refine CB ?_;simp only[bP];rw[jV e (i:=(first +ro)) (j:=(first +(2*ro+1))) oO oO]
 case ho=>omega
 case ho'=>omega
 refine bS (ι:=Nat×Array Nat) (j:=(2*ro+1,swp e (first +ro) (first +(2*ro+1)))) ⟨he,hA.swp oO oO,by show 2*ro+1<=n;omega⟩ (by show hi-(2*ro+1)<hi-ro;omega) BC uI
open Go.Sort in
def qLm (hE:BP E)(hc:GI E q ok cf){d}(hd:Cb ok n d){a b}(hD:a<b)(hb:b<=n)(hn:n<1099511627776):
  Ct E 165 [.slice (BM g) n c,BK a,BK b] [sl (BM g) c 41 1 n (Ce d),q]
   (fun v Q=>v= .tuple #[]/\Q=[sl (BM g) c 41 1 n (Ce (heapSort (BQ cf) d a b)),q]/\Cb ok n (heapSort (BQ cf) d a b)):=by
 obtain⟨l,hl⟩:∃l,l=b-a:=⟨_,rfl⟩;have e0:heapSort (BQ cf) d a b=heapPop (BQ cf) a l (heapBuild (BQ cf) l a ((l-1)/2+1) d):=by unfold heapSort;rw[<-hl]
 rw[e0];refine bO (hE.fn Tryz.func165) O O O (fun R=>?_);simp only[dS,uV,uW];refine Ci ?_;refine CW 8 (BL ((l:Nat):Int)) O (bW oO) ?_;refine Bc ?_;refine dX (fun x:Nat×Array Nat=>[(0,.slice (BM g) n c),(6,BK a),(7,BL 0),(8,BK l),(9,BL ((x.1:Int)-1))]) (fun x=>[sl (BM g) c 41 1 n (Ce x.2),q,R]) (fun x=>x.1) (fun x=>heapBuild (BQ cf) l a x.1 x.2=heapBuild (BQ cf) l a ((l-1)/2+1) d/\Cb ok n x.2/\x.1<=l) ((l-1)/2+1,d) ?_ ?_ ?_ ?_
 ·exact⟨O,hd,by show(l-1)/2+1<=l;omega⟩
 ·exact⟨O,O,O,O,au some (bW BD),trivial⟩
 ·exact uI
 rintro⟨k,e⟩⟨he,hB,hk⟩;simp only at he hB hk ⊢;refine Bi ?_;refine bE O (fun h1=>?_) (fun h1=>?_)
 ·obtain⟨k,rfl⟩:∃j,k=j+1:=⟨k-1,oO⟩;refine CL ?_;refine CW 9 (BL ((k:Nat):Int)) O (bW oO) ?_;refine Bi ?_;refine uX (ZO hE hc hB oO oO hn) O ?_;rintro _ _⟨rfl,rfl,hC⟩;simp only[uV,uW];refine Br ?_;refine bS (ι:=Nat×Array Nat) (j:=(k,siftDown (BQ cf) l a k e)) ⟨he,hC,by show k<=l;omega⟩ (by show k<k+1;omega) BC uI
 obtain rfl:k=0:=by omega
 rw[heapBuild]at he;rw[<-he];clear he hd e0;refine CP ?_;refine dX (fun x:Nat×Array Nat=>[(0,.slice (BM g) n c),(6,BK a),(7,BL 0),(10,BL ((x.1:Int)-1))]) (fun x=>[sl (BM g) c 41 1 n (Ce x.2),q,R]) (fun x=>x.1) (fun x=>heapPop (BQ cf) a x.1 x.2=heapPop (BQ cf) a l e/\Cb ok n x.2/\x.1<=l) (l,e) ?_ ?_ ?_ ?_
 ·exact⟨O,hB,ai _⟩
 ·exact BC
 ·exact uI
 rintro⟨k,u⟩⟨hu,hA,hk⟩;simp only at hu hA hk ⊢;have hs:=hA.1;refine Bi ?_;refine bE O (fun h2=>?_) (fun h2=>?_)
 ·obtain⟨k,rfl⟩:∃j,k=j+1:=⟨k-1,oO⟩;have f0:=eH u (i:=a+k) oO ((a:Int)+(k:Int)).toNat oO;have f1:=eH u (i:=a) oO (a:Int).toNat oO;refine CL ?_;refine CW 10 (BL ((k:Nat):Int)) O (bW oO) ?_;refine CG ?_;refine eZ 17 ([sl (BM g) c 41 1 n (Ce u),q]) [(19,[])] ?_ ?_
  ·exact uI
  refine uP 0 O (aB O) (uP 1 O (aB O) (uP 2 O (aB O) (uP 3 O (aB O) (uP 4 O (aB O) (uP 5 O (FD O O) (uP 6 O (aB O) (uP 7 O (aB O) (uP 8 O (aB O) (uP 9 O (FD O O) (uP 10 O (CE O O) ?_))))))))));refine uQ 11 O (uY) ?_;refine uP 12 O (aB O) (uP 13 O (aB O) (uP 14 O (CE O O) ?_));refine uQ 15 O (uY) ?_;refine uP 16 O (CE O O) ?_;apply iB O oK O;refine uJ ?_;refine uE ?_;refine uP 18 O (CE O O) ?_;apply gZ O oK oK O;refine uJ ?_;refine Bv ?_;simp only[bP];rw[jV u (i:=a) (j:=(a+k)) oO oO]
  case ho=>omega
  case ho'=>omega
  refine Bw ?_;refine uX (ZO (lo:=0) hE hc (hA.swp (show a<n by omega) (show a+k<n by omega)) oO oO hn) rfl ?_;rintro _ _⟨rfl,rfl,hC⟩;simp only[uV,uW];refine Br ?_;refine bS (ι:=Nat×Array Nat) (j:=(k,siftDown (BQ cf) k a 0 (swp u a (a+k)))) ⟨hu,hC,by show k<=l;omega⟩ (by show k<k+1;omega) BC uI
 obtain rfl:k=0:=by omega
 rw[heapPop]at hu;subst hu;refine Bz ?_;exact Gf O .nil ⟨O,O,hA⟩
end
section
variable {E:Bp}
variable {q:HP}{ok:Nat->Prop}{cf:Nat->Nat->Int}{g c n:Nat}
open Go.Sort in
def xZ (hE:BP E)(hc:GI E q ok cf){d}(hd:Cb ok n d){a b pv}(hQ:a<=pv)(hR:pv<b)(hb:b<=n)(hn:n<1099511627776):
  Ct E 171 [.slice (BM g) n c,BK a,BK b,BK pv] [sl (BM g) c 41 1 n (Ce d),q]
   (fun v Q=>v= BK ((partitionEqual (BQ cf) d a b pv).1)/\Q=[sl (BM g) c 41 1 n (Ce (partitionEqual (BQ cf) d a b pv).2),q]/\Cb ok n (partitionEqual (BQ cf) d a b pv).2):=by
 have hs:=hd.1;have f2:=eH d (i:=pv) oO ((pv:Int)).toNat oO;have f3:=eH d (i:=a) oO ((a:Int)).toNat oO;obtain⟨r,hr⟩:∃r,r=partitionEqual (BQ cf) d a b pv:=⟨_,rfl⟩;have hC:=hr;unfold partitionEqual at hC;rw[<-hr];refine bO (hE.fn Tryz.func171) O O O (fun R=>?_);simp only[dS,uV,uW];refine CB ?_;refine eZ 13 ([sl (BM g) c 41 1 n (Ce d),q]) [(15,[])] ?_ ?_
 ·exact uI
 refine uP 0 O (aB O) (uP 1 O (aB O) (uP 2 O (aB O) (uP 3 O (aB O) (uP 4 O (aB O) (uP 5 O (aB O) (uP 6 O (CE O O) ?_))))));refine uQ 7 O (uY) ?_;refine uP 8 O (aB O) (uP 9 O (aB O) (uP 10 O (CE O O) ?_));refine uQ 11 O (uY) ?_;refine uP 12 O (CE O O) ?_;apply iB O oK O;refine uJ ?_;refine uE ?_;refine uP 14 O (CE O O) ?_;apply gZ O oK oK O;refine uJ ?_;refine Bo ?_;simp only[bP];rw[jV d (i:=a) (j:=pv) oO oO]
 case ho=>omega
 case ho'=>omega
 refine CW 9 (BL ((a+1:Nat):Int)) O (bW oO) ?_;refine CW 10 (BL ((b-1:Nat):Int)) O (bW oO) ?_;have hG:=hd.swp (show a<n by omega) (show pv<n by omega);generalize swp d a pv=d1 at*;refine CL ?_;refine dX (fun x:Nat×Nat×Array Nat=>[(0,.slice (BM g) n c),(1,BK a),(9,BK (x.1)),(10,BK (x.2.1))]) (fun x=>[sl (BM g) c 41 1 n (Ce x.2.2),q,R]) (fun x=>x.2.1+1-x.1) (fun x=>partEqLoop (BQ cf) a x.1 x.2.1 x.2.2=r/\Cb ok n x.2.2/\a<x.1/\a<=x.2.1/\x.1<=x.2.1+2/\x.2.1<b) (a+1,b-1,d1) ?_ ?_ ?_ ?_
 ·exact⟨hC.symm,hG,by show a<a+1;omega,by show a<=b-1;omega,by show a+1<=b-1+2;omega,by show b-1<b;omega⟩
 ·exact BC
 ·exact uI
 rintro⟨i,j,e⟩⟨he,hA,hi,hH,hI,hj⟩;simp only at he hA hi hH hI hj ⊢;have hS:=hA.1;rw[partEqLoop_eq]at he;obtain⟨i2,hD⟩:∃i2,scanUp (fun x=>!BQ cf e[a]! x) e j i=i2:=⟨_,rfl⟩;rw[hD]at he;obtain⟨j2,hF⟩:∃j2,scanDown (fun x=>BQ cf e[a]! x) e i2 j=j2:=⟨_,rfl⟩;rw[hF]at he;refine Bv ?_;refine jT (fun _:Unit=>[(0,.slice (BM g) n c),(1,BK a),(9,BL ((i2:Nat):Int)),(10,BL ((j:Nat):Int))]) (fun _=>[sl (BM g) c 41 1 n (Ce (e)),q,R]) (fun _=>i<=i2/\i2<=j+2) ?_ ?_
 ·refine Bv ?_;refine dX (fun x:Nat=>[(0,.slice (BM g) n c),(1,BK a),(9,BL ((x:Nat):Int)),(10,BL ((j:Nat):Int))]) (fun _=>[sl (BM g) c 41 1 n (Ce (e)),q,R]) (fun x=>j+1-x) (fun x=>scanUp (fun x=>!BQ cf (e)[a]! x) (e) (j) x=i2/\i<=x/\x<=j+2) (i) ?_ ?_ ?_ ?_
  ·exact⟨hD,oO,oO⟩
  ·exact BC
  ·exact uI
  rintro x⟨hx,hJ,hK⟩;refine Bi ?_;refine dV 32 O (fun su=>?_) (fun su=>?_)
  ·have f0:=eH (e) (i:=x) oO ((x:Nat):Int).toNat oO;have f1:=eH (e) (i:=a) oO ((a:Nat):Int).toNat oO;have hB:=hc _ _ (hA.2 (a) oO) (hA.2 (x) oO);refine CY ?_;refine BH (hB) O ?_;refine Bw ?_;refine gJ O (fun gu=>?_) (fun gu=>?_)
   ·refine Bu ?_;refine bS (x+1) ⟨?_,oO,oO⟩ oO ⟨O,O,au some (bW oO),O,trivial⟩ uI;rw[<-hx];conv=>rhs;rw[scanUp,if_pos (by simp[BQ,gu];omega)]
   rw[scanUp,if_neg (by simp[BQ,gu])]at hx;rw[<-hx];refine Bz ?_;refine eX () oO BC uI
  rw[scanUp,if_neg (by simp;omega)]at hx;rw[<-hx];refine Cw ?_;refine eX () oO BC uI
 rintro _⟨hL,hM⟩;refine jT (fun _:Unit=>[(0,.slice (BM g) n c),(1,BK a),(9,BL ((i2:Nat):Int)),(10,BL ((j2:Nat):Int))]) (fun _=>[sl (BM g) c 41 1 n (Ce (e)),q,R]) (fun _=>a<=j2/\j2<=j) ?_ ?_
 ·refine Bv ?_;refine dX (fun x:Nat=>[(0,.slice (BM g) n c),(1,BK a),(9,BL ((i2:Nat):Int)),(10,BL ((x:Nat):Int))]) (fun _=>[sl (BM g) c 41 1 n (Ce (e)),q,R]) (fun x=>x) (fun x=>scanDown (fun x=>BQ cf (e)[a]! x) (e) (i2) x=j2/\a<=x/\x<=j) (j) ?_ ?_ ?_ ?_
  ·exact⟨hF,oO,oO⟩
  ·exact BC
  ·exact uI
  rintro x⟨hx,hJ,hK⟩;refine Bi ?_;refine dV 49 O (fun sw=>?_) (fun sw=>?_)
  ·obtain⟨x,rfl⟩:∃k,x=k+1:=⟨x-1,oO⟩;have f0:=eH (e) (i:=x+1) oO ((x+1:Nat):Int).toNat oO;have f1:=eH (e) (i:=a) oO ((a:Nat):Int).toNat oO;have hB:=hc _ _ (hA.2 (a) oO) (hA.2 (x+1) oO);refine CY ?_;refine BH (hB) O ?_;refine CG ?_;refine bE O (fun gw=>?_) (fun gw=>?_)
   ·refine Bu ?_;refine bS (x) ⟨?_,oO,oO⟩ oO ⟨O,O,O,au some (bW oO),trivial⟩ uI;rw[<-hx];conv=>rhs;rw[scanDown,if_pos (by simp[BQ,gw];omega)]
   rw[scanDown,if_neg (by simp[BQ,gw])]at hx;rw[<-hx];refine Bz ?_;refine eX () oO BC uI
  have hN:x=j2:=by
   rw[<-hx];cases x with
   |zero=>rfl
   |succ x=>rw[scanDown,if_neg (by simp;omega)]
  rw[<-hN];refine CY ?_;refine eX () oO BC uI
 rintro _⟨hO,hP⟩;refine Br ?_;refine bE O (fun h7=>?_) (fun h7=>?_)
 ·rw[if_pos oO]at he;subst he;refine CP ?_;exact uZ O (.tmp O .nil) ⟨O,O,hA⟩
 rw[if_neg oO]at he;have f4:=eH e (i:=i2) oO ((i2:Int)).toNat oO;have f5:=eH e (i:=j2) oO ((j2:Int)).toNat oO;refine CG ?_;refine eZ 13 ([sl (BM g) c 41 1 n (Ce e),q]) [(15,[])] ?_ ?_
 ·exact uI
 refine uP 0 O (aB O) (uP 1 O (aB O) (uP 2 O (aB O) (uP 3 O (aB O) (uP 4 O (aB O) (uP 5 O (aB O) (uP 6 O (CE O O) ?_))))));refine uQ 7 O (uY) ?_;refine uP 8 O (aB O) (uP 9 O (aB O) (uP 10 O (CE O O) ?_));refine uQ 11 O (uY) ?_;refine uP 12 O (CE O O) ?_;apply iB O oK O;refine uJ ?_;refine uE ?_;refine uP 14 O (CE O O) ?_;apply gZ O oK oK O;refine uJ ?_;refine CU ?_;simp only[bP];rw[jV e (i:=i2) (j:=j2) oO oO]
 case ho=>omega
 case ho'=>omega
 refine bS (ι:=Nat×Nat×Array Nat) (j:=(i2+1,j2-1,swp e i2 j2)) ⟨he,hA.swp oO oO,by show a<i2+1;omega,by show a<=j2-1;omega,by show i2+1<=j2-1+2;omega,by show j2-1<b;omega⟩ (by show j2-1+1-(i2+1)<j+1-i;omega) ⟨rfl,rfl,au some (bW BD),au some (bW BD),trivial⟩ uI
open Go.Sort in
def qIj (hE:BP E)(hc:GI E q ok cf){d}(hd:Cb ok n d){a b pv}(hW:a<=pv)(hX:pv<b)(hb:b<=n)(hn:n<1099511627776):
  Ct E 172 [.slice (BM g) n c,BK a,BK b,BK pv] [sl (BM g) c 41 1 n (Ce d),q]
   (fun v Q=>v= .tuple #[BK ((partition (BQ cf) d a b pv).1),.bool (partition (BQ cf) d a b pv).2.1]/\Q=[sl (BM g) c 41 1 n (Ce (partition (BQ cf) d a b pv).2.2),q]/\Cb ok n (partition (BQ cf) d a b pv).2.2):=by
 have hs:=hd.1;have f2:=eH d (i:=pv) oO ((pv:Int)).toNat oO;have f3:=eH d (i:=a) oO ((a:Int)).toNat oO;obtain⟨r,hr⟩:∃r,r=partition (BQ cf) d a b pv:=⟨_,rfl⟩;have hA:=hr;unfold partition at hA;simp only at hA;rw[<-hr];refine bO (hE.fn Tryz.func172) O O O (fun R=>?_);simp only[dS,uV,uW];refine Bi ?_;refine eZ 13 ([sl (BM g) c 41 1 n (Ce d),q]) [(15,[])] ?_ ?_
 ·exact uI
 refine uP 0 O (aB O) (uP 1 O (aB O) (uP 2 O (aB O) (uP 3 O (aB O) (uP 4 O (aB O) (uP 5 O (aB O) (uP 6 O (CE O O) ?_))))));refine uQ 7 O (uY) ?_;refine uP 8 O (aB O) (uP 9 O (aB O) (uP 10 O (CE O O) ?_));refine uQ 11 O (uY) ?_;refine uP 12 O (CE O O) ?_;apply iB O oK O;refine uJ ?_;refine uE ?_;refine uP 14 O (CE O O) ?_;apply gZ O oK oK O;refine uJ ?_;refine Bo ?_;simp only[bP];rw[jV d (i:=a) (j:=pv) oO oO]
 case ho=>omega
 case ho'=>omega
 refine CW 10 (BL ((a+1:Nat):Int)) O (bW oO) ?_;refine CW 11 (BL ((b-1:Nat):Int)) O (bW oO) ?_;have hC:=hd.swp (show a<n by omega) (show pv<n by omega);generalize swp d a pv=d1 at*;have hY:=hC.1;obtain⟨i1,hI⟩:∃i1,scanUp (fun x=>BQ cf x d1[a]!) d1 (b-1) (a+1)=i1:=⟨_,rfl⟩;rw[hI]at hA;obtain⟨j1,hJ⟩:∃j1,scanDown (fun x=>!BQ cf x d1[a]!) d1 i1 (b-1)=j1:=⟨_,rfl⟩;rw[hJ]at hA;refine jT (fun _:Unit=>[(0,.slice (BM g) n c),(1,BK a),(10,BL ((i1:Nat):Int)),(11,BL (((b-1):Nat):Int))]) (fun _=>[sl (BM g) c 41 1 n (Ce (d1)),q,R]) (fun _=>(a+1)<=i1/\i1<=(b-1)+2) ?_ ?_
 ·refine Bv ?_;refine dX (fun x:Nat=>[(0,.slice (BM g) n c),(1,BK a),(10,BL ((x:Nat):Int)),(11,BL (((b-1):Nat):Int))]) (fun _=>[sl (BM g) c 41 1 n (Ce (d1)),q,R]) (fun x=>(b-1)+1-x) (fun x=>scanUp (fun x=>BQ cf x (d1)[a]!) (d1) ((b-1)) x=i1/\(a+1)<=x/\x<=(b-1)+2) ((a+1)) ?_ ?_ ?_ ?_
  ·exact⟨hI,oO,oO⟩
  ·exact BC
  ·exact uI
  rintro x⟨hx,hF,hG⟩;refine Bi ?_;refine dV 33 O (fun sp=>?_) (fun sp=>?_)
  ·have f0:=eH (d1) (i:=x) oO ((x:Nat):Int).toNat oO;have f1:=eH (d1) (i:=a) oO ((a:Nat):Int).toNat oO;have hD:=hc _ _ (hC.2 (x) oO) (hC.2 (a) oO);refine CY ?_;refine BH (hD) O ?_;refine CG ?_;refine bE O (fun gp=>?_) (fun gp=>?_)
   ·refine Bu ?_;refine bS (x+1) ⟨?_,oO,oO⟩ oO ⟨O,O,au some (bW oO),O,trivial⟩ uI;rw[<-hx];conv=>rhs;rw[scanUp,if_pos (by simp[BQ,gp];omega)]
   rw[scanUp,if_neg (by simp[BQ,gp])]at hx;rw[<-hx];refine Bz ?_;refine eX () oO BC uI
  rw[scanUp,if_neg (by simp;omega)]at hx;rw[<-hx];refine CY ?_;refine eX () oO BC uI
 rintro _⟨hM,hN⟩;refine jT (fun _:Unit=>[(0,.slice (BM g) n c),(1,BK a),(10,BL ((i1:Nat):Int)),(11,BL ((j1:Nat):Int))]) (fun _=>[sl (BM g) c 41 1 n (Ce (d1)),q,R]) (fun _=>a<=j1/\j1<=(b-1)) ?_ ?_
 ·refine Bv ?_;refine dX (fun x:Nat=>[(0,.slice (BM g) n c),(1,BK a),(10,BL ((i1:Nat):Int)),(11,BL ((x:Nat):Int))]) (fun _=>[sl (BM g) c 41 1 n (Ce (d1)),q,R]) (fun x=>x) (fun x=>scanDown (fun x=>!BQ cf x (d1)[a]!) (d1) (i1) x=j1/\a<=x/\x<=(b-1)) ((b-1)) ?_ ?_ ?_ ?_
  ·exact⟨hJ,oO,oO⟩
  ·exact BC
  ·exact uI
  rintro x⟨hx,hF,hG⟩;refine Bi ?_;refine dV 49 O (fun sq=>?_) (fun sq=>?_)
  ·obtain⟨x,rfl⟩:∃k,x=k+1:=⟨x-1,oO⟩;have f0:=eH (d1) (i:=x+1) oO ((x+1:Nat):Int).toNat oO;have f1:=eH (d1) (i:=a) oO ((a:Nat):Int).toNat oO;have hD:=hc _ _ (hC.2 (x+1) oO) (hC.2 (a) oO);refine CY ?_;refine BH (hD) O ?_;refine Bw ?_;refine gJ O (fun gq=>?_) (fun gq=>?_)
   ·refine Bu ?_;refine bS (x) ⟨?_,oO,oO⟩ oO ⟨O,O,O,au some (bW oO),trivial⟩ uI;rw[<-hx];conv=>rhs;rw[scanDown,if_pos (by simp[BQ,gq];omega)]
   rw[scanDown,if_neg (by simp[BQ,gq])]at hx;rw[<-hx];refine Bz ?_;refine eX () oO BC uI
  have hH:x=j1:=by
   rw[<-hx];cases x with
   |zero=>rfl
   |succ x=>rw[scanDown,if_neg (by simp;omega)]
  rw[<-hH];refine Cw ?_;refine eX () oO BC uI
 rintro _⟨hO,hP⟩;refine Br ?_;refine bE O (fun h6=>?_) (fun h6=>?_)
 ·rw[if_pos oO]at hA;subst hA;have f4:=eH d1 (i:=a) oO ((a:Int)).toNat oO;have f5:=eH d1 (i:=j1) oO ((j1:Int)).toNat oO;refine Bv ?_;refine eZ 13 ([sl (BM g) c 41 1 n (Ce d1),q]) [(15,[])] ?_ ?_
  ·exact uI
  refine uP 0 O (aB O) (uP 1 O (aB O) (uP 2 O (aB O) (uP 3 O (aB O) (uP 4 O (aB O) (uP 5 O (aB O) (uP 6 O (CE O O) ?_))))));refine uQ 7 O (uY) ?_;refine uP 8 O (aB O) (uP 9 O (aB O) (uP 10 O (CE O O) ?_));refine uQ 11 O (uY) ?_;refine uP 12 O (CE O O) ?_;apply iB O oK O;refine uJ ?_;refine uE ?_;refine uP 14 O (CE O O) ?_;apply gZ O oK oK O;refine uJ ?_;refine Bc ?_;simp only[bP];rw[jV d1 (i:=j1) (j:=a) oO oO]
  case ho=>omega
  case ho'=>omega
  exact uZ O (.tmp O (.tmp O .nil)) ⟨O,O,hC.swp oO oO⟩
 rw[if_neg oO]at hA;have f4:=eH d1 (i:=i1) oO ((i1:Int)).toNat oO;have f5:=eH d1 (i:=j1) oO ((j1:Int)).toNat oO;obtain⟨u,hu⟩:∃u,partLoop (BQ cf) a (i1+1) (j1-1) (swp d1 i1 j1)=u:=⟨_,rfl⟩;rw[hu]at hA;refine CG ?_;refine eZ 13 ([sl (BM g) c 41 1 n (Ce d1),q]) [(15,[])] ?_ ?_
 ·exact uI
 refine uP 0 O (aB O) (uP 1 O (aB O) (uP 2 O (aB O) (uP 3 O (aB O) (uP 4 O (aB O) (uP 5 O (aB O) (uP 6 O (CE O O) ?_))))));refine uQ 7 O (uY) ?_;refine uP 8 O (aB O) (uP 9 O (aB O) (uP 10 O (CE O O) ?_));refine uQ 11 O (uY) ?_;refine uP 12 O (CE O O) ?_;apply iB O oK O;refine uJ ?_;refine uE ?_;refine uP 14 O (CE O O) ?_;apply gZ O oK oK O;refine uJ ?_;refine CY ?_;simp only[bP];rw[jV d1 (i:=i1) (j:=j1) oO oO]
 case ho=>omega
 case ho'=>omega
 refine dX (fun x:Nat×Nat×Array Nat=>[(0,.slice (BM g) n c),(1,BK a),(10,BK (x.1)),(11,BK (x.2.1))]) (fun x=>[sl (BM g) c 41 1 n (Ce x.2.2),q,R]) (fun x=>x.2.1+1-x.1) (fun x=>partLoop (BQ cf) a x.1 x.2.1 x.2.2=u/\Cb ok n x.2.2/\a<x.1/\a<=x.2.1/\x.1<=x.2.1+2/\x.2.1<b) (i1+1,j1-1,swp d1 i1 j1) ?_ ?_ ?_ ?_
 ·exact⟨hu,hC.swp oO oO,by show a<i1+1;omega,by show a<=j1-1;omega,by show i1+1<=j1-1+2;omega,by show j1-1<b;omega⟩
 ·exact⟨O,O,au some (bW BD),au some (bW BD),trivial⟩
 ·exact uI
 rintro⟨i,j,e⟩⟨he,hB,hi,hQ,hR,hj⟩;simp only at he hB hi hQ hR hj ⊢;have hZ:=hB.1;rw[partLoop_eq]at he;obtain⟨i2,hK⟩:∃i2,scanUp (fun x=>BQ cf x e[a]!) e j i=i2:=⟨_,rfl⟩;rw[hK]at he;obtain⟨j2,hL⟩:∃j2,scanDown (fun x=>!BQ cf x e[a]!) e i2 j=j2:=⟨_,rfl⟩;rw[hL]at he;refine Bv ?_;refine jT (fun _:Unit=>[(0,.slice (BM g) n c),(1,BK a),(10,BL ((i2:Nat):Int)),(11,BL ((j:Nat):Int))]) (fun _=>[sl (BM g) c 41 1 n (Ce (e)),q,R]) (fun _=>i<=i2/\i2<=j+2) ?_ ?_
 ·refine Bv ?_;refine dX (fun x:Nat=>[(0,.slice (BM g) n c),(1,BK a),(10,BL ((x:Nat):Int)),(11,BL ((j:Nat):Int))]) (fun _=>[sl (BM g) c 41 1 n (Ce (e)),q,R]) (fun x=>j+1-x) (fun x=>scanUp (fun x=>BQ cf x (e)[a]!) (e) (j) x=i2/\i<=x/\x<=j+2) (i) ?_ ?_ ?_ ?_
  ·exact⟨hK,oO,oO⟩
  ·exact BC
  ·exact uI
  rintro x⟨hx,hF,hG⟩;refine Bi ?_;refine dV 102 O (fun su=>?_) (fun su=>?_)
  ·have f0:=eH (e) (i:=x) oO ((x:Nat):Int).toNat oO;have f1:=eH (e) (i:=a) oO ((a:Nat):Int).toNat oO;have hD:=hc _ _ (hB.2 (x) oO) (hB.2 (a) oO);refine CY ?_;refine BH (hD) O ?_;refine CG ?_;refine bE O (fun gu=>?_) (fun gu=>?_)
   ·refine Bu ?_;refine bS (x+1) ⟨?_,oO,oO⟩ oO ⟨O,O,au some (bW oO),O,trivial⟩ uI;rw[<-hx];conv=>rhs;rw[scanUp,if_pos (by simp[BQ,gu];omega)]
   rw[scanUp,if_neg (by simp[BQ,gu])]at hx;rw[<-hx];refine Bz ?_;refine eX () oO BC uI
  rw[scanUp,if_neg (by simp;omega)]at hx;rw[<-hx];refine CY ?_;refine eX () oO BC uI
 rintro _⟨hS,hT⟩;refine jT (fun _:Unit=>[(0,.slice (BM g) n c),(1,BK a),(10,BL ((i2:Nat):Int)),(11,BL ((j2:Nat):Int))]) (fun _=>[sl (BM g) c 41 1 n (Ce (e)),q,R]) (fun _=>a<=j2/\j2<=j) ?_ ?_
 ·refine Bv ?_;refine dX (fun x:Nat=>[(0,.slice (BM g) n c),(1,BK a),(10,BL ((i2:Nat):Int)),(11,BL ((x:Nat):Int))]) (fun _=>[sl (BM g) c 41 1 n (Ce (e)),q,R]) (fun x=>x) (fun x=>scanDown (fun x=>!BQ cf x (e)[a]!) (e) (i2) x=j2/\a<=x/\x<=j) (j) ?_ ?_ ?_ ?_
  ·exact⟨hL,oO,oO⟩
  ·exact BC
  ·exact uI
  rintro x⟨hx,hF,hG⟩;refine Bi ?_;refine dV 118 O (fun sw=>?_) (fun sw=>?_)
  ·obtain⟨x,rfl⟩:∃k,x=k+1:=⟨x-1,oO⟩;have f0:=eH (e) (i:=x+1) oO ((x+1:Nat):Int).toNat oO;have f1:=eH (e) (i:=a) oO ((a:Nat):Int).toNat oO;have hD:=hc _ _ (hB.2 (x+1) oO) (hB.2 (a) oO);refine CY ?_;refine BH (hD) O ?_;refine Bw ?_;refine gJ O (fun gw=>?_) (fun gw=>?_)
   ·refine Bu ?_;refine bS (x) ⟨?_,oO,oO⟩ oO ⟨O,O,O,au some (bW oO),trivial⟩ uI;rw[<-hx];conv=>rhs;rw[scanDown,if_pos (by simp[BQ,gw];omega)]
   rw[scanDown,if_neg (by simp[BQ,gw])]at hx;rw[<-hx];refine Bz ?_;refine eX () oO BC uI
  have hH:x=j2:=by
   rw[<-hx];cases x with
   |zero=>rfl
   |succ x=>rw[scanDown,if_neg (by simp;omega)]
  rw[<-hH];refine Cw ?_;refine eX () oO BC uI
 rintro _⟨hU,hV⟩;refine Br ?_;refine bE O (fun h7=>?_) (fun h7=>?_)
 ·rw[if_pos oO]at he;subst he;subst hA;have f6:=eH e (i:=a) oO ((a:Int)).toNat oO;have f7:=eH e (i:=j2) oO ((j2:Int)).toNat oO;refine Bi ?_;refine eZ 13 ([sl (BM g) c 41 1 n (Ce e),q]) [(15,[])] ?_ ?_
  ·exact uI
  refine uP 0 O (aB O) (uP 1 O (aB O) (uP 2 O (aB O) (uP 3 O (aB O) (uP 4 O (aB O) (uP 5 O (aB O) (uP 6 O (CE O O) ?_))))));refine uQ 7 O (uY) ?_;refine uP 8 O (aB O) (uP 9 O (aB O) (uP 10 O (CE O O) ?_));refine uQ 11 O (uY) ?_;refine uP 12 O (CE O O) ?_;apply iB O oK O;refine uJ ?_;refine uE ?_;refine uP 14 O (CE O O) ?_;apply gZ O oK oK O;refine uJ ?_;refine Bu ?_;simp only[bP];rw[jV e (i:=j2) (j:=a) oO oO]
  case ho=>omega
  case ho'=>omega
  exact uZ O (.tmp O (.tmp O .nil)) ⟨O,O,hB.swp oO oO⟩
 rw[if_neg oO]at he;have f6:=eH e (i:=i2) oO ((i2:Int)).toNat oO;have f7:=eH e (i:=j2) oO ((j2:Int)).toNat oO;refine CG ?_;refine eZ 13 ([sl (BM g) c 41 1 n (Ce e),q]) [(15,[])] ?_ ?_
 ·exact uI
 refine uP 0 O (aB O) (uP 1 O (aB O) (uP 2 O (aB O) (uP 3 O (aB O) (uP 4 O (aB O) (uP 5 O (aB O) (uP 6 O (CE O O) ?_))))));refine uQ 7 O (uY) ?_;refine uP 8 O (aB O) (uP 9 O (aB O) (uP 10 O (CE O O) ?_));refine uQ 11 O (uY) ?_;refine uP 12 O (CE O O) ?_;apply iB O oK O;refine uJ ?_;refine uE ?_;refine uP 14 O (CE O O) ?_;apply gZ O oK oK O;refine uJ ?_;refine CU ?_;simp only[bP];rw[jV e (i:=i2) (j:=j2) oO oO]
 case ho=>omega
 case ho'=>omega
 refine bS (ι:=Nat×Nat×Array Nat) (j:=(i2+1,j2-1,swp e i2 j2)) ⟨he,hB.swp oO oO,by show a<i2+1;omega,by show a<=j2-1;omega,by show i2+1<=j2-1+2;omega,by show j2-1<b;omega⟩ (by show j2-1+1-(i2+1)<j+1-i;omega) ⟨rfl,rfl,au some (bW BD),au some (bW BD),trivial⟩ uI
end
