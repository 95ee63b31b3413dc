import Derived.Test.YtnicahfnolhgbaaGreatDoorQ05
import Derived.Test.YtnicahfnolhgbaaGreatDoorQ60
import Derived.Laws.Bits64
import Derived.Sort.AssemblyPlain
import Derived.Sort.LotD5
set_option linter.all false
set_option maxHeartbeats 1000000
namespace Go.Proofs.YtnicahfnolhgbaaGreatDoor
open Go Go.RowKit Sl Eg
set_option maxRecDepth 10000
section
variable {E:Bp}
variable {ts:Nat->List UInt8}
def CZ (ts:Nat->List UInt8)(d:Array Nat):List Value:=d.toList.map fun x=> .string ⟨⟨ts x⟩⟩
def Nr (d:Array Nat):(CZ ts d).length=d.size:=by simp[CZ]
def eO (d:Array Nat){i}(h:i<d.size)(o:Nat)(ho:o=i):(CZ ts d)[o]?=some (BN (ts d[i]!)):=by
 subst ho;simp[CZ,h]
def qXm (d:Array Nat){i}(h:i<d.size)(x o:Nat)(ho:o=i):bX (CZ ts d) o [BN (ts x)]=CZ ts (d.setIfInBounds i x):=by
 subst ho;rw[jO _ _ _ (by rw[Nr];simp;omega)];apply mh;intro k;simp only[CZ,zt,bf];rw[List.map_set];rw[xz];simp[h]
def jW (d:Array Nat){i j}(hi:i<d.size)(hj:j<d.size)(o o':Nat)(ho:o=i)(ho':o'=j):bX (bX (CZ ts d) o [BN (ts d[j]!)]) o' [BN (ts d[i]!)]=CZ ts (Go.Sort.swp d i j):=by
 rw[qXm (ts:=ts) d hi _ o ho,qXm (ts:=ts) _ (by simpa using hj) _ o' ho'];rfl
def Cc (ok:Nat->Prop)(n:Nat)(d:Array Nat):Prop:=d.size=n/\∀i,i<n->ok d[i]!
def Cc.swp {ok:Nat->Prop}{n d}(h:Cc ok n d){i j}(hi:i<n)(hj:j<n):Cc ok n (Go.Sort.swp d i j):=by
 obtain⟨hs,ho⟩:=h;refine⟨by simp[Go.Sort.swp,hs],fun k hk=>?_⟩;have ki:k<d.size:=oO;simp only[Go.Sort.swp]
 have e:((d.setIfInBounds i d[j]!).setIfInBounds j d[i]!)[k]! =if j=k then d[i]! else if i=k then d[j]! else d[k]!:=by
  rw[getElem!_pos _ k (by simpa using ki),uh (by simpa using ki)];split
  ·rfl
  rw[uh ki];split
  ·rfl
  rw[getElem!_pos d k ki]
 rw[e];split
 ·exact ho i hi
 split
 ·exact ho j hj
 exact ho k hk
variable {q:HP}{ok:Nat->Prop}{cf:Nat->Nat->Int}{g c n:Nat}
def GJ (E:Bp)(ts:Nat->List UInt8)(q:HP)(ok:Nat->Prop)(cf:Nat->Nat->Int):Prop:=∀x y,ok x->ok y->Ct E 116 [.string ⟨⟨ts x⟩⟩,.string ⟨⟨ts y⟩⟩] [q] (fun v Q=>v= .bool (decide (cf x y<0))/\Q=[q])
def xU:∀(a b:List UInt8),Op.bytesLess a b=decide (Cr a b<0)
 |[],[]=>rfl
 |[],b::B=>rfl
 |a::A,[]=>rfl
 |a::A,b::B=>by
  unfold Op.bytesLess Cr;rw[xU A B];by_cases h1:a.toNat<b.toNat
  ·have:a<b:=UInt8.lt_iff_toNat_lt.2 h1;rw[if_pos h1];simp[this]
  have hA:¬a<b:=fun h=>h1 (UInt8.lt_iff_toNat_lt.1 h)
  rw[if_neg h1];by_cases h2:b.toNat<a.toNat
  ·rw[if_pos h2];have:¬a=b:=fun e=>by rw[e]at h2;omega
   simp[hA,this]
  rw[if_neg h2];have:a=b:=UInt8.toNat_inj.1 oO;subst this;simp
def qWu (hE:BP E){a}:Ct E 148 [BN a] [] (fun v Q=>v= .bool false/\Q=[]):=by
 refine bO (hE.fn Tryz.func148) O O O (fun R=>?_);simp only[dS,uV,uW];refine CU ?_;exact uZ O (.tmp O .nil) ⟨au Value.bool BF,O⟩
def Ju (hE:BP E){a b}:Ct E 116 [BN a,BN b] [] (fun v Q=>v= .bool (decide (Cr a b<0))/\Q=[]):=by
 refine bO (hE.fn Tryz.func116) O O O (fun R=>?_);simp only[dS,uV,uW];refine Br ?_;refine BH (qWu hE) O ?_;refine Bo ?_;refine uB (Mm O O) ?_;refine Bw ?_;exact uZ O (.tmp O .nil) ⟨au Value.bool (xU a b),O⟩
def Qj (ts:Nat->List UInt8)(x y:Nat):Int:=Cr (ts x) (ts y)
def TN (hE:BP E){q}{ok:Nat->Prop}:GJ E ts q ok (Qj ts):=fun x y _ _ R w hs=>((Ju (a:=ts x) (b:=ts y) hE) (dW [q,R]) w (hs.imp fun k h=>lD (l:=[]) h)).mono fun e w'⟨v,Qs,h1,⟨h2,h3⟩,h4⟩=>⟨v,[q],h1,⟨h2,rfl⟩,by rw[h3]at h4;exact h4.imp fun k h=>qX (l:=[]) h⟩
def BR (cf:Nat->Nat->Int)(x y:Nat):Bool:=decide (cf x y<0)
def zW (hE:BP E)(hc:GJ E ts q ok cf){d}(hd:Cc ok n d){a b sw k}(ha:a<n)(hb:b<n)(hk:k<1000):
  Ct E 163 [.slice (BM g) n c,BK a,BK b,uPt sw] [cells sw [BK k] 3,sl (BM g) c 9 1 n (CZ ts d),q]
   (fun v Q=>v= .tuple #[BK ((Go.Sort.order2 (BR cf) d a b k).1),BK ((Go.Sort.order2 (BR cf) d a b k).2.1)]/\Q=[cells sw [BK ((Go.Sort.order2 (BR cf) d a b k).2.2)] 3,sl (BM g) c 9 1 n (CZ ts d),q]):=by
 have hs:=hd.1;have f0:=eO (ts:=ts) d (i:=b) oO ((b:Int)).toNat oO;have f1:=eO (ts:=ts) d (i:=a) oO ((a:Int)).toNat oO;have hA:=hc _ _ (hd.2 b hb) (hd.2 a ha);refine bO (hE.fn Tryz.func163) O O O (fun R=>?_);simp only[dS,uV,uW];refine CY ?_;refine BH (hA) O ?_;refine CL ?_;refine bE O (fun h1=>?_) (fun h1=>?_)
 ·have e:Go.Sort.order2 (BR cf) d a b k=(b,a,k+1):=by unfold Go.Sort.order2;rw[if_pos (by simp[BR,h1])]
  rw[e];refine CB ?_;refine BU 22 (BL ((k+1:Nat):Int)) O (bW oO) ?_;refine CU ?_;exact uZ O (.tmp O (.tmp O .nil)) ⟨O,O⟩
 have e:Go.Sort.order2 (BR cf) d a b k=(a,b,k):=by unfold Go.Sort.order2;rw[if_neg (by simp[BR,h1])]
 rw[e];refine Bo ?_;exact uZ O (.tmp O (.tmp O .nil)) ⟨O,O⟩
open Go.Sort in
def qU {lt:Nat->Nat->Bool}{d a b k m}(ha:a<m)(hb:b<m):(order2 lt d a b k).1<m/\(order2 lt d a b k).2.1<m/\(order2 lt d a b k).2.2<=k+1:=by
 unfold order2;split
 ·exact⟨hb,ha,ai _⟩
 exact⟨ha,hb,Ar _⟩
open Go.Sort in
def WT {lt:Nat->Nat->Bool}{d a b e k m}(ha:a<m)(hb:b<m)(he:e<m):(median lt d a b e k).1<m/\(median lt d a b e k).2<=k+3:=by
 have h1:=qU (lt:=lt) (d:=d) (k:=k) ha hb;have h2:=qU (lt:=lt) (d:=d) (k:=(order2 lt d a b k).2.2) h1.2.1 he;have h3:=qU (lt:=lt) (d:=d) (k:=(order2 lt d (order2 lt d a b k).2.1 e (order2 lt d a b k).2.2).2.2) h1.1 h2.1;unfold median;exact⟨h3.2.1,BD⟩
def zT (hE:BP E)(hc:GJ E ts q ok cf){d}(hd:Cc ok n d){a b e sw k}(ha:a<n)(hb:b<n)(he:e<n)(hk:k<900):
  Ct E 147 [.slice (BM g) n c,BK a,BK b,BK e,uPt sw] [cells sw [BK k] 3,sl (BM g) c 9 1 n (CZ ts d),q]
   (fun v Q=>v= BK ((Go.Sort.median (BR cf) d a b e k).1)/\Q=[cells sw [BK ((Go.Sort.median (BR cf) d a b e k).2)] 3,sl (BM g) c 9 1 n (CZ ts d),q]):=by
 have h1:=qU (lt:=BR cf) (d:=d) (k:=k) ha hb;have h2:=qU (lt:=BR cf) (d:=d) (k:=(Go.Sort.order2 (BR cf) d a b k).2.2) h1.2.1 he;unfold Go.Sort.median;simp only;refine bO (hE.fn Tryz.func147) O O O (fun R=>?_);simp only[dS,uV,uW];refine Bo ?_;refine BH (zW (k:=k) hE hc hd ha hb oO) O ?_;refine CP ?_;refine BH (zW (k:=(Go.Sort.order2 (BR cf) d a b k).2.2) hE hc hd h1.2.1 he oO) O ?_;refine CP ?_;refine BH (zW (k:=(Go.Sort.order2 (BR cf) d (Go.Sort.order2 (BR cf) d a b k).2.1 e (Go.Sort.order2 (BR cf) d a b k).2.2).2.2) hE hc hd h1.1 h2.1 oO) O ?_;refine CU ?_;exact uZ O (.tmp O .nil) ⟨O,O⟩
def lJ (hE:BP E)(hc:GJ E ts q ok cf){d}(hd:Cc ok n d){a sw k}(ha:a+1<n)(h1:1<=a)(hn:n<1099511627776)(hk:k<900):
  Ct E 146 [.slice (BM g) n c,BK a,uPt sw] [cells sw [BK k] 3,sl (BM g) c 9 1 n (CZ ts d),q]
   (fun v Q=>v= BK ((Go.Sort.medianAdjacent (BR cf) d a k).1)/\Q=[cells sw [BK ((Go.Sort.medianAdjacent (BR cf) d a k).2)] 3,sl (BM g) c 9 1 n (CZ ts d),q]):=by
 unfold Go.Sort.medianAdjacent;refine bO (hE.fn Tryz.func146) O O O (fun R=>?_);simp only[dS,uV,uW];refine CU ?_;refine BU 9 (BL ((a-1:Nat):Int)) O (bW oO) ?_;refine BU 12 (BL ((a+1:Nat):Int)) O (bW oO) ?_;refine BH (zT (a:=a-1) (b:=a) (e:=a+1) (k:=k) hE hc hd oO oO ha hk) O ?_;refine Bz ?_;exact uZ O (.tmp O .nil) ⟨O,O⟩
def Sy:Go.Sort.Hint->Nat
 | .unknown=>0
 | .increasing=>1
 | .decreasing=>2
def qCv (hE:BP E)(hc:GJ E ts q ok cf){d}(hd:Cc ok n d){a b}(hB:a+12<b)(hb:b<=n)(hn:n<1099511627776):
  Ct E 113 [.slice (BM g) n c,BK a,BK b] [sl (BM g) c 9 1 n (CZ ts d),q]
   (fun v Q=>v= .tuple #[BK ((Go.Sort.choosePivot (BR cf) d a b).1),BK (Sy (Go.Sort.choosePivot (BR cf) d a b).2)]/\Q=[sl (BM g) c 9 1 n (CZ ts d),q]):=by
 refine bO (hE.fn Tryz.func113) O O O (fun R=>?_);simp only[dS,uV,uW];refine CU ?_;obtain⟨l,hl⟩:∃l,l=b-a:=⟨_,rfl⟩;obtain⟨i,hi⟩:∃i,i=a+l/4*1:=⟨_,rfl⟩;obtain⟨j,hj⟩:∃j,j=a+l/4*2:=⟨_,rfl⟩;obtain⟨m,hm⟩:∃m,m=a+l/4*3:=⟨_,rfl⟩;refine CW 8 (BL ((l:Nat):Int)) O (bW oO) ?_;refine CL ?_;refine uU (dA (hE.t O) (fun b9=>?_));refine Kh ?_;refine CW 10 (BL ((i:Nat):Int)) O (bW oO) ?_;refine CW 11 (BL ((j:Nat):Int)) O (bW oO) ?_;refine CW 12 (BL ((m:Nat):Int)) O (bW oO) ?_;refine Bi ?_;refine bE O (fun h8=>?_) (fun h8=>?_)
 ·have hh:∀r:Nat×Nat,(if l≥50 then Go.Sort.median (BR cf) d (Go.Sort.medianAdjacent (BR cf) d i 0).1 (Go.Sort.medianAdjacent (BR cf) d j (Go.Sort.medianAdjacent (BR cf) d i 0).2).1 (Go.Sort.medianAdjacent (BR cf) d m (Go.Sort.medianAdjacent (BR cf) d j (Go.Sort.medianAdjacent (BR cf) d i 0).2).2).1 (Go.Sort.medianAdjacent (BR cf) d m (Go.Sort.medianAdjacent (BR cf) d j (Go.Sort.medianAdjacent (BR cf) d i 0).2).2).2 else Go.Sort.median (BR cf) d i j m 0)=r->Go.Sort.choosePivot (BR cf) d a b=(r.1,if r.2=0 then .increasing else if r.2=12 then .decreasing else .unknown):=by
   intro r hr;subst hr;unfold Go.Sort.choosePivot;simp only[<-hl,<-hi,<-hj,<-hm,if_pos (show l≥8 by omega)]
  refine Bi ?_;refine bE O (fun hA=>?_) (fun hA=>?_)
  ·rw[if_pos (show l≥50 by omega)]at hh;refine Bz ?_;refine BH (lJ (a:=i) (k:=0) hE hc hd oO oO hn oO) O ?_;refine Bi ?_;have c1:=(WT (lt:=BR cf) (d:=d) (a:=i-1) (b:=i) (e:=i+1) (k:=0) (m:=n) oO oO oO);have c1':(Go.Sort.medianAdjacent (BR cf) d i 0).1<n/\(Go.Sort.medianAdjacent (BR cf) d i 0).2<=0+3:=c1;refine BH (lJ (a:=j) (k:=(Go.Sort.medianAdjacent (BR cf) d i 0).2) hE hc hd oO oO hn oO) O ?_;refine CB ?_;have c2:=(WT (lt:=BR cf) (d:=d) (a:=j-1) (b:=j) (e:=j+1) (k:=(Go.Sort.medianAdjacent (BR cf) d i 0).2) (m:=n) oO oO oO);have c2':(Go.Sort.medianAdjacent (BR cf) d j (Go.Sort.medianAdjacent (BR cf) d i 0).2).1<n/\(Go.Sort.medianAdjacent (BR cf) d j (Go.Sort.medianAdjacent (BR cf) d i 0).2).2<=(Go.Sort.medianAdjacent (BR cf) d i 0).2+3:=c2;refine BH (lJ (a:=m) (k:=(Go.Sort.medianAdjacent (BR cf) d j (Go.Sort.medianAdjacent (BR cf) d i 0).2).2) hE hc hd oO oO hn oO) O ?_;refine Br ?_;have c3:=(WT (lt:=BR cf) (d:=d) (a:=m-1) (b:=m) (e:=m+1) (k:=(Go.Sort.medianAdjacent (BR cf) d j (Go.Sort.medianAdjacent (BR cf) d i 0).2).2) (m:=n) oO oO oO)
   have c3':(Go.Sort.medianAdjacent (BR cf) d m (Go.Sort.medianAdjacent (BR cf) d j (Go.Sort.medianAdjacent (BR cf) d i 0).2).2).1<n/\(Go.Sort.medianAdjacent (BR cf) d m (Go.Sort.medianAdjacent (BR cf) d j (Go.Sort.medianAdjacent (BR cf) d i 0).2).2).2<=(Go.Sort.medianAdjacent (BR cf) d j (Go.Sort.medianAdjacent (BR cf) d i 0).2).2+3:=c3;clear c1 c2 c3;generalize Go.Sort.medianAdjacent (BR cf) d m (Go.Sort.medianAdjacent (BR cf) d j (Go.Sort.medianAdjacent (BR cf) d i 0).2).2=r3 at*;generalize Go.Sort.medianAdjacent (BR cf) d j (Go.Sort.medianAdjacent (BR cf) d i 0).2=r2 at*;generalize Go.Sort.medianAdjacent (BR cf) d i 0=r1 at*;refine BH (zT (a:=r1.1) (b:=r2.1) (e:=r3.1) (k:=r3.2) hE hc hd c1'.1 c2'.1 c3'.1 oO) O ?_;generalize Go.Sort.median (BR cf) d r1.1 r2.1 r3.1 r3.2=r at*;rw[hh r rfl];refine CK ?_;refine bE O (fun g0=>?_) (fun g0=>?_)
   ·rw[if_pos oO];refine Bu ?_;exact uZ O (.tmp O (.tmp O .nil)) ⟨O,O⟩
   rw[if_neg oO];refine CB ?_;refine bE O (fun g1=>?_) (fun g1=>?_)
   ·rw[if_pos oO];refine Bu ?_;exact uZ O (.tmp O (.tmp O .nil)) ⟨O,O⟩
   rw[if_neg oO];refine Bu ?_;exact uZ O (.tmp O (.tmp O .nil)) ⟨O,O⟩
  rw[if_neg (show ¬l≥50 by omega)]at hh;refine Bi ?_;refine BH (zT (a:=i) (b:=j) (e:=m) (k:=0) hE hc hd oO oO oO oO) O ?_;generalize Go.Sort.median (BR cf) d i j m 0=r at*;rw[hh r rfl];refine CK ?_;refine bE O (fun g0=>?_) (fun g0=>?_)
  ·rw[if_pos oO];refine Bu ?_;exact uZ O (.tmp O (.tmp O .nil)) ⟨O,O⟩
  rw[if_neg oO];refine CB ?_;refine bE O (fun g1=>?_) (fun g1=>?_)
  ·rw[if_pos oO];refine Bu ?_;exact uZ O (.tmp O (.tmp O .nil)) ⟨O,O⟩
  rw[if_neg oO];refine Bu ?_;exact uZ O (.tmp O (.tmp O .nil)) ⟨O,O⟩
 exfalso;omega
end
section
variable {E:Bp}
variable {ts:Nat->List UInt8}{q:HP}{ok:Nat->Prop}{cf:Nat->Nat->Int}{g c n:Nat}
open Go.Sort in
def qBn (hE:BP E){d}(hd:Cc ok n d){a b}(hB:a<b)(hb:b<=n)(hn:n<1099511627776):
  Ct E 114 [.slice (BM g) n c,BK a,BK b] [sl (BM g) c 9 1 n (CZ ts d),q]
   (fun v Q=>v= .tuple #[]/\Q=[sl (BM g) c 9 1 n (CZ ts (reverseRange d a b)),q]/\Cc ok n (reverseRange d a b)):=by
 refine bO (hE.fn Tryz.func114) O O O (fun R=>?_);simp only[dS,uV,uW];refine CU ?_;refine dX (fun x:Nat×Nat×Array Nat=>[(0,.slice (BM g) n c),(6,BK (x.1)),(7,BK (x.2.1))]) (fun x=>[sl (BM g) c 9 1 n (CZ ts x.2.2),q,R]) (fun x=>x.2.1-x.1) (fun x=>reverseLoop x.1 x.2.1 x.2.2=reverseRange d a b/\Cc ok n x.2.2/\x.2.1<n/\x.1<=n) (a,b-1,d) ?_ ?_ ?_ ?_
 ·exact⟨O,hd,by show b-1<n;omega,by show a<=n;omega⟩
 ·exact⟨O,O,au some (bW BD),trivial⟩
 ·exact uI
 rintro⟨i,j,e⟩⟨he,hA,hj,hi⟩;simp only at he hA hj hi ⊢;have hs:=hA.1;refine Br ?_;refine bE O (fun h1=>?_) (fun h1=>?_)
 ·have f0:=eO (ts:=ts) e (i:=i) oO ((i:Int)).toNat oO;have f1:=eO (ts:=ts) e (i:=j) oO ((j:Int)).toNat oO;refine Bz ?_;refine eZ 13 ([sl (BM g) c 9 1 n (CZ ts e),q]) [(15,[])] ?_ ?_
  ·exact uI
  refine uP 0 O (aB O) (uP 1 O (aB O) (uP 2 O (aB O) (uP 3 O (aB O) (uP 4 O (aB O) (uP 5 O (aB O) (uP 6 O (CE O O) ?_))))));refine uQ 7 O (uY) ?_;refine uP 8 O (aB O) (uP 9 O (aB O) (uP 10 O (CE O O) ?_));refine uQ 11 O (uY) ?_;refine uP 12 O (CE O O) ?_;apply iB O oK O;refine uJ ?_;refine uE ?_;refine uP 14 O (CE O O) ?_;apply gZ O oK oK O;refine uJ ?_;refine CU ?_;simp only[bP];rw[jW (ts:=ts) e (i:=i) (j:=j) oO oO]
  case ho=>omega
  case ho'=>omega
  refine bS (ι:=Nat×Nat×Array Nat) (j:=(i+1,j-1,swp e i j)) ⟨?_,hA.swp oO hj,by show j-1<n;omega,by show i+1<=n;omega⟩ (by show j-1-(i+1)<j-i;omega) ⟨rfl,rfl,?_,trivial⟩ uI
  ·rw[<-he];conv=>rhs;rw[reverseLoop,if_pos (show i<j by omega)]
  exact au some (bW BD)
 rw[reverseLoop,if_neg (show ¬i<j by omega)]at he;subst he;refine Bz ?_;exact Gf O .nil ⟨O,O,hA⟩
open Go.Sort in
def zQ (hE:BP E)(hc:GJ E ts q ok cf){d}(hd:Cc ok n d){a b}(hG:a<=b)(hb:b<=n)(hn:n<1099511627776):
  Ct E 110 [.slice (BM g) n c,BK a,BK b] [sl (BM g) c 9 1 n (CZ ts d),q]
   (fun v Q=>v= .tuple #[]/\Q=[sl (BM g) c 9 1 n (CZ ts (insertionSort (BR cf) d a b)),q]/\Cc ok n (insertionSort (BR cf) d a b)):=by
 refine bO (hE.fn Tryz.func110) O O O (fun R=>?_);simp only[dS,uV,uW];refine Br ?_;refine dX (fun x:Nat×Array Nat=>[(0,.slice (BM g) n c),(1,BK a),(2,BK b),(6,BK (x.1))]) (fun x=>[sl (BM g) c 9 1 n (CZ ts x.2),q,R]) (fun x=>b-x.1) (fun x=>insOuter (BR cf) a b x.1 x.2=insertionSort (BR cf) d a b/\Cc ok n x.2/\a+1<=x.1/\x.1<=n+1) (a+1,d) ?_ ?_ ?_ ?_
 ·exact⟨O,hd,ai _,by show a+1<=n+1;omega⟩
 ·exact⟨O,O,O,au some (bW BD),trivial⟩
 ·exact uI
 rintro⟨i,e⟩⟨he,hB,hi,hC⟩;simp only at he hB hi hC ⊢;refine Br ?_;refine bE O (fun h1=>?_) (fun h1=>?_)
 ·rw[insOuter,if_pos (show i<b by omega)]at he;refine Bo ?_;refine dX (fun x:Nat×Array Nat=>[(0,.slice (BM g) n c),(1,BK a),(2,BK b),(6,BK i),(7,BK (x.1))]) (fun x=>[sl (BM g) c 9 1 n (CZ ts x.2),q,R]) (fun x=>x.1) (fun x=>insInner (BR cf) a x.1 x.2=insInner (BR cf) a i e/\Cc ok n x.2/\x.1<=i) (i,e) ?_ ?_ ?_ ?_
  ·exact⟨O,hB,ai _⟩
  ·exact BC
  ·exact uI
  rintro⟨j,u⟩⟨hu,hA,hj⟩;simp only at hu hA hj ⊢;have hs:=hA.1;refine Bi ?_;refine dV 19 O (fun h2=>?_) (fun h2=>?_)
  ·obtain⟨j,rfl⟩:∃k,j=k+1:=⟨j-1,oO⟩;have f0:=eO (ts:=ts) u (i:=j+1) oO (((j+1:Nat):Int)).toNat oO;have f1:=eO (ts:=ts) u (i:=j) oO (((j+1:Nat):Int)-1).toNat oO;have hD:=hc _ _ (hA.2 (j+1) oO) (hA.2 j oO);refine Ci ?_;refine BH (hD) O ?_;refine CG ?_;refine bE O (fun h3=>?_) (fun h3=>?_)
   ·refine Bz ?_;refine eZ 15 ([sl (BM g) c 9 1 n (CZ ts u),q]) [(17,[])] ?_ ?_
    ·exact uI
    refine uP 0 O (aB O) (uP 1 O (aB O) (uP 2 O (aB O) (uP 3 O (aB O) (uP 4 O (Hd O O) (uP 5 O (aB O) (uP 6 O (aB O) (uP 7 O (Hd O O) (uP 8 O (CE O O) ?_))))))));refine uQ 9 O (uY) ?_;refine uP 10 O (aB O) (uP 11 O (aB O) (uP 12 O (CE O O) ?_));refine uQ 13 O (uY) ?_;refine uP 14 O (CE O O) ?_;apply iB O oK O;refine uJ ?_;refine uE ?_;refine uP 16 O (CE O O) ?_;apply gZ O oK oK O;refine uJ ?_;refine Bi ?_;simp only[bP];rw[jW (ts:=ts) u (i:=(j+1)) (j:=j) oO oO]
    case ho=>omega
    case ho'=>omega
    refine bS (ι:=Nat×Array Nat) (j:=(j,swp u (j+1) j)) ⟨?_,hA.swp oO oO,by show j<=i;omega⟩ (by show j<j+1;omega) ⟨rfl,rfl,rfl,rfl,au some (bW BD),trivial⟩ uI;rw[<-hu];conv=>rhs;rw[insInner,if_pos (by simp[BR,h3];omega)]
   rw[insInner,if_neg (by simp[BR,h3])]at hu;rw[<-hu]at he;refine Bo ?_;refine bS (ι:=Nat×Array Nat) (j:=(i+1,u)) ⟨he,hA,by show a+1<=i+1;omega,by show i+1<=n+1;omega⟩ (by show b-(i+1)<b-i;omega) ⟨rfl,rfl,rfl,au some (bW BD),trivial⟩ uI
  have hF:u=insInner (BR cf) a i e:=by
   rw[<-hu];cases j with
   |zero=>rfl
   |succ j=>rw[insInner,if_neg (by simp;omega)]
  rw[<-hF]at he;refine EK ?_;refine bS (ι:=Nat×Array Nat) (j:=(i+1,u)) ⟨he,hA,by show a+1<=i+1;omega,by show i+1<=n+1;omega⟩ (by show b-(i+1)<b-i;omega) ⟨rfl,rfl,rfl,au some (bW BD),trivial⟩ uI
 rw[insOuter,if_neg (show ¬i<b by omega)]at he;subst he;refine Bz ?_;exact Gf O .nil ⟨O,O,hB⟩
open Go.Sort in
def vB {lt:Nat->Nat->Bool}{hi first root ch d}(h:¬2*root+1≥hi)(hc:ch<hi)(e:if 2*root+1+1<hi&&lt d[first +(2*root+1)]! d[first +(2*root+1)+1]! then ch=2*root+2 else ch=2*root+1):
  siftDown lt hi first root d=if !lt d[first +root]! d[first +ch]! then d else siftDown lt hi first ch (swp d (first +root) (first +ch)):=by
 rw[siftDown,dif_neg h];split at e
 ·rename_i h1
  subst e;rw[if_pos h1];split
  ·rfl
  first |rw[dif_pos hc]|rfl
 rename_i h1
 subst e;rw[if_neg h1]
open Go.Sort in
def ZP (hE:BP E)(hc:GJ E ts q ok cf){d}(hd:Cc ok n d){lo hi first}(hC:lo<=n)(hb:first +hi<=n)(hn:n<1099511627776):
  Ct E 143 [.slice (BM g) n c,BK lo,BK hi,BK first] [sl (BM g) c 9 1 n (CZ ts d),q]
   (fun v Q=>v= .tuple #[]/\Q=[sl (BM g) c 9 1 n (CZ ts (siftDown (BR cf) hi first lo d)),q]/\Cc ok n (siftDown (BR cf) hi first lo d)):=by
 refine bO (hE.fn Tryz.func143) O O O (fun R=>?_);simp only[dS,uV,uW];refine Bi ?_;refine dX (fun x:Nat×Array Nat=>[(0,.slice (BM g) n c),(2,BK hi),(3,BK first),(8,BK (x.1))]) (fun x=>[sl (BM g) c 9 1 n (CZ ts x.2),q,R]) (fun x=>hi-x.1) (fun x=>siftDown (BR cf) hi first x.1 x.2=siftDown (BR cf) hi first lo d/\Cc ok n x.2/\x.1<=n) (lo,d) ?_ ?_ ?_ ?_
 ·exact⟨O,hd,hC⟩
 ·exact BC
 ·exact uI
 rintro⟨ro,e⟩⟨he,hA,hD⟩;simp only at he hA hD ⊢;have hs:=hA.1;refine CY ?_;refine bE O (fun h1=>?_) (fun h1=>?_)
 ·rw[siftDown,dif_pos (show 2*ro+1≥hi by omega)]at he;subst he;refine Bw ?_;exact Gf O .nil ⟨O,O,hA⟩
 refine Bc ?_;refine dV 21 O (fun h2=>?_) (fun h2=>?_)
 ·have f0:=eO (ts:=ts) e (i:=first +(2*ro+1)) oO ((first:Int)+(2*(ro:Int)+1)).toNat oO;have f1:=eO (ts:=ts) e (i:=first +(2*ro+1)+1) oO ((first:Int)+(2*(ro:Int)+1)+1).toNat oO;have hF:=hc _ _ (hA.2 (first +(2*ro+1)) oO) (hA.2 (first +(2*ro+1)+1) oO);refine Gp ?_;refine BH (hF) O ?_;refine CG ?_;refine bE O (fun h3=>?_) (fun h3=>?_)
  ·have hk:=vB (lt:=BR cf) (d:=e) (first:=first) (show ¬2*ro+1≥hi by omega) (show 2*ro+2<hi by omega) (by rw[if_pos (by simp[BR,h3];omega)]);refine CB ?_;refine CW 9 (BL ((2*ro+2:Nat):Int)) O (bW oO) ?_;rw[hk]at he;have f2:=eO (ts:=ts) e (i:=first +ro) oO ((first:Int)+(ro:Int)).toNat oO;have f3:=eO (ts:=ts) e (i:=first +(2*ro+2)) oO ((first:Int)+((2*ro+2:Nat):Int)).toNat oO;have hB:=hc _ _ (hA.2 (first +ro) oO) (hA.2 (first +(2*ro+2)) oO);refine CK ?_;refine BH (hB) O ?_;refine CG ?_;refine gJ O (fun h5=>?_) (fun h5=>?_)
   ·rw[if_pos (by simp[BR,h5])]at he;subst he;refine Bw ?_;exact uZ O .nil ⟨O,O,hA⟩
   rw[if_neg (by simp[BR,h5])]at he;refine CG ?_;refine eZ 21 ([sl (BM g) c 9 1 n (CZ ts e),q]) [(23,[])] ?_ ?_
   ·exact uI
   refine uP 0 O (aB O) (uP 1 O (aB O) (uP 2 O (aB O) (uP 3 O (FD O O) (uP 4 O (aB O) (uP 5 O (aB O) (uP 6 O (aB O) (uP 7 O (FD O O) (uP 8 O (aB O) (uP 9 O (aB O) (uP 10 O (aB O) (uP 11 O (FD O O) (uP 12 O (CE O O) ?_))))))))))));refine uQ 13 O (uY) ?_;refine uP 14 O (aB O) (uP 15 O (aB O) (uP 16 O (aB O) (uP 17 O (FD O O) (uP 18 O (CE O O) ?_))));refine uQ 19 O (uY) ?_;refine uP 20 O (CE O O) ?_;apply iB O oK O;refine uJ ?_;refine uE ?_;refine uP 22 O (CE O O) ?_;apply gZ O oK oK O;refine uJ ?_;refine CB ?_;simp only[bP];rw[jW (ts:=ts) e (i:=(first +ro)) (j:=(first +(2*ro+2))) oO oO]
   case ho=>omega
   case ho'=>omega
   refine bS (ι:=Nat×Array Nat) (j:=(2*ro+2,swp e (first +ro) (first +(2*ro+2)))) ⟨he,hA.swp oO oO,by show 2*ro+2<=n;omega⟩ (by show hi-(2*ro+2)<hi-ro;omega) BC uI
  have hk:=vB (lt:=BR cf) (d:=e) (first:=first) (show ¬2*ro+1≥hi by omega) (show 2*ro+1<hi by omega) (by rw[if_neg (by simp[BR,h3])]);refine CL ?_;refine CW 9 (BL ((2*ro+1:Nat):Int)) O (bW oO) ?_;rw[hk]at he;have f2:=eO (ts:=ts) e (i:=first +ro) oO ((first:Int)+(ro:Int)).toNat oO;have f3:=eO (ts:=ts) e (i:=first +(2*ro+1)) oO ((first:Int)+((2*ro+1:Nat):Int)).toNat oO;have hB:=hc _ _ (hA.2 (first +ro) oO) (hA.2 (first +(2*ro+1)) oO);refine CK ?_;refine BH (hB) O ?_;refine CG ?_;refine gJ O (fun h5=>?_) (fun h5=>?_)
  ·rw[if_pos (by simp[BR,h5])]at he;subst he;refine Bw ?_;exact uZ O .nil ⟨O,O,hA⟩
  rw[if_neg (by simp[BR,h5])]at he;refine CG ?_;refine eZ 21 ([sl (BM g) c 9 1 n (CZ ts e),q]) [(23,[])] ?_ ?_
  ·exact uI
  refine uP 0 O (aB O) (uP 1 O (aB O) (uP 2 O (aB O) (uP 3 O (FD O O) (uP 4 O (aB O) (uP 5 O (aB O) (uP 6 O (aB O) (uP 7 O (FD O O) (uP 8 O (aB O) (uP 9 O (aB O) (uP 10 O (aB O) (uP 11 O (FD O O) (uP 12 O (CE O O) ?_))))))))))));refine uQ 13 O (uY) ?_;refine uP 14 O (aB O) (uP 15 O (aB O) (uP 16 O (aB O) (uP 17 O (FD O O) (uP 18 O (CE O O) ?_))));refine uQ 19 O (uY) ?_;refine uP 20 O (CE O O) ?_;apply iB O oK O;refine uJ ?_;refine uE ?_;refine uP 22 O (CE O O) ?_;apply gZ O oK oK O;refine uJ ?_;refine CB ?_;simp only[bP];rw[jW (ts:=ts) e (i:=(first +ro)) (j:=(first +(2*ro+1))) oO oO]
  case ho=>omega
  case ho'=>omega
  refine bS (ι:=Nat×Array Nat) (j:=(2*ro+1,swp e (first +ro) (first +(2*ro+1)))) ⟨he,hA.swp oO oO,by show 2*ro+1<=n;omega⟩ (by show hi-(2*ro+1)<hi-ro;omega) BC uI
 have hk:=vB (lt:=BR cf) (d:=e) (first:=first) (show ¬2*ro+1≥hi by omega) (show 2*ro+1<hi by omega) (by rw[if_neg (by simp;omega)]);refine FH ?_;refine CW 9 (BL ((2*ro+1:Nat):Int)) O (bW oO) ?_;rw[hk]at he;have f2:=eO (ts:=ts) e (i:=first +ro) oO ((first:Int)+(ro:Int)).toNat oO;have f3:=eO (ts:=ts) e (i:=first +(2*ro+1)) oO ((first:Int)+((2*ro+1:Nat):Int)).toNat oO;have hB:=hc _ _ (hA.2 (first +ro) oO) (hA.2 (first +(2*ro+1)) oO);refine CK ?_;refine BH (hB) O ?_;refine CG ?_;refine gJ O (fun h5=>?_) (fun h5=>?_)
 ·rw[if_pos (by simp[BR,h5])]at he;subst he;refine Bw ?_;exact uZ O .nil ⟨O,O,hA⟩
 rw[if_neg (by simp[BR,h5])]at he;refine CG ?_;refine eZ 21 ([sl (BM g) c 9 1 n (CZ ts e),q]) [(23,[])] ?_ ?_
 ·exact uI
 refine uP 0 O (aB O) (uP 1 O (aB O) (uP 2 O (aB O) (uP 3 O (FD O O) (uP 4 O (aB O) (uP 5 O (aB O) (uP 6 O (aB O) (uP 7 O (FD O O) (uP 8 O (aB O) (uP 9 O (aB O) (uP 10 O (aB O) (uP 11 O (FD O O) (uP 12 O (CE O O) ?_))))))))))));refine uQ 13 O (uY) ?_;refine uP 14 O (aB O) (uP 15 O (aB O) (uP 16 O (aB O) (uP 17 O (FD O O) (uP 18 O (CE O O) ?_))));refine uQ 19 O (uY) ?_;refine uP 20 O (CE O O) ?_;apply iB O oK O;refine uJ ?_;refine uE ?_;refine uP 22 O (CE O O) ?_;apply gZ O oK oK O;refine uJ ?_;refine CB ?_;simp only[bP];rw[jW (ts:=ts) e (i:=(first +ro)) (j:=(first +(2*ro+1))) oO oO]
 case ho=>omega
 case ho'=>omega
 refine bS (ι:=Nat×Array Nat) (j:=(2*ro+1,swp e (first +ro) (first +(2*ro+1)))) ⟨he,hA.swp oO oO,by show 2*ro+1<=n;omega⟩ (by show hi-(2*ro+1)<hi-ro;omega) BC uI
open Go.Sort in
def qLn (hE:BP E)(hc:GJ E ts q ok cf){d}(hd:Cc ok n d){a b}(hD:a<b)(hb:b<=n)(hn:n<1099511627776):
  Ct E 111 [.slice (BM g) n c,BK a,BK b] [sl (BM g) c 9 1 n (CZ ts d),q]
   (fun v Q=>v= .tuple #[]/\Q=[sl (BM g) c 9 1 n (CZ ts (heapSort (BR cf) d a b)),q]/\Cc ok n (heapSort (BR cf) d a b)):=by
 obtain⟨l,hl⟩:∃l,l=b-a:=⟨_,rfl⟩;have e0:heapSort (BR cf) d a b=heapPop (BR cf) a l (heapBuild (BR cf) l a ((l-1)/2+1) d):=by unfold heapSort;rw[<-hl]
 rw[e0];refine bO (hE.fn Tryz.func111) O O O (fun R=>?_);simp only[dS,uV,uW];refine Ci ?_;refine CW 8 (BL ((l:Nat):Int)) O (bW oO) ?_;refine Bc ?_;refine dX (fun x:Nat×Array Nat=>[(0,.slice (BM g) n c),(6,BK a),(7,BL 0),(8,BK l),(9,BL ((x.1:Int)-1))]) (fun x=>[sl (BM g) c 9 1 n (CZ ts x.2),q,R]) (fun x=>x.1) (fun x=>heapBuild (BR cf) l a x.1 x.2=heapBuild (BR cf) l a ((l-1)/2+1) d/\Cc ok n x.2/\x.1<=l) ((l-1)/2+1,d) ?_ ?_ ?_ ?_
 ·exact⟨O,hd,by show(l-1)/2+1<=l;omega⟩
 ·exact⟨O,O,O,O,au some (bW BD),trivial⟩
 ·exact uI
 rintro⟨k,e⟩⟨he,hB,hk⟩;simp only at he hB hk ⊢;refine Bi ?_;refine bE O (fun h1=>?_) (fun h1=>?_)
 ·obtain⟨k,rfl⟩:∃j,k=j+1:=⟨k-1,oO⟩;refine CL ?_;refine CW 9 (BL ((k:Nat):Int)) O (bW oO) ?_;refine Bi ?_;refine uX (ZP hE hc hB oO oO hn) O ?_;rintro _ _⟨rfl,rfl,hC⟩;simp only[uV,uW];refine Br ?_;refine bS (ι:=Nat×Array Nat) (j:=(k,siftDown (BR cf) l a k e)) ⟨he,hC,by show k<=l;omega⟩ (by show k<k+1;omega) BC uI
 obtain rfl:k=0:=by omega
 rw[heapBuild]at he;rw[<-he];clear he hd e0;refine CP ?_;refine dX (fun x:Nat×Array Nat=>[(0,.slice (BM g) n c),(6,BK a),(7,BL 0),(10,BL ((x.1:Int)-1))]) (fun x=>[sl (BM g) c 9 1 n (CZ ts x.2),q,R]) (fun x=>x.1) (fun x=>heapPop (BR cf) a x.1 x.2=heapPop (BR cf) a l e/\Cc ok n x.2/\x.1<=l) (l,e) ?_ ?_ ?_ ?_
 ·exact⟨O,hB,ai _⟩
 ·exact BC
 ·exact uI
 rintro⟨k,u⟩⟨hu,hA,hk⟩;simp only at hu hA hk ⊢;have hs:=hA.1;refine Bi ?_;refine bE O (fun h2=>?_) (fun h2=>?_)
 ·obtain⟨k,rfl⟩:∃j,k=j+1:=⟨k-1,oO⟩;have f0:=eO (ts:=ts) u (i:=a+k) oO ((a:Int)+(k:Int)).toNat oO;have f1:=eO (ts:=ts) u (i:=a) oO (a:Int).toNat oO;refine CL ?_;refine CW 10 (BL ((k:Nat):Int)) O (bW oO) ?_;refine CG ?_;refine eZ 17 ([sl (BM g) c 9 1 n (CZ ts u),q]) [(19,[])] ?_ ?_
  ·exact uI
  refine uP 0 O (aB O) (uP 1 O (aB O) (uP 2 O (aB O) (uP 3 O (aB O) (uP 4 O (aB O) (uP 5 O (FD O O) (uP 6 O (aB O) (uP 7 O (aB O) (uP 8 O (aB O) (uP 9 O (FD O O) (uP 10 O (CE O O) ?_))))))))));refine uQ 11 O (uY) ?_;refine uP 12 O (aB O) (uP 13 O (aB O) (uP 14 O (CE O O) ?_));refine uQ 15 O (uY) ?_;refine uP 16 O (CE O O) ?_;apply iB O oK O;refine uJ ?_;refine uE ?_;refine uP 18 O (CE O O) ?_;apply gZ O oK oK O;refine uJ ?_;refine Bv ?_;simp only[bP];rw[jW (ts:=ts) u (i:=a) (j:=(a+k)) oO oO]
  case ho=>omega
  case ho'=>omega
  refine Bw ?_;refine uX (ZP (lo:=0) hE hc (hA.swp (show a<n by omega) (show a+k<n by omega)) oO oO hn) rfl ?_;rintro _ _⟨rfl,rfl,hC⟩;simp only[uV,uW];refine Br ?_;refine bS (ι:=Nat×Array Nat) (j:=(k,siftDown (BR cf) k a 0 (swp u a (a+k)))) ⟨hu,hC,by show k<=l;omega⟩ (by show k<k+1;omega) BC uI
 obtain rfl:k=0:=by omega
 rw[heapPop]at hu;subst hu;refine Bz ?_;exact Gf O .nil ⟨O,O,hA⟩
end
section
variable {E:Bp}
variable {ts:Nat->List UInt8}{q:HP}{ok:Nat->Prop}{cf:Nat->Nat->Int}{g c n:Nat}
open Go.Sort in
def yA (hE:BP E)(hc:GJ E ts q ok cf){d}(hd:Cc ok n d){a b pv}(hQ:a<=pv)(hR:pv<b)(hb:b<=n)(hn:n<1099511627776):
  Ct E 117 [.slice (BM g) n c,BK a,BK b,BK pv] [sl (BM g) c 9 1 n (CZ ts d),q]
   (fun v Q=>v= BK ((partitionEqual (BR cf) d a b pv).1)/\Q=[sl (BM g) c 9 1 n (CZ ts (partitionEqual (BR cf) d a b pv).2),q]/\Cc ok n (partitionEqual (BR cf) d a b pv).2):=by
 have hs:=hd.1;have f2:=eO (ts:=ts) d (i:=pv) oO ((pv:Int)).toNat oO;have f3:=eO (ts:=ts) d (i:=a) oO ((a:Int)).toNat oO;obtain⟨r,hr⟩:∃r,r=partitionEqual (BR cf) d a b pv:=⟨_,rfl⟩;have hC:=hr;unfold partitionEqual at hC;rw[<-hr];refine bO (hE.fn Tryz.func117) O O O (fun R=>?_);simp only[dS,uV,uW];refine CB ?_;refine eZ 13 ([sl (BM g) c 9 1 n (CZ ts d),q]) [(15,[])] ?_ ?_
 ·exact uI
 refine uP 0 O (aB O) (uP 1 O (aB O) (uP 2 O (aB O) (uP 3 O (aB O) (uP 4 O (aB O) (uP 5 O (aB O) (uP 6 O (CE O O) ?_))))));refine uQ 7 O (uY) ?_;refine uP 8 O (aB O) (uP 9 O (aB O) (uP 10 O (CE O O) ?_));refine uQ 11 O (uY) ?_;refine uP 12 O (CE O O) ?_;apply iB O oK O;refine uJ ?_;refine uE ?_;refine uP 14 O (CE O O) ?_;apply gZ O oK oK O;refine uJ ?_;refine Bo ?_;simp only[bP];rw[jW (ts:=ts) d (i:=a) (j:=pv) oO oO]
 case ho=>omega
 case ho'=>omega
 refine CW 9 (BL ((a+1:Nat):Int)) O (bW oO) ?_;refine CW 10 (BL ((b-1:Nat):Int)) O (bW oO) ?_;have hG:=hd.swp (show a<n by omega) (show pv<n by omega);generalize swp d a pv=d1 at*;refine CL ?_;refine dX (fun x:Nat×Nat×Array Nat=>[(0,.slice (BM g) n c),(1,BK a),(9,BK (x.1)),(10,BK (x.2.1))]) (fun x=>[sl (BM g) c 9 1 n (CZ ts x.2.2),q,R]) (fun x=>x.2.1+1-x.1) (fun x=>partEqLoop (BR cf) a x.1 x.2.1 x.2.2=r/\Cc ok n x.2.2/\a<x.1/\a<=x.2.1/\x.1<=x.2.1+2/\x.2.1<b) (a+1,b-1,d1) ?_ ?_ ?_ ?_
 ·exact⟨hC.symm,hG,by show a<a+1;omega,by show a<=b-1;omega,by show a+1<=b-1+2;omega,by show b-1<b;omega⟩
 ·exact BC
 ·exact uI
 rintro⟨i,j,e⟩⟨he,hA,hi,hH,hI,hj⟩;simp only at he hA hi hH hI hj ⊢;have hS:=hA.1;rw[partEqLoop_eq]at he;obtain⟨i2,hD⟩:∃i2,scanUp (fun x=>!BR cf e[a]! x) e j i=i2:=⟨_,rfl⟩;rw[hD]at he;obtain⟨j2,hF⟩:∃j2,scanDown (fun x=>BR cf e[a]! x) e i2 j=j2:=⟨_,rfl⟩;rw[hF]at he;refine Bv ?_;refine jT (fun _:Unit=>[(0,.slice (BM g) n c),(1,BK a),(9,BL ((i2:Nat):Int)),(10,BL ((j:Nat):Int))]) (fun _=>[sl (BM g) c 9 1 n (CZ ts (e)),q,R]) (fun _=>i<=i2/\i2<=j+2) ?_ ?_
 ·refine Bv ?_;refine dX (fun x:Nat=>[(0,.slice (BM g) n c),(1,BK a),(9,BL ((x:Nat):Int)),(10,BL ((j:Nat):Int))]) (fun _=>[sl (BM g) c 9 1 n (CZ ts (e)),q,R]) (fun x=>j+1-x) (fun x=>scanUp (fun x=>!BR cf (e)[a]! x) (e) (j) x=i2/\i<=x/\x<=j+2) (i) ?_ ?_ ?_ ?_
  ·exact⟨hD,oO,oO⟩
  ·exact BC
  ·exact uI
  rintro x⟨hx,hJ,hK⟩;refine Bi ?_;refine dV 32 O (fun su=>?_) (fun su=>?_)
  ·have f0:=eO (ts:=ts) (e) (i:=x) oO ((x:Nat):Int).toNat oO;have f1:=eO (ts:=ts) (e) (i:=a) oO ((a:Nat):Int).toNat oO;have hB:=hc _ _ (hA.2 (a) oO) (hA.2 (x) oO);refine CY ?_;refine BH (hB) O ?_;refine Bw ?_;refine gJ O (fun gu=>?_) (fun gu=>?_)
   ·refine Bu ?_;refine bS (x+1) ⟨?_,oO,oO⟩ oO ⟨O,O,au some (bW oO),O,trivial⟩ uI;rw[<-hx];conv=>rhs;rw[scanUp,if_pos (by simp[BR,gu];omega)]
   rw[scanUp,if_neg (by simp[BR,gu])]at hx;rw[<-hx];refine Bz ?_;refine eX () oO BC uI
  rw[scanUp,if_neg (by simp;omega)]at hx;rw[<-hx];refine Cw ?_;refine eX () oO BC uI
 rintro _⟨hL,hM⟩;refine jT (fun _:Unit=>[(0,.slice (BM g) n c),(1,BK a),(9,BL ((i2:Nat):Int)),(10,BL ((j2:Nat):Int))]) (fun _=>[sl (BM g) c 9 1 n (CZ ts (e)),q,R]) (fun _=>a<=j2/\j2<=j) ?_ ?_
 ·refine Bv ?_;refine dX (fun x:Nat=>[(0,.slice (BM g) n c),(1,BK a),(9,BL ((i2:Nat):Int)),(10,BL ((x:Nat):Int))]) (fun _=>[sl (BM g) c 9 1 n (CZ ts (e)),q,R]) (fun x=>x) (fun x=>scanDown (fun x=>BR cf (e)[a]! x) (e) (i2) x=j2/\a<=x/\x<=j) (j) ?_ ?_ ?_ ?_
  ·exact⟨hF,oO,oO⟩
  ·exact BC
  ·exact uI
  rintro x⟨hx,hJ,hK⟩;refine Bi ?_;refine dV 49 O (fun sw=>?_) (fun sw=>?_)
  ·obtain⟨x,rfl⟩:∃k,x=k+1:=⟨x-1,oO⟩;have f0:=eO (ts:=ts) (e) (i:=x+1) oO ((x+1:Nat):Int).toNat oO;have f1:=eO (ts:=ts) (e) (i:=a) oO ((a:Nat):Int).toNat oO;have hB:=hc _ _ (hA.2 (a) oO) (hA.2 (x+1) oO);refine CY ?_;refine BH (hB) O ?_;refine CG ?_;refine bE O (fun gw=>?_) (fun gw=>?_)
   ·refine Bu ?_;refine bS (x) ⟨?_,oO,oO⟩ oO ⟨O,O,O,au some (bW oO),trivial⟩ uI;rw[<-hx];conv=>rhs;rw[scanDown,if_pos (by simp[BR,gw];omega)]
   rw[scanDown,if_neg (by simp[BR,gw])]at hx;rw[<-hx];refine Bz ?_;refine eX () oO BC uI
  have hN:x=j2:=by
   rw[<-hx];cases x with
   |zero=>rfl
   |succ x=>rw[scanDown,if_neg (by simp;omega)]
  rw[<-hN];refine CY ?_;refine eX () oO BC uI
 rintro _⟨hO,hP⟩;refine Br ?_;refine bE O (fun h7=>?_) (fun h7=>?_)
 ·rw[if_pos oO]at he;subst he;refine CP ?_;exact uZ O (.tmp O .nil) ⟨O,O,hA⟩
 rw[if_neg oO]at he;have f4:=eO (ts:=ts) e (i:=i2) oO ((i2:Int)).toNat oO;have f5:=eO (ts:=ts) e (i:=j2) oO ((j2:Int)).toNat oO;refine CG ?_;refine eZ 13 ([sl (BM g) c 9 1 n (CZ ts e),q]) [(15,[])] ?_ ?_
 ·exact uI
 refine uP 0 O (aB O) (uP 1 O (aB O) (uP 2 O (aB O) (uP 3 O (aB O) (uP 4 O (aB O) (uP 5 O (aB O) (uP 6 O (CE O O) ?_))))));refine uQ 7 O (uY) ?_;refine uP 8 O (aB O) (uP 9 O (aB O) (uP 10 O (CE O O) ?_));refine uQ 11 O (uY) ?_;refine uP 12 O (CE O O) ?_;apply iB O oK O;refine uJ ?_;refine uE ?_;refine uP 14 O (CE O O) ?_;apply gZ O oK oK O;refine uJ ?_;refine CU ?_;simp only[bP];rw[jW (ts:=ts) e (i:=i2) (j:=j2) oO oO]
 case ho=>omega
 case ho'=>omega
 refine bS (ι:=Nat×Nat×Array Nat) (j:=(i2+1,j2-1,swp e i2 j2)) ⟨he,hA.swp oO oO,by show a<i2+1;omega,by show a<=j2-1;omega,by show i2+1<=j2-1+2;omega,by show j2-1<b;omega⟩ (by show j2-1+1-(i2+1)<j+1-i;omega) ⟨rfl,rfl,au some (bW BD),au some (bW BD),trivial⟩ uI
open Go.Sort in
def qIk (hE:BP E)(hc:GJ E ts q ok cf){d}(hd:Cc ok n d){a b pv}(hW:a<=pv)(hX:pv<b)(hb:b<=n)(hn:n<1099511627776):
  Ct E 118 [.slice (BM g) n c,BK a,BK b,BK pv] [sl (BM g) c 9 1 n (CZ ts d),q]
   (fun v Q=>v= .tuple #[BK ((partition (BR cf) d a b pv).1),.bool (partition (BR cf) d a b pv).2.1]/\Q=[sl (BM g) c 9 1 n (CZ ts (partition (BR cf) d a b pv).2.2),q]/\Cc ok n (partition (BR cf) d a b pv).2.2):=by
 have hs:=hd.1;have f2:=eO (ts:=ts) d (i:=pv) oO ((pv:Int)).toNat oO;have f3:=eO (ts:=ts) d (i:=a) oO ((a:Int)).toNat oO;obtain⟨r,hr⟩:∃r,r=partition (BR cf) d a b pv:=⟨_,rfl⟩;have hA:=hr;unfold partition at hA;simp only at hA;rw[<-hr];refine bO (hE.fn Tryz.func118) O O O (fun R=>?_);simp only[dS,uV,uW];refine Bi ?_;refine eZ 13 ([sl (BM g) c 9 1 n (CZ ts d),q]) [(15,[])] ?_ ?_
 ·exact uI
 refine uP 0 O (aB O) (uP 1 O (aB O) (uP 2 O (aB O) (uP 3 O (aB O) (uP 4 O (aB O) (uP 5 O (aB O) (uP 6 O (CE O O) ?_))))));refine uQ 7 O (uY) ?_;refine uP 8 O (aB O) (uP 9 O (aB O) (uP 10 O (CE O O) ?_));refine uQ 11 O (uY) ?_;refine uP 12 O (CE O O) ?_;apply iB O oK O;refine uJ ?_;refine uE ?_;refine uP 14 O (CE O O) ?_;apply gZ O oK oK O;refine uJ ?_;refine Bo ?_;simp only[bP];rw[jW (ts:=ts) d (i:=a) (j:=pv) oO oO]
 case ho=>omega
 case ho'=>omega
 refine CW 10 (BL ((a+1:Nat):Int)) O (bW oO) ?_;refine CW 11 (BL ((b-1:Nat):Int)) O (bW oO) ?_;have hC:=hd.swp (show a<n by omega) (show pv<n by omega);generalize swp d a pv=d1 at*;have hY:=hC.1;obtain⟨i1,hI⟩:∃i1,scanUp (fun x=>BR cf x d1[a]!) d1 (b-1) (a+1)=i1:=⟨_,rfl⟩;rw[hI]at hA;obtain⟨j1,hJ⟩:∃j1,scanDown (fun x=>!BR cf x d1[a]!) d1 i1 (b-1)=j1:=⟨_,rfl⟩;rw[hJ]at hA;refine jT (fun _:Unit=>[(0,.slice (BM g) n c),(1,BK a),(10,BL ((i1:Nat):Int)),(11,BL (((b-1):Nat):Int))]) (fun _=>[sl (BM g) c 9 1 n (CZ ts (d1)),q,R]) (fun _=>(a+1)<=i1/\i1<=(b-1)+2) ?_ ?_
 ·refine Bv ?_;refine dX (fun x:Nat=>[(0,.slice (BM g) n c),(1,BK a),(10,BL ((x:Nat):Int)),(11,BL (((b-1):Nat):Int))]) (fun _=>[sl (BM g) c 9 1 n (CZ ts (d1)),q,R]) (fun x=>(b-1)+1-x) (fun x=>scanUp (fun x=>BR cf x (d1)[a]!) (d1) ((b-1)) x=i1/\(a+1)<=x/\x<=(b-1)+2) ((a+1)) ?_ ?_ ?_ ?_
  ·exact⟨hI,oO,oO⟩
  ·exact BC
  ·exact uI
  rintro x⟨hx,hF,hG⟩;refine Bi ?_;refine dV 33 O (fun sp=>?_) (fun sp=>?_)
  ·have f0:=eO (ts:=ts) (d1) (i:=x) oO ((x:Nat):Int).toNat oO;have f1:=eO (ts:=ts) (d1) (i:=a) oO ((a:Nat):Int).toNat oO;have hD:=hc _ _ (hC.2 (x) oO) (hC.2 (a) oO);refine CY ?_;refine BH (hD) O ?_;refine CG ?_;refine bE O (fun gp=>?_) (fun gp=>?_)
   ·refine Bu ?_;refine bS (x+1) ⟨?_,oO,oO⟩ oO ⟨O,O,au some (bW oO),O,trivial⟩ uI;rw[<-hx];conv=>rhs;rw[scanUp,if_pos (by simp[BR,gp];omega)]
   rw[scanUp,if_neg (by simp[BR,gp])]at hx;rw[<-hx];refine Bz ?_;refine eX () oO BC uI
  rw[scanUp,if_neg (by simp;omega)]at hx;rw[<-hx];refine CY ?_;refine eX () oO BC uI
 rintro _⟨hM,hN⟩;refine jT (fun _:Unit=>[(0,.slice (BM g) n c),(1,BK a),(10,BL ((i1:Nat):Int)),(11,BL ((j1:Nat):Int))]) (fun _=>[sl (BM g) c 9 1 n (CZ ts (d1)),q,R]) (fun _=>a<=j1/\j1<=(b-1)) ?_ ?_
 ·refine Bv ?_;refine dX (fun x:Nat=>[(0,.slice (BM g) n c),(1,BK a),(10,BL ((i1:Nat):Int)),(11,BL ((x:Nat):Int))]) (fun _=>[sl (BM g) c 9 1 n (CZ ts (d1)),q,R]) (fun x=>x) (fun x=>scanDown (fun x=>!BR cf x (d1)[a]!) (d1) (i1) x=j1/\a<=x/\x<=(b-1)) ((b-1)) ?_ ?_ ?_ ?_
  ·exact⟨hJ,oO,oO⟩
  ·exact BC
  ·exact uI
  rintro x⟨hx,hF,hG⟩;refine Bi ?_;refine dV 49 O (fun sq=>?_) (fun sq=>?_)
  ·obtain⟨x,rfl⟩:∃k,x=k+1:=⟨x-1,oO⟩;have f0:=eO (ts:=ts) (d1) (i:=x+1) oO ((x+1:Nat):Int).toNat oO;have f1:=eO (ts:=ts) (d1) (i:=a) oO ((a:Nat):Int).toNat oO;have hD:=hc _ _ (hC.2 (x+1) oO) (hC.2 (a) oO);refine CY ?_;refine BH (hD) O ?_;refine Bw ?_;refine gJ O (fun gq=>?_) (fun gq=>?_)
   ·refine Bu ?_;refine bS (x) ⟨?_,oO,oO⟩ oO ⟨O,O,O,au some (bW oO),trivial⟩ uI;rw[<-hx];conv=>rhs;rw[scanDown,if_pos (by simp[BR,gq];omega)]
   rw[scanDown,if_neg (by simp[BR,gq])]at hx;rw[<-hx];refine Bz ?_;refine eX () oO BC uI
  have hH:x=j1:=by
   rw[<-hx];cases x with
   |zero=>rfl
   |succ x=>rw[scanDown,if_neg (by simp;omega)]
  rw[<-hH];refine Cw ?_;refine eX () oO BC uI
 rintro _⟨hO,hP⟩;refine Br ?_;refine bE O (fun h6=>?_) (fun h6=>?_)
 ·rw[if_pos oO]at hA;subst hA;have f4:=eO (ts:=ts) d1 (i:=a) oO ((a:Int)).toNat oO;have f5:=eO (ts:=ts) d1 (i:=j1) oO ((j1:Int)).toNat oO;refine Bv ?_;refine eZ 13 ([sl (BM g) c 9 1 n (CZ ts d1),q]) [(15,[])] ?_ ?_
  ·exact uI
  refine uP 0 O (aB O) (uP 1 O (aB O) (uP 2 O (aB O) (uP 3 O (aB O) (uP 4 O (aB O) (uP 5 O (aB O) (uP 6 O (CE O O) ?_))))));refine uQ 7 O (uY) ?_;refine uP 8 O (aB O) (uP 9 O (aB O) (uP 10 O (CE O O) ?_));refine uQ 11 O (uY) ?_;refine uP 12 O (CE O O) ?_;apply iB O oK O;refine uJ ?_;refine uE ?_;refine uP 14 O (CE O O) ?_;apply gZ O oK oK O;refine uJ ?_;refine Bc ?_;simp only[bP];rw[jW (ts:=ts) d1 (i:=j1) (j:=a) oO oO]
  case ho=>omega
  case ho'=>omega
  exact uZ O (.tmp O (.tmp O .nil)) ⟨O,O,hC.swp oO oO⟩
 rw[if_neg oO]at hA;have f4:=eO (ts:=ts) d1 (i:=i1) oO ((i1:Int)).toNat oO;have f5:=eO (ts:=ts) d1 (i:=j1) oO ((j1:Int)).toNat oO;obtain⟨u,hu⟩:∃u,partLoop (BR cf) a (i1+1) (j1-1) (swp d1 i1 j1)=u:=⟨_,rfl⟩;rw[hu]at hA;refine CG ?_;refine eZ 13 ([sl (BM g) c 9 1 n (CZ ts d1),q]) [(15,[])] ?_ ?_
 ·exact uI
 refine uP 0 O (aB O) (uP 1 O (aB O) (uP 2 O (aB O) (uP 3 O (aB O) (uP 4 O (aB O) (uP 5 O (aB O) (uP 6 O (CE O O) ?_))))));refine uQ 7 O (uY) ?_;refine uP 8 O (aB O) (uP 9 O (aB O) (uP 10 O (CE O O) ?_));refine uQ 11 O (uY) ?_;refine uP 12 O (CE O O) ?_;apply iB O oK O;refine uJ ?_;refine uE ?_;refine uP 14 O (CE O O) ?_;apply gZ O oK oK O;refine uJ ?_;refine CY ?_;simp only[bP];rw[jW (ts:=ts) d1 (i:=i1) (j:=j1) oO oO]
 case ho=>omega
 case ho'=>omega
 refine dX (fun x:Nat×Nat×Array Nat=>[(0,.slice (BM g) n c),(1,BK a),(10,BK (x.1)),(11,BK (x.2.1))]) (fun x=>[sl (BM g) c 9 1 n (CZ ts x.2.2),q,R]) (fun x=>x.2.1+1-x.1) (fun x=>partLoop (BR cf) a x.1 x.2.1 x.2.2=u/\Cc ok n x.2.2/\a<x.1/\a<=x.2.1/\x.1<=x.2.1+2/\x.2.1<b) (i1+1,j1-1,swp d1 i1 j1) ?_ ?_ ?_ ?_
 ·exact⟨hu,hC.swp oO oO,by show a<i1+1;omega,by show a<=j1-1;omega,by show i1+1<=j1-1+2;omega,by show j1-1<b;omega⟩
 ·exact⟨O,O,au some (bW BD),au some (bW BD),trivial⟩
 ·exact uI
 rintro⟨i,j,e⟩⟨he,hB,hi,hQ,hR,hj⟩;simp only at he hB hi hQ hR hj ⊢;have hZ:=hB.1;rw[partLoop_eq]at he;obtain⟨i2,hK⟩:∃i2,scanUp (fun x=>BR cf x e[a]!) e j i=i2:=⟨_,rfl⟩;rw[hK]at he;obtain⟨j2,hL⟩:∃j2,scanDown (fun x=>!BR cf x e[a]!) e i2 j=j2:=⟨_,rfl⟩;rw[hL]at he;refine Bv ?_;refine jT (fun _:Unit=>[(0,.slice (BM g) n c),(1,BK a),(10,BL ((i2:Nat):Int)),(11,BL ((j:Nat):Int))]) (fun _=>[sl (BM g) c 9 1 n (CZ ts (e)),q,R]) (fun _=>i<=i2/\i2<=j+2) ?_ ?_
 ·refine Bv ?_;refine dX (fun x:Nat=>[(0,.slice (BM g) n c),(1,BK a),(10,BL ((x:Nat):Int)),(11,BL ((j:Nat):Int))]) (fun _=>[sl (BM g) c 9 1 n (CZ ts (e)),q,R]) (fun x=>j+1-x) (fun x=>scanUp (fun x=>BR cf x (e)[a]!) (e) (j) x=i2/\i<=x/\x<=j+2) (i) ?_ ?_ ?_ ?_
  ·exact⟨hK,oO,oO⟩
  ·exact BC
  ·exact uI
  rintro x⟨hx,hF,hG⟩;refine Bi ?_;refine dV 102 O (fun su=>?_) (fun su=>?_)
  ·have f0:=eO (ts:=ts) (e) (i:=x) oO ((x:Nat):Int).toNat oO;have f1:=eO (ts:=ts) (e) (i:=a) oO ((a:Nat):Int).toNat oO;have hD:=hc _ _ (hB.2 (x) oO) (hB.2 (a) oO);refine CY ?_;refine BH (hD) O ?_;refine CG ?_;refine bE O (fun gu=>?_) (fun gu=>?_)
   ·refine Bu ?_;refine bS (x+1) ⟨?_,oO,oO⟩ oO ⟨O,O,au some (bW oO),O,trivial⟩ uI;rw[<-hx];conv=>rhs;rw[scanUp,if_pos (by simp[BR,gu];omega)]
   rw[scanUp,if_neg (by simp[BR,gu])]at hx;rw[<-hx];refine Bz ?_;refine eX () oO BC uI
  rw[scanUp,if_neg (by simp;omega)]at hx;rw[<-hx];refine CY ?_;refine eX () oO BC uI
 rintro _⟨hS,hT⟩;refine jT (fun _:Unit=>[(0,.slice (BM g) n c),(1,BK a),(10,BL ((i2:Nat):Int)),(11,BL ((j2:Nat):Int))]) (fun _=>[sl (BM g) c 9 1 n (CZ ts (e)),q,R]) (fun _=>a<=j2/\j2<=j) ?_ ?_
 ·refine Bv ?_;refine dX (fun x:Nat=>[(0,.slice (BM g) n c),(1,BK a),(10,BL ((i2:Nat):Int)),(11,BL ((x:Nat):Int))]) (fun _=>[sl (BM g) c 9 1 n (CZ ts (e)),q,R]) (fun x=>x) (fun x=>scanDown (fun x=>!BR cf x (e)[a]!) (e) (i2) x=j2/\a<=x/\x<=j) (j) ?_ ?_ ?_ ?_
  ·exact⟨hL,oO,oO⟩
  ·exact BC
  ·exact uI
  rintro x⟨hx,hF,hG⟩;refine Bi ?_;refine dV 118 O (fun sw=>?_) (fun sw=>?_)
  ·obtain⟨x,rfl⟩:∃k,x=k+1:=⟨x-1,oO⟩;have f0:=eO (ts:=ts) (e) (i:=x+1) oO ((x+1:Nat):Int).toNat oO;have f1:=eO (ts:=ts) (e) (i:=a) oO ((a:Nat):Int).toNat oO;have hD:=hc _ _ (hB.2 (x+1) oO) (hB.2 (a) oO);refine CY ?_;refine BH (hD) O ?_;refine Bw ?_;refine gJ O (fun gw=>?_) (fun gw=>?_)
   ·refine Bu ?_;refine bS (x) ⟨?_,oO,oO⟩ oO ⟨O,O,O,au some (bW oO),trivial⟩ uI;rw[<-hx];conv=>rhs;rw[scanDown,if_pos (by simp[BR,gw];omega)]
   rw[scanDown,if_neg (by simp[BR,gw])]at hx;rw[<-hx];refine Bz ?_;refine eX () oO BC uI
  have hH:x=j2:=by
   rw[<-hx];cases x with
   |zero=>rfl
   |succ x=>rw[scanDown,if_neg (by simp;omega)]
  rw[<-hH];refine Cw ?_;refine eX () oO BC uI
 rintro _⟨hU,hV⟩;refine Br ?_;refine bE O (fun h7=>?_) (fun h7=>?_)
 ·rw[if_pos oO]at he;subst he;subst hA;have f6:=eO (ts:=ts) e (i:=a) oO ((a:Int)).toNat oO;have f7:=eO (ts:=ts) e (i:=j2) oO ((j2:Int)).toNat oO;refine Bi ?_;refine eZ 13 ([sl (BM g) c 9 1 n (CZ ts e),q]) [(15,[])] ?_ ?_
  ·exact uI
  refine uP 0 O (aB O) (uP 1 O (aB O) (uP 2 O (aB O) (uP 3 O (aB O) (uP 4 O (aB O) (uP 5 O (aB O) (uP 6 O (CE O O) ?_))))));refine uQ 7 O (uY) ?_;refine uP 8 O (aB O) (uP 9 O (aB O) (uP 10 O (CE O O) ?_));refine uQ 11 O (uY) ?_;refine uP 12 O (CE O O) ?_;apply iB O oK O;refine uJ ?_;refine uE ?_;refine uP 14 O (CE O O) ?_;apply gZ O oK oK O;refine uJ ?_;refine Bu ?_;simp only[bP];rw[jW (ts:=ts) e (i:=j2) (j:=a) oO oO]
  case ho=>omega
  case ho'=>omega
  exact uZ O (.tmp O (.tmp O .nil)) ⟨O,O,hB.swp oO oO⟩
 rw[if_neg oO]at he;have f6:=eO (ts:=ts) e (i:=i2) oO ((i2:Int)).toNat oO;have f7:=eO (ts:=ts) e (i:=j2) oO ((j2:Int)).toNat oO;refine CG ?_;refine eZ 13 ([sl (BM g) c 9 1 n (CZ ts e),q]) [(15,[])] ?_ ?_
 ·exact uI
 refine uP 0 O (aB O) (uP 1 O (aB O) (uP 2 O (aB O) (uP 3 O (aB O) (uP 4 O (aB O) (uP 5 O (aB O) (uP 6 O (CE O O) ?_))))));refine uQ 7 O (uY) ?_;refine uP 8 O (aB O) (uP 9 O (aB O) (uP 10 O (CE O O) ?_));refine uQ 11 O (uY) ?_;refine uP 12 O (CE O O) ?_;apply iB O oK O;refine uJ ?_;refine uE ?_;refine uP 14 O (CE O O) ?_;apply gZ O oK oK O;refine uJ ?_;refine CU ?_;simp only[bP];rw[jW (ts:=ts) e (i:=i2) (j:=j2) oO oO]
 case ho=>omega
 case ho'=>omega
 refine bS (ι:=Nat×Nat×Array Nat) (j:=(i2+1,j2-1,swp e i2 j2)) ⟨he,hB.swp oO oO,by show a<i2+1;omega,by show a<=j2-1;omega,by show i2+1<=j2-1+2;omega,by show j2-1<b;omega⟩ (by show j2-1+1-(i2+1)<j+1-i;omega) ⟨rfl,rfl,au some (bW BD),au some (bW BD),trivial⟩ uI
end
end Go.Proofs.YtnicahfnolhgbaaGreatDoor
namespace Sl
open Go Go.RowKit
variable {E:Bp}{n:Nat}{L:Fr}{S:List HP}{ty:TypeId}{pos:String}{af:Array Edge}{d:Option Nat}{gd:Option (Nat×Bool)}
def YD {x y}{xt yt:TypeId}{i j ky}(hx:ev L x=some (.int .u64 (i:Nat)))(hy:ev L y=some (.int ky (j:Nat)))(hj:j<=64):
  Yl E n L S ⟨d,.binOp .shl xt x y yt,ty,pos,af,gd⟩ (.int .u64 ((i*2^j%18446744073709551616:Nat):Int)):=fun a w g _=>by
 have h:=shift_shl_any .u64 ky (i:Int) ((j:Nat):Int) (oP j)
 have e:IntKind.u64.wrap ((i:Int)*2^min ((j:Nat):Int).toNat IntKind.u64.bits)=((i*2^j%18446744073709551616:Nat):Int):=by
  rw[ny,show min j IntKind.u64.bits=j from lm hj,IntKind.wrap_u64,AU,nz,qb];rfl
 rw[e]at h;simp[execOp,eqGuard,binOp,g.ev hx,g.ev hy,h];exact IntKind.wrap_u64 _
def YF {x y}{xt yt:TypeId}{i j}(hx:ev L x=some (.int .u64 (i:Nat)))(hy:ev L y=some (.int .u64 (j:Nat)))(hi:i<18446744073709551616)(hj:j<18446744073709551616):
  Yl E n L S ⟨d,.binOp .xor xt x y yt,ty,pos,af,gd⟩ (.int .u64 ((i^^^j:Nat):Int)):=fun a w g _=>by
 have h:=bits_xor_u64_nat i j hi hj;simp[execOp,eqGuard,binOp,Op.intBits,g.ev hx,g.ev hy];exact h
def Me {x y}{xt yt:TypeId}{i j}(hx:ev L x=some (.int .u64 (i:Nat)))(hy:ev L y=some (.int .u64 (j:Nat)))(hi:i<18446744073709551616)(hj:j<18446744073709551616):
  Yl E n L S ⟨d,.binOp .and xt x y yt,ty,pos,af,gd⟩ (.int .u64 ((i&&&j:Nat):Int)):=fun a w g _=>by
 have h:=bits_and_u64_nat i j hi hj;simp[execOp,eqGuard,binOp,Op.intBits,g.ev hx,g.ev hy];exact h
def Ms {x y}{xt yt:TypeId}{i j}(hx:ev L x=some (.int .u64 (i:Nat)))(hy:ev L y=some (.int .u64 (j:Nat)))(hi:i<18446744073709551616)(hj:j<=i):
  Yl E n L S ⟨d,.binOp .sub xt x y yt,ty,pos,af,gd⟩ (.int .u64 ((i-j:Nat):Int)):=fun a w g _=>by
 have h:IntKind.u64.wrap ((i:Int)-j)=((i-j:Nat):Int):=by rw[IntKind.wrap_u64];omega
 simp[execOp,eqGuard,binOp,Op.intArith,g.ev hx,g.ev hy];exact h
end Sl
namespace Go.Proofs.YtnicahfnolhgbaaGreatDoor
open Go Go.RowKit Sl Eg
set_option maxRecDepth 10000
section
variable {E:Bp}
variable {ts:Nat->List UInt8}{q:HP}{ok:Nat->Prop}{cf:Nat->Nat->Int}{g c n:Nat}
def Ub:ByteArray:=⟨([0,1]++(List.replicate 2 2++(List.replicate 4 3++(List.replicate 8 4++(List.replicate 16 5++(List.replicate 32 6++(List.replicate 64 7++List.replicate 128 8)))))):List UInt8).toArray⟩
def zAx:(List.range 256).all (fun k=>match Ub[k]? with |some c=>Nat.beq c.toNat (Go.Sort.bitsLen k)|none=>false)=true:=by decide +kernel
def qSg {k}(h:k<256):∃c,Ub[k]?=some c/\c.toNat=Go.Sort.bitsLen k:=by
 have h:=AV.1 zAx k (oC.2 h);cases e:Ub[k]? with
 |none=>rw[e]at h;simp at h
 |some c=>rw[e]at h;exact⟨c,rfl,mg h⟩
def qSo {i}(h:i<256):IntKind.u8.wrap ((i:Nat):Int)=(i:Nat):=by
 simp[IntKind.wrap,IntKind.bits,IntKind.signed];omega
def qKy (k:Nat)(h:256<=k):Go.Sort.bitsLen k=8+Go.Sort.bitsLen (k/2^8):=by
 apply xm
 ·rw[Go.Sort.bitsLen_le_iff];have:=Go.Sort.lt_two_pow_bitsLen (k/2^8);rw[yx];have h2:k=2^8*(k/2^8)+k%2^8:=(Nat.div_add_mod k (2^8)).symm;have h3:=tq k (show 2^8>0 by decide);have h4:2^8*(k/2^8+1)<=2^8*2^Go.Sort.bitsLen (k/2^8):=pu _ this;rw[Ap]at h4;omega
 have h9:8<=Go.Sort.bitsLen k:=by
  apply Classical.byContradiction;intro hh;have:=(Go.Sort.bitsLen_le_iff k 7).1 oO;omega
 have:Go.Sort.bitsLen (k/2^8)<=Go.Sort.bitsLen k-8:=by
  rw[Go.Sort.bitsLen_le_iff];have:=Go.Sort.lt_two_pow_bitsLen k;apply yz;rw[<-yx,show 8+(Go.Sort.bitsLen k-8)=Go.Sort.bitsLen k by omega];exact this
 omega
def qTa (hE:BP E){k}(h2:k<65536):Ct E 120 [.int .u64 (k:Nat)] [] (fun v Q=>v= BK (Go.Sort.bitsLen k)/\Q=[]):=by
 refine bO (hE.fn Tryz.func120) O O O (fun R=>?_);simp only[dS,uV,uW];refine Bq ?_;refine bE O (fun g1=>?_) (fun g1=>?_)
 ·exfalso;omega
 refine Bu ?_;refine bE O (fun g2=>?_) (fun g2=>?_)
 ·exfalso;omega
 refine Bu ?_;refine bE O (fun g3=>?_) (fun g3=>?_)
 ·refine CG ?_;refine uB (rA (j:=8) O O (by decide)) ?_;have hk:k/2^8<256:=oO;obtain⟨ch,f0,hA⟩:=qSg hk;have hB:=ch.toNat_lt;refine CP ?_;refine uB (dI O (hE.t O) (hE.t O) (qSo hk)) ?_;refine uB (qZ (bs:=Ub) O O (hE.t O) oO f0) ?_;refine uB (dI (i:=(ch.toNat:Int)) O (hE.t O) (hE.t O) (dJ oO oO)) ?_;refine uB (Ud (j:=(ch.toNat:Int)) O O oO oO) ?_;refine Bz ?_;exact uZ O (.tmp O .nil) ⟨by rw[hA,qKy k oO];exact bW oO,rfl⟩
 obtain⟨ch,f0,hA⟩:=qSg (k:=k) oO;have hB:=ch.toNat_lt;refine CB ?_;refine uB (dI O (hE.t O) (hE.t O) (qSo oO)) ?_;refine uB (qZ (bs:=Ub) O O (hE.t O) oO f0) ?_;refine uB (dI (i:=(ch.toNat:Int)) O (hE.t O) (hE.t O) (dJ oO oO)) ?_;refine uB (Ud (j:=(ch.toNat:Int)) O O oO oO) ?_;refine Bz ?_;exact uZ O (.tmp O .nil) ⟨by rw[hA];exact bW oO,rfl⟩
def wS (hE:BP E){k}(h2:k<65536):Ct E 74 [.int .u64 (k:Nat)] [] (fun v Q=>v= BK (Go.Sort.bitsLen k)/\Q=[]):=by
 refine bO (hE.fn Tryz.func74) O O O (fun R=>?_);simp only[dS,uV,uW];refine Bq ?_;refine BH (qTa hE h2) O ?_;refine Bz ?_;exact uZ O (.tmp O .nil) ⟨O,O⟩
def rC {k}(h:k<65536):Go.Sort.bitsLen k<=16:=(Go.Sort.bitsLen_le_iff k 16).2 h
def qOv (hE:BP E){k}(h2:k<65536):Ct E 144 [BK k] [] (fun v Q=>v= .int .u64 ((1<<<Go.Sort.bitsLen k:Nat):Int)/\Q=[]):=by
 have hb:=rC h2;have hp:2^Go.Sort.bitsLen k<=2^16:=ol (by decide) hb;refine bO (hE.fn Tryz.func144) O O O (fun R=>?_);simp only[dS,uV,uW];refine Bu ?_;refine BH (wS hE h2) O ?_;refine uB (YD (i:=1) O O oO) ?_;refine Bz ?_;exact uZ O (.tmp O .nil) ⟨bW (by rw[uk,qm oO]),O⟩
def qPc (hE:BP E){r X}(hX:X<18446744073709551616):Ct E 145 [uPt r] [cells r [.int .u64 (X:Nat)] 244] (fun v Q=>v= .int .u64 ((Go.Sort.xorNextN X:Nat):Int)/\Q=[cells r [.int .u64 ((Go.Sort.xorNextN X:Nat):Int)] 244]):=by
 obtain⟨A,hA⟩:∃A:Nat,A=X^^^(X*8192%18446744073709551616):=⟨_,rfl⟩;obtain⟨B,hB⟩:∃B:Nat,B=A^^^(A/128):=⟨_,rfl⟩;obtain⟨C,hC⟩:∃C:Nat,C=B^^^(B*131072%18446744073709551616):=⟨_,rfl⟩;have lA:A<18446744073709551616:=by rw[hA];exact ul (n:=64) oO oO
 have lB:B<18446744073709551616:=by rw[hB];exact ul (n:=64) oO oO
 have hv:Go.Sort.xorNextN X=C:=by unfold Go.Sort.xorNextN;simp only[];rw[<-hA,<-hB,<-hC]
 rw[hv];refine bO (hE.fn Tryz.func145) O O O (fun R=>?_);simp only[dS,uV,uW];refine CP ?_;refine uB (YD (i:=X) (j:=13) O O (by decide)) ?_;refine uB (YF (i:=X) (j:=X*2^13%18446744073709551616) O O hX oO) ?_;refine BU 10 (.int .u64 ((A:Nat):Int)) O (bW (by rw[hA])) ?_;refine Bq ?_;refine uB (rA (i:=A) (j:=7) O O (by decide)) ?_;refine uB (YF (i:=A) (j:=A/2^7) O O lA oO) ?_;refine BU 19 (.int .u64 ((B:Nat):Int)) O (bW (by rw[hB])) ?_;refine Bq ?_;refine uB (YD (i:=B) (j:=17) O O (by decide)) ?_;refine uB (YF (i:=B) (j:=B*2^17%18446744073709551616) O O lB oO) ?_;refine BU 28 (.int .u64 ((C:Nat):Int)) O (bW (by rw[hC])) ?_;refine CP ?_;exact uZ O (.tmp O .nil) ⟨O,O⟩
def Ec (a l m i0:Nat)(d:Array Nat):Nat->UInt64×Array Nat
 |0=>(UInt64.ofNat l,d)
 |t+1=>Go.Sort.breakStep a l m (Ec a l m i0 d t) (i0+t)
def NP {d a b}(h:b-a≥8):Go.Sort.breakPatterns d a b=(Ec a (b-a) (1<<<Go.Sort.bitsLen (b-a)) (a+(b-a)/4*2-1) d 3).2:=by
 unfold Go.Sort.breakPatterns;simp only[if_pos h];rfl
open Go.Sort in
def zN (hE:BP E){d}(hd:Cc ok n d){a b}(hK:a+12<b)(hb:b<=n)(hn:n<65536):
  Ct E 112 [.slice (BM g) n c,BK a,BK b] [sl (BM g) c 9 1 n (CZ ts d),q]
   (fun v Q=>v= .tuple #[]/\Q=[sl (BM g) c 9 1 n (CZ ts (breakPatterns d a b)),q]/\Cc ok n (breakPatterns d a b)):=by
 have e0:=NP (d:=d) (a:=a) (b:=b) oO;obtain⟨l,hl⟩:∃l,l=b-a:=⟨_,rfl⟩;obtain⟨i0,hC⟩:∃i0,i0=a+l/4*2-1:=⟨_,rfl⟩;rw[<-hl,<-hC]at e0;have hD:=rC (k:=l) oO;have hF:=lt_two_pow_bitsLen l;have hG:=two_pow_bitsLen_le (n:=l) oO;have hH:1<<<bitsLen l=2^bitsLen l:=by rw[uk,AB]
 obtain⟨m,hm⟩:∃m,m=1<<<bitsLen l:=⟨_,rfl⟩;have hL:l<m/\m<=2*l:=by rw[hm,hH];exact⟨hF,hG⟩
 rw[<-hm]at e0;rw[e0];have hI:(UInt64.ofNat l).toNat=l:=by simp;omega
 refine bO (hE.fn Tryz.func112) O O O (fun R=>?_);simp only[dS,uV,uW];refine Br ?_;refine CW 6 (BL ((l:Nat):Int)) O (bW oO) ?_;refine CB ?_;refine bE O (fun h0=>?_) (fun h0=>?_)
 ·refine Bz ?_;refine uU (dA (hE.t O) (fun b7=>?_));refine CB ?_;refine BH (qOv (k:=l) hE oO) O ?_;refine CU ?_;refine CW 9 (BL ((i0:Nat):Int)) O (bW oO) ?_;refine CW 8 (.int .u64 ((m:Nat):Int)) O (bW (by rw[hm])) ?_;refine Bv ?_;refine dX (fun t:Nat=>[(0,.slice (BM g) n c),(1,BK a),(6,BK l),(7,uPt b7),(8,.int .u64 (m:Nat)),(9,BL ((i0+t:Nat):Int))]) (fun t=>[cells b7 [.int .u64 (((Ec a l m i0 d t).1.toNat:Nat):Int)] 244,sl (BM g) c 9 1 n (CZ ts (Ec a l m i0 d t).2),q,R]) (fun t=>3-t) (fun t=>t<=3/\Cc ok n (Ec a l m i0 d t).2) 0 ?_ ?_ ?_ ?_
  ·exact⟨oO,hd⟩
  ·exact BC
  ·show ∀k,_->dW [cells b7 [.int .u64 (((UInt64.ofNat l).toNat:Nat):Int)] 244,sl (BM g) c 9 1 n (CZ ts d),q,R] k;rw[hI];exact uI
  rintro t⟨ht,hA⟩;refine CP ?_;refine bE O (fun h1=>?_) (fun h1=>?_)
  ·have hx:=(Ec a l m i0 d t).1.toNat_lt;have hJ:=xorNextN_lt _ hx;have hM:=hA.1;obtain⟨o,ho⟩:∃o,o=xorNextN (Ec a l m i0 d t).1.toNat&&&(m-1):=⟨_,rfl⟩;have hN:o<=m-1:=(by rw[ho];exact Nat.and_le_right)
   have hB:∀o',o'=(if o≥l then o-l else o)->Ec a l m i0 d (t+1)=(xorNext (Ec a l m i0 d t).1,swp (Ec a l m i0 d t).2 (i0+t) (a+o')):=by
    intro o' h';subst h';show breakStep a l m (Ec a l m i0 d t) (i0+t)=_;unfold breakStep;simp only;rw[xorNext_toNat,<-ho]
   refine CB ?_;refine BH (qPc hE hx) O ?_;refine Bv ?_;refine uB (Ms (i:=m) (j:=1) O O oO oO) ?_;refine uB (Me (i:=xorNextN (Ec a l m i0 d t).1.toNat) (j:=m-1) O O hJ oO) ?_;refine BU 39 (.int .u64 ((o:Nat):Int)) O (bW (by rw[ho])) ?_;refine uB (dI O (hE.t O) (hE.t O) (dJ oO oO)) ?_;refine Bo ?_;refine bE O (fun h2=>?_) (fun h2=>?_)
   ·refine Bi ?_;refine CW 10 (BL (((o-l):Nat):Int)) O (bW oO) ?_;have hs:=hB ((o-l)) (by rw[if_pos (show o≥l by omega)]);have f0:=eO (ts:=ts) (Ec a l m i0 d t).2 (i:=i0+t) oO (((i0+t:Nat):Int)).toNat oO;have f1:=eO (ts:=ts) (Ec a l m i0 d t).2 (i:=a+((o-l))) oO ((a:Int)+(((o-l):Nat):Int)).toNat oO;refine eZ 17 ([sl (BM g) c 9 1 n (CZ ts ((Ec a l m i0 d t).2)),q]) [(19,[])] ?_ ?_
    ·exact uI
    refine uP 0 O (aB O) (uP 1 O (aB O) (uP 2 O (aB O) (uP 3 O (aB O) (uP 4 O (aB O) (uP 5 O (FD O O) (uP 6 O (aB O) (uP 7 O (aB O) (uP 8 O (aB O) (uP 9 O (FD O O) (uP 10 O (CE O O) ?_))))))))));refine uQ 11 O (uY) ?_;refine uP 12 O (aB O) (uP 13 O (aB O) (uP 14 O (CE O O) ?_));refine uQ 15 O (uY) ?_;refine uP 16 O (CE O O) ?_;apply iB O oK O;refine uJ ?_;refine uE ?_;refine uP 18 O (CE O O) ?_;apply gZ O oK oK O;refine uJ ?_;refine Bi ?_;simp only[bP];rw[jW (ts:=ts) (Ec a l m i0 d t).2 (i:=(i0+t)) (j:=(a+((o-l)))) oO oO]
    case ho=>omega
    case ho'=>omega
    refine bS (t+1) ⟨oO,?_⟩ oO ⟨O,O,O,O,O,au some (bW oO),trivial⟩ ?_
    ·rw[hs];exact hA.swp oO oO
    rw[hs,xorNext_toNat];exact uI
   refine CL ?_;refine CW 10 (BL ((o:Nat):Int)) O (bW oO) ?_;have hs:=hB (o) (by rw[if_neg (show ¬o≥l by omega)]);have f0:=eO (ts:=ts) (Ec a l m i0 d t).2 (i:=i0+t) oO (((i0+t:Nat):Int)).toNat oO;have f1:=eO (ts:=ts) (Ec a l m i0 d t).2 (i:=a+(o)) oO ((a:Int)+((o:Nat):Int)).toNat oO;refine eZ 17 ([sl (BM g) c 9 1 n (CZ ts ((Ec a l m i0 d t).2)),q]) [(19,[])] ?_ ?_
   ·exact uI
   refine uP 0 O (aB O) (uP 1 O (aB O) (uP 2 O (aB O) (uP 3 O (aB O) (uP 4 O (aB O) (uP 5 O (FD O O) (uP 6 O (aB O) (uP 7 O (aB O) (uP 8 O (aB O) (uP 9 O (FD O O) (uP 10 O (CE O O) ?_))))))))));refine uQ 11 O (uY) ?_;refine uP 12 O (aB O) (uP 13 O (aB O) (uP 14 O (CE O O) ?_));refine uQ 15 O (uY) ?_;refine uP 16 O (CE O O) ?_;apply iB O oK O;refine uJ ?_;refine uE ?_;refine uP 18 O (CE O O) ?_;apply gZ O oK oK O;refine uJ ?_;refine Bi ?_;simp only[bP];rw[jW (ts:=ts) (Ec a l m i0 d t).2 (i:=(i0+t)) (j:=(a+(o))) oO oO]
   case ho=>omega
   case ho'=>omega
   refine bS (t+1) ⟨oO,?_⟩ oO ⟨O,O,O,O,O,au some (bW oO),trivial⟩ ?_
   ·rw[hs];exact hA.swp oO oO
   rw[hs,xorNext_toNat];exact uI
  obtain rfl:t=3:=by omega
  refine Bz ?_;exact Gf O .nil ⟨O,O,hA⟩
 exfalso;omega
end
section
variable {E:Bp}
variable {ts:Nat->List UInt8}{q:HP}{ok:Nat->Prop}{cf:Nat->Nat->Int}{g c n:Nat}
open Go.Sort in
def wK (hE:BP E)(hc:GJ E ts q ok cf){d}(hd:Cc ok n d){a b}(hO:a<b)(hb:b<=n)(hn:n<1099511627776):
  Ct E 115 [.slice (BM g) n c,BK a,BK b] [sl (BM g) c 9 1 n (CZ ts d),q]
   (fun v Q=>v= .bool (partialInsertionSort (BR cf) d a b).2/\Q=[sl (BM g) c 9 1 n (CZ ts (partialInsertionSort (BR cf) d a b).1),q]/\Cc ok n (partialInsertionSort (BR cf) d a b).1):=by
 obtain⟨r,hr⟩:∃r,r=partialInsertionSort (BR cf) d a b:=⟨_,rfl⟩;have hG:=hr.symm;unfold partialInsertionSort at hG;rw[<-hr];refine bO (hE.fn Tryz.func115) O O O (fun R=>?_);simp only[dS,uV,uW];refine Ci ?_;refine dX (fun x:Nat×Nat×Array Nat=>[(0,.slice (BM g) n c),(1,BK a),(2,BK b),(7,BK (x.2.1)),(8,BL (5-(x.1:Int)))]) (fun x=>[sl (BM g) c 9 1 n (CZ ts x.2.2),q,R]) (fun x=>x.1) (fun x=>partialIns (BR cf) a b x.1 x.2.1 x.2.2=r/\Cc ok n x.2.2/\x.1<=5/\a+1<=x.2.1/\x.2.1<=b) (5,a+1,d) ?_ ?_ ?_ ?_
 ·exact⟨hG,hd,ai 5,by show a+1<=a+1;omega,by show a+1<=b;omega⟩
 ·exact⟨O,O,O,au some (bW BD),O,trivial⟩
 ·exact uI
 rintro⟨s,i,e⟩⟨he,hB,hL,hi,hH⟩;simp only at he hB hL hi hH ⊢;have hP:=hB.1;refine Bi ?_;refine bE O (fun h0=>?_) (fun h0=>?_)
 ·obtain⟨s,rfl⟩:∃k,s=k+1:=⟨s-1,oO⟩;rw[partialIns_succ]at he;obtain⟨i2,hI⟩:∃i2,scanSorted (BR cf) e b i=i2:=⟨_,rfl⟩;rw[hI]at he;refine Bz ?_;refine jT (fun _:Unit=>[(0,.slice (BM g) n c),(1,BK a),(2,BK b),(7,BL ((i2:Nat):Int)),(8,BL (5-((s+1:Nat):Int)))]) (fun _=>[sl (BM g) c 9 1 n (CZ ts e),q,R]) (fun _=>i<=i2/\i2<=b) ?_ ?_
  ·refine Bv ?_;refine dX (fun x:Nat=>[(0,.slice (BM g) n c),(1,BK a),(2,BK b),(7,BL ((x:Nat):Int)),(8,BL (5-((s+1:Nat):Int)))]) (fun _=>[sl (BM g) c 9 1 n (CZ ts e),q,R]) (fun x=>b-x) (fun x=>scanSorted (BR cf) e b x=i2/\i<=x/\x<=b) i ?_ ?_ ?_ ?_
   ·exact⟨hI,ai _,hH⟩
   ·exact BC
   ·exact uI
   rintro x⟨hx,hQ,hR⟩;refine Bi ?_;refine dV 20 O (fun g1=>?_) (fun g1=>?_)
   ·have f0:=eO (ts:=ts) e (i:=x) oO ((x:Int)).toNat oO;have f1:=eO (ts:=ts) e (i:=x-1) oO ((x:Int)-1).toNat oO;have hF:=hc _ _ (hB.2 x oO) (hB.2 (x-1) oO);refine Ci ?_;refine BH (hF) O ?_;refine Bw ?_;refine gJ O (fun g2=>?_) (fun g2=>?_)
    ·refine Bu ?_;refine bS (x+1) ⟨?_,oO,oO⟩ oO ⟨O,O,O,au some (bW oO),O,trivial⟩ uI;rw[<-hx];conv=>rhs;rw[scanSorted,if_pos (by simp[BR,g2];omega)]
    rw[scanSorted,if_neg (by simp[BR,g2])]at hx;rw[<-hx];refine Bz ?_;refine eX () oO BC uI
   rw[scanSorted,if_neg (by simp;omega)]at hx;rw[<-hx];refine Ci ?_;refine eX () oO BC uI
  rintro _⟨k1,k2⟩;refine Br ?_;refine bE O (fun h1=>?_) (fun h1=>?_)
  ·rw[if_pos oO]at he;subst he;refine Bq ?_;exact uZ O (.tmp O .nil) ⟨O,O,hB⟩
  rw[if_neg oO]at he;refine Bo ?_;refine bE O (fun h2=>?_) (fun h2=>?_)
  ·rw[if_pos oO]at he;subst he;refine Bq ?_;exact uZ O (.tmp O .nil) ⟨O,O,hB⟩
  rw[if_neg oO]at he;have f2:=eO (ts:=ts) e (i:=i2) oO ((i2:Int)).toNat oO;have f3:=eO (ts:=ts) e (i:=i2-1) oO ((i2:Int)-1).toNat oO;refine CG ?_;refine eZ 15 ([sl (BM g) c 9 1 n (CZ ts e),q]) [(17,[])] ?_ ?_
  ·exact uI
  refine uP 0 O (aB O) (uP 1 O (aB O) (uP 2 O (aB O) (uP 3 O (aB O) (uP 4 O (Hd O O) (uP 5 O (aB O) (uP 6 O (aB O) (uP 7 O (Hd O O) (uP 8 O (CE O O) ?_))))))));refine uQ 9 O (uY) ?_;refine uP 10 O (aB O) (uP 11 O (aB O) (uP 12 O (CE O O) ?_));refine uQ 13 O (uY) ?_;refine uP 14 O (CE O O) ?_;apply iB O oK O;refine uJ ?_;refine uE ?_;refine uP 16 O (CE O O) ?_;apply gZ O oK oK O;refine uJ ?_;refine Bv ?_;simp only[bP];rw[jW (ts:=ts) e (i:=i2) (j:=(i2-1)) oO oO]
  case ho=>omega
  case ho'=>omega
  have hJ:=hB.swp (show i2<n by omega) (show i2-1<n by omega);generalize swp e i2 (i2-1)=e1 at*;obtain⟨e2,hC⟩:∃e2,fixDown (BR cf) a i2 e1=e2:=⟨_,rfl⟩;rw[hC]at he;unfold fixDown at hC;refine jT (fun _:Unit=>[(0,.slice (BM g) n c),(1,BK a),(2,BK b),(7,BL ((i2:Nat):Int)),(8,BL (5-((s+1:Nat):Int)))]) (fun _=>[sl (BM g) c 9 1 n (CZ ts e2),q,R]) (fun _=>Cc ok n e2) ?_ ?_
  ·refine Br ?_;refine bE O (fun h3=>?_) (fun h3=>?_)
   ·rw[if_pos oO]at hC;refine Br ?_;refine dX (fun x:Nat×Array Nat=>[(0,.slice (BM g) n c),(1,BK a),(2,BK b),(7,BL ((i2:Nat):Int)),(8,BL (5-((s+1:Nat):Int))),(9,BL ((x.1:Nat):Int))]) (fun x=>[sl (BM g) c 9 1 n (CZ ts x.2),q,R]) (fun x=>x.1) (fun x=>shiftDown (BR cf) x.1 x.2=e2/\Cc ok n x.2/\x.1<n) (i2-1,e1) ?_ ?_ ?_ ?_
    ·exact⟨hC,hJ,by show i2-1<n;omega⟩
    ·exact⟨O,O,O,O,O,au some (bW BD),trivial⟩
    ·exact uI
    rintro⟨j,u⟩⟨hu,hA,hj⟩;simp only at hu hA hj ⊢;have hM:=hA.1;refine Bi ?_;refine bE O (fun g3=>?_) (fun g3=>?_)
    ·obtain⟨j,rfl⟩:∃k,j=k+1:=⟨j-1,oO⟩;have f4:=eO (ts:=ts) u (i:=j+1) oO (((j+1:Nat):Int)).toNat oO;have f5:=eO (ts:=ts) u (i:=j) oO (((j+1:Nat):Int)-1).toNat oO;have hF:=hc _ _ (hA.2 (j+1) oO) (hA.2 j oO);rw[shiftDown]at hu;refine CX ?_;refine BH (hF) O ?_;refine CG ?_;refine gJ O (fun g4=>?_) (fun g4=>?_)
     ·rw[if_pos (by simp[BR,g4])]at hu;subst hu;refine CB ?_;refine eX () hA BC uI
     rw[if_neg (by simp[BR,g4])]at hu;refine CL ?_;refine eZ 15 ([sl (BM g) c 9 1 n (CZ ts u),q]) [(17,[])] ?_ ?_
     ·exact uI
     refine uP 0 O (aB O) (uP 1 O (aB O) (uP 2 O (aB O) (uP 3 O (aB O) (uP 4 O (Hd O O) (uP 5 O (aB O) (uP 6 O (aB O) (uP 7 O (Hd O O) (uP 8 O (CE O O) ?_))))))));refine uQ 9 O (uY) ?_;refine uP 10 O (aB O) (uP 11 O (aB O) (uP 12 O (CE O O) ?_));refine uQ 13 O (uY) ?_;refine uP 14 O (CE O O) ?_;apply iB O oK O;refine uJ ?_;refine uE ?_;refine uP 16 O (CE O O) ?_;apply gZ O oK oK O;refine uJ ?_;refine Bi ?_;simp only[bP];rw[jW (ts:=ts) u (i:=(j+1)) (j:=j) oO oO]
     case ho=>omega
     case ho'=>omega
     refine bS (ι:=Nat×Array Nat) (j:=(j,swp u (j+1) j)) ⟨hu,hA.swp oO oO,by show j<n;omega⟩ (by show j<j+1;omega) ⟨rfl,rfl,rfl,rfl,rfl,au some (bW BD),trivial⟩ uI
    obtain rfl:j=0:=by omega
    rw[shiftDown]at hu;subst hu;refine Bz ?_;refine eX () hA BC uI
   rw[if_neg oO]at hC;subst hC;refine Bv ?_;refine eX () hJ BC uI
  intro _ hK;obtain⟨e3,hD⟩:∃e3,fixUp (BR cf) b i2 e2=e3:=⟨_,rfl⟩;rw[hD]at he;unfold fixUp at hD;refine Br ?_;refine bE O (fun h4=>?_) (fun h4=>?_)
  ·rw[if_pos oO]at hD;refine Br ?_;refine dX (fun x:Nat×Array Nat=>[(0,.slice (BM g) n c),(1,BK a),(2,BK b),(7,BL ((i2:Nat):Int)),(8,BL (5-((s+1:Nat):Int))),(10,BL ((x.1:Nat):Int))]) (fun x=>[sl (BM g) c 9 1 n (CZ ts x.2),q,R]) (fun x=>b-x.1) (fun x=>shiftUp (BR cf) b x.1 x.2=e3/\Cc ok n x.2/\1<=x.1/\x.1<=b) (i2+1,e2) ?_ ?_ ?_ ?_
   ·exact⟨hD,hK,by show 1<=i2+1;omega,by show i2+1<=b;omega⟩
   ·exact⟨O,O,O,O,O,au some (bW BD),trivial⟩
   ·exact uI
   rintro⟨j,u⟩⟨hu,hA,hN,hj⟩;simp only at hu hA hN hj ⊢;have hM:=hA.1;refine Br ?_;rw[shiftUp]at hu;refine bE O (fun g5=>?_) (fun g5=>?_)
   ·rw[if_pos (show j<b by omega)]at hu;have f6:=eO (ts:=ts) u (i:=j) oO ((j:Int)).toNat oO;have f7:=eO (ts:=ts) u (i:=j-1) oO ((j:Int)-1).toNat oO;have hF:=hc _ _ (hA.2 j oO) (hA.2 (j-1) oO);refine CX ?_;refine BH (hF) O ?_;refine CG ?_;refine gJ O (fun g6=>?_) (fun g6=>?_)
    ·rw[if_pos (by simp[BR,g6])]at hu;subst hu;refine CP ?_;refine bS (ι:=Nat×Nat×Array Nat) (j:=(s,i2,u)) ⟨he,hA,by show s<=5;omega,by show a+1<=i2;omega,by show i2<=b;omega⟩ (by show s<s+1;omega) ⟨rfl,rfl,rfl,rfl,au some (bW BD),trivial⟩ uI
    rw[if_neg (by simp[BR,g6])]at hu;refine CL ?_;refine eZ 15 ([sl (BM g) c 9 1 n (CZ ts u),q]) [(17,[])] ?_ ?_
    ·exact uI
    refine uP 0 O (aB O) (uP 1 O (aB O) (uP 2 O (aB O) (uP 3 O (aB O) (uP 4 O (Hd O O) (uP 5 O (aB O) (uP 6 O (aB O) (uP 7 O (Hd O O) (uP 8 O (CE O O) ?_))))))));refine uQ 9 O (uY) ?_;refine uP 10 O (aB O) (uP 11 O (aB O) (uP 12 O (CE O O) ?_));refine uQ 13 O (uY) ?_;refine uP 14 O (CE O O) ?_;apply iB O oK O;refine uJ ?_;refine uE ?_;refine uP 16 O (CE O O) ?_;apply gZ O oK oK O;refine uJ ?_;refine Bi ?_;simp only[bP];rw[jW (ts:=ts) u (i:=j) (j:=(j-1)) oO oO]
    case ho=>omega
    case ho'=>omega
    refine bS (ι:=Nat×Array Nat) (j:=(j+1,swp u j (j-1))) ⟨hu,hA.swp oO oO,by show 1<=j+1;omega,by show j+1<=b;omega⟩ (by show b-(j+1)<b-j;omega) ⟨rfl,rfl,rfl,rfl,rfl,au some (bW BD),trivial⟩ uI
   rw[if_neg (show ¬j<b by omega)]at hu;subst hu;refine Bo ?_;refine bS (ι:=Nat×Nat×Array Nat) (j:=(s,i2,u)) ⟨he,hA,by show s<=5;omega,by show a+1<=i2;omega,by show i2<=b;omega⟩ (by show s<s+1;omega) ⟨rfl,rfl,rfl,rfl,au some (bW BD),trivial⟩ uI
  rw[if_neg oO]at hD;subst hD;refine Br ?_;refine bS (ι:=Nat×Nat×Array Nat) (j:=(s,i2,e2)) ⟨he,hK,by show s<=5;omega,by show a+1<=i2;omega,by show i2<=b;omega⟩ (by show s<s+1;omega) ⟨rfl,rfl,rfl,rfl,au some (bW BD),trivial⟩ uI
 obtain rfl:s=0:=by omega
 rw[partialIns]at he;subst he;refine Bo ?_;exact uZ O (.tmp O .nil) ⟨O,O,hB⟩
end
end Go.Proofs.YtnicahfnolhgbaaGreatDoor
namespace Go.Sort
def QM (lt:Nat->Nat->Bool)(d3:Array Nat)(a b limit:Nat)(wB wP:Bool)(pivot:Nat):Array Nat:=
 if a>0&&!lt d3[a-1]! d3[pivot]! then
  match partitionEqual lt d3 a b pivot with
  |(mid,d4)=>if _h:a<mid/\mid<=b then pdq lt d4 mid b limit wB wP else d4
 else
  match partition lt d3 a b pivot with
  |(mid,alreadyPartitioned,d4)=>
   if _h:a<=mid/\mid<b then
    if mid-a<b-mid then
     pdq lt (pdq lt d4 a mid limit true true) (mid+1) b limit (decide (mid-a≥(b-a)/8)) alreadyPartitioned
    else
     pdq lt (pdq lt d4 (mid+1) b limit true true) a mid limit (decide (b-mid≥(b-a)/8)) alreadyPartitioned
   else d4
def QK (lt:Nat->Nat->Bool)(d2:Array Nat)(a b limit:Nat)(wB wP:Bool)(pivot:Nat)(hint:Hint):Array Nat:=
 let pi:=if wB&&wP&&hint= .increasing then partialInsertionSort lt d2 a b else(d2,false)
 if pi.2 then pi.1 else QM lt pi.1 a b limit wB wP pivot
def QI (lt:Nat->Nat->Bool)(d1:Array Nat)(a b limit:Nat)(wB wP:Bool):Array Nat:=
 let c:=choosePivot lt d1 a b
 QK lt (if c.2= .decreasing then reverseRange d1 a b else d1) a b limit wB wP (if c.2= .decreasing then(b-1)-(c.1-a)else c.1) (if c.2= .decreasing then Hint.increasing else c.2)
def qUu {lt:Nat->Nat->Bool}{d a b limit wB wP}(h:¬b-a<=12)(h0:¬limit=0):pdq lt d a b limit wB wP=QI lt (if !wB then breakPatterns d a b else d) a b (if !wB then limit-1 else limit) wB wP:=by
 rw[pdq,if_neg h,if_neg h0];rfl
end Go.Sort
namespace Go.Proofs.YtnicahfnolhgbaaGreatDoor
open Go Go.RowKit Sl Eg
set_option maxRecDepth 10000
section
variable {E:Bp}
variable {ts:Nat->List UInt8}{q:HP}{ok:Nat->Prop}{cf:Nat->Nat->Int}{g c n:Nat}
def qUc {h:Go.Sort.Hint}(e:Sy h=2):h= .decreasing:=by cases h<;>simp[Sy]at e ⊢
def qUe {h:Go.Sort.Hint}(e:Sy h=1):h= .increasing:=by cases h<;>simp[Sy]at e ⊢
open Go.Sort in
def Nn (hE:BP E)(hc:GJ E ts q ok cf)(hO:SWO (BR cf))(hn:n<65536):∀(k:Nat){d:Array Nat}(hd:Cc ok n d){a b limit:Nat}(hk:b-a<=k)(hL:a<=b)(hb:b<=n)(hB:limit<=1000),
  Ct E 73 [.slice (BM g) n c,BK a,BK b,BK limit] [sl (BM g) c 9 1 n (CZ ts d),q]
   (fun v Q=>v= .tuple #[]/\Q=[sl (BM g) c 9 1 n (CZ ts (pdq (BR cf) d a b limit true true)),q]/\Cc ok n (pdq (BR cf) d a b limit true true)):=by
 intro k;induction k using Nat.strongRecOn with
 |_ k ih=>
 intro d hd a b limit hk hL hb hB;obtain⟨r,hr⟩:∃r,r=pdq (BR cf) d a b limit true true:=⟨_,rfl⟩;rw[<-hr];refine bO (hE.fn Tryz.func73) O O O (fun R=>?_);simp only[dS,uV,uW];refine Bo ?_;refine dX (fun x:(Nat×Nat×Nat)×Bool×Bool×Array Nat=>[(0,.slice (BM g) n c),(1,BK (x.1.1)),(2,BK (x.1.2.1)),(3,BK (x.1.2.2)),(8,.bool x.2.1),(9,.bool x.2.2.1)]) (fun x=>[sl (BM g) c 9 1 n (CZ ts x.2.2.2),q,R]) (fun x=>x.1.2.1-x.1.1) (fun x=>pdq (BR cf) x.2.2.2 x.1.1 x.1.2.1 x.1.2.2 x.2.1 x.2.2.1=r/\Cc ok n x.2.2.2/\x.1.1<=x.1.2.1/\x.1.2.1<=n/\x.1.2.2<=1000/\x.1.2.1-x.1.1<=k) ((a,b,limit),true,true,d) ?_ ?_ ?_ ?_
 ·exact⟨hr.symm,hd,hL,hb,hB,hk⟩
 ·exact BC
 ·exact uI
 clear hr hd hk hL hb hB a b limit d;rintro⟨⟨a,b,limit⟩,wB,wP,d⟩⟨he,hd,hL,hb,hB,hk⟩;simp only at he hd hL hb hB hk ⊢;have hs:=hd.1;refine Bu ?_;obtain⟨l,hl⟩:∃l,l=b-a:=⟨_,rfl⟩;refine CW 10 (BL ((l:Nat):Int)) O (bW oO) ?_;refine Bi ?_;refine bE O (fun h1=>?_) (fun h1=>?_)
 ·rw[pdq,if_pos oO]at he;refine Bw ?_;refine uX (zQ hE hc hd hL hb oO) O ?_;rintro _ _⟨rfl,rfl,hA⟩;simp only[uV,uW];rw[he]at hA ⊢;refine Bi ?_;exact uZ O .nil ⟨O,O,hA⟩
 refine Bu ?_;refine bE O (fun h2=>?_) (fun h2=>?_)
 ·rw[pdq,if_neg oO,if_pos oO]at he;refine Bw ?_;refine uX (qLn hE hc hd oO hb oO) O ?_;rintro _ _⟨rfl,rfl,hA⟩;simp only[uV,uW];rw[he]at hA ⊢;refine Bi ?_;exact uZ O .nil ⟨O,O,hA⟩
 rw[qUu oO oO]at he;obtain⟨d1,hM⟩:∃d1,(if !wB then breakPatterns d a b else d)=d1:=⟨_,rfl⟩;obtain⟨li,hQ⟩:∃li,(if !wB then limit-1 else limit)=li:=⟨_,rfl⟩;rw[hM,hQ]at he;refine CL ?_;refine jT (fun _:Unit=>[(0,.slice (BM g) n c),(1,BK a),(2,BK b),(8,.bool wB),(9,.bool wP),(10,BL ((l:Nat):Int)),(3,BL ((li:Nat):Int))]) (fun _=>[sl (BM g) c 9 1 n (CZ ts d1),q,R]) (fun _=>Cc ok n d1/\li<=1000) ?_ ?_
 ·refine CB ?_;refine sI O (fun h3=>?_) (fun h3=>?_)
  ·rw[if_pos h3]at hM hQ;refine Bw ?_;refine uX (zN hE hd oO hb hn) O ?_;rintro _ _⟨rfl,rfl,hA⟩;simp only[uV,uW];rw[hM]at hA ⊢;refine Bi ?_;refine eX () ⟨hA,oO⟩ ⟨O,O,O,O,O,O,au some (bW oO),trivial⟩ uI
  rw[if_neg (by rw[h3];simp)]at hM hQ;subst hM hQ;refine Bv ?_;refine eX () ⟨hd,oO⟩ BC uI
 rintro _⟨hT,hC⟩;unfold QI at he;obtain⟨cp,hY⟩:∃cp,choosePivot (BR cf) d1 a b=cp:=⟨_,rfl⟩;have hU:=choosePivot_holds (BR cf) d1 a b oO;rw[hY]at hU he;simp only at he;refine Bw ?_;refine BH (qCv hE hc hT oO hb oO) O ?_;rw[hY];obtain⟨d2,hA⟩:∃d2,(if cp.2=Hint.decreasing then reverseRange d1 a b else d1)=d2:=⟨_,rfl⟩;obtain⟨pv,hR⟩:∃pv,(if cp.2=Hint.decreasing then(b-1)-(cp.1-a)else cp.1)=pv:=⟨_,rfl⟩;obtain⟨hi,hN⟩:∃hi,(if cp.2=Hint.decreasing then Hint.increasing else cp.2)=hi:=⟨_,rfl⟩;rw[hA,hR,hN]at he;refine Bi ?_;refine jT (fun _:Unit=>[(0,.slice (BM g) n c),(1,BK a),(2,BK b),(8,.bool wB),(9,.bool wP),(10,BL ((l:Nat):Int)),(3,BL ((li:Nat):Int)),(11,BL ((pv:Nat):Int)),(12,BL ((Sy hi:Nat):Int))]) (fun _=>[sl (BM g) c 9 1 n (CZ ts d2),q,R]) (fun _=>Cc ok n d2/\a<=pv/\pv<b) ?_ ?_
 ·refine CB ?_;refine bE O (fun h4=>?_) (fun h4=>?_)
  ·have hV:cp.2= .decreasing:=qUc oO;rw[if_pos hV]at hA hR hN;refine Bw ?_;refine uX (qBn hE hT oO hb oO) O ?_;rintro _ _⟨rfl,rfl,hZ⟩;simp only[uV,uW];rw[hA]at hZ ⊢;refine CX ?_;refine eX () ⟨hZ,oO,oO⟩ ⟨O,O,O,O,O,O,O,au some (bW oO),by subst hN;rfl,trivial⟩ uI
  have hV:¬cp.2= .decreasing:=fun e=>h4 (by rw[e];rfl)
  rw[if_neg hV]at hA hR hN;subst hA hR hN;refine Bv ?_;refine eX () ⟨hT,hU.1,hU.2⟩ BC uI
 rintro _⟨hG,hH,hI⟩;unfold QK at he;obtain⟨pi,hD⟩:∃pi,(if wB&&wP&&decide (hi=Hint.increasing)then partialInsertionSort (BR cf) d2 a b else(d2,false))=pi:=⟨_,rfl⟩;rw[hD]at he;refine jT (fun _:Unit=>[(0,.slice (BM g) n c),(1,BK a),(2,BK b),(8,.bool wB),(9,.bool wP),(10,BL ((l:Nat):Int)),(3,BL ((li:Nat):Int)),(11,BL ((pv:Nat):Int))]) (fun _=>[sl (BM g) c 9 1 n (CZ ts pi.1),q,R]) (fun _=>Cc ok n pi.1/\pi.2=false) ?_ ?_
 ·refine Bz ?_;refine vY 62 O (fun h5=>?_) (fun h5=>?_)
  ·refine Bz ?_;refine vY 65 O (fun h6=>?_) (fun h6=>?_)
   ·refine Bi ?_;refine bE O (fun h7=>?_) (fun h7=>?_)
    ·have hm:hi= .increasing:=qUe oO;rw[if_pos (by rw[h5,h6,hm];rfl)]at hD;refine Bw ?_;refine uX (wK hE hc hG oO hb oO) O ?_;rintro _ _⟨rfl,rfl,hF⟩;simp only[uV,uW];rw[hD]at hF ⊢;refine CL ?_;refine sI O (fun h8=>?_) (fun h8=>?_)
     ·rw[if_pos h8]at he;subst he;refine Bw ?_;exact uZ O .nil ⟨O,O,hF⟩
     refine Bv ?_;refine eX () ⟨hF,h8⟩ BC uI
    rw[if_neg (by intro e;simp at e;rw[e.2]at h7;exact h7 rfl)]at hD;subst hD;refine Bv ?_;refine eX () ⟨hG,O⟩ BC uI
   rw[if_neg (by intro e;simp at e;rw[h6]at e;simp at e)]at hD;subst hD;refine Bi ?_;refine eX () ⟨hG,O⟩ BC uI
  rw[if_neg (by intro e;simp at e;rw[h5]at e;simp at e)]at hD;subst hD;refine Bc ?_;refine eX () ⟨hG,O⟩ BC uI
 rintro _⟨hF,ha⟩;rw[if_neg (by rw[ha];simp)]at he;obtain⟨d3,hf⟩:∃d3,pi.1=d3:=⟨_,rfl⟩;rw[hf]at he hF ⊢;clear hD ha hf hA hR hN hM hQ;have hq:=hF.1;unfold QM at he;refine jT (fun _:Unit=>[(0,.slice (BM g) n c),(1,BK a),(2,BK b),(8,.bool wB),(9,.bool wP),(10,BL ((l:Nat):Int)),(3,BL ((li:Nat):Int)),(11,BL ((pv:Nat):Int))]) (fun _=>[sl (BM g) c 9 1 n (CZ ts d3),q,R]) (fun _=>¬(decide (a>0)&&!BR cf d3[a-1]! d3[pv]!)=true) ?_ ?_
 ·refine Bw ?_;refine dV 75 O (fun h9=>?_) (fun h9=>?_)
  ·have f0:=eO (ts:=ts) d3 (i:=a-1) oO ((a:Int)-1).toNat oO;have f1:=eO (ts:=ts) d3 (i:=pv) oO ((pv:Int)).toNat oO;have ho:=hc _ _ (hF.2 (a-1) oO) (hF.2 pv oO);refine Ci ?_;refine BH (ho) O ?_;refine Bw ?_;refine gJ O (fun g9=>?_) (fun g9=>?_)
   ·rw[if_pos (by simp[BR,g9];omega)]at he;have ht:=Go.Sort.size_swp d3 a pv;have hJ:=partEqLoop_spec (BR cf) a b _ (a+1) (b-1) (swp d3 a pv) (ai _) oO oO oO oO (fun t h1 h2=>by omega) (fun t h1 h2=>by omega);obtain⟨pq,hW⟩:∃pq,partitionEqual (BR cf) d3 a b pv=pq:=⟨_,rfl⟩;have hK:a<pq.1/\pq.1<=b:=(by rw[<-hW];exact⟨hJ.1,hJ.2.1⟩);rw[hW]at he;obtain⟨md,dq⟩:=pq;simp only at he hK;rw[dif_pos hK]at he;refine CB ?_;refine uX (yA hE hc hF hH hI hb oO) O ?_;rintro _ _⟨rfl,rfl,hP⟩;simp only[uV,uW];rw[hW]at hP ⊢;refine Bq ?_;refine bS (ι:=(Nat×Nat×Nat)×Bool×Bool×Array Nat) (j:=((md,b,li),wB,wP,dq)) ⟨he,hP,hK.2,hb,hC,by show b-md<=k;omega⟩ (by show b-md<b-a;omega) BC uI
   refine Bv ?_;refine eX () (by simp[BR,g9]) BC uI
  refine CX ?_;refine eX () (by simp;omega) BC uI
 intro _ hg;rw[if_neg hg]at he;obtain⟨pt,hh⟩:∃pt,partition (BR cf) d3 a b pv=pt:=⟨_,rfl⟩;have hJ:=partition_holds (BR cf) hO d3 a b pv hH hI oO;rw[hh]at he hJ;have hS:=hJ.1;have hj:=hJ.2.1;clear hJ hg;obtain⟨mid,al,d4⟩:=pt;simp only at he hS hj;rw[dif_pos ⟨hS,hj⟩]at he;refine CB ?_;refine uX (qIk hE hc hF hH hI hb oO) O ?_;rintro _ _⟨rfl,rfl,hP⟩;simp only[uV,uW];rw[hh]at hP ⊢;refine RF ?_;refine bE O (fun hp=>?_) (fun hp=>?_)
 ·rw[if_pos oO]at he;refine Br ?_;refine CW 8 (.bool (decide (mid-a≥(b-a)/8))) O (au Value.bool (decide_eq_decide.2 oO)) ?_;refine CB ?_;refine uX (ih (mid-a) oO hP (ai _) hS oO hC) O ?_;rintro _ _⟨rfl,rfl,hX⟩;simp only[uV,uW];refine Br ?_;refine bS (ι:=(Nat×Nat×Nat)×Bool×Bool×Array Nat) (j:=((mid+1,b,li),decide (mid-a≥(b-a)/8),al,pdq (BR cf) d4 a mid li true true)) ⟨he,hX,by show mid+1<=b;omega,hb,hC,by show b-(mid+1)<=k;omega⟩ (by show b-(mid+1)<b-a;omega) ⟨rfl,au some (bW BD),rfl,rfl,rfl,rfl,trivial⟩ uI
 rw[if_neg oO]at he;refine Br ?_;refine CW 8 (.bool (decide (b-mid≥(b-a)/8))) O (au Value.bool (decide_eq_decide.2 oO)) ?_;refine Bi ?_;refine BU 129 (BL ((mid+1:Nat):Int)) O (bW oO) ?_;refine uX (ih (b-(mid+1)) oO hP (ai _) oO hb hC) O ?_;rintro _ _⟨rfl,rfl,hX⟩;simp only[uV,uW];refine Bi ?_;refine bS (ι:=(Nat×Nat×Nat)×Bool×Bool×Array Nat) (j:=((a,mid,li),decide (b-mid≥(b-a)/8),al,pdq (BR cf) d4 (mid+1) b li true true)) ⟨he,hX,hS,by show mid<=n;omega,hC,by show mid-a<=k;omega⟩ (by show mid-a<b-a;omega) BC uI
end
section
variable {E:Bp}{g c:Nat}
def UK (ts:Nat->List UInt8):Go.Sort.SWO (BR (Qj ts)) where
 irrefl:=fun x=>by
  unfold BR Qj;rw[qVu];rfl
 trans:=fun x y z h1 h2=>by
  have g1:Cr (ts x) (ts y)<0:=of_decide_eq_true h1;have g2:Cr (ts y) (ts z)<0:=of_decide_eq_true h2;refine oI (show Cr (ts x) (ts z)<0 from ?_);have g3:=Zy (Int.le_of_lt g1) (Int.le_of_lt g2);by_cases e:Cr (ts x) (ts z)=0
  ·have e2:=Wq.1 e;rw[e2,qK]at g1;omega
  omega
 ntrans:=fun x y z h1 h2=>by
  have g1:¬Cr (ts x) (ts y)<0:=of_decide_eq_false h1;have g2:¬Cr (ts y) (ts z)<0:=of_decide_eq_false h2;refine oM (show ¬Cr (ts x) (ts z)<0 from ?_);have e1:=qK (ts x) (ts y);have e2:=qK (ts y) (ts z);have e3:=qK (ts x) (ts z);have g3:=Zy (A:=ts z) (B:=ts y) (C:=ts x) oO oO;omega
def LY {ts:Nat->List UInt8}{n d}(h:d.size=n)(hs:Go.Sort.SortedIn (BR (Qj ts)) 0 n d):(d.toList.map ts).Pairwise fun a b=>Cr a b<=0:=by
 rw[wu,uo];intro i j hi hj hA;have:=of_decide_eq_false (hs i j (av _) hA (by simp at hj;omega));simp only[Qj]at this;rw[getElem!_pos d j (by simpa using hj),getElem!_pos d i (by simpa using hi)]at this;simp only[Array.getElem_toList];have e:=qK (ts d[i]) (ts d[j]);omega
def Li (l:List (List UInt8)):(List.range l.length).map (fun i=>l.getD i [])=l:=by
 apply mh;intro i;rw[bn];by_cases h:i<l.length
 ·rw[lu h];simp[h]
 rw[oL.2 (by simpa using h),oL.2 oO];rfl
def WO {H}(k:PH)(x:dW H k):dW ((fun _=>True)::H) k:=⟨fun _=>none,k,fun _=> .inl rfl,by funext b;simp[join],trivial,x⟩
def Dh (l:List (List UInt8)):List Value:=l.map fun x=> .string ⟨⟨x⟩⟩
def Qv (ts:Nat->List UInt8)(d:Array Nat):CZ ts d=Dh (d.toList.map ts):=by
 unfold Dh CZ;rw[qx];rfl
open Go.Sort in
def wT (hE:BP E){l}(hn:l.length<65536):
  Ct E 42 [.slice (BM g) l.length c] [sl (BM g) c 9 1 l.length (Dh l)]
   (fun v Q=>∃l':List (List UInt8),v= .tuple #[]/\l'.Perm l/\l'.Pairwise (fun a b=>Cr a b<=0)/\Q=[sl (BM g) c 9 1 l.length (Dh l')]):=by
 obtain⟨n,hA⟩:∃n,n=l.length:=⟨_,rfl⟩;obtain⟨ts,hC⟩:∃ts:Nat->List UInt8,ts=fun i=>l.getD i []:=⟨_,rfl⟩
 have hd:Cc (fun _=>True) n (List.range n).toArray:=⟨by simp,fun _ _=>trivial⟩;have hb:=rC (k:=n) oO;have hs:=hd.1;have hl:=pdq_sorts (BR (Qj ts)) (UK ts) (List.range n).toArray 0 n (bitsLen n) true true (av _) oO (.inl O);obtain⟨⟨p1,p2,p3⟩,hD⟩:=hl;have hx:∀e:Array Nat,e.size=n->e.extract 0 n=e:=fun e h=>by subst h;simp
 rw[hx _ hs,hx _ (p1.trans hs)]at p3;have hB:(List.range n).map ts=l:=by rw[hA,hC];exact Li l
 have hF:Dh l=CZ ts (List.range n).toArray:=by
  unfold Dh CZ;conv=>lhs;rw[<-hB]
  rw[qx];rfl
 rw[<-hA,hF];have hc:GJ E ts (fun _=>True) (fun _=>True) (Qj ts):=TN hE;refine bO (hE.fn Tryz.func42) O O O (fun R=>?_);simp only[dS,uV,uW];refine Bq ?_;refine BH (wS hE (k:=n) oO) O ?_;refine jM WO ?_;refine uX (Nn (a:=0) (b:=n) (limit:=bitsLen n) hE hc (UK ts) oO n hd oO (av _) (ai _) oO) O ?_;rintro _ _⟨rfl,rfl,hG⟩;simp only[uV,uW];rw[Qv];refine Bv ?_;apply xP
 ·rfl
 ·(exact Rs.nil)
 ·refine⟨_,O,?_,LY (p1.trans hs) hD,O⟩;have:=p3.map ts;rw[show(List.range n).toArray.toList=List.range n from rfl,hB]at this;exact this
 exact uI
end
