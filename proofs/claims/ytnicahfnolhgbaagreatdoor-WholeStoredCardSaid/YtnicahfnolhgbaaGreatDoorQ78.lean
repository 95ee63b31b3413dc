import Derived.Test.YtnicahfnolhgbaaGreatDoorQ77
import Derived.Laws.Bits64
import Derived.Sort.LotD5
set_option linter.all false
set_option maxHeartbeats 1000000
namespace Sl
open Go Go.RowKit
variable {E:Bp}{n:Nat}{L:Fr}{S:List HP}{ty:TypeId}{pos:String}{af:Array Edge}{d:Option Nat}{gd:Option (Nat×Bool)}
def YC {x y}{xt yt:TypeId}{i j ky}(hx:ev L x=some (.int .u64 (i:Nat)))(hy:ev L y=some (.int ky (j:Nat)))(hj:j<=64):
  Yl E n L S ⟨d,.binOp .shl xt x y yt,ty,pos,af,gd⟩ (.int .u64 ((i*2^j%18446744073709551616:Nat):Int)):=fun a w g _=>by
 have h:=shift_shl_any .u64 ky (i:Int) ((j:Nat):Int) (oP j)
 have e:IntKind.u64.wrap ((i:Int)*2^min ((j:Nat):Int).toNat IntKind.u64.bits)=((i*2^j%18446744073709551616:Nat):Int):=by
  rw[ny,show min j IntKind.u64.bits=j from lm hj,IntKind.wrap_u64,AU,nz,qb];rfl
 rw[e]at h;simp[execOp,eqGuard,binOp,g.ev hx,g.ev hy,h];exact IntKind.wrap_u64 _
def YE {x y}{xt yt:TypeId}{i j}(hx:ev L x=some (.int .u64 (i:Nat)))(hy:ev L y=some (.int .u64 (j:Nat)))(hi:i<18446744073709551616)(hj:j<18446744073709551616):
  Yl E n L S ⟨d,.binOp .xor xt x y yt,ty,pos,af,gd⟩ (.int .u64 ((i^^^j:Nat):Int)):=fun a w g _=>by
 have h:=bits_xor_u64_nat i j hi hj;simp[execOp,eqGuard,binOp,Op.intBits,g.ev hx,g.ev hy];exact h
def Mc {x y}{xt yt:TypeId}{i j}(hx:ev L x=some (.int .u64 (i:Nat)))(hy:ev L y=some (.int .u64 (j:Nat)))(hi:i<18446744073709551616)(hj:j<18446744073709551616):
  Yl E n L S ⟨d,.binOp .and xt x y yt,ty,pos,af,gd⟩ (.int .u64 ((i&&&j:Nat):Int)):=fun a w g _=>by
 have h:=bits_and_u64_nat i j hi hj;simp[execOp,eqGuard,binOp,Op.intBits,g.ev hx,g.ev hy];exact h
def qSr {x y}{xt yt:TypeId}{i j}(hx:ev L x=some (.int .u64 (i:Nat)))(hy:ev L y=some (.int .u64 (j:Nat)))(hi:i<18446744073709551616)(hj:j<=i):
  Yl E n L S ⟨d,.binOp .sub xt x y yt,ty,pos,af,gd⟩ (.int .u64 ((i-j:Nat):Int)):=fun a w g _=>by
 have h:IntKind.u64.wrap ((i:Int)-j)=((i-j:Nat):Int):=by rw[IntKind.wrap_u64];omega
 simp[execOp,eqGuard,binOp,Op.intArith,g.ev hx,g.ev hy];exact h
end Sl
namespace Go.Proofs.YtnicahfnolhgbaaGreatDoor
open Go Go.RowKit Sl Eg
set_option maxRecDepth 10000
section
variable {E:Bp}
variable {q:HP}{ok:Nat->Prop}{cf:Nat->Nat->Int}{g c n:Nat}
def Ua:ByteArray:=⟨([0,1]++(List.replicate 2 2++(List.replicate 4 3++(List.replicate 8 4++(List.replicate 16 5++(List.replicate 32 6++(List.replicate 64 7++List.replicate 128 8)))))):List UInt8).toArray⟩
def zAw:(List.range 256).all (fun k=>match Ua[k]? with |some c=>Nat.beq c.toNat (Go.Sort.bitsLen k)|none=>false)=true:=by decide +kernel
def qSf {k}(h:k<256):∃c,Ua[k]?=some c/\c.toNat=Go.Sort.bitsLen k:=by
 have h:=AV.1 zAw k (oC.2 h);cases e:Ua[k]? with
 |none=>rw[e]at h;simp at h
 |some c=>rw[e]at h;exact⟨c,rfl,mg h⟩
def qSn {i}(h:i<256):IntKind.u8.wrap ((i:Nat):Int)=(i:Nat):=by
 simp[IntKind.wrap,IntKind.bits,IntKind.signed];omega
def qKx (k:Nat)(h:256<=k):Go.Sort.bitsLen k=8+Go.Sort.bitsLen (k/2^8):=by
 apply xm
 ·rw[Go.Sort.bitsLen_le_iff];have:=Go.Sort.lt_two_pow_bitsLen (k/2^8);rw[yx];have h2:k=2^8*(k/2^8)+k%2^8:=(Nat.div_add_mod k (2^8)).symm;have h3:=tq k (show 2^8>0 by decide);have h4:2^8*(k/2^8+1)<=2^8*2^Go.Sort.bitsLen (k/2^8):=pu _ this;rw[Ap]at h4;omega
 have h9:8<=Go.Sort.bitsLen k:=by
  apply Classical.byContradiction;intro hh;have:=(Go.Sort.bitsLen_le_iff k 7).1 oO;omega
 have:Go.Sort.bitsLen (k/2^8)<=Go.Sort.bitsLen k-8:=by
  rw[Go.Sort.bitsLen_le_iff];have:=Go.Sort.lt_two_pow_bitsLen k;apply yz;rw[<-yx,show 8+(Go.Sort.bitsLen k-8)=Go.Sort.bitsLen k by omega];exact this
 omega
def qSz (hE:BP E){k}(h2:k<65536):Ct E 120 [.int .u64 (k:Nat)] [] (fun v Q=>v= BK (Go.Sort.bitsLen k)/\Q=[]):=by
 refine bO (hE.fn Tryz.func120) O O O (fun R=>?_);simp only[dS,uV,uW];refine Bq ?_;refine bE O (fun g1=>?_) (fun g1=>?_)
 ·exfalso;omega
 refine Bu ?_;refine bE O (fun g2=>?_) (fun g2=>?_)
 ·exfalso;omega
 refine Bu ?_;refine bE O (fun g3=>?_) (fun g3=>?_)
 ·refine CG ?_;refine uB (rA (j:=8) O O (by decide)) ?_;have hk:k/2^8<256:=oO;obtain⟨ch,f0,hA⟩:=qSf hk;have hB:=ch.toNat_lt;refine CP ?_;refine uB (dI O (hE.t O) (hE.t O) (qSn hk)) ?_;refine uB (qZ (bs:=Ua) O O (hE.t O) oO f0) ?_;refine uB (dI (i:=(ch.toNat:Int)) O (hE.t O) (hE.t O) (dJ oO oO)) ?_;refine uB (Ud (j:=(ch.toNat:Int)) O O oO oO) ?_;refine Bz ?_;exact uZ O (.tmp O .nil) ⟨by rw[hA,qKx k oO];exact bW oO,rfl⟩
 obtain⟨ch,f0,hA⟩:=qSf (k:=k) oO;have hB:=ch.toNat_lt;refine CB ?_;refine uB (dI O (hE.t O) (hE.t O) (qSn oO)) ?_;refine uB (qZ (bs:=Ua) O O (hE.t O) oO f0) ?_;refine uB (dI (i:=(ch.toNat:Int)) O (hE.t O) (hE.t O) (dJ oO oO)) ?_;refine uB (Ud (j:=(ch.toNat:Int)) O O oO oO) ?_;refine Bz ?_;exact uZ O (.tmp O .nil) ⟨by rw[hA];exact bW oO,rfl⟩
def wR (hE:BP E){k}(h2:k<65536):Ct E 74 [.int .u64 (k:Nat)] [] (fun v Q=>v= BK (Go.Sort.bitsLen k)/\Q=[]):=by
 refine bO (hE.fn Tryz.func74) O O O (fun R=>?_);simp only[dS,uV,uW];refine Bq ?_;refine BH (qSz hE h2) O ?_;refine Bz ?_;exact uZ O (.tmp O .nil) ⟨O,O⟩
def wO {k}(h:k<65536):Go.Sort.bitsLen k<=16:=(Go.Sort.bitsLen_le_iff k 16).2 h
def qOu (hE:BP E){k}(h2:k<65536):Ct E 144 [BK k] [] (fun v Q=>v= .int .u64 ((1<<<Go.Sort.bitsLen k:Nat):Int)/\Q=[]):=by
 have hb:=wO h2;have hp:2^Go.Sort.bitsLen k<=2^16:=ol (by decide) hb;refine bO (hE.fn Tryz.func144) O O O (fun R=>?_);simp only[dS,uV,uW];refine Bu ?_;refine BH (wR hE h2) O ?_;refine uB (YC (i:=1) O O oO) ?_;refine Bz ?_;exact uZ O (.tmp O .nil) ⟨bW (by rw[uk,qm oO]),O⟩
def qPb (hE:BP E){r X}(hX:X<18446744073709551616):Ct E 145 [uPt r] [cells r [.int .u64 (X:Nat)] 244] (fun v Q=>v= .int .u64 ((Go.Sort.xorNextN X:Nat):Int)/\Q=[cells r [.int .u64 ((Go.Sort.xorNextN X:Nat):Int)] 244]):=by
 obtain⟨A,hA⟩:∃A:Nat,A=X^^^(X*8192%18446744073709551616):=⟨_,rfl⟩;obtain⟨B,hB⟩:∃B:Nat,B=A^^^(A/128):=⟨_,rfl⟩;obtain⟨C,hC⟩:∃C:Nat,C=B^^^(B*131072%18446744073709551616):=⟨_,rfl⟩;have lA:A<18446744073709551616:=by rw[hA];exact ul (n:=64) oO oO
 have lB:B<18446744073709551616:=by rw[hB];exact ul (n:=64) oO oO
 have hv:Go.Sort.xorNextN X=C:=by unfold Go.Sort.xorNextN;simp only[];rw[<-hA,<-hB,<-hC]
 rw[hv];refine bO (hE.fn Tryz.func145) O O O (fun R=>?_);simp only[dS,uV,uW];refine CP ?_;refine uB (YC (i:=X) (j:=13) O O (by decide)) ?_;refine uB (YE (i:=X) (j:=X*2^13%18446744073709551616) O O hX oO) ?_;refine BU 10 (.int .u64 ((A:Nat):Int)) O (bW (by rw[hA])) ?_;refine Bq ?_;refine uB (rA (i:=A) (j:=7) O O (by decide)) ?_;refine uB (YE (i:=A) (j:=A/2^7) O O lA oO) ?_;refine BU 19 (.int .u64 ((B:Nat):Int)) O (bW (by rw[hB])) ?_;refine Bq ?_;refine uB (YC (i:=B) (j:=17) O O (by decide)) ?_;refine uB (YE (i:=B) (j:=B*2^17%18446744073709551616) O O lB oO) ?_;refine BU 28 (.int .u64 ((C:Nat):Int)) O (bW (by rw[hC])) ?_;refine CP ?_;exact uZ O (.tmp O .nil) ⟨O,O⟩
def Eb (a l m i0:Nat)(d:Array Nat):Nat->UInt64×Array Nat
 |0=>(UInt64.ofNat l,d)
 |t+1=>Go.Sort.breakStep a l m (Eb a l m i0 d t) (i0+t)
def NN {d a b}(h:b-a≥8):Go.Sort.breakPatterns d a b=(Eb a (b-a) (1<<<Go.Sort.bitsLen (b-a)) (a+(b-a)/4*2-1) d 3).2:=by
 unfold Go.Sort.breakPatterns;simp only[if_pos h];rfl
open Go.Sort in
def zM (hE:BP E){d}(hd:Cb ok n d){a b}(hK:a+12<b)(hb:b<=n)(hn:n<65536):
  Ct E 166 [.slice (BM g) n c,BK a,BK b] [sl (BM g) c 41 1 n (Ce d),q]
   (fun v Q=>v= .tuple #[]/\Q=[sl (BM g) c 41 1 n (Ce (breakPatterns d a b)),q]/\Cb ok n (breakPatterns d a b)):=by
 have e0:=NN (d:=d) (a:=a) (b:=b) oO;obtain⟨l,hl⟩:∃l,l=b-a:=⟨_,rfl⟩;obtain⟨i0,hC⟩:∃i0,i0=a+l/4*2-1:=⟨_,rfl⟩;rw[<-hl,<-hC]at e0;have hD:=wO (k:=l) oO;have hF:=lt_two_pow_bitsLen l;have hG:=two_pow_bitsLen_le (n:=l) oO;have hH:1<<<bitsLen l=2^bitsLen l:=by rw[uk,AB]
 obtain⟨m,hm⟩:∃m,m=1<<<bitsLen l:=⟨_,rfl⟩;have hL:l<m/\m<=2*l:=by rw[hm,hH];exact⟨hF,hG⟩
 rw[<-hm]at e0;rw[e0];have hI:(UInt64.ofNat l).toNat=l:=by simp;omega
 refine bO (hE.fn Tryz.func166) O O O (fun R=>?_);simp only[dS,uV,uW];refine Br ?_;refine CW 6 (BL ((l:Nat):Int)) O (bW oO) ?_;refine CB ?_;refine bE O (fun h0=>?_) (fun h0=>?_)
 ·refine Bz ?_;refine uU (dA (hE.t O) (fun b7=>?_));refine CB ?_;refine BH (qOu (k:=l) hE oO) O ?_;refine CU ?_;refine CW 9 (BL ((i0:Nat):Int)) O (bW oO) ?_;refine CW 8 (.int .u64 ((m:Nat):Int)) O (bW (by rw[hm])) ?_;refine Bv ?_;refine dX (fun t:Nat=>[(0,.slice (BM g) n c),(1,BK a),(6,BK l),(7,uPt b7),(8,.int .u64 (m:Nat)),(9,BL ((i0+t:Nat):Int))]) (fun t=>[cells b7 [.int .u64 (((Eb a l m i0 d t).1.toNat:Nat):Int)] 244,sl (BM g) c 41 1 n (Ce (Eb a l m i0 d t).2),q,R]) (fun t=>3-t) (fun t=>t<=3/\Cb ok n (Eb a l m i0 d t).2) 0 ?_ ?_ ?_ ?_
  ·exact⟨oO,hd⟩
  ·exact BC
  ·show ∀k,_->dW [cells b7 [.int .u64 (((UInt64.ofNat l).toNat:Nat):Int)] 244,sl (BM g) c 41 1 n (Ce d),q,R] k;rw[hI];exact uI
  rintro t⟨ht,hA⟩;refine CP ?_;refine bE O (fun h1=>?_) (fun h1=>?_)
  ·have hx:=(Eb a l m i0 d t).1.toNat_lt;have hJ:=xorNextN_lt _ hx;have hM:=hA.1;obtain⟨o,ho⟩:∃o,o=xorNextN (Eb a l m i0 d t).1.toNat&&&(m-1):=⟨_,rfl⟩;have hN:o<=m-1:=(by rw[ho];exact Nat.and_le_right)
   have hB:∀o',o'=(if o≥l then o-l else o)->Eb a l m i0 d (t+1)=(xorNext (Eb a l m i0 d t).1,swp (Eb a l m i0 d t).2 (i0+t) (a+o')):=by
    intro o' h';subst h';show breakStep a l m (Eb a l m i0 d t) (i0+t)=_;unfold breakStep;simp only;rw[xorNext_toNat,<-ho]
   refine CB ?_;refine BH (qPb hE hx) O ?_;refine Bv ?_;refine uB (qSr (i:=m) (j:=1) O O oO oO) ?_;refine uB (Mc (i:=xorNextN (Eb a l m i0 d t).1.toNat) (j:=m-1) O O hJ oO) ?_;refine BU 39 (.int .u64 ((o:Nat):Int)) O (bW (by rw[ho])) ?_;refine uB (dI O (hE.t O) (hE.t O) (dJ oO oO)) ?_;refine Bo ?_;refine bE O (fun h2=>?_) (fun h2=>?_)
   ·refine Bi ?_;refine CW 10 (BL (((o-l):Nat):Int)) O (bW oO) ?_;have hs:=hB ((o-l)) (by rw[if_pos (show o≥l by omega)]);have f0:=eH (Eb a l m i0 d t).2 (i:=i0+t) oO (((i0+t:Nat):Int)).toNat oO;have f1:=eH (Eb a l m i0 d t).2 (i:=a+((o-l))) oO ((a:Int)+(((o-l):Nat):Int)).toNat oO;refine eZ 17 ([sl (BM g) c 41 1 n (Ce ((Eb a l m i0 d t).2)),q]) [(19,[])] ?_ ?_
    ·exact uI
    refine uP 0 O (aB O) (uP 1 O (aB O) (uP 2 O (aB O) (uP 3 O (aB O) (uP 4 O (aB O) (uP 5 O (FD O O) (uP 6 O (aB O) (uP 7 O (aB O) (uP 8 O (aB O) (uP 9 O (FD O O) (uP 10 O (CE O O) ?_))))))))));refine uQ 11 O (uY) ?_;refine uP 12 O (aB O) (uP 13 O (aB O) (uP 14 O (CE O O) ?_));refine uQ 15 O (uY) ?_;refine uP 16 O (CE O O) ?_;apply iB O oK O;refine uJ ?_;refine uE ?_;refine uP 18 O (CE O O) ?_;apply gZ O oK oK O;refine uJ ?_;refine Bi ?_;simp only[bP];rw[jV (Eb a l m i0 d t).2 (i:=(i0+t)) (j:=(a+((o-l)))) oO oO]
    case ho=>omega
    case ho'=>omega
    refine bS (t+1) ⟨oO,?_⟩ oO ⟨O,O,O,O,O,au some (bW oO),trivial⟩ ?_
    ·rw[hs];exact hA.swp oO oO
    rw[hs,xorNext_toNat];exact uI
   refine CL ?_;refine CW 10 (BL ((o:Nat):Int)) O (bW oO) ?_;have hs:=hB (o) (by rw[if_neg (show ¬o≥l by omega)]);have f0:=eH (Eb a l m i0 d t).2 (i:=i0+t) oO (((i0+t:Nat):Int)).toNat oO;have f1:=eH (Eb a l m i0 d t).2 (i:=a+(o)) oO ((a:Int)+((o:Nat):Int)).toNat oO;refine eZ 17 ([sl (BM g) c 41 1 n (Ce ((Eb a l m i0 d t).2)),q]) [(19,[])] ?_ ?_
   ·exact uI
   refine uP 0 O (aB O) (uP 1 O (aB O) (uP 2 O (aB O) (uP 3 O (aB O) (uP 4 O (aB O) (uP 5 O (FD O O) (uP 6 O (aB O) (uP 7 O (aB O) (uP 8 O (aB O) (uP 9 O (FD O O) (uP 10 O (CE O O) ?_))))))))));refine uQ 11 O (uY) ?_;refine uP 12 O (aB O) (uP 13 O (aB O) (uP 14 O (CE O O) ?_));refine uQ 15 O (uY) ?_;refine uP 16 O (CE O O) ?_;apply iB O oK O;refine uJ ?_;refine uE ?_;refine uP 18 O (CE O O) ?_;apply gZ O oK oK O;refine uJ ?_;refine Bi ?_;simp only[bP];rw[jV (Eb a l m i0 d t).2 (i:=(i0+t)) (j:=(a+(o))) oO oO]
   case ho=>omega
   case ho'=>omega
   refine bS (t+1) ⟨oO,?_⟩ oO ⟨O,O,O,O,O,au some (bW oO),trivial⟩ ?_
   ·rw[hs];exact hA.swp oO oO
   rw[hs,xorNext_toNat];exact uI
  obtain rfl:t=3:=by omega
  refine Bz ?_;exact Gf O .nil ⟨O,O,hA⟩
 exfalso;omega
end
section
variable {E:Bp}
variable {q:HP}{ok:Nat->Prop}{cf:Nat->Nat->Int}{g c n:Nat}
open Go.Sort in
def wJ (hE:BP E)(hc:GI E q ok cf){d}(hd:Cb ok n d){a b}(hO:a<b)(hb:b<=n)(hn:n<1099511627776):
  Ct E 169 [.slice (BM g) n c,BK a,BK b] [sl (BM g) c 41 1 n (Ce d),q]
   (fun v Q=>v= .bool (partialInsertionSort (BQ cf) d a b).2/\Q=[sl (BM g) c 41 1 n (Ce (partialInsertionSort (BQ cf) d a b).1),q]/\Cb ok n (partialInsertionSort (BQ cf) d a b).1):=by
 obtain⟨r,hr⟩:∃r,r=partialInsertionSort (BQ cf) d a b:=⟨_,rfl⟩;have hG:=hr.symm;unfold partialInsertionSort at hG;rw[<-hr];refine bO (hE.fn Tryz.func169) O O O (fun R=>?_);simp only[dS,uV,uW];refine Ci ?_;refine dX (fun x:Nat×Nat×Array Nat=>[(0,.slice (BM g) n c),(1,BK a),(2,BK b),(7,BK (x.2.1)),(8,BL (5-(x.1:Int)))]) (fun x=>[sl (BM g) c 41 1 n (Ce x.2.2),q,R]) (fun x=>x.1) (fun x=>partialIns (BQ cf) a b x.1 x.2.1 x.2.2=r/\Cb ok n x.2.2/\x.1<=5/\a+1<=x.2.1/\x.2.1<=b) (5,a+1,d) ?_ ?_ ?_ ?_
 ·exact⟨hG,hd,ai 5,by show a+1<=a+1;omega,by show a+1<=b;omega⟩
 ·exact⟨O,O,O,au some (bW BD),O,trivial⟩
 ·exact uI
 rintro⟨s,i,e⟩⟨he,hB,hL,hi,hH⟩;simp only at he hB hL hi hH ⊢;have hP:=hB.1;refine Bi ?_;refine bE O (fun h0=>?_) (fun h0=>?_)
 ·obtain⟨s,rfl⟩:∃k,s=k+1:=⟨s-1,oO⟩;rw[partialIns_succ]at he;obtain⟨i2,hI⟩:∃i2,scanSorted (BQ cf) e b i=i2:=⟨_,rfl⟩;rw[hI]at he;refine Bz ?_;refine jT (fun _:Unit=>[(0,.slice (BM g) n c),(1,BK a),(2,BK b),(7,BL ((i2:Nat):Int)),(8,BL (5-((s+1:Nat):Int)))]) (fun _=>[sl (BM g) c 41 1 n (Ce e),q,R]) (fun _=>i<=i2/\i2<=b) ?_ ?_
  ·refine Bv ?_;refine dX (fun x:Nat=>[(0,.slice (BM g) n c),(1,BK a),(2,BK b),(7,BL ((x:Nat):Int)),(8,BL (5-((s+1:Nat):Int)))]) (fun _=>[sl (BM g) c 41 1 n (Ce e),q,R]) (fun x=>b-x) (fun x=>scanSorted (BQ cf) e b x=i2/\i<=x/\x<=b) i ?_ ?_ ?_ ?_
   ·exact⟨hI,ai _,hH⟩
   ·exact BC
   ·exact uI
   rintro x⟨hx,hQ,hR⟩;refine Bi ?_;refine dV 20 O (fun g1=>?_) (fun g1=>?_)
   ·have f0:=eH e (i:=x) oO ((x:Int)).toNat oO;have f1:=eH e (i:=x-1) oO ((x:Int)-1).toNat oO;have hF:=hc _ _ (hB.2 x oO) (hB.2 (x-1) oO);refine Ci ?_;refine BH (hF) O ?_;refine Bw ?_;refine gJ O (fun g2=>?_) (fun g2=>?_)
    ·refine Bu ?_;refine bS (x+1) ⟨?_,oO,oO⟩ oO ⟨O,O,O,au some (bW oO),O,trivial⟩ uI;rw[<-hx];conv=>rhs;rw[scanSorted,if_pos (by simp[BQ,g2];omega)]
    rw[scanSorted,if_neg (by simp[BQ,g2])]at hx;rw[<-hx];refine Bz ?_;refine eX () oO BC uI
   rw[scanSorted,if_neg (by simp;omega)]at hx;rw[<-hx];refine Ci ?_;refine eX () oO BC uI
  rintro _⟨k1,k2⟩;refine Br ?_;refine bE O (fun h1=>?_) (fun h1=>?_)
  ·rw[if_pos oO]at he;subst he;refine Bq ?_;exact uZ O (.tmp O .nil) ⟨O,O,hB⟩
  rw[if_neg oO]at he;refine Bo ?_;refine bE O (fun h2=>?_) (fun h2=>?_)
  ·rw[if_pos oO]at he;subst he;refine Bq ?_;exact uZ O (.tmp O .nil) ⟨O,O,hB⟩
  rw[if_neg oO]at he;have f2:=eH e (i:=i2) oO ((i2:Int)).toNat oO;have f3:=eH e (i:=i2-1) oO ((i2:Int)-1).toNat oO;refine CG ?_;refine eZ 15 ([sl (BM g) c 41 1 n (Ce e),q]) [(17,[])] ?_ ?_
  ·exact uI
  refine uP 0 O (aB O) (uP 1 O (aB O) (uP 2 O (aB O) (uP 3 O (aB O) (uP 4 O (Hd O O) (uP 5 O (aB O) (uP 6 O (aB O) (uP 7 O (Hd O O) (uP 8 O (CE O O) ?_))))))));refine uQ 9 O (uY) ?_;refine uP 10 O (aB O) (uP 11 O (aB O) (uP 12 O (CE O O) ?_));refine uQ 13 O (uY) ?_;refine uP 14 O (CE O O) ?_;apply iB O oK O;refine uJ ?_;refine uE ?_;refine uP 16 O (CE O O) ?_;apply gZ O oK oK O;refine uJ ?_;refine Bv ?_;simp only[bP];rw[jV e (i:=i2) (j:=(i2-1)) oO oO]
  case ho=>omega
  case ho'=>omega
  have hJ:=hB.swp (show i2<n by omega) (show i2-1<n by omega);generalize swp e i2 (i2-1)=e1 at*;obtain⟨e2,hC⟩:∃e2,fixDown (BQ cf) a i2 e1=e2:=⟨_,rfl⟩;rw[hC]at he;unfold fixDown at hC;refine jT (fun _:Unit=>[(0,.slice (BM g) n c),(1,BK a),(2,BK b),(7,BL ((i2:Nat):Int)),(8,BL (5-((s+1:Nat):Int)))]) (fun _=>[sl (BM g) c 41 1 n (Ce e2),q,R]) (fun _=>Cb ok n e2) ?_ ?_
  ·refine Br ?_;refine bE O (fun h3=>?_) (fun h3=>?_)
   ·rw[if_pos oO]at hC;refine Br ?_;refine dX (fun x:Nat×Array Nat=>[(0,.slice (BM g) n c),(1,BK a),(2,BK b),(7,BL ((i2:Nat):Int)),(8,BL (5-((s+1:Nat):Int))),(9,BL ((x.1:Nat):Int))]) (fun x=>[sl (BM g) c 41 1 n (Ce x.2),q,R]) (fun x=>x.1) (fun x=>shiftDown (BQ cf) x.1 x.2=e2/\Cb ok n x.2/\x.1<n) (i2-1,e1) ?_ ?_ ?_ ?_
    ·exact⟨hC,hJ,by show i2-1<n;omega⟩
    ·exact⟨O,O,O,O,O,au some (bW BD),trivial⟩
    ·exact uI
    rintro⟨j,u⟩⟨hu,hA,hj⟩;simp only at hu hA hj ⊢;have hM:=hA.1;refine Bi ?_;refine bE O (fun g3=>?_) (fun g3=>?_)
    ·obtain⟨j,rfl⟩:∃k,j=k+1:=⟨j-1,oO⟩;have f4:=eH u (i:=j+1) oO (((j+1:Nat):Int)).toNat oO;have f5:=eH u (i:=j) oO (((j+1:Nat):Int)-1).toNat oO;have hF:=hc _ _ (hA.2 (j+1) oO) (hA.2 j oO);rw[shiftDown]at hu;refine CX ?_;refine BH (hF) O ?_;refine CG ?_;refine gJ O (fun g4=>?_) (fun g4=>?_)
     ·rw[if_pos (by simp[BQ,g4])]at hu;subst hu;refine CB ?_;refine eX () hA BC uI
     rw[if_neg (by simp[BQ,g4])]at hu;refine CL ?_;refine eZ 15 ([sl (BM g) c 41 1 n (Ce u),q]) [(17,[])] ?_ ?_
     ·exact uI
     refine uP 0 O (aB O) (uP 1 O (aB O) (uP 2 O (aB O) (uP 3 O (aB O) (uP 4 O (Hd O O) (uP 5 O (aB O) (uP 6 O (aB O) (uP 7 O (Hd O O) (uP 8 O (CE O O) ?_))))))));refine uQ 9 O (uY) ?_;refine uP 10 O (aB O) (uP 11 O (aB O) (uP 12 O (CE O O) ?_));refine uQ 13 O (uY) ?_;refine uP 14 O (CE O O) ?_;apply iB O oK O;refine uJ ?_;refine uE ?_;refine uP 16 O (CE O O) ?_;apply gZ O oK oK O;refine uJ ?_;refine Bi ?_;simp only[bP];rw[jV u (i:=(j+1)) (j:=j) oO oO]
     case ho=>omega
     case ho'=>omega
     refine bS (ι:=Nat×Array Nat) (j:=(j,swp u (j+1) j)) ⟨hu,hA.swp oO oO,by show j<n;omega⟩ (by show j<j+1;omega) ⟨rfl,rfl,rfl,rfl,rfl,au some (bW BD),trivial⟩ uI
    obtain rfl:j=0:=by omega
    rw[shiftDown]at hu;subst hu;refine Bz ?_;refine eX () hA BC uI
   rw[if_neg oO]at hC;subst hC;refine Bv ?_;refine eX () hJ BC uI
  intro _ hK;obtain⟨e3,hD⟩:∃e3,fixUp (BQ cf) b i2 e2=e3:=⟨_,rfl⟩;rw[hD]at he;unfold fixUp at hD;refine Br ?_;refine bE O (fun h4=>?_) (fun h4=>?_)
  ·rw[if_pos oO]at hD;refine Br ?_;refine dX (fun x:Nat×Array Nat=>[(0,.slice (BM g) n c),(1,BK a),(2,BK b),(7,BL ((i2:Nat):Int)),(8,BL (5-((s+1:Nat):Int))),(10,BL ((x.1:Nat):Int))]) (fun x=>[sl (BM g) c 41 1 n (Ce x.2),q,R]) (fun x=>b-x.1) (fun x=>shiftUp (BQ cf) b x.1 x.2=e3/\Cb ok n x.2/\1<=x.1/\x.1<=b) (i2+1,e2) ?_ ?_ ?_ ?_
   ·exact⟨hD,hK,by show 1<=i2+1;omega,by show i2+1<=b;omega⟩
   ·exact⟨O,O,O,O,O,au some (bW BD),trivial⟩
   ·exact uI
   rintro⟨j,u⟩⟨hu,hA,hN,hj⟩;simp only at hu hA hN hj ⊢;have hM:=hA.1;refine Br ?_;rw[shiftUp]at hu;refine bE O (fun g5=>?_) (fun g5=>?_)
   ·rw[if_pos (show j<b by omega)]at hu;have f6:=eH u (i:=j) oO ((j:Int)).toNat oO;have f7:=eH u (i:=j-1) oO ((j:Int)-1).toNat oO;have hF:=hc _ _ (hA.2 j oO) (hA.2 (j-1) oO);refine CX ?_;refine BH (hF) O ?_;refine CG ?_;refine gJ O (fun g6=>?_) (fun g6=>?_)
    ·rw[if_pos (by simp[BQ,g6])]at hu;subst hu;refine CP ?_;refine bS (ι:=Nat×Nat×Array Nat) (j:=(s,i2,u)) ⟨he,hA,by show s<=5;omega,by show a+1<=i2;omega,by show i2<=b;omega⟩ (by show s<s+1;omega) ⟨rfl,rfl,rfl,rfl,au some (bW BD),trivial⟩ uI
    rw[if_neg (by simp[BQ,g6])]at hu;refine CL ?_;refine eZ 15 ([sl (BM g) c 41 1 n (Ce u),q]) [(17,[])] ?_ ?_
    ·exact uI
    refine uP 0 O (aB O) (uP 1 O (aB O) (uP 2 O (aB O) (uP 3 O (aB O) (uP 4 O (Hd O O) (uP 5 O (aB O) (uP 6 O (aB O) (uP 7 O (Hd O O) (uP 8 O (CE O O) ?_))))))));refine uQ 9 O (uY) ?_;refine uP 10 O (aB O) (uP 11 O (aB O) (uP 12 O (CE O O) ?_));refine uQ 13 O (uY) ?_;refine uP 14 O (CE O O) ?_;apply iB O oK O;refine uJ ?_;refine uE ?_;refine uP 16 O (CE O O) ?_;apply gZ O oK oK O;refine uJ ?_;refine Bi ?_;simp only[bP];rw[jV u (i:=j) (j:=(j-1)) oO oO]
    case ho=>omega
    case ho'=>omega
    refine bS (ι:=Nat×Array Nat) (j:=(j+1,swp u j (j-1))) ⟨hu,hA.swp oO oO,by show 1<=j+1;omega,by show j+1<=b;omega⟩ (by show b-(j+1)<b-j;omega) ⟨rfl,rfl,rfl,rfl,rfl,au some (bW BD),trivial⟩ uI
   rw[if_neg (show ¬j<b by omega)]at hu;subst hu;refine Bo ?_;refine bS (ι:=Nat×Nat×Array Nat) (j:=(s,i2,u)) ⟨he,hA,by show s<=5;omega,by show a+1<=i2;omega,by show i2<=b;omega⟩ (by show s<s+1;omega) ⟨rfl,rfl,rfl,rfl,au some (bW BD),trivial⟩ uI
  rw[if_neg oO]at hD;subst hD;refine Br ?_;refine bS (ι:=Nat×Nat×Array Nat) (j:=(s,i2,e2)) ⟨he,hK,by show s<=5;omega,by show a+1<=i2;omega,by show i2<=b;omega⟩ (by show s<s+1;omega) ⟨rfl,rfl,rfl,rfl,au some (bW BD),trivial⟩ uI
 obtain rfl:s=0:=by omega
 rw[partialIns]at he;subst he;refine Bo ?_;exact uZ O (.tmp O .nil) ⟨O,O,hB⟩
end
end Go.Proofs.YtnicahfnolhgbaaGreatDoor
namespace Go.Sort
def QL (lt:Nat->Nat->Bool)(d3:Array Nat)(a b limit:Nat)(wB wP:Bool)(pivot:Nat):Array Nat:=
 if a>0&&!lt d3[a-1]! d3[pivot]! then
  match partitionEqual lt d3 a b pivot with
  |(mid,d4)=>if _h:a<mid/\mid<=b then pdq lt d4 mid b limit wB wP else d4
 else
  match partition lt d3 a b pivot with
  |(mid,alreadyPartitioned,d4)=>
   if _h:a<=mid/\mid<b then
    if mid-a<b-mid then
     pdq lt (pdq lt d4 a mid limit true true) (mid+1) b limit (decide (mid-a≥(b-a)/8)) alreadyPartitioned
    else
     pdq lt (pdq lt d4 (mid+1) b limit true true) a mid limit (decide (b-mid≥(b-a)/8)) alreadyPartitioned
   else d4
def QJ (lt:Nat->Nat->Bool)(d2:Array Nat)(a b limit:Nat)(wB wP:Bool)(pivot:Nat)(hint:Hint):Array Nat:=
 let pi:=if wB&&wP&&hint= .increasing then partialInsertionSort lt d2 a b else(d2,false)
 if pi.2 then pi.1 else QL lt pi.1 a b limit wB wP pivot
def QH (lt:Nat->Nat->Bool)(d1:Array Nat)(a b limit:Nat)(wB wP:Bool):Array Nat:=
 let c:=choosePivot lt d1 a b
 QJ lt (if c.2= .decreasing then reverseRange d1 a b else d1) a b limit wB wP (if c.2= .decreasing then(b-1)-(c.1-a)else c.1) (if c.2= .decreasing then Hint.increasing else c.2)
def qUt {lt:Nat->Nat->Bool}{d a b limit wB wP}(h:¬b-a<=12)(h0:¬limit=0):pdq lt d a b limit wB wP=QH lt (if !wB then breakPatterns d a b else d) a b (if !wB then limit-1 else limit) wB wP:=by
 rw[pdq,if_neg h,if_neg h0];rfl
end Go.Sort
namespace Go.Proofs.YtnicahfnolhgbaaGreatDoor
open Go Go.RowKit Sl Eg
set_option maxRecDepth 10000
section
variable {E:Bp}
variable {q:HP}{ok:Nat->Prop}{cf:Nat->Nat->Int}{g c n:Nat}
def qUb {h:Go.Sort.Hint}(e:Sw h=2):h= .decreasing:=by cases h<;>simp[Sw]at e ⊢
def qUd {h:Go.Sort.Hint}(e:Sw h=1):h= .increasing:=by cases h<;>simp[Sw]at e ⊢
open Go.Sort in
def Nl (hE:BP E)(hc:GI E q ok cf)(hO:SWO (BQ cf))(hn:n<65536):∀(k:Nat){d:Array Nat}(hd:Cb ok n d){a b limit:Nat}(hk:b-a<=k)(hL:a<=b)(hb:b<=n)(hB:limit<=1000),
  Ct E 151 [.slice (BM g) n c,BK a,BK b,BK limit] [sl (BM g) c 41 1 n (Ce d),q]
   (fun v Q=>v= .tuple #[]/\Q=[sl (BM g) c 41 1 n (Ce (pdq (BQ cf) d a b limit true true)),q]/\Cb ok n (pdq (BQ cf) d a b limit true true)):=by
 intro k;induction k using Nat.strongRecOn with
 |_ k ih=>
 intro d hd a b limit hk hL hb hB;obtain⟨r,hr⟩:∃r,r=pdq (BQ cf) d a b limit true true:=⟨_,rfl⟩;rw[<-hr];refine bO (hE.fn Tryz.func151) O O O (fun R=>?_);simp only[dS,uV,uW];refine Bo ?_;refine dX (fun x:(Nat×Nat×Nat)×Bool×Bool×Array Nat=>[(0,.slice (BM g) n c),(1,BK (x.1.1)),(2,BK (x.1.2.1)),(3,BK (x.1.2.2)),(8,.bool x.2.1),(9,.bool x.2.2.1)]) (fun x=>[sl (BM g) c 41 1 n (Ce x.2.2.2),q,R]) (fun x=>x.1.2.1-x.1.1) (fun x=>pdq (BQ cf) x.2.2.2 x.1.1 x.1.2.1 x.1.2.2 x.2.1 x.2.2.1=r/\Cb ok n x.2.2.2/\x.1.1<=x.1.2.1/\x.1.2.1<=n/\x.1.2.2<=1000/\x.1.2.1-x.1.1<=k) ((a,b,limit),true,true,d) ?_ ?_ ?_ ?_
 ·exact⟨hr.symm,hd,hL,hb,hB,hk⟩
 ·exact BC
 ·exact uI
 clear hr hd hk hL hb hB a b limit d;rintro⟨⟨a,b,limit⟩,wB,wP,d⟩⟨he,hd,hL,hb,hB,hk⟩;simp only at he hd hL hb hB hk ⊢;have hs:=hd.1;refine Bu ?_;obtain⟨l,hl⟩:∃l,l=b-a:=⟨_,rfl⟩;refine CW 10 (BL ((l:Nat):Int)) O (bW oO) ?_;refine Bi ?_;refine bE O (fun h1=>?_) (fun h1=>?_)
 ·rw[pdq,if_pos oO]at he;refine Bw ?_;refine uX (zP hE hc hd hL hb oO) O ?_;rintro _ _⟨rfl,rfl,hA⟩;simp only[uV,uW];rw[he]at hA ⊢;refine Bi ?_;exact uZ O .nil ⟨O,O,hA⟩
 refine Bu ?_;refine bE O (fun h2=>?_) (fun h2=>?_)
 ·rw[pdq,if_neg oO,if_pos oO]at he;refine Bw ?_;refine uX (qLm hE hc hd oO hb oO) O ?_;rintro _ _⟨rfl,rfl,hA⟩;simp only[uV,uW];rw[he]at hA ⊢;refine Bi ?_;exact uZ O .nil ⟨O,O,hA⟩
 rw[qUt oO oO]at he;obtain⟨d1,hM⟩:∃d1,(if !wB then breakPatterns d a b else d)=d1:=⟨_,rfl⟩;obtain⟨li,hQ⟩:∃li,(if !wB then limit-1 else limit)=li:=⟨_,rfl⟩;rw[hM,hQ]at he;refine CL ?_;refine jT (fun _:Unit=>[(0,.slice (BM g) n c),(1,BK a),(2,BK b),(8,.bool wB),(9,.bool wP),(10,BL ((l:Nat):Int)),(3,BL ((li:Nat):Int))]) (fun _=>[sl (BM g) c 41 1 n (Ce d1),q,R]) (fun _=>Cb ok n d1/\li<=1000) ?_ ?_
 ·refine CB ?_;refine sI O (fun h3=>?_) (fun h3=>?_)
  ·rw[if_pos h3]at hM hQ;refine Bw ?_;refine uX (zM hE hd oO hb hn) O ?_;rintro _ _⟨rfl,rfl,hA⟩;simp only[uV,uW];rw[hM]at hA ⊢;refine Bi ?_;refine eX () ⟨hA,oO⟩ ⟨O,O,O,O,O,O,au some (bW oO),trivial⟩ uI
  rw[if_neg (by rw[h3];simp)]at hM hQ;subst hM hQ;refine Bv ?_;refine eX () ⟨hd,oO⟩ BC uI
 rintro _⟨hT,hC⟩;unfold QH at he;obtain⟨cp,hY⟩:∃cp,choosePivot (BQ cf) d1 a b=cp:=⟨_,rfl⟩;have hU:=choosePivot_holds (BQ cf) d1 a b oO;rw[hY]at hU he;simp only at he;refine Bw ?_;refine BH (qCu hE hc hT oO hb oO) O ?_;rw[hY];obtain⟨d2,hA⟩:∃d2,(if cp.2=Hint.decreasing then reverseRange d1 a b else d1)=d2:=⟨_,rfl⟩;obtain⟨pv,hR⟩:∃pv,(if cp.2=Hint.decreasing then(b-1)-(cp.1-a)else cp.1)=pv:=⟨_,rfl⟩;obtain⟨hi,hN⟩:∃hi,(if cp.2=Hint.decreasing then Hint.increasing else cp.2)=hi:=⟨_,rfl⟩;rw[hA,hR,hN]at he;refine Bi ?_;refine jT (fun _:Unit=>[(0,.slice (BM g) n c),(1,BK a),(2,BK b),(8,.bool wB),(9,.bool wP),(10,BL ((l:Nat):Int)),(3,BL ((li:Nat):Int)),(11,BL ((pv:Nat):Int)),(12,BL ((Sw hi:Nat):Int))]) (fun _=>[sl (BM g) c 41 1 n (Ce d2),q,R]) (fun _=>Cb ok n d2/\a<=pv/\pv<b) ?_ ?_
 ·refine CB ?_;refine bE O (fun h4=>?_) (fun h4=>?_)
  ·have hV:cp.2= .decreasing:=qUb oO;rw[if_pos hV]at hA hR hN;refine Bw ?_;refine uX (qBm hE hT oO hb oO) O ?_;rintro _ _⟨rfl,rfl,hZ⟩;simp only[uV,uW];rw[hA]at hZ ⊢;refine CX ?_;refine eX () ⟨hZ,oO,oO⟩ ⟨O,O,O,O,O,O,O,au some (bW oO),by subst hN;rfl,trivial⟩ uI
  have hV:¬cp.2= .decreasing:=fun e=>h4 (by rw[e];rfl)
  rw[if_neg hV]at hA hR hN;subst hA hR hN;refine Bv ?_;refine eX () ⟨hT,hU.1,hU.2⟩ BC uI
 rintro _⟨hG,hH,hI⟩;unfold QJ at he;obtain⟨pi,hD⟩:∃pi,(if wB&&wP&&decide (hi=Hint.increasing)then partialInsertionSort (BQ cf) d2 a b else(d2,false))=pi:=⟨_,rfl⟩;rw[hD]at he;refine jT (fun _:Unit=>[(0,.slice (BM g) n c),(1,BK a),(2,BK b),(8,.bool wB),(9,.bool wP),(10,BL ((l:Nat):Int)),(3,BL ((li:Nat):Int)),(11,BL ((pv:Nat):Int))]) (fun _=>[sl (BM g) c 41 1 n (Ce pi.1),q,R]) (fun _=>Cb ok n pi.1/\pi.2=false) ?_ ?_
 ·refine Bz ?_;refine vY 62 O (fun h5=>?_) (fun h5=>?_)
  ·refine Bz ?_;refine vY 65 O (fun h6=>?_) (fun h6=>?_)
   ·refine Bi ?_;refine bE O (fun h7=>?_) (fun h7=>?_)
    ·have hm:hi= .increasing:=qUd oO;rw[if_pos (by rw[h5,h6,hm];rfl)]at hD;refine Bw ?_;refine uX (wJ hE hc hG oO hb oO) O ?_;rintro _ _⟨rfl,rfl,hF⟩;simp only[uV,uW];rw[hD]at hF ⊢;refine CL ?_;refine sI O (fun h8=>?_) (fun h8=>?_)
     ·rw[if_pos h8]at he;subst he;refine Bw ?_;exact uZ O .nil ⟨O,O,hF⟩
     refine Bv ?_;refine eX () ⟨hF,h8⟩ BC uI
    rw[if_neg (by intro e;simp at e;rw[e.2]at h7;exact h7 rfl)]at hD;subst hD;refine Bv ?_;refine eX () ⟨hG,O⟩ BC uI
   rw[if_neg (by intro e;simp at e;rw[h6]at e;simp at e)]at hD;subst hD;refine Bi ?_;refine eX () ⟨hG,O⟩ BC uI
  rw[if_neg (by intro e;simp at e;rw[h5]at e;simp at e)]at hD;subst hD;refine Bc ?_;refine eX () ⟨hG,O⟩ BC uI
 rintro _⟨hF,ha⟩;rw[if_neg (by rw[ha];simp)]at he;obtain⟨d3,hf⟩:∃d3,pi.1=d3:=⟨_,rfl⟩;rw[hf]at he hF ⊢;clear hD ha hf hA hR hN hM hQ;have hq:=hF.1;unfold QL at he;refine jT (fun _:Unit=>[(0,.slice (BM g) n c),(1,BK a),(2,BK b),(8,.bool wB),(9,.bool wP),(10,BL ((l:Nat):Int)),(3,BL ((li:Nat):Int)),(11,BL ((pv:Nat):Int))]) (fun _=>[sl (BM g) c 41 1 n (Ce d3),q,R]) (fun _=>¬(decide (a>0)&&!BQ cf d3[a-1]! d3[pv]!)=true) ?_ ?_
 ·refine Bw ?_;refine dV 75 O (fun h9=>?_) (fun h9=>?_)
  ·have f0:=eH d3 (i:=a-1) oO ((a:Int)-1).toNat oO;have f1:=eH d3 (i:=pv) oO ((pv:Int)).toNat oO;have ho:=hc _ _ (hF.2 (a-1) oO) (hF.2 pv oO);refine Ci ?_;refine BH (ho) O ?_;refine Bw ?_;refine gJ O (fun g9=>?_) (fun g9=>?_)
   ·rw[if_pos (by simp[BQ,g9];omega)]at he;have ht:=Go.Sort.size_swp d3 a pv;have hJ:=partEqLoop_spec (BQ cf) a b _ (a+1) (b-1) (swp d3 a pv) (ai _) oO oO oO oO (fun t h1 h2=>by omega) (fun t h1 h2=>by omega);obtain⟨pq,hW⟩:∃pq,partitionEqual (BQ cf) d3 a b pv=pq:=⟨_,rfl⟩;have hK:a<pq.1/\pq.1<=b:=(by rw[<-hW];exact⟨hJ.1,hJ.2.1⟩);rw[hW]at he;obtain⟨md,dq⟩:=pq;simp only at he hK;rw[dif_pos hK]at he;refine CB ?_;refine uX (xZ hE hc hF hH hI hb oO) O ?_;rintro _ _⟨rfl,rfl,hP⟩;simp only[uV,uW];rw[hW]at hP ⊢;refine Bq ?_;refine bS (ι:=(Nat×Nat×Nat)×Bool×Bool×Array Nat) (j:=((md,b,li),wB,wP,dq)) ⟨he,hP,hK.2,hb,hC,by show b-md<=k;omega⟩ (by show b-md<b-a;omega) BC uI
   refine Bv ?_;refine eX () (by simp[BQ,g9]) BC uI
  refine CX ?_;refine eX () (by simp;omega) BC uI
 intro _ hg;rw[if_neg hg]at he;obtain⟨pt,hh⟩:∃pt,partition (BQ cf) d3 a b pv=pt:=⟨_,rfl⟩;have hJ:=partition_holds (BQ cf) hO d3 a b pv hH hI oO;rw[hh]at he hJ;have hS:=hJ.1;have hj:=hJ.2.1;clear hJ hg;obtain⟨mid,al,d4⟩:=pt;simp only at he hS hj;rw[dif_pos ⟨hS,hj⟩]at he;refine CB ?_;refine uX (qIj hE hc hF hH hI hb oO) O ?_;rintro _ _⟨rfl,rfl,hP⟩;simp only[uV,uW];rw[hh]at hP ⊢;refine RF ?_;refine bE O (fun hp=>?_) (fun hp=>?_)
 ·rw[if_pos oO]at he;refine Br ?_;refine CW 8 (.bool (decide (mid-a≥(b-a)/8))) O (au Value.bool (decide_eq_decide.2 oO)) ?_;refine CB ?_;refine uX (ih (mid-a) oO hP (ai _) hS oO hC) O ?_;rintro _ _⟨rfl,rfl,hX⟩;simp only[uV,uW];refine Br ?_;refine bS (ι:=(Nat×Nat×Nat)×Bool×Bool×Array Nat) (j:=((mid+1,b,li),decide (mid-a≥(b-a)/8),al,pdq (BQ cf) d4 a mid li true true)) ⟨he,hX,by show mid+1<=b;omega,hb,hC,by show b-(mid+1)<=k;omega⟩ (by show b-(mid+1)<b-a;omega) ⟨rfl,au some (bW BD),rfl,rfl,rfl,rfl,trivial⟩ uI
 rw[if_neg oO]at he;refine Br ?_;refine CW 8 (.bool (decide (b-mid≥(b-a)/8))) O (au Value.bool (decide_eq_decide.2 oO)) ?_;refine Bi ?_;refine BU 129 (BL ((mid+1:Nat):Int)) O (bW oO) ?_;refine uX (ih (b-(mid+1)) oO hP (ai _) oO hb hC) O ?_;rintro _ _⟨rfl,rfl,hX⟩;simp only[uV,uW];refine Bi ?_;refine bS (ι:=(Nat×Nat×Nat)×Bool×Bool×Array Nat) (j:=((a,mid,li),decide (b-mid≥(b-a)/8),al,pdq (BQ cf) d4 (mid+1) b li true true)) ⟨he,hX,hS,by show mid<=n;omega,hC,by show mid-a<=k;omega⟩ (by show mid-a<b-a;omega) BC uI
end
section
variable {E:Bp}{g c:Nat}
def UJ:Go.Sort.SWO (BQ Pt) where
 irrefl:=fun x=>by simp[BQ,Pt]
 trans:=fun x y z h1 h2=>by
  have g1:(x:Int)-(y:Nat)<0:=of_decide_eq_true h1;have g2:(y:Int)-(z:Nat)<0:=of_decide_eq_true h2;exact oI (show(x:Int)-(z:Nat)<0 by omega)
 ntrans:=fun x y z h1 h2=>by
  have g1:¬(x:Int)-(y:Nat)<0:=of_decide_eq_false h1;have g2:¬(y:Int)-(z:Nat)<0:=of_decide_eq_false h2;exact oM (show ¬(x:Int)-(z:Nat)<0 by omega)
def ZN:HP:=fun _=>True
def Qw {H}(k:PH)(x:dW H k):dW (ZN::H) k:=⟨fun _=>none,k,fun _=> .inl rfl,by funext b;simp[join],trivial,x⟩
def Oo {l:List Nat}{n:Nat}{d:Array Nat}(h:d.size=n)(hs:Go.Sort.SortedIn (BQ Pt) 0 n d):d.toList.Pairwise (· <= ·):=by
 rw[uo];intro i j hi hj hA;have:=of_decide_eq_false (hs i j (av _) hA (by simp at hj;omega));simp only[Pt]at this;rw[getElem!_pos d j (by simpa using hj),getElem!_pos d i (by simpa using hi)]at this;simp only[Array.getElem_toList];omega
open Go.Sort in
def qGi (hE:BP E){l:List Nat}(hn:l.length<65536):
  Ct E 124 [.slice (some ⟨g,0,none⟩) l.length c] [sl (some ⟨g,0,none⟩) c 41 1 l.length (Bg l)]
   (fun v Q=>∃l':List Nat,v= .tuple #[]/\l'.length=l.length/\l'.Perm l/\l'.Pairwise (· <= ·)/\Q=[sl (some ⟨g,0,none⟩) c 41 1 l.length (Bg l')]):=by
 obtain⟨n,hA⟩:∃n,n=l.length:=⟨_,rfl⟩;have hd:Cb (fun _=>True) n l.toArray:=⟨by simp[hA],fun _ _=>trivial⟩;have hb:=wO (k:=n) oO;have hs:=hd.1;have hl:=pdq_sorts (BQ Pt) UJ l.toArray 0 n (bitsLen n) true true (av _) oO (.inl O);obtain⟨⟨p1,p2,p3⟩,hB⟩:=hl;have hx:∀e:Array Nat,e.size=n->e.extract 0 n=e:=fun e h=>by subst h;simp
 rw[hx _ hs,hx _ (p1.trans hs)]at p3;have hC:Bg l=Ce l.toArray:=rfl;rw[<-hA,hC];have hc:GI E ZN (fun _=>True) Pt:=WG hE;refine bO (hE.fn Tryz.func124) O O O (fun R=>?_);simp only[dS,uV,uW];refine Bq ?_;refine BH (wR hE (k:=n) oO) O ?_;refine jM Qw ?_;refine uX (Nl (a:=0) (b:=n) (limit:=bitsLen n) hE hc UJ oO n hd oO (av _) (ai _) oO) O ?_;rintro _ _⟨rfl,rfl,hD⟩;simp only[uV,uW];refine Bv ?_;exact Gf O .nil ⟨_,O,by rw[hA];simp[p1,<-hA],p3,Oo (l:=l) (p1.trans hs) hB,rfl⟩
end
