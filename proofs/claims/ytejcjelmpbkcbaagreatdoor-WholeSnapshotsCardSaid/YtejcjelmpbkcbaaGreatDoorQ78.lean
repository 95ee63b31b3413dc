import Derived.Test.YtejcjelmpbkcbaaGreatDoorQ77
import Derived.Laws.Bits64
import Derived.Sort.LotD5
set_option linter.all false
set_option maxHeartbeats 1000000
namespace Sl
open Go Go.RowKit
variable {E:Env}{n:Nat}{L:Fr}{S:List HP}{ty:TypeId}{pos:String}{af:Array Edge}{d:Option Nat}{gd:Option (Nat×Bool)}
def qJu {x y:Operand}{xt yt:TypeId}{i j:Nat}{ky:IntKind}(hx:ev L x=some (.int .u64 (i:Nat)))(hy:ev L y=some (.int ky (j:Nat)))(hj:j≤64):
  Yl E n L S ⟨d,.binOp .shl xt x y yt,ty,pos,af,gd⟩ (.int .u64 ((i*2^j%18446744073709551616:Nat):Int)):=fun a w g _=>by
 have h:=shift_shl_any .u64 ky (i:Int) ((j:Nat):Int) (qz j)
 have e:IntKind.u64.wrap ((i:Int)*2^min ((j:Nat):Int).toNat IntKind.u64.bits)=((i*2^j%18446744073709551616:Nat):Int):=by
  rw[oG,show min j IntKind.u64.bits=j from kw hj,IntKind.wrap_u64,wm,oz,tq];rfl
 rw[e]at h;simp[execOp,eqGuard,binOp,g.ev hx,g.ev hy,h];exact IntKind.wrap_u64 _
def qJw {x y:Operand}{xt yt:TypeId}{i j:Nat}(hx:ev L x=some (.int .u64 (i:Nat)))(hy:ev L y=some (.int .u64 (j:Nat)))(hi:i<18446744073709551616)(hj:j<18446744073709551616):
  Yl E n L S ⟨d,.binOp .xor xt x y yt,ty,pos,af,gd⟩ (.int .u64 ((i^^^j:Nat):Int)):=fun a w g _=>by
 have h:=bits_xor_u64_nat i j hi hj;simp[execOp,eqGuard,binOp,Op.intBits,g.ev hx,g.ev hy];exact h
def y_and64O {x y:Operand}{xt yt:TypeId}{i j:Nat}(hx:ev L x=some (.int .u64 (i:Nat)))(hy:ev L y=some (.int .u64 (j:Nat)))(hi:i<18446744073709551616)(hj:j<18446744073709551616):
  Yl E n L S ⟨d,.binOp .and xt x y yt,ty,pos,af,gd⟩ (.int .u64 ((i&&&j:Nat):Int)):=fun a w g _=>by
 have h:=bits_and_u64_nat i j hi hj;simp[execOp,eqGuard,binOp,Op.intBits,g.ev hx,g.ev hy];exact h
def y_sub64O {x y:Operand}{xt yt:TypeId}{i j:Nat}(hx:ev L x=some (.int .u64 (i:Nat)))(hy:ev L y=some (.int .u64 (j:Nat)))(hi:i<18446744073709551616)(hj:j≤i):
  Yl E n L S ⟨d,.binOp .sub xt x y yt,ty,pos,af,gd⟩ (.int .u64 ((i-j:Nat):Int)):=fun a w g _=>by
 have h:IntKind.u64.wrap ((i:Int)-j)=((i-j:Nat):Int):=by rw[IntKind.wrap_u64];omega
 simp[execOp,eqGuard,binOp,Op.intArith,g.ev hx,g.ev hy];exact h
end Sl
namespace Go.Proofs.YtejcjelmpbkcbaaGreatDoor
open Go Go.RowKit Sl Eg
set_option maxRecDepth 10000
section
variable {E:Env}
variable {q:HP}{ok:Nat→Prop}{cf:Nat→Nat→Int}{g c n:Nat}
def qYu:ByteArray:=⟨([0,1]++(List.replicate 2 2++(List.replicate 4 3++(List.replicate 8 4++(List.replicate 16 5++(List.replicate 32 6++(List.replicate 64 7++List.replicate 128 8)))))):List UInt8).toArray⟩
def qYv:(List.range 256).all (fun k=>match qYu[k]? with |some c=>Nat.beq c.toNat (Go.Sort.bitsLen k)|none=>false)=true:=by decide +kernel
def qRe {k:Nat}(h:k<256):∃c,qYu[k]?=some c∧c.toNat=Go.Sort.bitsLen k:=by
 have h:=List.all_eq_true.1 qYv k (oQ.2 h);cases e:qYu[k]? with
 |none=>rw[e]at h;simp at h
 |some c=>rw[e]at h;exact⟨c,rfl,lh h⟩
def qRk {i:Nat}(h:i<256):IntKind.u8.wrap ((i:Nat):Int)=(i:Nat):=by
 simp[IntKind.wrap,IntKind.bits,IntKind.signed];omega
def qJy (k:Nat)(h:256≤k):Go.Sort.bitsLen k=8+Go.Sort.bitsLen (k/2^8):=by
 apply xc
 ·rw[Go.Sort.bitsLen_le_iff];have:=Go.Sort.lt_two_pow_bitsLen (k/2^8);rw[Nat.pow_add];have h2:k=2^8*(k/2^8)+k%2^8:=(Nat.div_add_mod k (2^8)).symm;have h3:=pm k (show 2^8>0 by decide);have h4:2^8*(k/2^8+1)≤2^8*2^Go.Sort.bitsLen (k/2^8):=qp _ this;rw[Nat.mul_add]at h4;omega
 have h9:8≤Go.Sort.bitsLen k:=by
  apply Classical.byContradiction;intro hh;have:=(Go.Sort.bitsLen_le_iff k 7).1 oO;omega
 have:Go.Sort.bitsLen (k/2^8)≤Go.Sort.bitsLen k-8:=by
  rw[Go.Sort.bitsLen_le_iff];have:=Go.Sort.lt_two_pow_bitsLen k;apply Nat.div_lt_of_lt_mul;rw[←Nat.pow_add,show 8+(Go.Sort.bitsLen k-8)=Go.Sort.bitsLen k by omega];exact this
 omega
def qRv (hE:Seat E){k:Nat}(h2:k<65536):Ct E 170 [.int .u64 (k:Nat)] [] (fun v Q=>v= .int .i64 (Go.Sort.bitsLen k:Nat)∧Q=[]):=by
 refine bO (hE.fn Tryz.func170) O O O (fun R=>?_);simp only[dX,uV,uW];refine gg12 ?_;refine bE O (fun g1=>?_) (fun g1=>?_)
 ·exfalso;omega
 refine gg9 ?_;refine bE O (fun g2=>?_) (fun g2=>?_)
 ·exfalso;omega
 refine gg9 ?_;refine bE O (fun g3=>?_) (fun g3=>?_)
 ·refine gg3 ?_;refine uB (qEt (j:=8) O O (by decide)) ?_;have hk:k/2^8<256:=oO;obtain⟨ch,f0,hcn⟩:=qRe hk;have hcb:=ch.toNat_lt;refine gg13 ?_;refine uB (dI O (hE.t O) (hE.t O) (qRk hk)) ?_;refine uB (qAa (bs:=qYu) O O (hE.t O) oO f0) ?_;refine uB (dI (i:=(ch.toNat:Int)) O (hE.t O) (hE.t O) (dJ oO oO)) ?_;refine uB (y_add (j:=(ch.toNat:Int)) O O oO oO) ?_;refine gg4 ?_;exact uZ O (.tmp O .nil) ⟨by rw[hcn,qJy k oO];exact bW oO,rfl⟩
 obtain⟨ch,f0,hcn⟩:=qRe (k:=k) oO;have hcb:=ch.toNat_lt;refine gg6 ?_;refine uB (dI O (hE.t O) (hE.t O) (qRk oO)) ?_;refine uB (qAa (bs:=qYu) O O (hE.t O) oO f0) ?_;refine uB (dI (i:=(ch.toNat:Int)) O (hE.t O) (hE.t O) (dJ oO oO)) ?_;refine uB (y_add (j:=(ch.toNat:Int)) O O oO oO) ?_;refine gg4 ?_;exact uZ O (.tmp O .nil) ⟨by rw[hcn];exact bW oO,rfl⟩
def qBv (hE:Seat E){k:Nat}(h2:k<65536):Ct E 126 [.int .u64 (k:Nat)] [] (fun v Q=>v= .int .i64 (Go.Sort.bitsLen k:Nat)∧Q=[]):=by
 refine bO (hE.fn Tryz.func126) O O O (fun R=>?_);simp only[dX,uV,uW];refine gg12 ?_;refine uX (qRv hE h2) O ?_;rintro _ _⟨rfl,rfl⟩;simp only[uV,uW];refine gg4 ?_;exact uZ O (.tmp O .nil) ⟨O,O⟩
def vX {k:Nat}(h:k<65536):Go.Sort.bitsLen k≤16:=(Go.Sort.bitsLen_le_iff k 16).2 h
def qNm (hE:Seat E){k:Nat}(h2:k<65536):Ct E 203 [.int .i64 (k:Nat)] [] (fun v Q=>v= .int .u64 ((1<<<Go.Sort.bitsLen k:Nat):Int)∧Q=[]):=by
 have hb:=vX h2;have hp:2^Go.Sort.bitsLen k≤2^16:=oZ (by decide) hb;refine bO (hE.fn Tryz.func203) O O O (fun R=>?_);simp only[dX,uV,uW];refine gg9 ?_;refine uX (qBv hE h2) O ?_;rintro _ _⟨rfl,rfl⟩;simp only[uV,uW];refine uB (qJu (i:=1) O O oO) ?_;refine gg4 ?_;exact uZ O (.tmp O .nil) ⟨bW (by rw[uq,ul oO]),O⟩
def qNp (hE:Seat E){r X:Nat}(hX:X<18446744073709551616):Ct E 204 [uPt r] [cells r [.int .u64 (X:Nat)] 309] (fun v Q=>v= .int .u64 ((Go.Sort.xorNextN X:Nat):Int)∧Q=[cells r [.int .u64 ((Go.Sort.xorNextN X:Nat):Int)] 309]):=by
 obtain⟨A,hA⟩:∃A:Nat,A=X^^^(X*8192%18446744073709551616):=⟨_,rfl⟩;obtain⟨B,hB⟩:∃B:Nat,B=A^^^(A/128):=⟨_,rfl⟩;obtain⟨C,hC⟩:∃C:Nat,C=B^^^(B*131072%18446744073709551616):=⟨_,rfl⟩;have lA:A<18446744073709551616:=by rw[hA];exact yg (n:=64) oO oO
 have lB:B<18446744073709551616:=by rw[hB];exact yg (n:=64) oO oO
 have hv:Go.Sort.xorNextN X=C:=by unfold Go.Sort.xorNextN;simp only[];rw[←hA,←hB,←hC]
 rw[hv];refine bO (hE.fn Tryz.func204) O O O (fun R=>?_);simp only[dX,uV,uW];refine gg13 ?_;refine uB (qJu (i:=X) (j:=13) O O (by decide)) ?_;refine uB (qJw (i:=X) (j:=X*2^13%18446744073709551616) O O hX oO) ?_;refine l_eq 10 (.int .u64 ((A:Nat):Int)) O (bW (by rw[hA])) ?_;refine gg12 ?_;refine uB (qEt (i:=A) (j:=7) O O (by decide)) ?_;refine uB (qJw (i:=A) (j:=A/2^7) O O lA oO) ?_;refine l_eq 19 (.int .u64 ((B:Nat):Int)) O (bW (by rw[hB])) ?_;refine gg12 ?_;refine uB (qJu (i:=B) (j:=17) O O (by decide)) ?_;refine uB (qJw (i:=B) (j:=B*2^17%18446744073709551616) O O lB oO) ?_;refine l_eq 28 (.int .u64 ((C:Nat):Int)) O (bW (by rw[hC])) ?_;refine gg13 ?_;exact uZ O (.tmp O .nil) ⟨O,O⟩
def brkO (a l m i0:Nat)(d:Array Nat):Nat→UInt64×Array Nat
 |0=>(UInt64.ofNat l,d)
 |t+1=>Go.Sort.breakStep a l m (brkO a l m i0 d t) (i0+t)
def brk_eqO {d:Array Nat}{a b:Nat}(h:b-a≥8):Go.Sort.breakPatterns d a b=(brkO a (b-a) (1<<<Go.Sort.bitsLen (b-a)) (a+(b-a)/4*2-1) d 3).2:=by
 unfold Go.Sort.breakPatterns;simp only[if_pos h];rfl
open Go.Sort in
def yQ (hE:Seat E){d:Array Nat}(hd:OkDO ok n d){a b:Nat}(hab:a+12<b)(hb:b≤n)(hn:n<65536):
  Ct E 162 [.slice (some ⟨g,0,none⟩) n c,.int .i64 (a:Nat),.int .i64 (b:Nat)] [sl (some ⟨g,0,none⟩) c 56 1 n (dCO d),q]
   (fun v Q=>v= .tuple #[]∧Q=[sl (some ⟨g,0,none⟩) c 56 1 n (dCO (breakPatterns d a b)),q]∧OkDO ok n (breakPatterns d a b)):=by
 have e0:=brk_eqO (d:=d) (a:=a) (b:=b) oO;obtain⟨l,hl⟩:∃l,l=b-a:=⟨_,rfl⟩;obtain⟨i0,hi0⟩:∃i0,i0=a+l/4*2-1:=⟨_,rfl⟩;rw[←hl,←hi0]at e0;have hl16:=vX (k:=l) oO;have hlp:=lt_two_pow_bitsLen l;have hlq:=two_pow_bitsLen_le (n:=l) oO;have hm0:1<<<bitsLen l=2^bitsLen l:=by rw[uq,zo]
 obtain⟨m,hm⟩:∃m,m=1<<<bitsLen l:=⟨_,rfl⟩;have hml:l<m∧m≤2*l:=by rw[hm,hm0];exact⟨hlp,hlq⟩
 rw[←hm]at e0;rw[e0];have h64:(UInt64.ofNat l).toNat=l:=by simp;omega
 refine bO (hE.fn Tryz.func162) O O O (fun R=>?_);simp only[dX,uV,uW];refine gg8 ?_;refine w_eq 6 (.int .i64 ((l:Nat):Int)) O (bW oO) ?_;refine gg6 ?_;refine bE O (fun h0=>?_) (fun h0=>?_)
 ·refine gg4 ?_;refine uU (cZ (hE.t O) (fun b7=>?_));refine gg6 ?_;refine uX (qNm (k:=l) hE oO) O ?_;rintro _ _⟨rfl,rfl⟩;simp only[uV,uW];refine gg14 ?_;refine w_eq 9 (.int .i64 ((i0:Nat):Int)) O (bW oO) ?_;refine w_eq 8 (.int .u64 ((m:Nat):Int)) O (bW (by rw[hm])) ?_;refine gg1 ?_;refine eQ (fun t:Nat=>[(0,.slice (some ⟨g,0,none⟩) n c),(1,.int .i64 (a:Nat)),(6,.int .i64 (l:Nat)),(7,uPt b7),(8,.int .u64 (m:Nat)),(9,.int .i64 ((i0+t:Nat):Int))]) (fun t=>[cells b7 [.int .u64 (((brkO a l m i0 d t).1.toNat:Nat):Int)] 309,sl (some ⟨g,0,none⟩) c 56 1 n (dCO (brkO a l m i0 d t).2),q,R]) (fun t=>3-t) (fun t=>t≤3∧OkDO ok n (brkO a l m i0 d t).2) 0 ?_ ?_ ?_ ?_
  ·exact⟨oO,hd⟩
  ·exact⟨O,O,O,O,O,O,trivial⟩
  ·show ∀k,_→dU [cells b7 [.int .u64 (((UInt64.ofNat l).toNat:Nat):Int)] 309,sl (some ⟨g,0,none⟩) c 56 1 n (dCO d),q,R] k;rw[h64];exact uI
  rintro t⟨ht,hdt⟩;refine gg13 ?_;refine bE O (fun h1=>?_) (fun h1=>?_)
  ·have hx:=(brkO a l m i0 d t).1.toNat_lt;have hxn:=xorNextN_lt _ hx;have hts:=hdt.1;obtain⟨o,ho⟩:∃o,o=xorNextN (brkO a l m i0 d t).1.toNat&&&(m-1):=⟨_,rfl⟩;have hom:o≤m-1:=(by rw[ho];exact Nat.and_le_right)
   have hst:∀o',o'=(if o≥l then o-l else o)→brkO a l m i0 d (t+1)=(xorNext (brkO a l m i0 d t).1,swp (brkO a l m i0 d t).2 (i0+t) (a+o')):=by
    intro o' h';subst h';show breakStep a l m (brkO a l m i0 d t) (i0+t)=_;unfold breakStep;simp only;rw[xorNext_toNat,←ho]
   refine gg6 ?_;refine uX (qNp hE hx) O ?_;rintro _ _⟨rfl,rfl⟩;simp only[uV,uW];refine gg1 ?_;refine uB (y_sub64O (i:=m) (j:=1) O O oO oO) ?_;refine uB (y_and64O (i:=xorNextN (brkO a l m i0 d t).1.toNat) (j:=m-1) O O hxn oO) ?_;refine l_eq 39 (.int .u64 ((o:Nat):Int)) O (bW (by rw[ho])) ?_;refine uB (dI O (hE.t O) (hE.t O) (dJ oO oO)) ?_;refine gg11 ?_;refine bE O (fun h2=>?_) (fun h2=>?_)
   ·refine gg7 ?_;refine w_eq 10 (.int .i64 (((o-l):Nat):Int)) O (bW oO) ?_;have hs:=hst ((o-l)) (by rw[if_pos (show o≥l by omega)]);have f0:=eO (brkO a l m i0 d t).2 (i:=i0+t) oO (((i0+t:Nat):Int)).toNat oO;have f1:=eO (brkO a l m i0 d t).2 (i:=a+((o-l))) oO ((a:Int)+(((o-l):Nat):Int)).toNat oO;refine iO 17 ([sl (some ⟨g,0,none⟩) c 56 1 n (dCO ((brkO a l m i0 d t).2)),q]) [(19,[])] ?_ ?_
    ·exact uI
    refine uP 0 O (aB O) (uP 1 O (aB O) (uP 2 O (aB O) (uP 3 O (aB O) (uP 4 O (aB O) (uP 5 O (uAa O O) (uP 6 O (aB O) (uP 7 O (aB O) (uP 8 O (aB O) (uP 9 O (uAa O O) (uP 10 O (uAj O O) ?_))))))))));refine uQ 11 O (uY) ?_;refine uP 12 O (aB O) (uP 13 O (aB O) (uP 14 O (uAj O O) ?_));refine uQ 15 O (uY) ?_;refine uP 16 O (uAj O O) ?_;apply mF O oK O;refine uJ ?_;refine uE ?_;refine uP 18 O (uAj O O) ?_;apply mE O oK oK O;refine uJ ?_;refine gg7 ?_;simp only[bP];rw[jP (brkO a l m i0 d t).2 (i:=(i0+t)) (j:=(a+((o-l)))) oO oO]
    case ho=>omega
    case ho'=>omega
    refine bS (t+1) ⟨oO,?_⟩ oO ⟨O,O,O,O,O,bf some (bW oO),trivial⟩ ?_
    ·rw[hs];exact hdt.swp oO oO
    rw[hs,xorNext_toNat];exact uI
   refine gg2 ?_;refine w_eq 10 (.int .i64 ((o:Nat):Int)) O (bW oO) ?_;have hs:=hst (o) (by rw[if_neg (show ¬o≥l by omega)]);have f0:=eO (brkO a l m i0 d t).2 (i:=i0+t) oO (((i0+t:Nat):Int)).toNat oO;have f1:=eO (brkO a l m i0 d t).2 (i:=a+(o)) oO ((a:Int)+((o:Nat):Int)).toNat oO;refine iO 17 ([sl (some ⟨g,0,none⟩) c 56 1 n (dCO ((brkO a l m i0 d t).2)),q]) [(19,[])] ?_ ?_
   ·exact uI
   refine uP 0 O (aB O) (uP 1 O (aB O) (uP 2 O (aB O) (uP 3 O (aB O) (uP 4 O (aB O) (uP 5 O (uAa O O) (uP 6 O (aB O) (uP 7 O (aB O) (uP 8 O (aB O) (uP 9 O (uAa O O) (uP 10 O (uAj O O) ?_))))))))));refine uQ 11 O (uY) ?_;refine uP 12 O (aB O) (uP 13 O (aB O) (uP 14 O (uAj O O) ?_));refine uQ 15 O (uY) ?_;refine uP 16 O (uAj O O) ?_;apply mF O oK O;refine uJ ?_;refine uE ?_;refine uP 18 O (uAj O O) ?_;apply mE O oK oK O;refine uJ ?_;refine gg7 ?_;simp only[bP];rw[jP (brkO a l m i0 d t).2 (i:=(i0+t)) (j:=(a+(o))) oO oO]
   case ho=>omega
   case ho'=>omega
   refine bS (t+1) ⟨oO,?_⟩ oO ⟨O,O,O,O,O,bf some (bW oO),trivial⟩ ?_
   ·rw[hs];exact hdt.swp oO oO
   rw[hs,xorNext_toNat];exact uI
  obtain rfl:t=3:=by omega
  refine gg4 ?_;exact uZe O .nil ⟨O,O,hdt⟩
 exfalso;omega
end
section
variable {E:Env}
variable {q:HP}{ok:Nat→Prop}{cf:Nat→Nat→Int}{g c n:Nat}
open Go.Sort in
def vT (hE:Seat E)(hc:CmpO E q ok cf){d:Array Nat}(hd:OkDO ok n d){a b:Nat}(hab:a<b)(hb:b≤n)(hn:n<1099511627776):
  Ct E 165 [.slice (some ⟨g,0,none⟩) n c,.int .i64 (a:Nat),.int .i64 (b:Nat)] [sl (some ⟨g,0,none⟩) c 56 1 n (dCO d),q]
   (fun v Q=>v= .bool (partialInsertionSort (ltFO cf) d a b).2∧Q=[sl (some ⟨g,0,none⟩) c 56 1 n (dCO (partialInsertionSort (ltFO cf) d a b).1),q]∧OkDO ok n (partialInsertionSort (ltFO cf) d a b).1):=by
 obtain⟨r,hr⟩:∃r,r=partialInsertionSort (ltFO cf) d a b:=⟨_,rfl⟩;have hr':=hr.symm;unfold partialInsertionSort at hr';rw[←hr];refine bO (hE.fn Tryz.func165) O O O (fun R=>?_);simp only[dX,uV,uW];refine gg19 ?_;refine eQ (fun x:Nat×Nat×Array Nat=>[(0,.slice (some ⟨g,0,none⟩) n c),(1,.int .i64 (a:Nat)),(2,.int .i64 (b:Nat)),(7,.int .i64 (x.2.1:Nat)),(8,.int .i64 (5-(x.1:Int)))]) (fun x=>[sl (some ⟨g,0,none⟩) c 56 1 n (dCO x.2.2),q,R]) (fun x=>x.1) (fun x=>partialIns (ltFO cf) a b x.1 x.2.1 x.2.2=r∧OkDO ok n x.2.2∧x.1≤5∧a+1≤x.2.1∧x.2.1≤b) (5,a+1,d) ?_ ?_ ?_ ?_
 ·exact⟨hr',hd,ai 5,by show a+1≤a+1;omega,by show a+1≤b;omega⟩
 ·exact⟨O,O,O,bf some (bW (by simp only;omega)),O,trivial⟩
 ·exact uI
 rintro⟨s,i,e⟩⟨he,hde,hs5,hi,hib⟩;simp only at he hde hs5 hi hib ⊢;have hse:=hde.1;refine gg7 ?_;refine bE O (fun h0=>?_) (fun h0=>?_)
 ·obtain⟨s,rfl⟩:∃k,s=k+1:=⟨s-1,oO⟩;rw[partialIns_succ]at he;obtain⟨i2,hi2⟩:∃i2,scanSorted (ltFO cf) e b i=i2:=⟨_,rfl⟩;rw[hi2]at he;refine gg4 ?_;refine nM (fun _:Unit=>[(0,.slice (some ⟨g,0,none⟩) n c),(1,.int .i64 (a:Nat)),(2,.int .i64 (b:Nat)),(7,.int .i64 ((i2:Nat):Int)),(8,.int .i64 (5-((s+1:Nat):Int)))]) (fun _=>[sl (some ⟨g,0,none⟩) c 56 1 n (dCO e),q,R]) (fun _=>i≤i2∧i2≤b) ?_ ?_
  ·refine gg1 ?_;refine eQ (fun x:Nat=>[(0,.slice (some ⟨g,0,none⟩) n c),(1,.int .i64 (a:Nat)),(2,.int .i64 (b:Nat)),(7,.int .i64 ((x:Nat):Int)),(8,.int .i64 (5-((s+1:Nat):Int)))]) (fun _=>[sl (some ⟨g,0,none⟩) c 56 1 n (dCO e),q,R]) (fun x=>b-x) (fun x=>scanSorted (ltFO cf) e b x=i2∧i≤x∧x≤b) i ?_ ?_ ?_ ?_
   ·exact⟨hi2,ai _,hib⟩
   ·exact⟨O,O,O,O,O,trivial⟩
   ·exact uI
   rintro x⟨hx,hx1,hx2⟩;refine gg7 ?_;refine eF 20 O (fun g1=>?_) (fun g1=>?_)
   ·have f0:=eO e (i:=x) oO ((x:Int)).toNat oO;have f1:=eO e (i:=x-1) oO ((x:Int)-1).toNat oO;have hcc:=hc _ _ (hde.2 x oO) (hde.2 (x-1) oO);refine gg19 ?_;refine uX (hcc) O ?_;rintro _ _⟨rfl,rfl⟩;simp only[uV,uW];refine gg5 ?_;refine kF O (fun g2=>?_) (fun g2=>?_)
    ·refine gg9 ?_;refine bS (x+1) ⟨?_,oO,oO⟩ oO ⟨O,O,O,bf some (bW oO),O,trivial⟩ uI;rw[←hx];conv=>rhs;rw[scanSorted,if_pos (by simp[ltFO,g2];omega)]
    rw[scanSorted,if_neg (by simp[ltFO,g2])]at hx;rw[←hx];refine gg4 ?_;refine fZ () oO ⟨O,O,O,O,O,trivial⟩ uI
   rw[scanSorted,if_neg (by simp;omega)]at hx;rw[←hx];refine gg19 ?_;refine fZ () oO ⟨O,O,O,O,O,trivial⟩ uI
  rintro _⟨k1,k2⟩;refine gg8 ?_;refine bE O (fun h1=>?_) (fun h1=>?_)
  ·rw[if_pos oO]at he;subst he;refine gg12 ?_;exact uZ O (.tmp O .nil) ⟨O,O,hde⟩
  rw[if_neg oO]at he;refine gg11 ?_;refine bE O (fun h2=>?_) (fun h2=>?_)
  ·rw[if_pos oO]at he;subst he;refine gg12 ?_;exact uZ O (.tmp O .nil) ⟨O,O,hde⟩
  rw[if_neg oO]at he;have f2:=eO e (i:=i2) oO ((i2:Int)).toNat oO;have f3:=eO e (i:=i2-1) oO ((i2:Int)-1).toNat oO;refine gg3 ?_;refine iO 15 ([sl (some ⟨g,0,none⟩) c 56 1 n (dCO e),q]) [(17,[])] ?_ ?_
  ·exact uI
  refine uP 0 O (aB O) (uP 1 O (aB O) (uP 2 O (aB O) (uP 3 O (aB O) (uP 4 O (uAs O O) (uP 5 O (aB O) (uP 6 O (aB O) (uP 7 O (uAs O O) (uP 8 O (uAj O O) ?_))))))));refine uQ 9 O (uY) ?_;refine uP 10 O (aB O) (uP 11 O (aB O) (uP 12 O (uAj O O) ?_));refine uQ 13 O (uY) ?_;refine uP 14 O (uAj O O) ?_;apply mF O oK O;refine uJ ?_;refine uE ?_;refine uP 16 O (uAj O O) ?_;apply mE O oK oK O;refine uJ ?_;refine gg1 ?_;simp only[bP];rw[jP e (i:=i2) (j:=(i2-1)) oO oO]
  case ho=>omega
  case ho'=>omega
  have hd1:=hde.swp (show i2<n by omega) (show i2-1<n by omega);generalize swp e i2 (i2-1)=e1 at*;obtain⟨e2,he2⟩:∃e2,fixDown (ltFO cf) a i2 e1=e2:=⟨_,rfl⟩;rw[he2]at he;unfold fixDown at he2;refine nM (fun _:Unit=>[(0,.slice (some ⟨g,0,none⟩) n c),(1,.int .i64 (a:Nat)),(2,.int .i64 (b:Nat)),(7,.int .i64 ((i2:Nat):Int)),(8,.int .i64 (5-((s+1:Nat):Int)))]) (fun _=>[sl (some ⟨g,0,none⟩) c 56 1 n (dCO e2),q,R]) (fun _=>OkDO ok n e2) ?_ ?_
  ·refine gg8 ?_;refine bE O (fun h3=>?_) (fun h3=>?_)
   ·rw[if_pos oO]at he2;refine gg8 ?_;refine eQ (fun x:Nat×Array Nat=>[(0,.slice (some ⟨g,0,none⟩) n c),(1,.int .i64 (a:Nat)),(2,.int .i64 (b:Nat)),(7,.int .i64 ((i2:Nat):Int)),(8,.int .i64 (5-((s+1:Nat):Int))),(9,.int .i64 ((x.1:Nat):Int))]) (fun x=>[sl (some ⟨g,0,none⟩) c 56 1 n (dCO x.2),q,R]) (fun x=>x.1) (fun x=>shiftDown (ltFO cf) x.1 x.2=e2∧OkDO ok n x.2∧x.1<n) (i2-1,e1) ?_ ?_ ?_ ?_
    ·exact⟨he2,hd1,by show i2-1<n;omega⟩
    ·exact⟨O,O,O,O,O,bf some (bW (by simp only;omega)),trivial⟩
    ·exact uI
    rintro⟨j,u⟩⟨hu,hdu,hj⟩;simp only at hu hdu hj ⊢;have hsu:=hdu.1;refine gg7 ?_;refine bE O (fun g3=>?_) (fun g3=>?_)
    ·obtain⟨j,rfl⟩:∃k,j=k+1:=⟨j-1,oO⟩;have f4:=eO u (i:=j+1) oO (((j+1:Nat):Int)).toNat oO;have f5:=eO u (i:=j) oO (((j+1:Nat):Int)-1).toNat oO;have hcc:=hc _ _ (hdu.2 (j+1) oO) (hdu.2 j oO);rw[shiftDown]at hu;refine gg16 ?_;refine uX (hcc) O ?_;rintro _ _⟨rfl,rfl⟩;simp only[uV,uW];refine gg3 ?_;refine kF O (fun g4=>?_) (fun g4=>?_)
     ·rw[if_pos (by simp[ltFO,g4])]at hu;subst hu;refine gg6 ?_;refine fZ () hdu ⟨O,O,O,O,O,trivial⟩ uI
     rw[if_neg (by simp[ltFO,g4])]at hu;refine gg2 ?_;refine iO 15 ([sl (some ⟨g,0,none⟩) c 56 1 n (dCO u),q]) [(17,[])] ?_ ?_
     ·exact uI
     refine uP 0 O (aB O) (uP 1 O (aB O) (uP 2 O (aB O) (uP 3 O (aB O) (uP 4 O (uAs O O) (uP 5 O (aB O) (uP 6 O (aB O) (uP 7 O (uAs O O) (uP 8 O (uAj O O) ?_))))))));refine uQ 9 O (uY) ?_;refine uP 10 O (aB O) (uP 11 O (aB O) (uP 12 O (uAj O O) ?_));refine uQ 13 O (uY) ?_;refine uP 14 O (uAj O O) ?_;apply mF O oK O;refine uJ ?_;refine uE ?_;refine uP 16 O (uAj O O) ?_;apply mE O oK oK O;refine uJ ?_;refine gg7 ?_;simp only[bP];rw[jP u (i:=(j+1)) (j:=j) oO oO]
     case ho=>omega
     case ho'=>omega
     refine bS (ι:=Nat×Array Nat) (j:=(j,swp u (j+1) j)) ⟨hu,hdu.swp oO oO,by show j<n;omega⟩ (by show j<j+1;omega) ⟨rfl,rfl,rfl,rfl,rfl,bf some (bW (by simp only;omega)),trivial⟩ uI
    obtain rfl:j=0:=by omega
    rw[shiftDown]at hu;subst hu;refine gg4 ?_;refine fZ () hdu ⟨O,O,O,O,O,trivial⟩ uI
   rw[if_neg oO]at he2;subst he2;refine gg1 ?_;refine fZ () hd1 ⟨O,O,O,O,O,trivial⟩ uI
  intro _ hd2;obtain⟨e3,he3⟩:∃e3,fixUp (ltFO cf) b i2 e2=e3:=⟨_,rfl⟩;rw[he3]at he;unfold fixUp at he3;refine gg8 ?_;refine bE O (fun h4=>?_) (fun h4=>?_)
  ·rw[if_pos oO]at he3;refine gg8 ?_;refine eQ (fun x:Nat×Array Nat=>[(0,.slice (some ⟨g,0,none⟩) n c),(1,.int .i64 (a:Nat)),(2,.int .i64 (b:Nat)),(7,.int .i64 ((i2:Nat):Int)),(8,.int .i64 (5-((s+1:Nat):Int))),(10,.int .i64 ((x.1:Nat):Int))]) (fun x=>[sl (some ⟨g,0,none⟩) c 56 1 n (dCO x.2),q,R]) (fun x=>b-x.1) (fun x=>shiftUp (ltFO cf) b x.1 x.2=e3∧OkDO ok n x.2∧1≤x.1∧x.1≤b) (i2+1,e2) ?_ ?_ ?_ ?_
   ·exact⟨he3,hd2,by show 1≤i2+1;omega,by show i2+1≤b;omega⟩
   ·exact⟨O,O,O,O,O,bf some (bW (by simp only;omega)),trivial⟩
   ·exact uI
   rintro⟨j,u⟩⟨hu,hdu,hj1,hj⟩;simp only at hu hdu hj1 hj ⊢;have hsu:=hdu.1;refine gg8 ?_;rw[shiftUp]at hu;refine bE O (fun g5=>?_) (fun g5=>?_)
   ·rw[if_pos (show j<b by omega)]at hu;have f6:=eO u (i:=j) oO ((j:Int)).toNat oO;have f7:=eO u (i:=j-1) oO ((j:Int)-1).toNat oO;have hcc:=hc _ _ (hdu.2 j oO) (hdu.2 (j-1) oO);refine gg16 ?_;refine uX (hcc) O ?_;rintro _ _⟨rfl,rfl⟩;simp only[uV,uW];refine gg3 ?_;refine kF O (fun g6=>?_) (fun g6=>?_)
    ·rw[if_pos (by simp[ltFO,g6])]at hu;subst hu;refine gg13 ?_;refine bS (ι:=Nat×Nat×Array Nat) (j:=(s,i2,u)) ⟨he,hdu,by show s≤5;omega,by show a+1≤i2;omega,by show i2≤b;omega⟩ (by show s<s+1;omega) ⟨rfl,rfl,rfl,rfl,bf some (bW (by simp only;omega)),trivial⟩ uI
    rw[if_neg (by simp[ltFO,g6])]at hu;refine gg2 ?_;refine iO 15 ([sl (some ⟨g,0,none⟩) c 56 1 n (dCO u),q]) [(17,[])] ?_ ?_
    ·exact uI
    refine uP 0 O (aB O) (uP 1 O (aB O) (uP 2 O (aB O) (uP 3 O (aB O) (uP 4 O (uAs O O) (uP 5 O (aB O) (uP 6 O (aB O) (uP 7 O (uAs O O) (uP 8 O (uAj O O) ?_))))))));refine uQ 9 O (uY) ?_;refine uP 10 O (aB O) (uP 11 O (aB O) (uP 12 O (uAj O O) ?_));refine uQ 13 O (uY) ?_;refine uP 14 O (uAj O O) ?_;apply mF O oK O;refine uJ ?_;refine uE ?_;refine uP 16 O (uAj O O) ?_;apply mE O oK oK O;refine uJ ?_;refine gg7 ?_;simp only[bP];rw[jP u (i:=j) (j:=(j-1)) oO oO]
    case ho=>omega
    case ho'=>omega
    refine bS (ι:=Nat×Array Nat) (j:=(j+1,swp u j (j-1))) ⟨hu,hdu.swp oO oO,by show 1≤j+1;omega,by show j+1≤b;omega⟩ (by show b-(j+1)<b-j;omega) ⟨rfl,rfl,rfl,rfl,rfl,bf some (bW (by simp only;omega)),trivial⟩ uI
   rw[if_neg (show ¬j<b by omega)]at hu;subst hu;refine gg11 ?_;refine bS (ι:=Nat×Nat×Array Nat) (j:=(s,i2,u)) ⟨he,hdu,by show s≤5;omega,by show a+1≤i2;omega,by show i2≤b;omega⟩ (by show s<s+1;omega) ⟨rfl,rfl,rfl,rfl,bf some (bW (by simp only;omega)),trivial⟩ uI
  rw[if_neg oO]at he3;subst he3;refine gg8 ?_;refine bS (ι:=Nat×Nat×Array Nat) (j:=(s,i2,e2)) ⟨he,hd2,by show s≤5;omega,by show a+1≤i2;omega,by show i2≤b;omega⟩ (by show s<s+1;omega) ⟨rfl,rfl,rfl,rfl,bf some (bW (by simp only;omega)),trivial⟩ uI
 obtain rfl:s=0:=by omega
 rw[partialIns]at he;subst he;refine gg11 ?_;exact uZ O (.tmp O .nil) ⟨O,O,hde⟩
end
end Go.Proofs.YtejcjelmpbkcbaaGreatDoor
namespace Go.Sort
def pdqCO (lt:Nat→Nat→Bool)(d3:Array Nat)(a b limit:Nat)(wB wP:Bool)(pivot:Nat):Array Nat:=
 if a>0&&!lt d3[a-1]! d3[pivot]! then
  match partitionEqual lt d3 a b pivot with
  |(mid,d4)=>if _h:a<mid∧mid≤b then pdq lt d4 mid b limit wB wP else d4
 else
  match partition lt d3 a b pivot with
  |(mid,alreadyPartitioned,d4)=>
   if _h:a≤mid∧mid<b then
    if mid-a<b-mid then
     pdq lt (pdq lt d4 a mid limit true true) (mid+1) b limit (decide (mid-a≥(b-a)/8)) alreadyPartitioned
    else
     pdq lt (pdq lt d4 (mid+1) b limit true true) a mid limit (decide (b-mid≥(b-a)/8)) alreadyPartitioned
   else d4
def pdqBO (lt:Nat→Nat→Bool)(d2:Array Nat)(a b limit:Nat)(wB wP:Bool)(pivot:Nat)(hint:Hint):Array Nat:=
 let pi:=if wB&&wP&&hint= .increasing then partialInsertionSort lt d2 a b else(d2,false)
 if pi.2 then pi.1 else pdqCO lt pi.1 a b limit wB wP pivot
def pdqAO (lt:Nat→Nat→Bool)(d1:Array Nat)(a b limit:Nat)(wB wP:Bool):Array Nat:=
 let c:=choosePivot lt d1 a b
 pdqBO lt (if c.2= .decreasing then reverseRange d1 a b else d1) a b limit wB wP (if c.2= .decreasing then(b-1)-(c.1-a)else c.1) (if c.2= .decreasing then Hint.increasing else c.2)
def qTf {lt:Nat→Nat→Bool}{d:Array Nat}{a b limit:Nat}{wB wP:Bool}(h:¬b-a≤12)(h0:¬limit=0):pdq lt d a b limit wB wP=pdqAO lt (if !wB then breakPatterns d a b else d) a b (if !wB then limit-1 else limit) wB wP:=by
 rw[pdq,if_neg h,if_neg h0];rfl
end Go.Sort
namespace Go.Proofs.YtejcjelmpbkcbaaGreatDoor
open Go Go.RowKit Sl Eg
set_option maxRecDepth 10000
section
variable {E:Env}
variable {q:HP}{ok:Nat→Prop}{cf:Nat→Nat→Int}{g c n:Nat}
def qSo {h:Go.Sort.Hint}(e:qFy h=2):h= .decreasing:=by cases h<;>simp[qFy]at e ⊢
def qSp {h:Go.Sort.Hint}(e:qFy h=1):h= .increasing:=by cases h<;>simp[qFy]at e ⊢
open Go.Sort in
def ct_pdqO (hE:Seat E)(hc:CmpO E q ok cf)(hO:SWO (ltFO cf))(hn:n<65536):∀(k:Nat){d:Array Nat}(hd:OkDO ok n d){a b limit:Nat}(hk:b-a≤k)(hab:a≤b)(hb:b≤n)(hlim:limit≤1000),
  Ct E 125 [.slice (some ⟨g,0,none⟩) n c,.int .i64 (a:Nat),.int .i64 (b:Nat),.int .i64 (limit:Nat)] [sl (some ⟨g,0,none⟩) c 56 1 n (dCO d),q]
   (fun v Q=>v= .tuple #[]∧Q=[sl (some ⟨g,0,none⟩) c 56 1 n (dCO (pdq (ltFO cf) d a b limit true true)),q]∧OkDO ok n (pdq (ltFO cf) d a b limit true true)):=by
 intro k;induction k using Nat.strongRecOn with
 |_ k ih=>
 intro d hd a b limit hk hab hb hlim;obtain⟨r,hr⟩:∃r,r=pdq (ltFO cf) d a b limit true true:=⟨_,rfl⟩;rw[←hr];refine bO (hE.fn Tryz.func125) O O O (fun R=>?_);simp only[dX,uV,uW];refine gg11 ?_;refine eQ (fun x:(Nat×Nat×Nat)×Bool×Bool×Array Nat=>[(0,.slice (some ⟨g,0,none⟩) n c),(1,.int .i64 (x.1.1:Nat)),(2,.int .i64 (x.1.2.1:Nat)),(3,.int .i64 (x.1.2.2:Nat)),(8,.bool x.2.1),(9,.bool x.2.2.1)]) (fun x=>[sl (some ⟨g,0,none⟩) c 56 1 n (dCO x.2.2.2),q,R]) (fun x=>x.1.2.1-x.1.1) (fun x=>pdq (ltFO cf) x.2.2.2 x.1.1 x.1.2.1 x.1.2.2 x.2.1 x.2.2.1=r∧OkDO ok n x.2.2.2∧x.1.1≤x.1.2.1∧x.1.2.1≤n∧x.1.2.2≤1000∧x.1.2.1-x.1.1≤k) ((a,b,limit),true,true,d) ?_ ?_ ?_ ?_
 ·exact⟨hr.symm,hd,hab,hb,hlim,hk⟩
 ·exact⟨O,O,O,O,O,O,trivial⟩
 ·exact uI
 clear hr hd hk hab hb hlim a b limit d;rintro⟨⟨a,b,limit⟩,wB,wP,d⟩⟨he,hd,hab,hb,hlim,hk⟩;simp only at he hd hab hb hlim hk ⊢;have hs:=hd.1;refine gg9 ?_;obtain⟨l,hl⟩:∃l,l=b-a:=⟨_,rfl⟩;refine w_eq 10 (.int .i64 ((l:Nat):Int)) O (bW oO) ?_;refine gg7 ?_;refine bE O (fun h1=>?_) (fun h1=>?_)
 ·rw[pdq,if_pos oO]at he;refine gg5 ?_;refine uX (yR hE hc hd hab hb oO) O ?_;rintro _ _⟨rfl,rfl,hd2⟩;simp only[uV,uW];rw[he]at hd2 ⊢;refine gg7 ?_;exact uZ O .nil ⟨O,O,hd2⟩
 refine gg9 ?_;refine bE O (fun h2=>?_) (fun h2=>?_)
 ·rw[pdq,if_neg oO,if_pos oO]at he;refine gg5 ?_;refine uX (qKj hE hc hd oO hb oO) O ?_;rintro _ _⟨rfl,rfl,hd2⟩;simp only[uV,uW];rw[he]at hd2 ⊢;refine gg7 ?_;exact uZ O .nil ⟨O,O,hd2⟩
 rw[qTf oO oO]at he;obtain⟨d1,hd1⟩:∃d1,(if !wB then breakPatterns d a b else d)=d1:=⟨_,rfl⟩;obtain⟨li,hli⟩:∃li,(if !wB then limit-1 else limit)=li:=⟨_,rfl⟩;rw[hd1,hli]at he;refine gg2 ?_;refine nM (fun _:Unit=>[(0,.slice (some ⟨g,0,none⟩) n c),(1,.int .i64 (a:Nat)),(2,.int .i64 (b:Nat)),(8,.bool wB),(9,.bool wP),(10,.int .i64 ((l:Nat):Int)),(3,.int .i64 ((li:Nat):Int))]) (fun _=>[sl (some ⟨g,0,none⟩) c 56 1 n (dCO d1),q,R]) (fun _=>OkDO ok n d1∧li≤1000) ?_ ?_
 ·refine gg6 ?_;refine yK O (fun h3=>?_) (fun h3=>?_)
  ·rw[if_pos h3]at hd1 hli;refine gg5 ?_;refine uX (yQ hE hd oO hb hn) O ?_;rintro _ _⟨rfl,rfl,hd2⟩;simp only[uV,uW];rw[hd1]at hd2 ⊢;refine gg7 ?_;refine fZ () ⟨hd2,oO⟩ ⟨O,O,O,O,O,O,bf some (bW oO),trivial⟩ uI
  rw[if_neg (by rw[h3];simp)]at hd1 hli;subst hd1 hli;refine gg1 ?_;refine fZ () ⟨hd,oO⟩ ⟨O,O,O,O,O,O,O,trivial⟩ uI
 rintro _⟨hdd,hli2⟩;unfold pdqAO at he;obtain⟨cp,hcp⟩:∃cp,choosePivot (ltFO cf) d1 a b=cp:=⟨_,rfl⟩;have hcr:=choosePivot_holds (ltFO cf) d1 a b oO;rw[hcp]at hcr he;simp only at he;refine gg5 ?_;refine uX (qBw hE hc hdd oO hb oO) O ?_;rintro _ _⟨rfl,rfl⟩;simp only[uV,uW];rw[hcp];obtain⟨d2,hd2⟩:∃d2,(if cp.2=Hint.decreasing then reverseRange d1 a b else d1)=d2:=⟨_,rfl⟩;obtain⟨pv,hpv⟩:∃pv,(if cp.2=Hint.decreasing then(b-1)-(cp.1-a)else cp.1)=pv:=⟨_,rfl⟩;obtain⟨hi,hhi⟩:∃hi,(if cp.2=Hint.decreasing then Hint.increasing else cp.2)=hi:=⟨_,rfl⟩;rw[hd2,hpv,hhi]at he;refine gg7 ?_;refine nM (fun _:Unit=>[(0,.slice (some ⟨g,0,none⟩) n c),(1,.int .i64 (a:Nat)),(2,.int .i64 (b:Nat)),(8,.bool wB),(9,.bool wP),(10,.int .i64 ((l:Nat):Int)),(3,.int .i64 ((li:Nat):Int)),(11,.int .i64 ((pv:Nat):Int)),(12,.int .i64 ((qFy hi:Nat):Int))]) (fun _=>[sl (some ⟨g,0,none⟩) c 56 1 n (dCO d2),q,R]) (fun _=>OkDO ok n d2∧a≤pv∧pv<b) ?_ ?_
 ·refine gg6 ?_;refine bE O (fun h4=>?_) (fun h4=>?_)
  ·have hde:cp.2= .decreasing:=qSo oO;rw[if_pos hde]at hd2 hpv hhi;refine gg5 ?_;refine uX (qAo hE hdd oO hb oO) O ?_;rintro _ _⟨rfl,rfl,hdr⟩;simp only[uV,uW];rw[hd2]at hdr ⊢;refine gg16 ?_;refine fZ () ⟨hdr,oO,oO⟩ ⟨O,O,O,O,O,O,O,bf some (bW oO),by subst hhi;rfl,trivial⟩ uI
  have hde:¬cp.2= .decreasing:=fun e=>h4 (by rw[e];rfl)
  rw[if_neg hde]at hd2 hpv hhi;subst hd2 hpv hhi;refine gg1 ?_;refine fZ () ⟨hdd,hcr.1,hcr.2⟩ ⟨O,O,O,O,O,O,O,O,O,trivial⟩ uI
 rintro _⟨hdd2,hpv1,hpv2⟩;unfold pdqBO at he;obtain⟨pi,hpi⟩:∃pi,(if wB&&wP&&decide (hi=Hint.increasing)then partialInsertionSort (ltFO cf) d2 a b else(d2,false))=pi:=⟨_,rfl⟩;rw[hpi]at he;refine nM (fun _:Unit=>[(0,.slice (some ⟨g,0,none⟩) n c),(1,.int .i64 (a:Nat)),(2,.int .i64 (b:Nat)),(8,.bool wB),(9,.bool wP),(10,.int .i64 ((l:Nat):Int)),(3,.int .i64 ((li:Nat):Int)),(11,.int .i64 ((pv:Nat):Int))]) (fun _=>[sl (some ⟨g,0,none⟩) c 56 1 n (dCO pi.1),q,R]) (fun _=>OkDO ok n pi.1∧pi.2=false) ?_ ?_
 ·refine gg4 ?_;refine qAz 62 O (fun h5=>?_) (fun h5=>?_)
  ·refine gg4 ?_;refine qAz 65 O (fun h6=>?_) (fun h6=>?_)
   ·refine gg7 ?_;refine bE O (fun h7=>?_) (fun h7=>?_)
    ·have hin:hi= .increasing:=qSp oO;rw[if_pos (by rw[h5,h6,hin];rfl)]at hpi;refine gg5 ?_;refine uX (vT hE hc hdd2 oO hb oO) O ?_;rintro _ _⟨rfl,rfl,hdp⟩;simp only[uV,uW];rw[hpi]at hdp ⊢;refine gg2 ?_;refine yK O (fun h8=>?_) (fun h8=>?_)
     ·rw[if_pos h8]at he;subst he;refine gg5 ?_;exact uZ O .nil ⟨O,O,hdp⟩
     refine gg1 ?_;refine fZ () ⟨hdp,h8⟩ ⟨O,O,O,O,O,O,O,O,trivial⟩ uI
    rw[if_neg (by intro e;simp at e;rw[e.2]at h7;exact h7 rfl)]at hpi;subst hpi;refine gg1 ?_;refine fZ () ⟨hdd2,O⟩ ⟨O,O,O,O,O,O,O,O,trivial⟩ uI
   rw[if_neg (by intro e;simp at e;rw[h6]at e;simp at e)]at hpi;subst hpi;refine gg7 ?_;refine fZ () ⟨hdd2,O⟩ ⟨O,O,O,O,O,O,O,O,trivial⟩ uI
  rw[if_neg (by intro e;simp at e;rw[h5]at e;simp at e)]at hpi;subst hpi;refine gg10 ?_;refine fZ () ⟨hdd2,O⟩ ⟨O,O,O,O,O,O,O,O,trivial⟩ uI
 rintro _⟨hdp,hpf⟩;rw[if_neg (by rw[hpf];simp)]at he;obtain⟨d3,hd3⟩:∃d3,pi.1=d3:=⟨_,rfl⟩;rw[hd3]at he hdp ⊢;clear hpi hpf hd3 hd2 hpv hhi hd1 hli;have hs3:=hdp.1;unfold pdqCO at he;refine nM (fun _:Unit=>[(0,.slice (some ⟨g,0,none⟩) n c),(1,.int .i64 (a:Nat)),(2,.int .i64 (b:Nat)),(8,.bool wB),(9,.bool wP),(10,.int .i64 ((l:Nat):Int)),(3,.int .i64 ((li:Nat):Int)),(11,.int .i64 ((pv:Nat):Int))]) (fun _=>[sl (some ⟨g,0,none⟩) c 56 1 n (dCO d3),q,R]) (fun _=>¬(decide (a>0)&&!ltFO cf d3[a-1]! d3[pv]!)=true) ?_ ?_
 ·refine gg5 ?_;refine eF 75 O (fun h9=>?_) (fun h9=>?_)
  ·have f0:=eO d3 (i:=a-1) oO ((a:Int)-1).toNat oO;have f1:=eO d3 (i:=pv) oO ((pv:Int)).toNat oO;have hcc:=hc _ _ (hdp.2 (a-1) oO) (hdp.2 pv oO);refine gg19 ?_;refine uX (hcc) O ?_;rintro _ _⟨rfl,rfl⟩;simp only[uV,uW];refine gg5 ?_;refine kF O (fun g9=>?_) (fun g9=>?_)
   ·rw[if_pos (by simp[ltFO,g9];omega)]at he;have hsz:=Go.Sort.size_swp d3 a pv;have hrg:=partEqLoop_spec (ltFO cf) a b _ (a+1) (b-1) (swp d3 a pv) (ai _) oO oO oO oO (fun t h1 h2=>by omega) (fun t h1 h2=>by omega);obtain⟨pq,hpq⟩:∃pq,partitionEqual (ltFO cf) d3 a b pv=pq:=⟨_,rfl⟩;have hrg1:a<pq.1∧pq.1≤b:=(by rw[←hpq];exact⟨hrg.1,hrg.2.1⟩);rw[hpq]at he;obtain⟨md,dq⟩:=pq;simp only at he hrg1;rw[dif_pos hrg1]at he;refine gg6 ?_;refine uX (wZ hE hc hdp hpv1 hpv2 hb oO) O ?_;rintro _ _⟨rfl,rfl,hdq⟩;simp only[uV,uW];rw[hpq]at hdq ⊢;refine gg12 ?_;refine bS (ι:=(Nat×Nat×Nat)×Bool×Bool×Array Nat) (j:=((md,b,li),wB,wP,dq)) ⟨he,hdq,hrg1.2,hb,hli2,by show b-md≤k;omega⟩ (by show b-md<b-a;omega) ⟨rfl,rfl,rfl,rfl,rfl,rfl,trivial⟩ uI
   refine gg1 ?_;refine fZ () (by simp[ltFO,g9]) ⟨O,O,O,O,O,O,O,O,trivial⟩ uI
  refine gg16 ?_;refine fZ () (by simp;omega) ⟨O,O,O,O,O,O,O,O,trivial⟩ uI
 intro _ hno;rw[if_neg hno]at he;obtain⟨pt,hpt⟩:∃pt,partition (ltFO cf) d3 a b pv=pt:=⟨_,rfl⟩;have hrg:=partition_holds (ltFO cf) hO d3 a b pv hpv1 hpv2 oO;rw[hpt]at he hrg;have hr1:=hrg.1;have hr2:=hrg.2.1;clear hrg hno;obtain⟨mid,al,d4⟩:=pt;simp only at he hr1 hr2;rw[dif_pos ⟨hr1,hr2⟩]at he;refine gg6 ?_;refine uX (qHi hE hc hdp hpv1 hpv2 hb oO) O ?_;rintro _ _⟨rfl,rfl,hdq⟩;simp only[uV,uW];rw[hpt]at hdq ⊢;refine gg39 ?_;refine bE O (fun h10=>?_) (fun h10=>?_)
 ·rw[if_pos oO]at he;refine gg8 ?_;refine w_eq 8 (.bool (decide (mid-a≥(b-a)/8))) O (bf Value.bool (decide_eq_decide.2 oO)) ?_;refine gg6 ?_;refine uX (ih (mid-a) oO hdq (ai _) hr1 oO hli2) O ?_;rintro _ _⟨rfl,rfl,hdz⟩;simp only[uV,uW];refine gg8 ?_;refine bS (ι:=(Nat×Nat×Nat)×Bool×Bool×Array Nat) (j:=((mid+1,b,li),decide (mid-a≥(b-a)/8),al,pdq (ltFO cf) d4 a mid li true true)) ⟨he,hdz,by show mid+1≤b;omega,hb,hli2,by show b-(mid+1)≤k;omega⟩ (by show b-(mid+1)<b-a;omega) ⟨rfl,bf some (bW (by simp only;omega)),rfl,rfl,rfl,rfl,trivial⟩ uI
 rw[if_neg oO]at he;refine gg8 ?_;refine w_eq 8 (.bool (decide (b-mid≥(b-a)/8))) O (bf Value.bool (decide_eq_decide.2 oO)) ?_;refine gg7 ?_;refine l_eq 129 (.int .i64 ((mid+1:Nat):Int)) O (bW oO) ?_;refine uX (ih (b-(mid+1)) oO hdq (ai _) oO hb hli2) O ?_;rintro _ _⟨rfl,rfl,hdz⟩;simp only[uV,uW];refine gg7 ?_;refine bS (ι:=(Nat×Nat×Nat)×Bool×Bool×Array Nat) (j:=((a,mid,li),decide (b-mid≥(b-a)/8),al,pdq (ltFO cf) d4 (mid+1) b li true true)) ⟨he,hdz,hr1,by show mid≤n;omega,hli2,by show mid-a≤k;omega⟩ (by show mid-a<b-a;omega) ⟨rfl,rfl,rfl,rfl,rfl,rfl,trivial⟩ uI
end
section
variable {E:Env}{g c:Nat}
def swoO:Go.Sort.SWO (ltFO cfO) where
 irrefl:=fun x=>by simp[ltFO,cfO]
 trans:=fun x y z h1 h2=>by
  have g1:(x:Int)-(y:Nat)<0:=of_decide_eq_true h1;have g2:(y:Int)-(z:Nat)<0:=of_decide_eq_true h2;exact ma (show(x:Int)-(z:Nat)<0 by omega)
 ntrans:=fun x y z h1 h2=>by
  have g1:¬(x:Int)-(y:Nat)<0:=of_decide_eq_false h1;have g2:¬(y:Int)-(z:Nat)<0:=of_decide_eq_false h2;exact ni (show ¬(x:Int)-(z:Nat)<0 by omega)
def emp:HP:=fun _=>True
def emp_in {H:List HP}(k:PH)(x:dU H k):dU (emp::H) k:=⟨fun _=>none,k,fun _=> .inl rfl,by funext b;simp[join],trivial,x⟩
def pair_of {l:List Nat}{n:Nat}{d:Array Nat}(h:d.size=n)(hs:Go.Sort.SortedIn (ltFO cfO) 0 n d):d.toList.Pairwise (· ≤ ·):=by
 rw[rq];intro i j hi hj hij;have:=of_decide_eq_false (hs i j (au _) hij (by simp at hj;omega));simp only[cfO]at this;rw[getElem!_pos d j (by simpa using hj),getElem!_pos d i (by simpa using hi)]at this;simp only[Array.getElem_toList];omega
open Go.Sort in
def qSj (hE:Seat E){l:List Nat}(hn:l.length<65536):
  Ct E 104 [.slice (some ⟨g,0,none⟩) l.length c] [sl (some ⟨g,0,none⟩) c 56 1 l.length (idC l)]
   (fun v Q=>∃l':List Nat,v= .tuple #[]∧l'.length=l.length∧l'.Perm l∧l'.Pairwise (· ≤ ·)∧Q=[sl (some ⟨g,0,none⟩) c 56 1 l.length (idC l')]):=by
 obtain⟨n,hnl⟩:∃n,n=l.length:=⟨_,rfl⟩;have hd:OkDO (fun _=>True) n l.toArray:=⟨by simp[hnl],fun _ _=>trivial⟩;have hb:=vX (k:=n) oO;have hs:=hd.1;have hl:=pdq_sorts (ltFO cfO) swoO l.toArray 0 n (bitsLen n) true true (au _) oO (.inl O);obtain⟨⟨p1,p2,p3⟩,hl2⟩:=hl;have hx:∀e:Array Nat,e.size=n→e.extract 0 n=e:=fun e h=>by subst h;simp
 rw[hx _ hs,hx _ (p1.trans hs)]at p3;have hdl:idC l=dCO l.toArray:=rfl;rw[←hnl,hdl];have hc:CmpO E emp (fun _=>True) cfO:=cmpO hE;refine bO (hE.fn Tryz.func104) O O O (fun R=>?_);simp only[dX,uV,uW];refine gg12 ?_;refine uX (qBv hE (k:=n) oO) O ?_;rintro _ _⟨rfl,rfl⟩;simp only[uV,uW];refine qAh emp_in ?_;refine uX (ct_pdqO (a:=0) (b:=n) (limit:=bitsLen n) hE hc swoO oO n hd oO (au _) (ai _) oO) O ?_;rintro _ _⟨rfl,rfl,hd2⟩;simp only[uV,uW];refine gg1 ?_;exact uZe O .nil ⟨_,O,by rw[hnl];simp[p1,←hnl],p3,pair_of (l:=l) (p1.trans hs) hl2,rfl⟩
end
