import Derived.Test.YtnicahfnolhgbaaGreatDoorQ21
import Derived.Lib.TrailingZeros
set_option linter.all false
set_option maxHeartbeats 1000000
namespace Eg
def bt (x b:Nat):Nat:=x/2^b%2
def xr (x y:Nat):Nat:=x^^^y
def dn (x y h:Nat):Nat:=xr x y/2^h*2^h
def dm (x y h:Nat):Nat:=xr x y/2^h/2*2*2^h
def dd (c x y:Nat):Nat:=if c%2=1/\bt x (c/2)=0 then dm x y (c/2)else dn x y (c/2)
def EE (c x y:Nat):Int:=if x=y then 122 else if c=122 then -1 else if dd c x y=0 then -1 else 2*(Go.Lib.ctz 64 (dd c x y):Nat)+(bt x (Go.Lib.ctz 64 (dd c x y)):Nat)

def Uc {x y}(hx:x<Cg)(hy:y<Cg):xr x y<2305843009213693952:=by
 have h:(2305843009213693952:Nat)=2^61:=rfl;rw[h];exact ul (by unfold Cg at hx;omega) (by unfold Cg at hy;omega)
def Ia (x y h:Nat):dn x y h<=xr x y:=Nat.div_mul_le_self _ _
def TS (x y h:Nat):dm x y h<=dn x y h:=kg _ (Nat.div_mul_le_self _ _)
def Px (c x y:Nat):dd c x y<=xr x y:=by
 unfold dd;split
 ·exact jv (TS _ _ _) (Ia _ _ _)
 exact Ia _ _ _
def QS (x b:Nat):bt x b<2:=tq _ oO
def vJ (x b:Nat):bt x b=1↔x.testBit b=true:=by
 unfold bt;rw[Nat.testBit_eq_decide_div_mod_eq];simp
def qRc {d}(h0:d≠0)(hd:d<2^64):d.testBit (Go.Lib.ctz 64 d)=true/\Go.Lib.ctz 64 d<64/\∀b,b<Go.Lib.ctz 64 d->d.testBit b=false:=by
 obtain⟨m,hm,hk⟩:=Go.Lib.ctzFrom_spec 64 d oO hd;have e:Go.Lib.ctz 64 d=Go.Lib.ctzFrom 64 d:=by simp[Go.Lib.ctz,h0]
 rw[e];generalize Go.Lib.ctzFrom 64 d=k at*;subst hm;refine⟨?_,hk,fun b hb=>?_⟩
 ·rw[oN,<-uk,yn];simp
 rw[oN,<-uk,yn];simp;omega
def zY (x y h b:Nat):(dn x y h).testBit b=(decide (h<=b)&&(x.testBit b^^y.testBit b)):=by
 unfold dn xr;rw[<-uk,yn,<-Nat.shiftRight_eq_div_pow,Nat.testBit_shiftRight];by_cases hb:h<=b
 ·simp[hb,Nat.testBit_xor]
 simp[hb]
def qGn (x y h b:Nat):(dm x y h).testBit b=(decide (h+1<=b)&&(x.testBit b^^y.testBit b)):=by
 have:dm x y h=dn x y (h+1):=by
  unfold dm dn;rw[Nat.div_div_eq_div_mul,<-zh,vg,<-Nat.pow_succ']
 rw[this,zY]

def fB (c x y:Nat):Prop:=if c=122 then x=y else bt x (c/2)=c%2/\bt y (c/2)=1-c%2
def wX {k x y}(hk:k≠122)(h:fB k x y):(x.testBit (k/2)^^y.testBit (k/2))=true/\bt x (k/2)=k%2:=by
 unfold fB at h;rw[if_neg hk]at h;obtain⟨h1,h2⟩:=h;refine⟨?_,h1⟩;have hx:=vJ x (k/2);have hy:=vJ y (k/2);rcases wz k with hm|hm
 ·rw[hm]at h1 h2
  have e1:x.testBit (k/2)=false:=by
   cases h:x.testBit (k/2)with
   |false=>rfl
   |true=>have:=hx.2 h;omega
  have e2:=hy.1 h2;rw[e1,e2];rfl
 rw[hm]at h1 h2;have e1:=hx.1 h1
 have e2:y.testBit (k/2)=false:=by
  cases h:y.testBit (k/2)with
  |false=>rfl
  |true=>have:=hy.2 h;omega
 rw[e1,e2];rfl
def wL {b x y}(hb:2*b+bt x b≠122)(h:(x.testBit b^^y.testBit b)=true):fB (2*b+bt x b) x y:=by
 unfold fB;rw[if_neg hb];have hB:=QS x b;have hA:=QS y b;have hd:(2*b+bt x b)/2=b:=oO;have hm:(2*b+bt x b)%2=bt x b:=oO;rw[hd,hm];refine⟨O,?_⟩;have hx:=vJ x b;have hy:=vJ y b;cases e1:x.testBit b<;>cases e2:y.testBit b
 ·rw[e1,e2]at h;cases h
 ·have h1:=hy.2 e2;have h2:bt x b≠1:=fun e=>by rw[hx.1 e]at e1;cases e1
  omega
 ·have h1:=hx.2 e1;have h2:bt y b≠1:=fun e=>by rw[hy.1 e]at e2;cases e2
  omega
 rw[e1,e2]at h;cases h
def qJd {k x}(hk:k<122):¬fB k x x:=by
 intro h;have:=(wX oO h).1;simp at this
def qGm (c x y b:Nat):(dd c x y).testBit b=true↔(x.testBit b^^y.testBit b)=true/\c<=2*b+bt x b:=by
 have hA:=QS x b;unfold dd;split
 ·rename_i h
  rw[qGn];simp only[ik,decide_eq_true_eq];constructor
  ·rintro⟨h1,h2⟩;exact⟨h2,oO⟩
  rintro⟨h1,h2⟩;refine⟨?_,h1⟩;by_cases hb:b=c/2
  ·subst hb;omega
  omega
 rename_i h
 rw[zY];simp only[ik,decide_eq_true_eq];constructor
 ·rintro⟨h1,h2⟩;refine⟨h2,?_⟩;by_cases hb:b=c/2
  ·subst hb;rcases wz c with hm|hm
   ·omega
   have:bt x (c/2)≠0:=fun e=>h ⟨hm,e⟩
   omega
  omega
 rintro⟨h1,h2⟩;exact⟨oO,h1⟩
def mY {c x y}(hc:c<=122)(hx:x<Cg)(hy:y<Cg):
  (EE c x y= -1/\∀k,c<=k->k<=122->¬fB k x y)\/
  (∃k:Nat,EE c x y=k/\c<=k/\k<=122/\fB k x y/\∀j,c<=j->j<k->¬fB j x y):=by
 unfold EE;by_cases hB:x=y
 ·subst hB;rw[if_pos rfl];exact .inr ⟨122,O,hc,ai _,by unfold fB;rw[if_pos rfl],fun j _ hj=>qJd hj⟩
 rw[if_neg hB];have hA:¬fB 122 x y:=by unfold fB;rw[if_pos rfl];exact hB
 by_cases hC:c=122
 ·rw[if_pos hC];refine .inl ⟨O,fun k h1 h2=>?_⟩;obtain rfl:k=122:=by omega
  exact hA
 rw[if_neg hC];have hD:dd c x y<2305843009213693952:=Nat.lt_of_le_of_lt (Px c x y) (Uc hx hy)
 have key:∀k,c<=k->k≠122->fB k x y->(dd c x y).testBit (k/2)=true:=by
  intro k h1 h2 h3;obtain⟨h4,h5⟩:=wX h2 h3;exact(qGm c x y (k/2)).2 ⟨h4,oO⟩
 by_cases hd:dd c x y=0
 ·rw[if_pos hd];refine .inl ⟨O,fun k h1 h2 h3=>?_⟩;by_cases hk:k=122
  ·subst hk;exact hA h3
  have:=key k h1 hk h3;rw[hd]at this;simp at this
 rw[if_neg hd];obtain⟨b1,b2,b3⟩:=qRc hd (Az hD (by decide));generalize Go.Lib.ctz 64 (dd c x y)=b at*
 have hE:b<61:=by
  apply Classical.byContradiction;intro hG;have:dd c x y<2^b:=mi hD (by rw[show(2305843009213693952:Nat)=2^61 from rfl];exact ol oO oO);rw[ug this]at b1;cases b1
 obtain⟨d1,d2⟩:=(qGm c x y b).1 b1;have hH:=QS x b;refine .inr ⟨2*b+bt x b,oO,d2,oO,wL oO d1,fun j h1 h2 h3=>?_⟩;have hj:=key j h1 oO h3
 have hF:j/2=b:=by
  rcases fw (j/2) b with h| h
  ·rw[b3 _ h]at hj;cases hj
  omega
 have:=(wX oO h3).2;rw[hF]at this;omega
def yM {x y}(hx:x<Cg)(hy:y<Cg):0<=EE 0 x y:=by
 rcases mY (c:=0) oO hx hy with⟨_,h⟩|⟨k,h,_⟩
 ·exfalso;by_cases hA:x=y
  ·exact h 122 oO oO (by unfold fB;rw[if_pos rfl];exact hA)
  obtain⟨b,hb⟩:=Nat.exists_testBit_ne_of_ne hA
  have hB:b<61:=by
   apply Classical.byContradiction;intro hC;have h2:(2:Nat)^61<=2^b:=ol oO oO;unfold Cg at hx hy;rw[ug oO,ug oO]at hb;exact hb O
  have hD:=QS x b;refine h (2*b+bt x b) oO oO (wL oO ?_);cases e1:x.testBit b<;>cases e2:y.testBit b<;>simp_all
 rw[h];omega
def after (low x y:Nat):Nat:=
 if 0<=EE (low/2%123) x y then 2*(low/2+1+(EE (low/2%123) x y).toNat-low/2%123)
 else 2*(low/2+1+(EE 0 x y).toNat+123-low/2%123)
def Zv (low x y:Nat):after low x y%2=0:=by unfold after;split <;>omega
def xQ {low x y}(hx:x<Cg)(hy:y<Cg):low<after low x y/\after low x y<=low+500:=by
 have hc:low/2%123<=122:=oO;unfold after;split
 ·rename_i h
  rcases mY hc hx hy with⟨h1,_⟩|⟨k,h1,h2,h3,_⟩
  ·omega
  rw[h1];simp only[ny];omega
 rcases mY (c:=0) oO hx hy with⟨h1,_⟩|⟨k,h1,h2,h3,_⟩
 ·have:=yM hx hy;omega
 rw[h1];simp only[ny];omega
end Eg
namespace Go.Proofs.YtnicahfnolhgbaaGreatDoor
section
open Go Go.RowKit Eg
set_option maxRecDepth 100000

def Fw (w:World):Prop:=∀j,j<Lib.deBruijn64tab.length->w.cell? ⟨0,j,none⟩=some (.int .u8 (Lib.deBruijn64tab.getD j 0))

def zBh (x k idx:Nat)(w:World)(hB:((x:Int)==0)=false)
  (key:IntKind.u64.wrap (bits BinOp.and IntKind.u64 (x:Int) (IntKind.u64.wrap (-(x:Int)))*285870213051353865)/288230376151711744=(idx:Int))
  (hi:idx<64) (hk:k<64) (hA:w.cell? ⟨0,idx,none⟩=some (.int .u8 k)):
  Calls Tryz.prog 241 #[.int .u64 x] w fun e w'=>e= .returned (.int .i64 k)/\w=w':=by
 go_enter Tryz.func241,Tryz.ntmps241
 go_wp2_with (simp only[key])
 go_ret
 exact⟨O,O⟩
def MR (x a:Nat)(hx:x<18446744073709551616)(hB:x≠0)(hA:x&&&(18446744073709551616-x)=a):
  IntKind.u64.wrap (bits BinOp.and IntKind.u64 (x:Int) (IntKind.u64.wrap (-(x:Int)))*285870213051353865)/288230376151711744=((a*285870213051353865%18446744073709551616/288230376151711744:Nat):Int):=by
 have e1:IntKind.u64.wrap (-(x:Int))=((18446744073709551616-x:Nat):Int):=by rw[IntKind.wrap_u64];omega
 rw[e1,bits_and_u64_nat x _ hx oO,hA,IntKind.wrap_u64];omega
def qFz (x:Nat)(hx:x<18446744073709551616)(hD:x≠0)(w:World)(hT:Fw w):
  Calls Tryz.prog 241 #[.int .u64 x] w fun e w'=>e= .returned (.int .i64 (Lib.ctz 64 x:Nat))/\w=w':=by
 obtain⟨hB,hk⟩:=Lib.lowest_bit 64 x hD hx;obtain⟨hi,hC⟩:=Lib.deBruijn64_at _ hk;have hA:=hT _ hi;rw[hC]at hA;exact zBh x _ _ w (by simp;omega) (MR x _ hx hD hB) hi hk hA

def MW {x y}(hx:x<Cg)(hy:y<Cg):bits .and .u64 (bits .xor .u64 (x:Int) (y:Int)) 2305843009213693951=((xr x y:Nat):Int):=by
 have h:=Uc hx hy;have h1:=Gc hx;have h2:=Gc hy;unfold Eh at h1 h2;rw[u64_xor_nat x y h1 h2,XZ _ (by unfold xr at h;omega)];unfold xr at*;rw[qm h]
def MG {x y}(h:Nat)(hx:x<Cg)(hy:y<Cg):IntKind.u64.wrap (((xr x y:Nat):Int)/2^h*2^h)=((dn x y h:Nat):Int):=by
 have h0:=Uc hx hy;have h1:=Ia x y h
 have e:((xr x y:Nat):Int)/2^h*2^h=((dn x y h:Nat):Int):=by
  unfold dn;rw[nz,xk,qb];rfl
 rw[e,IntKind.wrap_u64];omega
def JW {x}(h:Nat)(hx:x<Cg):bits .and .u64 ((x:Int)/2^h) 1=((bt x h:Nat):Int):=by
 have h1:=Gc hx;unfold Eh at h1;have h2:x/2^h<=x:=Nat.div_le_self _ _;have e:(x:Int)/2^h=((x/2^h:Nat):Int):=by rw[xk,qb];rfl
 rw[e,show(1:Int)=((1:Nat):Int)from rfl,u64_and_nat _ _ oO oO,Nat.and_one_is_mod];rfl
def qVs {x y}(h:Nat)(hh:h<61)(hx:x<Cg)(hy:y<Cg):bits .andNot .u64 ((dn x y h:Nat):Int) (IntKind.u64.wrap (2^h))=((dm x y h:Nat):Int):=by
 have h0:=Uc hx hy;have h1:=Ia x y h;have hp:(2:Nat)^h<2^61:=Nat.pow_lt_pow_right oO hh;have hD:(2:Nat)^61=2305843009213693952:=rfl
 have e:IntKind.u64.wrap ((2:Int)^h)=((2^h:Nat):Int):=by
  rw[IntKind.wrap_u64,show((2:Int)^h)=((2^h:Nat):Int)from by rw[qb];rfl];have hA:(2:Nat)^h<18446744073709551616:=oO;exact AJ (oP _) (Int.ofNat_lt.2 hA)
 rw[e,u64_andNot_nat _ _ oO oO];congr 1;apply Nat.eq_of_testBit_eq;intro b;rw[Nat.testBit_and,zY,qGn,show(18446744073709551615:Nat)=2^64-1 from rfl];rw[show 2^64-1-2^h=2^64-(2^h+1) by omega,Nat.testBit_two_pow_sub_succ oO,Nat.testBit_two_pow];by_cases hb:b<64
 ·by_cases he:h=b
  ·subst he;simp;intro h9;omega
  simp only[hb,he,decide_true,decide_false,Bool.not_false,Bool.and_self,Bool.and_true];congr 1;rw[uu];simp;omega
 have hB:x.testBit b=false:=ug (mi hx (jv (by unfold Cg;omega:Cg<=2^61) (ol oO oO)));have hC:y.testBit b=false:=ug (mi hy (jv (by unfold Cg;omega:Cg<=2^61) (ol oO oO)));simp[hB,hC]

def qPi (d x:Nat)(hA:d≠0)(hd:d<2305843009213693952)(hx:x<Cg):Lib.ctz 64 d<64/\bits .and .u64 ((x:Int)/2^Lib.ctz 64 d) 1=((bt x (Lib.ctz 64 d):Nat):Int)/\bt x (Lib.ctz 64 d)<2:=
 ⟨(qRc hA (Az hd (by decide))).2.1,JW _ hx,QS _ _⟩

def Zc (c x y:Nat)(w:World)(hc:c<=122)(hx:x<Cg)(hy:y<Cg)(hT:Fw w):
  Calls Tryz.prog 239 #[.int .i64 c,.int .u64 x,.int .u64 y] w fun e w'=>e= .returned (.int .i64 (EE c x y))/\w=w':=by
 have HT:=Lib.hid hT;clear hT;by_cases hC:x=y
 ·have e:EE c x y=122:=by unfold EE;rw[if_pos hC]
  rw[e];subst hC;go_enter Tryz.func239,Tryz.ntmps239
  go_wp2_with fail
  go_ret
  exact⟨O,O⟩
 have hI:((x:Int)==y)=false:=by simp;omega
 by_cases hE:c=122
 ·have e:EE c x y= -1:=by unfold EE;rw[if_neg hC,if_pos hE]
  rw[e];subst hE;go_enter Tryz.func239,Tryz.ntmps239
  go_wp2_with fail
  go_ret
  exact⟨O,O⟩
 have hJ:((c:Int)==122)=false:=by simp;omega
 have hF:dd c x y<2305843009213693952:=Nat.lt_of_le_of_lt (Px c x y) (Uc hx hy);have e1:=MW hx hy;have e2:=MG (c/2) hx hy;have e3:=JW (c/2) hx;have e4:=qVs (c/2) oO hx hy
 have hB:EE c x y=if dd c x y=0 then(-1:Int)else 2*((Lib.ctz 64 (dd c x y):Nat):Int)+((bt x (Lib.ctz 64 (dd c x y)):Nat):Int):=by
  unfold EE;rw[if_neg hC,if_neg hE]
 have hD:=fun h0=>qPi (dd c x y) x h0 hF hx
 have hA:dd c x y=if c%2=1/\bt x (c/2)=0 then dm x y (c/2)else dn x y (c/2):=rfl;by_cases hz:dd c x y=0
 ·rw[hB,if_pos hz];rw[hz]at hA;clear hB hD hF;by_cases ho:c%2=1
  ·by_cases hb:bt x (c/2)=0
   ·rw[if_pos ⟨ho,hb⟩]at hA;rw[hb]at e3;rw[<-hA]at e4;have o1:(c:Int)%2=1:=oO;clear hb hA ho hz hC;go_enter Tryz.func239,Tryz.ntmps239
    go_wp2_with fail
    go_ret
    exact⟨O,O⟩
   rw[if_neg (fun h=>hb h.2)]at hA;rw[<-hA]at e2;have hH:(((bt x (c/2):Nat):Int)==0)=false:=by simp;omega
   have o1:(c:Int)%2=1:=oO;clear hb hA ho hz e4 hC;go_enter Tryz.func239,Tryz.ntmps239
   go_wp2_with fail
   go_ret
   exact⟨O,O⟩
  rw[if_neg (fun h=>ho h.1)]at hA;rw[<-hA]at e2;have o1:(c:Int)%2=0:=oO;clear hA ho hz e4 e3 hC;go_enter Tryz.func239,Tryz.ntmps239
  go_wp2_with fail
  go_ret
  exact⟨O,O⟩
 rw[hB,if_neg hz];obtain⟨q1,q2,q3⟩:=hD hz;have hG:=qFz (dd c x y) oO hz w HT.out;have hK:(((dd c x y:Nat):Int)==0)=false:=by simp;omega
 have HTZ:=Lib.hid hG;clear hB hD hF hG hz hC;by_cases ho:c%2=1
 ·have o1:(c:Int)%2=1:=oO;by_cases hb:bt x (c/2)=0
  ·rw[if_pos ⟨ho,hb⟩]at hA;rw[hb]at e3;rw[<-hA]at e4;generalize dd c x y=d at*;clear hb hA ho;generalize Lib.ctz 64 d=k at*;generalize bt x k=bk at*;go_enter Tryz.func239,Tryz.ntmps239
   go_wp2_with fail
   refine(HTZ.out).mono ?_;rintro e w'⟨rfl,rfl⟩;go_wp2_with fail
   go_ret
   exact⟨tV oO,O⟩
  rw[if_neg (fun h=>hb h.2)]at hA;rw[<-hA]at e2;have hH:(((bt x (c/2):Nat):Int)==0)=false:=by simp;omega
  generalize dd c x y=d at*;clear hb hA ho e4;generalize Lib.ctz 64 d=k at*;generalize bt x k=bk at*;go_enter Tryz.func239,Tryz.ntmps239
  go_wp2_with fail
  refine(HTZ.out).mono ?_;rintro e w'⟨rfl,rfl⟩;go_wp2_with fail
  go_ret
  exact⟨tV oO,O⟩
 have o1:(c:Int)%2=0:=oO;rw[if_neg (fun h=>ho h.1)]at hA;rw[<-hA]at e2;generalize dd c x y=d at*;clear hA ho e4 e3;generalize Lib.ctz 64 d=k at*;generalize bt x k=bk at*;go_enter Tryz.func239,Tryz.ntmps239
 go_wp2_with fail
 refine(HTZ.out).mono ?_;rintro e w'⟨rfl,rfl⟩;go_wp2_with fail
 go_ret
 exact⟨tV oO,O⟩
end
section
open Go Go.RowKit Eg
set_option maxRecDepth 100000

def Oy {a b c d}(h1:a=c)(h2:b=d):Ending.returned (.tuple #[a,b])= .returned (.tuple #[c,d]):=by rw[h1,h2]
def qNl {a b c d e f}(h1:a=d)(h2:b=e)(h3:c=f):Ending.returned (.tuple #[a,b,c])= .returned (.tuple #[d,e,f]):=by rw[h1,h2,h3]

def Wo (low x y:Nat)(w:World)(hl:low<1099511627776)(hx:x<Cg)(hy:y<Cg)(hT:Fw w):
  Calls Tryz.prog 233 #[.int .i64 low,.int .u64 x,.int .u64 y] w fun e w'=>e= .returned (.int .i64 (after low x y:Nat))/\w=w':=by
 have hc:low/2%123<=122:=oO;have h1:=Zc (low/2%123) x y w hc hx hy hT;have h2:=Zc 0 x y w oO hx hy hT;have hz:=yM hx hy;have s1:=mY hc hx hy;have s2:=mY (c:=0) oO hx hy;have hv:after low x y=if 0<=EE (low/2%123) x y then 2*(low/2+1+(EE (low/2%123) x y).toNat-low/2%123)else 2*(low/2+1+(EE 0 x y).toNat+123-low/2%123):=rfl
 have b1:EE (low/2%123) x y<=122:=by
  rcases s1 with⟨e,_⟩|⟨k,e,_,h3,_⟩<;>omega
 have b0: -1<=EE (low/2%123) x y:=by
  rcases s1 with⟨e,_⟩|⟨k,e,_,h3,_⟩<;>omega
 have b2:EE 0 x y<=122:=by
  rcases s2 with⟨e,_⟩|⟨k,e,_,h3,_⟩<;>omega
 have b3:0<=EE (low/2%123) x y->(low/2%123:Nat)<=EE (low/2%123) x y:=by
  rcases s1 with⟨e,_⟩|⟨k,e,h2,h3,_⟩<;>intro <;>omega
 generalize EE (low/2%123) x y=f1 at*;generalize EE 0 x y=f2 at*;generalize after low x y=r at*;have H1:=Lib.hid h1;have H2:=Lib.hid h2;clear h1 h2 s1 s2 hT;by_cases hf:0<=f1
 ·rw[if_pos hf]at hv;have b4:=b3 hf;have HV:=Lib.hid hv;clear hv b3;have hA:decide ((0:Int)<=f1)=true:=by simpa using hf
  go_enter Tryz.func233,Tryz.ntmps233
  go_wp2_with fail
  rw[show((low:Int)/2%123)=((low/2%123:Nat):Int)from by omega];refine(H1.out).mono ?_;rintro e w'⟨rfl,rfl⟩;go_wp2_with fail
  go_ret
  exact⟨tV (by have:=HV.out;omega),O⟩
 rw[if_neg hf]at hv;have HV:=Lib.hid hv;have hA:decide ((0:Int)<=f1)=false:=by simpa using hf
 have hB:decide ((0:Int)<=f2)=true:=by simpa using hz
 clear hv b3;go_enter Tryz.func233,Tryz.ntmps233
 go_wp2_with fail
 rw[show((low:Int)/2%123)=((low/2%123:Nat):Int)from by omega];refine(H1.out).mono ?_;rintro e w'⟨rfl,rfl⟩;go_wp2_with fail
 refine(H2.out).mono ?_;rintro e w'⟨rfl,rfl⟩;go_wp2_with fail
 go_ret
 exact⟨tV (by have:=HV.out;omega),O⟩

def Zk (l:Nat)(w:World)(h2:2<=l)(he:l%2=0)(hl:l<1099511627776):
  Calls Tryz.prog 222 #[.int .i64 l] w fun e w'=>e= .returned (.tuple #[.int .i64 (((l/2-1)%123:Nat):Int),.bool true])/\w=w':=by
 have h1:decide ((l:Int)<2)=false:=by simp;omega
 have h3:((l:Int)%2 !=0)=false:=by simp;omega
 go_enter Tryz.func222,Tryz.ntmps222
 go_wp2_with fail
 go_ret2
 have e0:((l:Int)/2-1)%123=(((l/2-1)%123:Nat):Int):=oO;exact⟨Oy (au (Value.int .i64) e0) O,O⟩

def qHf (l:Nat)(w:World)(h2:2<=l)(he:l%2=0)(hl:l<1099511627776):
  Calls Tryz.prog 206 #[.int .i64 l] w fun e w'=>e= .returned (.tuple (if(l/2-1)%123=122 then #[.int .i64 0,.int .u64 0,.bool true]else #[.int .i64 (((l/2-1)%123/2:Nat):Int),.int .u64 (((l/2-1)%123%2:Nat):Int),.bool false]))/\w=w':=by
 have hn:=Zk l w h2 he hl;have hA:(l/2-1)%123<123:=tq _ oO;generalize(l/2-1)%123=c at*;have HN:=Lib.hid hn;clear hn;by_cases hc:c=122
 ·rw[if_pos hc];subst hc;go_enter Tryz.func206,Tryz.ntmps206
  go_wp2_with fail
  refine(HN.out).mono ?_;rintro e w'⟨rfl,rfl⟩;go_wp2_with fail
  go_ret3
  exact⟨O,O⟩
 rw[if_neg hc];have hB:((c:Int)==122)=false:=by simp;omega
 go_enter Tryz.func206,Tryz.ntmps206
 go_wp2_with fail
 refine(HN.out).mono ?_;rintro e w'⟨rfl,rfl⟩;go_wp2_with fail
 go_ret3
 have e0:(c:Int)/2=((c/2:Nat):Int):=oO;have e1:IntKind.u64.wrap ((c:Int)%2)=((c%2:Nat):Int):=by rw[IntKind.wrap_u64];omega
 first
  |exact⟨qNl (au (Value.int .i64) e0) (au (Value.int .u64) e1) rfl,rfl⟩
  |exact⟨qNl (au (Value.int .i64) e0) (au (Value.int .u64) (show(c:Int)%2=_ by omega)) rfl,rfl⟩
end
section
open Go Go.RowKit Eg
set_option maxRecDepth 100000

def XR {w w'}(h:Fw w)(h0:0<w.heap.size)(hb:Below w.heap.size w w'):Fw w':=fun j hj=>by
 rw[hb.cell (p:=⟨0,j,none⟩) h0];exact h j hj

def qFo (w:World)(tb g n cap:Nat)(bb:UInt8)(ht:w.cell? ⟨tb,1,none⟩=some (.slice (some ⟨g,0,none⟩) n cap))(hg:g<w.heap.size)(hC:tb<w.heap.size)(hn:0<n/\n<=cap/\n<=1048577)
  (l0:w.cell? ⟨g,0,none⟩=some (.int .u64 0)) (l1:w.cell? ⟨g,1,none⟩=some (.int .i64 0)) (l2:w.cell? ⟨g,2,none⟩=some (.bool false)):
  Calls Tryz.prog 221 #[.pointer (some ⟨tb,0,none⟩),.agg #[.int .i64 1,.int .u8 bb.toNat,.int .i64 0,.int .i64 0,.int .i64 0]] w fun e w'=>e= .returned (.agg #[.int .u64 (Gd 1 bb.toNat 0:Nat),.int .i64 0,.bool true])/\Below w.heap.size w w':=by
 obtain⟨hn,hD,hE⟩:=hn;have hb:=bb.toNat_lt;have c0:=CQ.new_at w O [.int .i64 1,.int .u8 bb.toNat,.int .i64 0,.int .i64 0,.int .i64 0] 111
 have hk:∀w',Below (w.heap.size+1) (w.alloc (.cells #[.int .i64 1,.int .u8 bb.toNat,.int .i64 0,.int .i64 0,.int .i64 0] 111)) w'->w'.cell? ⟨tb,1,none⟩=some (.slice (some ⟨g,0,none⟩) n cap)/\w'.cell? ⟨w.heap.size,2,none⟩=some (.int .i64 0)/\w'.cell? ⟨w.heap.size,3,none⟩=some (.int .i64 0)/\w'.cell? ⟨g,0,none⟩=some (.int .u64 0)/\w'.cell? ⟨g,1,none⟩=some (.int .i64 0)/\w'.cell? ⟨g,2,none⟩=some (.bool false):=by
  intro w' hB;have hA:Below w.heap.size w w':=Below.trans (by go_grown) (hB.mono oO);have c1:=c0.below hB oO;refine⟨?_,c1.cell 2 O,c1.cell 3 O,?_,?_,?_⟩
  ·rw[hA.cell (p:=⟨tb,1,none⟩) hC];exact ht
  ·rw[hA.cell (p:=⟨g,0,none⟩) hg];exact l0
  ·rw[hA.cell (p:=⟨g,1,none⟩) hg];exact l1
  rw[hA.cell (p:=⟨g,2,none⟩) hg];exact l2
 have HK:=Lib.hid hk;clear hk c0;go_enter Tryz.func221,Tryz.ntmps221
 go_wp2_with fail
 go_region_held3 (fun w'=>w'.cell? ⟨tb,1,none⟩=some (.slice (some ⟨g,0,none⟩) n cap)/\w'.cell? ⟨w.heap.size,2,none⟩=some (.int .i64 0)/\w'.cell? ⟨w.heap.size,3,none⟩=some (.int .i64 0)/\w'.cell? ⟨g,0,none⟩=some (.int .u64 0)/\w'.cell? ⟨g,1,none⟩=some (.int .i64 0)/\w'.cell? ⟨g,2,none⟩=some (.bool false)) (exact HK.out _ (by go_grown)) (first |fail)
 all_goals
  go_wp2_with fail
  refine(Sm 1 bb.toNat 0 _ (by unfold Eh;omega) (by unfold Eh;omega) (by unfold Eh;omega)).mono ?_
  rintro e w'⟨rfl,rfl⟩
  go_wp2_with fail
  refine bodyPost_ret (v:= .agg #[.int .u64 (Gd 1 bb.toNat 0:Nat),.int .i64 0,.bool true]) (by simp[results,Tryz.results221,go_sem]) O ⟨O,by go_grown⟩

def qCp (w:World)(tb g n cap:Nat)(a b k1 k2:Nat)(v1 v2:Int)(ha:a<n)(hb:b<n)(hE:k1<Cg)(hF:k2<Cg)(hB:a=b\/v1<0\/v2<0)(ht:w.cell? ⟨tb,1,none⟩=some (.slice (some ⟨g,0,none⟩) n cap))(hg:g<w.heap.size)(hH:tb<w.heap.size)(hn:0<n/\n<=cap/\n<=1048577)
  (l0:w.cell? ⟨g,a*3,none⟩=some (.int .u64 k1)) (l1:w.cell? ⟨g,a*3+1,none⟩=some (.int .i64 v1)) (l2:w.cell? ⟨g,a*3+2,none⟩=some (.bool true)) (r0:w.cell? ⟨g,b*3,none⟩=some (.int .u64 k2)) (r1:w.cell? ⟨g,b*3+1,none⟩=some (.int .i64 v2)) (r2:w.cell? ⟨g,b*3+2,none⟩=some (.bool true)):
  Calls Tryz.prog 221 #[.pointer (some ⟨tb,0,none⟩),.agg #[.int .i64 2,.int .u8 0,.int .i64 a,.int .i64 b,.int .i64 0]] w fun e w'=>e= .returned (.agg #[.int .u64 (Gd 2 k1 k2:Nat),.int .i64 (-1),.bool true])/\Below w.heap.size w w':=by
 obtain⟨hn,hI,hJ⟩:=hn;have hC:=Lib.hid (Gc hE);have hD:=Lib.hid (Gc hF);have HB:=Lib.hid hB;clear hE hF hB;have c0:=CQ.new_at w O [.int .i64 2,.int .u8 0,.int .i64 a,.int .i64 b,.int .i64 0] 111
 have hk:∀w',Below (w.heap.size+1) (w.alloc (.cells #[.int .i64 2,.int .u8 0,.int .i64 a,.int .i64 b,.int .i64 0] 111)) w'->w'.cell? ⟨tb,1,none⟩=some (.slice (some ⟨g,0,none⟩) n cap)/\w'.cell? ⟨w.heap.size,2,none⟩=some (.int .i64 a)/\w'.cell? ⟨w.heap.size,3,none⟩=some (.int .i64 b)/\w'.cell? ⟨g,a*3,none⟩=some (.int .u64 k1)/\w'.cell? ⟨g,a*3+1,none⟩=some (.int .i64 v1)/\w'.cell? ⟨g,a*3+2,none⟩=some (.bool true)/\w'.cell? ⟨g,b*3,none⟩=some (.int .u64 k2)/\w'.cell? ⟨g,b*3+1,none⟩=some (.int .i64 v2)/\w'.cell? ⟨g,b*3+2,none⟩=some (.bool true):=by
  intro w' hG;have hA:Below w.heap.size w w':=Below.trans (by go_grown) (hG.mono oO);have c1:=c0.below hG oO;refine⟨?_,c1.cell 2 O,c1.cell 3 O,?_,?_,?_,?_,?_,?_⟩
  ·rw[hA.cell (p:=⟨tb,1,none⟩) hH];exact ht
  ·rw[hA.cell (p:=⟨g,a*3,none⟩) hg];exact l0
  ·rw[hA.cell (p:=⟨g,a*3+1,none⟩) hg];exact l1
  ·rw[hA.cell (p:=⟨g,a*3+2,none⟩) hg];exact l2
  ·rw[hA.cell (p:=⟨g,b*3,none⟩) hg];exact r0
  ·rw[hA.cell (p:=⟨g,b*3+1,none⟩) hg];exact r1
  rw[hA.cell (p:=⟨g,b*3+2,none⟩) hg];exact r2
 have HK:=Lib.hid hk;clear hk c0;go_enter Tryz.func221,Tryz.ntmps221
 go_wp2_with fail
 go_region_held3 (fun w'=>w'.cell? ⟨tb,1,none⟩=some (.slice (some ⟨g,0,none⟩) n cap)/\w'.cell? ⟨w.heap.size,2,none⟩=some (.int .i64 a)/\w'.cell? ⟨w.heap.size,3,none⟩=some (.int .i64 b)/\w'.cell? ⟨g,a*3,none⟩=some (.int .u64 k1)/\w'.cell? ⟨g,a*3+1,none⟩=some (.int .i64 v1)/\w'.cell? ⟨g,a*3+2,none⟩=some (.bool true)/\w'.cell? ⟨g,b*3,none⟩=some (.int .u64 k2)/\w'.cell? ⟨g,b*3+1,none⟩=some (.int .i64 v2)/\w'.cell? ⟨g,b*3+2,none⟩=some (.bool true)) (exact HK.out _ (by go_grown)) (first |fail)
 all_goals
  go_wp2_with fail
  refine(Sm 2 k1 k2 _ (by unfold Eh;omega) hC.out hD.out).mono ?_
  rintro e w'⟨rfl,rfl⟩
  by_cases h1:a=b
  ·have h2:((a:Int) !=(b:Int))=false:=by simp[h1]
   clear h1 HB
   go_wp2_with fail
   refine bodyPost_ret (v:= .agg #[.int .u64 (Gd 2 k1 k2:Nat),.int .i64 (-1),.bool true]) (by simp[results,Tryz.results221,go_sem]) O ⟨O,by go_grown⟩
  have h2:((a:Int) !=(b:Int))=true:=by simp;omega
  by_cases h3:v1<0
  ·have h4:decide (0<=v1)=false:=by simp;omega
   clear h1 HB
   go_wp2_with fail
   refine bodyPost_ret (v:= .agg #[.int .u64 (Gd 2 k1 k2:Nat),.int .i64 (-1),.bool true]) (by simp[results,Tryz.results221,go_sem]) O ⟨O,by go_grown⟩
  have h4:decide (0<=v1)=true:=by simp;omega
  have h5:decide (0<=v2)=false:=by
   rcases HB.out with h|h| h
   ·exact absurd h h1
   ·exact absurd h h3
   simp;omega
  clear h1 h3 HB
  go_wp2_with fail
  refine bodyPost_ret (v:= .agg #[.int .u64 (Gd 2 k1 k2:Nat),.int .i64 (-1),.bool true]) (by simp[results,Tryz.results221,go_sem]) O ⟨O,by go_grown⟩

def qLd (w:World)(tb g n cap:Nat)(a b k1 k2 v1 v2 m:Nat)(hB:m=max v1 v2)(hT:Fw w)(ha:a<n)(hb:b<n)(hC:k1<Cg)(hD:k2<Cg)(hJ:v1<1099511627776)(hK:v2<1099511627776)(hH:a≠b)(ht:w.cell? ⟨tb,1,none⟩=some (.slice (some ⟨g,0,none⟩) n cap))(hg:g<w.heap.size)(hI:tb<w.heap.size)(hn:0<n/\n<=cap/\n<=1048577)
  (l0:w.cell? ⟨g,a*3,none⟩=some (.int .u64 k1)) (l1:w.cell? ⟨g,a*3+1,none⟩=some (.int .i64 (v1:Nat))) (l2:w.cell? ⟨g,a*3+2,none⟩=some (.bool true)) (r0:w.cell? ⟨g,b*3,none⟩=some (.int .u64 k2)) (r1:w.cell? ⟨g,b*3+1,none⟩=some (.int .i64 (v2:Nat))) (r2:w.cell? ⟨g,b*3+2,none⟩=some (.bool true)):
  Calls Tryz.prog 221 #[.pointer (some ⟨tb,0,none⟩),.agg #[.int .i64 2,.int .u8 0,.int .i64 a,.int .i64 b,.int .i64 0]] w fun e w'=>e= .returned (.agg #[.int .u64 (Gd 2 k1 k2:Nat),.int .i64 (after m k1 k2:Nat),.bool true])/\Below w.heap.size w w':=by
 obtain⟨hn,hL,hM⟩:=hn;have hE:=Lib.hid (Gc hC);have hF:=Lib.hid (Gc hD);have HK1:=Lib.hid hC;have HK2:=Lib.hid hD;have h2:((a:Int) !=(b:Int))=true:=by simp;omega
 have h4:decide ((0:Int)<=(v1:Int))=true:=by simp
 have h5:decide ((0:Int)<=(v2:Int))=true:=by simp
 have HT:=Lib.hid hT;have h0:0<w.heap.size:=oO;have HM:=Lib.hid hB;clear hC hD hH hT hB;have c0:=CQ.new_at w O [.int .i64 2,.int .u8 0,.int .i64 a,.int .i64 b,.int .i64 0] 111
 have hk:∀w',Below (w.heap.size+1) (w.alloc (.cells #[.int .i64 2,.int .u8 0,.int .i64 a,.int .i64 b,.int .i64 0] 111)) w'->w'.cell? ⟨tb,1,none⟩=some (.slice (some ⟨g,0,none⟩) n cap)/\w'.cell? ⟨w.heap.size,2,none⟩=some (.int .i64 a)/\w'.cell? ⟨w.heap.size,3,none⟩=some (.int .i64 b)/\w'.cell? ⟨g,a*3,none⟩=some (.int .u64 k1)/\w'.cell? ⟨g,a*3+1,none⟩=some (.int .i64 (v1:Nat))/\w'.cell? ⟨g,a*3+2,none⟩=some (.bool true)/\w'.cell? ⟨g,b*3,none⟩=some (.int .u64 k2)/\w'.cell? ⟨g,b*3+1,none⟩=some (.int .i64 (v2:Nat))/\w'.cell? ⟨g,b*3+2,none⟩=some (.bool true):=by
  intro w' hG;have hA:Below w.heap.size w w':=Below.trans (by go_grown) (hG.mono oO);have c1:=c0.below hG oO;refine⟨?_,c1.cell 2 O,c1.cell 3 O,?_,?_,?_,?_,?_,?_⟩
  ·rw[hA.cell (p:=⟨tb,1,none⟩) hI];exact ht
  ·rw[hA.cell (p:=⟨g,a*3,none⟩) hg];exact l0
  ·rw[hA.cell (p:=⟨g,a*3+1,none⟩) hg];exact l1
  ·rw[hA.cell (p:=⟨g,a*3+2,none⟩) hg];exact l2
  ·rw[hA.cell (p:=⟨g,b*3,none⟩) hg];exact r0
  ·rw[hA.cell (p:=⟨g,b*3+1,none⟩) hg];exact r1
  rw[hA.cell (p:=⟨g,b*3+2,none⟩) hg];exact r2
 have HK:=Lib.hid hk;clear hk c0;go_enter Tryz.func221,Tryz.ntmps221
 go_wp2_with fail
 go_region_held3 (fun w'=>w'.cell? ⟨tb,1,none⟩=some (.slice (some ⟨g,0,none⟩) n cap)/\w'.cell? ⟨w.heap.size,2,none⟩=some (.int .i64 a)/\w'.cell? ⟨w.heap.size,3,none⟩=some (.int .i64 b)/\w'.cell? ⟨g,a*3,none⟩=some (.int .u64 k1)/\w'.cell? ⟨g,a*3+1,none⟩=some (.int .i64 (v1:Nat))/\w'.cell? ⟨g,a*3+2,none⟩=some (.bool true)/\w'.cell? ⟨g,b*3,none⟩=some (.int .u64 k2)/\w'.cell? ⟨g,b*3+1,none⟩=some (.int .i64 (v2:Nat))/\w'.cell? ⟨g,b*3+2,none⟩=some (.bool true)) (exact HK.out _ (by go_grown)) (first |fail)
 all_goals
  go_wp2_with fail
  refine(Sm 2 k1 k2 _ (by unfold Eh;omega) hE.out hF.out).mono ?_
  rintro e w'⟨rfl,rfl⟩
  rcases uz v1 v2 with hm|hm|hm
  ·obtain rfl:m=v2:=HM.out.trans (Nat.max_eq_right oO)
   go_wp2_with fail
   all_goals
    refine(Wo m k1 k2 _ oO HK1.out HK2.out (XR HT.out h0 (by go_grown))).mono ?_
    rintro e w'⟨rfl,rfl⟩
    go_wp2_with fail
    refine bodyPost_ret (v:= .agg #[.int .u64 (Gd 2 k1 k2:Nat),.int .i64 (after m k1 k2:Nat),.bool true]) (by simp[results,Tryz.results221,go_sem]) O ⟨O,by go_grown⟩
  ·obtain rfl:v1=v2:=hm
   obtain rfl:m=v1:=HM.out.trans (Nat.max_self _)
   go_wp2_with fail
   all_goals
    refine(Wo m k1 k2 _ oO HK1.out HK2.out (XR HT.out h0 (by go_grown))).mono ?_
    rintro e w'⟨rfl,rfl⟩
    go_wp2_with fail
    refine bodyPost_ret (v:= .agg #[.int .u64 (Gd 2 k1 k2:Nat),.int .i64 (after m k1 k2:Nat),.bool true]) (by simp[results,Tryz.results221,go_sem]) O ⟨O,by go_grown⟩
  obtain rfl:m=v1:=HM.out.trans (Nat.max_eq_left oO)
  go_wp2_with fail
  all_goals
   refine(Wo m k1 k2 _ oO HK1.out HK2.out (XR HT.out h0 (by go_grown))).mono ?_
   rintro e w'⟨rfl,rfl⟩
   go_wp2_with fail
   refine bodyPost_ret (v:= .agg #[.int .u64 (Gd 2 k1 k2:Nat),.int .i64 (after m k1 k2:Nat),.bool true]) (by simp[results,Tryz.results221,go_sem]) O ⟨O,by go_grown⟩

def qIb (w:World)(tb g n cap:Nat)(a k1 k:Nat)(v1 r:Int)(hr:r=if 0<=v1/\v1%2=0 then v1+1 else -1)(ha:a<n)(hC:k1<Cg)(hF:k<9223372036854775808)(hv:v1<1099511627776)(ht:w.cell? ⟨tb,1,none⟩=some (.slice (some ⟨g,0,none⟩) n cap))(hg:g<w.heap.size)(hE:tb<w.heap.size)(hn:0<n/\n<=cap/\n<=1048577)
  (l0:w.cell? ⟨g,a*3,none⟩=some (.int .u64 k1)) (l1:w.cell? ⟨g,a*3+1,none⟩=some (.int .i64 v1)) (l2:w.cell? ⟨g,a*3+2,none⟩=some (.bool true)) (r0:w.cell? ⟨g,0,none⟩=some (.int .u64 0)) (r1:w.cell? ⟨g,1,none⟩=some (.int .i64 0)) (r2:w.cell? ⟨g,2,none⟩=some (.bool false)):
  Calls Tryz.prog 221 #[.pointer (some ⟨tb,0,none⟩),.agg #[.int .i64 3,.int .u8 0,.int .i64 a,.int .i64 0,.int .i64 k]] w fun e w'=>e= .returned (.agg #[.int .u64 (Gd 3 k1 k:Nat),.int .i64 r,.bool true])/\Below w.heap.size w w':=by
 obtain⟨hn,hG,hH⟩:=hn;have hA:=Lib.hid (Gc hC);have hI:IntKind.u64.wrap (k:Int)=k:=wrap_u64 k (by unfold Eh;omega);have HR:=Lib.hid hr;clear hC hr;have c0:=CQ.new_at w O [.int .i64 3,.int .u8 0,.int .i64 a,.int .i64 0,.int .i64 k] 111
 have hk:∀w',Below (w.heap.size+1) (w.alloc (.cells #[.int .i64 3,.int .u8 0,.int .i64 a,.int .i64 0,.int .i64 k] 111)) w'->w'.cell? ⟨tb,1,none⟩=some (.slice (some ⟨g,0,none⟩) n cap)/\w'.cell? ⟨w.heap.size,2,none⟩=some (.int .i64 a)/\w'.cell? ⟨w.heap.size,3,none⟩=some (.int .i64 0)/\w'.cell? ⟨g,a*3,none⟩=some (.int .u64 k1)/\w'.cell? ⟨g,a*3+1,none⟩=some (.int .i64 v1)/\w'.cell? ⟨g,a*3+2,none⟩=some (.bool true)/\w'.cell? ⟨g,0,none⟩=some (.int .u64 0)/\w'.cell? ⟨g,1,none⟩=some (.int .i64 0)/\w'.cell? ⟨g,2,none⟩=some (.bool false):=by
  intro w' hD;have hB:Below w.heap.size w w':=Below.trans (by go_grown) (hD.mono oO);have c1:=c0.below hD oO;refine⟨?_,c1.cell 2 O,c1.cell 3 O,?_,?_,?_,?_,?_,?_⟩
  ·rw[hB.cell (p:=⟨tb,1,none⟩) hE];exact ht
  ·rw[hB.cell (p:=⟨g,a*3,none⟩) hg];exact l0
  ·rw[hB.cell (p:=⟨g,a*3+1,none⟩) hg];exact l1
  ·rw[hB.cell (p:=⟨g,a*3+2,none⟩) hg];exact l2
  ·rw[hB.cell (p:=⟨g,0,none⟩) hg];exact r0
  ·rw[hB.cell (p:=⟨g,1,none⟩) hg];exact r1
  rw[hB.cell (p:=⟨g,2,none⟩) hg];exact r2
 have HK:=Lib.hid hk;clear hk c0;go_enter Tryz.func221,Tryz.ntmps221
 go_wp2_with fail
 go_region_held3 (fun w'=>w'.cell? ⟨tb,1,none⟩=some (.slice (some ⟨g,0,none⟩) n cap)/\w'.cell? ⟨w.heap.size,2,none⟩=some (.int .i64 a)/\w'.cell? ⟨w.heap.size,3,none⟩=some (.int .i64 0)/\w'.cell? ⟨g,a*3,none⟩=some (.int .u64 k1)/\w'.cell? ⟨g,a*3+1,none⟩=some (.int .i64 v1)/\w'.cell? ⟨g,a*3+2,none⟩=some (.bool true)/\w'.cell? ⟨g,0,none⟩=some (.int .u64 0)/\w'.cell? ⟨g,1,none⟩=some (.int .i64 0)/\w'.cell? ⟨g,2,none⟩=some (.bool false)) (exact HK.out _ (by go_grown)) (first |fail)
 all_goals
  by_cases h1:0<=v1
  ·have h4:decide (0<=v1)=true:=by simpa using h1
   by_cases h2:v1%2=0
   ·obtain rfl:=HR.out.trans (if_pos ⟨h1,h2⟩)
    go_wp2_with fail
    refine(Sm 3 k1 k _ (by unfold Eh;omega) hA.out (by unfold Eh;omega)).mono ?_
    rintro e w'⟨rfl,rfl⟩
    go_wp2_with fail
    refine bodyPost_ret (v:= .agg #[.int .u64 (Gd 3 k1 k:Nat),.int .i64 (v1+1),.bool true]) (by simp[results,Tryz.results221,go_sem]) O ⟨O,by go_grown⟩
   obtain rfl:=HR.out.trans (if_neg (fun h=>h2 h.2))
   have h5:v1%2=1:=oO
   clear h2
   go_wp2_with fail
   refine(Sm 3 k1 k _ (by unfold Eh;omega) hA.out (by unfold Eh;omega)).mono ?_
   rintro e w'⟨rfl,rfl⟩
   go_wp2_with fail
   refine bodyPost_ret (v:= .agg #[.int .u64 (Gd 3 k1 k:Nat),.int .i64 (-1),.bool true]) (by simp[results,Tryz.results221,go_sem]) O ⟨O,by go_grown⟩
  have h4:decide (0<=v1)=false:=by simpa using h1
  obtain rfl:=HR.out.trans (if_neg (fun h=>h1 h.1))
  clear h1
  go_wp2_with fail
  refine(Sm 3 k1 k _ (by unfold Eh;omega) hA.out (by unfold Eh;omega)).mono ?_
  rintro e w'⟨rfl,rfl⟩
  go_wp2_with fail
  refine bodyPost_ret (v:= .agg #[.int .u64 (Gd 3 k1 k:Nat),.int .i64 (-1),.bool true]) (by simp[results,Tryz.results221,go_sem]) O ⟨O,by go_grown⟩
end
end Go.Proofs.YtnicahfnolhgbaaGreatDoor
namespace Eg
def IM (acc:List (Nat×Int)):Rl->Nat×Int
 | .letter b=>(Gd 1 b.toNat 0,0)
 | .pair l r=>(Gd 2 (ED (0,0) acc l).1 (ED (0,0) acc r).1,
   if l≠r/\0<=(ED (0,0) acc l).2/\0<=(ED (0,0) acc r).2 then((after (max (ED (0,0) acc l).2.toNat (ED (0,0) acc r).2.toNat) (ED (0,0) acc l).1 (ED (0,0) acc r).1:Nat):Int)else -1)
 | .power x k=>(Gd 3 (ED (0,0) acc x).1 k,if 0<=(ED (0,0) acc x).2/\(ED (0,0) acc x).2%2=0 then(ED (0,0) acc x).2+1 else -1)
def qYd (acc:List (Nat×Int))(l r:Nat):IM acc (.pair l r)=(Gd 2 (ED (0,0) acc l).1 (ED (0,0) acc r).1,
   if l≠r/\0<=(ED (0,0) acc l).2/\0<=(ED (0,0) acc r).2 then((after (max (ED (0,0) acc l).2.toNat (ED (0,0) acc r).2.toNat) (ED (0,0) acc l).1 (ED (0,0) acc r).1:Nat):Int)else -1):=rfl
def qTz (acc:List (Nat×Int))(x k:Nat):IM acc (.power x k)=(Gd 3 (ED (0,0) acc x).1 k,if 0<=(ED (0,0) acc x).2/\(ED (0,0) acc x).2%2=0 then(ED (0,0) acc x).2+1 else -1):=rfl
def key (L:List Rl)(i:Nat):Nat:=(ED (0,0) (tab IM L) i).1
def Bt (L:List Rl)(i:Nat):Int:=(ED (0,0) (tab IM L) i).2
def fO {L}(M:List Rl){i}(h:i<=L.length):key (L++M) i=key L i:=by unfold key;rw[Tp _ M h]
def kY {L:List Rl}(M:List Rl){i:Nat}(h:i<=L.length):Bt (L++M) i=Bt L i:=by unfold Bt;rw[Tp _ M h]
def Yf {L i r}(h:L[i]?=some r):ED (0,0) (tab IM L) (i+1)=IM (tab IM (L.take i)) r:=by
 rw[lU,xK L h];rfl
def jL {L:List Rl}{i:Nat}{b:UInt8}(h:L[i]?=some (.letter b)):key L (i+1)=Gd 1 b.toNat 0/\Bt L (i+1)=0:=by
 unfold key Bt;rw[Yf h];exact⟨rfl,rfl⟩
def nM {L:List Rl}{i l r:Nat}(h:L[i]?=some (.pair l r))(hk:(Rl.pair l r).ok (i+1)):
  key L (i+1)=Gd 2 (key L l) (key L r)/\Bt L (i+1)=if l≠r/\0<=Bt L l/\0<=Bt L r then((after (max (Bt L l).toNat (Bt L r).toNat) (key L l) (key L r):Nat):Int)else -1:=by
 have hi:i<L.length:=(ae.1 h).1;obtain⟨_,h1,_,h2⟩:=hk;unfold key Bt;rw[Yf h,qYd,nO (0,0) oO oO,nO (0,0) oO oO];exact⟨O,O⟩
def nA {L:List Rl}{i x k:Nat}(h:L[i]?=some (.power x k))(hk:(Rl.power x k).ok (i+1)):
  key L (i+1)=Gd 3 (key L x) k/\Bt L (i+1)=if 0<=Bt L x/\Bt L x%2=0 then Bt L x+1 else -1:=by
 have hi:i<L.length:=(ae.1 h).1;obtain⟨_,h1,_⟩:=hk;unfold key Bt;rw[Yf h,qTz,nO (0,0) oO oO];exact⟨O,O⟩
def Ky (L:List Rl):key L 0=0:=rfl
def kG {L}(h:Wf L)(i:Nat):key L i<Cg:=by
 cases i with
 |zero=>rw[Ky];exact El
 |succ i=>
  by_cases hi:i<L.length
  ·have hg:L[i]?=some L[i]:=ag hi
   generalize L[i]=r at hg
   have hr:=h.ok i r hg
   cases r with
   |letter b=>rw[(jL hg).1];exact Yg _ _ _
   |pair l r=>rw[(nM hg hr).1];exact Yg _ _ _
   |power x k=>rw[(nA hg hr).1];exact Yg _ _ _
  have:key L (i+1)=0:=by
   unfold key;rw[lU,ku (by rw[nV];omega)];rfl
  rw[this];exact El
def XG {L:List Rl}(h:Wf L):∀i,i<=L.length-> -1<=Bt L i/\Bt L i<=501*i:=by
 intro i;induction i using Nat.strongRecOn with
 |ind i ih=>
  intro hi
  cases i with
  |zero=>exact⟨by unfold Bt ED;simp,by unfold Bt ED;simp⟩
  |succ i=>
   have hg:L[i]?=some L[i]:=ag oO
   generalize L[i]=r at hg
   have hr:=h.ok i r hg
   cases r with
   |letter b=>rw[(jL hg).2];omega
   |pair l r=>
    rw[(nM hg hr).2]
    obtain⟨h1,h2,h3,h4⟩:=hr
    have i1:=ih l oO oO
    have i2:=ih r oO oO
    split
    ·have:=(xQ (low:=max (Bt L l).toNat (Bt L r).toNat) (kG h l) (kG h r)).2
     omega
    omega
   |power x k=>
    rw[(nA hg hr).2]
    obtain⟨h1,h2,h3⟩:=hr
    have i1:=ih x oO oO
    split <;>omega
end Eg
