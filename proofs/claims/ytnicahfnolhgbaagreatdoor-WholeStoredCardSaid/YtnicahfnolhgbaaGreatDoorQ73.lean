import Derived.Test.YtnicahfnolhgbaaGreatDoorQ62
set_option linter.all false
set_option maxHeartbeats 1000000
namespace Sl
open Go Go.RowKit
variable {E:Bp}{n:Nat}{L:Fr}{S:List HP}{ty:TypeId}{pos:String}{af:Array Edge}{d:Option Nat}{gd:Option (Nat×Bool)}
def UX {x y}{xt yt:TypeId}{i j}(hx:ev L x=some (.int .u64 (i:Nat)))(hy:ev L y=some (BK j))(hj:j<=64)(hb:i*2^j<18446744073709551616):
  Yl E n L S ⟨d,.binOp .shl xt x y yt,ty,pos,af,gd⟩ (.int .u64 ((i*2^j:Nat):Int)):=fun a w g _=>by
 have e:IntKind.u64.wrap ((i:Int)*2^min ((j:Nat):Int).toNat IntKind.u64.bits)=((i*2^j:Nat):Int):=by
  rw[ny,show min j IntKind.u64.bits=j from lm hj];have e2:(i:Int)*2^j=((i*2^j:Nat):Int):=by rw[nz,qb];rfl
  rw[e2,IntKind.wrap_u64];omega
 have h:=shift_shl_any .u64 .i64 (i:Int) ((j:Nat):Int) (oP j);rw[e]at h;simp[execOp,eqGuard,binOp,g.ev hx,g.ev hy,h];have e2:(i:Int)*2^j=((i*2^j:Nat):Int):=by rw[nz,qb];rfl
 rw[e2,IntKind.wrap_u64];omega
def SL {x y}{xt yt:TypeId}{i j}(hx:ev L x=some (.int .u64 (i:Nat)))(hy:ev L y=some (.int .u64 (j:Nat)))(hi:i<18446744073709551616)(hj:j<18446744073709551616):
  Yl E n L S ⟨d,.binOp .or xt x y yt,ty,pos,af,gd⟩ (.int .u64 ((i|||j:Nat):Int)):=fun a w g _=>by
 have h:=bits_or_u64_nat i j hi hj;simp[execOp,eqGuard,binOp,Op.intBits,g.ev hx,g.ev hy];exact h
set_option maxRecDepth 100000 in
def NI:∀m:Fin 256,IntKind.u8.wrap (((BitVec.ofInt IntKind.u8.bits (m.val:Int)&&&BitVec.ofInt IntKind.u8.bits 127).toNat:Nat):Int)=((m.val%128:Nat):Int):=by decide
def Ma {x y}{xt yt:TypeId}{i}(hi:i<256)(hx:ev L x=some (.int .u8 (i:Nat)))(hy:ev L y=some (.int .u8 127)):
  Yl E n L S ⟨d,.binOp .and xt x y yt,ty,pos,af,gd⟩ (.int .u8 ((i%128:Nat):Int)):=fun a w g q=>by
 have:=MZ (xt:=xt) (yt:=yt) (ty:=ty) (pos:=pos) (af:=af) (d:=d) (gd:=gd) (S:=S) hx hy a w g q;have e:=NI ⟨i,hi⟩;simp only at e;rw[e]at this;exact this
end Sl
namespace Go.Proofs.YtnicahfnolhgbaaGreatDoor
open Go Go.RowKit Sl Eg
set_option maxRecDepth 10000
section
variable {E:Bp}
def Rc {a d j}(h:a<2^j):a|||d*2^j=a+d*2^j:=by
 rw[Nat.or_comm,oN,<-zk h,Aw]
structure Sc (n:Nat)(i acc m:Nat):Prop where
 sum:acc+m*2^(7*i)=n
 low:acc<2^(7*i)
 pos:1<=m\/i=0
 few:i<=9
def Sc.small {n i acc m}(h:Sc n i acc m)(hn:n<18446744073709551616):m*2^(7*i)<18446744073709551616/\(i=9->m<=1):=by
 have:=h.sum;refine⟨oO,fun e=>?_⟩;subst e;have e2:(2:Nat)^(7*9)=9223372036854775808:=rfl;rw[e2]at this;omega
def Sc.next {n i acc m}(h:Sc n i acc m)(hn:n<18446744073709551616)(hm:¬m<128):Sc n (i+1) (acc+m%128*2^(7*i)) (m/128)/\m%128*2^(7*i)<18446744073709551616:=by
 obtain⟨h1,h2,h3,h4⟩:=h;have e:(2:Nat)^(7*(i+1))=128*2^(7*i):=by rw[Ap,yx,oN]
 have h9:i≠9:=fun e=>by
  subst e;have e2:(2:Nat)^(7*9)=9223372036854775808:=rfl;rw[e2]at h1;omega
 have hA:m=128*(m/128)+m%128:=oO;generalize hP:2^(7*i)=P at*
 have e3:m*P=m/128*(128*P)+m%128*P:=by
  conv=>lhs;rw[hA]
  rw[qc,oN 128 (m/128),vg]
 have hB:m%128<128:=tq _ oO;have hC:m%128*P<=127*P:=kg _ oO;refine⟨⟨by rw[e];omega,by rw[e];omega,.inl oO,oO⟩,oO⟩
def qQp {Bs i b}(h:Bs[i]?=some b)(o:Nat)(ho:o=i):(Bd Bs)[o]?=some (.int .u8 (b.toNat:Nat)):=by subst ho;unfold Bd;rw[bn,h];rfl
def qMy {i}(h:i<256):(UInt8.ofNat i).toNat=i:=by rw[UInt8.toNat_ofNat'];simp;omega
structure ZL where
 i:Nat
 acc:Nat
 m:Nat
def yB (hE:BP E){n t Bs}(hn:n<18446744073709551616)(hJ:Bs=BS n++t){a c q}(hq:Cv E.w0 a (Bd Bs) q):Ct E 128 [.slice a Bs.length c] [q] (fun v Q=>v= .tuple #[.int .u64 (n:Nat),BK ((BS n).length),.nilIface]/\Q=[q]):=by
 have hO:=jG n;have hK:Bs.length=(BS n).length+t.length:=by rw[hJ,aa]
 have hP:=gM hn;obtain⟨g,o,rfl,hW⟩:=hq (QP (by intro e;rw[e]at hK;simp at hK;omega));refine bO (hE.fn Tryz.func128) O O O (fun R=>?_);simp only[dS,uV,uW];refine CX ?_;refine dX (fun x:ZL=>[(2,.int .u64 (x.acc:Nat)),(7,.slice (some ⟨g,o,none⟩) Bs.length c),(8,BK Bs.length),(9,BK (x.i))]) (fun x=>[q,R]) (fun x=>10-x.i) (fun x=>Sc n x.i x.acc x.m/\Bs.drop x.i=BS x.m++t/\x.i+(BS x.m).length=(BS n).length) ⟨0,0,n⟩ ⟨⟨by simp,by simp,.inr rfl,av _⟩,hJ,by simp⟩ BC uI ?_;rintro⟨i,acc,m⟩⟨hI,hA,hB⟩;simp only at hI hA hB ⊢;have hX:=jG m;have hY:=hI.few;obtain⟨hQ,hR⟩:=hI.small hn;have hF:=hI.low;have hG:=hI.sum
 have hZ:m<18446744073709551616:=by
  have:m*1<=m*2^(7*i):=pu _ (Nat.one_le_two_pow);omega
 have ha:i<Bs.length:=oO;refine CB ?_;refine bE O (fun h=>?_) (fun h=>?_)
 ·obtain⟨bv,f0,hS,hL,hM,hT⟩:∃bv:Nat,(Bd Bs)[i]?=some (.int .u8 (bv:Nat))/\bv<256/\bv%128=m%128/\(bv<128↔m<128)/\(m<128->bv=m):=by
   have hh:(Bs.drop i).head?=Bs[i]?:=Af;by_cases hm:m<128
   ·rw[hA,jU hm]at hh;exact⟨m,by have:=qQp hh.symm i rfl;rwa [qMy oO]at this,oO,rfl,oO,fun _=>rfl⟩
   rw[hA,vE hm]at hh;exact⟨m%128+128,by have:=qQp hh.symm i rfl;rwa [qMy oO]at this,oO,oO,oO,fun h=>absurd h hm⟩
  have f1:(Bd Bs)[((i:Nat):Int).toNat]?=some (.int .u8 (bv:Nat)):=by rw[ny];exact f0
  have hN:bv%128*2^(7*i)<18446744073709551616:=by
   rw[hL];by_cases hm:m<128
   ·rw[qm hm];exact hQ
   exact(hI.next hn hm).2
  have hH:acc<18446744073709551616:=oO;refine CP ?_;refine jT (fun _:Unit=>[(2,.int .u64 (acc:Nat)),(5,BK i),(6,.int .u8 (bv:Nat)),(7,.slice (some ⟨g,o,none⟩) Bs.length c),(8,BK Bs.length),(9,BK i)]) (fun _=>[q,R]) (fun _=>True) ?_ ?_
  ·refine Bw ?_;refine dV 16 O (fun h9=>?_) (fun h9=>?_)
   ·have h1:=hR oO;refine Bi ?_;refine bE O (fun h2=>?_) (fun h2=>?_)
    ·exfalso;omega
    refine Bv ?_;refine eX (ι:=Unit) () trivial BC ?_;exact uI
   refine Bi ?_;refine eX (ι:=Unit) () trivial BC ?_;exact uI
  rintro⟨⟩ -;refine Bz ?_;refine uB (Ma hS O O) ?_;refine CG ?_;refine BU 26 (BL ((7*i:Nat):Int)) O (bW oO) ?_;refine uB (UX O O oO hN) ?_;refine uB (SL O O hH hN) ?_;refine BU 28 (.int .u64 ((acc+bv%128*2^(7*i):Nat):Int)) O (by rw[Rc hF]) ?_;refine Bu ?_;refine bE O (fun h3=>?_) (fun h3=>?_)
  ·have hm:m<128:=hM.1 oO;have hU:=hT hm;subst hU;rw[jU hm]at hB;have hC:i+1=(BS n).length:=by simpa using hB
   have hD:acc+bv%128*2^(7*i)=n:=by rw[qm hm];exact hG
   refine CB ?_;refine dV 33 O (fun z=>?_) (fun z=>?_)
   ·have hb:i=0:=by
     rcases hI.pos with h| h
     ·omega
     exact h
    refine Bi ?_;refine bE O (fun z2=>?_) (fun z2=>?_)
    ·exfalso;omega
    refine Cw ?_;apply cK
    ·rfl
    ·(apply Rs.tmp rfl;apply Rs.tmp rfl;apply Rs.tmp rfl;exact Rs.nil)
    ·rw[hD];exact⟨by rw[<-hC];rfl,rfl⟩
    exact uI
   refine Dv ?_;apply cK
   ·rfl
   ·(apply Rs.tmp rfl;apply Rs.tmp rfl;apply Rs.tmp rfl;exact Rs.nil)
   ·rw[hD];exact⟨by rw[<-hC];rfl,rfl⟩
   exact uI
  have hm:¬m<128:=fun h=>h3 (by have:=hM.2 h;omega)
  have hV:=(hI.next hn hm).1;rw[vE hm]at hB hA;refine Bi ?_;refine bS (ι:=ZL) (j:=⟨i+1,acc+bv%128*2^(7*i),m/128⟩) ⟨by rw[hL];exact hV,?_,by simp only;simp at hB;omega⟩ BD ⟨rfl,rfl,rfl,au some (bW BD),trivial⟩ uI;simp only;rw[<-xc,hA];rfl
 exact absurd (show((i:Nat):Int)<(Bs.length:Nat) by omega) h
end
section
variable {E:Bp}
def Gq (a:Option Addr)(c k:Nat):Option Addr:=if c=k then a else a.map (·.add (k*1))
def JX (Bs:List UInt8)(k:Nat):Bd (Bs.drop k)=(Bd Bs).drop k:=by unfold Bd;rw[qp]
def kP {w0 a Bs q c k}(h:Cv w0 a (Bd Bs) q)(hc:Bs.length<=c):Cv w0 (Gq a c k) (Bd (Bs.drop k)) q:=fun hA=>by
 have hk:k<Bs.length:=by
  apply Classical.byContradiction;intro hn;rw[yg oO]at hA;exact hA O
 obtain⟨g,o,rfl,hr⟩:=h (QP (by intro e;rw[e]at hk;simp at hk));unfold Gq;rw[if_neg oO];refine⟨g,o+k,by simp[Addr.add],fun u hu i v hv=>?_⟩;rw[JX,om]at hv;have:=hr u hu (k+i) v hv;rw[qa];exact this
def KJ (hE:BP E){x y b0 t Bs}(hx:x<9223372036854775808)(hy:y<9223372036854775808)(hA:Bs=b0::(BS x++(BS y++t))){a c q}(hq:Cv E.w0 a (Bd Bs) q)(hc:Bs.length<=c):Ct E 152 [.slice a Bs.length c] [q] (fun v Q=>v= .tuple #[BK x,BK y,BL ((1+(BS x).length+(BS y).length:Nat):Int),.bool true]/\Q=[q]):=by
 have h1:=gM (n:=x) oO;have h2:=gM (n:=y) oO;have hB:Bs.length=1+(BS x).length+(BS y).length+t.length:=by rw[hA];simp;omega
 have d1:Bs.drop 1=BS x++(BS y++t):=by rw[hA];rfl
 have d2:Bs.drop (1+(BS x).length)=BS y++t:=by rw[<-xc,d1];simp
 refine bO (hE.fn Tryz.func152) O O O (fun R=>?_);simp only[dS,uV,uW];refine Bo ?_;refine uB (jZ (l:=1) (h:=Bs.length) O (hE.t O) ⟨_,O⟩ O oO oO) ?_;refine BU 12 (.slice (Gq a c (1)) (Bs.drop 1).length (c-(1))) O (au (fun z=>Value.slice _ z _) (by rw[lw])) ?_;refine BH (yB (n:=x) hE oO d1 (kP hq hc)) O ?_;refine Df ?_;refine bE O (fun g1=>?_) (fun g1=>?_)
 ·exfalso;omega
 refine CB ?_;refine BU 24 (BL ((1+(BS x).length:Nat):Int)) O (bW oO) ?_;refine Bi ?_;refine uB (jZ (l:=1+(BS x).length) (h:=Bs.length) O (hE.t O) ⟨_,O⟩ O oO oO) ?_;refine BU 28 (.slice (Gq a c (1+(BS x).length)) (Bs.drop (1+(BS x).length)).length (c-(1+(BS x).length))) O (au (fun z=>Value.slice _ z _) (by rw[lw])) ?_;refine BH (yB (n:=y) hE oO d2 (kP hq hc)) O ?_;refine Df ?_;refine bE O (fun g2=>?_) (fun g2=>?_)
 ·exfalso;omega
 refine Bo ?_;refine BU 45 (BL ((1+(BS x).length+(BS y).length:Nat):Int)) O (bW oO) ?_;refine Bi ?_;exact uZ O (.tmp O (.tmp O (.tmp O (.tmp O .nil)))) ⟨O,O⟩
def KD (hE:BP E){r n}(ho:r.ok n)(h1:1<=n)(hn:n<=1099511627776)(ht:r.times<=1152921504606846976){t Bs}(hA:Bs=Co n r++t){a c q}(hq:Cv E.w0 a (Bd Bs) q)(hc:Bs.length<=c)(hH:Bs.length<=1099511627776):Ct E 129 [.slice a Bs.length c,BK n] [q] (fun v Q=>v= .tuple #[.agg #[BK (Rl.kind (r)),.int .u8 (Rl.byte (r):Nat),BK (Rl.left (r)),BK (Rl.right (r)),BK (Rl.times (r))],BK ((Co n r).length),.nilIface]/\Q=[q]):=by
 have hI:=Xt n hn r ht;have hC:Bs.length=(Co n r).length+t.length:=by rw[hA,aa]
 cases r with
 |letter b=>
  have hD:(Co n (.letter b)).length=2:=rfl
  obtain⟨g,o,rfl,hG⟩:=hq (QP (by intro e;rw[e]at hC;simp at hC;omega))
  have f0:(Bd Bs)[0]?=some (.int .u8 1):=by rw[hA];rfl
  have f1:(Bd Bs)[1]?=some (.int .u8 (b.toNat:Nat)):=by rw[hA];rfl
  have hb:=b.toNat_lt
  refine bO (hE.fn Tryz.func129) O O O (fun R=>?_)
  simp only[dS,uV,uW]
  refine CL ?_
  refine uU (dA (hE.t O) (fun b4=>?_))
  refine Bq ?_
  refine bE O (fun e0=>?_) (fun e0=>?_)
  ·exfalso;omega
  refine Bu ?_
  refine uU (dA (hE.t O) (fun b7=>?_))
  refine GN ?_
  refine bE O (fun e1=>?_) (fun e1=>?_)
  ·exfalso;omega
  refine Bq ?_
  refine fF (cO (p:=cells b7 [BL ((1:Nat):Int),.int .u8 (b.toNat:Nat),BL ((0:Nat):Int),BL ((0:Nat):Int),BL ((0:Nat):Int)] 111) (p':=cells b7 [BK (Rl.kind ((Rl.letter b))),.int .u8 (Rl.byte ((Rl.letter b)):Nat),BK (Rl.left ((Rl.letter b))),BK (Rl.right ((Rl.letter b))),BK (Rl.times ((Rl.letter b)))] 111) uK (fun _ h=>h)) ?_
  refine Bw ?_
  refine BH (vL (r:=(Rl.letter b)) hE ho h1 hn) O ?_
  refine Df ?_
  apply cK
  ·rfl
  ·((apply Rs.cell rfl (hE.t rfl) rfl;(focus((repeat(first |rfl|assumption|constructor));done)));apply Rs.tmp rfl;apply Rs.tmp rfl;exact Rs.nil)
  ·exact⟨by rw[hD];rfl,rfl⟩
  exact uI
 |pair x y=>
  have ho':=ho
  simp only[Rl.ok]at ho'
  have hB:Bs=2::(BS (n-x)++(BS (n-y)++t)):=by rw[hA];simp[Co]
  have hD:(Co n (.pair x y)).length=1+(BS (n-x)).length+(BS (n-y)).length:=by simp[Co];omega
  have hF:=hq
  obtain⟨g,o,rfl,hG⟩:=hq (QP (by intro e;rw[e]at hC;simp at hC;omega))
  have f0:(Bd Bs)[0]?=some (.int .u8 2):=by rw[hA];rfl
  refine bO (hE.fn Tryz.func129) O O O (fun R=>?_)
  simp only[dS,uV,uW]
  refine CL ?_
  refine uU (dA (hE.t O) (fun b4=>?_))
  refine Bq ?_
  refine bE O (fun e0=>?_) (fun e0=>?_)
  ·exfalso;omega
  refine Bu ?_
  refine uU (dA (hE.t O) (fun b7=>?_))
  refine WI ?_
  refine BH (KJ (x:=n-x) (y:=n-y) hE oO oO hB hF hc) O ?_
  refine WK ?_
  refine bE O (fun e2=>?_) (fun e2=>?_)
  ·exfalso;omega
  refine Bi ?_
  refine BU 69 (BK x) O (bW oO) ?_
  refine CX ?_
  refine BU 76 (BK y) O (bW oO) ?_
  refine Bw ?_
  refine fF (cO (p:=cells b7 [BL ((2:Nat):Int),.int .u8 ((0:Nat):Int),BK x,BK y,BL ((0:Nat):Int)] 111) (p':=cells b7 [BK (Rl.kind ((Rl.pair x y))),.int .u8 (Rl.byte ((Rl.pair x y)):Nat),BK (Rl.left ((Rl.pair x y))),BK (Rl.right ((Rl.pair x y))),BK (Rl.times ((Rl.pair x y)))] 111) uK (fun _ h=>h)) ?_
  refine Bw ?_
  refine BH (vL (r:=(Rl.pair x y)) hE ho h1 hn) O ?_
  refine Df ?_
  apply cK
  ·rfl
  ·((apply Rs.cell rfl (hE.t rfl) rfl;(focus((repeat(first |rfl|assumption|constructor));done)));apply Rs.tmp rfl;apply Rs.tmp rfl;exact Rs.nil)
  ·exact⟨by rw[hD];rfl,rfl⟩
  exact uI
 |power x k=>
  have ho':=ho
  simp only[Rl.ok]at ho'
  simp only[Rl.times]at ht
  have hB:Bs=3::(BS (n-x)++(BS (k-2)++t)):=by rw[hA];simp[Co]
  have hD:(Co n (.power x k)).length=1+(BS (n-x)).length+(BS (k-2)).length:=by simp[Co];omega
  have hF:=hq
  obtain⟨g,o,rfl,hG⟩:=hq (QP (by intro e;rw[e]at hC;simp at hC;omega))
  have f0:(Bd Bs)[0]?=some (.int .u8 3):=by rw[hA];rfl
  refine bO (hE.fn Tryz.func129) O O O (fun R=>?_)
  simp only[dS,uV,uW]
  refine CL ?_
  refine uU (dA (hE.t O) (fun b4=>?_))
  refine Bq ?_
  refine bE O (fun e0=>?_) (fun e0=>?_)
  ·exfalso;omega
  refine Bu ?_
  refine uU (dA (hE.t O) (fun b7=>?_))
  refine TW ?_
  refine BH (KJ (x:=n-x) (y:=k-2) hE oO oO hB hF hc) O ?_
  refine IP ?_
  refine bE O (fun e3=>?_) (fun e3=>?_)
  ·exfalso;omega
  refine CK ?_
  refine bE O (fun e2=>?_) (fun e2=>?_)
  ·exfalso;omega
  refine Bi ?_
  refine BU 69 (BK x) O (bW oO) ?_
  refine CK ?_
  refine BU 79 (BK k) O (bW oO) ?_
  refine Bw ?_
  refine fF (cO (p:=cells b7 [BL ((3:Nat):Int),.int .u8 ((0:Nat):Int),BK x,BL ((0:Nat):Int),BK k] 111) (p':=cells b7 [BK (Rl.kind ((Rl.power x k))),.int .u8 (Rl.byte ((Rl.power x k)):Nat),BK (Rl.left ((Rl.power x k))),BK (Rl.right ((Rl.power x k))),BK (Rl.times ((Rl.power x k)))] 111) uK (fun _ h=>h)) ?_
  refine Bw ?_
  refine BH (vL (r:=(Rl.power x k)) hE ho h1 hn) O ?_
  refine Df ?_
  apply cK
  ·rfl
  ·((apply Rs.cell rfl (hE.t rfl) rfl;(focus((repeat(first |rfl|assumption|constructor));done)));apply Rs.tmp rfl;apply Rs.tmp rfl;exact Rs.nil)
  ·exact⟨by rw[hD];rfl,rfl⟩
  exact uI
end
end Go.Proofs.YtnicahfnolhgbaaGreatDoor
namespace Sl
open Go Go.RowKit
variable {E:Bp}{n:Nat}{L:Fr}{S H H':List HP}{ty:TypeId}{pos:String}{af:Array Edge}{d:Option Nat}{gd:Option (Nat×Bool)}{K:Value->List HP->Prop}{Q:Exit->Act->World->Prop}
def qYt {x y}{t e:TypeId}{b o c dl dc k cc N m g go by_ sz sz' xs us zs zs' kk q H''}(ht:E.tab t=some ⟨.slice e 1 by_,sz,zs⟩)(he:E.tab e=some ⟨kk,sz',zs'⟩)
  (hx:ev L x=some (.slice (some ⟨b,o,none⟩) dl dc)) (hy:ev L y=some (.slice (some ⟨g,go,none⟩) k cc)) (hq:∀z,q z->FN E.w0 g go us z) (hm:CO q H H') (hC:CO (sl (BM b) c e 1 N xs) H' H'') (hp:iU us=true) (hl:us.length=m) (hD:m=Nat.min k dl) (hN:o+m<=N)
  (hk:K (BK m) (q::sl (BM b) c e 1 N (bX xs o us)::H'')):Ld E n L H ⟨d,.call {callee:= .builtin .copy,args:= #[x,y],argTypes:= #[t,t]},ty,pos,af,gd⟩ K:=fun Q next a w G hn=>by
 obtain⟨hu,j,hj,hs,hE⟩:=fD ht;obtain⟨i,z,hi,hF,hG,hH,_⟩:=fC he;obtain rfl:i=j:=by rw[hi]at hj;simpa using hj
 have s1:=G.hp.take hm;have s2:CR E.w0 w (sl (BM b) c e i.size N xs::q::H''):=by rw[hs];exact(s1.imp fun _ h=>gK (fG (fun _=>hC.out) h))
 have hA:∀j u,us[j]?=some u->w.cell? ((⟨g,go,none⟩:Addr).add j)=some u:=fun j u hu=>by rw[addr_add];exact Tt hq s1 hu
 obtain⟨w',hr,ho⟩:=VI hu hi ty (dc:=dc) (cc:=cc) s2 hD (by rw[hs,oV];exact hl) hA hp (by rw[hs,oV,oV];exact hN);rw[hs]at ho
 have hB:(execOp a.eval ⟨d,.call {callee:= .builtin .copy,args:= #[x,y],argTypes:= #[t,t]},ty,pos,af,gd⟩).run E.P w= .ok (.value (BK m)) w':=by
  simp[execOp,resolve,invoke,builtin,G.f.ev hx,G.f.ev hy,hr]
 unfold Oper.wp;rw[hB,Oper.upon_value];exact hn _ _ _ hk (ho.imp fun _ h=>gK h)
def LB {x}{t e:TypeId}{c es by_ sz sz' zs zs' kk}(ht:E.tab t=some ⟨.slice e es by_,sz,zs⟩)(he:E.tab e=some ⟨kk,sz',zs'⟩)
  (hx:ev L x=some (.int .u64 (c:Nat))) (hb:by_*c<=281474976710656) (hc:c<=maxLen)
  (hk:∀b us,us.length=c*es->K (.slice (BM b) c c) (sl (BM b) c e es c us::H)):Ld E n L H ⟨d,.makeSlice t x x,ty,pos,af,gd⟩ K:=fun Q next a w G hn=>by
 obtain⟨hu,j,hj,hs,hB⟩:=fD ht;obtain⟨i,z,hi,hE,hC,hF,_⟩:=fC he;obtain rfl:i=j:=by rw[hi]at hj;simpa using hj
 subst hs hB;have hD:(c:Int)<=9223372036854775807:=by have h:=hc;simp[maxLen]at h;omega
 have hr:=run_make (P:=E.P) w t e i z hu hi hC .u64 .u64 (c:Int) (c:Int) (oP c) (yu _) (by rw[<-nz];omega) hD
 have hA:(execOp a.eval ⟨d,.makeSlice t x x,ty,pos,af,gd⟩).run E.P w= .ok (.value (.slice (BM w.heap.size) c c)) (w.alloc (.cells (madeCells z.cells (c*i.size)) e)):=by
  simp[execOp,G.f.ev hx,hr]
 unfold Oper.wp;rw[hA,Oper.upon_value];have hz:=size_madeCells z.cells (c*i.size);generalize madeCells z.cells (c*i.size)=M at*;refine hn _ _ _ (hk _ M.toList (by simpa using hz)) ?_;have:=G.hp.new (.cells M e);exact this.imp fun _=>eU fun _ h=>gU (by simpa using hz) hc _ h
end Sl
namespace Go.Proofs.YtnicahfnolhgbaaGreatDoor
open Go Go.RowKit Sl Eg
set_option maxRecDepth 10000
variable {E:Bp}
def qVo (bs:List UInt8):iU (Bd bs)=true:=by
 induction bs with
 |nil=>rfl
 |cons b bs ih=>exact ih
def yC (hE:BP E){nm mx t Bs}(h1:1<=nm.length)(hS:nm.length<=mx)(hI:mx<=1099511627776)(hD:Bs=eY nm++t){a c q}(hq:Cv E.w0 a (Bd Bs) q)(hc:Bs.length<=c)(hT:Bs.length<=1099511627776):Ct E 130 [.slice a Bs.length c,BK mx] [q]
  (fun v Q=>∃g,v= .tuple #[.slice (BM g) nm.length nm.length,BK ((eY nm).length),.nilIface]/\Q=[q,sl (BM g) nm.length 5 1 nm.length (Bd nm)]):=by
 have hU:=gM (n:=nm.length) oO;have hJ:(eY nm).length=(BS nm.length).length+nm.length:=aa;have hV:Bs.length=(eY nm).length+t.length:=by rw[hD,aa]
 have hA:Bs=BS nm.length++(nm++t):=by rw[hD,eY,ah]
 have hK:Bs.drop (BS nm.length).length=nm++t:=by rw[hA];simp
 have hF:=fK nm;have hL:nm.length<=maxLen:=by unfold maxLen;omega
 have hM:1*nm.length<=281474976710656:=oO;refine bO (hE.fn Tryz.func130) O O O (fun R=>?_);simp only[dS,uV,uW];refine Bc ?_;refine BH (yB (n:=nm.length) hE oO hA hq) O ?_;refine EK ?_;refine BU 22 (BK mx) O (bW (by first |omega |simp)) ?_;refine Bz ?_;refine bE O (fun e1=>?_) (fun e1=>?_)
 ·exfalso;omega
 refine CU ?_;refine bE O (fun e2=>?_) (fun e2=>?_)
 ·exfalso;omega
 refine Bw ?_;refine uU (LB (hE.t O) (hE.t O) O hM hL (fun hN us35 hO=>?_));refine Br ?_;refine uB (jZ (l:=(BS nm.length).length) (h:=Bs.length) O (hE.t O) ⟨_,O⟩ O oO oO) ?_;refine BU 39 (.slice (Gq a c ((BS nm.length).length)) (Bs.drop (BS nm.length).length).length (c-((BS nm.length).length))) O (au (fun z=>Value.slice _ z _) (by rw[lw])) ?_;have hG:=kP (k:=(BS nm.length).length) hq hc;rw[hK]at hG ⊢;have hH:(Bd (nm++t))=Bd nm++Bd t:=fM nm t;obtain⟨g,o,hP,hB⟩:=hG (by rw[hH];intro e;have:=au List.length e;rw[aa,hF,iw]at this;omega);rw[hP];have hQ:∀z,q z->FN E.w0 g o (Bd nm) z:=fun z hz i v hv=>hB z hz i v (by rw[hH,aj (ae.1 hv).1];exact hv)
 have hC:nm.length=Nat.min (nm++t).length nm.length:=by rw[aa];exact(Nat.min_eq_right oO).symm
 refine uU (qYt (m:=nm.length) (hE.t O) (hE.t O) O O hQ uK uK (qVo nm) hF hC oO ?_)
 have hR:bX us35 0 (Bd nm)=Bd nm:=by
  rw[jO _ _ _ oO,oJ,jw,jh,yg oO,ax]
 rw[hR];refine CK ?_;exact uZ O (.tmp O (.tmp O (.tmp O .nil))) ⟨hN,by rw[hJ];rfl,rfl⟩
