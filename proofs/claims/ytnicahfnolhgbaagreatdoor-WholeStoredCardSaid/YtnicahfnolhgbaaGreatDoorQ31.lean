import Derived.Test.YtnicahfnolhgbaaGreatDoorQ13
import Derived.Test.YtnicahfnolhgbaaGreatDoorQ30
set_option linter.all false
set_option maxHeartbeats 1000000
namespace Sl
open Go Go.RowKit
section
variable {α:Type}{pre r:List α}{x0 x1 x2 x3 x4 x5 x6 x7:α}
def FP:(pre++x0::r)[pre.length]?=some x0:=by simp
def FQ:(pre++x0::x1::r)[pre.length+1]?=some x1:=by simp
def Fx:(pre++x0::x1::x2::r)[pre.length+2]?=some x2:=by simp
def Fg:(pre++x0::x1::x2::x3::r)[pre.length+3]?=some x3:=by simp
def GL:(pre++x0::x1::x2::x3::x4::r)[pre.length+4]?=some x4:=by simp
def Gh:(pre++x0::x1::x2::x3::x4::x5::r)[pre.length+5]?=some x5:=by simp
def Gi:(pre++x0::x1::x2::x3::x4::x5::x6::r)[pre.length+6]?=some x6:=by simp
def GX:(pre++x0::x1::x2::x3::x4::x5::x6::x7::r)[pre.length+7]?=some x7:=by simp
end
section
variable {pre r:List Value}{x0 x1 x2 x3 x4 x5 x6 x7 v:Value}
def EM:bX (pre++x0::r) pre.length [v]=pre++v::r:=by simp[bX]
def EN:bX (pre++x0::x1::r) (pre.length+1) [v]=pre++x0::v::r:=by simp[bX]
def ES:bX (pre++x0::x1::x2::r) (pre.length+2) [v]=pre++x0::x1::v::r:=by simp[bX]
def EP:bX (pre++x0::x1::x2::x3::r) (pre.length+3) [v]=pre++x0::x1::x2::v::r:=by simp[bX]
def ET:bX (pre++x0::x1::x2::x3::x4::r) (pre.length+4) [v]=pre++x0::x1::x2::x3::v::r:=by simp[bX]
def EU:bX (pre++x0::x1::x2::x3::x4::x5::r) (pre.length+5) [v]=pre++x0::x1::x2::x3::x4::v::r:=by simp[bX]
def EW:bX (pre++x0::x1::x2::x3::x4::x5::x6::r) (pre.length+6) [v]=pre++x0::x1::x2::x3::x4::x5::v::r:=by simp[bX]
def EX:bX (pre++x0::x1::x2::x3::x4::x5::x6::x7::r) (pre.length+7) [v]=pre++x0::x1::x2::x3::x4::x5::x6::v::r:=by simp[bX]
end
section
variable {E:Bp}{n:Nat}{L:Fr}{S l:List HP}{o:Oper}{v:Value}{ι:Type}{f:ι->HP}
def Ex (f:ι->HP):HP:=fun h=>∃i,f i h
def QQ (i:ι)(h:∀k,dW l k->dW (f i::S) k):∀k,dW l k->dW (Ex f::S) k:=fun k x=>eU (fun _ y=>⟨i,y⟩) (h k x)
def lZ (h:∀i,Yl E n L (f i::S) o v):Yl E n L (Ex f::S) o v:=fun a w g s=>by
 obtain⟨h1,h2,d,e,⟨i,hp⟩,hq⟩:=s.hp;exact h i a w g ⟨s.os,s.tape,s.output,s.size,s.old,⟨h1,h2,d,e,hp,hq⟩⟩
end
end Sl
namespace Go.Proofs.YtnicahfnolhgbaaGreatDoor
open Go Go.RowKit Sl Eg
set_option maxRecDepth 10000
section
variable {E:Bp}{Es:List Bj}{pp tb s most:Nat}
def TT (L:List Rl)(f:Fm):List Value:=[.int .i64 (f.id:Nat),.int .i64 (Rl.kind (Bf L f.id):Nat),.int .u8 (Rl.byte (Bf L f.id):Nat),.int .i64 (Rl.left (Bf L f.id):Nat),.int .i64 (Rl.right (Bf L f.id):Nat),.int .i64 (Rl.times (Bf L f.id):Nat),.int .i64 (Bt L f.id),.int .i64 (f.hv:Nat)]
def dZ (L:List Rl)(fs:List Fm):List Value:=fs.flatMap (TT L)
def qZn (L:List Rl):dZ L []=[]:=rfl
def kN (L:List Rl)(fs:List Fm)(f:Fm):dZ L (fs++[f])=dZ L fs++ BK (f.id):: BK (Rl.kind (Bf L f.id)):: .int .u8 (Rl.byte (Bf L f.id):Nat):: BK (Rl.left (Bf L f.id)):: BK (Rl.right (Bf L f.id)):: BK (Rl.times (Bf L f.id)):: BL (Bt L f.id):: BK (f.hv)::[]:=by
 simp[dZ,TT]
def qD (L:List Rl)(fs:List Fm):(dZ L fs).length=fs.length*8:=by
 induction fs with
 |nil=>rfl
 |cons f fs ih=>
  have e:(dZ L (f::fs)).length=8+(dZ L fs).length:=by simp[dZ,TT];omega
  rw[e,ih,az];omega
def Xp {L}(M:List Rl){x}(h1:1<=x)(h:x<=L.length):Bf (L++M) x=Bf L x:=by
 unfold Bf;rw[aj oO]
def qNb {L}(M:List Rl){fs}(h:∀f∈fs,1<=f.id/\f.id<=L.length):dZ (L++M) fs=dZ L fs:=by
 induction fs with
 |nil=>rfl
 |cons f fs ih=>
  have e:∀K,dZ K (f::fs)=TT K f++dZ K fs:=fun K=>by simp[dZ]
  rw[e,e,ih fun g hg=>h g (by simp[hg])]
  have hf:=h f BF
  unfold TT
  rw[Xp M hf.1 hf.2,kY M hf.2]
def qRb (hE:BP E){r}:Ct E 218 [.agg #[BK (Rl.kind (r)),.int .u8 (Rl.byte (r):Nat),BK (Rl.left (r)),BK (Rl.right (r)),BK (Rl.times (r))]] [] (fun v Q=>v= BK (gD r)/\Q=[]):=by
 refine bO (hE.fn Tryz.func218) O O O (fun R=>?_);simp only[dS,uV,uW];refine CL ?_;refine uU (gN O (fun b1=>?_));refine Bo ?_;refine bE O (fun h=>?_) (fun h=>?_)
 ·obtain⟨y,k,rfl⟩:∃y k,r= .power y k:=by
   cases r with
   |letter b=>simp[Rl.kind]at h
   |pair a b=>simp[Rl.kind]at h
   |power y k=>exact⟨y,k,rfl⟩
  refine Bu ?_;exact uZ O (.tmp O .nil) ⟨O,O⟩
 have hw:gD r=2:=by
  cases r with
  |letter b=>rfl
  |pair a b=>rfl
  |power y k=>simp[Rl.kind]at h
 rw[hw];refine Br ?_;exact uZ O (.tmp O .nil) ⟨O,O⟩
def qQu (hE:BP E){r x hv l bh}(hn:∀b,r≠ .letter b):Ct E 210 [.agg #[BK x,BK (Rl.kind (r)),.int .u8 (Rl.byte (r):Nat),BK (Rl.left (r)),BK (Rl.right (r)),BK (Rl.times (r)),BL l,BK hv],.bool bh] [] (fun v Q=>v= BK (jA bh hv r)/\Q=[]):=by
 cases r with
 |letter b=>exact absurd rfl (hn b)
 |power y k=>
  refine bO (hE.fn Tryz.func210) O O O (fun R=>?_)
  simp only[dS,uV,uW]
  refine CL ?_
  refine uU (gN O (fun b2=>?_))
  refine Bo ?_
  refine BU 8 (.bool false) O (by simp[Rl.kind]) ?_
  refine DW ?_
  refine BU 24 (.bool false) O (by simp[Rl.kind]) ?_
  refine DW ?_
  exact uZ O (.tmp O .nil) ⟨O,O⟩
 |pair a b=>
  refine bO (hE.fn Tryz.func210) O O O (fun R=>?_)
  simp only[dS,uV,uW]
  refine CL ?_
  refine uU (gN O (fun b2=>?_))
  refine Bo ?_
  refine BU 8 (.bool true) O (by simp[Rl.kind]) ?_
  refine Br ?_
  refine dV 14 O (fun h2=>?_) (fun h2=>?_)
  ·obtain rfl:hv=2:=by omega
   refine Bi ?_
   cases bh with
   |false=>
    refine Bo ?_
    exact uZ O (.tmp O .nil) ⟨O,O⟩
   |true=>
    refine Bo ?_
    refine BU 24 (.bool true) O (by simp[Rl.kind]) ?_
    refine Br ?_
    refine BU 30 (.bool false) O BF ?_
    refine CX ?_
    exact uZ O (.tmp O .nil) ⟨O,O⟩
  refine CX ?_
  refine BU 24 (.bool true) O (by simp[Rl.kind]) ?_
  refine Br ?_
  refine dV 30 O (fun h1=>?_) (fun h1=>?_)
  ·obtain rfl:hv=1:=by omega
   refine Bw ?_
   cases bh with
   |true=>
    refine Bo ?_
    exact uZ O (.tmp O .nil) ⟨O,O⟩
   |false=>
    refine Bq ?_
    exact uZ O (.tmp O .nil) ⟨O,O⟩
  have e:jA bh hv (.pair a b)=a:=by show(if(hv=2/\bh=false)\/(hv=1/\bh=true)then b else a)=a;exact if_neg oO
  rw[e]
  refine CX ?_
  exact uZ O (.tmp O .nil) ⟨O,O⟩
def Um (L:List Rl)(f:Fm):Value:= .agg #[.int .i64 (f.id:Nat),.int .i64 (Rl.kind (Bf L f.id):Nat),.int .u8 (Rl.byte (Bf L f.id):Nat),.int .i64 (Rl.left (Bf L f.id):Nat),.int .i64 (Rl.right (Bf L f.id):Nat),.int .i64 (Rl.times (Bf L f.id):Nat),.int .i64 (Bt L f.id),.int .i64 (f.hv:Nat)]
def ct_open (hE:BP E)(hB:Ca E.w0){b n c x k pre suf}{bt:TypeId}{p bh}(hx:1<=x)(hg:Ki (BO Es) x):
  Ct E 208 [.pointer (some ⟨b,pre.length,none⟩)] [cells pp [uPt s,uPt tb] 122,BV tb s (BO Es),bR s most Es,cells b (pre++uPt pp:: .bool bh:: .slice p n c:: BK x:: .int .u64 (k:Nat)::suf) bt] (fun v Q=>v=Um (BO Es) ⟨x,gD (Bf (BO Es) x)⟩/\Q=[cells pp [uPt s,uPt tb] 122,BV tb s (BO Es),bR s most Es,cells b (pre++uPt pp:: .bool bh:: .slice p n c:: BK x:: .int .u64 (k:Nat)::suf) bt]):=by
 obtain⟨i,rfl⟩:∃i,x=i+1:=⟨x-1,oO⟩;have hi:i<Es.length:=by have:=hg.1;rw[bQ]at this;omega
 obtain⟨en,hA⟩:∃e,Es[i]?=some e:=⟨_,ag hi⟩;have hr:Bf (BO Es) (i+1)=en.r:=by simp[Bf,tX hA]
 refine bO (hE.fn Tryz.func208) O O O (fun R=>?_);simp only[dS,uV,uW];refine CL ?_;refine uU (dA (hE.t O) (fun b2=>?_));refine CL ?_;refine jT (fun q:Nat=>[(0,.pointer (some ⟨b,pre.length,none⟩)),(2,uPt b2),(3,uPt q),(4,.nilIface)]) (fun q=>[cells pp [uPt s,uPt tb] 122,BV tb s (BO Es),bR s most Es,cells b (pre++uPt pp:: .bool bh:: .slice p n c:: BK ((i+1)):: .int .u64 (k:Nat)::suf) bt,cells b2 [BL 0,BL 0,.int .u8 0,BL 0,BL 0,BL 0,BL 0,BL 0] 332,cells q [BK (Rl.kind (en.r)),.int .u8 (Rl.byte (en.r):Nat),BK (Rl.left (en.r)),BK (Rl.right (en.r)),BK (Rl.times (en.r))] 111,R]) (fun _=>True) ?_ ?_
 ·refine uN 15 ([cells pp [uPt s,uPt tb] 122,cells b (pre++uPt pp:: .bool bh:: .slice p n c:: BK ((i+1)):: .int .u64 (k:Nat)::suf) bt]) ?_;refine Bz ?_;refine uT 5 O (aB O) ?_;refine CG ?_;apply UB 4 13 O O oK O O
  ·refine uC (kC hE) O ?_;rintro _ _⟨rfl,rfl⟩;simp only[uV,uW];refine uE ?_;apply UB 9 13 O O oK O O
   ·refine uC (kF hE hA) O ?_;rintro _ _⟨rfl,rfl⟩;simp only[uV,uW];refine uE ?_;refine uT 10 O (aB O) ?_;refine CL ?_;apply fE 13 O oK O;refine dA (hE.t O) (fun b3=>?_);refine uE ?_;apply fE 14 O oK O;refine NC ?_;try simp only[bP,EM,EN,ES,EP,ET,EU,EW,EX]
    refine uE ?_;apply dG 15 O oK
    ·exact aC O
    ·rfl
    refine Bv ?_;refine eX (ι:=Nat) b3 trivial BC ?_;exact uI
   refine dA (hE.t O) (fun b3=>?_);refine uE ?_;apply fE 9 O oK O;refine uC (kF hE hA) O ?_;rintro _ _⟨rfl,rfl⟩;simp only[uV,uW];refine uE ?_;apply dG 10 O oK
   ·exact aB O
   ·rfl
   refine CL ?_;apply fE 14 O oK O;refine NC ?_;try simp only[bP,EM,EN,ES,EP,ET,EU,EW,EX]
   refine uE ?_;apply dG 15 O oK
   ·exact aC O
   ·rfl
   refine Bv ?_;refine eX (ι:=Nat) b3 trivial BC ?_;exact uI
  refine dA (hE.t O) (fun b3=>?_);refine uE ?_;apply fE 4 O oK O;refine uC (kC hE) O ?_;rintro _ _⟨rfl,rfl⟩;simp only[uV,uW];refine uE ?_;apply fE 9 O oK O;refine uC (kF hE hA) O ?_;rintro _ _⟨rfl,rfl⟩;simp only[uV,uW];refine uE ?_;apply dG 10 O oK
  ·exact aB O
  ·rfl
  refine CL ?_;apply fE 14 O oK O;refine NC ?_;try simp only[bP,EM,EN,ES,EP,ET,EU,EW,EX]
  refine uE ?_;apply dG 15 O oK
  ·exact aC O
  ·rfl
  refine Bv ?_;refine eX (ι:=Nat) b3 trivial BC ?_;exact uI
 rintro b3 -;refine Bv ?_;refine uH ([cells pp [uPt s,uPt tb] 122,cells b (pre++uPt pp:: .bool bh:: .slice p n c:: BK ((i+1)):: .int .u64 (k:Nat)::suf) bt]) ?_;refine Bz ?_;refine uD 5 O (aB O) ?_;refine CG ?_;apply dH 4 O oK O;refine uC (Tg hE) O ?_;rintro _ _⟨rfl,rfl⟩;simp only[uV,uW];refine uE ?_;apply dH 9 O oK O;refine uC (qQy hE hB hi hg.2) O ?_;rintro _ _⟨rfl,rfl⟩;simp only[uV,uW];refine uE ?_;refine Br ?_;refine uH ([cells b3 [BK (Rl.kind (en.r)),.int .u8 (Rl.byte (en.r):Nat),BK (Rl.left (en.r)),BK (Rl.right (en.r)),BK (Rl.times (en.r))] 111,cells b (pre++uPt pp:: .bool bh:: .slice p n c:: BK ((i+1)):: .int .u64 (k:Nat)::suf) bt]) ?_;refine Bi ?_;apply dH 7 O oK O;refine uC (qRb hE) O ?_;rintro _ _⟨rfl,rfl⟩;simp only[uV,uW];refine uE ?_;refine Bv ?_;apply dH 9 O oK O;refine NC ?_;try simp only[bP,EM,EN,ES,EP,ET,EU,EW,EX]
 refine uE ?_;refine CG ?_;apply cK
 ·rfl
 ·((apply Rs.cell rfl (hE.t rfl) rfl;(focus((repeat(first |rfl|assumption|exact FP|exact FQ|exact Fx|exact Fg|exact GL|exact Gh|exact Gi|exact GX|constructor));done)));exact Rs.nil)
 ·exact⟨by rw[Um,hr];rfl,rfl⟩
 exact uI
end
section
variable {E:Bp}{Es:List Bj}{pp tb s most:Nat}
def Lk.short {L}(hw:Wf L){bh root x fs}(hs:De L root)(h:Lk L bh root x fs):x+fs.length<=root:=by
 induction h with
 |nil=>simp
 | @snoc x hv fs r h1 h2 h3 h4 h5 h6 ih=>
  have:=(Xa (bh:=bh) (hv:=hv) hw h2 h3 h4 (h1.ok hw hs).2.2.1).2.1
  simp only[aa,bf]
  omega
def Lk.short' {L}(hw:Wf L){bh root x fs}(hs:De L root)(h:Lk L bh root x fs)(hL:L.length<=1048576):fs.length<=1048576:=by
 have:=h.short hw hs;have:=hs.le;omega
def QZ (pp s tb most:Nat)(Es:List Bj)(b:Nat)(pre suf:List Value)(bt:TypeId)(bh:Bool)(l x:Nat)(fs:List Fm)(v:Value)(Q:List HP):Prop:=∃x' gs p' c',v= .tuple #[]/\Dn (BO Es) bh l x fs x' gs/\Bt (BO Es) x'<=(l:Nat)/\Q=[cells pp [uPt s,uPt tb] 122,BV tb s (BO Es),bR s most Es,cells b (pre++uPt pp:: .bool bh:: .slice p' gs.length c':: .int .i64 (x':Nat):: .int .u64 ((key (BO Es) x'):Nat)::suf) bt,sl p' c' 332 8 gs.length (dZ (BO Es) gs)]
structure ZB where
 x:Nat
 gs:List Fm
 p:Option Addr
 c:Nat
 b4:Nat
def qWn (hE:BP E)(hB:Ca E.w0){b c x k l root pre suf}{bt:TypeId}{p bh fs}(hs:De (BO Es) root)(hk:Lk (BO Es) bh root x fs)(hQ:l<=1099511627776):
  Ct E 211 [.pointer (some ⟨b,pre.length,none⟩),BK l] [cells pp [uPt s,uPt tb] 122,BV tb s (BO Es),bR s most Es,cells b (pre++uPt pp:: .bool bh:: .slice p fs.length c:: BK x:: .int .u64 (k:Nat)::suf) bt,sl p c 332 8 fs.length (dZ (BO Es) fs)] (QZ pp s tb most Es b pre suf bt bh l x fs):=by
 refine eF (p:=bR s most Es) uK (fun _ h=>dR h) (fun hA=>?_);have hw:=hA.1;have hL:(BO Es).length<=1048576:=by have:=hA.2.2;rw[bQ];unfold fJ at this;omega
 have hC:=hk.ok hw hs;refine bO (hE.fn Tryz.func211) O O O (fun R=>?_);simp only[dS,uV,uW];refine Bz ?_;refine uX (ct_open hE hB hC.1 ⟨hC.2.1,hC.2.2.1⟩) O ?_;rintro _ _⟨rfl,rfl⟩;simp only[jq,jw,Um];refine uU (dA (hE.t O) (fun b4=>?_));refine Bv ?_;try simp only[bP,EM,EN,ES,EP,ET,EU,EW,EX]
 refine CG ?_;refine dX (fun x:ZB=>[(0,.pointer (some ⟨b,pre.length,none⟩)),(1,BK l),(4,.pointer (BM x.b4))]) (fun y=>[cells pp [uPt s,uPt tb] 122,BV tb s (BO Es),bR s most Es,cells b (pre++uPt pp:: .bool bh:: .slice y.p y.gs.length y.c:: BK (y.x):: .int .u64 (k:Nat)::suf) bt,sl y.p y.c 332 8 y.gs.length (dZ (BO Es) y.gs),cells y.b4 [BK (y.x),BK (Rl.kind (Bf (BO Es) y.x)),.int .u8 (Rl.byte (Bf (BO Es) y.x):Nat),BK (Rl.left (Bf (BO Es) y.x)),BK (Rl.right (Bf (BO Es) y.x)),BK (Rl.times (Bf (BO Es) y.x)),BL (Bt (BO Es) y.x),BK (gD (Bf (BO Es) y.x))] 332,R]) (fun y=>y.x) (fun y=>Lk (BO Es) bh root y.x y.gs/\Dn (BO Es) bh l x fs y.x y.gs) ⟨x,fs,p,c,b4⟩ ?_ ?_ ?_ ?_
 ·exact⟨hk,.refl⟩
 ·exact BC
 ·exact uI
 rintro⟨y,gs,p1,c1,b4⟩⟨h1,h2⟩;simp only at h1 h2 ⊢;have ok:=h1.ok hw hs;have hR:=h1.short' hw hs hL;refine Bu ?_;refine bE O (fun hM=>?_) (fun hM=>?_)
 ·have hr:(BO Es)[y-1]?=some (Bf (BO Es) y):=by
   have e:=ag (l:=BO Es) (i:=y-1) oO;rw[e];simp[Bf,e]
  have hn:=qHe ok.1 hr oO;have hN:=Dn.step h2 oO hr;have hH:Lk (BO Es) bh root (jA bh (gD (Bf (BO Es) y)) (Bf (BO Es) y)) (gs++[⟨y,gD (Bf (BO Es) y)⟩]):= .snoc h1 ok.1 hr hn (by have:=XW hw hr;omega) (ai _);have hO:=(Xa (bh:=bh) (hv:=gD (Bf (BO Es) y)) hw ok.1 hr hn ok.2.2.1).2.1;have hD:=hH.ok hw hs;have hI:=kN (BO Es) gs ⟨y,gD (Bf (BO Es) y)⟩;simp only at hI;refine Bw ?_;refine uN 10 ([cells b (pre++uPt pp:: .bool bh:: .slice p1 gs.length c1:: BK y:: .int .u64 (k:Nat)::suf) bt,cells b4 [BK y,BK (Rl.kind (Bf (BO Es) y)),.int .u8 (Rl.byte (Bf (BO Es) y):Nat),BK (Rl.left (Bf (BO Es) y)),BK (Rl.right (Bf (BO Es) y)),BK (Rl.times (Bf (BO Es) y)),BL (Bt (BO Es) y),BK (gD (Bf (BO Es) y))] 332]) ?_;refine Bw ?_;apply dG 5 O oK
  ·(apply bV rfl (hE.t rfl) rfl;(repeat(first |rfl|assumption|exact FP|exact FQ|exact Fx|exact Fg|exact GL|exact Gh|exact Gi|exact GX|constructor));done)
  ·rfl
  apply fE 6 O oK O;refine aU (hE.t O) (hE.t O) O O O (fun hS=>?_);refine uE ?_;apply fE 7 O oK O;refine BJ (fun hJ hK hT hP hF hG=>?_);refine uE ?_;apply dG 8 O oK
  ·exact bA O
  ·rfl
  apply dG 9 O oK
  ·exact EC O
  ·rfl
  apply gW O oK oK O;refine NC ?_;try simp only[bP,EM,EN,ES,EP,ET,EU,EW,EX]
  refine Bv ?_;obtain rfl:hP=dZ (BO Es) (gs++[⟨y,gD (Bf (BO Es) y)⟩]):=by rw[hG,hI];rfl
  subst hF;refine uN 9 ([cells b (pre++uPt pp:: .bool bh:: .slice (BM hJ) (gs.length+1) hK:: BK y:: .int .u64 (k:Nat)::suf) bt,cells b4 [BK y,BK (Rl.kind (Bf (BO Es) y)),.int .u8 (Rl.byte (Bf (BO Es) y):Nat),BK (Rl.left (Bf (BO Es) y)),BK (Rl.right (Bf (BO Es) y)),BK (Rl.times (Bf (BO Es) y)),BL (Bt (BO Es) y),BK (gD (Bf (BO Es) y))] 332]) ?_;refine CL ?_;apply dG 2 O oK
  ·exact aB O
  ·rfl
  apply dG 3 O oK
  ·exact bA O
  ·rfl
  apply dG 4 O oK
  ·exact EC O
  ·rfl
  apply dG 5 O oK
  ·(apply aO rfl (hE.t rfl) rfl;(repeat(first |rfl|assumption|exact FP|exact FQ|exact Fx|exact Fg|exact GL|exact Gh|exact Gi|exact GX|constructor));done)
  ·rfl
  apply fE 6 O oK O;refine uC (qQu hE hn) O ?_;rintro _ _⟨rfl,rfl⟩;simp only[uV,uW];refine uE ?_;apply dG 7 O oK
  ·exact bA O
  ·rfl
  apply dG 8 O oK
  ·exact EC O
  ·rfl
  apply gW O oK oK O;refine NC ?_;try simp only[bP,EM,EN,ES,EP,ET,EU,EW,EX]
  refine Bu ?_;refine uU (dA (hE.t O) (fun b4=>?_));refine Bv ?_;try simp only[bP,EM,EN,ES,EP,ET,EU,EW,EX]
  refine Bz ?_;refine uX (ct_open hE hB hD.1 ⟨hD.2.1,hD.2.2.1⟩) O ?_;rintro _ _⟨rfl,rfl⟩;simp only[jq,jw,Um];refine Bv ?_;try simp only[bP,EM,EN,ES,EP,ET,EU,EW,EX]
  refine Bv ?_;refine bS (ι:=ZB) (j:=⟨jA bh (gD (Bf (BO Es) y)) (Bf (BO Es) y),gs++[⟨y,gD (Bf (BO Es) y)⟩],some ⟨hJ,0,none⟩,hK,b4⟩) ⟨hH,hN⟩ hO BC ?_;rw[aa,bf];exact uI
 obtain⟨i,rfl⟩:∃i,y=i+1:=⟨y-1,oO⟩;have hi:i<Es.length:=by have:=ok.2.1;rw[bQ]at this;omega
 refine Bw ?_;refine Yw (Ex (fun k=>cells b (pre++uPt pp:: .bool bh:: .slice p1 gs.length c1:: BK ((i+1)):: .int .u64 (k:Nat)::suf) bt)::[cells pp [uPt s,uPt tb] 122]) ?_ ?_
 ·(apply QQ;apply Dm;(repeat constructor);done)
 apply bG 0 O
 ·(apply lZ;intro kx;exact aB rfl)
 ·with_reducible (repeat(first |exact aF|apply aG|apply aH))
 ·kernel_rfl
 ·rfl
 apply bG 1 O
 ·(apply lZ;intro kx;exact aB rfl)
 ·with_reducible (repeat(first |exact aF|apply aG|apply aH))
 ·kernel_rfl
 ·rfl
 apply bG 2 O
 ·(apply lZ;intro kx;exact bA rfl)
 ·with_reducible (repeat(first |exact aF|apply aG|apply aH))
 ·kernel_rfl
 ·rfl
 apply bG 3 O
 ·(apply lZ;intro kx;exact EC rfl)
 ·with_reducible (repeat(first |exact aF|apply aG|apply aH))
 ·kernel_rfl
 ·rfl
 apply bG 4 O
 ·(apply lZ;intro kx;(apply aO rfl (hE.t rfl) rfl;(repeat(first |rfl|assumption|exact FP|exact FQ|exact Fx|exact Fg|exact GL|exact Gh|exact Gi|exact GX|constructor));done))
 ·with_reducible (repeat(first |exact aF|apply aG|apply aH))
 ·kernel_rfl
 ·rfl
 apply bG 6 O
 ·(apply lZ;intro kx;exact aB rfl)
 ·with_reducible (repeat(first |exact aF|apply aG|apply aH))
 ·kernel_rfl
 ·rfl
 apply bG 7 O
 ·(apply lZ;intro kx;exact bA rfl)
 ·with_reducible (repeat(first |exact aF|apply aG|apply aH))
 ·kernel_rfl
 ·rfl
 apply bG 8 O
 ·(apply lZ;intro kx;exact EC rfl)
 ·with_reducible (repeat(first |exact aF|apply aG|apply aH))
 ·kernel_rfl
 ·rfl
 apply bG 9 O
 ·(apply lZ;intro kx;(apply aO rfl (hE.t rfl) rfl;(repeat(first |rfl|assumption|exact FP|exact FQ|exact Fx|exact Fg|exact GL|exact Gh|exact Gi|exact GX|constructor));done))
 ·with_reducible (repeat(first |exact aF|apply aG|apply aH))
 ·kernel_rfl
 ·rfl
 apply dH 5 O oK O;refine uC (Tg hE) O ?_;rintro _ _⟨rfl,rfl⟩;simp only[uV,uW];refine⟨by(apply QQ;apply Dm;(repeat constructor);done),?_⟩;apply dH 10 O oK O;refine uC (Su hE hB hi) O ?_;rintro _ _⟨rfl,rfl⟩;simp only[uV,uW];refine⟨by(apply QQ;apply Dm;(repeat constructor);done),?_⟩;apply bG 11 O
 ·(apply lZ;intro kx;exact aB rfl)
 ·with_reducible (repeat(first |exact aF|apply aG|apply aH))
 ·kernel_rfl
 ·rfl
 apply bG 12 O
 ·(apply lZ;intro kx;exact aT rfl rfl)
 ·with_reducible (repeat(first |exact aF|apply aG|apply aH))
 ·kernel_rfl
 ·rfl
 apply bG 13 O
 ·(apply lZ;intro kx;exact aT rfl rfl)
 ·with_reducible (repeat(first |exact aF|apply aG|apply aH))
 ·kernel_rfl
 ·rfl
 apply bG 14 O
 ·(apply lZ;intro kx;exact bA rfl)
 ·with_reducible (repeat(first |exact aF|apply aG|apply aH))
 ·kernel_rfl
 ·rfl
 apply bG 15 O
 ·(apply lZ;intro kx;exact EC rfl)
 ·with_reducible (repeat(first |exact aF|apply aG|apply aH))
 ·kernel_rfl
 ·rfl
 apply dH 16 O oK O;refine NC ?_;try simp only[bP,EM,EN,ES,EP,ET,EU,EW,EX]
 refine⟨by(apply QQ;apply Dm;(repeat constructor);done),?_⟩;refine Bv ?_;exact Gf O .nil ⟨i+1,gs,p1,c1,O,h2,oO,O⟩
end
section
variable {E:Bp}{Es:List Bj}{pp tb s most:Nat}
def Xm {L gs g}:(.pointer (some ⟨g,0+(((gs.length+1:Nat):Int)-1).toNat*8,none⟩):Value)= .pointer (some ⟨g,(dZ L gs).length,none⟩):=by
 rw[qD,show 0+(((gs.length+1:Nat):Int)-1).toNat*8=gs.length*8 by omega]
def qTp (hE:BP E){b c x k lv pre suf}{bt:TypeId}{p bh q}:
  Ct E 217 [.pointer (some ⟨b,pre.length,none⟩),BK lv] [cells b (pre++uPt pp:: .bool bh:: .slice p 0 c:: BK x:: .int .u64 (k:Nat)::suf) bt,q] (fun v Q=>v= .pointer none/\Q=[cells b (pre++uPt pp:: .bool bh:: .slice p 0 c:: BK x:: .int .u64 (k:Nat)::suf) bt,q]):=by
 refine bO (hE.fn Tryz.func217) O O O (fun R=>?_);simp only[dS,uV,uW];refine DW ?_;refine BU 13 (.bool false) O BF ?_;refine DL ?_;exact uZ O (.tmp O .nil) ⟨O,O⟩
def qTq (hE:BP E){b c x k lv g hv:Nat}{pre suf:List Value}{bt:TypeId}{bh:Bool}{gs:List Fm}{f:Fm}(hA:gs.length<=1048576):
  Ct E 217 [.pointer (some ⟨b,pre.length,none⟩),BK lv] [cells b (pre++uPt pp:: .bool bh:: .slice (BM g) (gs.length+1) c:: BK x:: .int .u64 (k:Nat)::suf) bt,sl (BM g) c 332 8 (gs.length+1) (dZ (BO Es) gs++ BK (f.id):: BK (Rl.kind (Bf (BO Es) f.id)):: .int .u8 (Rl.byte (Bf (BO Es) f.id):Nat):: BK (Rl.left (Bf (BO Es) f.id)):: BK (Rl.right (Bf (BO Es) f.id)):: BK (Rl.times (Bf (BO Es) f.id)):: BL (Bt (BO Es) f.id):: BK hv::[])]
   (fun v Q=>v=(if Bt (BO Es) f.id=(lv:Nat)then .pointer (some ⟨g,(dZ (BO Es) gs).length,none⟩)else .pointer none)/\Q=[cells b (pre++uPt pp:: .bool bh:: .slice (BM g) (gs.length+1) c:: BK x:: .int .u64 (k:Nat)::suf) bt,sl (BM g) c 332 8 (gs.length+1) (dZ (BO Es) gs++ BK (f.id):: BK (Rl.kind (Bf (BO Es) f.id)):: .int .u8 (Rl.byte (Bf (BO Es) f.id):Nat):: BK (Rl.left (Bf (BO Es) f.id)):: BK (Rl.right (Bf (BO Es) f.id)):: BK (Rl.times (Bf (BO Es) f.id)):: BL (Bt (BO Es) f.id):: BK hv::[])]):=by
 refine bO (hE.fn Tryz.func217) O O O (fun R=>?_);simp only[dS,uV,uW];refine DW ?_;refine BU 13 (.bool true) O BF ?_;refine CU ?_;refine BU 20 _ O (Xm (L:=BO Es)) ?_;refine Bo ?_;refine bE O (fun h=>?_) (fun h=>?_)
 ·skip
  refine Bu ?_;refine BU 32 _ O (Xm (L:=BO Es)) ?_;refine Bw ?_;exact uZ O (.tmp O .nil) ⟨by rw[if_pos h];rfl,rfl⟩
 refine Br ?_;exact uZ O (.tmp O .nil) ⟨by rw[if_neg h];rfl,rfl⟩
def Vz (L:List Rl)(p:Option Addr)(fs:List Fm)(o:Option Fm)(v:Value):Prop:=match o with
 |none=>v= .pointer none
 |some f=>∃gs g,fs=gs++[f]/\p=some ⟨g,0,none⟩/\v= .pointer (some ⟨g,(dZ L gs).length,none⟩)
def nZ (hE:BP E){b c x k lv pre suf}{bt:TypeId}{p bh fs}(hA:fs.length<=1048576):
  Ct E 217 [.pointer (some ⟨b,pre.length,none⟩),BK lv] [cells b (pre++uPt pp:: .bool bh:: .slice p fs.length c:: BK x:: .int .u64 (k:Nat)::suf) bt,sl p c 332 8 fs.length (dZ (BO Es) fs)]
   (fun v Q=>(∃o,IV (BO Es) lv fs o/\Vz (BO Es) p fs o v)/\Q=[cells b (pre++uPt pp:: .bool bh:: .slice p fs.length c:: BK x:: .int .u64 (k:Nat)::suf) bt,sl p c 332 8 fs.length (dZ (BO Es) fs)]):=by
 rcases bq fs with rfl|⟨gs,f,rfl⟩
 ·intro R w hs;exact(qTp hE (q:=sl p c 332 8 0 (dZ (BO Es) [])) R w hs).mono fun e w'⟨v,Q,h1,⟨h2,h3⟩,h4⟩=>⟨v,Q,h1,⟨⟨none,fun f g e=>by simp at e,h2⟩,h3⟩,h4⟩
 rw[bu]at*;rw[aa,bf]at*;refine eF (p:=sl p c 332 8 (gs.length+1) (dZ (BO Es) (gs++[f]))) uK (fun _ h=>eG h oO) ?_;rintro⟨g,rfl⟩;rw[kN];intro R w hs
 exact(qTq (hv:=f.hv) hE oO R w hs).mono fun e w'⟨v,Q,h1,⟨h2,h3⟩,h4⟩=>⟨v,Q,h1,⟨by
  by_cases hl:Bt (BO Es) f.id=(lv:Nat)
  ·rw[if_pos hl]at h2;exact⟨some f,⟨⟨gs,O⟩,hl⟩,gs,g,O,O,h2⟩
  rw[if_neg hl]at h2;exact⟨none,fun f' g' e=>by obtain⟨_,rfl⟩:=nH e;exact hl,h2⟩,h3⟩,h4⟩
def qSm {L}(hw:Wf L){x r}(h1:1<=x)(hr:L[x-1]?=some r):gD r<=1152921504606846976:=by
 obtain⟨x,rfl⟩:∃y,x=y+1:=⟨x-1,oO⟩;rw[fu]at hr;have hk:=hw.ok x r hr;cases r with
 |letter b=>simp[gD]
 |pair a b=>simp[gD]
 |power y k=>
  have hl:=pM hr hk
  have hs:=hw.short (x+1)
  have hx:=(ae.1 hr).1
  obtain⟨k1,k2,k3⟩:=hk
  have hp:=YM hw y k1 oO
  unfold dC at hs
  rw[hl]at hs
  have:k*1<=k*len L y:=pu k hp
  simp only[gD]
  omega
def EO.pl {L}(hw:Wf L)(hL:L.length<=1048576){bh l root x fs}(hs:De L root)(h:EO L bh l root x fs):fs.length<=1048576:=by
 rcases h.lk with⟨_,rfl⟩|⟨_,h2,_⟩
 ·simp
 exact h2.short' hw hs hL
def KL (hE:BP E)(hB:Ca E.w0){b c x l lv root pre suf}{bt:TypeId}{p bh fs}(hs:De (BO Es) root)(he:EO (BO Es) bh l root x fs):
  Ct E 201 [.pointer (some ⟨b,pre.length,none⟩),BK lv] [cells pp [uPt s,uPt tb] 122,BV tb s (BO Es),bR s most Es,cells b (pre++uPt pp:: .bool bh:: .slice p fs.length c:: BK x:: .int .u64 ((key (BO Es) x):Nat)::suf) bt,sl p c 332 8 fs.length (dZ (BO Es) fs)]
   (fun v Q=>v= .tuple #[]/\Q=[cells pp [uPt s,uPt tb] 122,BV tb s (BO Es),bR s most Es,cells b (pre++uPt pp:: .bool bh:: .slice p (Fq (BO Es) lv x fs).2.length c:: BK ((Fq (BO Es) lv x fs).1):: .int .u64 ((key (BO Es) (Fq (BO Es) lv x fs).1):Nat)::suf) bt,sl p c 332 8 (Fq (BO Es) lv x fs).2.length (dZ (BO Es) (Fq (BO Es) lv x fs).2)]):=by
 refine eF (p:=bR s most Es) uK (fun _ h=>dR h) (fun hA=>?_);have hw:=hA.1;have hL:(BO Es).length<=1048576:=by have:=hA.2.2;rw[bQ];unfold fJ at this;omega
 have hD:=he.pl hw hL hs;refine eF (p:=sl p c 332 8 fs.length (dZ (BO Es) fs)) uK (fun _ h=>lX h) ?_;rintro⟨hF, -, -⟩;refine bO (hE.fn Tryz.func201) O O O (fun R=>?_);simp only[dS,uV,uW];refine Bz ?_;refine uX (nZ hE hD) O ?_;rintro v _⟨⟨o,ho,hv⟩,rfl⟩;simp only[uV,uW];refine CG ?_;cases o with
 |none=>
  obtain rfl:v= .pointer none:=hv
  have e:Fq (BO Es) lv x fs=(x,fs):=by
   rcases bq fs with rfl|⟨gs,f,rfl⟩
   ·rfl
   rw[bu]at*;rw[mQ,if_neg (fun h=>ho f gs rfl h.1)]
  rw[e]
  refine CL ?_
  refine uH ([]) ?_
  refine Ci ?_
  exact uZ O .nil ⟨O,O⟩
 |some f=>
  obtain⟨gs,g,rfl,rfl,rfl⟩:=hv
  have hx:x≠0:=fun h0=>by subst h0;have:=he.zero;simp at this
  obtain⟨h1,h2,h3,h4⟩:=he.low hx
  obtain⟨r,l1,l2,l3,l4,l5,l6,ex⟩:=h2.inv
  have okf:=l1.ok hw hs
  have hI:=qSm hw l2 l3
  have er:=iV l3
  rw[aa,bf]at*
  rw[kN]
  refine CL ?_
  refine uH ([sl (BM g) c 332 8 (gs.length+1) (dZ (BO Es) gs++ BK (f.id):: BK (Rl.kind (Bf (BO Es) f.id)):: .int .u8 (Rl.byte (Bf (BO Es) f.id):Nat):: BK (Rl.left (Bf (BO Es) f.id)):: BK (Rl.right (Bf (BO Es) f.id)):: BK (Rl.times (Bf (BO Es) f.id)):: BL (Bt (BO Es) f.id):: BK (f.hv)::[])]) ?_
  refine Bo ?_
  apply Wx 11 O O O oK O
  refine uC (qRb hE) O ?_
  rintro _ _⟨rfl,rfl⟩
  simp only[uV,uW]
  refine uE ?_
  refine Bz ?_
  refine bE O (fun hG=>?_) (fun hG=>?_)
  ·have e:Fq (BO Es) lv x (gs++[f])=(x,gs++[f]):=by rw[mQ,if_neg (fun h=>by omega)]
   rw[e]
   simp only[aa,bf]
   rw[kN]
   refine CL ?_
   exact uZ O .nil ⟨O,O⟩
  have e:Fq (BO Es) lv x (gs++[f])=(f.id,gs):=by rw[mQ,if_pos ⟨ho.2,oO⟩]
  rw[e]
  obtain⟨i,hi⟩:∃i,f.id=i+1:=⟨f.id-1,oO⟩
  have hH:i<Es.length:=by have:=okf.2.1;rw[bQ]at this;omega
  have hC:=Su (s:=s) (tb:=tb) (most:=most) hE hB hH
  rw[<-hi]at hC
  refine Bq ?_
  try simp only[bP,EM,EN,ES,EP,ET,EU,EW,EX]
  refine CG ?_
  refine Yw (Ex (fun k=>cells b (pre++uPt pp:: .bool bh:: .slice (BM g) (gs.length+1) c:: BK (f.id):: .int .u64 (k:Nat)::suf) bt)::[cells pp [uPt s,uPt tb] 122]) ?_ ?_
  ·(apply QQ;apply Dm;(repeat constructor);done)
  apply bG 0 O
  ·(apply lZ;intro kx;exact aB rfl)
  ·with_reducible (repeat(first |exact aF|apply aG|apply aH))
  ·kernel_rfl
  ·rfl
  apply bG 1 O
  ·(apply lZ;intro kx;exact aB rfl)
  ·with_reducible (repeat(first |exact aF|apply aG|apply aH))
  ·kernel_rfl
  ·rfl
  apply bG 2 O
  ·(apply lZ;intro kx;exact bA rfl)
  ·with_reducible (repeat(first |exact aF|apply aG|apply aH))
  ·kernel_rfl
  ·rfl
  apply bG 3 O
  ·(apply lZ;intro kx;exact EC rfl)
  ·with_reducible (repeat(first |exact aF|apply aG|apply aH))
  ·kernel_rfl
  ·rfl
  apply bG 4 O
  ·(apply lZ;intro kx;(apply aO rfl (hE.t rfl) rfl;(repeat(first |rfl|assumption|exact FP|exact FQ|exact Fx|exact Fg|exact GL|exact Gh|exact Gi|exact GX|constructor));done))
  ·with_reducible (repeat(first |exact aF|apply aG|apply aH))
  ·kernel_rfl
  ·rfl
  apply bG 6 O
  ·(apply lZ;intro kx;exact aB rfl)
  ·with_reducible (repeat(first |exact aF|apply aG|apply aH))
  ·kernel_rfl
  ·rfl
  apply bG 7 O
  ·(apply lZ;intro kx;exact bA rfl)
  ·with_reducible (repeat(first |exact aF|apply aG|apply aH))
  ·kernel_rfl
  ·rfl
  apply bG 8 O
  ·(apply lZ;intro kx;exact EC rfl)
  ·with_reducible (repeat(first |exact aF|apply aG|apply aH))
  ·kernel_rfl
  ·rfl
  apply bG 9 O
  ·(apply lZ;intro kx;(apply aO rfl (hE.t rfl) rfl;(repeat(first |rfl|assumption|exact FP|exact FQ|exact Fx|exact Fg|exact GL|exact Gh|exact Gi|exact GX|constructor));done))
  ·with_reducible (repeat(first |exact aF|apply aG|apply aH))
  ·kernel_rfl
  ·rfl
  apply dH 5 O oK O
  refine uC (Tg hE) O ?_
  rintro _ _⟨rfl,rfl⟩
  simp only[uV,uW]
  refine⟨by(apply QQ;apply Dm;(repeat constructor);done),?_⟩
  apply dH 10 O oK O
  refine uC (hC) O ?_
  rintro _ _⟨rfl,rfl⟩
  simp only[uV,uW]
  refine⟨by(apply QQ;apply Dm;(repeat constructor);done),?_⟩
  apply bG 11 O
  ·(apply lZ;intro kx;exact aB rfl)
  ·with_reducible (repeat(first |exact aF|apply aG|apply aH))
  ·kernel_rfl
  ·rfl
  apply bG 12 O
  ·(apply lZ;intro kx;exact aT rfl rfl)
  ·with_reducible (repeat(first |exact aF|apply aG|apply aH))
  ·kernel_rfl
  ·rfl
  apply bG 13 O
  ·(apply lZ;intro kx;exact aT rfl rfl)
  ·with_reducible (repeat(first |exact aF|apply aG|apply aH))
  ·kernel_rfl
  ·rfl
  apply bG 14 O
  ·(apply lZ;intro kx;exact bA rfl)
  ·with_reducible (repeat(first |exact aF|apply aG|apply aH))
  ·kernel_rfl
  ·rfl
  apply bG 15 O
  ·(apply lZ;intro kx;exact EC rfl)
  ·with_reducible (repeat(first |exact aF|apply aG|apply aH))
  ·kernel_rfl
  ·rfl
  apply dH 16 O oK O
  refine NC ?_
  try simp only[bP,EM,EN,ES,EP,ET,EU,EW,EX]
  refine⟨by(apply QQ;apply Dm;(repeat constructor);done),?_⟩
  refine CU ?_
  refine BU 55 (BK gs.length) O (bW oO) ?_
  refine uB (gF _ O O (hE.t O) O oO) ?_
  refine CG ?_
  try simp only[bP,EM,EN,ES,EP,ET,EU,EW,EX]
  refine Bv ?_
  apply xP
  ·rfl
  ·(exact Rs.nil)
  ·exact⟨O,O⟩
  refine cZ (cO (p:=sl (BM g) c 332 8 (gs.length+1) (dZ (BO Es) gs++ BK (f.id):: BK (Rl.kind (Bf (BO Es) f.id)):: .int .u8 (Rl.byte (Bf (BO Es) f.id):Nat):: BK (Rl.left (Bf (BO Es) f.id)):: BK (Rl.right (Bf (BO Es) f.id)):: BK (Rl.times (Bf (BO Es) f.id)):: BL (Bt (BO Es) f.id):: BK (f.hv)::[])) (p':=sl (BM g) c 332 8 gs.length (dZ (BO Es) gs)) uK (nK oO (by rw[<-qD (BO Es) gs,xq];rfl) BF)) ?_
  exact uI
end
section
variable {E:Bp}{Es:List Bj}{pp tb s most:Nat}
def Qa (pp s tb most:Nat)(Es:List Bj)(b:Nat)(pre suf:List Value)(bt:TypeId)(bh:Bool)(l t:Nat)(fs:List Fm)(v:Value)(Q:List HP):Prop:=∃x' gs p' c',v= .tuple #[]/\Dp (BO Es) bh l t fs x' gs/\Q=[cells pp [uPt s,uPt tb] 122,BV tb s (BO Es),bR s most Es,cells b (pre++uPt pp:: .bool bh:: .slice p' gs.length c':: .int .i64 (x':Nat):: .int .u64 ((key (BO Es) x'):Nat)::suf) bt,sl p' c' 332 8 gs.length (dZ (BO Es) gs)]
structure ZC where
 y:Nat
 t:Nat
 gs:List Fm
def lH (hE:BP E)(hB:Ca E.w0){b c x k l t root pre suf}{bt:TypeId}{p bh fs}(hs:De (BO Es) root)(hk:Lk (BO Es) bh root x fs)(hd:NE (BO Es) t fs)(hF:l<=1099511627776):
  Ct E 226 [.pointer (some ⟨b,pre.length,none⟩),BK t,BK l] [cells pp [uPt s,uPt tb] 122,BV tb s (BO Es),bR s most Es,cells b (pre++uPt pp:: .bool bh:: .slice p fs.length c:: BK x:: .int .u64 (k:Nat)::suf) bt,sl p c 332 8 fs.length (dZ (BO Es) fs)] (Qa pp s tb most Es b pre suf bt bh l t fs):=by
 refine eF (p:=bR s most Es) uK (fun _ h=>dR h) (fun hA=>?_);have hw:=hA.1;have hL:(BO Es).length<=1048576:=by have:=hA.2.2;rw[bQ];unfold fJ at this;omega
 refine eF (p:=sl p c 332 8 fs.length (dZ (BO Es) fs)) uK (fun _ h=>lX h) ?_;rintro⟨hD, -, -⟩;refine bO (hE.fn Tryz.func226) O O O (fun R=>?_);simp only[dS,uV,uW];refine Bi ?_;try simp only[bP,EM,EN,ES,EP,ET,EU,EW,EX]
 refine CG ?_;try simp only[bP,EM,EN,ES,EP,ET,EU,EW,EX]
 refine CP ?_;refine dX (fun y:ZC=>[(0,.pointer (some ⟨b,pre.length,none⟩)),(1,BK (y.t)),(2,BK l),(6,BK (y.gs.length))]) (fun y=>[cells pp [uPt s,uPt tb] 122,BV tb s (BO Es),bR s most Es,cells b (pre++uPt pp:: .bool bh:: .slice p y.gs.length c:: BK (0):: .int .u64 (0:Nat)::suf) bt,sl p c 332 8 y.gs.length (dZ (BO Es) y.gs),R]) (fun y=>y.gs.length) (fun y=>Lk (BO Es) bh root y.y y.gs/\NE (BO Es) y.t y.gs/\y.gs.length<=c/\∀x' gs,Dp (BO Es) bh l y.t y.gs x' gs->Dp (BO Es) bh l t fs x' gs) ⟨x,t,fs⟩ ?_ ?_ ?_ ?_
 ·exact⟨hk,hd,hD,fun _ _ h=>h⟩
 ·exact BC
 ·exact uI
 rintro⟨y,t',gs⟩⟨h1,h2,h3,h4⟩;simp only at h1 h2 h3 h4 ⊢;have hK:=h1.short' hw hs hL;rcases bq gs with rfl|⟨gs,f,rfl⟩
 ·refine Bi ?_;refine bE O (fun h=>?_) (fun h=>?_)
  ·exfalso;simp at h
  refine Bz ?_;exact Gf O .nil ⟨0,[],p,c,O,h4 0 [] .nil,O⟩
 rw[bu]at*;obtain⟨r,l1,l2,l3,l4,l5,l6,ex⟩:=h1.inv;have hM:=qSm hw l2 l3;have er:=iV l3;have hG:∀b,Bf (BO Es) f.id≠ .letter b:=by rw[er];exact l4
 have hN:=qD (BO Es) gs;obtain⟨d1,_,d2⟩:=h2;obtain⟨d3,d4⟩:=d2 gs f rfl;rw[aa,bf]at*;rw[kN];have hH:gs.length<=c:=oO;refine iO (p:=sl p c 332 8 (gs.length+1) (dZ (BO Es) gs++ BK (f.id):: BK (Rl.kind (Bf (BO Es) f.id)):: .int .u8 (Rl.byte (Bf (BO Es) f.id):Nat):: BK (Rl.left (Bf (BO Es) f.id)):: BK (Rl.right (Bf (BO Es) f.id)):: BK (Rl.times (Bf (BO Es) f.id)):: BL (Bt (BO Es) f.id):: BK (f.hv)::[])) uK (fun _ h=>eG h oO) ?_;rintro⟨g,rfl⟩;refine Bi ?_;refine bE O (fun h=>?_) (fun h=>?_)
 ·refine CP ?_;refine BU 32 _ O (Xm (L:=BO Es)) ?_;refine Bo ?_;refine BU 38 (BL ((f.hv-t':Nat):Int)) O (bW oO) ?_;refine CG ?_;try simp only[bP,EM,EN,ES,EP,ET,EU,EW,EX]
  refine Bq ?_;refine bE O (fun h5=>?_) (fun h5=>?_)
  ·have hI:t'<f.hv:=oO;have hJ:Lk (BO Es) bh root (jA bh (f.hv-t') r) (gs++[⟨f.id,f.hv-t'⟩]):= .snoc l1 l2 l3 l4 oO oO;have hC:=qWn (pp:=pp) (s:=s) (tb:=tb) (most:=most) (b:=b) (c:=c) (k:=0) (pre:=pre) (suf:=suf) (bt:=bt) (p:=some ⟨g,0,none⟩) hE hB hs hJ hF;rw[aa,bf,kN]at hC;simp only at hC;refine Bv ?_;refine uN 11 ([cells b (pre++uPt pp:: .bool bh:: .slice (BM g) (gs.length+1) c:: BK (0):: .int .u64 (0:Nat)::suf) bt,sl (BM g) c 332 8 (gs.length+1) (dZ (BO Es) gs++ BK (f.id):: BK (Rl.kind (Bf (BO Es) f.id)):: .int .u8 (Rl.byte (Bf (BO Es) f.id):Nat):: BK (Rl.left (Bf (BO Es) f.id)):: BK (Rl.right (Bf (BO Es) f.id)):: BK (Rl.times (Bf (BO Es) f.id)):: BL (Bt (BO Es) f.id):: BK ((f.hv-t'))::[])]) ?_;refine Bz ?_;apply dG 4 O oK
   ·exact aB O
   ·rfl
   apply dG 5 O oK
   ·exact bA O
   ·rfl
   apply dG 6 O oK
   ·exact EC O
   ·rfl
   apply dG 7 O oK
   ·(apply aO rfl (hE.t rfl) rfl;(repeat(first |rfl|assumption|exact FP|exact FQ|exact Fx|exact Fg|exact GL|exact Gh|exact Gi|exact GX|constructor));done)
   ·rfl
   apply fE 8 O oK O;refine uC (qQu (r:=Bf (BO Es) f.id) hE hG) O ?_;rw[er];rintro _ _⟨rfl,rfl⟩;simp only[uV,uW];refine uE ?_;apply dG 9 O oK
   ·exact bA O
   ·rfl
   apply dG 10 O oK
   ·exact EC O
   ·rfl
   apply gW O oK oK O;refine NC ?_;try simp only[bP,EM,EN,ES,EP,ET,EU,EW,EX]
   refine Bv ?_;rw[<-er]at hC ⊢;refine Bz ?_;refine uX (hC) O ?_;rintro _ _⟨x',gs',p',c',rfl,q1,q2,rfl⟩;simp only[uV,uW];refine Br ?_;exact uZ O .nil ⟨x',gs',p',c',O,h4 x' gs' (.last hI q1 q2),O⟩
  refine Bo ?_;refine BU 66 (BK gs.length) O (bW oO) ?_;refine uB (gF _ O O (hE.t O) O oO) ?_;refine CG ?_;try simp only[bP,EM,EN,ES,EP,ET,EU,EW,EX]
  refine CK ?_;have okf:=l1.ok hw hs;refine bS (ι:=ZC) (j:=⟨f.id,1,gs⟩) ⟨l1,⟨ai _,fun _=>O,fun g2 f2 e=>⟨by subst e;obtain⟨_,_,_,_,_,q,_,_⟩:=l1.inv;exact q,.inl rfl⟩⟩,hH,fun x' gs' h=>h4 x' gs' (.pop oO h)⟩ (by show gs.length<gs.length+1;omega) BC ?_;refine cZ (cO (p:=sl (BM g) c 332 8 (gs.length+1) (dZ (BO Es) gs++ BK (f.id):: BK (Rl.kind (Bf (BO Es) f.id)):: .int .u8 (Rl.byte (Bf (BO Es) f.id):Nat):: BK (Rl.left (Bf (BO Es) f.id)):: BK (Rl.right (Bf (BO Es) f.id)):: BK (Rl.times (Bf (BO Es) f.id)):: BL (Bt (BO Es) f.id):: BK ((f.hv-t'))::[])) (p':=sl (BM g) c 332 8 gs.length (dZ (BO Es) gs)) uK (nK oO (by rw[<-qD (BO Es) gs,xq];rfl) BF)) ?_;exact uI
 exfalso;omega
end
