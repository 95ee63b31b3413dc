import Derived.Test.YtejcjelmpbkcbaaGreatDoorQ30
set_option linter.all false
set_option maxHeartbeats 1000000
namespace Sl
open Go Go.RowKit
section
variable {α:Type}{pre r:List α}{x0 x1 x2 x3 x4 x5 x6 x7:α}
def ap_0:(pre++x0::r)[pre.length]?=some x0:=by simp
def ap_1:(pre++x0::x1::r)[pre.length+1]?=some x1:=by simp
def ap_2:(pre++x0::x1::x2::r)[pre.length+2]?=some x2:=by simp
def ap_3:(pre++x0::x1::x2::x3::r)[pre.length+3]?=some x3:=by simp
def ap_4:(pre++x0::x1::x2::x3::x4::r)[pre.length+4]?=some x4:=by simp
def ap_5:(pre++x0::x1::x2::x3::x4::x5::r)[pre.length+5]?=some x5:=by simp
def ap_6:(pre++x0::x1::x2::x3::x4::x5::x6::r)[pre.length+6]?=some x6:=by simp
def ap_7:(pre++x0::x1::x2::x3::x4::x5::x6::x7::r)[pre.length+7]?=some x7:=by simp
end
section
variable {pre r:List Value}{x0 x1 x2 x3 x4 x5 x6 x7 v:Value}
def sm_0:bX (pre++x0::r) pre.length [v]=pre++v::r:=by simp[bX]
def sm_1:bX (pre++x0::x1::r) (pre.length+1) [v]=pre++x0::v::r:=by simp[bX]
def sm_2:bX (pre++x0::x1::x2::r) (pre.length+2) [v]=pre++x0::x1::v::r:=by simp[bX]
def sm_3:bX (pre++x0::x1::x2::x3::r) (pre.length+3) [v]=pre++x0::x1::x2::v::r:=by simp[bX]
def sm_4:bX (pre++x0::x1::x2::x3::x4::r) (pre.length+4) [v]=pre++x0::x1::x2::x3::v::r:=by simp[bX]
def sm_5:bX (pre++x0::x1::x2::x3::x4::x5::r) (pre.length+5) [v]=pre++x0::x1::x2::x3::x4::v::r:=by simp[bX]
def sm_6:bX (pre++x0::x1::x2::x3::x4::x5::x6::r) (pre.length+6) [v]=pre++x0::x1::x2::x3::x4::x5::v::r:=by simp[bX]
def sm_7:bX (pre++x0::x1::x2::x3::x4::x5::x6::x7::r) (pre.length+7) [v]=pre++x0::x1::x2::x3::x4::x5::x6::v::r:=by simp[bX]
end
section
variable {E:Env}{n:Nat}{L:Fr}{S l:List HP}{o:Oper}{v:Value}{ι:Type}{f:ι→HP}
def Ex (f:ι→HP):HP:=fun h=>∃i,f i h
def qAe (i:ι)(h:∀k,dU l k→dU (f i::S) k):∀k,dU l k→dU (Ex f::S) k:=fun k x=>fG (fun _ y=>⟨i,y⟩) (h k x)
def mD (h:∀i,Yl E n L (f i::S) o v):Yl E n L (Ex f::S) o v:=fun a w g s=>by
 obtain⟨h1,h2,d,e,⟨i,hp⟩,hq⟩:=s.hp;exact h i a w g ⟨s.os,s.tape,s.output,s.size,s.old,⟨h1,h2,d,e,hp,hq⟩⟩
end
end Sl
namespace Go.Proofs.YtejcjelmpbkcbaaGreatDoor
open Go Go.RowKit Sl Eg
set_option maxRecDepth 10000
section
variable {E:Env}{Es:List Ent}{pp tb s most:Nat}
def fmC (L:List Rl)(f:Fm):List Value:=[.int .i64 (f.id:Nat),.int .i64 (Rl.kind (rlAt L f.id):Nat),.int .u8 (Rl.byte (rlAt L f.id):Nat),.int .i64 (Rl.left (rlAt L f.id):Nat),.int .i64 (Rl.right (rlAt L f.id):Nat),.int .i64 (Rl.times (rlAt L f.id):Nat),.int .i64 (lvl L f.id),.int .i64 (f.hv:Nat)]
def eG (L:List Rl)(fs:List Fm):List Value:=fs.flatMap (fmC L)
def qXq (L:List Rl):eG L []=[]:=rfl
def kK (L:List Rl)(fs:List Fm)(f:Fm):eG L (fs++[f])=eG L fs++ .int .i64 (f.id:Nat):: .int .i64 (Rl.kind (rlAt L f.id):Nat):: .int .u8 (Rl.byte (rlAt L f.id):Nat):: .int .i64 (Rl.left (rlAt L f.id):Nat):: .int .i64 (Rl.right (rlAt L f.id):Nat):: .int .i64 (Rl.times (rlAt L f.id):Nat):: .int .i64 (lvl L f.id):: .int .i64 (f.hv:Nat)::[]:=by
 simp[eG,fmC]
def qC (L:List Rl)(fs:List Fm):(eG L fs).length=fs.length*8:=by
 induction fs with
 |nil=>rfl
 |cons f fs ih=>
  have e:(eG L (f::fs)).length=8+(eG L fs).length:=by simp[eG,fmC];omega
  rw[e,ih,av];omega
def qIn {L:List Rl}(M:List Rl){x:Nat}(h1:1≤x)(h:x≤L.length):rlAt (L++M) x=rlAt L x:=by
 unfold rlAt;rw[ak oO]
def qLt {L:List Rl}(M:List Rl){fs:List Fm}(h:∀f∈fs,1≤f.id∧f.id≤L.length):eG (L++M) fs=eG L fs:=by
 induction fs with
 |nil=>rfl
 |cons f fs ih=>
  have e:∀K,eG K (f::fs)=fmC K f++eG K fs:=fun K=>by simp[eG]
  rw[e,e,ih fun g hg=>h g (by simp[hg])]
  have hf:=h f (by simp)
  unfold fmC
  rw[qIn M hf.1 hf.2,lF M hf.2]
def qPs (hE:Seat E){r:Rl}:Ct E 272 [.agg #[.int .i64 (Rl.kind (r):Nat),.int .u8 (Rl.byte (r):Nat),.int .i64 (Rl.left (r):Nat),.int .i64 (Rl.right (r):Nat),.int .i64 (Rl.times (r):Nat)]] [] (fun v Q=>v= .int .i64 (fT r:Nat)∧Q=[]):=by
 refine bO (hE.fn Tryz.func272) O O O (fun R=>?_);simp only[dX,uV,uW];refine gg2 ?_;refine uU ?_;refine gW O (fun b1=>?_);refine gg11 ?_;refine bE O (fun h=>?_) (fun h=>?_)
 ·obtain⟨y,k,rfl⟩:∃y k,r= .power y k:=by
   cases r with
   |letter b=>simp[Rl.kind]at h
   |pair a b=>simp[Rl.kind]at h
   |power y k=>exact⟨y,k,rfl⟩
  refine gg9 ?_;exact uZ O (.tmp O .nil) ⟨O,O⟩
 have hw:fT r=2:=by
  cases r with
  |letter b=>rfl
  |pair a b=>rfl
  |power y k=>simp[Rl.kind]at h
 rw[hw];refine gg8 ?_;exact uZ O (.tmp O .nil) ⟨O,O⟩
def qPk (hE:Seat E){r:Rl}{x hv:Nat}{l:Int}{bh:Bool}(hn:∀b,r≠ .letter b):Ct E 264 [.agg #[.int .i64 (x:Nat),.int .i64 (Rl.kind (r):Nat),.int .u8 (Rl.byte (r):Nat),.int .i64 (Rl.left (r):Nat),.int .i64 (Rl.right (r):Nat),.int .i64 (Rl.times (r):Nat),.int .i64 l,.int .i64 (hv:Nat)],.bool bh] [] (fun v Q=>v= .int .i64 (iQ bh hv r:Nat)∧Q=[]):=by
 cases r with
 |letter b=>exact absurd rfl (hn b)
 |power y k=>
  refine bO (hE.fn Tryz.func264) O O O (fun R=>?_)
  simp only[dX,uV,uW]
  refine gg2 ?_
  refine uU ?_
  refine gW O (fun b2=>?_)
  refine gg11 ?_
  refine l_eq 8 (.bool false) O (by simp[Rl.kind]) ?_
  refine gg21 ?_
  refine l_eq 24 (.bool false) O (by simp[Rl.kind]) ?_
  refine gg21 ?_
  exact uZ O (.tmp O .nil) ⟨O,O⟩
 |pair a b=>
  refine bO (hE.fn Tryz.func264) O O O (fun R=>?_)
  simp only[dX,uV,uW]
  refine gg2 ?_
  refine uU ?_
  refine gW O (fun b2=>?_)
  refine gg11 ?_
  refine l_eq 8 (.bool true) O (by simp[Rl.kind]) ?_
  refine gg8 ?_
  refine eF 14 O (fun h2=>?_) (fun h2=>?_)
  ·obtain rfl:hv=2:=by omega
   refine gg7 ?_
   cases bh with
   |false=>
    refine gg11 ?_
    exact uZ O (.tmp O .nil) ⟨O,O⟩
   |true=>
    refine gg11 ?_
    refine l_eq 24 (.bool true) O (by simp[Rl.kind]) ?_
    refine gg8 ?_
    refine l_eq 30 (.bool false) O (by simp) ?_
    refine gg16 ?_
    exact uZ O (.tmp O .nil) ⟨O,O⟩
  refine gg16 ?_
  refine l_eq 24 (.bool true) O (by simp[Rl.kind]) ?_
  refine gg8 ?_
  refine eF 30 O (fun h1=>?_) (fun h1=>?_)
  ·obtain rfl:hv=1:=by omega
   refine gg5 ?_
   cases bh with
   |true=>
    refine gg11 ?_
    exact uZ O (.tmp O .nil) ⟨O,O⟩
   |false=>
    refine gg12 ?_
    exact uZ O (.tmp O .nil) ⟨O,O⟩
  have e:iQ bh hv (.pair a b)=a:=by show(if(hv=2∧bh=false)∨(hv=1∧bh=true)then b else a)=a;exact if_neg oO
  rw[e]
  refine gg16 ?_
  exact uZ O (.tmp O .nil) ⟨O,O⟩
def fmV (L:List Rl)(f:Fm):Value:= .agg #[.int .i64 (f.id:Nat),.int .i64 (Rl.kind (rlAt L f.id):Nat),.int .u8 (Rl.byte (rlAt L f.id):Nat),.int .i64 (Rl.left (rlAt L f.id):Nat),.int .i64 (Rl.right (rlAt L f.id):Nat),.int .i64 (Rl.times (rlAt L f.id):Nat),.int .i64 (lvl L f.id),.int .i64 (f.hv:Nat)]
def qHh (hE:Seat E)(hB:Base E.w0){b n c x k:Nat}{pre suf:List Value}{bt:TypeId}{p:Option Addr}{bh:Bool}(hx:1≤x)(hg:good (rls Es) x):
  Ct E 262 [.pointer (some ⟨b,pre.length,none⟩)] [cells pp [uPt s,uPt tb] 117,tabP tb s (rls Es),bR s most Es,cells b (pre++uPt pp:: .bool bh:: .slice p n c:: .int .i64 (x:Nat):: .int .u64 (k:Nat)::suf) bt] (fun v Q=>v=fmV (rls Es) ⟨x,fT (rlAt (rls Es) x)⟩∧Q=[cells pp [uPt s,uPt tb] 117,tabP tb s (rls Es),bR s most Es,cells b (pre++uPt pp:: .bool bh:: .slice p n c:: .int .i64 (x:Nat):: .int .u64 (k:Nat)::suf) bt]):=by
 obtain⟨i,rfl⟩:∃i,x=i+1:=⟨x-1,oO⟩;have hi:i<Es.length:=by have:=hg.1;rw[bQ]at this;omega
 obtain⟨en,hent⟩:∃e,Es[i]?=some e:=⟨_,ag hi⟩;have hr:rlAt (rls Es) (i+1)=en.r:=by simp[rlAt,wL hent]
 refine bO (hE.fn Tryz.func262) O O O (fun R=>?_);simp only[dX,uV,uW];refine gg2 ?_;refine uU (cZ (hE.t O) (fun b2=>?_));refine gg2 ?_;refine nM (fun q:Nat=>[(0,.pointer (some ⟨b,pre.length,none⟩)),(2,uPt b2),(3,uPt q),(4,.nilIface)]) (fun q=>[cells pp [uPt s,uPt tb] 117,tabP tb s (rls Es),bR s most Es,cells b (pre++uPt pp:: .bool bh:: .slice p n c:: .int .i64 ((i+1):Nat):: .int .u64 (k:Nat)::suf) bt,cells b2 [.int .i64 0,.int .i64 0,.int .u8 0,.int .i64 0,.int .i64 0,.int .i64 0,.int .i64 0,.int .i64 0] 389,cells q [.int .i64 (Rl.kind (en.r):Nat),.int .u8 (Rl.byte (en.r):Nat),.int .i64 (Rl.left (en.r):Nat),.int .i64 (Rl.right (en.r):Nat),.int .i64 (Rl.times (en.r):Nat)] 141,R]) (fun _=>True) ?_ ?_
 ·refine uN 15 ([cells pp [uPt s,uPt tb] 117,cells b (pre++uPt pp:: .bool bh:: .slice p n c:: .int .i64 ((i+1):Nat):: .int .u64 (k:Nat)::suf) bt]) ?_;refine gg4 ?_;refine uT 5 O (aB O) ?_;refine gg3 ?_;apply qXa 4 13 O O oK O O
  ·refine uC (jS hE) O ?_;rintro _ _⟨rfl,rfl⟩;simp only[uV,uW];refine uE ?_;apply qXa 9 13 O O oK O O
   ·refine uC (kZ hE hent) O ?_;rintro _ _⟨rfl,rfl⟩;simp only[uV,uW];refine uE ?_;refine uT 10 O (aB O) ?_;refine gg2 ?_;apply fI 13 O oK O;refine cZ (hE.t O) (fun b3=>?_);refine uE ?_;apply fI 14 O oK O;refine uSa ?_;try simp only[bP,sm_0,sm_1,sm_2,sm_3,sm_4,sm_5,sm_6,sm_7]
    refine uE ?_;apply dG 15 O oK
    ·exact aC O
    ·rfl
    refine gg1 ?_;refine fZ (ι:=Nat) b3 trivial ⟨O,O,O,O,trivial⟩ ?_;exact uI
   refine cZ (hE.t O) (fun b3=>?_);refine uE ?_;apply fI 9 O oK O;refine uC (kZ hE hent) O ?_;rintro _ _⟨rfl,rfl⟩;simp only[uV,uW];refine uE ?_;apply dG 10 O oK
   ·exact aB O
   ·rfl
   refine gg2 ?_;apply fI 14 O oK O;refine uSa ?_;try simp only[bP,sm_0,sm_1,sm_2,sm_3,sm_4,sm_5,sm_6,sm_7]
   refine uE ?_;apply dG 15 O oK
   ·exact aC O
   ·rfl
   refine gg1 ?_;refine fZ (ι:=Nat) b3 trivial ⟨O,O,O,O,trivial⟩ ?_;exact uI
  refine cZ (hE.t O) (fun b3=>?_);refine uE ?_;apply fI 4 O oK O;refine uC (jS hE) O ?_;rintro _ _⟨rfl,rfl⟩;simp only[uV,uW];refine uE ?_;apply fI 9 O oK O;refine uC (kZ hE hent) O ?_;rintro _ _⟨rfl,rfl⟩;simp only[uV,uW];refine uE ?_;apply dG 10 O oK
  ·exact aB O
  ·rfl
  refine gg2 ?_;apply fI 14 O oK O;refine uSa ?_;try simp only[bP,sm_0,sm_1,sm_2,sm_3,sm_4,sm_5,sm_6,sm_7]
  refine uE ?_;apply dG 15 O oK
  ·exact aC O
  ·rfl
  refine gg1 ?_;refine fZ (ι:=Nat) b3 trivial ⟨O,O,O,O,trivial⟩ ?_;exact uI
 rintro b3 -;refine gg1 ?_;refine uH ([cells pp [uPt s,uPt tb] 117,cells b (pre++uPt pp:: .bool bh:: .slice p n c:: .int .i64 ((i+1):Nat):: .int .u64 (k:Nat)::suf) bt]) ?_;refine gg4 ?_;refine uD 5 O (aB O) ?_;refine gg3 ?_;apply dH 4 O oK O;refine uC (qBt hE) O ?_;rintro _ _⟨rfl,rfl⟩;simp only[uV,uW];refine uE ?_;apply dH 9 O oK O;refine uC (qPn hE hB hi hg.2) O ?_;rintro _ _⟨rfl,rfl⟩;simp only[uV,uW];refine uE ?_;refine gg8 ?_;refine uH ([cells b3 [.int .i64 (Rl.kind (en.r):Nat),.int .u8 (Rl.byte (en.r):Nat),.int .i64 (Rl.left (en.r):Nat),.int .i64 (Rl.right (en.r):Nat),.int .i64 (Rl.times (en.r):Nat)] 141,cells b (pre++uPt pp:: .bool bh:: .slice p n c:: .int .i64 ((i+1):Nat):: .int .u64 (k:Nat)::suf) bt]) ?_;refine gg7 ?_;apply dH 7 O oK O;refine uC (qPs hE) O ?_;rintro _ _⟨rfl,rfl⟩;simp only[uV,uW];refine uE ?_;refine gg1 ?_;apply dH 9 O oK O;refine uSa ?_;try simp only[bP,sm_0,sm_1,sm_2,sm_3,sm_4,sm_5,sm_6,sm_7]
 refine uE ?_;refine gg3 ?_;apply cB
 ·rfl
 ·((apply Rs.cell rfl (hE.t rfl) rfl;(focus((repeat(first |rfl|assumption|exact ap_0|exact ap_1|exact ap_2|exact ap_3|exact ap_4|exact ap_5|exact ap_6|exact ap_7|constructor));done)));exact Rs.nil)
 ·exact⟨by rw[fmV,hr];rfl,rfl⟩
 exact uI
end
section
variable {E:Env}{Es:List Ent}{pp tb s most:Nat}
def Lk.short {L:List Rl}(hw:Wf L){bh:Bool}{root x:Nat}{fs:List Fm}(hs:Sig L root)(h:Lk L bh root x fs):x+fs.length≤root:=by
 induction h with
 |nil=>simp
 | @snoc x hv fs r h1 h2 h3 h4 h5 h6 ih=>
  have:=(qGy (bh:=bh) (hv:=hv) hw h2 h3 h4 (h1.ok hw hs).2.2.1).2.1
  simp only[aa,az]
  omega
def Lk.short' {L:List Rl}(hw:Wf L){bh:Bool}{root x:Nat}{fs:List Fm}(hs:Sig L root)(h:Lk L bh root x fs)(hL:L.length≤1048576):fs.length≤1048576:=by
 have:=h.short hw hs;have:=hs.le;omega
def DnPost (pp s tb most:Nat)(Es:List Ent)(b:Nat)(pre suf:List Value)(bt:TypeId)(bh:Bool)(l x:Nat)(fs:List Fm)(v:Value)(Q:List HP):Prop:=∃x' gs p' c',v= .tuple #[]∧Dn (rls Es) bh l x fs x' gs∧lvl (rls Es) x'≤(l:Nat)∧Q=[cells pp [uPt s,uPt tb] 117,tabP tb s (rls Es),bR s most Es,cells b (pre++uPt pp:: .bool bh:: .slice p' gs.length c':: .int .i64 (x':Nat):: .int .u64 ((key (rls Es) x'):Nat)::suf) bt,sl p' c' 389 8 gs.length (eG (rls Es) gs)]
structure DnG where
 x:Nat
 gs:List Fm
 p:Option Addr
 c:Nat
 b4:Nat
def qUp (hE:Seat E)(hB:Base E.w0){b c x k l root:Nat}{pre suf:List Value}{bt:TypeId}{p:Option Addr}{bh:Bool}{fs:List Fm}(hs:Sig (rls Es) root)(hk:Lk (rls Es) bh root x fs)(hll:l≤1099511627776):
  Ct E 265 [.pointer (some ⟨b,pre.length,none⟩),.int .i64 (l:Nat)] [cells pp [uPt s,uPt tb] 117,tabP tb s (rls Es),bR s most Es,cells b (pre++uPt pp:: .bool bh:: .slice p fs.length c:: .int .i64 (x:Nat):: .int .u64 (k:Nat)::suf) bt,sl p c 389 8 fs.length (eG (rls Es) fs)] (DnPost pp s tb most Es b pre suf bt bh l x fs):=by
 refine eU (p:=bR s most Es) uK (fun _ h=>dS h) (fun hsay=>?_);have hw:=hsay.1;have hL:(rls Es).length≤1048576:=by have:=hsay.2.2;rw[bQ];unfold fP at this;omega
 have hok:=hk.ok hw hs;refine bO (hE.fn Tryz.func265) O O O (fun R=>?_);simp only[dX,uV,uW];refine gg4 ?_;refine uX (qHh hE hB hok.1 ⟨hok.2.1,hok.2.2.1⟩) O ?_;rintro _ _⟨rfl,rfl⟩;simp only[ik,jq,fmV];refine uU (cZ (hE.t O) (fun b4=>?_));refine gg1 ?_;try simp only[bP,sm_0,sm_1,sm_2,sm_3,sm_4,sm_5,sm_6,sm_7]
 refine gg3 ?_;refine eQ (fun x:DnG=>[(0,.pointer (some ⟨b,pre.length,none⟩)),(1,.int .i64 (l:Nat)),(4,.pointer (some ⟨x.b4,0,none⟩))]) (fun y=>[cells pp [uPt s,uPt tb] 117,tabP tb s (rls Es),bR s most Es,cells b (pre++uPt pp:: .bool bh:: .slice y.p y.gs.length y.c:: .int .i64 (y.x:Nat):: .int .u64 (k:Nat)::suf) bt,sl y.p y.c 389 8 y.gs.length (eG (rls Es) y.gs),cells y.b4 [.int .i64 (y.x:Nat),.int .i64 (Rl.kind (rlAt (rls Es) y.x):Nat),.int .u8 (Rl.byte (rlAt (rls Es) y.x):Nat),.int .i64 (Rl.left (rlAt (rls Es) y.x):Nat),.int .i64 (Rl.right (rlAt (rls Es) y.x):Nat),.int .i64 (Rl.times (rlAt (rls Es) y.x):Nat),.int .i64 (lvl (rls Es) y.x),.int .i64 (fT (rlAt (rls Es) y.x):Nat)] 389,R]) (fun y=>y.x) (fun y=>Lk (rls Es) bh root y.x y.gs∧Dn (rls Es) bh l x fs y.x y.gs) ⟨x,fs,p,c,b4⟩ ?_ ?_ ?_ ?_
 ·exact⟨hk,.refl⟩
 ·exact⟨O,O,O,trivial⟩
 ·exact uI
 rintro⟨y,gs,p1,c1,b4⟩⟨h1,h2⟩;simp only at h1 h2 ⊢;have ok:=h1.ok hw hs;have hgl:=h1.short' hw hs hL;refine gg9 ?_;refine bE O (fun hlt=>?_) (fun hlt=>?_)
 ·have hr:(rls Es)[y-1]?=some (rlAt (rls Es) y):=by
   have e:=ag (l:=rls Es) (i:=y-1) oO;rw[e];simp[rlAt,e]
  have hn:=qGf ok.1 hr oO;have hst:=Dn.step h2 oO hr;have hlk:Lk (rls Es) bh root (iQ bh (fT (rlAt (rls Es) y)) (rlAt (rls Es) y)) (gs++[⟨y,fT (rlAt (rls Es) y)⟩]):= .snoc h1 ok.1 hr hn (by have:=qEp hw hr;omega) (ai _);have hck:=(qGy (bh:=bh) (hv:=fT (rlAt (rls Es) y)) hw ok.1 hr hn ok.2.2.1).2.1;have hcg:=hlk.ok hw hs;have hsn:=kK (rls Es) gs ⟨y,fT (rlAt (rls Es) y)⟩;simp only at hsn;refine gg5 ?_;refine uN 10 ([cells b (pre++uPt pp:: .bool bh:: .slice p1 gs.length c1:: .int .i64 (y:Nat):: .int .u64 (k:Nat)::suf) bt,cells b4 [.int .i64 (y:Nat),.int .i64 (Rl.kind (rlAt (rls Es) y):Nat),.int .u8 (Rl.byte (rlAt (rls Es) y):Nat),.int .i64 (Rl.left (rlAt (rls Es) y):Nat),.int .i64 (Rl.right (rlAt (rls Es) y):Nat),.int .i64 (Rl.times (rlAt (rls Es) y):Nat),.int .i64 (lvl (rls Es) y),.int .i64 (fT (rlAt (rls Es) y):Nat)] 389]) ?_;refine gg5 ?_;apply dG 5 O oK
  ·(apply bV rfl (hE.t rfl) rfl;(repeat(first |rfl|assumption|exact ap_0|exact ap_1|exact ap_2|exact ap_3|exact ap_4|exact ap_5|exact ap_6|exact ap_7|constructor));done)
  ·rfl
  apply fI 6 O oK O;refine aU (hE.t O) (hE.t O) O O O (fun b19=>?_);refine uE ?_;apply fI 7 O oK O;apply bU (hE.t O) (hE.t O) O O O
  ·exact uK
  ·exact uK
  ·rfl
  ·rfl
  ·omega
  ·omega
  ·(unfold maxLen;omega)
  intro g20 c20 n20 x20 hn20 hx20;refine uE ?_;apply dG 8 O oK
  ·exact bA O
  ·rfl
  apply dG 9 O oK
  ·exact uBf O
  ·rfl
  apply iH O oK oK O;refine uSa ?_;try simp only[bP,sm_0,sm_1,sm_2,sm_3,sm_4,sm_5,sm_6,sm_7]
  refine gg1 ?_;obtain rfl:x20=eG (rls Es) (gs++[⟨y,fT (rlAt (rls Es) y)⟩]):=by rw[hx20,hsn];rfl
  subst hn20;refine uN 9 ([cells b (pre++uPt pp:: .bool bh:: .slice (some ⟨g20,0,none⟩) (gs.length+1) c20:: .int .i64 (y:Nat):: .int .u64 (k:Nat)::suf) bt,cells b4 [.int .i64 (y:Nat),.int .i64 (Rl.kind (rlAt (rls Es) y):Nat),.int .u8 (Rl.byte (rlAt (rls Es) y):Nat),.int .i64 (Rl.left (rlAt (rls Es) y):Nat),.int .i64 (Rl.right (rlAt (rls Es) y):Nat),.int .i64 (Rl.times (rlAt (rls Es) y):Nat),.int .i64 (lvl (rls Es) y),.int .i64 (fT (rlAt (rls Es) y):Nat)] 389]) ?_;refine gg2 ?_;apply dG 2 O oK
  ·exact aB O
  ·rfl
  apply dG 3 O oK
  ·exact bA O
  ·rfl
  apply dG 4 O oK
  ·exact uBf O
  ·rfl
  apply dG 5 O oK
  ·(apply aO rfl (hE.t rfl) rfl;(repeat(first |rfl|assumption|exact ap_0|exact ap_1|exact ap_2|exact ap_3|exact ap_4|exact ap_5|exact ap_6|exact ap_7|constructor));done)
  ·rfl
  apply fI 6 O oK O;refine uC (qPk hE hn) O ?_;rintro _ _⟨rfl,rfl⟩;simp only[uV,uW];refine uE ?_;apply dG 7 O oK
  ·exact bA O
  ·rfl
  apply dG 8 O oK
  ·exact uBf O
  ·rfl
  apply iH O oK oK O;refine uSa ?_;try simp only[bP,sm_0,sm_1,sm_2,sm_3,sm_4,sm_5,sm_6,sm_7]
  refine gg9 ?_;refine uU (cZ (hE.t O) (fun b4=>?_));refine gg1 ?_;try simp only[bP,sm_0,sm_1,sm_2,sm_3,sm_4,sm_5,sm_6,sm_7]
  refine gg4 ?_;refine uX (qHh hE hB hcg.1 ⟨hcg.2.1,hcg.2.2.1⟩) O ?_;rintro _ _⟨rfl,rfl⟩;simp only[ik,jq,fmV];refine gg1 ?_;try simp only[bP,sm_0,sm_1,sm_2,sm_3,sm_4,sm_5,sm_6,sm_7]
  refine gg1 ?_;refine bS (ι:=DnG) (j:=⟨iQ bh (fT (rlAt (rls Es) y)) (rlAt (rls Es) y),gs++[⟨y,fT (rlAt (rls Es) y)⟩],some ⟨g20,0,none⟩,c20,b4⟩) ⟨hlk,hst⟩ hck ⟨O,O,O,trivial⟩ ?_;rw[aa,az];exact uI
 obtain⟨i,rfl⟩:∃i,y=i+1:=⟨y-1,oO⟩;have hi:i<Es.length:=by have:=ok.2.1;rw[bQ]at this;omega
 refine gg5 ?_;refine qZm (Ex (fun k=>cells b (pre++uPt pp:: .bool bh:: .slice p1 gs.length c1:: .int .i64 ((i+1):Nat):: .int .u64 (k:Nat)::suf) bt)::[cells pp [uPt s,uPt tb] 117]) ?_ ?_
 ·(apply qAe;apply ent;(repeat constructor);done)
 apply bG 0 O
 ·(apply mD;intro kx;exact aB rfl)
 ·with_reducible (repeat(first |exact aF|apply aG|apply aH))
 ·kernel_rfl
 ·rfl
 apply bG 1 O
 ·(apply mD;intro kx;exact aB rfl)
 ·with_reducible (repeat(first |exact aF|apply aG|apply aH))
 ·kernel_rfl
 ·rfl
 apply bG 2 O
 ·(apply mD;intro kx;exact bA rfl)
 ·with_reducible (repeat(first |exact aF|apply aG|apply aH))
 ·kernel_rfl
 ·rfl
 apply bG 3 O
 ·(apply mD;intro kx;exact uBf rfl)
 ·with_reducible (repeat(first |exact aF|apply aG|apply aH))
 ·kernel_rfl
 ·rfl
 apply bG 4 O
 ·(apply mD;intro kx;(apply aO rfl (hE.t rfl) rfl;(repeat(first |rfl|assumption|exact ap_0|exact ap_1|exact ap_2|exact ap_3|exact ap_4|exact ap_5|exact ap_6|exact ap_7|constructor));done))
 ·with_reducible (repeat(first |exact aF|apply aG|apply aH))
 ·kernel_rfl
 ·rfl
 apply bG 6 O
 ·(apply mD;intro kx;exact aB rfl)
 ·with_reducible (repeat(first |exact aF|apply aG|apply aH))
 ·kernel_rfl
 ·rfl
 apply bG 7 O
 ·(apply mD;intro kx;exact bA rfl)
 ·with_reducible (repeat(first |exact aF|apply aG|apply aH))
 ·kernel_rfl
 ·rfl
 apply bG 8 O
 ·(apply mD;intro kx;exact uBf rfl)
 ·with_reducible (repeat(first |exact aF|apply aG|apply aH))
 ·kernel_rfl
 ·rfl
 apply bG 9 O
 ·(apply mD;intro kx;(apply aO rfl (hE.t rfl) rfl;(repeat(first |rfl|assumption|exact ap_0|exact ap_1|exact ap_2|exact ap_3|exact ap_4|exact ap_5|exact ap_6|exact ap_7|constructor));done))
 ·with_reducible (repeat(first |exact aF|apply aG|apply aH))
 ·kernel_rfl
 ·rfl
 apply dH 5 O oK O;refine uC (qBt hE) O ?_;rintro _ _⟨rfl,rfl⟩;simp only[uV,uW];refine⟨by(apply qAe;apply ent;(repeat constructor);done),?_⟩;apply dH 10 O oK O;refine uC (qFl hE hB hi) O ?_;rintro _ _⟨rfl,rfl⟩;simp only[uV,uW];refine⟨by(apply qAe;apply ent;(repeat constructor);done),?_⟩;apply bG 11 O
 ·(apply mD;intro kx;exact aB rfl)
 ·with_reducible (repeat(first |exact aF|apply aG|apply aH))
 ·kernel_rfl
 ·rfl
 apply bG 12 O
 ·(apply mD;intro kx;exact aT rfl rfl)
 ·with_reducible (repeat(first |exact aF|apply aG|apply aH))
 ·kernel_rfl
 ·rfl
 apply bG 13 O
 ·(apply mD;intro kx;exact aT rfl rfl)
 ·with_reducible (repeat(first |exact aF|apply aG|apply aH))
 ·kernel_rfl
 ·rfl
 apply bG 14 O
 ·(apply mD;intro kx;exact bA rfl)
 ·with_reducible (repeat(first |exact aF|apply aG|apply aH))
 ·kernel_rfl
 ·rfl
 apply bG 15 O
 ·(apply mD;intro kx;exact uBf rfl)
 ·with_reducible (repeat(first |exact aF|apply aG|apply aH))
 ·kernel_rfl
 ·rfl
 apply dH 16 O oK O;refine uSa ?_;try simp only[bP,sm_0,sm_1,sm_2,sm_3,sm_4,sm_5,sm_6,sm_7]
 refine⟨by(apply qAe;apply ent;(repeat constructor);done),?_⟩;refine gg1 ?_;exact uZe O .nil ⟨i+1,gs,p1,c1,O,h2,oO,O⟩
end
section
variable {E:Env}{Es:List Ent}{pp tb s most:Nat}
def qIg {L:List Rl}{gs:List Fm}{g:Nat}:(.pointer (some ⟨g,0+(((gs.length+1:Nat):Int)-1).toNat*8,none⟩):Value)= .pointer (some ⟨g,(eG L gs).length,none⟩):=by
 rw[qC,show 0+(((gs.length+1:Nat):Int)-1).toNat*8=gs.length*8 by omega]
def qSf (hE:Seat E){b c x k lv:Nat}{pre suf:List Value}{bt:TypeId}{p:Option Addr}{bh:Bool}{q:HP}:
  Ct E 271 [.pointer (some ⟨b,pre.length,none⟩),.int .i64 (lv:Nat)] [cells b (pre++uPt pp:: .bool bh:: .slice p 0 c:: .int .i64 (x:Nat):: .int .u64 (k:Nat)::suf) bt,q] (fun v Q=>v= .pointer none∧Q=[cells b (pre++uPt pp:: .bool bh:: .slice p 0 c:: .int .i64 (x:Nat):: .int .u64 (k:Nat)::suf) bt,q]):=by
 refine bO (hE.fn Tryz.func271) O O O (fun R=>?_);simp only[dX,uV,uW];refine gg21 ?_;refine l_eq 13 (.bool false) O (by simp) ?_;refine gg23 ?_;exact uZ O (.tmp O .nil) ⟨O,O⟩
def qSg (hE:Seat E){b c x k lv g hv:Nat}{pre suf:List Value}{bt:TypeId}{bh:Bool}{gs:List Fm}{f:Fm}(hgl:gs.length≤1048576):
  Ct E 271 [.pointer (some ⟨b,pre.length,none⟩),.int .i64 (lv:Nat)] [cells b (pre++uPt pp:: .bool bh:: .slice (some ⟨g,0,none⟩) (gs.length+1) c:: .int .i64 (x:Nat):: .int .u64 (k:Nat)::suf) bt,sl (some ⟨g,0,none⟩) c 389 8 (gs.length+1) (eG (rls Es) gs++ .int .i64 (f.id:Nat):: .int .i64 (Rl.kind (rlAt (rls Es) f.id):Nat):: .int .u8 (Rl.byte (rlAt (rls Es) f.id):Nat):: .int .i64 (Rl.left (rlAt (rls Es) f.id):Nat):: .int .i64 (Rl.right (rlAt (rls Es) f.id):Nat):: .int .i64 (Rl.times (rlAt (rls Es) f.id):Nat):: .int .i64 (lvl (rls Es) f.id):: .int .i64 (hv:Nat)::[])]
   (fun v Q=>v=(if lvl (rls Es) f.id=(lv:Nat)then .pointer (some ⟨g,(eG (rls Es) gs).length,none⟩)else .pointer none)∧Q=[cells b (pre++uPt pp:: .bool bh:: .slice (some ⟨g,0,none⟩) (gs.length+1) c:: .int .i64 (x:Nat):: .int .u64 (k:Nat)::suf) bt,sl (some ⟨g,0,none⟩) c 389 8 (gs.length+1) (eG (rls Es) gs++ .int .i64 (f.id:Nat):: .int .i64 (Rl.kind (rlAt (rls Es) f.id):Nat):: .int .u8 (Rl.byte (rlAt (rls Es) f.id):Nat):: .int .i64 (Rl.left (rlAt (rls Es) f.id):Nat):: .int .i64 (Rl.right (rlAt (rls Es) f.id):Nat):: .int .i64 (Rl.times (rlAt (rls Es) f.id):Nat):: .int .i64 (lvl (rls Es) f.id):: .int .i64 (hv:Nat)::[])]):=by
 refine bO (hE.fn Tryz.func271) O O O (fun R=>?_);simp only[dX,uV,uW];refine gg21 ?_;refine l_eq 13 (.bool true) O (by simp) ?_;refine gg14 ?_;refine l_eq 20 _ O (qIg (L:=rls Es)) ?_;refine gg11 ?_;refine bE O (fun h=>?_) (fun h=>?_)
 ·skip
  refine gg9 ?_;refine l_eq 32 _ O (qIg (L:=rls Es)) ?_;refine gg5 ?_;exact uZ O (.tmp O .nil) ⟨by rw[if_pos h];rfl,rfl⟩
 refine gg8 ?_;exact uZ O (.tmp O .nil) ⟨by rw[if_neg h];rfl,rfl⟩
def ParV (L:List Rl)(p:Option Addr)(fs:List Fm)(o:Option Fm)(v:Value):Prop:=match o with
 |none=>v= .pointer none
 |some f=>∃gs g,fs=gs++[f]∧p=some ⟨g,0,none⟩∧v= .pointer (some ⟨g,(eG L gs).length,none⟩)
def nX (hE:Seat E){b c x k lv:Nat}{pre suf:List Value}{bt:TypeId}{p:Option Addr}{bh:Bool}{fs:List Fm}(hfl:fs.length≤1048576):
  Ct E 271 [.pointer (some ⟨b,pre.length,none⟩),.int .i64 (lv:Nat)] [cells b (pre++uPt pp:: .bool bh:: .slice p fs.length c:: .int .i64 (x:Nat):: .int .u64 (k:Nat)::suf) bt,sl p c 389 8 fs.length (eG (rls Es) fs)]
   (fun v Q=>(∃o,Par (rls Es) lv fs o∧ParV (rls Es) p fs o v)∧Q=[cells b (pre++uPt pp:: .bool bh:: .slice p fs.length c:: .int .i64 (x:Nat):: .int .u64 (k:Nat)::suf) bt,sl p c 389 8 fs.length (eG (rls Es) fs)]):=by
 rcases bu fs with rfl|⟨gs,f,rfl⟩
 ·intro R w hs;exact(qSf hE (q:=sl p c 389 8 0 (eG (rls Es) [])) R w hs).mono fun e w'⟨v,Q,h1,⟨h2,h3⟩,h4⟩=>⟨v,Q,h1,⟨⟨none,fun f g e=>by simp at e,h2⟩,h3⟩,h4⟩
 rw[bv]at*;rw[aa,az]at*;refine eU (p:=sl p c 389 8 (gs.length+1) (eG (rls Es) (gs++[f]))) uK (fun _ h=>fA h oO) ?_;rintro⟨g,rfl⟩;rw[kK];intro R w hs
 exact(qSg (hv:=f.hv) hE oO R w hs).mono fun e w'⟨v,Q,h1,⟨h2,h3⟩,h4⟩=>⟨v,Q,h1,⟨by
  by_cases hl:lvl (rls Es) f.id=(lv:Nat)
  ·rw[if_pos hl]at h2;exact⟨some f,⟨⟨gs,O⟩,hl⟩,gs,g,O,O,h2⟩
  rw[if_neg hl]at h2;exact⟨none,fun f' g' e=>by obtain⟨_,rfl⟩:=nC e;exact hl,h2⟩,h3⟩,h4⟩
def qRj {L:List Rl}(hw:Wf L){x:Nat}{r:Rl}(h1:1≤x)(hr:L[x-1]?=some r):fT r≤1152921504606846976:=by
 obtain⟨x,rfl⟩:∃y,x=y+1:=⟨x-1,oO⟩;rw[dw]at hr;have hk:=hw.ok x r hr;cases r with
 |letter b=>simp[fT]
 |pair a b=>simp[fT]
 |power y k=>
  have hl:=xR hr hk
  have hs:=hw.short (x+1)
  have hx:=(ae.1 hr).1
  obtain⟨k1,k2,k3⟩:=hk
  have hp:=qOb hw y k1 oO
  unfold dC at hs
  rw[hl]at hs
  have:k*1≤k*len L y:=qp k hp
  simp only[fT]
  omega
def EO.pl {L:List Rl}(hw:Wf L)(hL:L.length≤1048576){bh:Bool}{l root x:Nat}{fs:List Fm}(hs:Sig L root)(h:EO L bh l root x fs):fs.length≤1048576:=by
 rcases h.lk with⟨_,rfl⟩|⟨_,h2,_⟩
 ·simp
 exact h2.short' hw hs hL
def ct_up (hE:Seat E)(hB:Base E.w0){b c x l lv root:Nat}{pre suf:List Value}{bt:TypeId}{p:Option Addr}{bh:Bool}{fs:List Fm}(hs:Sig (rls Es) root)(he:EO (rls Es) bh l root x fs):
  Ct E 251 [.pointer (some ⟨b,pre.length,none⟩),.int .i64 (lv:Nat)] [cells pp [uPt s,uPt tb] 117,tabP tb s (rls Es),bR s most Es,cells b (pre++uPt pp:: .bool bh:: .slice p fs.length c:: .int .i64 (x:Nat):: .int .u64 ((key (rls Es) x):Nat)::suf) bt,sl p c 389 8 fs.length (eG (rls Es) fs)]
   (fun v Q=>v= .tuple #[]∧Q=[cells pp [uPt s,uPt tb] 117,tabP tb s (rls Es),bR s most Es,cells b (pre++uPt pp:: .bool bh:: .slice p (upF (rls Es) lv x fs).2.length c:: .int .i64 ((upF (rls Es) lv x fs).1:Nat):: .int .u64 ((key (rls Es) (upF (rls Es) lv x fs).1):Nat)::suf) bt,sl p c 389 8 (upF (rls Es) lv x fs).2.length (eG (rls Es) (upF (rls Es) lv x fs).2)]):=by
 refine eU (p:=bR s most Es) uK (fun _ h=>dS h) (fun hsay=>?_);have hw:=hsay.1;have hL:(rls Es).length≤1048576:=by have:=hsay.2.2;rw[bQ];unfold fP at this;omega
 have hfl:=he.pl hw hL hs;refine eU (p:=sl p c 389 8 fs.length (eG (rls Es) fs)) uK (fun _ h=>pM h) ?_;rintro⟨hcap, -, -⟩;refine bO (hE.fn Tryz.func251) O O O (fun R=>?_);simp only[dX,uV,uW];refine gg4 ?_;refine uX (nX hE hfl) O ?_;rintro v _⟨⟨o,ho,hv⟩,rfl⟩;simp only[uV,uW];refine gg3 ?_;cases o with
 |none=>
  obtain rfl:v= .pointer none:=hv
  have e:upF (rls Es) lv x fs=(x,fs):=by
   rcases bu fs with rfl|⟨gs,f,rfl⟩
   ·rfl
   rw[bv]at*;rw[mR,if_neg (fun h=>ho f gs rfl h.1)]
  rw[e]
  refine gg2 ?_
  refine uH ([]) ?_
  refine gg19 ?_
  exact uZ O .nil ⟨O,O⟩
 |some f=>
  obtain⟨gs,g,rfl,rfl,rfl⟩:=hv
  have hx:x≠0:=fun h0=>by subst h0;have:=he.zero;simp at this
  obtain⟨h1,h2,h3,h4⟩:=he.low hx
  obtain⟨r,l1,l2,l3,l4,l5,l6,ex⟩:=h2.inv
  have okf:=l1.ok hw hs
  have hwl:=qRj hw l2 l3
  have er:=iI l3
  rw[aa,az]at*
  rw[kK]
  refine gg2 ?_
  refine uH ([sl (some ⟨g,0,none⟩) c 389 8 (gs.length+1) (eG (rls Es) gs++ .int .i64 (f.id:Nat):: .int .i64 (Rl.kind (rlAt (rls Es) f.id):Nat):: .int .u8 (Rl.byte (rlAt (rls Es) f.id):Nat):: .int .i64 (Rl.left (rlAt (rls Es) f.id):Nat):: .int .i64 (Rl.right (rlAt (rls Es) f.id):Nat):: .int .i64 (Rl.times (rlAt (rls Es) f.id):Nat):: .int .i64 (lvl (rls Es) f.id):: .int .i64 (f.hv:Nat)::[])]) ?_
  refine gg11 ?_
  apply qCb 11 O O O oK O
  refine uC (qPs hE) O ?_
  rintro _ _⟨rfl,rfl⟩
  simp only[uV,uW]
  refine uE ?_
  refine gg4 ?_
  refine bE O (fun hlt=>?_) (fun hlt=>?_)
  ·have e:upF (rls Es) lv x (gs++[f])=(x,gs++[f]):=by rw[mR,if_neg (fun h=>by omega)]
   rw[e]
   simp only[aa,az]
   rw[kK]
   refine gg2 ?_
   exact uZ O .nil ⟨O,O⟩
  have e:upF (rls Es) lv x (gs++[f])=(f.id,gs):=by rw[mR,if_pos ⟨ho.2,oO⟩]
  rw[e]
  obtain⟨i,hi⟩:∃i,f.id=i+1:=⟨f.id-1,oO⟩
  have hil:i<Es.length:=by have:=okf.2.1;rw[bQ]at this;omega
  have hkc:=qFl (s:=s) (tb:=tb) (most:=most) hE hB hil
  rw[←hi]at hkc
  refine gg12 ?_
  try simp only[bP,sm_0,sm_1,sm_2,sm_3,sm_4,sm_5,sm_6,sm_7]
  refine gg3 ?_
  refine qZm (Ex (fun k=>cells b (pre++uPt pp:: .bool bh:: .slice (some ⟨g,0,none⟩) (gs.length+1) c:: .int .i64 (f.id:Nat):: .int .u64 (k:Nat)::suf) bt)::[cells pp [uPt s,uPt tb] 117]) ?_ ?_
  ·(apply qAe;apply ent;(repeat constructor);done)
  apply bG 0 O
  ·(apply mD;intro kx;exact aB rfl)
  ·with_reducible (repeat(first |exact aF|apply aG|apply aH))
  ·kernel_rfl
  ·rfl
  apply bG 1 O
  ·(apply mD;intro kx;exact aB rfl)
  ·with_reducible (repeat(first |exact aF|apply aG|apply aH))
  ·kernel_rfl
  ·rfl
  apply bG 2 O
  ·(apply mD;intro kx;exact bA rfl)
  ·with_reducible (repeat(first |exact aF|apply aG|apply aH))
  ·kernel_rfl
  ·rfl
  apply bG 3 O
  ·(apply mD;intro kx;exact uBf rfl)
  ·with_reducible (repeat(first |exact aF|apply aG|apply aH))
  ·kernel_rfl
  ·rfl
  apply bG 4 O
  ·(apply mD;intro kx;(apply aO rfl (hE.t rfl) rfl;(repeat(first |rfl|assumption|exact ap_0|exact ap_1|exact ap_2|exact ap_3|exact ap_4|exact ap_5|exact ap_6|exact ap_7|constructor));done))
  ·with_reducible (repeat(first |exact aF|apply aG|apply aH))
  ·kernel_rfl
  ·rfl
  apply bG 6 O
  ·(apply mD;intro kx;exact aB rfl)
  ·with_reducible (repeat(first |exact aF|apply aG|apply aH))
  ·kernel_rfl
  ·rfl
  apply bG 7 O
  ·(apply mD;intro kx;exact bA rfl)
  ·with_reducible (repeat(first |exact aF|apply aG|apply aH))
  ·kernel_rfl
  ·rfl
  apply bG 8 O
  ·(apply mD;intro kx;exact uBf rfl)
  ·with_reducible (repeat(first |exact aF|apply aG|apply aH))
  ·kernel_rfl
  ·rfl
  apply bG 9 O
  ·(apply mD;intro kx;(apply aO rfl (hE.t rfl) rfl;(repeat(first |rfl|assumption|exact ap_0|exact ap_1|exact ap_2|exact ap_3|exact ap_4|exact ap_5|exact ap_6|exact ap_7|constructor));done))
  ·with_reducible (repeat(first |exact aF|apply aG|apply aH))
  ·kernel_rfl
  ·rfl
  apply dH 5 O oK O
  refine uC (qBt hE) O ?_
  rintro _ _⟨rfl,rfl⟩
  simp only[uV,uW]
  refine⟨by(apply qAe;apply ent;(repeat constructor);done),?_⟩
  apply dH 10 O oK O
  refine uC (hkc) O ?_
  rintro _ _⟨rfl,rfl⟩
  simp only[uV,uW]
  refine⟨by(apply qAe;apply ent;(repeat constructor);done),?_⟩
  apply bG 11 O
  ·(apply mD;intro kx;exact aB rfl)
  ·with_reducible (repeat(first |exact aF|apply aG|apply aH))
  ·kernel_rfl
  ·rfl
  apply bG 12 O
  ·(apply mD;intro kx;exact aT rfl rfl)
  ·with_reducible (repeat(first |exact aF|apply aG|apply aH))
  ·kernel_rfl
  ·rfl
  apply bG 13 O
  ·(apply mD;intro kx;exact aT rfl rfl)
  ·with_reducible (repeat(first |exact aF|apply aG|apply aH))
  ·kernel_rfl
  ·rfl
  apply bG 14 O
  ·(apply mD;intro kx;exact bA rfl)
  ·with_reducible (repeat(first |exact aF|apply aG|apply aH))
  ·kernel_rfl
  ·rfl
  apply bG 15 O
  ·(apply mD;intro kx;exact uBf rfl)
  ·with_reducible (repeat(first |exact aF|apply aG|apply aH))
  ·kernel_rfl
  ·rfl
  apply dH 16 O oK O
  refine uSa ?_
  try simp only[bP,sm_0,sm_1,sm_2,sm_3,sm_4,sm_5,sm_6,sm_7]
  refine⟨by(apply qAe;apply ent;(repeat constructor);done),?_⟩
  refine gg14 ?_
  refine l_eq 55 (.int .i64 (gs.length:Nat)) O (bW oO) ?_
  refine uB (fU _ O O (hE.t O) O oO) ?_
  refine gg3 ?_
  try simp only[bP,sm_0,sm_1,sm_2,sm_3,sm_4,sm_5,sm_6,sm_7]
  refine gg1 ?_
  apply yM
  ·rfl
  ·(exact Rs.nil)
  ·exact⟨O,O⟩
  refine cO (cK (p:=sl (some ⟨g,0,none⟩) c 389 8 (gs.length+1) (eG (rls Es) gs++ .int .i64 (f.id:Nat):: .int .i64 (Rl.kind (rlAt (rls Es) f.id):Nat):: .int .u8 (Rl.byte (rlAt (rls Es) f.id):Nat):: .int .i64 (Rl.left (rlAt (rls Es) f.id):Nat):: .int .i64 (Rl.right (rlAt (rls Es) f.id):Nat):: .int .i64 (Rl.times (rlAt (rls Es) f.id):Nat):: .int .i64 (lvl (rls Es) f.id):: .int .i64 (f.hv:Nat)::[])) (p':=sl (some ⟨g,0,none⟩) c 389 8 gs.length (eG (rls Es) gs)) uK (nG oO (by rw[←qC (rls Es) gs,List.take_left'];rfl) (by simp))) ?_
  exact uI
end
section
variable {E:Env}{Es:List Ent}{pp tb s most:Nat}
def DpPost (pp s tb most:Nat)(Es:List Ent)(b:Nat)(pre suf:List Value)(bt:TypeId)(bh:Bool)(l t:Nat)(fs:List Fm)(v:Value)(Q:List HP):Prop:=∃x' gs p' c',v= .tuple #[]∧Dp (rls Es) bh l t fs x' gs∧Q=[cells pp [uPt s,uPt tb] 117,tabP tb s (rls Es),bR s most Es,cells b (pre++uPt pp:: .bool bh:: .slice p' gs.length c':: .int .i64 (x':Nat):: .int .u64 ((key (rls Es) x'):Nat)::suf) bt,sl p' c' 389 8 gs.length (eG (rls Es) gs)]
structure DpG where
 y:Nat
 t:Nat
 gs:List Fm
def lQ (hE:Seat E)(hB:Base E.w0){b c x k l t root:Nat}{pre suf:List Value}{bt:TypeId}{p:Option Addr}{bh:Bool}{fs:List Fm}(hs:Sig (rls Es) root)(hk:Lk (rls Es) bh root x fs)(hd:Drp (rls Es) t fs)(hll:l≤1099511627776):
  Ct E 281 [.pointer (some ⟨b,pre.length,none⟩),.int .i64 (t:Nat),.int .i64 (l:Nat)] [cells pp [uPt s,uPt tb] 117,tabP tb s (rls Es),bR s most Es,cells b (pre++uPt pp:: .bool bh:: .slice p fs.length c:: .int .i64 (x:Nat):: .int .u64 (k:Nat)::suf) bt,sl p c 389 8 fs.length (eG (rls Es) fs)] (DpPost pp s tb most Es b pre suf bt bh l t fs):=by
 refine eU (p:=bR s most Es) uK (fun _ h=>dS h) (fun hsay=>?_);have hw:=hsay.1;have hL:(rls Es).length≤1048576:=by have:=hsay.2.2;rw[bQ];unfold fP at this;omega
 refine eU (p:=sl p c 389 8 fs.length (eG (rls Es) fs)) uK (fun _ h=>pM h) ?_;rintro⟨hcap, -, -⟩;refine bO (hE.fn Tryz.func281) O O O (fun R=>?_);simp only[dX,uV,uW];refine gg7 ?_;try simp only[bP,sm_0,sm_1,sm_2,sm_3,sm_4,sm_5,sm_6,sm_7]
 refine gg3 ?_;try simp only[bP,sm_0,sm_1,sm_2,sm_3,sm_4,sm_5,sm_6,sm_7]
 refine gg13 ?_;refine eQ (fun y:DpG=>[(0,.pointer (some ⟨b,pre.length,none⟩)),(1,.int .i64 (y.t:Nat)),(2,.int .i64 (l:Nat)),(6,.int .i64 (y.gs.length:Nat))]) (fun y=>[cells pp [uPt s,uPt tb] 117,tabP tb s (rls Es),bR s most Es,cells b (pre++uPt pp:: .bool bh:: .slice p y.gs.length c:: .int .i64 (0:Nat):: .int .u64 (0:Nat)::suf) bt,sl p c 389 8 y.gs.length (eG (rls Es) y.gs),R]) (fun y=>y.gs.length) (fun y=>Lk (rls Es) bh root y.y y.gs∧Drp (rls Es) y.t y.gs∧y.gs.length≤c∧∀x' gs,Dp (rls Es) bh l y.t y.gs x' gs→Dp (rls Es) bh l t fs x' gs) ⟨x,t,fs⟩ ?_ ?_ ?_ ?_
 ·exact⟨hk,hd,hcap,fun _ _ h=>h⟩
 ·exact⟨O,O,O,O,trivial⟩
 ·exact uI
 rintro⟨y,t',gs⟩⟨h1,h2,h3,h4⟩;simp only at h1 h2 h3 h4 ⊢;have hgl:=h1.short' hw hs hL;rcases bu gs with rfl|⟨gs,f,rfl⟩
 ·refine gg7 ?_;refine bE O (fun h=>?_) (fun h=>?_)
  ·exfalso;simp at h
  refine gg4 ?_;exact uZe O .nil ⟨0,[],p,c,O,h4 0 [] .nil,O⟩
 rw[bv]at*;obtain⟨r,l1,l2,l3,l4,l5,l6,ex⟩:=h1.inv;have hwl:=qRj hw l2 l3;have er:=iI l3;have hnl:∀b,rlAt (rls Es) f.id≠ .letter b:=by rw[er];exact l4
 have hpl:=qC (rls Es) gs;obtain⟨d1,_,d2⟩:=h2;obtain⟨d3,d4⟩:=d2 gs f rfl;rw[aa,az]at*;rw[kK];have hgc:gs.length≤c:=oO;refine jG (p:=sl p c 389 8 (gs.length+1) (eG (rls Es) gs++ .int .i64 (f.id:Nat):: .int .i64 (Rl.kind (rlAt (rls Es) f.id):Nat):: .int .u8 (Rl.byte (rlAt (rls Es) f.id):Nat):: .int .i64 (Rl.left (rlAt (rls Es) f.id):Nat):: .int .i64 (Rl.right (rlAt (rls Es) f.id):Nat):: .int .i64 (Rl.times (rlAt (rls Es) f.id):Nat):: .int .i64 (lvl (rls Es) f.id):: .int .i64 (f.hv:Nat)::[])) uK (fun _ h=>fA h oO) ?_;rintro⟨g,rfl⟩;refine gg7 ?_;refine bE O (fun h=>?_) (fun h=>?_)
 ·refine gg13 ?_;refine l_eq 32 _ O (qIg (L:=rls Es)) ?_;refine gg11 ?_;refine l_eq 38 (.int .i64 ((f.hv-t':Nat):Int)) O (bW oO) ?_;refine gg3 ?_;try simp only[bP,sm_0,sm_1,sm_2,sm_3,sm_4,sm_5,sm_6,sm_7]
  refine gg12 ?_;refine bE O (fun h5=>?_) (fun h5=>?_)
  ·have hlt:t'<f.hv:=oO;have hlk:Lk (rls Es) bh root (iQ bh (f.hv-t') r) (gs++[⟨f.id,f.hv-t'⟩]):= .snoc l1 l2 l3 l4 oO oO;have hdn:=qUp (pp:=pp) (s:=s) (tb:=tb) (most:=most) (b:=b) (c:=c) (k:=0) (pre:=pre) (suf:=suf) (bt:=bt) (p:=some ⟨g,0,none⟩) hE hB hs hlk hll;rw[aa,az,kK]at hdn;simp only at hdn;refine gg1 ?_;refine uN 11 ([cells b (pre++uPt pp:: .bool bh:: .slice (some ⟨g,0,none⟩) (gs.length+1) c:: .int .i64 (0:Nat):: .int .u64 (0:Nat)::suf) bt,sl (some ⟨g,0,none⟩) c 389 8 (gs.length+1) (eG (rls Es) gs++ .int .i64 (f.id:Nat):: .int .i64 (Rl.kind (rlAt (rls Es) f.id):Nat):: .int .u8 (Rl.byte (rlAt (rls Es) f.id):Nat):: .int .i64 (Rl.left (rlAt (rls Es) f.id):Nat):: .int .i64 (Rl.right (rlAt (rls Es) f.id):Nat):: .int .i64 (Rl.times (rlAt (rls Es) f.id):Nat):: .int .i64 (lvl (rls Es) f.id):: .int .i64 ((f.hv-t'):Nat)::[])]) ?_;refine gg4 ?_;apply dG 4 O oK
   ·exact aB O
   ·rfl
   apply dG 5 O oK
   ·exact bA O
   ·rfl
   apply dG 6 O oK
   ·exact uBf O
   ·rfl
   apply dG 7 O oK
   ·(apply aO rfl (hE.t rfl) rfl;(repeat(first |rfl|assumption|exact ap_0|exact ap_1|exact ap_2|exact ap_3|exact ap_4|exact ap_5|exact ap_6|exact ap_7|constructor));done)
   ·rfl
   apply fI 8 O oK O;refine uC (qPk (r:=rlAt (rls Es) f.id) hE hnl) O ?_;rw[er];rintro _ _⟨rfl,rfl⟩;simp only[uV,uW];refine uE ?_;apply dG 9 O oK
   ·exact bA O
   ·rfl
   apply dG 10 O oK
   ·exact uBf O
   ·rfl
   apply iH O oK oK O;refine uSa ?_;try simp only[bP,sm_0,sm_1,sm_2,sm_3,sm_4,sm_5,sm_6,sm_7]
   refine gg1 ?_;rw[←er]at hdn ⊢;refine gg4 ?_;refine uX (hdn) O ?_;rintro _ _⟨x',gs',p',c',rfl,q1,q2,rfl⟩;simp only[uV,uW];refine gg8 ?_;exact uZ O .nil ⟨x',gs',p',c',O,h4 x' gs' (.last hlt q1 q2),O⟩
  refine gg11 ?_;refine l_eq 66 (.int .i64 (gs.length:Nat)) O (bW oO) ?_;refine uB (fU _ O O (hE.t O) O oO) ?_;refine gg3 ?_;try simp only[bP,sm_0,sm_1,sm_2,sm_3,sm_4,sm_5,sm_6,sm_7]
  refine gg15 ?_;have okf:=l1.ok hw hs;refine bS (ι:=DpG) (j:=⟨f.id,1,gs⟩) ⟨l1,⟨ai _,fun _=>O,fun g2 f2 e=>⟨by subst e;obtain⟨_,_,_,_,_,q,_,_⟩:=l1.inv;exact q,.inl rfl⟩⟩,hgc,fun x' gs' h=>h4 x' gs' (.pop oO h)⟩ (by show gs.length<gs.length+1;omega) ⟨rfl,rfl,rfl,rfl,trivial⟩ ?_;refine cO (cK (p:=sl (some ⟨g,0,none⟩) c 389 8 (gs.length+1) (eG (rls Es) gs++ .int .i64 (f.id:Nat):: .int .i64 (Rl.kind (rlAt (rls Es) f.id):Nat):: .int .u8 (Rl.byte (rlAt (rls Es) f.id):Nat):: .int .i64 (Rl.left (rlAt (rls Es) f.id):Nat):: .int .i64 (Rl.right (rlAt (rls Es) f.id):Nat):: .int .i64 (Rl.times (rlAt (rls Es) f.id):Nat):: .int .i64 (lvl (rls Es) f.id):: .int .i64 ((f.hv-t'):Nat)::[])) (p':=sl (some ⟨g,0,none⟩) c 389 8 gs.length (eG (rls Es) gs)) uK (nG oO (by rw[←qC (rls Es) gs,List.take_left'];rfl) (by simp))) ?_;exact uI
 exfalso;omega
end
