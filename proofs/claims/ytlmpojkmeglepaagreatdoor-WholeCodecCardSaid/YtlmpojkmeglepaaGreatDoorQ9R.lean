import Derived.Test.YtlmpojkmeglepaaGreatDoorQ75
set_option linter.all false
set_option maxHeartbeats 1000000
namespace Go.Proofs.YtlmpojkmeglepaaGreatDoor
open Go Go.RowKit Sl Eg
set_option maxRecDepth 10000
section
def qSr {L:List Rl}(hw:Wf L){u v k:Nat}(h1:lvl L u<(k:Int))(h2:lvl L v<(k:Int))(h3:1≤k)(hev:k%2=0)(hf:eH (num k) (Eg.key L u) (Eg.key L v)):aft L u v≤k:=by
 unfold aft;exact(nE (iU hw u) (iU hw v)).2 k oO hev hf
end
section
variable {E:Env}
def OrdN (A:List (List UInt8×Nat)):Prop:=∀(i:Nat)(p q:List UInt8×Nat),A[i]?=some p→A[i+1]?=some q→Op.bytesLess p.1 q.1=true
end
section
variable {E:Env}{Es:List Ent}{pp tb s most m bm:Nat}
structure Prop50 (G:List Rl)(A:List (List UInt8×Nat)):Prop where
 ok:GOk 0 G
 wf:Wf G
 names:∀p∈A,ValidN p.1∧p.2≤G.length
 ord:OrdN A
 sig:∀j,1≤j→j≤G.length→Sig G j∧lvl G j≤1048576
 vis:dD G (A.map (·.2)) []=(List.range G.length).map (· +1)
end
section
variable {E:Env}{Es:List Ent}{pp tb s most S:Nat}
def Sig.lts {L:List Rl}(hw:Wf L):∀x,Sig L x→Lts L (expd L 0 x) (txt L x):=by
 intro x;induction x using Nat.strongRecOn with
 |_ x ih=>
  intro hs
  obtain⟨i,rfl⟩:∃i,x=i+1:=⟨x-1,by have:=hs.pos;omega⟩
  have hi:=hs.le
  have h0:=hs.lv
  have hr:L[i]?=some (L[i]'oO):=ag oO
  generalize L[i]'oO=r at hr
  have hk:=hw.ok i r hr
  obtain⟨d1,_,_⟩:=hs.down2 hw hr
  cases r with
  |letter b=>
   have hl:=(fU hr).2
   rw[eO oO oO,fM hr]
   exact .snoc (ids:=[]) (bs:=[]) .nil hr
  |pair a b=>
   obtain⟨g1,g2,g3,g4,_⟩:=lJ hw (x:=i+1) oO hr h0
   have da:=d1 a (by simp[kids])
   have db:=d1 b (by simp[kids])
   have:=da.1.lv
   rw[fZ hw hr oO,iO hr hk]
   simp only[Rl.ok]at hk
   exact(ih a oO da.1).append (ih b oO db.1)
  |power y t=>
   obtain⟨g1,g2⟩:=nZ hw (x:=i+1) oO hr h0
   have dy:=d1 y (by simp[kids])
   have:=dy.1.lv
   rw[gB hw hr oO,jE hr hk]
   simp only[Rl.ok]at hk
   have hy:=ih y oO dy.1
   have rep:∀n:Nat,Lts L (List.replicate n (expd L 0 y)).flatten (List.replicate n (txt L y)).flatten:=fun n=>by
    induction n with
    |zero=>exact .nil
    |succ n ih=>rw[bn,jo,bn (a:=txt L y),jo];exact hy.append ih
   exact rep t
def Sig.rch {L:List Rl}(hw:Wf L){x:Nat}(hs:Sig L x):∀k:Nat,1≤k→(k:Int)≤lvl L x+1→Rch L (txt L x) k (expd L (k-1) x)
 |0,h,_=>by omega
 |1,_,_=> .start (hs.lts hw)
 |k+2,_,h=>by
  have hp:=hs.rch hw (k+1) oO oO;have h2:=(lG hw (l:=k+1-1) x hs.pos hs.le).2 oO;exact hp.next h2 (fun y hy=>((hs.inv (k+1) oO).ok y hy).2.1) (hs.step (k+1) oO)
def Sig.sn {L:List Rl}(hw:Wf L){x:Nat}(hs:Sig L x):Sn L (txt L x) x:=by
 have h0:=hs.lv;obtain⟨m,hm⟩:∃m:Nat,lvl L x=(m:Nat):=⟨(lvl L x).toNat,oO⟩;refine⟨.inr ⟨m+1,?_⟩,O,hs.le,h0⟩;have:=hs.rch hw (m+1) oO oO;rwa [cu,eO hs.pos oO]at this
def Ful (L:List Rl)(fs:List Fm):Prop:=∀f∈fs,f.hv=fO (rlAt L f.id)
def Ful.bb {L:List Rl}{fs:List Fm}(h:Ful L fs)(lv:Nat):BB L lv fs:=fun f hf _=>h f hf
def Ful.up {L:List Rl}{lv x:Nat}{fs:List Fm}(h:Ful L fs):Ful L (upF L lv x fs).2:=by
 rcases cz fs with rfl|⟨gs,f,rfl⟩
 ·exact h
 rw[dh]at*;rw[kT];split
 ·exact fun g hg=>h g (by simp[hg])
 exact h
def Ful.cut {L:List Rl}{fs:List Fm}{lv:Nat}(h:Ful L fs){o:Option Fm}(ho:Par L lv fs o):cutO L o=false:=by
 cases o with
 |none=>rfl
 |some f=>
  obtain⟨⟨g,rfl⟩,_⟩:=ho
  have:=h f (by simp)
  show decide _=false
  exact mo oO
def qEp (hE:Seat E)(hB:Base E.w0){l rl rr:Nat}{A B:Sd}{M:Md}(hs:Sig (rls Es) rl)(hsr:Sig (rls Es) rr)(eA:EO (rls Es) false l rl A.x A.fs)(eB:EO (rls Es) true l rr B.x B.fs)(fa:Ful (rls Es) A.fs)(fb:Ful (rls Es) B.fs)(ha:A.x≠0)(hb:B.x≠0)(hM:M.its=[])(hne:A.x≠B.x)(hodd:(l+1)%2=1)(hll:l+1<1099511627776):
  Ct E 158 [uPt S,.int .i64 ((l+1:Nat):Int)] [cells pp [uPt s,uPt tb] 97,tabP tb s (rls Es),bR s most Es,cells S [uPt pp,uPt pp,.bool false,.slice A.p A.fs.length A.c,.int .i64 (A.x:Nat),.int .u64 (key (rls Es) A.x:Nat),uPt pp,.bool true,.slice B.p B.fs.length B.c,.int .i64 (B.x:Nat),.int .u64 (key (rls Es) B.x:Nat),.slice M.p M.its.length M.c] 257,sl A.p A.c 266 8 A.fs.length (dU (rls Es) A.fs),sl B.p B.c 266 8 B.fs.length (dU (rls Es) B.fs),sl M.p M.c 278 4 M.its.length (itsC (rls Es) M.its)] (fun v Q=>v= .tuple #[]∧Q=[cells pp [uPt s,uPt tb] 97,tabP tb s (rls Es),bR s most Es,cells S [uPt pp,uPt pp,.bool false,.slice A.p A.fs.length A.c,.int .i64 (A.x:Nat),.int .u64 (key (rls Es) A.x:Nat),uPt pp,.bool true,.slice B.p B.fs.length B.c,.int .i64 (B.x:Nat),.int .u64 (key (rls Es) B.x:Nat),.slice M.p M.its.length M.c] 257,sl A.p A.c 266 8 A.fs.length (dU (rls Es) A.fs),sl B.p B.c 266 8 B.fs.length (dU (rls Es) B.fs),sl M.p M.c 278 4 M.its.length (itsC (rls Es) M.its)]):=by
 refine dX (p:=bR s most Es) uK (fun _ h=>dP h) (fun hsay=>?_);have hw:=hsay.1;have hL:(rls Es).length≤1048576:=by have:=hsay.2.2;rw[bQ];unfold eU at this;omega
 have hm0:M.its.length=0:=by rw[hM];rfl
 have hml:M.its.length≤1099511627776:=oO;have e1:fstS B M=B.x:=by unfold fstS;rw[hM]
 have e2:lstS A M=A.x:=by unfold lstS;rw[hM];rfl
 refine bO (hE.fn Tryz.func158) O O O (fun R=>?_);simp only[dR,uV,uW];refine gg4 ?_;refine uX (qAw hE) O ?_;rintro _ _⟨rfl,rfl⟩;simp only[uV,uW];rw[e1];refine gg17 ?_;refine bE O (fun h0=>?_) (fun h0=>?_);rotate_left
 ·exfalso;omega
 refine gg6 ?_;refine uX (qOj hE (b:=S) (pre:=[uPt pp]) (suf:=[uPt pp,.bool true,.slice B.p B.fs.length B.c,.int .i64 (B.x:Nat),.int .u64 (key (rls Es) B.x:Nat),.slice M.p M.its.length M.c]) (fs:=A.fs) hw hL hs eA ha hodd) O ?_;rintro _ _⟨⟨o,ho,rfl⟩,rfl⟩;simp only[uV,uW];rw[fa.cut ho];refine gg28 ?_;refine bE O (fun h4=>?_) (fun h4=>?_)
 ·exfalso;omega
 refine gg5 ?_;refine uX (qGy hE hml) O ?_;rintro _ _⟨rfl,rfl⟩;simp only[uV,uW];rw[e2];refine gg17 ?_;refine bE O (fun h5=>?_) (fun h5=>?_);rotate_left
 ·exfalso;omega
 refine gg6 ?_;refine uX (qOj hE (b:=S) (pre:=[uPt pp,uPt pp,.bool false,.slice A.p A.fs.length A.c,.int .i64 (A.x:Nat),.int .u64 (key (rls Es) A.x:Nat)]) (suf:=[.slice M.p M.its.length M.c]) (fs:=B.fs) hw hL hsr eB hb hodd) O ?_;rintro _ _⟨⟨o2,ho2,rfl⟩,rfl⟩;simp only[uV,uW];rw[fb.cut ho2];refine gg28 ?_;refine bE O (fun h6=>?_) (fun h6=>?_)
 ·exfalso;omega
 refine gg1 ?_;exact uZe O .nil ⟨O,O⟩
def qMv {L:List Rl}(hw:Wf L){bh:Bool}{l root x:Nat}{fs:List Fm}{f:Fm}(hs:Sig L root)(h:EO L bh l root x fs)(hx:x≠0)(ho:Par L (l+1) fs (some f))(hev:(l+1)%2=0)(hf:Ful L fs):f.hv=2:=by
 obtain⟨g,a,b,hfs,_,_,_,l4,_⟩:=mU hw hs h hx ho hev;have:=hf f (by rw[hfs];simp);rw[this,l4];rfl
def qEn (hE:Seat E)(hB:Base E.w0){l rl rr:Nat}{A B:Sd}{M:Md}(hs:Sig (rls Es) rl)(eA:EO (rls Es) false l rl A.x A.fs)(fa:Ful (rls Es) A.fs)(ha:A.x≠0)(hb:B.x≠0)(hM:M.its=[])(hnf:Par (rls Es) (l+1) A.fs none→¬eH (num (l+1)) (key (rls Es) A.x) (key (rls Es) B.x))(hev:(l+1)%2=0)(hll:l+1<1099511627776):
  Ct E 160 [uPt S,.int .i64 ((l+1:Nat):Int)] [cells pp [uPt s,uPt tb] 97,tabP tb s (rls Es),bR s most Es,cells S [uPt pp,uPt pp,.bool false,.slice A.p A.fs.length A.c,.int .i64 (A.x:Nat),.int .u64 (key (rls Es) A.x:Nat),uPt pp,.bool true,.slice B.p B.fs.length B.c,.int .i64 (B.x:Nat),.int .u64 (key (rls Es) B.x:Nat),.slice M.p M.its.length M.c] 257,sl A.p A.c 266 8 A.fs.length (dU (rls Es) A.fs),sl B.p B.c 266 8 B.fs.length (dU (rls Es) B.fs),sl M.p M.c 278 4 M.its.length (itsC (rls Es) M.its)] (fun v Q=>v= .tuple #[]∧Q=[cells pp [uPt s,uPt tb] 97,tabP tb s (rls Es),bR s most Es,cells S [uPt pp,uPt pp,.bool false,.slice A.p A.fs.length A.c,.int .i64 (A.x:Nat),.int .u64 (key (rls Es) A.x:Nat),uPt pp,.bool true,.slice B.p B.fs.length B.c,.int .i64 (B.x:Nat),.int .u64 (key (rls Es) B.x:Nat),.slice M.p M.its.length M.c] 257,sl A.p A.c 266 8 A.fs.length (dU (rls Es) A.fs),sl B.p B.c 266 8 B.fs.length (dU (rls Es) B.fs),sl M.p M.c 278 4 M.its.length (itsC (rls Es) M.its)]):=by
 refine dX (p:=bR s most Es) uK (fun _ h=>dP h) (fun hsay=>?_);have hw:=hsay.1;have hL:(rls Es).length≤1048576:=by have:=hsay.2.2;rw[bQ];unfold eU at this;omega
 have hm0:M.its.length=0:=by rw[hM];rfl
 have hml:M.its.length≤1099511627776:=oO;have e1:fstS B M=B.x:=by unfold fstS;rw[hM]
 have e2:lstS A M=A.x:=by unfold lstS;rw[hM];rfl
 have hfl:=eA.pl hw hL hs;refine bO (hE.fn Tryz.func160) O O O (fun R=>?_);simp only[dR,uV,uW];refine gg11 ?_;refine bE O (fun h0=>?_) (fun h0=>?_)
 ·exfalso;omega
 refine gg9 ?_;refine uX (kN hE (b:=S) (pre:=[uPt pp]) (suf:=[uPt pp,.bool true,.slice B.p B.fs.length B.c,.int .i64 (B.x:Nat),.int .u64 (key (rls Es) B.x:Nat),.slice M.p M.its.length M.c]) (fs:=A.fs) hfl) O ?_;rintro v _⟨⟨o,ho,hv⟩,rfl⟩;simp only[uV,uW];refine gg3 ?_;cases o with
 |none=>
  obtain rfl:v= .pointer none:=hv
  refine gg24 ?_
  refine uX (qAw hE) O ?_
  rintro _ _⟨rfl,rfl⟩
  simp only[uV,uW]
  rw[e1]
  refine gg12 ?_
  refine dS 36 O (fun h3=>?_) (fun h3=>?_)
  ·exfalso;omega
  refine gg15 ?_
  refine uX (qBx hE oO hev hll) O ?_
  rintro _ _⟨⟨d,rfl,hd⟩,rfl⟩
  simp only[uV,uW]
  refine gg5 ?_
  cases d with
  |false=>
   refine gg3 ?_
   exact uZ O .nil ⟨O,O⟩
  |true=>exact absurd (hd.1 rfl) (hnf ho)
 |some f=>
  have hf2:=qMv hw hs eA ha ho hev fa
  obtain⟨gs,g,hfs,hp,rfl⟩:=hv
  have f7:(dU (rls Es) A.fs)[(dU (rls Es) gs).length+7]?=some (.int .i64 (f.hv:Nat)):=by rw[hfs];exact tK
  rw[hp]
  refine gg18 ?_
  refine bE O (fun h2=>?_) (fun h2=>?_)
  ·refine gg2 ?_
   exact uZ O .nil ⟨O,O⟩
  exfalso;omega
def qBy (hE:Seat E)(hB:Base E.w0){l rl rr:Nat}{A B:Sd}{M:Md}(hs:Sig (rls Es) rr)(eB:EO (rls Es) true l rr B.x B.fs)(fb:Ful (rls Es) B.fs)(ha:A.x≠0)(hb:B.x≠0)(hM:M.its=[])(hnf:¬eH (num (l+1)) (key (rls Es) A.x) (key (rls Es) B.x))(hev:(l+1)%2=0)(hll:l+1<1099511627776):
  Ct E 162 [uPt S,.int .i64 ((l+1:Nat):Int)] [cells pp [uPt s,uPt tb] 97,tabP tb s (rls Es),bR s most Es,cells S [uPt pp,uPt pp,.bool false,.slice A.p A.fs.length A.c,.int .i64 (A.x:Nat),.int .u64 (key (rls Es) A.x:Nat),uPt pp,.bool true,.slice B.p B.fs.length B.c,.int .i64 (B.x:Nat),.int .u64 (key (rls Es) B.x:Nat),.slice M.p M.its.length M.c] 257,sl A.p A.c 266 8 A.fs.length (dU (rls Es) A.fs),sl B.p B.c 266 8 B.fs.length (dU (rls Es) B.fs),sl M.p M.c 278 4 M.its.length (itsC (rls Es) M.its)] (fun v Q=>v= .tuple #[]∧Q=[cells pp [uPt s,uPt tb] 97,tabP tb s (rls Es),bR s most Es,cells S [uPt pp,uPt pp,.bool false,.slice A.p A.fs.length A.c,.int .i64 (A.x:Nat),.int .u64 (key (rls Es) A.x:Nat),uPt pp,.bool true,.slice B.p B.fs.length B.c,.int .i64 (B.x:Nat),.int .u64 (key (rls Es) B.x:Nat),.slice M.p M.its.length M.c] 257,sl A.p A.c 266 8 A.fs.length (dU (rls Es) A.fs),sl B.p B.c 266 8 B.fs.length (dU (rls Es) B.fs),sl M.p M.c 278 4 M.its.length (itsC (rls Es) M.its)]):=by
 refine dX (p:=bR s most Es) uK (fun _ h=>dP h) (fun hsay=>?_);have hw:=hsay.1;have hL:(rls Es).length≤1048576:=by have:=hsay.2.2;rw[bQ];unfold eU at this;omega
 have hm0:M.its.length=0:=by rw[hM];rfl
 have hml:M.its.length≤1099511627776:=oO;have e1:fstS B M=B.x:=by unfold fstS;rw[hM]
 have e2:lstS A M=A.x:=by unfold lstS;rw[hM];rfl
 have hfl:=eB.pl hw hL hs;refine bO (hE.fn Tryz.func162) O O O (fun R=>?_);simp only[dR,uV,uW];refine gg11 ?_;refine bE O (fun h0=>?_) (fun h0=>?_)
 ·exfalso;omega
 refine gg9 ?_;refine uX (kN hE (b:=S) (pre:=[uPt pp,uPt pp,.bool false,.slice A.p A.fs.length A.c,.int .i64 (A.x:Nat),.int .u64 (key (rls Es) A.x:Nat)]) (suf:=[.slice M.p M.its.length M.c]) (fs:=B.fs) hfl) O ?_;rintro v _⟨⟨o,ho,hv⟩,rfl⟩;simp only[uV,uW];refine gg3 ?_;cases o with
 |none=>
  obtain rfl:v= .pointer none:=hv
  refine gg24 ?_
  refine uX (qGy hE hml) O ?_
  rintro _ _⟨rfl,rfl⟩
  simp only[uV,uW]
  rw[e2]
  refine gg12 ?_
  refine dS 36 O (fun h3=>?_) (fun h3=>?_)
  ·exfalso;omega
  refine gg15 ?_
  refine uX (qBx hE oO hev hll) O ?_
  rintro _ _⟨⟨d,rfl,hd⟩,rfl⟩
  simp only[uV,uW]
  refine gg5 ?_
  cases d with
  |false=>
   refine gg3 ?_
   exact uZ O .nil ⟨O,O⟩
  |true=>exact absurd (hd.1 rfl) hnf
 |some f=>
  have hf2:=qMv hw hs eB hb ho hev fb
  obtain⟨gs,g,hfs,hp,rfl⟩:=hv
  have f7:(dU (rls Es) B.fs)[(dU (rls Es) gs).length+7]?=some (.int .i64 (f.hv:Nat)):=by rw[hfs];exact tK
  rw[hp]
  refine gg18 ?_
  refine bE O (fun h2=>?_) (fun h2=>?_)
  ·refine gg2 ?_
   exact uZ O .nil ⟨O,O⟩
  exfalso;omega
def yR (hE:Seat E)(hB:Base E.w0){l rl rr:Nat}{A B:Sd}{M:Md}(hs:Sig (rls Es) rr)(eB:EO (rls Es) true l rr B.x B.fs)(fb:Ful (rls Es) B.fs)(hb:B.x≠0)(hM:M.its=[])(hev:(l+1)%2=0)(hll:l+1<1000000000000):
  Ct E 161 [uPt S,.int .i64 ((l+1:Nat):Int)] [cells pp [uPt s,uPt tb] 97,tabP tb s (rls Es),bR s most Es,cells S [uPt pp,uPt pp,.bool false,.slice A.p A.fs.length A.c,.int .i64 (A.x:Nat),.int .u64 (key (rls Es) A.x:Nat),uPt pp,.bool true,.slice B.p B.fs.length B.c,.int .i64 (B.x:Nat),.int .u64 (key (rls Es) B.x:Nat),.slice M.p M.its.length M.c] 257,sl A.p A.c 266 8 A.fs.length (dU (rls Es) A.fs),sl B.p B.c 266 8 B.fs.length (dU (rls Es) B.fs),sl M.p M.c 278 4 M.its.length (itsC (rls Es) M.its)] (fun v Q=>v= .tuple #[]∧Q=[cells pp [uPt s,uPt tb] 97,tabP tb s (rls Es),bR s most Es,cells S [uPt pp,uPt pp,.bool false,.slice A.p A.fs.length A.c,.int .i64 (A.x:Nat),.int .u64 (key (rls Es) A.x:Nat),uPt pp,.bool true,.slice B.p B.fs.length B.c,.int .i64 (B.x:Nat),.int .u64 (key (rls Es) B.x:Nat),.slice M.p M.its.length M.c] 257,sl A.p A.c 266 8 A.fs.length (dU (rls Es) A.fs),sl B.p B.c 266 8 B.fs.length (dU (rls Es) B.fs),sl M.p M.c 278 4 M.its.length (itsC (rls Es) M.its)]):=by
 refine dX (p:=bR s most Es) uK (fun _ h=>dP h) (fun hsay=>?_);have hw:=hsay.1;have hL:(rls Es).length≤1048576:=by have:=hsay.2.2;rw[bQ];unfold eU at this;omega
 have hm0:M.its.length=0:=by rw[hM];rfl
 have hml:M.its.length≤1099511627776:=oO;have e1:fstS B M=B.x:=by unfold fstS;rw[hM]
 have e2:lstS A M=A.x:=by unfold lstS;rw[hM];rfl
 have hfl0:=eB.pl hw hL hs;refine bO (hE.fn Tryz.func161) O O O (fun R=>?_);simp only[dR,uV,uW];refine gg11 ?_;refine bE O (fun h0=>?_) (fun h0=>?_)
 ·exfalso;omega
 refine gg19 ?_;refine uX (kN hE (b:=S) (pre:=[uPt pp,uPt pp,.bool false,.slice A.p A.fs.length A.c,.int .i64 (A.x:Nat),.int .u64 (key (rls Es) A.x:Nat)]) (suf:=[.slice M.p M.its.length M.c]) (fs:=B.fs) hfl0) O ?_;rintro v _⟨⟨o,ho,hv⟩,rfl⟩;simp only[uV,uW];refine gg3 ?_;cases o with
 |none=>
  obtain rfl:v= .pointer none:=hv
  refine gg29 ?_
  refine dS 42 O (fun h4=>?_) (fun h4=>?_)
  rotate_left
  ·exfalso;omega
  refine gg17 ?_
  exact uZ O .nil ⟨O,O⟩
 |some f=>
  have hf2:=qMv hw hs eB hb ho hev fb
  obtain⟨gs,g,hfs,hp,rfl⟩:=hv
  have f7:(dU (rls Es) B.fs)[(dU (rls Es) gs).length+7]?=some (.int .i64 (f.hv:Nat)):=by rw[hfs];exact tK
  rw[hp]
  refine gg18 ?_
  refine bE O (fun h2=>?_) (fun h2=>?_)
  rotate_left
  ·exfalso;omega
  refine gg15 ?_
  refine dS 42 O (fun h4=>?_) (fun h4=>?_)
  rotate_left
  ·exfalso;omega
  refine gg17 ?_
  exact uZ O .nil ⟨O,O⟩
structure Calm (L:List Rl)(l:Nat)(A B:Sd):Prop where
 fa:Ful L A.fs
 fb:Ful L B.fs
 ha:A.x≠0
 hb:B.x≠0
 ne:(l+1)%2=1→A.x≠B.x
 nl:(l+1)%2=0→Par L (l+1) A.fs none→¬eH (num (l+1)) (key L A.x) (key L B.x)
 nr:(l+1)%2=0→num (l+1)≠122→¬eH (num (l+1)) (key L A.x) (key L B.x)
def qFc (hE:Seat E)(hB:Base E.w0){l rl rr:Nat}{A B:Sd}{M:Md}(hs:Sig (rls Es) rl)(hsr:Sig (rls Es) rr)(eA:EO (rls Es) false l rl A.x A.fs)(eB:EO (rls Es) true l rr B.x B.fs)(hM:M.its=[])(hc:Calm (rls Es) l A B)(hll:l+1<1000000000000)(h1l:1≤l+1):
  Ct E 145 [uPt S,.int .i64 ((l+1:Nat):Int)] [cells pp [uPt s,uPt tb] 97,tabP tb s (rls Es),bR s most Es,cells S [uPt pp,uPt pp,.bool false,.slice A.p A.fs.length A.c,.int .i64 (A.x:Nat),.int .u64 (key (rls Es) A.x:Nat),uPt pp,.bool true,.slice B.p B.fs.length B.c,.int .i64 (B.x:Nat),.int .u64 (key (rls Es) B.x:Nat),.slice M.p M.its.length M.c] 257,sl A.p A.c 266 8 A.fs.length (dU (rls Es) A.fs),sl B.p B.c 266 8 B.fs.length (dU (rls Es) B.fs),sl M.p M.c 278 4 M.its.length (itsC (rls Es) M.its)] (fun v Q=>v= .tuple #[]∧Q=[cells pp [uPt s,uPt tb] 97,tabP tb s (rls Es),bR s most Es,cells S [uPt pp,uPt pp,.bool false,.slice A.p A.fs.length A.c,.int .i64 (A.x:Nat),.int .u64 (key (rls Es) A.x:Nat),uPt pp,.bool true,.slice B.p B.fs.length B.c,.int .i64 (B.x:Nat),.int .u64 (key (rls Es) B.x:Nat),.slice M.p M.its.length M.c] 257,sl A.p A.c 266 8 A.fs.length (dU (rls Es) A.fs),sl B.p B.c 266 8 B.fs.length (dU (rls Es) B.fs),sl M.p M.c 278 4 M.its.length (itsC (rls Es) M.its)]):=by
 obtain⟨fa,fb,ha,hb,ne,nl,nr⟩:=hc;refine bO (hE.fn Tryz.func145) O O O (fun R=>?_);simp only[dR,uV,uW];refine gg8 ?_;refine bE O (fun h0=>?_) (fun h0=>?_)
 ·have hodd:(l+1)%2=1:=oO;refine gg4 ?_;refine uX (qEp hE hB (S:=S) hs hsr eA eB fa fb ha hb hM (ne hodd) hodd oO) O ?_;rintro _ _⟨rfl,rfl⟩;simp only[uV,uW];refine gg4 ?_;exact uZ O .nil ⟨O,O⟩
 have hev:(l+1)%2=0:=oO;have h2l:2≤l+1:=oO;have hlt:l+1<1099511627776:=oO;refine gg5 ?_;refine uX (xB hE h2l hev hlt) O ?_;rintro _ _⟨⟨q1,q2,d,rfl,hd⟩,rfl⟩;simp only[uV,uW];refine gg13 ?_;refine uX (qEn hE hB (S:=S) (rr:=rr) hs eA fa ha hb hM (nl hev) hev hlt) O ?_;rintro _ _⟨rfl,rfl⟩;simp only[uV,uW];refine gg7 ?_;cases d with
 |true=>
  refine gg4 ?_
  refine uX (yR hE hB (S:=S) (rl:=rl) hsr eB fb hb hM hev hll) O ?_
  rintro _ _⟨rfl,rfl⟩
  simp only[uV,uW]
  refine gg1 ?_
  exact uZe O .nil ⟨O,O⟩
 |false=>
  have hn:num (l+1)≠122:=fun h=>by have:=hd.2 h;cases this
  refine gg4 ?_
  refine uX (qBy hE hB (S:=S) (rl:=rl) hsr eB fb ha hb hM (nr hev hn) hev hlt) O ?_
  rintro _ _⟨rfl,rfl⟩
  simp only[uV,uW]
  refine gg1 ?_
  exact uZe O .nil ⟨O,O⟩
end
section
variable {E:Env}{Es:List Ent}{pp tb s most S:Nat}
structure ClI (L:List Rl)(a b:Nat)(q:ApG):Prop where
 ea:EO L false q.l a q.A.x q.A.fs
 eb:EO L true q.l b q.B.x q.B.fs
 ra:seqE L false q.l q.A.x q.A.fs=expd L q.l a
 rb:seqE L true q.l q.B.x q.B.fs=expd L q.l b
 fa:Ful L q.A.fs
 fb:Ful L q.B.fs
 ha:q.A.x≠0
 hb:q.B.x≠0
 em:q.C.its=[]
def ClI.last {L:List Rl}{a b l:Nat}{A B:Sd}{C:Md}(h:ClI L a b ⟨l,A,B,C⟩):(expd L l a).getLast?=some A.x∧(expd L l b).head?=some B.x:=by
 have h1:=h.ra;have h2:=h.rb;simp only at h1 h2;exact⟨by rw[←h1];exact h.ea.last h.ha,by rw[←h2];exact h.eb.head h.hb⟩
def ClI.next {L:List Rl}(hw:Wf L){a b l:Nat}{A B:Sd}{C C':Md}(sa:Sig L a)(sb:Sig L b)(h:ClI L a b ⟨l,A,B,C⟩)(hC:C'.its=[]):ClI L a b ⟨l+1,upS L (l+1) A,upS L (l+1) B,C'⟩:=by
 have h1:=h.ea.up hw sa (h.fa.bb _);have h2:=h.eb.up hw sb (h.fb.bb _);have ra:=h.ra;have rb:=h.rb;simp only at ra rb h1 h2;rw[ra]at h1;rw[rb]at h2;have s1:=sa.step (l+1) oO;have s2:=sb.step (l+1) oO;rw[cu]at s1 s2;refine⟨h1.1,h2.1,h1.2.fn hw s1,h2.2.fn hw s2,h.fa.up,h.fb.up,?_,?_,hC⟩
 ·exact up_ne (h.ea.ids hw sa).2 h.ha
 exact up_ne (h.eb.ids hw sb).2 h.hb
def qNf {L:List Rl}{lv x:Nat}{fs:List Fm}(h:Par L lv fs none):upF L lv x fs=(x,fs):=by
 rcases cz fs with rfl|⟨gs,f,rfl⟩
 ·rfl
 rw[dh]at*;rw[kT,if_neg];intro hc;exact h f gs O hc.1
def ClI.calm {L:List Rl}(hw:Wf L){a b l:Nat}{A B:Sd}{C:Md}(sa:Sig L a)(sb:Sig L b)(h:ClI L a b ⟨l,A,B,C⟩)(hb:Bdry L (l+1) (expd L l a) (expd L (l+1) a) (expd L l b)):Calm L l A B:=by
 obtain⟨q1,q2⟩:=h.last;have hbd:=hb A.x B.x q1 q2
 have hlast:Par L (l+1) A.fs none→(expd L (l+1) a).getLast?=some A.x:=fun hp=>by
  have hn:=h.next hw sa sb (C':=⟨[],none,0⟩) O;have:=hn.last.1;have e:(upS L (l+1) A).x=A.x:=by unfold upS;rw[qNf hp]
  rwa [e]at this
 refine⟨h.fa,h.fb,h.ha,h.hb,fun ho=>?_,fun he hp=>?_,fun he hn=>?_⟩
 ·rwa [if_pos ho]at hbd
 ·rw[if_neg oO]at hbd;exact hbd (hlast hp)
 rw[if_neg oO]at hbd;intro hf;have hq:=sa.step (l+1) oO;unfold Sq at hq;rw[if_neg oO,cu]at hq;rcases qKo hq q1 with hl|⟨z,hz⟩
 ·exact hbd hl hf
 exact qHu hn hz hf
def ClI.calm2 {L:List Rl}(hw:Wf L){a b l:Nat}{A B:Sd}{C:Md}(sa:Sig L a)(sb:Sig L b)(hab:a≠b)(h:ClI L a b ⟨l,A,B,C⟩)(h1:lvl L a≤(l:Nat))(h2:lvl L b≤(l:Nat))(h3:l+1<aft L a b):Calm L l A B:=by
 obtain⟨q1,q2⟩:=h.last;rw[eO sa.pos h1]at q1;rw[eO sb.pos h2]at q2;have e1:a=A.x:=by simpa using q1
 have e2:b=B.x:=by simpa using q2
 have hnf:(l+1)%2=0→¬eH (num (l+1)) (key L A.x) (key L B.x):=fun he hf=>by
  rw[←e1,←e2]at hf;have:=qSr hw (u:=a) (v:=b) (k:=l+1) oO oO oO he hf;omega
 exact⟨h.fa,h.fb,h.ha,h.hb,fun _ e=>hab (by rw[e1,e2,e]),fun he _=>hnf he,fun he _=>hnf he⟩
def qTp (hE:Seat E)(hB:Base E.w0){l a b:Nat}{A B:Sd}{M:Md}(sa:Sig (rls Es) a)(sb:Sig (rls Es) b)(ea:EO (rls Es) false l a A.x A.fs)(eb:EO (rls Es) true l b B.x B.fs)(hM:M.its=[])(hll:l+1<1000000000000):
  Ct E 167 [uPt S,.int .i64 ((l+1:Nat):Int)] [cells pp [uPt s,uPt tb] 97,tabP tb s (rls Es),bR s most Es,cells S [uPt pp,uPt pp,.bool false,.slice A.p A.fs.length A.c,.int .i64 (A.x:Nat),.int .u64 (key (rls Es) A.x:Nat),uPt pp,.bool true,.slice B.p B.fs.length B.c,.int .i64 (B.x:Nat),.int .u64 (key (rls Es) B.x:Nat),.slice M.p M.its.length M.c] 257,sl A.p A.c 266 8 A.fs.length (dU (rls Es) A.fs),sl B.p B.c 266 8 B.fs.length (dU (rls Es) B.fs),sl M.p M.c 278 4 M.its.length (itsC (rls Es) M.its)]
   (fun v Q=>∃M':Md,v= .nilIface∧M'.its=[]∧Q=[cells pp [uPt s,uPt tb] 97,tabP tb s (rls Es),bR s most Es,cells S [uPt pp,uPt pp,.bool false,.slice (upS (rls Es) (l+1) A).p (upS (rls Es) (l+1) A).fs.length (upS (rls Es) (l+1) A).c,.int .i64 ((upS (rls Es) (l+1) A).x:Nat),.int .u64 (key (rls Es) (upS (rls Es) (l+1) A).x:Nat),uPt pp,.bool true,.slice (upS (rls Es) (l+1) B).p (upS (rls Es) (l+1) B).fs.length (upS (rls Es) (l+1) B).c,.int .i64 ((upS (rls Es) (l+1) B).x:Nat),.int .u64 (key (rls Es) (upS (rls Es) (l+1) B).x:Nat),.slice M'.p M'.its.length M'.c] 257,sl (upS (rls Es) (l+1) A).p (upS (rls Es) (l+1) A).c 266 8 (upS (rls Es) (l+1) A).fs.length (dU (rls Es) (upS (rls Es) (l+1) A).fs),sl (upS (rls Es) (l+1) B).p (upS (rls Es) (l+1) B).c 266 8 (upS (rls Es) (l+1) B).fs.length (dU (rls Es) (upS (rls Es) (l+1) B).fs),sl M'.p M'.c 278 4 M'.its.length (itsC (rls Es) M'.its)]):=by
 refine dX (p:=bR s most Es) uK (fun _ h=>dP h) (fun hsay=>?_);have hf0:dQ M.its=[]:=by rw[hM];rfl
 have hR:∀x∈dQ M.its,1≤x∧x≤(rls Es).length:=fun x hx=>by rw[hf0]at hx;simp at hx
 have hadj:∀P x y R,dQ M.its=P++[x,y]++R→len (rls Es) x+len (rls Es) y≤dC:=fun P x y R e=>by rw[hf0]at e;simp at e
 have hrun:∀P x t R,dQ M.its=P++List.replicate t x++R→len (rls Es) x*t≤dC:=fun P x t R e=>by
  rw[hf0]at e
  have:t=0:=by
   have:=bg List.length e;simp at this;omega
  subst this;simp
 have hfl:(dQ M.its).length=0:=by rw[hf0];rfl
 have hfl9:(dQ M.its).length≤1000000000:=oO;have hrm:Es.length+(dQ M.its).length≤most:=by have:=hsay.2.2.2;omega
 have hsg:Sng M.its:=fun it h=>by rw[hM]at h;simp at h
 have hone:∀it∈M.its,it.times=1:=fun it h=>by rw[hM]at h;simp at h
 have hit:ItT (rls Es) M.its:=fun it h=>by rw[hM]at h;simp at h
 refine bO (hE.fn Tryz.func167) O O O (fun R=>?_);simp only[dR,uV,uW];refine gg10 ?_;refine kZ (fun q:Md=>[(0,uPt S),(1,.int .i64 ((l+1:Nat):Int)),(5,.nilIface)]) (fun q=>[cells pp [uPt s,uPt tb] 97,tabP tb s (rls Es),bR s most Es,cells S [uPt pp,uPt pp,.bool false,.slice A.p A.fs.length A.c,.int .i64 (A.x:Nat),.int .u64 (key (rls Es) A.x:Nat),uPt pp,.bool true,.slice B.p B.fs.length B.c,.int .i64 (B.x:Nat),.int .u64 (key (rls Es) B.x:Nat),.slice q.p q.its.length q.c] 257,sl A.p A.c 266 8 A.fs.length (dU (rls Es) A.fs),sl B.p B.c 266 8 B.fs.length (dU (rls Es) B.fs),sl q.p q.c 278 4 q.its.length (itsC (rls Es) q.its),R]) (fun q=>q.its=[]) ?_ ?_
 ·refine gg7 ?_;refine bE O (fun h0=>?_) (fun h0=>?_)
  ·refine gg3 ?_;refine uX (qAe hE hB (pp:=pp) (S:=S) (cs:=[uPt pp,uPt pp,.bool false,.slice A.p A.fs.length A.c,.int .i64 (A.x:Nat),.int .u64 (key (rls Es) A.x:Nat),uPt pp,.bool true,.slice B.p B.fs.length B.c,.int .i64 (B.x:Nat),.int .u64 (key (rls Es) B.x:Nat),.slice M.p M.its.length M.c]) (its:=M.its) (p:=M.p) (c:=M.c) O O hsg hfl9 hR hrun hrm) O ?_;rintro _ _⟨N,out,p',c',rfl,hN,hN2,hrg,rfl⟩;obtain rfl:N=[]:=az oO;obtain rfl:out=[]:=az oO;simp only[aj];simp only[uV,uW];refine gg8 ?_;refine fC (ι:=Md) ⟨[],p',c'⟩ O ⟨O,O,O,trivial⟩ ?_;exact uI
  have hev:(l+1)%2=0:=oO;have h2l:2≤l+1:=oO;have hlt:l+1<1099511627776:=oO;refine gg3 ?_;refine uX (xB hE h2l hev hlt) O ?_;rintro _ _⟨⟨q1,q2,d,rfl,hd⟩,rfl⟩;simp only[uV,uW];refine gg14 ?_;cases d with
  |true=>
   refine gg4 ?_
   refine uX (qI hE hB (pp:=pp) (S:=S) (cs:=[uPt pp,uPt pp,.bool false,.slice A.p A.fs.length A.c,.int .i64 (A.x:Nat),.int .u64 (key (rls Es) A.x:Nat),uPt pp,.bool true,.slice B.p B.fs.length B.c,.int .i64 (B.x:Nat),.int .u64 (key (rls Es) B.x:Nat),.slice M.p M.its.length M.c]) (its:=M.its) (p:=M.p) (c:=M.c) O O hit hfl9 hR hadj hrm) O ?_
   rintro _ _⟨N,l2,p',c',rfl,hN,hpg,hsn,rfl⟩
   obtain rfl:N=[]:=az oO
   obtain rfl:l2=[]:=qFr hsn (az oO)
   simp only[aj]
   simp only[uV,uW]
   refine gg8 ?_
   refine fC (ι:=Md) ⟨[],p',c'⟩ O ⟨O,O,O,trivial⟩ ?_
   exact uI
  |false=>
   refine gg5 ?_
   refine uX (xA hE hB (pp:=pp) (S:=S) (cs:=[uPt pp,uPt pp,.bool false,.slice A.p A.fs.length A.c,.int .i64 (A.x:Nat),.int .u64 (key (rls Es) A.x:Nat),uPt pp,.bool true,.slice B.p B.fs.length B.c,.int .i64 (B.x:Nat),.int .u64 (key (rls Es) B.x:Nat),.slice M.p M.its.length M.c]) (its:=M.its) (p:=M.p) (c:=M.c) O O hsg hone hfl9 hR hadj hrm h2l hev hlt) O ?_
   rintro _ _⟨N,l2,p',c',rfl,hN,hpg,hsn,rfl⟩
   obtain rfl:N=[]:=az oO
   obtain rfl:l2=[]:=qFr hsn (az oO)
   simp only[aj]
   simp only[uV,uW]
   refine gg8 ?_
   refine fC (ι:=Md) ⟨[],p',c'⟩ O ⟨O,O,O,trivial⟩ ?_
   exact uI
 rintro M' hM';refine gg6 ?_;refine uX (qMm hE hB (Es:=Es) (b:=S) (pre:=[uPt pp]) (suf:=[uPt pp,.bool true,.slice B.p B.fs.length B.c,.int .i64 (B.x:Nat),.int .u64 (key (rls Es) B.x:Nat),.slice M'.p M'.its.length M'.c]) (fs:=A.fs) sa ea) O ?_;rintro _ _⟨rfl,rfl⟩;simp only[uV,uW];refine gg8 ?_;refine uX (qMm hE hB (Es:=Es) (b:=S) (pre:=[uPt pp,uPt pp,.bool false,.slice (upS (rls Es) (l+1) A).p (upS (rls Es) (l+1) A).fs.length (upS (rls Es) (l+1) A).c,.int .i64 ((upS (rls Es) (l+1) A).x:Nat),.int .u64 (key (rls Es) (upS (rls Es) (l+1) A).x:Nat)]) (suf:=[.slice M'.p M'.its.length M'.c]) (fs:=B.fs) sb eb) O ?_;rintro _ _⟨rfl,rfl⟩;simp only[uV,uW];refine gg9 ?_;exact uZ O (.tmp O .nil) ⟨M',O,hM',O⟩
end
section
variable {E:Env}{Es:List Ent}{pp tb s most:Nat}

def Sig.short {L:List Rl}(hw:Wf L){x:Nat}(h:Sig L x):lvl L x≤25544:=(h.sn hw).lv hw (hw.short x)
def ClI.spi {L:List Rl}(hw:Wf L){i a b l:Nat}{A B:Sd}{C:Md}(hr:L[i]?=some (.pair a b))(hs:Sig L (i+1))(sa:Sig L a)(sb:Sig L b)(h:ClI L a b ⟨l,A,B,C⟩)(hl:lvl L (i+1)=((l+1:Nat):Int)):SpI L (txt L (i+1)) l a b A B C∧rowS L l A B C=[a,b]:=by
 obtain⟨g1,g2,g3,g4,_⟩:=lJ hw (x:=i+1) oO hr hs.lv;have ra:=h.ra;have rb:=h.rb;have em:=h.em;simp only at ra rb em
 have e1:expd L l (i+1)=[a,b]:=by
  rw[fZ hw hr oO,eO sa.pos oO,eO sb.pos oO];rfl
 have hrow:rowS L l A B C=[a,b]:=by
  unfold rowS;rw[ra,rb,em,qKi,fu,eO sa.pos oO,eO sb.pos oO];rfl
 have hc:=hs.rch hw (l+1) oO oO;rw[cu,e1]at hc;refine⟨⟨sa,sb,h.ea,h.eb,by rw[hrow];exact hc,?_,fun it hi=>by rw[em]at hi;simp at hi,fun _ it hi=>by rw[em]at hi;simp at hi,fun _=>⟨h.ha,h.hb⟩⟩,hrow⟩;rw[hrow];have hk:=hw.ok _ _ hr;rw[iO hr hk];simp[rowT]
def qOc {L:List Rl}(hw:Wf L){a b:Nat}{A B:Sd}(p:Option Addr)(c:Nat)(sa:Sig L a)(sb:Sig L b)(da:Dn L false 0 a [] A.x A.fs)(db:Dn L true 0 b [] B.x B.fs)(ha:lvl L A.x≤((0:Nat):Int))(hb:lvl L B.x≤((0:Nat):Int)):ClI L a b ⟨0,A,B,⟨[],p,c⟩⟩:=by
 obtain⟨a1,a2,a3,ws,a4,a5⟩:=da.ok hw sa .nil (by simp);obtain⟨b1,b2,b3,vs,b4,b5⟩:=db.ok hw sb .nil (by simp);have oa:=a1.ok hw sa;have ob:=b1.ok hw sb;have ea:seqE L false 0 A.x A.fs=expd L 0 a:=by rw[←a3];simp[seqE,mQ,cat]
 have eb:seqE L true 0 B.x B.fs=expd L 0 b:=by rw[←b3];simp[seqE,mQ,cat]
 exact⟨⟨.inr ⟨oa.1,a1,ha⟩,a2⟩,⟨.inr ⟨ob.1,b1,hb⟩,b2⟩,ea,eb,fun f hf=>a5 f (by rw[a4]at hf;simpa using hf),fun f hf=>b5 f (by rw[b4]at hf;simpa using hf),by have:=oa.1;simp only;omega,by have:=ob.1;simp only;omega,rfl⟩
def qRa (hE:Seat E)(hB:Base E.w0){i a b:Nat}(hr:(rls Es)[i]?=some (.pair a b))(hs:Sig (rls Es) (i+1))(hroom:Es.length+2≤most):
  Ct E 148 [uPt pp,.int .i64 (a:Nat),.int .i64 (len (rls Es) a:Nat),.int .i64 (b:Nat),.int .i64 0] [cells pp [uPt s,uPt tb] 97,tabP tb s (rls Es),bR s most Es]
   (fun v Q=>∃M,v= .tuple #[.int .i64 ((i+1:Nat):Int),.nilIface]∧M.length≤1∧Q=[cells pp [uPt s,uPt tb] 97,tabP tb s (rls (Es++M)),bR s most (Es++M)]):=by
 refine dX (p:=bR s most Es) uK (fun _ h=>dP h) (fun hsay=>?_);have hw:=hsay.1;have hmx:dC=1152921504606846976:=rfl;obtain⟨d1,d2,_⟩:=hs.down2 hw hr;have sa:=(d1 a (by simp[kids])).1;have sb:=(d1 b (by simp[kids])).1;have hn:=d2 a b O;have hlx:=hs.short hw;have lva:=sa.short hw;have lvb:=sb.short hw;obtain⟨u1,u2,u3,u4,_⟩:=lJ hw (x:=i+1) oO hr hs.lv;have hk:=hw.ok _ _ hr;have gp:=(jY hr hk).2;rw[if_pos ⟨u2,sa.lv,sb.lv⟩]at gp;have sal:=sa.lv;have sbl:=sb.lv;have haf:lvl (rls Es) (i+1)=(aft (rls Es) a b:Nat):=gp;clear gp;have ga:good (rls Es) a:=⟨sa.le,sa.lv⟩;have gb:good (rls Es) b:=⟨sb.le,sb.lv⟩;have pa:=wJ hw a sa.pos sa.le;have pb:=wJ hw b sb.pos sb.le;have hln:=rT hr hk;have hsx:=hw.short (i+1);have hap:=sa.pos;have hbp:=sb.pos;obtain⟨X,hX⟩:∃X,aft (rls Es) a b=X:=⟨_,rfl⟩;rw[hX]at haf;refine bO (hE.fn Tryz.func148) O O O (fun R=>?_);simp only[dR,uV,uW];refine gg16 ?_;refine nD 3 ?_;refine gg22 ?_;refine uX (qB hE hB ga) O ?_;rintro _ _⟨rfl,rfl⟩;simp only[uV,uW];refine gg19 ?_;refine bE O (fun g1=>?_) (fun g1=>?_)
 ·exfalso;omega
 refine gg30 ?_;refine uX (qB hE hB gb) O ?_;rintro _ _⟨rfl,rfl⟩;simp only[uV,uW];refine gg19 ?_;refine bE O (fun g2=>?_) (fun g2=>?_)
 ·exfalso;omega
 refine gg25 ?_;refine uX (kS hE gb.1) O ?_;rintro _ _⟨rfl,rfl⟩;simp only[uV,uW];refine gg2 ?_;refine l_eq 44 (.int .i64 (len (rls Es) b:Nat)) O (bW oO) ?_;refine gg10 ?_;refine dS 48 O (fun h1=>?_) (fun h1=>?_)
 ·exfalso;omega
 refine gg12 ?_;refine dS 56 O (fun h2=>?_) (fun h2=>?_)
 ·exfalso;omega
 refine gg15 ?_;refine dS 67 O (fun h3=>?_) (fun h3=>?_)
 ·exfalso;omega
 refine gg16 ?_;refine uX (qJ hE hB sa) O ?_;rintro _ _⟨ya,ga',p1,c1,rfl,da,da0,rfl⟩;simp only[uV,uW];refine gg3 ?_;refine uX (qJ hE hB sb) O ?_;rintro _ _⟨yb,gb',p2,c2,rfl,db,db0,rfl⟩;simp only[uV,uW];refine gg1 ?_;refine uU (dA (hE.t O) (fun b17=>?_));refine gg9 ?_;have hst:=qOc (A:=⟨ya,ga',p1,c1⟩) (B:=⟨yb,gb',p2,c2⟩) hw none 0 sa sb da db da0 db0;have hx0:0<X:=oO;refine iB (gW (t:=278) (sz:=4)) ?_;refine dW (fun x:ApG=>[(0,uPt pp),(17,uPt b17),(18,.int .i64 ((x.l+1:Nat):Int))]) (fun x=>[cells pp [uPt s,uPt tb] 97,tabP tb s (rls Es),bR s most Es,cells b17 [uPt pp,uPt pp,.bool false,.slice x.A.p x.A.fs.length x.A.c,.int .i64 (x.A.x:Nat),.int .u64 (key (rls Es) x.A.x:Nat),uPt pp,.bool true,.slice x.B.p x.B.fs.length x.B.c,.int .i64 (x.B.x:Nat),.int .u64 (key (rls Es) x.B.x:Nat),.slice x.C.p x.C.its.length x.C.c] 257,sl x.A.p x.A.c 266 8 x.A.fs.length (dU (rls Es) x.A.fs),sl x.B.p x.B.c 266 8 x.B.fs.length (dU (rls Es) x.B.fs),sl x.C.p x.C.c 278 4 x.C.its.length (itsC (rls Es) x.C.its),R]) (fun x=>30000-x.l) (fun x=>ClI (rls Es) a b x∧x.l<X) ⟨0,⟨ya,ga',p1,c1⟩,⟨yb,gb',p2,c2⟩,⟨[],none,0⟩⟩ ⟨hst,hx0⟩ ⟨O,O,O,trivial⟩ uI ?_;clear hst;rintro⟨l,A,B,C⟩⟨hI,hlX⟩;simp only at hlX ⊢
 have hea:=hI.ea;have heb:=hI.eb;have hem:=hI.em;simp only at hea heb hem;refine gg5 ?_;by_cases hlast:l+1<X
 ·have hcalm:Calm (rls Es) l A B:=by
   by_cases hm:((l+1:Nat):Int)≤max (lvl (rls Es) a) (lvl (rls Es) b)
   ·have hbd:=(hn (l+1) oO hm).1;rw[cu]at hbd;exact hI.calm hw sa sb hbd
   exact hI.calm2 hw sa sb u2 oO oO oO
  refine uX (qFc hE hB (S:=b17) sa sb hea heb hem hcalm oO oO) O ?_;rintro _ _⟨rfl,rfl⟩;simp only[uV,uW];refine gg6 ?_;refine uX (qTp hE hB (S:=b17) (most:=most) sa sb hea heb hem oO) O ?_;rintro _ _⟨C2,rfl,hC2,rfl⟩;simp only[uV,uW];have hnx:=hI.next hw sa sb hC2;have hxa:(upS (rls Es) (l+1) A).x≠0:=hnx.ha;generalize upS (rls Es) (l+1) A=A2 at hnx hxa ⊢;generalize upS (rls Es) (l+1) B=B2 at hnx ⊢;refine gg19 ?_;refine dS 94 O (fun h4=>?_) (fun h4=>?_)
  ·exfalso;omega
  refine gg30 ?_;refine jK 18 (.int .i64 ((l+1+1:Nat):Int)) O (bW oO) ?_;refine bS (ι:=ApG) (j:=⟨l+1,A2,B2,C2⟩) ⟨hnx,hlast⟩ (by show 30000-(l+1)<30000-l;omega) ⟨O,O,O,trivial⟩ ?_;exact uI
 have hlX2:X=l+1:=oO;obtain⟨hSp,hrow⟩:=hI.spi hw hr hs sa sb (by rw[haf,hlX2]);have hids:∀x∈dQ C.its,1≤x∧x≤(rls Es).length:=fun x hx=>hSp.mem hw x (by unfold rowS;simp[hx])
 have hr2:(rowS (rls Es) l A B C).length=2:=by rw[hrow];rfl
 have hrl:(seqE (rls Es) false l A.x A.fs++(dQ C.its++seqE (rls Es) true l B.x B.fs)).length≤1000000000:=by show(rowS (rls Es) l A B C).length≤_;omega
 refine uX (qJs hE hB (Es:=Es) (S:=b17) sa sb hSp.ea hSp.eb hSp.sng hSp.one hids hrl oO oO) O ?_;rintro _ _⟨A1,B1,C1,rfl,hrd,rfl⟩;simp only[uV,uW];refine gg6 ?_;refine uX (qOh hE hB (Es:=Es) (S:=b17) (most:=most) hSp oO hrd (hw.short (i+1)) oO oO oO) O ?_;rintro _ _⟨N,A2,B2,C2,rfl,hI2,hN,hN2,rfl⟩;simp only[uV,uW];refine mX (p:=bR s most (Es++N)) uK (fun _ h=>dP h) ?_;rintro⟨hw3, -, -, -⟩;have hxl:i+1≤(rls Es).length:=hs.le;have hsn:Sn (rls (Es++N)) (txt (rls Es) (i+1)) (i+1):=by rw[dB];exact(hs.sn hw).ext _
 have hlv2:lvl (rls (Es++N)) (i+1)=((l+1:Nat):Int):=by rw[dB,kD _ hxl,haf,hlX2]
 obtain⟨hA,hB2,it,hit,htm⟩:A2.x=0∧B2.x=0∧∃it,C2.its=[it]∧it.times=1:=by
  apply Classical.byContradiction;intro hno;have h2:=hI2.two_left hno;have hc:=hI2.ch
  have hy:Rch (rls (Es++N)) (txt (rls Es) (i+1)) (l+1+1) [i+1]:=by
   rw[dB];have:=(hs.rch hw (l+1+1) oO oO).ext (rls N);rwa [cu,eO hs.pos oO]at this
  have:=hc.fn hw3 hy;rw[this]at h2;simp at h2
 obtain⟨its2,p3,c3⟩:=C2;simp only at hit hI2 hN ⊢;subst hit;obtain⟨r1,r2,r3,r4,r5,r6,r7⟩:=hI2.one_left hw3 hA hB2 rfl htm;have hid:it.id=i+1:=Sg.fn hw3 r1 hsn.sg;rw[hA,hB2];refine gg19 ?_;refine dS 94 O (fun h4=>?_) (fun h4=>?_);rotate_left
 ·exact absurd O h4
 refine gg10 ?_;refine dS 100 O (fun h5=>?_) (fun h5=>?_);rotate_left
 ·exact absurd O h5
 refine gg10 ?_;refine dS 106 O (fun h6=>?_) (fun h6=>?_);rotate_left
 ·exact absurd O h6
 refine mX (p:=sl p3 c3 278 4 [it].length (itsC (rls (Es++N)) [it])) uK (fun _ h=>eF h (by simp)) ?_;rintro⟨g,rfl⟩;rw[gX];have hl1:(1:Int)≤(([it].length:Nat):Int):=by simp
 rw[htm,hid];refine gg15 ?_;refine bE O (fun h7=>?_) (fun h7=>?_);rotate_left
 ·exact absurd O h7
 refine gg16 ?_;exact uZ O (.tmp O (.tmp O .nil)) ⟨N,O,oO,O⟩
end
