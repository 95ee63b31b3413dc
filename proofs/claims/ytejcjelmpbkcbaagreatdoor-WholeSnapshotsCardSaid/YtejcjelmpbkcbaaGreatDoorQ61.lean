import Derived.Test.YtejcjelmpbkcbaaGreatDoorQ05
import Derived.Test.YtejcjelmpbkcbaaGreatDoorQ60
set_option linter.all false
set_option maxHeartbeats 1000000
namespace Go.Proofs.YtejcjelmpbkcbaaGreatDoor
open Go Go.RowKit Sl Eg
section
def lsF (acc:List Nat):Int→Option Value:=fun k=>if 0≤k∧(k=0∨k.toNat∈acc)then some (.bool true)else none
def lsF_nil:setF (fun _=>none) 0 (.bool true)=lsF []:=by
 funext k;unfold setF lsF;by_cases h:k=0
 ·subst h;simp
 rw[if_neg h,if_neg];simp[h]
def lsF_set {acc:List Nat}{x:Nat}:setF (lsF acc) (x:Nat) (.bool true)=lsF (acc++[x]):=by
 funext k;unfold setF lsF;by_cases h:k=(x:Nat)
 ·subst h;simp
 rw[if_neg h]
 have:(0≤k∧(k=0∨k.toNat∈acc++[x]))↔(0≤k∧(k=0∨k.toNat∈acc)):=by
  constructor
  ·rintro⟨h0,h1|h1⟩
   ·exact⟨h0,.inl h1⟩
   rcases bn.1 h1 with h1|h1
   ·exact⟨h0,.inr h1⟩
   simp at h1;omega
  rintro⟨h0,h1|h1⟩
  ·exact⟨h0,.inl h1⟩
  exact⟨h0,.inr (by simp[h1])⟩
 simp only[this]
def lsF_in {acc:List Nat}{x:Nat}(h:x=0∨x∈acc):lsF acc (x:Nat)=some (.bool true):=by
 unfold lsF;rw[if_pos];exact⟨oO,by rcases h with h|h;exact .inl oO;exact .inr (by simpa using h)⟩
def lsF_out {acc:List Nat}{x:Nat}(h:¬(x=0∨x∈acc)):lsF acc (x:Nat)=none:=by
 unfold lsF;rw[if_neg];rintro⟨_,h1|h1⟩
 ·exact h (.inl oO)
 exact h (.inr (by simpa using h1))
def nuF (ids:List Nat):Int→Option Value:=fun k=>if 0≤k∧k.toNat∈ids then some (.int .i64 (numb ids k.toNat:Nat))else none
def nuF_nil:(fun _=>none)=nuF []:=by funext k;simp[nuF]
def nuF_set {ids:List Nat}{x:Nat}(h:x∉ids):setF (nuF ids) (x:Nat) (.int .i64 ((ids.length+1:Nat):Int))=nuF (ids++[x]):=by
 funext k;unfold setF nuF;by_cases e:k=(x:Nat)
 ·subst e;simp[qXm h]
 rw[if_neg e];by_cases h0:0≤k
 ·have hk:k.toNat≠x:=oO;simp only[h0,true_and,bn,bg,hk,or_false];rw[qTa hk]
 simp[h0]
def qOf (ids:List Nat)(x:Nat):xM false (.int .i64 0) (nuF ids (x:Nat))= .int .i64 (numb ids x:Nat):=by
 unfold xM nuF;by_cases h:x∈ids
 ·simp[h]
 simp[h,jM.2 h]
def stC:List (Nat×Bool)→List Value
 |[]=>[]
 |p::st=>stC st++[.int .i64 (p.1:Nat),.bool p.2]
def zQ:∀(st:List (Nat×Bool)),(stC st).length=st.length*2
 |[]=>rfl
 |p::st=>by simp only[stC,aa,zQ st,av,di];omega
def walk_le {L:List Rl}(hw:Wf L):∀(x:Nat),1≤x→x≤L.length→walk L x+2≤4*len L x:=by
 intro x;induction x using Nat.strongRecOn with
 |ind x ih=>
  intro h1 h2
  obtain⟨n,rfl⟩:∃n,x=n+1:=⟨x-1,oO⟩
  have hg:L[n]?=some L[n]:=ag oO
  generalize L[n]=r at hg
  have ho:=hw.ok n r hg
  cases r with
  |letter b=>
   have e:len L (n+1)=1:=by unfold len;rw[gN hg];rfl
   rw[walk,hg,e]
   show 2+2≤4*1
   omega
  |pair a b=>
   have e:len L (n+1)=len L a+len L b:=by unfold len;rw[jU hg ho,aa]
   simp only[Rl.ok]at ho
   have g1:=ih a oO oO oO
   have g2:=ih b oO oO oO
   rw[walk,hg,e]
   simp only
   rw[kw oO,kw oO];omega
  |power a k=>
   have e:len L (n+1)=k*len L a:=by unfold len;rw[kW hg ho];simp
   simp only[Rl.ok]at ho
   have g1:=ih a oO oO oO
   have g2:=hw.pos a oO oO
   have:2*len L a≤k*len L a:=jw _ ho.2.2
   rw[walk,hg,e]
   simp only
   rw[kw oO];omega
def qZn {L:List Rl}(hw:Wf L){x m:Nat}(h:x≤L.length)(hm:len L x≤m):walk L x≤4*m+1:=by
 cases x with
 |zero=>rw[walk];omega
 |succ n=>have:=walk_le hw (n+1) oO h;omega
def qEn (L:List Rl):∀(st:List (Nat×Bool)),st.length≤tQ L st
 |[]=>ai _
 |(x,true)::st=>by have:=qEn L st;simp only[tQ,av];omega
 |(x,false)::st=>by have:=qEn L st;have:=qRi L x;simp only[tQ,av];omega
def StOk (L:List Rl)(st:List (Nat×Bool)):Prop:=∀p∈st,p.1≤L.length∧(p.2=true→1≤p.1)
def StOk.tail {L:List Rl}{p:Nat×Bool}{st:List (Nat×Bool)}(h:StOk L (p::st)):StOk L st:=fun q hq=>h q (by simp[hq])
def qYj {L:List Rl}{x:Nat}{b:Bool}{st:List (Nat×Bool)}{acc:List Nat}(hs:StOk L ((x,b)::st))(h:x=0∨x∈acc):runS L ((x,b)::st) acc=runS L st acc:=by
 cases b with
 |true=>
  have:=(hs (x,true) (by simp)).2 rfl
  simp only at this
  rw[runS,if_pos (by rcases h with h|h;omega;exact h)]
 |false=>
  rw[runS]
  rcases h with rfl| h
  ·rw[kP]
  rw[kY h]
def qTs (L:List Rl)(x:Nat)(b:Bool)(st:List (Nat×Bool)):tQ L st<tQ L ((x,b)::st):=by
 cases b with
 |true=>simp only[tQ];omega
 |false=>have:=qRi L x;simp only[tQ];omega
def qYh {L:List Rl}{x:Nat}{st:List (Nat×Bool)}{acc:List Nat}(h:¬(x=0∨x∈acc)):runS L ((x,true)::st) acc=runS L st (acc++[x]):=by
 rw[runS,if_neg fun hm=>h (.inr hm)]
def stOpen (r:Rl)(x:Nat)(st:List (Nat×Bool)):List (Nat×Bool):=(kids r).map (·,false)++(x,true)::st
def qYo {L:List Rl}(hw:Wf L){n:Nat}{r:Rl}(h:L[n]?=some r){st:List (Nat×Bool)}(hs:StOk L st):StOk L (stOpen r (n+1) st):=fun p hp=>by
 have hl:=(ae.1 h).1;rcases bn.1 hp with hp|hp
 ·obtain⟨k,hk,rfl⟩:=fq.1 hp;have:=nD (hw.ok n r h) k hk;exact⟨by simp only;omega,fun _=>this.1⟩
 rcases iq.1 hp with rfl|hp
 ·exact⟨by simp only;omega,fun _=>by simp⟩
 exact hs p hp
end
section
def nlC:List (List UInt8×Int)→List Value
 |[]=>[]
 |p::l=> .string ⟨⟨p.1⟩⟩:: .int .i64 p.2::nlC l
def qGe:∀l:List (List UInt8×Int),(nlC l).length=l.length*2
 |[]=>rfl
 |p::l=>by simp only[nlC,av,qGe l];omega
def qLp:∀{l:List (List UInt8×Int)}{i:Nat}{p:List UInt8×Int},l[i]?=some p→(nlC l)[i*2]?=some (.string ⟨⟨p.1⟩⟩)∧(nlC l)[i*2+1]?=some (.int .i64 p.2)
 |p::l,0,q,h=>by simp at h;subst h;exact⟨rfl,rfl⟩
 |p::l,i+1,q,h=>by
  have:=qLp (l:=l) (i:=i) (p:=q) (by simpa using h);rw[show(i+1)*2=i*2+1+1 by omega];exact this
def qOe {l:List (List UInt8×Int)}{i:Nat}{p:List UInt8×Int}(h:l[i]?=some p):∀(j:Nat)(u:Value),[Value.string ⟨⟨p.1⟩⟩,.int .i64 p.2][j]?=some u→(nlC l)[i*2+j]?=some u:=fun j u hu=>by
 have:=qLp h;rcases j with _|_| j
 ·simp at hu;subst hu;exact this.1
 ·simp at hu;subst hu;exact this.2
 simp at hu
def Ordered (l:List (List UInt8×Int))(n:Nat):Prop:=∀(i:Nat)(p q:List UInt8×Int),i+1<n→l[i]?=some p→l[i+1]?=some q→Op.bytesLess p.1 q.1=true
end
end Go.Proofs.YtejcjelmpbkcbaaGreatDoor
namespace Sl
open Go Go.RowKit
variable {E:Env}{n:Nat}{L:Fr}{S H H':List HP}{ty:TypeId}{pos:String}{af:Array Edge}{d:Option Nat}{gd:Option (Nat×Bool)}{K:Value→List HP→Prop}
def qEs {x:Operand}{s t:TypeId}{kd k' ks:IntKind}{i j:Int}{sz sz':Nat}{zs zs':List Value}(hx:ev L x=some (.int kd i))(hs:E.tab s=some ⟨.int ks,sz,zs⟩)(ht:E.tab t=some ⟨.int k',sz',zs'⟩)(hw:k'.wrap i=j):
  Yl E n L S ⟨d,.convert s t x,ty,pos,af,gd⟩ (.int k' j):=fun a w g _=>by
 simp[execOp,convert,underlying,program,Sem.run,nE hs,nE ht,g.ev hx,Conv.intToInt,hw]
def qEr (i:Nat):IntKind.u8.wrap (i:Int)=((i%256:Nat):Int):=by
 simp[IntKind.wrap,IntKind.bits,IntKind.signed]
set_option maxRecDepth 100000 in
def or_128:∀m:Fin 256,IntKind.u8.wrap ((m.val%2^IntKind.u8.bits|||128%2^IntKind.u8.bits:Nat):Int)=(m.val:Int)%128+128:=by decide
def y_or128 {x y:Operand}{xt yt:TypeId}{i:Nat}(hi:i<256)(hx:ev L x=some (.int .u8 (i:Nat)))(hy:ev L y=some (.int .u8 128)):
  Yl E n L S ⟨d,.binOp .or xt x y yt,ty,pos,af,gd⟩ (.int .u8 ((i%128+128:Nat):Int)):=fun a w g _=>by
 have:=or_128 ⟨i,hi⟩;simp only at this;simp[execOp,eqGuard,binOp,Op.intBits,g.ev hx,g.ev hy];exact this
end Sl
namespace Go.Proofs.YtejcjelmpbkcbaaGreatDoor
open Go Go.RowKit Sl Eg
set_option maxRecDepth 10000
section
variable {E:Env}
structure VpG where
 n:Nat
 done:List UInt8
 p:Nat
 c:Nat
def qGh {i:Nat}(h:i<256):((UInt8.ofNat i).toNat:Int)=i:=by rw[UInt8.toNat_ofNat'];simp;omega
def sK (hE:Seat E){n:Nat}(hn:n<18446744073709551616):Ct E 51 [.int .u64 (n:Nat)] [] (fun v Q=>∃g c,v= .slice (some ⟨g,0,none⟩) (vput n).length c∧Q=[sl (some ⟨g,0,none⟩) c 5 1 (vput n).length (byC (vput n))]):=by
 have hten:=jV hn;refine bO (hE.fn Tryz.func51) O O O (fun R=>?_);simp only[dX,uV,uW];refine gg7 ?_;refine uU ?_;refine kJ (hE.t O) (hE.t O) O O (by first |omega |exact bi rfl) (by(unfold maxLen;first |omega |exact bi rfl)) (fun b4 us4 hu4=>?_);refine gg5 ?_;refine iY (cK (p:=sl (some ⟨b4,0,none⟩) 10 5 1 10 us4) (p':=sl (some ⟨b4,0,none⟩) 10 5 1 0 (byC [])) uK (nG (au _) O (by simp))) ?_;refine eQ (fun q:VpG=>[(0,.int .u64 (q.n:Nat)),(3,.slice (some ⟨q.p,0,none⟩) q.done.length q.c)]) (fun q=>[sl (some ⟨q.p,0,none⟩) q.c 5 1 q.done.length (byC q.done),R]) (fun q=>q.n) (fun q=>q.done++vput q.n=vput n∧q.n<18446744073709551616) ⟨n,[],b4,10⟩ ?_ ?_ ?_ ?_
 ·exact⟨O,hn⟩
 ·exact⟨O,O,trivial⟩
 ·exact uI
 rintro⟨m,done,p,c⟩⟨hd,hm⟩;simp only at hd hm ⊢;have hdl:done.length≤10:=by have:=bf List.length hd;rw[aa]at this;omega
 refine gg7 ?_;refine bE O (fun h1=>?_) (fun h1=>?_)
 ·refine gg7 ?_;refine uB (qEs O (hE.t O) (hE.t O) (qEr _)) ?_;refine uB (y_or128 oO O O) ?_;refine uU ?_;refine aU (hE.t O) (hE.t O) O O O (fun b13=>?_);refine uU ?_;apply bU (hE.t O) (hE.t O) O O O
  ·exact uK
  ·exact uK
  ·rfl
  ·rfl
  ·omega
  ·omega
  ·(unfold maxLen;omega)
  intro g14 c14 n14 x14 hn14 hx14;refine gg9 ?_;rw[qEk oO]at hd;refine bS (ι:=VpG) (j:=⟨m/128,done++[UInt8.ofNat (m%128+128)],g14,c14⟩) ⟨by simp only[ah,List.singleton_append];exact hd,by simp only;omega⟩ (by simp only;omega) ⟨rfl,by simp only[aa,az];rw[hn14];rfl,trivial⟩ ?_
  obtain rfl:x14=byC (done++[UInt8.ofNat (m%128+128)]):=by
   rw[hx14];simp only[byC,fw,jo,oN];rw[qGh oO,show m%256%128=m%128 by omega];rfl
  simp only[aa,az];rw[hn14];exact uI
 refine gg9 ?_;refine uB (qEs O (hE.t O) (hE.t O) (qEr _)) ?_;refine uU ?_;refine aU (hE.t O) (hE.t O) O O O (fun b18=>?_);refine uU ?_;apply bU (hE.t O) (hE.t O) O O O
 ·exact uK
 ·exact uK
 ·rfl
 ·rfl
 ·omega
 ·omega
 ·(unfold maxLen;omega)
 intro g19 c19 n19 x19 hn19 hx19;refine gg4 ?_;rw[lL oO]at hd;have hl:(vput n).length=done.length+1:=by rw[←hd];simp
 apply cB
 ·rfl
 ·(apply Rs.tmp rfl;exact Rs.nil)
 ·refine⟨g19,c19,?_,O⟩;rw[hl,hn19];rfl
 obtain rfl:x19=byC (vput n):=by
  rw[hx19,←hd];simp only[byC,fw,jo,oN];rw[qGh oO,show m%256=m by omega];rfl
 rw[hl];rw[hn19];exact uI
end
section
variable {E:Env}
def lN (l:List UInt8):∀u∈byC l,u.oneCell'=true:=fun u h=>by
 obtain⟨i,_,rfl⟩:=fq.1 h;rfl
def qNe (l:List UInt8):(byC l).length=l.length:=ku _
def iZ (a b:List UInt8):byC (a++b)=byC a++byC b:=by simp[byC]
def qHk (hE:Seat E)(r:Rl):Ct E 88 [.agg #[.int .i64 (Rl.kind (r):Nat),.int .u8 (Rl.byte (r):Nat),.int .i64 (Rl.left (r):Nat),.int .i64 (Rl.right (r):Nat),.int .i64 (Rl.times (r):Nat)]] [] (fun v Q=>∃p c,v= .slice p (kids r).length c∧Q=[sl p c 56 1 (kids r).length (idC (kids r))]):=by
 cases r with
 |letter b=>
  refine bO (hE.fn Tryz.func88) O O O (fun R=>?_)
  simp only[dX,uV,uW]
  refine gg2 ?_
  refine uU ?_
  refine gW O (fun b1=>?_)
  refine gg34 ?_
  apply cB
  ·rfl
  ·(apply Rs.tmp rfl;exact Rs.nil)
  ·exact⟨none,0,O,O⟩
  apply cO (gU (t:=56) (sz:=1))
  exact uI
 |pair a b=>
  refine bO (hE.fn Tryz.func88) O O O (fun R=>?_)
  simp only[dX,uV,uW]
  refine gg2 ?_
  refine uU ?_
  refine gW O (fun b1=>?_)
  refine gg24 ?_
  refine uU ?_
  refine aU (hE.t O) (hE.t O) O O O (fun b11=>?_)
  refine gg6 ?_
  apply cB
  ·rfl
  ·(apply Rs.tmp rfl;exact Rs.nil)
  ·exact⟨some ⟨b11,0,none⟩,2,O,O⟩
  apply cO (cK (p:=cells b11 [.int .i64 (a:Nat),.int .i64 (b:Nat)] 56) (p':=sl (some ⟨b11,0,none⟩) 2 56 1 2 (idC [a,b])) uK (iK O (by unfold maxLen;omega)))
  exact uI
 |power a k=>
  refine bO (hE.fn Tryz.func88) O O O (fun R=>?_)
  simp only[dX,uV,uW]
  refine gg2 ?_
  refine uU ?_
  refine gW O (fun b1=>?_)
  refine gg29 ?_
  refine uU ?_
  refine aU (hE.t O) (hE.t O) O O O (fun b16=>?_)
  refine gg6 ?_
  apply cB
  ·rfl
  ·(apply Rs.tmp rfl;exact Rs.nil)
  ·exact⟨some ⟨b16,0,none⟩,1,O,O⟩
  apply cO (cK (p:=cells b16 [.int .i64 (a:Nat)] 56) (p':=sl (some ⟨b16,0,none⟩) 1 56 1 1 (idC [a])) uK (iK O (by unfold maxLen;omega)))
  exact uI
def qQd (r:Rl):(kids r).length≤2:=by cases r<;>simp[kids]
def qHj (hE:Seat E){r:Rl}{n:Nat}(ho:r.ok n)(h1:1≤n)(hn:n≤1099511627776):Ct E 117 [.agg #[.int .i64 (Rl.kind (r):Nat),.int .u8 (Rl.byte (r):Nat),.int .i64 (Rl.left (r):Nat),.int .i64 (Rl.right (r):Nat),.int .i64 (Rl.times (r):Nat)],.int .i64 (n:Nat)] [] (fun v Q=>v= .nilIface∧Q=[]):=by
 have hkl:=qQd r;have hkk:=nD ho;refine bO (hE.fn Tryz.func117) O O O (fun R=>?_);simp only[dX,uV,uW];refine gg2 ?_;refine uU ?_;refine gW O (fun b2=>?_);refine gg10 ?_;refine bE O (fun h0=>?_) (fun h0=>?_)
 ·exact absurd h0 oO
 refine gg6 ?_;refine uX (qHk hE r) O ?_;rintro _ _⟨p,c,rfl,rfl⟩;simp only[uV,uW];generalize kids r=ks at hkl hkk ⊢;refine gg5 ?_;refine eQ (fun k:Nat=>[(1,.int .i64 (n:Nat)),(4,.nilIface),(11,.slice p ks.length c),(12,.int .i64 (ks.length:Nat)),(13,.int .i64 (k:Nat))]) (fun k=>[sl p c 56 1 ks.length (idC ks),R]) (fun k=>ks.length-k) (fun k=>k≤ks.length) 0 (au _) ⟨O,O,O,O,O,trivial⟩ ?_ ?_
 ·exact uI
 rintro k hk;refine gg6 ?_;refine bE O (fun h2=>?_) (fun h2=>?_)
 ·have hkl2:k<ks.length:=oO;obtain⟨x,hx⟩:∃x,ks[k]?=some x:=⟨_,ag hkl2⟩;have hxx:=hkk x (ay hx);refine jG (p:=sl p c 56 1 ks.length (idC ks)) uK (fun _ h=>fA h oO) ?_;rintro⟨g,rfl⟩;have f0:=gL hx (0+(k:Int).toNat) oO;have f1:=gL hx ((k:Int).toNat) oO;refine gg16 ?_;refine eF 19 O (fun h3=>?_) (fun h3=>?_)
  ·exact absurd h3 oO
  refine gg11 ?_;refine bE O (fun h4=>?_) (fun h4=>?_)
  ·exact absurd h4 oO
  refine gg7 ?_;refine bS (ι:=Nat) (j:=k+1) hkl2 oO ⟨O,O,O,O,bf some (bW oO),trivial⟩ ?_;exact uI
 refine gg11 ?_;exact uZ O (.tmp O .nil) ⟨O,O⟩
def qBx (hE:Seat E){r:Rl}{n:Nat}(ho:r.ok n)(h1:1≤n)(hn:n≤1099511627776):Ct E 89 [.agg #[.int .i64 (Rl.kind (r):Nat),.int .u8 (Rl.byte (r):Nat),.int .i64 (Rl.left (r):Nat),.int .i64 (Rl.right (r):Nat),.int .i64 (Rl.times (r):Nat)],.int .i64 (n:Nat)] [] (fun v Q=>v= .nilIface∧Q=[]):=by
 cases r with
 |letter b=>
  refine bO (hE.fn Tryz.func89) O O O (fun R=>?_)
  simp only[dX,uV,uW]
  refine gg2 ?_
  refine uU ?_
  refine gW O (fun b2=>?_)
  refine gg60 ?_
  refine gg1 ?_
  refine uX (qHj (r:= .letter b) hE ho h1 hn) O ?_
  rintro _ _⟨rfl,rfl⟩
  simp only[uV,uW]
  refine gg4 ?_
  exact uZ O (.tmp O .nil) ⟨O,O⟩
 |pair a b=>
  refine bO (hE.fn Tryz.func89) O O O (fun R=>?_)
  simp only[dX,uV,uW]
  refine gg2 ?_
  refine uU ?_
  refine gW O (fun b2=>?_)
  refine gg60 ?_
  refine uX (qHj (r:= .pair a b) hE ho h1 hn) O ?_
  rintro _ _⟨rfl,rfl⟩
  simp only[uV,uW]
  refine gg4 ?_
  exact uZ O (.tmp O .nil) ⟨O,O⟩
 |power a k=>
  have e:decide ((2:Int)≤((Rl.times (.power a k):Nat):Int))=true:=ma (by have:=ho.2.2;simp only[Rl.times];omega)
  refine bO (hE.fn Tryz.func89) O O O (fun R=>?_)
  simp only[dX,uV,uW]
  refine gg2 ?_
  refine uU ?_
  refine gW O (fun b2=>?_)
  refine gg58 ?_
  refine gg10 ?_
  rw[e]
  refine gg7 ?_
  refine uX (qHj (r:= .power a k) hE ho h1 hn) O ?_
  rintro _ _⟨rfl,rfl⟩
  simp only[uV,uW]
  refine gg4 ?_
  exact uZ O (.tmp O .nil) ⟨O,O⟩
def ct_rPut (hE:Seat E){r:Rl}{n:Nat}(ho:r.ok n)(h1:1≤n)(hn:n≤1099511627776)(ht:r.times≤1152921504606846976):Ct E 53 [.agg #[.int .i64 (Rl.kind (r):Nat),.int .u8 (Rl.byte (r):Nat),.int .i64 (Rl.left (r):Nat),.int .i64 (Rl.right (r):Nat),.int .i64 (Rl.times (r):Nat)],.int .i64 (n:Nat)] [] (fun v Q=>∃g c,v= .tuple #[.slice (some ⟨g,0,none⟩) (rulB n r).length c,.nilIface]∧Q=[sl (some ⟨g,0,none⟩) c 5 1 (rulB n r).length (byC (rulB n r))]):=by
 cases r with
 |letter b=>
  refine bO (hE.fn Tryz.func53) O O O (fun R=>?_)
  simp only[dX,uV,uW]
  refine gg2 ?_
  refine uU ?_
  refine gW O (fun b2=>?_)
  refine gg9 ?_
  refine uX (qBx (r:= .letter b) hE ho h1 hn) O ?_
  rintro _ _⟨rfl,rfl⟩
  simp only[uV,uW]
  refine gg16 ?_
  refine uB (qEs (j:=1) O (hE.t O) (hE.t O) O) ?_
  refine uU ?_
  refine aU (hE.t O) (hE.t O) O O O (fun b17=>?_)
  refine gg18 ?_
  refine iY (cK (p:=cells b17 [.int .u8 1] 5) (p':=sl (some ⟨b17,0,none⟩) 1 5 1 1 (byC [1])) uK (iK O (by unfold maxLen;omega))) ?_
  refine gg4 ?_
  refine uU ?_
  refine aU (hE.t O) (hE.t O) O O O (fun b25=>?_)
  refine uU ?_
  apply bU (hE.t O) (hE.t O) O O O
  ·exact uK
  ·exact uK
  ·rfl
  ·rfl
  ·omega
  ·omega
  ·(unfold maxLen;omega)
  intro g26 c26 n26 x26 hn26 hx26
  refine gg12 ?_
  obtain rfl:x26=byC [1,b]:=by rw[hx26];rfl
  apply cB
  ·rfl
  ·(apply Rs.tmp rfl;apply Rs.tmp rfl;exact Rs.nil)
  ·exact⟨g26,c26,by rw[hn26];rfl,rfl⟩
  rw[hn26]
  exact uI
 |pair a b=>
  have ho':=ho
  simp only[Rl.ok]at ho'
  have e1:=jV (n:=n-a) oO
  have e2:=jV (n:=n-b) oO
  have hl:(Rl.pair a b).left=a:=rfl
  have hr:(Rl.pair a b).right=b:=rfl
  refine bO (hE.fn Tryz.func53) O O O (fun R=>?_)
  simp only[dX,uV,uW]
  refine gg2 ?_
  refine uU ?_
  refine gW O (fun b2=>?_)
  refine gg9 ?_
  refine uX (qBx (r:= .pair a b) hE ho h1 hn) O ?_
  rintro _ _⟨rfl,rfl⟩
  simp only[uV,uW]
  refine gg16 ?_
  refine uB (qEs (j:=2) O (hE.t O) (hE.t O) O) ?_
  refine uU ?_
  refine aU (hE.t O) (hE.t O) O O O (fun b17=>?_)
  refine gg25 ?_
  refine iY (cK (p:=cells b17 [.int .u8 2] 5) (p':=sl (some ⟨b17,0,none⟩) 1 5 1 1 (byC [2])) uK (iK O (by unfold maxLen;omega))) ?_
  refine gg7 ?_
  refine l_eq 33 (.int .i64 ((n-a:Nat):Int)) O (bW oO) ?_
  refine gg1 ?_
  refine uX (sK (n:=n-a) hE oO) O ?_
  rintro _ _⟨g,c,rfl,rfl⟩
  simp only[uV,uW]
  refine uU ?_
  apply jH (hE.t O) (hE.t O) O O O
  ·exact uK
  ·exact uK
  ·exact lN _
  ·exact qG _
  ·first |omega |(simp only[aa,av,di];omega)
  ·unfold maxLen;first |omega |(simp only[aa,av,di];omega)
  intro g1 c1 m' x' hm' hx'
  obtain rfl:m'=([2]++vput (n-a)).length:=by rw[hm'];simp only[aa,av,di]<;>omega
  obtain rfl:x'=byC ([2]++vput (n-a)):=hx'.trans (iZ _ _).symm
  clear hm' hx'
  refine gg9 ?_
  refine l_eq 41 (.int .i64 ((n-b:Nat):Int)) O (bW oO) ?_
  refine gg1 ?_
  refine uX (sK (n:=n-b) hE oO) O ?_
  rintro _ _⟨g',c',rfl,rfl⟩
  simp only[uV,uW]
  refine uU ?_
  apply jH (hE.t O) (hE.t O) O O O
  ·exact uK
  ·exact uK
  ·exact lN _
  ·exact qG _
  ·first |omega |(simp only[aa,av,di];omega)
  ·unfold maxLen;first |omega |(simp only[aa,av,di];omega)
  intro g2 c2 m' x' hm' hx'
  obtain rfl:m'=([2]++vput (n-a)++vput (n-b)).length:=by rw[hm'];simp only[aa,av,di]<;>omega
  obtain rfl:x'=byC ([2]++vput (n-a)++vput (n-b)):=hx'.trans (iZ _ _).symm
  clear hm' hx'
  refine gg12 ?_
  exact uZ O (.tmp O (.tmp O .nil)) ⟨g2,c2,O,O⟩
 |power a k=>
  have ho':=ho
  simp only[Rl.ok]at ho'
  simp only[Rl.times]at ht
  have e1:=jV (n:=n-a) oO
  have e2:=jV (n:=k-2) oO
  have hl:(Rl.power a k).left=a:=rfl
  have hr:(Rl.power a k).times=k:=rfl
  refine bO (hE.fn Tryz.func53) O O O (fun R=>?_)
  simp only[dX,uV,uW]
  refine gg2 ?_
  refine uU ?_
  refine gW O (fun b2=>?_)
  refine gg9 ?_
  refine uX (qBx (r:= .power a k) hE ho h1 hn) O ?_
  rintro _ _⟨rfl,rfl⟩
  simp only[uV,uW]
  refine gg16 ?_
  refine uB (qEs (j:=3) O (hE.t O) (hE.t O) O) ?_
  refine uU ?_
  refine aU (hE.t O) (hE.t O) O O O (fun b17=>?_)
  refine gg32 ?_
  refine iY (cK (p:=cells b17 [.int .u8 3] 5) (p':=sl (some ⟨b17,0,none⟩) 1 5 1 1 (byC [3])) uK (iK O (by unfold maxLen;omega))) ?_
  refine gg7 ?_
  refine l_eq 51 (.int .i64 ((n-a:Nat):Int)) O (bW oO) ?_
  refine gg1 ?_
  refine uX (sK (n:=n-a) hE oO) O ?_
  rintro _ _⟨g,c,rfl,rfl⟩
  simp only[uV,uW]
  refine uU ?_
  apply jH (hE.t O) (hE.t O) O O O
  ·exact uK
  ·exact uK
  ·exact lN _
  ·exact qG _
  ·first |omega |(simp only[aa,av,di];omega)
  ·unfold maxLen;first |omega |(simp only[aa,av,di];omega)
  intro g1 c1 m' x' hm' hx'
  obtain rfl:m'=([3]++vput (n-a)).length:=by rw[hm'];simp only[aa,av,di]<;>omega
  obtain rfl:x'=byC ([3]++vput (n-a)):=hx'.trans (iZ _ _).symm
  clear hm' hx'
  refine gg8 ?_
  refine l_eq 58 (.int .i64 ((k-2:Nat):Int)) O (bW oO) ?_
  refine gg1 ?_
  refine uX (sK (n:=k-2) hE oO) O ?_
  rintro _ _⟨g',c',rfl,rfl⟩
  simp only[uV,uW]
  refine uU ?_
  apply jH (hE.t O) (hE.t O) O O O
  ·exact uK
  ·exact uK
  ·exact lN _
  ·exact qG _
  ·first |omega |(simp only[aa,av,di];omega)
  ·unfold maxLen;first |omega |(simp only[aa,av,di];omega)
  intro g2 c2 m' x' hm' hx'
  obtain rfl:m'=([3]++vput (n-a)++vput (k-2)).length:=by rw[hm'];simp only[aa,av,di]<;>omega
  obtain rfl:x'=byC ([3]++vput (n-a)++vput (k-2)):=hx'.trans (iZ _ _).symm
  clear hm' hx'
  refine gg12 ?_
  exact uZ O (.tmp O (.tmp O .nil)) ⟨g2,c2,O,O⟩
def pU (l:List UInt8):List UInt8:=vput l.length++l
end
end Go.Proofs.YtejcjelmpbkcbaaGreatDoor
namespace Sl
open Go Go.RowKit
variable {E:Env}{n:Nat}{L:Fr}{S:List HP}{ty:TypeId}{pos:String}{af:Array Edge}{d:Option Nat}{gd:Option (Nat×Bool)}
end Sl
namespace Go.Proofs.YtejcjelmpbkcbaaGreatDoor
open Go Go.RowKit Sl Eg
set_option maxRecDepth 10000
variable {E:Env}
def okC (i c:Nat):Prop:=(97≤c∧c≤122)∨(0<i∧((48≤c∧c≤57)∨c=45))
instance (i c:Nat):Decidable (okC i c):=inferInstanceAs (Decidable (_∨_))
def ValidN (bs:List UInt8):Prop:=1≤bs.length∧bs.length≤32∧∀i,i<bs.length→okC i (bs.getD i 0).toNat
instance (bs:List UInt8):Decidable (ValidN bs):=inferInstanceAs (Decidable (_∧_∧∀i,i<bs.length→_))
def qKq (hE:Seat E){bs:List UInt8}:Ct E 65 [.string ⟨⟨bs⟩⟩] [] (fun v Q=>v= .bool (decide (ValidN bs))∧Q=[]):=by
 have hsz:=size_mk bs;refine bO (hE.fn Tryz.func65) O O O (fun R=>?_);simp only[dX,uV,uW];refine gg12 ?_;refine eF 8 O (fun h1=>?_) (fun h1=>?_)
 ·refine gg14 ?_;exact uZ O (.tmp O .nil) ⟨bf Value.bool (ni fun hv=>by have:=hv.1;omega).symm,rfl⟩
 refine gg9 ?_;refine bE O (fun h2=>?_) (fun h2=>?_)
 ·refine gg7 ?_;exact uZ O (.tmp O .nil) ⟨bf Value.bool (ni fun hv=>by have:=hv.2.1;omega).symm,rfl⟩
 refine gg11 ?_;refine eQ (fun k:Nat=>[(0,.string ⟨⟨bs⟩⟩),(14,.int .i64 ((⟨⟨bs⟩⟩:ByteArray).size:Nat)),(15,.int .i64 (k:Nat))]) (fun k=>[R]) (fun k=>bs.length-k) (fun k=>k≤bs.length∧∀j,j<k→okC j (bs.getD j 0).toNat) 0 ⟨au _,fun j h=>by omega⟩ ⟨rfl,rfl,rfl,trivial⟩ uI ?_;rintro k⟨hk,hall⟩;refine gg6 ?_;refine bE O (fun hc=>?_) (fun hc=>?_)
 ·have hkl:k<bs.length:=oO;obtain⟨x,hx⟩:∃x,bs[k]?=some x:=⟨_,ag hkl⟩;have hx':bs.getD k 0=x:=by rw[fe,hx];rfl
  have hxx:(⟨⟨bs⟩⟩:ByteArray)[(k:Int).toNat]?=some x:=str_get hx _ oO
  have hgrow:okC k x.toNat→k+1≤bs.length∧∀j,j<k+1→okC j (bs.getD j 0).toNat:=fun hok=>⟨oO,fun j hj=>by
   rcases ed j k with h| h
   ·exact hall j h
   obtain rfl:j=k:=by omega
   rw[hx'];exact hok⟩
  have hstop:¬okC k x.toNat→¬ValidN bs:=fun hno hv=>hno (by have:=hv.2.2 k hkl;rwa [hx']at this)
  refine gg24 ?_;refine eF 24 O (fun a1=>?_) (fun a1=>?_)
  ·refine gg8 ?_;refine bE O (fun a2=>?_) (fun a2=>?_)
   ·refine gg8 ?_;refine bS (ι:=Nat) (j:=k+1) (hgrow (by unfold okC;omega)) oO ⟨O,O,bf some (bW oO),trivial⟩ uI
   refine gg5 ?_;refine eF 31 O (fun h3=>?_) (fun h3=>?_)
   ·refine gg6 ?_;refine eF 34 O (fun h4=>?_) (fun h4=>?_)
    ·refine gg8 ?_;refine eF 38 O (fun h5=>?_) (fun h5=>?_)
     ·refine gg17 ?_;refine bS (ι:=Nat) (j:=k+1) (hgrow (by unfold okC;omega)) oO ⟨O,O,bf some (bW oO),trivial⟩ uI
     refine gg10 ?_;refine bE O (fun h6=>?_) (fun h6=>?_)
     ·exfalso;omega
     refine gg12 ?_;exact uZ O (.tmp O .nil) ⟨bf Value.bool (ni (hstop (by unfold okC;omega))).symm,O⟩
    refine gg16 ?_;refine bE O (fun h6=>?_) (fun h6=>?_)
    ·refine gg8 ?_;refine bS (ι:=Nat) (j:=k+1) (hgrow (by unfold okC;omega)) oO ⟨O,O,bf some (bW oO),trivial⟩ uI
    refine gg12 ?_;exact uZ O (.tmp O .nil) ⟨bf Value.bool (ni (hstop (by unfold okC;omega))).symm,O⟩
   refine gg27 ?_;exact uZ O (.tmp O .nil) ⟨bf Value.bool (ni (hstop (by unfold okC;omega))).symm,O⟩
  refine gg12 ?_;refine eF 31 O (fun h3=>?_) (fun h3=>?_)
  ·refine gg6 ?_;refine eF 34 O (fun h4=>?_) (fun h4=>?_)
   ·refine gg8 ?_;refine eF 38 O (fun h5=>?_) (fun h5=>?_)
    ·refine gg17 ?_;refine bS (ι:=Nat) (j:=k+1) (hgrow (by unfold okC;omega)) oO ⟨O,O,bf some (bW oO),trivial⟩ uI
    refine gg10 ?_;refine bE O (fun h6=>?_) (fun h6=>?_)
    ·exfalso;omega
    refine gg12 ?_;exact uZ O (.tmp O .nil) ⟨bf Value.bool (ni (hstop (by unfold okC;omega))).symm,O⟩
   refine gg16 ?_;refine bE O (fun h6=>?_) (fun h6=>?_)
   ·refine gg8 ?_;refine bS (ι:=Nat) (j:=k+1) (hgrow (by unfold okC;omega)) oO ⟨O,O,bf some (bW oO),trivial⟩ uI
   refine gg12 ?_;exact uZ O (.tmp O .nil) ⟨bf Value.bool (ni (hstop (by unfold okC;omega))).symm,O⟩
  refine gg27 ?_;exact uZ O (.tmp O .nil) ⟨bf Value.bool (ni (hstop (by unfold okC;omega))).symm,O⟩
 refine gg11 ?_;exact uZ O (.tmp O .nil) ⟨bf Value.bool (ma ⟨oO,oO,fun i hi=>hall i oO⟩).symm,O⟩
end Go.Proofs.YtejcjelmpbkcbaaGreatDoor
namespace Sl
open Go Go.RowKit
variable {E:Env}{n:Nat}{L:Fr}{S S' H H':List HP}{ty:TypeId}{pos:String}{af:Array Edge}{d:Option Nat}{gd:Option (Nat×Bool)}{K:Value→List HP→Prop}
def dL {x:Operand}{t:TypeId}{g o p i:Nat}{k:TK}{sz:Nat}{zs vs us:List Value}{q:HP}(h:ev L x=some (.pointer (some ⟨g,p,none⟩)))(ht:E.tab t=some ⟨k,sz,zs⟩)(hk:k.agg=true)
  (hq:∀k,q k→RdAt E.w0 g o vs k) (hm:Take q S S') (hv:∀j u,us[j]?=some u→vs[i+j]?=some u) (hl:us.length=sz) (hp:p=o+i):Yl E n L S ⟨d,.load t x,ty,pos,af,gd⟩ (.agg ⟨us⟩):=fun a w g' s=>by
 subst hp
 have hr:=yD (P:=E.P) g (o+i) us 0 #[] (fun j u hu=>by
  rw[jg];have:=qIj hq (s.take hm) (hv j u hu);rwa [←oV]at this)
 rw[hl]at hr;simp[execOp,Instr.loadAt,Instr.sureAddr,loadVar,g'.ev h,lZ ht,hk,sF ht,loadCells,hr]
def qLh {x y v:Operand}{b:Nat}{t kt et:TypeId}{ki:IntKind}{f:Int→Option Value}{k:Int}{u:Value}(ht:E.P.underlying t=some (.map kt et))(hkt:E.P.underlying kt=some (.int ki))(hx:ev L x=some (.map (some b)))(hy:ev L y=some (.int ki k))(hv:ev L v=some u)(hm:Take (mapF b ki f) H H')(hk:K undef (mapF b ki (setF f k u)::H')):
  Ld E n L H ⟨d,.insert t x y v,ty,pos,af,gd⟩ K:=fun Q next a w g hn=>by
 obtain⟨es,c,M,hh,he,hf,s1⟩:=qOq (g.hp.take hm);have hlt:b<w.heap.size:=(cz.1 hh).1
 obtain⟨es',c',M',hrun,he',hf'⟩:∃(es':Array MapEntry)(c':Nat)(M':List (Int×Value)),(Instr.mapUpdate t (.map (some b)) (.int ki k) u).run E.P w= .ok () (ChangeMaps.setBlock w b (.map es' c'))∧Mp ki es'.toList c' M'∧∀x,M'.lookup x=setF f k u x:=by
  rcases xK (k:=k) M es.toList 0 he.is with⟨g1,g2⟩|⟨v0,i,e,g1,g2,g3,g4,g5⟩
  ·refine⟨es.push {key:= .int ki k,val:=u,born:=c},c+1,M++[(k,u)],?_,by rw[yw];exact he.push u g1,fun x=>?_⟩
   ·unfold Instr.mapUpdate;simp only[Sem.run_bind,gK ht,Result.andThen_ok];simp only[getObj,Sem.run,hh];simp only[Result.andThen,Sem.run_bind,sH hkt,Instr.findKey,gK hkt,g2,Sem.run_pure];simp only[setObj,Sem.run];rw[hh];rfl
   rw[qDf g1,setF,hf]
  refine⟨es.modify i fun e=>{e with key:= .int ki k,val:=u},c,setM k u M,?_,by rw[xk];exact he.modify (g5 u),fun x=>?_⟩
  ·have hs:Instr.sameBits 10000 (.int ki k) (.int ki k)=true:=by simp[Instr.sameBits]
   have he2:((es[i]?).map (·.key)).getD (.int ki k)= .int ki k:=by
    rw[←vo,g3];exact g4
   unfold Instr.mapUpdate;simp only[Sem.run_bind,gK ht,Result.andThen_ok];simp only[getObj,Sem.run,hh];simp only[Result.andThen,Sem.run_bind,sH hkt,Instr.findKey,gK hkt,g2,Sem.run_pure,jg,he2,Instr.keyThatStays,hs,if_true];simp only[setObj,Sem.run];rw[hh];rfl
  unfold setF;by_cases e:x=k
  ·rw[if_pos e,e];exact qEb g1
  rw[if_neg e,zO e,hf]
 have hrun':(execOp a.eval ⟨d,.insert t x y v,ty,pos,af,gd⟩).run E.P w= .ok .skip (ChangeMaps.setBlock w b (.map es' c')):=by
  simp[execOp,g.f.ev hx,g.f.ev hy,g.f.ev hv,hrun]
 unfold Oper.wp;rw[hrun',Oper.upon_skip]
 have hs2:Sat E.w0 (ChangeMaps.setBlock w b (.map es' c')) (pt b (.map es' c')::H'):=s1.write ⟨O,O,O,by simp[ChangeMaps.setBlock]⟩ (by simp[ChangeMaps.setBlock,hlt]) fun j hj=>by
  simp only[ChangeMaps.setBlock];rw[mo (by intro e;exact hj e.symm)]
 exact hn _ _ _ hk (hs2.imp fun k' h=>fG (fun k'' h''=>⟨es',c',M',h'',he',hf'⟩) h)
def qGj {w0:World}{g c m sz:Nat}{vs xs:List Value}{t:TypeId}(h:∀(i:Nat)(v:Value),vs[i]?=some v→xs[i]?=some v):∀k,sl (some ⟨g,0,none⟩) c t sz m xs k→RdAt w0 g 0 vs k:=fun k hk i v hv=>by
 obtain⟨_,h1|⟨g',cur,h1,h2,h3,h4,h5,h6⟩⟩:=hk
 ·cases h1.1
 cases h1
 refine .inr ⟨cur,t,(0,0),h2,?_⟩;have hx:=h i v hv;rw[←h6,mf]at hx;split at hx
 ·rw[jg];simpa using hx
 cases hx
def ld_makeN {x:Operand}{t e:TypeId}{c es by_ sz sz':Nat}{zs zs':List Value}{kk:TK}(ht:E.tab t=some ⟨.slice e es by_,sz,zs⟩)(he:E.tab e=some ⟨kk,sz',zs'⟩)
  (hx:ev L x=some (.int .i64 (c:Nat))) (hb:by_*c≤281474976710656) (hc:c≤maxLen)
  (hk:∀b us,us.length=c*es→K (.slice (some ⟨b,0,none⟩) c c) (sl (some ⟨b,0,none⟩) c e es c us::H)):Ld E n L H ⟨d,.makeSlice t x x,ty,pos,af,gd⟩ K:=fun Q next a w G hn=>by
 obtain⟨hu,j,hj,hs,hby⟩:=fQ ht;obtain⟨i,z,hi,hi2,hiz,hzc,_⟩:=fH he;obtain rfl:i=j:=by rw[hi]at hj;simpa using hj
 subst hs hby;have h63:(c:Int)≤9223372036854775807:=by have h:=hc;simp[maxLen]at h;omega
 have hr:=run_make (P:=E.P) w t e i z hu hi hiz .i64 .i64 (c:Int) (c:Int) (qz c) (zu _) (by rw[←oz];omega) h63
 have hrun:(execOp a.eval ⟨d,.makeSlice t x x,ty,pos,af,gd⟩).run E.P w= .ok (.value (.slice (some ⟨w.heap.size,0,none⟩) c c)) (w.alloc (.cells (madeCells z.cells (c*i.size)) e)):=by
  simp[execOp,G.f.ev hx,hr]
 unfold Oper.wp;rw[hrun,Oper.upon_value];have hz:=size_madeCells z.cells (c*i.size);generalize madeCells z.cells (c*i.size)=M at*;refine hn _ _ _ (hk _ M.toList (by simpa using hz)) ?_;have:=G.hp.new (.cells M e);exact this.imp fun _=>fG fun _ h=>iK (by simpa using hz) hc _ h
end Sl
