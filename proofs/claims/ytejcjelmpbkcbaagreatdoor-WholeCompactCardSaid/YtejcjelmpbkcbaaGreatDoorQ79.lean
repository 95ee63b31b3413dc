import Derived.Test.YtejcjelmpbkcbaaGreatDoorQ73
import Derived.Test.YtejcjelmpbkcbaaGreatDoorQ78
import Derived.Laws.IdiomRangeMap
set_option linter.all false
set_option maxHeartbeats 1000000
namespace Go.Proofs.YtejcjelmpbkcbaaGreatDoor
open Go Go.RowKit Sl Eg
set_option maxRecDepth 10000
variable {E:Env}{Es:List Ent}{s most:Nat}
def qB (S:List Nat):Int->Option Value:=fun x=>if S.any (fun n=>x==(n:Int))then some (.bool true)else none
def qQr {S:List Nat}{x:Nat}(h:x∈S):qB S (x:Nat)=some (.bool true):=by
 unfold qB;rw[if_pos (List.any_eq_true.2 ⟨x,h,by simp⟩)]
def qYi {S:List Nat}{x:Nat}(h:x∉S):qB S (x:Nat)=none:=by
 unfold qB;rw[if_neg];intro e;obtain⟨n,hn,e⟩:=List.any_eq_true.1 e;have:(x:Int)=n:=by simpa using e
 obtain rfl:x=n:=by omega
 exact h hn
def qLv (S:List Nat)(x:Nat):setF (qB S) (x:Nat) (.bool true)=qB (S++[x]):=by
 funext y;unfold setF qB;rw[List.any_append];by_cases h:y=(x:Int)
 ·subst h;simp
 rw[if_neg h];simp[h]
structure RchI (L:List Rl)(id i:Nat)(S:List Nat):Prop where
 ib:i<=S.length
 hd:S[0]?=some id
 nd:S.Nodup
 rch:∀x∈S,Rea L id x
 done:∀(t x:Nat)(r:Rl),t<i->S[t]?=some x->L[x-1]?=some r->∀k∈kids r,k∈S
def Rea.le {L:List Rl}{k x:Nat}(h:Rea L k x):1<=x/\x<=L.length:=by
 induction h with
 |self h=>exact⟨oO,h⟩
 |kid _ _ _ ih=>exact ih
def Rea.step {L:List Rl}{k n z:Nat}{r:Rl}(h:Rea L k (n+1))(hr:L[n]?=some r)(hz:z∈kids r)(hw:Wf L):Rea L k z:=by
 have hzk:=jW (hw.ok n r hr) z hz;have hn:=(ag.1 hr).1;obtain⟨m,rfl⟩:∃m,z=m+1:=⟨z-1,oO⟩;generalize hx:n+1=x at h;induction h with
 | @self a ha=>
  obtain rfl:n=a:=by omega
  exact .kid hr hz (.self oO)
 |kid h1 h2 _ ih=>exact .kid h1 h2 (ih hx)
def RchI.start {L:List Rl}{id:Nat}(h1:1<=id)(h2:id<=L.length):RchI L id 0 [id]:=by
 obtain⟨n,rfl⟩:∃n,id=n+1:=⟨id-1,oO⟩;exact⟨au _,O,by simp,fun x hx=>by rw[az.1 hx];exact .self h2,fun t x r h=>by omega⟩
def RchI.more {L:List Rl}(hw:Wf L){id i:Nat}{S:List Nat}(h:RchI L id i S){x z:Nat}{r:Rl}(hx:x∈S)(hr:L[x-1]?=some r)(hz:z∈kids r)(hn:z∉S):RchI L id i (S++[z]):=by
 have hxb:=(h.rch x hx).le;refine⟨by have:=h.ib;rw[ae];omega,by rw[ax (ag.1 h.hd).1];exact h.hd,nu.2 ⟨h.nd,by simp,fun a ha b hb=>by rw[az.1 hb];exact fun e=>hn (e▸ha)⟩,fun y hy=>?_,fun t y q ht hy hq k hk=>?_⟩
 ·rcases bi.1 hy with hy|hy
  ·exact h.rch y hy
  rw[az.1 hy];obtain⟨n,rfl⟩:∃n,x=n+1:=⟨x-1,oO⟩;exact(h.rch _ hx).step hr hz hw
 rw[ax (by have:=h.ib;omega)]at hy;exact iq _ (h.done t y q ht hy hq k hk)
def RchI.next {L:List Rl}{id i:Nat}{S:List Nat}(h:RchI L id i S){x:Nat}{r:Rl}(hx:S[i]?=some x)(hr:L[x-1]?=some r)(hk:∀k∈kids r,k∈S):RchI L id (i+1) S:=
 ⟨(ag.1 hx).1,h.hd,h.nd,h.rch,fun t y q ht hy hq k hkk=>by
   rcases ed t i with hl|hl
   ·exact h.done t y q hl hy hq k hkk
   obtain rfl:t=i:=by omega
   rw[hx]at hy;cases hy
   rw[hr]at hq;cases hq
   exact hk k hkk⟩
def RchI.all {L:List Rl}{id:Nat}{S:List Nat}(h:RchI L id S.length S)(x:Nat):x∈S↔Rea L id x:=by
 refine⟨h.rch x,fun hr=>?_⟩;have hid:id∈S:=ak h.hd;refine hr.inside (fun n r hn hl k hk=>?_) hid;obtain⟨t,ht⟩:=jv hn;exact h.done t _ r (ag.1 ht).1 ht (by simpa using hl) k hk
def RchI.len {L:List Rl}{id i:Nat}{S:List Nat}(h:RchI L id i S):S.length<=L.length:=
 AccOk.len ⟨h.nd,fun x hx=>(h.rch x hx).le⟩
end Go.Proofs.YtejcjelmpbkcbaaGreatDoor
namespace Eg
def rem (L:List Rl)(K:Nat->Bool):Nat->Nat->Nat
 |0,_=>0
 |n+1,x=>if K x then 0 else if len L x<=256 then 512 else match L[x-1]? with
  |some (.pair l r)=>rem L K n l+rem L K n r+400
  |_=>0
def sO {L:List Rl}{K:Nat->Bool}{n x:Nat}(h:K x=true):rem L K n x=0:=by
 cases n with
 |zero=>rfl
 |succ n=>unfold rem;rw[if_pos h]
def xZ {L:List Rl}{K:Nat->Bool}{n x:Nat}(h:K x=false)(hl:len L x<=256):rem L K (n+1) x=512:=by
 unfold rem;rw[if_neg (by simp[h]),if_pos hl]
def vE {L:List Rl}{K:Nat->Bool}{n x l r:Nat}(h:K x=false)(hl:256<len L x)(hg:L[x-1]?=some (.pair l r)):rem L K (n+1) x=rem L K n l+rem L K n r+400:=by
 rw[rem,if_neg (by simp[h]),if_neg oO,hg]
def qLq {L:List Rl}{K:Nat->Bool}{n x:Nat}(hl:len L x<=256):rem L K n x<=512:=by
 cases n with
 |zero=>exact au _
 |succ n=>unfold rem;split <;>simp[hl]
def rem_le {L:List Rl}(hw:Wf L){K:Nat->Bool}:∀(n x:Nat),Ev L x->len L x<=400->rem L K n x<=912*n+512:=by
 intro n;induction n with
 |zero=>exact fun x _ _=>au _
 |succ n ih=>
  intro x hx hl
  cases hK:K x with
  |true=>rw[sO hK];exact au _
  |false=>
   rcases ed 256 (len L x)with h| h
   ·obtain⟨i,rfl⟩:∃i,x=i+1:=⟨x-1,by
     rcases fu x with rfl|h'
     ·rw[qBd]at h;omega
     omega⟩
    rcases hx.rule hw with⟨b,hg,h0⟩|⟨l,r,hg,h1,h2,h3,h4,el,er,hdp,hlr,hrl,ht⟩
    ·have:len L (i+1)=1:=by unfold len;rw[fC hg];rfl
     omega
    have hlen:len L (i+1)=len L l+len L r:=by unfold len;rw[ht,ae]
    rw[vE hK h (by simpa using hg)]
    rcases ed 256 (len L l)with h'|h'
    ·have a1:=ih l el oO
     have a2:=qLq (K:=K) (n:=n) (x:=r) (L:=L) oO
     omega
    have a1:=ih r er oO
    have a2:=qLq (K:=K) (n:=n) (x:=l) (L:=L) h'
    omega
   rw[xZ hK h];omega
def qBl {L:List Rl}{K K':Nat->Bool}(hK:∀x,K x=true->K' x=true):∀(n x:Nat),rem L K' n x<=rem L K n x:=by
 intro n;induction n with
 |zero=>exact fun x=>aj _
 |succ n ih=>
  intro x
  cases h':K' x with
  |true=>rw[sO h'];exact au _
  |false=>
   have h:K x=false:=by
    cases h:K x with
    |false=>rfl
    |true=>rw[hK x h]at h';cases h'
   have e1:∀K:Nat->Bool,K x=false->rem L K (n+1) x=if len L x<=256 then 512 else match L[x-1]? with
     |some (.pair l r)=>rem L K n l+rem L K n r+400
     |_=>0:=fun K h=>by rw[rem,if_neg (by simp[h])]
   rw[e1 K h,e1 K' h']
   by_cases hl:len L x<=256
   ·rw[if_pos hl,if_pos hl]
    exact aj _
   rw[if_neg hl,if_neg hl]
   rcases L[x-1]? with _|(b|⟨l,r⟩|⟨y,k⟩)
   ·exact aj _
   ·exact aj _
   ·have a1:=ih l
    have a2:=ih r
    show rem L K' n l+rem L K' n r+400<=rem L K n l+rem L K n r+400
    omega
   exact aj _
def Chn (L:List Rl)(K:Nat->Bool):Nat->List Nat->Prop
 |_,[]=>True
 |0,_::_=>False
 |n+1,x::st=>Ev L x/\1<=x/\dep L x<=n/\(∀y,st.head?=some y->K x=false/\256<len L x/\∃l r,L[x-1]?=some (.pair l r)/\dep L l<dep L x/\dep L r<dep L x/\(y=l\/y=r))/\Chn L K n st
def Chn.cnt {L:List Rl}{K:Nat->Bool}:∀{st:List Nat}{n:Nat},Chn L K n st->st.length<=n
 |[],n,_=>au _
 |x::st,0,h=>h.elim
 |x::st,n+1,h=>by have:=Chn.cnt h.2.2.2.2;simp only[bf];omega
def Chn.pop {L:List Rl}{K:Nat->Bool}{y:Nat}:∀{st:List Nat}{n:Nat},Chn L K n (st++[y])->Chn L K n st
 |[],n,_=>by cases n<;>trivial
 |x::st,0,h=>h.elim
 |x::st,n+1,⟨h1,h2,h3,h4,h5⟩=>⟨h1,h2,h3,fun z hz=>h4 z (by cases st with |nil=>cases hz|cons a b=>exact hz),Chn.pop h5⟩
def Chn.last {L:List Rl}{K:Nat->Bool}{x y:Nat}:∀{st:List Nat}{n:Nat},Chn L K n (st++[x]++[y])->K x=false
 |[],0,h=>h.elim
 |[],n+1,h=>(h.2.2.2.1 y rfl).1
 |z::st,0,h=>h.elim
 |z::st,n+1,h=>Chn.last (st:=st) h.2.2.2.2
def Chn.top {L:List Rl}{K:Nat->Bool}{y:Nat}:∀{st:List Nat}{n:Nat},Chn L K n (st++[y])->Ev L y/\1<=y/\dep L y+1<=n
 |[],0,h=>h.elim
 |[],n+1,h=>⟨h.1,h.2.1,by have:=h.2.2.1;omega⟩
 |z::st,0,h=>h.elim
 |z::st,n+1,h=>by
  obtain⟨a,b,c⟩:=Chn.top (st:=st) h.2.2.2.2;exact⟨a,b,oO⟩
def Chn.push {L:List Rl}{K:Nat->Bool}{y z l r:Nat}(hK:K y=false)(hl:256<Eg.len L y)(hg:L[y-1]?=some (.pair l r))(hdl:dep L l<dep L y)(hdr:dep L r<dep L y)(hz:z=l\/z=r)(ez:Ev L z)(h1:1<=z):
  ∀{st:List Nat}{n:Nat},Chn L K n (st++[y])->Chn L K n (st++[y]++[z])
 |[],0,h=>h.elim
 |[],n+1,h=>by
  obtain⟨a,b,c,d,e⟩:=h;refine⟨a,b,c,fun w hw=>?_,?_⟩
  ·cases hw
   exact⟨hK,hl,l,r,hg,hdl,hdr,hz⟩
  have hd:dep L z<dep L y:=by rcases hz with rfl|rfl<;>assumption
  obtain⟨m,rfl⟩:∃m,n=m+1:=⟨n-1,oO⟩;exact⟨ez,h1,oO,fun w hw=>(by cases hw),by cases m<;>trivial⟩
 |x::st,0,h=>h.elim
 |x::st,n+1,⟨a,b,c,d,e⟩=>⟨a,b,c,fun w hw=>d w (by cases st with |nil=>exact hw|cons p q=>exact hw),Chn.push hK hl hg hdl hdr hz ez h1 e⟩
def Chn.deep {L:List Rl}{K:Nat->Bool}{y:Nat}:∀{st:List Nat}{n x:Nat},Chn L K n (x::(st++[y]))->dep L y<dep L x
 |[],0,x,h=>h.elim
 |[],n+1,x,h=>by
  obtain⟨_,_,l,r,_,h1,h2,h3⟩:=h.2.2.2.1 y rfl;rcases h3 with rfl|rfl<;>assumption
 |z::st,0,x,h=>h.elim
 |z::st,n+1,x,h=>by
  obtain⟨_,_,l,r,_,h1,h2,h3⟩:=h.2.2.2.1 z rfl;have:=Chn.deep (st:=st) h.2.2.2.2;have:dep L z<dep L x:=by rcases h3 with rfl|rfl<;>assumption
  omega
def Chn.short {L:List Rl}{K:Nat->Bool}(hw:Wf L){y:Nat}:∀{st:List Nat}{n:Nat},Chn L K n (st++[y])->∀x,(st++[y]).head?=some x->Eg.len L y<=Eg.len L x
 |[],_,_,x,hx=>by cases hx;exact aj _
 |z::st,0,h,_,_=>h.elim
 |z::st,n+1,h,x,hx=>by
  cases hx
  obtain⟨u,hu⟩:∃u,(st++[y]).head?=some u:=by cases st with |nil=>exact⟨_,rfl⟩|cons p q=>exact⟨_,rfl⟩
  have h1:=Chn.short hw (st:=st) h.2.2.2.2 u hu;obtain⟨_,_,l,r,hg,_,_,h2⟩:=h.2.2.2.1 u hu;obtain⟨i,rfl⟩:∃i,z=i+1:=⟨z-1,by have:=h.2.1;omega⟩;have ht:=iC (by simpa using hg) (hw.ok _ _ (by simpa using hg));have hl:Eg.len L (i+1)=Eg.len L l+Eg.len L r:=by unfold Eg.len;rw[ht,ae]
  rcases h2 with rfl|rfl<;>omega
def Chn.learn {L:List Rl}{K K':Nat->Bool}{y:Nat}(hK:∀x,K' x=(K x||x==y)) (hy:K y=false) (hc:len L y<=256\/(256<Eg.len L y/\∃l r,L[y-1]?=some (.pair l r))):
  ∀{st:List Nat}{n:Nat},Chn L K n (st++[y])->Chn L K' n (st++[y])/\∀x,(st++[y]).head?=some x->rem L K' n x+(if len L y<=256 then 512 else 400)<=rem L K n x
 |[],0,h=>h.elim
 |[],n+1,h=>by
  obtain⟨a,b,c,d,e⟩:=h;refine⟨⟨a,b,c,fun w hw=>(by cases hw),by cases n<;>trivial⟩,fun x hx=>?_⟩;cases hx
  rw[sO (by rw[hK];simp)];rcases hc with hc|⟨hc,l,r,hg⟩
  ·rw[xZ hy hc,if_pos hc];omega
  rw[vE hy hc hg,if_neg oO];omega
 |x::st,0,h=>h.elim
 |x::st,n+1,h=>by
  have hd:=Chn.deep (st:=st) h;obtain⟨a,b,c,d,e⟩:=h;obtain⟨i1,i2⟩:=Chn.learn hK hy hc (st:=st) e;obtain⟨z,hz⟩:∃z,(st++[y]).head?=some z:=by cases st with |nil=>exact⟨_,rfl⟩|cons p q=>exact⟨_,rfl⟩
  obtain⟨k1,k2,l,r,hg,k3,k4,k5⟩:=d z hz;have hne:x≠y:=fun e=>by subst e;omega
  have k1':K' x=false:=by rw[hK,k1];simpa using hne
  refine⟨⟨a,b,c,fun w hw=>?_,i1⟩,fun w hw=>?_⟩
  ·have:w=z:=by
    have hw':(st++[y]).head?=some w:=hw;rw[hz]at hw';exact(mg hw').symm
   subst this;exact⟨k1',k2,l,r,hg,k3,k4,k5⟩
  cases hw
  rw[vE k1' k2 hg,vE k1 k2 hg];have m1:=qBl (L:=L) (K:=K) (K':=K') (fun x hx=>by rw[hK,hx];rfl) n l;have m2:=qBl (L:=L) (K:=K) (K':=K') (fun x hx=>by rw[hK,hx];rfl) n r;have m3:=i2 z hz;rcases k5 with rfl|rfl<;>omega
def Chn.cost_le {L:List Rl}{K:Nat->Bool}(hw:Wf L){st:List Nat}{n x y:Nat}(h:Chn L K n (st++[y]))(hK:K y=false)(hhd:∀z,(st++[y]).head?=some z->z=x):(if Eg.len L y<=256 then 512 else 400)<=rem L K n x:=by
 obtain⟨ey,h1,_⟩:=h.top
 have hc:Eg.len L y<=256\/(256<Eg.len L y/\∃l r,L[y-1]?=some (.pair l r)):=by
  rcases ed 256 (Eg.len L y)with h2|h2
  ·obtain⟨i,rfl⟩:∃i,y=i+1:=⟨y-1,oO⟩;rcases ey.rule hw with⟨b,hg,h0⟩|⟨l,r,hg,_⟩
   ·exfalso;have:Eg.len L (i+1)=1:=by unfold Eg.len;rw[fC hg];rfl
    omega
   exact .inr ⟨h2,l,r,by simpa using hg⟩
  exact .inl h2
 obtain⟨z,hz⟩:∃z,(st++[y]).head?=some z:=by cases st with |nil=>exact⟨_,rfl⟩|cons p q=>exact⟨_,rfl⟩
 obtain rfl:=hhd z hz;have:=(h.learn (K':=fun x=>K x||x==y) (fun _=>rfl) hK hc).2 z hz;omega
end Eg
namespace Go.Proofs.YtejcjelmpbkcbaaGreatDoor
section
open Go Eg
structure TMk where
 kd:Int
 a:Int
 b:Int
 n:Int
 m:Int
 t:List UInt8
def TMk.txA (x:TMk)(ts:List (List UInt8)):List UInt8:=ts.getD (pick x.a ts.length) []
def TMk.txB (x:TMk)(ts:List (List UInt8)):List UInt8:=ts.getD (pick x.b ts.length) []
def pln (ts:List (List UInt8))(x:TMk):Option (List UInt8):=
 if pick x.kd 6=0\/ts=[]then(if x.t.length<=60 then some x.t else none)
 else if pick x.kd 6=1 then(if(x.txA ts).length+(x.txB ts).length<=400 then some (x.txA ts++x.txB ts)else none)
 else if pick x.kd 6=2\/pick x.kd 6=5 then(if pick x.n 7*(x.txA ts).length<=400 then some (Eg.rep (pick x.n 7) (x.txA ts))else none)
 else if pick x.kd 6=3 then some (((x.txA ts).drop (pick x.n ((x.txA ts).length+1))).take (pick x.m ((x.txA ts).length-pick x.n ((x.txA ts).length+1)+1)))
 else some ((x.txA ts).drop (pick x.n ((x.txA ts).length+1))++(x.txA ts).take (pick x.n ((x.txA ts).length+1)))
def qOw {ts:List (List UInt8)}(h:∀t∈ts,t.length<=400) (x:TMk):(x.txA ts).length<=400:=by
 unfold TMk.txA;rw[jg];cases hg:ts[pick x.a ts.length]? with
 |none=>exact au _
 |some t=>exact h t (ak hg)
def qZc {ts:List (List UInt8)}(h:∀t∈ts,t.length<=400) (x:TMk):(x.txB ts).length<=400:=by
 unfold TMk.txB;rw[jg];cases hg:ts[pick x.b ts.length]? with
 |none=>exact au _
 |some t=>exact h t (ak hg)
def pln_len {ts:List (List UInt8)}(h:∀t∈ts,t.length<=400) {x:TMk} {t:List UInt8} (hp:pln ts x=some t):t.length<=400:=by
 have ha:=qOw h x;unfold pln at hp;split at hp
 ·split at hp
  ·cases hp;omega
  cases hp
 split at hp
 ·split at hp
  ·cases hp;rw[ae];assumption
  cases hp
 split at hp
 ·split at hp
  ·cases hp;rw[Eg.rep_length];assumption
  cases hp
 split at hp
 ·cases hp;rw[fw,ni];omega
 cases hp;rw[ae,fw,ni];omega
def plns (ts:List (List UInt8)):List TMk->List (List UInt8)
 |[]=>ts
 |x::l=>match pln ts x with
  |none=>plns ts l
  |some t=>plns (ts++[t]) l
def qDl {x:TMk}:∀(l:List TMk)(ts:List (List UInt8)),plns ts (l++[x])=match pln (plns ts l) x with
  |none=>plns ts l
  |some t=>plns ts l++[t]
 |[],ts=>by simp only[plns,jy]
 |y::l,ts=>by
  simp only[jq,plns];cases pln ts y with
  |none=>exact qDl l ts
  |some t=>exact qDl l (ts++[t])
def qBj:∀(l:List TMk)(ts:List (List UInt8)),(plns ts l).length<=ts.length+l.length
 |[],ts=>aj _
 |y::l,ts=>by
  unfold plns;cases pln ts y with
  |none=>have:=qBj l ts;simp only[bf];omega
  |some t=>have:=qBj l (ts++[t]);simp only[bf,ae,dz]at this ⊢;omega
def vD:∀(l:List TMk)(ts:List (List UInt8)),(∀t∈ts,t.length<=400)->∀t∈plns ts l,t.length<=400
 |[],ts,h=>h
 |y::l,ts,h=>by
  unfold plns;cases hp:pln ts y with
  |none=>exact vD l ts h
  |some t=>
   refine vD l (ts++[t]) fun u hu=>?_
   rcases bi.1 hu with hu|hu
   ·exact h u hu
   rw[az.1 hu]
   exact pln_len h hp
def tsC (ts:List (List UInt8)):List Value:=ts.map fun t=> .string ⟨⟨t⟩⟩
def qYz (ts:List (List UInt8)):(tsC ts).length=ts.length:=ic _
def tsC_at {ts:List (List UInt8)}{i:Nat}{t:List UInt8}(h:ts[i]?=some t):(tsC ts)[i]?=some (.string ⟨⟨t⟩⟩):=by simp[tsC,h]
def tsC_snoc (ts:List (List UInt8))(t:List UInt8):tsC (ts++[t])=tsC ts++[.string ⟨⟨t⟩⟩]:=by simp[tsC]
def mkV (x:TMk):List Value:=[.int .i64 x.kd,.int .i64 x.a,.int .i64 x.b,.int .i64 x.n,.int .i64 x.m,.string ⟨⟨x.t⟩⟩]
def mkVs (l:List TMk):List Value:=l.flatMap mkV
structure TMk.ok (x:TMk):Prop where
 kd: -9223372036854775808<=x.kd/\x.kd<=9223372036854775807
 a: -9223372036854775808<=x.a/\x.a<=9223372036854775807
 b: -9223372036854775808<=x.b/\x.b<=9223372036854775807
 n: -9223372036854775808<=x.n/\x.n<=9223372036854775807
 m: -9223372036854775808<=x.m/\x.m<=9223372036854775807
end
section
open Go Go.RowKit Sl Eg
set_option maxRecDepth 10000
variable {E:Env}
def qFk (hE:Seat E){n:Nat}(h:n<=dC):Ct E 182 [.int .i64 (n:Nat)] [] (fun v Q=>v= .bool true/\Q=[]):=by
 apply vP;intro w;rw[hE.P];exact jK n w h
def ct_lnAdd (hE:Seat E){a b:Nat}(h:a+b<=dC):Ct E 132 [.int .i64 (a:Nat),.int .i64 (b:Nat)] [] (fun v Q=>v= .tuple #[.int .i64 ((a+b:Nat):Int),.nilIface]/\Q=[]):=by
 apply vP;intro w;rw[hE.P];exact uG a b w h
def ct_lnMul (hE:Seat E){a k:Nat}(h:a*k<=1000000000)(ha:a<=1000000000)(hk:k<=1000000000):Ct E 135 [.int .i64 (a:Nat),.int .i64 (k:Nat)] [] (fun v Q=>v= .tuple #[.int .i64 ((a*k:Nat):Int),.nilIface]/\Q=[]):=by
 have hmx:dC=1152921504606846976:=rfl;have hc:((a*k:Nat):Int)=(a:Int)*(k:Int):=om a k;refine bO (hE.fn Tryz.func135) O O O (fun R=>?_);simp only[dQ,uV,uW];refine gg10 ?_;refine uX (qFk hE oO) O ?_;rintro _ _⟨rfl,rfl⟩;simp only[uV,uW];refine gg9 ?_;refine bE O (fun g1=>?_) (fun g1=>?_)
 ·exfalso;omega
 refine gg9 ?_;refine bE O (fun g2=>?_) (fun g2=>?_)
 ·have h0:a=0:=oO;subst h0;refine gg8 ?_;exact uZ O (.tmp O (.tmp O .nil)) ⟨by simp[one],rfl⟩
 have ha1:(1:Int)<=(a:Int):=oO
 have hq:(1000000000:Int)<=1152921504606846976/(a:Int):=by
  rw[Int.le_ediv_iff_mul_le oO];omega
 refine gg11 ?_;refine bE O (fun g3=>?_) (fun g3=>?_)
 ·exfalso;omega
 refine gg12 ?_;rw[<-hc];exact uZ O (.tmp O (.tmp O .nil)) ⟨O,O⟩
def ct_lnRng (hE:Seat E){f n l:Nat}(hl:l<=1000000000)(h:f+n<=l):Ct E 138 [.int .i64 (f:Nat),.int .i64 (n:Nat),.int .i64 (l:Nat)] [] (fun v Q=>v= .nilIface/\Q=[]):=by
 have hmx:dC=1152921504606846976:=rfl;refine bO (hE.fn Tryz.func138) O O O (fun R=>?_);simp only[dQ,uV,uW];refine gg9 ?_;refine uX (qFk (n:=l) hE oO) O ?_;rintro _ _⟨rfl,rfl⟩;simp only[uV,uW];refine gg8 ?_;refine dU 14 O (fun h1=>?_) (fun h1=>?_)
 ·exfalso;omega
 refine gg6 ?_;refine dU 18 O (fun h2=>?_) (fun h2=>?_)
 ·exfalso;omega
 refine gg8 ?_;refine dU 23 O (fun h3=>?_) (fun h3=>?_)
 ·exfalso;omega
 refine gg13 ?_;refine bE O (fun h4=>?_) (fun h4=>?_)
 ·exfalso;omega
 refine gg8 ?_;exact uZ O (.tmp O .nil) ⟨O,O⟩
end
end Go.Proofs.YtejcjelmpbkcbaaGreatDoor
namespace Sl
open Go Go.RowKit
def nX {α β:Type}{f:α->β}:∀{l:List α},(l.map f).Nodup->∀{a b:α},a∈l->b∈l->f a=f b->a=b
 |[],_,_,_,h,_,_=>by cases h
 |x::l,hn,a,b,ha,hb,e=>by
  have hn':=wm.1 hn;rcases jo.1 ha with rfl|ha'<;>rcases jo.1 hb with rfl|hb'
  ·rfl
  ·exact absurd (dw.2 ⟨b,hb',e.symm⟩) hn'.1
  ·exact absurd (dw.2 ⟨a,ha',e⟩) hn'.1
  exact nX hn'.2 ha' hb' e
def qGb:∀{M:List (Int×Value)},(M.map (·.1)).Nodup->∀{p},p∈M->M.lookup p.1=some p.2
 |[],_,p,h=>by cases h
 |(a,b)::M,hn,p,h=>by
  have hn':=wm.1 hn;rcases jo.1 h with rfl| h
  ·simp[List.lookup]
  have e:(p.1==a)=false:=by
   simp only[beq_eq_false_iff_ne];intro e;exact hn'.1 (dw.2 ⟨p,h,e⟩)
  simp only[List.lookup,e];exact qGb hn'.2 h
def qGc {k:Int}{v:Value}:∀{M:List (Int×Value)},M.lookup k=some v->(k,v)∈M
 |[],h=>by cases h
 |(a,b)::M,h=>by
  by_cases e:k=a
  ·subst e;simp[List.lookup]at h;subst h;exact oM
  have e':(k==a)=false:=by simpa using e
  simp only[List.lookup,e']at h;exact oJ _ (qGc h)
variable {ki:IntKind}{es:List MapEntry}{c:Nat}{M:List (Int×Value)}
def Mp.mem (h:Mp ki es c M){e:MapEntry}(he:e∈es):∃k,e.key= .int ki k/\M.lookup k=some e.val:=by
 have h1:(e.key,e.val)∈prs ki M:=by rw[<-h.is];exact dw.2 ⟨e,he,rfl⟩
 obtain⟨p,hp,e1⟩:=dw.1 h1;simp only[Prod.mk.injEq]at e1;exact⟨p.1,e1.1.symm,by rw[<-e1.2];exact qGb h.keys hp⟩
def Mp.has (h:Mp ki es c M){k:Int}{v:Value}(hl:M.lookup k=some v):∃e∈es,e.key= .int ki k/\e.val=v:=by
 have h1:(Value.int ki k,v)∈ents es:=by rw[h.is];exact dw.2 ⟨(k,v),qGc hl,rfl⟩
 obtain⟨e,he,e1⟩:=dw.1 h1;simp only[Prod.mk.injEq]at e1;exact⟨e,he,e1.1,e1.2⟩
def Mp.keys' (h:Mp ki es c M):(es.map (·.key)).Nodup:=by
 have e1:es.map (·.key)=(M.map (·.1)).map (Value.int ki):=by
  have:=bg (List.map Prod.fst) h.is;simpa[ents,prs,nz,Function.comp_def]using this
 rw[e1,oG,ww];exact(oG.1 h.keys).imp fun hne e=>hne (by injection e)
def rngF (r b:Nat)(ki:IntKind)(f:Int->Option Value)(done:Int->Bool):HP:=fun h=>∃(es:Array MapEntry)(c:Nat)(M:List (Int×Value))(since c0:Nat)(seen:Array Nat),
 dS [pt r (.mapIter (some b) since seen c0),pt b (.map es c)] h/\Mp ki es.toList c M/\(∀k,M.lookup k=f k)/\(∀e∈es.toList,e.born<since)/\since<=c0/\since<=c/\∀e∈es.toList,∀k,e.key= .int ki k->seen.contains e.born=done k
def rng_map {r b:Nat}{ki:IntKind}{f:Int->Option Value}{done:Int->Bool}{h:PH}(x:rngF r b ki f done h):mapF b ki f h:=by
 obtain⟨es,c,M,since,c0,seen,⟨a1,a2,d,e,_,a3,a4,d',e',hp,_⟩,h1,h2,_⟩:=x;refine⟨es,c,M,?_,h1,h2⟩;show h b=_;rw[e];refine kF d ?_;rw[e'];exact qK hp
def rngE (r b:Nat)(ki:IntKind)(f:Int->Option Value)(done:Int->Bool)(k:Int)(v:Value):HP:=fun h=>∃(es:Array MapEntry)(c:Nat)(M:List (Int×Value))(since:Nat)(seen:Array Nat)(e1:MapEntry),
 dS [pt r (.mapIter (some b) since (seen.push e1.born) c),pt b (.map es c)] h/\Mp ki es.toList c M/\(∀k,M.lookup k=f k)/\(∀e∈es.toList,e.born<since)/\since<=c/\(∀e∈es.toList,∀k,e.key= .int ki k->(seen.push e1.born).contains e.born=done k)/\e1∈es.toList/\e1.key= .int ki k/\e1.val=v
def rngE_F {r b:Nat}{ki:IntKind}{f:Int->Option Value}{done:Int->Bool}{k:Int}{v:Value}{h:PH}(x:rngE r b ki f done k v h):rngF r b ki f done h:=by
 obtain⟨es,c,M,since,seen,e1,hs,m1,m2,m3,m4,m5,_⟩:=x;exact⟨es,c,M,since,c,seen.push e1.born,hs,m1,m2,m3,m4,m4,m5⟩
def qQo {P:Program}{w:World}{ty:TypeId}{r b since c0 c:Nat}{seen:Array Nat}{es:Array MapEntry}(hr:w.heap[r]?=some (.mapIter (some b) since seen c0))(hb:w.heap[b]?=some (.map es c))(hold:∀x∈es.toList,x.born<since) (hsc:since<=c0):
  ((∀e∈es.toList,seen.contains e.born=true)/\(Instr.next (.pointer (some ⟨r,0,none⟩)) false ty).run P w= .ok (.tuple #[.bool false]) w)\/
  ∃e∈es.toList,seen.contains e.born=false/\∃w1:World,(w1=w\/w1=w.drew)/\(Instr.next (.pointer (some ⟨r,0,none⟩)) false ty).run P w= .ok (.tuple #[.bool true,e.key,e.val]) (ChangeMaps.setBlock w1 r (.mapIter (some b) since (seen.push e.born) c)):=by
 simp only[Instr.next,getObj,Sem.run_bind,Sem.run,hr,hb,Result.andThen,next_test_false seen es since c0 hold hsc,oL,if_false];have hmem:∀x,x∈(Array.filter (fun e=>!seen.contains e.born) es).toList->x∈es.toList/\seen.contains x.born=false:=fun x hx=>by simpa using hx
 have hall:(Array.filter (fun e=>!seen.contains e.born) es).size=0->∀e∈es.toList,seen.contains e.born=true:=fun h0 e he=>by
  cases hc:seen.contains e.born with
  |true=>rfl
  |false=>
   have h1:e∈Array.filter (fun e=>!seen.contains e.born) es:=Array.mem_filter.2 ⟨by simpa using he,by rw[hc];rfl⟩
   obtain⟨i,hi,_⟩:=Array.mem_iff_getElem.1 h1
   omega
 generalize Array.filter (fun e=>!seen.contains e.born) es=Lf at hmem hall ⊢;have e1:Lf.filter (fun x=>decide (x.born<since))=Lf:=Array.filter_eq_self.2 (fun x hx=>by simpa using hold x (hmem x (by simpa using hx)).1)
 have e2:Lf.filter (fun x=>decide (x.born≥since))= #[]:=by
  rw[Array.filter_eq_empty_iff];intro x hx;have:=hold x (hmem x (by simpa using hx)).1;simp;omega
 simp only[e1,e2,Array.append_empty];by_cases h0:Lf.size=0
 ·left;refine⟨hall h0,?_⟩;have:Lf= #[]:=Array.eq_empty_of_size_eq_zero h0;subst this;simp[choose,Sem.run,Question.forced]
 right;have hne:Lf.isEmpty=false:=by simp[Array.isEmpty,h0]
 simp only[hne,oL,if_false,Array.empty_append,Array.size_map]
 have hch:∃(j:Nat)(w1:World),j<Lf.size/\(w1=w\/w1=w.drew)/\(choose (Question.mapNext Lf.size)).run P w= .ok j w1:=by
  by_cases hf:Lf.size<=1
  ·exact⟨0,w,oO,.inl O,by simp[choose,Sem.run,Question.forced,hf]⟩
  exact⟨_,w.drew,qz _ oO,.inr O,by
   simp only[choose,Sem.run,Question.forced,decide_eq_true_eq,hf,if_false,Question.cut];rfl⟩
 obtain⟨j,w1,hj,hal,hrun⟩:=hch;have h3:=hmem Lf[j] (by simp);refine⟨Lf[j],h3.1,h3.2,w1,hal,?_⟩
 have hr1:w1.heap[r]?=some (.mapIter (some b) since seen c0):=by
  rcases hal with rfl|rfl
  ·exact hr
  exact hr
 simp only[hrun,Array.getElem?_map,Array.getElem?_eq_getElem hj,ru,Sem.run_bind,Result.andThen,setObj,Sem.run];rw[hr1];rfl
variable {E:Env}{n:Nat}{L:Fr}{S S' H H':List HP}{ty:TypeId}{pos:String}{af:Array Edge}{d:Option Nat}{gd:Option (Nat×Bool)}{K:Value->List HP->Prop}
def ld_range {x:Operand}{b:Nat}{t kt et:TypeId}{ki:IntKind}{f:Int->Option Value}(ht:E.P.underlying t=some (.map kt et))(hx:ev L x=some (.map (some b)))(hm:Take (mapF b ki f) H H')(hk:∀r,K (.pointer (some ⟨r,0,none⟩)) (rngF r b ki f (fun _=>false)::H')):Ld E n L H ⟨d,.range t x,ty,pos,af,gd⟩ K:=fun Q next a w g hn=>by
 obtain⟨es,c,M,hh,he,hf,s1⟩:=qDw (g.hp.take hm)
 have hrun:(execOp a.eval ⟨d,.range t x,ty,pos,af,gd⟩).run E.P w= .ok (.value (.pointer (some ⟨w.heap.size,0,none⟩))) (w.alloc (.mapIter (some b) c #[] c)):=by
  simp[execOp,g.f.ev hx,run_range_map w t kt et b es c ht hh]
 unfold Oper.wp;rw[hrun,Oper.upon_value];refine hn _ _ _ (hk _) ((s1.new (.mapIter (some b) c #[] c)).imp fun k h=>?_);refine kY (ps:=[pt w.heap.size (.mapIter (some b) c #[] c),pt b (.map es c)]) (fun h' hs=>?_) h;exact⟨es,c,M,c,c,#[],hs,he,hf,he.old,aj _,aj _,fun e _ k _=>by simp⟩
def ld_next {x:Operand}{r b:Nat}{ki:IntKind}{f:Int->Option Value}{done:Int->Bool}(hx:ev L x=some (.pointer (some ⟨r,0,none⟩)))(hm:Take (rngF r b ki f done) H H')(h0:(∀k v,f k=some v->done k=true)->K (.tuple #[.bool false]) (rngF r b ki f done::H'))
  (h1:∀k v,f k=some v->done k=false->K (.tuple #[.bool true,.int ki k,v]) (rngE r b ki f (fun x=>x==k||done x) k v::H')):Ld E n L H ⟨d,.next x false,ty,pos,af,gd⟩ K:=fun Q next a w g hn=>by
 have s0:=g.hp.take hm;obtain⟨q1,q2,dd,e,⟨es,c,M,since,c0,seen,hs,m1,m2,m3,m4,m5,m6⟩,hr⟩:=s0.hp;have s1:Sat E.w0 w (pt r (.mapIter (some b) since seen c0)::pt b (.map es c)::H'):=⟨s0.os,s0.tape,s0.output,s0.size,s0.old,by rw[e];exact kX hs hr dd⟩;have hr1:=s1.ptr.1;have hb1:=(s1.imp fun _=>gD).ptr.1;have hlt:r<w.heap.size:=(gz.1 hr1).1
 have hpack:∀(seen':Array Nat)(c1:Nat)(done':Int->Bool),since<=c1->(∀e∈es.toList,∀k,e.key= .int ki k->seen'.contains e.born=done' k)->∀k,dS (pt r (.mapIter (some b) since seen' c1)::pt b (.map es c)::H') k->dS (rngF r b ki f done'::H') k:=fun seen' c1 done' g1 g2 k h=>by
  refine kY (ps:=[pt r (.mapIter (some b) since seen' c1),pt b (.map es c)]) (fun h' hs'=>?_) h;exact⟨es,c,M,since,c1,seen',hs',m1,m2,m3,g1,m5,g2⟩
 rcases qQo (P:=E.P) (ty:=ty) hr1 hb1 m3 m4 with⟨hall,hrun⟩|⟨e1,he1,hs1,w1,hw1,hrun⟩
 ·have hrun':(execOp a.eval ⟨d,.next x false,ty,pos,af,gd⟩).run E.P w= .ok (.value (.tuple #[.bool false])) w:=by
   simp[execOp,g.f.ev hx,hrun]
  unfold Oper.wp;rw[hrun',Oper.upon_value];refine hn _ _ _ (h0 fun k v hk=>?_) (s1.imp (hpack seen c0 done m4 m6));obtain⟨e2,he2,hk2,_⟩:=m1.has ((m2 k).trans hk);rw[<-m6 e2 he2 k hk2];exact hall e2 he2
 have hrun':(execOp a.eval ⟨d,.next x false,ty,pos,af,gd⟩).run E.P w= .ok (.value (.tuple #[.bool true,e1.key,e1.val])) (ChangeMaps.setBlock w1 r (.mapIter (some b) since (seen.push e1.born) c)):=by
  simp[execOp,g.f.ev hx,hrun]
 unfold Oper.wp;rw[hrun',Oper.upon_value];obtain⟨k1,hk1,hl1⟩:=m1.mem he1;rw[hk1]
 have sw:Sat E.w0 w1 (pt r (.mapIter (some b) since seen c0)::pt b (.map es c)::H'):=by
  rcases hw1 with rfl|rfl
  ·exact s1
  exact s1.drew
 have hz:w1.heap.size=w.heap.size:=by rcases hw1 with rfl|rfl<;>rfl
 have sx:Sat E.w0 (ChangeMaps.setBlock w1 r (.mapIter (some b) since (seen.push e1.born) c)) (pt r (.mapIter (some b) since (seen.push e1.born) c)::pt b (.map es c)::H'):=sw.write ⟨O,O,O,by simp[ChangeMaps.setBlock]⟩ (by simp[ChangeMaps.setBlock,hz,hlt]) fun j hj=>by
  simp only[ChangeMaps.setBlock];rw[mr (by intro e;exact hj e.symm)]
 refine hn _ _ _ (h1 k1 e1.val ((m2 k1).symm.trans hl1) (by rw[<-m6 e1 he1 k1 hk1];exact hs1)) (sx.imp fun k0 h0=>kY (ps:=[pt r (.mapIter (some b) since (seen.push e1.born) c),pt b (.map es c)]) (fun h' hs'=>⟨es,c,M,since,seen,e1,hs',m1,m2,m3,m5,fun e2 he2 k hk2=>?_,he1,hk1,O⟩) h0);rw[Array.contains_push,m6 e2 he2 k hk2];show _=(k==k1||done k);by_cases hkk:k=k1
 ·subst hkk;have:e2=e1:=nX m1.keys' he2 he1 (hk2.trans hk1.symm);subst this;simp
 have hbb:(e2.born==e1.born)=false:=by
  simp only[beq_eq_false_iff_ne];intro hb2;have:=nX m1.born he2 he1 hb2;subst this;rw[hk1]at hk2;injection hk2 with _ hk3;exact hkk hk3.symm
 have hkb:(k==k1)=false:=by simpa using hkk
 rw[hbb,hkb,AZ,Aa]
def y_entry {x:Operand}{r b:Nat}{ki:IntKind}{f:Int->Option Value}{done:Int->Bool}{k:Int}{v:Value}(hx:ev L x=some (.pointer (some ⟨r,0,none⟩)))(hm:Take (rngE r b ki f done k v) S S'):Yl E n L S ⟨d,.entry x,ty,pos,af,gd⟩ (.tuple #[.int ki k,v]):=fun a w g s=>by
 have s0:=s.take hm;obtain⟨q1,q2,dd,e,⟨es,c,M,since,seen,e1,hs,m1,m2,m3,m4,m5,he1,hk1,hv1⟩,hr⟩:=s0.hp;have s1:Sat E.w0 w (pt r (.mapIter (some b) since (seen.push e1.born) c)::pt b (.map es c)::S'):=⟨s0.os,s0.tape,s0.output,s0.size,s0.old,by rw[e];exact kX hs hr dd⟩;have hr1:=s1.ptr.1;have hb1:=(s1.imp fun _=>gD).ptr.1
 have hf:es.find? (fun e=>e.born==e1.born)=some e1:=by
  cases h:es.find? (fun e=>e.born==e1.born)with
  |none=>
   have h2:=Array.find?_eq_none.1 h e1 (uz.1 he1)
   simp at h2
  |some e2=>
   have h2:=Array.find?_some h
   have h3:=ze h
   have:e2=e1:=nX m1.born (uz.2 h3) he1 (by simpa using h2)
   rw[this]
 simp[execOp,g.ev hx,Instr.entry,getObj,Sem.run_bind,Sem.run,hr1,hb1,Result.andThen,Array.back?_push,hf,hk1,hv1]
end Sl
