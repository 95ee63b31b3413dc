import Derived.Test.YtejcjelmpbkcbaaGreatDoorQ73
import Derived.Test.YtejcjelmpbkcbaaGreatDoorQ78
import Derived.Laws.IdiomRangeMap
import Derived.OwnWalkIn
import Derived.RangeFuncRecord
import Derived.RangeFuncSeq
import Derived.TacticsIn
set_option linter.all false
set_option maxHeartbeats 1000000
namespace Go.Proofs.YtejcjelmpbkcbaaGreatDoor
open Go Go.RowKit Sl Eg
set_option maxRecDepth 10000
variable {E:Env}{Es:List Ent}{s most:Nat}
def yF (S:List Nat):Int→Option Value:=fun x=>if S.any (fun n=>x==(n:Int))then some (.bool true)else none
def seenF_in {S:List Nat}{x:Nat}(h:x∈S):yF S (x:Nat)=some (.bool true):=by
 unfold yF;rw[if_pos (List.any_eq_true.2 ⟨x,h,by simp⟩)]
def qYm {S:List Nat}{x:Nat}(h:x∉S):yF S (x:Nat)=none:=by
 unfold yF;rw[if_neg];intro e;obtain⟨n,hn,e⟩:=List.any_eq_true.1 e;have:(x:Int)=n:=by simpa using e
 obtain rfl:x=n:=by omega
 exact h hn
def qMf (S:List Nat)(x:Nat):setF (yF S) (x:Nat) (.bool true)=yF (S++[x]):=by
 funext y;unfold setF yF;rw[List.any_append];by_cases h:y=(x:Int)
 ·subst h;simp
 rw[if_neg h];simp[h]
structure RchI (L:List Rl)(id i:Nat)(S:List Nat):Prop where
 ib:i≤S.length
 hd:S[0]?=some id
 nd:S.Nodup
 rch:∀x∈S,Rea L id x
 done:∀(t x:Nat)(r:Rl),t<i→S[t]?=some x→L[x-1]?=some r→∀k∈kids r,k∈S
def Rea.le {L:List Rl}{k x:Nat}(h:Rea L k x):1≤x∧x≤L.length:=by
 induction h with
 |self h=>exact⟨oO,h⟩
 |kid _ _ _ ih=>exact ih
def Rea.step {L:List Rl}{k n z:Nat}{r:Rl}(h:Rea L k (n+1))(hr:L[n]?=some r)(hz:z∈kids r)(hw:Wf L):Rea L k z:=by
 have hzk:=nD (hw.ok n r hr) z hz;have hn:=(ae.1 hr).1;obtain⟨m,rfl⟩:∃m,z=m+1:=⟨z-1,oO⟩;generalize hx:n+1=x at h;induction h with
 | @self a ha=>
  obtain rfl:n=a:=by omega
  exact .kid hr hz (.self oO)
 |kid h1 h2 _ ih=>exact .kid h1 h2 (ih hx)
def RchI.start {L:List Rl}{id:Nat}(h1:1≤id)(h2:id≤L.length):RchI L id 0 [id]:=by
 obtain⟨n,rfl⟩:∃n,id=n+1:=⟨id-1,oO⟩;exact⟨au _,O,by simp,fun x hx=>by rw[bg.1 hx];exact .self h2,fun t x r h=>by omega⟩
def RchI.more {L:List Rl}(hw:Wf L){id i:Nat}{S:List Nat}(h:RchI L id i S){x z:Nat}{r:Rl}(hx:x∈S)(hr:L[x-1]?=some r)(hz:z∈kids r)(hn:z∉S):RchI L id i (S++[z]):=by
 have hxb:=(h.rch x hx).le;refine⟨by have:=h.ib;rw[aa];omega,by rw[ak (ae.1 h.hd).1];exact h.hd,oH.2 ⟨h.nd,by simp,fun a ha b hb=>by rw[bg.1 hb];exact fun e=>hn (e▸ha)⟩,fun y hy=>?_,fun t y q ht hy hq k hk=>?_⟩
 ·rcases bn.1 hy with hy|hy
  ·exact h.rch y hy
  rw[bg.1 hy];obtain⟨n,rfl⟩:∃n,x=n+1:=⟨x-1,oO⟩;exact(h.rch _ hx).step hr hz hw
 rw[ak (by have:=h.ib;omega)]at hy;exact fu _ (h.done t y q ht hy hq k hk)
def RchI.next {L:List Rl}{id i:Nat}{S:List Nat}(h:RchI L id i S){x:Nat}{r:Rl}(hx:S[i]?=some x)(hr:L[x-1]?=some r)(hk:∀k∈kids r,k∈S):RchI L id (i+1) S:=
 ⟨(ae.1 hx).1,h.hd,h.nd,h.rch,fun t y q ht hy hq k hkk=>by
   rcases ed t i with hl|hl
   ·exact h.done t y q hl hy hq k hkk
   obtain rfl:t=i:=by omega
   rw[hx]at hy;cases hy
   rw[hr]at hq;cases hq
   exact hk k hkk⟩
def RchI.all {L:List Rl}{id:Nat}{S:List Nat}(h:RchI L id S.length S)(x:Nat):x∈S↔Rea L id x:=by
 refine⟨h.rch x,fun hr=>?_⟩;have hid:id∈S:=ay h.hd;refine hr.inside (fun n r hn hl k hk=>?_) hid;obtain⟨t,ht⟩:=kg hn;exact h.done t _ r (ae.1 ht).1 ht (by simpa using hl) k hk
def RchI.len {L:List Rl}{id i:Nat}{S:List Nat}(h:RchI L id i S):S.length≤L.length:=
 AccOk.len ⟨h.nd,fun x hx=>(h.rch x hx).le⟩
end Go.Proofs.YtejcjelmpbkcbaaGreatDoor
namespace Eg
def rem (L:List Rl)(K:Nat→Bool):Nat→Nat→Nat
 |0,_=>0
 |n+1,x=>if K x then 0 else if len L x≤256 then 512 else match L[x-1]? with
  |some (.pair l r)=>rem L K n l+rem L K n r+400
  |_=>0
def tH {L:List Rl}{K:Nat→Bool}{n x:Nat}(h:K x=true):rem L K n x=0:=by
 cases n with
 |zero=>rfl
 |succ n=>unfold rem;rw[if_pos h]
def yA {L:List Rl}{K:Nat→Bool}{n x:Nat}(h:K x=false)(hl:len L x≤256):rem L K (n+1) x=512:=by
 unfold rem;rw[if_neg (by simp[h]),if_pos hl]
def vN {L:List Rl}{K:Nat→Bool}{n x l r:Nat}(h:K x=false)(hl:256<len L x)(hg:L[x-1]?=some (.pair l r)):rem L K (n+1) x=rem L K n l+rem L K n r+400:=by
 rw[rem,if_neg (by simp[h]),if_neg oO,hg]
def qMa {L:List Rl}{K:Nat→Bool}{n x:Nat}(hl:len L x≤256):rem L K n x≤512:=by
 cases n with
 |zero=>exact au _
 |succ n=>unfold rem;split <;>simp[hl]
def rem_le {L:List Rl}(hw:Wf L){K:Nat→Bool}:∀(n x:Nat),Ev L x→len L x≤400→rem L K n x≤912*n+512:=by
 intro n;induction n with
 |zero=>exact fun x _ _=>au _
 |succ n ih=>
  intro x hx hl
  cases hK:K x with
  |true=>rw[tH hK];exact au _
  |false=>
   rcases ed 256 (len L x)with h| h
   ·obtain⟨i,rfl⟩:∃i,x=i+1:=⟨x-1,by
     rcases jr x with rfl|h'
     ·rw[qQe]at h;omega
     omega⟩
    rcases hx.rule hw with⟨b,hg,h0⟩|⟨l,r,hg,h1,h2,h3,h4,el,er,hdp,hlr,hrl,ht⟩
    ·have:len L (i+1)=1:=by unfold len;rw[gN hg];rfl
     omega
    have hlen:len L (i+1)=len L l+len L r:=by unfold len;rw[ht,aa]
    rw[vN hK h (by simpa using hg)]
    rcases ed 256 (len L l)with h'|h'
    ·have a1:=ih l el oO
     have a2:=qMa (K:=K) (n:=n) (x:=r) (L:=L) oO
     omega
    have a1:=ih r er oO
    have a2:=qMa (K:=K) (n:=n) (x:=l) (L:=L) h'
    omega
   rw[yA hK h];omega
def qBf {L:List Rl}{K K':Nat→Bool}(hK:∀x,K x=true→K' x=true):∀(n x:Nat),rem L K' n x≤rem L K n x:=by
 intro n;induction n with
 |zero=>exact fun x=>ai _
 |succ n ih=>
  intro x
  cases h':K' x with
  |true=>rw[tH h'];exact au _
  |false=>
   have h:K x=false:=by
    cases h:K x with
    |false=>rfl
    |true=>rw[hK x h]at h';cases h'
   have e1:∀K:Nat→Bool,K x=false→rem L K (n+1) x=if len L x≤256 then 512 else match L[x-1]? with
     |some (.pair l r)=>rem L K n l+rem L K n r+400
     |_=>0:=fun K h=>by rw[rem,if_neg (by simp[h])]
   rw[e1 K h,e1 K' h']
   by_cases hl:len L x≤256
   ·rw[if_pos hl,if_pos hl]
    exact ai _
   rw[if_neg hl,if_neg hl]
   rcases L[x-1]? with _|(b|⟨l,r⟩|⟨y,k⟩)
   ·exact ai _
   ·exact ai _
   ·have a1:=ih l
    have a2:=ih r
    show rem L K' n l+rem L K' n r+400≤rem L K n l+rem L K n r+400
    omega
   exact ai _
def Chn (L:List Rl)(K:Nat→Bool):Nat→List Nat→Prop
 |_,[]=>True
 |0,_::_=>False
 |n+1,x::st=>Ev L x∧1≤x∧dep L x≤n∧(∀y,st.head?=some y→K x=false∧256<len L x∧∃l r,L[x-1]?=some (.pair l r)∧dep L l<dep L x∧dep L r<dep L x∧(y=l∨y=r))∧Chn L K n st
def Chn.cnt {L:List Rl}{K:Nat→Bool}:∀{st:List Nat}{n:Nat},Chn L K n st→st.length≤n
 |[],n,_=>au _
 |x::st,0,h=>h.elim
 |x::st,n+1,h=>by have:=Chn.cnt h.2.2.2.2;simp only[av];omega
def Chn.pop {L:List Rl}{K:Nat→Bool}{y:Nat}:∀{st:List Nat}{n:Nat},Chn L K n (st++[y])→Chn L K n st
 |[],n,_=>by cases n<;>trivial
 |x::st,0,h=>h.elim
 |x::st,n+1,⟨h1,h2,h3,h4,h5⟩=>⟨h1,h2,h3,fun z hz=>h4 z (by cases st with |nil=>cases hz|cons a b=>exact hz),Chn.pop h5⟩
def Chn.last {L:List Rl}{K:Nat→Bool}{x y:Nat}:∀{st:List Nat}{n:Nat},Chn L K n (st++[x]++[y])→K x=false
 |[],0,h=>h.elim
 |[],n+1,h=>(h.2.2.2.1 y rfl).1
 |z::st,0,h=>h.elim
 |z::st,n+1,h=>Chn.last (st:=st) h.2.2.2.2
def Chn.top {L:List Rl}{K:Nat→Bool}{y:Nat}:∀{st:List Nat}{n:Nat},Chn L K n (st++[y])→Ev L y∧1≤y∧dep L y+1≤n
 |[],0,h=>h.elim
 |[],n+1,h=>⟨h.1,h.2.1,by have:=h.2.2.1;omega⟩
 |z::st,0,h=>h.elim
 |z::st,n+1,h=>by
  obtain⟨a,b,c⟩:=Chn.top (st:=st) h.2.2.2.2;exact⟨a,b,oO⟩
def Chn.push {L:List Rl}{K:Nat→Bool}{y z l r:Nat}(hK:K y=false)(hl:256<Eg.len L y)(hg:L[y-1]?=some (.pair l r))(hdl:dep L l<dep L y)(hdr:dep L r<dep L y)(hz:z=l∨z=r)(ez:Ev L z)(h1:1≤z):
  ∀{st:List Nat}{n:Nat},Chn L K n (st++[y])→Chn L K n (st++[y]++[z])
 |[],0,h=>h.elim
 |[],n+1,h=>by
  obtain⟨a,b,c,d,e⟩:=h;refine⟨a,b,c,fun w hw=>?_,?_⟩
  ·cases hw
   exact⟨hK,hl,l,r,hg,hdl,hdr,hz⟩
  have hd:dep L z<dep L y:=by rcases hz with rfl|rfl<;>assumption
  obtain⟨m,rfl⟩:∃m,n=m+1:=⟨n-1,oO⟩;exact⟨ez,h1,oO,fun w hw=>(by cases hw),by cases m<;>trivial⟩
 |x::st,0,h=>h.elim
 |x::st,n+1,⟨a,b,c,d,e⟩=>⟨a,b,c,fun w hw=>d w (by cases st with |nil=>exact hw|cons p q=>exact hw),Chn.push hK hl hg hdl hdr hz ez h1 e⟩
def Chn.deep {L:List Rl}{K:Nat→Bool}{y:Nat}:∀{st:List Nat}{n x:Nat},Chn L K n (x::(st++[y]))→dep L y<dep L x
 |[],0,x,h=>h.elim
 |[],n+1,x,h=>by
  obtain⟨_,_,l,r,_,h1,h2,h3⟩:=h.2.2.2.1 y rfl;rcases h3 with rfl|rfl<;>assumption
 |z::st,0,x,h=>h.elim
 |z::st,n+1,x,h=>by
  obtain⟨_,_,l,r,_,h1,h2,h3⟩:=h.2.2.2.1 z rfl;have:=Chn.deep (st:=st) h.2.2.2.2;have:dep L z<dep L x:=by rcases h3 with rfl|rfl<;>assumption
  omega
def Chn.short {L:List Rl}{K:Nat→Bool}(hw:Wf L){y:Nat}:∀{st:List Nat}{n:Nat},Chn L K n (st++[y])→∀x,(st++[y]).head?=some x→Eg.len L y≤Eg.len L x
 |[],_,_,x,hx=>by cases hx;exact ai _
 |z::st,0,h,_,_=>h.elim
 |z::st,n+1,h,x,hx=>by
  cases hx
  obtain⟨u,hu⟩:∃u,(st++[y]).head?=some u:=by cases st with |nil=>exact⟨_,rfl⟩|cons p q=>exact⟨_,rfl⟩
  have h1:=Chn.short hw (st:=st) h.2.2.2.2 u hu;obtain⟨_,_,l,r,hg,_,_,h2⟩:=h.2.2.2.1 u hu;obtain⟨i,rfl⟩:∃i,z=i+1:=⟨z-1,by have:=h.2.1;omega⟩;have ht:=jU (by simpa using hg) (hw.ok _ _ (by simpa using hg));have hl:Eg.len L (i+1)=Eg.len L l+Eg.len L r:=by unfold Eg.len;rw[ht,aa]
  rcases h2 with rfl|rfl<;>omega
def Chn.learn {L:List Rl}{K K':Nat→Bool}{y:Nat}(hK:∀x,K' x=(K x||x==y)) (hy:K y=false) (hc:len L y≤256∨(256<Eg.len L y∧∃l r,L[y-1]?=some (.pair l r))):
  ∀{st:List Nat}{n:Nat},Chn L K n (st++[y])→Chn L K' n (st++[y])∧∀x,(st++[y]).head?=some x→rem L K' n x+(if len L y≤256 then 512 else 400)≤rem L K n x
 |[],0,h=>h.elim
 |[],n+1,h=>by
  obtain⟨a,b,c,d,e⟩:=h;refine⟨⟨a,b,c,fun w hw=>(by cases hw),by cases n<;>trivial⟩,fun x hx=>?_⟩;cases hx
  rw[tH (by rw[hK];simp)];rcases hc with hc|⟨hc,l,r,hg⟩
  ·rw[yA hy hc,if_pos hc];omega
  rw[vN hy hc hg,if_neg oO];omega
 |x::st,0,h=>h.elim
 |x::st,n+1,h=>by
  have hd:=Chn.deep (st:=st) h;obtain⟨a,b,c,d,e⟩:=h;obtain⟨i1,i2⟩:=Chn.learn hK hy hc (st:=st) e;obtain⟨z,hz⟩:∃z,(st++[y]).head?=some z:=by cases st with |nil=>exact⟨_,rfl⟩|cons p q=>exact⟨_,rfl⟩
  obtain⟨k1,k2,l,r,hg,k3,k4,k5⟩:=d z hz;have hne:x≠y:=fun e=>by subst e;omega
  have k1':K' x=false:=by rw[hK,k1];simpa using hne
  refine⟨⟨a,b,c,fun w hw=>?_,i1⟩,fun w hw=>?_⟩
  ·have:w=z:=by
    have hw':(st++[y]).head?=some w:=hw;rw[hz]at hw';exact(lm hw').symm
   subst this;exact⟨k1',k2,l,r,hg,k3,k4,k5⟩
  cases hw
  rw[vN k1' k2 hg,vN k1 k2 hg];have m1:=qBf (L:=L) (K:=K) (K':=K') (fun x hx=>by rw[hK,hx];rfl) n l;have m2:=qBf (L:=L) (K:=K) (K':=K') (fun x hx=>by rw[hK,hx];rfl) n r;have m3:=i2 z hz;rcases k5 with rfl|rfl<;>omega
def Chn.cost_le {L:List Rl}{K:Nat→Bool}(hw:Wf L){st:List Nat}{n x y:Nat}(h:Chn L K n (st++[y]))(hK:K y=false)(hhd:∀z,(st++[y]).head?=some z→z=x):(if Eg.len L y≤256 then 512 else 400)≤rem L K n x:=by
 obtain⟨ey,h1,_⟩:=h.top
 have hc:Eg.len L y≤256∨(256<Eg.len L y∧∃l r,L[y-1]?=some (.pair l r)):=by
  rcases ed 256 (Eg.len L y)with h2|h2
  ·obtain⟨i,rfl⟩:∃i,y=i+1:=⟨y-1,oO⟩;rcases ey.rule hw with⟨b,hg,h0⟩|⟨l,r,hg,_⟩
   ·exfalso;have:Eg.len L (i+1)=1:=by unfold Eg.len;rw[gN hg];rfl
    omega
   exact .inr ⟨h2,l,r,by simpa using hg⟩
  exact .inl h2
 obtain⟨z,hz⟩:∃z,(st++[y]).head?=some z:=by cases st with |nil=>exact⟨_,rfl⟩|cons p q=>exact⟨_,rfl⟩
 obtain rfl:=hhd z hz;have:=(h.learn (K':=fun x=>K x||x==y) (fun _=>rfl) hK hc).2 z hz;omega
end Eg
namespace Go.Proofs.YtejcjelmpbkcbaaGreatDoor
section
open Go Eg
structure TMk where
 kd:Int
 a:Int
 b:Int
 n:Int
 m:Int
 t:List UInt8
def TMk.txA (x:TMk)(ts:List (List UInt8)):List UInt8:=ts.getD (pick x.a ts.length) []
def TMk.txB (x:TMk)(ts:List (List UInt8)):List UInt8:=ts.getD (pick x.b ts.length) []
def pln (ts:List (List UInt8))(x:TMk):Option (List UInt8):=
 if pick x.kd 6=0∨ts=[]then(if x.t.length≤60 then some x.t else none)
 else if pick x.kd 6=1 then(if(x.txA ts).length+(x.txB ts).length≤400 then some (x.txA ts++x.txB ts)else none)
 else if pick x.kd 6=2∨pick x.kd 6=5 then(if pick x.n 7*(x.txA ts).length≤400 then some (Eg.rep (pick x.n 7) (x.txA ts))else none)
 else if pick x.kd 6=3 then some (((x.txA ts).drop (pick x.n ((x.txA ts).length+1))).take (pick x.m ((x.txA ts).length-pick x.n ((x.txA ts).length+1)+1)))
 else some ((x.txA ts).drop (pick x.n ((x.txA ts).length+1))++(x.txA ts).take (pick x.n ((x.txA ts).length+1)))
def qOx {ts:List (List UInt8)}(h:∀t∈ts,t.length≤400) (x:TMk):(x.txA ts).length≤400:=by
 unfold TMk.txA;rw[fe];cases hg:ts[pick x.a ts.length]? with
 |none=>exact au _
 |some t=>exact h t (ay hg)
def qZe {ts:List (List UInt8)}(h:∀t∈ts,t.length≤400) (x:TMk):(x.txB ts).length≤400:=by
 unfold TMk.txB;rw[fe];cases hg:ts[pick x.b ts.length]? with
 |none=>exact au _
 |some t=>exact h t (ay hg)
def pln_len {ts:List (List UInt8)}(h:∀t∈ts,t.length≤400) {x:TMk} {t:List UInt8} (hp:pln ts x=some t):t.length≤400:=by
 have ha:=qOx h x;unfold pln at hp;split at hp
 ·split at hp
  ·cases hp;omega
  cases hp
 split at hp
 ·split at hp
  ·cases hp;rw[aa];assumption
  cases hp
 split at hp
 ·split at hp
  ·cases hp;rw[Eg.rep_length];assumption
  cases hp
 split at hp
 ·cases hp;rw[jv,lw];omega
 cases hp;rw[aa,jv,lw];omega
def plns (ts:List (List UInt8)):List TMk→List (List UInt8)
 |[]=>ts
 |x::l=>match pln ts x with
  |none=>plns ts l
  |some t=>plns (ts++[t]) l
def qDq {x:TMk}:∀(l:List TMk)(ts:List (List UInt8)),plns ts (l++[x])=match pln (plns ts l) x with
  |none=>plns ts l
  |some t=>plns ts l++[t]
 |[],ts=>by simp only[plns,jq]
 |y::l,ts=>by
  simp only[ik,plns];cases pln ts y with
  |none=>exact qDq l ts
  |some t=>exact qDq l (ts++[t])
def qBd:∀(l:List TMk)(ts:List (List UInt8)),(plns ts l).length≤ts.length+l.length
 |[],ts=>ai _
 |y::l,ts=>by
  unfold plns;cases pln ts y with
  |none=>have:=qBd l ts;simp only[av];omega
  |some t=>have:=qBd l (ts++[t]);simp only[av,aa,di]at this ⊢;omega
def vM:∀(l:List TMk)(ts:List (List UInt8)),(∀t∈ts,t.length≤400)→∀t∈plns ts l,t.length≤400
 |[],ts,h=>h
 |y::l,ts,h=>by
  unfold plns;cases hp:pln ts y with
  |none=>exact vM l ts h
  |some t=>
   refine vM l (ts++[t]) fun u hu=>?_
   rcases bn.1 hu with hu|hu
   ·exact h u hu
   rw[bg.1 hu]
   exact pln_len h hp
def tsC (ts:List (List UInt8)):List Value:=ts.map fun t=> .string ⟨⟨t⟩⟩
def qZb (ts:List (List UInt8)):(tsC ts).length=ts.length:=ku _
def tsC_at {ts:List (List UInt8)}{i:Nat}{t:List UInt8}(h:ts[i]?=some t):(tsC ts)[i]?=some (.string ⟨⟨t⟩⟩):=by simp[tsC,h]
def tsC_snoc (ts:List (List UInt8))(t:List UInt8):tsC (ts++[t])=tsC ts++[.string ⟨⟨t⟩⟩]:=by simp[tsC]
def mkV (x:TMk):List Value:=[.int .i64 x.kd,.int .i64 x.a,.int .i64 x.b,.int .i64 x.n,.int .i64 x.m,.string ⟨⟨x.t⟩⟩]
def mkVs (l:List TMk):List Value:=l.flatMap mkV
structure TMk.ok (x:TMk):Prop where
 kd: -9223372036854775808≤x.kd∧x.kd≤9223372036854775807
 a: -9223372036854775808≤x.a∧x.a≤9223372036854775807
 b: -9223372036854775808≤x.b∧x.b≤9223372036854775807
 n: -9223372036854775808≤x.n∧x.n≤9223372036854775807
 m: -9223372036854775808≤x.m∧x.m≤9223372036854775807
end
section
open Go Go.RowKit Sl Eg
set_option maxRecDepth 10000
variable {E:Env}
def qFn (hE:Seat E){n:Nat}(h:n≤dC):Ct E 182 [.int .i64 (n:Nat)] [] (fun v Q=>v= .bool true∧Q=[]):=by
 apply vY;intro w;rw[hE.P];exact jI n w h
def ct_lnAdd (hE:Seat E){a b:Nat}(h:a+b≤dC):Ct E 132 [.int .i64 (a:Nat),.int .i64 (b:Nat)] [] (fun v Q=>v= .tuple #[.int .i64 ((a+b:Nat):Int),.nilIface]∧Q=[]):=by
 apply vY;intro w;rw[hE.P];exact vJ a b w h
def ct_lnMul (hE:Seat E){a k:Nat}(h:a*k≤1000000000)(ha:a≤1000000000)(hk:k≤1000000000):Ct E 135 [.int .i64 (a:Nat),.int .i64 (k:Nat)] [] (fun v Q=>v= .tuple #[.int .i64 ((a*k:Nat):Int),.nilIface]∧Q=[]):=by
 have hmx:dC=1152921504606846976:=rfl;have hc:((a*k:Nat):Int)=(a:Int)*(k:Int):=oz a k;refine bO (hE.fn Tryz.func135) O O O (fun R=>?_);simp only[dX,uV,uW];refine gg10 ?_;refine uX (qFn hE oO) O ?_;rintro _ _⟨rfl,rfl⟩;simp only[uV,uW];refine gg9 ?_;refine bE O (fun g1=>?_) (fun g1=>?_)
 ·exfalso;omega
 refine gg9 ?_;refine bE O (fun g2=>?_) (fun g2=>?_)
 ·have h0:a=0:=oO;subst h0;refine gg8 ?_;exact uZ O (.tmp O (.tmp O .nil)) ⟨by simp[one],rfl⟩
 have ha1:(1:Int)≤(a:Int):=oO
 have hq:(1000000000:Int)≤1152921504606846976/(a:Int):=by
  rw[Int.le_ediv_iff_mul_le oO];omega
 refine gg11 ?_;refine bE O (fun g3=>?_) (fun g3=>?_)
 ·exfalso;omega
 refine gg12 ?_;rw[←hc];exact uZ O (.tmp O (.tmp O .nil)) ⟨O,O⟩
def ct_lnRng (hE:Seat E){f n l:Nat}(hl:l≤1000000000)(h:f+n≤l):Ct E 138 [.int .i64 (f:Nat),.int .i64 (n:Nat),.int .i64 (l:Nat)] [] (fun v Q=>v= .nilIface∧Q=[]):=by
 have hmx:dC=1152921504606846976:=rfl;refine bO (hE.fn Tryz.func138) O O O (fun R=>?_);simp only[dX,uV,uW];refine gg9 ?_;refine uX (qFn (n:=l) hE oO) O ?_;rintro _ _⟨rfl,rfl⟩;simp only[uV,uW];refine gg8 ?_;refine eF 14 O (fun h1=>?_) (fun h1=>?_)
 ·exfalso;omega
 refine gg6 ?_;refine eF 18 O (fun h2=>?_) (fun h2=>?_)
 ·exfalso;omega
 refine gg8 ?_;refine eF 23 O (fun h3=>?_) (fun h3=>?_)
 ·exfalso;omega
 refine gg13 ?_;refine bE O (fun h4=>?_) (fun h4=>?_)
 ·exfalso;omega
 refine gg8 ?_;exact uZ O (.tmp O .nil) ⟨O,O⟩
end
end Go.Proofs.YtejcjelmpbkcbaaGreatDoor
namespace Sl
section
open Go Go.RowKit
variable {E:Env}{n:Nat}{L L':Fr}{S H H':List HP}{Q:Exit→Act→World→Prop}{ro:Option Nat}{ds:List Deferred}
section
variable {ty:TypeId}{pos:String}{af:Array Edge}{d:Option Nat}{gd:Option (Nat×Bool)}{K:Value→List HP→Prop}
end
def fen (ro:Option Nat):Fence:={Fence.wide with round:=ro}
def mkA (ds:List Deferred)(a:Act):Act:={a with defers:=ds}
def rU (ds:List Deferred)(a:Act)(d:Option Nat)(v:Value):(mkA ds a).put d v=mkA ds (a.put d v):=by cases d<;>rfl
def qBn {P:Program}{f:FuncId}{args:Array Value}{w:World}{R:Ending→World→Prop}:CallsIn (fen ro) 0 P f args w R↔Calls P f args w R:=callsIn_wide (n:=0)
def qDl:Op→Bool
 | .defer _=>false
 |_=>true
def op_in {P:Program}{o:Oper}{a:Act}{w:World}{next:Act→World→Prop}(hd:qDl o.op=true)(ha:a.defers=[])(h:o.wp P a w (fun a' w'=>a'.defers=[]∧next (mkA ds a') w') (fun e a' w'=>Q e (mkA ds a') w')):o.wpIn (fen ro) 0 P (mkA ds a) w next Q:=by
 refine⟨fun f _=>trivial,?_⟩;have e:o.semAt (fen ro).round (mkA ds a).eval=execOp a.eval o:=Oper.semAt_plain _ _ _ fun c hc=>by rw[hc]at hd;cases hd
 rw[e];unfold Oper.wp at h;generalize(execOp a.eval o).run P w=r at h ⊢
 have rep:∀{f:FuncId}{args:Array Value}{w':World},Calls P f args w' (fun
   | .returned v,w''=>(a.put o.dst v).defers=[]∧next (mkA ds (a.put o.dst v)) w''
   | .panicked chain,w''=>Q (.panic chain) (mkA ds a) w''
   | .outgrown,_=>LetsOut (fun e a' w'=>Q e (mkA ds a') w'))→CallsIn (fen ro) (0-1) P f args w' fun
   | .returned v,w''=>next ((mkA ds a).put o.dst v) w''
   | .panicked chain,w''=>Q (.panic chain) (mkA ds a) w''
   | .outgrown,_=>LetsOut Q:=fun hc=>qBn.2 (hc.mono fun e w'' hx=>by
  cases e with
  |returned v=>exact(congrFun (bf next (rU ds a o.dst v)) w'').mpr hx.2
  |panicked chain=>exact hx
  |outgrown=>obtain⟨a0,w0,hq⟩:=hx;exact⟨_,w0,hq⟩)
 cases r with
 |ok nx w'=>
  cases nx with
  |value v=>exact(congrFun (bf next (rU ds a o.dst v)) w').mpr h.2
  |skip =>exact(congrFun (bf next (rU ds a o.dst undef)) w').mpr h.2
  |defer d=>
   have h1:=h.1
   cases hd':o.dst<;>rw[hd']at h1<;>simp[Act.put]at h1
  |enter f args=>exact⟨fun h0=>(by cases h0),rep h⟩
  |row rw args=>exact⟨fun h0=>(by cases h0),fun c cs _=>by
    obtain⟨v,w2,r,s⟩:=h c cs;exact⟨v,w2,(congrFun (bf next (rU ds a o.dst v)) w2).mpr r.2,stepsIn_wide.2 s⟩⟩
  |_=>exact h.elim
 |halt x w'=>
  cases x with
  |panic v=>exact h
  |_=>exact h.elim
def WI (E:Env)(ro:Option Nat)(ds:List Deferred)(c:Code)(Q:Exit→Act→World→Prop)(n:Nat)(L:Fr)(H:List HP):Prop:=∀a w,Good E n L H a w→c.wpIn (fen ro) 0 E.P Q (mkA ds a) w
def WLI (E:Env)(ro:Option Nat)(ds:List Deferred)(all:Array Oper)(Q:Exit→Act→World→Prop)(l:List Oper)(n:Nat)(L:Fr)(H:List HP):Prop:=∀a w,Good E n L H a w→wpListIn (fen ro) 0 E.P all Q l (mkA ds a) w
def AI (E:Env)(ds:List Deferred)(Q:Exit→Act→World→Prop)(e:Exit)(n:Nat)(L:Fr)(H:List HP):Prop:=∀a w,Good E n L H a w→Q e (mkA ds a) w
@[reducible] def KI (E : Env) (ro : Option Nat) (y : Code) (Q : Exit → Act → World → Prop) : Exit → Act → World → Prop := Exit.then (y.wpIn (fen ro) 0 E.P Q) Q
def iP {x y:Code}(h:WI E ro ds x (KI E ro y Q) n L H):WI E ro ds (.seq x y) Q n L H:=fun a w g=>wpIn_seq (h a w g)
def qCt (h:AI E ds Q .normal n L H):WI E ro ds .skip Q n L H:=fun a w g=>wpIn_skip (h a w g)
def qWi (h:AI E ds Q .ret n L H):WI E ro ds .ret Q n L H:=fun a w g=>wpIn_ret (h a w g)
def qWf {id:Nat}(h:AI E ds Q (.exit id) n L H):WI E ro ds (.exit id) Q n L H:=fun a w g=>wpIn_exit (h a w g)
def sW {id:Nat}{c:Code}(h:WI E ro ds c (Exit.inBlock id Q) n L H):WI E ro ds (.block id c) Q n L H:=fun a w g=>wpIn_block (h a w g)
def fF {id:Nat}{l:List Oper}(h:WLI E ro ds l.toArray Q l n L H):WI E ro ds (.region id l.toArray false) Q n L H:=fun a w g=>wpIn_region_lit (h a w g)
def jX {all:Array Oper}(h:AI E ds Q .normal n L H):WLI E ro ds all Q [] n L H:=fun a w g=>wpListIn_nil (h a w g)
def qB (ds:List Deferred)(a:Act):(mkA ds a).eval=a.eval:=by funext x;cases x<;>rfl
def qHs {c:Operand}{x y:Code}(hc:ev L c=some (.bool true))(h:WI E ro ds x Q n L H):WI E ro ds (.cond c x y) Q n L H:=fun a w g=>wpIn_cond_true (by rw[qB];exact g.f.ev hc) (h a w g)
def xN {c:Operand}{x y:Code}(hc:ev L c=some (.bool false))(h:WI E ro ds y Q n L H):WI E ro ds (.cond c x y) Q n L H:=fun a w g=>wpIn_cond_false (by rw[qB];exact g.f.ev hc) (h a w g)
def qQa {c:Operand}{x y:Code}{p:Prop}[Decidable p](hc:ev L c=some (.bool (decide p)))(h1:p→WI E ro ds x Q n L H)(h2:¬p→WI E ro ds y Q n L H):WI E ro ds (.cond c x y) Q n L H:=fun a w g=>
 wpIn_cond_split (by rw[qB];exact g.f.ev hc) (fun h=>h1 (by simpa using h) a w g) (fun h=>h2 (by simpa using h) a w g)
def eX {y:Code}(h:WI E ro ds y Q n L H):AI E ds (KI E ro y Q) .normal n L H:=h
def lH {K:Act→World→Prop}{id:Nat}(h:AI E ds Q (.exit id) n L H):AI E ds (Exit.then K Q) (.exit id) n L H:=h
def tY {id:Nat}(h:AI E ds Q .normal n L H):AI E ds (Exit.inBlock id Q) .normal n L H:=h
def rD {id:Nat}(h:AI E ds Q .normal n L H):AI E ds (Exit.inBlock id Q) (.exit id) n L H:=fun a w g=>by simp only[Exit.inBlock,if_true];exact h a w g
def dZ {all:Array Oper}{d:Nat}{op:Op}{ty:TypeId}{pos:String}{af:Array Edge}{rest:List Oper}{v:Value}(h:Yl E n L H ⟨some d,op,ty,pos,af,none⟩ v)(hd:Nat.blt d n=true)(hop:qDl op=true)
  (k:WLI E ro ds all Q rest n ((d,v)::L) H):WLI E ro ds all Q (⟨some d,op,ty,pos,af,none⟩::rest) n L H:=fun a w g=>by
 refine wpListIn_plain O fun K hK=>op_in hop g.f.df ?_
 unfold Oper.wp;rw[h a w g.f g.hp];exact⟨(g.f.put (some d) v hd).df,hK _ _ (k _ _ ⟨g.f.put (some d) v hd,g.hp⟩)⟩
def jW {all:Array Oper}{d:Option Nat}{op:Op}{ty:TypeId}{pos:String}{af:Array Edge}{rest:List Oper}(hd:inB n d=true)(hop:qDl op=true)
  (h:Ld E n L H ⟨d,op,ty,pos,af,none⟩ (fun v H'=>WLI E ro ds all Q rest n (putL d v L) H')):WLI E ro ds all Q (⟨d,op,ty,pos,af,none⟩::rest) n L H:=fun a w g=>by
 refine wpListIn_plain O fun K hK=>op_in hop g.f.df ?_
 exact h _ _ a w g fun v H' w' hk hs=>⟨(g.f.put d v hd).df,hK _ _ (hk _ _ ⟨g.f.put d v hd,hs⟩)⟩
def qLe {c:Code}(hH:∀k,dU H k→dU H' k) (h:WI E ro ds c Q n L H'):WI E ro ds c Q n L H:=fun a w g=>h a w ⟨g.f,g.hp.imp hH⟩
def qWp {all:Array Oper}{l:List Oper}(hH:∀k,dU H k→dU H' k) (h:WLI E ro ds all Q l n L H'):WLI E ro ds all Q l n L H:=fun a w g=>h a w ⟨g.f,g.hp.imp hH⟩
def ai_aend {B:HP}{L':Fr}(hL:wk L L')(hH:∀k,dU H k→dU [B] k):AI E [] (fun e a w=>e= .normal∧a.defers=[]∧Good E n L' [B] a w) .normal n L H:=fun a w g=>⟨rfl,rfl,⟨⟨g.f.sz,rfl,(g.f.wk hL).fr⟩,g.hp.imp hH⟩⟩
def qWg {ι:Type}(I:ι→Fr)(J:ι→List HP)(m:ι→Nat)(ok:ι→Prop){c:Code}(i0:ι)(h0:ok i0)(hL:wk L (I i0))(hH:∀k,dU H k→dU (J i0) k)
  (round:∀i,ok i→WI E ro ds c (Exit.then (fun a w=>∃j b,ok j∧m j<m i∧a=mkA ds b∧Good E n (I j) (J j) b w) Q) n (I i) (J i)):WI E ro ds (.loop c) Q n L H:=fun a w g=>by
 suffices hs:∀k i a w,m i=k→ok i→Good E n (I i) (J i) a w→(Code.loop c).wpIn (fen ro) 0 E.P Q (mkA ds a) w from hs _ i0 a w rfl h0 ⟨g.f.wk hL,g.hp.imp hH⟩
 intro k i a w hk hi hg;classical
 let T:Act→World→Nat→Prop:=fun a' w' m'=>∃j b,ok j∧m j=m'∧a'=mkA ds b∧Good E n (I j) (J j) b w'
 have least:∀a' w',(∃m',T a' w' m')→∃m',T a' w' m'∧∀m2,T a' w' m2→m'≤m2:=by
  intro a' w' ⟨m',hm'⟩;suffices hs:∀N m',m'≤N→T a' w' m'→∃mm,T a' w' mm∧∀m2,T a' w' m2→mm≤m2 from hs _ m' (ai _) hm'
  intro N;induction N with
  |zero=>intro m' hm ht;exact⟨m',ht,fun _ _=>by omega⟩
  |succ N ih=>
   intro m' hm ht
   by_cases hex:∃m2,m2≤N∧T a' w' m2
   ·obtain⟨m2,h1,h2⟩:=hex;exact ih m2 h1 h2
   refine⟨m',ht,fun m2 h2=>?_⟩
   rcases ed m2 m' with hlt|hge
   ·exact absurd ⟨m2,oO,h2⟩ hex
   exact hge
 let μ:Act→World→Nat:=fun a' w'=>if h:∃m',T a' w' m' then(least a' w' h).choose else 0
 have hμ:∀a' w'(h:∃m',T a' w' m'),T a' w' (μ a' w')∧∀m2,T a' w' m2→μ a' w'≤m2:=by
  intro a' w' h;have:=(least a' w' h).choose_spec;simp only[μ,dif_pos h];exact this
 refine wpIn_loop (fun a w=>∃m',T a w m') μ ⟨_,i,a,hi,O,O,hg⟩ ?_;intro a' w' hI;obtain⟨⟨j,b,hj,hmj,rfl,hgj⟩,_⟩:=hμ a' w' hI;refine wpIn_mono (round j hj b w' hgj) ?_;intro e a2 w2 hq;cases e with
 |normal=>
  obtain⟨j2,b2,hj2,hlt,e2,hg2⟩:=hq
  refine⟨⟨_,j2,b2,hj2,O,e2,hg2⟩,?_⟩
  have:=(hμ a2 w2 ⟨_,j2,b2,hj2,rfl,e2,hg2⟩).2 _ ⟨j2,b2,hj2,rfl,e2,hg2⟩
  omega
 |_=>exact hq
def qAt {ι:Type}{I:ι→Fr}{J:ι→List HP}{m:ι→Nat}{ok:ι→Prop}{M:Nat}(j:ι)(hj:ok j)(hm:m j<M)(hL:wk L (I j))(hH:∀k,dU H k→dU (J j) k):
  AI E ds (Exit.then (fun a w=>∃j b,ok j∧m j<M∧a=mkA ds b∧Good E n (I j) (J j) b w) Q) .normal n L H:=fun b _ g=>⟨j,b,hj,hm,rfl,g.f.wk hL,g.hp.imp hH⟩
def Cy (E:Env)(l:Nat)(args:List Value)(Pre:List HP)(Φ:Value→List HP→Prop):Prop:=
 ∀(R:HP)(w:World),Sat E.w0 w (Pre++[R])→YieldAt Fence.wide 0 E.P l ⟨args⟩ w (fun e w'=>∃v Qs,e= .returned v∧Φ v Qs∧Sat E.w0 w' (Qs++[R]))
def dfr (D:Nat):HP:=pt D (.deferred (some []))
def qLm (D:Nat):List Deferred:=[{target:= .collected D,args:= #[]}]
def LeavesIn_nil {P:Program}{fn:Func}{tmps:Array Value}{R:Ending→World→Prop}{w:World}{v:Value}(h:(results fn tmps).run P w= .ok v w)(hR:R (.returned v) w):LeavesIn (fen ro) 0 P fn tmps R [] .returning w:=⟨v,h,hR⟩
def ai_ret {fn:Func}{rs:List ResultVar}{vs:List Value}{Φ:Value→List HP→Prop}{R:HP}(Qs:List HP)(hrs:fn.results=⟨rs⟩)(h:Rs E L H rs vs)(hΦ:Φ (one vs) Qs)(hH:∀k,dU H k→dU (Qs++[R]) k):
  AI E [] (bodyPostM (fen ro) 0 E.P fn (RetP E Φ R)) .ret n L H:=fun a w g=>LeavesIn_nil (ro:=ro) (tmps:=a.tmps) (h.gives hrs g.f g.hp) ⟨_,Qs,rfl,hΦ,g.hp.imp hH⟩
def ai_mark_ {fn:Func}{rs:List ResultVar}{vs:List Value}{Φ:Value→List HP→Prop}{R:HP}{D:Nat}(Qs:List HP)(hrs:fn.results=⟨rs⟩)(ht:Take (dfr D) H H')(h:Rs E L H' rs vs)(hΦ:Φ (one vs) Qs)(hH:∀k,dU H' k→dU (Qs++[R]) k) {a:Act} {w:World} (g:Good E n L H a w):
  LeavesInM (fen ro) 0 E.P fn a.tmps (RetP E Φ R) (qLm D) .returning w:=by
 have s1:Sat E.w0 w (pt D (.deferred (some []))::H'):=g.hp.take ht;have e1:=s1.ptr.1;have hlt:D<w.heap.size:=(cz.1 e1).1;have s2:Sat E.w0 (w.putObj D (.deferred none)) (pt D (.deferred none)::H'):=s1.write ⟨O,O,O,by simp⟩ (World.putObj_heap_same hlt) fun j hj=>World.putObj_heap_other hj
 have s3:Sat E.w0 (w.putObj D (.deferred none)) H':=s2.imp fun k hk=>rA hk
 exact⟨by simp,.inl ⟨D,_,rfl,run_takeDeferred e1,LeavesIn_nil (h.gives hrs g.f s3) ⟨_,Qs,rfl,hΦ,s3.imp hH⟩⟩⟩
def ai_ret_m {fn:Func}{rs:List ResultVar}{vs:List Value}{Φ:Value→List HP→Prop}{R:HP}{D:Nat}(Qs:List HP)(hrs:fn.results=⟨rs⟩)(ht:Take (dfr D) H H')(h:Rs E L H' rs vs)(hΦ:Φ (one vs) Qs)(hH:∀k,dU H' k→dU (Qs++[R]) k):
  AI E (qLm D) (bodyPostM (fen ro) 0 E.P fn (RetP E Φ R)) .ret n L H:=fun a w g=>ai_mark_ (a:=a) Qs hrs ht h hΦ hH g
def qLc {f:FuncId}{fn:Func}{c:Code}{args:List Value}{Pre:List HP}{Φ:Value→List HP→Prop}(hf:E.P.funcs[f]?=some fn)(hb:fn.body=some c)(hn:fn.ntmps=n)(hl:Nat.ble args.length n=true)
  (h:∀R,WI E none [] c (bodyPostM (fen none) 0 E.P fn (RetP E Φ R)) n (dX 0 args) (Pre++[R])):Ct E f args Pre Φ:=fun R w s=>by
 have hl':=bi hl;refine(qBn (ro:=none)).1 (callsIn_of_wp_marks hf hb trivial (h R {tmps:=(⟨args⟩:Array Value)++Array.replicate (fn.ntmps-(⟨args⟩:Array Value).size) undef,defers:=[]} w ⟨⟨?_,O,fun t v hv=>?_⟩,s⟩))
 ·simp[hn];omega
 obtain⟨_,h2⟩:=vK args 0 t v hv;have hlt:=(ae.1 h2).1;rw[oq (by simpa using hlt)];simpa using h2
def qEc {p:HP}{r:List HP}:∀{l:List HP}{k:PH},dU (l++(p::r)) k→dU (p::(l++r)) k
 |[],_,h=>h
 |q::l,_,h=>fK (fC (fun _=>qEc (l:=l)) h)
def zS {p:HP}{r:List HP}:∀{l:List HP}{k:PH},dU (p::(l++r)) k→dU (l++(p::r)) k
 |[],_,h=>h
 |q::l,_,h=>fC (fun _=>zS (l:=l)) (fK h)
def qXx:List Nat→List Value→Fr→Fr
 |p::ps,v::vs,L=>qXx ps vs ((p,v)::L)
 |_,_,L=>L
def qPz:∀(ps:List Nat)(vs:List Value){L:Fr}{a:Act},GoodF n L a→(∀p∈ps,p<n)→GoodF n (qXx ps vs L) {a with tmps:=(ps.zip vs).foldl (fun t(x:Nat×Value)=>t.setIfInBounds x.1 x.2) a.tmps}
 |[],vs,L,a,g,_=>by cases vs<;>exact g
 |p::ps,[],L,a,g,_=>g
 |p::ps,v::vs,L,a,g,hp=>by
  have g1:GoodF n ((p,v)::L) (a.put (some p) v):=g.put (some p) v (by simpa[inB,vz]using hp p (by simp));exact qPz ps vs g1 (fun q hq=>hp q (by simp[hq]))
def qNv {g:Operand}{ps:List Nat}{assign body:Code}{gf:FuncId}{caps:List Value}{N:Nat}{args:Nat→List Value}{J:Nat→HP}{Own:List HP}{La:Nat→Fr}
  (hg:ev L g=some (.func (.func gf) #[] ⟨caps⟩)) (hf:goFn E.P gf=true) (hps:∀p∈ps,p<n) (hsz:∀k,(args k).length=ps.length) (hs:Sub (J 0::Own) H H')
  (hC:∀l(J':Nat→HP),(∀k,k<N→Cy E l (args k) [J' k] (fun v Q=>v= .bool true∧Q=[J' (k+1)]))→Ct E gf (.func (.yield l) #[] #[]::caps) (J' 0::Own) (fun v Q=>Q=J' N::Own))
  (hassign:∀k l B,k<N→WI E (some l) [] assign (fun e a w=>e= .normal∧a.defers=[]∧Good E n (La k) [B] a w) n (qXx ps (args k) L) [B])
  (hbody:∀k l B,k<N→WI E (some l) [] body (fun e a w=>e= .normal∧Sat E.w0 w [J (k+1),B]) n (La k) [J k,B])
  (hnext:∀D,AI E (qLm D) Q .normal n L (dfr D::J N::(Own++H'))):WI E none [] (.rangeFunc g ps.toArray assign body) Q n L H:=fun a w gd=>by
 refine wpIn_rangeFunc ?_;intro fn hfn;obtain⟨rec,hrec⟩:∃rec:LoopState→Option Code→Loop,rec=fun st pe=>{state:=st,pending:=pe,fn,tmps:=a.tmps,params:=ps.toArray,assign,body,defers:=w.heap.size}:=⟨_,rfl⟩
 have s1:Sat E.w0 (w.alloc (.deferred (some []))) (dfr w.heap.size::(J 0::(Own++H'))):=(gd.hp.sub hs).new _
 have s2:Sat E.w0 ((w.alloc (.deferred (some []))).alloc (.loop (rec .ready none))) (pt (w.heap.size+1) (.loop (rec .ready none))::dfr w.heap.size::(J 0::(Own++H'))):=by
  have:=s1.new (.loop (rec .ready none));rwa [World.size_alloc]at this
 obtain⟨W2,hW2⟩:∃W2,W2=(w.alloc (.deferred (some []))).alloc (.loop (rec .ready none)):=⟨_,rfl⟩;rw[←hW2]at s2;refine⟨w.heap.size+1,qLm w.heap.size,W2,{target:= .fn (.func gf) ⟨caps⟩,args:= #[.func (.yield (w.heap.size+1)) #[] #[]]},W2,gf,⟨.func (.yield (w.heap.size+1)) #[] #[]::caps⟩,W2,by rw[hW2,hrec];exact run_enterLoop_outer _ _ _ _ _,?_,fun f' _=>trivial,?_,fun h0=>(by cases h0),?_⟩
 ·have h2:=gd.f.ev hg;simp[resolve,Deferred.ofValue,qB,h2,rangeCall];rfl
 ·have e0:(#[Value.func (.yield (w.heap.size+1)) #[] #[]]:Array Value)++(⟨caps⟩:Array Value)=⟨.func (.yield (w.heap.size+1)) #[] #[]::caps⟩:=by simp
  simp[invoke,qD hf,e0]
 refine qBn.2 ?_;have hrec1:∀st pe,(rec st pe).params=ps.toArray∧(rec st pe).tmps=a.tmps∧(rec st pe).fn=fn∧(rec st pe).assign=assign∧(rec st pe).body=body∧(rec st pe).state=st∧(rec st pe).pending=pe:=fun st pe=>by subst hrec;exact⟨rfl,rfl,rfl,rfl,rfl,rfl,rfl⟩
 have hrec2:∀st pe st' pe',({rec st pe with state:=st',pending:=pe'}:Loop)=rec st' pe':=fun st pe st' pe'=>by subst hrec;rfl
 have hrec3:∀st pe st',({rec st pe with state:=st'}:Loop)=rec st' pe:=fun st pe st'=>by subst hrec;rfl
 have cy:∀k,k<N→Cy E (w.heap.size+1) (args k) [dU [pt (w.heap.size+1) (.loop (rec .ready none)),J k]] (fun v Q=>v= .bool true∧Q=[dU [pt (w.heap.size+1) (.loop (rec .ready none)),J (k+1)]]):=fun k hk R w1 s=>by
  have t1:Sat E.w0 w1 (pt (w.heap.size+1) (.loop (rec .ready none))::J k::[R]):=s.imp fun _ h=>kE (ps:=[pt (w.heap.size+1) (.loop (rec .ready none)),J k]) (r:=[R]) (fun _ x=>x) h
  have e1:=t1.ptr.1;have hlt:w.heap.size+1<w1.heap.size:=(cz.1 e1).1;obtain⟨q1,q2,q3,q4,q5,q6,q7⟩:=hrec1 .ready none;have hy:=run_yield (P:=E.P) (args:=⟨args k⟩) e1 (by rw[q1];simp[hsz k]);rw[q1,q2,q3,q4,q5]at hy;refine⟨_,_,_,_,hy,roundIn_of_wpIn trivial ?_⟩
  have gz:GoodF n (qXx ps (args k) L) {tmps:=(ps.toArray.zip ⟨args k⟩).foldl (fun tmps(x:Nat×Value)=>tmps.setIfInBounds x.1 x.2) a.tmps,defers:=[]}:=by
   have:=qPz ps (args k) gd.f hps
   have e:({a with tmps:=(ps.zip (args k)).foldl (fun t(x:Nat×Value)=>t.setIfInBounds x.1 x.2) a.tmps}:Act)={tmps:=(ps.toArray.zip ⟨args k⟩).foldl (fun tmps(x:Nat×Value)=>tmps.setIfInBounds x.1 x.2) a.tmps,defers:=[]}:=by
    have hd:=gd.f.df;obtain⟨t,d⟩:=a;simp only at hd;subst hd;simp
   rwa [e]at this
  have ha:=hassign k (w.heap.size+1) (dU [pt (w.heap.size+1) (.loop (rec .ready none)),J k,R]) hk _ w1 ⟨gz,t1.imp fun _ h=>jE (fun _ x=>x) (by simpa using h)⟩;refine wpIn_mono ha ?_;rintro e a2 w2⟨rfl,hdf,g2⟩;have t2:Sat E.w0 w2 (pt (w.heap.size+1) (.loop (rec .ready none))::J k::[R]):=g2.hp.imp fun _ h=>kE (ps:=[pt (w.heap.size+1) (.loop (rec .ready none)),J k,R]) (r:=[]) (fun _ x=>x) h
  have e2:=t2.ptr.1;have hlt2:w.heap.size+1<w2.heap.size:=(cz.1 e2).1;refine⟨_,run_beginRound e2 q6,?_⟩;rw[hrec3];have t3:Sat E.w0 (w2.putObj (w.heap.size+1) (.loop (rec .busy none))) (pt (w.heap.size+1) (.loop (rec .busy none))::J k::[R]):=t2.write ⟨O,O,O,by simp⟩ (World.putObj_heap_same hlt2) fun j hj=>World.putObj_heap_other hj
  have t4:Sat E.w0 (w2.putObj (w.heap.size+1) (.loop (rec .busy none))) [J k,dU [pt (w.heap.size+1) (.loop (rec .busy none)),R]]:=t3.imp fun _ h=>fK (fC (fun _ h'=>jE (ps:=[pt (w.heap.size+1) (.loop (rec .busy none)),R]) (r:=[]) (fun _ x=>x) h') (fK h)|>fun h=>fK h)
  have hb:=hbody k (w.heap.size+1) (dU [pt (w.heap.size+1) (.loop (rec .busy none)),R]) hk a2 _ ⟨g2.f,t4⟩;have ea:mkA [] a2=a2:=by obtain⟨t,d⟩:=a2;simp only at hdf;subst hdf;rfl
  rw[ea]at hb;refine wpIn_mono hb ?_;rintro e a3 w3⟨rfl,t5⟩;have t6:Sat E.w0 w3 (pt (w.heap.size+1) (.loop (rec .busy none))::R::[J (k+1)]):=(t5.imp fun _ h=>fK h).imp fun _ h=>kE (ps:=[pt (w.heap.size+1) (.loop (rec .busy none)),R]) (r:=[J (k+1)]) (fun _ x=>x) h
  have e3:=t6.ptr.1;have hlt3:w.heap.size+1<w3.heap.size:=(cz.1 e3).1;refine⟨_,_,run_endRound none e3,_,_,O,⟨O,O⟩,?_⟩;simp only[Option.isNone_none,if_true];rw[hrec2];have t7:Sat E.w0 (w3.putObj (w.heap.size+1) (.loop (rec .ready none))) (pt (w.heap.size+1) (.loop (rec .ready none))::R::[J (k+1)]):=t6.write ⟨O,O,O,by simp⟩ (World.putObj_heap_same hlt3) fun j hj=>World.putObj_heap_other hj
  exact t7.imp fun _ h=>jE (ps:=[pt (w.heap.size+1) (.loop (rec .ready none)),J (k+1)]) (r:=[R]) (fun _ x=>x) (fC (fun _=>fK) h)
 have hct:=hC (w.heap.size+1) (fun k=>dU [pt (w.heap.size+1) (.loop (rec .ready none)),J k]) cy (dU (dfr w.heap.size::H')) _ (s2.imp fun k h=>?_)
 ·refine hct.mono ?_;rintro e w3⟨v,Qs,rfl,hΦ,hs3⟩;subst hΦ;have t1:Sat E.w0 w3 (pt (w.heap.size+1) (.loop (rec .ready none))::J N::(Own++[dU (dfr w.heap.size::H')])):=hs3.imp fun _ h=>kE (ps:=[pt (w.heap.size+1) (.loop (rec .ready none)),J N]) (r:=Own++[dU (dfr w.heap.size::H')]) (fun _ x=>x) h
  have e1:=t1.ptr.1;have hlt:w.heap.size+1<w3.heap.size:=(cz.1 e1).1;obtain⟨q1,q2,q3,q4,q5,q6,q7⟩:=hrec1 .ready none;have he:=run_endLoop (P:=E.P) e1 (by rw[q6];simp);rw[hrec3,q7]at he;refine⟨none,_,he,?_⟩;have t2:Sat E.w0 (w3.putObj (w.heap.size+1) (.loop (rec .exhausted none))) (pt (w.heap.size+1) (.loop (rec .exhausted none))::J N::(Own++[dU (dfr w.heap.size::H')])):=t1.write ⟨O,O,O,by simp⟩ (World.putObj_heap_same hlt) fun j hj=>World.putObj_heap_other hj
  have t3:Sat E.w0 (w3.putObj (w.heap.size+1) (.loop (rec .exhausted none))) (dfr w.heap.size::J N::(Own++H')):=t2.imp fun k h=>by
   have h1:=rA h;have h2:dU ((J N::Own)++(dfr w.heap.size::H')) k:=nR (l:=J N::Own) h1;exact qEc (l:=J N::Own) h2
  have:=hnext w.heap.size a _ ⟨gd.f,t3⟩;have hda:=gd.f.df;have ea:({mkA [] a with defers:=qLm w.heap.size++(mkA [] a).defers}:Act)=mkA (qLm w.heap.size) a:=by simp[mkA,qLm]
  rw[ea];exact this
 have h1:dU (pt (w.heap.size+1) (.loop (rec .ready none))::J 0::dfr w.heap.size::(Own++H')) k:=fC (fun _=>fK) h;have h2:dU (dU [pt (w.heap.size+1) (.loop (rec .ready none)),J 0]::dfr w.heap.size::(Own++H')) k:=jE (ps:=[pt (w.heap.size+1) (.loop (rec .ready none)),J 0]) (fun _ x=>x) h1;have h3:dU (dU [pt (w.heap.size+1) (.loop (rec .ready none)),J 0]::(Own++(dfr w.heap.size::H'))) k:=fC (fun _=>zS) h2;exact kD (l:=dU [pt (w.heap.size+1) (.loop (rec .ready none)),J 0]::Own) h3
def qMs:∀(ps:List HP){H:List HP},Sub ps (ps++H) H
 |[],_=> .nil
 |p::ps,_=> .cons .here (qMs ps)
def i_range {g:Operand}{ps:List Nat}{assign body:Code}{gf:FuncId}{caps:List Value}(N:Nat)(args:Nat→List Value)(J:Nat→List HP)(Own:List HP)(La:Nat→Fr)
  (hg:ev L g=some (.func (.func gf) #[] ⟨caps⟩)) (hf:goFn E.P gf=true) (hps:∀p∈ps,p<n) (hsz:∀k,(args k).length=ps.length) (hs:Sub (J 0++Own) H H')
  (hC:∀l(J':Nat→HP),(∀k,k<N→Cy E l (args k) [J' k] (fun v Q=>v= .bool true∧Q=[J' (k+1)]))→Ct E gf (.func (.yield l) #[] #[]::caps) (J' 0::Own) (fun v Q=>Q=J' N::Own))
  (hassign:∀k l B,k<N→WI E (some l) [] assign (fun e a w=>e= .normal∧a.defers=[]∧Good E n (La k) [B] a w) n (qXx ps (args k) L) [B])
  (hbody:∀k l B,k<N→WI E (some l) [] body (fun e a w=>e= .normal∧Sat E.w0 w (J (k+1)++[B])) n (La k) (J k++[B]))
  (hnext:∀D,AI E (qLm D) Q .normal n L (dfr D::(J N++(Own++H')))):WI E none [] (.rangeFunc g ps.toArray assign body) Q n L H:=by
 refine qLe (H':=dU (J 0)::(Own++H')) (fun k h=>?_) ?_
 ·have h1:=hs.out h;rw[ah]at h1;exact jE (fun _ x=>x) h1
 refine qNv (N:=N) (args:=args) (J:=fun k=>dU (J k)) (Own:=Own) (La:=La) hg hf hps hsz (.cons .here (qMs Own)) hC hassign (fun k l B hk a w gd=>?_) (fun D a w gd=>?_)
 ·refine wpIn_mono (hbody k l B hk a w ⟨gd.f,gd.hp.imp fun _ h=>kE (fun _ x=>x) h⟩) ?_;rintro e a2 w2⟨h1,h2⟩;exact⟨h1,h2.imp fun _ h=>jE (fun _ x=>x) h⟩
 exact hnext D a w ⟨gd.f,gd.hp.imp fun _ h=>fC (fun _ x=>kE (fun _ y=>y) x) h⟩
def ai_bend {T:List HP}(hH:∀k,dU H k→dU T k):AI E ds (fun e a w=>e= .normal∧Sat E.w0 w T) .normal n L H:=fun _ _ g=>⟨rfl,g.hp.imp hH⟩
end
section
open Go Go.RowKit
def xW {α β:Type}{f:α→β}:∀{l:List α},(l.map f).Nodup→∀{a b:α},a∈l→b∈l→f a=f b→a=b
 |[],_,_,_,h,_,_=>by cases h
 |x::l,hn,a,b,ha,hb,e=>by
  have hn':=zl.1 hn;rcases iq.1 ha with rfl|ha'<;>rcases iq.1 hb with rfl|hb'
  ·rfl
  ·exact absurd (fq.2 ⟨b,hb',e.symm⟩) hn'.1
  ·exact absurd (fq.2 ⟨a,ha',e⟩) hn'.1
  exact xW hn'.2 ha' hb' e
variable {ki:IntKind}{es:List MapEntry}{c:Nat}{M:List (Int×Value)}
def run_next {P:Program}{w:World}{ty:TypeId}{r b since c0 c:Nat}{seen:Array Nat}{es:Array MapEntry}(hr:w.heap[r]?=some (.mapIter (some b) since seen c0))(hb:w.heap[b]?=some (.map es c))(hold:∀x∈es.toList,x.born<since) (hsc:since≤c0):
  ((∀e∈es.toList,seen.contains e.born=true)∧(Instr.next (.pointer (some ⟨r,0,none⟩)) false ty).run P w= .ok (.tuple #[.bool false]) w)∨
  ∃e∈es.toList,seen.contains e.born=false∧∃w1:World,(w1=w∨w1=w.drew)∧(Instr.next (.pointer (some ⟨r,0,none⟩)) false ty).run P w= .ok (.tuple #[.bool true,e.key,e.val]) (ChangeMaps.setBlock w1 r (.mapIter (some b) since (seen.push e.born) c)):=by
 simp only[Instr.next,getObj,Sem.run_bind,Sem.run,hr,hb,Result.andThen,next_test_false seen es since c0 hold hsc,oJ,if_false];have hmem:∀x,x∈(Array.filter (fun e=>!seen.contains e.born) es).toList→x∈es.toList∧seen.contains x.born=false:=fun x hx=>by simpa using hx
 have hall:(Array.filter (fun e=>!seen.contains e.born) es).size=0→∀e∈es.toList,seen.contains e.born=true:=fun h0 e he=>by
  cases hc:seen.contains e.born with
  |true=>rfl
  |false=>
   have h1:e∈Array.filter (fun e=>!seen.contains e.born) es:=Array.mem_filter.2 ⟨by simpa using he,by rw[hc];rfl⟩
   obtain⟨i,hi,_⟩:=Array.mem_iff_getElem.1 h1
   omega
 generalize Array.filter (fun e=>!seen.contains e.born) es=Lf at hmem hall ⊢;have e1:Lf.filter (fun x=>decide (x.born<since))=Lf:=Array.filter_eq_self.2 (fun x hx=>by simpa using hold x (hmem x (by simpa using hx)).1)
 have e2:Lf.filter (fun x=>decide (x.born≥since))= #[]:=by
  rw[Array.filter_eq_empty_iff];intro x hx;have:=hold x (hmem x (by simpa using hx)).1;simp;omega
 simp only[e1,e2,Array.append_empty];by_cases h0:Lf.size=0
 ·left;refine⟨hall h0,?_⟩;have:Lf= #[]:=Array.eq_empty_of_size_eq_zero h0;subst this;simp[choose,Sem.run,Question.forced]
 right;have hne:Lf.isEmpty=false:=by simp[Array.isEmpty,h0]
 simp only[hne,oJ,if_false,Array.empty_append,Array.size_map]
 have hch:∃(j:Nat)(w1:World),j<Lf.size∧(w1=w∨w1=w.drew)∧(choose (Question.mapNext Lf.size)).run P w= .ok j w1:=by
  by_cases hf:Lf.size≤1
  ·exact⟨0,w,oO,.inl O,by simp[choose,Sem.run,Question.forced,hf]⟩
  exact⟨_,w.drew,pm _ oO,.inr O,by
   simp only[choose,Sem.run,Question.forced,decide_eq_true_eq,hf,if_false,Question.cut];rfl⟩
 obtain⟨j,w1,hj,hal,hrun⟩:=hch;have h3:=hmem Lf[j] (by simp);refine⟨Lf[j],h3.1,h3.2,w1,hal,?_⟩
 have hr1:w1.heap[r]?=some (.mapIter (some b) since seen c0):=by
  rcases hal with rfl|rfl
  ·exact hr
  exact hr
 simp only[hrun,Array.getElem?_map,Array.getElem?_eq_getElem hj,xe,Sem.run_bind,Result.andThen,setObj,Sem.run];rw[hr1];rfl
end
end Sl
