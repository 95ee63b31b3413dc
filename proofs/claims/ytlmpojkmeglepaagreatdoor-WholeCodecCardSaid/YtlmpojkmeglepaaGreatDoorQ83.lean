import Derived.Test.YtlmpojkmeglepaaGreatDoorQ50
set_option linter.all false
set_option maxHeartbeats 1000000
namespace Eg
def rem (L:List Rl)(K:Nat→Bool):Nat→Nat→Nat
 |0,_=>0
 |n+1,x=>if K x then 0 else if len L x≤256 then 512 else match L[x-1]? with
  |some (.pair l r)=>rem L K n l+rem L K n r+400
  |_=>0
def tL {L:List Rl}{K:Nat→Bool}{n x:Nat}(h:K x=true):rem L K n x=0:=by
 cases n with
 |zero=>rfl
 |succ n=>unfold rem;rw[if_pos h]
def yB {L:List Rl}{K:Nat→Bool}{n x:Nat}(h:K x=false)(hl:len L x≤256):rem L K (n+1) x=512:=by
 unfold rem;rw[if_neg (by simp[h]),if_pos hl]
def vR {L:List Rl}{K:Nat→Bool}{n x l r:Nat}(h:K x=false)(hl:256<len L x)(hg:L[x-1]?=some (.pair l r)):rem L K (n+1) x=rem L K n l+rem L K n r+400:=by
 rw[rem,if_neg (by simp[h]),if_neg oO,hg]
def qLe {L:List Rl}{K:Nat→Bool}{n x:Nat}(hl:len L x≤256):rem L K n x≤512:=by
 cases n with
 |zero=>exact av _
 |succ n=>unfold rem;split <;>simp[hl]
def rem_le {L:List Rl}(hw:Wf L){K:Nat→Bool}:∀(n x:Nat),Ev L x→len L x≤400→rem L K n x≤912*n+512:=by
 intro n;induction n with
 |zero=>exact fun x _ _=>av _
 |succ n ih=>
  intro x hx hl
  cases hK:K x with
  |true=>rw[tL hK];exact av _
  |false=>
   rcases dw 256 (len L x)with h| h
   ·obtain⟨i,rfl⟩:∃i,x=i+1:=⟨x-1,by
     rcases fe x with rfl|h'
     ·rw[qHo]at h;omega
     omega⟩
    rcases hx.rule hw with⟨b,hg,h0⟩|⟨l,r,hg,h1,h2,h3,h4,el,er,hdp,hlr,hrl,ht⟩
    ·have:len L (i+1)=1:=by unfold len;rw[fM hg];rfl
     omega
    have hlen:len L (i+1)=len L l+len L r:=by unfold len;rw[ht,aa]
    rw[vR hK h (by simpa using hg)]
    rcases dw 256 (len L l)with h'|h'
    ·have a1:=ih l el oO
     have a2:=qLe (K:=K) (n:=n) (x:=r) (L:=L) oO
     omega
    have a1:=ih r er oO
    have a2:=qLe (K:=K) (n:=n) (x:=l) (L:=L) h'
    omega
   rw[yB hK h];omega
def qBk {L:List Rl}{K K':Nat→Bool}(hK:∀x,K x=true→K' x=true):∀(n x:Nat),rem L K' n x≤rem L K n x:=by
 intro n;induction n with
 |zero=>exact fun x=>ai _
 |succ n ih=>
  intro x
  cases h':K' x with
  |true=>rw[tL h'];exact av _
  |false=>
   have h:K x=false:=by
    cases h:K x with
    |false=>rfl
    |true=>rw[hK x h]at h';cases h'
   have e1:∀K:Nat→Bool,K x=false→rem L K (n+1) x=if len L x≤256 then 512 else match L[x-1]? with
     |some (.pair l r)=>rem L K n l+rem L K n r+400
     |_=>0:=fun K h=>by rw[rem,if_neg (by simp[h])]
   rw[e1 K h,e1 K' h']
   by_cases hl:len L x≤256
   ·rw[if_pos hl,if_pos hl]
    exact ai _
   rw[if_neg hl,if_neg hl]
   rcases L[x-1]? with _|(b|⟨l,r⟩|⟨y,k⟩)
   ·exact ai _
   ·exact ai _
   ·have a1:=ih l
    have a2:=ih r
    show rem L K' n l+rem L K' n r+400≤rem L K n l+rem L K n r+400
    omega
   exact ai _
def Chn (L:List Rl)(K:Nat→Bool):Nat→List Nat→Prop
 |_,[]=>True
 |0,_::_=>False
 |n+1,x::st=>Ev L x∧1≤x∧dep L x≤n∧(∀y,st.head?=some y→K x=false∧256<len L x∧∃l r,L[x-1]?=some (.pair l r)∧dep L l<dep L x∧dep L r<dep L x∧(y=l∨y=r))∧Chn L K n st
def Chn.cnt {L:List Rl}{K:Nat→Bool}:∀{st:List Nat}{n:Nat},Chn L K n st→st.length≤n
 |[],n,_=>av _
 |x::st,0,h=>h.elim
 |x::st,n+1,h=>by have:=Chn.cnt h.2.2.2.2;simp only[ax];omega
def Chn.pop {L:List Rl}{K:Nat→Bool}{y:Nat}:∀{st:List Nat}{n:Nat},Chn L K n (st++[y])→Chn L K n st
 |[],n,_=>by cases n<;>trivial
 |x::st,0,h=>h.elim
 |x::st,n+1,⟨h1,h2,h3,h4,h5⟩=>⟨h1,h2,h3,fun z hz=>h4 z (by cases st with |nil=>cases hz|cons a b=>exact hz),Chn.pop h5⟩
def Chn.last {L:List Rl}{K:Nat→Bool}{x y:Nat}:∀{st:List Nat}{n:Nat},Chn L K n (st++[x]++[y])→K x=false
 |[],0,h=>h.elim
 |[],n+1,h=>(h.2.2.2.1 y rfl).1
 |z::st,0,h=>h.elim
 |z::st,n+1,h=>Chn.last (st:=st) h.2.2.2.2
def Chn.top {L:List Rl}{K:Nat→Bool}{y:Nat}:∀{st:List Nat}{n:Nat},Chn L K n (st++[y])→Ev L y∧1≤y∧dep L y+1≤n
 |[],0,h=>h.elim
 |[],n+1,h=>⟨h.1,h.2.1,by have:=h.2.2.1;omega⟩
 |z::st,0,h=>h.elim
 |z::st,n+1,h=>by
  obtain⟨a,b,c⟩:=Chn.top (st:=st) h.2.2.2.2;exact⟨a,b,oO⟩
def Chn.push {L:List Rl}{K:Nat→Bool}{y z l r:Nat}(hK:K y=false)(hl:256<Eg.len L y)(hg:L[y-1]?=some (.pair l r))(hdl:dep L l<dep L y)(hdr:dep L r<dep L y)(hz:z=l∨z=r)(ez:Ev L z)(h1:1≤z):
  ∀{st:List Nat}{n:Nat},Chn L K n (st++[y])→Chn L K n (st++[y]++[z])
 |[],0,h=>h.elim
 |[],n+1,h=>by
  obtain⟨a,b,c,d,e⟩:=h;refine⟨a,b,c,fun w hw=>?_,?_⟩
  ·cases hw
   exact⟨hK,hl,l,r,hg,hdl,hdr,hz⟩
  have hd:dep L z<dep L y:=by rcases hz with rfl|rfl<;>assumption
  obtain⟨m,rfl⟩:∃m,n=m+1:=⟨n-1,oO⟩;exact⟨ez,h1,oO,fun w hw=>(by cases hw),by cases m<;>trivial⟩
 |x::st,0,h=>h.elim
 |x::st,n+1,⟨a,b,c,d,e⟩=>⟨a,b,c,fun w hw=>d w (by cases st with |nil=>exact hw|cons p q=>exact hw),Chn.push hK hl hg hdl hdr hz ez h1 e⟩
def Chn.deep {L:List Rl}{K:Nat→Bool}{y:Nat}:∀{st:List Nat}{n x:Nat},Chn L K n (x::(st++[y]))→dep L y<dep L x
 |[],0,x,h=>h.elim
 |[],n+1,x,h=>by
  obtain⟨_,_,l,r,_,h1,h2,h3⟩:=h.2.2.2.1 y rfl;rcases h3 with rfl|rfl<;>assumption
 |z::st,0,x,h=>h.elim
 |z::st,n+1,x,h=>by
  obtain⟨_,_,l,r,_,h1,h2,h3⟩:=h.2.2.2.1 z rfl;have:=Chn.deep (st:=st) h.2.2.2.2;have:dep L z<dep L x:=by rcases h3 with rfl|rfl<;>assumption
  omega
def Chn.short {L:List Rl}{K:Nat→Bool}(hw:Wf L){y:Nat}:∀{st:List Nat}{n:Nat},Chn L K n (st++[y])→∀x,(st++[y]).head?=some x→Eg.len L y≤Eg.len L x
 |[],_,_,x,hx=>by cases hx;exact ai _
 |z::st,0,h,_,_=>h.elim
 |z::st,n+1,h,x,hx=>by
  cases hx
  obtain⟨u,hu⟩:∃u,(st++[y]).head?=some u:=by cases st with |nil=>exact⟨_,rfl⟩|cons p q=>exact⟨_,rfl⟩
  have h1:=Chn.short hw (st:=st) h.2.2.2.2 u hu;obtain⟨_,_,l,r,hg,_,_,h2⟩:=h.2.2.2.1 u hu;obtain⟨i,rfl⟩:∃i,z=i+1:=⟨z-1,by have:=h.2.1;omega⟩;have ht:=iO (by simpa using hg) (hw.ok _ _ (by simpa using hg));have hl:Eg.len L (i+1)=Eg.len L l+Eg.len L r:=by unfold Eg.len;rw[ht,aa]
  rcases h2 with rfl|rfl<;>omega
def Chn.learn {L:List Rl}{K K':Nat→Bool}{y:Nat}(hK:∀x,K' x=(K x||x==y)) (hy:K y=false) (hc:len L y≤256∨(256<Eg.len L y∧∃l r,L[y-1]?=some (.pair l r))):
  ∀{st:List Nat}{n:Nat},Chn L K n (st++[y])→Chn L K' n (st++[y])∧∀x,(st++[y]).head?=some x→rem L K' n x+(if len L y≤256 then 512 else 400)≤rem L K n x
 |[],0,h=>h.elim
 |[],n+1,h=>by
  obtain⟨a,b,c,d,e⟩:=h;refine⟨⟨a,b,c,fun w hw=>(by cases hw),by cases n<;>trivial⟩,fun x hx=>?_⟩;cases hx
  rw[tL (by rw[hK];simp)];rcases hc with hc|⟨hc,l,r,hg⟩
  ·rw[yB hy hc,if_pos hc];omega
  rw[vR hy hc hg,if_neg oO];omega
 |x::st,0,h=>h.elim
 |x::st,n+1,h=>by
  have hd:=Chn.deep (st:=st) h;obtain⟨a,b,c,d,e⟩:=h;obtain⟨i1,i2⟩:=Chn.learn hK hy hc (st:=st) e;obtain⟨z,hz⟩:∃z,(st++[y]).head?=some z:=by cases st with |nil=>exact⟨_,rfl⟩|cons p q=>exact⟨_,rfl⟩
  obtain⟨k1,k2,l,r,hg,k3,k4,k5⟩:=d z hz;have hne:x≠y:=fun e=>by subst e;omega
  have k1':K' x=false:=by rw[hK,k1];simpa using hne
  refine⟨⟨a,b,c,fun w hw=>?_,i1⟩,fun w hw=>?_⟩
  ·have:w=z:=by
    have hw':(st++[y]).head?=some w:=hw;rw[hz]at hw';exact(oH hw').symm
   subst this;exact⟨k1',k2,l,r,hg,k3,k4,k5⟩
  cases hw
  rw[vR k1' k2 hg,vR k1 k2 hg];have m1:=qBk (L:=L) (K:=K) (K':=K') (fun x hx=>by rw[hK,hx];rfl) n l;have m2:=qBk (L:=L) (K:=K) (K':=K') (fun x hx=>by rw[hK,hx];rfl) n r;have m3:=i2 z hz;rcases k5 with rfl|rfl<;>omega
def Chn.cost_le {L:List Rl}{K:Nat→Bool}(hw:Wf L){st:List Nat}{n x y:Nat}(h:Chn L K n (st++[y]))(hK:K y=false)(hhd:∀z,(st++[y]).head?=some z→z=x):(if Eg.len L y≤256 then 512 else 400)≤rem L K n x:=by
 obtain⟨ey,h1,_⟩:=h.top
 have hc:Eg.len L y≤256∨(256<Eg.len L y∧∃l r,L[y-1]?=some (.pair l r)):=by
  rcases dw 256 (Eg.len L y)with h2|h2
  ·obtain⟨i,rfl⟩:∃i,y=i+1:=⟨y-1,oO⟩;rcases ey.rule hw with⟨b,hg,h0⟩|⟨l,r,hg,_⟩
   ·exfalso;have:Eg.len L (i+1)=1:=by unfold Eg.len;rw[fM hg];rfl
    omega
   exact .inr ⟨h2,l,r,by simpa using hg⟩
  exact .inl h2
 obtain⟨z,hz⟩:∃z,(st++[y]).head?=some z:=by cases st with |nil=>exact⟨_,rfl⟩|cons p q=>exact⟨_,rfl⟩
 obtain rfl:=hhd z hz;have:=(h.learn (K':=fun x=>K x||x==y) (fun _=>rfl) hK hc).2 z hz;omega
end Eg
namespace Go.Proofs.YtlmpojkmeglepaaGreatDoor
section
open Go Eg
structure TMk where
 kd:Int
 a:Int
 b:Int
 n:Int
 m:Int
 t:List UInt8
def TMk.txA (x:TMk)(ts:List (List UInt8)):List UInt8:=ts.getD (pick x.a ts.length) []
def TMk.txB (x:TMk)(ts:List (List UInt8)):List UInt8:=ts.getD (pick x.b ts.length) []
def pln (ts:List (List UInt8))(x:TMk):Option (List UInt8):=
 if pick x.kd 6=0∨ts=[]then(if x.t.length≤60 then some x.t else none)
 else if pick x.kd 6=1 then(if(x.txA ts).length+(x.txB ts).length≤400 then some (x.txA ts++x.txB ts)else none)
 else if pick x.kd 6=2∨pick x.kd 6=5 then(if pick x.n 7*(x.txA ts).length≤400 then some (Eg.rep (pick x.n 7) (x.txA ts))else none)
 else if pick x.kd 6=3 then some (((x.txA ts).drop (pick x.n ((x.txA ts).length+1))).take (pick x.m ((x.txA ts).length-pick x.n ((x.txA ts).length+1)+1)))
 else some ((x.txA ts).drop (pick x.n ((x.txA ts).length+1))++(x.txA ts).take (pick x.n ((x.txA ts).length+1)))
def qNt {ts:List (List UInt8)}(h:∀t∈ts,t.length≤400) (x:TMk):(x.txA ts).length≤400:=by
 unfold TMk.txA;rw[iq];cases hg:ts[pick x.a ts.length]? with
 |none=>exact av _
 |some t=>exact h t (ak hg)
def qXa {ts:List (List UInt8)}(h:∀t∈ts,t.length≤400) (x:TMk):(x.txB ts).length≤400:=by
 unfold TMk.txB;rw[iq];cases hg:ts[pick x.b ts.length]? with
 |none=>exact av _
 |some t=>exact h t (ak hg)
def pln_len {ts:List (List UInt8)}(h:∀t∈ts,t.length≤400) {x:TMk} {t:List UInt8} (hp:pln ts x=some t):t.length≤400:=by
 have ha:=qNt h x;unfold pln at hp;split at hp
 ·split at hp
  ·cases hp;omega
  cases hp
 split at hp
 ·split at hp
  ·cases hp;rw[aa];assumption
  cases hp
 split at hp
 ·split at hp
  ·cases hp;rw[Eg.rep_length];assumption
  cases hp
 split at hp
 ·cases hp;rw[ig,iw];omega
 cases hp;rw[aa,ig,iw];omega
def plns (ts:List (List UInt8)):List TMk→List (List UInt8)
 |[]=>ts
 |x::l=>match pln ts x with
  |none=>plns ts l
  |some t=>plns (ts++[t]) l
def qDj {x:TMk}:∀(l:List TMk)(ts:List (List UInt8)),plns ts (l++[x])=match pln (plns ts l) x with
  |none=>plns ts l
  |some t=>plns ts l++[t]
 |[],ts=>by simp only[plns,fu]
 |y::l,ts=>by
  simp only[ik,plns];cases pln ts y with
  |none=>exact qDj l ts
  |some t=>exact qDj l (ts++[t])
def qBi:∀(l:List TMk)(ts:List (List UInt8)),(plns ts l).length≤ts.length+l.length
 |[],ts=>ai _
 |y::l,ts=>by
  unfold plns;cases pln ts y with
  |none=>have:=qBi l ts;simp only[ax];omega
  |some t=>have:=qBi l (ts++[t]);simp only[ax,aa,fw]at this ⊢;omega
def vQ:∀(l:List TMk)(ts:List (List UInt8)),(∀t∈ts,t.length≤400)→∀t∈plns ts l,t.length≤400
 |[],ts,h=>h
 |y::l,ts,h=>by
  unfold plns;cases hp:pln ts y with
  |none=>exact vQ l ts h
  |some t=>
   refine vQ l (ts++[t]) fun u hu=>?_
   rcases bu.1 hu with hu|hu
   ·exact h u hu
   rw[bf.1 hu]
   exact pln_len h hp
def tsC (ts:List (List UInt8)):List Value:=ts.map fun t=> .string ⟨⟨t⟩⟩
def qWx (ts:List (List UInt8)):(tsC ts).length=ts.length:=gz _
def tsC_at {ts:List (List UInt8)}{i:Nat}{t:List UInt8}(h:ts[i]?=some t):(tsC ts)[i]?=some (.string ⟨⟨t⟩⟩):=by simp[tsC,h]
def tsC_snoc (ts:List (List UInt8))(t:List UInt8):tsC (ts++[t])=tsC ts++[.string ⟨⟨t⟩⟩]:=by simp[tsC]
def mkV (x:TMk):List Value:=[.int .i64 x.kd,.int .i64 x.a,.int .i64 x.b,.int .i64 x.n,.int .i64 x.m,.string ⟨⟨x.t⟩⟩]
def mkVs (l:List TMk):List Value:=l.flatMap mkV
structure TMk.ok (x:TMk):Prop where
 kd: -9223372036854775808≤x.kd∧x.kd≤9223372036854775807
 a: -9223372036854775808≤x.a∧x.a≤9223372036854775807
 b: -9223372036854775808≤x.b∧x.b≤9223372036854775807
 n: -9223372036854775808≤x.n∧x.n≤9223372036854775807
 m: -9223372036854775808≤x.m∧x.m≤9223372036854775807
end
section
open Go Go.RowKit Sl Eg
set_option maxRecDepth 10000
variable {E:Env}
def qFf (hE:Seat E){n:Nat}(h:n≤dC):Ct E 94 [.int .i64 (n:Nat)] [] (fun v Q=>v= .bool true∧Q=[]):=by
 apply sK;intro w;rw[hE.P];exact jM n w h
def ct_lnAdd (hE:Seat E){a b:Nat}(h:a+b≤dC):Ct E 77 [.int .i64 (a:Nat),.int .i64 (b:Nat)] [] (fun v Q=>v= .tuple #[.int .i64 ((a+b:Nat):Int),.nilIface]∧Q=[]):=by
 apply sK;intro w;rw[hE.P];exact vP a b w h
def ct_lnMul (hE:Seat E){a k:Nat}(h:a*k≤1000000000)(ha:a≤1000000000)(hk:k≤1000000000):Ct E 92 [.int .i64 (a:Nat),.int .i64 (k:Nat)] [] (fun v Q=>v= .tuple #[.int .i64 ((a*k:Nat):Int),.nilIface]∧Q=[]):=by
 have hmx:dC=1152921504606846976:=rfl;have hc:((a*k:Nat):Int)=(a:Int)*(k:Int):=ny a k;refine bO (hE.fn Tryz.func92) O O O (fun R=>?_);simp only[dR,uV,uW];refine gg10 ?_;refine uX (qFf hE oO) O ?_;rintro _ _⟨rfl,rfl⟩;simp only[uV,uW];refine gg9 ?_;refine bE O (fun g1=>?_) (fun g1=>?_)
 ·exfalso;omega
 refine gg9 ?_;refine bE O (fun g2=>?_) (fun g2=>?_)
 ·have h0:a=0:=oO;subst h0;refine gg8 ?_;exact uZ O (.tmp O (.tmp O .nil)) ⟨by simp[one],rfl⟩
 have ha1:(1:Int)≤(a:Int):=oO
 have hq:(1000000000:Int)≤1152921504606846976/(a:Int):=by
  rw[Int.le_ediv_iff_mul_le oO];omega
 refine gg11 ?_;refine bE O (fun g3=>?_) (fun g3=>?_)
 ·exfalso;omega
 refine gg12 ?_;rw[←hc];exact uZ O (.tmp O (.tmp O .nil)) ⟨O,O⟩
def ct_lnRng (hE:Seat E){f n l:Nat}(hl:l≤1000000000)(h:f+n≤l):Ct E 67 [.int .i64 (f:Nat),.int .i64 (n:Nat),.int .i64 (l:Nat)] [] (fun v Q=>v= .nilIface∧Q=[]):=by
 have hmx:dC=1152921504606846976:=rfl;refine bO (hE.fn Tryz.func67) O O O (fun R=>?_);simp only[dR,uV,uW];refine gg9 ?_;refine uX (qFf (n:=l) hE oO) O ?_;rintro _ _⟨rfl,rfl⟩;simp only[uV,uW];refine gg8 ?_;refine dS 14 O (fun h1=>?_) (fun h1=>?_)
 ·exfalso;omega
 refine gg6 ?_;refine dS 18 O (fun h2=>?_) (fun h2=>?_)
 ·exfalso;omega
 refine gg8 ?_;refine dS 23 O (fun h3=>?_) (fun h3=>?_)
 ·exfalso;omega
 refine gg13 ?_;refine bE O (fun h4=>?_) (fun h4=>?_)
 ·exfalso;omega
 refine gg8 ?_;exact uZ O (.tmp O .nil) ⟨O,O⟩
end
