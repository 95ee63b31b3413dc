import Derived.Test.YtnicahfnolhgbaaGreatDoorQ62
set_option linter.all false
set_option maxHeartbeats 1000000
namespace Eg
def rem (L:List Rl)(K:Nat->Bool):Nat->Nat->Nat
 |0,_=>0
 |n+1,x=>if K x then 0 else if len L x<=256 then 512 else match L[x-1]? with
  |some (.pair l r)=>rem L K n l+rem L K n r+400
  |_=>0
def tQ {L}{K:Nat->Bool}{n x}(h:K x=true):rem L K n x=0:=by
 cases n with
 |zero=>rfl
 |succ n=>unfold rem;rw[if_pos h]
def yY {L}{K:Nat->Bool}{n x}(h:K x=false)(hl:len L x<=256):rem L K (n+1) x=512:=by
 unfold rem;rw[if_neg (by simp[h]),if_pos hl]
def wE {L}{K:Nat->Bool}{n x l r}(h:K x=false)(hl:256<len L x)(hg:L[x-1]?=some (.pair l r)):rem L K (n+1) x=rem L K n l+rem L K n r+400:=by
 rw[rem,if_neg (by simp[h]),if_neg oO,hg]
def qNk {L}{K:Nat->Bool}{n x}(hl:len L x<=256):rem L K n x<=512:=by
 cases n with
 |zero=>exact av _
 |succ n=>unfold rem;split <;>simp[hl]
def Rp {L}(hw:Wf L){K:Nat->Bool}:∀(n x:Nat),Ev L x->len L x<=400->rem L K n x<=912*n+512:=by
 intro n;induction n with
 |zero=>exact fun x _ _=>av _
 |succ n ih=>
  intro x hx hl
  cases hK:K x with
  |true=>rw[tQ hK];exact av _
  |false=>
   rcases fw 256 (len L x)with h| h
   ·obtain⟨i,rfl⟩:∃i,x=i+1:=⟨x-1,by
     rcases jo x with rfl|h'
     ·rw[Xh]at h;omega
     omega⟩
    rcases hx.rule hw with⟨b,hg,h0⟩|⟨l,r,hg,h1,h2,h3,h4,el,er,hB,hC,hD,ht⟩
    ·have:len L (i+1)=1:=by unfold len;rw[fP hg];rfl
     omega
    have hA:len L (i+1)=len L l+len L r:=by unfold len;rw[ht,aa]
    rw[wE hK h (by simpa using hg)]
    rcases fw 256 (len L l)with h'|h'
    ·have a1:=ih l el oO
     have a2:=qNk (K:=K) (n:=n) (x:=r) (L:=L) oO
     omega
    have a1:=ih r er oO
    have a2:=qNk (K:=K) (n:=n) (x:=l) (L:=L) h'
    omega
   rw[yY hK h];omega
def VH {L}{K K':Nat->Bool}(hK:∀x,K x=true->K' x=true):∀(n x:Nat),rem L K' n x<=rem L K n x:=by
 intro n;induction n with
 |zero=>exact fun x=>ai _
 |succ n ih=>
  intro x
  cases h':K' x with
  |true=>rw[tQ h'];exact av _
  |false=>
   have h:K x=false:=by
    cases h:K x with
    |false=>rfl
    |true=>rw[hK x h]at h';cases h'
   have e1:∀K:Nat->Bool,K x=false->rem L K (n+1) x=if len L x<=256 then 512 else match L[x-1]? with
     |some (.pair l r)=>rem L K n l+rem L K n r+400
     |_=>0:=fun K h=>by rw[rem,if_neg (by simp[h])]
   rw[e1 K h,e1 K' h']
   by_cases hl:len L x<=256
   ·rw[if_pos hl,if_pos hl]
    exact ai _
   rw[if_neg hl,if_neg hl]
   rcases L[x-1]? with _|(b|⟨l,r⟩|⟨y,k⟩)
   ·exact ai _
   ·exact ai _
   ·have a1:=ih l
    have a2:=ih r
    show rem L K' n l+rem L K' n r+400<=rem L K n l+rem L K n r+400
    omega
   exact ai _
def FW (L:List Rl)(K:Nat->Bool):Nat->List Nat->Prop
 |_,[]=>True
 |0,_::_=>False
 |n+1,x::st=>Ev L x/\1<=x/\dep L x<=n/\(∀y,st.head?=some y->K x=false/\256<len L x/\∃l r,L[x-1]?=some (.pair l r)/\dep L l<dep L x/\dep L r<dep L x/\(y=l\/y=r))/\FW L K n st
def FW.cnt {L}{K:Nat->Bool}:∀{st:List Nat}{n:Nat},FW L K n st->st.length<=n
 |[],n,_=>av _
 |x::st,0,h=>h.elim
 |x::st,n+1,h=>by have:=FW.cnt h.2.2.2.2;simp only[az];omega
def FW.pop {L}{K:Nat->Bool}{y}:∀{st:List Nat}{n:Nat},FW L K n (st++[y])->FW L K n st
 |[],n,_=>by cases n<;>trivial
 |x::st,0,h=>h.elim
 |x::st,n+1,⟨h1,h2,h3,h4,h5⟩=>⟨h1,h2,h3,fun z hz=>h4 z (by cases st with |nil=>cases hz|cons a b=>exact hz),FW.pop h5⟩
def FW.last {L}{K:Nat->Bool}{x y}:∀{st:List Nat}{n:Nat},FW L K n (st++[x]++[y])->K x=false
 |[],0,h=>h.elim
 |[],n+1,h=>(h.2.2.2.1 y rfl).1
 |z::st,0,h=>h.elim
 |z::st,n+1,h=>FW.last (st:=st) h.2.2.2.2
def FW.top {L}{K:Nat->Bool}{y}:∀{st:List Nat}{n:Nat},FW L K n (st++[y])->Ev L y/\1<=y/\dep L y+1<=n
 |[],0,h=>h.elim
 |[],n+1,h=>⟨h.1,h.2.1,by have:=h.2.2.1;omega⟩
 |z::st,0,h=>h.elim
 |z::st,n+1,h=>by
  obtain⟨a,b,c⟩:=FW.top (st:=st) h.2.2.2.2;exact⟨a,b,oO⟩
def FW.push {L}{K:Nat->Bool}{y z l r}(hK:K y=false)(hl:256<Eg.len L y)(hg:L[y-1]?=some (.pair l r))(hA:dep L l<dep L y)(hB:dep L r<dep L y)(hz:z=l\/z=r)(ez:Ev L z)(h1:1<=z):
  ∀{st:List Nat}{n:Nat},FW L K n (st++[y])->FW L K n (st++[y]++[z])
 |[],0,h=>h.elim
 |[],n+1,h=>by
  obtain⟨a,b,c,d,e⟩:=h;refine⟨a,b,c,fun w hw=>?_,?_⟩
  ·cases hw
   exact⟨hK,hl,l,r,hg,hA,hB,hz⟩
  have hd:dep L z<dep L y:=by rcases hz with rfl|rfl<;>assumption
  obtain⟨m,rfl⟩:∃m,n=m+1:=⟨n-1,oO⟩;exact⟨ez,h1,oO,fun w hw=>(by cases hw),by cases m<;>trivial⟩
 |x::st,0,h=>h.elim
 |x::st,n+1,⟨a,b,c,d,e⟩=>⟨a,b,c,fun w hw=>d w (by cases st with |nil=>exact hw|cons p q=>exact hw),FW.push hK hl hg hA hB hz ez h1 e⟩
def FW.deep {L}{K:Nat->Bool}{y}:∀{st:List Nat}{n x:Nat},FW L K n (x::(st++[y]))->dep L y<dep L x
 |[],0,x,h=>h.elim
 |[],n+1,x,h=>by
  obtain⟨_,_,l,r,_,h1,h2,h3⟩:=h.2.2.2.1 y rfl;rcases h3 with rfl|rfl<;>assumption
 |z::st,0,x,h=>h.elim
 |z::st,n+1,x,h=>by
  obtain⟨_,_,l,r,_,h1,h2,h3⟩:=h.2.2.2.1 z rfl;have:=FW.deep (st:=st) h.2.2.2.2;have:dep L z<dep L x:=by rcases h3 with rfl|rfl<;>assumption
  omega
def FW.short {L}{K:Nat->Bool}(hw:Wf L){y}:∀{st:List Nat}{n:Nat},FW L K n (st++[y])->∀x,(st++[y]).head?=some x->Eg.len L y<=Eg.len L x
 |[],_,_,x,hx=>by cases hx;exact ai _
 |z::st,0,h,_,_=>h.elim
 |z::st,n+1,h,x,hx=>by
  cases hx
  obtain⟨u,hu⟩:∃u,(st++[y]).head?=some u:=by cases st with |nil=>exact⟨_,rfl⟩|cons p q=>exact⟨_,rfl⟩
  have h1:=FW.short hw (st:=st) h.2.2.2.2 u hu;obtain⟨_,_,l,r,hg,_,_,h2⟩:=h.2.2.2.1 u hu;obtain⟨i,rfl⟩:∃i,z=i+1:=⟨z-1,by have:=h.2.1;omega⟩;have ht:=iK (by simpa using hg) (hw.ok _ _ (by simpa using hg));have hl:Eg.len L (i+1)=Eg.len L l+Eg.len L r:=by unfold Eg.len;rw[ht,aa]
  rcases h2 with rfl|rfl<;>omega
def FW.learn {L}{K K':Nat->Bool}{y}(hK:∀x,K' x=(K x||x==y)) (hy:K y=false) (hc:len L y<=256\/(256<Eg.len L y/\∃l r,L[y-1]?=some (.pair l r))):
  ∀{st:List Nat}{n:Nat},FW L K n (st++[y])->FW L K' n (st++[y])/\∀x,(st++[y]).head?=some x->rem L K' n x+(if len L y<=256 then 512 else 400)<=rem L K n x
 |[],0,h=>h.elim
 |[],n+1,h=>by
  obtain⟨a,b,c,d,e⟩:=h;refine⟨⟨a,b,c,fun w hw=>(by cases hw),by cases n<;>trivial⟩,fun x hx=>?_⟩;cases hx
  rw[tQ (by rw[hK];simp)];rcases hc with hc|⟨hc,l,r,hg⟩
  ·rw[yY hy hc,if_pos hc];omega
  rw[wE hy hc hg,if_neg oO];omega
 |x::st,0,h=>h.elim
 |x::st,n+1,h=>by
  have hd:=FW.deep (st:=st) h;obtain⟨a,b,c,d,e⟩:=h;obtain⟨i1,i2⟩:=FW.learn hK hy hc (st:=st) e;obtain⟨z,hz⟩:∃z,(st++[y]).head?=some z:=by cases st with |nil=>exact⟨_,rfl⟩|cons p q=>exact⟨_,rfl⟩
  obtain⟨k1,k2,l,r,hg,k3,k4,k5⟩:=d z hz;have hB:x≠y:=fun e=>by subst e;omega
  have k1':K' x=false:=by rw[hK,k1];simpa using hB
  refine⟨⟨a,b,c,fun w hw=>?_,i1⟩,fun w hw=>?_⟩
  ·have:w=z:=by
    have hA:(st++[y]).head?=some w:=hw;rw[hz]at hA;exact(oH hA).symm
   subst this;exact⟨k1',k2,l,r,hg,k3,k4,k5⟩
  cases hw
  rw[wE k1' k2 hg,wE k1 k2 hg];have m1:=VH (L:=L) (K:=K) (K':=K') (fun x hx=>by rw[hK,hx];rfl) n l;have m2:=VH (L:=L) (K:=K) (K':=K') (fun x hx=>by rw[hK,hx];rfl) n r;have m3:=i2 z hz;rcases k5 with rfl|rfl<;>omega
def FW.cost_le {L}{K:Nat->Bool}(hw:Wf L){st n x y}(h:FW L K n (st++[y]))(hK:K y=false)(hA:∀z,(st++[y]).head?=some z->z=x):(if Eg.len L y<=256 then 512 else 400)<=rem L K n x:=by
 obtain⟨ey,h1,_⟩:=h.top
 have hc:Eg.len L y<=256\/(256<Eg.len L y/\∃l r,L[y-1]?=some (.pair l r)):=by
  rcases fw 256 (Eg.len L y)with h2|h2
  ·obtain⟨i,rfl⟩:∃i,y=i+1:=⟨y-1,oO⟩;rcases ey.rule hw with⟨b,hg,h0⟩|⟨l,r,hg,_⟩
   ·exfalso;have:Eg.len L (i+1)=1:=by unfold Eg.len;rw[fP hg];rfl
    omega
   exact .inr ⟨h2,l,r,by simpa using hg⟩
  exact .inl h2
 obtain⟨z,hz⟩:∃z,(st++[y]).head?=some z:=by cases st with |nil=>exact⟨_,rfl⟩|cons p q=>exact⟨_,rfl⟩
 obtain rfl:=hA z hz;have:=(h.learn (K':=fun x=>K x||x==y) (fun _=>rfl) hK hc).2 z hz;omega
end Eg
namespace Go.Proofs.YtnicahfnolhgbaaGreatDoor
set_option maxRecDepth 10000
section
open Go Eg
structure EY where
 kd:Int
 a:Int
 b:Int
 n:Int
 m:Int
 t:List UInt8
def EY.txA (x:EY)(ts:List (List UInt8)):List UInt8:=ts.getD (pick x.a ts.length) []
def EY.txB (x:EY)(ts:List (List UInt8)):List UInt8:=ts.getD (pick x.b ts.length) []
def FZ (ts:List (List UInt8))(x:EY):Option (List UInt8):=
 if pick x.kd 6=0\/ts=[]then(if x.t.length<=60 then some x.t else none)
 else if pick x.kd 6=1 then(if(x.txA ts).length+(x.txB ts).length<=400 then some (x.txA ts++x.txB ts)else none)
 else if pick x.kd 6=2\/pick x.kd 6=5 then(if pick x.n 7*(x.txA ts).length<=400 then some (Eg.rep (pick x.n 7) (x.txA ts))else none)
 else if pick x.kd 6=3 then some (((x.txA ts).drop (pick x.n ((x.txA ts).length+1))).take (pick x.m ((x.txA ts).length-pick x.n ((x.txA ts).length+1)+1)))
 else some ((x.txA ts).drop (pick x.n ((x.txA ts).length+1))++(x.txA ts).take (pick x.n ((x.txA ts).length+1)))
def YY {ts}(h:∀t∈ts,t.length<=400) (x:EY):(x.txA ts).length<=400:=by
 unfold EY.txA;rw[lh];cases hg:ts[pick x.a ts.length]? with
 |none=>exact av _
 |some t=>exact h t (ak hg)
def zBg {ts}(h:∀t∈ts,t.length<=400) (x:EY):(x.txB ts).length<=400:=by
 unfold EY.txB;rw[lh];cases hg:ts[pick x.b ts.length]? with
 |none=>exact av _
 |some t=>exact h t (ak hg)
def Oq {ts}(h:∀t∈ts,t.length<=400) {x} {t} (hp:FZ ts x=some t):t.length<=400:=by
 have ha:=YY h x;unfold FZ at hp;split at hp
 ·split at hp
  ·cases hp;omega
  cases hp
 split at hp
 ·split at hp
  ·cases hp;rw[aa];assumption
  cases hp
 split at hp
 ·split at hp
  ·cases hp;rw[Eg.rep_length];assumption
  cases hp
 split at hp
 ·cases hp;rw[ig,lw];omega
 cases hp;rw[aa,ig,lw];omega
def DY (ts:List (List UInt8)):List EY->List (List UInt8)
 |[]=>ts
 |x::l=>match FZ ts x with
  |none=>DY ts l
  |some t=>DY (ts++[t]) l
def XI {x}:∀(l:List EY)(ts:List (List UInt8)),DY ts (l++[x])=match FZ (DY ts l) x with
  |none=>DY ts l
  |some t=>DY ts l++[t]
 |[],ts=>by simp only[DY,jw]
 |y::l,ts=>by
  simp only[jq,DY];cases FZ ts y with
  |none=>exact XI l ts
  |some t=>exact XI l (ts++[t])
def VF:∀(l:List EY)(ts:List (List UInt8)),(DY ts l).length<=ts.length+l.length
 |[],ts=>ai _
 |y::l,ts=>by
  unfold DY;cases FZ ts y with
  |none=>have:=VF l ts;simp only[az];omega
  |some t=>have:=VF l (ts++[t]);simp only[az,aa,iw]at this ⊢;omega
def wD:∀(l:List EY)(ts:List (List UInt8)),(∀t∈ts,t.length<=400)->∀t∈DY ts l,t.length<=400
 |[],ts,h=>h
 |y::l,ts,h=>by
  unfold DY;cases hp:FZ ts y with
  |none=>exact wD l ts h
  |some t=>
   refine wD l (ts++[t]) fun u hu=>?_
   rcases ay.1 hu with hu|hu
   ·exact h u hu
   rw[bg.1 hu]
   exact Oq h hp
def Gv (ts:List (List UInt8)):List Value:=ts.map fun t=> .string ⟨⟨t⟩⟩
def zBd (ts:List (List UInt8)):(Gv ts).length=ts.length:=jr _
def SF {ts:List (List UInt8)}{i:Nat}{t:List UInt8}(h:ts[i]?=some t):(Gv ts)[i]?=some (.string ⟨⟨t⟩⟩):=by simp[Gv,h]
def MO (ts:List (List UInt8))(t:List UInt8):Gv (ts++[t])=Gv ts++[.string ⟨⟨t⟩⟩]:=by simp[Gv]
def Ic (x:EY):List Value:=[.int .i64 x.kd,.int .i64 x.a,.int .i64 x.b,.int .i64 x.n,.int .i64 x.m,.string ⟨⟨x.t⟩⟩]
def Fj (l:List EY):List Value:=l.flatMap Ic
structure EY.ok (x:EY):Prop where
 kd: -9223372036854775808<=x.kd/\x.kd<=9223372036854775807
 a: -9223372036854775808<=x.a/\x.a<=9223372036854775807
 b: -9223372036854775808<=x.b/\x.b<=9223372036854775807
 n: -9223372036854775808<=x.n/\x.n<=9223372036854775807
 m: -9223372036854775808<=x.m/\x.m<=9223372036854775807
end
section
open Go Go.RowKit Sl Eg
variable {E:Bp}
def zR (hE:BP E){n}(h:n<=dC):Ct E 133 [BK n] [] (fun v Q=>v= .bool true/\Q=[]):=by
 apply rG;intro w;rw[hE.P];exact jQ n w h
def qQz (hE:BP E){a b}(h:a+b<=dC):Ct E 93 [BK a,BK b] [] (fun v Q=>v= .tuple #[BL ((a+b:Nat):Int),.nilIface]/\Q=[]):=by
 apply rG;intro w;rw[hE.P];exact vZ a b w h
def Jv (hE:BP E){a k}(h:a*k<=1000000000)(ha:a<=1000000000)(hk:k<=1000000000):Ct E 96 [BK a,BK k] [] (fun v Q=>v= .tuple #[BL ((a*k:Nat):Int),.nilIface]/\Q=[]):=by
 have hA:dC=1152921504606846976:=rfl;have hc:((a*k:Nat):Int)=(a:Int)*(k:Int):=nz a k;refine bO (hE.fn Tryz.func96) O O O (fun R=>?_);simp only[dS,uV,uW];refine Bc ?_;refine BH (zR hE oO) O ?_;refine Bu ?_;refine bE O (fun g1=>?_) (fun g1=>?_)
 ·exfalso;omega
 refine Bu ?_;refine bE O (fun g2=>?_) (fun g2=>?_)
 ·have h0:a=0:=oO;subst h0;refine Br ?_;exact uZ O (.tmp O (.tmp O .nil)) ⟨by simp[one],rfl⟩
 have hB:(1:Int)<=(a:Int):=oO
 have hq:(1000000000:Int)<=1152921504606846976/(a:Int):=by
  rw[Int.le_ediv_iff_mul_le oO];omega
 refine Bo ?_;refine bE O (fun g3=>?_) (fun g3=>?_)
 ·exfalso;omega
 refine Bq ?_;rw[<-hc];exact uZ O (.tmp O (.tmp O .nil)) ⟨O,O⟩
def Jw (hE:BP E){f n l}(hl:l<=1000000000)(h:f+n<=l):Ct E 99 [BK f,BK n,BK l] [] (fun v Q=>v= .nilIface/\Q=[]):=by
 have hA:dC=1152921504606846976:=rfl;refine bO (hE.fn Tryz.func99) O O O (fun R=>?_);simp only[dS,uV,uW];refine Bu ?_;refine BH (zR (n:=l) hE oO) O ?_;refine Br ?_;refine dV 14 O (fun h1=>?_) (fun h1=>?_)
 ·exfalso;omega
 refine CB ?_;refine dV 18 O (fun h2=>?_) (fun h2=>?_)
 ·exfalso;omega
 refine Br ?_;refine dV 23 O (fun h3=>?_) (fun h3=>?_)
 ·exfalso;omega
 refine CP ?_;refine bE O (fun h4=>?_) (fun h4=>?_)
 ·exfalso;omega
 refine Br ?_;exact uZ O (.tmp O .nil) ⟨O,O⟩
end
section
open Go Go.RowKit Sl Eg
variable {E:Bp}{Es:List Bj}{pp tb s most m bm:Nat}{f:Int->Option Value}
def DF.fn {L}(hw:Wf L){x y y'}(h:DF L x y)(h':DF L x y'):y=y':=Sg.fn hw h.2.2.2 h'.2.2.2
def EJ.fn {L}(hw:Wf L){xs ys ys'}(h:EJ L xs ys)(h':EJ L xs ys')(hl:ys.length=xs.length)(hB:ys'.length=xs.length):ys=ys':=by
 apply mh;intro i;rcases fw i xs.length with hi|hi
 ·obtain⟨x,hx⟩:∃x,xs[i]?=some x:=⟨_,ag hi⟩;obtain⟨y,hy⟩:∃y,ys[i]?=some y:=BG;obtain⟨y',hA⟩:∃y,ys'[i]?=some y:=BG;rw[hy,hA,(h i x y hx hy).fn hw (h' i x y' hx hA)]
 rw[ku oO,ku oO]
def EJ.bound {L xs ys}(h:EJ L xs ys)(hl:ys.length=xs.length):∀y∈ys,y<=L.length:=fun y hy=>by
 obtain⟨i,hi⟩:=mf hy;have hA:=(ae.1 hi).1;obtain⟨x,hx⟩:∃x,xs[i]?=some x:=BG;exact(h i x y hx hi).2.2.1.1
def qUn {l ids}(h:ids.length=l.length):(LJ l ids).length=l.length:=by simp[LJ,h]
def RV {l:List Im}{ids:List Nat}{i id:Nat}{x:Im}(hx:l[i]?=some x)(hi:ids[i]?=some id):(LJ l ids)[i]?=some (x.name,(id:Int)):=by
 unfold LJ;rw[bn];have:(l.zip ids)[i]?=some (x,id):=by rw[zz];exact⟨hx,hi⟩
 rw[this];rfl
end
end Go.Proofs.YtnicahfnolhgbaaGreatDoor
namespace Sl
open Go Go.RowKit
variable {E:Bp}{n:Nat}{L L':Fr}{S H H':List HP}{K:Value->List HP->Prop}{Q:Exit->Act->World->Prop}{ty:TypeId}{pos:String}{af:Array Edge}{d:Option Nat}{gd:Option (Nat×Bool)}
def LF {ops m f l' l}(e:l'=l)(h:Ea E ops m S Q f l n L H):Ea E ops m S Q f l' n L H:=e▸h
end Sl
namespace Go.Proofs.YtnicahfnolhgbaaGreatDoor
open Go Go.RowKit Sl Eg
set_option maxRecDepth 10000
variable {E:Bp}{L:List Rl}
def qQb (L:List Rl):(Cx L).length=L.length*5:=by
 induction L with
 |nil=>rfl
 |cons r L ih=>simp only[Cx,qz,aa,az]at ih ⊢;rw[ih];simp[UF];omega
def PI {L k r}(h:L[k]?=some r)(o:Nat)(ho:o=k*5):(Cx L)[o]?=some (BK (Rl.kind r))/\(Cx L)[o+1]?=some (.int .u8 (Rl.byte r:Nat))/\(Cx L)[o+2]?=some (BK (Rl.left r))/\(Cx L)[o+3]?=some (BK (Rl.right r))/\(Cx L)[o+4]?=some (BK (Rl.times r)):=by
 have hk:=(ae.1 h).1
 have e:L=L.take k++r::L.drop (k+1):=by
  obtain⟨h1,e1⟩:=ae.1 h;have e2:L.drop k=r::L.drop (k+1):=by rw[mr h1,e1]
  rw[<-e2,dh]
 have hl:(Cx (L.take k)).length=o:=by rw[qQb,ig,lm oO,ho]
 have e2:Cx L=Cx (L.take k)++(UF r++(L.drop (k+1)).flatMap UF):=by
  conv=>lhs;rw[e]
  simp[Cx]
 rw[e2];subst hl;exact⟨FP,FQ,Fx,Fg,GL⟩
def XN (L:List Rl)(r:Rl):Cx (L++[r])=Cx L++UF r:=by simp[Cx]
