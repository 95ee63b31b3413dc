import Derived.Test.YtlmpojkmeglepaaGreatDoorQ67
set_option linter.all false
set_option maxHeartbeats 1000000
namespace Go.Proofs.YtlmpojkmeglepaaGreatDoor
open Go Go.RowKit Sl Eg
section
def Sig.part {L:List Rl}(hw:Wf L){x a:Nat}(hs:Sig L x)(h1:1≤a)(h2:a≤L.length)(h3:0≤lvl L a)(h4:lvl L a<lvl L x)(P Q:Nat→List Nat)
  (he:∀k:Nat,(k:Int)<lvl L x→expd L k x=P k++(expd L k a++Q k)) (hp:∀k:Nat,1≤k→(k:Int)<lvl L x→eZ L (k-1) (P k)=P (k-1)):Sig L a:=by
 have key:∀k,1≤k→Inv L k (expd L (k-1) a)∧Sq L k (expd L (k-1) a) (expd L k a):=fun k hk=>by
  rcases Int.lt_or_le (k:Int) (lvl L x)with hlt|hge
  ·have hi:=hs.inv k hk;have hq:=hs.step k hk;rw[he (k-1) oO]at hi hq;rw[he k hlt]at hq;obtain⟨X,W,e1,s1,s2,_⟩:=hq.split hw;have iX:Inv L k X:=(by rw[e1]at hi;exact hi.left);have iW:Inv L k W:=(by rw[e1]at hi;exact hi.right);have eX:X=P (k-1):=by rw[←hp k hk hlt];exact(s1.down iX hk).symm
   rw[eX]at e1;have e2:=vk e1;obtain⟨Y,Z,e3,s3,s4,_⟩:=s2.split hw;rw[e3]at iW
   have eY:Y=expd L (k-1) a:=by
    have e4:=s3.down iW.left hk;rw[←e4,←fE,jZ hw oO (by simpa using h2),fE]
   rw[←eY];exact⟨iW.left,s3⟩
  rw[eO h1 oO,eO h1 oO];exact⟨.one hw h1 h2 h3 oO,.one L k a⟩
 exact⟨h1,h2,h3,fun k hk=>(key k hk).1,fun k hk=>(key k hk).2⟩
def Nb (L:List Rl)(a b:Nat):Prop:=∀k:Nat,1≤k→(k:Int)≤max (lvl L a) (lvl L b)→Bdry L k (expd L (k-1) a) (expd L k a) (expd L (k-1) b)∧Inv L k (expd L (k-1) a++expd L (k-1) b)
def qOz {α:Type}{A B:List α}(h:A≠[]):(A++B).head?=A.head?:=by
 cases A with
 |nil=>exact absurd rfl h
 |cons a A=>rfl
def nb_of {L:List Rl}(hw:Wf L){x a b:Nat}(hs:Sig L x)(ha:1≤a∧a≤L.length)(hb:1≤b∧b≤L.length)(h4:lvl L a<lvl L x)(h5:lvl L b<lvl L x)(Q:Nat→List Nat)(he:∀k:Nat,(k:Int)<lvl L x→expd L k x=expd L k a++(expd L k b++Q k)):Nb L a b:=fun k hk hl=>by
 have hlt:(k:Int)<lvl L x:=oO;have hi:=hs.inv k hk;have hq:=hs.step k hk;rw[he (k-1) oO]at hi hq;rw[he k hlt]at hq;obtain⟨X,W,e1,s1,s2,hbd⟩:=hq.split hw;have hi':=hi;rw[e1]at hi'
 have eX:X=expd L (k-1) a:=by
  rw[←s1.down hi'.left hk,←fE,jZ hw oO (by simpa using ha.2),fE]
 rw[eX]at e1;have e2:=vk e1;have hne:expd L (k-1) b≠[]:=fun e=>by have:=(lG hw (l:=k-1) b hb.1 hb.2).1;rw[e]at this;simp at this
 refine⟨fun u v hu hv=>hbd u v (by rw[eX];exact hu) (by rw[←e2,qOz hne];exact hv),?_⟩;rw[←ah]at hi;exact hi.left
def Sig.down2 {L:List Rl}(hw:Wf L){n:Nat}{r:Rl}(hs:Sig L (n+1))(hr:L[n]?=some r):(∀x∈kids r,Sig L x∧lvl L x<lvl L (n+1))∧(∀a b,r= .pair a b→Nb L a b)∧∀a t,r= .power a t→Nb L a a:=by
 have hk:=hw.ok n r hr;have hn:=(ae.1 hr).1;have hl:=hs.lv;cases r with
 |letter b=>exact⟨fun x h=>by simp[kids]at h,fun a b h=>Rl.noConfusion h,fun a t h=>Rl.noConfusion h⟩
 |pair a b=>
  obtain⟨h1,h2,h3,h4⟩:=hk
  obtain⟨g1,g2,g3,g4,_⟩:=lJ hw (x:=n+1) oO hr hl
  have gp:=(jY hr (hw.ok _ _ hr)).2
  rw[gp]at hl
  split at hl
  ·rename_i hc
   have ea:Sig L a:=hs.part hw h1 oO hc.2.1 g3 (fun _=>[]) (fun k=>expd L k b) (fun k hk=>by rw[fZ hw hr hk];rfl) (fun k _ _=>rfl)
   have eb:Sig L b:=hs.part hw h3 oO hc.2.2 g4 (fun k=>expd L k a) (fun _=>[]) (fun k hk=>by rw[fZ hw hr hk,aj]) (fun k hk hk2=>by rw[←fE,jZ hw oO (by simp;omega),fE])
   refine⟨fun x h=>?_,fun a' b' e=>?_,fun a t h=>Rl.noConfusion h⟩
   ·simp[kids]at h
    rcases h with rfl|rfl
    ·exact⟨ea,g3⟩
    exact⟨eb,g4⟩
   cases e
   exact nb_of hw hs ⟨h1,oO⟩ ⟨h3,oO⟩ g3 g4 (fun _=>[]) (fun k hk=>by rw[fZ hw hr hk,aj])
  omega
 |power y t=>
  obtain⟨h1,h2,h3⟩:=hk
  obtain⟨g1,g2⟩:=nZ hw (x:=n+1) oO hr hl
  have gp:=(jS hr (hw.ok _ _ hr)).2
  rw[gp]at hl
  split at hl
  ·rename_i hc
   obtain⟨t,rfl⟩:∃s,t=s+2:=⟨t-2,oO⟩
   have ee:∀k:Nat,(k:Int)<lvl L (n+1)→expd L k (n+1)=expd L k y++(expd L k y++(List.replicate t (expd L k y)).flatten):=fun k hk=>by
    rw[gB hw hr hk];simp only[bn,jo]
   have ea:Sig L y:=hs.part hw h1 oO hc.1 oO (fun _=>[]) (fun k=>expd L k y++(List.replicate t (expd L k y)).flatten) (fun k hk=>by rw[ee k hk];rfl) (fun k _ _=>rfl)
   refine⟨fun x h=>?_,fun a b h=>Rl.noConfusion h,fun a' t' e=>?_⟩
   ·simp[kids]at h
    subst h
    exact⟨ea,oO⟩
   cases e
   exact nb_of hw hs ⟨h1,oO⟩ ⟨h1,oO⟩ oO oO _ ee
  omega
end
section
def Iso.lvl {L1 L2:List Rl}(h1:Wf L1)(h2:Wf L2){x y:Nat}(h:Iso L1 L2 x y):Eg.lvl L1 x=Eg.lvl L2 y:=by
 induction h with
 |letter g1 g2=>rw[(fU g1).2,(fU g2).2]
 | @pair n m a b a' b' g1 g2 ha hb ih1 ih2=>
  have e:a=b↔a'=b':=⟨fun e=>by subst e;exact ha.fn h2 hb,fun e=>by subst e;exact ha.fn' h1 hb⟩
  rw[(jY g1 (h1.ok _ _ g1)).2,(jY g2 (h2.ok _ _ g2)).2,ih1,ih2,ha.key h1 h2,hb.key h1 h2]
  simp only[ne_eq,e]
 |power g1 g2 _ ih=>rw[(jS g1 (h1.ok _ _ g1)).2,(jS g2 (h2.ok _ _ g2)).2,ih]
def xW {V:List Nat}{x y:Nat}(hx:x∈V)(h:numb V x=numb V y):x=y:=by
 have h1:=tJ hx;have hy:y∈V:=Classical.byContradiction fun hy=>gZ.1 (h.trans (gZ.2 hy)) hx
 have h2:=tJ hy;rw[h,h2]at h1;exact(oH h1).symm
def rU {V:List Nat}{x:Nat}(h:x∈V):1≤numb V x:=by
 have:numb V x≠0:=fun e=>gZ.1 e h
 omega
structure Lis (L:List Rl)(V:List Nat):Prop where
 wf:Wf L
 acc:AccOk L V
 ord:Odr L V
variable {L:List Rl}{V:List Nat}
def Lis.closed (h:Lis L V):Closed L V:=h.ord.closed
def Lis.mem (h:Lis L V){x:Nat}(hx:x∈V):∃n r,x=n+1∧L[n]?=some r∧∀k∈kids r,k∈V:=by
 have hb:=h.acc.2 x hx;obtain⟨n,rfl⟩:∃n,x=n+1:=⟨x-1,oO⟩;obtain⟨r,hr⟩:∃r,L[n]?=some r:=⟨_,ag oO⟩;exact⟨n,r,O,hr,h.closed n r hx hr⟩
def rP:(gram L V).length=V.length:=gz _
def Lis.get (h:Lis L V){n:Nat}{r:Rl}(hx:n+1∈V)(hr:L[n]?=some r):∃i,numb V (n+1)=i+1∧(gram L V)[i]?=some (iC V r):=by
 have h1:=rU hx;refine⟨numb V (n+1)-1,oO,zA (tJ hx) hr⟩
def Lis.zero (h:Lis L V):0∉V:=fun h0=>by have:=(h.acc.2 0 h0).1;omega
def Lis.one (h:Lis L V){i:Nat}{r:Rl}(hr:(gram L V)[i]?=some r):∃n q,V[i]?=some (n+1)∧L[n]?=some q∧r=iC V q∧numb V (n+1)=i+1:=by
 have hil:i<V.length:=by have:=(ae.1 hr).1;rwa [rP]at this
 obtain⟨x,hxi⟩:∃x,V[i]?=some x:=⟨_,ag hil⟩;have hm:=ak hxi;obtain⟨n,q,rfl,hq,_⟩:=h.mem hm;rw[zA hxi hq]at hr;refine⟨n,q,hxi,hq,(oH hr).symm,?_⟩;have h1:=tJ hm;have h2:=rU hm;have h3:=qD V (n+1)
 have:numb V (n+1)-1=i:=by
  have hnd:=h.acc.1;exact(List.getElem?_inj oO hnd).1 (h1.trans hxi.symm)
 omega
def qVv {q q':Rl}(h1:∀k∈kids q,k∈V) (h2:∀k∈kids q',k∈V) (h:iC V q=iC V q'):q=q':=by
 cases q<;>cases q'<;>simp only[iC,Rl.letter.injEq,Rl.pair.injEq,Rl.power.injEq,reduceCtorEq]at h
 ·rw[h]
 ·rw[xW (h1 _ (by simp[kids])) h.1,xW (h1 _ (by simp[kids])) h.2]
 rw[xW (h1 _ (by simp[kids])) h.1,h.2]
def Lis.gwf (h:Lis L V):Wf (gram L V):=by
 have hok:=qCs h.wf h.acc h.ord;refine⟨fun i r hr=>by have:=hok i r hr;rwa [ko]at this,fun i j r hi hj=>?_,fun i=>?_,by rw[rP];exact jv h.acc.len h.wf.room⟩
 ·obtain⟨n,q,v1,q1,e1,m1⟩:=h.one hi;obtain⟨n',q',v2,q2,e2,m2⟩:=h.one hj;have k1:=h.closed n q (ak v1) q1;have k2:=h.closed n' q' (ak v2) q2;obtain rfl:=qVv k1 k2 (e1.symm.trans e2);obtain rfl:=h.wf.nodup _ _ _ q1 q2;omega
 rcases dw (gram L V).length i with hi|hi
 ·rw[qHn hi];exact av _
 cases i with
 |zero=>rw[qHo];exact av _
 |succ i=>
  obtain⟨r,hr⟩:∃r,(gram L V)[i]?=some r:=⟨_,ag oO⟩
  obtain⟨n,q,v1,q1,e1,m1⟩:=h.one hr
  have:=qQi h.wf h.acc h.ord (n+1) (.inr (ak v1))
  rw[m1]at this
  unfold len
  rw[this]
  exact h.wf.short (n+1)
def Lis.iso (h:Lis L V):∀x,x∈V→Iso L (gram L V) x (numb V x):=by
 intro x;induction x using Nat.strongRecOn with
 |ind x ih=>
  intro hx
  obtain⟨n,r,rfl,hr,hk⟩:=h.mem hx
  obtain⟨i,e,hg⟩:=h.get hx hr
  have hkl:=iG (h.wf.ok _ _ hr)
  rw[e]
  cases r with
  |letter b=>exact .letter hr hg
  |pair a b=>exact .pair hr hg (ih a (hkl a (by simp[kids])).2 (hk a (by simp[kids]))) (ih b (hkl b (by simp[kids])).2 (hk b (by simp[kids])))
  |power a t=>exact .power hr hg (ih a (hkl a (by simp[kids])).2 (hk a (by simp[kids])))
def Lis.lv (h:Lis L V){x:Nat}(hx:x∈V):Eg.lvl (gram L V) (numb V x)=Eg.lvl L x:=((h.iso x hx).lvl h.wf h.gwf).symm
def Lis.ky (h:Lis L V){x:Nat}(hx:x∈V):Eg.key (gram L V) (numb V x)=Eg.key L x:=((h.iso x hx).key h.wf h.gwf).symm
def qPg {α β:Type}(f:α→β)(t:Nat)(l:List α):((List.replicate t l).flatten).map f=(List.replicate t (l.map f)).flatten:=by
 induction t with
 |zero=>rfl
 |succ t ih=>simp only[bn,jo,kg,ih]
def qPh {α:Type}{t:Nat}{l:List α}{e:α}(h:e∈(List.replicate t l).flatten):e∈l:=by
 obtain⟨m,h1,h2⟩:=List.mem_flatten.1 h;rw[(og.1 h1).2]at h2;exact h2
def Lis.exps (h:Lis L V)(k:Nat):∀x,x∈V→(∀e∈expd L k x,e∈V)∧expd (gram L V) k (numb V x)=(expd L k x).map (numb V):=by
 intro x;induction x using Nat.strongRecOn with
 |ind x ih=>
  intro hx
  obtain⟨n,r,rfl,hr,hk⟩:=h.mem hx
  obtain⟨i,e,hg⟩:=h.get hx hr
  have hkl:=iG (h.wf.ok _ _ hr)
  have hl:=h.lv hx
  rw[e]at hl ⊢
  by_cases hlow:Eg.lvl L (n+1)≤(k:Nat)
  ·rw[eO oO hlow,eO oO (by rw[hl];exact hlow)]
   exact⟨fun z hz=>by rw[bf.1 hz];exact hx,by simp[e]⟩
  have h1:(k:Int)<Eg.lvl L (n+1):=oO
  have h2:(k:Int)<Eg.lvl (gram L V) (i+1):=oO
  cases r with
  |letter b=>have:=(fU hr).2;omega
  |pair a b=>
   obtain⟨a1,a2⟩:=ih a (hkl a (by simp[kids])).2 (hk a (by simp[kids]))
   obtain⟨b1,b2⟩:=ih b (hkl b (by simp[kids])).2 (hk b (by simp[kids]))
   rw[fZ h.wf hr h1,fZ h.gwf hg h2,a2,b2,kg]
   exact⟨fun z hz=>(bu.1 hz).elim (a1 z) (b1 z),O⟩
  |power a t=>
   obtain⟨a1,a2⟩:=ih a (hkl a (by simp[kids])).2 (hk a (by simp[kids]))
   rw[gB h.wf hr h1,gB h.gwf hg h2,a2,qPg]
   exact⟨fun z hz=>a1 z (qPh hz),O⟩
def Lis.pg (h:Lis L V){c:Nat}{X U:List Nat}(hp:Pg L c X U):(∀x∈X,x∈V)→(∀x∈U,x∈V)→Pg (gram L V) c (X.map (numb V)) (U.map (numb V)):=by
 induction hp with
 |nil=>intro _ _;exact .nil
 | @one x r o h1 h2 ih=>
  intro hx ho
  simp only[jq]
  refine .one (fun y hy=>?_) (ih (fun z hz=>hx z (by simp[hz])) (fun z hz=>ho z (by simp[hz])))
  cases r with
  |nil=>simp at hy
  |cons y' r=>
   simp at hy
   subst hy
   rw[h.ky (hx x (by simp)),h.ky (hx y' (by simp))]
   exact h1 y' O
 | @two x y j r o h1 h2 h3 ih=>
  intro hx ho
  simp only[jq]
  obtain⟨i,e,hg⟩:=h.get (ho (j+1) (by simp)) h2
  rw[e]
  exact .two (by rw[h.ky (hx x (by simp)),h.ky (hx y (by simp))];exact h1) hg (ih (fun z hz=>hx z (by simp[hz])) (fun z hz=>ho z (by simp[hz])))
def Lis.rg (h:Lis L V){X U:List Nat}(hp:Rg L X U):(∀x∈X,x∈V)→(∀x∈U,x∈V)→Rg (gram L V) (X.map (numb V)) (U.map (numb V)):=by
 induction hp with
 |nil=>intro _ _;exact .nil
 | @run x t id r o h1 h2 h3 h4 ih=>
  intro hx ho
  obtain⟨t,rfl⟩:∃s,t=s+1:=⟨t-1,oO⟩
  have hxV:=hx x (by simp[bn])
  simp only[jq,kg,yf]
  refine .run h1 ?_ (fun e=>h3 ?_) (ih (fun z hz=>hx z (by simp[hz])) (fun z hz=>ho z (by simp[hz])))
  ·rcases h2 with⟨e1,rfl⟩|⟨e1,i,rfl,hi⟩
   ·exact .inl ⟨e1,O⟩
   obtain⟨i',e',hg⟩:=h.get (ho (i+1) (by simp)) hi
   rw[e']
   exact .inr ⟨e1,i',O,hg⟩
  cases r with
  |nil=>simp at e
  |cons y r=>
   simp at e ⊢
   exact(xW (hx y (by simp)) e)
def qC {i z:Nat}{X:List Nat}{f:Nat→Nat}(h:(X.map f)[i]?=some z):∃x,X[i]?=some x∧z=f x:=by
 rw[bi]at h;cases e:X[i]? with
 |none=>rw[e]at h;cases h
 |some x=>rw[e]at h;exact⟨x,rfl,(oH h).symm⟩
def Lis.inv (h:Lis L V){k:Nat}{X:List Nat}(hi:Inv L k X)(hx:∀x∈X,x∈V):Inv (gram L V) k (X.map (numb V)):=by
 refine⟨h.gwf,fun z hz=>?_,fun i z h1 h2=>?_,fun i z w h1 h2 h3=>?_⟩
 ·obtain⟨x,hxx,rfl⟩:=jg.1 hz;have:=hi.ok x hxx;rw[h.lv (hx x hxx)];exact⟨rU (hx x hxx),by rw[rP];exact qD _ _,this.2.2.1,this.2.2.2⟩
 ·obtain⟨x,e1,rfl⟩:=qC h1;obtain⟨y,e2,e3⟩:=qC h2;obtain rfl:=xW (hx x (ak e1)) e3;rw[h.lv (hx x (ak e1))];exact hi.same i x e1 e2
 obtain⟨x,e1,rfl⟩:=qC h1;obtain⟨y,e2,rfl⟩:=qC h2;have hx1:=hx x (ak e1);have hy1:=hx y (ak e2);have:=hi.diff i x y e1 e2 (fun e=>h3 (by rw[e]));unfold aft at this ⊢;rw[h.lv hx1,h.lv hy1,h.ky hx1,h.ky hy1];exact this
def Lis.sig (h:Lis L V){x:Nat}(hx:x∈V)(hs:Sig L x):Sig (gram L V) (numb V x):=by
 refine⟨rU hx,by rw[rP];exact qD _ _,by rw[h.lv hx];exact hs.lv,fun k hk=>?_,fun k hk=>?_⟩
 ·rw[(h.exps (k-1) x hx).2];exact h.inv (hs.inv k hk) (h.exps (k-1) x hx).1
 rw[(h.exps (k-1) x hx).2,(h.exps k x hx).2];have:=hs.step k hk;unfold Sq at this ⊢;split
 ·rename_i ho;rw[if_pos ho]at this;exact h.rg this (h.exps (k-1) x hx).1 (h.exps k x hx).1
 rename_i ho;rw[if_neg ho]at this;exact h.pg this (h.exps (k-1) x hx).1 (h.exps k x hx).1
def qMw (hw:Wf L){ys:List Nat}(hy:∀y∈ys,y≤L.length) (h:Lis L (dD L ys [])):dD (gram L (dD L ys [])) (ys.map (numb (dD L ys []))) []=(List.range (dD L ys []).length).map (· +1):=by
 have hin:∀y∈ys,y=0∨y∈dD L ys []:=fun y hm=>by
  rcases fe y with e| e
  ·exact .inl e
  exact .inr (((qY hw ys []).2 (qEz L)).2 y hm e (hy y hm))
 have hr:=zY hw h.gwf (xs:=ys) (ys:=ys.map (numb (dD L ys []))) (by simp) (fun i x y h1 h2=>by
  obtain⟨x',e1,rfl⟩:=qC h2;rw[h1]at e1;cases e1
  rcases hin x (ak h1)with rfl|hm
  ·exact .inl ⟨O,gZ.2 h.zero⟩
  exact .inr (h.iso x hm)) (Rel.nil _ _)
 have hl:=hr.length;apply lm;intro i;rw[bi];rcases dw i (dD L ys []).length with hi|hi
 ·obtain⟨x,hx⟩:∃x,(dD L ys [])[i]?=some x:=⟨_,ag hi⟩;obtain⟨z,hz⟩:∃z,(dD (gram L (dD L ys [])) (ys.map (numb (dD L ys []))) [])[i]?=some z:=⟨_,ag oO⟩;have hm:=ak hx;have e1:=(hr.get hx hz).fn h.gwf (h.iso x hm);have e2:numb (dD L ys []) x-1=i:=(List.getElem?_inj (by have:=qD (dD L ys []) x;have:=rU hm;omega) h.acc.1).1 ((tJ hm).trans hx.symm);have e3:=rU hm;rw[hz,lc hi,e1];simp only[oZ];congr 1;omega
 rw[fq oO,fq (by simpa using hi)];rfl
end
