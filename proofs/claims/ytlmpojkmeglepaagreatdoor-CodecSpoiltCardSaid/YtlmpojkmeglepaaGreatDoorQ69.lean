import Derived.Test.YtlmpojkmeglepaaGreatDoorQ68
set_option linter.all false
set_option maxHeartbeats 1000000
namespace Go.Proofs.YtlmpojkmeglepaaGreatDoor
open Go Go.RowKit Sl Eg
section
theorem Sig.part {L:List Rl}(hw:Wf L){x a:Nat}(hs:Sig L x)(h1:1≤a)(h2:a≤L.length)(h3:0≤lvl L a)(h4:lvl L a<lvl L x)(P Q:Nat→List Nat)
  (he:∀k:Nat,(k:Int)<lvl L x→expd L k x=P k++(expd L k a++Q k)) (hp:∀k:Nat,1≤k→(k:Int)<lvl L x→fF L (k-1) (P k)=P (k-1)):Sig L a:=by
 have key:∀k,1≤k→Inv L k (expd L (k-1) a)∧Sq L k (expd L (k-1) a) (expd L k a):=fun k hk=>by
  rcases Int.lt_or_le (k:Int) (lvl L x)with hlt|hge
  ·have hi:=hs.inv k hk
   have hq:=hs.step k hk
   rw[he (k-1) oO]at hi hq
   rw[he k hlt]at hq
   obtain⟨X,W,e1,s1,s2,_⟩:=hq.split hw
   have iX:Inv L k X:=by rw[e1]at hi;exact hi.left
   have iW:Inv L k W:=by rw[e1]at hi;exact hi.right
   have eX:X=P (k-1):=by rw[←hp k hk hlt];exact(s1.down iX hk).symm
   rw[eX]at e1
   have e2:=List.append_cancel_left e1
   obtain⟨Y,Z,e3,s3,s4,_⟩:=s2.split hw
   rw[e3]at iW
   have eY:Y=expd L (k-1) a:=by
    have e4:=s3.down iW.left hk
    rw[←e4,←fD,jV hw oO (by simpa using h2),fD]
   rw[←eY]
   exact⟨iW.left,s3⟩
  rw[dZ h1 oO,dZ h1 oO]
  exact⟨.one hw h1 h2 h3 oO,.one L k a⟩
 exact⟨h1,h2,h3,fun k hk=>(key k hk).1,fun k hk=>(key k hk).2⟩
def Nb (L:List Rl)(a b:Nat):Prop:=∀k:Nat,1≤k→(k:Int)≤max (lvl L a) (lvl L b)→Bdry L k (expd L (k-1) a) (expd L k a) (expd L (k-1) b)∧Inv L k (expd L (k-1) a++expd L (k-1) b)
theorem qMl {α:Type}{A B:List α}(h:A≠[]):(A++B).head?=A.head?:=by
 cases A with
 |nil=>exact absurd rfl h
 |cons a A=>rfl
theorem nb_of {L:List Rl}(hw:Wf L){x a b:Nat}(hs:Sig L x)(ha:1≤a∧a≤L.length)(hb:1≤b∧b≤L.length)(h4:lvl L a<lvl L x)(h5:lvl L b<lvl L x)(Q:Nat→List Nat)(he:∀k:Nat,(k:Int)<lvl L x→expd L k x=expd L k a++(expd L k b++Q k)):Nb L a b:=fun k hk hl=>by
 have hlt:(k:Int)<lvl L x:=oO
 have hi:=hs.inv k hk
 have hq:=hs.step k hk
 rw[he (k-1) oO]at hi hq
 rw[he k hlt]at hq
 obtain⟨X,W,e1,s1,s2,hbd⟩:=hq.split hw
 have hi':=hi
 rw[e1]at hi'
 have eX:X=expd L (k-1) a:=by
  rw[←s1.down hi'.left hk,←fD,jV hw oO (by simpa using ha.2),fD]
 rw[eX]at e1
 have e2:=List.append_cancel_left e1
 have hne:expd L (k-1) b≠[]:=fun e=>by have:=(nV hw (l:=k-1) b hb.1 hb.2).1;rw[e]at this;simp at this
 refine⟨fun u v hu hv=>hbd u v (by rw[eX];exact hu) (by rw[←e2,qMl hne];exact hv),?_⟩
 rw[←List.append_assoc]at hi
 exact hi.left
theorem Sig.down2 {L:List Rl}(hw:Wf L){n:Nat}{r:Rl}(hs:Sig L (n+1))(hr:L[n]?=some r):(∀x∈kids r,Sig L x∧lvl L x<lvl L (n+1))∧(∀a b,r= .pair a b→Nb L a b)∧∀a t,r= .power a t→Nb L a a:=by
 have hk:=hw.ok n r hr
 have hn:=(List.getElem?_eq_some_iff.1 hr).1
 have hl:=hs.lv
 cases r with
 |letter b=>exact⟨fun x h=>by simp[kids]at h,fun a b h=>Rl.noConfusion h,fun a t h=>Rl.noConfusion h⟩
 |pair a b=>
  obtain⟨h1,h2,h3,h4⟩:=hk
  obtain⟨g1,g2,g3,g4,_⟩:=kR hw (x:=n+1) oO hr hl
  have gp:=(jM hr (hw.ok _ _ hr)).2
  rw[gp]at hl
  split at hl
  ·rename_i hc
   have ea:Sig L a:=hs.part hw h1 oO hc.2.1 g3 (fun _=>[]) (fun k=>expd L k b) (fun k hk=>by rw[fK hw hr hk];rfl) (fun k _ _=>rfl)
   have eb:Sig L b:=hs.part hw h3 oO hc.2.2 g4 (fun k=>expd L k a) (fun _=>[]) (fun k hk=>by rw[fK hw hr hk,List.append_nil]) (fun k hk hk2=>by rw[←fD,jV hw oO (by simp;omega),fD])
   refine⟨fun x h=>?_,fun a' b' e=>?_,fun a t h=>Rl.noConfusion h⟩
   ·simp[kids]at h
    rcases h with rfl|rfl
    ·exact⟨ea,g3⟩
    exact⟨eb,g4⟩
   cases e
   exact nb_of hw hs ⟨h1,oO⟩ ⟨h3,oO⟩ g3 g4 (fun _=>[]) (fun k hk=>by rw[fK hw hr hk,List.append_nil])
  omega
 |power y t=>
  obtain⟨h1,h2,h3⟩:=hk
  obtain⟨g1,g2⟩:=mM hw (x:=n+1) oO hr hl
  have gp:=(jS hr (hw.ok _ _ hr)).2
  rw[gp]at hl
  split at hl
  ·rename_i hc
   obtain⟨t,rfl⟩:∃s,t=s+2:=⟨t-2,oO⟩
   have ee:∀k:Nat,(k:Int)<lvl L (n+1)→expd L k (n+1)=expd L k y++(expd L k y++(List.replicate t (expd L k y)).flatten):=fun k hk=>by
    rw[fO hw hr hk]
    simp only[List.replicate_succ,List.flatten_cons]
   have ea:Sig L y:=hs.part hw h1 oO hc.1 oO (fun _=>[]) (fun k=>expd L k y++(List.replicate t (expd L k y)).flatten) (fun k hk=>by rw[ee k hk];rfl) (fun k _ _=>rfl)
   refine⟨fun x h=>?_,fun a b h=>Rl.noConfusion h,fun a' t' e=>?_⟩
   ·simp[kids]at h
    subst h
    exact⟨ea,oO⟩
   cases e
   exact nb_of hw hs ⟨h1,oO⟩ ⟨h1,oO⟩ oO oO _ ee
  omega
end
section
theorem Iso.lvl {L1 L2:List Rl}(h1:Wf L1)(h2:Wf L2){x y:Nat}(h:Iso L1 L2 x y):Eg.lvl L1 x=Eg.lvl L2 y:=by
 induction h with
 |letter g1 g2=>rw[(fT g1).2,(fT g2).2]
 | @pair n m a b a' b' g1 g2 ha hb ih1 ih2=>
  have e:a=b↔a'=b':=⟨fun e=>by subst e;exact ha.fn h2 hb,fun e=>by subst e;exact ha.fn' h1 hb⟩
  rw[(jM g1 (h1.ok _ _ g1)).2,(jM g2 (h2.ok _ _ g2)).2,ih1,ih2,ha.key h1 h2,hb.key h1 h2]
  simp only[ne_eq,e]
 |power g1 g2 _ ih=>rw[(jS g1 (h1.ok _ _ g1)).2,(jS g2 (h2.ok _ _ g2)).2,ih]
theorem wQ {V:List Nat}{x y:Nat}(hx:x∈V)(h:numb V x=numb V y):x=y:=by
 have h1:=sD hx
 have hy:y∈V:=Classical.byContradiction fun hy=>gU.1 (h.trans (gU.2 hy)) hx
 have h2:=sD hy
 rw[h,h2]at h1
 exact(Option.some.inj h1).symm
theorem qY {V:List Nat}{x:Nat}(h:x∈V):1≤numb V x:=by
 have:numb V x≠0:=fun e=>gU.1 e h
 omega
structure Lis (L:List Rl)(V:List Nat):Prop where
 wf:Wf L
 acc:AccOk L V
 ord:Odr L V
variable {L:List Rl}{V:List Nat}
theorem Lis.closed (h:Lis L V):Closed L V:=h.ord.closed
theorem Lis.mem (h:Lis L V){x:Nat}(hx:x∈V):∃n r,x=n+1∧L[n]?=some r∧∀k∈kids r,k∈V:=by
 have hb:=h.acc.2 x hx
 obtain⟨n,rfl⟩:∃n,x=n+1:=⟨x-1,oO⟩
 obtain⟨r,hr⟩:∃r,L[n]?=some r:=⟨_,List.getElem?_eq_getElem oO⟩
 exact⟨n,r,O,hr,h.closed n r hx hr⟩
theorem qR:(gram L V).length=V.length:=List.length_map _
theorem Lis.get (h:Lis L V){n:Nat}{r:Rl}(hx:n+1∈V)(hr:L[n]?=some r):∃i,numb V (n+1)=i+1∧(gram L V)[i]?=some (jP V r):=by
 have h1:=qY hx
 refine⟨numb V (n+1)-1,oO,xP (sD hx) hr⟩
theorem Lis.zero (h:Lis L V):0∉V:=fun h0=>by have:=(h.acc.2 0 h0).1;omega
theorem Lis.one (h:Lis L V){i:Nat}{r:Rl}(hr:(gram L V)[i]?=some r):∃n q,V[i]?=some (n+1)∧L[n]?=some q∧r=jP V q∧numb V (n+1)=i+1:=by
 have hil:i<V.length:=by have:=(List.getElem?_eq_some_iff.1 hr).1;rwa [qR]at this
 obtain⟨x,hxi⟩:∃x,V[i]?=some x:=⟨_,List.getElem?_eq_getElem hil⟩
 have hm:=List.mem_of_getElem? hxi
 obtain⟨n,q,rfl,hq,_⟩:=h.mem hm
 rw[xP hxi hq]at hr
 refine⟨n,q,hxi,hq,(Option.some.inj hr).symm,?_⟩
 have h1:=sD hm
 have h2:=qY hm
 have h3:=qX V (n+1)
 have:numb V (n+1)-1=i:=by
  have hnd:=h.acc.1
  exact(List.getElem?_inj oO hnd).1 (h1.trans hxi.symm)
 omega
theorem qTd {q q':Rl}(h1:∀k∈kids q,k∈V) (h2:∀k∈kids q',k∈V) (h:jP V q=jP V q'):q=q':=by
 cases q<;>cases q'<;>simp only[jP,Rl.letter.injEq,Rl.pair.injEq,Rl.power.injEq,reduceCtorEq]at h
 ·rw[h]
 ·rw[wQ (h1 _ (by simp[kids])) h.1,wQ (h1 _ (by simp[kids])) h.2]
 rw[wQ (h1 _ (by simp[kids])) h.1,h.2]
theorem Lis.gwf (h:Lis L V):Wf (gram L V):=by
 have hok:=qAs h.wf h.acc h.ord
 refine⟨fun i r hr=>by have:=hok i r hr;rwa [Nat.zero_add]at this,fun i j r hi hj=>?_,fun i=>?_,by rw[qR];exact Nat.le_trans h.acc.len h.wf.room⟩
 ·obtain⟨n,q,v1,q1,e1,m1⟩:=h.one hi
  obtain⟨n',q',v2,q2,e2,m2⟩:=h.one hj
  have k1:=h.closed n q (List.mem_of_getElem? v1) q1
  have k2:=h.closed n' q' (List.mem_of_getElem? v2) q2
  obtain rfl:=qTd k1 k2 (e1.symm.trans e2)
  obtain rfl:=h.wf.nodup _ _ _ q1 q2
  omega
 rcases Nat.lt_or_ge (gram L V).length i with hi|hi
 ·rw[qFg hi];exact Nat.zero_le _
 cases i with
 |zero=>rw[len_zero];exact Nat.zero_le _
 |succ i=>
  obtain⟨r,hr⟩:∃r,(gram L V)[i]?=some r:=⟨_,List.getElem?_eq_getElem oO⟩
  obtain⟨n,q,v1,q1,e1,m1⟩:=h.one hr
  have:=qNs h.wf h.acc h.ord (n+1) (.inr (List.mem_of_getElem? v1))
  rw[m1]at this
  unfold len
  rw[this]
  exact h.wf.short (n+1)
theorem Lis.iso (h:Lis L V):∀x,x∈V→Iso L (gram L V) x (numb V x):=by
 intro x
 induction x using Nat.strongRecOn with
 |ind x ih=>
  intro hx
  obtain⟨n,r,rfl,hr,hk⟩:=h.mem hx
  obtain⟨i,e,hg⟩:=h.get hx hr
  have hkl:=iE (h.wf.ok _ _ hr)
  rw[e]
  cases r with
  |letter b=>exact .letter hr hg
  |pair a b=>exact .pair hr hg (ih a (hkl a (by simp[kids])).2 (hk a (by simp[kids]))) (ih b (hkl b (by simp[kids])).2 (hk b (by simp[kids])))
  |power a t=>exact .power hr hg (ih a (hkl a (by simp[kids])).2 (hk a (by simp[kids])))
theorem Lis.lv (h:Lis L V){x:Nat}(hx:x∈V):Eg.lvl (gram L V) (numb V x)=Eg.lvl L x:=((h.iso x hx).lvl h.wf h.gwf).symm
theorem Lis.ky (h:Lis L V){x:Nat}(hx:x∈V):Eg.key (gram L V) (numb V x)=Eg.key L x:=((h.iso x hx).key h.wf h.gwf).symm
theorem qMp {α β:Type}(f:α→β)(t:Nat)(l:List α):((List.replicate t l).flatten).map f=(List.replicate t (l.map f)).flatten:=by
 induction t with
 |zero=>rfl
 |succ t ih=>simp only[List.replicate_succ,List.flatten_cons,List.map_append,ih]
theorem qMr {α:Type}{t:Nat}{l:List α}{e:α}(h:e∈(List.replicate t l).flatten):e∈l:=by
 obtain⟨m,h1,h2⟩:=List.mem_flatten.1 h
 rw[(List.mem_replicate.1 h1).2]at h2
 exact h2
theorem Lis.exps (h:Lis L V)(k:Nat):∀x,x∈V→(∀e∈expd L k x,e∈V)∧expd (gram L V) k (numb V x)=(expd L k x).map (numb V):=by
 intro x
 induction x using Nat.strongRecOn with
 |ind x ih=>
  intro hx
  obtain⟨n,r,rfl,hr,hk⟩:=h.mem hx
  obtain⟨i,e,hg⟩:=h.get hx hr
  have hkl:=iE (h.wf.ok _ _ hr)
  have hl:=h.lv hx
  rw[e]at hl ⊢
  by_cases hlow:Eg.lvl L (n+1)≤(k:Nat)
  ·rw[dZ oO hlow,dZ oO (by rw[hl];exact hlow)]
   exact⟨fun z hz=>by rw[List.mem_singleton.1 hz];exact hx,by simp[e]⟩
  have h1:(k:Int)<Eg.lvl L (n+1):=oO
  have h2:(k:Int)<Eg.lvl (gram L V) (i+1):=oO
  cases r with
  |letter b=>have:=(fT hr).2;omega
  |pair a b=>
   obtain⟨a1,a2⟩:=ih a (hkl a (by simp[kids])).2 (hk a (by simp[kids]))
   obtain⟨b1,b2⟩:=ih b (hkl b (by simp[kids])).2 (hk b (by simp[kids]))
   rw[fK h.wf hr h1,fK h.gwf hg h2,a2,b2,List.map_append]
   exact⟨fun z hz=>(List.mem_append.1 hz).elim (a1 z) (b1 z),O⟩
  |power a t=>
   obtain⟨a1,a2⟩:=ih a (hkl a (by simp[kids])).2 (hk a (by simp[kids]))
   rw[fO h.wf hr h1,fO h.gwf hg h2,a2,qMp]
   exact⟨fun z hz=>a1 z (qMr hz),O⟩
theorem Lis.pg (h:Lis L V){c:Nat}{X U:List Nat}(hp:Pg L c X U):(∀x∈X,x∈V)→(∀x∈U,x∈V)→Pg (gram L V) c (X.map (numb V)) (U.map (numb V)):=by
 induction hp with
 |nil=>intro _ _;exact .nil
 | @one x r o h1 h2 ih=>
  intro hx ho
  simp only[List.map_cons]
  refine .one (fun y hy=>?_) (ih (fun z hz=>hx z (by simp[hz])) (fun z hz=>ho z (by simp[hz])))
  cases r with
  |nil=>simp at hy
  |cons y' r=>
   simp at hy
   subst hy
   rw[h.ky (hx x (by simp)),h.ky (hx y' (by simp))]
   exact h1 y' O
 | @two x y j r o h1 h2 h3 ih=>
  intro hx ho
  simp only[List.map_cons]
  obtain⟨i,e,hg⟩:=h.get (ho (j+1) (by simp)) h2
  rw[e]
  exact .two (by rw[h.ky (hx x (by simp)),h.ky (hx y (by simp))];exact h1) hg (ih (fun z hz=>hx z (by simp[hz])) (fun z hz=>ho z (by simp[hz])))
theorem Lis.rg (h:Lis L V){X U:List Nat}(hp:Rg L X U):(∀x∈X,x∈V)→(∀x∈U,x∈V)→Rg (gram L V) (X.map (numb V)) (U.map (numb V)):=by
 induction hp with
 |nil=>intro _ _;exact .nil
 | @run x t id r o h1 h2 h3 h4 ih=>
  intro hx ho
  obtain⟨t,rfl⟩:∃s,t=s+1:=⟨t-1,oO⟩
  have hxV:=hx x (by simp[List.replicate_succ])
  simp only[List.map_cons,List.map_append,List.map_replicate]
  refine .run h1 ?_ (fun e=>h3 ?_) (ih (fun z hz=>hx z (by simp[hz])) (fun z hz=>ho z (by simp[hz])))
  ·rcases h2 with⟨e1,rfl⟩|⟨e1,i,rfl,hi⟩
   ·exact .inl ⟨e1,O⟩
   obtain⟨i',e',hg⟩:=h.get (ho (i+1) (by simp)) hi
   rw[e']
   exact .inr ⟨e1,i',O,hg⟩
  cases r with
  |nil=>simp at e
  |cons y r=>
   simp at e ⊢
   exact(wQ (hx y (by simp)) e)
theorem pO {i z:Nat}{X:List Nat}{f:Nat→Nat}(h:(X.map f)[i]?=some z):∃x,X[i]?=some x∧z=f x:=by
 rw[List.getElem?_map]at h
 cases e:X[i]? with
 |none=>rw[e]at h;cases h
 |some x=>rw[e]at h;exact⟨x,rfl,(Option.some.inj h).symm⟩
theorem Lis.inv (h:Lis L V){k:Nat}{X:List Nat}(hi:Inv L k X)(hx:∀x∈X,x∈V):Inv (gram L V) k (X.map (numb V)):=by
 refine⟨h.gwf,fun z hz=>?_,fun i z h1 h2=>?_,fun i z w h1 h2 h3=>?_⟩
 ·obtain⟨x,hxx,rfl⟩:=List.mem_map.1 hz
  have:=hi.ok x hxx
  rw[h.lv (hx x hxx)]
  exact⟨qY (hx x hxx),by rw[qR];exact qX _ _,this.2.2.1,this.2.2.2⟩
 ·obtain⟨x,e1,rfl⟩:=pO h1
  obtain⟨y,e2,e3⟩:=pO h2
  obtain rfl:=wQ (hx x (List.mem_of_getElem? e1)) e3
  rw[h.lv (hx x (List.mem_of_getElem? e1))]
  exact hi.same i x e1 e2
 obtain⟨x,e1,rfl⟩:=pO h1
 obtain⟨y,e2,rfl⟩:=pO h2
 have hx1:=hx x (List.mem_of_getElem? e1)
 have hy1:=hx y (List.mem_of_getElem? e2)
 have:=hi.diff i x y e1 e2 (fun e=>h3 (by rw[e]))
 unfold aft at this ⊢
 rw[h.lv hx1,h.lv hy1,h.ky hx1,h.ky hy1]
 exact this
theorem Lis.sig (h:Lis L V){x:Nat}(hx:x∈V)(hs:Sig L x):Sig (gram L V) (numb V x):=by
 refine⟨qY hx,by rw[qR];exact qX _ _,by rw[h.lv hx];exact hs.lv,fun k hk=>?_,fun k hk=>?_⟩
 ·rw[(h.exps (k-1) x hx).2]
  exact h.inv (hs.inv k hk) (h.exps (k-1) x hx).1
 rw[(h.exps (k-1) x hx).2,(h.exps k x hx).2]
 have:=hs.step k hk
 unfold Sq at this ⊢
 split
 ·rename_i ho;rw[if_pos ho]at this;exact h.rg this (h.exps (k-1) x hx).1 (h.exps k x hx).1
 rename_i ho;rw[if_neg ho]at this;exact h.pg this (h.exps (k-1) x hx).1 (h.exps k x hx).1
theorem qKi (hw:Wf L){ys:List Nat}(hy:∀y∈ys,y≤L.length) (h:Lis L (dD L ys [])):dD (gram L (dD L ys [])) (ys.map (numb (dD L ys []))) []=(List.range (dD L ys []).length).map (· +1):=by
 have hin:∀y∈ys,y=0∨y∈dD L ys []:=fun y hm=>by
  rcases Nat.eq_zero_or_pos y with e| e
  ·exact .inl e
  exact .inr (((nH hw ys []).2 (xH L)).2 y hm e (hy y hm))
 have hr:=yH hw h.gwf (xs:=ys) (ys:=ys.map (numb (dD L ys []))) (by simp) (fun i x y h1 h2=>by
  obtain⟨x',e1,rfl⟩:=pO h2
  rw[h1]at e1
  cases e1
  rcases hin x (List.mem_of_getElem? h1)with rfl|hm
  ·exact .inl ⟨O,gU.2 h.zero⟩
  exact .inr (h.iso x hm)) (Rel.nil _ _)
 have hl:=hr.length
 apply List.ext_getElem?
 intro i
 rw[List.getElem?_map]
 rcases Nat.lt_or_ge i (dD L ys []).length with hi|hi
 ·obtain⟨x,hx⟩:∃x,(dD L ys [])[i]?=some x:=⟨_,List.getElem?_eq_getElem hi⟩
  obtain⟨z,hz⟩:∃z,(dD (gram L (dD L ys [])) (ys.map (numb (dD L ys []))) [])[i]?=some z:=⟨_,List.getElem?_eq_getElem oO⟩
  have hm:=List.mem_of_getElem? hx
  have e1:=(hr.get hx hz).fn h.gwf (h.iso x hm)
  have e2:numb (dD L ys []) x-1=i:=(List.getElem?_inj (by have:=qX (dD L ys []) x;have:=qY hm;omega) h.acc.1).1 ((sD hm).trans hx.symm)
  have e3:=qY hm
  rw[hz,List.getElem?_range hi,e1]
  simp only[Option.map_some]
  congr 1
  omega
 rw[List.getElem?_eq_none oO,List.getElem?_eq_none (by simpa using hi)]
 rfl
end
end Go.Proofs.YtlmpojkmeglepaaGreatDoor
