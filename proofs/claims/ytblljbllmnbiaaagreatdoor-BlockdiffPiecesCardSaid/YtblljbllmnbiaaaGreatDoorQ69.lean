import Derived.Test.YtblljbllmnbiaaaGreatDoorQ68
set_option linter.all false
set_option maxHeartbeats 1000000
namespace Go.Proofs.YtblljbllmnbiaaaGreatDoor
open Go Go.RowKit Sl Eg
section
theorem Sig.part {L:List Rl}(hw:Wf L){x a:Nat}(hs:Sig L x)(h1:1≤a)(h2:a≤L.length)(h3:0≤lvl L a)(h4:lvl L a<lvl L x)(P Q:Nat→List Nat)
  (he:∀k:Nat,(k:Int)<lvl L x→expd L k x=P k++(expd L k a++Q k)) (hp:∀k:Nat,1≤k→(k:Int)<lvl L x→fC L (k-1) (P k)=P (k-1)):Sig L a:=by
 have key:∀k,1≤k→Inv L k (expd L (k-1) a)∧Sq L k (expd L (k-1) a) (expd L k a):=fun k hk=>by
  rcases Int.lt_or_le (k:Int) (lvl L x)with hlt|hge
  ·have hi:=hs.inv k hk
   have hq:=hs.step k hk
   rw[he (k-1) oO]at hi hq
   rw[he k hlt]at hq
   obtain⟨X,W,e1,s1,s2,_⟩:=hq.split hw
   have iX:Inv L k X:=by rw[e1]at hi;exact hi.left
   have iW:Inv L k W:=by rw[e1]at hi;exact hi.right
   have eX:X=P (k-1):=by rw[←hp k hk hlt];exact(s1.down iX hk).symm
   rw[eX]at e1
   have e2:=List.append_cancel_left e1
   obtain⟨Y,Z,e3,s3,s4,_⟩:=s2.split hw
   rw[e3]at iW
   have eY:Y=expd L (k-1) a:=by
    have e4:=s3.down iW.left hk
    rw[←e4,←fO,lU hw oO (by simpa using h2),fO]
   rw[←eY]
   exact⟨iW.left,s3⟩
  rw[iO h1 oO,iO h1 oO]
  exact⟨.one hw h1 h2 h3 oO,.one L k a⟩
 exact⟨h1,h2,h3,fun k hk=>(key k hk).1,fun k hk=>(key k hk).2⟩
def Nb (L:List Rl)(a b:Nat):Prop:=∀k:Nat,1≤k→(k:Int)≤max (lvl L a) (lvl L b)→Bdry L k (expd L (k-1) a) (expd L k a) (expd L (k-1) b)∧Inv L k (expd L (k-1) a++expd L (k-1) b)
theorem head_app {α:Type}{A B:List α}(h:A≠[]):(A++B).head?=A.head?:=by
 cases A with
 |nil=>exact absurd rfl h
 |cons a A=>rfl
theorem nb_of {L:List Rl}(hw:Wf L){x a b:Nat}(hs:Sig L x)(ha:1≤a∧a≤L.length)(hb:1≤b∧b≤L.length)(h4:lvl L a<lvl L x)(h5:lvl L b<lvl L x)(Q:Nat→List Nat)(he:∀k:Nat,(k:Int)<lvl L x→expd L k x=expd L k a++(expd L k b++Q k)):Nb L a b:=fun k hk hl=>by
 have hlt:(k:Int)<lvl L x:=oO
 have hi:=hs.inv k hk
 have hq:=hs.step k hk
 rw[he (k-1) oO]at hi hq
 rw[he k hlt]at hq
 obtain⟨X,W,e1,s1,s2,hbd⟩:=hq.split hw
 have hi':=hi
 rw[e1]at hi'
 have eX:X=expd L (k-1) a:=by
  rw[←s1.down hi'.left hk,←fO,lU hw oO (by simpa using ha.2),fO]
 rw[eX]at e1
 have e2:=List.append_cancel_left e1
 have hne:expd L (k-1) b≠[]:=fun e=>by have:=(nS hw (l:=k-1) b hb.1 hb.2).1;rw[e]at this;simp at this
 refine⟨fun u v hu hv=>hbd u v (by rw[eX];exact hu) (by rw[←e2,head_app hne];exact hv),?_⟩
 rw[←List.append_assoc]at hi
 exact hi.left
theorem Sig.down2 {L:List Rl}(hw:Wf L){n:Nat}{r:Rl}(hs:Sig L (n+1))(hr:L[n]?=some r):(∀x∈kids r,Sig L x∧lvl L x<lvl L (n+1))∧(∀a b,r= .pair a b→Nb L a b)∧∀a t,r= .power a t→Nb L a a:=by
 have hk:=hw.ok n r hr
 have hn:=(List.getElem?_eq_some_iff.1 hr).1
 have hl:=hs.lv
 cases r with
 |letter b=>exact⟨fun x h=>by simp[kids]at h,fun a b h=>Rl.noConfusion h,fun a t h=>Rl.noConfusion h⟩
 |pair a b=>
  obtain⟨h1,h2,h3,h4⟩:=hk
  obtain⟨g1,g2,g3,g4,_⟩:=qP hw (x:=n+1) oO hr hl
  have gp:=(nU hr (hw.ok _ _ hr)).2
  rw[gp]at hl
  split at hl
  ·rename_i hc
   have ea:Sig L a:=hs.part hw h1 oO hc.2.1 g3 (fun _=>[]) (fun k=>expd L k b) (fun k hk=>by rw[iY hw hr hk];rfl) (fun k _ _=>rfl)
   have eb:Sig L b:=hs.part hw h3 oO hc.2.2 g4 (fun k=>expd L k a) (fun _=>[]) (fun k hk=>by rw[iY hw hr hk,List.append_nil]) (fun k hk hk2=>by rw[←fO,lU hw oO (by simp;omega),fO])
   refine⟨fun x h=>?_,fun a' b' e=>?_,fun a t h=>Rl.noConfusion h⟩
   ·simp[kids]at h
    rcases h with rfl|rfl
    ·exact⟨ea,g3⟩
    exact⟨eb,g4⟩
   cases e
   exact nb_of hw hs ⟨h1,oO⟩ ⟨h3,oO⟩ g3 g4 (fun _=>[]) (fun k hk=>by rw[iY hw hr hk,List.append_nil])
  omega
 |power y t=>
  obtain⟨h1,h2,h3⟩:=hk
  obtain⟨g1,g2⟩:=qCc hw (x:=n+1) oO hr hl
  have gp:=(mK hr (hw.ok _ _ hr)).2
  rw[gp]at hl
  split at hl
  ·rename_i hc
   obtain⟨t,rfl⟩:∃s,t=s+2:=⟨t-2,oO⟩
   have ee:∀k:Nat,(k:Int)<lvl L (n+1)→expd L k (n+1)=expd L k y++(expd L k y++(List.replicate t (expd L k y)).flatten):=fun k hk=>by
    rw[iZ hw hr hk]
    simp only[List.replicate_succ,List.flatten_cons]
   have ea:Sig L y:=hs.part hw h1 oO hc.1 oO (fun _=>[]) (fun k=>expd L k y++(List.replicate t (expd L k y)).flatten) (fun k hk=>by rw[ee k hk];rfl) (fun k _ _=>rfl)
   refine⟨fun x h=>?_,fun a b h=>Rl.noConfusion h,fun a' t' e=>?_⟩
   ·simp[kids]at h
    subst h
    exact⟨ea,oO⟩
   cases e
   exact nb_of hw hs ⟨h1,oO⟩ ⟨h1,oO⟩ oO oO _ ee
  omega
theorem Sig.reach {L:List Rl}(hw:Wf L){k x:Nat}(h:Rea L k x)(hs:Sig L k):Sig L x:=by
 induction h with
 |self _=>exact hs
 |kid h1 h2 _ ih=>exact ih ((hs.down2 hw h1).1 _ h2).1
end
section
theorem qGj {V:List Nat}{x y:Nat}(hx:x∈V)(h:numb V x=numb V y):x=y:=by
 have h1:=vF hx
 have hy:y∈V:=Classical.byContradiction fun hy=>jD.1 (h.trans (jD.2 hy)) hx
 have h2:=vF hy
 rw[h,h2]at h1
 exact(Option.some.inj h1).symm
theorem qGl {V:List Nat}{x:Nat}(h:x∈V):1≤numb V x:=by
 have:numb V x≠0:=fun e=>jD.1 e h
 omega
structure Lis (L:List Rl)(V:List Nat):Prop where
 wf:Wf L
 acc:AccOk L V
 ord:Odr L V
variable {L:List Rl}{V:List Nat}
theorem Lis.closed (h:Lis L V):Closed L V:=h.ord.closed
theorem Lis.mem (h:Lis L V){x:Nat}(hx:x∈V):∃n r,x=n+1∧L[n]?=some r∧∀k∈kids r,k∈V:=by
 have hb:=h.acc.2 x hx
 obtain⟨n,rfl⟩:∃n,x=n+1:=⟨x-1,oO⟩
 obtain⟨r,hr⟩:∃r,L[n]?=some r:=⟨_,List.getElem?_eq_getElem oO⟩
 exact⟨n,r,O,hr,h.closed n r hx hr⟩
theorem qAd:(gram L V).length=V.length:=List.length_map _
theorem Lis.get (h:Lis L V){n:Nat}{r:Rl}(hx:n+1∈V)(hr:L[n]?=some r):∃i,numb V (n+1)=i+1∧(gram L V)[i]?=some (lK V r):=by
 have h1:=qGl hx
 refine⟨numb V (n+1)-1,oO,yJ (vF hx) hr⟩
theorem Lis.zero (h:Lis L V):0∉V:=fun h0=>by have:=(h.acc.2 0 h0).1;omega
theorem Lis.one (h:Lis L V){i:Nat}{r:Rl}(hr:(gram L V)[i]?=some r):∃n q,V[i]?=some (n+1)∧L[n]?=some q∧r=lK V q∧numb V (n+1)=i+1:=by
 have hil:i<V.length:=by have:=(List.getElem?_eq_some_iff.1 hr).1;rwa [qAd]at this
 obtain⟨x,hxi⟩:∃x,V[i]?=some x:=⟨_,List.getElem?_eq_getElem hil⟩
 have hm:=List.mem_of_getElem? hxi
 obtain⟨n,q,rfl,hq,_⟩:=h.mem hm
 rw[yJ hxi hq]at hr
 refine⟨n,q,hxi,hq,(Option.some.inj hr).symm,?_⟩
 have h1:=vF hm
 have h2:=qGl hm
 have h3:=qGk V (n+1)
 have:numb V (n+1)-1=i:=by
  have hnd:=h.acc.1
  exact(List.getElem?_inj oO hnd).1 (h1.trans hxi.symm)
 omega
theorem qVy {q q':Rl}(h1:∀k∈kids q,k∈V) (h2:∀k∈kids q',k∈V) (h:lK V q=lK V q'):q=q':=by
 cases q<;>cases q'<;>simp only[lK,Rl.letter.injEq,Rl.pair.injEq,Rl.power.injEq,reduceCtorEq]at h
 ·rw[h]
 ·rw[qGj (h1 _ (by simp[kids])) h.1,qGj (h1 _ (by simp[kids])) h.2]
 rw[qGj (h1 _ (by simp[kids])) h.1,h.2]
theorem Lis.gwf (h:Lis L V):Wf (gram L V):=by
 have hok:=qUm h.wf h.acc h.ord
 refine⟨fun i r hr=>by have:=hok i r hr;rwa [Nat.zero_add]at this,fun i j r hi hj=>?_,fun i=>?_,by rw[qAd];exact Nat.le_trans h.acc.len h.wf.room⟩
 ·obtain⟨n,q,v1,q1,e1,m1⟩:=h.one hi
  obtain⟨n',q',v2,q2,e2,m2⟩:=h.one hj
  have k1:=h.closed n q (List.mem_of_getElem? v1) q1
  have k2:=h.closed n' q' (List.mem_of_getElem? v2) q2
  obtain rfl:=qVy k1 k2 (e1.symm.trans e2)
  obtain rfl:=h.wf.nodup _ _ _ q1 q2
  omega
 rcases Nat.lt_or_ge (gram L V).length i with hi|hi
 ·rw[qUy hi];exact Nat.zero_le _
 cases i with
 |zero=>rw[len_zero];exact Nat.zero_le _
 |succ i=>
  obtain⟨r,hr⟩:∃r,(gram L V)[i]?=some r:=⟨_,List.getElem?_eq_getElem oO⟩
  obtain⟨n,q,v1,q1,e1,m1⟩:=h.one hr
  have:=txt_gram h.wf h.acc h.ord (n+1) (.inr (List.mem_of_getElem? v1))
  rw[m1]at this
  unfold len
  rw[this]
  exact h.wf.short (n+1)
theorem Lis.iso (h:Lis L V):∀x,x∈V→Iso L (gram L V) x (numb V x):=by
 intro x
 induction x using Nat.strongRecOn with
 |ind x ih=>
  intro hx
  obtain⟨n,r,rfl,hr,hk⟩:=h.mem hx
  obtain⟨i,e,hg⟩:=h.get hx hr
  have hkl:=pF (h.wf.ok _ _ hr)
  rw[e]
  cases r with
  |letter b=>exact .letter hr hg
  |pair a b=>exact .pair hr hg (ih a (hkl a (by simp[kids])).2 (hk a (by simp[kids]))) (ih b (hkl b (by simp[kids])).2 (hk b (by simp[kids])))
  |power a t=>exact .power hr hg (ih a (hkl a (by simp[kids])).2 (hk a (by simp[kids])))
end
section
theorem qRj {F:List Nat}(hF:F.Nodup){m w:Nat}(h:F[m]?=some w):numb F w=m+1:=by
 have hm:=List.mem_of_getElem? h
 have h1:=vF hm
 have h2:=qGl hm
 have h3:=qGk F w
 have:numb F w-1=m:=(List.getElem?_inj oO hF).1 (h1.trans h.symm)
 omega
end
end Go.Proofs.YtblljbllmnbiaaaGreatDoor
