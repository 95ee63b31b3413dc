import Derived.Test.YtlmpojkmeglepaaGreatDoorQ9S
set_option linter.all false
set_option maxHeartbeats 1000000
namespace Sl
open Go Go.RowKit
theorem qLy {E:Env}{f:FuncId}{args:List Value}{Pre:List HP}{Φ Φ':Value→List HP→Prop}(h:Ct E f args Pre Φ)(hi:∀v Q,Φ v Q→Φ' v Q):Ct E f args Pre Φ':=fun R w s=>
 (h R w s).mono fun e w'⟨v,Qs,h1,h2,h3⟩=>⟨v,Qs,h1,hi v Qs h2,h3⟩
end Sl
namespace Go.Proofs.YtlmpojkmeglepaaGreatDoor
open Go Go.RowKit Sl Eg
section
set_option maxRecDepth 10000
end
section
variable {G L:List Rl}{Z:List Nat}
def zat (Z:List Nat)(j:Nat):Nat:=Z.getD j 0
theorem DcI.zero (h:DcI G L G.length Z):zat Z 0=0:=by unfold zat;rw[List.getD_eq_getElem?_getD,h.2.1];rfl
theorem DcI.iso (h:DcI G L G.length Z){j:Nat}(h1:1≤j)(h2:j≤G.length):Iso G L j (zat Z j):=by
 obtain⟨z,hz,iz⟩:=h.2.2 j h1 h2
 unfold zat
 rw[List.getD_eq_getElem?_getD,hz]
 exact iz
theorem DcI.inj (hw:Wf G)(h:DcI G L G.length Z){i j:Nat}(hi:i≤G.length)(hj:j≤G.length)(e:zat Z i=zat Z j):i=j:=by
 rcases Nat.eq_zero_or_pos i with rfl|hi1<;>rcases Nat.eq_zero_or_pos j with rfl|hj1
 ·rfl
 ·have:=(h.iso hj1 hj).pos.2
  rw[h.zero]at e
  omega
 ·have:=(h.iso hi1 hi).pos.2
  rw[h.zero]at e
  omega
 have h1:=h.iso hi1 hi
 have h2:=h.iso hj1 hj
 rw[←e]at h2
 exact h1.fn' hw h2
theorem DcI.rule (hw:Wf G)(hL:Wf L)(h:DcI G L G.length Z){n:Nat}{r:Rl}(hr:G[n]?=some r):∃m r',zat Z (n+1)=m+1∧L[m]?=some r'∧kids r'=(kids r).map (zat Z)∧∀V:List Nat,(∀k∈kids r,numb V (zat Z k)=k)→jP V r'=r:=by
 have hn:=(List.getElem?_eq_some_iff.1 hr).1
 have hk:=iE (hw.ok n r hr)
 have hi:=h.iso (j:=n+1) oO oO
 generalize hx:zat Z (n+1)=x at hi
 generalize hn1:n+1=y at hi
 cases hi with
 | @letter a m b h1 h2=>
  obtain rfl:n=a:=by omega
  rw[h1]at hr
  cases hr
  exact⟨m,_,O,h2,O,fun V _=>O⟩
 | @pair a m p q p' q' h1 h2 i1 i2=>
  obtain rfl:n=a:=by omega
  rw[h1]at hr
  cases hr
  have k1:=hk p (by simp[kids])
  have k2:=hk q (by simp[kids])
  have e1:p'=zat Z p:=i1.fn hL (h.iso k1.1 oO)
  have e2:q'=zat Z q:=i2.fn hL (h.iso k2.1 oO)
  subst e1 e2
  exact⟨m,_,O,h2,O,fun V hV=>by rw[jP,hV p (by simp[kids]),hV q (by simp[kids])]⟩
 | @power a m p p' k h1 h2 i1=>
  obtain rfl:n=a:=by omega
  rw[h1]at hr
  cases hr
  have k1:=hk p (by simp[kids])
  have e1:p'=zat Z p:=i1.fn hL (h.iso k1.1 oO)
  subst e1
  exact⟨m,_,O,h2,O,fun V hV=>by rw[jP,hV p (by simp[kids])]⟩
theorem DcI.mem (hw:Wf G)(h:DcI G L G.length Z){j:Nat}{acc:List Nat}(hj:j≤G.length)(ha:∀y∈acc,y≤G.length):zat Z j∈acc.map (zat Z)↔j∈acc:=by
 constructor
 ·intro hm
  obtain⟨y,hy,e⟩:=List.mem_map.1 hm
  have:=h.inj hw (ha y hy) hj e
  subst this
  exact hy
 exact fun hm=>List.mem_map.2 ⟨j,hm,O⟩
theorem DcI.visit (hw:Wf G)(hL:Wf L)(h:DcI G L G.length Z):∀(n:Nat)(acc:List Nat),n≤G.length→(∀y∈acc,y≤G.length)→visit L (zat Z n) (acc.map (zat Z))=(visit G n acc).map (zat Z):=by
 intro n
 induction n using Nat.strongRecOn with
 |_ n ih=>
  intro acc hn ha
  rcases Nat.eq_zero_or_pos n with rfl|hpos
  ·rw[h.zero,kG,kG]
  obtain⟨n,rfl⟩:∃k,n=k+1:=⟨n-1,oO⟩
  by_cases hm:n+1∈acc
  ·rw[kU hm,kU ((h.mem hw hn ha).2 hm)]
  obtain⟨r,hr⟩:∃r,G[n]?=some r:=⟨_,List.getElem?_eq_getElem oO⟩
  obtain⟨m,r',e1,e2,e3,_⟩:=h.rule hw hL hr
  have hk:=iE (hw.ok n r hr)
  have hm2:m+1∉acc.map (zat Z):=by rw[←e1];exact fun hh=>hm ((h.mem hw hn ha).1 hh)
  rw[e1,iC hL e2 hm2,iC hw hr hm,e3]
  have key:∀(ks acc:List Nat),(∀k∈ks,k<n+1)→(∀y∈acc,y≤G.length)→dD L (ks.map (zat Z)) (acc.map (zat Z))=(dD G ks acc).map (zat Z):=by
   intro ks
   induction ks with
   |nil=>intro acc _ _;rfl
   |cons k ks ihk=>
    intro acc hks hacc
    have hkn:=hks k (by simp)
    rw[List.map_cons,gG,gG,ih k hkn acc oO hacc]
    refine ihk _ (fun x hx=>hks x (by simp[hx])) (fun y hy=>?_)
    rcases(qBw hw k acc).1 y hy with h| h
    ·exact hacc y h
    exact h.2.2
  rw[key (kids r) acc (fun k hk'=>(hk k hk').2) ha,List.map_append,List.map_cons,List.map_nil,e1]
theorem DcI.visitsL (hw:Wf G)(hL:Wf L)(h:DcI G L G.length Z):∀(xs acc:List Nat),(∀x∈xs,x≤G.length)→(∀y∈acc,y≤G.length)→dD L (xs.map (zat Z)) (acc.map (zat Z))=(dD G xs acc).map (zat Z)
 |[],acc,_,_=>rfl
 |x::xs,acc,hx,ha=>by
  rw[List.map_cons,gG,gG,h.visit hw hL x acc (hx x (by simp)) ha]
  refine h.visitsL hw hL xs _ (fun y hy=>hx y (by simp[hy])) (fun y hy=>?_)
  rcases(qBw hw x acc).1 y hy with h| h
  ·exact ha y h
  exact h.2.2
theorem qMw {W:List Nat}{j:Nat}:∀{V:List Nat},(∀y∈V,∀z∈V,zat W y=zat W z→y=z)→j∈V→numb (V.map (zat W)) (zat W j)=numb V j
 |[],_,hj=>by simp at hj
 |x::V,hi,hj=>by
  rw[List.map_cons,numb,numb]
  by_cases e:x=j
  ·rw[if_pos (by rw[e]),if_pos e]
  rw[if_neg (fun h=>e (hi x (by simp) j hj h)),if_neg e]
  have hj2:j∈V:=by
   rcases List.mem_cons.1 hj with h| h
   ·exact absurd h.symm e
   exact h
  rw[qMw (fun y hy z hz=>hi y (by simp[hy]) z (by simp[hz])) hj2]
theorem qPn {n j:Nat}(h1:1≤j)(h2:j≤n):numb ((List.range n).map (· +1)) j=j:=by
 have hm:j∈(List.range n).map (· +1):=List.mem_map.2 ⟨j-1,List.mem_range.2 oO,oO⟩
 have h:=sD hm
 have hp:=qY hm
 have hl:=qX ((List.range n).map (· +1)) j
 simp only[List.length_map,List.length_range]at hl
 rw[List.getElem?_map,List.getElem?_range oO]at h
 simp at h
 omega
theorem uniq_enc {A:List (List UInt8×Nat)}(hP:Prop50 G A)(hL:Wf L)(h:DcI G L G.length Z):encB L (dD L (A.map fun p=>zat Z p.2) []) (A.map fun p=>(p.1,zat Z p.2))=encA G A:=by
 have hw:=hP.wf
 have hA:∀x∈A.map (·.2),x≤G.length:=fun x hx=>by
  obtain⟨p,hp,rfl⟩:=List.mem_map.1 hx
  exact(hP.names p hp).2
 have hv:=h.visitsL hw hL (A.map (·.2)) [] hA (by simp)
 rw[List.map_map,List.map_nil,hP.vis]at hv
 have hv2:dD L (A.map fun p=>zat Z p.2) []=((List.range G.length).map (· +1)).map (zat Z):=hv
 rw[hv2]
 obtain⟨V,hV⟩:∃V,V=(List.range G.length).map (· +1):=⟨_,rfl⟩
 rw[←hV]
 have hVm:∀y∈V,1≤y∧y≤G.length:=fun y hy=>by
  rw[hV]at hy
  obtain⟨i,hi,rfl⟩:=List.mem_map.1 hy
  have:=List.mem_range.1 hi
  omega
 have hin:∀j,1≤j→j≤G.length→j∈V:=fun j h1 h2=>by rw[hV];exact List.mem_map.2 ⟨j-1,List.mem_range.2 oO,oO⟩
 have hinj:∀y∈V,∀z∈V,zat Z y=zat Z z→y=z:=fun y hy z hz e=>h.inj hw (hVm y hy).2 (hVm z hz).2 e
 have hnb:∀j,1≤j→j≤G.length→numb (V.map (zat Z)) (zat Z j)=j:=fun j h1 h2=>by
  rw[qMw hinj (hin j h1 h2),hV,qPn h1 h2]
 have hx:∀x∈V.map (zat Z),1≤x∧x≤L.length:=fun x hx=>by
  obtain⟨y,hy,rfl⟩:=List.mem_map.1 hx
  have hi:=h.iso (hVm y hy).1 (hVm y hy).2
  exact⟨hi.pos.2,hi.le.2⟩
 rw[qHm hx]
 congr 1
 ·apply List.ext_getElem?
  intro i
  rcases Nat.lt_or_ge i G.length with hi|hi
  ·obtain⟨r,hr⟩:∃r,G[i]?=some r:=⟨_,List.getElem?_eq_getElem hi⟩
   obtain⟨m,r',e1,e2,e3,e4⟩:=h.rule hw hL hr
   have hVi:(V.map (zat Z))[i]?=some (m+1):=by
    rw[hV,List.getElem?_map,List.getElem?_map,List.getElem?_range hi,←e1];rfl
   rw[xP hVi e2,hr,e4]
   intro k hk
   have:=iE (hw.ok i r hr) k hk
   exact hnb k this.1 oO
  have hgl:(gram L (V.map (zat Z))).length=G.length:=by rw[qR,List.length_map,hV,List.length_map,List.length_range]
  rw[List.getElem?_eq_none oO,List.getElem?_eq_none oO]
 rw[List.map_map]
 conv=>rhs;rw[←List.map_id A]
 refine List.map_congr_left fun p hp=>?_
 have h2:=(hP.names p hp).2
 show(p.1,numb (V.map (zat Z)) (zat Z p.2))=p
 rcases Nat.eq_zero_or_pos p.2 with h0|h0
 ·rw[h0,h.zero,gU.2 (fun hm=>by have:=(hx 0 hm).1;omega)]
  exact Prod.ext O h0.symm
 rw[hnb p.2 h0 h2]
end
section
variable {G L:List Rl}{Z:List Nat}
def zmap (Z:List Nat):Rl→Rl
 | .letter b=> .letter b
 | .pair a b=> .pair (zat Z a) (zat Z b)
 | .power a t=> .power (zat Z a) t
def InB (G:List Rl)(x:Nat):Prop:=1≤x∧x≤G.length
theorem DcI.get2 (hw:Wf G)(hL:Wf L)(h:DcI G L G.length Z){n:Nat}{r:Rl}(hr:G[n]?=some r):∃m,zat Z (n+1)=m+1∧L[m]?=some (zmap Z r):=by
 have hn:=(List.getElem?_eq_some_iff.1 hr).1
 have hk:=iE (hw.ok n r hr)
 have hi:=h.iso (j:=n+1) oO oO
 generalize hx:zat Z (n+1)=x at hi
 generalize hn1:n+1=y at hi
 cases hi with
 | @letter a m b h1 h2=>
  obtain rfl:n=a:=by omega
  rw[h1]at hr
  cases hr
  exact⟨m,O,h2⟩
 | @pair a m p q p' q' h1 h2 i1 i2=>
  obtain rfl:n=a:=by omega
  rw[h1]at hr
  cases hr
  have k1:=hk p (by simp[kids])
  have k2:=hk q (by simp[kids])
  have e1:p'=zat Z p:=i1.fn hL (h.iso k1.1 oO)
  have e2:q'=zat Z q:=i2.fn hL (h.iso k2.1 oO)
  subst e1 e2
  exact⟨m,O,h2⟩
 | @power a m p p' k h1 h2 i1=>
  obtain rfl:n=a:=by omega
  rw[h1]at hr
  cases hr
  have k1:=hk p (by simp[kids])
  have e1:p'=zat Z p:=i1.fn hL (h.iso k1.1 oO)
  subst e1
  exact⟨m,O,h2⟩
structure Twi (G L:List Rl)(Z:List Nat):Prop where
 wf:Wf G
 gwf:Wf L
 dc:DcI G L G.length Z
theorem Twi.iso (h:Twi G L Z){x:Nat}(hx:InB G x):Iso G L x (zat Z x):=h.dc.iso hx.1 hx.2
theorem Twi.lv (h:Twi G L Z){x:Nat}(hx:InB G x):Eg.lvl L (zat Z x)=Eg.lvl G x:=((h.iso hx).lvl h.wf h.gwf).symm
theorem Twi.ky (h:Twi G L Z){x:Nat}(hx:InB G x):Eg.key L (zat Z x)=Eg.key G x:=((h.iso hx).key h.wf h.gwf).symm
theorem Twi.inj (h:Twi G L Z){x y:Nat}(hx:InB G x)(hy:InB G y)(e:zat Z x=zat Z y):x=y:=h.dc.inj h.wf hx.2 hy.2 e
theorem Twi.mem (h:Twi G L Z){x:Nat}(hx:InB G x):∃n r,x=n+1∧G[n]?=some r∧∀k∈kids r,InB G k:=by
 obtain⟨n,rfl⟩:∃n,x=n+1:=⟨x-1,by have:=hx.1;omega⟩
 obtain⟨r,hr⟩:∃r,G[n]?=some r:=⟨_,List.getElem?_eq_getElem (by have:=hx.2;omega)⟩
 have hkl:=iE (h.wf.ok _ _ hr)
 exact⟨n,r,O,hr,fun k hk=>⟨(hkl k hk).1,by have:=(hkl k hk).2;have:=hx.2;omega⟩⟩
theorem Twi.get (h:Twi G L Z){n:Nat}{r:Rl}(hr:G[n]?=some r):∃m,zat Z (n+1)=m+1∧L[m]?=some (zmap Z r):=h.dc.get2 h.wf h.gwf hr
theorem Twi.exps (h:Twi G L Z)(k:Nat):∀x,InB G x→(∀e∈expd G k x,InB G e)∧expd L k (zat Z x)=(expd G k x).map (zat Z):=by
 intro x
 induction x using Nat.strongRecOn with
 |ind x ih=>
  intro hx
  obtain⟨n,r,rfl,hr,hk⟩:=h.mem hx
  obtain⟨i,e,hg⟩:=h.get hr
  have hkl:=iE (h.wf.ok _ _ hr)
  have hl:=h.lv hx
  rw[e]at hl ⊢
  by_cases hlow:Eg.lvl G (n+1)≤(k:Nat)
  ·rw[dZ oO hlow,dZ oO (by rw[hl];exact hlow)]
   exact⟨fun z hz=>by rw[List.mem_singleton.1 hz];exact hx,by simp[e]⟩
  have h1:(k:Int)<Eg.lvl G (n+1):=oO
  have h2:(k:Int)<Eg.lvl L (i+1):=oO
  cases r with
  |letter b=>have:=(fT hr).2;omega
  |pair a b=>
   obtain⟨a1,a2⟩:=ih a (hkl a (by simp[kids])).2 (hk a (by simp[kids]))
   obtain⟨b1,b2⟩:=ih b (hkl b (by simp[kids])).2 (hk b (by simp[kids]))
   rw[fK h.wf hr h1,fK h.gwf hg h2,a2,b2,List.map_append]
   exact⟨fun z hz=>(List.mem_append.1 hz).elim (a1 z) (b1 z),O⟩
  |power a t=>
   obtain⟨a1,a2⟩:=ih a (hkl a (by simp[kids])).2 (hk a (by simp[kids]))
   rw[fO h.wf hr h1,fO h.gwf hg h2,a2,qMp]
   exact⟨fun z hz=>a1 z (qMr hz),O⟩
theorem Twi.pg (h:Twi G L Z){c:Nat}{X U:List Nat}(hp:Pg G c X U):(∀x∈X,InB G x)→(∀x∈U,InB G x)→Pg L c (X.map (zat Z)) (U.map (zat Z)):=by
 induction hp with
 |nil=>intro _ _;exact .nil
 | @one x r o h1 h2 ih=>
  intro hx ho
  simp only[List.map_cons]
  refine .one (fun y hy=>?_) (ih (fun z hz=>hx z (by simp[hz])) (fun z hz=>ho z (by simp[hz])))
  cases r with
  |nil=>simp at hy
  |cons y' r=>
   simp at hy
   subst hy
   rw[h.ky (hx x (by simp)),h.ky (hx y' (by simp))]
   exact h1 y' O
 | @two x y j r o h1 h2 h3 ih=>
  intro hx ho
  simp only[List.map_cons]
  obtain⟨i,e,hg⟩:=h.get h2
  rw[e]
  exact .two (by rw[h.ky (hx x (by simp)),h.ky (hx y (by simp))];exact h1) hg (ih (fun z hz=>hx z (by simp[hz])) (fun z hz=>ho z (by simp[hz])))
theorem Twi.rg (h:Twi G L Z){X U:List Nat}(hp:Rg G X U):(∀x∈X,InB G x)→(∀x∈U,InB G x)→Rg L (X.map (zat Z)) (U.map (zat Z)):=by
 induction hp with
 |nil=>intro _ _;exact .nil
 | @run x t id r o h1 h2 h3 h4 ih=>
  intro hx ho
  obtain⟨t,rfl⟩:∃s,t=s+1:=⟨t-1,oO⟩
  have hxV:=hx x (by simp[List.replicate_succ])
  simp only[List.map_cons,List.map_append,List.map_replicate]
  refine .run h1 ?_ (fun e=>h3 ?_) (ih (fun z hz=>hx z (by simp[hz])) (fun z hz=>ho z (by simp[hz])))
  ·rcases h2 with⟨e1,rfl⟩|⟨e1,i,rfl,hi⟩
   ·exact .inl ⟨e1,O⟩
   obtain⟨i',e',hg⟩:=h.get hi
   rw[e']
   exact .inr ⟨e1,i',O,hg⟩
  cases r with
  |nil=>simp at e
  |cons y r=>
   simp at e ⊢
   exact h.inj (hx y (by simp)) hxV e
theorem Twi.inv (h:Twi G L Z){k:Nat}{X:List Nat}(hi:Inv G k X)(hx:∀x∈X,InB G x):Inv L k (X.map (zat Z)):=by
 refine⟨h.gwf,fun z hz=>?_,fun i z h1 h2=>?_,fun i z w h1 h2 h3=>?_⟩
 ·obtain⟨x,hxx,rfl⟩:=List.mem_map.1 hz
  have:=hi.ok x hxx
  rw[h.lv (hx x hxx)]
  exact⟨(h.iso (hx x hxx)).pos.2,(h.iso (hx x hxx)).le.2,this.2.2.1,this.2.2.2⟩
 ·obtain⟨x,e1,rfl⟩:=pO h1
  obtain⟨y,e2,e3⟩:=pO h2
  obtain rfl:=h.inj (hx x (List.mem_of_getElem? e1)) (hx y (List.mem_of_getElem? e2)) e3
  rw[h.lv (hx x (List.mem_of_getElem? e1))]
  exact hi.same i x e1 e2
 obtain⟨x,e1,rfl⟩:=pO h1
 obtain⟨y,e2,rfl⟩:=pO h2
 have hx1:=hx x (List.mem_of_getElem? e1)
 have hy1:=hx y (List.mem_of_getElem? e2)
 have:=hi.diff i x y e1 e2 (fun e=>h3 (by rw[e]))
 unfold aft at this ⊢
 rw[h.lv hx1,h.lv hy1,h.ky hx1,h.ky hy1]
 exact this
theorem Twi.sig (h:Twi G L Z){x:Nat}(hx:InB G x)(hs:Sig G x):Sig L (zat Z x):=by
 refine⟨(h.iso hx).pos.2,(h.iso hx).le.2,by rw[h.lv hx];exact hs.lv,fun k hk=>?_,fun k hk=>?_⟩
 ·rw[(h.exps (k-1) x hx).2]
  exact h.inv (hs.inv k hk) (h.exps (k-1) x hx).1
 rw[(h.exps (k-1) x hx).2,(h.exps k x hx).2]
 have:=hs.step k hk
 unfold Sq at this ⊢
 split
 ·rename_i ho;rw[if_pos ho]at this;exact h.rg this (h.exps (k-1) x hx).1 (h.exps k x hx).1
 rename_i ho;rw[if_neg ho]at this;exact h.pg this (h.exps (k-1) x hx).1 (h.exps k x hx).1
theorem nmK_zat {A:List (List UInt8×Nat)}:nmK Z A A.length=A.map fun p=>(p.1,zat Z p.2):=nmK_all Z A
theorem nmY_zat {A:List (List UInt8×Nat)}:nmY (nmI (A.map fun p=>(p.1,zat Z p.2))) (A.map fun p=>zat Z p.2)=A.map fun p=>(p.1,zat Z p.2):=by
 unfold nmY nmI
 rw[List.map_map,List.map_map]
 induction A with
 |nil=>rfl
 |cons p A ih=>simp only[List.map_cons,List.zip_cons_cons,ih];rfl
end
end Go.Proofs.YtlmpojkmeglepaaGreatDoor
