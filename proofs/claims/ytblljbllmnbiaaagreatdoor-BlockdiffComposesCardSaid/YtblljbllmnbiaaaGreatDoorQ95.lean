import Derived.Test.YtblljbllmnbiaaaGreatDoorQ18
import Derived.Test.YtblljbllmnbiaaaGreatDoorQ37
import Derived.Test.YtblljbllmnbiaaaGreatDoorQ85
import Derived.Test.YtblljbllmnbiaaaGreatDoorQ92
set_option linter.all false
set_option maxHeartbeats 1000000
namespace Go.Proofs.YtblljbllmnbiaaaGreatDoor
open Go Go.RowKit Sl Eg
set_option maxRecDepth 10000
section
theorem qEf {L:List Rl}{f:Nat→Option Nat}{a x:Nat}{r:Rl}(h:f x≠none∨x∈kids r):qDe L f a r x≠none:=fun e=>by
 have:=qEe.1 e
 rcases h with h| h
 ·exact h this.2
 exact this.1 h
theorem qEh {L:List Rl}{f:Nat→Option Nat}{i x:Nat}(h:f x≠none):nO L i f x≠none:=by
 rcases nI L i f with⟨a,r,_,_,e⟩| e
 ·rw[e];exact qEf (.inl h)
 rw[e];exact h
theorem qTz {L:List Rl}{f:Nat→Option Nat}{i k:Nat}{r:Rl}(h:f (i+1)≠none)(hr:L[i]?=some r)(hk:k∈kids r):nO L i f k≠none:=by
 obtain⟨a,ha⟩:∃a,f (i+1)=some a:=by
  cases e:f (i+1)with
  |none=>exact absurd e h
  |some a=>exact⟨a,rfl⟩
 rw[qBj ha hr]
 exact qEf (.inr hk)
theorem qEg {L:List Rl}{f:Nat→Option Nat}{x:Nat}(h:f x≠none):∀B:List Nat,tO L B f x≠none
 |[]=>h
 |v::B=>qEh (qEg h B)
theorem qIv {L:List Rl}(hw:Wf L){base:Nat}{V:List Nat}(hs:V.Pairwise (· < ·))(hV:∀x,x∈V↔Rea L base x):∀(B A:List Nat),V=A++B→
  (∀v C,B=v::C→tO L C (kG base) v≠none)∧∀u r k,u+1∈B→L[u]?=some r→k∈kids r→tO L B (kG base) k≠none
 |[],A,_=>⟨fun v C h=>(by cases h),fun u r k h=>(by simp at h)⟩
 |v::C,A,e=>by
  obtain⟨_,h2⟩:=qIv hw hs hV C (A++[v]) (by rw[e];simp)
  have hv:Rea L base v:=(hV v).1 (by rw[e];simp)
  have key:tO L C (kG base) v≠none:=by
   rcases hv.up with rfl|⟨p,r,g1,g2,g3⟩
   ·refine qEg ?_ C
    have:=hv.pos
    unfold kG
    rw[if_pos ⟨rfl,oO⟩]
    simp
   have hp:p+1∈V:=(hV _).2 g1
   have hlt:=(rG (hw.ok _ _ g2) v g3).2
   rw[e]at hp hs
   obtain⟨_,hs2,hs3⟩:=List.pairwise_append.1 hs
   rcases List.mem_append.1 hp with h| h
   ·have:=hs3 _ h v (by simp);omega
   rcases List.mem_cons.1 h with h| h
   ·omega
   exact h2 p r v h g2 g3
  refine⟨fun w D h=>?_,fun u r k hu hr hk=>?_⟩
  ·cases h;exact key
  have hpos:=hv.pos
  rcases List.mem_cons.1 hu with h| h
  ·subst h
   show nO L (u+1-1) (tO L C (kG base)) k≠none
   rw[Nat.add_sub_cancel]
   exact qTz key hr hk
  exact qEh (h2 u r k h hr hk)
theorem qNv {base x a:Nat}(h:kG base x=some a):a=0∧x=base:=by
 unfold kG at h
 split at h
 ·rename_i g;cases h;exact⟨rfl,g.1⟩
 cases h
def FIn (L:List Rl)(n:Nat)(f:Nat→Option Nat):Prop:=∀x a,f x=some a→a+len L x≤n
theorem FIn.put {L:List Rl}{n:Nat}{f:Nat→Option Nat}(h:FIn L n f){k a:Nat}(ha:a+len L k≤n):FIn L n (fput f k a):=fun x b hb=>by
 unfold fput at hb
 split at hb
 ·rename_i e
  subst e
  split at hb
  ·rename_i o ho
   have:=h x o ho
   cases hb
   omega
  cases hb;exact ha
 exact h x b hb
theorem FIn.step {L:List Rl}(hw:Wf L){n i:Nat}{f:Nat→Option Nat}(h:FIn L n f):FIn L n (nO L i f):=by
 rcases nI L i f with⟨a,r,h1,h2,e⟩| e
 ·rw[e]
  have hk:=hw.ok _ _ h2
  have hl:=h _ _ h1
  cases r with
  |letter b=>exact h
  |pair l r=>
   rw[zU h2 hk]at hl
   exact(h.put oO).put oO
  |power x k=>
   rw[pG h2 hk]at hl
   obtain⟨_,_,h3⟩:=hk
   refine h.put ?_
   have:len L x*1≤len L x*k:=Nat.mul_le_mul_left _ oO
   rw[Nat.mul_comm k]at hl
   omega
 rw[e];exact h
theorem FIn.base {L:List Rl}(base:Nat):FIn L (len L base) (kG base):=fun x a h=>by
 obtain⟨rfl,rfl⟩:=qNv h
 omega
theorem FIn.down {L:List Rl}(hw:Wf L){n:Nat}:∀{i:Nat}{f:Nat→Option Nat},FIn L n f→FIn L n (qFv L i f)
 |0,f,h=>h
 |i+1,f,h=>FIn.down (i:=i) (f:=nO L i f) hw (h.step hw)
theorem qBg {L:List Rl}(hw:Wf L)(base:Nat):FIn L (len L base) (gW L base):=FIn.down hw (FIn.base base)
theorem qEc {L:List Rl}(hw:Wf L){base:Nat}(hb:base≤L.length):Dom L base (gW L base):=Dom.down hw (Dom.base hb)
theorem dom_zero {L:List Rl}{base:Nat}{f:Nat→Option Nat}(h:Dom L base f):f 0=none:=by
 cases e:f 0 with
 |none=>rfl
 |some a=>have:=(h 0 (by rw[e];simp)).pos;omega
def Px.ok (L:List Rl)(N:Nat):Px→Prop
 | .copy f n=>1≤n∧f+n≤N
 | .text x=>x≠0∧Sn L (txt L x) x
def Px.size (L:List Rl):Px→Nat
 | .copy f n=>n
 | .text x=>len L x
def Px.tsize (L:List Rl):Px→Nat
 | .copy f n=>0
 | .text x=>len L x
theorem Px.ok.ext {L:List Rl}(M:List Rl){N:Nat}{x:Px}(h:x.ok L N):x.ok (L++M) N∧x.out (L++M)=x.out L∧x.size (L++M)=x.size L∧x.tsize (L++M)=x.tsize L:=by
 cases x with
 |copy f n=>exact⟨h,rfl,rfl,rfl⟩
 |text x=>
  have hb:=h.2.gd.1
  exact⟨⟨h.1,by rw[lT M hb];exact h.2.ext M⟩,by simp only[Px.out];rw[lT M hb],by simp only[Px.size];rw[kX M hb],by simp only[Px.tsize];rw[kX M hb]⟩
theorem Px.ok.exts {L:List Rl}(M:List Rl){N:Nat}{D:List Px}(h:∀x∈D,x.ok L N):(∀x∈D,x.ok (L++M) N)∧D.map (Px.out (L++M))=D.map (Px.out L):=
 ⟨fun x hx=>((h x hx).ext M).1,List.map_congr_left fun x hx=>((h x hx).ext M).2.1⟩
def pjn:Px→Px→Prop
 | .copy f n,.copy f' _=>f+n=f'
 | .text _,.text _=>True
 |_,_=>False
theorem addP_pjn {L:List Rl}{out:List Px}{x:Px}(h:∀y,out.getLast?=some y→¬pjn y x):addP (out.map (Px.out L)) (x.out L)=(out++[x]).map (Px.out L):=by
 rcases List.eq_nil_or_concat out with rfl|⟨o,y,rfl⟩
 ·rw[List.map_nil,qFd];rfl
 rw[List.concat_eq_append]at h ⊢
 have hy:=h y (by simp)
 rw[List.map_append,List.map_append,List.map_append]
 simp only[List.map_cons,List.map_nil]
 cases y with
 |copy f n=>cases x with
  |copy f' n'=>exact qKt _ hy
  |text x=>exact qKu _ _ _ _
 |text a=>cases x with
  |copy f' n'=>exact qKv _ _ _ _
  |text x=>exact absurd trivial hy
def tsz (L:List Rl)(D:List Px):Nat:=(D.map (Px.tsize L)).sum
def asz (L:List Rl)(D:List Px):Nat:=(D.map (Px.size L)).sum
theorem qEx (L:List Rl)(a b:List Px):tsz L (a++b)=tsz L a+tsz L b:=by simp[tsz]
theorem sK (L:List Rl)(a b:List Px):asz L (a++b)=asz L a+asz L b:=by simp[asz]
theorem qWk (L:List Rl)(D:List Px):tsz L D≤asz L D:=by
 induction D with
 |nil=>exact Nat.le_refl _
 |cons x D ih=>
  simp only[tsz,asz,List.map_cons,List.sum_cons]at ih ⊢
  have:x.tsize L≤x.size L:=by cases x<;>simp[Px.tsize,Px.size]
  omega
theorem pcs_spec {L:List Rl}(hw:Wf L){f:Nat→Option Nat}{N:Nat}(hf:FIn L N f)(hbest:∀n y t a,L[n]?=some (.power y t)→best L f y t=some a→a+len L (n+1)≤N) {P:Nat→Prop} (hP:∀n r k,P (n+1)→L[n]?=some r→k∈kids r→P k) (hS:∀x,P x→1≤x→Sn L (txt L x) x):∀x,x≤L.length→P x→(∀p∈pcs L f x,p.ok L N)∧asz L (pcs L f x)=len L x∧(pcs L f x).length≤len L x:=by
 intro x
 induction x using Nat.strongRecOn with
 |ind x ih=>
  intro hx hPx
  cases x with
  |zero=>rw[qGi];exact⟨fun p h=>by simp at h,rfl,Nat.le_refl _⟩
  |succ n=>
   have hpos:=rM hw (n+1) oO hx
   cases e:f (n+1)with
   |some a=>
    rw[qCd e]
    have:=hf _ _ e
    exact⟨fun p h=>by simp at h;subst h;exact⟨hpos,this⟩,by simp[asz,Px.size],by simpa using hpos⟩
   |none=>
    have one:∀p:Px,p.ok L N→p.size L=len L (n+1)→(∀q∈[p],q.ok L N)∧asz L [p]=len L (n+1)∧[p].length≤len L (n+1):=fun p h1 h2=>⟨fun q hq=>by simp at hq;subst hq;exact h1,by simp[asz,h2],by simpa using hpos⟩
    have tx:Px.ok L N (.text (n+1)):=⟨oO,hS _ hPx oO⟩
    obtain⟨r,hr⟩:∃r,L[n]?=some r:=⟨_,List.getElem?_eq_getElem oO⟩
    cases r with
    |letter b=>rw[yH e hr];exact one _ tx rfl
    |power y t=>
     rw[rP e hr]
     cases eb:best L f y t with
     |some a=>exact one _ ⟨hpos,hbest n y t a hr eb⟩ rfl
     |none=>exact one _ tx rfl
    |pair l r=>
     have hk:=hw.ok _ _ hr
     have hlp:=zU hr hk
     obtain⟨h1,h2,h3,h4⟩:=hk
     rw[qGh hw e hr]
     obtain⟨a1,a2,a3⟩:=ih l h2 oO (hP _ _ _ hPx hr (by simp[kids]))
     obtain⟨b1,b2,b3⟩:=ih r h4 oO (hP _ _ _ hPx hr (by simp[kids]))
     refine⟨fun p hp=>?_,by rw[sK];omega,by rw[List.length_append];omega⟩
     rcases List.mem_append.1 hp with h| h
     ·exact a1 p h
     exact b1 p h
theorem best_in {L:List Rl}(hw:Wf L){f:Nat→Option Nat}{N:Nat}(hf:FIn L N f):∀n y t a,L[n]?=some (.power y t)→best L f y t=some a→a+len L (n+1)≤N:=fun n y t a hr hb=>by
 obtain⟨⟨i,_,hi⟩,_⟩:=nX hb
 obtain⟨t',h1,h2⟩:=sO.1 hi
 unfold entP at h1
 rw[Nat.add_sub_cancel]at h1
 split at h1
 ·rename_i y' t2 a' g1 g2
  split at h1
  ·rename_i e
   subst e
   simp only[Option.some.injEq,Prod.mk.injEq]at h1
   obtain⟨rfl,rfl⟩:=h1
   have k1:=hf _ _ g2
   rw[pG g1 (hw.ok _ _ g1)]at k1
   rw[pG hr (hw.ok _ _ hr)]
   have:=Nat.mul_le_mul_right (len L y') h2
   omega
  cases h1
 cases h1
end
section
def Lies (B:List UInt8)(a:Nat)(T:List UInt8):Prop:=∃P S,B=P++(T++S)∧P.length=a
theorem Lies.cut {B T:List UInt8}{a:Nat}(h:Lies B a T):(B.drop a).take T.length=T:=by
 obtain⟨P,S,rfl,rfl⟩:=h
 simp
theorem Lies.left {B X Y:List UInt8}{a:Nat}(h:Lies B a (X++Y)):Lies B a X:=by
 obtain⟨P,S,rfl,rfl⟩:=h
 exact⟨P,Y++S,by simp,rfl⟩
theorem Lies.right {B X Y:List UInt8}{a:Nat}(h:Lies B a (X++Y)):Lies B (a+X.length) Y:=by
 obtain⟨P,S,rfl,rfl⟩:=h
 exact⟨P++X,S,by simp,by simp⟩
def FAt (L:List Rl)(B:List UInt8)(f:Nat→Option Nat):Prop:=∀x a,f x=some a→Lies B a (txt L x)
theorem FAt.put {L:List Rl}{B:List UInt8}{f:Nat→Option Nat}(h:FAt L B f){k a:Nat}(ha:Lies B a (txt L k)):FAt L B (fput f k a):=fun x b hb=>by
 unfold fput at hb
 split at hb
 ·rename_i e
  subst e
  split at hb
  ·rename_i o ho
   have h1:=h x o ho
   cases hb
   rcases Nat.le_total o a with g| g
   ·rw[Nat.min_eq_left g];exact h1
   rw[Nat.min_eq_right g];exact ha
  cases hb;exact ha
 exact h x b hb
theorem FAt.step {L:List Rl}(hw:Wf L){B:List UInt8}{i:Nat}{f:Nat→Option Nat}(h:FAt L B f):FAt L B (nO L i f):=by
 rcases nI L i f with⟨a,r,h1,h2,e⟩| e
 ·rw[e]
  have hk:=hw.ok _ _ h2
  have hl:=h _ _ h1
  cases r with
  |letter b=>exact h
  |pair l r=>
   rw[mU h2 hk]at hl
   exact(h.put hl.left).put hl.right
  |power x k=>
   rw[kD h2 hk]at hl
   obtain⟨_,_,h3⟩:=hk
   obtain⟨m,rfl⟩:∃m,k=m+1:=⟨k-1,oO⟩
   rw[List.replicate_succ,List.flatten_cons]at hl
   exact h.put hl.left
 rw[e];exact h
theorem FAt.down {L:List Rl}(hw:Wf L){B:List UInt8}:∀{i:Nat}{f:Nat→Option Nat},FAt L B f→FAt L B (qFv L i f)
 |0,f,h=>h
 |i+1,f,h=>FAt.down (i:=i) (f:=nO L i f) hw (h.step hw)
theorem qTt {L:List Rl}(hw:Wf L)(base:Nat):FAt L (txt L base) (gW L base):=FAt.down hw fun x a h=>by
 obtain⟨rfl,rfl⟩:=qNv h
 exact⟨[],[],by simp,rfl⟩
theorem best_at {L:List Rl}(hw:Wf L){f:Nat→Option Nat}{B:List UInt8}(hf:FAt L B f){n y t a:Nat}(hr:L[n]?=some (.power y t))(hb:best L f y t=some a):Lies B a (txt L (n+1)):=by
 obtain⟨⟨i,_,hi⟩,_⟩:=nX hb
 obtain⟨t',h1,h2⟩:=sO.1 hi
 unfold entP at h1
 rw[Nat.add_sub_cancel]at h1
 split at h1
 ·rename_i y' t2 a' g1 g2
  split at h1
  ·rename_i e
   subst e
   simp only[Option.some.injEq,Prod.mk.injEq]at h1
   obtain⟨rfl,rfl⟩:=h1
   have k1:=hf _ _ g2
   rw[kD g1 (hw.ok _ _ g1)]at k1
   rw[kD hr (hw.ok _ _ hr)]
   obtain⟨m,rfl⟩:∃m,t2=t+m:=⟨t2-t,oO⟩
   rw[←List.replicate_append_replicate,List.flatten_append]at k1
   exact k1.left
  cases h1
 cases h1
theorem pcs_desc {L:List Rl}(hw:Wf L){f:Nat→Option Nat}{B:List UInt8}(hf:FAt L B f):∀x,x≤L.length→desc B ((pcs L f x).map (Px.out L))=txt L x:=by
 intro x
 induction x using Nat.strongRecOn with
 |ind x ih=>
  intro hx
  cases x with
  |zero=>rfl
  |succ n=>
   cases e:f (n+1)with
   |some a=>
    rw[qCd e]
    exact(jU B _).trans (hf _ _ e).cut
   |none=>
    obtain⟨r,hr⟩:∃r,L[n]?=some r:=⟨_,List.getElem?_eq_getElem oO⟩
    cases r with
    |letter b=>rw[yH e hr];exact jU B _
    |power y t=>
     rw[rP e hr]
     cases eb:best L f y t with
     |some a=>exact(jU B _).trans (best_at hw hf hr eb).cut
     |none=>exact jU B _
    |pair l r=>
     have hk:=hw.ok _ _ hr
     rw[qGh hw e hr,List.map_append,jD,mU hr hk]
     obtain⟨h1,h2,h3,h4⟩:=hk
     rw[ih l h2 oO,ih r h4 oO]
end
section
variable {E:Env}{Es:List Ent}{pp tb s most:Nat}
theorem qPx (hE:Seat E){x y g:Nat}(hx:x≤Es.length)(hy:y≤Es.length)(hs:Es.length≤1048576):Ct E 32 [uPt pp,.slice (some ⟨g,0,none⟩) 2 2] [cells pp [uPt s,uPt tb] 86,tabP tb s (rls Es),bR s most Es,cells g [.int .i64 (x:Nat),.int .i64 (y:Nat)] 24] (fun v Q=>v= .tuple #[uPt s,.nilIface]∧Q=[cells pp [uPt s,uPt tb] 86,tabP tb s (rls Es),bR s most Es]):=by
 refine bO (hE.fn Tryz.func32) O O O (fun R=>?_)
 simp only[dR,uV,uW]
 refine gg15 ?_
 refine uX (fK hE) O ?_
 rintro _ _⟨rfl,rfl⟩
 simp only[uV,uW]
 refine gg17 ?_
 have f0:[Value.int .i64 (x:Nat),.int .i64 (y:Nat)][0]?=some (.int .i64 (x:Nat)):=rfl
 have f1:[Value.int .i64 (x:Nat),.int .i64 (y:Nat)][1]?=some (.int .i64 (y:Nat)):=rfl
 refine gU 3 ?_
 refine gg24 ?_
 refine dS 24 O (fun h1=>?_) (fun h1=>?_)
 ·exfalso;omega
 refine gg5 ?_
 refine uX (fK hE) O ?_
 rintro _ _⟨rfl,rfl⟩
 simp only[uV,uW]
 refine gg1 ?_
 refine uX (qIj hE) O ?_
 rintro _ _⟨rfl,rfl⟩
 simp only[uV,uW]
 refine gg5 ?_
 refine bE O (fun h2=>?_) (fun h2=>?_)
 ·exfalso;omega
 refine gg32 ?_
 refine dS 24 O (fun h3=>?_) (fun h3=>?_)
 ·exfalso;omega
 refine gg5 ?_
 refine uX (fK hE) O ?_
 rintro _ _⟨rfl,rfl⟩
 simp only[uV,uW]
 refine gg1 ?_
 refine uX (qIj hE) O ?_
 rintro _ _⟨rfl,rfl⟩
 simp only[uV,uW]
 refine gg5 ?_
 refine bE O (fun h4=>?_) (fun h4=>?_)
 ·exfalso;omega
 refine gg24 ?_
 refine uX (fK hE) O ?_
 rintro _ _⟨rfl,rfl⟩
 simp only[uV,uW]
 refine gg5 ?_
 exact uZ O (.tmp O (.tmp O .nil)) ⟨O,O⟩
theorem qAn (hE:Seat E){p:Option Addr}{m c:Nat}:Ct E 99 [.slice p m c] [] (fun v Q=>∃b1,v= .func (.func 122) #[] ⟨[uPt b1]⟩∧Q=[cells b1 [.slice p m c] 51]):=by
 refine bO (hE.fn Tryz.func99) O O O (fun R=>?_)
 simp only[dR,uV,uW]
 refine gg2 ?_
 refine uU ?_
 refine iQ O (fun b1=>?_)
 refine gg10 ?_
 exact uZ O (.tmp O .nil) ⟨b1,O,O⟩
theorem qHz (hE:Seat E){V:List Nat}{g c b1 l:Nat}{J:Nat→HP}(hn:V.length<65536)
  (hy:∀k x,k<V.length→V[V.length-1-k]?=some x→Cy E l [.int .i64 ((V.length-1-k:Nat):Int),.int .i64 (x:Nat)] [J k] (fun v Q=>v= .bool true∧Q=[J (k+1)])):
  Ct E 122 [.func (.yield l) #[] #[],uPt b1] [J 0,cells b1 [.slice (some ⟨g,0,none⟩) V.length c] 51,sl (some ⟨g,0,none⟩) c 24 1 V.length (idC V)]
   (fun v Q=>Q=[J V.length,cells b1 [.slice (some ⟨g,0,none⟩) V.length c] 51,sl (some ⟨g,0,none⟩) c 24 1 V.length (idC V)]):=by
 refine wO (hE.fn Tryz.func122) O O O (fun R=>?_)
 simp only[dR,uV,uW]
 refine iP (dZ ?_)
 apply dP
 ·(apply aO rfl (hE.t rfl) rfl;(repeat(first |rfl|assumption|constructor));done)
 ·rfl
 ·rfl
 refine dP (uBl O) O O ?_
 refine dP (uAs O O) O O ?_
 refine dP (aC O) O O ?_
 refine jB (eF (xZ ?_))
 refine i_loop (fun k:Nat=>[(0,.func (.yield l) #[] #[]),(1,uPt b1),(3,.int .i64 ((V.length:Int)-1-(k:Nat)))]) (fun k=>[J k,cells b1 [.slice (some ⟨g,0,none⟩) V.length c] 51,sl (some ⟨g,0,none⟩) c 24 1 V.length (idC V),R]) (fun k=>V.length-k) (fun k=>k≤V.length) 0 (Nat.zero_le _) ⟨O,O,congrArg some (bW oO),trivial⟩ uI ?_
 intro k hk
 refine iP (iP (dZ ?_))
 refine dP (aB O) O O ?_
 refine dP (y_ge O O) O O ?_
 refine jB (eF ?_)
 refine lW O (fun h1=>?_) (fun h1=>?_)
 ·have hkn:k<V.length:=oO
  obtain⟨x,hx⟩:∃x,V[V.length-1-k]?=some x:=⟨_,List.getElem?_eq_getElem oO⟩
  have f0:=kJ hx (((V.length:Int)-1-(k:Nat))).toNat oO
  have hyk:=hy k x hkn hx
  rw[show((V.length-1-k:Nat):Int)=(V.length:Int)-1-(k:Nat) by omega]at hyk
  refine tV (eF (iP (xZ (iP (dZ ?_)))))
  refine dP (aB O) O O ?_
  refine dP (aB O) O O ?_
  apply dP
  ·(apply aO rfl (hE.t rfl) rfl;(repeat(first |rfl|assumption|constructor));done)
  ·rfl
  ·rfl
  refine dP (aB O) O O ?_
  apply dP
  ·exact uAj O O
  ·rfl
  ·rfl
  apply dP
  ·(apply aO rfl (hE.t rfl) rfl;(repeat(first |rfl|assumption|constructor));done)
  ·rfl
  ·rfl
  apply j_round O O O (hyk)
  ·exact uK
  rintro _ _⟨rfl,rfl⟩
  simp only[uV,uW]
  refine dP (y_not O) O O ?_
  refine jB (eF ?_)
  refine wR O ?_
  refine tV (sJ (eF (dZ ?_)))
  refine dP (aB O) O O ?_
  refine dP (uAs O O) O O ?_
  refine dP (aC O) O O ?_
  refine jB ?_
  refine ai_round (ι:=Nat) (j:=k+1) oO (by show V.length-(k+1)<V.length-k;omega) ⟨O,O,congrArg some (bW oO),trivial⟩ uI
 obtain rfl:k=V.length:=by omega
 refine i_exit (nP (nP (vS ?_)))
 apply ai_end
 ·rfl
 ·(exact Rs.nil)
 ·exact O
 exact uI
theorem qLg (hE:Seat E):Ct E 135 [.slice none 0 0,.int .i64 0,.int .i64 0] [] (fun v Q=>v= .tuple #[]∧Q=[]):=by
 refine bO (hE.fn Tryz.func135) O O O (fun R=>?_)
 simp only[dR,uV,uW]
 refine gg8 ?_
 refine gU 1 ?_
 refine gg14 ?_
 exact uZe O .nil ⟨O,O⟩
theorem qLk (hE:Seat E){l:Int}:Ct E 108 [.slice none 0 0,.int .i64 0,.int .i64 0,.int .i64 l] [] (fun v Q=>v= .tuple #[]∧Q=[]):=by
 refine bO (hE.fn Tryz.func108) O O O (fun R=>?_)
 simp only[dR,uV,uW]
 refine gg11 ?_
 refine gU 1 ?_
 refine gg23 ?_
 refine uX (qLg hE) O ?_
 rintro _ _⟨rfl,rfl⟩
 simp only[uV,uW]
 refine gg7 ?_
 exact uZ O .nil ⟨O,O⟩
theorem qDd (hE:Seat E):Ct E 75 [.slice none 0 0] [] (fun v Q=>v= .tuple #[]∧Q=[]):=by
 refine bO (hE.fn Tryz.func75) O O O (fun R=>?_)
 simp only[dR,uV,uW]
 refine gg12 ?_
 refine uX (vF hE (k:=0) (by decide)) O ?_
 rintro _ _⟨rfl,rfl⟩
 simp only[uV,uW]
 refine uX (qLk hE) O ?_
 rintro _ _⟨rfl,rfl⟩
 simp only[uV,uW]
 refine gg1 ?_
 exact uZe O .nil ⟨O,O⟩
theorem qPy (hE:Seat E)(hs:Es.length≤1048576):Ct E 73 [uPt s,.int .i64 ((0:Nat):Int)] [bR s most Es] (fun v Q=>v= .bool true∧Q=[bR s most Es]):=qId hE (Nat.zero_le _) hs
theorem qTc (hE:Seat E){b6 b7 bm:Nat}:
  Ct E 72 [.int .i64 ((0:Nat):Int),uPt b7,uPt b6] [cells b7 [.map (some bm)] 152,mapF bm .i64 (tQ (0::[]))]
   (fun v Q=>v= .tuple #[]∧Q=[cells b7 [.map (some bm)] 152,mapF bm .i64 (tQ (0::[]))]):=by
 have hm1:E.P.underlying 152=some (.map 24 4):=by rw[hE.P];kernel_rfl
 have hm2:E.P.underlying 24=some (.int .i64):=by rw[hE.P];kernel_rfl
 have hm3:∀w,(zeroValue 4).run E.P w= .ok (.bool false) w:=fun w=>by rw[hE.P];kernel_rfl
 refine bO (hE.fn Tryz.func72) O O O (fun R=>?_)
 simp only[dR,uV,uW]
 refine gg4 ?_
 refine uB (sF hm1 hm2 hm3 O O uK (qOu List.mem_cons_self)) ?_
 refine gg5 ?_
 exact uZe O .nil ⟨O,O⟩
theorem qSl (hE:Seat E){g:Nat}(hn:Es.length<65536):
  Ct E 41 [uPt s,.slice (some ⟨g,0,none⟩) 1 1] [bR s most Es,cells g [.int .i64 ((0:Nat):Int)] 24]
   (fun v Q=>v= .tuple #[.slice none 0 0,.nilIface]∧Q=[bR s most Es]):=by
 have hgo:goFn E.P 72=true:=hE.f oK
 refine bO (hE.fn Tryz.func41) O O O (fun R=>?_)
 simp only[dR,uV,uW]
 refine gg18 ?_
 refine uU (cZ (hE.t O) (fun b6=>?_))
 refine gg4 ?_
 refine uU ?_
 refine rJ .i64 (fun b19=>?_)
 refine uU ?_
 apply qJc (kt:=24) (et:=4) (by rw[hE.P];kernel_rfl) (by rw[hE.P];kernel_rfl) O O O
 ·exact uK
 refine gg1 ?_
 refine uU (cZ (hE.t O) (fun b7=>?_))
 refine gg18 ?_
 rw[seen0]
 have f0:[Value.int .i64 ((0:Nat):Int)][0]?=some (.int .i64 ((0:Nat):Int)):=rfl
 refine gU 2 ?_
 refine gg24 ?_
 refine uX (qPy (Es:=Es) hE oO) O ?_
 rintro _ _⟨rfl,rfl⟩
 simp only[uV,uW]
 refine gg9 ?_
 refine uU ?_
 apply fO (hx:=O) (ha:=O) (hf:=hgo)
 ·exact qTc (b6:=b6) (b7:=b7) (bm:=b19) hE
 ·exact uK
 rintro _ _⟨rfl,rfl⟩
 simp only[uV,uW]
 refine gg28 ?_
 refine gU 1 ?_
 refine gg19 ?_
 refine uX (qDd hE) O ?_
 rintro _ _⟨rfl,rfl⟩
 simp only[uV,uW]
 refine gg10 ?_
 exact uZ O (.tmp O (.tmp O .nil)) ⟨O,O⟩
def mapN (f:Nat→Option Nat):Int→Option Value:=fun k=>if 0≤k then(f k.toNat).map fun a=> .int .i64 (a:Nat)else none
theorem qJf:mapN (fun _=>none)=fun _=>none:=by funext k;simp[mapN]
theorem zW (f:Nat→Option Nat)(k:Nat):mapN f ((k:Nat):Int)=(f k).map fun a=> .int .i64 (a:Nat):=by simp[mapN]
theorem qGb (f:Nat→Option Nat)(k a:Nat):setF (mapN f) ((k:Nat):Int) (.int .i64 (a:Nat))=mapN (fun x=>if x=k then some a else f x):=by
 funext x
 unfold setF mapN
 by_cases h:0≤x
 ·rw[if_pos h]
  by_cases e:x.toNat=k
  ·rw[if_pos (show x=((k:Nat):Int) by omega),if_pos h]
   show _=Option.map _ (if x.toNat=k then some a else f x.toNat)
   rw[if_pos e];rfl
  rw[if_neg (show ¬x=((k:Nat):Int) by omega),if_pos h]
  show _=Option.map _ (if x.toNat=k then some a else f x.toNat)
  rw[if_neg e]
 rw[if_neg h,if_neg (show ¬x=((k:Nat):Int) by omega),if_neg h]
theorem fput_low {f:Nat→Option Nat}{k a b:Nat}(h:f k=some b)(hab:b≤a):fput f k a=f:=by
 funext x
 unfold fput
 by_cases e:x=k
 ·subst e;rw[if_pos rfl,h];simp only;rw[Nat.min_eq_left hab]
 rw[if_neg e]
theorem qNy {f:Nat→Option Nat}{k a:Nat}(h:∀b,f k=some b→a<b):(fun x=>if x=k then some a else f x)=fput f k a:=by
 funext x
 unfold fput
 by_cases e:x=k
 ·subst e
  rw[if_pos rfl,if_pos rfl]
  cases e2:f x with
  |none=>rfl
  |some b=>have:=h b e2;simp only;rw[Nat.min_eq_right oO]
 rw[if_neg e,if_neg e]
theorem qFm (hE:Seat E){b8 bm k a:Nat}{f:Nat→Option Nat}:
  Ct E 98 [.int .i64 (k:Nat),.int .i64 (a:Nat),uPt b8] [cells b8 [.map (some bm)] 135,mapF bm .i64 (mapN f)] (fun v Q=>v= .tuple #[]∧Q=[cells b8 [.map (some bm)] 135,mapF bm .i64 (mapN (fput f k a))]):=by
 have hm1:E.P.underlying 135=some (.map 24 3):=by rw[hE.P];kernel_rfl
 have hm2:E.P.underlying 24=some (.int .i64):=by rw[hE.P];kernel_rfl
 have hm3:∀w,(zeroValue 3).run E.P w= .ok (.int .i64 0) w:=fun w=>by rw[hE.P];kernel_rfl
 have hf:=zW f k
 refine bO (hE.fn Tryz.func98) O O O (fun R=>?_)
 simp only[dR,uV,uW]
 refine gg4 ?_
 refine uB (sF (ok:=true) hm1 hm2 hm3 O O uK hf) ?_
 cases e:f k with
 |none=>
  simp only[Option.map_none,qBi,Option.getD_none,Option.isSome_none,if_true]
  refine gg23 ?_
  refine uU ?_
  apply pF (kt:=24) (et:=3) (by rw[hE.P];kernel_rfl) (by rw[hE.P];kernel_rfl) O O O
  ·exact uK
  refine gg1 ?_
  rw[qGb,qNy (a:=a) (fun b h=>by rw[e]at h;cases h)]
  exact uZe O .nil ⟨O,O⟩
 |some b=>
  simp only[Option.map_some,qBi,Option.getD_some,Option.isSome_some,if_true]
  refine gg21 ?_
  refine bE O (fun h1=>?_) (fun h1=>?_)
  ·refine gg4 ?_
   refine uU ?_
   apply pF (kt:=24) (et:=3) (by rw[hE.P];kernel_rfl) (by rw[hE.P];kernel_rfl) O O O
   ·exact uK
   refine gg1 ?_
   rw[qGb,qNy (a:=a) (fun c h=>by rw[e]at h;cases h;omega)]
   exact uZe O .nil ⟨O,O⟩
  rw[fput_low (a:=a) e oO]
  refine gg1 ?_
  exact uZe O .nil ⟨O,O⟩
end
section
variable {E:Env}{Es:List Ent}{pp tb s most:Nat}
theorem fbase_ne {base:Nat}(h:base≠0):kG base=fun x=>if x=base then some 0 else none:=by
 funext x
 unfold kG
 by_cases e:x=base
 ·rw[if_pos ⟨e,oO⟩,if_pos e]
 rw[if_neg (fun h=>e h.1),if_neg e]
theorem qQp:kG 0=fun _=>none:=by
 funext x
 unfold kG
 by_cases e:x=0
 ·rw[if_neg (fun h=>h.2 e)]
 rw[if_neg (fun h=>e h.1)]
theorem zG (hE:Seat E){b1 l:Nat}{J:HP}:
  Ct E 122 [.func (.yield l) #[] #[],uPt b1] [J,cells b1 [.slice none 0 0] 51] (fun v Q=>Q=[J,cells b1 [.slice none 0 0] 51]):=by
 refine wO (hE.fn Tryz.func122) O O O (fun R=>?_)
 simp only[dR,uV,uW]
 refine iP (dZ ?_)
 apply dP
 ·(apply aO rfl (hE.t rfl) rfl;(repeat(first |rfl|assumption|constructor));done)
 ·rfl
 ·rfl
 refine dP (uBl O) O O ?_
 refine dP (uAs O O) O O ?_
 refine dP (aC O) O O ?_
 refine jB (eF (xZ ?_))
 refine i_loop (fun k:Nat=>[(0,.func (.yield l) #[] #[]),(1,uPt b1),(3,.int .i64 (-1))]) (fun k=>[J,cells b1 [.slice none 0 0] 51,R]) (fun k=>0) (fun k=>True) 0 trivial ⟨O,O,congrArg some (bW oO),trivial⟩ uI ?_
 intro k hk
 refine iP (iP (dZ ?_))
 refine dP (aB O) O O ?_
 refine dP (y_ge O O) O O ?_
 refine jB (eF ?_)
 refine lW O (fun h1=>?_) (fun h1=>?_)
 ·exfalso;omega
 refine i_exit (nP (nP (vS ?_)))
 apply ai_end
 ·rfl
 ·(exact Rs.nil)
 ·exact O
 exact uI
theorem ct_occ0 (hE:Seat E)(hn:Es.length<65536):Ct E 64 [uPt s,.int .i64 ((0:Nat):Int)] [bR s most Es]
  (fun v Q=>∃bm,v= .tuple #[.map (some bm),.nilIface]∧Q=[bR s most Es,mapF bm .i64 (mapN (gW (rls Es) 0))]):=by
 have e0:mapN (gW (rls Es) 0)=fun _=>none:=by
  have:gW (rls Es) 0=kG 0:=rfl
  rw[this,qQp,qJf]
 rw[e0]
 refine wO (hE.fn Tryz.func64) O O O (fun R=>?_)
 simp only[dR,uV,uW]
 refine iP (dZ ?_)
 apply gF O O
 refine iQ O (fun b2=>?_)
 apply gF O O
 refine cZ (hE.t O) (fun b4=>?_)
 apply gF O O
 refine cZ (hE.t O) (fun b5=>?_)
 refine jB (eF (iP (dZ ?_)))
 apply dP
 ·(apply aO rfl (hE.t rfl) rfl;(repeat(first |rfl|assumption|constructor));done)
 ·rfl
 ·rfl
 refine dP (aB O) O O ?_
 apply gF O O
 refine aU (hE.t O) (hE.t O) O O O (fun b20=>?_)
 apply gF O O
 refine uC (qSl hE hn) O ?_
 rintro _ _⟨rfl,rfl⟩
 simp only[uV,uW]
 refine dP (aB O) O O ?_
 refine dP (aT O O) O O ?_
 refine dP (aT O O) O O ?_
 refine dP (aC O) O O ?_
 refine dP (aC O) O O ?_
 refine jB (eF (iP (iP (dZ ?_))))
 refine dP (aB O) O O ?_
 apply dP
 ·exact qCz O (hE.t O)
 ·rfl
 ·rfl
 refine jB (eF ?_)
 refine wR O ?_
 refine tV (eF (iP (dZ ?_)))
 apply gF O O
 refine rJ .i64 (fun b27=>?_)
 apply gF O O
 refine cZ (hE.t O) (fun b8=>?_)
 apply gF O O
 refine uS ?_
 refine jB (eF (iP (iP (dZ ?_))))
 refine dP (aB O) O O ?_
 refine dP (y_ne O O) O O ?_
 refine jB (eF ?_)
 refine lW O (fun hb=>?_) (fun hb=>?_)
 ·exfalso;omega
 refine tV (eF (iP (dZ ?_)))
 refine dP (yU O) O O ?_
 apply gF O O
 refine qIz (by rw[hE.P];kernel_rfl) (fun b9=>?_)
 apply gF O O
 (apply qJd rfl rfl (by rw[hE.P];kernel_rfl) rfl;(focus((repeat constructor);done));(focus rfl);(focus(exact Nat.le_of_ble_eq_true rfl)))
 refine jB (eF (iP (iP (dZ ?_))))
 refine dP (aB O) O O ?_
 apply gF O O
 refine uC (qAn hE) O ?_
 rintro _ _⟨b1,rfl,rfl⟩
 simp only[uV,uW]
 refine jB (eF (xZ ?_))
 refine qUb 0 (fun _=>[.int .i64 0,.int .i64 0]) (fun _=>[]) [cells b1 [.slice none 0 0] 51] (fun _=>[]) O (hE.f oK) (by decide) (fun _=>O) uK (fun l J' _=>zG hE) (fun k l B hk=>absurd hk oO) (fun k l B hk=>absurd hk oO) (fun D=>?_)
 simp only[List.nil_append,List.cons_append]
 refine sJ (eF ?_)
 refine iP (dZ ?_)
 apply dP
 ·(apply aO rfl (hE.t rfl) rfl;(repeat(first |rfl|assumption|constructor));done)
 ·rfl
 ·rfl
 apply gF O O
 refine uS ?_
 apply gF O O
 refine uS ?_
 refine jB (eF (i_ret ?_))
 apply qNb
 ·rfl
 ·exact uK
 ·((apply Rs.cell1 rfl (hE.t rfl) rfl;(focus((repeat(first |rfl|assumption|constructor));done)));(apply Rs.cell1 rfl (hE.t rfl) rfl;(focus((repeat(first |rfl|assumption|constructor));done)));exact Rs.nil)
 ·exact⟨_,O,O⟩
 exact uI
theorem qTl {V:List Nat}{k x:Nat}(hk:k<V.length)(hx:V[V.length-1-k]?=some x):V.drop (V.length-(k+1))=x::V.drop (V.length-k):=by
 have e:V.length-(k+1)=V.length-1-k:=oO
 rw[e,List.drop_eq_getElem_cons oO,(List.getElem?_eq_some_iff.1 hx).2]
 congr 2
 omega
theorem qUu {L:List Rl}(hw:Wf L){n:Nat}{f:Nat→Option Nat}:∀(B:List Nat),FIn L n f→FIn L n (tO L B f)
 |[],h=>h
 |v::B,h=>(qUu hw B h).step hw
theorem ct_occ1 (hE:Seat E){base:Nat}(h1:1≤base)(h2:base≤Es.length)(hn:Es.length<65536):Ct E 64 [uPt s,.int .i64 (base:Nat)] [bR s most Es]
  (fun v Q=>∃bm,v= .tuple #[.map (some bm),.nilIface]∧Q=[bR s most Es,mapF bm .i64 (mapN (gW (rls Es) base))]):=by
 have hm1:E.P.underlying 135=some (.map 24 3):=by rw[hE.P];kernel_rfl
 have hm2:E.P.underlying 24=some (.int .i64):=by rw[hE.P];kernel_rfl
 have hm3:∀w,(zeroValue 3).run E.P w= .ok (.int .i64 0) w:=fun w=>by rw[hE.P];kernel_rfl
 have hgo:goFn E.P 98=true:=hE.f oK
 refine eO (p:=bR s most Es) uK (fun _ h=>dO h) (fun hsay=>?_)
 have hw:=hsay.1
 have hLl:=bQ Es
 refine wO (hE.fn Tryz.func64) O O O (fun R=>?_)
 simp only[dR,uV,uW]
 refine iP (dZ ?_)
 apply gF O O
 refine iQ O (fun b2=>?_)
 apply gF O O
 refine cZ (hE.t O) (fun b4=>?_)
 apply gF O O
 refine cZ (hE.t O) (fun b5=>?_)
 refine jB (eF (iP (dZ ?_)))
 apply dP
 ·(apply aO rfl (hE.t rfl) rfl;(repeat(first |rfl|assumption|constructor));done)
 ·rfl
 ·rfl
 refine dP (aB O) O O ?_
 apply gF O O
 refine aU (hE.t O) (hE.t O) O O O (fun b20=>?_)
 apply gF O O
 refine uC (ct_Reach hE h1 h2 hn) O ?_
 rintro _ _⟨p0,c0,V,rfl,hnd,hps,hV,rfl⟩
 have hVl:V.length<65536:=by
  have:=tC hnd (B:=(List.range (Es.length+1))) (fun x hx=>List.mem_range.2 (by have:=((hV x).1 hx).pos;omega))
  simp at this
  have hz:0∉V:=fun h=>by have:=((hV 0).1 h).pos;omega
  have:=tC (A:=0::V) (B:=List.range (Es.length+1)) (List.nodup_cons.2 ⟨hz,hnd⟩) (fun x hx=>List.mem_range.2 (by
   rcases List.mem_cons.1 hx with rfl|hx
   ·omega
   have:=((hV x).1 hx).pos;omega))
  simp at this
  omega
 have hsrt:V.Pairwise (· < ·):=by
  have h3:=List.nodup_iff_pairwise_ne.1 hnd
  exact(hps.and h3).imp fun⟨a,b⟩=>by omega
 simp only[uV,uW]
 refine dP (aB O) O O ?_
 refine dP (aT O O) O O ?_
 refine dP (aT O O) O O ?_
 refine dP (aC O) O O ?_
 refine dP (aC O) O O ?_
 refine jB (eF (iP (iP (dZ ?_))))
 refine dP (aB O) O O ?_
 apply dP
 ·exact qCz O (hE.t O)
 ·rfl
 ·rfl
 refine jB (eF ?_)
 refine wR O ?_
 refine tV (eF (iP (dZ ?_)))
 apply gF O O
 refine rJ .i64 (fun b27=>?_)
 apply gF O O
 refine cZ (hE.t O) (fun b8=>?_)
 apply gF O O
 refine uS ?_
 refine jB (eF (iP (iP (dZ ?_))))
 refine dP (aB O) O O ?_
 refine dP (y_ne O O) O O ?_
 refine jB (eF ?_)
 refine lW O (fun hb=>?_) (fun hb=>?_)
 ·refine dZ ?_
  apply dP
  ·(apply aO rfl (hE.t rfl) rfl;(repeat(first |rfl|assumption|constructor));done)
  ·rfl
  ·rfl
  refine dP (aB O) O O ?_
  apply gF O O
  apply pF (kt:=24) (et:=3) (by rw[hE.P];kernel_rfl) (by rw[hE.P];kernel_rfl) O O O
  ·exact uK
  refine jB (eF (iP (dZ ?_)))
  refine dP (yU O) O O ?_
  apply gF O O
  refine qIz (by rw[hE.P];kernel_rfl) (fun b9=>?_)
  apply gF O O
  (apply qJd rfl rfl (by rw[hE.P];kernel_rfl) rfl;(focus((repeat constructor);done));(focus rfl);(focus(exact Nat.le_of_ble_eq_true rfl)))
  refine jB (eF (iP (iP (dZ ?_))))
  refine dP (aB O) O O ?_
  have em:setF (fun _:Int=>(none:Option Value)) ((base:Nat):Int) (.int .i64 0)=mapN (kG base):=by
   rw[fbase_ne oO,←qJf]
   exact qGb _ base 0
  rw[em]
  apply gF O O
  refine uC (qAn hE) O ?_
  rintro _ _⟨bq,rfl,rfl⟩
  simp only[uV,uW]
  refine jB (eF (xZ ?_))
  apply qUb V.length (fun k=>[.int .i64 ((V.length-1-k:Nat):Int),.int .i64 ((V[V.length-1-k]?.getD 0:Nat):Int)]) (fun k=>[bR s most Es,cells b2 [uPt s] 31,cells b8 [.map (some b27)] 135,cells b9 [.func (.func 98) #[] ⟨[uPt b8]⟩] 189,mapF b27 .i64 (mapN (tO (rls Es) (V.drop (V.length-k)) (kG base)))]) [cells bq [.slice (some ⟨p0,0,none⟩) V.length c0] 51,sl (some ⟨p0,0,none⟩) c0 24 1 V.length (idC V)] (fun k=>[(2,uPt b2),(8,uPt b8),(9,uPt b9),(11,.int .i64 ((V[V.length-1-k]?.getD 0:Nat):Int))]) O (hE.f oK) (by decide) (fun _=>O)
  ·show Sl.Sub _ _ _
   rw[Nat.sub_zero,List.drop_length]
   show Sl.Sub [bR s most Es,_,_,_,mapF b27 .i64 (mapN (kG base)),_,_] _ _
   ((repeat constructor);done)
  ·intro l J' hy
   refine qHz hE hVl fun k x hk hx=>?_
   have:=hy k hk
   rw[hx]at this
   exact this
  ·intro k l B hk
   refine dZ ?_
   refine dP (aC O) O O ?_
   refine jB ?_
   exact ai_aend ⟨O,O,O,O,trivial⟩ uI
  ·intro k l B hk
   obtain⟨x,hx⟩:∃x,V[V.length-1-k]?=some x:=⟨_,List.getElem?_eq_getElem oO⟩
   obtain⟨m,rfl⟩:∃m,x=m+1:=⟨x-1,by have:=((hV x).1 (List.mem_of_getElem? hx)).pos;omega⟩
   have hxb:=((hV _).1 (List.mem_of_getElem? hx)).pos
   obtain⟨y,hy⟩:∃y,Es[m]?=some y:=⟨_,List.getElem?_eq_getElem oO⟩
   have hyr:(rls Es)[m]?=some y.r:=vM hy
   have hdn:=qTl hk hx
   have hcov:=(qIv hw hsrt hV (V.drop (V.length-(k+1))) (V.take (V.length-(k+1))) (by rw[List.take_append_drop])).1 _ _ hdn
   obtain⟨a,ha⟩:∃a,tO (rls Es) (V.drop (V.length-k)) (kG base) (m+1)=some a:=by
    cases e:tO (rls Es) (V.drop (V.length-k)) (kG base) (m+1)with
    |none=>exact absurd e hcov
    |some a=>exact⟨a,rfl⟩
   have hnext:tO (rls Es) (V.drop (V.length-(k+1))) (kG base)=qDe (rls Es) (tO (rls Es) (V.drop (V.length-k)) (kG base)) a y.r:=by
    rw[hdn]
    show nO _ (m+1-1) _=_
    rw[Nat.add_sub_cancel]
    exact qBj ha hyr
   rw[hnext,hx]
   simp only[Option.getD_some,uV,uW]
   have hfb:∀j b,tO (rls Es) (V.drop (V.length-k)) (kG base) j=some b→b≤1152921504606846976:=fun j b h=>by
    have h3:=qUu hw (V.drop (V.length-k)) (FIn.base base) j b h
    have h4:=hw.short base
    have:dB=1152921504606846976:=rfl
    omega
   generalize tO (rls Es) (V.drop (V.length-k)) (kG base)=f at ha hfb ⊢
   have hf:=zW f (m+1)
   rw[ha]at hf
   refine xZ (iP (dZ ?_))
   apply dP
   ·(apply aO rfl (hE.t rfl) rfl;(repeat(first |rfl|assumption|constructor));done)
   ·rfl
   ·rfl
   refine dP (aB O) O O ?_
   apply gF O O
   refine uC (qB hE hy) O ?_
   rintro _ _⟨rfl,rfl⟩
   simp only[uV,uW]
   refine dP (aB O) O O ?_
   refine dP (aT O O) O O ?_
   refine dP (aT O O) O O ?_
   apply gF O O
   refine cZ (hE.t O) (fun b12=>?_)
   apply gF O O
   refine uS ?_
   refine dP (aC O) O O ?_
   refine jB (eF (iP (iP (dZ ?_))))
   refine dP (aB O) O O ?_
   apply dP
   ·exact qCz O (hE.t O)
   ·rfl
   ·rfl
   refine jB (eF ?_)
   refine wR O ?_
   refine tV (eF (iP (dZ ?_)))
   apply dP
   ·(apply aO rfl (hE.t rfl) rfl;(repeat(first |rfl|assumption|constructor));done)
   ·rfl
   ·rfl
   refine dP (aB O) O O ?_
   apply dP
   ·exact sF (ok:=false) hm1 hm2 hm3 O O uK hf
   ·rfl
   ·rfl
   have hk':=hw.ok _ _ hyr
   have hmx:dB=1152921504606846976:=rfl
   have hbl:∀j b,f j=some b→b≤1152921504606846976:=fun j b h=>hfb j b h
   have ha2:=hbl _ _ ha
   generalize y.r=r at hyr hk' ⊢
   simp only[qBi,Option.map_some,Option.getD_some,Bool.false_eq_true,if_false]
   cases r with
   |letter b=>
    refine dP (aC O) O O ?_
    refine jB (eF (iP (iP (dZ ?_))))
    refine dP (uBf O) O O ?_
    apply dP
    ·(apply aO rfl (hE.t rfl) rfl;(repeat(first |rfl|assumption|constructor));done)
    ·rfl
    ·rfl
    refine dP (y_ne O O) O O ?_
    refine jB (eF ?_)
    refine lW O (fun e1=>?_) (fun e1=>?_)
    ·exfalso;simp[Rl.left]at e1
    refine tV (eF (iP (dZ ?_)))
    refine dP (uBf O) O O ?_
    apply dP
    ·(apply aO rfl (hE.t rfl) rfl;(repeat(first |rfl|assumption|constructor));done)
    ·rfl
    ·rfl
    refine dP (y_ne O O) O O ?_
    refine jB (eF ?_)
    refine lW O (fun e2=>?_) (fun e2=>?_)
    ·exfalso;simp[Rl.right]at e2
    refine tV (sJ ?_)
    exact qKy uI
   |power z t=>
    obtain⟨k1,k2,k3⟩:=hk'
    refine dP (aC O) O O ?_
    refine jB (eF (iP (iP (dZ ?_))))
    refine dP (uBf O) O O ?_
    apply dP
    ·(apply aO rfl (hE.t rfl) rfl;(repeat(first |rfl|assumption|constructor));done)
    ·rfl
    ·rfl
    refine dP (y_ne O O) O O ?_
    refine jB (eF ?_)
    refine lW O (fun e1=>?_) (fun e1=>?_)
    ·refine dZ ?_
     apply dP
     ·(apply qMy rfl (by rw[hE.P];kernel_rfl);(repeat(first |rfl|assumption|constructor));done)
     ·rfl
     ·rfl
     refine dP (uBf O) O O ?_
     apply dP
     ·(apply aO rfl (hE.t rfl) rfl;(repeat(first |rfl|assumption|constructor));done)
     ·rfl
     ·rfl
     refine dP (aB O) O O ?_
     apply gF O O
     apply fO (hx:=O) (ha:=O) (hf:=hE.f oK)
     ·exact qFm (bm:=b27) (k:=z) (a:=a) (f:=f) hE
     ·exact uK
     rintro _ _⟨rfl,rfl⟩
     simp only[uV,uW]
     refine jB (eF (iP (dZ ?_)))
     refine dP (uBf O) O O ?_
     apply dP
     ·(apply aO rfl (hE.t rfl) rfl;(repeat(first |rfl|assumption|constructor));done)
     ·rfl
     ·rfl
     refine dP (y_ne O O) O O ?_
     refine jB (eF ?_)
     refine lW O (fun e2=>?_) (fun e2=>?_)
     ·exfalso;simp[Rl.right]at e2
     refine tV (sJ ?_)
     exact qKy uI
    exfalso;simp only[Rl.left]at e1;omega
   |pair z q=>
    obtain⟨k1,k2,k3,k4⟩:=hk'
    obtain⟨i,rfl⟩:∃i,z=i+1:=⟨z-1,oO⟩
    obtain⟨y2,hy2⟩:∃y,Es[i]?=some y:=⟨_,List.getElem?_eq_getElem oO⟩
    have htl:y2.t.length=len (rls Es) (i+1):=by rw[hsay.2.1 i y2 hy2];rfl
    have hsh:=hw.short (i+1)
    refine dP (aC O) O O ?_
    refine jB (eF (iP (iP (dZ ?_))))
    refine dP (uBf O) O O ?_
    apply dP
    ·(apply aO rfl (hE.t rfl) rfl;(repeat(first |rfl|assumption|constructor));done)
    ·rfl
    ·rfl
    refine dP (y_ne O O) O O ?_
    refine jB (eF ?_)
    refine lW O (fun e1=>?_) (fun e1=>?_)
    ·refine dZ ?_
     apply dP
     ·(apply qMy rfl (by rw[hE.P];kernel_rfl);(repeat(first |rfl|assumption|constructor));done)
     ·rfl
     ·rfl
     refine dP (uBf O) O O ?_
     apply dP
     ·(apply aO rfl (hE.t rfl) rfl;(repeat(first |rfl|assumption|constructor));done)
     ·rfl
     ·rfl
     refine dP (aB O) O O ?_
     apply gF O O
     apply fO (hx:=O) (ha:=O) (hf:=hE.f oK)
     ·exact qFm (bm:=b27) (k:=i+1) (a:=a) (f:=f) hE
     ·exact uK
     rintro _ _⟨rfl,rfl⟩
     simp only[uV,uW]
     refine jB (eF (iP (dZ ?_)))
     refine dP (uBf O) O O ?_
     apply dP
     ·(apply aO rfl (hE.t rfl) rfl;(repeat(first |rfl|assumption|constructor));done)
     ·rfl
     ·rfl
     refine dP (y_ne O O) O O ?_
     refine jB (eF ?_)
     refine lW O (fun e2=>?_) (fun e2=>?_)
     ·refine iP (dZ ?_)
      apply dP
      ·(apply aO rfl (hE.t rfl) rfl;(repeat(first |rfl|assumption|constructor));done)
      ·rfl
      ·rfl
      refine dP (uBf O) O O ?_
      apply dP
      ·(apply aO rfl (hE.t rfl) rfl;(repeat(first |rfl|assumption|constructor));done)
      ·rfl
      ·rfl
      apply gF O O
      refine uC (jZ hE hy2) O ?_
      rintro _ _⟨rfl,rfl⟩
      simp only[uV,uW]
      rw[htl]
      refine dP (aB O) O O ?_
      refine dP (aT O O) O O ?_
      refine dP (aT O O) O O ?_
      apply gF O O
      refine cZ (hE.t O) (fun b15=>?_)
      apply gF O O
      refine uS ?_
      refine dP (aC O) O O ?_
      refine jB (eF (iP (iP (dZ ?_))))
      refine dP (aB O) O O ?_
      apply dP
      ·exact qCz O (hE.t O)
      ·rfl
      ·rfl
      refine jB (eF ?_)
      refine wR O ?_
      refine tV (eF (dZ ?_))
      apply dP
      ·(apply qMy rfl (by rw[hE.P];kernel_rfl);(repeat(first |rfl|assumption|constructor));done)
      ·rfl
      ·rfl
      refine dP (uBf O) O O ?_
      apply dP
      ·(apply aO rfl (hE.t rfl) rfl;(repeat(first |rfl|assumption|constructor));done)
      ·rfl
      ·rfl
      refine dP (aB O) O O ?_
      refine dP (uBf O) O O ?_
      apply dP
      ·(apply aO rfl (hE.t rfl) rfl;(repeat(first |rfl|assumption|constructor));done)
      ·rfl
      ·rfl
      refine dP (uAa O O) O O ?_
      refine j_eq 76 (.int .i64 ((a+len (rls Es) (i+1):Nat):Int)) O (bW oO) ?_
      apply gF O O
      apply fO (hx:=O) (ha:=O) (hf:=hE.f oK)
      ·exact qFm (bm:=b27) (k:=q) (a:=a+len (rls Es) (i+1)) (f:=fput f (i+1) a) hE
      ·exact uK
      rintro _ _⟨rfl,rfl⟩
      simp only[uV,uW]
      refine jB (sJ ?_)
      exact qKy uI
     exfalso;simp only[Rl.right]at e2;omega
    exfalso;simp only[Rl.left]at e1;omega
  intro D
  simp only[List.nil_append,List.cons_append]
  rw[Nat.sub_self,List.drop_zero,qLt hw oO hsrt hV]
  refine sJ (eF ?_)
  refine iP (dZ ?_)
  apply dP
  ·(apply aO rfl (hE.t rfl) rfl;(repeat(first |rfl|assumption|constructor));done)
  ·rfl
  ·rfl
  apply gF O O
  refine uS ?_
  apply gF O O
  refine uS ?_
  refine jB (eF (i_ret ?_))
  apply qNb
  ·rfl
  ·exact uK
  ·((apply Rs.cell1 rfl (hE.t rfl) rfl;(focus((repeat(first |rfl|assumption|constructor));done)));(apply Rs.cell1 rfl (hE.t rfl) rfl;(focus((repeat(first |rfl|assumption|constructor));done)));exact Rs.nil)
  ·exact⟨_,O,O⟩
  exact uI
 exfalso;omega
end
end Go.Proofs.YtblljbllmnbiaaaGreatDoor
namespace Sl
open Go Go.RowKit
theorem qEv {l l':List HP}(h:l.Perm l'):∀k,dQ l k→dQ l' k:=by
 induction h with
 |nil=>exact fun k x=>x
 |cons p _ ih=>exact fun k x=>dX (fun k' y=>ih k' y) x
 |swap p q l=>exact fun k x=>fB x
 |trans _ _ i1 i2=>exact fun k x=>i2 k (i1 k x)
theorem qKf {H:List HP}:∀k,dQ H k→dQ (dQ []::H) k:=fun k x=>⟨fun _=>none,k,fun _=> .inl rfl,by funext b;simp[join],trivial,x⟩
end Sl
namespace Go.Proofs.YtblljbllmnbiaaaGreatDoor
set_option maxRecDepth 10000
section
open Go Go.RowKit Sl Eg
variable {E:Env}{Es:List Ent}{pp tb s most:Nat}
def updF {α:Type}(f:Nat→α)(y:Nat)(v:α):Nat→α:=fun x=>if x=y then v else f x
theorem lH {α:Type}(f:Nat→α)(y:Nat)(v:α):updF f y v y=v:=by simp[updF]
theorem jM {α:Type}(f:Nat→α){y x:Nat}(v:α)(h:x≠y):updF f y v x=f x:=by simp[updF,h]
def jQ (K:List Nat)(P:Nat→Option Addr×Nat)(X:Nat→List (Nat×Nat)):Int→Option Value:=fun k=>if 0≤k∧k.toNat∈K then some (.slice (P k.toNat).1 (X k.toNat).length (P k.toNat).2)else none
theorem zX {K:List Nat}{P:Nat→Option Addr×Nat}{X:Nat→List (Nat×Nat)}{y:Nat}(h:y∈K):jQ K P X ((y:Nat):Int)=some (.slice (P y).1 (X y).length (P y).2):=by
 unfold jQ
 rw[if_pos ⟨oO,by simpa using h⟩]
 simp
theorem qJg {K:List Nat}{P:Nat→Option Addr×Nat}{X:Nat→List (Nat×Nat)}{y:Nat}(h:y∉K):jQ K P X ((y:Nat):Int)=none:=by
 unfold jQ
 rw[if_neg (fun hh=>h (by simpa using hh.2))]
theorem qUo (P:Nat→Option Addr×Nat)(X:Nat→List (Nat×Nat)):jQ [] P X=fun _=>none:=by
 funext k
 unfold jQ
 rw[if_neg (fun hh=>by simp at hh)]
theorem qJh {K K':List Nat}{P:Nat→Option Addr×Nat}{X:Nat→List (Nat×Nat)}{y:Nat}(p:Option Addr)(c:Nat)(l:List (Nat×Nat))(hK:∀x,x∈K'↔x=y∨x∈K):setF (jQ K P X) ((y:Nat):Int) (.slice p l.length c)=jQ K' (updF P y (p,c)) (updF X y l):=by
 funext k
 unfold setF
 by_cases hk:k=((y:Nat):Int)
 ·subst hk
  rw[if_pos rfl,zX ((hK y).2 (.inl rfl)),lH,lH]
 rw[if_neg hk]
 unfold jQ
 by_cases h0:0≤k
 ·have hne:k.toNat≠y:=oO
  have e:(0≤k∧k.toNat∈K)↔(0≤k∧k.toNat∈K'):=by rw[hK];simp[hne]
  by_cases h1:0≤k∧k.toNat∈K
  ·rw[if_pos h1,if_pos (e.1 h1),jM _ _ hne,jM _ _ hne]
  rw[if_neg h1,if_neg (fun h=>h1 (e.2 h))]
 rw[if_neg (fun h=>h0 h.1),if_neg (fun h=>h0 h.1)]
theorem qUn {K:List Nat}{P:Nat→Option Addr×Nat}{X X':Nat→List (Nat×Nat)}(h:∀y∈K,(X y).length=(X' y).length):jQ K P X=jQ K P X':=by
 funext k
 unfold jQ
 by_cases h1:0≤k∧k.toNat∈K
 ·rw[if_pos h1,if_pos h1,h _ h1.2]
 rw[if_neg h1,if_neg h1]
abbrev slP (P:Option Addr×Nat)(l:List (Nat×Nat)):HP:=sl P.1 P.2 143 2 l.length (pwC l)
def bag (K:List Nat)(P:Nat→Option Addr×Nat)(X:Nat→List (Nat×Nat)):HP:=dQ (K.map fun y=>slP (P y) (X y))
theorem bag_out {K:List Nat}{P:Nat→Option Addr×Nat}{X:Nat→List (Nat×Nat)}{y:Nat}{H:List HP}(h:y∈K):∀k,dQ (bag K P X::H) k→dQ (slP (P y) (X y)::bag (K.erase y) P X::H) k:=fun k x=>by
 have h1:dQ (K.map (fun y=>slP (P y) (X y))++H) k:=gN (fun _ y=>y) x
 have h2:=qEv (((List.perm_cons_erase h).map fun y=>slP (P y) (X y)).append_right H) k h1
 exact dX (fun k' y=>fT (fun _ z=>z) y) h2
theorem qNd {K:List Nat}{P P':Nat→Option Addr×Nat}{X X':Nat→List (Nat×Nat)}(h:∀y∈K,P y=P' y∧X y=X' y):bag K P X=bag K P' X':=by
 unfold bag
 congr 1
 exact List.map_congr_left fun y hy=>by rw[(h y hy).1,(h y hy).2]
theorem qRx {K:List Nat}{P:Nat→Option Addr×Nat}{X:Nat→List (Nat×Nat)}{y:Nat}{H:List HP}(hn:K.Nodup)(h:y∈K)(p:Option Addr)(c:Nat)(l:List (Nat×Nat)):∀k,dQ (slP (p,c) l::bag (K.erase y) P X::H) k→dQ (bag K (updF P y (p,c)) (updF X y l)::H) k:=fun k x=>by
 have e:bag (K.erase y) P X=bag (K.erase y) (updF P y (p,c)) (updF X y l):=qNd fun z hz=>by
  have hne:z≠y:=fun e=>by subst e;exact(List.Nodup.not_mem_erase hn) hz
  rw[jM _ _ hne,jM _ _ hne]
  exact⟨O,O⟩
 rw[e]at x
 have h1:dQ (slP (p,c) l::((K.erase y).map (fun z=>slP (updF P y (p,c) z) (updF X y l z))++H)) k:=dX (fun k' z=>gN (fun _ y=>y) z) x
 have h2:=qEv ((((List.perm_cons_erase h).map fun z=>slP (updF P y (p,c) z) (updF X y l z)).symm).append_right H) k (by
  rw[List.map_cons,lH,lH]
  exact h1)
 exact fT (fun _ z=>z) h2
theorem bag_new {K:List Nat}{P:Nat→Option Addr×Nat}{X:Nat→List (Nat×Nat)}{y:Nat}{H:List HP}(h:y∉K)(p:Option Addr)(c:Nat)(l:List (Nat×Nat)):∀k,dQ (slP (p,c) l::bag K P X::H) k→dQ (bag (y::K) (updF P y (p,c)) (updF X y l)::H) k:=fun k x=>by
 have e:bag K P X=bag K (updF P y (p,c)) (updF X y l):=qNd fun z hz=>by
  have hne:z≠y:=fun e=>by subst e;exact h hz
  rw[jM _ _ hne,jM _ _ hne]
  exact⟨O,O⟩
 rw[e]at x
 have h1:dQ (slP (p,c) l::(K.map (fun z=>slP (updF P y (p,c) z) (updF X y l z))++H)) k:=dX (fun k' z=>gN (fun _ y=>y) z) x
 unfold bag
 rw[List.map_cons,lH,lH]
 exact fT (ps:=slP (p,c) l::K.map (fun z=>slP (updF P y (p,c) z) (updF X y l z))) (fun _ z=>z) h1
theorem bag_nil {P:Nat→Option Addr×Nat}{X:Nat→List (Nat×Nat)}{H:List HP}:∀k,dQ H k→dQ (bag [] P X::H) k:=qKf
theorem qRj (a b:List (Nat×Nat)):pwC (a++b)=pwC a++pwC b:=by simp[pwC]
structure Ix1 (L:List Rl)(f:Nat→Option Nat)(done:Int→Bool)(D K:List Nat)(P:Nat→Option Addr×Nat)(X:Nat→List (Nat×Nat)):Prop where
 dn:∀n:Nat,done ((n:Nat):Int)=decide (n∈D)
 nd:D.Nodup
 fD:∀n∈D,f n≠none
 kn:K.Nodup
 km:∀y,y∈K↔qY L f D y≠[]
 xe:∀y∈K,X y=qY L f D y
theorem Ix1.start {L:List Rl}{f:Nat→Option Nat}{P:Nat→Option Addr×Nat}{X:Nat→List (Nat×Nat)}:Ix1 L f (fun _=>false) [] [] P X:=
 ⟨fun n=>by simp,.nil,fun n h=>by simp at h,.nil,fun y=>by simp[qY],fun y h=>by simp at h⟩
theorem Ix1.skip {L:List Rl}{f:Nat→Option Nat}{done:Int→Bool}{D K:List Nat}{P:Nat→Option Addr×Nat}{X:Nat→List (Nat×Nat)}(h:Ix1 L f done D K P X){n:Nat}(hn:n∉D)(hf:f n≠none)(he:∀y,entP L f y n=none):Ix1 L f (fun x=>x==((n:Nat):Int)||done x) (D++[n]) K P X:=by
 have e:∀y,qY L f (D++[n]) y=qY L f D y:=fun y=>by rw[xX,he y];simp
 refine⟨fun m=>?_,?_,fun m hm=>?_,h.kn,fun y=>by rw[e];exact h.km y,fun y hy=>by rw[e];exact h.xe y hy⟩
 ·simp only[h.dn m]
  by_cases hm:m=n
  ·subst hm;simp
  have:¬((m:Nat):Int)=((n:Nat):Int):=oO
  simp[hm,this]
 ·rw[List.nodup_append];exact⟨h.nd,by simp,fun u hu b hb=>by simp at hb;subst hb;exact fun e=>hn (e▸hu)⟩
 rcases List.mem_append.1 hm with hm|hm
 ·exact h.fD m hm
 simp at hm;subst hm;exact hf
theorem Ix1.add {L:List Rl}{f:Nat→Option Nat}{done:Int→Bool}{D K:List Nat}{P:Nat→Option Addr×Nat}{X:Nat→List (Nat×Nat)}(h:Ix1 L f done D K P X){n y t a:Nat}(hn:n∉D)(hf:f n≠none)(hr:L[n-1]?=some (.power y t))(ha:f n=some a){K':List Nat}(hK:K'=if y∈K then K else y::K)(p:Option Addr)(c:Nat):Ix1 L f (fun x=>x==((n:Nat):Int)||done x) (D++[n]) K' (updF P y (p,c)) (updF X y (qY L f D y++[(t,a)])):=by
 have he:entP L f y n=some (t,a):=by unfold entP;rw[hr,ha];simp
 have ho:∀z,z≠y→entP L f z n=none:=fun z hz=>by unfold entP;rw[hr,ha];simp[Ne.symm hz]
 have e1:qY L f (D++[n]) y=qY L f D y++[(t,a)]:=by rw[xX,he];rfl
 have e2:∀z,z≠y→qY L f (D++[n]) z=qY L f D z:=fun z hz=>by rw[xX,ho z hz];simp
 have hmem:∀x,x∈K'↔x=y∨x∈K:=fun x=>by
  rw[hK]
  split
  ·rename_i hy
   exact⟨.inr,fun h=>by rcases h with rfl|h;exact hy;exact h⟩
  exact List.mem_cons
 refine⟨fun m=>?_,?_,fun m hm=>?_,?_,fun z=>?_,fun z hz=>?_⟩
 ·simp only[h.dn m]
  by_cases hm:m=n
  ·subst hm;simp
  have:¬((m:Nat):Int)=((n:Nat):Int):=oO
  simp[hm,this]
 ·rw[List.nodup_append];exact⟨h.nd,by simp,fun u hu b hb=>by simp at hb;subst hb;exact fun e=>hn (e▸hu)⟩
 ·rcases List.mem_append.1 hm with hm|hm
  ·exact h.fD m hm
  simp at hm;subst hm;exact hf
 ·rw[hK]
  split
  ·exact h.kn
  rename_i hy;exact List.nodup_cons.2 ⟨hy,h.kn⟩
 ·rw[hmem]
  by_cases hz:z=y
  ·subst hz;rw[e1];simp
  rw[e2 z hz,←h.km z];simp[hz]
 by_cases hzy:z=y
 ·subst hzy;rw[lH,e1]
 rw[jM _ _ hzy,e2 z hzy]
 exact h.xe z (by rcases(hmem z).1 hz with e|e;exact absurd e hzy;exact e)
theorem Ix1.all {L:List Rl}{f:Nat→Option Nat}{done:Int→Bool}{D K:List Nat}{P:Nat→Option Addr×Nat}{X:Nat→List (Nat×Nat)}(h:Ix1 L f done D K P X)(hz:f 0=none)(hall:∀n,f n≠none→n∈D):(∀y∈K,X y≠[]∧∀p,p∈X y↔∃i,entP L f y (i+1)=some p)∧∀y,y∉K→∀i,entP L f y (i+1)=none:=by
 have mem:∀y p,p∈qY L f D y↔∃i,entP L f y (i+1)=some p:=fun y p=>by
  unfold qY
  rw[List.mem_filterMap]
  constructor
  ·rintro⟨n,hn,he⟩
   have h0:n≠0:=fun e=>by subst e;exact h.fD 0 hn hz
   exact⟨n-1,by rw[Nat.sub_add_cancel oO];exact he⟩
  rintro⟨i,he⟩
  refine⟨i+1,hall _ fun e=>?_,he⟩
  unfold entP at he
  rw[e]at he
  split at he
  ·rename_i h2;cases h2
  cases he
 refine⟨fun y hy=>⟨by rw[h.xe y hy];exact(h.km y).1 hy,fun p=>by rw[h.xe y hy];exact mem y p⟩,fun y hy i=>?_⟩
 cases e:entP L f y (i+1)with
 |none=>rfl
 |some p=>
  have:=(mem y p).2 ⟨i,e⟩
  exact absurd ((h.km y).2 (List.ne_nil_of_mem this)) hy
theorem qIs {L:List Rl}{f:Nat→Option Nat}{D:List Nat}{y:Nat}:(qY L f D y).length≤D.length:=List.length_filterMap_le _ _
end
section
open Go Go.RowKit Sl Eg
variable {E:Env}{Es:List Ent}{pp tb s most:Nat}
theorem qUm {f:Nat→Option Nat}{k:Int}{v:Value}(h:mapN f k=some v):∃n a:Nat,k=((n:Nat):Int)∧v= .int .i64 (a:Nat)∧f n=some a:=by
 unfold mapN at h
 split at h
 ·rename_i h0
  cases e:f k.toNat with
  |none=>rw[e]at h;cases h
  |some a=>rw[e]at h;exact⟨k.toNat,a,oO,by simpa using h.symm,e⟩
 cases h
theorem qRf {K:List Nat}{P:Nat→Option Addr×Nat}{X:Nat→List (Nat×Nat)}{k:Int}{v:Value}(h:jQ K P X k=some v):∃y:Nat,k=((y:Nat):Int)∧y∈K∧v= .slice (P y).1 (X y).length (P y).2:=by
 unfold jQ at h
 split at h
 ·rename_i h0
  exact⟨k.toNat,oO,h0.2,by simpa using h.symm⟩
 cases h
section
variable {c:Code}{Q:Exit→Act→World→Prop}{n:Nat}{L:Fr}{H H':List HP}
theorem qCt {K:List Nat}{P:Nat→Option Addr×Nat}{X:Nat→List (Nat×Nat)}{y:Nat}(hy:y∈K)(ht:Take (bag K P X) H H')(h:WP E c Q n L (sl (P y).1 (P y).2 143 2 (X y).length (pwC (X y))::bag (K.erase y) P X::H')):WP E c Q n L H:=
 jT (fun k x=>bag_out hy k (ht.out x)) h
end
theorem a_rng {e:Exit}{Q:Exit→Act→World→Prop}{n:Nat}{L:Fr}{H H':List HP}{r b:Nat}{ki:IntKind}{f:Int→Option Value}{done:Int→Bool}(ht:Take (rngF r b ki f done) H H')(h:AT E Q e n L (mapF b ki f::H')):AT E Q e n L H:=
 qMt (fun k x=>fQ (fun _ y=>rng_map y) (ht.out x)) h
structure N1 where
 done:Int→Bool
 D:List Nat
 K:List Nat
 P:Nat→Option Addr×Nat
 X:Nat→List (Nat×Nat)
structure N2 where
 done:Int→Bool
 D:List Nat
 X:Nat→List (Nat×Nat)
structure Ix2 (L:List Rl)(f:Nat→Option Nat)(K:List Nat)(X0:Nat→List (Nat×Nat))(done:Int→Bool)(D:List Nat)(X:Nat→List (Nat×Nat)):Prop where
 dn:∀n:Nat,n∈K→done ((n:Nat):Int)=decide (n∈D)
 nd:D.Nodup
 DK:∀n∈D,n∈K
 ln:∀y∈K,(X y).length=(X0 y).length
 new:∀y∈K,y∉D→X y=X0 y
 old:∀y∈D,∃Q,X y=sfx Q∧PwOk L f y Q
theorem qMs {α:Type}(f:Nat→α)(y:Nat){v:α}(h:f y=v):updF f y v=f:=by
 funext x
 unfold updF
 split
 ·rename_i e;subst e;exact h.symm
 rfl
theorem Ix2.start {L:List Rl}{f:Nat→Option Nat}{K:List Nat}{X:Nat→List (Nat×Nat)}:Ix2 L f K X (fun _=>false) [] X:=
 ⟨fun n _=>by simp,.nil,fun n h=>by simp at h,fun _ _=>rfl,fun _ _ _=>rfl,fun y h=>by simp at h⟩
theorem Ix2.add {L:List Rl}{f:Nat→Option Nat}{K:List Nat}{X0 X:Nat→List (Nat×Nat)}{done:Int→Bool}{D:List Nat}(h:Ix2 L f K X0 done D X){y:Nat}(hy:y∈K)(hD:y∉D){Q:List (Nat×Nat)}(hl:Q.length=(X0 y).length)(hQ:PwOk L f y Q):Ix2 L f K X0 (fun x=>x==((y:Nat):Int)||done x) (D++[y]) (updF X y (sfx Q)):=by
 refine⟨fun m hm=>?_,?_,fun m hm=>?_,fun z hz=>?_,fun z hz hzD=>?_,fun z hz=>?_⟩
 ·simp only[h.dn m hm]
  by_cases e:m=y
  ·subst e;simp
  have:¬((m:Nat):Int)=((y:Nat):Int):=oO
  simp[e,this]
 ·rw[List.nodup_append];exact⟨h.nd,by simp,fun u hu b hb=>by simp at hb;subst hb;exact fun e=>hD (e▸hu)⟩
 ·rcases List.mem_append.1 hm with hm|hm
  ·exact h.DK m hm
  simp at hm;subst hm;exact hy
 ·by_cases e:z=y
  ·subst e;rw[lH,mY,hl]
  rw[jM _ _ e];exact h.ln z hz
 ·have e:z≠y:=fun e=>hzD (by rw[e];simp)
  rw[jM _ _ e]
  exact h.new z hz fun hh=>hzD (by simp[hh])
 by_cases e:z=y
 ·subst e;exact⟨Q,lH _ _ _,hQ⟩
 rw[jM _ _ e]
 refine h.old z ?_
 rcases List.mem_append.1 hz with hz|hz
 ·exact hz
 simp at hz;exact absurd hz e
theorem last_sfx (Q:List (Nat×Nat))(h:Q≠[]):Q.take (Q.length-1)++sfx (Q.drop (Q.length-1))=Q:=by
 have hp:=List.length_pos_iff.2 h
 have e:Q.drop (Q.length-1)=[Q[Q.length-1]'oO]:=by
  rw[List.drop_eq_getElem_cons oO]
  congr 1
  exact List.drop_of_length_le oO
 rw[e,qVt,←e,List.take_append_drop]
structure IxOk (L:List Rl)(f:Nat→Option Nat)(K:List Nat)(X:Nat→List (Nat×Nat)):Prop where
 kn:K.Nodup
 inn:∀y∈K,X y≠[]∧(X y).length≤65536∧∃Q,X y=sfx Q∧PwOk L f y Q
 out:∀y,y∉K→∀i,entP L f y (i+1)=none
theorem qOk {l:List (Nat×Nat)}{i:Nat}{p:Nat×Nat}(h:l[i]?=some p)(o:Nat)(ho:o=0+i*2):(pwC l)[o]?=some (.int .i64 (p.1:Nat))∧(pwC l)[o+1]?=some (.int .i64 (p.2:Nat)):=by
 subst ho
 induction l generalizing i with
 |nil=>simp at h
 |cons q l ih=>
  cases i with
  |zero=>simp at h;subst h;exact⟨rfl,rfl⟩
  |succ i=>
   rw[List.getElem?_cons_succ]at h
   have:=ih h
   rw[show 0+(i+1)*2=(0+i*2)+1+1 by omega]
   exact this
theorem pwC_set2 {l:List (Nat×Nat)}{i b:Nat}{p:Nat×Nat}(h:l[i]?=some p)(o:Nat)(ho:o=0+i*2+1):bX (pwC l) o [.int .i64 (b:Nat)]=pwC (l.set i (p.1,b)):=by
 subst ho
 induction l generalizing i with
 |nil=>simp at h
 |cons q l ih=>
  cases i with
  |zero=>simp at h;subst h;rfl
  |succ i=>
   rw[List.getElem?_cons_succ]at h
   have:=ih h
   rw[show 0+(i+1)*2+1=(0+i*2+1)+1+1 by omega,List.set_cons_succ]
   unfold pwC at this ⊢
   rw[List.flatMap_cons,List.flatMap_cons,←this]
   rfl
theorem qLh (hE:Seat E){base:Nat}(h2:base≤Es.length)(hn:Es.length<65536):Ct E 34 [uPt s,.int .i64 (base:Nat)] [bR s most Es]
  (fun v Q=>∃bx bm bp K P X,v= .tuple #[uPt bx,.nilIface]∧IxOk (rls Es) (gW (rls Es) base) K X∧Q=[bR s most Es,cells bx [uPt s,.map (some bm),.map (some bp)] 140,mapF bm .i64 (mapN (gW (rls Es) base)),mapF bp .i64 (jQ K P X),bag K P X]):=by
 have hm1:E.P.underlying 135=some (.map 24 3):=by rw[hE.P];kernel_rfl
 have hm2:E.P.underlying 138=some (.map 24 141):=by rw[hE.P];kernel_rfl
 refine eO (p:=bR s most Es) uK (fun _ h=>dO h) (fun hsay=>?_)
 have hw:=hsay.1
 have hLl:=bQ Es
 have hdom:=qEc hw (base:=base) oO
 have hz:=dom_zero hdom
 have hfin:=qBg hw base
 have hbase:=hw.short base
 have hmx:dB=1152921504606846976:=rfl
 have hocc:Ct E 64 [uPt s,.int .i64 (base:Nat)] [bR s most Es] (fun v Q=>∃bm,v= .tuple #[.map (some bm),.nilIface]∧Q=[bR s most Es,mapF bm .i64 (mapN (gW (rls Es) base))]):=by
  rcases Nat.eq_zero_or_pos base with rfl|h1
  ·exact ct_occ0 hE hn
  exact ct_occ1 hE h1 h2 hn
 obtain⟨f,hf⟩:∃f,f=gW (rls Es) base:=⟨_,rfl⟩
 rw[←hf]at hdom hz hfin hocc ⊢
 have hD:∀D:List Nat,D.Nodup→(∀n∈D,f n≠none)→D.length≤Es.length:=fun D hd hfd=>by
  have:=tC (A:=0::D) (B:=List.range (Es.length+1)) (List.nodup_cons.2 ⟨fun h=>hfd 0 h hz,hd⟩) (fun x hx=>List.mem_range.2 (by
   rcases List.mem_cons.1 hx with rfl|hx
   ·omega
   have:=(hdom x (hfd x hx)).pos;omega))
  simp at this
  omega
 refine bO (hE.fn Tryz.func34) O O O (fun R=>?_)
 simp only[dR,uV,uW]
 refine gg10 ?_
 refine uX (hocc) O ?_
 rintro _ _⟨bm,rfl,rfl⟩
 simp only[uV,uW]
 refine gg21 ?_
 refine uU ?_
 refine rJ .i64 (fun b27=>?_)
 refine gg1 ?_
 refine uU ?_
 refine iQ O (fun b29=>?_)
 refine gg7 ?_
 refine uU ?_
 apply qOe hm1 O uK
 intro br
 refine gg3 ?_
 refine jT (cO uI (bag_nil (P:=fun _=>(none,0)) (X:=fun _=>[]) (H:=[rngF br bm .i64 (mapN f) (fun _=>false),cells b29 [uPt s,.map (some bm),.map (some b27)] 140,mapF b27 .i64 (fun _=>none),bR s most Es,R]))) ?_
 refine dV (fun x:N1=>[(0,uPt s),(8,uPt b29),(31,uPt br)]) (fun x=>[bag x.K x.P x.X,rngF br bm .i64 (mapN f) x.done,cells b29 [uPt s,.map (some bm),.map (some b27)] 140,mapF b27 .i64 (jQ x.K x.P x.X),bR s most Es,R]) (fun x=>Es.length+1-x.D.length) (fun x=>Ix1 (rls Es) f x.done x.D x.K x.P x.X) ⟨fun _=>false,[],[],fun _=>(none,0),fun _=>[]⟩ Ix1.start ⟨O,O,O,trivial⟩ (by rw[qUo];(apply ent;(repeat constructor);done)) ?_
 rintro⟨done,D,K,P,X⟩hI
 simp only at hI ⊢
 have hDl:=hD D hI.nd hI.fD
 refine gg2 ?_
 refine uU ?_
 apply qUk O uK
 ·intro hall
  refine gg17 ?_
  obtain⟨hk1,hk2⟩:=hI.all hz fun n hfn=>by
   cases e:f n with
   |none=>exact absurd e hfn
   |some a=>
    have:=hall ((n:Nat):Int) _ (by rw[zW,e];rfl)
    rw[hI.dn n]at this
    simpa using this
  have hXl:∀y∈K,(X y).length≤Es.length:=fun y hy=>by rw[hI.xe y hy];exact Nat.le_trans qIs hDl
  have hXb:∀y∈K,∀p∈X y,p.2<4611686018427387904:=fun y hy p hp=>by
   obtain⟨i,hi⟩:=((hk1 y hy).2 p).1 hp
   unfold entP at hi
   split at hi
   ·rename_i y' t' a' g1 g2
    split at hi
    ·cases hi
     have:=hfin _ _ g2
     simp only
     omega
    cases hi
   cases hi
  refine uU ?_
  apply qOe hm2 O uK
  intro br2
  refine gg3 ?_
  refine dV (fun x:N2=>[(8,uPt b29),(72,uPt br2)]) (fun x=>[bag K P x.X,rngF br2 b27 .i64 (jQ K P X) x.done,rngF br bm .i64 (mapN f) done,cells b29 [uPt s,.map (some bm),.map (some b27)] 140,bR s most Es,R]) (fun x=>K.length+1-x.D.length) (fun x=>Ix2 (rls Es) f K X x.done x.D x.X) ⟨fun _=>false,[],X⟩ Ix2.start ⟨O,O,trivial⟩ uI ?_
  rintro⟨done2,D2,X2⟩hJ
  simp only at hJ ⊢
  have hD2:=tC hJ.nd hJ.DK
  refine gg2 ?_
  refine uU ?_
  apply qUk O uK
  ·intro hall2
   refine gg18 ?_
   have hin:∀y∈K,y∈D2:=fun y hy=>by
    have:=hall2 ((y:Nat):Int) _ (zX hy)
    rw[hJ.dn y hy]at this
    simpa using this
   apply a_rng
   ·exact uK
   apply a_rng
   ·exact uK
   rw[qUn fun y hy=>(hJ.ln y hy).symm]
   apply cB
   ·rfl
   ·(apply Rs.tmp rfl;apply Rs.tmp rfl;exact Rs.nil)
   ·refine⟨b29,bm,b27,K,P,X2,O,⟨hI.kn,fun y hy=>⟨?_,?_,hJ.old y (hin y hy)⟩,hk2⟩,O⟩
    ·intro e
     have:=hJ.ln y hy
     rw[e]at this
     exact(hk1 y hy).1 (List.eq_nil_of_length_eq_zero this.symm)
    have:=hJ.ln y hy
    have:=hXl y hy
    omega
   exact uI
  intro k v hk hd
  obtain⟨y,rfl,hyK,rfl⟩:=qRf hk
  rw[hJ.dn y hyK]at hd
  have hyD:y∉D2:=by simpa using hd
  have hnew:=hJ.new y hyK hyD
  have hpos:0<(X y).length:=List.length_pos_iff.2 (hk1 y hyK).1
  have hXy:=hXl y hyK
  have hXby:=hXb y hyK
  refine gg10 ?_
  refine uB (qWx O uK) ?_
  refine tX (fun _ h=>fQ (fun _ x=>rngE_F x) h) ?_
  refine gg4 ?_
  apply qCt hyK
  ·exact uK
  rw[hnew]
  refine jY (p:=sl (P y).1 (P y).2 143 2 (X y).length (pwC (X y))) uK (fun _ h=>fA h hpos) ?_
  rintro⟨g,hg⟩
  rw[hg]
  refine gg3 ?_
  refine uX (qSy (l:=X y) (c:=(P y).2) hE oO hXby) O ?_
  rintro _ _⟨Q,rfl,hQl,hQp,hQs,rfl⟩
  have hQ:PwOk (rls Es) f y Q:=⟨hQs,fun p=>(hQp.mem_iff).trans ((hk1 y hyK).2 p)⟩
  have hQne:Q≠[]:=fun e=>by rw[e]at hQl;simp at hQl;omega
  simp only[uV,uW]
  refine gg11 ?_
  refine dV (fun j:Nat=>[(8,uPt b29),(72,uPt br2),(14,.slice (some ⟨g,0,none⟩) (X y).length (P y).2),(15,.int .i64 ((j:Nat)-1:Int))]) (fun j=>[sl (some ⟨g,0,none⟩) (P y).2 143 2 (X y).length (pwC (Q.take j++sfx (Q.drop j))),bag (K.erase y) P X2,rngF br2 b27 .i64 (jQ K P X) (fun x=>x==((y:Nat):Int)||done2 x),rngF br bm .i64 (mapN f) done,cells b29 [uPt s,.map (some bm),.map (some b27)] 140,bR s most Es,R]) (fun j=>j) (fun j=>j<Q.length) (Q.length-1) oO ⟨rfl,rfl,rfl,congrArg some (bW oO),trivial⟩ ?_ ?_
  ·rw[last_sfx Q hQne]
   exact uI
  intro j hj
  refine gg7 ?_
  refine bE O (fun h1=>?_) (fun h1=>?_)
  ·obtain⟨i,rfl⟩:∃i,j=i+1:=⟨j-1,oO⟩
   obtain⟨x,hx⟩:∃x,Q[i]?=some x:=⟨_,List.getElem?_eq_getElem oO⟩
   obtain⟨C,hC⟩:∃C,C=Q.take (i+1)++sfx (Q.drop (i+1)):=⟨_,rfl⟩
   have hCl:C.length=Q.length:=by rw[hC,List.length_append,mY,List.length_take,List.length_drop];omega
   have hCi:C[i]?=some x:=by rw[hC,List.getElem?_append_left (by simp;omega),List.getElem?_take,if_pos oO];exact hx
   obtain⟨z,hz2⟩:∃z,C[i+1]?=some z:=⟨_,List.getElem?_eq_getElem oO⟩
   have hstep:=sfx_step hx (y:=z) (by rw[←hC];exact hz2)
   rw[←hC]at hstep
   obtain⟨f0,f0'⟩:=qOk hCi (0+(((i+1:Nat):Int)-1).toNat*2) oO
   obtain⟨f1,f1'⟩:=qOk hz2 (0+(((i+1:Nat):Int)-1+1).toNat*2) oO
   rw[←hC]
   refine gg19 ?_
   refine l_eq 99 (.int .i64 ((min x.2 z.2:Nat):Int)) O (bW oO) ?_
   refine gg11 ?_
   simp only[bP]
   rw[pwC_set2 (i:=i) hCi]
   case ho=>omega
   rw[hstep]
   refine bS (ι:=Nat) (j:=i) oO oO ⟨O,O,O,congrArg some (bW oO),trivial⟩ uI
  obtain rfl:j=0:=by omega
  rw[List.take_zero,List.drop_zero,List.nil_append]
  refine gg5 ?_
  refine bS (ι:=N2) (j:=⟨_,D2++[y],updF X2 y (sfx Q)⟩) (hJ.add hyK hyD hQl hQ) (by simp only[List.length_append,List.length_singleton];omega) ⟨O,O,trivial⟩ ?_
  have hlen:(X y).length=(sfx Q).length:=by rw[mY,hQl]
  have hP:updF P y (some ⟨g,0,none⟩,(P y).2)=P:=qMs P y (by rw[←hg])
  refine cO (m:=[sl (some ⟨g,0,none⟩) (P y).2 143 2 (X y).length (pwC (sfx Q)),bag (K.erase y) P X2,rngF br2 b27 .i64 (jQ K P X) (fun x=>x==((y:Nat):Int)||done2 x),rngF br bm .i64 (mapN f) done,cells b29 [uPt s,.map (some bm),.map (some b27)] 140,bR s most Es,R]) uI (fun k h=>?_)
  rw[hlen]at h
  have:=qRx hI.kn hyK (some ⟨g,0,none⟩) (P y).2 (sfx Q) k h
  rw[hP]at this
  exact this
 intro k v hk hd
 obtain⟨n,a,rfl,rfl,hfa⟩:=qUm hk
 rw[hI.dn n]at hd
 have hnD:n∉D:=by simpa using hd
 have hn1:n≠0:=fun e=>by subst e;rw[hz]at hfa;cases hfa
 obtain⟨m,rfl⟩:∃m,n=m+1:=⟨n-1,oO⟩
 have hrea:=(hdom (m+1) (by rw[hfa];simp)).pos
 obtain⟨y,hy⟩:∃y,Es[m]?=some y:=⟨_,List.getElem?_eq_getElem oO⟩
 have hyr:(rls Es)[m]?=some y.r:=vM hy
 have hal:=hfin _ _ hfa
 refine gg10 ?_
 refine uB (qWx O uK) ?_
 refine tX (fun _ h=>fQ (fun _ x=>rngE_F x) h) ?_
 refine gg10 ?_
 refine uX (qB hE hy) O ?_
 rintro _ _⟨rfl,rfl⟩
 simp only[uV,uW]
 refine gg3 ?_
 refine uU (cZ (hE.t O) (fun b11=>?_))
 refine gg21 ?_
 generalize y.r=r at hyr ⊢
 cases r with
 |letter b=>
  refine bE O (fun e1=>?_) (fun e1=>?_)
  ·exfalso;simp[Rl.kind]at e1
  refine gg2 ?_
  refine bS (ι:=N1) (j:=⟨_,D++[m+1],K,P,X⟩) (hI.skip hnD (by rw[hfa];simp) fun z=>by unfold entP;rw[Nat.add_sub_cancel,hyr]) (by simp only[List.length_append,List.length_singleton];omega) ⟨rfl,rfl,rfl,trivial⟩ uI
 |pair z q=>
  refine bE O (fun e1=>?_) (fun e1=>?_)
  ·exfalso;simp[Rl.kind]at e1
  refine gg2 ?_
  refine bS (ι:=N1) (j:=⟨_,D++[m+1],K,P,X⟩) (hI.skip hnD (by rw[hfa];simp) fun z=>by unfold entP;rw[Nat.add_sub_cancel,hyr]) (by simp only[List.length_append,List.length_singleton];omega) ⟨rfl,rfl,rfl,trivial⟩ uI
 |power y0 t=>
  refine bE O (fun e1=>?_) (fun e1=>?_)
  ·skip
   by_cases hyK:y0∈K
   ·have hlk:=zX (P:=P) (X:=X) hyK
    have hXl:(X y0).length≤D.length:=by rw[hI.xe y0 hyK];exact qIs
    have hadd:=fun c' g'=>hI.add hnD (by rw[hfa];simp) (by rw[Nat.add_sub_cancel];exact hyr) hfa (K':=K) (by rw[if_pos hyK]) (some ⟨g',0,none⟩) c'
    rw[←hI.xe y0 hyK]at hadd
    apply qCt hyK
    ·exact uK
    refine uN 19 ([cells b29 [uPt s,.map (some bm),.map (some b27)] 140,cells b11 [.int .i64 (Rl.kind ((Rl.power y0 t)):Nat),.int .u8 (Rl.byte ((Rl.power y0 t)):Nat),.int .i64 (Rl.left ((Rl.power y0 t)):Nat),.int .i64 (Rl.right ((Rl.power y0 t)):Nat),.int .i64 (Rl.times ((Rl.power y0 t)):Nat)] 74,mapF b27 .i64 (jQ K P X)]) ?_
    refine gg12 ?_
    refine uT 12 O (sF (kt:=24) (et:=141) (z:= .slice none 0 0) (by rw[hE.P];kernel_rfl) (by rw[hE.P];kernel_rfl) (fun w=>by rw[hE.P];kernel_rfl) rfl rfl (by((repeat constructor);done)) (by assumption)) ?_
    refine gg2 ?_
    apply dF 15 O oK
    ·exact aB O
    ·rfl
    apply dF 16 O oK
    ·exact jG (hE.t O) O O
    ·rfl
    apply eQ 17 O oK O
    refine aU (hE.t O) (hE.t O) O O O (fun b66=>?_)
    refine uE ?_
    apply eQ 18 O oK O
    apply bU (hE.t O) (hE.t O) O O O
    ·exact uK
    ·exact uK
    ·rfl
    ·rfl
    ·omega
    ·omega
    ·(unfold maxLen;omega)
    intro g67 c67 n67 x67 hn67 hx67
    refine uE ?_
    apply iC O oK oK O
    apply pF (kt:=24) (et:=141) (by rw[hE.P];kernel_rfl) (by rw[hE.P];kernel_rfl) O O O
    ·exact uK
    refine gg1 ?_
    obtain rfl:n67=(X y0++[(t,a)]).length:=by simp;omega
    obtain rfl:x67=pwC (X y0++[(t,a)]):=by rw[hx67,qRj];rfl
    rw[show setF (jQ K P X) (((Rl.power y0 t).left:Nat):Int) (.slice (some ⟨g67,0,none⟩) (X y0++[(t,a)]).length c67)=_ from qJh (K':=K) (some ⟨g67,0,none⟩) c67 (X y0++[(t,a)]) (fun x=>⟨.inr,fun h=>by rcases h with rfl|h;exact hyK;exact h⟩)]
    refine bS (ι:=N1) (j:=⟨_,D++[m+1],K,updF P y0 (some ⟨g67,0,none⟩,c67),updF X y0 (X y0++[(t,a)])⟩) (hadd c67 g67) (by simp only[List.length_append,List.length_singleton];omega) ⟨O,O,O,trivial⟩ ?_
    refine cO (m:=[slP (some ⟨g67,0,none⟩,c67) (X y0++[(t,a)]),bag (K.erase y0) P X,rngF br bm .i64 (mapN f) _,cells b29 [uPt s,.map (some bm),.map (some b27)] 140,mapF b27 .i64 (jQ K (updF P y0 (some ⟨g67,0,none⟩,c67)) (updF X y0 (X y0++[(t,a)]))),bR s most Es,R]) uI (qRx hI.kn hyK _ _ _)
   have hlk:=qJg (P:=P) (X:=X) hyK
   have hadd:=fun c' g'=>hI.add hnD (by rw[hfa];simp) (by rw[Nat.add_sub_cancel];exact hyr) hfa (K':=y0::K) (by rw[if_neg hyK]) (some ⟨g',0,none⟩) c'
   have hemp:qY (rls Es) f D y0=[]:=Classical.byContradiction fun h=>hyK ((hI.km y0).2 h)
   rw[hemp]at hadd
   simp only[List.nil_append]at hadd
   refine jT (gL (t:=143) (sz:=2)) ?_
   refine uN 19 ([cells b29 [uPt s,.map (some bm),.map (some b27)] 140,cells b11 [.int .i64 (Rl.kind ((Rl.power y0 t)):Nat),.int .u8 (Rl.byte ((Rl.power y0 t)):Nat),.int .i64 (Rl.left ((Rl.power y0 t)):Nat),.int .i64 (Rl.right ((Rl.power y0 t)):Nat),.int .i64 (Rl.times ((Rl.power y0 t)):Nat)] 74,mapF b27 .i64 (jQ K P X)]) ?_
   refine gg12 ?_
   refine uT 12 O (sF (kt:=24) (et:=141) (z:= .slice none 0 0) (by rw[hE.P];kernel_rfl) (by rw[hE.P];kernel_rfl) (fun w=>by rw[hE.P];kernel_rfl) rfl rfl (by((repeat constructor);done)) (by assumption)) ?_
   refine gg2 ?_
   apply dF 15 O oK
   ·exact aB O
   ·rfl
   apply dF 16 O oK
   ·exact jG (hE.t O) O O
   ·rfl
   apply eQ 17 O oK O
   refine aU (hE.t O) (hE.t O) O O O (fun b66=>?_)
   refine uE ?_
   apply eQ 18 O oK O
   apply bU (hE.t O) (hE.t O) O O O
   ·exact uK
   ·exact uK
   ·rfl
   ·rfl
   ·omega
   ·omega
   ·(unfold maxLen;omega)
   intro g67 c67 n67 x67 hn67 hx67
   refine uE ?_
   apply iC O oK oK O
   apply pF (kt:=24) (et:=141) (by rw[hE.P];kernel_rfl) (by rw[hE.P];kernel_rfl) O O O
   ·exact uK
   refine gg1 ?_
   obtain rfl:n67=([(t,a)]).length:=by simp;omega
   obtain rfl:x67=pwC ([(t,a)]):=by rw[hx67];rfl
   rw[show setF (jQ K P X) (((Rl.power y0 t).left:Nat):Int) (.slice (some ⟨g67,0,none⟩) ([(t,a)]).length c67)=_ from qJh (K':=y0::K) (some ⟨g67,0,none⟩) c67 ([(t,a)]) (fun x=>List.mem_cons)]
   refine bS (ι:=N1) (j:=⟨_,D++[m+1],y0::K,updF P y0 (some ⟨g67,0,none⟩,c67),updF X y0 ([(t,a)])⟩) (hadd c67 g67) (by simp only[List.length_append,List.length_singleton];omega) ⟨O,O,O,trivial⟩ ?_
   refine cO (m:=[slP (some ⟨g67,0,none⟩,c67) ([(t,a)]),bag K P X,rngF br bm .i64 (mapN f) _,cells b29 [uPt s,.map (some bm),.map (some b27)] 140,mapF b27 .i64 (jQ (y0::K) (updF P y0 (some ⟨g67,0,none⟩,c67)) (updF X y0 ([(t,a)]))),bR s most Es,R]) uI (bag_new hyK _ _ _)
  exfalso;simp[Rl.kind]at e1
end
section
open Go Go.RowKit Sl Eg
theorem qJv {L:List Rl}(hw:Wf L){l:Nat}:∀x,x≤L.length→rowT L (expd L l x)=txt L x:=by
 intro x
 induction x using Nat.strongRecOn with
 |_ x ih=>
  intro hx
  rcases Nat.eq_zero_or_pos x with rfl|h1
  ·rw[wL];rfl
  obtain⟨i,rfl⟩:∃i,x=i+1:=⟨x-1,oO⟩
  by_cases h:lvl L (i+1)≤(l:Nat)
  ·rw[iO h1 h,mD]
  have hr:L[i]?=some (L[i]'oO):=List.getElem?_eq_getElem oO
  generalize L[i]'oO=r at hr
  have hk:=hw.ok i r hr
  cases r with
  |letter b=>have:=(jJ hr).2;omega
  |pair a b=>
   obtain⟨g1,g2,g3,g4⟩:=hk
   rw[iV hw hr oO,iK,ih a oO oO,ih b oO oO,mU hr ⟨g1,g2,g3,g4⟩]
  |power y k=>
   obtain⟨g1,g2,g3⟩:=hk
   rw[iY hw hr oO,kD hr ⟨g1,g2,g3⟩]
   have e:∀m,rowT L (List.replicate m (expd L l y)).flatten=(List.replicate m (txt L y)).flatten:=fun m=>by
    induction m with
    |zero=>rfl
    |succ m ihm=>rw[List.replicate_succ,List.flatten_cons,List.replicate_succ,List.flatten_cons,iK,ihm,ih y oO oO]
   exact e k
theorem lts_of {L:List Rl}(hw:Wf L):∀ids:List Nat,(∀y∈ids,1≤y∧y≤L.length∧lvl L y=0)→Lts L ids (rowT L ids):=by
 intro ids
 induction ids using vN with
 |h0=>exact fun _=> .nil
 |h1 ids y ih=>
  intro h
  obtain⟨h1,h2,h3⟩:=h y (by simp)
  obtain⟨i,rfl⟩:∃i,y=i+1:=⟨y-1,oO⟩
  obtain⟨b,hb⟩:=qOf hw (i:=i) oO h3
  rw[iK,mD,lU hb]
  exact .snoc (ih fun z hz=>h z (by simp[hz])) hb
theorem Sig.lts {L:List Rl}(hw:Wf L){x:Nat}(h:Sig L x):Lts L (expd L 0 x) (txt L x):=by
 have:=lts_of hw (expd L 0 x) fun y hy=>by
  have:=(h.inv 1 (Nat.le_refl _)).ok y hy
  exact⟨this.1,this.2.1,oO⟩
 rwa [qJv hw x h.le]at this
theorem Sig.sn {L:List Rl}(hw:Wf L){x:Nat}(h:Sig L x):Sn L (txt L x) x:=by
 refine⟨.inr ?_,O,h.le,h.lv⟩
 obtain⟨m,hm⟩:∃m:Nat,lvl L x=m:=⟨(lvl L x).toNat,by have:=h.lv;omega⟩
 have key:∀k:Nat,k≤m→Rch L (txt L x) (k+1) (expd L k x):=by
  intro k
  induction k with
  |zero=>exact fun _=> .start (h.lts hw)
  |succ k ih=>
   intro hk
   have hs:=h.step (k+1) oO
   rw[Nat.add_sub_cancel]at hs
   exact(ih oO).next ((nR hw x h.pos h.le).2 oO) (fun y hy=>((h.inv (k+1) oO).ok y hy).2.1) hs
 have:=key m (Nat.le_refl _)
 rw[iO h.pos oO]at this
 exact⟨_,this⟩
theorem Sn.sig {L:List Rl}(hw:Wf L){bs:List UInt8}{x:Nat}(h:Sn L bs x)(h0:x≠0):Sig L x:=(h.parts hw h0).1
theorem Sn.reach {L:List Rl}(hw:Wf L){bs:List UInt8}{k x:Nat}(h:Sn L bs k)(hx:Rea L k x):Sn L (txt L x) x:=by
 have hk:k≠0:=by have:=hx;intro e;subst e;cases this
 exact((h.sig hw hk).reach hw hx).sn hw
def Rw (L:List Rl)(bs:List UInt8)(lv:Nat)(row:List Nat):Prop:=Rch L bs lv row∨∃y m,row=[y]∧m≤lv∧Rch L bs m [y]
theorem Rw.ext {L:List Rl}(M:List Rl){bs:List UInt8}{lv:Nat}{row:List Nat}(h:Rw L bs lv row):Rw (L++M) bs lv row:=by
 rcases h with h|⟨y,m,h1,h2,h3⟩
 ·exact .inl (h.ext M)
 exact .inr ⟨y,m,h1,h2,h3.ext M⟩
theorem Rw.two {L:List Rl}{bs:List UInt8}{lv:Nat}{row:List Nat}(h:Rw L bs lv row)(h2:2≤row.length):Rch L bs lv row:=by
 rcases h with h|⟨y,m,rfl,_⟩
 ·exact h
 simp at h2
theorem Rw.inv {L:List Rl}(hw:Wf L){bs:List UInt8}{lv:Nat}{row:List Nat}(h:Rw L bs lv row):Inv L lv row:=by
 rcases h with h|⟨y,m,rfl,h1,h2⟩
 ·exact(h.rows hw).1
 have:=(h2.rows hw).1.ok y (by simp)
 exact .one hw this.1 this.2.1 this.2.2.1 oO
theorem Rw.ne {L:List Rl}{bs:List UInt8}{lv:Nat}{row:List Nat}(h:Rw L bs lv row)(hb:bs≠[])(ht:rowT L row=bs):row≠[]:=fun e=>by
 rw[e]at ht
 exact hb ht.symm
theorem Rw.next {L:List Rl}(hw:Wf L){bs:List UInt8}{lv:Nat}{ids out:List Nat}(h:Rw L bs lv ids)(hne:ids≠[])(hs:Sq L lv ids out):Rw L bs (lv+1) out:=by
 rcases Nat.lt_or_ge ids.length 2 with h2|h2
 ·obtain⟨y,rfl⟩:∃y,ids=[y]:=List.length_eq_one_iff.1 (by have:=List.length_pos_iff.2 hne;omega)
  obtain rfl:out=[y]:=hs.fn hw (.one L lv y)
  rcases h with h|⟨z,m,e,h1,h3⟩
  ·exact .inr ⟨y,lv,O,oO,h⟩
  cases e;exact .inr ⟨y,m,rfl,oO,h3⟩
 refine .inl ((h.two h2).next h2 (fun x hx=>((h.inv hw).ok x hx).2.1) hs)
structure SpJ (L:List Rl)(bs:List UInt8)(l a b:Nat)(A B:Sd)(M:Md):Prop where
 sa:Sig L a
 sb:Sig L b
 ea:EO L false l a A.x A.fs
 eb:EO L true l b B.x B.fs
 ch:Rw L bs (l+1) (rowS L l A B M)
 tx:rowT L (rowS L l A B M)=bs
 sng:Sng M.its
 one:(l+1)%2=0→∀it∈M.its,it.times=1
theorem SpJ.mem {L:List Rl}(hw:Wf L){bs:List UInt8}{l a b:Nat}{A B:Sd}{M:Md}(h:SpJ L bs l a b A B M):∀y∈rowS L l A B M,1≤y∧y≤L.length:=fun y hy=>by
 have:=(h.ch.inv hw).ok y hy
 exact⟨this.1,this.2.1⟩
theorem SpJ.step {L:List Rl}(N:List Rl)(hw:Wf L)(hw2:Wf (L++N)){bs:List UInt8}{l a b:Nat}{A B A' B':Sd}{M M':Md}(h:SpJ L bs l a b A B M)(hbs:bs≠[])(hr:Rdy L l a b A B M A' B' M'){M2:Md}(hs:Sq (L++N) (l+1) (dN M'.its) (dN M2.its))(hsn:Sng M2.its)(h1:(l+1+1)%2=0→∀it∈M2.its,it.times=1) (hn:N.length+(dN M2.its).length≤(dN M'.its).length):
  SpJ (L++N) bs (l+1) a b (upS (L++N) (l+1) A') (upS (L++N) (l+1) B') M2∧N.length+(rowS (L++N) (l+1) (upS (L++N) (l+1) A') (upS (L++N) (l+1) B') M2).length≤(rowS L l A B M).length:=by
 have hmem:=h.mem hw
 rw[←hr.same]at hmem
 have sa2:=h.sa.ext N hw hw2
 have sb2:=h.sb.ext N hw hw2
 have rl2:=hr.left.ext N hw hw2 h.sa (fun y hy=>(hmem y (by unfold rowS;rw[List.mem_append];exact .inr hy)).2)
 have rr2:=hr.right.ext N hw hw2 h.sb (fun y hy=>(hmem y (by unfold rowS;simp[hy])).2)
 have eA:=hr.left.eo.seq_ext N hw hw2 h.sa
 have eB:=hr.right.eo.seq_ext N hw hw2 h.sb
 have hst:=qCm hw2 sa2 sb2 (by rw[eB];exact rl2) rr2 hs
 have ua:=rl2.eo.up hw2 sa2 rl2.bb
 have ub:=rr2.eo.up hw2 sb2 rr2.bb
 have erow:seqE (L++N) false l A'.x A'.fs++(dN M'.its++seqE (L++N) true l B'.x B'.fs)=rowS L l A B M:=by rw[eA,eB];exact hr.row
 have hch:=h.ch.ext N
 have htx:rowT (L++N) (rowS L l A B M)=bs:=by rw[qGp N fun y hy=>(h.mem hw y hy).2];exact h.tx
 rw[←erow]at hch htx
 refine⟨⟨sa2,sb2,ua.1,ub.1,?_,?_,hsn,h1⟩,?_⟩
 ·exact hch.next hw2 (hch.ne hbs htx) hst
 ·rw[←htx];exact hst.text hw2
 rw[←erow]
 have la:=ua.2.le
 have lb:=ub.2.le
 unfold rowS upS
 simp only[List.length_append]
 omega
theorem SpJ.one_left {L:List Rl}(hw:Wf L){bs:List UInt8}{l a b:Nat}{A B:Sd}{M:Md}(h:SpJ L bs l a b A B M)(hA:A.x=0)(hB:B.x=0){it:It}(hM:M.its=[it])(ht:it.times=1):Sn L bs it.id∧(rowS L l A B M).length=1:=by
 have e:rowS L l A B M=[it.id]:=by
  have h1:=h.ea
  have h2:=h.eb
  rw[hA]at h1
  rw[hB]at h2
  unfold rowS
  rw[hA,hB,h1.zero,h2.zero,gM,gM,hM,iH,jW (h.sng it (by rw[hM];simp)).1,ht]
  rfl
 have hc:=h.ch
 have hi:=hc.inv hw
 have ht2:=h.tx
 rw[e]at hc hi ht2
 have:=hi.ok it.id (by simp)
 refine⟨⟨.inr ?_,by rw[←ht2,mD],this.2.1,this.2.2.1⟩,by rw[e];rfl⟩
 rcases hc with hc|⟨y,m,e2,_,hc⟩
 ·exact⟨_,hc⟩
 cases e2;exact⟨_,hc⟩
theorem SpJ.low {L:List Rl}(hw:Wf L){bs:List UInt8}{l a b:Nat}{A B:Sd}{M:Md}(h:SpJ L bs l a b A B M)(hbs:bs≠[])(hb:bs.length≤dB)(ha:bs.length≠len L a)(hb':bs.length≠len L b)(hla:lvl L a≤25544)(hlb:lvl L b≤25544)(hx:¬(A.x=0∧B.x=0∧∃it,M.its=[it]∧it.times=1)):l≤25544:=by
 rcases Nat.lt_or_ge (rowS L l A B M).length 2 with h2|h2
 ·have hne:=h.ch.ne hbs h.tx
  have h1:(rowS L l A B M).length=1:=by have:=List.length_pos_iff.2 hne;omega
  -- one end holds the symbol
  have side:∀(bh:Bool)(root:Nat)(C:Sd),Sig L root→EO L bh l root C.x C.fs→C.x≠0→rowS L l A B M=seqE L bh l C.x C.fs→bs.length≠len L root→lvl L root≤25544→l≤25544:=by
   intro bh root C sg eo hcx er hlen hlv
   obtain⟨e1,e2,e3,e4⟩:=eo.low hcx
   rcases List.eq_nil_or_concat C.fs with e|⟨gs,f,e⟩
   ·exfalso
    rw[e]at e2
    have ex:=e2.nil_inv
    have ht:=h.tx
    rw[er]at ht
    unfold seqE at ht
    rw[e,ex]at ht
    have:lF L bh l []=[]:=rfl
    rw[this,qLb,qJv hw root sg.le]at ht
    exact hlen (by rw[←ht];rfl)
   rw[List.concat_eq_append]at e
   have hf:=eo.hi f (by rw[e];simp)
   rw[e]at e2
   obtain⟨r,l1,l2,l3,_⟩:=e2.inv
   have hfr:lvl L f.id≤lvl L root:=by
    rcases List.eq_nil_or_concat gs with g|⟨gs',f',g⟩
    ·rw[g]at l1
     rw[l1.nil_inv]
     exact Int.le_refl _
    have hroot:∀(y:Nat)(hs:List Fm),Lk L bh root y hs→lvl L y≤lvl L root:=fun y hs hk=>by
     induction hk with
     |nil=>exact Int.le_refl _
     |snoc k1 k2 k3 k4 k5 k6 ih=>
      have o:=k1.ok hw sg
      exact Int.le_trans (Int.le_of_lt (vV hw k2 k3 k4 o.2.2.1).2.2.2) ih
    exact hroot _ _ l1
   omega
  have lA:A.x≠0→1≤(seqE L false l A.x A.fs).length:=fun hA=>by
   have:=h.ea.last hA
   cases e:seqE L false l A.x A.fs with
   |nil=>rw[e]at this;simp at this
   |cons c d=>simp
  have lB:B.x≠0→1≤(seqE L true l B.x B.fs).length:=fun hB=>by
   have:=h.eb.head hB
   cases e:seqE L true l B.x B.fs with
   |nil=>rw[e]at this;simp at this
   |cons c d=>simp
  have hlen:(rowS L l A B M).length=(seqE L false l A.x A.fs).length+((dN M.its).length+(seqE L true l B.x B.fs).length):=by unfold rowS;simp
  by_cases hA:A.x=0
  ·have eA:seqE L false l A.x A.fs=[]:=by
    have h1:=h.ea
    rw[hA]at h1 ⊢
    rw[h1.zero,gM]
   by_cases hB:B.x=0
   ·exfalso
    have eB:seqE L true l B.x B.fs=[]:=by
     have h1:=h.eb
     rw[hB]at h1 ⊢
     rw[h1.zero,gM]
    rw[eA,eB]at hlen
    simp only[List.length_nil]at hlen
    have hm:=mM (its:=M.its) fun it hit=>(h.sng it hit).2
    have hM:M.its≠[]:=fun e=>by rw[e,qIu,List.length_nil]at hlen;omega
    have hM1:=List.length_pos_iff.2 hM
    obtain⟨it,e⟩:=List.length_eq_one_iff.1 (show M.its.length=1 by omega)
    have h3:=h.sng it (by rw[e];simp)
    refine hx ⟨hA,hB,it,e,?_⟩
    rw[e,iH,jW h3.1,List.length_replicate]at hlen
    omega
   have h3:=lB hB
   rw[eA]at hlen
   simp only[List.length_nil]at hlen
   have eM:dN M.its=[]:=List.eq_nil_of_length_eq_zero oO
   exact side true b B h.sb h.eb hB (by unfold rowS;rw[eA,eM];rfl) hb' hlb
  have h3:=lA hA
  have eM:dN M.its=[]:=List.eq_nil_of_length_eq_zero oO
  have eB:seqE L true l B.x B.fs=[]:=List.eq_nil_of_length_eq_zero oO
  exact side false a A h.sa h.ea hA (by unfold rowS;rw[eM,eB];simp) ha hla
 have:=(h.ch.two h2).lv_le hw hb h2
 omega
def endL (bh:Bool)(l:List Nat)(n:Nat):List Nat:=if bh then l.drop (l.length-n)else l.take n
theorem endL_all (bh:Bool)(l:List Nat):endL bh l l.length=l:=by cases bh<;>simp[endL]
theorem endL_in (bh:Bool)(u v:List Nat){n:Nat}(h:n≤v.length):endL bh (cat bh u v) n=endL bh v n:=by
 cases bh
 ·simp only[endL,cat,Bool.false_eq_true,if_false]
  rw[List.take_append_of_le_length h]
 simp only[endL,cat,if_true,List.length_append]
 rw[List.drop_append,List.drop_eq_nil_of_le oO,List.nil_append]
 congr 1
 omega
theorem SpJ.start {L:List Rl}(hw:Wf L){ta tb:List UInt8}{a b:Nat}{A B:Sd}(p:Option Addr)(c:Nat)(sa:Sig L a)(sb:Sig L b)(ea:EO L false 0 a A.x A.fs)(eb:EO L true 0 b B.x B.fs)(la:Lts L (seqE L false 0 A.x A.fs) ta)(lb:Lts L (seqE L true 0 B.x B.fs) tb):
  SpJ L (ta++tb) 0 a b A B ⟨[],p,c⟩∧(rowS L 0 A B ⟨[],p,c⟩).length=ta.length+tb.length:=by
 have hL:=la.append lb
 have er:rowS L 0 A B ⟨[],p,c⟩=seqE L false 0 A.x A.fs++seqE L true 0 B.x B.fs:=rfl
 refine⟨⟨sa,sb,ea,eb,?_,?_,fun it h=>by simp at h,fun _ it h=>by simp at h⟩,?_⟩
 ·rw[er];exact .inl (.start hL)
 ·rw[er];exact hL.text
 rw[er,List.length_append,la.length,lb.length]
theorem Lts.take {L:List Rl}{ids:List Nat}{bs:List UInt8}(h:Lts L ids bs)(n:Nat):Lts L (ids.take n) (bs.take n)∧Lts L (ids.drop n) (bs.drop n):=by
 have e:=h
 rw[←List.take_append_drop n ids]at e
 obtain⟨u,v,h1,h2,rfl⟩:=e.split
 have hl:=h1.length
 have hi:=h.length
 rw[List.length_append]at hi
 rw[List.length_take]at hl
 rcases Nat.le_total n ids.length with g| g
 ·have hu:u.length=n:=oO
  have e1:(u++v).take n=u:=by rw[←hu];simp
  have e2:(u++v).drop n=v:=by rw[←hu];simp
  rw[e1,e2]
  exact⟨h1,h2⟩
 have hv:v=[]:=List.eq_nil_of_length_eq_zero oO
 subst hv
 rw[List.append_nil]at h ⊢
 simp only[List.length_nil,Nat.add_zero]at hi
 rw[List.take_of_length_le g,List.take_of_length_le oO,List.drop_eq_nil_of_le g,List.drop_eq_nil_of_le oO]
 exact⟨h,.nil⟩
end
section
open Go Go.RowKit Sl Eg
variable {E:Env}{Es:List Ent}{pp tb s most:Nat}
theorem qNc {K:List Nat}{P:Nat→Option Addr×Nat}{X:Nat→List (Nat×Nat)}{y:Nat}{H:List HP}(hn:K.Nodup)(h:y∈K):∀k,dQ (slP (P y) (X y)::bag (K.erase y) P X::H) k→dQ (bag K P X::H) k:=fun k x=>by
 have:=qRx hn h (P y).1 (P y).2 (X y) k x
 rwa [qMs X y rfl,qMs P y rfl]at this
theorem ct_find1 (hE:Seat E){b1 b5 g c y t i:Nat}{l:List (Nat×Nat)}{p:Nat×Nat}(hl:l.length≤65536)(hp:l[i]?=some p):
  Ct E 104 [.int .i64 (i:Nat),uPt b1,uPt b5] [cells b1 [.slice (some ⟨g,0,none⟩) l.length c] 141,cells b5 [.int .i64 (Rl.kind ((Rl.power y t)):Nat),.int .u8 (Rl.byte ((Rl.power y t)):Nat),.int .i64 (Rl.left ((Rl.power y t)):Nat),.int .i64 (Rl.right ((Rl.power y t)):Nat),.int .i64 (Rl.times ((Rl.power y t)):Nat)] 74,sl (some ⟨g,0,none⟩) c 143 2 l.length (pwC l)] (fun v Q=>v= .bool (decide (t≤p.1))∧Q=[cells b1 [.slice (some ⟨g,0,none⟩) l.length c] 141,cells b5 [.int .i64 (Rl.kind ((Rl.power y t)):Nat),.int .u8 (Rl.byte ((Rl.power y t)):Nat),.int .i64 (Rl.left ((Rl.power y t)):Nat),.int .i64 (Rl.right ((Rl.power y t)):Nat),.int .i64 (Rl.times ((Rl.power y t)):Nat)] 74,sl (some ⟨g,0,none⟩) c 143 2 l.length (pwC l)]):=by
 have hil:=(List.getElem?_eq_some_iff.1 hp).1
 obtain⟨f0,f0'⟩:=qOk hp (0+((i:Nat):Int).toNat*2) oO
 refine bO (hE.fn Tryz.func104) O O O (fun R=>?_)
 simp only[dR,uV,uW]
 refine gg19 ?_
 exact uZ O (.tmp O .nil) ⟨congrArg Value.bool (decide_eq_decide.2 (by simp only[Rl.times];omega)),O⟩
def fnd (L:List Rl)(f:Nat→Option Nat)(id:Nat)(r:Rl):Option Nat:=match f id with
 |some a=>some a
 |none=>match r with
  | .power y t=>best L f y t
  |_=>none
theorem ct_find (hE:Seat E){bx bm bp id:Nat}{f:Nat→Option Nat}{K:List Nat}{P:Nat→Option Addr×Nat}{X:Nat→List (Nat×Nat)}(hI:IxOk (rls Es) f K X){r:Rl}:
  Ct E 68 [uPt bx,.int .i64 (id:Nat),.agg #[.int .i64 (Rl.kind (r):Nat),.int .u8 (Rl.byte (r):Nat),.int .i64 (Rl.left (r):Nat),.int .i64 (Rl.right (r):Nat),.int .i64 (Rl.times (r):Nat)]] [cells bx [uPt s,.map (some bm),.map (some bp)] 140,mapF bm .i64 (mapN f),mapF bp .i64 (jQ K P X),bag K P X] (fun v Q=>v= .tuple #[.int .i64 (((fnd (rls Es) f id r).getD 0:Nat):Int),.bool (fnd (rls Es) f id r).isSome]∧Q=[cells bx [uPt s,.map (some bm),.map (some bp)] 140,mapF bm .i64 (mapN f),mapF bp .i64 (jQ K P X),bag K P X]):=by
 have hm1:E.P.underlying 135=some (.map 24 3):=by rw[hE.P];kernel_rfl
 have hm2:E.P.underlying 24=some (.int .i64):=by rw[hE.P];kernel_rfl
 have hm3:∀w,(zeroValue 3).run E.P w= .ok (.int .i64 0) w:=fun w=>by rw[hE.P];kernel_rfl
 have hgo:goFn E.P 104=true:=hE.f oK
 have hf:=zW f id
 cases hfi:f id with
 |some a=>
  rw[hfi]at hf
  have e:fnd (rls Es) f id r=some a:=by unfold fnd;rw[hfi]
  rw[e]
  refine bO (hE.fn Tryz.func68) O O O (fun R=>?_)
  simp only[dR,uV,uW]
  refine gg2 ?_
  refine uU ?_
  refine iQ O (fun b5=>?_)
  refine gg12 ?_
  refine uB (sF (ok:=true) hm1 hm2 hm3 O O uK hf) ?_
  simp only[Option.map_some,qBi,Option.getD_some,Option.isSome_some,if_true]
  refine gg22 ?_
  exact uZ O (.tmp O (.tmp O .nil)) ⟨O,O⟩
 |none=>
  rw[hfi]at hf
  refine bO (hE.fn Tryz.func68) O O O (fun R=>?_)
  simp only[dR,uV,uW]
  refine gg2 ?_
  refine uU ?_
  refine iQ O (fun b5=>?_)
  refine gg12 ?_
  refine uB (sF (ok:=true) hm1 hm2 hm3 O O uK hf) ?_
  simp only[Option.map_none,qBi,Option.getD_none,Option.isSome_none,if_true]
  refine gg23 ?_
  cases r with
  |letter b=>
   have e:fnd (rls Es) f id (.letter b)=none:=by unfold fnd;rw[hfi]
   rw[e]
   refine bE O (fun h1=>?_) (fun h1=>?_)
   ·refine gg8 ?_
    exact uZ O (.tmp O (.tmp O .nil)) ⟨O,O⟩
   exfalso;simp[Rl.kind]at h1
  |pair a b=>
   have e:fnd (rls Es) f id (.pair a b)=none:=by unfold fnd;rw[hfi]
   rw[e]
   refine bE O (fun h1=>?_) (fun h1=>?_)
   ·refine gg8 ?_
    exact uZ O (.tmp O (.tmp O .nil)) ⟨O,O⟩
   exfalso;simp[Rl.kind]at h1
  |power y t=>
   have e:fnd (rls Es) f id (.power y t)=best (rls Es) f y t:=by unfold fnd;rw[hfi]
   rw[e]
   refine bE O (fun h1=>?_) (fun h1=>?_)
   ·exfalso;simp[Rl.kind]at h1
   refine gg2 ?_
   by_cases hyK:y∈K
   ·obtain⟨hne,hXl,Q,hXQ,hPQ⟩:=hI.inn y hyK
    have hpos:0<(X y).length:=List.length_pos_iff.2 hne
    have hlk:=zX (P:=P) (X:=X) hyK
    obtain⟨m,hm,hm0,hm1'⟩:=hPQ.cut t
    have hQl:(X y).length=Q.length:=by rw[hXQ,mY]
    have hfd:=hPQ.find hm0 hm1'
    have hsx:=qGy Q
    rw[←hXQ]at hfd hsx
    apply qCt hyK
    ·exact uK
    refine jY (p:=sl (P y).1 (P y).2 143 2 (X y).length (pwC (X y))) uK (fun _ h=>fA h hpos) ?_
    rintro⟨g,hg⟩
    have hP:P y=(some ⟨g,0,none⟩,(P y).2):=by rw[←hg]
    rw[hg]at hlk
    rw[hg]
    refine gg1 ?_
    refine uN 8 ([cells bx [uPt s,.map (some bm),.map (some bp)] 140,cells b5 [.int .i64 (Rl.kind ((Rl.power y t)):Nat),.int .u8 (Rl.byte ((Rl.power y t)):Nat),.int .i64 (Rl.left ((Rl.power y t)):Nat),.int .i64 (Rl.right ((Rl.power y t)):Nat),.int .i64 (Rl.times ((Rl.power y t)):Nat)] 74,mapF bp .i64 (jQ K P X)]) ?_
    refine gg6 ?_
    refine uT 6 O (sF (kt:=24) (et:=141) (z:= .slice none 0 0) (by rw[hE.P];kernel_rfl) (by rw[hE.P];kernel_rfl) (fun w=>by rw[hE.P];kernel_rfl) rfl rfl (by((repeat constructor);done)) (by assumption)) ?_
    apply eQ 7 O oK O
    refine cZ (hE.t O) (fun b10=>?_)
    refine uE ?_
    apply iC O oK oK O
    refine uS ?_
    refine gg6 ?_
    have hcl:=fun(i:Nat)(hi:i<(X y).length)=>qSv (ct_find1 (E:=E) (b1:=b10) (b5:=b5) (g:=g) (c:=(P y).2) (y:=y) (t:=t) hE hXl (List.getElem?_eq_getElem hi))
    have hss:=qAx (qC (n:=(X y).length) (m:=m) (P:=fun i=>decide (t≤((X y)[i]?.getD (0,0)).1)) (pre:=dQ [cells b10 [.slice (some ⟨g,0,none⟩) (X y).length (P y).2] 141,cells b5 [.int .i64 (Rl.kind ((Rl.power y t)):Nat),.int .u8 (Rl.byte ((Rl.power y t)):Nat),.int .i64 (Rl.left ((Rl.power y t)):Nat),.int .i64 (Rl.right ((Rl.power y t)):Nat),.int .i64 (Rl.times ((Rl.power y t)):Nat)] 74,sl (some ⟨g,0,none⟩) (P y).2 143 2 (X y).length (pwC (X y))]) hE hgo oO (fun i hi=>by
     have:=hcl i hi
     rw[List.getElem?_eq_getElem hi]
     exact this) oO (fun i hi=>by
     obtain⟨p,hp⟩:∃p,(X y)[i]?=some p:=⟨_,List.getElem?_eq_getElem oO⟩
     obtain⟨⟨q,hq,hq1⟩,_⟩:=hsx i p hp
     have:=hm0 i q hi hq
     rw[hp]
     exact decide_eq_false (by show ¬t≤p.1;omega)) (fun i hi hi2=>by
     obtain⟨p,hp⟩:∃p,(X y)[i]?=some p:=⟨_,List.getElem?_eq_getElem oO⟩
     obtain⟨⟨q,hq,hq1⟩,_⟩:=hsx i p hp
     have:=hm1' i q hi hq
     rw[hp]
     exact decide_eq_true (by show t≤p.1;omega)))
    refine uX (hss) O ?_
    rintro _ _⟨rfl,rfl⟩
    simp only[uV,uW]
    refine gg12 ?_
    refine bE O (fun h2=>?_) (fun h2=>?_)
    ·have e2:=hfd.1 oO
     rw[e2]
     refine gg8 ?_
     apply cB
     ·rfl
     ·(apply Rs.tmp rfl;apply Rs.tmp rfl;exact Rs.nil)
     ·exact⟨O,O⟩
     refine cO (m:=[slP (P y) (X y),bag (K.erase y) P X,cells bx [uPt s,.map (some bm),.map (some bp)] 140,mapF bm .i64 (mapN f),mapF bp .i64 (jQ K P X),R]) (by rw[hP];(apply ent;(repeat constructor);done)) (cO (qNc hI.kn hyK) uI)
    obtain⟨p,hp⟩:∃p,(X y)[m]?=some p:=⟨_,List.getElem?_eq_getElem oO⟩
    have e2:=hfd.2 p hp
    rw[e2]
    obtain⟨f0,f0'⟩:=qOk hp (0+((m:Nat):Int).toNat*2) oO
    refine gg14 ?_
    apply cB
    ·rfl
    ·(apply Rs.tmp rfl;apply Rs.tmp rfl;exact Rs.nil)
    ·exact⟨O,O⟩
    refine cO (m:=[slP (P y) (X y),bag (K.erase y) P X,cells bx [uPt s,.map (some bm),.map (some bp)] 140,mapF bm .i64 (mapN f),mapF bp .i64 (jQ K P X),R]) (by rw[hP];(apply ent;(repeat constructor);done)) (cO (qNc hI.kn hyK) uI)
   have hlk:=qJg (P:=P) (X:=X) hyK
   have e2:best (rls Es) f y t=none:=qAf.2 fun i=>by
    cases e3:hit (rls Es) f y t i with
    |none=>rfl
    |some a=>
     obtain⟨t',h3,_⟩:=sO.1 e3
     rw[hI.out y hyK i]at h3
     cases h3
   rw[e2]
   refine gg1 ?_
   refine uN 8 ([cells bx [uPt s,.map (some bm),.map (some bp)] 140,cells b5 [.int .i64 (Rl.kind ((Rl.power y t)):Nat),.int .u8 (Rl.byte ((Rl.power y t)):Nat),.int .i64 (Rl.left ((Rl.power y t)):Nat),.int .i64 (Rl.right ((Rl.power y t)):Nat),.int .i64 (Rl.times ((Rl.power y t)):Nat)] 74,mapF bp .i64 (jQ K P X)]) ?_
   refine gg6 ?_
   refine uT 6 O (sF (kt:=24) (et:=141) (z:= .slice none 0 0) (by rw[hE.P];kernel_rfl) (by rw[hE.P];kernel_rfl) (fun w=>by rw[hE.P];kernel_rfl) rfl rfl (by((repeat constructor);done)) (by assumption)) ?_
   apply eQ 7 O oK O
   refine cZ (hE.t O) (fun b10=>?_)
   refine uE ?_
   apply iC O oK oK O
   refine uS ?_
   refine gg6 ?_
   have hss:=qAx (l:=[]) (qC (n:=0) (m:=0) (fc:=104) (caps:=[uPt b10,uPt b5]) (P:=fun i=>true) (pre:=dQ []) hE hgo oO (fun i hi=>by omega) oO (fun i hi=>by omega) (fun i hi hi2=>by omega))
   refine uX (hss) O ?_
   rintro _ _⟨rfl,rfl⟩
   simp only[uV,uW]
   refine gg12 ?_
   refine bE O (fun h2=>?_) (fun h2=>?_)
   ·refine gg8 ?_
    exact uZ O (.tmp O (.tmp O .nil)) ⟨O,O⟩
   exfalso;omega
end
section
open Go Go.RowKit Sl Eg
variable {E:Env}{Es:List Ent}{pp tb s most:Nat}
def Px.cp:Px→Bool
 | .copy _ _=>true
 | .text _=>false
def Px.fr:Px→Nat
 | .copy f _=>f
 | .text _=>0
def Px.nn:Px→Nat
 | .copy _ n=>n
 | .text _=>0
def Px.tx:Px→Nat
 | .copy _ _=>0
 | .text x=>x
def pxV (x:Px):List Value:=[.bool x.cp,.int .i64 (x.fr:Nat),.int .i64 (x.nn:Nat),.int .i64 (x.tx:Nat)]
def pxC (l:List Px):List Value:=l.flatMap pxV
theorem iF (a b:List Px):pxC (a++b)=pxC a++pxC b:=by simp[pxC]
theorem pcs_fnd {L:List Rl}{f:Nat→Option Nat}{n a:Nat}{r:Rl}(hr:L[n]?=some r)(h:fnd L f (n+1) r=some a):pcs L f (n+1)=[.copy a (len L (n+1))]:=by
 unfold fnd at h
 cases e:f (n+1)with
 |some b=>rw[e]at h;cases h;exact qCd e
 |none=>
  rw[e]at h
  cases r with
  |letter b=>cases h
  |pair l r=>cases h
  |power y t=>
   simp only at h
   rw[rP e hr,h]
theorem qNx {L:List Rl}{f:Nat→Option Nat}{id:Nat}{r:Rl}(h:fnd L f id r=none):f id=none:=by
 unfold fnd at h
 cases e:f id with
 |some b=>rw[e]at h;cases h
 |none=>rfl
theorem qOj {L:List Rl}{f:Nat→Option Nat}{n:Nat}{r:Rl}(hr:L[n]?=some r)(h:fnd L f (n+1) r=none)(hp:∀a b,r≠ .pair a b):pcs L f (n+1)=[.text (n+1)]:=by
 have e:=qNx h
 unfold fnd at h
 rw[e]at h
 cases r with
 |letter b=>exact yH e hr
 |pair l r=>exact absurd rfl (hp l r)
 |power y t=>
  simp only at h
  rw[rP e hr,h]
def stM (L:List Rl)(st:List Nat):Nat:=(st.map fun x=>2*len L x-1).sum
theorem yP (L:List Rl)(a b:List Nat):stM L (a++b)=stM L a+stM L b:=by simp[stM]
theorem qMo (L:List Rl)(x:Nat):stM L [x]=2*len L x-1:=by simp[stM]
theorem stM_two (L:List Rl)(x y:Nat):stM L [x,y]=(2*len L x-1)+(2*len L y-1):=by simp[stM]
theorem stM_len {L:List Rl}(hw:Wf L){st:List Nat}(h:∀x∈st,1≤x∧x≤L.length):st.length≤stM L st:=by
 induction st with
 |nil=>exact Nat.le_refl _
 |cons x st ih=>
  have h1:=ih fun y hy=>h y (by simp[hy])
  have h2:=rM hw x (h x (by simp)).1 (h x (by simp)).2
  simp only[stM,List.map_cons,List.sum_cons,List.length_cons]at h1 ⊢
  omega
structure PcG where
 st:List Nat
 out:List Px
 p:Option Addr
 c:Nat
 q:Option Addr
 d:Nat
theorem qSx (hE:Seat E){bx bm bp b:Nat}{f:Nat→Option Nat}{K:List Nat}{P:Nat→Option Addr×Nat}{X:Nat→List (Nat×Nat)}(hI:IxOk (rls Es) f K X)(hb:b≤Es.length)(hbl:len (rls Es) b≤100000)(hpl:(pcs (rls Es) f b).length≤4096):
  Ct E 35 [uPt bx,.int .i64 (b:Nat)] [bR s most Es,cells bx [uPt s,.map (some bm),.map (some bp)] 140,mapF bm .i64 (mapN f),mapF bp .i64 (jQ K P X),bag K P X]
   (fun v Q=>∃q d,v= .tuple #[.slice q (pcs (rls Es) f b).length d,.nilIface]∧(pcs (rls Es) f b=[]→q=none∧d=0)∧Q=[bR s most Es,cells bx [uPt s,.map (some bm),.map (some bp)] 140,mapF bm .i64 (mapN f),mapF bp .i64 (jQ K P X),bag K P X,sl q d 45 4 (pcs (rls Es) f b).length (pxC (pcs (rls Es) f b))]):=by
 refine eO (p:=bR s most Es) uK (fun _ h=>dO h) (fun hsay=>?_)
 have hw:=hsay.1
 have hLl:=bQ Es
 refine bO (hE.fn Tryz.func35) O O O (fun R=>?_)
 simp only[dR,uV,uW]
 refine gg16 ?_
 refine jF (fun q:PcG=>[(0,uPt bx),(6,.slice q.q q.out.length q.d),(7,.slice q.p q.st.length q.c)]) (fun q=>[bR s most Es,cells bx [uPt s,.map (some bm),.map (some bp)] 140,mapF bm .i64 (mapN f),mapF bp .i64 (jQ K P X),bag K P X,sl q.p q.c 24 1 q.st.length (idC q.st),sl q.q q.d 45 4 q.out.length (pxC q.out),R]) (fun q=>q.out++(q.st.reverse.flatMap (pcs (rls Es) f))=pcs (rls Es) f b∧(∀x∈q.st,1≤x∧x≤(rls Es).length)∧stM (rls Es) q.st≤200000∧(q.out=[]→q.q=none∧q.d=0)) ?_ ?_
 ·refine gg6 ?_
  refine bE O (fun h0=>?_) (fun h0=>?_)
  ·refine jT (gL (t:=24) (sz:=1)) ?_
   refine jT (gL (t:=45) (sz:=4)) ?_
   refine gg3 ?_
   refine uU ?_
   refine aU (hE.t O) (hE.t O) O O O (fun b18=>?_)
   refine uU ?_
   apply bU (hE.t O) (hE.t O) O O O
   ·exact uK
   ·exact uK
   ·rfl
   ·rfl
   ·omega
   ·omega
   ·(unfold maxLen;omega)
   intro g19 c19 n19 x19 hn19 hx19
   refine gg2 ?_
   refine dY (ι:=PcG) ⟨[b],[],some ⟨g19,0,none⟩,c19,none,0⟩ ⟨by simp,fun x hx=>by simp at hx;subst hx;exact⟨oO,oO⟩,by simp only[qMo];omega,fun _=>⟨rfl,rfl⟩⟩ ⟨rfl,rfl,by rw[hn19];rfl,trivial⟩ ?_
   rw[hn19,hx19]
   exact uI
  obtain rfl:b=0:=by omega
  refine jT (gL (t:=24) (sz:=1)) ?_
  refine jT (gL (t:=45) (sz:=4)) ?_
  refine gg1 ?_
  refine dY (ι:=PcG) ⟨[],[],none,0,none,0⟩ ⟨by simp[qGi],fun x hx=>by simp at hx,by simp[stM],fun _=>⟨rfl,rfl⟩⟩ ⟨rfl,rfl,rfl,trivial⟩ ?_
  exact uI
 rintro⟨st,out,p,c,q,d⟩⟨hI0,hI1,hI2,hI3⟩
 simp only at hI0 hI1 hI2 hI3 ⊢
 refine gg2 ?_
 refine dV (fun q:PcG=>[(0,uPt bx),(6,.slice q.q q.out.length q.d),(7,.slice q.p q.st.length q.c)]) (fun q=>[bR s most Es,cells bx [uPt s,.map (some bm),.map (some bp)] 140,mapF bm .i64 (mapN f),mapF bp .i64 (jQ K P X),bag K P X,sl q.p q.c 24 1 q.st.length (idC q.st),sl q.q q.d 45 4 q.out.length (pxC q.out),R]) (fun q=>stM (rls Es) q.st) (fun q=>q.out++(q.st.reverse.flatMap (pcs (rls Es) f))=pcs (rls Es) f b∧(∀x∈q.st,1≤x∧x≤(rls Es).length)∧stM (rls Es) q.st≤200000∧(q.out=[]→q.q=none∧q.d=0)) ⟨st,out,p,c,q,d⟩ ⟨hI0,hI1,hI2,hI3⟩ ⟨O,O,O,trivial⟩ uI ?_
 clear hI0 hI1 hI2 hI3 st out p c q d
 rintro⟨st,out,p,c,q,d⟩⟨hI0,hI1,hI2,hI3⟩
 simp only at hI0 hI1 hI2 hI3 ⊢
 have hstl:=stM_len hw hI1
 have houtl:=congrArg List.length hI0
 simp only[List.length_append]at houtl
 refine gg8 ?_
 refine bE O (fun h=>?_) (fun h=>?_)
 ·obtain⟨ini,x,rfl⟩:∃ini x,st=ini++[x]:=by
   rcases List.eq_nil_or_concat st with rfl|⟨ini,x,rfl⟩
   ·simp at h
   exact⟨ini,x,by rw[List.concat_eq_append]⟩
  have hil:(ini++[x]).length=ini.length+1:=by simp
  have hini:∀y∈ini,1≤y∧y≤(rls Es).length:=fun y hy=>hI1 y (by simp[hy])
  have hxx:=hI1 x (by simp)
  rw[yP,qMo]at hI2
  rw[List.reverse_append]at hI0
  simp only[List.reverse_cons,List.reverse_nil,List.nil_append,List.cons_append,List.flatMap_cons]at hI0
  obtain⟨i,rfl⟩:∃i,x=i+1:=⟨x-1,oO⟩
  obtain⟨en,hent⟩:∃y,Es[i]?=some y:=⟨_,List.getElem?_eq_getElem oO⟩
  have hri:(rls Es)[i]?=some en.r:=vM hent
  have htl:en.t.length=len (rls Es) (i+1):=by rw[hsay.2.1 i en hent];rfl
  have hlp:=rM hw (i+1) oO oO
  have hsm:stM (rls Es) (ini++[i+1])=stM (rls Es) ini+(2*len (rls Es) (i+1)-1):=by rw[yP,qMo]
  refine jY (p:=sl p c 24 1 (ini++[i+1]).length (idC (ini++[i+1]))) uK (fun _ h=>And.intro (fA h oO) (rW h).1) ?_
  rintro⟨⟨g,rfl⟩,hcap⟩
  have f0:=kJ (l:=ini++[i+1]) (i:=ini.length) (x:=i+1) (by simp) ((((ini++[i+1]).length:Nat):Int)-1).toNat oO
  refine gg20 ?_
  refine uB (gV ini.length O O (hE.t O) oO oO) ?_
  refine gg3 ?_
  refine jT (cK (p:=sl (some ⟨g,0,none⟩) c 24 1 (ini++[i+1]).length (idC (ini++[i+1]))) (p':=sl (some ⟨g,0,none⟩) c 24 1 ini.length (idC ini)) uK (pR oO (by rw[iU,List.take_append_of_le_length (by simp[idC])];exact List.take_of_length_le (by simp[idC])) (by simp))) ?_
  refine gg7 ?_
  refine uX (qB hE hent) O ?_
  rintro _ _⟨rfl,rfl⟩
  simp only[uV,uW]
  refine gg3 ?_
  refine uU (cZ (hE.t O) (fun b9=>?_))
  refine gg21 ?_
  refine uX (jZ hE hent) O ?_
  rintro _ _⟨rfl,rfl⟩
  simp only[uV,uW]
  rw[htl]
  refine gg3 ?_
  refine uU (cZ (hE.t O) (fun b11=>?_))
  refine gg19 ?_
  refine uX (ct_find (f:=f) hE hI) O ?_
  rintro _ _⟨rfl,rfl⟩
  simp only[uV,uW]
  cases hfd:fnd (rls Es) f (i+1) en.r with
  |some a=>
   have hpc:=pcs_fnd hri hfd
   rw[hpc]at hI0
   simp only[Option.getD_some,Option.isSome_some]
   refine gg22 ?_
   refine uU ?_
   refine aU (hE.t O) (hE.t O) O O O (fun b77=>?_)
   refine uU ?_
   apply bU (hE.t O) (hE.t O) O O O
   ·exact uK
   ·exact uK
   ·rfl
   ·rfl
   ·omega
   ·omega
   ·(unfold maxLen;omega)
   intro g78 c78 n78 x78 hn78 hx78
   refine gg11 ?_
   obtain rfl:x78=pxC (out++[.copy a (len (rls Es) (i+1))]):=by rw[hx78,iF];rfl
   obtain rfl:n78=(out++[Px.copy a (len (rls Es) (i+1))]).length:=by simp;omega
   rw[←List.append_assoc]at hI0
   refine bE O (fun hbig=>?_) (fun hbig=>?_)
   ·exfalso
    have hol:(out++[Px.copy a (len (rls Es) (i+1))]).length=out.length+1:=by simp
    have:=congrArg List.length hI0
    rw[List.length_append,hol]at this
    omega
   refine gg2 ?_
   refine bS (ι:=PcG) (j:=⟨ini,out++[Px.copy a (len (rls Es) (i+1))],some ⟨g,0,none⟩,c,some ⟨g78,0,none⟩,c78⟩) ⟨hI0,hini,by simp only;omega,fun h=>by simp at h⟩ (by simp only;omega) ⟨rfl,rfl,rfl,trivial⟩ uI
  |none=>
   simp only[Option.getD_none,Option.isSome_none]
   refine gg24 ?_
   generalize en.r=r at hri hfd ⊢
   cases r with
   |letter l=>
    rw[qOj hri hfd (fun _ _ e=>by cases e)]at hI0
    rw[←List.append_assoc]at hI0
    refine bE O (fun h2=>?_) (fun h2=>?_)
    ·exfalso;simp[Rl.kind]at h2
    refine gg4 ?_
    refine uU ?_
    refine aU (hE.t O) (hE.t O) O O O (fun b68=>?_)
    refine uU ?_
    apply bU (hE.t O) (hE.t O) O O O
    ·exact uK
    ·exact uK
    ·rfl
    ·rfl
    ·omega
    ·omega
    ·(unfold maxLen;omega)
    intro g69 c69 n69 x69 hn69 hx69
    refine gg11 ?_
    obtain rfl:x69=pxC (out++[.text (i+1)]):=by rw[hx69,iF];rfl
    obtain rfl:n69=(out++[Px.text (i+1)]).length:=by simp;omega
    refine bE O (fun hbig=>?_) (fun hbig=>?_)
    ·exfalso
     have hol:(out++[Px.text (i+1)]).length=out.length+1:=by simp
     have:=congrArg List.length hI0
     rw[List.length_append,hol]at this
     omega
    refine gg2 ?_
    refine bS (ι:=PcG) (j:=⟨ini,out++[Px.text (i+1)],some ⟨g,0,none⟩,c,some ⟨g69,0,none⟩,c69⟩) ⟨hI0,hini,by simp only;omega,fun h=>by simp at h⟩ (by simp only;omega) ⟨rfl,rfl,rfl,trivial⟩ uI
   |power y t=>
    rw[qOj hri hfd (fun _ _ e=>by cases e)]at hI0
    rw[←List.append_assoc]at hI0
    refine bE O (fun h2=>?_) (fun h2=>?_)
    ·exfalso;simp[Rl.kind]at h2
    refine gg4 ?_
    refine uU ?_
    refine aU (hE.t O) (hE.t O) O O O (fun b68=>?_)
    refine uU ?_
    apply bU (hE.t O) (hE.t O) O O O
    ·exact uK
    ·exact uK
    ·rfl
    ·rfl
    ·omega
    ·omega
    ·(unfold maxLen;omega)
    intro g69 c69 n69 x69 hn69 hx69
    refine gg11 ?_
    obtain rfl:x69=pxC (out++[.text (i+1)]):=by rw[hx69,iF];rfl
    obtain rfl:n69=(out++[Px.text (i+1)]).length:=by simp;omega
    refine bE O (fun hbig=>?_) (fun hbig=>?_)
    ·exfalso
     have hol:(out++[Px.text (i+1)]).length=out.length+1:=by simp
     have:=congrArg List.length hI0
     rw[List.length_append,hol]at this
     omega
    refine gg2 ?_
    refine bS (ι:=PcG) (j:=⟨ini,out++[Px.text (i+1)],some ⟨g,0,none⟩,c,some ⟨g69,0,none⟩,c69⟩) ⟨hI0,hini,by simp only;omega,fun h=>by simp at h⟩ (by simp only;omega) ⟨rfl,rfl,rfl,trivial⟩ uI
   |pair l r=>
    have hk:=hw.ok _ _ hri
    have hlr:=zU hri hk
    rw[qGh hw (qNx hfd) hri,List.append_assoc]at hI0
    obtain⟨k1,k2,k3,k4⟩:=hk
    have l1:=rM hw l k1 oO
    have l2:=rM hw r k3 oO
    have hsm2:stM (rls Es) (ini++[r,l])=stM (rls Es) ini+((2*len (rls Es) r-1)+(2*len (rls Es) l-1)):=by rw[yP,stM_two]
    refine bE O (fun h2=>?_) (fun h2=>?_)
    ·refine gg6 ?_
     refine uU ?_
     refine aU (hE.t O) (hE.t O) O O O (fun b88=>?_)
     refine uU ?_
     apply bU (hE.t O) (hE.t O) O O O
     ·exact uK
     ·exact uK
     ·rfl
     ·rfl
     ·omega
     ·omega
     ·(unfold maxLen;omega)
     intro g89 c89 n89 x89 hn89 hx89
     refine gg11 ?_
     obtain rfl:x89=idC (ini++[r,l]):=by rw[hx89,iU];rfl
     obtain rfl:n89=(ini++[r,l]).length:=by simp;omega
     refine bE O (fun hbig=>?_) (fun hbig=>?_)
     ·exfalso;omega
     refine gg2 ?_
     refine bS (ι:=PcG) (j:=⟨ini++[r,l],out,some ⟨g89,0,none⟩,c89,q,d⟩) ⟨by simpa using hI0,fun y hy=>?_,by simp only;omega,hI3⟩ (by simp only;omega) ⟨rfl,rfl,rfl,trivial⟩ uI
     rcases List.mem_append.1 hy with hy|hy
     ·exact hini y hy
     simp at hy
     rcases hy with rfl|rfl<;>constructor <;>omega
    exfalso;simp[Rl.kind]at h2
 obtain rfl:st=[]:=List.eq_nil_of_length_eq_zero oO
 have hd:out=pcs (rls Es) f b:=by simpa using hI0
 subst hd
 refine gg13 ?_
 exact uZ O (.tmp O (.tmp O .nil)) ⟨q,d,O,hI3,O⟩
end
section
open Go Go.RowKit Sl Eg
variable {E:Env}{Es:List Ent}{pp tb s most:Nat}
theorem tY {l:List Px}{i:Nat}{x:Px}(h:l[i]?=some x)(o:Nat)(ho:o=0+i*4):(pxC l)[o]?=some (.bool x.cp)∧(pxC l)[o+1]?=some (.int .i64 (x.fr:Nat))∧(pxC l)[o+1+1]?=some (.int .i64 (x.nn:Nat))∧(pxC l)[o+1+1+1]?=some (.int .i64 (x.tx:Nat)):=by
 subst ho
 induction l generalizing i with
 |nil=>simp at h
 |cons q l ih=>
  cases i with
  |zero=>simp at h;subst h;exact⟨rfl,rfl,rfl,rfl⟩
  |succ i=>
   rw[List.getElem?_cons_succ]at h
   have:=ih h
   rw[show 0+(i+1)*4=(0+i*4)+1+1+1+1 by omega]
   exact this
theorem nQ (hE:Seat E){x:Px}{N:Nat}(hx:x.ok (rls Es) N):Ct E 55 [uPt pp,.agg ⟨pxV x⟩] [cells pp [uPt s,uPt tb] 86,tabP tb s (rls Es),bR s most Es] (fun v Q=>v= .tuple #[.int .i64 (x.size (rls Es):Nat),.nilIface]∧Q=[cells pp [uPt s,uPt tb] 86,tabP tb s (rls Es),bR s most Es]):=by
 cases x with
 |copy f n=>
  refine bO (hE.fn Tryz.func55) O O O (fun R=>?_)
  simp only[dR,uV,uW]
  refine gg2 ?_
  refine uU ?_
  refine iQ O (fun b3=>?_)
  refine gg22 ?_
  exact uZ O (.tmp O (.tmp O .nil)) ⟨O,O⟩
 |text y=>
  obtain⟨h0,hsn⟩:=hx
  have hle:=hsn.gd.1
  have hLl:=bQ Es
  obtain⟨i,rfl⟩:∃i,y=i+1:=⟨y-1,oO⟩
  obtain⟨en,hent⟩:∃y,Es[i]?=some y:=⟨_,List.getElem?_eq_getElem oO⟩
  refine eO (p:=bR s most Es) uK (fun _ h=>dO h) (fun hsay=>?_)
  have htl:en.t.length=len (rls Es) (i+1):=by rw[hsay.2.1 i en hent];rfl
  refine bO (hE.fn Tryz.func55) O O O (fun R=>?_)
  simp only[dR,uV,uW]
  refine gg2 ?_
  refine uU ?_
  refine iQ O (fun b3=>?_)
  refine gg15 ?_
  refine uN 10 ([cells b3 (pxV (.text (i+1))) 45]) ?_
  refine gg1 ?_
  refine uT 2 O (uBf O) ?_
  refine gg1 ?_
  apply qMe 1 8 O O oK O O
  ·refine uC (fK hE) O ?_
   rintro _ _⟨rfl,rfl⟩
   simp only[uV,uW]
   refine uE ?_
   apply qMe 4 8 O O oK O O
   ·refine uC (jZ hE hent) O ?_
    rintro _ _⟨rfl,rfl⟩
    simp only[uV,uW]
    rw[htl]
    refine uE ?_
    refine uT 5 O (aB O) ?_
    refine gg2 ?_
    apply eQ 8 O oK O
    refine cZ (hE.t O) (fun b6=>?_)
    refine uE ?_
    apply eQ 9 O oK O
    refine uS ?_
    refine uE ?_
    apply dF 10 O oK
    ·exact aC O
    ·rfl
    refine gg12 ?_
    exact uZ O (.tmp O (.tmp O .nil)) ⟨O,O⟩
   refine cZ (hE.t O) (fun b6=>?_)
   refine uE ?_
   apply eQ 4 O oK O
   refine uC (jZ hE hent) O ?_
   rintro _ _⟨rfl,rfl⟩
   simp only[uV,uW]
   rw[htl]
   refine uE ?_
   apply dF 5 O oK
   ·exact aB O
   ·rfl
   refine gg2 ?_
   apply eQ 9 O oK O
   refine uS ?_
   refine uE ?_
   apply dF 10 O oK
   ·exact aC O
   ·rfl
   refine gg12 ?_
   exact uZ O (.tmp O (.tmp O .nil)) ⟨O,O⟩
  refine cZ (hE.t O) (fun b6=>?_)
  refine uE ?_
  apply eQ 1 O oK O
  refine uC (fK hE) O ?_
  rintro _ _⟨rfl,rfl⟩
  simp only[uV,uW]
  refine uE ?_
  apply eQ 4 O oK O
  refine uC (jZ hE hent) O ?_
  rintro _ _⟨rfl,rfl⟩
  simp only[uV,uW]
  rw[htl]
  refine uE ?_
  apply dF 5 O oK
  ·exact aB O
  ·rfl
  refine gg2 ?_
  apply eQ 9 O oK O
  refine uS ?_
  refine uE ?_
  apply dF 10 O oK
  ·exact aC O
  ·rfl
  refine gg12 ?_
  exact uZ O (.tmp O (.tmp O .nil)) ⟨O,O⟩
theorem vE (hE:Seat E)(hB:Base E.w0){x:Nat}(hg:good (rls Es) x):Ct E 83 [uPt pp,.int .i64 (x:Nat)] [cells pp [uPt s,uPt tb] 86,tabP tb s (rls Es),bR s most Es] (fun v Q=>v= .tuple #[.int .i64 (len (rls Es) x:Nat),.nilIface]∧Q=[cells pp [uPt s,uPt tb] 86,tabP tb s (rls Es),bR s most Es]):=by
 have hle:=hg.1
 have hLl:=bQ Es
 rcases Nat.eq_zero_or_pos x with rfl|h0
 ·refine bO (hE.fn Tryz.func83) O O O (fun R=>?_)
  simp only[dR,uV,uW]
  refine gg15 ?_
  refine uX (fK hE) O ?_
  rintro _ _⟨rfl,rfl⟩
  simp only[uV,uW]
  refine gg11 ?_
  refine uX (fK hE) O ?_
  rintro _ _⟨rfl,rfl⟩
  simp only[uV,uW]
  refine gg1 ?_
  refine uX (xV hE) O ?_
  rintro _ _⟨rfl,rfl⟩
  simp only[uV,uW]
  refine gg3 ?_
  refine uU (cZ (hE.t O) (fun b6=>?_))
  refine gg19 ?_
  refine uX (nD hE hB hg) O ?_
  rintro _ _⟨rfl,rfl⟩
  simp only[uV,uW]
  refine gg25 ?_
  exact uZ O (.tmp O (.tmp O .nil)) ⟨O,O⟩
 obtain⟨i,rfl⟩:∃i,x=i+1:=⟨x-1,oO⟩
 obtain⟨en,hent⟩:∃y,Es[i]?=some y:=⟨_,List.getElem?_eq_getElem oO⟩
 refine eO (p:=bR s most Es) uK (fun _ h=>dO h) (fun hsay=>?_)
 have htl:en.t.length=len (rls Es) (i+1):=by rw[hsay.2.1 i en hent];rfl
 refine bO (hE.fn Tryz.func83) O O O (fun R=>?_)
 simp only[dR,uV,uW]
 refine gg15 ?_
 refine uX (fK hE) O ?_
 rintro _ _⟨rfl,rfl⟩
 simp only[uV,uW]
 refine gg11 ?_
 refine uX (fK hE) O ?_
 rintro _ _⟨rfl,rfl⟩
 simp only[uV,uW]
 refine gg1 ?_
 refine uX (jZ hE hent) O ?_
 rintro _ _⟨rfl,rfl⟩
 simp only[uV,uW]
 rw[htl]
 refine gg3 ?_
 refine uU (cZ (hE.t O) (fun b6=>?_))
 refine gg19 ?_
 refine uX (nD hE hB hg) O ?_
 rintro _ _⟨rfl,rfl⟩
 simp only[uV,uW]
 refine gg25 ?_
 exact uZ O (.tmp O (.tmp O .nil)) ⟨O,O⟩
theorem qFk (hE:Seat E)(hB:Base E.w0){x:Px}{N:Nat}(hN:N≤100000)(hx:x.ok (rls Es) N):Ct E 84 [uPt pp,.int .i64 (N:Nat),.agg ⟨pxV x⟩] [cells pp [uPt s,uPt tb] 86,tabP tb s (rls Es),bR s most Es] (fun v Q=>v= .nilIface∧Q=[cells pp [uPt s,uPt tb] 86,tabP tb s (rls Es),bR s most Es]):=by
 cases x with
 |copy f n=>
  obtain⟨h1,h2⟩:=hx
  refine bO (hE.fn Tryz.func84) O O O (fun R=>?_)
  simp only[dR,uV,uW]
  refine gg2 ?_
  refine uU ?_
  refine iQ O (fun b5=>?_)
  refine gg18 ?_
  refine dS 14 O (fun h3=>?_) (fun h3=>?_)
  ·exfalso;simp[Px.tx]at h3
  refine gg9 ?_
  refine bE O (fun h4=>?_) (fun h4=>?_)
  ·exfalso;simp only[Px.nn]at h4;omega
  refine gg9 ?_
  refine uX (qNl (f:=f) (n:=n) (l:=N) hE oO h2) O ?_
  rintro _ _⟨rfl,rfl⟩
  simp only[uV,uW]
  refine gg5 ?_
  exact uZ O (.tmp O .nil) ⟨O,O⟩
 |text y=>
  obtain⟨h0,hsn⟩:=hx
  refine bO (hE.fn Tryz.func84) O O O (fun R=>?_)
  simp only[dR,uV,uW]
  refine gg2 ?_
  refine uU ?_
  refine iQ O (fun b5=>?_)
  refine gg20 ?_
  refine dS 29 O (fun h3=>?_) (fun h3=>?_)
  ·exfalso;simp[Px.fr]at h3
  refine gg8 ?_
  refine dS 34 O (fun h4=>?_) (fun h4=>?_)
  ·exfalso;simp[Px.nn]at h4
  refine gg9 ?_
  refine bE O (fun h5=>?_) (fun h5=>?_)
  ·exfalso;simp only[Px.tx]at h5;omega
  refine gg7 ?_
  refine uX (nD hE hB hsn.gd) O ?_
  rintro _ _⟨rfl,rfl⟩
  simp only[uV,uW]
  refine gg14 ?_
  exact uZ O (.tmp O .nil) ⟨O,O⟩
theorem sM {L:List Rl}{D:List Px}{i:Nat}{x:Px}(h:D[i]?=some x):asz L (D.take (i+1))=asz L (D.take i)+x.size L:=by
 rw[List.take_add_one,h,sK]
 simp[asz]
theorem lL (L:List Rl)(D:List Px)(i:Nat):asz L (D.take i)≤asz L D:=by
 have:=sK L (D.take i) (D.drop i)
 rw[List.take_append_drop]at this
 omega
theorem zO (hE:Seat E)(hB:Base E.w0){base g c:Nat}{D:List Px}(hg:good (rls Es) base)(hbl:len (rls Es) base≤100000)(hD:∀x∈D,x.ok (rls Es) (len (rls Es) base)) (hn:D.length≤100000) (hsz:asz (rls Es) D≤1000000):
  Ct E 52 [uPt pp,.int .i64 (base:Nat),.slice (some ⟨g,0,none⟩) D.length c] [cells pp [uPt s,uPt tb] 86,tabP tb s (rls Es),bR s most Es,sl (some ⟨g,0,none⟩) c 45 4 D.length (pxC D)] (fun v Q=>v= .nilIface∧Q=[cells pp [uPt s,uPt tb] 86,tabP tb s (rls Es),bR s most Es,sl (some ⟨g,0,none⟩) c 45 4 D.length (pxC D)]):=by
 have hmx:dB=1152921504606846976:=rfl
 refine bO (hE.fn Tryz.func52) O O O (fun R=>?_)
 simp only[dR,uV,uW]
 refine gg9 ?_
 refine uX (vE hE hB hg) O ?_
 rintro _ _⟨rfl,rfl⟩
 simp only[uV,uW]
 refine gg26 ?_
 refine dV (fun k:Nat=>[(0,uPt pp),(2,.slice (some ⟨g,0,none⟩) D.length c),(7,.int .i64 (len (rls Es) base:Nat)),(26,.slice (some ⟨g,0,none⟩) D.length c),(27,.int .i64 (D.length:Nat)),(28,.int .i64 (k:Nat))]) (fun _=>[cells pp [uPt s,uPt tb] 86,tabP tb s (rls Es),bR s most Es,sl (some ⟨g,0,none⟩) c 45 4 D.length (pxC D),R]) (fun k=>D.length-k) (fun k=>k≤D.length) 0 (Nat.zero_le _) ⟨O,O,O,O,O,O,trivial⟩ uI ?_
 intro k hk
 refine gg6 ?_
 refine bE O (fun hlt=>?_) (fun hlt=>?_)
 ·obtain⟨x,hx⟩:∃x,D[k]?=some x:=⟨_,List.getElem?_eq_getElem oO⟩
  have hok:=hD x (List.mem_of_getElem? hx)
  obtain⟨f0,f1,f2,f3⟩:=tY hx (0+((k:Nat):Int).toNat*4) oO
  refine gg8 ?_
  refine uU (cZ (hE.t O) (fun b10=>?_))
  refine gg8 ?_
  refine uX (qFk (x:=x) hE hB hbl hok) O ?_
  rintro _ _⟨rfl,rfl⟩
  simp only[uV,uW]
  refine gg17 ?_
  refine iG 28 (.int .i64 ((k+1:Nat):Int)) O (bW oO) ?_
  refine bS (ι:=Nat) (j:=k+1) oO (by show D.length-(k+1)<D.length-k;omega) ⟨O,O,O,O,O,O,trivial⟩ uI
 obtain rfl:k=D.length:=by omega
 refine gg19 ?_
 refine dV (fun k:Nat=>[(0,uPt pp),(12,.int .i64 (asz (rls Es) (D.take k):Nat)),(40,.slice (some ⟨g,0,none⟩) D.length c),(41,.int .i64 (D.length:Nat)),(42,.int .i64 (k:Nat))]) (fun _=>[cells pp [uPt s,uPt tb] 86,tabP tb s (rls Es),bR s most Es,sl (some ⟨g,0,none⟩) c 45 4 D.length (pxC D),R]) (fun k=>D.length-k) (fun k=>k≤D.length) 0 (Nat.zero_le _) ⟨O,O,O,O,O,trivial⟩ uI ?_
 intro k hk
 refine gg6 ?_
 refine bE O (fun hlt=>?_) (fun hlt=>?_)
 ·obtain⟨x,hx⟩:∃x,D[k]?=some x:=⟨_,List.getElem?_eq_getElem oO⟩
  have hok:=hD x (List.mem_of_getElem? hx)
  have eT:=sM (L:=rls Es) hx
  have hTl:=lL (rls Es) D (k+1)
  obtain⟨f0,f1,f2,f3⟩:=tY hx (0+((k:Nat):Int).toNat*4) oO
  refine gg8 ?_
  refine uU (cZ (hE.t O) (fun b14=>?_))
  refine gg7 ?_
  refine uX (nQ (x:=x) hE hok) O ?_
  rintro _ _⟨rfl,rfl⟩
  simp only[uV,uW]
  refine gg21 ?_
  refine uX (qSr hE oO) O ?_
  rintro _ _⟨rfl,rfl⟩
  simp only[uV,uW]
  refine gg21 ?_
  rw[←eT]
  refine iG 42 (.int .i64 ((k+1:Nat):Int)) O (bW oO) ?_
  refine bS (ι:=Nat) (j:=k+1) oO (by show D.length-(k+1)<D.length-k;omega) ⟨O,O,O,O,O,trivial⟩ uI
 refine gg11 ?_
 exact uZ O (.tmp O .nil) ⟨O,O⟩
theorem qSh (hE:Seat E)(hB:Base E.w0){base:Nat}(hg:good (rls Es) base):
  Ct E 52 [uPt pp,.int .i64 (base:Nat),.slice none 0 0] [cells pp [uPt s,uPt tb] 86,tabP tb s (rls Es),bR s most Es] (fun v Q=>v= .nilIface∧Q=[cells pp [uPt s,uPt tb] 86,tabP tb s (rls Es),bR s most Es]):=by
 refine bO (hE.fn Tryz.func52) O O O (fun R=>?_)
 simp only[dR,uV,uW]
 refine gg9 ?_
 refine uX (vE hE hB hg) O ?_
 rintro _ _⟨rfl,rfl⟩
 simp only[uV,uW]
 refine gg26 ?_
 refine gU 1 ?_
 refine gg27 ?_
 refine gU 1 ?_
 refine gg19 ?_
 exact uZ O (.tmp O .nil) ⟨O,O⟩
end
section
open Go Go.RowKit Sl Eg
variable {E:Env}{Es:List Ent}{pp tb s most:Nat}
theorem qCq {α:Type}{D:List α}{i:Nat}{x:α}(h:D[i]?=some x):D.take (i+1)=D.take i++[x]:=by rw[List.take_add_one,h];rfl
theorem qGf {L:List Rl}{D:List Px}{i:Nat}{x:Px}(h:D[i]?=some x):nrm ((D.take (i+1)).map (Px.out L))=addP (nrm ((D.take i).map (Px.out L))) (x.out L):=by
 rw[qCq h,List.map_append,List.map_cons,List.map_nil,qGe]
theorem qHi {L:List Rl}{D:List Px}{i:Nat}{x:Px}(h:D[i]?=some x):tsz L (D.take (i+1))=tsz L (D.take i)+x.tsize L:=by
 rw[qCq h,qEx];simp[tsz]
theorem qMr (L:List Rl)(D:List Px)(i:Nat):tsz L (D.take i)≤tsz L D:=by
 have:=qEx L (D.take i) (D.drop i)
 rw[List.take_append_drop]at this
 omega
structure Jn (Es:List Ent)(N:Nat)(D:List Px)(i:Nat)(M:List Ent)(out:List Px):Prop where
 eq:out.map (Px.out (rls (Es++M)))=nrm ((D.take i).map (Px.out (rls (Es++M))))
 ok:∀x∈out,x.ok (rls (Es++M)) N
 len:out.length≤i
 room:M.length≤D.length*tsz (rls Es) (D.take i)
def JnF (D:List Px)(i:Nat)(out:List Px):Prop:=∀y z,out.getLast?=some y→D[i]?=some z→¬pjn y z
theorem Jn.text {Es M M1:List Ent}{N i j id:Nat}{D out:List Px}{F:List UInt8}(h:Jn Es N D i M out)(hD':∀x∈D,x.ok (rls (Es++M)) N) (hij:i<j) (h7:nrm ((D.take j).map (Px.out (rls (Es++M))))=out.map (Px.out (rls (Es++M)))++[.text F]) (h8:tsz (rls Es) (D.take j)=tsz (rls Es) (D.take i)+F.length) (hid:id≠0) (hsn:Sn (rls (Es++(M++M1))) F id) (hM1:M1.length≤D.length*F.length):Jn Es N D j (M++M1) (out++[.text id]):=by
 obtain⟨j1,j2,j3,j4⟩:=h
 have e:rls (Es++(M++M1))=rls (Es++M)++rls M1:=by rw[←List.append_assoc,dA]
 obtain⟨a1,a2⟩:=Px.ok.exts (rls M1) j2
 obtain⟨b1,b2⟩:=Px.ok.exts (rls M1) (D:=D.take j) fun x hx=>hD' x (List.mem_of_mem_take hx)
 refine⟨?_,fun x hx=>?_,by simp;omega,?_⟩
 ·rw[List.map_append,e,a2,b2,h7]
  simp only[List.map_cons,List.map_nil,Px.out]
  rw[←e,hsn.tx]
 ·rcases List.mem_append.1 hx with hx|hx
  ·rw[e];exact a1 x hx
  simp at hx
  subst hx
  exact⟨hid,by rw[hsn.tx];exact hsn⟩
 rw[List.length_append,h8,Nat.mul_add]
 omega
theorem flat_ne {L:List Rl}(hw:Wf L){T:List Nat}{y:Nat}(hy:T.head?=some y)(h0:y≠0)(h:Sns L (T.map (txt L)) T):(T.map (txt L)).flatten≠[]:=by
 cases T with
 |nil=>simp at hy
 |cons a T=>
  simp at hy
  subst hy
  rw[List.map_cons]at h ⊢
  cases h with
  |cons h1 _=>
   have:=(h1.parts hw h0).2.2
   intro e
   rw[List.flatten_cons]at e
   have e2:=(List.append_eq_nil_iff.1 e).1
   rw[e2]at this
   simp at this
structure JoG where
 i:Nat
 out:List Px
 M:List Ent
 q:Option Addr
 d:Nat
structure JiG where
 j:Nat
 T:List Nat
 q:Option Addr
 d:Nat
theorem qNh (hE:Seat E)(hB:Base E.w0){N g c:Nat}{D:List Px}(hN:N≤100000)(hD:∀x∈D,x.ok (rls Es) N) (hn:D.length≤100000) (hsz:tsz (rls Es) D≤1000000) (hroom:Es.length+D.length*tsz (rls Es) D≤most):
  Ct E 60 [uPt pp,.slice (some ⟨g,0,none⟩) D.length c] [cells pp [uPt s,uPt tb] 86,tabP tb s (rls Es),bR s most Es,sl (some ⟨g,0,none⟩) c 45 4 D.length (pxC D)]
   (fun v Q=>∃M out q d,v= .tuple #[.slice q out.length d,.nilIface]∧Jn Es N D D.length M out∧Q=[cells pp [uPt s,uPt tb] 86,tabP tb s (rls (Es++M)),bR s most (Es++M),sl (some ⟨g,0,none⟩) c 45 4 D.length (pxC D),sl q d 45 4 out.length (pxC out)]):=by
 have hmx:dB=1152921504606846976:=rfl
 refine bO (hE.fn Tryz.func60) O O O (fun R=>?_)
 simp only[dR,uV,uW]
 refine gg18 ?_
 refine jT (gL (t:=45) (sz:=4)) ?_
 refine dV (fun x:JoG=>[(0,uPt pp),(1,.slice (some ⟨g,0,none⟩) D.length c),(6,.slice x.q x.out.length x.d),(7,.int .i64 (x.i:Nat))]) (fun x=>[cells pp [uPt s,uPt tb] 86,tabP tb s (rls (Es++x.M)),bR s most (Es++x.M),sl (some ⟨g,0,none⟩) c 45 4 D.length (pxC D),sl x.q x.d 45 4 x.out.length (pxC x.out),R]) (fun x=>D.length-x.i) (fun x=>x.i≤D.length∧Jn Es N D x.i x.M x.out∧JnF D x.i x.out) ⟨0,[],[],none,0⟩ ⟨Nat.zero_le _,⟨O,fun x h=>by simp at h,Nat.le_refl _,Nat.zero_le _⟩,fun y z h=>by simp at h⟩ ⟨rfl,rfl,rfl,rfl,trivial⟩ (by simp only[List.append_nil];(apply ent;(repeat constructor);done)) ?_
 rintro⟨i,out,M,q,d⟩⟨hi,hJ,hF⟩
 simp only at hi hJ hF ⊢
 obtain⟨j1,j2,j3,j4⟩:=hJ
 have eL:=dA Es M
 have hDx:=Px.ok.exts (rls M) hD
 rw[←eL]at hDx
 obtain⟨hD',hDo⟩:=hDx
 refine gg9 ?_
 refine bE O (fun hlt=>?_) (fun hlt=>?_)
 ·obtain⟨x,hx⟩:∃x,D[i]?=some x:=⟨_,List.getElem?_eq_getElem oO⟩
  have hok:=hD' x (List.mem_of_getElem? hx)
  have hok0:=hD x (List.mem_of_getElem? hx)
  obtain⟨f0,f1,f2,f3⟩:=tY hx (0+((i:Nat):Int).toNat*4) oO
  have hst:nrm ((D.take (i+1)).map (Px.out (rls (Es++M))))=(out++[x]).map (Px.out (rls (Es++M))):=by
   rw[qGf hx,←j1]
   exact addP_pjn fun y hy=>hF y x hy hx
  have hts:=qHi (L:=rls Es) hx
  refine gg9 ?_
  refine uU (cZ (hE.t O) (fun b8=>?_))
  refine gg17 ?_
  clear f0 f1 f2 f3
  cases x with
  |copy f n=>
   obtain⟨h1,h2⟩:=hok
   refine gg3 ?_
   refine dV (fun y:Nat×Nat=>[(0,uPt pp),(1,.slice (some ⟨g,0,none⟩) D.length c),(6,.slice q out.length d),(7,.int .i64 (y.1:Nat)),(8,uPt b8)]) (fun y=>[cells b8 (pxV (.copy f y.2)) 45,cells pp [uPt s,uPt tb] 86,tabP tb s (rls (Es++M)),bR s most (Es++M),sl (some ⟨g,0,none⟩) c 45 4 D.length (pxC D),sl q d 45 4 out.length (pxC out),R]) (fun y=>D.length-y.1) (fun y=>i<y.1∧y.1≤D.length∧1≤y.2∧f+y.2≤N∧nrm ((D.take y.1).map (Px.out (rls (Es++M))))=(out++[Px.copy f y.2]).map (Px.out (rls (Es++M)))∧tsz (rls Es) (D.take y.1)=tsz (rls Es) (D.take i)) (i+1,n) ⟨by simp only;omega,by simp only;omega,h1,h2,hst,by simp only;rw[hts];rfl⟩ ⟨rfl,rfl,rfl,congrArg some (bW (by simp only;omega)),rfl,trivial⟩ uI ?_
   rintro⟨j,m⟩⟨k1,k2,k3,k4,k5,k6⟩
   simp only at k1 k2 k3 k4 k5 k6 ⊢
   have fin:(∀z,D[j]?=some z→¬pjn (.copy f m) z)→Jn Es N D j M (out++[.copy f m])∧JnF D j (out++[.copy f m]):=fun hz=>⟨⟨k5.symm,fun y hy=>by
    rcases List.mem_append.1 hy with hy|hy
    ·exact j2 y hy
    ·simp at hy;subst hy;exact⟨k3,k4⟩,by simp;omega,by rw[k6];exact j4⟩,fun y z hy hz2=>by
    simp at hy
    subst hy
    exact hz z hz2⟩
   have e1:(Px.copy f m).fr=f:=rfl
   have e2:(Px.copy f m).nn=m:=rfl
   refine gg8 ?_
   refine dS 27 O (fun hj=>?_) (fun hj=>?_)
   ·have hjl:j<D.length:=oO
    obtain⟨z,hz⟩:∃z,D[j]?=some z:=⟨_,List.getElem?_eq_getElem hjl⟩
    have hzok:=hD' z (List.mem_of_getElem? hz)
    have hts2:=qHi (L:=rls Es) hz
    have hnt:=qGf (L:=rls (Es++M)) hz
    obtain⟨f0,f1,f2,f3⟩:=tY hz (0+((j:Nat):Int).toNat*4) oO
    refine gg12 ?_
    cases z with
    |copy f' n2=>
     obtain⟨z1,z2⟩:=hzok
     have e3:(Px.copy f' n2).fr=f':=rfl
     have e4:(Px.copy f' n2).nn=n2:=rfl
     refine gg25 ?_
     refine bE O (fun hc=>?_) (fun hc=>?_)
     ·have hff:f'=f+m:=by simp only[Px.fr,Px.nn]at hc;omega
      subst hff
      refine gg13 ?_
      refine l_eq 54 (.int .i64 ((m+n2:Nat):Int)) O (bW (by simp only[Px.nn];omega)) ?_
      refine gg10 ?_
      refine bS (ι:=Nat×Nat) (j:=(j+1,m+n2)) ⟨by simp only;omega,by simp only;omega,by simp only;omega,by simp only;omega,?_,by simp only;rw[hts2,k6];rfl⟩ (by simp only;omega) ⟨rfl,rfl,rfl,congrArg some (bW (by simp only;omega)),rfl,trivial⟩ uI
      simp only
      rw[hnt,k5,List.map_append,List.map_append]
      exact qKs _ f m n2
     have hfin:=fin fun z' hz'=>by
      rw[hz]at hz'
      cases hz'
      show ¬f+m=f'
      intro e
      apply hc
      simp only[Px.fr,Px.nn]
      omega
     refine gg9 ?_
     refine uU ?_
     refine aU (hE.t O) (hE.t O) O O O (fun b60=>?_)
     refine uU ?_
     apply bU (hE.t O) (hE.t O) O O O
     ·exact uK
     ·exact uK
     ·rfl
     ·rfl
     ·omega
     ·omega
     ·(unfold maxLen;omega)
     intro g61 c61 n61 x61 hn61 hx61
     refine gg6 ?_
     obtain rfl:x61=pxC (out++[.copy f m]):=by rw[hx61,iF];rfl
     obtain rfl:n61=(out++[Px.copy f m]).length:=by simp;omega
     refine bS (ι:=JoG) (j:=⟨j,out++[.copy f m],M,some ⟨g61,0,none⟩,c61⟩) ⟨k2,hfin.1,hfin.2⟩ (by simp only;omega) ⟨O,O,O,O,trivial⟩ uI
    |text y=>
     have hfin:=fin fun z' hz'=>by
      rw[hz]at hz'
      cases hz'
      exact fun e=>e
     refine gg24 ?_
     refine uU ?_
     refine aU (hE.t O) (hE.t O) O O O (fun b60=>?_)
     refine uU ?_
     apply bU (hE.t O) (hE.t O) O O O
     ·exact uK
     ·exact uK
     ·rfl
     ·rfl
     ·omega
     ·omega
     ·(unfold maxLen;omega)
     intro g61 c61 n61 x61 hn61 hx61
     refine gg6 ?_
     obtain rfl:x61=pxC (out++[.copy f m]):=by rw[hx61,iF];rfl
     obtain rfl:n61=(out++[Px.copy f m]).length:=by simp;omega
     refine bS (ι:=JoG) (j:=⟨j,out++[.copy f m],M,some ⟨g61,0,none⟩,c61⟩) ⟨k2,hfin.1,hfin.2⟩ (by simp only;omega) ⟨O,O,O,O,trivial⟩ uI
   have hfin:=fin fun z hz=>by
    have:=(List.getElem?_eq_some_iff.1 hz).1
    omega
   refine gg31 ?_
   refine uU ?_
   refine aU (hE.t O) (hE.t O) O O O (fun b60=>?_)
   refine uU ?_
   apply bU (hE.t O) (hE.t O) O O O
   ·exact uK
   ·exact uK
   ·rfl
   ·rfl
   ·omega
   ·omega
   ·(unfold maxLen;omega)
   intro g61 c61 n61 x61 hn61 hx61
   refine gg6 ?_
   obtain rfl:x61=pxC (out++[.copy f m]):=by rw[hx61,iF];rfl
   obtain rfl:n61=(out++[Px.copy f m]).length:=by simp;omega
   refine bS (ι:=JoG) (j:=⟨j,out++[.copy f m],M,some ⟨g61,0,none⟩,c61⟩) ⟨k2,hfin.1,hfin.2⟩ (by simp only;omega) ⟨O,O,O,O,trivial⟩ uI
  |text y=>
   obtain⟨h0,hsn⟩:=hok
   have hlt0:(Px.text y).tsize (rls Es)=len (rls (Es++M)) y:=by rw[eL];exact(kX _ hok0.2.gd.1).symm
   have hub:=qMr (rls Es) D
   have e1:(Px.text y).tx=y:=rfl
   refine gg7 ?_
   refine uU ?_
   refine aU (hE.t O) (hE.t O) O O O (fun b64=>?_)
   refine gg5 ?_
   refine jT (cK (p:=cells b64 [.int .i64 (y:Nat)] 24) (p':=sl (some ⟨b64,0,none⟩) 1 24 1 1 (idC [y])) uK (nL O (by unfold maxLen;omega))) ?_
   refine dV (fun z:JiG=>[(0,uPt pp),(1,.slice (some ⟨g,0,none⟩) D.length c),(6,.slice q out.length d),(7,.int .i64 (z.j:Nat)),(8,uPt b8),(9,.slice z.q z.T.length z.d)]) (fun z=>[sl z.q z.d 24 1 z.T.length (idC z.T),cells b8 (pxV (.text y)) 45,cells pp [uPt s,uPt tb] 86,tabP tb s (rls (Es++M)),bR s most (Es++M),sl (some ⟨g,0,none⟩) c 45 4 D.length (pxC D),sl q d 45 4 out.length (pxC out),R]) (fun z=>D.length-z.j) (fun z=>i<z.j∧z.j≤D.length∧z.T.head?=some y∧i+z.T.length≤z.j∧(∀x∈z.T,x≠0)∧Sns (rls (Es++M)) (z.T.map (txt (rls (Es++M)))) z.T∧nrm ((D.take z.j).map (Px.out (rls (Es++M))))=out.map (Px.out (rls (Es++M)))++[.text (z.T.map (txt (rls (Es++M)))).flatten]∧tsz (rls Es) (D.take z.j)=tsz (rls Es) (D.take i)+(z.T.map (txt (rls (Es++M)))).flatten.length) ⟨i+1,[y],some ⟨b64,0,none⟩,1⟩ ⟨by simp only;omega,by simp only;omega,rfl,by simp,fun x hx=>by simp at hx;subst hx;exact h0,.one hsn,by simp only;rw[hst,List.map_append];simp[Px.out],by simp only;rw[hts,hlt0];simp[len]⟩ ⟨rfl,rfl,rfl,congrArg some (bW (by simp only;omega)),rfl,rfl,trivial⟩ uI ?_
   rintro⟨j,T,q9,c9⟩⟨k1,k2,k3,k4,k5,k6,k7,k8⟩
   simp only at k1 k2 k3 k4 k5 k6 k7 k8 ⊢
   have hTp:0<T.length:=by
    cases T with
    |nil=>simp at k3
    |cons a T=>simp
   have hTD:T.length≤D.length:=oO
   have hub2:=hub j
   have hroom1:(Es++M).length+T.length*(T.map (txt (rls (Es++M)))).flatten.length≤most:=by
    have a1:=Nat.mul_le_mul_right (T.map (txt (rls (Es++M)))).flatten.length hTD
    have a2:=Nat.mul_le_mul_left D.length hub2
    rw[k8,Nat.mul_add]at a2
    rw[List.length_append]
    omega
   refine jY (p:=bR s most (Es++M)) uK (fun _ h=>dO h) (fun hsay2=>?_)
   have hfne:=flat_ne hsay2.1 k3 h0 k6
   have hJ0:Jn Es N D i M out:=⟨j1,j2,j3,j4⟩
   refine jY (p:=sl q9 c9 24 1 T.length (idC T)) uK (fun _ h=>fA h hTp) ?_
   rintro⟨g9,rfl⟩
   refine gg8 ?_
   have go:∀z,D[j]?=some (Px.text z)→j<D.length:=fun z h=>(List.getElem?_eq_some_iff.1 h).1
   refine dS 69 O (fun hj=>?_) (fun hj=>?_)
   ·have hjl:j<D.length:=oO
    obtain⟨z,hz⟩:∃z,D[j]?=some z:=⟨_,List.getElem?_eq_getElem hjl⟩
    have hzok:=hD' z (List.mem_of_getElem? hz)
    have hzok0:=hD z (List.mem_of_getElem? hz)
    have hts2:=qHi (L:=rls Es) hz
    have hnt:=qGf (L:=rls (Es++M)) hz
    obtain⟨f0,f1,f2,f3⟩:=tY hz (0+((j:Nat):Int).toNat*4) oO
    refine gg15 ?_
    cases z with
    |text z=>
     obtain⟨z0,zsn⟩:=hzok
     have hlz:(Px.text z).tsize (rls Es)=len (rls (Es++M)) z:=by rw[eL];exact(kX _ hzok0.2.gd.1).symm
     refine gg12 ?_
     refine uU ?_
     refine aU (hE.t O) (hE.t O) O O O (fun b83=>?_)
     refine uU ?_
     apply bU (hE.t O) (hE.t O) O O O
     ·exact uK
     ·exact uK
     ·rfl
     ·rfl
     ·omega
     ·omega
     ·(unfold maxLen;omega)
     intro g84 c84 n84 x84 hn84 hx84
     refine gg9 ?_
     obtain rfl:x84=idC (T++[z]):=by rw[hx84,iU];rfl
     obtain rfl:n84=(T++[z]).length:=by simp;omega
     refine bS (ι:=JiG) (j:=⟨j+1,T++[z],some ⟨g84,0,none⟩,c84⟩) ⟨by simp only;omega,by simp only;omega,?_,by simp only[List.length_append,List.length_singleton];omega,fun x hx=>?_,?_,?_,?_⟩ (by simp only;omega) ⟨rfl,rfl,rfl,congrArg some (bW (by simp only;omega)),rfl,rfl,trivial⟩ uI
     ·simp only
      rw[List.head?_append,k3];rfl
     ·rcases List.mem_append.1 hx with hx|hx
      ·exact k5 x hx
      simp at hx;subst hx;exact z0
     ·simp only
      rw[List.map_append]
      exact k6.append (.one zsn)
     ·simp only
      rw[hnt,k7,List.map_append,List.flatten_append]
      simp only[List.map_cons,List.map_nil,List.flatten_cons,List.flatten_nil,List.append_nil]
      exact qKw _ _ _
     simp only
     rw[hts2,k8,hlz,List.map_append,List.flatten_append,List.length_append]
     simp only[List.map_cons,List.map_nil,List.flatten_cons,List.flatten_nil,List.append_nil,len]
     omega
    |copy f' n2=>
     have hnj:∀id z,D[j]?=some z→¬pjn (.text id) z:=fun id z hz'=>by
      rw[hz]at hz'
      cases hz'
      exact fun e=>e
     refine gg14 ?_
     refine bE O (fun h9=>?_) (fun h9=>?_)
     ·refine gg9 ?_
      refine uX (qAo (Es:=Es++M) hE hB k6 hTp oO oO hroom1) O ?_
      rintro _ _⟨M1,id,rfl,hM1,hsn1,rfl⟩
      rw[List.append_assoc]at hsn1 ⊢
      have hid:id≠0:=fun e=>by subst e;exact hfne hsn1.zero
      have hJ2:=hJ0.text hD' k1 k7 k8 hid hsn1 (Nat.le_trans hM1 (Nat.mul_le_mul_right _ hTD))
      simp only[uV,uW]
      refine gg20 ?_
      refine uU ?_
      refine aU (hE.t O) (hE.t O) O O O (fun b102=>?_)
      refine uU ?_
      apply bU (hE.t O) (hE.t O) O O O
      ·exact uK
      ·exact uK
      ·rfl
      ·rfl
      ·omega
      ·omega
      ·(unfold maxLen;omega)
      intro g103 c103 n103 x103 hn103 hx103
      refine gg3 ?_
      obtain rfl:x103=pxC (out++[.text id]):=by rw[hx103,iF];rfl
      obtain rfl:n103=(out++[Px.text id]).length:=by simp;omega
      refine bS (ι:=JoG) (j:=⟨j,out++[.text id],M++M1,some ⟨g103,0,none⟩,c103⟩) ⟨k2,hJ2,fun a z ha hz=>by simp at ha;subst ha;exact hnj id z hz⟩ (by simp only;omega) ⟨rfl,rfl,rfl,rfl,trivial⟩ uI
     obtain rfl:T=[y]:=by
      obtain⟨a,rfl⟩:=List.length_eq_one_iff.1 (show T.length=1 by omega)
      simp at k3
      rw[k3]
     have hsn1:Sn (rls (Es++(M++[]))) ([y].map (txt (rls (Es++M)))).flatten y:=by rw[List.append_nil];simpa using hsn
     have hJ2:=hJ0.text (M1:=[]) hD' k1 k7 k8 h0 hsn1 (Nat.zero_le _)
     rw[List.append_nil]at hJ2
     refine gg5 ?_
     refine uU ?_
     refine aU (hE.t O) (hE.t O) O O O (fun b102=>?_)
     refine uU ?_
     apply bU (hE.t O) (hE.t O) O O O
     ·exact uK
     ·exact uK
     ·rfl
     ·rfl
     ·omega
     ·omega
     ·(unfold maxLen;omega)
     intro g103 c103 n103 x103 hn103 hx103
     refine gg3 ?_
     obtain rfl:x103=pxC (out++[.text y]):=by rw[hx103,iF];rfl
     obtain rfl:n103=(out++[Px.text y]).length:=by simp;omega
     refine bS (ι:=JoG) (j:=⟨j,out++[.text y],M,some ⟨g103,0,none⟩,c103⟩) ⟨k2,hJ2,fun a z ha hz=>by simp at ha;subst ha;exact hnj y z hz⟩ (by simp only;omega) ⟨rfl,rfl,rfl,rfl,trivial⟩ uI
   have hnj:∀id z,D[j]?=some z→¬pjn (.text id) z:=fun id z hz=>by
    have:=(List.getElem?_eq_some_iff.1 hz).1
    omega
   refine gg23 ?_
   refine bE O (fun h9=>?_) (fun h9=>?_)
   ·refine gg9 ?_
    refine uX (qAo (Es:=Es++M) hE hB k6 hTp oO oO hroom1) O ?_
    rintro _ _⟨M1,id,rfl,hM1,hsn1,rfl⟩
    rw[List.append_assoc]at hsn1 ⊢
    have hid:id≠0:=fun e=>by subst e;exact hfne hsn1.zero
    have hJ2:=hJ0.text hD' k1 k7 k8 hid hsn1 (Nat.le_trans hM1 (Nat.mul_le_mul_right _ hTD))
    simp only[uV,uW]
    refine gg20 ?_
    refine uU ?_
    refine aU (hE.t O) (hE.t O) O O O (fun b102=>?_)
    refine uU ?_
    apply bU (hE.t O) (hE.t O) O O O
    ·exact uK
    ·exact uK
    ·rfl
    ·rfl
    ·omega
    ·omega
    ·(unfold maxLen;omega)
    intro g103 c103 n103 x103 hn103 hx103
    refine gg3 ?_
    obtain rfl:x103=pxC (out++[.text id]):=by rw[hx103,iF];rfl
    obtain rfl:n103=(out++[Px.text id]).length:=by simp;omega
    refine bS (ι:=JoG) (j:=⟨j,out++[.text id],M++M1,some ⟨g103,0,none⟩,c103⟩) ⟨k2,hJ2,fun a z ha hz=>by simp at ha;subst ha;exact hnj id z hz⟩ (by simp only;omega) ⟨rfl,rfl,rfl,rfl,trivial⟩ uI
   obtain rfl:T=[y]:=by
    obtain⟨a,rfl⟩:=List.length_eq_one_iff.1 (show T.length=1 by omega)
    simp at k3
    rw[k3]
   have hsn1:Sn (rls (Es++(M++[]))) ([y].map (txt (rls (Es++M)))).flatten y:=by rw[List.append_nil];simpa using hsn
   have hJ2:=hJ0.text (M1:=[]) hD' k1 k7 k8 h0 hsn1 (Nat.zero_le _)
   rw[List.append_nil]at hJ2
   refine gg5 ?_
   refine uU ?_
   refine aU (hE.t O) (hE.t O) O O O (fun b102=>?_)
   refine uU ?_
   apply bU (hE.t O) (hE.t O) O O O
   ·exact uK
   ·exact uK
   ·rfl
   ·rfl
   ·omega
   ·omega
   ·(unfold maxLen;omega)
   intro g103 c103 n103 x103 hn103 hx103
   refine gg3 ?_
   obtain rfl:x103=pxC (out++[.text y]):=by rw[hx103,iF];rfl
   obtain rfl:n103=(out++[Px.text y]).length:=by simp;omega
   refine bS (ι:=JoG) (j:=⟨j,out++[.text y],M,some ⟨g103,0,none⟩,c103⟩) ⟨k2,hJ2,fun a z ha hz=>by simp at ha;subst ha;exact hnj y z hz⟩ (by simp only;omega) ⟨rfl,rfl,rfl,rfl,trivial⟩ uI
 obtain rfl:i=D.length:=by omega
 refine gg13 ?_
 exact uZ O (.tmp O (.tmp O .nil)) ⟨M,out,q,d,O,⟨j1,j2,j3,j4⟩,O⟩
theorem qSo (hE:Seat E):Ct E 60 [uPt pp,.slice none 0 0] [] (fun v Q=>v= .tuple #[.slice none 0 0,.nilIface]∧Q=[]):=by
 refine bO (hE.fn Tryz.func60) O O O (fun R=>?_)
 simp only[dR,uV,uW]
 refine gg18 ?_
 refine gU 1 ?_
 refine gg24 ?_
 exact uZ O (.tmp O (.tmp O .nil)) ⟨O,O⟩
theorem qSk (hE:Seat E)(hB:Base E.w0){base g c:Nat}{D:List Px}(hg:good (rls Es) base)(hbl:len (rls Es) base≤100000)(hD:∀x∈D,x.ok (rls Es) (len (rls Es) base)) (hn:D.length≤100000) (hsz:asz (rls Es) D≤1000000) (hroom:Es.length+D.length*tsz (rls Es) D≤most):
  Ct E 36 [uPt pp,.int .i64 (base:Nat),.slice (some ⟨g,0,none⟩) D.length c] [cells pp [uPt s,uPt tb] 86,tabP tb s (rls Es),bR s most Es,sl (some ⟨g,0,none⟩) c 45 4 D.length (pxC D)]
   (fun v Q=>∃M out q d,v= .tuple #[.slice q out.length d,.nilIface]∧Jn Es (len (rls Es) base) D D.length M out∧Q=[cells pp [uPt s,uPt tb] 86,tabP tb s (rls (Es++M)),bR s most (Es++M),sl (some ⟨g,0,none⟩) c 45 4 D.length (pxC D),sl q d 45 4 out.length (pxC out)]):=by
 have hts:=qWk (rls Es) D
 refine bO (hE.fn Tryz.func36) O O O (fun R=>?_)
 simp only[dR,uV,uW]
 refine gg12 ?_
 refine uX (zO hE hB hg hbl hD hn hsz) O ?_
 rintro _ _⟨rfl,rfl⟩
 simp only[uV,uW]
 refine gg16 ?_
 refine uX (qNh hE hB hbl hD hn oO hroom) O ?_
 rintro _ _⟨M,out,q,d,rfl,hJ,rfl⟩
 simp only[uV,uW]
 refine gg7 ?_
 exact uZ O (.tmp O (.tmp O .nil)) ⟨M,out,q,d,O,hJ,O⟩
theorem qPt (hE:Seat E)(hB:Base E.w0){base:Nat}(hg:good (rls Es) base):
  Ct E 36 [uPt pp,.int .i64 (base:Nat),.slice none 0 0] [cells pp [uPt s,uPt tb] 86,tabP tb s (rls Es),bR s most Es] (fun v Q=>v= .tuple #[.slice none 0 0,.nilIface]∧Q=[cells pp [uPt s,uPt tb] 86,tabP tb s (rls Es),bR s most Es]):=by
 refine bO (hE.fn Tryz.func36) O O O (fun R=>?_)
 simp only[dR,uV,uW]
 refine gg12 ?_
 refine uX (qSh hE hB hg) O ?_
 rintro _ _⟨rfl,rfl⟩
 simp only[uV,uW]
 refine gg16 ?_
 refine uX (qSo hE) O ?_
 rintro _ _⟨rfl,rfl⟩
 simp only[uV,uW]
 refine gg7 ?_
 exact uZ O (.tmp O (.tmp O .nil)) ⟨O,O⟩
end
section
open Go Go.RowKit Sl Eg
variable {E:Env}{Es:List Ent}{pp tb s most:Nat}
theorem sn_pcs {L:List Rl}(hw:Wf L){tx ty:List UInt8}{x y:Nat}(hx:Sn L tx x)(hy:Sn L ty y):(∀p∈pcs L (gW L x) y,p.ok L (len L x))∧asz L (pcs L (gW L x) y)=len L y∧(pcs L (gW L x) y).length≤len L y:=by
 rcases Nat.eq_zero_or_pos y with rfl|h0
 ·rw[qGi];exact⟨fun p h=>by simp at h,rfl,Nat.zero_le _⟩
 have hle:=hy.gd.1
 obtain⟨n,rfl⟩:∃n,y=n+1:=⟨y-1,oO⟩
 exact pcs_spec hw (qBg hw x) (best_in hw (qBg hw x)) (P:=fun k=>Rea L (n+1) k) (fun m r k h1 h2 h3=>h1.snoc hw h2 h3) (fun k h1 _=>hy.reach hw h1) (n+1) hle (.self oO)
theorem qFj (hE:Seat E)(hB:Base E.w0){x y:Nat}{tx ty:List UInt8}(hx:Sn (rls Es) tx x)(hy:Sn (rls Es) ty y)(hlx:tx.length≤600)(hly:ty.length≤600)(hn:Es.length<65536)(hroom:Es.length+360000≤most):
  Ct E 11 [uPt pp,.int .i64 (x:Nat),.int .i64 (y:Nat)] [cells pp [uPt s,uPt tb] 86,tabP tb s (rls Es),bR s most Es]
   (fun v Q=>∃M out q d,v= .tuple #[.slice q out.length d,.nilIface]∧Jn Es tx.length (pcs (rls Es) (gW (rls Es) x) y) (pcs (rls Es) (gW (rls Es) x) y).length M out∧Q=[cells pp [uPt s,uPt tb] 86,tabP tb s (rls (Es++M)),bR s most (Es++M),sl q d 45 4 out.length (pxC out)]):=by
 refine eO (p:=bR s most Es) uK (fun _ h=>dO h) (fun hsay=>?_)
 have hw:=hsay.1
 have hLl:=bQ Es
 have hxl:=hx.gd.1
 have hyl:=hy.gd.1
 have elx:=hx.len
 have ely:=hy.len
 obtain⟨p1,p2,p3⟩:=sn_pcs hw hx hy
 have hts:=qWk (rls Es) (pcs (rls Es) (gW (rls Es) x) y)
 have hmul:=Nat.mul_le_mul (show(pcs (rls Es) (gW (rls Es) x) y).length≤600 by omega) (show tsz (rls Es) (pcs (rls Es) (gW (rls Es) x) y)≤600 by omega)
 refine bO (hE.fn Tryz.func11) O O O (fun R=>?_)
 simp only[dR,uV,uW]
 refine gg11 ?_
 refine uU ?_
 refine aU (hE.t O) (hE.t O) O O O (fun b20=>?_)
 refine uX (qPx (Es:=Es) (most:=most) (tb:=tb) (x:=x) (y:=y) hE oO oO oO) O ?_
 rintro _ _⟨rfl,rfl⟩
 simp only[uV,uW]
 refine gg22 ?_
 refine uU ?_
 refine aU (hE.t O) (hE.t O) O O O (fun b29=>?_)
 refine gg5 ?_
 have f0:[Value.int .i64 (x:Nat),.int .i64 (y:Nat)][0]?=some (.int .i64 (x:Nat)):=rfl
 have f1:[Value.int .i64 (x:Nat),.int .i64 (y:Nat)][1]?=some (.int .i64 (y:Nat)):=rfl
 refine gU 3 ?_
 refine gg23 ?_
 refine uX (nD hE hB hx.gd) O ?_
 rintro _ _⟨rfl,rfl⟩
 simp only[uV,uW]
 refine gg45 ?_
 refine uX (nD hE hB hy.gd) O ?_
 rintro _ _⟨rfl,rfl⟩
 simp only[uV,uW]
 refine gg39 ?_
 refine uX (qLh (base:=x) hE oO hn) O ?_
 rintro _ _⟨bx,bm,bp,K,P,X,rfl,hI,rfl⟩
 simp only[uV,uW]
 refine gg21 ?_
 refine uX (qSx (b:=y) hE hI oO oO oO) O ?_
 rintro _ _⟨q,d,rfl,hnil,rfl⟩
 simp only[uV,uW]
 refine gg22 ?_
 obtain⟨D,hD⟩:∃D,D=pcs (rls Es) (gW (rls Es) x) y:=⟨_,rfl⟩
 rw[←hD]at p1 p2 p3 hnil hts hmul ⊢
 by_cases h0:D=[]
 ·obtain⟨rfl,rfl⟩:=hnil h0
  subst h0
  refine uX (qPt hE hB hx.gd) O ?_
  rintro _ _⟨rfl,rfl⟩
  simp only[uV,uW]
  refine gg7 ?_
  exact uZ O (.tmp O (.tmp O .nil)) ⟨[],[],none,0,O,⟨O,fun x h=>by simp at h,Nat.le_refl _,Nat.zero_le _⟩,by rw[List.append_nil]⟩
 refine pE (p:=sl q d 45 4 D.length (pxC D)) uK (fun _ h=>fA h (List.length_pos_iff.2 h0)) ?_
 rintro⟨g,rfl⟩
 refine uX (qSk (most:=most) hE hB hx.gd oO p1 oO oO oO) O ?_
 rintro _ _⟨M,out,q',d',rfl,hJ,rfl⟩
 rw[elx]at hJ
 simp only[uV,uW]
 refine gg7 ?_
 exact uZ O (.tmp O (.tmp O .nil)) ⟨M,out,q',d',O,hJ,O⟩
end
section
open Go Go.RowKit Sl Eg
variable {E:Env}{Es:List Ent}{pp tb s most:Nat}
theorem qAu {f:FuncId}{args:List Value}{Pre:List HP}{Φ Φ':Value→List HP→Prop}(h:Ct E f args Pre Φ)(hi:∀v Q,Φ v Q→∃Q',Φ' v Q'∧∀(R:HP)k,dQ (Q++[R]) k→dQ (Q'++[R]) k):Ct E f args Pre Φ':=fun R w s=>
 (h R w s).mono fun e w'⟨v,Qs,h1,h2,h3⟩=>let⟨Q',a,b⟩:=hi v Qs h2;⟨v,Q',h1,a,h3.imp (b R)⟩
end
section
open Go Eg
theorem Lts.snoc_inv {L:List Rl}{ids:List Nat}{bs:List UInt8}{b:UInt8}(h:Lts L ids (bs++[b])):∃ids' i,ids=ids'++[i+1]∧Lts L ids' bs∧L[i]?=some (.letter b):=by
 generalize hc:bs++[b]=cs at h
 cases h with
 |nil=>simp at hc
 |snoc h1 h2=>
  obtain⟨e1,e2⟩:=List.append_inj' hc rfl
  subst e1
  cases e2
  exact⟨_,_,O,h1,h2⟩
theorem qMd {L:List Rl}(hw:Wf L){a:UInt8}:∀{k:Nat}{ids:List Nat},Lts L ids (List.replicate (k+1) a)→∃m,L[m]?=some (.letter a)∧ids=List.replicate (k+1) (m+1)
 |0,ids,h=>by
  obtain⟨i',m,rfl,h1,h2⟩:=Lts.snoc_inv (bs:=[]) (b:=a) h
  exact⟨m,h2,by rw[h1.nil_inv];rfl⟩
 |k+1,ids,h=>by
  rw[List.replicate_succ']at h
  obtain⟨i',m,rfl,h1,h2⟩:=Lts.snoc_inv h
  obtain⟨m',h3,rfl⟩:=qMd hw h1
  obtain rfl:=hw.nodup _ _ _ h2 h3
  exact⟨m,h2,List.replicate_succ'.symm⟩
theorem Rns.nil_out {L:List Rl}{o:List Nat}(h:Rns L [] o):o=[]:=by
 generalize hc:([]:List (Nat×Nat))=cs at h
 cases h with
 |nil=>rfl
 |snoc h1 h2=>simp at hc
theorem aw_y {L:List Rl}(hw:Wf L){a:UInt8}{k lv:Nat}{ids:List Nat}(h:Rch L (List.replicate (k+2) a) lv ids):∃m,L[m]?=some (.letter a)∧((lv=1∧ids=List.replicate (k+2) (m+1))∨(2≤lv∧∃n,ids=[n+1]∧L[n]?=some (.power (m+1) (k+2)))):=by
 induction h with
 |start h=>
  obtain⟨m,h1,rfl⟩:=qMd hw h
  exact⟨m,h1,.inl ⟨O,O⟩⟩
 |odd h h1 h2 h3 ih=>
  obtain⟨m,hm,⟨rfl,rfl⟩|⟨_,n,rfl,_⟩⟩:=ih
  ·have e:=nK (l:=[]) (a:=[]) O (x:=m+1) (fun y t h=>by simp at h) (k+1)
   rw[List.nil_append,List.nil_append]at e
   rw[e]at h3
   obtain⟨id,o,rfl,h4,h5⟩:=h3.uncons
   obtain rfl:=h5.nil_out
   rcases h4 with⟨h6,_⟩|⟨_,i,rfl,h7⟩
   ·simp at h6
   exact⟨m,hm,.inr ⟨oO,i,O,h7⟩⟩
  simp at h2
 |even h h1 h2 h3 h4 ih=>
  obtain⟨m,hm,⟨rfl,rfl⟩|⟨_,n,rfl,_⟩⟩:=ih
  ·omega
  simp at h2
theorem aw_x {L:List Rl}(hw:Wf L){a b:UInt8}(hab:a≠b){k lv:Nat}{ids:List Nat}(h:Rch L (List.replicate (k+2) a++[b]) lv ids):∃m n,L[m]?=some (.letter a)∧L[n]?=some (.letter b)∧((lv=1∧ids=List.replicate (k+2) (m+1)++[n+1])∨(2≤lv∧∃p,L[p]?=some (.power (m+1) (k+2))∧(ids=[p+1,n+1]∨∃j,ids=[j+1]∧L[j]?=some (.pair (p+1) (n+1))))):=by
 induction h with
 |start h=>
  obtain⟨i',n,rfl,h1,h2⟩:=Lts.snoc_inv h
  obtain⟨m,h3,rfl⟩:=qMd hw h1
  exact⟨m,n,h3,h2,.inl ⟨O,O⟩⟩
 |odd h h1 h2 h3 ih=>
  obtain⟨m,n,hm,hn,⟨rfl,rfl⟩|⟨hlv,p,hp,rfl|⟨j,rfl,_⟩⟩⟩:=ih
  ·have hmn:m≠n:=fun e=>by subst e;rw[hm]at hn;cases hn;exact hab rfl
   have e:=nK (l:=[]) (a:=[]) O (x:=m+1) (fun y t h=>by simp at h) (k+1)
   have e2:=nK e (x:=n+1) (fun y t h=>by simp at h;omega) 0
   rw[List.nil_append,List.nil_append]at e2
   rw[show List.replicate (0+1) (n+1)=[n+1]from rfl]at e2
   rw[e2]at h3
   obtain⟨id,o,rfl,h4,h5⟩:=h3.uncons
   obtain⟨id2,o2,rfl,h6,h7⟩:=h5.uncons
   obtain rfl:=h7.nil_out
   rcases h6 with⟨_,rfl⟩|⟨h6,_⟩
   ·rcases h4 with⟨h8,_⟩|⟨_,i,rfl,h9⟩
    ·simp at h8
    exact⟨m,n,hm,hn,.inr ⟨oO,i,h9,.inl O⟩⟩
   simp at h6
  ·have hpn:p≠n:=fun e=>by subst e;rw[hp]at hn;cases hn
   have e:dD [p+1,n+1]=[(p+1,1),(n+1,1)]:=by simp[dD,vR,hpn]
   rw[e]at h3
   obtain⟨id,o,rfl,h4,h5⟩:=h3.uncons
   obtain⟨id2,o2,rfl,h6,h7⟩:=h5.uncons
   obtain rfl:=h7.nil_out
   rcases h6 with⟨_,rfl⟩|⟨h6,_⟩
   ·rcases h4 with⟨_,rfl⟩|⟨h8,_⟩
    ·exact⟨m,n,hm,hn,.inr ⟨oO,p,hp,.inl O⟩⟩
    simp at h8
   simp at h6
  simp at h2
 |even h h1 h2 h3 h4 ih=>
  obtain⟨m,n,hm,hn,⟨rfl,rfl⟩|⟨hlv,p,hp,rfl|⟨j,rfl,_⟩⟩⟩:=ih
  ·omega
  ·have hg:=pg_of h4
   generalize hq:_++List.drop _ _=out at hg ⊢
   refine⟨m,n,hm,hn,.inr ⟨oO,p,hp,?_⟩⟩
   cases hg with
   |one g1 g2=>
    cases g2 with
    |one g3 g4=>
     cases g4
     exact .inl O
   |two g1 g2 g3=>
    cases g3
    exact .inr ⟨_,O,g2⟩
  simp at h2
theorem wQ {f:Nat→Option Nat}{k a x:Nat}(h:f x=some 0):fput f k a x=some 0:=by
 unfold fput
 by_cases e:x=k
 ·rw[if_pos e,←e,h];simp
 rw[if_neg e,h]
theorem qQs {L:List Rl}{f:Nat→Option Nat}{a x:Nat}{r:Rl}(h:f x=some 0):qDe L f a r x=some 0:=by
 cases r with
 |letter b=>exact h
 |pair l r=>exact wQ (wQ h)
 |power y k=>exact wQ h
theorem qQt {L:List Rl}{i:Nat}{f:Nat→Option Nat}{x:Nat}(h:f x=some 0):nO L i f x=some 0:=by
 rcases nI L i f with⟨a,r,_,_,e⟩| e
 ·rw[e];exact qQs h
 rw[e];exact h
theorem qEb {L:List Rl}{x:Nat}:∀{i:Nat}{f:Nat→Option Nat},f x=some 0→qFv L i f x=some 0
 |0,f,h=>h
 |i+1,f,h=>qEb (i:=i) (qQt h)
theorem qQq {L:List Rl}{j l r:Nat}(hr:L[j]?=some (.pair l r))(hl:l≠0):gW L (j+1) l=some 0:=by
 unfold gW
 show qFv L j (nO L j (kG (j+1))) l=some 0
 refine qEb ?_
 have e:kG (j+1) (j+1)=some 0:=by simp[kG]
 rw[qBj e hr]
 show fput (fput (kG (j+1)) l 0) r (0+len L l) l=some 0
 refine wQ ?_
 unfold fput
 rw[if_pos rfl]
 cases h:kG (j+1) l with
 |none=>rfl
 |some b=>simp
theorem aw_pcs {L:List Rl}(hw:Wf L){x y:Nat}(hx:Sn L [97,97,97,97,97,98] x)(hy:Sn L [97,97,97] y):pcs L (gW L x) y=[.copy 0 3]:=by
 have hel:len L y=3:=hy.len
 rcases hx.sg with⟨h,_⟩|⟨lv,h⟩
 ·cases h
 rcases hy.sg with⟨h',_⟩|⟨lv',h'⟩
 ·cases h'
 obtain⟨m,n,hm,hn,⟨_,e⟩|⟨_,p,hp,e|⟨j,e,hj⟩⟩⟩:=aw_x hw (a:=97) (b:=98) (by decide) (k:=3) h
 ·simp at e
 ·simp at e
 obtain⟨m',hm',⟨_,e'⟩|⟨_,n',e',hp'⟩⟩:=aw_y hw (a:=97) (k:=1) h'
 ·simp at e'
 obtain rfl:=hw.nodup _ _ _ hm hm'
 cases e
 cases e'
 have hjl:=(List.getElem?_eq_some_iff.1 hj).1
 have hf:gW L (j+1) (p+1)=some 0:=qQq hj oO
 have hno:gW L (j+1) (n'+1)=none:=by
  cases hc:gW L (j+1) (n'+1)with
  |none=>rfl
  |some a=>
   exfalso
   have hr:Rea L (j+1) (n'+1):=qEc hw oO (n'+1) (by rw[hc];simp)
   cases hr with
   |self _=>rw[hj]at hp';cases hp'
   |kid h1 h2 h3=>
    rw[hj]at h1
    cases h1
    simp only[kids,List.mem_cons,List.not_mem_nil,or_false]at h2
    rcases h2 with rfl|rfl
    ·cases h3 with
     |self _=>rw[hp]at hp';cases hp'
     |kid h1 h2 h3=>
      rw[hp]at h1
      cases h1
      simp only[kids,List.mem_cons,List.not_mem_nil,or_false]at h2
      subst h2
      cases h3 with
      |self _=>rw[hm]at hp';cases hp'
      |kid h1 h2 h3=>rw[hm]at h1;cases h1;simp[kids]at h2
    cases h3 with
    |self _=>rw[hn]at hp';cases hp'
    |kid h1 h2 h3=>rw[hn]at h1;cases h1;simp[kids]at h2
 rw[rP hno hp',hel]
 have hb:best L (gW L (j+1)) (m+1) (1+2)=some 0:=qSa ⟨p,by simp[hit,hp,hf]⟩ (fun i b _=>Nat.zero_le b)
 rw[hb]
end
section
open Go Go.RowKit Sl Eg
variable {E:Env}{Es:List Ent}{pp tb s most:Nat}
theorem underPc:Tryz.prog.underlying 45=some (.struct (Tryz.prog.fieldsOf 45)):=by kernel_rfl
theorem heldPc:Tryz.prog.stoodInHeld 45=false:=by kernel_rfl
theorem fieldsPc : (Tryz.prog.fieldsOf 45).toList = [⟨"Copy", 4, 0, false, "", "", 0⟩, ⟨"From", 3, 1, false, "", "", 8⟩, ⟨"N", 3, 2, false, "", "", 16⟩, ⟨"Text", 24, 3, false, "", "", 24⟩] := by kernel_rfl
theorem pc_equal (a b c:Int)(w:World):(Op.equal 45 (.agg #[.bool true,.int .i64 a,.int .i64 b,.int .i64 c]) (.agg #[.bool true,.int .i64 a,.int .i64 b,.int .i64 c])).run Tryz.prog w= .ok true w:=by
 unfold Op.equal Op.maxDepth
 rw[show(10000:Nat)=9999+1 from rfl,run_equalIn_struct _ _ _ _ _ underPc heldPc,fieldsPc]
 simp only[Op.eqFields]
 simp[go_sem]
theorem y_eq_pc (hE:Seat E){n:Nat}{L:Fr}{S:List HP}{ty:TypeId}{pos:String}{af:Array Edge}{d:Option Nat}{gd:Option (Nat×Bool)}{x y:Operand}{yt:TypeId}{a b c:Int}(hx:ev L x=some (.agg #[.bool true,.int .i64 a,.int .i64 b,.int .i64 c]))(hy:ev L y=some (.agg #[.bool true,.int .i64 a,.int .i64 b,.int .i64 c])):
  Yl E n L S ⟨d,.binOp .eql 45 x y yt,ty,pos,af,gd⟩ (.bool true):=fun ac w g _=>by
 have h1:(eqGuard .eql 45 x y (.agg #[.bool true,.int .i64 a,.int .i64 b,.int .i64 c]) (.agg #[.bool true,.int .i64 a,.int .i64 b,.int .i64 c])).run E.P w= .ok () w:=by
  have hg:E.P.eqGuardType E.P.depth 45=false:=by rw[hE.P];kernel_rfl
  unfold eqGuard
  simp[program,Sem.run,hg]
 have h2:∀u v:Value,binOp .eql 45 (.agg #[.bool true,.int .i64 a,.int .i64 b,.int .i64 c]) (.agg #[.bool true,.int .i64 a,.int .i64 b,.int .i64 c])=(do pure (.bool (←Op.equal 45 (.agg #[.bool true,.int .i64 a,.int .i64 b,.int .i64 c]) (.agg #[.bool true,.int .i64 a,.int .i64 b,.int .i64 c])))):=fun _ _=>O
 have h3:=pc_equal a b c w
 rw[←hE.P]at h3
 simp[execOp,h1,h2 (.bool true) (.bool true),h3,g.ev hx,g.ev hy]
theorem jn_one {M N:List Ent}{out:List Px}{D:List Px}{n:Nat}(h:Jn M n D D.length N out)(hD:D=[.copy 0 3]):out=[.copy 0 3]:=by
 subst hD
 have e:=h.eq
 match out,e with
 |[],e=>cases e
 |[.copy f n],e=>simp[nrm,addP,Px.out]at e;rw[e.1,e.2]
 |[.text x],e=>simp[nrm,addP,Px.out]at e
 |_::_::_,e=>simp[nrm,addP]at e
theorem qPw (hE:Seat E)(hB:Base E.w0):Ct E 29 [] [] (fun v Q=>v= .bool true∧Q=[]):=by
 refine bO (hE.fn Tryz.func29) O O O (fun R=>?_)
 simp only[dR,uV,uW]
 refine gg7 ?_
 refine uX (qIh (most:=1048576) hE (Nat.le_refl _)) O ?_
 rintro _ _⟨s,rfl,rfl⟩
 simp only[uV,uW]
 refine uX (qIm hE) O ?_
 rintro _ _⟨pp,tb,rfl,rfl⟩
 simp only[uV,uW]
 refine gg6 ?_
 refine uU ?_
 refine aU (hE.t O) (hE.t O) O O O (fun b12=>?_)
 refine uU ?_
 refine qUj O (hE.t O) (hE.t O) uK ?_
 have n1:([97,97,97,97,97,98]:List UInt8).length≤65536:=by decide
 have r1:([]:List Ent).length+2*([97,97,97,97,97,98]:List UInt8).length≤1048576:=by decide
 refine uX (ct_Of (bs:=[97,97,97,97,97,98]) hE hB n1 r1) O ?_
 rintro _ _⟨M1,x,rfl,hM1,tx1,gx,sx,rfl⟩
 simp only[uV,uW]
 have hx:Sn (rls ([]++M1)) [97,97,97,97,97,98] x:=⟨sx,tx1,gx⟩
 refine gg10 ?_
 refine uU ?_
 refine aU (hE.t O) (hE.t O) O O O (fun b19=>?_)
 refine uU ?_
 refine qUj O (hE.t O) (hE.t O) uK ?_
 have n2:([97,97,97]:List UInt8).length≤65536:=by decide
 have r2:([]++M1:List Ent).length+2*([97,97,97]:List UInt8).length≤1048576:=by simp at hM1 ⊢;omega
 refine uX (ct_Of (bs:=[97,97,97]) hE hB n2 r2) O ?_
 rintro _ _⟨M2,y,rfl,hM2,ty1,gy,sy,rfl⟩
 simp only[uV,uW]
 have hy:Sn (rls ([]++M1++M2)) [97,97,97] y:=⟨sy,ty1,gy⟩
 have hx2:Sn (rls ([]++M1++M2)) [97,97,97,97,97,98] x:=by rw[dA];exact hx.ext _
 have n3:([97,97,97,97,97,98]:List UInt8).length≤600:=by decide
 have n4:([97,97,97]:List UInt8).length≤600:=by decide
 have n5:([]++M1++M2:List Ent).length<65536:=by simp at hM1 hM2 ⊢;omega
 have n6:([]++M1++M2:List Ent).length+360000≤1048576:=by simp at hM1 hM2 ⊢;omega
 refine pE (p:=bR s 1048576 ([]++M1++M2)) uK (fun _ h=>dO h) (fun hsay=>?_)
 have hpc:=aw_pcs hsay.1 hx2 hy
 refine gg12 ?_
 refine uX (qFj hE hB hx2 hy n3 n4 n5 n6) O ?_
 rintro _ _⟨M,out,q,d,rfl,hJ,rfl⟩
 obtain rfl:=jn_one hJ hpc
 simp only[uV,uW]
 refine pE (p:=sl q d 45 4 [Px.copy 0 3].length (pxC [Px.copy 0 3])) uK (fun _ h=>fA h (by decide)) ?_
 rintro⟨g,rfl⟩
 have hl1:[Px.copy 0 3].length=1:=rfl
 refine gg41 ?_
 refine uB (y_eq_pc hE O O) ?_
 refine gg5 ?_
 exact uZ O (.tmp O .nil) ⟨O,O⟩
theorem qVg {w0:World}{t:Tx}(h:OkT w0 t):Rdb w0 t.a (byC t.bs) old:=fun hne=>h.1.rd (fun e=>hne (by rw[e];rfl))
theorem qNn (hE:Seat E)(hB:Base E.w0){a b:Tx}(ha:OkT E.w0 a)(hb:OkT E.w0 b)(la:a.bs.length≤600)(lb:b.bs.length≤600):Ct E 8 [.slice a.a a.bs.length a.c,.slice b.a b.bs.length b.c] []
  (fun v Q=>∃pp s tb M x y,v= .tuple #[uPt pp,.int .i64 (x:Nat),.int .i64 (y:Nat),.bool true]∧M.length≤2*(a.bs.length+b.bs.length)∧Sn (rls M) a.bs x∧Sn (rls M) b.bs y∧Q=[cells pp [uPt s,uPt tb] 86,tabP tb s (rls M),bR s 1048576 M]):=by
 refine bO (hE.fn Tryz.func8) O O O (fun R=>?_)
 simp only[dR,uV,uW]
 refine gg10 ?_
 refine uX (qIh (most:=1048576) hE (Nat.le_refl _)) O ?_
 rintro _ _⟨s,rfl,rfl⟩
 simp only[uV,uW]
 refine uX (qIm hE) O ?_
 rintro _ _⟨pp,tb,rfl,rfl⟩
 simp only[uV,uW]
 refine gg6 ?_
 refine uU ?_
 refine lY (hE.t O) (fun b17=>?_)
 refine gg1 ?_
 refine tX qTo ?_
 have r1:([]:List Ent).length+2*a.bs.length≤1048576:=by rw[List.length_nil];omega
 have hb1:(0+(byC a.bs).length)*1≤140737488355328:=by
  rw[jV]
  omega
 have hb2:0+(byC a.bs).length≤maxLen:=by
  rw[jV]
  unfold maxLen
  omega
 refine uU ?_
 refine qK (us:=byC a.bs) (q:=old) (hE.t O) (hE.t O) O O O (jV _).symm (qVg ha) uK uK (qAg _) hb1 hb2 (fun pt ct m1 x1 hm1 hx1=>?_)
 obtain rfl:m1=a.bs.length:=by rw[hm1,jV,Nat.zero_add]
 obtain rfl:x1=byC a.bs:=hx1
 refine pE (p:=sl pt ct 5 1 a.bs.length (byC a.bs)) uK (fun _ h=>fun hpos=>fA h hpos) (fun hpt=>?_)
 have hqs:Rdb E.w0 pt (byC a.bs) (sl pt ct 5 1 a.bs.length (byC a.bs)):=qVf (jV _) hpt
 refine uX (qNg (Es:=[]) (s:=s) (most:=1048576) (tb:=tb) (pp:=pp) (a:=pt) (c:=ct) (q:=sl pt ct 5 1 a.bs.length (byC a.bs)) (bs:=a.bs) hE hB (fun hne=>hqs (qSc hne)) oO r1) O ?_
 rintro _ _⟨M1,x,rfl,hM1,tx1,gx,sx,rfl⟩
 clear hqs hpt
 simp only[uV,uW]
 have hx:Sn (rls ([]++M1)) a.bs x:=⟨sx,tx1,gx⟩
 refine gg10 ?_
 refine uU ?_
 refine lY (hE.t O) (fun b25=>?_)
 refine gg1 ?_
 have hb1:(0+(byC b.bs).length)*1≤140737488355328:=by
  rw[jV]
  omega
 have hb2:0+(byC b.bs).length≤maxLen:=by
  rw[jV]
  unfold maxLen
  omega
 refine uU ?_
 refine qK (us:=byC b.bs) (q:=old) (hE.t O) (hE.t O) O O O (jV _).symm (qVg hb) uK uK (qAg _) hb1 hb2 (fun pt ct m1 x1 hm1 hx1=>?_)
 obtain rfl:m1=b.bs.length:=by rw[hm1,jV,Nat.zero_add]
 obtain rfl:x1=byC b.bs:=hx1
 refine pE (p:=sl pt ct 5 1 b.bs.length (byC b.bs)) uK (fun _ h=>fun hpos=>fA h hpos) (fun hpt=>?_)
 have hqs:Rdb E.w0 pt (byC b.bs) (sl pt ct 5 1 b.bs.length (byC b.bs)):=qVf (jV _) hpt
 have r2:([]++M1:List Ent).length+2*b.bs.length≤1048576:=by rw[List.nil_append];omega
 refine uX (qNg (Es:=[]++M1) (s:=s) (most:=1048576) (tb:=tb) (pp:=pp) (a:=pt) (c:=ct) (q:=sl pt ct 5 1 b.bs.length (byC b.bs)) (bs:=b.bs) hE hB (fun hne=>hqs (qSc hne)) oO r2) O ?_
 rintro _ _⟨M2,y,rfl,hM2,ty1,gy,sy,rfl⟩
 simp only[uV,uW]
 have hy:Sn (rls ([]++M1++M2)) b.bs y:=⟨sy,ty1,gy⟩
 have hx2:Sn (rls ([]++M1++M2)) a.bs x:=by rw[dA];exact hx.ext _
 refine gg22 ?_
 refine uX (qPw hE hB) O ?_
 rintro _ _⟨rfl,rfl⟩
 simp only[uV,uW]
 refine gg8 ?_
 exact uZ O (.tmp O (.tmp O (.tmp O (.tmp O .nil)))) ⟨pp,s,tb,[]++M1++M2,x,y,O,by rw[List.nil_append,List.length_append];omega,hx2,hy,rfl⟩
end
section
open Go Go.RowKit Sl Eg
variable {E:Env}{Es:List Ent}{pp tb s most:Nat}
def fz (f:Nat→Option Nat)(k:Nat):Int:=match f k with |some a=>(a:Nat)|none=> -1
end
section
open Go Go.RowKit Sl Eg
variable {E:Env}{Es:List Ent}{pp tb s most:Nat}
def Pc.pc:Pc→Bool
 | .copy _ _=>true
 | .text _=>false
def Pc.pn:Pc→Nat
 | .copy _ n=>n
 | .text _=>0
end
end Go.Proofs.YtblljbllmnbiaaaGreatDoor
