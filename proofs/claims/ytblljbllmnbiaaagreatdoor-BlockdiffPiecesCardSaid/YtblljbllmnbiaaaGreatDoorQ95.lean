import Derived.Test.YtblljbllmnbiaaaGreatDoorQ18
import Derived.Test.YtblljbllmnbiaaaGreatDoorQ37
import Derived.Test.YtblljbllmnbiaaaGreatDoorQ80
import Derived.Test.YtblljbllmnbiaaaGreatDoorQ85
import Derived.Test.YtblljbllmnbiaaaGreatDoorQ92
set_option linter.all false
set_option maxHeartbeats 1000000
namespace Go.Proofs.YtblljbllmnbiaaaGreatDoor
open Go Go.RowKit Sl Eg
set_option maxRecDepth 10000
section
theorem qEd {L:List Rl}{f:Nat→Option Nat}{a x:Nat}{r:Rl}(h:f x≠none∨x∈kids r):yG L f a r x≠none:=fun e=>by
 have:=qEc.1 e
 rcases h with h| h
 ·exact h this.2
 exact this.1 h
theorem qEf {L:List Rl}{f:Nat→Option Nat}{i x:Nat}(h:f x≠none):pE L i f x≠none:=by
 rcases qJ L i f with⟨a,r,_,_,e⟩| e
 ·rw[e];exact qEd (.inl h)
 rw[e];exact h
theorem qUl {L:List Rl}{f:Nat→Option Nat}{i k:Nat}{r:Rl}(h:f (i+1)≠none)(hr:L[i]?=some r)(hk:k∈kids r):pE L i f k≠none:=by
 obtain⟨a,ha⟩:∃a,f (i+1)=some a:=by
  cases e:f (i+1)with
  |none=>exact absurd e h
  |some a=>exact⟨a,rfl⟩
 rw[wO ha hr]
 exact qEd (.inr hk)
theorem qEe {L:List Rl}{f:Nat→Option Nat}{x:Nat}(h:f x≠none):∀B:List Nat,tN L B f x≠none
 |[]=>h
 |v::B=>qEf (qEe h B)
theorem qJd {L:List Rl}(hw:Wf L){base:Nat}{V:List Nat}(hs:V.Pairwise (· < ·))(hV:∀x,x∈V↔Rea L base x):∀(B A:List Nat),V=A++B→
  (∀v C,B=v::C→tN L C (jT base) v≠none)∧∀u r k,u+1∈B→L[u]?=some r→k∈kids r→tN L B (jT base) k≠none
 |[],A,_=>⟨fun v C h=>(by cases h),fun u r k h=>(by simp at h)⟩
 |v::C,A,e=>by
  obtain⟨_,h2⟩:=qJd hw hs hV C (A++[v]) (by rw[e];simp)
  have hv:Rea L base v:=(hV v).1 (by rw[e];simp)
  have key:tN L C (jT base) v≠none:=by
   rcases hv.up with rfl|⟨p,r,g1,g2,g3⟩
   ·refine qEe ?_ C
    have:=hv.pos
    unfold jT
    rw[if_pos ⟨rfl,oO⟩]
    simp
   have hp:p+1∈V:=(hV _).2 g1
   have hlt:=(pF (hw.ok _ _ g2) v g3).2
   rw[e]at hp hs
   obtain⟨_,hs2,hs3⟩:=List.pairwise_append.1 hs
   rcases List.mem_append.1 hp with h| h
   ·have:=hs3 _ h v (by simp);omega
   rcases List.mem_cons.1 h with h| h
   ·omega
   exact h2 p r v h g2 g3
  refine⟨fun w D h=>?_,fun u r k hu hr hk=>?_⟩
  ·cases h;exact key
  have hpos:=hv.pos
  rcases List.mem_cons.1 hu with h| h
  ·subst h
   show pE L (u+1-1) (tN L C (jT base)) k≠none
   rw[Nat.add_sub_cancel]
   exact qUl key hr hk
  exact qEf (h2 u r k h hr hk)
theorem fbase_le {base x a:Nat}(h:jT base x=some a):a=0∧x=base:=by
 unfold jT at h
 split at h
 ·rename_i g;cases h;exact⟨rfl,g.1⟩
 cases h
def FIn (L:List Rl)(n:Nat)(f:Nat→Option Nat):Prop:=∀x a,f x=some a→a+len L x≤n
theorem FIn.put {L:List Rl}{n:Nat}{f:Nat→Option Nat}(h:FIn L n f){k a:Nat}(ha:a+len L k≤n):FIn L n (fput f k a):=fun x b hb=>by
 unfold fput at hb
 split at hb
 ·rename_i e
  subst e
  split at hb
  ·rename_i o ho
   have:=h x o ho
   cases hb
   omega
  cases hb;exact ha
 exact h x b hb
theorem FIn.step {L:List Rl}(hw:Wf L){n i:Nat}{f:Nat→Option Nat}(h:FIn L n f):FIn L n (pE L i f):=by
 rcases qJ L i f with⟨a,r,h1,h2,e⟩| e
 ·rw[e]
  have hk:=hw.ok _ _ h2
  have hl:=h _ _ h1
  cases r with
  |letter b=>exact h
  |pair l r=>
   rw[nV h2 hk]at hl
   exact(h.put oO).put oO
  |power x k=>
   rw[kH h2 hk]at hl
   obtain⟨_,_,h3⟩:=hk
   refine h.put ?_
   have:len L x*1≤len L x*k:=Nat.mul_le_mul_left _ oO
   rw[Nat.mul_comm k]at hl
   omega
 rw[e];exact h
theorem FIn.base {L:List Rl}(base:Nat):FIn L (len L base) (jT base):=fun x a h=>by
 obtain⟨rfl,rfl⟩:=fbase_le h
 omega
theorem FIn.down {L:List Rl}(hw:Wf L){n:Nat}:∀{i:Nat}{f:Nat→Option Nat},FIn L n f→FIn L n (yE L i f)
 |0,f,h=>h
 |i+1,f,h=>FIn.down (i:=i) (f:=pE L i f) hw (h.step hw)
theorem qBn {L:List Rl}(hw:Wf L)(base:Nat):FIn L (len L base) (gL L base):=FIn.down hw (FIn.base base)
theorem yF {L:List Rl}(hw:Wf L){base:Nat}(hb:base≤L.length):Dom L base (gL L base):=Dom.down hw (Dom.base hb)
theorem qNw {L:List Rl}{base:Nat}{f:Nat→Option Nat}(h:Dom L base f):f 0=none:=by
 cases e:f 0 with
 |none=>rfl
 |some a=>have:=(h 0 (by rw[e];simp)).pos;omega
def Px.ok (L:List Rl)(N:Nat):Px→Prop
 | .copy f n=>1≤n∧f+n≤N
 | .text x=>x≠0∧Sn L (txt L x) x
def Px.size (L:List Rl):Px→Nat
 | .copy f n=>n
 | .text x=>len L x
def Px.tsize (L:List Rl):Px→Nat
 | .copy f n=>0
 | .text x=>len L x
theorem Px.ok.ext {L:List Rl}(M:List Rl){N:Nat}{x:Px}(h:x.ok L N):x.ok (L++M) N∧x.out (L++M)=x.out L∧x.size (L++M)=x.size L∧x.tsize (L++M)=x.tsize L:=by
 cases x with
 |copy f n=>exact⟨h,rfl,rfl,rfl⟩
 |text x=>
  have hb:=h.2.gd.1
  exact⟨⟨h.1,by rw[lZ M hb];exact h.2.ext M⟩,by simp only[Px.out];rw[lZ M hb],by simp only[Px.size];rw[lV M hb],by simp only[Px.tsize];rw[lV M hb]⟩
theorem Px.ok.exts {L:List Rl}(M:List Rl){N:Nat}{D:List Px}(h:∀x∈D,x.ok L N):(∀x∈D,x.ok (L++M) N)∧D.map (Px.out (L++M))=D.map (Px.out L):=
 ⟨fun x hx=>((h x hx).ext M).1,List.map_congr_left fun x hx=>((h x hx).ext M).2.1⟩
def pjn:Px→Px→Prop
 | .copy f n,.copy f' _=>f+n=f'
 | .text _,.text _=>True
 |_,_=>False
theorem addP_pjn {L:List Rl}{out:List Px}{x:Px}(h:∀y,out.getLast?=some y→¬pjn y x):addP (out.map (Px.out L)) (x.out L)=(out++[x]).map (Px.out L):=by
 rcases List.eq_nil_or_concat out with rfl|⟨o,y,rfl⟩
 ·rw[List.map_nil,qFf];rfl
 rw[List.concat_eq_append]at h ⊢
 have hy:=h y (by simp)
 rw[List.map_append,List.map_append,List.map_append]
 simp only[List.map_cons,List.map_nil]
 cases y with
 |copy f n=>cases x with
  |copy f' n'=>exact qSf _ hy
  |text x=>exact qSg _ _ _ _
 |text a=>cases x with
  |copy f' n'=>exact qSh _ _ _ _
  |text x=>exact absurd trivial hy
def tsz (L:List Rl)(D:List Px):Nat:=(D.map (Px.tsize L)).sum
def asz (L:List Rl)(D:List Px):Nat:=(D.map (Px.size L)).sum
theorem qEz (L:List Rl)(a b:List Px):tsz L (a++b)=tsz L a+tsz L b:=by simp[tsz]
theorem xN (L:List Rl)(a b:List Px):asz L (a++b)=asz L a+asz L b:=by simp[asz]
theorem qXa (L:List Rl)(D:List Px):tsz L D≤asz L D:=by
 induction D with
 |nil=>exact Nat.le_refl _
 |cons x D ih=>
  simp only[tsz,asz,List.map_cons,List.sum_cons]at ih ⊢
  have:x.tsize L≤x.size L:=by cases x<;>simp[Px.tsize,Px.size]
  omega
theorem pcs_spec {L:List Rl}(hw:Wf L){f:Nat→Option Nat}{N:Nat}(hf:FIn L N f)(hbest:∀n y t a,L[n]?=some (.power y t)→best L f y t=some a→a+len L (n+1)≤N) {P:Nat→Prop} (hP:∀n r k,P (n+1)→L[n]?=some r→k∈kids r→P k) (hS:∀x,P x→1≤x→Sn L (txt L x) x):∀x,x≤L.length→P x→(∀p∈pcs L f x,p.ok L N)∧asz L (pcs L f x)=len L x∧(pcs L f x).length≤len L x:=by
 intro x
 induction x using Nat.strongRecOn with
 |ind x ih=>
  intro hx hPx
  cases x with
  |zero=>rw[qGn];exact⟨fun p h=>by simp at h,rfl,Nat.le_refl _⟩
  |succ n=>
   have hpos:=rR hw (n+1) oO hx
   cases e:f (n+1)with
   |some a=>
    rw[xA e]
    have:=hf _ _ e
    exact⟨fun p h=>by simp at h;subst h;exact⟨hpos,this⟩,by simp[asz,Px.size],by simpa using hpos⟩
   |none=>
    have one:∀p:Px,p.ok L N→p.size L=len L (n+1)→(∀q∈[p],q.ok L N)∧asz L [p]=len L (n+1)∧[p].length≤len L (n+1):=fun p h1 h2=>⟨fun q hq=>by simp at hq;subst hq;exact h1,by simp[asz,h2],by simpa using hpos⟩
    have tx:Px.ok L N (.text (n+1)):=⟨oO,hS _ hPx oO⟩
    obtain⟨r,hr⟩:∃r,L[n]?=some r:=⟨_,List.getElem?_eq_getElem oO⟩
    cases r with
    |letter b=>rw[tF e hr];exact one _ tx rfl
    |power y t=>
     rw[pQ e hr]
     cases eb:best L f y t with
     |some a=>exact one _ ⟨hpos,hbest n y t a hr eb⟩ rfl
     |none=>exact one _ tx rfl
    |pair l r=>
     have hk:=hw.ok _ _ hr
     have hlp:=nV hr hk
     obtain⟨h1,h2,h3,h4⟩:=hk
     rw[qAk hw e hr]
     obtain⟨a1,a2,a3⟩:=ih l h2 oO (hP _ _ _ hPx hr (by simp[kids]))
     obtain⟨b1,b2,b3⟩:=ih r h4 oO (hP _ _ _ hPx hr (by simp[kids]))
     refine⟨fun p hp=>?_,by rw[xN];omega,by rw[List.length_append];omega⟩
     rcases List.mem_append.1 hp with h| h
     ·exact a1 p h
     exact b1 p h
theorem best_in {L:List Rl}(hw:Wf L){f:Nat→Option Nat}{N:Nat}(hf:FIn L N f):∀n y t a,L[n]?=some (.power y t)→best L f y t=some a→a+len L (n+1)≤N:=fun n y t a hr hb=>by
 obtain⟨⟨i,_,hi⟩,_⟩:=sN hb
 obtain⟨t',h1,h2⟩:=wF.1 hi
 unfold entP at h1
 rw[Nat.add_sub_cancel]at h1
 split at h1
 ·rename_i y' t2 a' g1 g2
  split at h1
  ·rename_i e
   subst e
   simp only[Option.some.injEq,Prod.mk.injEq]at h1
   obtain⟨rfl,rfl⟩:=h1
   have k1:=hf _ _ g2
   rw[kH g1 (hw.ok _ _ g1)]at k1
   rw[kH hr (hw.ok _ _ hr)]
   have:=Nat.mul_le_mul_right (len L y') h2
   omega
  cases h1
 cases h1
end
section
variable {E:Env}{Es:List Ent}{pp tb s most:Nat}
theorem qQb (hE:Seat E){x y g:Nat}(hx:x≤Es.length)(hy:y≤Es.length)(hs:Es.length≤1048576):Ct E 32 [uPt pp,.slice (some ⟨g,0,none⟩) 2 2] [cells pp [uPt s,uPt tb] 86,tabP tb s (rls Es),bR s most Es,cells g [.int .i64 (x:Nat),.int .i64 (y:Nat)] 24] (fun v Q=>v= .tuple #[uPt s,.nilIface]∧Q=[cells pp [uPt s,uPt tb] 86,tabP tb s (rls Es),bR s most Es]):=by
 refine bO (hE.fn Tryz.func32) O O O (fun R=>?_)
 simp only[dV,uV,uW]
 refine gg15 ?_
 refine uX (gU hE) O ?_
 rintro _ _⟨rfl,rfl⟩
 simp only[uV,uW]
 refine gg17 ?_
 have f0:[Value.int .i64 (x:Nat),.int .i64 (y:Nat)][0]?=some (.int .i64 (x:Nat)):=rfl
 have f1:[Value.int .i64 (x:Nat),.int .i64 (y:Nat)][1]?=some (.int .i64 (y:Nat)):=rfl
 refine kD 3 ?_
 refine gg24 ?_
 refine dW 24 O (fun h1=>?_) (fun h1=>?_)
 ·exfalso;omega
 refine gg5 ?_
 refine uX (gU hE) O ?_
 rintro _ _⟨rfl,rfl⟩
 simp only[uV,uW]
 refine gg1 ?_
 refine uX (qDp hE) O ?_
 rintro _ _⟨rfl,rfl⟩
 simp only[uV,uW]
 refine gg5 ?_
 refine bE O (fun h2=>?_) (fun h2=>?_)
 ·exfalso;omega
 refine gg32 ?_
 refine dW 24 O (fun h3=>?_) (fun h3=>?_)
 ·exfalso;omega
 refine gg5 ?_
 refine uX (gU hE) O ?_
 rintro _ _⟨rfl,rfl⟩
 simp only[uV,uW]
 refine gg1 ?_
 refine uX (qDp hE) O ?_
 rintro _ _⟨rfl,rfl⟩
 simp only[uV,uW]
 refine gg5 ?_
 refine bE O (fun h4=>?_) (fun h4=>?_)
 ·exfalso;omega
 refine gg24 ?_
 refine uX (gU hE) O ?_
 rintro _ _⟨rfl,rfl⟩
 simp only[uV,uW]
 refine gg5 ?_
 exact uZ O (.tmp O (.tmp O .nil)) ⟨O,O⟩
theorem qAy (hE:Seat E){p:Option Addr}{m c:Nat}:Ct E 99 [.slice p m c] [] (fun v Q=>∃b1,v= .func (.func 122) #[] ⟨[uPt b1]⟩∧Q=[cells b1 [.slice p m c] 51]):=by
 refine bO (hE.fn Tryz.func99) O O O (fun R=>?_)
 simp only[dV,uV,uW]
 refine gg2 ?_
 refine uU ?_
 refine iV O (fun b1=>?_)
 refine gg10 ?_
 exact uZ O (.tmp O .nil) ⟨b1,O,O⟩
theorem qIf (hE:Seat E){V:List Nat}{g c b1 l:Nat}{J:Nat→HP}(hn:V.length<65536)
  (hy:∀k x,k<V.length→V[V.length-1-k]?=some x→Cy E l [.int .i64 ((V.length-1-k:Nat):Int),.int .i64 (x:Nat)] [J k] (fun v Q=>v= .bool true∧Q=[J (k+1)])):
  Ct E 122 [.func (.yield l) #[] #[],uPt b1] [J 0,cells b1 [.slice (some ⟨g,0,none⟩) V.length c] 51,sl (some ⟨g,0,none⟩) c 24 1 V.length (idC V)]
   (fun v Q=>Q=[J V.length,cells b1 [.slice (some ⟨g,0,none⟩) V.length c] 51,sl (some ⟨g,0,none⟩) c 24 1 V.length (idC V)]):=by
 refine wL (hE.fn Tryz.func122) O O O (fun R=>?_)
 simp only[dV,uV,uW]
 refine iP (eO ?_)
 apply dQ
 ·(apply aO rfl (hE.t rfl) rfl;(repeat(first |rfl|assumption|constructor));done)
 ·rfl
 ·rfl
 refine dQ (uBl O) O O ?_
 refine dQ (uAs O O) O O ?_
 refine dQ (aC O) O O ?_
 refine jG (eQ (yK ?_))
 refine i_loop (fun k:Nat=>[(0,.func (.yield l) #[] #[]),(1,uPt b1),(3,.int .i64 ((V.length:Int)-1-(k:Nat)))]) (fun k=>[J k,cells b1 [.slice (some ⟨g,0,none⟩) V.length c] 51,sl (some ⟨g,0,none⟩) c 24 1 V.length (idC V),R]) (fun k=>V.length-k) (fun k=>k≤V.length) 0 (Nat.zero_le _) ⟨O,O,congrArg some (bW oO),trivial⟩ uI ?_
 intro k hk
 refine iP (iP (eO ?_))
 refine dQ (aB O) O O ?_
 refine dQ (y_ge O O) O O ?_
 refine jG (eQ ?_)
 refine mD O (fun h1=>?_) (fun h1=>?_)
 ·have hkn:k<V.length:=oO
  obtain⟨x,hx⟩:∃x,V[V.length-1-k]?=some x:=⟨_,List.getElem?_eq_getElem oO⟩
  have f0:=kE hx (((V.length:Int)-1-(k:Nat))).toNat oO
  have hyk:=hy k x hkn hx
  rw[show((V.length-1-k:Nat):Int)=(V.length:Int)-1-(k:Nat) by omega]at hyk
  refine tQ (eQ (iP (yK (iP (eO ?_)))))
  refine dQ (aB O) O O ?_
  refine dQ (aB O) O O ?_
  apply dQ
  ·(apply aO rfl (hE.t rfl) rfl;(repeat(first |rfl|assumption|constructor));done)
  ·rfl
  ·rfl
  refine dQ (aB O) O O ?_
  apply dQ
  ·exact uAj O O
  ·rfl
  ·rfl
  apply dQ
  ·(apply aO rfl (hE.t rfl) rfl;(repeat(first |rfl|assumption|constructor));done)
  ·rfl
  ·rfl
  apply j_round O O O (hyk)
  ·exact uK
  rintro _ _⟨rfl,rfl⟩
  simp only[uV,uW]
  refine dQ (y_not O) O O ?_
  refine jG (eQ ?_)
  refine wR O ?_
  refine tQ (sM (eQ (eO ?_)))
  refine dQ (aB O) O O ?_
  refine dQ (uAs O O) O O ?_
  refine dQ (aC O) O O ?_
  refine jG ?_
  refine ai_round (ι:=Nat) (j:=k+1) oO (by show V.length-(k+1)<V.length-k;omega) ⟨O,O,congrArg some (bW oO),trivial⟩ uI
 obtain rfl:k=V.length:=by omega
 refine i_exit (nR (nR (vN ?_)))
 apply ai_end
 ·rfl
 ·(exact Rs.nil)
 ·exact O
 exact uI
theorem qLj (hE:Seat E):Ct E 135 [.slice none 0 0,.int .i64 0,.int .i64 0] [] (fun v Q=>v= .tuple #[]∧Q=[]):=by
 refine bO (hE.fn Tryz.func135) O O O (fun R=>?_)
 simp only[dV,uV,uW]
 refine gg8 ?_
 refine kD 1 ?_
 refine gg14 ?_
 exact uZe O .nil ⟨O,O⟩
theorem qLn (hE:Seat E){l:Int}:Ct E 108 [.slice none 0 0,.int .i64 0,.int .i64 0,.int .i64 l] [] (fun v Q=>v= .tuple #[]∧Q=[]):=by
 refine bO (hE.fn Tryz.func108) O O O (fun R=>?_)
 simp only[dV,uV,uW]
 refine gg11 ?_
 refine kD 1 ?_
 refine gg23 ?_
 refine uX (qLj hE) O ?_
 rintro _ _⟨rfl,rfl⟩
 simp only[uV,uW]
 refine gg7 ?_
 exact uZ O .nil ⟨O,O⟩
theorem qDe (hE:Seat E):Ct E 75 [.slice none 0 0] [] (fun v Q=>v= .tuple #[]∧Q=[]):=by
 refine bO (hE.fn Tryz.func75) O O O (fun R=>?_)
 simp only[dV,uV,uW]
 refine gg12 ?_
 refine uX (tZ hE (k:=0) (by decide)) O ?_
 rintro _ _⟨rfl,rfl⟩
 simp only[uV,uW]
 refine uX (qLn hE) O ?_
 rintro _ _⟨rfl,rfl⟩
 simp only[uV,uW]
 refine gg1 ?_
 exact uZe O .nil ⟨O,O⟩
theorem qQc (hE:Seat E)(hs:Es.length≤1048576):Ct E 73 [uPt s,.int .i64 ((0:Nat):Int)] [bR s most Es] (fun v Q=>v= .bool true∧Q=[bR s most Es]):=qIk hE (Nat.zero_le _) hs
theorem qTq (hE:Seat E){b6 b7 bm:Nat}:
  Ct E 72 [.int .i64 ((0:Nat):Int),uPt b7,uPt b6] [cells b7 [.map (some bm)] 152,mapF bm .i64 (pV (0::[]))]
   (fun v Q=>v= .tuple #[]∧Q=[cells b7 [.map (some bm)] 152,mapF bm .i64 (pV (0::[]))]):=by
 have hm1:E.P.underlying 152=some (.map 24 4):=by rw[hE.P];kernel_rfl
 have hm2:E.P.underlying 24=some (.int .i64):=by rw[hE.P];kernel_rfl
 have hm3:∀w,(zeroValue 4).run E.P w= .ok (.bool false) w:=fun w=>by rw[hE.P];kernel_rfl
 refine bO (hE.fn Tryz.func72) O O O (fun R=>?_)
 simp only[dV,uV,uW]
 refine gg4 ?_
 refine uB (nZ hm1 hm2 hm3 O O uK (qHc List.mem_cons_self)) ?_
 refine gg5 ?_
 exact uZe O .nil ⟨O,O⟩
theorem qSz (hE:Seat E){g:Nat}(hn:Es.length<65536):
  Ct E 41 [uPt s,.slice (some ⟨g,0,none⟩) 1 1] [bR s most Es,cells g [.int .i64 ((0:Nat):Int)] 24]
   (fun v Q=>v= .tuple #[.slice none 0 0,.nilIface]∧Q=[bR s most Es]):=by
 have hgo:goFn E.P 72=true:=hE.f oK
 refine bO (hE.fn Tryz.func41) O O O (fun R=>?_)
 simp only[dV,uV,uW]
 refine gg18 ?_
 refine uU (cZ (hE.t O) (fun b6=>?_))
 refine gg4 ?_
 refine uU ?_
 refine pJ .i64 (fun b19=>?_)
 refine uU ?_
 apply qBy (kt:=24) (et:=4) (by rw[hE.P];kernel_rfl) (by rw[hE.P];kernel_rfl) O O O
 ·exact uK
 refine gg1 ?_
 refine uU (cZ (hE.t O) (fun b7=>?_))
 refine gg18 ?_
 rw[seen0]
 have f0:[Value.int .i64 ((0:Nat):Int)][0]?=some (.int .i64 ((0:Nat):Int)):=rfl
 refine kD 2 ?_
 refine gg24 ?_
 refine uX (qQc (Es:=Es) hE oO) O ?_
 rintro _ _⟨rfl,rfl⟩
 simp only[uV,uW]
 refine gg9 ?_
 refine uU ?_
 apply fT (hx:=O) (ha:=O) (hf:=hgo)
 ·exact qTq (b6:=b6) (b7:=b7) (bm:=b19) hE
 ·exact uK
 rintro _ _⟨rfl,rfl⟩
 simp only[uV,uW]
 refine gg28 ?_
 refine kD 1 ?_
 refine gg19 ?_
 refine uX (qDe hE) O ?_
 rintro _ _⟨rfl,rfl⟩
 simp only[uV,uW]
 refine gg10 ?_
 exact uZ O (.tmp O (.tmp O .nil)) ⟨O,O⟩
def mapN (f:Nat→Option Nat):Int→Option Value:=fun k=>if 0≤k then(f k.toNat).map fun a=> .int .i64 (a:Nat)else none
theorem qJl:mapN (fun _=>none)=fun _=>none:=by funext k;simp[mapN]
theorem qAg (f:Nat→Option Nat)(k:Nat):mapN f ((k:Nat):Int)=(f k).map fun a=> .int .i64 (a:Nat):=by simp[mapN]
theorem qGe (f:Nat→Option Nat)(k a:Nat):setF (mapN f) ((k:Nat):Int) (.int .i64 (a:Nat))=mapN (fun x=>if x=k then some a else f x):=by
 funext x
 unfold setF mapN
 by_cases h:0≤x
 ·rw[if_pos h]
  by_cases e:x.toNat=k
  ·rw[if_pos (show x=((k:Nat):Int) by omega),if_pos h]
   show _=Option.map _ (if x.toNat=k then some a else f x.toNat)
   rw[if_pos e];rfl
  rw[if_neg (show ¬x=((k:Nat):Int) by omega),if_pos h]
  show _=Option.map _ (if x.toNat=k then some a else f x.toNat)
  rw[if_neg e]
 rw[if_neg h,if_neg (show ¬x=((k:Nat):Int) by omega),if_neg h]
theorem fput_low {f:Nat→Option Nat}{k a b:Nat}(h:f k=some b)(hab:b≤a):fput f k a=f:=by
 funext x
 unfold fput
 by_cases e:x=k
 ·subst e;rw[if_pos rfl,h];simp only;rw[Nat.min_eq_left hab]
 rw[if_neg e]
theorem qOd {f:Nat→Option Nat}{k a:Nat}(h:∀b,f k=some b→a<b):(fun x=>if x=k then some a else f x)=fput f k a:=by
 funext x
 unfold fput
 by_cases e:x=k
 ·subst e
  rw[if_pos rfl,if_pos rfl]
  cases e2:f x with
  |none=>rfl
  |some b=>have:=h b e2;simp only;rw[Nat.min_eq_right oO]
 rw[if_neg e,if_neg e]
theorem qFl (hE:Seat E){b8 bm k a:Nat}{f:Nat→Option Nat}:
  Ct E 98 [.int .i64 (k:Nat),.int .i64 (a:Nat),uPt b8] [cells b8 [.map (some bm)] 135,mapF bm .i64 (mapN f)] (fun v Q=>v= .tuple #[]∧Q=[cells b8 [.map (some bm)] 135,mapF bm .i64 (mapN (fput f k a))]):=by
 have hm1:E.P.underlying 135=some (.map 24 3):=by rw[hE.P];kernel_rfl
 have hm2:E.P.underlying 24=some (.int .i64):=by rw[hE.P];kernel_rfl
 have hm3:∀w,(zeroValue 3).run E.P w= .ok (.int .i64 0) w:=fun w=>by rw[hE.P];kernel_rfl
 have hf:=qAg f k
 refine bO (hE.fn Tryz.func98) O O O (fun R=>?_)
 simp only[dV,uV,uW]
 refine gg4 ?_
 refine uB (nZ (ok:=true) hm1 hm2 hm3 O O uK hf) ?_
 cases e:f k with
 |none=>
  simp only[Option.map_none,wM,Option.getD_none,Option.isSome_none,if_true]
  refine gg23 ?_
  refine uU ?_
  apply mM (kt:=24) (et:=3) (by rw[hE.P];kernel_rfl) (by rw[hE.P];kernel_rfl) O O O
  ·exact uK
  refine gg1 ?_
  rw[qGe,qOd (a:=a) (fun b h=>by rw[e]at h;cases h)]
  exact uZe O .nil ⟨O,O⟩
 |some b=>
  simp only[Option.map_some,wM,Option.getD_some,Option.isSome_some,if_true]
  refine gg21 ?_
  refine bE O (fun h1=>?_) (fun h1=>?_)
  ·refine gg4 ?_
   refine uU ?_
   apply mM (kt:=24) (et:=3) (by rw[hE.P];kernel_rfl) (by rw[hE.P];kernel_rfl) O O O
   ·exact uK
   refine gg1 ?_
   rw[qGe,qOd (a:=a) (fun c h=>by rw[e]at h;cases h;omega)]
   exact uZe O .nil ⟨O,O⟩
  rw[fput_low (a:=a) e oO]
  refine gg1 ?_
  exact uZe O .nil ⟨O,O⟩
end
section
variable {E:Env}{Es:List Ent}{pp tb s most:Nat}
theorem fbase_ne {base:Nat}(h:base≠0):jT base=fun x=>if x=base then some 0 else none:=by
 funext x
 unfold jT
 by_cases e:x=base
 ·rw[if_pos ⟨e,oO⟩,if_pos e]
 rw[if_neg (fun h=>e h.1),if_neg e]
theorem qQr:jT 0=fun _=>none:=by
 funext x
 unfold jT
 by_cases e:x=0
 ·rw[if_neg (fun h=>h.2 e)]
 rw[if_neg (fun h=>e h.1)]
theorem zS (hE:Seat E){b1 l:Nat}{J:HP}:
  Ct E 122 [.func (.yield l) #[] #[],uPt b1] [J,cells b1 [.slice none 0 0] 51] (fun v Q=>Q=[J,cells b1 [.slice none 0 0] 51]):=by
 refine wL (hE.fn Tryz.func122) O O O (fun R=>?_)
 simp only[dV,uV,uW]
 refine iP (eO ?_)
 apply dQ
 ·(apply aO rfl (hE.t rfl) rfl;(repeat(first |rfl|assumption|constructor));done)
 ·rfl
 ·rfl
 refine dQ (uBl O) O O ?_
 refine dQ (uAs O O) O O ?_
 refine dQ (aC O) O O ?_
 refine jG (eQ (yK ?_))
 refine i_loop (fun k:Nat=>[(0,.func (.yield l) #[] #[]),(1,uPt b1),(3,.int .i64 (-1))]) (fun k=>[J,cells b1 [.slice none 0 0] 51,R]) (fun k=>0) (fun k=>True) 0 trivial ⟨O,O,congrArg some (bW oO),trivial⟩ uI ?_
 intro k hk
 refine iP (iP (eO ?_))
 refine dQ (aB O) O O ?_
 refine dQ (y_ge O O) O O ?_
 refine jG (eQ ?_)
 refine mD O (fun h1=>?_) (fun h1=>?_)
 ·exfalso;omega
 refine i_exit (nR (nR (vN ?_)))
 apply ai_end
 ·rfl
 ·(exact Rs.nil)
 ·exact O
 exact uI
theorem ct_occ0 (hE:Seat E)(hn:Es.length<65536):Ct E 64 [uPt s,.int .i64 ((0:Nat):Int)] [bR s most Es]
  (fun v Q=>∃bm,v= .tuple #[.map (some bm),.nilIface]∧Q=[bR s most Es,mapF bm .i64 (mapN (gL (rls Es) 0))]):=by
 have e0:mapN (gL (rls Es) 0)=fun _=>none:=by
  have:gL (rls Es) 0=jT 0:=rfl
  rw[this,qQr,qJl]
 rw[e0]
 refine wL (hE.fn Tryz.func64) O O O (fun R=>?_)
 simp only[dV,uV,uW]
 refine iP (eO ?_)
 apply gM O O
 refine iV O (fun b2=>?_)
 apply gM O O
 refine cZ (hE.t O) (fun b4=>?_)
 apply gM O O
 refine cZ (hE.t O) (fun b5=>?_)
 refine jG (eQ (iP (eO ?_)))
 apply dQ
 ·(apply aO rfl (hE.t rfl) rfl;(repeat(first |rfl|assumption|constructor));done)
 ·rfl
 ·rfl
 refine dQ (aB O) O O ?_
 apply gM O O
 refine aU (hE.t O) (hE.t O) O O O (fun b20=>?_)
 apply gM O O
 refine uC (qSz hE hn) O ?_
 rintro _ _⟨rfl,rfl⟩
 simp only[uV,uW]
 refine dQ (aB O) O O ?_
 refine dQ (aT O O) O O ?_
 refine dQ (aT O O) O O ?_
 refine dQ (aC O) O O ?_
 refine dQ (aC O) O O ?_
 refine jG (eQ (iP (iP (eO ?_))))
 refine dQ (aB O) O O ?_
 apply dQ
 ·exact qDb O (hE.t O)
 ·rfl
 ·rfl
 refine jG (eQ ?_)
 refine wR O ?_
 refine tQ (eQ (iP (eO ?_)))
 apply gM O O
 refine pJ .i64 (fun b27=>?_)
 apply gM O O
 refine cZ (hE.t O) (fun b8=>?_)
 apply gM O O
 refine uS ?_
 refine jG (eQ (iP (iP (eO ?_))))
 refine dQ (aB O) O O ?_
 refine dQ (y_ne O O) O O ?_
 refine jG (eQ ?_)
 refine mD O (fun hb=>?_) (fun hb=>?_)
 ·exfalso;omega
 refine tQ (eQ (iP (eO ?_)))
 refine dQ (zG O) O O ?_
 apply gM O O
 refine qJh (by rw[hE.P];kernel_rfl) (fun b9=>?_)
 apply gM O O
 (apply qJj rfl rfl (by rw[hE.P];kernel_rfl) rfl;(focus((repeat constructor);done));(focus rfl);(focus(exact Nat.le_of_ble_eq_true rfl)))
 refine jG (eQ (iP (iP (eO ?_))))
 refine dQ (aB O) O O ?_
 apply gM O O
 refine uC (qAy hE) O ?_
 rintro _ _⟨b1,rfl,rfl⟩
 simp only[uV,uW]
 refine jG (eQ (yK ?_))
 refine qUp 0 (fun _=>[.int .i64 0,.int .i64 0]) (fun _=>[]) [cells b1 [.slice none 0 0] 51] (fun _=>[]) O (hE.f oK) (by decide) (fun _=>O) uK (fun l J' _=>zS hE) (fun k l B hk=>absurd hk oO) (fun k l B hk=>absurd hk oO) (fun D=>?_)
 simp only[List.nil_append,List.cons_append]
 refine sM (eQ ?_)
 refine iP (eO ?_)
 apply dQ
 ·(apply aO rfl (hE.t rfl) rfl;(repeat(first |rfl|assumption|constructor));done)
 ·rfl
 ·rfl
 apply gM O O
 refine uS ?_
 apply gM O O
 refine uS ?_
 refine jG (eQ (i_ret ?_))
 apply qNh
 ·rfl
 ·exact uK
 ·((apply Rs.cell1 rfl (hE.t rfl) rfl;(focus((repeat(first |rfl|assumption|constructor));done)));(apply Rs.cell1 rfl (hE.t rfl) rfl;(focus((repeat(first |rfl|assumption|constructor));done)));exact Rs.nil)
 ·exact⟨_,O,O⟩
 exact uI
theorem qTx {V:List Nat}{k x:Nat}(hk:k<V.length)(hx:V[V.length-1-k]?=some x):V.drop (V.length-(k+1))=x::V.drop (V.length-k):=by
 have e:V.length-(k+1)=V.length-1-k:=oO
 rw[e,List.drop_eq_getElem_cons oO,(List.getElem?_eq_some_iff.1 hx).2]
 congr 2
 omega
theorem qVi {L:List Rl}(hw:Wf L){n:Nat}{f:Nat→Option Nat}:∀(B:List Nat),FIn L n f→FIn L n (tN L B f)
 |[],h=>h
 |v::B,h=>(qVi hw B h).step hw
theorem ct_occ1 (hE:Seat E){base:Nat}(h1:1≤base)(h2:base≤Es.length)(hn:Es.length<65536):Ct E 64 [uPt s,.int .i64 (base:Nat)] [bR s most Es]
  (fun v Q=>∃bm,v= .tuple #[.map (some bm),.nilIface]∧Q=[bR s most Es,mapF bm .i64 (mapN (gL (rls Es) base))]):=by
 have hm1:E.P.underlying 135=some (.map 24 3):=by rw[hE.P];kernel_rfl
 have hm2:E.P.underlying 24=some (.int .i64):=by rw[hE.P];kernel_rfl
 have hm3:∀w,(zeroValue 3).run E.P w= .ok (.int .i64 0) w:=fun w=>by rw[hE.P];kernel_rfl
 have hgo:goFn E.P 98=true:=hE.f oK
 refine fG (p:=bR s most Es) uK (fun _ h=>dU h) (fun hsay=>?_)
 have hw:=hsay.1
 have hLl:=bQ Es
 refine wL (hE.fn Tryz.func64) O O O (fun R=>?_)
 simp only[dV,uV,uW]
 refine iP (eO ?_)
 apply gM O O
 refine iV O (fun b2=>?_)
 apply gM O O
 refine cZ (hE.t O) (fun b4=>?_)
 apply gM O O
 refine cZ (hE.t O) (fun b5=>?_)
 refine jG (eQ (iP (eO ?_)))
 apply dQ
 ·(apply aO rfl (hE.t rfl) rfl;(repeat(first |rfl|assumption|constructor));done)
 ·rfl
 ·rfl
 refine dQ (aB O) O O ?_
 apply gM O O
 refine aU (hE.t O) (hE.t O) O O O (fun b20=>?_)
 apply gM O O
 refine uC (ct_Reach hE h1 h2 hn) O ?_
 rintro _ _⟨p0,c0,V,rfl,hnd,hps,hV,rfl⟩
 have hVl:V.length<65536:=by
  have:=tC hnd (B:=(List.range (Es.length+1))) (fun x hx=>List.mem_range.2 (by have:=((hV x).1 hx).pos;omega))
  simp at this
  have hz:0∉V:=fun h=>by have:=((hV 0).1 h).pos;omega
  have:=tC (A:=0::V) (B:=List.range (Es.length+1)) (List.nodup_cons.2 ⟨hz,hnd⟩) (fun x hx=>List.mem_range.2 (by
   rcases List.mem_cons.1 hx with rfl|hx
   ·omega
   have:=((hV x).1 hx).pos;omega))
  simp at this
  omega
 have hsrt:V.Pairwise (· < ·):=by
  have h3:=List.nodup_iff_pairwise_ne.1 hnd
  exact(hps.and h3).imp fun⟨a,b⟩=>by omega
 simp only[uV,uW]
 refine dQ (aB O) O O ?_
 refine dQ (aT O O) O O ?_
 refine dQ (aT O O) O O ?_
 refine dQ (aC O) O O ?_
 refine dQ (aC O) O O ?_
 refine jG (eQ (iP (iP (eO ?_))))
 refine dQ (aB O) O O ?_
 apply dQ
 ·exact qDb O (hE.t O)
 ·rfl
 ·rfl
 refine jG (eQ ?_)
 refine wR O ?_
 refine tQ (eQ (iP (eO ?_)))
 apply gM O O
 refine pJ .i64 (fun b27=>?_)
 apply gM O O
 refine cZ (hE.t O) (fun b8=>?_)
 apply gM O O
 refine uS ?_
 refine jG (eQ (iP (iP (eO ?_))))
 refine dQ (aB O) O O ?_
 refine dQ (y_ne O O) O O ?_
 refine jG (eQ ?_)
 refine mD O (fun hb=>?_) (fun hb=>?_)
 ·refine eO ?_
  apply dQ
  ·(apply aO rfl (hE.t rfl) rfl;(repeat(first |rfl|assumption|constructor));done)
  ·rfl
  ·rfl
  refine dQ (aB O) O O ?_
  apply gM O O
  apply mM (kt:=24) (et:=3) (by rw[hE.P];kernel_rfl) (by rw[hE.P];kernel_rfl) O O O
  ·exact uK
  refine jG (eQ (iP (eO ?_)))
  refine dQ (zG O) O O ?_
  apply gM O O
  refine qJh (by rw[hE.P];kernel_rfl) (fun b9=>?_)
  apply gM O O
  (apply qJj rfl rfl (by rw[hE.P];kernel_rfl) rfl;(focus((repeat constructor);done));(focus rfl);(focus(exact Nat.le_of_ble_eq_true rfl)))
  refine jG (eQ (iP (iP (eO ?_))))
  refine dQ (aB O) O O ?_
  have em:setF (fun _:Int=>(none:Option Value)) ((base:Nat):Int) (.int .i64 0)=mapN (jT base):=by
   rw[fbase_ne oO,←qJl]
   exact qGe _ base 0
  rw[em]
  apply gM O O
  refine uC (qAy hE) O ?_
  rintro _ _⟨bq,rfl,rfl⟩
  simp only[uV,uW]
  refine jG (eQ (yK ?_))
  apply qUp V.length (fun k=>[.int .i64 ((V.length-1-k:Nat):Int),.int .i64 ((V[V.length-1-k]?.getD 0:Nat):Int)]) (fun k=>[bR s most Es,cells b2 [uPt s] 31,cells b8 [.map (some b27)] 135,cells b9 [.func (.func 98) #[] ⟨[uPt b8]⟩] 189,mapF b27 .i64 (mapN (tN (rls Es) (V.drop (V.length-k)) (jT base)))]) [cells bq [.slice (some ⟨p0,0,none⟩) V.length c0] 51,sl (some ⟨p0,0,none⟩) c0 24 1 V.length (idC V)] (fun k=>[(2,uPt b2),(8,uPt b8),(9,uPt b9),(11,.int .i64 ((V[V.length-1-k]?.getD 0:Nat):Int))]) O (hE.f oK) (by decide) (fun _=>O)
  ·show Sl.Sub _ _ _
   rw[Nat.sub_zero,List.drop_length]
   show Sl.Sub [bR s most Es,_,_,_,mapF b27 .i64 (mapN (jT base)),_,_] _ _
   ((repeat constructor);done)
  ·intro l J' hy
   refine qIf hE hVl fun k x hk hx=>?_
   have:=hy k hk
   rw[hx]at this
   exact this
  ·intro k l B hk
   refine eO ?_
   refine dQ (aC O) O O ?_
   refine jG ?_
   exact ai_aend ⟨O,O,O,O,trivial⟩ uI
  ·intro k l B hk
   obtain⟨x,hx⟩:∃x,V[V.length-1-k]?=some x:=⟨_,List.getElem?_eq_getElem oO⟩
   obtain⟨m,rfl⟩:∃m,x=m+1:=⟨x-1,by have:=((hV x).1 (List.mem_of_getElem? hx)).pos;omega⟩
   have hxb:=((hV _).1 (List.mem_of_getElem? hx)).pos
   obtain⟨y,hy⟩:∃y,Es[m]?=some y:=⟨_,List.getElem?_eq_getElem oO⟩
   have hyr:(rls Es)[m]?=some y.r:=rU hy
   have hdn:=qTx hk hx
   have hcov:=(qJd hw hsrt hV (V.drop (V.length-(k+1))) (V.take (V.length-(k+1))) (by rw[List.take_append_drop])).1 _ _ hdn
   obtain⟨a,ha⟩:∃a,tN (rls Es) (V.drop (V.length-k)) (jT base) (m+1)=some a:=by
    cases e:tN (rls Es) (V.drop (V.length-k)) (jT base) (m+1)with
    |none=>exact absurd e hcov
    |some a=>exact⟨a,rfl⟩
   have hnext:tN (rls Es) (V.drop (V.length-(k+1))) (jT base)=yG (rls Es) (tN (rls Es) (V.drop (V.length-k)) (jT base)) a y.r:=by
    rw[hdn]
    show pE _ (m+1-1) _=_
    rw[Nat.add_sub_cancel]
    exact wO ha hyr
   rw[hnext,hx]
   simp only[Option.getD_some,uV,uW]
   have hfb:∀j b,tN (rls Es) (V.drop (V.length-k)) (jT base) j=some b→b≤1152921504606846976:=fun j b h=>by
    have h3:=qVi hw (V.drop (V.length-k)) (FIn.base base) j b h
    have h4:=hw.short base
    have:dB=1152921504606846976:=rfl
    omega
   generalize tN (rls Es) (V.drop (V.length-k)) (jT base)=f at ha hfb ⊢
   have hf:=qAg f (m+1)
   rw[ha]at hf
   refine yK (iP (eO ?_))
   apply dQ
   ·(apply aO rfl (hE.t rfl) rfl;(repeat(first |rfl|assumption|constructor));done)
   ·rfl
   ·rfl
   refine dQ (aB O) O O ?_
   apply gM O O
   refine uC (qD hE hy) O ?_
   rintro _ _⟨rfl,rfl⟩
   simp only[uV,uW]
   refine dQ (aB O) O O ?_
   refine dQ (aT O O) O O ?_
   refine dQ (aT O O) O O ?_
   apply gM O O
   refine cZ (hE.t O) (fun b12=>?_)
   apply gM O O
   refine uS ?_
   refine dQ (aC O) O O ?_
   refine jG (eQ (iP (iP (eO ?_))))
   refine dQ (aB O) O O ?_
   apply dQ
   ·exact qDb O (hE.t O)
   ·rfl
   ·rfl
   refine jG (eQ ?_)
   refine wR O ?_
   refine tQ (eQ (iP (eO ?_)))
   apply dQ
   ·(apply aO rfl (hE.t rfl) rfl;(repeat(first |rfl|assumption|constructor));done)
   ·rfl
   ·rfl
   refine dQ (aB O) O O ?_
   apply dQ
   ·exact nZ (ok:=false) hm1 hm2 hm3 O O uK hf
   ·rfl
   ·rfl
   have hk':=hw.ok _ _ hyr
   have hmx:dB=1152921504606846976:=rfl
   have hbl:∀j b,f j=some b→b≤1152921504606846976:=fun j b h=>hfb j b h
   have ha2:=hbl _ _ ha
   generalize y.r=r at hyr hk' ⊢
   simp only[wM,Option.map_some,Option.getD_some,Bool.false_eq_true,if_false]
   cases r with
   |letter b=>
    refine dQ (aC O) O O ?_
    refine jG (eQ (iP (iP (eO ?_))))
    refine dQ (uBf O) O O ?_
    apply dQ
    ·(apply aO rfl (hE.t rfl) rfl;(repeat(first |rfl|assumption|constructor));done)
    ·rfl
    ·rfl
    refine dQ (y_ne O O) O O ?_
    refine jG (eQ ?_)
    refine mD O (fun e1=>?_) (fun e1=>?_)
    ·exfalso;simp[Rl.left]at e1
    refine tQ (eQ (iP (eO ?_)))
    refine dQ (uBf O) O O ?_
    apply dQ
    ·(apply aO rfl (hE.t rfl) rfl;(repeat(first |rfl|assumption|constructor));done)
    ·rfl
    ·rfl
    refine dQ (y_ne O O) O O ?_
    refine jG (eQ ?_)
    refine mD O (fun e2=>?_) (fun e2=>?_)
    ·exfalso;simp[Rl.right]at e2
    refine tQ (sM ?_)
    exact qLe uI
   |power z t=>
    obtain⟨k1,k2,k3⟩:=hk'
    refine dQ (aC O) O O ?_
    refine jG (eQ (iP (iP (eO ?_))))
    refine dQ (uBf O) O O ?_
    apply dQ
    ·(apply aO rfl (hE.t rfl) rfl;(repeat(first |rfl|assumption|constructor));done)
    ·rfl
    ·rfl
    refine dQ (y_ne O O) O O ?_
    refine jG (eQ ?_)
    refine mD O (fun e1=>?_) (fun e1=>?_)
    ·refine eO ?_
     apply dQ
     ·(apply qNe rfl (by rw[hE.P];kernel_rfl);(repeat(first |rfl|assumption|constructor));done)
     ·rfl
     ·rfl
     refine dQ (uBf O) O O ?_
     apply dQ
     ·(apply aO rfl (hE.t rfl) rfl;(repeat(first |rfl|assumption|constructor));done)
     ·rfl
     ·rfl
     refine dQ (aB O) O O ?_
     apply gM O O
     apply fT (hx:=O) (ha:=O) (hf:=hE.f oK)
     ·exact qFl (bm:=b27) (k:=z) (a:=a) (f:=f) hE
     ·exact uK
     rintro _ _⟨rfl,rfl⟩
     simp only[uV,uW]
     refine jG (eQ (iP (eO ?_)))
     refine dQ (uBf O) O O ?_
     apply dQ
     ·(apply aO rfl (hE.t rfl) rfl;(repeat(first |rfl|assumption|constructor));done)
     ·rfl
     ·rfl
     refine dQ (y_ne O O) O O ?_
     refine jG (eQ ?_)
     refine mD O (fun e2=>?_) (fun e2=>?_)
     ·exfalso;simp[Rl.right]at e2
     refine tQ (sM ?_)
     exact qLe uI
    exfalso;simp only[Rl.left]at e1;omega
   |pair z q=>
    obtain⟨k1,k2,k3,k4⟩:=hk'
    obtain⟨i,rfl⟩:∃i,z=i+1:=⟨z-1,oO⟩
    obtain⟨y2,hy2⟩:∃y,Es[i]?=some y:=⟨_,List.getElem?_eq_getElem oO⟩
    have htl:y2.t.length=len (rls Es) (i+1):=by rw[hsay.2.1 i y2 hy2];rfl
    have hsh:=hw.short (i+1)
    refine dQ (aC O) O O ?_
    refine jG (eQ (iP (iP (eO ?_))))
    refine dQ (uBf O) O O ?_
    apply dQ
    ·(apply aO rfl (hE.t rfl) rfl;(repeat(first |rfl|assumption|constructor));done)
    ·rfl
    ·rfl
    refine dQ (y_ne O O) O O ?_
    refine jG (eQ ?_)
    refine mD O (fun e1=>?_) (fun e1=>?_)
    ·refine eO ?_
     apply dQ
     ·(apply qNe rfl (by rw[hE.P];kernel_rfl);(repeat(first |rfl|assumption|constructor));done)
     ·rfl
     ·rfl
     refine dQ (uBf O) O O ?_
     apply dQ
     ·(apply aO rfl (hE.t rfl) rfl;(repeat(first |rfl|assumption|constructor));done)
     ·rfl
     ·rfl
     refine dQ (aB O) O O ?_
     apply gM O O
     apply fT (hx:=O) (ha:=O) (hf:=hE.f oK)
     ·exact qFl (bm:=b27) (k:=i+1) (a:=a) (f:=f) hE
     ·exact uK
     rintro _ _⟨rfl,rfl⟩
     simp only[uV,uW]
     refine jG (eQ (iP (eO ?_)))
     refine dQ (uBf O) O O ?_
     apply dQ
     ·(apply aO rfl (hE.t rfl) rfl;(repeat(first |rfl|assumption|constructor));done)
     ·rfl
     ·rfl
     refine dQ (y_ne O O) O O ?_
     refine jG (eQ ?_)
     refine mD O (fun e2=>?_) (fun e2=>?_)
     ·refine iP (eO ?_)
      apply dQ
      ·(apply aO rfl (hE.t rfl) rfl;(repeat(first |rfl|assumption|constructor));done)
      ·rfl
      ·rfl
      refine dQ (uBf O) O O ?_
      apply dQ
      ·(apply aO rfl (hE.t rfl) rfl;(repeat(first |rfl|assumption|constructor));done)
      ·rfl
      ·rfl
      apply gM O O
      refine uC (mG hE hy2) O ?_
      rintro _ _⟨rfl,rfl⟩
      simp only[uV,uW]
      rw[htl]
      refine dQ (aB O) O O ?_
      refine dQ (aT O O) O O ?_
      refine dQ (aT O O) O O ?_
      apply gM O O
      refine cZ (hE.t O) (fun b15=>?_)
      apply gM O O
      refine uS ?_
      refine dQ (aC O) O O ?_
      refine jG (eQ (iP (iP (eO ?_))))
      refine dQ (aB O) O O ?_
      apply dQ
      ·exact qDb O (hE.t O)
      ·rfl
      ·rfl
      refine jG (eQ ?_)
      refine wR O ?_
      refine tQ (eQ (eO ?_))
      apply dQ
      ·(apply qNe rfl (by rw[hE.P];kernel_rfl);(repeat(first |rfl|assumption|constructor));done)
      ·rfl
      ·rfl
      refine dQ (uBf O) O O ?_
      apply dQ
      ·(apply aO rfl (hE.t rfl) rfl;(repeat(first |rfl|assumption|constructor));done)
      ·rfl
      ·rfl
      refine dQ (aB O) O O ?_
      refine dQ (uBf O) O O ?_
      apply dQ
      ·(apply aO rfl (hE.t rfl) rfl;(repeat(first |rfl|assumption|constructor));done)
      ·rfl
      ·rfl
      refine dQ (uAa O O) O O ?_
      refine j_eq 76 (.int .i64 ((a+len (rls Es) (i+1):Nat):Int)) O (bW oO) ?_
      apply gM O O
      apply fT (hx:=O) (ha:=O) (hf:=hE.f oK)
      ·exact qFl (bm:=b27) (k:=q) (a:=a+len (rls Es) (i+1)) (f:=fput f (i+1) a) hE
      ·exact uK
      rintro _ _⟨rfl,rfl⟩
      simp only[uV,uW]
      refine jG (sM ?_)
      exact qLe uI
     exfalso;simp only[Rl.right]at e2;omega
    exfalso;simp only[Rl.left]at e1;omega
  intro D
  simp only[List.nil_append,List.cons_append]
  rw[Nat.sub_self,List.drop_zero,qLx hw oO hsrt hV]
  refine sM (eQ ?_)
  refine iP (eO ?_)
  apply dQ
  ·(apply aO rfl (hE.t rfl) rfl;(repeat(first |rfl|assumption|constructor));done)
  ·rfl
  ·rfl
  apply gM O O
  refine uS ?_
  apply gM O O
  refine uS ?_
  refine jG (eQ (i_ret ?_))
  apply qNh
  ·rfl
  ·exact uK
  ·((apply Rs.cell1 rfl (hE.t rfl) rfl;(focus((repeat(first |rfl|assumption|constructor));done)));(apply Rs.cell1 rfl (hE.t rfl) rfl;(focus((repeat(first |rfl|assumption|constructor));done)));exact Rs.nil)
  ·exact⟨_,O,O⟩
  exact uI
 exfalso;omega
end
end Go.Proofs.YtblljbllmnbiaaaGreatDoor
namespace Sl
open Go Go.RowKit
theorem qEx {l l':List HP}(h:l.Perm l'):∀k,dS l k→dS l' k:=by
 induction h with
 |nil=>exact fun k x=>x
 |cons p _ ih=>exact fun k x=>eG (fun k' y=>ih k' y) x
 |swap p q l=>exact fun k x=>fE x
 |trans _ _ i1 i2=>exact fun k x=>i2 k (i1 k x)
theorem qKo {H:List HP}:∀k,dS H k→dS (dS []::H) k:=fun k x=>⟨fun _=>none,k,fun _=> .inl rfl,by funext b;simp[join],trivial,x⟩
end Sl
namespace Go.Proofs.YtblljbllmnbiaaaGreatDoor
set_option maxRecDepth 10000
section
open Go Go.RowKit Sl Eg
variable {E:Env}{Es:List Ent}{pp tb s most:Nat}
def updF {α:Type}(f:Nat→α)(y:Nat)(v:α):Nat→α:=fun x=>if x=y then v else f x
theorem lN {α:Type}(f:Nat→α)(y:Nat)(v:α):updF f y v y=v:=by simp[updF]
theorem jP {α:Type}(f:Nat→α){y x:Nat}(v:α)(h:x≠y):updF f y v x=f x:=by simp[updF,h]
def jU (K:List Nat)(P:Nat→Option Addr×Nat)(X:Nat→List (Nat×Nat)):Int→Option Value:=fun k=>if 0≤k∧k.toNat∈K then some (.slice (P k.toNat).1 (X k.toNat).length (P k.toNat).2)else none
theorem qAh {K:List Nat}{P:Nat→Option Addr×Nat}{X:Nat→List (Nat×Nat)}{y:Nat}(h:y∈K):jU K P X ((y:Nat):Int)=some (.slice (P y).1 (X y).length (P y).2):=by
 unfold jU
 rw[if_pos ⟨oO,by simpa using h⟩]
 simp
theorem qJm {K:List Nat}{P:Nat→Option Addr×Nat}{X:Nat→List (Nat×Nat)}{y:Nat}(h:y∉K):jU K P X ((y:Nat):Int)=none:=by
 unfold jU
 rw[if_neg (fun hh=>h (by simpa using hh.2))]
theorem qVb (P:Nat→Option Addr×Nat)(X:Nat→List (Nat×Nat)):jU [] P X=fun _=>none:=by
 funext k
 unfold jU
 rw[if_neg (fun hh=>by simp at hh)]
theorem qJn {K K':List Nat}{P:Nat→Option Addr×Nat}{X:Nat→List (Nat×Nat)}{y:Nat}(p:Option Addr)(c:Nat)(l:List (Nat×Nat))(hK:∀x,x∈K'↔x=y∨x∈K):setF (jU K P X) ((y:Nat):Int) (.slice p l.length c)=jU K' (updF P y (p,c)) (updF X y l):=by
 funext k
 unfold setF
 by_cases hk:k=((y:Nat):Int)
 ·subst hk
  rw[if_pos rfl,qAh ((hK y).2 (.inl rfl)),lN,lN]
 rw[if_neg hk]
 unfold jU
 by_cases h0:0≤k
 ·have hne:k.toNat≠y:=oO
  have e:(0≤k∧k.toNat∈K)↔(0≤k∧k.toNat∈K'):=by rw[hK];simp[hne]
  by_cases h1:0≤k∧k.toNat∈K
  ·rw[if_pos h1,if_pos (e.1 h1),jP _ _ hne,jP _ _ hne]
  rw[if_neg h1,if_neg (fun h=>h1 (e.2 h))]
 rw[if_neg (fun h=>h0 h.1),if_neg (fun h=>h0 h.1)]
theorem qVa {K:List Nat}{P:Nat→Option Addr×Nat}{X X':Nat→List (Nat×Nat)}(h:∀y∈K,(X y).length=(X' y).length):jU K P X=jU K P X':=by
 funext k
 unfold jU
 by_cases h1:0≤k∧k.toNat∈K
 ·rw[if_pos h1,if_pos h1,h _ h1.2]
 rw[if_neg h1,if_neg h1]
abbrev slP (P:Option Addr×Nat)(l:List (Nat×Nat)):HP:=sl P.1 P.2 143 2 l.length (pwC l)
def bag (K:List Nat)(P:Nat→Option Addr×Nat)(X:Nat→List (Nat×Nat)):HP:=dS (K.map fun y=>slP (P y) (X y))
theorem bag_out {K:List Nat}{P:Nat→Option Addr×Nat}{X:Nat→List (Nat×Nat)}{y:Nat}{H:List HP}(h:y∈K):∀k,dS (bag K P X::H) k→dS (slP (P y) (X y)::bag (K.erase y) P X::H) k:=fun k x=>by
 have h1:dS (K.map (fun y=>slP (P y) (X y))++H) k:=gP (fun _ y=>y) x
 have h2:=qEx (((List.perm_cons_erase h).map fun y=>slP (P y) (X y)).append_right H) k h1
 exact eG (fun k' y=>fV (fun _ z=>z) y) h2
theorem qNk {K:List Nat}{P P':Nat→Option Addr×Nat}{X X':Nat→List (Nat×Nat)}(h:∀y∈K,P y=P' y∧X y=X' y):bag K P X=bag K P' X':=by
 unfold bag
 congr 1
 exact List.map_congr_left fun y hy=>by rw[(h y hy).1,(h y hy).2]
theorem qSn {K:List Nat}{P:Nat→Option Addr×Nat}{X:Nat→List (Nat×Nat)}{y:Nat}{H:List HP}(hn:K.Nodup)(h:y∈K)(p:Option Addr)(c:Nat)(l:List (Nat×Nat)):∀k,dS (slP (p,c) l::bag (K.erase y) P X::H) k→dS (bag K (updF P y (p,c)) (updF X y l)::H) k:=fun k x=>by
 have e:bag (K.erase y) P X=bag (K.erase y) (updF P y (p,c)) (updF X y l):=qNk fun z hz=>by
  have hne:z≠y:=fun e=>by subst e;exact(List.Nodup.not_mem_erase hn) hz
  rw[jP _ _ hne,jP _ _ hne]
  exact⟨O,O⟩
 rw[e]at x
 have h1:dS (slP (p,c) l::((K.erase y).map (fun z=>slP (updF P y (p,c) z) (updF X y l z))++H)) k:=eG (fun k' z=>gP (fun _ y=>y) z) x
 have h2:=qEx ((((List.perm_cons_erase h).map fun z=>slP (updF P y (p,c) z) (updF X y l z)).symm).append_right H) k (by
  rw[List.map_cons,lN,lN]
  exact h1)
 exact fV (fun _ z=>z) h2
theorem bag_new {K:List Nat}{P:Nat→Option Addr×Nat}{X:Nat→List (Nat×Nat)}{y:Nat}{H:List HP}(h:y∉K)(p:Option Addr)(c:Nat)(l:List (Nat×Nat)):∀k,dS (slP (p,c) l::bag K P X::H) k→dS (bag (y::K) (updF P y (p,c)) (updF X y l)::H) k:=fun k x=>by
 have e:bag K P X=bag K (updF P y (p,c)) (updF X y l):=qNk fun z hz=>by
  have hne:z≠y:=fun e=>by subst e;exact h hz
  rw[jP _ _ hne,jP _ _ hne]
  exact⟨O,O⟩
 rw[e]at x
 have h1:dS (slP (p,c) l::(K.map (fun z=>slP (updF P y (p,c) z) (updF X y l z))++H)) k:=eG (fun k' z=>gP (fun _ y=>y) z) x
 unfold bag
 rw[List.map_cons,lN,lN]
 exact fV (ps:=slP (p,c) l::K.map (fun z=>slP (updF P y (p,c) z) (updF X y l z))) (fun _ z=>z) h1
theorem bag_nil {P:Nat→Option Addr×Nat}{X:Nat→List (Nat×Nat)}{H:List HP}:∀k,dS H k→dS (bag [] P X::H) k:=qKo
theorem qRm (a b:List (Nat×Nat)):pwC (a++b)=pwC a++pwC b:=by simp[pwC]
structure Ix1 (L:List Rl)(f:Nat→Option Nat)(done:Int→Bool)(D K:List Nat)(P:Nat→Option Addr×Nat)(X:Nat→List (Nat×Nat)):Prop where
 dn:∀n:Nat,done ((n:Nat):Int)=decide (n∈D)
 nd:D.Nodup
 fD:∀n∈D,f n≠none
 kn:K.Nodup
 km:∀y,y∈K↔rF L f D y≠[]
 xe:∀y∈K,X y=rF L f D y
theorem Ix1.start {L:List Rl}{f:Nat→Option Nat}{P:Nat→Option Addr×Nat}{X:Nat→List (Nat×Nat)}:Ix1 L f (fun _=>false) [] [] P X:=
 ⟨fun n=>by simp,.nil,fun n h=>by simp at h,.nil,fun y=>by simp[rF],fun y h=>by simp at h⟩
theorem Ix1.skip {L:List Rl}{f:Nat→Option Nat}{done:Int→Bool}{D K:List Nat}{P:Nat→Option Addr×Nat}{X:Nat→List (Nat×Nat)}(h:Ix1 L f done D K P X){n:Nat}(hn:n∉D)(hf:f n≠none)(he:∀y,entP L f y n=none):Ix1 L f (fun x=>x==((n:Nat):Int)||done x) (D++[n]) K P X:=by
 have e:∀y,rF L f (D++[n]) y=rF L f D y:=fun y=>by rw[yD,he y];simp
 refine⟨fun m=>?_,?_,fun m hm=>?_,h.kn,fun y=>by rw[e];exact h.km y,fun y hy=>by rw[e];exact h.xe y hy⟩
 ·simp only[h.dn m]
  by_cases hm:m=n
  ·subst hm;simp
  have:¬((m:Nat):Int)=((n:Nat):Int):=oO
  simp[hm,this]
 ·rw[List.nodup_append];exact⟨h.nd,by simp,fun u hu b hb=>by simp at hb;subst hb;exact fun e=>hn (e▸hu)⟩
 rcases List.mem_append.1 hm with hm|hm
 ·exact h.fD m hm
 simp at hm;subst hm;exact hf
theorem Ix1.add {L:List Rl}{f:Nat→Option Nat}{done:Int→Bool}{D K:List Nat}{P:Nat→Option Addr×Nat}{X:Nat→List (Nat×Nat)}(h:Ix1 L f done D K P X){n y t a:Nat}(hn:n∉D)(hf:f n≠none)(hr:L[n-1]?=some (.power y t))(ha:f n=some a){K':List Nat}(hK:K'=if y∈K then K else y::K)(p:Option Addr)(c:Nat):Ix1 L f (fun x=>x==((n:Nat):Int)||done x) (D++[n]) K' (updF P y (p,c)) (updF X y (rF L f D y++[(t,a)])):=by
 have he:entP L f y n=some (t,a):=by unfold entP;rw[hr,ha];simp
 have ho:∀z,z≠y→entP L f z n=none:=fun z hz=>by unfold entP;rw[hr,ha];simp[Ne.symm hz]
 have e1:rF L f (D++[n]) y=rF L f D y++[(t,a)]:=by rw[yD,he];rfl
 have e2:∀z,z≠y→rF L f (D++[n]) z=rF L f D z:=fun z hz=>by rw[yD,ho z hz];simp
 have hmem:∀x,x∈K'↔x=y∨x∈K:=fun x=>by
  rw[hK]
  split
  ·rename_i hy
   exact⟨.inr,fun h=>by rcases h with rfl|h;exact hy;exact h⟩
  exact List.mem_cons
 refine⟨fun m=>?_,?_,fun m hm=>?_,?_,fun z=>?_,fun z hz=>?_⟩
 ·simp only[h.dn m]
  by_cases hm:m=n
  ·subst hm;simp
  have:¬((m:Nat):Int)=((n:Nat):Int):=oO
  simp[hm,this]
 ·rw[List.nodup_append];exact⟨h.nd,by simp,fun u hu b hb=>by simp at hb;subst hb;exact fun e=>hn (e▸hu)⟩
 ·rcases List.mem_append.1 hm with hm|hm
  ·exact h.fD m hm
  simp at hm;subst hm;exact hf
 ·rw[hK]
  split
  ·exact h.kn
  rename_i hy;exact List.nodup_cons.2 ⟨hy,h.kn⟩
 ·rw[hmem]
  by_cases hz:z=y
  ·subst hz;rw[e1];simp
  rw[e2 z hz,←h.km z];simp[hz]
 by_cases hzy:z=y
 ·subst hzy;rw[lN,e1]
 rw[jP _ _ hzy,e2 z hzy]
 exact h.xe z (by rcases(hmem z).1 hz with e|e;exact absurd e hzy;exact e)
theorem Ix1.all {L:List Rl}{f:Nat→Option Nat}{done:Int→Bool}{D K:List Nat}{P:Nat→Option Addr×Nat}{X:Nat→List (Nat×Nat)}(h:Ix1 L f done D K P X)(hz:f 0=none)(hall:∀n,f n≠none→n∈D):(∀y∈K,X y≠[]∧∀p,p∈X y↔∃i,entP L f y (i+1)=some p)∧∀y,y∉K→∀i,entP L f y (i+1)=none:=by
 have mem:∀y p,p∈rF L f D y↔∃i,entP L f y (i+1)=some p:=fun y p=>by
  unfold rF
  rw[List.mem_filterMap]
  constructor
  ·rintro⟨n,hn,he⟩
   have h0:n≠0:=fun e=>by subst e;exact h.fD 0 hn hz
   exact⟨n-1,by rw[Nat.sub_add_cancel oO];exact he⟩
  rintro⟨i,he⟩
  refine⟨i+1,hall _ fun e=>?_,he⟩
  unfold entP at he
  rw[e]at he
  split at he
  ·rename_i h2;cases h2
  cases he
 refine⟨fun y hy=>⟨by rw[h.xe y hy];exact(h.km y).1 hy,fun p=>by rw[h.xe y hy];exact mem y p⟩,fun y hy i=>?_⟩
 cases e:entP L f y (i+1)with
 |none=>rfl
 |some p=>
  have:=(mem y p).2 ⟨i,e⟩
  exact absurd ((h.km y).2 (List.ne_nil_of_mem this)) hy
theorem qJb {L:List Rl}{f:Nat→Option Nat}{D:List Nat}{y:Nat}:(rF L f D y).length≤D.length:=List.length_filterMap_le _ _
end
section
open Go Go.RowKit Sl Eg
variable {E:Env}{Es:List Ent}{pp tb s most:Nat}
theorem qUz {f:Nat→Option Nat}{k:Int}{v:Value}(h:mapN f k=some v):∃n a:Nat,k=((n:Nat):Int)∧v= .int .i64 (a:Nat)∧f n=some a:=by
 unfold mapN at h
 split at h
 ·rename_i h0
  cases e:f k.toNat with
  |none=>rw[e]at h;cases h
  |some a=>rw[e]at h;exact⟨k.toNat,a,oO,by simpa using h.symm,e⟩
 cases h
theorem qRg {K:List Nat}{P:Nat→Option Addr×Nat}{X:Nat→List (Nat×Nat)}{k:Int}{v:Value}(h:jU K P X k=some v):∃y:Nat,k=((y:Nat):Int)∧y∈K∧v= .slice (P y).1 (X y).length (P y).2:=by
 unfold jU at h
 split at h
 ·rename_i h0
  exact⟨k.toNat,oO,h0.2,by simpa using h.symm⟩
 cases h
section
variable {c:Code}{Q:Exit→Act→World→Prop}{n:Nat}{L:Fr}{H H':List HP}
theorem qCw {K:List Nat}{P:Nat→Option Addr×Nat}{X:Nat→List (Nat×Nat)}{y:Nat}(hy:y∈K)(ht:Take (bag K P X) H H')(h:WP E c Q n L (sl (P y).1 (P y).2 143 2 (X y).length (pwC (X y))::bag (K.erase y) P X::H')):WP E c Q n L H:=
 jI (fun k x=>bag_out hy k (ht.out x)) h
end
theorem a_rng {e:Exit}{Q:Exit→Act→World→Prop}{n:Nat}{L:Fr}{H H':List HP}{r b:Nat}{ki:IntKind}{f:Int→Option Value}{done:Int→Bool}(ht:Take (rngF r b ki f done) H H')(h:AT E Q e n L (mapF b ki f::H')):AT E Q e n L H:=
 qNa (fun k x=>fP (fun _ y=>rng_map y) (ht.out x)) h
structure N1 where
 done:Int→Bool
 D:List Nat
 K:List Nat
 P:Nat→Option Addr×Nat
 X:Nat→List (Nat×Nat)
structure N2 where
 done:Int→Bool
 D:List Nat
 X:Nat→List (Nat×Nat)
structure Ix2 (L:List Rl)(f:Nat→Option Nat)(K:List Nat)(X0:Nat→List (Nat×Nat))(done:Int→Bool)(D:List Nat)(X:Nat→List (Nat×Nat)):Prop where
 dn:∀n:Nat,n∈K→done ((n:Nat):Int)=decide (n∈D)
 nd:D.Nodup
 DK:∀n∈D,n∈K
 ln:∀y∈K,(X y).length=(X0 y).length
 new:∀y∈K,y∉D→X y=X0 y
 old:∀y∈D,∃Q,X y=sfx Q∧PwOk L f y Q
theorem qMz {α:Type}(f:Nat→α)(y:Nat){v:α}(h:f y=v):updF f y v=f:=by
 funext x
 unfold updF
 split
 ·rename_i e;subst e;exact h.symm
 rfl
theorem Ix2.start {L:List Rl}{f:Nat→Option Nat}{K:List Nat}{X:Nat→List (Nat×Nat)}:Ix2 L f K X (fun _=>false) [] X:=
 ⟨fun n _=>by simp,.nil,fun n h=>by simp at h,fun _ _=>rfl,fun _ _ _=>rfl,fun y h=>by simp at h⟩
theorem Ix2.add {L:List Rl}{f:Nat→Option Nat}{K:List Nat}{X0 X:Nat→List (Nat×Nat)}{done:Int→Bool}{D:List Nat}(h:Ix2 L f K X0 done D X){y:Nat}(hy:y∈K)(hD:y∉D){Q:List (Nat×Nat)}(hl:Q.length=(X0 y).length)(hQ:PwOk L f y Q):Ix2 L f K X0 (fun x=>x==((y:Nat):Int)||done x) (D++[y]) (updF X y (sfx Q)):=by
 refine⟨fun m hm=>?_,?_,fun m hm=>?_,fun z hz=>?_,fun z hz hzD=>?_,fun z hz=>?_⟩
 ·simp only[h.dn m hm]
  by_cases e:m=y
  ·subst e;simp
  have:¬((m:Nat):Int)=((y:Nat):Int):=oO
  simp[e,this]
 ·rw[List.nodup_append];exact⟨h.nd,by simp,fun u hu b hb=>by simp at hb;subst hb;exact fun e=>hD (e▸hu)⟩
 ·rcases List.mem_append.1 hm with hm|hm
  ·exact h.DK m hm
  simp at hm;subst hm;exact hy
 ·by_cases e:z=y
  ·subst e;rw[lN,mZ,hl]
  rw[jP _ _ e];exact h.ln z hz
 ·have e:z≠y:=fun e=>hzD (by rw[e];simp)
  rw[jP _ _ e]
  exact h.new z hz fun hh=>hzD (by simp[hh])
 by_cases e:z=y
 ·subst e;exact⟨Q,lN _ _ _,hQ⟩
 rw[jP _ _ e]
 refine h.old z ?_
 rcases List.mem_append.1 hz with hz|hz
 ·exact hz
 simp at hz;exact absurd hz e
theorem last_sfx (Q:List (Nat×Nat))(h:Q≠[]):Q.take (Q.length-1)++sfx (Q.drop (Q.length-1))=Q:=by
 have hp:=List.length_pos_iff.2 h
 have e:Q.drop (Q.length-1)=[Q[Q.length-1]'oO]:=by
  rw[List.drop_eq_getElem_cons oO]
  congr 1
  exact List.drop_of_length_le oO
 rw[e,qWj,←e,List.take_append_drop]
structure IxOk (L:List Rl)(f:Nat→Option Nat)(K:List Nat)(X:Nat→List (Nat×Nat)):Prop where
 kn:K.Nodup
 inn:∀y∈K,X y≠[]∧(X y).length≤65536∧∃Q,X y=sfx Q∧PwOk L f y Q
 out:∀y,y∉K→∀i,entP L f y (i+1)=none
theorem qOq {l:List (Nat×Nat)}{i:Nat}{p:Nat×Nat}(h:l[i]?=some p)(o:Nat)(ho:o=0+i*2):(pwC l)[o]?=some (.int .i64 (p.1:Nat))∧(pwC l)[o+1]?=some (.int .i64 (p.2:Nat)):=by
 subst ho
 induction l generalizing i with
 |nil=>simp at h
 |cons q l ih=>
  cases i with
  |zero=>simp at h;subst h;exact⟨rfl,rfl⟩
  |succ i=>
   rw[List.getElem?_cons_succ]at h
   have:=ih h
   rw[show 0+(i+1)*2=(0+i*2)+1+1 by omega]
   exact this
theorem pwC_set2 {l:List (Nat×Nat)}{i b:Nat}{p:Nat×Nat}(h:l[i]?=some p)(o:Nat)(ho:o=0+i*2+1):bX (pwC l) o [.int .i64 (b:Nat)]=pwC (l.set i (p.1,b)):=by
 subst ho
 induction l generalizing i with
 |nil=>simp at h
 |cons q l ih=>
  cases i with
  |zero=>simp at h;subst h;rfl
  |succ i=>
   rw[List.getElem?_cons_succ]at h
   have:=ih h
   rw[show 0+(i+1)*2+1=(0+i*2+1)+1+1 by omega,List.set_cons_succ]
   unfold pwC at this ⊢
   rw[List.flatMap_cons,List.flatMap_cons,←this]
   rfl
theorem qLk (hE:Seat E){base:Nat}(h2:base≤Es.length)(hn:Es.length<65536):Ct E 34 [uPt s,.int .i64 (base:Nat)] [bR s most Es]
  (fun v Q=>∃bx bm bp K P X,v= .tuple #[uPt bx,.nilIface]∧IxOk (rls Es) (gL (rls Es) base) K X∧Q=[bR s most Es,cells bx [uPt s,.map (some bm),.map (some bp)] 140,mapF bm .i64 (mapN (gL (rls Es) base)),mapF bp .i64 (jU K P X),bag K P X]):=by
 have hm1:E.P.underlying 135=some (.map 24 3):=by rw[hE.P];kernel_rfl
 have hm2:E.P.underlying 138=some (.map 24 141):=by rw[hE.P];kernel_rfl
 refine fG (p:=bR s most Es) uK (fun _ h=>dU h) (fun hsay=>?_)
 have hw:=hsay.1
 have hLl:=bQ Es
 have hdom:=yF hw (base:=base) oO
 have hz:=qNw hdom
 have hfin:=qBn hw base
 have hbase:=hw.short base
 have hmx:dB=1152921504606846976:=rfl
 have hocc:Ct E 64 [uPt s,.int .i64 (base:Nat)] [bR s most Es] (fun v Q=>∃bm,v= .tuple #[.map (some bm),.nilIface]∧Q=[bR s most Es,mapF bm .i64 (mapN (gL (rls Es) base))]):=by
  rcases Nat.eq_zero_or_pos base with rfl|h1
  ·exact ct_occ0 hE hn
  exact ct_occ1 hE h1 h2 hn
 obtain⟨f,hf⟩:∃f,f=gL (rls Es) base:=⟨_,rfl⟩
 rw[←hf]at hdom hz hfin hocc ⊢
 have hD:∀D:List Nat,D.Nodup→(∀n∈D,f n≠none)→D.length≤Es.length:=fun D hd hfd=>by
  have:=tC (A:=0::D) (B:=List.range (Es.length+1)) (List.nodup_cons.2 ⟨fun h=>hfd 0 h hz,hd⟩) (fun x hx=>List.mem_range.2 (by
   rcases List.mem_cons.1 hx with rfl|hx
   ·omega
   have:=(hdom x (hfd x hx)).pos;omega))
  simp at this
  omega
 refine bO (hE.fn Tryz.func34) O O O (fun R=>?_)
 simp only[dV,uV,uW]
 refine gg10 ?_
 refine uX (hocc) O ?_
 rintro _ _⟨bm,rfl,rfl⟩
 simp only[uV,uW]
 refine gg21 ?_
 refine uU ?_
 refine pJ .i64 (fun b27=>?_)
 refine gg1 ?_
 refine uU ?_
 refine iV O (fun b29=>?_)
 refine gg7 ?_
 refine uU ?_
 apply qOk hm1 O uK
 intro br
 refine gg3 ?_
 refine jI (cO uI (bag_nil (P:=fun _=>(none,0)) (X:=fun _=>[]) (H:=[rngF br bm .i64 (mapN f) (fun _=>false),cells b29 [uPt s,.map (some bm),.map (some b27)] 140,mapF b27 .i64 (fun _=>none),bR s most Es,R]))) ?_
 refine dX (fun x:N1=>[(0,uPt s),(8,uPt b29),(31,uPt br)]) (fun x=>[bag x.K x.P x.X,rngF br bm .i64 (mapN f) x.done,cells b29 [uPt s,.map (some bm),.map (some b27)] 140,mapF b27 .i64 (jU x.K x.P x.X),bR s most Es,R]) (fun x=>Es.length+1-x.D.length) (fun x=>Ix1 (rls Es) f x.done x.D x.K x.P x.X) ⟨fun _=>false,[],[],fun _=>(none,0),fun _=>[]⟩ Ix1.start ⟨O,O,O,trivial⟩ (by rw[qVb];(apply ent;(repeat constructor);done)) ?_
 rintro⟨done,D,K,P,X⟩hI
 simp only at hI ⊢
 have hDl:=hD D hI.nd hI.fD
 refine gg2 ?_
 refine uU ?_
 apply qUx O uK
 ·intro hall
  refine gg17 ?_
  obtain⟨hk1,hk2⟩:=hI.all hz fun n hfn=>by
   cases e:f n with
   |none=>exact absurd e hfn
   |some a=>
    have:=hall ((n:Nat):Int) _ (by rw[qAg,e];rfl)
    rw[hI.dn n]at this
    simpa using this
  have hXl:∀y∈K,(X y).length≤Es.length:=fun y hy=>by rw[hI.xe y hy];exact Nat.le_trans qJb hDl
  have hXb:∀y∈K,∀p∈X y,p.2<4611686018427387904:=fun y hy p hp=>by
   obtain⟨i,hi⟩:=((hk1 y hy).2 p).1 hp
   unfold entP at hi
   split at hi
   ·rename_i y' t' a' g1 g2
    split at hi
    ·cases hi
     have:=hfin _ _ g2
     simp only
     omega
    cases hi
   cases hi
  refine uU ?_
  apply qOk hm2 O uK
  intro br2
  refine gg3 ?_
  refine dX (fun x:N2=>[(8,uPt b29),(72,uPt br2)]) (fun x=>[bag K P x.X,rngF br2 b27 .i64 (jU K P X) x.done,rngF br bm .i64 (mapN f) done,cells b29 [uPt s,.map (some bm),.map (some b27)] 140,bR s most Es,R]) (fun x=>K.length+1-x.D.length) (fun x=>Ix2 (rls Es) f K X x.done x.D x.X) ⟨fun _=>false,[],X⟩ Ix2.start ⟨O,O,trivial⟩ uI ?_
  rintro⟨done2,D2,X2⟩hJ
  simp only at hJ ⊢
  have hD2:=tC hJ.nd hJ.DK
  refine gg2 ?_
  refine uU ?_
  apply qUx O uK
  ·intro hall2
   refine gg18 ?_
   have hin:∀y∈K,y∈D2:=fun y hy=>by
    have:=hall2 ((y:Nat):Int) _ (qAh hy)
    rw[hJ.dn y hy]at this
    simpa using this
   apply a_rng
   ·exact uK
   apply a_rng
   ·exact uK
   rw[qVa fun y hy=>(hJ.ln y hy).symm]
   apply cB
   ·rfl
   ·(apply Rs.tmp rfl;apply Rs.tmp rfl;exact Rs.nil)
   ·refine⟨b29,bm,b27,K,P,X2,O,⟨hI.kn,fun y hy=>⟨?_,?_,hJ.old y (hin y hy)⟩,hk2⟩,O⟩
    ·intro e
     have:=hJ.ln y hy
     rw[e]at this
     exact(hk1 y hy).1 (List.eq_nil_of_length_eq_zero this.symm)
    have:=hJ.ln y hy
    have:=hXl y hy
    omega
   exact uI
  intro k v hk hd
  obtain⟨y,rfl,hyK,rfl⟩:=qRg hk
  rw[hJ.dn y hyK]at hd
  have hyD:y∉D2:=by simpa using hd
  have hnew:=hJ.new y hyK hyD
  have hpos:0<(X y).length:=List.length_pos_iff.2 (hk1 y hyK).1
  have hXy:=hXl y hyK
  have hXby:=hXb y hyK
  refine gg10 ?_
  refine uB (qXn O uK) ?_
  refine wU (fun _ h=>fP (fun _ x=>rngE_F x) h) ?_
  refine gg4 ?_
  apply qCw hyK
  ·exact uK
  rw[hnew]
  refine jY (p:=sl (P y).1 (P y).2 143 2 (X y).length (pwC (X y))) uK (fun _ h=>eZ h hpos) ?_
  rintro⟨g,hg⟩
  rw[hg]
  refine gg3 ?_
  refine uX (qTn (l:=X y) (c:=(P y).2) hE oO hXby) O ?_
  rintro _ _⟨Q,rfl,hQl,hQp,hQs,rfl⟩
  have hQ:PwOk (rls Es) f y Q:=⟨hQs,fun p=>(hQp.mem_iff).trans ((hk1 y hyK).2 p)⟩
  have hQne:Q≠[]:=fun e=>by rw[e]at hQl;simp at hQl;omega
  simp only[uV,uW]
  refine gg11 ?_
  refine dX (fun j:Nat=>[(8,uPt b29),(72,uPt br2),(14,.slice (some ⟨g,0,none⟩) (X y).length (P y).2),(15,.int .i64 ((j:Nat)-1:Int))]) (fun j=>[sl (some ⟨g,0,none⟩) (P y).2 143 2 (X y).length (pwC (Q.take j++sfx (Q.drop j))),bag (K.erase y) P X2,rngF br2 b27 .i64 (jU K P X) (fun x=>x==((y:Nat):Int)||done2 x),rngF br bm .i64 (mapN f) done,cells b29 [uPt s,.map (some bm),.map (some b27)] 140,bR s most Es,R]) (fun j=>j) (fun j=>j<Q.length) (Q.length-1) oO ⟨rfl,rfl,rfl,congrArg some (bW oO),trivial⟩ ?_ ?_
  ·rw[last_sfx Q hQne]
   exact uI
  intro j hj
  refine gg7 ?_
  refine bE O (fun h1=>?_) (fun h1=>?_)
  ·obtain⟨i,rfl⟩:∃i,j=i+1:=⟨j-1,oO⟩
   obtain⟨x,hx⟩:∃x,Q[i]?=some x:=⟨_,List.getElem?_eq_getElem oO⟩
   obtain⟨C,hC⟩:∃C,C=Q.take (i+1)++sfx (Q.drop (i+1)):=⟨_,rfl⟩
   have hCl:C.length=Q.length:=by rw[hC,List.length_append,mZ,List.length_take,List.length_drop];omega
   have hCi:C[i]?=some x:=by rw[hC,List.getElem?_append_left (by simp;omega),List.getElem?_take,if_pos oO];exact hx
   obtain⟨z,hz2⟩:∃z,C[i+1]?=some z:=⟨_,List.getElem?_eq_getElem oO⟩
   have hstep:=sfx_step hx (y:=z) (by rw[←hC];exact hz2)
   rw[←hC]at hstep
   obtain⟨f0,f0'⟩:=qOq hCi (0+(((i+1:Nat):Int)-1).toNat*2) oO
   obtain⟨f1,f1'⟩:=qOq hz2 (0+(((i+1:Nat):Int)-1+1).toNat*2) oO
   rw[←hC]
   refine gg19 ?_
   refine l_eq 99 (.int .i64 ((min x.2 z.2:Nat):Int)) O (bW oO) ?_
   refine gg11 ?_
   simp only[bP]
   rw[pwC_set2 (i:=i) hCi]
   case ho=>omega
   rw[hstep]
   refine bS (ι:=Nat) (j:=i) oO oO ⟨O,O,O,congrArg some (bW oO),trivial⟩ uI
  obtain rfl:j=0:=by omega
  rw[List.take_zero,List.drop_zero,List.nil_append]
  refine gg5 ?_
  refine bS (ι:=N2) (j:=⟨_,D2++[y],updF X2 y (sfx Q)⟩) (hJ.add hyK hyD hQl hQ) (by simp only[List.length_append,List.length_singleton];omega) ⟨O,O,trivial⟩ ?_
  have hlen:(X y).length=(sfx Q).length:=by rw[mZ,hQl]
  have hP:updF P y (some ⟨g,0,none⟩,(P y).2)=P:=qMz P y (by rw[←hg])
  refine cO (m:=[sl (some ⟨g,0,none⟩) (P y).2 143 2 (X y).length (pwC (sfx Q)),bag (K.erase y) P X2,rngF br2 b27 .i64 (jU K P X) (fun x=>x==((y:Nat):Int)||done2 x),rngF br bm .i64 (mapN f) done,cells b29 [uPt s,.map (some bm),.map (some b27)] 140,bR s most Es,R]) uI (fun k h=>?_)
  rw[hlen]at h
  have:=qSn hI.kn hyK (some ⟨g,0,none⟩) (P y).2 (sfx Q) k h
  rw[hP]at this
  exact this
 intro k v hk hd
 obtain⟨n,a,rfl,rfl,hfa⟩:=qUz hk
 rw[hI.dn n]at hd
 have hnD:n∉D:=by simpa using hd
 have hn1:n≠0:=fun e=>by subst e;rw[hz]at hfa;cases hfa
 obtain⟨m,rfl⟩:∃m,n=m+1:=⟨n-1,oO⟩
 have hrea:=(hdom (m+1) (by rw[hfa];simp)).pos
 obtain⟨y,hy⟩:∃y,Es[m]?=some y:=⟨_,List.getElem?_eq_getElem oO⟩
 have hyr:(rls Es)[m]?=some y.r:=rU hy
 have hal:=hfin _ _ hfa
 refine gg10 ?_
 refine uB (qXn O uK) ?_
 refine wU (fun _ h=>fP (fun _ x=>rngE_F x) h) ?_
 refine gg10 ?_
 refine uX (qD hE hy) O ?_
 rintro _ _⟨rfl,rfl⟩
 simp only[uV,uW]
 refine gg3 ?_
 refine uU (cZ (hE.t O) (fun b11=>?_))
 refine gg21 ?_
 generalize y.r=r at hyr ⊢
 cases r with
 |letter b=>
  refine bE O (fun e1=>?_) (fun e1=>?_)
  ·exfalso;simp[Rl.kind]at e1
  refine gg2 ?_
  refine bS (ι:=N1) (j:=⟨_,D++[m+1],K,P,X⟩) (hI.skip hnD (by rw[hfa];simp) fun z=>by unfold entP;rw[Nat.add_sub_cancel,hyr]) (by simp only[List.length_append,List.length_singleton];omega) ⟨rfl,rfl,rfl,trivial⟩ uI
 |pair z q=>
  refine bE O (fun e1=>?_) (fun e1=>?_)
  ·exfalso;simp[Rl.kind]at e1
  refine gg2 ?_
  refine bS (ι:=N1) (j:=⟨_,D++[m+1],K,P,X⟩) (hI.skip hnD (by rw[hfa];simp) fun z=>by unfold entP;rw[Nat.add_sub_cancel,hyr]) (by simp only[List.length_append,List.length_singleton];omega) ⟨rfl,rfl,rfl,trivial⟩ uI
 |power y0 t=>
  refine bE O (fun e1=>?_) (fun e1=>?_)
  ·skip
   by_cases hyK:y0∈K
   ·have hlk:=qAh (P:=P) (X:=X) hyK
    have hXl:(X y0).length≤D.length:=by rw[hI.xe y0 hyK];exact qJb
    have hadd:=fun c' g'=>hI.add hnD (by rw[hfa];simp) (by rw[Nat.add_sub_cancel];exact hyr) hfa (K':=K) (by rw[if_pos hyK]) (some ⟨g',0,none⟩) c'
    rw[←hI.xe y0 hyK]at hadd
    apply qCw hyK
    ·exact uK
    refine uN 19 ([cells b29 [uPt s,.map (some bm),.map (some b27)] 140,cells b11 [.int .i64 (Rl.kind ((Rl.power y0 t)):Nat),.int .u8 (Rl.byte ((Rl.power y0 t)):Nat),.int .i64 (Rl.left ((Rl.power y0 t)):Nat),.int .i64 (Rl.right ((Rl.power y0 t)):Nat),.int .i64 (Rl.times ((Rl.power y0 t)):Nat)] 74,mapF b27 .i64 (jU K P X)]) ?_
    refine gg12 ?_
    refine uT 12 O (nZ (kt:=24) (et:=141) (z:= .slice none 0 0) (by rw[hE.P];kernel_rfl) (by rw[hE.P];kernel_rfl) (fun w=>by rw[hE.P];kernel_rfl) rfl rfl (by((repeat constructor);done)) (by assumption)) ?_
    refine gg2 ?_
    apply dF 15 O oK
    ·exact aB O
    ·rfl
    apply dF 16 O oK
    ·exact iK (hE.t O) O O
    ·rfl
    apply eF 17 O oK O
    refine aU (hE.t O) (hE.t O) O O O (fun b66=>?_)
    refine uE ?_
    apply eF 18 O oK O
    apply bU (hE.t O) (hE.t O) O O O
    ·exact uK
    ·exact uK
    ·rfl
    ·rfl
    ·omega
    ·omega
    ·(unfold maxLen;omega)
    intro g67 c67 n67 x67 hn67 hx67
    refine uE ?_
    apply fU O oK oK O
    apply mM (kt:=24) (et:=141) (by rw[hE.P];kernel_rfl) (by rw[hE.P];kernel_rfl) O O O
    ·exact uK
    refine gg1 ?_
    obtain rfl:n67=(X y0++[(t,a)]).length:=by simp;omega
    obtain rfl:x67=pwC (X y0++[(t,a)]):=by rw[hx67,qRm];rfl
    rw[show setF (jU K P X) (((Rl.power y0 t).left:Nat):Int) (.slice (some ⟨g67,0,none⟩) (X y0++[(t,a)]).length c67)=_ from qJn (K':=K) (some ⟨g67,0,none⟩) c67 (X y0++[(t,a)]) (fun x=>⟨.inr,fun h=>by rcases h with rfl|h;exact hyK;exact h⟩)]
    refine bS (ι:=N1) (j:=⟨_,D++[m+1],K,updF P y0 (some ⟨g67,0,none⟩,c67),updF X y0 (X y0++[(t,a)])⟩) (hadd c67 g67) (by simp only[List.length_append,List.length_singleton];omega) ⟨O,O,O,trivial⟩ ?_
    refine cO (m:=[slP (some ⟨g67,0,none⟩,c67) (X y0++[(t,a)]),bag (K.erase y0) P X,rngF br bm .i64 (mapN f) _,cells b29 [uPt s,.map (some bm),.map (some b27)] 140,mapF b27 .i64 (jU K (updF P y0 (some ⟨g67,0,none⟩,c67)) (updF X y0 (X y0++[(t,a)]))),bR s most Es,R]) uI (qSn hI.kn hyK _ _ _)
   have hlk:=qJm (P:=P) (X:=X) hyK
   have hadd:=fun c' g'=>hI.add hnD (by rw[hfa];simp) (by rw[Nat.add_sub_cancel];exact hyr) hfa (K':=y0::K) (by rw[if_neg hyK]) (some ⟨g',0,none⟩) c'
   have hemp:rF (rls Es) f D y0=[]:=Classical.byContradiction fun h=>hyK ((hI.km y0).2 h)
   rw[hemp]at hadd
   simp only[List.nil_append]at hadd
   refine jI (gW (t:=143) (sz:=2)) ?_
   refine uN 19 ([cells b29 [uPt s,.map (some bm),.map (some b27)] 140,cells b11 [.int .i64 (Rl.kind ((Rl.power y0 t)):Nat),.int .u8 (Rl.byte ((Rl.power y0 t)):Nat),.int .i64 (Rl.left ((Rl.power y0 t)):Nat),.int .i64 (Rl.right ((Rl.power y0 t)):Nat),.int .i64 (Rl.times ((Rl.power y0 t)):Nat)] 74,mapF b27 .i64 (jU K P X)]) ?_
   refine gg12 ?_
   refine uT 12 O (nZ (kt:=24) (et:=141) (z:= .slice none 0 0) (by rw[hE.P];kernel_rfl) (by rw[hE.P];kernel_rfl) (fun w=>by rw[hE.P];kernel_rfl) rfl rfl (by((repeat constructor);done)) (by assumption)) ?_
   refine gg2 ?_
   apply dF 15 O oK
   ·exact aB O
   ·rfl
   apply dF 16 O oK
   ·exact iK (hE.t O) O O
   ·rfl
   apply eF 17 O oK O
   refine aU (hE.t O) (hE.t O) O O O (fun b66=>?_)
   refine uE ?_
   apply eF 18 O oK O
   apply bU (hE.t O) (hE.t O) O O O
   ·exact uK
   ·exact uK
   ·rfl
   ·rfl
   ·omega
   ·omega
   ·(unfold maxLen;omega)
   intro g67 c67 n67 x67 hn67 hx67
   refine uE ?_
   apply fU O oK oK O
   apply mM (kt:=24) (et:=141) (by rw[hE.P];kernel_rfl) (by rw[hE.P];kernel_rfl) O O O
   ·exact uK
   refine gg1 ?_
   obtain rfl:n67=([(t,a)]).length:=by simp;omega
   obtain rfl:x67=pwC ([(t,a)]):=by rw[hx67];rfl
   rw[show setF (jU K P X) (((Rl.power y0 t).left:Nat):Int) (.slice (some ⟨g67,0,none⟩) ([(t,a)]).length c67)=_ from qJn (K':=y0::K) (some ⟨g67,0,none⟩) c67 ([(t,a)]) (fun x=>List.mem_cons)]
   refine bS (ι:=N1) (j:=⟨_,D++[m+1],y0::K,updF P y0 (some ⟨g67,0,none⟩,c67),updF X y0 ([(t,a)])⟩) (hadd c67 g67) (by simp only[List.length_append,List.length_singleton];omega) ⟨O,O,O,trivial⟩ ?_
   refine cO (m:=[slP (some ⟨g67,0,none⟩,c67) ([(t,a)]),bag K P X,rngF br bm .i64 (mapN f) _,cells b29 [uPt s,.map (some bm),.map (some b27)] 140,mapF b27 .i64 (jU (y0::K) (updF P y0 (some ⟨g67,0,none⟩,c67)) (updF X y0 ([(t,a)]))),bR s most Es,R]) uI (bag_new hyK _ _ _)
  exfalso;simp[Rl.kind]at e1
end
section
open Go Go.RowKit Sl Eg
theorem qWd {L:List Rl}(hw:Wf L){l:Nat}:∀x,x≤L.length→rowT L (expd L l x)=txt L x:=by
 intro x
 induction x using Nat.strongRecOn with
 |_ x ih=>
  intro hx
  rcases Nat.eq_zero_or_pos x with rfl|h1
  ·rw[qBl];rfl
  obtain⟨i,rfl⟩:∃i,x=i+1:=⟨x-1,oO⟩
  by_cases h:lvl L (i+1)≤(l:Nat)
  ·rw[iO h1 h,mW]
  have hr:L[i]?=some (L[i]'oO):=List.getElem?_eq_getElem oO
  generalize L[i]'oO=r at hr
  have hk:=hw.ok i r hr
  cases r with
  |letter b=>have:=(jL hr).2;omega
  |pair a b=>
   obtain⟨g1,g2,g3,g4⟩:=hk
   rw[iY hw hr oO,iJ,ih a oO oO,ih b oO oO,kC hr ⟨g1,g2,g3,g4⟩]
  |power y k=>
   obtain⟨g1,g2,g3⟩:=hk
   rw[iZ hw hr oO,jX hr ⟨g1,g2,g3⟩]
   have e:∀m,rowT L (List.replicate m (expd L l y)).flatten=(List.replicate m (txt L y)).flatten:=fun m=>by
    induction m with
    |zero=>rfl
    |succ m ihm=>rw[List.replicate_succ,List.flatten_cons,List.replicate_succ,List.flatten_cons,iJ,ihm,ih y oO oO]
   exact e k
theorem lts_of {L:List Rl}(hw:Wf L):∀ids:List Nat,(∀y∈ids,1≤y∧y≤L.length∧lvl L y=0)→Lts L ids (rowT L ids):=by
 intro ids
 induction ids using qCq with
 |h0=>exact fun _=> .nil
 |h1 ids y ih=>
  intro h
  obtain⟨h1,h2,h3⟩:=h y (by simp)
  obtain⟨i,rfl⟩:∃i,y=i+1:=⟨y-1,oO⟩
  obtain⟨b,hb⟩:=lvl_zero hw (i:=i) oO h3
  rw[iJ,mW,jE hb]
  exact .snoc (ih fun z hz=>h z (by simp[hz])) hb
theorem Sig.lts {L:List Rl}(hw:Wf L){x:Nat}(h:Sig L x):Lts L (expd L 0 x) (txt L x):=by
 have:=lts_of hw (expd L 0 x) fun y hy=>by
  have:=(h.inv 1 (Nat.le_refl _)).ok y hy
  exact⟨this.1,this.2.1,oO⟩
 rwa [qWd hw x h.le]at this
theorem Sig.sn {L:List Rl}(hw:Wf L){x:Nat}(h:Sig L x):Sn L (txt L x) x:=by
 refine⟨.inr ?_,O,h.le,h.lv⟩
 obtain⟨m,hm⟩:∃m:Nat,lvl L x=m:=⟨(lvl L x).toNat,by have:=h.lv;omega⟩
 have key:∀k:Nat,k≤m→Rch L (txt L x) (k+1) (expd L k x):=by
  intro k
  induction k with
  |zero=>exact fun _=> .start (h.lts hw)
  |succ k ih=>
   intro hk
   have hs:=h.step (k+1) oO
   rw[Nat.add_sub_cancel]at hs
   exact(ih oO).next ((nS hw x h.pos h.le).2 oO) (fun y hy=>((h.inv (k+1) oO).ok y hy).2.1) hs
 have:=key m (Nat.le_refl _)
 rw[iO h.pos oO]at this
 exact⟨_,this⟩
theorem Sn.sig {L:List Rl}(hw:Wf L){bs:List UInt8}{x:Nat}(h:Sn L bs x)(h0:x≠0):Sig L x:=(h.parts hw h0).1
theorem Sn.reach {L:List Rl}(hw:Wf L){bs:List UInt8}{k x:Nat}(h:Sn L bs k)(hx:Rea L k x):Sn L (txt L x) x:=by
 have hk:k≠0:=by have:=hx;intro e;subst e;cases this
 exact((h.sig hw hk).reach hw hx).sn hw
end
section
open Go Go.RowKit Sl Eg
variable {E:Env}{Es:List Ent}{pp tb s most:Nat}
theorem qNj {K:List Nat}{P:Nat→Option Addr×Nat}{X:Nat→List (Nat×Nat)}{y:Nat}{H:List HP}(hn:K.Nodup)(h:y∈K):∀k,dS (slP (P y) (X y)::bag (K.erase y) P X::H) k→dS (bag K P X::H) k:=fun k x=>by
 have:=qSn hn h (P y).1 (P y).2 (X y) k x
 rwa [qMz X y rfl,qMz P y rfl]at this
theorem ct_find1 (hE:Seat E){b1 b5 g c y t i:Nat}{l:List (Nat×Nat)}{p:Nat×Nat}(hl:l.length≤65536)(hp:l[i]?=some p):
  Ct E 104 [.int .i64 (i:Nat),uPt b1,uPt b5] [cells b1 [.slice (some ⟨g,0,none⟩) l.length c] 141,cells b5 [.int .i64 (Rl.kind ((Rl.power y t)):Nat),.int .u8 (Rl.byte ((Rl.power y t)):Nat),.int .i64 (Rl.left ((Rl.power y t)):Nat),.int .i64 (Rl.right ((Rl.power y t)):Nat),.int .i64 (Rl.times ((Rl.power y t)):Nat)] 74,sl (some ⟨g,0,none⟩) c 143 2 l.length (pwC l)] (fun v Q=>v= .bool (decide (t≤p.1))∧Q=[cells b1 [.slice (some ⟨g,0,none⟩) l.length c] 141,cells b5 [.int .i64 (Rl.kind ((Rl.power y t)):Nat),.int .u8 (Rl.byte ((Rl.power y t)):Nat),.int .i64 (Rl.left ((Rl.power y t)):Nat),.int .i64 (Rl.right ((Rl.power y t)):Nat),.int .i64 (Rl.times ((Rl.power y t)):Nat)] 74,sl (some ⟨g,0,none⟩) c 143 2 l.length (pwC l)]):=by
 have hil:=(List.getElem?_eq_some_iff.1 hp).1
 obtain⟨f0,f0'⟩:=qOq hp (0+((i:Nat):Int).toNat*2) oO
 refine bO (hE.fn Tryz.func104) O O O (fun R=>?_)
 simp only[dV,uV,uW]
 refine gg19 ?_
 exact uZ O (.tmp O .nil) ⟨congrArg Value.bool (decide_eq_decide.2 (by simp only[Rl.times];omega)),O⟩
def fnd (L:List Rl)(f:Nat→Option Nat)(id:Nat)(r:Rl):Option Nat:=match f id with
 |some a=>some a
 |none=>match r with
  | .power y t=>best L f y t
  |_=>none
theorem ct_find (hE:Seat E){bx bm bp id:Nat}{f:Nat→Option Nat}{K:List Nat}{P:Nat→Option Addr×Nat}{X:Nat→List (Nat×Nat)}(hI:IxOk (rls Es) f K X){r:Rl}:
  Ct E 68 [uPt bx,.int .i64 (id:Nat),.agg #[.int .i64 (Rl.kind (r):Nat),.int .u8 (Rl.byte (r):Nat),.int .i64 (Rl.left (r):Nat),.int .i64 (Rl.right (r):Nat),.int .i64 (Rl.times (r):Nat)]] [cells bx [uPt s,.map (some bm),.map (some bp)] 140,mapF bm .i64 (mapN f),mapF bp .i64 (jU K P X),bag K P X] (fun v Q=>v= .tuple #[.int .i64 (((fnd (rls Es) f id r).getD 0:Nat):Int),.bool (fnd (rls Es) f id r).isSome]∧Q=[cells bx [uPt s,.map (some bm),.map (some bp)] 140,mapF bm .i64 (mapN f),mapF bp .i64 (jU K P X),bag K P X]):=by
 have hm1:E.P.underlying 135=some (.map 24 3):=by rw[hE.P];kernel_rfl
 have hm2:E.P.underlying 24=some (.int .i64):=by rw[hE.P];kernel_rfl
 have hm3:∀w,(zeroValue 3).run E.P w= .ok (.int .i64 0) w:=fun w=>by rw[hE.P];kernel_rfl
 have hgo:goFn E.P 104=true:=hE.f oK
 have hf:=qAg f id
 cases hfi:f id with
 |some a=>
  rw[hfi]at hf
  have e:fnd (rls Es) f id r=some a:=by unfold fnd;rw[hfi]
  rw[e]
  refine bO (hE.fn Tryz.func68) O O O (fun R=>?_)
  simp only[dV,uV,uW]
  refine gg2 ?_
  refine uU ?_
  refine iV O (fun b5=>?_)
  refine gg12 ?_
  refine uB (nZ (ok:=true) hm1 hm2 hm3 O O uK hf) ?_
  simp only[Option.map_some,wM,Option.getD_some,Option.isSome_some,if_true]
  refine gg22 ?_
  exact uZ O (.tmp O (.tmp O .nil)) ⟨O,O⟩
 |none=>
  rw[hfi]at hf
  refine bO (hE.fn Tryz.func68) O O O (fun R=>?_)
  simp only[dV,uV,uW]
  refine gg2 ?_
  refine uU ?_
  refine iV O (fun b5=>?_)
  refine gg12 ?_
  refine uB (nZ (ok:=true) hm1 hm2 hm3 O O uK hf) ?_
  simp only[Option.map_none,wM,Option.getD_none,Option.isSome_none,if_true]
  refine gg23 ?_
  cases r with
  |letter b=>
   have e:fnd (rls Es) f id (.letter b)=none:=by unfold fnd;rw[hfi]
   rw[e]
   refine bE O (fun h1=>?_) (fun h1=>?_)
   ·refine gg8 ?_
    exact uZ O (.tmp O (.tmp O .nil)) ⟨O,O⟩
   exfalso;simp[Rl.kind]at h1
  |pair a b=>
   have e:fnd (rls Es) f id (.pair a b)=none:=by unfold fnd;rw[hfi]
   rw[e]
   refine bE O (fun h1=>?_) (fun h1=>?_)
   ·refine gg8 ?_
    exact uZ O (.tmp O (.tmp O .nil)) ⟨O,O⟩
   exfalso;simp[Rl.kind]at h1
  |power y t=>
   have e:fnd (rls Es) f id (.power y t)=best (rls Es) f y t:=by unfold fnd;rw[hfi]
   rw[e]
   refine bE O (fun h1=>?_) (fun h1=>?_)
   ·exfalso;simp[Rl.kind]at h1
   refine gg2 ?_
   by_cases hyK:y∈K
   ·obtain⟨hne,hXl,Q,hXQ,hPQ⟩:=hI.inn y hyK
    have hpos:0<(X y).length:=List.length_pos_iff.2 hne
    have hlk:=qAh (P:=P) (X:=X) hyK
    obtain⟨m,hm,hm0,hm1'⟩:=hPQ.cut t
    have hQl:(X y).length=Q.length:=by rw[hXQ,mZ]
    have hfd:=hPQ.find hm0 hm1'
    have hsx:=qHe Q
    rw[←hXQ]at hfd hsx
    apply qCw hyK
    ·exact uK
    refine jY (p:=sl (P y).1 (P y).2 143 2 (X y).length (pwC (X y))) uK (fun _ h=>eZ h hpos) ?_
    rintro⟨g,hg⟩
    have hP:P y=(some ⟨g,0,none⟩,(P y).2):=by rw[←hg]
    rw[hg]at hlk
    rw[hg]
    refine gg1 ?_
    refine uN 8 ([cells bx [uPt s,.map (some bm),.map (some bp)] 140,cells b5 [.int .i64 (Rl.kind ((Rl.power y t)):Nat),.int .u8 (Rl.byte ((Rl.power y t)):Nat),.int .i64 (Rl.left ((Rl.power y t)):Nat),.int .i64 (Rl.right ((Rl.power y t)):Nat),.int .i64 (Rl.times ((Rl.power y t)):Nat)] 74,mapF bp .i64 (jU K P X)]) ?_
    refine gg6 ?_
    refine uT 6 O (nZ (kt:=24) (et:=141) (z:= .slice none 0 0) (by rw[hE.P];kernel_rfl) (by rw[hE.P];kernel_rfl) (fun w=>by rw[hE.P];kernel_rfl) rfl rfl (by((repeat constructor);done)) (by assumption)) ?_
    apply eF 7 O oK O
    refine cZ (hE.t O) (fun b10=>?_)
    refine uE ?_
    apply fU O oK oK O
    refine uS ?_
    refine gg6 ?_
    have hcl:=fun(i:Nat)(hi:i<(X y).length)=>ct_pack (ct_find1 (E:=E) (b1:=b10) (b5:=b5) (g:=g) (c:=(P y).2) (y:=y) (t:=t) hE hXl (List.getElem?_eq_getElem hi))
    have hss:=qIv (vX (n:=(X y).length) (m:=m) (P:=fun i=>decide (t≤((X y)[i]?.getD (0,0)).1)) (pre:=dS [cells b10 [.slice (some ⟨g,0,none⟩) (X y).length (P y).2] 141,cells b5 [.int .i64 (Rl.kind ((Rl.power y t)):Nat),.int .u8 (Rl.byte ((Rl.power y t)):Nat),.int .i64 (Rl.left ((Rl.power y t)):Nat),.int .i64 (Rl.right ((Rl.power y t)):Nat),.int .i64 (Rl.times ((Rl.power y t)):Nat)] 74,sl (some ⟨g,0,none⟩) (P y).2 143 2 (X y).length (pwC (X y))]) hE hgo oO (fun i hi=>by
     have:=hcl i hi
     rw[List.getElem?_eq_getElem hi]
     exact this) oO (fun i hi=>by
     obtain⟨p,hp⟩:∃p,(X y)[i]?=some p:=⟨_,List.getElem?_eq_getElem oO⟩
     obtain⟨⟨q,hq,hq1⟩,_⟩:=hsx i p hp
     have:=hm0 i q hi hq
     rw[hp]
     exact decide_eq_false (by show ¬t≤p.1;omega)) (fun i hi hi2=>by
     obtain⟨p,hp⟩:∃p,(X y)[i]?=some p:=⟨_,List.getElem?_eq_getElem oO⟩
     obtain⟨⟨q,hq,hq1⟩,_⟩:=hsx i p hp
     have:=hm1' i q hi hq
     rw[hp]
     exact decide_eq_true (by show t≤p.1;omega)))
    refine uX (hss) O ?_
    rintro _ _⟨rfl,rfl⟩
    simp only[uV,uW]
    refine gg12 ?_
    refine bE O (fun h2=>?_) (fun h2=>?_)
    ·have e2:=hfd.1 oO
     rw[e2]
     refine gg8 ?_
     apply cB
     ·rfl
     ·(apply Rs.tmp rfl;apply Rs.tmp rfl;exact Rs.nil)
     ·exact⟨O,O⟩
     refine cO (m:=[slP (P y) (X y),bag (K.erase y) P X,cells bx [uPt s,.map (some bm),.map (some bp)] 140,mapF bm .i64 (mapN f),mapF bp .i64 (jU K P X),R]) (by rw[hP];(apply ent;(repeat constructor);done)) (cO (qNj hI.kn hyK) uI)
    obtain⟨p,hp⟩:∃p,(X y)[m]?=some p:=⟨_,List.getElem?_eq_getElem oO⟩
    have e2:=hfd.2 p hp
    rw[e2]
    obtain⟨f0,f0'⟩:=qOq hp (0+((m:Nat):Int).toNat*2) oO
    refine gg14 ?_
    apply cB
    ·rfl
    ·(apply Rs.tmp rfl;apply Rs.tmp rfl;exact Rs.nil)
    ·exact⟨O,O⟩
    refine cO (m:=[slP (P y) (X y),bag (K.erase y) P X,cells bx [uPt s,.map (some bm),.map (some bp)] 140,mapF bm .i64 (mapN f),mapF bp .i64 (jU K P X),R]) (by rw[hP];(apply ent;(repeat constructor);done)) (cO (qNj hI.kn hyK) uI)
   have hlk:=qJm (P:=P) (X:=X) hyK
   have e2:best (rls Es) f y t=none:=qAt.2 fun i=>by
    cases e3:hit (rls Es) f y t i with
    |none=>rfl
    |some a=>
     obtain⟨t',h3,_⟩:=wF.1 e3
     rw[hI.out y hyK i]at h3
     cases h3
   rw[e2]
   refine gg1 ?_
   refine uN 8 ([cells bx [uPt s,.map (some bm),.map (some bp)] 140,cells b5 [.int .i64 (Rl.kind ((Rl.power y t)):Nat),.int .u8 (Rl.byte ((Rl.power y t)):Nat),.int .i64 (Rl.left ((Rl.power y t)):Nat),.int .i64 (Rl.right ((Rl.power y t)):Nat),.int .i64 (Rl.times ((Rl.power y t)):Nat)] 74,mapF bp .i64 (jU K P X)]) ?_
   refine gg6 ?_
   refine uT 6 O (nZ (kt:=24) (et:=141) (z:= .slice none 0 0) (by rw[hE.P];kernel_rfl) (by rw[hE.P];kernel_rfl) (fun w=>by rw[hE.P];kernel_rfl) rfl rfl (by((repeat constructor);done)) (by assumption)) ?_
   apply eF 7 O oK O
   refine cZ (hE.t O) (fun b10=>?_)
   refine uE ?_
   apply fU O oK oK O
   refine uS ?_
   refine gg6 ?_
   have hss:=qIv (l:=[]) (vX (n:=0) (m:=0) (fc:=104) (caps:=[uPt b10,uPt b5]) (P:=fun i=>true) (pre:=dS []) hE hgo oO (fun i hi=>by omega) oO (fun i hi=>by omega) (fun i hi hi2=>by omega))
   refine uX (hss) O ?_
   rintro _ _⟨rfl,rfl⟩
   simp only[uV,uW]
   refine gg12 ?_
   refine bE O (fun h2=>?_) (fun h2=>?_)
   ·refine gg8 ?_
    exact uZ O (.tmp O (.tmp O .nil)) ⟨O,O⟩
   exfalso;omega
end
section
open Go Go.RowKit Sl Eg
variable {E:Env}{Es:List Ent}{pp tb s most:Nat}
def Px.cp:Px→Bool
 | .copy _ _=>true
 | .text _=>false
def Px.fr:Px→Nat
 | .copy f _=>f
 | .text _=>0
def Px.nn:Px→Nat
 | .copy _ n=>n
 | .text _=>0
def Px.tx:Px→Nat
 | .copy _ _=>0
 | .text x=>x
def pxV (x:Px):List Value:=[.bool x.cp,.int .i64 (x.fr:Nat),.int .i64 (x.nn:Nat),.int .i64 (x.tx:Nat)]
def pxC (l:List Px):List Value:=l.flatMap pxV
theorem jM (a b:List Px):pxC (a++b)=pxC a++pxC b:=by simp[pxC]
theorem pcs_fnd {L:List Rl}{f:Nat→Option Nat}{n a:Nat}{r:Rl}(hr:L[n]?=some r)(h:fnd L f (n+1) r=some a):pcs L f (n+1)=[.copy a (len L (n+1))]:=by
 unfold fnd at h
 cases e:f (n+1)with
 |some b=>rw[e]at h;cases h;exact xA e
 |none=>
  rw[e]at h
  cases r with
  |letter b=>cases h
  |pair l r=>cases h
  |power y t=>
   simp only at h
   rw[pQ e hr,h]
theorem qOc {L:List Rl}{f:Nat→Option Nat}{id:Nat}{r:Rl}(h:fnd L f id r=none):f id=none:=by
 unfold fnd at h
 cases e:f id with
 |some b=>rw[e]at h;cases h
 |none=>rfl
theorem qOo {L:List Rl}{f:Nat→Option Nat}{n:Nat}{r:Rl}(hr:L[n]?=some r)(h:fnd L f (n+1) r=none)(hp:∀a b,r≠ .pair a b):pcs L f (n+1)=[.text (n+1)]:=by
 have e:=qOc h
 unfold fnd at h
 rw[e]at h
 cases r with
 |letter b=>exact tF e hr
 |pair l r=>exact absurd rfl (hp l r)
 |power y t=>
  simp only at h
  rw[pQ e hr,h]
def stM (L:List Rl)(st:List Nat):Nat:=(st.map fun x=>2*len L x-1).sum
theorem zA (L:List Rl)(a b:List Nat):stM L (a++b)=stM L a+stM L b:=by simp[stM]
theorem qMv (L:List Rl)(x:Nat):stM L [x]=2*len L x-1:=by simp[stM]
theorem stM_two (L:List Rl)(x y:Nat):stM L [x,y]=(2*len L x-1)+(2*len L y-1):=by simp[stM]
theorem stM_len {L:List Rl}(hw:Wf L){st:List Nat}(h:∀x∈st,1≤x∧x≤L.length):st.length≤stM L st:=by
 induction st with
 |nil=>exact Nat.le_refl _
 |cons x st ih=>
  have h1:=ih fun y hy=>h y (by simp[hy])
  have h2:=rR hw x (h x (by simp)).1 (h x (by simp)).2
  simp only[stM,List.map_cons,List.sum_cons,List.length_cons]at h1 ⊢
  omega
structure PcG where
 st:List Nat
 out:List Px
 p:Option Addr
 c:Nat
 q:Option Addr
 d:Nat
theorem qTl (hE:Seat E){bx bm bp b:Nat}{f:Nat→Option Nat}{K:List Nat}{P:Nat→Option Addr×Nat}{X:Nat→List (Nat×Nat)}(hI:IxOk (rls Es) f K X)(hb:b≤Es.length)(hbl:len (rls Es) b≤100000)(hpl:(pcs (rls Es) f b).length≤4096):
  Ct E 35 [uPt bx,.int .i64 (b:Nat)] [bR s most Es,cells bx [uPt s,.map (some bm),.map (some bp)] 140,mapF bm .i64 (mapN f),mapF bp .i64 (jU K P X),bag K P X]
   (fun v Q=>∃q d,v= .tuple #[.slice q (pcs (rls Es) f b).length d,.nilIface]∧(pcs (rls Es) f b=[]→q=none∧d=0)∧Q=[bR s most Es,cells bx [uPt s,.map (some bm),.map (some bp)] 140,mapF bm .i64 (mapN f),mapF bp .i64 (jU K P X),bag K P X,sl q d 45 4 (pcs (rls Es) f b).length (pxC (pcs (rls Es) f b))]):=by
 refine fG (p:=bR s most Es) uK (fun _ h=>dU h) (fun hsay=>?_)
 have hw:=hsay.1
 have hLl:=bQ Es
 refine bO (hE.fn Tryz.func35) O O O (fun R=>?_)
 simp only[dV,uV,uW]
 refine gg16 ?_
 refine jS (fun q:PcG=>[(0,uPt bx),(6,.slice q.q q.out.length q.d),(7,.slice q.p q.st.length q.c)]) (fun q=>[bR s most Es,cells bx [uPt s,.map (some bm),.map (some bp)] 140,mapF bm .i64 (mapN f),mapF bp .i64 (jU K P X),bag K P X,sl q.p q.c 24 1 q.st.length (idC q.st),sl q.q q.d 45 4 q.out.length (pxC q.out),R]) (fun q=>q.out++(q.st.reverse.flatMap (pcs (rls Es) f))=pcs (rls Es) f b∧(∀x∈q.st,1≤x∧x≤(rls Es).length)∧stM (rls Es) q.st≤200000∧(q.out=[]→q.q=none∧q.d=0)) ?_ ?_
 ·refine gg6 ?_
  refine bE O (fun h0=>?_) (fun h0=>?_)
  ·refine jI (gW (t:=24) (sz:=1)) ?_
   refine jI (gW (t:=45) (sz:=4)) ?_
   refine gg3 ?_
   refine uU ?_
   refine aU (hE.t O) (hE.t O) O O O (fun b18=>?_)
   refine uU ?_
   apply bU (hE.t O) (hE.t O) O O O
   ·exact uK
   ·exact uK
   ·rfl
   ·rfl
   ·omega
   ·omega
   ·(unfold maxLen;omega)
   intro g19 c19 n19 x19 hn19 hx19
   refine gg2 ?_
   refine fA (ι:=PcG) ⟨[b],[],some ⟨g19,0,none⟩,c19,none,0⟩ ⟨by simp,fun x hx=>by simp at hx;subst hx;exact⟨oO,oO⟩,by simp only[qMv];omega,fun _=>⟨rfl,rfl⟩⟩ ⟨rfl,rfl,by rw[hn19];rfl,trivial⟩ ?_
   rw[hn19,hx19]
   exact uI
  obtain rfl:b=0:=by omega
  refine jI (gW (t:=24) (sz:=1)) ?_
  refine jI (gW (t:=45) (sz:=4)) ?_
  refine gg1 ?_
  refine fA (ι:=PcG) ⟨[],[],none,0,none,0⟩ ⟨by simp[qGn],fun x hx=>by simp at hx,by simp[stM],fun _=>⟨rfl,rfl⟩⟩ ⟨rfl,rfl,rfl,trivial⟩ ?_
  exact uI
 rintro⟨st,out,p,c,q,d⟩⟨hI0,hI1,hI2,hI3⟩
 simp only at hI0 hI1 hI2 hI3 ⊢
 refine gg2 ?_
 refine dX (fun q:PcG=>[(0,uPt bx),(6,.slice q.q q.out.length q.d),(7,.slice q.p q.st.length q.c)]) (fun q=>[bR s most Es,cells bx [uPt s,.map (some bm),.map (some bp)] 140,mapF bm .i64 (mapN f),mapF bp .i64 (jU K P X),bag K P X,sl q.p q.c 24 1 q.st.length (idC q.st),sl q.q q.d 45 4 q.out.length (pxC q.out),R]) (fun q=>stM (rls Es) q.st) (fun q=>q.out++(q.st.reverse.flatMap (pcs (rls Es) f))=pcs (rls Es) f b∧(∀x∈q.st,1≤x∧x≤(rls Es).length)∧stM (rls Es) q.st≤200000∧(q.out=[]→q.q=none∧q.d=0)) ⟨st,out,p,c,q,d⟩ ⟨hI0,hI1,hI2,hI3⟩ ⟨O,O,O,trivial⟩ uI ?_
 clear hI0 hI1 hI2 hI3 st out p c q d
 rintro⟨st,out,p,c,q,d⟩⟨hI0,hI1,hI2,hI3⟩
 simp only at hI0 hI1 hI2 hI3 ⊢
 have hstl:=stM_len hw hI1
 have houtl:=congrArg List.length hI0
 simp only[List.length_append]at houtl
 refine gg8 ?_
 refine bE O (fun h=>?_) (fun h=>?_)
 ·obtain⟨ini,x,rfl⟩:∃ini x,st=ini++[x]:=by
   rcases List.eq_nil_or_concat st with rfl|⟨ini,x,rfl⟩
   ·simp at h
   exact⟨ini,x,by rw[List.concat_eq_append]⟩
  have hil:(ini++[x]).length=ini.length+1:=by simp
  have hini:∀y∈ini,1≤y∧y≤(rls Es).length:=fun y hy=>hI1 y (by simp[hy])
  have hxx:=hI1 x (by simp)
  rw[zA,qMv]at hI2
  rw[List.reverse_append]at hI0
  simp only[List.reverse_cons,List.reverse_nil,List.nil_append,List.cons_append,List.flatMap_cons]at hI0
  obtain⟨i,rfl⟩:∃i,x=i+1:=⟨x-1,oO⟩
  obtain⟨en,hent⟩:∃y,Es[i]?=some y:=⟨_,List.getElem?_eq_getElem oO⟩
  have hri:(rls Es)[i]?=some en.r:=rU hent
  have htl:en.t.length=len (rls Es) (i+1):=by rw[hsay.2.1 i en hent];rfl
  have hlp:=rR hw (i+1) oO oO
  have hsm:stM (rls Es) (ini++[i+1])=stM (rls Es) ini+(2*len (rls Es) (i+1)-1):=by rw[zA,qMv]
  refine jY (p:=sl p c 24 1 (ini++[i+1]).length (idC (ini++[i+1]))) uK (fun _ h=>And.intro (eZ h oO) (qX h).1) ?_
  rintro⟨⟨g,rfl⟩,hcap⟩
  have f0:=kE (l:=ini++[i+1]) (i:=ini.length) (x:=i+1) (by simp) ((((ini++[i+1]).length:Nat):Int)-1).toNat oO
  refine gg20 ?_
  refine uB (gV ini.length O O (hE.t O) oO oO) ?_
  refine gg3 ?_
  refine jI (cK (p:=sl (some ⟨g,0,none⟩) c 24 1 (ini++[i+1]).length (idC (ini++[i+1]))) (p':=sl (some ⟨g,0,none⟩) c 24 1 ini.length (idC ini)) uK (nM oO (by rw[jB,List.take_append_of_le_length (by simp[idC])];exact List.take_of_length_le (by simp[idC])) (by simp))) ?_
  refine gg7 ?_
  refine uX (qD hE hent) O ?_
  rintro _ _⟨rfl,rfl⟩
  simp only[uV,uW]
  refine gg3 ?_
  refine uU (cZ (hE.t O) (fun b9=>?_))
  refine gg21 ?_
  refine uX (mG hE hent) O ?_
  rintro _ _⟨rfl,rfl⟩
  simp only[uV,uW]
  rw[htl]
  refine gg3 ?_
  refine uU (cZ (hE.t O) (fun b11=>?_))
  refine gg19 ?_
  refine uX (ct_find (f:=f) hE hI) O ?_
  rintro _ _⟨rfl,rfl⟩
  simp only[uV,uW]
  cases hfd:fnd (rls Es) f (i+1) en.r with
  |some a=>
   have hpc:=pcs_fnd hri hfd
   rw[hpc]at hI0
   simp only[Option.getD_some,Option.isSome_some]
   refine gg22 ?_
   refine uU ?_
   refine aU (hE.t O) (hE.t O) O O O (fun b77=>?_)
   refine uU ?_
   apply bU (hE.t O) (hE.t O) O O O
   ·exact uK
   ·exact uK
   ·rfl
   ·rfl
   ·omega
   ·omega
   ·(unfold maxLen;omega)
   intro g78 c78 n78 x78 hn78 hx78
   refine gg11 ?_
   obtain rfl:x78=pxC (out++[.copy a (len (rls Es) (i+1))]):=by rw[hx78,jM];rfl
   obtain rfl:n78=(out++[Px.copy a (len (rls Es) (i+1))]).length:=by simp;omega
   rw[←List.append_assoc]at hI0
   refine bE O (fun hbig=>?_) (fun hbig=>?_)
   ·exfalso
    have hol:(out++[Px.copy a (len (rls Es) (i+1))]).length=out.length+1:=by simp
    have:=congrArg List.length hI0
    rw[List.length_append,hol]at this
    omega
   refine gg2 ?_
   refine bS (ι:=PcG) (j:=⟨ini,out++[Px.copy a (len (rls Es) (i+1))],some ⟨g,0,none⟩,c,some ⟨g78,0,none⟩,c78⟩) ⟨hI0,hini,by simp only;omega,fun h=>by simp at h⟩ (by simp only;omega) ⟨rfl,rfl,rfl,trivial⟩ uI
  |none=>
   simp only[Option.getD_none,Option.isSome_none]
   refine gg24 ?_
   generalize en.r=r at hri hfd ⊢
   cases r with
   |letter l=>
    rw[qOo hri hfd (fun _ _ e=>by cases e)]at hI0
    rw[←List.append_assoc]at hI0
    refine bE O (fun h2=>?_) (fun h2=>?_)
    ·exfalso;simp[Rl.kind]at h2
    refine gg4 ?_
    refine uU ?_
    refine aU (hE.t O) (hE.t O) O O O (fun b68=>?_)
    refine uU ?_
    apply bU (hE.t O) (hE.t O) O O O
    ·exact uK
    ·exact uK
    ·rfl
    ·rfl
    ·omega
    ·omega
    ·(unfold maxLen;omega)
    intro g69 c69 n69 x69 hn69 hx69
    refine gg11 ?_
    obtain rfl:x69=pxC (out++[.text (i+1)]):=by rw[hx69,jM];rfl
    obtain rfl:n69=(out++[Px.text (i+1)]).length:=by simp;omega
    refine bE O (fun hbig=>?_) (fun hbig=>?_)
    ·exfalso
     have hol:(out++[Px.text (i+1)]).length=out.length+1:=by simp
     have:=congrArg List.length hI0
     rw[List.length_append,hol]at this
     omega
    refine gg2 ?_
    refine bS (ι:=PcG) (j:=⟨ini,out++[Px.text (i+1)],some ⟨g,0,none⟩,c,some ⟨g69,0,none⟩,c69⟩) ⟨hI0,hini,by simp only;omega,fun h=>by simp at h⟩ (by simp only;omega) ⟨rfl,rfl,rfl,trivial⟩ uI
   |power y t=>
    rw[qOo hri hfd (fun _ _ e=>by cases e)]at hI0
    rw[←List.append_assoc]at hI0
    refine bE O (fun h2=>?_) (fun h2=>?_)
    ·exfalso;simp[Rl.kind]at h2
    refine gg4 ?_
    refine uU ?_
    refine aU (hE.t O) (hE.t O) O O O (fun b68=>?_)
    refine uU ?_
    apply bU (hE.t O) (hE.t O) O O O
    ·exact uK
    ·exact uK
    ·rfl
    ·rfl
    ·omega
    ·omega
    ·(unfold maxLen;omega)
    intro g69 c69 n69 x69 hn69 hx69
    refine gg11 ?_
    obtain rfl:x69=pxC (out++[.text (i+1)]):=by rw[hx69,jM];rfl
    obtain rfl:n69=(out++[Px.text (i+1)]).length:=by simp;omega
    refine bE O (fun hbig=>?_) (fun hbig=>?_)
    ·exfalso
     have hol:(out++[Px.text (i+1)]).length=out.length+1:=by simp
     have:=congrArg List.length hI0
     rw[List.length_append,hol]at this
     omega
    refine gg2 ?_
    refine bS (ι:=PcG) (j:=⟨ini,out++[Px.text (i+1)],some ⟨g,0,none⟩,c,some ⟨g69,0,none⟩,c69⟩) ⟨hI0,hini,by simp only;omega,fun h=>by simp at h⟩ (by simp only;omega) ⟨rfl,rfl,rfl,trivial⟩ uI
   |pair l r=>
    have hk:=hw.ok _ _ hri
    have hlr:=nV hri hk
    rw[qAk hw (qOc hfd) hri,List.append_assoc]at hI0
    obtain⟨k1,k2,k3,k4⟩:=hk
    have l1:=rR hw l k1 oO
    have l2:=rR hw r k3 oO
    have hsm2:stM (rls Es) (ini++[r,l])=stM (rls Es) ini+((2*len (rls Es) r-1)+(2*len (rls Es) l-1)):=by rw[zA,stM_two]
    refine bE O (fun h2=>?_) (fun h2=>?_)
    ·refine gg6 ?_
     refine uU ?_
     refine aU (hE.t O) (hE.t O) O O O (fun b88=>?_)
     refine uU ?_
     apply bU (hE.t O) (hE.t O) O O O
     ·exact uK
     ·exact uK
     ·rfl
     ·rfl
     ·omega
     ·omega
     ·(unfold maxLen;omega)
     intro g89 c89 n89 x89 hn89 hx89
     refine gg11 ?_
     obtain rfl:x89=idC (ini++[r,l]):=by rw[hx89,jB];rfl
     obtain rfl:n89=(ini++[r,l]).length:=by simp;omega
     refine bE O (fun hbig=>?_) (fun hbig=>?_)
     ·exfalso;omega
     refine gg2 ?_
     refine bS (ι:=PcG) (j:=⟨ini++[r,l],out,some ⟨g89,0,none⟩,c89,q,d⟩) ⟨by simpa using hI0,fun y hy=>?_,by simp only;omega,hI3⟩ (by simp only;omega) ⟨rfl,rfl,rfl,trivial⟩ uI
     rcases List.mem_append.1 hy with hy|hy
     ·exact hini y hy
     simp at hy
     rcases hy with rfl|rfl<;>constructor <;>omega
    exfalso;simp[Rl.kind]at h2
 obtain rfl:st=[]:=List.eq_nil_of_length_eq_zero oO
 have hd:out=pcs (rls Es) f b:=by simpa using hI0
 subst hd
 refine gg13 ?_
 exact uZ O (.tmp O (.tmp O .nil)) ⟨q,d,O,hI3,O⟩
end
section
open Go Go.RowKit Sl Eg
variable {E:Env}{Es:List Ent}{pp tb s most:Nat}
theorem qEr {l:List Px}{i:Nat}{x:Px}(h:l[i]?=some x)(o:Nat)(ho:o=0+i*4):(pxC l)[o]?=some (.bool x.cp)∧(pxC l)[o+1]?=some (.int .i64 (x.fr:Nat))∧(pxC l)[o+1+1]?=some (.int .i64 (x.nn:Nat))∧(pxC l)[o+1+1+1]?=some (.int .i64 (x.tx:Nat)):=by
 subst ho
 induction l generalizing i with
 |nil=>simp at h
 |cons q l ih=>
  cases i with
  |zero=>simp at h;subst h;exact⟨rfl,rfl,rfl,rfl⟩
  |succ i=>
   rw[List.getElem?_cons_succ]at h
   have:=ih h
   rw[show 0+(i+1)*4=(0+i*4)+1+1+1+1 by omega]
   exact this
theorem qIt (hE:Seat E){x:Px}{N:Nat}(hx:x.ok (rls Es) N):Ct E 55 [uPt pp,.agg ⟨pxV x⟩] [cells pp [uPt s,uPt tb] 86,tabP tb s (rls Es),bR s most Es] (fun v Q=>v= .tuple #[.int .i64 (x.size (rls Es):Nat),.nilIface]∧Q=[cells pp [uPt s,uPt tb] 86,tabP tb s (rls Es),bR s most Es]):=by
 cases x with
 |copy f n=>
  refine bO (hE.fn Tryz.func55) O O O (fun R=>?_)
  simp only[dV,uV,uW]
  refine gg2 ?_
  refine uU ?_
  refine iV O (fun b3=>?_)
  refine gg22 ?_
  exact uZ O (.tmp O (.tmp O .nil)) ⟨O,O⟩
 |text y=>
  obtain⟨h0,hsn⟩:=hx
  have hle:=hsn.gd.1
  have hLl:=bQ Es
  obtain⟨i,rfl⟩:∃i,y=i+1:=⟨y-1,oO⟩
  obtain⟨en,hent⟩:∃y,Es[i]?=some y:=⟨_,List.getElem?_eq_getElem oO⟩
  refine fG (p:=bR s most Es) uK (fun _ h=>dU h) (fun hsay=>?_)
  have htl:en.t.length=len (rls Es) (i+1):=by rw[hsay.2.1 i en hent];rfl
  refine bO (hE.fn Tryz.func55) O O O (fun R=>?_)
  simp only[dV,uV,uW]
  refine gg2 ?_
  refine uU ?_
  refine iV O (fun b3=>?_)
  refine gg15 ?_
  refine uN 10 ([cells b3 (pxV (.text (i+1))) 45]) ?_
  refine gg1 ?_
  refine uT 2 O (uBf O) ?_
  refine gg1 ?_
  apply qGd 1 8 O O oK O O
  ·refine uC (gU hE) O ?_
   rintro _ _⟨rfl,rfl⟩
   simp only[uV,uW]
   refine uE ?_
   apply qGd 4 8 O O oK O O
   ·refine uC (mG hE hent) O ?_
    rintro _ _⟨rfl,rfl⟩
    simp only[uV,uW]
    rw[htl]
    refine uE ?_
    refine uT 5 O (aB O) ?_
    refine gg2 ?_
    apply eF 8 O oK O
    refine cZ (hE.t O) (fun b6=>?_)
    refine uE ?_
    apply eF 9 O oK O
    refine uS ?_
    refine uE ?_
    apply dF 10 O oK
    ·exact aC O
    ·rfl
    refine gg12 ?_
    exact uZ O (.tmp O (.tmp O .nil)) ⟨O,O⟩
   refine cZ (hE.t O) (fun b6=>?_)
   refine uE ?_
   apply eF 4 O oK O
   refine uC (mG hE hent) O ?_
   rintro _ _⟨rfl,rfl⟩
   simp only[uV,uW]
   rw[htl]
   refine uE ?_
   apply dF 5 O oK
   ·exact aB O
   ·rfl
   refine gg2 ?_
   apply eF 9 O oK O
   refine uS ?_
   refine uE ?_
   apply dF 10 O oK
   ·exact aC O
   ·rfl
   refine gg12 ?_
   exact uZ O (.tmp O (.tmp O .nil)) ⟨O,O⟩
  refine cZ (hE.t O) (fun b6=>?_)
  refine uE ?_
  apply eF 1 O oK O
  refine uC (gU hE) O ?_
  rintro _ _⟨rfl,rfl⟩
  simp only[uV,uW]
  refine uE ?_
  apply eF 4 O oK O
  refine uC (mG hE hent) O ?_
  rintro _ _⟨rfl,rfl⟩
  simp only[uV,uW]
  rw[htl]
  refine uE ?_
  apply dF 5 O oK
  ·exact aB O
  ·rfl
  refine gg2 ?_
  apply eF 9 O oK O
  refine uS ?_
  refine uE ?_
  apply dF 10 O oK
  ·exact aC O
  ·rfl
  refine gg12 ?_
  exact uZ O (.tmp O (.tmp O .nil)) ⟨O,O⟩
theorem qBa (hE:Seat E)(hB:Base E.w0){x:Nat}(hg:good (rls Es) x):Ct E 83 [uPt pp,.int .i64 (x:Nat)] [cells pp [uPt s,uPt tb] 86,tabP tb s (rls Es),bR s most Es] (fun v Q=>v= .tuple #[.int .i64 (len (rls Es) x:Nat),.nilIface]∧Q=[cells pp [uPt s,uPt tb] 86,tabP tb s (rls Es),bR s most Es]):=by
 have hle:=hg.1
 have hLl:=bQ Es
 rcases Nat.eq_zero_or_pos x with rfl|h0
 ·refine bO (hE.fn Tryz.func83) O O O (fun R=>?_)
  simp only[dV,uV,uW]
  refine gg15 ?_
  refine uX (gU hE) O ?_
  rintro _ _⟨rfl,rfl⟩
  simp only[uV,uW]
  refine gg11 ?_
  refine uX (gU hE) O ?_
  rintro _ _⟨rfl,rfl⟩
  simp only[uV,uW]
  refine gg1 ?_
  refine uX (qDr hE) O ?_
  rintro _ _⟨rfl,rfl⟩
  simp only[uV,uW]
  refine gg3 ?_
  refine uU (cZ (hE.t O) (fun b6=>?_))
  refine gg19 ?_
  refine uX (rA hE hB hg) O ?_
  rintro _ _⟨rfl,rfl⟩
  simp only[uV,uW]
  refine gg25 ?_
  exact uZ O (.tmp O (.tmp O .nil)) ⟨O,O⟩
 obtain⟨i,rfl⟩:∃i,x=i+1:=⟨x-1,oO⟩
 obtain⟨en,hent⟩:∃y,Es[i]?=some y:=⟨_,List.getElem?_eq_getElem oO⟩
 refine fG (p:=bR s most Es) uK (fun _ h=>dU h) (fun hsay=>?_)
 have htl:en.t.length=len (rls Es) (i+1):=by rw[hsay.2.1 i en hent];rfl
 refine bO (hE.fn Tryz.func83) O O O (fun R=>?_)
 simp only[dV,uV,uW]
 refine gg15 ?_
 refine uX (gU hE) O ?_
 rintro _ _⟨rfl,rfl⟩
 simp only[uV,uW]
 refine gg11 ?_
 refine uX (gU hE) O ?_
 rintro _ _⟨rfl,rfl⟩
 simp only[uV,uW]
 refine gg1 ?_
 refine uX (mG hE hent) O ?_
 rintro _ _⟨rfl,rfl⟩
 simp only[uV,uW]
 rw[htl]
 refine gg3 ?_
 refine uU (cZ (hE.t O) (fun b6=>?_))
 refine gg19 ?_
 refine uX (rA hE hB hg) O ?_
 rintro _ _⟨rfl,rfl⟩
 simp only[uV,uW]
 refine gg25 ?_
 exact uZ O (.tmp O (.tmp O .nil)) ⟨O,O⟩
theorem qFk (hE:Seat E)(hB:Base E.w0){x:Px}{N:Nat}(hN:N≤100000)(hx:x.ok (rls Es) N):Ct E 84 [uPt pp,.int .i64 (N:Nat),.agg ⟨pxV x⟩] [cells pp [uPt s,uPt tb] 86,tabP tb s (rls Es),bR s most Es] (fun v Q=>v= .nilIface∧Q=[cells pp [uPt s,uPt tb] 86,tabP tb s (rls Es),bR s most Es]):=by
 cases x with
 |copy f n=>
  obtain⟨h1,h2⟩:=hx
  refine bO (hE.fn Tryz.func84) O O O (fun R=>?_)
  simp only[dV,uV,uW]
  refine gg2 ?_
  refine uU ?_
  refine iV O (fun b5=>?_)
  refine gg18 ?_
  refine dW 14 O (fun h3=>?_) (fun h3=>?_)
  ·exfalso;simp[Px.tx]at h3
  refine gg9 ?_
  refine bE O (fun h4=>?_) (fun h4=>?_)
  ·exfalso;simp only[Px.nn]at h4;omega
  refine gg9 ?_
  refine uX (ct_lnRng (f:=f) (n:=n) (l:=N) hE oO h2) O ?_
  rintro _ _⟨rfl,rfl⟩
  simp only[uV,uW]
  refine gg5 ?_
  exact uZ O (.tmp O .nil) ⟨O,O⟩
 |text y=>
  obtain⟨h0,hsn⟩:=hx
  refine bO (hE.fn Tryz.func84) O O O (fun R=>?_)
  simp only[dV,uV,uW]
  refine gg2 ?_
  refine uU ?_
  refine iV O (fun b5=>?_)
  refine gg20 ?_
  refine dW 29 O (fun h3=>?_) (fun h3=>?_)
  ·exfalso;simp[Px.fr]at h3
  refine gg8 ?_
  refine dW 34 O (fun h4=>?_) (fun h4=>?_)
  ·exfalso;simp[Px.nn]at h4
  refine gg9 ?_
  refine bE O (fun h5=>?_) (fun h5=>?_)
  ·exfalso;simp only[Px.tx]at h5;omega
  refine gg7 ?_
  refine uX (rA hE hB hsn.gd) O ?_
  rintro _ _⟨rfl,rfl⟩
  simp only[uV,uW]
  refine gg14 ?_
  exact uZ O (.tmp O .nil) ⟨O,O⟩
theorem asz_take {L:List Rl}{D:List Px}{i:Nat}{x:Px}(h:D[i]?=some x):asz L (D.take (i+1))=asz L (D.take i)+x.size L:=by
 rw[List.take_add_one,h,xN]
 simp[asz]
theorem qLf (L:List Rl)(D:List Px)(i:Nat):asz L (D.take i)≤asz L D:=by
 have:=xN L (D.take i) (D.drop i)
 rw[List.take_append_drop]at this
 omega
theorem ct_Check (hE:Seat E)(hB:Base E.w0){base g c:Nat}{D:List Px}(hg:good (rls Es) base)(hbl:len (rls Es) base≤100000)(hD:∀x∈D,x.ok (rls Es) (len (rls Es) base)) (hn:D.length≤100000) (hsz:asz (rls Es) D≤1000000):
  Ct E 52 [uPt pp,.int .i64 (base:Nat),.slice (some ⟨g,0,none⟩) D.length c] [cells pp [uPt s,uPt tb] 86,tabP tb s (rls Es),bR s most Es,sl (some ⟨g,0,none⟩) c 45 4 D.length (pxC D)] (fun v Q=>v= .nilIface∧Q=[cells pp [uPt s,uPt tb] 86,tabP tb s (rls Es),bR s most Es,sl (some ⟨g,0,none⟩) c 45 4 D.length (pxC D)]):=by
 have hmx:dB=1152921504606846976:=rfl
 refine bO (hE.fn Tryz.func52) O O O (fun R=>?_)
 simp only[dV,uV,uW]
 refine gg9 ?_
 refine uX (qBa hE hB hg) O ?_
 rintro _ _⟨rfl,rfl⟩
 simp only[uV,uW]
 refine gg26 ?_
 refine dX (fun k:Nat=>[(0,uPt pp),(2,.slice (some ⟨g,0,none⟩) D.length c),(7,.int .i64 (len (rls Es) base:Nat)),(26,.slice (some ⟨g,0,none⟩) D.length c),(27,.int .i64 (D.length:Nat)),(28,.int .i64 (k:Nat))]) (fun _=>[cells pp [uPt s,uPt tb] 86,tabP tb s (rls Es),bR s most Es,sl (some ⟨g,0,none⟩) c 45 4 D.length (pxC D),R]) (fun k=>D.length-k) (fun k=>k≤D.length) 0 (Nat.zero_le _) ⟨O,O,O,O,O,O,trivial⟩ uI ?_
 intro k hk
 refine gg6 ?_
 refine bE O (fun hlt=>?_) (fun hlt=>?_)
 ·obtain⟨x,hx⟩:∃x,D[k]?=some x:=⟨_,List.getElem?_eq_getElem oO⟩
  have hok:=hD x (List.mem_of_getElem? hx)
  obtain⟨f0,f1,f2,f3⟩:=qEr hx (0+((k:Nat):Int).toNat*4) oO
  refine gg8 ?_
  refine uU (cZ (hE.t O) (fun b10=>?_))
  refine gg8 ?_
  refine uX (qFk (x:=x) hE hB hbl hok) O ?_
  rintro _ _⟨rfl,rfl⟩
  simp only[uV,uW]
  refine gg17 ?_
  refine iU 28 (.int .i64 ((k+1:Nat):Int)) O (bW oO) ?_
  refine bS (ι:=Nat) (j:=k+1) oO (by show D.length-(k+1)<D.length-k;omega) ⟨O,O,O,O,O,O,trivial⟩ uI
 obtain rfl:k=D.length:=by omega
 refine gg19 ?_
 refine dX (fun k:Nat=>[(0,uPt pp),(12,.int .i64 (asz (rls Es) (D.take k):Nat)),(40,.slice (some ⟨g,0,none⟩) D.length c),(41,.int .i64 (D.length:Nat)),(42,.int .i64 (k:Nat))]) (fun _=>[cells pp [uPt s,uPt tb] 86,tabP tb s (rls Es),bR s most Es,sl (some ⟨g,0,none⟩) c 45 4 D.length (pxC D),R]) (fun k=>D.length-k) (fun k=>k≤D.length) 0 (Nat.zero_le _) ⟨O,O,O,O,O,trivial⟩ uI ?_
 intro k hk
 refine gg6 ?_
 refine bE O (fun hlt=>?_) (fun hlt=>?_)
 ·obtain⟨x,hx⟩:∃x,D[k]?=some x:=⟨_,List.getElem?_eq_getElem oO⟩
  have hok:=hD x (List.mem_of_getElem? hx)
  have eT:=asz_take (L:=rls Es) hx
  have hTl:=qLf (rls Es) D (k+1)
  obtain⟨f0,f1,f2,f3⟩:=qEr hx (0+((k:Nat):Int).toNat*4) oO
  refine gg8 ?_
  refine uU (cZ (hE.t O) (fun b14=>?_))
  refine gg7 ?_
  refine uX (qIt (x:=x) hE hok) O ?_
  rintro _ _⟨rfl,rfl⟩
  simp only[uV,uW]
  refine gg21 ?_
  refine uX (qTh hE oO) O ?_
  rintro _ _⟨rfl,rfl⟩
  simp only[uV,uW]
  refine gg21 ?_
  rw[←eT]
  refine iU 42 (.int .i64 ((k+1:Nat):Int)) O (bW oO) ?_
  refine bS (ι:=Nat) (j:=k+1) oO (by show D.length-(k+1)<D.length-k;omega) ⟨O,O,O,O,O,trivial⟩ uI
 refine gg11 ?_
 exact uZ O (.tmp O .nil) ⟨O,O⟩
theorem qSv (hE:Seat E)(hB:Base E.w0){base:Nat}(hg:good (rls Es) base):
  Ct E 52 [uPt pp,.int .i64 (base:Nat),.slice none 0 0] [cells pp [uPt s,uPt tb] 86,tabP tb s (rls Es),bR s most Es] (fun v Q=>v= .nilIface∧Q=[cells pp [uPt s,uPt tb] 86,tabP tb s (rls Es),bR s most Es]):=by
 refine bO (hE.fn Tryz.func52) O O O (fun R=>?_)
 simp only[dV,uV,uW]
 refine gg9 ?_
 refine uX (qBa hE hB hg) O ?_
 rintro _ _⟨rfl,rfl⟩
 simp only[uV,uW]
 refine gg26 ?_
 refine kD 1 ?_
 refine gg27 ?_
 refine kD 1 ?_
 refine gg19 ?_
 exact uZ O (.tmp O .nil) ⟨O,O⟩
end
section
open Go Go.RowKit Sl Eg
variable {E:Env}{Es:List Ent}{pp tb s most:Nat}
theorem qKx {α:Type}{D:List α}{i:Nat}{x:α}(h:D[i]?=some x):D.take (i+1)=D.take i++[x]:=by rw[List.take_add_one,h];rfl
theorem qGi {L:List Rl}{D:List Px}{i:Nat}{x:Px}(h:D[i]?=some x):nrm ((D.take (i+1)).map (Px.out L))=addP (nrm ((D.take i).map (Px.out L))) (x.out L):=by
 rw[qKx h,List.map_append,List.map_cons,List.map_nil,qGh]
theorem qHo {L:List Rl}{D:List Px}{i:Nat}{x:Px}(h:D[i]?=some x):tsz L (D.take (i+1))=tsz L (D.take i)+x.tsize L:=by
 rw[qKx h,qEz];simp[tsz]
theorem qMy (L:List Rl)(D:List Px)(i:Nat):tsz L (D.take i)≤tsz L D:=by
 have:=qEz L (D.take i) (D.drop i)
 rw[List.take_append_drop]at this
 omega
structure Jn (Es:List Ent)(N:Nat)(D:List Px)(i:Nat)(M:List Ent)(out:List Px):Prop where
 eq:out.map (Px.out (rls (Es++M)))=nrm ((D.take i).map (Px.out (rls (Es++M))))
 ok:∀x∈out,x.ok (rls (Es++M)) N
 len:out.length≤i
 room:M.length≤D.length*tsz (rls Es) (D.take i)
def JnF (D:List Px)(i:Nat)(out:List Px):Prop:=∀y z,out.getLast?=some y→D[i]?=some z→¬pjn y z
theorem Jn.text {Es M M1:List Ent}{N i j id:Nat}{D out:List Px}{F:List UInt8}(h:Jn Es N D i M out)(hD':∀x∈D,x.ok (rls (Es++M)) N) (hij:i<j) (h7:nrm ((D.take j).map (Px.out (rls (Es++M))))=out.map (Px.out (rls (Es++M)))++[.text F]) (h8:tsz (rls Es) (D.take j)=tsz (rls Es) (D.take i)+F.length) (hid:id≠0) (hsn:Sn (rls (Es++(M++M1))) F id) (hM1:M1.length≤D.length*F.length):Jn Es N D j (M++M1) (out++[.text id]):=by
 obtain⟨j1,j2,j3,j4⟩:=h
 have e:rls (Es++(M++M1))=rls (Es++M)++rls M1:=by rw[←List.append_assoc,dA]
 obtain⟨a1,a2⟩:=Px.ok.exts (rls M1) j2
 obtain⟨b1,b2⟩:=Px.ok.exts (rls M1) (D:=D.take j) fun x hx=>hD' x (List.mem_of_mem_take hx)
 refine⟨?_,fun x hx=>?_,by simp;omega,?_⟩
 ·rw[List.map_append,e,a2,b2,h7]
  simp only[List.map_cons,List.map_nil,Px.out]
  rw[←e,hsn.tx]
 ·rcases List.mem_append.1 hx with hx|hx
  ·rw[e];exact a1 x hx
  simp at hx
  subst hx
  exact⟨hid,by rw[hsn.tx];exact hsn⟩
 rw[List.length_append,h8,Nat.mul_add]
 omega
theorem flat_ne {L:List Rl}(hw:Wf L){T:List Nat}{y:Nat}(hy:T.head?=some y)(h0:y≠0)(h:Sns L (T.map (txt L)) T):(T.map (txt L)).flatten≠[]:=by
 cases T with
 |nil=>simp at hy
 |cons a T=>
  simp at hy
  subst hy
  rw[List.map_cons]at h ⊢
  cases h with
  |cons h1 _=>
   have:=(h1.parts hw h0).2.2
   intro e
   rw[List.flatten_cons]at e
   have e2:=(List.append_eq_nil_iff.1 e).1
   rw[e2]at this
   simp at this
structure JoG where
 i:Nat
 out:List Px
 M:List Ent
 q:Option Addr
 d:Nat
structure JiG where
 j:Nat
 T:List Nat
 q:Option Addr
 d:Nat
theorem ct_djoin (hE:Seat E)(hB:Base E.w0){N g c:Nat}{D:List Px}(hN:N≤100000)(hD:∀x∈D,x.ok (rls Es) N) (hn:D.length≤100000) (hsz:tsz (rls Es) D≤1000000) (hroom:Es.length+D.length*tsz (rls Es) D≤most):
  Ct E 60 [uPt pp,.slice (some ⟨g,0,none⟩) D.length c] [cells pp [uPt s,uPt tb] 86,tabP tb s (rls Es),bR s most Es,sl (some ⟨g,0,none⟩) c 45 4 D.length (pxC D)]
   (fun v Q=>∃M out q d,v= .tuple #[.slice q out.length d,.nilIface]∧Jn Es N D D.length M out∧Q=[cells pp [uPt s,uPt tb] 86,tabP tb s (rls (Es++M)),bR s most (Es++M),sl (some ⟨g,0,none⟩) c 45 4 D.length (pxC D),sl q d 45 4 out.length (pxC out)]):=by
 have hmx:dB=1152921504606846976:=rfl
 refine bO (hE.fn Tryz.func60) O O O (fun R=>?_)
 simp only[dV,uV,uW]
 refine gg18 ?_
 refine jI (gW (t:=45) (sz:=4)) ?_
 refine dX (fun x:JoG=>[(0,uPt pp),(1,.slice (some ⟨g,0,none⟩) D.length c),(6,.slice x.q x.out.length x.d),(7,.int .i64 (x.i:Nat))]) (fun x=>[cells pp [uPt s,uPt tb] 86,tabP tb s (rls (Es++x.M)),bR s most (Es++x.M),sl (some ⟨g,0,none⟩) c 45 4 D.length (pxC D),sl x.q x.d 45 4 x.out.length (pxC x.out),R]) (fun x=>D.length-x.i) (fun x=>x.i≤D.length∧Jn Es N D x.i x.M x.out∧JnF D x.i x.out) ⟨0,[],[],none,0⟩ ⟨Nat.zero_le _,⟨O,fun x h=>by simp at h,Nat.le_refl _,Nat.zero_le _⟩,fun y z h=>by simp at h⟩ ⟨rfl,rfl,rfl,rfl,trivial⟩ (by simp only[List.append_nil];(apply ent;(repeat constructor);done)) ?_
 rintro⟨i,out,M,q,d⟩⟨hi,hJ,hF⟩
 simp only at hi hJ hF ⊢
 obtain⟨j1,j2,j3,j4⟩:=hJ
 have eL:=dA Es M
 have hDx:=Px.ok.exts (rls M) hD
 rw[←eL]at hDx
 obtain⟨hD',hDo⟩:=hDx
 refine gg9 ?_
 refine bE O (fun hlt=>?_) (fun hlt=>?_)
 ·obtain⟨x,hx⟩:∃x,D[i]?=some x:=⟨_,List.getElem?_eq_getElem oO⟩
  have hok:=hD' x (List.mem_of_getElem? hx)
  have hok0:=hD x (List.mem_of_getElem? hx)
  obtain⟨f0,f1,f2,f3⟩:=qEr hx (0+((i:Nat):Int).toNat*4) oO
  have hst:nrm ((D.take (i+1)).map (Px.out (rls (Es++M))))=(out++[x]).map (Px.out (rls (Es++M))):=by
   rw[qGi hx,←j1]
   exact addP_pjn fun y hy=>hF y x hy hx
  have hts:=qHo (L:=rls Es) hx
  refine gg9 ?_
  refine uU (cZ (hE.t O) (fun b8=>?_))
  refine gg17 ?_
  clear f0 f1 f2 f3
  cases x with
  |copy f n=>
   obtain⟨h1,h2⟩:=hok
   refine gg3 ?_
   refine dX (fun y:Nat×Nat=>[(0,uPt pp),(1,.slice (some ⟨g,0,none⟩) D.length c),(6,.slice q out.length d),(7,.int .i64 (y.1:Nat)),(8,uPt b8)]) (fun y=>[cells b8 (pxV (.copy f y.2)) 45,cells pp [uPt s,uPt tb] 86,tabP tb s (rls (Es++M)),bR s most (Es++M),sl (some ⟨g,0,none⟩) c 45 4 D.length (pxC D),sl q d 45 4 out.length (pxC out),R]) (fun y=>D.length-y.1) (fun y=>i<y.1∧y.1≤D.length∧1≤y.2∧f+y.2≤N∧nrm ((D.take y.1).map (Px.out (rls (Es++M))))=(out++[Px.copy f y.2]).map (Px.out (rls (Es++M)))∧tsz (rls Es) (D.take y.1)=tsz (rls Es) (D.take i)) (i+1,n) ⟨by simp only;omega,by simp only;omega,h1,h2,hst,by simp only;rw[hts];rfl⟩ ⟨rfl,rfl,rfl,congrArg some (bW (by simp only;omega)),rfl,trivial⟩ uI ?_
   rintro⟨j,m⟩⟨k1,k2,k3,k4,k5,k6⟩
   simp only at k1 k2 k3 k4 k5 k6 ⊢
   have fin:(∀z,D[j]?=some z→¬pjn (.copy f m) z)→Jn Es N D j M (out++[.copy f m])∧JnF D j (out++[.copy f m]):=fun hz=>⟨⟨k5.symm,fun y hy=>by
    rcases List.mem_append.1 hy with hy|hy
    ·exact j2 y hy
    ·simp at hy;subst hy;exact⟨k3,k4⟩,by simp;omega,by rw[k6];exact j4⟩,fun y z hy hz2=>by
    simp at hy
    subst hy
    exact hz z hz2⟩
   have e1:(Px.copy f m).fr=f:=rfl
   have e2:(Px.copy f m).nn=m:=rfl
   refine gg8 ?_
   refine dW 27 O (fun hj=>?_) (fun hj=>?_)
   ·have hjl:j<D.length:=oO
    obtain⟨z,hz⟩:∃z,D[j]?=some z:=⟨_,List.getElem?_eq_getElem hjl⟩
    have hzok:=hD' z (List.mem_of_getElem? hz)
    have hts2:=qHo (L:=rls Es) hz
    have hnt:=qGi (L:=rls (Es++M)) hz
    obtain⟨f0,f1,f2,f3⟩:=qEr hz (0+((j:Nat):Int).toNat*4) oO
    refine gg12 ?_
    cases z with
    |copy f' n2=>
     obtain⟨z1,z2⟩:=hzok
     have e3:(Px.copy f' n2).fr=f':=rfl
     have e4:(Px.copy f' n2).nn=n2:=rfl
     refine gg25 ?_
     refine bE O (fun hc=>?_) (fun hc=>?_)
     ·have hff:f'=f+m:=by simp only[Px.fr,Px.nn]at hc;omega
      subst hff
      refine gg13 ?_
      refine l_eq 54 (.int .i64 ((m+n2:Nat):Int)) O (bW (by simp only[Px.nn];omega)) ?_
      refine gg10 ?_
      refine bS (ι:=Nat×Nat) (j:=(j+1,m+n2)) ⟨by simp only;omega,by simp only;omega,by simp only;omega,by simp only;omega,?_,by simp only;rw[hts2,k6];rfl⟩ (by simp only;omega) ⟨rfl,rfl,rfl,congrArg some (bW (by simp only;omega)),rfl,trivial⟩ uI
      simp only
      rw[hnt,k5,List.map_append,List.map_append]
      exact qSe _ f m n2
     have hfin:=fin fun z' hz'=>by
      rw[hz]at hz'
      cases hz'
      show ¬f+m=f'
      intro e
      apply hc
      simp only[Px.fr,Px.nn]
      omega
     refine gg9 ?_
     refine uU ?_
     refine aU (hE.t O) (hE.t O) O O O (fun b60=>?_)
     refine uU ?_
     apply bU (hE.t O) (hE.t O) O O O
     ·exact uK
     ·exact uK
     ·rfl
     ·rfl
     ·omega
     ·omega
     ·(unfold maxLen;omega)
     intro g61 c61 n61 x61 hn61 hx61
     refine gg6 ?_
     obtain rfl:x61=pxC (out++[.copy f m]):=by rw[hx61,jM];rfl
     obtain rfl:n61=(out++[Px.copy f m]).length:=by simp;omega
     refine bS (ι:=JoG) (j:=⟨j,out++[.copy f m],M,some ⟨g61,0,none⟩,c61⟩) ⟨k2,hfin.1,hfin.2⟩ (by simp only;omega) ⟨O,O,O,O,trivial⟩ uI
    |text y=>
     have hfin:=fin fun z' hz'=>by
      rw[hz]at hz'
      cases hz'
      exact fun e=>e
     refine gg24 ?_
     refine uU ?_
     refine aU (hE.t O) (hE.t O) O O O (fun b60=>?_)
     refine uU ?_
     apply bU (hE.t O) (hE.t O) O O O
     ·exact uK
     ·exact uK
     ·rfl
     ·rfl
     ·omega
     ·omega
     ·(unfold maxLen;omega)
     intro g61 c61 n61 x61 hn61 hx61
     refine gg6 ?_
     obtain rfl:x61=pxC (out++[.copy f m]):=by rw[hx61,jM];rfl
     obtain rfl:n61=(out++[Px.copy f m]).length:=by simp;omega
     refine bS (ι:=JoG) (j:=⟨j,out++[.copy f m],M,some ⟨g61,0,none⟩,c61⟩) ⟨k2,hfin.1,hfin.2⟩ (by simp only;omega) ⟨O,O,O,O,trivial⟩ uI
   have hfin:=fin fun z hz=>by
    have:=(List.getElem?_eq_some_iff.1 hz).1
    omega
   refine gg31 ?_
   refine uU ?_
   refine aU (hE.t O) (hE.t O) O O O (fun b60=>?_)
   refine uU ?_
   apply bU (hE.t O) (hE.t O) O O O
   ·exact uK
   ·exact uK
   ·rfl
   ·rfl
   ·omega
   ·omega
   ·(unfold maxLen;omega)
   intro g61 c61 n61 x61 hn61 hx61
   refine gg6 ?_
   obtain rfl:x61=pxC (out++[.copy f m]):=by rw[hx61,jM];rfl
   obtain rfl:n61=(out++[Px.copy f m]).length:=by simp;omega
   refine bS (ι:=JoG) (j:=⟨j,out++[.copy f m],M,some ⟨g61,0,none⟩,c61⟩) ⟨k2,hfin.1,hfin.2⟩ (by simp only;omega) ⟨O,O,O,O,trivial⟩ uI
  |text y=>
   obtain⟨h0,hsn⟩:=hok
   have hlt0:(Px.text y).tsize (rls Es)=len (rls (Es++M)) y:=by rw[eL];exact(lV _ hok0.2.gd.1).symm
   have hub:=qMy (rls Es) D
   have e1:(Px.text y).tx=y:=rfl
   refine gg7 ?_
   refine uU ?_
   refine aU (hE.t O) (hE.t O) O O O (fun b64=>?_)
   refine gg5 ?_
   refine jI (cK (p:=cells b64 [.int .i64 (y:Nat)] 24) (p':=sl (some ⟨b64,0,none⟩) 1 24 1 1 (idC [y])) uK (gK O (by unfold maxLen;omega))) ?_
   refine dX (fun z:JiG=>[(0,uPt pp),(1,.slice (some ⟨g,0,none⟩) D.length c),(6,.slice q out.length d),(7,.int .i64 (z.j:Nat)),(8,uPt b8),(9,.slice z.q z.T.length z.d)]) (fun z=>[sl z.q z.d 24 1 z.T.length (idC z.T),cells b8 (pxV (.text y)) 45,cells pp [uPt s,uPt tb] 86,tabP tb s (rls (Es++M)),bR s most (Es++M),sl (some ⟨g,0,none⟩) c 45 4 D.length (pxC D),sl q d 45 4 out.length (pxC out),R]) (fun z=>D.length-z.j) (fun z=>i<z.j∧z.j≤D.length∧z.T.head?=some y∧i+z.T.length≤z.j∧(∀x∈z.T,x≠0)∧Sns (rls (Es++M)) (z.T.map (txt (rls (Es++M)))) z.T∧nrm ((D.take z.j).map (Px.out (rls (Es++M))))=out.map (Px.out (rls (Es++M)))++[.text (z.T.map (txt (rls (Es++M)))).flatten]∧tsz (rls Es) (D.take z.j)=tsz (rls Es) (D.take i)+(z.T.map (txt (rls (Es++M)))).flatten.length) ⟨i+1,[y],some ⟨b64,0,none⟩,1⟩ ⟨by simp only;omega,by simp only;omega,rfl,by simp,fun x hx=>by simp at hx;subst hx;exact h0,.one hsn,by simp only;rw[hst,List.map_append];simp[Px.out],by simp only;rw[hts,hlt0];simp[len]⟩ ⟨rfl,rfl,rfl,congrArg some (bW (by simp only;omega)),rfl,rfl,trivial⟩ uI ?_
   rintro⟨j,T,q9,c9⟩⟨k1,k2,k3,k4,k5,k6,k7,k8⟩
   simp only at k1 k2 k3 k4 k5 k6 k7 k8 ⊢
   have hTp:0<T.length:=by
    cases T with
    |nil=>simp at k3
    |cons a T=>simp
   have hTD:T.length≤D.length:=oO
   have hub2:=hub j
   have hroom1:(Es++M).length+T.length*(T.map (txt (rls (Es++M)))).flatten.length≤most:=by
    have a1:=Nat.mul_le_mul_right (T.map (txt (rls (Es++M)))).flatten.length hTD
    have a2:=Nat.mul_le_mul_left D.length hub2
    rw[k8,Nat.mul_add]at a2
    rw[List.length_append]
    omega
   refine jY (p:=bR s most (Es++M)) uK (fun _ h=>dU h) (fun hsay2=>?_)
   have hfne:=flat_ne hsay2.1 k3 h0 k6
   have hJ0:Jn Es N D i M out:=⟨j1,j2,j3,j4⟩
   refine jY (p:=sl q9 c9 24 1 T.length (idC T)) uK (fun _ h=>eZ h hTp) ?_
   rintro⟨g9,rfl⟩
   refine gg8 ?_
   have go:∀z,D[j]?=some (Px.text z)→j<D.length:=fun z h=>(List.getElem?_eq_some_iff.1 h).1
   refine dW 69 O (fun hj=>?_) (fun hj=>?_)
   ·have hjl:j<D.length:=oO
    obtain⟨z,hz⟩:∃z,D[j]?=some z:=⟨_,List.getElem?_eq_getElem hjl⟩
    have hzok:=hD' z (List.mem_of_getElem? hz)
    have hzok0:=hD z (List.mem_of_getElem? hz)
    have hts2:=qHo (L:=rls Es) hz
    have hnt:=qGi (L:=rls (Es++M)) hz
    obtain⟨f0,f1,f2,f3⟩:=qEr hz (0+((j:Nat):Int).toNat*4) oO
    refine gg15 ?_
    cases z with
    |text z=>
     obtain⟨z0,zsn⟩:=hzok
     have hlz:(Px.text z).tsize (rls Es)=len (rls (Es++M)) z:=by rw[eL];exact(lV _ hzok0.2.gd.1).symm
     refine gg12 ?_
     refine uU ?_
     refine aU (hE.t O) (hE.t O) O O O (fun b83=>?_)
     refine uU ?_
     apply bU (hE.t O) (hE.t O) O O O
     ·exact uK
     ·exact uK
     ·rfl
     ·rfl
     ·omega
     ·omega
     ·(unfold maxLen;omega)
     intro g84 c84 n84 x84 hn84 hx84
     refine gg9 ?_
     obtain rfl:x84=idC (T++[z]):=by rw[hx84,jB];rfl
     obtain rfl:n84=(T++[z]).length:=by simp;omega
     refine bS (ι:=JiG) (j:=⟨j+1,T++[z],some ⟨g84,0,none⟩,c84⟩) ⟨by simp only;omega,by simp only;omega,?_,by simp only[List.length_append,List.length_singleton];omega,fun x hx=>?_,?_,?_,?_⟩ (by simp only;omega) ⟨rfl,rfl,rfl,congrArg some (bW (by simp only;omega)),rfl,rfl,trivial⟩ uI
     ·simp only
      rw[List.head?_append,k3];rfl
     ·rcases List.mem_append.1 hx with hx|hx
      ·exact k5 x hx
      simp at hx;subst hx;exact z0
     ·simp only
      rw[List.map_append]
      exact k6.append (.one zsn)
     ·simp only
      rw[hnt,k7,List.map_append,List.flatten_append]
      simp only[List.map_cons,List.map_nil,List.flatten_cons,List.flatten_nil,List.append_nil]
      exact qSi _ _ _
     simp only
     rw[hts2,k8,hlz,List.map_append,List.flatten_append,List.length_append]
     simp only[List.map_cons,List.map_nil,List.flatten_cons,List.flatten_nil,List.append_nil,len]
     omega
    |copy f' n2=>
     have hnj:∀id z,D[j]?=some z→¬pjn (.text id) z:=fun id z hz'=>by
      rw[hz]at hz'
      cases hz'
      exact fun e=>e
     refine gg14 ?_
     refine bE O (fun h9=>?_) (fun h9=>?_)
     ·refine gg9 ?_
      refine uX (qIg (Es:=Es++M) hE hB k6 hTp oO oO hroom1) O ?_
      rintro _ _⟨M1,id,rfl,hM1,hsn1,rfl⟩
      rw[List.append_assoc]at hsn1 ⊢
      have hid:id≠0:=fun e=>by subst e;exact hfne hsn1.zero
      have hJ2:=hJ0.text hD' k1 k7 k8 hid hsn1 (Nat.le_trans hM1 (Nat.mul_le_mul_right _ hTD))
      simp only[uV,uW]
      refine gg20 ?_
      refine uU ?_
      refine aU (hE.t O) (hE.t O) O O O (fun b102=>?_)
      refine uU ?_
      apply bU (hE.t O) (hE.t O) O O O
      ·exact uK
      ·exact uK
      ·rfl
      ·rfl
      ·omega
      ·omega
      ·(unfold maxLen;omega)
      intro g103 c103 n103 x103 hn103 hx103
      refine gg3 ?_
      obtain rfl:x103=pxC (out++[.text id]):=by rw[hx103,jM];rfl
      obtain rfl:n103=(out++[Px.text id]).length:=by simp;omega
      refine bS (ι:=JoG) (j:=⟨j,out++[.text id],M++M1,some ⟨g103,0,none⟩,c103⟩) ⟨k2,hJ2,fun a z ha hz=>by simp at ha;subst ha;exact hnj id z hz⟩ (by simp only;omega) ⟨rfl,rfl,rfl,rfl,trivial⟩ uI
     obtain rfl:T=[y]:=by
      obtain⟨a,rfl⟩:=List.length_eq_one_iff.1 (show T.length=1 by omega)
      simp at k3
      rw[k3]
     have hsn1:Sn (rls (Es++(M++[]))) ([y].map (txt (rls (Es++M)))).flatten y:=by rw[List.append_nil];simpa using hsn
     have hJ2:=hJ0.text (M1:=[]) hD' k1 k7 k8 h0 hsn1 (Nat.zero_le _)
     rw[List.append_nil]at hJ2
     refine gg5 ?_
     refine uU ?_
     refine aU (hE.t O) (hE.t O) O O O (fun b102=>?_)
     refine uU ?_
     apply bU (hE.t O) (hE.t O) O O O
     ·exact uK
     ·exact uK
     ·rfl
     ·rfl
     ·omega
     ·omega
     ·(unfold maxLen;omega)
     intro g103 c103 n103 x103 hn103 hx103
     refine gg3 ?_
     obtain rfl:x103=pxC (out++[.text y]):=by rw[hx103,jM];rfl
     obtain rfl:n103=(out++[Px.text y]).length:=by simp;omega
     refine bS (ι:=JoG) (j:=⟨j,out++[.text y],M,some ⟨g103,0,none⟩,c103⟩) ⟨k2,hJ2,fun a z ha hz=>by simp at ha;subst ha;exact hnj y z hz⟩ (by simp only;omega) ⟨rfl,rfl,rfl,rfl,trivial⟩ uI
   have hnj:∀id z,D[j]?=some z→¬pjn (.text id) z:=fun id z hz=>by
    have:=(List.getElem?_eq_some_iff.1 hz).1
    omega
   refine gg23 ?_
   refine bE O (fun h9=>?_) (fun h9=>?_)
   ·refine gg9 ?_
    refine uX (qIg (Es:=Es++M) hE hB k6 hTp oO oO hroom1) O ?_
    rintro _ _⟨M1,id,rfl,hM1,hsn1,rfl⟩
    rw[List.append_assoc]at hsn1 ⊢
    have hid:id≠0:=fun e=>by subst e;exact hfne hsn1.zero
    have hJ2:=hJ0.text hD' k1 k7 k8 hid hsn1 (Nat.le_trans hM1 (Nat.mul_le_mul_right _ hTD))
    simp only[uV,uW]
    refine gg20 ?_
    refine uU ?_
    refine aU (hE.t O) (hE.t O) O O O (fun b102=>?_)
    refine uU ?_
    apply bU (hE.t O) (hE.t O) O O O
    ·exact uK
    ·exact uK
    ·rfl
    ·rfl
    ·omega
    ·omega
    ·(unfold maxLen;omega)
    intro g103 c103 n103 x103 hn103 hx103
    refine gg3 ?_
    obtain rfl:x103=pxC (out++[.text id]):=by rw[hx103,jM];rfl
    obtain rfl:n103=(out++[Px.text id]).length:=by simp;omega
    refine bS (ι:=JoG) (j:=⟨j,out++[.text id],M++M1,some ⟨g103,0,none⟩,c103⟩) ⟨k2,hJ2,fun a z ha hz=>by simp at ha;subst ha;exact hnj id z hz⟩ (by simp only;omega) ⟨rfl,rfl,rfl,rfl,trivial⟩ uI
   obtain rfl:T=[y]:=by
    obtain⟨a,rfl⟩:=List.length_eq_one_iff.1 (show T.length=1 by omega)
    simp at k3
    rw[k3]
   have hsn1:Sn (rls (Es++(M++[]))) ([y].map (txt (rls (Es++M)))).flatten y:=by rw[List.append_nil];simpa using hsn
   have hJ2:=hJ0.text (M1:=[]) hD' k1 k7 k8 h0 hsn1 (Nat.zero_le _)
   rw[List.append_nil]at hJ2
   refine gg5 ?_
   refine uU ?_
   refine aU (hE.t O) (hE.t O) O O O (fun b102=>?_)
   refine uU ?_
   apply bU (hE.t O) (hE.t O) O O O
   ·exact uK
   ·exact uK
   ·rfl
   ·rfl
   ·omega
   ·omega
   ·(unfold maxLen;omega)
   intro g103 c103 n103 x103 hn103 hx103
   refine gg3 ?_
   obtain rfl:x103=pxC (out++[.text y]):=by rw[hx103,jM];rfl
   obtain rfl:n103=(out++[Px.text y]).length:=by simp;omega
   refine bS (ι:=JoG) (j:=⟨j,out++[.text y],M,some ⟨g103,0,none⟩,c103⟩) ⟨k2,hJ2,fun a z ha hz=>by simp at ha;subst ha;exact hnj y z hz⟩ (by simp only;omega) ⟨rfl,rfl,rfl,rfl,trivial⟩ uI
 obtain rfl:i=D.length:=by omega
 refine gg13 ?_
 exact uZ O (.tmp O (.tmp O .nil)) ⟨M,out,q,d,O,⟨j1,j2,j3,j4⟩,O⟩
theorem qTd (hE:Seat E):Ct E 60 [uPt pp,.slice none 0 0] [] (fun v Q=>v= .tuple #[.slice none 0 0,.nilIface]∧Q=[]):=by
 refine bO (hE.fn Tryz.func60) O O O (fun R=>?_)
 simp only[dV,uV,uW]
 refine gg18 ?_
 refine kD 1 ?_
 refine gg24 ?_
 exact uZ O (.tmp O (.tmp O .nil)) ⟨O,O⟩
theorem qSx (hE:Seat E)(hB:Base E.w0){base g c:Nat}{D:List Px}(hg:good (rls Es) base)(hbl:len (rls Es) base≤100000)(hD:∀x∈D,x.ok (rls Es) (len (rls Es) base)) (hn:D.length≤100000) (hsz:asz (rls Es) D≤1000000) (hroom:Es.length+D.length*tsz (rls Es) D≤most):
  Ct E 36 [uPt pp,.int .i64 (base:Nat),.slice (some ⟨g,0,none⟩) D.length c] [cells pp [uPt s,uPt tb] 86,tabP tb s (rls Es),bR s most Es,sl (some ⟨g,0,none⟩) c 45 4 D.length (pxC D)]
   (fun v Q=>∃M out q d,v= .tuple #[.slice q out.length d,.nilIface]∧Jn Es (len (rls Es) base) D D.length M out∧Q=[cells pp [uPt s,uPt tb] 86,tabP tb s (rls (Es++M)),bR s most (Es++M),sl (some ⟨g,0,none⟩) c 45 4 D.length (pxC D),sl q d 45 4 out.length (pxC out)]):=by
 have hts:=qXa (rls Es) D
 refine bO (hE.fn Tryz.func36) O O O (fun R=>?_)
 simp only[dV,uV,uW]
 refine gg12 ?_
 refine uX (ct_Check hE hB hg hbl hD hn hsz) O ?_
 rintro _ _⟨rfl,rfl⟩
 simp only[uV,uW]
 refine gg16 ?_
 refine uX (ct_djoin hE hB hbl hD hn oO hroom) O ?_
 rintro _ _⟨M,out,q,d,rfl,hJ,rfl⟩
 simp only[uV,uW]
 refine gg7 ?_
 exact uZ O (.tmp O (.tmp O .nil)) ⟨M,out,q,d,O,hJ,O⟩
theorem qPy (hE:Seat E)(hB:Base E.w0){base:Nat}(hg:good (rls Es) base):
  Ct E 36 [uPt pp,.int .i64 (base:Nat),.slice none 0 0] [cells pp [uPt s,uPt tb] 86,tabP tb s (rls Es),bR s most Es] (fun v Q=>v= .tuple #[.slice none 0 0,.nilIface]∧Q=[cells pp [uPt s,uPt tb] 86,tabP tb s (rls Es),bR s most Es]):=by
 refine bO (hE.fn Tryz.func36) O O O (fun R=>?_)
 simp only[dV,uV,uW]
 refine gg12 ?_
 refine uX (qSv hE hB hg) O ?_
 rintro _ _⟨rfl,rfl⟩
 simp only[uV,uW]
 refine gg16 ?_
 refine uX (qTd hE) O ?_
 rintro _ _⟨rfl,rfl⟩
 simp only[uV,uW]
 refine gg7 ?_
 exact uZ O (.tmp O (.tmp O .nil)) ⟨O,O⟩
end
section
open Go Go.RowKit Sl Eg
variable {E:Env}{Es:List Ent}{pp tb s most:Nat}
theorem sn_pcs {L:List Rl}(hw:Wf L){tx ty:List UInt8}{x y:Nat}(hx:Sn L tx x)(hy:Sn L ty y):(∀p∈pcs L (gL L x) y,p.ok L (len L x))∧asz L (pcs L (gL L x) y)=len L y∧(pcs L (gL L x) y).length≤len L y:=by
 rcases Nat.eq_zero_or_pos y with rfl|h0
 ·rw[qGn];exact⟨fun p h=>by simp at h,rfl,Nat.zero_le _⟩
 have hle:=hy.gd.1
 obtain⟨n,rfl⟩:∃n,y=n+1:=⟨y-1,oO⟩
 exact pcs_spec hw (qBn hw x) (best_in hw (qBn hw x)) (P:=fun k=>Rea L (n+1) k) (fun m r k h1 h2 h3=>h1.snoc hw h2 h3) (fun k h1 _=>hy.reach hw h1) (n+1) hle (.self oO)
theorem qTb (hE:Seat E)(hB:Base E.w0){x y:Nat}{tx ty:List UInt8}(hx:Sn (rls Es) tx x)(hy:Sn (rls Es) ty y)(hlx:tx.length≤600)(hly:ty.length≤600)(hn:Es.length<65536)(hroom:Es.length+360000≤most):
  Ct E 11 [uPt pp,.int .i64 (x:Nat),.int .i64 (y:Nat)] [cells pp [uPt s,uPt tb] 86,tabP tb s (rls Es),bR s most Es]
   (fun v Q=>∃M out q d,v= .tuple #[.slice q out.length d,.nilIface]∧Jn Es tx.length (pcs (rls Es) (gL (rls Es) x) y) (pcs (rls Es) (gL (rls Es) x) y).length M out∧Q=[cells pp [uPt s,uPt tb] 86,tabP tb s (rls (Es++M)),bR s most (Es++M),sl q d 45 4 out.length (pxC out)]):=by
 refine fG (p:=bR s most Es) uK (fun _ h=>dU h) (fun hsay=>?_)
 have hw:=hsay.1
 have hLl:=bQ Es
 have hxl:=hx.gd.1
 have hyl:=hy.gd.1
 have elx:=hx.len
 have ely:=hy.len
 obtain⟨p1,p2,p3⟩:=sn_pcs hw hx hy
 have hts:=qXa (rls Es) (pcs (rls Es) (gL (rls Es) x) y)
 have hmul:=Nat.mul_le_mul (show(pcs (rls Es) (gL (rls Es) x) y).length≤600 by omega) (show tsz (rls Es) (pcs (rls Es) (gL (rls Es) x) y)≤600 by omega)
 refine bO (hE.fn Tryz.func11) O O O (fun R=>?_)
 simp only[dV,uV,uW]
 refine gg11 ?_
 refine uU ?_
 refine aU (hE.t O) (hE.t O) O O O (fun b20=>?_)
 refine uX (qQb (Es:=Es) (most:=most) (tb:=tb) (x:=x) (y:=y) hE oO oO oO) O ?_
 rintro _ _⟨rfl,rfl⟩
 simp only[uV,uW]
 refine gg22 ?_
 refine uU ?_
 refine aU (hE.t O) (hE.t O) O O O (fun b29=>?_)
 refine gg5 ?_
 have f0:[Value.int .i64 (x:Nat),.int .i64 (y:Nat)][0]?=some (.int .i64 (x:Nat)):=rfl
 have f1:[Value.int .i64 (x:Nat),.int .i64 (y:Nat)][1]?=some (.int .i64 (y:Nat)):=rfl
 refine kD 3 ?_
 refine gg23 ?_
 refine uX (rA hE hB hx.gd) O ?_
 rintro _ _⟨rfl,rfl⟩
 simp only[uV,uW]
 refine gg45 ?_
 refine uX (rA hE hB hy.gd) O ?_
 rintro _ _⟨rfl,rfl⟩
 simp only[uV,uW]
 refine gg39 ?_
 refine uX (qLk (base:=x) hE oO hn) O ?_
 rintro _ _⟨bx,bm,bp,K,P,X,rfl,hI,rfl⟩
 simp only[uV,uW]
 refine gg21 ?_
 refine uX (qTl (b:=y) hE hI oO oO oO) O ?_
 rintro _ _⟨q,d,rfl,hnil,rfl⟩
 simp only[uV,uW]
 refine gg22 ?_
 obtain⟨D,hD⟩:∃D,D=pcs (rls Es) (gL (rls Es) x) y:=⟨_,rfl⟩
 rw[←hD]at p1 p2 p3 hnil hts hmul ⊢
 by_cases h0:D=[]
 ·obtain⟨rfl,rfl⟩:=hnil h0
  subst h0
  refine uX (qPy hE hB hx.gd) O ?_
  rintro _ _⟨rfl,rfl⟩
  simp only[uV,uW]
  refine gg7 ?_
  exact uZ O (.tmp O (.tmp O .nil)) ⟨[],[],none,0,O,⟨O,fun x h=>by simp at h,Nat.le_refl _,Nat.zero_le _⟩,by rw[List.append_nil]⟩
 refine vD (p:=sl q d 45 4 D.length (pxC D)) uK (fun _ h=>eZ h (List.length_pos_iff.2 h0)) ?_
 rintro⟨g,rfl⟩
 refine uX (qSx (most:=most) hE hB hx.gd oO p1 oO oO oO) O ?_
 rintro _ _⟨M,out,q',d',rfl,hJ,rfl⟩
 rw[elx]at hJ
 simp only[uV,uW]
 refine gg7 ?_
 exact uZ O (.tmp O (.tmp O .nil)) ⟨M,out,q',d',O,hJ,O⟩
end
section
open Go Eg
theorem Lts.snoc_inv {L:List Rl}{ids:List Nat}{bs:List UInt8}{b:UInt8}(h:Lts L ids (bs++[b])):∃ids' i,ids=ids'++[i+1]∧Lts L ids' bs∧L[i]?=some (.letter b):=by
 generalize hc:bs++[b]=cs at h
 cases h with
 |nil=>simp at hc
 |snoc h1 h2=>
  obtain⟨e1,e2⟩:=List.append_inj' hc rfl
  subst e1
  cases e2
  exact⟨_,_,O,h1,h2⟩
theorem qMg {L:List Rl}(hw:Wf L){a:UInt8}:∀{k:Nat}{ids:List Nat},Lts L ids (List.replicate (k+1) a)→∃m,L[m]?=some (.letter a)∧ids=List.replicate (k+1) (m+1)
 |0,ids,h=>by
  obtain⟨i',m,rfl,h1,h2⟩:=Lts.snoc_inv (bs:=[]) (b:=a) h
  exact⟨m,h2,by rw[h1.nil_inv];rfl⟩
 |k+1,ids,h=>by
  rw[List.replicate_succ']at h
  obtain⟨i',m,rfl,h1,h2⟩:=Lts.snoc_inv h
  obtain⟨m',h3,rfl⟩:=qMg hw h1
  obtain rfl:=hw.nodup _ _ _ h2 h3
  exact⟨m,h2,List.replicate_succ'.symm⟩
theorem Rns.nil_out {L:List Rl}{o:List Nat}(h:Rns L [] o):o=[]:=by
 generalize hc:([]:List (Nat×Nat))=cs at h
 cases h with
 |nil=>rfl
 |snoc h1 h2=>simp at hc
theorem aw_y {L:List Rl}(hw:Wf L){a:UInt8}{k lv:Nat}{ids:List Nat}(h:Rch L (List.replicate (k+2) a) lv ids):∃m,L[m]?=some (.letter a)∧((lv=1∧ids=List.replicate (k+2) (m+1))∨(2≤lv∧∃n,ids=[n+1]∧L[n]?=some (.power (m+1) (k+2)))):=by
 induction h with
 |start h=>
  obtain⟨m,h1,rfl⟩:=qMg hw h
  exact⟨m,h1,.inl ⟨O,O⟩⟩
 |odd h h1 h2 h3 ih=>
  obtain⟨m,hm,⟨rfl,rfl⟩|⟨_,n,rfl,_⟩⟩:=ih
  ·have e:=nL (l:=[]) (a:=[]) O (x:=m+1) (fun y t h=>by simp at h) (k+1)
   rw[List.nil_append,List.nil_append]at e
   rw[e]at h3
   obtain⟨id,o,rfl,h4,h5⟩:=h3.uncons
   obtain rfl:=h5.nil_out
   rcases h4 with⟨h6,_⟩|⟨_,i,rfl,h7⟩
   ·simp at h6
   exact⟨m,hm,.inr ⟨oO,i,O,h7⟩⟩
  simp at h2
 |even h h1 h2 h3 h4 ih=>
  obtain⟨m,hm,⟨rfl,rfl⟩|⟨_,n,rfl,_⟩⟩:=ih
  ·omega
  simp at h2
theorem aw_x {L:List Rl}(hw:Wf L){a b:UInt8}(hab:a≠b){k lv:Nat}{ids:List Nat}(h:Rch L (List.replicate (k+2) a++[b]) lv ids):∃m n,L[m]?=some (.letter a)∧L[n]?=some (.letter b)∧((lv=1∧ids=List.replicate (k+2) (m+1)++[n+1])∨(2≤lv∧∃p,L[p]?=some (.power (m+1) (k+2))∧(ids=[p+1,n+1]∨∃j,ids=[j+1]∧L[j]?=some (.pair (p+1) (n+1))))):=by
 induction h with
 |start h=>
  obtain⟨i',n,rfl,h1,h2⟩:=Lts.snoc_inv h
  obtain⟨m,h3,rfl⟩:=qMg hw h1
  exact⟨m,n,h3,h2,.inl ⟨O,O⟩⟩
 |odd h h1 h2 h3 ih=>
  obtain⟨m,n,hm,hn,⟨rfl,rfl⟩|⟨hlv,p,hp,rfl|⟨j,rfl,_⟩⟩⟩:=ih
  ·have hmn:m≠n:=fun e=>by subst e;rw[hm]at hn;cases hn;exact hab rfl
   have e:=nL (l:=[]) (a:=[]) O (x:=m+1) (fun y t h=>by simp at h) (k+1)
   have e2:=nL e (x:=n+1) (fun y t h=>by simp at h;omega) 0
   rw[List.nil_append,List.nil_append]at e2
   rw[show List.replicate (0+1) (n+1)=[n+1]from rfl]at e2
   rw[e2]at h3
   obtain⟨id,o,rfl,h4,h5⟩:=h3.uncons
   obtain⟨id2,o2,rfl,h6,h7⟩:=h5.uncons
   obtain rfl:=h7.nil_out
   rcases h6 with⟨_,rfl⟩|⟨h6,_⟩
   ·rcases h4 with⟨h8,_⟩|⟨_,i,rfl,h9⟩
    ·simp at h8
    exact⟨m,n,hm,hn,.inr ⟨oO,i,h9,.inl O⟩⟩
   simp at h6
  ·have hpn:p≠n:=fun e=>by subst e;rw[hp]at hn;cases hn
   have e:dD [p+1,n+1]=[(p+1,1),(n+1,1)]:=by simp[dD,vM,hpn]
   rw[e]at h3
   obtain⟨id,o,rfl,h4,h5⟩:=h3.uncons
   obtain⟨id2,o2,rfl,h6,h7⟩:=h5.uncons
   obtain rfl:=h7.nil_out
   rcases h6 with⟨_,rfl⟩|⟨h6,_⟩
   ·rcases h4 with⟨_,rfl⟩|⟨h8,_⟩
    ·exact⟨m,n,hm,hn,.inr ⟨oO,p,hp,.inl O⟩⟩
    simp at h8
   simp at h6
  simp at h2
 |even h h1 h2 h3 h4 ih=>
  obtain⟨m,n,hm,hn,⟨rfl,rfl⟩|⟨hlv,p,hp,rfl|⟨j,rfl,_⟩⟩⟩:=ih
  ·omega
  ·have hg:=pg_of h4
   generalize hq:_++List.drop _ _=out at hg ⊢
   refine⟨m,n,hm,hn,.inr ⟨oO,p,hp,?_⟩⟩
   cases hg with
   |one g1 g2=>
    cases g2 with
    |one g3 g4=>
     cases g4
     exact .inl O
   |two g1 g2 g3=>
    cases g3
    exact .inr ⟨_,O,g2⟩
  simp at h2
theorem wN {f:Nat→Option Nat}{k a x:Nat}(h:f x=some 0):fput f k a x=some 0:=by
 unfold fput
 by_cases e:x=k
 ·rw[if_pos e,←e,h];simp
 rw[if_neg e,h]
theorem qQu {L:List Rl}{f:Nat→Option Nat}{a x:Nat}{r:Rl}(h:f x=some 0):yG L f a r x=some 0:=by
 cases r with
 |letter b=>exact h
 |pair l r=>exact wN (wN h)
 |power y k=>exact wN h
theorem qQv {L:List Rl}{i:Nat}{f:Nat→Option Nat}{x:Nat}(h:f x=some 0):pE L i f x=some 0:=by
 rcases qJ L i f with⟨a,r,_,_,e⟩| e
 ·rw[e];exact qQu h
 rw[e];exact h
theorem qEa {L:List Rl}{x:Nat}:∀{i:Nat}{f:Nat→Option Nat},f x=some 0→yE L i f x=some 0
 |0,f,h=>h
 |i+1,f,h=>qEa (i:=i) (qQv h)
theorem qQs {L:List Rl}{j l r:Nat}(hr:L[j]?=some (.pair l r))(hl:l≠0):gL L (j+1) l=some 0:=by
 unfold gL
 show yE L j (pE L j (jT (j+1))) l=some 0
 refine qEa ?_
 have e:jT (j+1) (j+1)=some 0:=by simp[jT]
 rw[wO e hr]
 show fput (fput (jT (j+1)) l 0) r (0+len L l) l=some 0
 refine wN ?_
 unfold fput
 rw[if_pos rfl]
 cases h:jT (j+1) l with
 |none=>rfl
 |some b=>simp
theorem aw_pcs {L:List Rl}(hw:Wf L){x y:Nat}(hx:Sn L [97,97,97,97,97,98] x)(hy:Sn L [97,97,97] y):pcs L (gL L x) y=[.copy 0 3]:=by
 have hel:len L y=3:=hy.len
 rcases hx.sg with⟨h,_⟩|⟨lv,h⟩
 ·cases h
 rcases hy.sg with⟨h',_⟩|⟨lv',h'⟩
 ·cases h'
 obtain⟨m,n,hm,hn,⟨_,e⟩|⟨_,p,hp,e|⟨j,e,hj⟩⟩⟩:=aw_x hw (a:=97) (b:=98) (by decide) (k:=3) h
 ·simp at e
 ·simp at e
 obtain⟨m',hm',⟨_,e'⟩|⟨_,n',e',hp'⟩⟩:=aw_y hw (a:=97) (k:=1) h'
 ·simp at e'
 obtain rfl:=hw.nodup _ _ _ hm hm'
 cases e
 cases e'
 have hjl:=(List.getElem?_eq_some_iff.1 hj).1
 have hf:gL L (j+1) (p+1)=some 0:=qQs hj oO
 have hno:gL L (j+1) (n'+1)=none:=by
  cases hc:gL L (j+1) (n'+1)with
  |none=>rfl
  |some a=>
   exfalso
   have hr:Rea L (j+1) (n'+1):=yF hw oO (n'+1) (by rw[hc];simp)
   cases hr with
   |self _=>rw[hj]at hp';cases hp'
   |kid h1 h2 h3=>
    rw[hj]at h1
    cases h1
    simp only[kids,List.mem_cons,List.not_mem_nil,or_false]at h2
    rcases h2 with rfl|rfl
    ·cases h3 with
     |self _=>rw[hp]at hp';cases hp'
     |kid h1 h2 h3=>
      rw[hp]at h1
      cases h1
      simp only[kids,List.mem_cons,List.not_mem_nil,or_false]at h2
      subst h2
      cases h3 with
      |self _=>rw[hm]at hp';cases hp'
      |kid h1 h2 h3=>rw[hm]at h1;cases h1;simp[kids]at h2
    cases h3 with
    |self _=>rw[hn]at hp';cases hp'
    |kid h1 h2 h3=>rw[hn]at h1;cases h1;simp[kids]at h2
 rw[pQ hno hp',hel]
 have hb:best L (gL L (j+1)) (m+1) (1+2)=some 0:=qSp ⟨p,by simp[hit,hp,hf]⟩ (fun i b _=>Nat.zero_le b)
 rw[hb]
end
section
open Go Go.RowKit Sl Eg
variable {E:Env}{Es:List Ent}{pp tb s most:Nat}
theorem underPc:Tryz.prog.underlying 45=some (.struct (Tryz.prog.fieldsOf 45)):=by kernel_rfl
theorem heldPc:Tryz.prog.stoodInHeld 45=false:=by kernel_rfl
theorem fieldsPc : (Tryz.prog.fieldsOf 45).toList = [⟨"Copy", 4, 0, false, "", "", 0⟩, ⟨"From", 3, 1, false, "", "", 8⟩, ⟨"N", 3, 2, false, "", "", 16⟩, ⟨"Text", 24, 3, false, "", "", 24⟩] := by kernel_rfl
theorem pc_equal (a b c:Int)(w:World):(Op.equal 45 (.agg #[.bool true,.int .i64 a,.int .i64 b,.int .i64 c]) (.agg #[.bool true,.int .i64 a,.int .i64 b,.int .i64 c])).run Tryz.prog w= .ok true w:=by
 unfold Op.equal Op.maxDepth
 rw[show(10000:Nat)=9999+1 from rfl,run_equalIn_struct _ _ _ _ _ underPc heldPc,fieldsPc]
 simp only[Op.eqFields]
 simp[go_sem]
theorem y_eq_pc (hE:Seat E){n:Nat}{L:Fr}{S:List HP}{ty:TypeId}{pos:String}{af:Array Edge}{d:Option Nat}{gd:Option (Nat×Bool)}{x y:Operand}{yt:TypeId}{a b c:Int}(hx:ev L x=some (.agg #[.bool true,.int .i64 a,.int .i64 b,.int .i64 c]))(hy:ev L y=some (.agg #[.bool true,.int .i64 a,.int .i64 b,.int .i64 c])):
  Yl E n L S ⟨d,.binOp .eql 45 x y yt,ty,pos,af,gd⟩ (.bool true):=fun ac w g _=>by
 have h1:(eqGuard .eql 45 x y (.agg #[.bool true,.int .i64 a,.int .i64 b,.int .i64 c]) (.agg #[.bool true,.int .i64 a,.int .i64 b,.int .i64 c])).run E.P w= .ok () w:=by
  have hg:E.P.eqGuardType E.P.depth 45=false:=by rw[hE.P];kernel_rfl
  unfold eqGuard
  simp[program,Sem.run,hg]
 have h2:∀u v:Value,binOp .eql 45 (.agg #[.bool true,.int .i64 a,.int .i64 b,.int .i64 c]) (.agg #[.bool true,.int .i64 a,.int .i64 b,.int .i64 c])=(do pure (.bool (←Op.equal 45 (.agg #[.bool true,.int .i64 a,.int .i64 b,.int .i64 c]) (.agg #[.bool true,.int .i64 a,.int .i64 b,.int .i64 c])))):=fun _ _=>O
 have h3:=pc_equal a b c w
 rw[←hE.P]at h3
 simp[execOp,h1,h2 (.bool true) (.bool true),h3,g.ev hx,g.ev hy]
theorem jn_one {M N:List Ent}{out:List Px}{D:List Px}{n:Nat}(h:Jn M n D D.length N out)(hD:D=[.copy 0 3]):out=[.copy 0 3]:=by
 subst hD
 have e:=h.eq
 match out,e with
 |[],e=>cases e
 |[.copy f n],e=>simp[nrm,addP,Px.out]at e;rw[e.1,e.2]
 |[.text x],e=>simp[nrm,addP,Px.out]at e
 |_::_::_,e=>simp[nrm,addP]at e
theorem qQa (hE:Seat E)(hB:Base E.w0):Ct E 29 [] [] (fun v Q=>v= .bool true∧Q=[]):=by
 refine bO (hE.fn Tryz.func29) O O O (fun R=>?_)
 simp only[dV,uV,uW]
 refine gg7 ?_
 refine uX (qIn (most:=1048576) hE (Nat.le_refl _)) O ?_
 rintro _ _⟨s,rfl,rfl⟩
 simp only[uV,uW]
 refine uX (qIu hE) O ?_
 rintro _ _⟨pp,tb,rfl,rfl⟩
 simp only[uV,uW]
 refine gg6 ?_
 refine uU ?_
 refine aU (hE.t O) (hE.t O) O O O (fun b12=>?_)
 refine uU ?_
 refine qUw O (hE.t O) (hE.t O) uK ?_
 have n1:([97,97,97,97,97,98]:List UInt8).length≤65536:=by decide
 have r1:([]:List Ent).length+2*([97,97,97,97,97,98]:List UInt8).length≤1048576:=by decide
 refine uX (ct_Of (bs:=[97,97,97,97,97,98]) hE hB n1 r1) O ?_
 rintro _ _⟨M1,x,rfl,hM1,tx1,gx,sx,rfl⟩
 simp only[uV,uW]
 have hx:Sn (rls ([]++M1)) [97,97,97,97,97,98] x:=⟨sx,tx1,gx⟩
 refine gg10 ?_
 refine uU ?_
 refine aU (hE.t O) (hE.t O) O O O (fun b19=>?_)
 refine uU ?_
 refine qUw O (hE.t O) (hE.t O) uK ?_
 have n2:([97,97,97]:List UInt8).length≤65536:=by decide
 have r2:([]++M1:List Ent).length+2*([97,97,97]:List UInt8).length≤1048576:=by simp at hM1 ⊢;omega
 refine uX (ct_Of (bs:=[97,97,97]) hE hB n2 r2) O ?_
 rintro _ _⟨M2,y,rfl,hM2,ty1,gy,sy,rfl⟩
 simp only[uV,uW]
 have hy:Sn (rls ([]++M1++M2)) [97,97,97] y:=⟨sy,ty1,gy⟩
 have hx2:Sn (rls ([]++M1++M2)) [97,97,97,97,97,98] x:=by rw[dA];exact hx.ext _
 have n3:([97,97,97,97,97,98]:List UInt8).length≤600:=by decide
 have n4:([97,97,97]:List UInt8).length≤600:=by decide
 have n5:([]++M1++M2:List Ent).length<65536:=by simp at hM1 hM2 ⊢;omega
 have n6:([]++M1++M2:List Ent).length+360000≤1048576:=by simp at hM1 hM2 ⊢;omega
 refine vD (p:=bR s 1048576 ([]++M1++M2)) uK (fun _ h=>dU h) (fun hsay=>?_)
 have hpc:=aw_pcs hsay.1 hx2 hy
 refine gg12 ?_
 refine uX (qTb hE hB hx2 hy n3 n4 n5 n6) O ?_
 rintro _ _⟨M,out,q,d,rfl,hJ,rfl⟩
 obtain rfl:=jn_one hJ hpc
 simp only[uV,uW]
 refine vD (p:=sl q d 45 4 [Px.copy 0 3].length (pxC [Px.copy 0 3])) uK (fun _ h=>eZ h (by decide)) ?_
 rintro⟨g,rfl⟩
 have hl1:[Px.copy 0 3].length=1:=rfl
 refine gg41 ?_
 refine uB (y_eq_pc hE O O) ?_
 refine gg5 ?_
 exact uZ O (.tmp O .nil) ⟨O,O⟩
theorem rdb_tx {w0:World}{t:Tx}(h:OkT w0 t):Rdb w0 t.a (byC t.bs) old:=fun hne=>h.1.rd (fun e=>hne (by rw[e];rfl))
theorem ct_two42 (hE:Seat E)(hB:Base E.w0){a b:Tx}(ha:OkT E.w0 a)(hb:OkT E.w0 b)(la:a.bs.length≤600)(lb:b.bs.length≤600):Ct E 8 [.slice a.a a.bs.length a.c,.slice b.a b.bs.length b.c] []
  (fun v Q=>∃pp s tb M x y,v= .tuple #[uPt pp,.int .i64 (x:Nat),.int .i64 (y:Nat),.bool true]∧M.length≤2*(a.bs.length+b.bs.length)∧Sn (rls M) a.bs x∧Sn (rls M) b.bs y∧Q=[cells pp [uPt s,uPt tb] 86,tabP tb s (rls M),bR s 1048576 M]):=by
 refine bO (hE.fn Tryz.func8) O O O (fun R=>?_)
 simp only[dV,uV,uW]
 refine gg10 ?_
 refine uX (qIn (most:=1048576) hE (Nat.le_refl _)) O ?_
 rintro _ _⟨s,rfl,rfl⟩
 simp only[uV,uW]
 refine uX (qIu hE) O ?_
 rintro _ _⟨pp,tb,rfl,rfl⟩
 simp only[uV,uW]
 refine gg6 ?_
 refine uU ?_
 refine pG (hE.t O) (fun b17=>?_)
 refine gg1 ?_
 refine wU ent_old ?_
 have r1:([]:List Ent).length+2*a.bs.length≤1048576:=by rw[List.length_nil];omega
 have hb1:(0+(byC a.bs).length)*1≤140737488355328:=by
  rw[mP]
  omega
 have hb2:0+(byC a.bs).length≤maxLen:=by
  rw[mP]
  unfold maxLen
  omega
 refine uU ?_
 refine wV (us:=byC a.bs) (q:=old) (hE.t O) (hE.t O) O O O (mP _).symm (rdb_tx ha) uK uK (vQ _) hb1 hb2 (fun pt ct m1 x1 hm1 hx1=>?_)
 obtain rfl:m1=a.bs.length:=by rw[hm1,mP,Nat.zero_add]
 obtain rfl:x1=byC a.bs:=hx1
 refine vD (p:=sl pt ct 5 1 a.bs.length (byC a.bs)) uK (fun _ h=>fun hpos=>eZ h hpos) (fun hpt=>?_)
 have hqs:Rdb E.w0 pt (byC a.bs) (sl pt ct 5 1 a.bs.length (byC a.bs)):=qVx (mP _) hpt
 refine uX (qSy (Es:=[]) (s:=s) (most:=1048576) (tb:=tb) (pp:=pp) (a:=pt) (c:=ct) (q:=sl pt ct 5 1 a.bs.length (byC a.bs)) (bs:=a.bs) hE hB (fun hne=>hqs (byC_ne hne)) oO r1) O ?_
 rintro _ _⟨M1,x,rfl,hM1,tx1,gx,sx,rfl⟩
 clear hqs hpt
 simp only[uV,uW]
 have hx:Sn (rls ([]++M1)) a.bs x:=⟨sx,tx1,gx⟩
 refine gg10 ?_
 refine uU ?_
 refine pG (hE.t O) (fun b25=>?_)
 refine gg1 ?_
 have hb1:(0+(byC b.bs).length)*1≤140737488355328:=by
  rw[mP]
  omega
 have hb2:0+(byC b.bs).length≤maxLen:=by
  rw[mP]
  unfold maxLen
  omega
 refine uU ?_
 refine wV (us:=byC b.bs) (q:=old) (hE.t O) (hE.t O) O O O (mP _).symm (rdb_tx hb) uK uK (vQ _) hb1 hb2 (fun pt ct m1 x1 hm1 hx1=>?_)
 obtain rfl:m1=b.bs.length:=by rw[hm1,mP,Nat.zero_add]
 obtain rfl:x1=byC b.bs:=hx1
 refine vD (p:=sl pt ct 5 1 b.bs.length (byC b.bs)) uK (fun _ h=>fun hpos=>eZ h hpos) (fun hpt=>?_)
 have hqs:Rdb E.w0 pt (byC b.bs) (sl pt ct 5 1 b.bs.length (byC b.bs)):=qVx (mP _) hpt
 have r2:([]++M1:List Ent).length+2*b.bs.length≤1048576:=by rw[List.nil_append];omega
 refine uX (qSy (Es:=[]++M1) (s:=s) (most:=1048576) (tb:=tb) (pp:=pp) (a:=pt) (c:=ct) (q:=sl pt ct 5 1 b.bs.length (byC b.bs)) (bs:=b.bs) hE hB (fun hne=>hqs (byC_ne hne)) oO r2) O ?_
 rintro _ _⟨M2,y,rfl,hM2,ty1,gy,sy,rfl⟩
 simp only[uV,uW]
 have hy:Sn (rls ([]++M1++M2)) b.bs y:=⟨sy,ty1,gy⟩
 have hx2:Sn (rls ([]++M1++M2)) a.bs x:=by rw[dA];exact hx.ext _
 refine gg22 ?_
 refine uX (qQa hE hB) O ?_
 rintro _ _⟨rfl,rfl⟩
 simp only[uV,uW]
 refine gg8 ?_
 exact uZ O (.tmp O (.tmp O (.tmp O (.tmp O .nil)))) ⟨pp,s,tb,[]++M1++M2,x,y,O,by rw[List.nil_append,List.length_append];omega,hx2,hy,rfl⟩
end
section
open Go Go.RowKit Sl Eg
variable {E:Env}{Es:List Ent}{pp tb s most:Nat}
def lzC (L:List Rl)(n:Nat):List Value:=(List.range (n+1)).map fun i=> .int .i64 (len L i:Nat)
theorem qGc (L:List Rl)(n:Nat):lzC L (n+1)=lzC L n++[.int .i64 (len L (n+1):Nat)]:=by
 unfold lzC
 rw[List.range_succ,List.map_append]
 rfl
theorem lzC_at (L:List Rl){i n:Nat}(h:i≤n)(o:Nat)(ho:o=i):(lzC L n)[o]?=some (.int .i64 (len L i:Nat)):=by
 subst ho
 unfold lzC
 rw[List.getElem?_map,List.getElem?_range oO]
 rfl
theorem lr_lt {i:Nat}{r:Rl}(h:Rl.ok (i+1) r):r.left≤i∧r.right≤i:=by
 cases r with
 |letter b=>exact⟨Nat.zero_le _,Nat.zero_le _⟩
 |pair a b=>simp only[Rl.ok]at h;exact⟨by show a≤i;omega,by show b≤i;omega⟩
 |power a k=>simp only[Rl.ok]at h;exact⟨by show a≤i;omega,Nat.zero_le _⟩
structure TbG where
 i:Nat
 p:Option Addr
 c:Nat
 p2:Option Addr
 c2:Nat
theorem ct_table (hE:Seat E)(hn:Es.length<65536):Ct E 9 [uPt s] [bR s most Es]
  (fun v Q=>∃p c p2 c2,v= .tuple #[.slice p (Es.length+1) c,.slice p2 (Es.length+1) c2,.bool true]∧Q=[bR s most Es,sl p c 74 5 (Es.length+1) (ruC (rls Es)),sl p2 c2 3 1 (Es.length+1) (lzC (rls Es) Es.length)]):=by
 refine fG (p:=bR s most Es) uK (fun _ h=>dU h) (fun hsay=>?_)
 have hw:=hsay.1
 have hLl:=bQ Es
 refine bO (hE.fn Tryz.func9) O O O (fun R=>?_)
 simp only[dV,uV,uW]
 refine gg10 ?_
 refine uU ?_
 refine aU (hE.t O) (hE.t O) O O O (fun b13=>?_)
 refine uU ?_
 refine aU (hE.t O) (hE.t O) O O O (fun b14=>?_)
 refine gg11 ?_
 refine jI (cK (p:=cells b13 (ruC []) 74) (p':=sl (some ⟨b13,0,none⟩) 1 74 5 1 (ruC [])) uK (gK O (by unfold maxLen;omega))) ?_
 refine jI (cK (p:=cells b14 [.int .i64 0] 3) (p':=sl (some ⟨b14,0,none⟩) 1 3 1 1 (lzC (rls Es) 0)) uK (gK O (by unfold maxLen;omega))) ?_
 refine dX (fun x:TbG=>[(0,uPt s),(5,.slice x.p (x.i+1) x.c),(6,.slice x.p2 (x.i+1) x.c2),(7,.int .i64 ((x.i+1:Nat):Int))]) (fun x=>[bR s most Es,sl x.p x.c 74 5 (x.i+1) (ruC ((rls Es).take x.i)),sl x.p2 x.c2 3 1 (x.i+1) (lzC (rls Es) x.i),R]) (fun x=>Es.length-x.i) (fun x=>x.i≤Es.length) ⟨0,some ⟨b13,0,none⟩,1,some ⟨b14,0,none⟩,1⟩ (Nat.zero_le _) ⟨O,O,O,O,trivial⟩ uI ?_
 rintro⟨i,p,c,p2,c2⟩hi
 simp only at hi ⊢
 refine gg5 ?_
 refine uX (qDp hE) O ?_
 rintro _ _⟨rfl,rfl⟩
 simp only[uV,uW]
 refine gg3 ?_
 refine bE O (fun h=>?_) (fun h=>?_)
 ·obtain⟨en,hent⟩:∃y,Es[i]?=some y:=⟨_,List.getElem?_eq_getElem oO⟩
  have hri:(rls Es)[i]?=some en.r:=rU hent
  have htl:en.t.length=len (rls Es) (i+1):=by rw[hsay.2.1 i en hent];rfl
  obtain⟨hl1,hl2⟩:=lr_lt (hw.ok _ _ hri)
  have hruS:ruC ((rls Es).take (i+1))=ruC ((rls Es).take i)++rlC en.r:=by
   rw[List.take_add_one,hri,←qOz]
   rfl
  refine gg8 ?_
  refine uX (qD hE hent) O ?_
  rintro _ _⟨rfl,rfl⟩
  simp only[uV,uW]
  refine gg3 ?_
  refine uU (cZ (hE.t O) (fun b8=>?_))
  refine gg8 ?_
  refine uX (mG hE hent) O ?_
  rintro _ _⟨rfl,rfl⟩
  simp only[uV,uW]
  rw[htl]
  refine gg3 ?_
  refine uU (cZ (hE.t O) (fun b10=>?_))
  refine gg24 ?_
  refine dW 44 O (fun h1=>?_) (fun h1=>?_)
  ·exfalso;omega
  refine gg8 ?_
  refine dW 49 O (fun h2=>?_) (fun h2=>?_)
  ·exfalso;omega
  refine gg10 ?_
  refine dW 55 O (fun h3=>?_) (fun h3=>?_)
  ·exfalso;omega
  refine gg11 ?_
  refine bE O (fun h4=>?_) (fun h4=>?_)
  ·exfalso;omega
  refine gg2 ?_
  refine uN 10 ([cells b8 [.int .i64 (Rl.kind (en.r):Nat),.int .u8 (Rl.byte (en.r):Nat),.int .i64 (Rl.left (en.r):Nat),.int .i64 (Rl.right (en.r):Nat),.int .i64 (Rl.times (en.r):Nat)] 74,cells b10 [.int .i64 (len (rls Es) (i+1):Nat),.int .i64 (gB en.t:Nat),.int .i64 (kQ en.t:Nat),.int .i64 (kR en.t:Nat),.int .u64 (dval en.t:Nat),.int .u64 (fF en.t:Nat)] 81]) ?_
  refine gg2 ?_
  refine uT 4 O (aB O) ?_
  refine gg2 ?_
  apply qGd 2 7 O O oK O O
  ·refine aU (hE.t O) (hE.t O) O O O (fun b63=>?_)
   refine uE ?_
   apply qGd 3 7 O O oK O O
   ·apply bU (hE.t O) (hE.t O) O O O
    ·exact uK
    ·exact uK
    ·rfl
    ·rfl
    ·omega
    ·omega
    ·(unfold maxLen;omega)
    intro g64 c64 n64 x64 hn64 hx64
    refine uE ?_
    apply eF 7 O oK O
    refine aU (hE.t O) (hE.t O) O O O (fun b68=>?_)
    refine uE ?_
    apply eF 8 O oK O
    apply bU (hE.t O) (hE.t O) O O O
    ·exact uK
    ·exact uK
    ·rfl
    ·rfl
    ·omega
    ·omega
    ·(unfold maxLen;omega)
    intro g69 c69 n69 x69 hn69 hx69
    refine uE ?_
    apply dF 9 O oK
    ·exact aC O
    ·rfl
    apply dF 10 O oK
    ·exact aC O
    ·rfl
    refine gg8 ?_
    obtain rfl:x64=ruC ((rls Es).take (i+1)):=by rw[hx64,hruS];rfl
    obtain rfl:n64=i+1+1:=by omega
    obtain rfl:x69=lzC (rls Es) (i+1):=by rw[hx69,qGc];rfl
    obtain rfl:n69=i+1+1:=by omega
    refine bS (ι:=TbG) (j:=⟨i+1,some ⟨g64,0,none⟩,c64,some ⟨g69,0,none⟩,c69⟩) (by simp only;omega) (by simp only;omega) ⟨O,O,O,congrArg some (bW (by simp only;omega)),trivial⟩ uI
   refine aU (hE.t O) (hE.t O) O O O (fun b68=>?_)
   refine uE ?_
   apply eF 3 O oK O
   apply bU (hE.t O) (hE.t O) O O O
   ·exact uK
   ·exact uK
   ·rfl
   ·rfl
   ·omega
   ·omega
   ·(unfold maxLen;omega)
   intro g64 c64 n64 x64 hn64 hx64
   refine uE ?_
   apply eF 8 O oK O
   apply bU (hE.t O) (hE.t O) O O O
   ·exact uK
   ·exact uK
   ·rfl
   ·rfl
   ·omega
   ·omega
   ·(unfold maxLen;omega)
   intro g69 c69 n69 x69 hn69 hx69
   refine uE ?_
   apply dF 9 O oK
   ·exact aC O
   ·rfl
   apply dF 10 O oK
   ·exact aC O
   ·rfl
   refine gg8 ?_
   obtain rfl:x64=ruC ((rls Es).take (i+1)):=by rw[hx64,hruS];rfl
   obtain rfl:n64=i+1+1:=by omega
   obtain rfl:x69=lzC (rls Es) (i+1):=by rw[hx69,qGc];rfl
   obtain rfl:n69=i+1+1:=by omega
   refine bS (ι:=TbG) (j:=⟨i+1,some ⟨g64,0,none⟩,c64,some ⟨g69,0,none⟩,c69⟩) (by simp only;omega) (by simp only;omega) ⟨O,O,O,congrArg some (bW (by simp only;omega)),trivial⟩ uI
  refine aU (hE.t O) (hE.t O) O O O (fun b68=>?_)
  refine uE ?_
  apply eF 2 O oK O
  refine aU (hE.t O) (hE.t O) O O O (fun b63=>?_)
  refine uE ?_
  apply eF 3 O oK O
  apply bU (hE.t O) (hE.t O) O O O
  ·exact uK
  ·exact uK
  ·rfl
  ·rfl
  ·omega
  ·omega
  ·(unfold maxLen;omega)
  intro g64 c64 n64 x64 hn64 hx64
  refine uE ?_
  apply eF 8 O oK O
  apply bU (hE.t O) (hE.t O) O O O
  ·exact uK
  ·exact uK
  ·rfl
  ·rfl
  ·omega
  ·omega
  ·(unfold maxLen;omega)
  intro g69 c69 n69 x69 hn69 hx69
  refine uE ?_
  apply dF 9 O oK
  ·exact aC O
  ·rfl
  apply dF 10 O oK
  ·exact aC O
  ·rfl
  refine gg8 ?_
  obtain rfl:x64=ruC ((rls Es).take (i+1)):=by rw[hx64,hruS];rfl
  obtain rfl:n64=i+1+1:=by omega
  obtain rfl:x69=lzC (rls Es) (i+1):=by rw[hx69,qGc];rfl
  obtain rfl:n69=i+1+1:=by omega
  refine bS (ι:=TbG) (j:=⟨i+1,some ⟨g64,0,none⟩,c64,some ⟨g69,0,none⟩,c69⟩) (by simp only;omega) (by simp only;omega) ⟨O,O,O,congrArg some (bW (by simp only;omega)),trivial⟩ uI
 obtain rfl:i=Es.length:=by omega
 rw[List.take_of_length_le oO]
 refine gg15 ?_
 exact uZ O (.tmp O (.tmp O (.tmp O .nil))) ⟨p,c,p2,c2,O,O⟩
end
section
open Go Go.RowKit Sl Eg
variable {E:Env}{Es:List Ent}{pp tb s most:Nat}
def vzC (F:Nat→Int)(n:Nat):List Value:=(List.range n).map fun k=> .int .i64 (F k)
theorem qSb (F:Nat→Int)(n:Nat):(vzC F n).length=n:=by simp[vzC]
theorem zQ (F:Nat→Int){n k:Nat}(hk:k<n)(o:Nat)(ho:o=k):(vzC F n)[o]?=some (.int .i64 (F k)):=by
 subst ho
 unfold vzC
 rw[List.getElem?_map,List.getElem?_range hk]
 rfl
theorem qKz (F:Nat→Int){n k:Nat}(hk:k<n)(o:Nat)(ho:o=k)(x:Int):bX (vzC F n) o (bP (.int .i64 x))=vzC (fun j=>if j=k then x else F j) n:=by
 subst ho
 apply List.ext_getElem?
 intro i
 show((vzC F n).set o (.int .i64 x))[i]?=_
 rw[List.getElem?_set,qSb]
 by_cases e:o=i
 ·subst e
  rw[if_pos rfl,if_pos hk,zQ _ hk _ rfl,if_pos rfl]
 rw[if_neg e]
 unfold vzC
 rw[List.getElem?_map,List.getElem?_map]
 rcases Nat.lt_or_ge i n with h| h
 ·rw[List.getElem?_range h]
  simp only[Option.map_some]
  rw[if_neg (fun h=>e h.symm)]
 rw[List.getElem?_eq_none (by simpa using h)];rfl
theorem vzC_fill (us:List Value){n i:Nat}(hu:us.length=n)(hi:i<n)(o:Nat)(ho:o=i):bX (List.replicate i (Value.int .i64 (-1))++us.drop i) o (bP (.int .i64 (-1)))=List.replicate (i+1) (Value.int .i64 (-1))++us.drop (i+1):=by
 subst ho
 show(List.replicate o (Value.int .i64 (-1))++us.drop o).set o (.int .i64 (-1))=_
 have e:=List.drop_eq_getElem_cons (l:=us) (i:=o) oO
 rw[List.set_append_right _ _ (by simp),List.length_replicate,Nat.sub_self,e,List.replicate_succ',List.append_assoc]
 rfl
theorem vzC_full (us:List Value){n:Nat}(hu:us.length=n):List.replicate n (Value.int .i64 (-1))++us.drop n=vzC (fun _=> -1) n:=by
 rw[List.drop_eq_nil_of_le oO,List.append_nil]
 apply List.ext_getElem?
 intro i
 unfold vzC
 rw[List.getElem?_map,List.getElem?_replicate]
 rcases Nat.lt_or_ge i n with h| h
 ·rw[if_pos h,List.getElem?_range h];rfl
 rw[if_neg oO,List.getElem?_eq_none (by simpa using h)];rfl
def fz (f:Nat→Option Nat)(k:Nat):Int:=match f k with |some a=>(a:Nat)|none=> -1
def lst (x y:Int):Int:=if x<0∨y<x then y else x
theorem qFx {f:Nat→Option Nat}{k a:Nat}(h:f k=some a):fz f k=(a:Nat):=by simp[fz,h]
theorem qMa {f:Nat→Option Nat}{k:Nat}(h:f k=none):fz f k= -1:=by simp[fz,h]
theorem wQ (f:Nat→Option Nat)(k:Nat):(f k=none∧fz f k= -1)∨∃a,f k=some a∧fz f k=(a:Nat):=by
 cases h:f k with
 |none=>exact .inl ⟨rfl,qMa h⟩
 |some a=>exact .inr ⟨a,rfl,qFx h⟩
theorem fz_put (f:Nat→Option Nat)(k a:Nat):(fun j=>if j=k then lst (fz f k) (a:Nat)else fz f j)=fz (fput f k a):=by
 funext j
 by_cases e:j=k
 ·subst e
  rw[if_pos rfl]
  rcases wQ f j with⟨h1,h2⟩|⟨b,h1,h2⟩
  ·rw[h2,qFx (f:=fput f j a) (a:=a) (by simp[fput,h1])];simp[lst]
  rw[h2,qFx (f:=fput f j a) (a:=min b a) (by simp[fput,h1])]
  unfold lst
  split <;>omega
 rw[if_neg e]
 unfold fz fput
 rw[if_neg e]
theorem qFo (hE:Seat E){x y:Int}:Ct E 38 [.int .i64 x,.int .i64 y] [] (fun v Q=>v= .int .i64 (lst x y)∧Q=[]):=by
 refine bO (hE.fn Tryz.func38) O O O (fun R=>?_)
 simp only[dV,uV,uW]
 refine gg11 ?_
 refine dW 7 O (fun h1=>?_) (fun h1=>?_)
 ·refine gg15 ?_
  exact uZ O (.tmp O .nil) ⟨congrArg (Value.int .i64) (by rw[lst,if_pos (.inl h1)]),O⟩
 refine gg9 ?_
 refine bE O (fun h2=>?_) (fun h2=>?_)
 ·refine gg8 ?_
  exact uZ O (.tmp O .nil) ⟨congrArg (Value.int .i64) (by rw[lst,if_pos (.inr h2)]),O⟩
 refine gg9 ?_
 exact uZ O (.tmp O .nil) ⟨congrArg (Value.int .i64) (by rw[lst,if_neg oO]),O⟩
structure FiG where
 i:Nat
 F:Nat→Int
 f:Nat→Option Nat
structure FiI (L:List Rl)(id i:Nat)(F:Nat→Int)(f:Nat→Option Nat):Prop where
 le:i≤id
 eq:∀j,j≠0→F j=fz f j
 dn:yE L i f=gL L id
 fin:FIn L (len L id) f
theorem FiI.skip {L:List Rl}{id i:Nat}{F:Nat→Int}{f:Nat→Option Nat}(h:FiI L id (i+1) F f)(hs:pE L i f=f):FiI L id i F f:=⟨by have:=h.le;omega,h.eq,by have:=h.dn;rw[yE,hs]at this;exact this,h.fin⟩
theorem FiI.put {f:Nat→Option Nat}{F:Nat→Int}{k a:Nat}(h:∀j,j≠0→F j=fz f j) (hk:k≠0):∀j,j≠0→(fun j=>if j=k then lst (F k) (a:Nat)else F j) j=fz (fput f k a) j:=fun j hj=>by
 rw[←fz_put]
 show(if j=k then lst (F k) (a:Nat)else F j)=if j=k then lst (fz f k) (a:Nat)else fz f j
 rw[h k hk,h j hj]
theorem FiI.last {L:List Rl}(hw:Wf L){id:Nat}(hid:id≤L.length){F:Nat→Int}{f:Nat→Option Nat}(h:FiI L id 0 F f):(fun j=>if j=0 then(-1:Int)else F j)=fz (gL L id):=by
 have e:f=gL L id:=h.dn
 funext j
 by_cases h0:j=0
 ·subst h0
  rw[if_pos rfl,qMa (qNw (yF hw hid))]
 rw[if_neg h0,h.eq j h0,e]
theorem FiI.start (L:List Rl)(id:Nat):FiI L id id (fun j=>if j=id then(0:Int)else -1) (jT id):=by
 refine⟨Nat.le_refl _,fun j hj=>?_,O,FIn.base id⟩
 show(if j=id then(0:Int)else -1)=_
 by_cases e:j=id
 ·rw[if_pos e,qFx (a:=0) (by simp[jT,e];omega)];rfl
 rw[if_neg e,qMa (by simp[jT,e])]
theorem rk_cases {L:List Rl}{i a:Nat}{f:Nat→Option Nat}{r:Rl}(h:Rl.ok (i+1) r):(r.kind=1∧yG L f a r=f)∨(r.kind=2∧1≤r.left∧r.left≤i∧1≤r.right∧r.right≤i∧yG L f a r=fput (fput f r.left a) r.right (a+len L r.left))∨(r.kind=3∧1≤r.left∧r.left≤i∧yG L f a r=fput f r.left a):=by
 cases r with
 |letter b=>exact .inl ⟨rfl,rfl⟩
 |pair x y=>simp only[Rl.ok]at h;exact .inr (.inl ⟨rfl,by show 1≤x;omega,by show x≤i;omega,by show 1≤y;omega,by show y≤i;omega,rfl⟩)
 |power x k=>simp only[Rl.ok]at h;exact .inr (.inr ⟨rfl,by show 1≤x;omega,by show x≤i;omega,rfl⟩)
theorem qQl (hE:Seat E){L:List Rl}(hw:Wf L){id cr cl:Nat}{pr pl:Option Addr}(hid:id≤L.length)(hn:L.length<65536):
  Ct E 14 [.slice pr (L.length+1) cr,.slice pl (L.length+1) cl,.int .i64 (id:Nat)] [sl pr cr 74 5 (L.length+1) (ruC L),sl pl cl 3 1 (L.length+1) (lzC L L.length)]
   (fun v Q=>∃b13,v= .slice (some ⟨b13,0,none⟩) (L.length+1) (L.length+1)∧Q=[sl pr cr 74 5 (L.length+1) (ruC L),sl pl cl 3 1 (L.length+1) (lzC L L.length),sl (some ⟨b13,0,none⟩) (L.length+1) 3 1 (L.length+1) (vzC (fz (gL L id)) (L.length+1))]):=by
 refine bO (hE.fn Tryz.func14) O O O (fun R=>?_)
 simp only[dV,uV,uW]
 refine gg9 ?_
 refine uU ?_
 refine ld_makeN (hE.t O) (hE.t O) O oO (by(unfold maxLen;omega)) (fun b13 us13 hu13=>?_)
 refine gg10 ?_
 refine jY (p:=sl pr cr 74 5 (L.length+1) (ruC L)) uK (fun _ h=>eZ h oO) ?_
 rintro⟨gr,rfl⟩
 refine jY (p:=sl pl cl 3 1 (L.length+1) (lzC L L.length)) uK (fun _ h=>eZ h oO) ?_
 rintro⟨gl,rfl⟩
 rw[Nat.mul_one]at hu13
 refine dX (fun i:Nat=>[(0,.slice (some ⟨gr,0,none⟩) (L.length+1) cr),(1,.slice (some ⟨gl,0,none⟩) (L.length+1) cl),(2,.int .i64 (id:Nat)),(7,.slice (some ⟨b13,0,none⟩) (L.length+1) (L.length+1)),(8,.int .i64 (i:Nat))]) (fun i=>[sl (some ⟨gr,0,none⟩) cr 74 5 (L.length+1) (ruC L),sl (some ⟨gl,0,none⟩) cl 3 1 (L.length+1) (lzC L L.length),sl (some ⟨b13,0,none⟩) (L.length+1) 3 1 (L.length+1) (List.replicate i (Value.int .i64 (-1))++us13.drop i),R]) (fun i=>L.length+1-i) (fun i=>i≤L.length+1) 0 (Nat.zero_le _) ⟨O,O,O,O,O,trivial⟩ uI ?_
 rintro i hi
 refine gg9 ?_
 refine bE O (fun h=>?_) (fun h=>?_)
 ·refine gg17 ?_
  rw[vzC_fill us13 hu13 (i:=i) oO (((i:Nat):Int).toNat) oO]
  refine bS (ι:=Nat) (j:=i+1) oO oO ⟨O,O,O,O,congrArg some (bW oO),trivial⟩ uI
 obtain rfl:i=L.length+1:=by omega
 rw[vzC_full us13 hu13]
 clear hu13
 refine gg21 ?_
 rw[qKz (fun _=> -1) (n:=L.length+1) (k:=id) oO (((id:Nat):Int).toNat) oO]
 refine dX (fun x:FiG=>[(0,.slice (some ⟨gr,0,none⟩) (L.length+1) cr),(1,.slice (some ⟨gl,0,none⟩) (L.length+1) cl),(7,.slice (some ⟨b13,0,none⟩) (L.length+1) (L.length+1)),(9,.int .i64 (x.i:Nat))]) (fun x=>[sl (some ⟨gr,0,none⟩) cr 74 5 (L.length+1) (ruC L),sl (some ⟨gl,0,none⟩) cl 3 1 (L.length+1) (lzC L L.length),sl (some ⟨b13,0,none⟩) (L.length+1) 3 1 (L.length+1) (vzC x.F (L.length+1)),R]) (fun x=>x.i) (fun x=>FiI L id x.i x.F x.f) ⟨id,_,jT id⟩ (FiI.start L id) ⟨O,O,O,O,trivial⟩ uI ?_
 rintro⟨i,F,f⟩hI
 simp only at hI ⊢
 have hile:=hI.le
 refine gg7 ?_
 refine bE O (fun h1=>?_) (fun h1=>?_)
 ·obtain⟨i,rfl⟩:∃k,i=k+1:=⟨i-1,oO⟩
  obtain⟨r,hr⟩:∃r,L[i]?=some r:=⟨_,List.getElem?_eq_getElem oO⟩
  obtain⟨f0,f1,f2,f3,f4⟩:=qOy hr (0+((i+1:Nat):Int).toNat*5) oO
  have f5:=zQ F (n:=L.length+1) (k:=i+1) oO (((i+1:Nat):Int).toNat) oO
  have hFi:=hI.eq (i+1) oO
  have hok:=hw.ok _ _ hr
  refine gg10 ?_
  refine uU (cZ (hE.t O) (fun b10=>?_))
  refine gg12 ?_
  rcases wQ f (i+1)with⟨g1,g2⟩|⟨a,g1,g2⟩
  ·have hI2:=hI.skip (qOf g1)
   rw[g2]at hFi
   refine dW 40 O (fun h2=>?_) (fun h2=>?_)
   ·refine gg16 ?_
    refine bS (ι:=FiG) (j:=⟨i,F,f⟩) hI2 (by simp only;omega) ⟨O,O,O,congrArg some (bW (by simp only;omega)),trivial⟩ uI
   exfalso;omega
  have hst:=wO g1 hr
  rw[g2]at hFi
  refine dW 40 O (fun h2=>?_) (fun h2=>?_)
  ·exfalso;omega
  refine gg9 ?_
  rw[hFi]at f5
  have hdn:=hI.dn
  rw[yE,hst]at hdn
  have hfi2:=hI.fin.step hw (i:=i)
  have hal:=hI.fin (i+1) a g1
  have hsh:=hw.short id
  have hsl:=hw.short r.left
  have hmx:dB=1152921504606846976:=rfl
  rcases rk_cases (L:=L) (f:=f) (a:=a) hok with⟨k0,k1⟩|⟨k0,k1,k2,k3,k4,k5⟩|⟨k0,k1,k2,k3⟩
  ·refine bE O (fun h3=>?_) (fun h3=>?_)
   ·refine gg9 ?_
    refine bS (ι:=FiG) (j:=⟨i,F,f⟩) ⟨by simp only;omega,hI.eq,by rw[←hdn,k1],hI.fin⟩ (by simp only;omega) ⟨rfl,rfl,rfl,congrArg some (bW (by simp only;omega)),trivial⟩ uI
   exfalso;omega
  ·have f6:=zQ F (n:=L.length+1) (k:=r.left) oO (((r.left:Nat):Int).toNat) oO
   refine bE O (fun h3=>?_) (fun h3=>?_)
   ·exfalso;omega
   refine gg3 ?_
   refine uN 14 ([cells b10 [.int .i64 (Rl.kind (r):Nat),.int .u8 (Rl.byte (r):Nat),.int .i64 (Rl.left (r):Nat),.int .i64 (Rl.right (r):Nat),.int .i64 (Rl.times (r):Nat)] 74,sl (some ⟨b13,0,none⟩) (L.length+1) 3 1 (L.length+1) (vzC F (L.length+1))]) ?_
   refine gg9 ?_
   apply dF 9 O oK
   ·exact aB O
   ·rfl
   apply dF 10 O oK
   ·exact uAj O O
   ·rfl
   apply dF 11 O oK
   ·(apply aO rfl (hE.t rfl) rfl;(repeat(first |rfl|assumption|constructor));done)
   ·rfl
   apply eF 12 O oK O
   refine uC (qFo hE) O ?_
   rintro _ _⟨rfl,rfl⟩
   simp only[uV,uW]
   refine uE ?_
   apply dF 13 O oK
   ·exact uAj O O
   ·rfl
   apply fU O oK oK O
   refine uJ ?_
   refine gg8 ?_
   rw[qKz F (n:=L.length+1) (k:=r.left) oO (((r.left:Nat):Int).toNat) oO]
   obtain⟨F1,hF1⟩:∃F1:Nat→Int,F1=fun j=>if j=r.left then lst (F r.left) (a:Nat)else F j:=⟨_,rfl⟩
   rw[←hF1]
   have q1:∀j,j≠0→F1 j=fz (fput f r.left a) j:=fun j hj=>by rw[hF1];exact FiI.put hI.eq oO j hj
   have q2:F1 (i+1)=(a:Nat):=by
    rw[hF1]
    simp only
    rw[if_neg oO,hFi]
   refine bE O (fun h4=>?_) (fun h4=>?_)
   ·clear f5 f6
    have f5:=zQ F1 (n:=L.length+1) (k:=i+1) oO (((i+1:Nat):Int).toNat) oO
    have f6:=zQ F1 (n:=L.length+1) (k:=r.right) oO (((r.right:Nat):Int).toNat) oO
    have f7:=lzC_at L (n:=L.length) (i:=r.left) oO (((r.left:Nat):Int).toNat) oO
    rw[q2]at f5
    refine uN 20 ([cells b10 [.int .i64 (Rl.kind (r):Nat),.int .u8 (Rl.byte (r):Nat),.int .i64 (Rl.left (r):Nat),.int .i64 (Rl.right (r):Nat),.int .i64 (Rl.times (r):Nat)] 74,sl (some ⟨b13,0,none⟩) (L.length+1) 3 1 (L.length+1) (vzC F1 (L.length+1)),sl (some ⟨gl,0,none⟩) cl 3 1 (L.length+1) (lzC L L.length)]) ?_
    refine gg13 ?_
    apply dF 13 O oK
    ·exact uBf O
    ·rfl
    apply dF 14 O oK
    ·(apply aO rfl (hE.t rfl) rfl;(repeat(first |rfl|assumption|constructor));done)
    ·rfl
    apply dF 15 O oK
    ·exact uAj O O
    ·rfl
    apply dF 16 O oK
    ·(apply aO rfl (hE.t rfl) rfl;(repeat(first |rfl|assumption|constructor));done)
    ·rfl
    apply dF 17 O oK
    ·exact uAa O O
    ·rfl
    apply eF 18 O oK O
    rw[show((a:Nat):Int)+((len L r.left:Nat):Int)=((a+len L r.left:Nat):Int) by omega]
    refine uC (qFo hE) O ?_
    rintro _ _⟨rfl,rfl⟩
    simp only[uV,uW]
    refine uE ?_
    apply dF 19 O oK
    ·exact uAj O O
    ·rfl
    apply fU O oK oK O
    refine uJ ?_
    refine gg7 ?_
    rw[qKz F1 (n:=L.length+1) (k:=r.right) oO (((r.right:Nat):Int).toNat) oO]
    have hdn5:yE L i (fput (fput f r.left a) r.right (a+len L r.left))=gL L id:=by rw[←hdn,k5]
    have hfi5:FIn L (len L id) (fput (fput f r.left a) r.right (a+len L r.left)):=by rw[←k5,←hst];exact hfi2
    have hq5:=FiI.put (k:=r.right) (a:=a+len L r.left) q1 oO
    refine bS (ι:=FiG) (j:=⟨i,fun j=>if j=r.right then lst (F1 r.right) ((a+len L r.left:Nat):Int)else F1 j,fput (fput f r.left a) r.right (a+len L r.left)⟩) ⟨by simp only;omega,hq5,hdn5,hfi5⟩ (by simp only;omega) ⟨rfl,rfl,rfl,congrArg some (bW (by simp only;omega)),trivial⟩ uI
   exfalso;omega
  have f6:=zQ F (n:=L.length+1) (k:=r.left) oO (((r.left:Nat):Int).toNat) oO
  refine bE O (fun h3=>?_) (fun h3=>?_)
  ·exfalso;omega
  refine gg3 ?_
  refine uN 14 ([cells b10 [.int .i64 (Rl.kind (r):Nat),.int .u8 (Rl.byte (r):Nat),.int .i64 (Rl.left (r):Nat),.int .i64 (Rl.right (r):Nat),.int .i64 (Rl.times (r):Nat)] 74,sl (some ⟨b13,0,none⟩) (L.length+1) 3 1 (L.length+1) (vzC F (L.length+1))]) ?_
  refine gg9 ?_
  apply dF 9 O oK
  ·exact aB O
  ·rfl
  apply dF 10 O oK
  ·exact uAj O O
  ·rfl
  apply dF 11 O oK
  ·(apply aO rfl (hE.t rfl) rfl;(repeat(first |rfl|assumption|constructor));done)
  ·rfl
  apply eF 12 O oK O
  refine uC (qFo hE) O ?_
  rintro _ _⟨rfl,rfl⟩
  simp only[uV,uW]
  refine uE ?_
  apply dF 13 O oK
  ·exact uAj O O
  ·rfl
  apply fU O oK oK O
  refine uJ ?_
  refine gg8 ?_
  rw[qKz F (n:=L.length+1) (k:=r.left) oO (((r.left:Nat):Int).toNat) oO]
  obtain⟨F1,hF1⟩:∃F1:Nat→Int,F1=fun j=>if j=r.left then lst (F r.left) (a:Nat)else F j:=⟨_,rfl⟩
  rw[←hF1]
  have q1:∀j,j≠0→F1 j=fz (fput f r.left a) j:=fun j hj=>by rw[hF1];exact FiI.put hI.eq oO j hj
  have q2:F1 (i+1)=(a:Nat):=by
   rw[hF1]
   simp only
   rw[if_neg oO,hFi]
  refine bE O (fun h4=>?_) (fun h4=>?_)
  ·exfalso;omega
  refine gg8 ?_
  have hdn5:yE L i (fput f r.left a)=gL L id:=by rw[←hdn,k3]
  have hfi5:FIn L (len L id) (fput f r.left a):=by rw[←k3,←hst];exact hfi2
  refine bS (ι:=FiG) (j:=⟨i,F1,fput f r.left a⟩) ⟨by simp only;omega,q1,hdn5,hfi5⟩ (by simp only;omega) ⟨rfl,rfl,rfl,congrArg some (bW (by simp only;omega)),trivial⟩ uI
 obtain rfl:i=0:=by omega
 have hlast:=hI.last hw hid
 refine gg19 ?_
 rw[qKz F (n:=L.length+1) (k:=0) oO ((0:Int).toNat) rfl,hlast]
 exact uZ O (.tmp O .nil) ⟨b13,O,O⟩
end
section
open Go Go.RowKit Sl Eg
variable {E:Env}{Es:List Ent}{pp tb s most:Nat}
theorem qUk (k:Nat)(a:List UInt8):(List.replicate (k+1) a).flatten=(List.replicate k a).flatten++a:=by rw[List.replicate_succ'];simp
theorem qOb (k:Nat)(a:List UInt8):(List.replicate k a).flatten.length=k*a.length:=by simp
theorem qNs (hE:Seat E){L:List Rl}(hw:Wf L)(hn:L.length<65536){gr cr:Nat}:∀x,x≤L.length→len L x≤100000→Ct E 37 [.slice (some ⟨gr,0,none⟩) (L.length+1) cr,.int .i64 (x:Nat)] [sl (some ⟨gr,0,none⟩) cr 74 5 (L.length+1) (ruC L)] (fun v Q=>v= .string ⟨⟨txt L x⟩⟩∧Q=[sl (some ⟨gr,0,none⟩) cr 74 5 (L.length+1) (ruC L)]):=by
 intro x
 induction x using Nat.strongRecOn with
 |ind x ih=>
 intro hx hl
 refine bO (hE.fn Tryz.func37) O O O (fun R=>?_)
 simp only[dV,uV,uW]
 refine gg12 ?_
 refine bE O (fun h0=>?_) (fun h0=>?_)
 ·obtain rfl:x=0:=by omega
  refine gg7 ?_
  exact uZ O (.tmp O .nil) ⟨O,O⟩
 obtain⟨i,rfl⟩:∃k,x=k+1:=⟨x-1,oO⟩
 obtain⟨r,hr⟩:∃r,L[i]?=some r:=⟨_,List.getElem?_eq_getElem oO⟩
 have hok:=hw.ok _ _ hr
 obtain⟨f0,f1,f2,f3,f4⟩:=qOy hr (0+((i+1:Nat):Int).toNat*5) oO
 refine gg8 ?_
 refine uU (cZ (hE.t O) (fun b5=>?_))
 refine gg17 ?_
 cases r with
 |letter b=>
  have ht:=jE hr
  refine bE O (fun h1=>?_) (fun h1=>?_)
  ·refine gg4 ?_
   refine uU ?_
   refine aU (hE.t O) (hE.t O) O O O (fun b20=>?_)
   refine uB (qXq (q:=cells b20 [.int .u8 (b.toNat:Nat)] 5) (bs:=[b]) O (hE.t O) (hE.t O) (hE.t O) (fun _=>⟨b20,0,O,rd_cells (fun _ _ h=>h)⟩) uK) ?_
   refine gg6 ?_
   exact uZ O (.tmp O .nil) ⟨by rw[ht];rfl,rfl⟩
  exfalso;simp[Rl.kind]at h1
 |pair l r=>
  have ht:=kC hr hok
  have hk:=hok
  simp only[Rl.ok]at hk
  have hlen:len L (i+1)=len L l+len L r:=by unfold len;rw[ht,List.length_append]
  have hll:(txt L l).length=len L l:=rfl
  have hlr:(txt L r).length=len L r:=rfl
  refine bE O (fun h1=>?_) (fun h1=>?_)
  ·exfalso;simp[Rl.kind]at h1
  refine gg6 ?_
  refine bE O (fun h2=>?_) (fun h2=>?_)
  ·skip
   refine gg1 ?_
   refine uH ([cells b5 [.int .i64 (Rl.kind ((Rl.pair l r)):Nat),.int .u8 (Rl.byte ((Rl.pair l r)):Nat),.int .i64 (Rl.left ((Rl.pair l r)):Nat),.int .i64 (Rl.right ((Rl.pair l r)):Nat),.int .i64 (Rl.times ((Rl.pair l r)):Nat)] 74,sl (some ⟨gr,0,none⟩) cr 74 5 (L.length+1) (ruC L)]) ?_
   refine gg3 ?_
   refine uD 4 O (aB O) ?_
   refine gg2 ?_
   apply dG 3 O oK O
   refine uC (ih l oO oO oO) O ?_
   rintro _ _⟨rfl,rfl⟩
   simp only[uV,uW]
   refine uE ?_
   apply dG 7 O oK O
   refine uC (ih r oO oO oO) O ?_
   rintro _ _⟨rfl,rfl⟩
   simp only[uV,uW]
   refine uE ?_
   refine uD 8 O (xJ O O oO) ?_
   refine gg6 ?_
   exact uZ O (.tmp O .nil) ⟨by rw[ht];rfl,rfl⟩
  exfalso;simp[Rl.kind]at h2
 |power y t=>
  have ht:=jX hr hok
  have hk:=hok
  simp only[Rl.ok]at hk
  have hlen:len L (i+1)=t*len L y:=by unfold len;rw[ht,qOb]
  refine bE O (fun h1=>?_) (fun h1=>?_)
  ·exfalso;simp[Rl.kind]at h1
  refine gg6 ?_
  refine bE O (fun h2=>?_) (fun h2=>?_)
  ·exfalso;simp[Rl.kind]at h2
  refine gg15 ?_
  refine dX (fun k:Nat=>[(0,.slice (some ⟨gr,0,none⟩) (L.length+1) cr),(5,uPt b5),(6,.string ⟨⟨(List.replicate k (txt L y)).flatten⟩⟩),(7,.int .i64 (k:Nat))]) (fun k=>[cells b5 [.int .i64 (Rl.kind ((Rl.power y t)):Nat),.int .u8 (Rl.byte ((Rl.power y t)):Nat),.int .i64 (Rl.left ((Rl.power y t)):Nat),.int .i64 (Rl.right ((Rl.power y t)):Nat),.int .i64 (Rl.times ((Rl.power y t)):Nat)] 74,sl (some ⟨gr,0,none⟩) cr 74 5 (L.length+1) (ruC L),R]) (fun k=>t-k) (fun k=>k≤t) 0 (Nat.zero_le _) ⟨O,O,O,O,trivial⟩ uI ?_
  rintro k hkt
  have hll:(txt L y).length=len L y:=rfl
  have hfl:=qOb k (txt L y)
  rw[hll]at hfl
  have hkl:=Nat.mul_le_mul_right (len L y) hkt
  have hp:=hw.pos y oO oO
  have hy1:=Nat.mul_le_mul_right (len L y) hk.2.2
  have htb:=Nat.le_mul_of_pos_right t hp
  refine gg9 ?_
  refine bE O (fun h3=>?_) (fun h3=>?_)
  ·have htt:((Rl.power y t).times:Int)=(t:Nat):=rfl
   rw[htt]at h3
   refine gg9 ?_
   refine uX (ih y oO oO oO) O ?_
   rintro _ _⟨rfl,rfl⟩
   simp only[uV,uW]
   refine uB (xJ O O oO) ?_
   refine gg9 ?_
   refine bS (ι:=Nat) (j:=k+1) oO oO ⟨O,O,by rw[qUk];rfl,congrArg some (bW oO),trivial⟩ uI
  obtain rfl:k=t:=by have:((Rl.power y t).times:Int)=(t:Nat):=rfl;omega
  refine gg12 ?_
  exact uZ O (.tmp O .nil) ⟨by rw[ht];rfl,rfl⟩
end
section
open Go Go.RowKit Sl Eg
variable {E:Env}{Es:List Ent}{pp tb s most:Nat}
def Pc.pc:Pc→Bool
 | .copy _ _=>true
 | .text _=>false
def Pc.pf:Pc→Nat
 | .copy f _=>f
 | .text _=>0
def Pc.pn:Pc→Nat
 | .copy _ n=>n
 | .text _=>0
def Pc.pt:Pc→List UInt8
 | .copy _ _=>[]
 | .text b=>b
def pzV (x:Pc):List Value:=[.bool x.pc,.int .i64 (x.pf:Nat),.int .i64 (x.pn:Nat),.string ⟨⟨x.pt⟩⟩]
def pzC (l:List Pc):List Value:=l.flatMap pzV
theorem kV (a b:List Pc):pzC (a++b)=pzC a++pzC b:=by simp[pzC]
theorem pzV_one (x:Pc):∀u∈pzV x,u.oneCell'=true:=fun u h=>by
 simp only[pzV,List.mem_cons,List.not_mem_nil,or_false]at h
 rcases h with rfl|rfl|rfl|rfl<;>rfl
theorem pzC_one (l:List Pc):∀u∈pzC l,u.oneCell'=true:=fun u h=>by
 obtain⟨x,_,hx⟩:=List.mem_flatMap.1 h
 exact pzV_one x u hx
def bz (o:Option Nat):Int:=match o with |some a=>(a:Nat)|none=> -1
theorem qOh {L:List Rl}{f:Nat→Option Nat}{y t k:Nat}{r:Rl}(hr:L[k]?=some r)(h:¬(0≤fz f (k+1)∧r.kind=3∧r.left=y∧t≤r.times)):qA L f y t (k+1)=qA L f y t k:=by
 have e:hit L f y t k=none:=by
  unfold hit
  rw[hr]
  rcases wQ f (k+1)with⟨h1,h2⟩|⟨a,h1,h2⟩
  ·rw[h1];cases r<;>rfl
  rw[h1]
  cases r with
  |letter b=>rfl
  |pair a b=>rfl
  |power y' t'=>
   simp only
   rw[if_neg]
   rintro⟨rfl,h3⟩
   exact h ⟨oO,O,O,h3⟩
 rw[qA,e]
theorem hit_yes {L:List Rl}{f:Nat→Option Nat}{y t k:Nat}{r:Rl}(hr:L[k]?=some r)(h:0≤fz f (k+1)∧r.kind=3∧r.left=y∧t≤r.times):bz (qA L f y t (k+1))=lst (bz (qA L f y t k)) (fz f (k+1)):=by
 obtain⟨h1,h2,h3,h4⟩:=h
 rcases wQ f (k+1)with⟨g1,g2⟩|⟨a,g1,g2⟩
 ·omega
 cases r with
 |letter b=>cases h2
 |pair a b=>cases h2
 |power y' t'=>
  have e:hit L f y t k=some a:=by
   unfold hit
   rw[hr,g1]
   simp only
   rw[if_pos ⟨h3,h4⟩]
  rw[qA,e,g2]
  cases qA L f y t k with
  |none=>simp[bz,lmin,lst]
  |some b=>
   show((min b a:Nat):Int)=lst ((b:Nat):Int) (a:Nat)
   unfold lst
   by_cases hab:((b:Nat):Int)<0∨((a:Nat):Int)<(b:Nat)
   ·rw[if_pos hab];omega
   rw[if_neg hab];omega
theorem qVm {L:List Rl}(hw:Wf L){f:Nat→Option Nat}:∀x,x≤L.length→(pcs L f x).length≤len L x:=by
 intro x
 induction x using Nat.strongRecOn with
 |ind x ih=>
 intro hx
 cases x with
 |zero=>exact Nat.zero_le _
 |succ i=>
  have hp:=hw.pos (i+1) oO hx
  cases hf:f (i+1)with
  |some a=>rw[xA hf];exact hp
  |none=>
   obtain⟨r,hr⟩:∃r,L[i]?=some r:=⟨_,List.getElem?_eq_getElem oO⟩
   have hok:=hw.ok _ _ hr
   cases r with
   |letter b=>rw[tF hf hr];exact hp
   |power y t=>
    rw[pQ hf hr]
    split <;>exact hp
   |pair l r=>
    have hk:=hok
    simp only[Rl.ok]at hk
    have e:len L (i+1)=len L l+len L r:=by unfold len;rw[kC hr hok,List.length_append]
    have h1:=ih l oO oO
    have h2:=ih r oO oO
    rw[qAk hw hf hr,List.length_append]
    omega
theorem qQn (hE:Seat E){L:List Rl}(hw:Wf L)(hn:L.length<65536){gr cr gl cl gf cf:Nat}{f:Nat→Option Nat}:∀x,x≤L.length→len L x≤100000→
  Ct E 13 [.slice (some ⟨gr,0,none⟩) (L.length+1) cr,.slice (some ⟨gl,0,none⟩) (L.length+1) cl,.slice (some ⟨gf,0,none⟩) (L.length+1) cf,.int .i64 (x:Nat)] [sl (some ⟨gr,0,none⟩) cr 74 5 (L.length+1) (ruC L),sl (some ⟨gl,0,none⟩) cl 3 1 (L.length+1) (lzC L L.length),sl (some ⟨gf,0,none⟩) cf 3 1 (L.length+1) (vzC (fz f) (L.length+1))] (fun v Q=>∃p c,v= .slice p (pcs L f x).length c∧Q=[sl (some ⟨gr,0,none⟩) cr 74 5 (L.length+1) (ruC L),sl (some ⟨gl,0,none⟩) cl 3 1 (L.length+1) (lzC L L.length),sl (some ⟨gf,0,none⟩) cf 3 1 (L.length+1) (vzC (fz f) (L.length+1)),sl p c 47 4 (pcs L f x).length (pzC ((pcs L f x).map (Px.out L)))]):=by
 intro x
 induction x using Nat.strongRecOn with
 |ind x ih=>
 intro hx hl
 refine bO (hE.fn Tryz.func13) O O O (fun R=>?_)
 simp only[dV,uV,uW]
 refine dN (uA O (dM (aL (dN (uM O (uB (y_eq O O) (dM ?_)))))))
 refine bE O (fun h0=>?_) (fun h0=>?_)
 ·obtain rfl:x=0:=by omega
  refine jI (gW (t:=47) (sz:=4)) ?_
  refine dN (uA O (dM (bZ (aV ?_))))
  exact uZ O (.tmp O .nil) ⟨none,0,O,O⟩
 obtain⟨i,rfl⟩:∃k,x=k+1:=⟨x-1,oO⟩
 obtain⟨r,hr⟩:∃r,L[i]?=some r:=⟨_,List.getElem?_eq_getElem oO⟩
 have hok:=hw.ok _ _ hr
 have f5:=zQ (fz f) (n:=L.length+1) (k:=i+1) oO (((i+1:Nat):Int).toNat) oO
 have f6:=lzC_at L (n:=L.length) (i:=i+1) oO (((i+1:Nat):Int).toNat) oO
 refine bC (aK (aL (dN (uM O (uM O (uB (uAj O O) (uL ?_)))))))
 refine uB (y_ge O O) (dM ?_)
 rcases wQ f (i+1)with⟨g1,g2⟩|⟨a,g1,g2⟩
 ·rw[g2]
  refine bE O (fun h1=>?_) (fun h1=>?_)
  ·exfalso;omega
  rw[g2]at f5
  obtain⟨f0,f1,f2,f3,f4⟩:=qOy hr (0+((i+1:Nat):Int).toNat*5) oO
  refine bC (aK (dN (uM O (uM O (uB (uAi O O) ?_)))))
  refine uB (uG) ?_
  refine uU (cZ (hE.t O) (fun b9=>?_))
  refine uU (uS ?_)
  refine dM (aL (dN (uB (uBf O) ?_)))
  refine uL ?_
  refine uB (y_eq O O) (dM ?_)
  cases r with
  |letter b=>
   rw[tF (L:=L) g1 hr]
   refine bE O (fun h2=>?_) (fun h2=>?_)
   ·exfalso;simp[Rl.kind]at h2
   refine bC (aK (dN (uA O (dM (aL (dN (uA O (dM (bK ?_)))))))))
   refine kD 1 ?_
   refine r_succ ?_
   refine aL (dN (uM O (uM O (uB (uBl O) (uB (y_lt O O) (uM O ?_))))))
   refine dW 53 O (fun h3=>?_) (fun h3=>?_)
   ·refine dO (uB (uBf O) ?_)
    refine dO (uL ?_)
    refine dO (uB (y_eq O O) (uB (aW O O) (dM (bD O (dE (aQ (aQ (bH (aK (aL (dN (uM O (uB (y_ge O O) (dM ?_))))))))))))))
    refine bE O (fun h4=>?_) (fun h4=>?_)
    ·exfalso;omega
    refine bC (aK (dN (uM O (uM O (uX (qNs hE hw hn (i+1) hx hl) O ?_)))))
    rintro _ _⟨rfl,rfl⟩
    simp only[uV,uW]
    refine uB (iK (hE.t O) O O) ?_
    refine uU ?_
    refine aU (hE.t O) (hE.t O) O O O (fun b122=>?_)
    refine uA O (dM (bZ ?_))
    apply cB
    ·rfl
    ·(apply Rs.tmp rfl;exact Rs.nil)
    ·exact⟨some ⟨b122,0,none⟩,1,O,O⟩
    apply cO (cK (p:=cells b122 (pzC [.text (txt L (i+1))]) 47) (p':=sl (some ⟨b122,0,none⟩) 1 47 4 1 (pzC [.text (txt L (i+1))])) uK (gK O (by unfold maxLen;omega)))
    exact uI
   exfalso;omega
  |pair l r=>
   have hk:=hok
   simp only[Rl.ok]at hk
   have ht:=kC hr hok
   have hlen:len L (i+1)=len L l+len L r:=by unfold len;rw[ht,List.length_append]
   have hql:=qVm (f:=f) hw l oO
   have hqr:=qVm (f:=f) hw r oO
   rw[qAk hw g1 hr,List.length_append,List.map_append,kV]
   refine bE O (fun h2=>?_) (fun h2=>?_)
   ·skip
    refine aL ?_
    refine uH ([cells b9 [.int .i64 (Rl.kind ((Rl.pair l r)):Nat),.int .u8 (Rl.byte ((Rl.pair l r)):Nat),.int .i64 (Rl.left ((Rl.pair l r)):Nat),.int .i64 (Rl.right ((Rl.pair l r)):Nat),.int .i64 (Rl.times ((Rl.pair l r)):Nat)] 74,sl (some ⟨gr,0,none⟩) cr 74 5 (L.length+1) (ruC L),sl (some ⟨gl,0,none⟩) cl 3 1 (L.length+1) (lzC L L.length),sl (some ⟨gf,0,none⟩) cf 3 1 (L.length+1) (vzC (fz f) (L.length+1))]) ?_
    refine uD 0 O (aB O) (uD 1 O (aB O) (uD 2 O (aB O) ?_))
    refine uD 3 O (uBf O) ?_
    refine uD 4 O (uY) ?_
    refine uD 6 O (aB O) (uD 7 O (aB O) (uD 8 O (aB O) ?_))
    refine uD 9 O (uBf O) ?_
    refine uD 10 O (uY) ?_
    apply dG 5 O oK O
    refine uC (ih l oO oO oO) O ?_
    rintro _ _⟨pa,ca,rfl,rfl⟩
    simp only[uV,uW]
    refine uE ?_
    apply dG 11 O oK O
    refine uC (ih r oO oO oO) O ?_
    rintro _ _⟨pb,cb,rfl,rfl⟩
    simp only[uV,uW]
    refine uE ?_
    apply dG 12 O oK O
    apply qO (hE.t O) (hE.t O) O O O
    ·exact uK
    ·exact uK
    ·exact pzC_one _
    ·omega
    ·unfold maxLen
     omega
    intro p3 c3 m3 x3 hm3 hx3
    subst hm3 hx3
    refine uE ?_
    refine uD 13 O (aC O) ?_
    refine qFt oK ?_
    refine aK (bZ (aV ?_))
    exact uZ O (.tmp O .nil) ⟨p3,c3,O,O⟩
   exfalso;simp[Rl.kind]at h2
  |power y t=>
   refine bE O (fun h2=>?_) (fun h2=>?_)
   ·exfalso;simp[Rl.kind]at h2
   refine bC (aK (dN (uA O (dM (aL (dN (uA O (dM (bK ?_)))))))))
   refine dX (fun k:Nat=>[(0,.slice (some ⟨gr,0,none⟩) (L.length+1) cr),(1,.slice (some ⟨gl,0,none⟩) (L.length+1) cl),(2,.slice (some ⟨gf,0,none⟩) (L.length+1) cf),(3,.int .i64 ((i+1:Nat):Int)),(9,uPt b9),(10,.int .i64 (bz (qA L f y t k))),(11,.int .i64 ((k+1:Nat):Int))]) (fun k=>[cells b9 [.int .i64 (Rl.kind ((Rl.power y t)):Nat),.int .u8 (Rl.byte ((Rl.power y t)):Nat),.int .i64 (Rl.left ((Rl.power y t)):Nat),.int .i64 (Rl.right ((Rl.power y t)):Nat),.int .i64 (Rl.times ((Rl.power y t)):Nat)] 74,sl (some ⟨gr,0,none⟩) cr 74 5 (L.length+1) (ruC L),sl (some ⟨gl,0,none⟩) cl 3 1 (L.length+1) (lzC L L.length),sl (some ⟨gf,0,none⟩) cf 3 1 (L.length+1) (vzC (fz f) (L.length+1)),R]) (fun k=>L.length-k) (fun k=>k≤L.length) 0 (Nat.zero_le _) ⟨O,O,O,O,O,O,O,trivial⟩ uI ?_
   clear f0 f1 f2 f3 f4 f5
   rintro k hk
   have hy1:((Rl.power y t).left:Int)=(y:Nat):=rfl
   have hy2:((Rl.power y t).times:Int)=(t:Nat):=rfl
   refine aL (dN (uM O (uM O (uB (uBl O) (uB (y_lt O O) (uM O ?_))))))
   refine dW 53 O (fun h3=>?_) (fun h3=>?_)
   ·refine dO (uB (uBf O) ?_)
    refine dO (uL ?_)
    refine dO (uB (y_eq O O) (uB (aW O O) (dM (bF O ?_))))
    obtain⟨q,hq⟩:∃r,L[k]?=some r:=⟨_,List.getElem?_eq_getElem oO⟩
    obtain⟨f0,f1,f2,f3,f4⟩:=qOy hq (0+((k+1:Nat):Int).toNat*5) oO
    have f5:=zQ (fz f) (n:=L.length+1) (k:=k+1) oO (((k+1:Nat):Int).toNat) oO
    refine bC (aK (aL (bK (aL ?_))))
    refine uH ([cells b9 [.int .i64 (Rl.kind ((Rl.power y t)):Nat),.int .u8 (Rl.byte ((Rl.power y t)):Nat),.int .i64 (Rl.left ((Rl.power y t)):Nat),.int .i64 (Rl.right ((Rl.power y t)):Nat),.int .i64 (Rl.times ((Rl.power y t)):Nat)] 74,sl (some ⟨gr,0,none⟩) cr 74 5 (L.length+1) (ruC L),sl (some ⟨gf,0,none⟩) cf 3 1 (L.length+1) (vzC (fz f) (L.length+1))]) ?_
    refine uD 0 O (aB O) (uD 1 O (aB O) (uD 2 O (uAj O O) ?_))
    refine uD 3 O (uY) ?_
    refine uD 4 O (y_ge O O) (uD 5 O (aB O) ?_)
    refine qE 65 O (fun c1=>?_) (fun c1=>?_)
    ·refine uO 6 O O O (aB O) (uO 7 O O O (aB O) ?_)
     refine uO 8 O O O (uAi O O) ?_
     refine uO 9 O O O (uBf O) ?_
     refine uO 10 O O O (uY) ?_
     refine uO 11 O O O (y_eq O O) (uD 12 O (aW O O) (uD 13 O (aB O) ?_))
     refine qE 73 O (fun c2=>?_) (fun c2=>?_)
     ·refine uO 14 O O O (aB O) (uO 15 O O O (aB O) ?_)
      refine uO 16 O O O (uAi O O) ?_
      refine uO 17 O O O (uBf O) ?_
      refine uO 18 O O O (uY) ?_
      refine uO 19 O O O (uBf O) ?_
      refine uO 20 O O O (uY) ?_
      refine uO 21 O O O (y_eq O O) (uD 22 O (aW O O) (uD 23 O (aB O) ?_))
      refine qE 83 O (fun c3=>?_) (fun c3=>?_)
      ·refine uO 24 O O O (aB O) (uO 25 O O O (aB O) ?_)
       refine uO 26 O O O (uAi O O) ?_
       refine uO 27 O O O (uBf O) ?_
       refine uO 28 O O O (uY) ?_
       refine uO 29 O O O (uBf O) ?_
       refine uO 30 O O O (uY) ?_
       refine uO 31 O O O (y_ge O O) (uD 32 O (aW O O) (uD 33 O (aB O) ?_))
       refine qE 93 O (fun c4=>?_) (fun c4=>?_)
       ·have hb:=hit_yes (f:=f) (y:=y) (t:=t) hq ⟨oO,oO,oO,oO⟩
        unfold lst at hb
        refine uO 34 O O O (aB O) (uO 35 O O O (y_lt O O) (uO 36 O O O (aB O) ?_))
        refine qE 96 O (fun c5=>?_) (fun c5=>?_)
        ·rw[if_pos (.inl oO)]at hb
         refine uR 37 O O O O ?_
         refine uR 38 O O O O ?_
         refine uR 39 O O O O ?_
         refine uR 40 O O O O ?_
         refine uR 41 O O O O ?_
         refine uR 42 O O O O ?_
         refine uO 43 O O O (aW O O) (uD 44 O (aW O O) ?_)
         refine qFt oK ?_
         refine aK (bF O (aJ (uM O (uM O (uB (uAj O O) (uL ?_))))))
         refine uA O (aM (bI (aK (aJ (uM O (uB (uAa O O) (uA O (aM ?_))))))))
         refine bS (ι:=Nat) (j:=k+1) oO oO ⟨O,O,O,O,O,by rw[hb];rfl,congrArg some (bW oO),trivial⟩ uI
        refine uO 37 O O O (aB O) (uO 38 O O O (aB O) (uO 39 O O O (uAj O O) ?_))
        refine uO 40 O O O (uY) ?_
        refine uO 41 O O O (aB O) (uO 42 O O O (y_lt O O) (uO 43 O O O (aX O O) (uD 44 O (aW O O) ?_)))
        refine qFt oK ?_
        refine aK ?_
        refine bE O (fun c6=>?_) (fun c6=>?_)
        ·rw[if_pos (.inr oO)]at hb
         refine aJ (uM O (uM O (uB (uAj O O) (uL ?_))))
         refine uA O (aM (bI (aK (aJ (uM O (uB (uAa O O) (uA O (aM ?_))))))))
         refine bS (ι:=Nat) (j:=k+1) oO oO ⟨O,O,O,O,O,by rw[hb];rfl,congrArg some (bW oO),trivial⟩ uI
        rw[if_neg oO]at hb
        refine bC (bI (aK (aJ (uM O (uB (uAa O O) (uA O (aM ?_)))))))
        refine bS (ι:=Nat) (j:=k+1) oO oO ⟨O,O,O,O,O,by rw[hb];rfl,congrArg some (bW oO),trivial⟩ uI
       have hb:=congrArg bz (qOh (f:=f) (y:=y) (t:=t) hq oO)
       refine uR 34 O O O O ?_
       refine uR 35 O O O O ?_
       refine uR 36 O O O O ?_
       refine iB 37 O O O (by with_reducible (repeat(first |exact aF|apply aG|apply aH))) oK O ?_
       refine iB 38 O O O (by with_reducible (repeat(first |exact aF|apply aG|apply aH))) oK O ?_
       refine iB 39 O O O (by with_reducible (repeat(first |exact aF|apply aG|apply aH))) oK O ?_
       refine iB 40 O O O (by with_reducible (repeat(first |exact aF|apply aG|apply aH))) oK O ?_
       refine iB 41 O O O (by with_reducible (repeat(first |exact aF|apply aG|apply aH))) oK O ?_
       refine iB 42 O O O (by with_reducible (repeat(first |exact aF|apply aG|apply aH))) oK O ?_
       refine uR 43 O O O O ?_
       refine uD 44 O (aX O O) ?_
       refine qFt oK ?_
       refine aK (bD O (bC (bI (aK (aJ (uM O (uB (uAa O O) (uA O (aM ?_)))))))))
       refine bS (ι:=Nat) (j:=k+1) oO oO ⟨O,O,O,O,O,by rw[hb];rfl,congrArg some (bW oO),trivial⟩ uI
      refine uR 24 O O O O ?_
      refine uR 25 O O O O ?_
      refine uR 26 O O O O ?_
      refine uR 27 O O O O ?_
      refine uR 28 O O O O ?_
      refine uR 29 O O O O ?_
      refine uR 30 O O O O ?_
      refine uR 31 O O O O ?_
      refine uD 32 O (aX O O) (uD 33 O (aB O) ?_)
      have hb:=congrArg bz (qOh (f:=f) (y:=y) (t:=t) hq oO)
      refine uR 34 O O O O ?_
      refine uR 35 O O O O ?_
      refine uR 36 O O O O ?_
      refine iB 37 O O O (by with_reducible (repeat(first |exact aF|apply aG|apply aH))) oK O ?_
      refine iB 38 O O O (by with_reducible (repeat(first |exact aF|apply aG|apply aH))) oK O ?_
      refine iB 39 O O O (by with_reducible (repeat(first |exact aF|apply aG|apply aH))) oK O ?_
      refine iB 40 O O O (by with_reducible (repeat(first |exact aF|apply aG|apply aH))) oK O ?_
      refine iB 41 O O O (by with_reducible (repeat(first |exact aF|apply aG|apply aH))) oK O ?_
      refine iB 42 O O O (by with_reducible (repeat(first |exact aF|apply aG|apply aH))) oK O ?_
      refine uR 43 O O O O ?_
      refine uD 44 O (aX O O) ?_
      refine qFt oK ?_
      refine aK (bD O (bC (bI (aK (aJ (uM O (uB (uAa O O) (uA O (aM ?_)))))))))
      refine bS (ι:=Nat) (j:=k+1) oO oO ⟨O,O,O,O,O,by rw[hb];rfl,congrArg some (bW oO),trivial⟩ uI
     refine uR 14 O O O O ?_
     refine uR 15 O O O O ?_
     refine uR 16 O O O O ?_
     refine uR 17 O O O O ?_
     refine uR 18 O O O O ?_
     refine uR 19 O O O O ?_
     refine uR 20 O O O O ?_
     refine uR 21 O O O O ?_
     refine uD 22 O (aX O O) (uD 23 O (aB O) ?_)
     refine uR 24 O O O O ?_
     refine uR 25 O O O O ?_
     refine uR 26 O O O O ?_
     refine uR 27 O O O O ?_
     refine uR 28 O O O O ?_
     refine uR 29 O O O O ?_
     refine uR 30 O O O O ?_
     refine uR 31 O O O O ?_
     refine uD 32 O (aX O O) (uD 33 O (aB O) ?_)
     have hb:=congrArg bz (qOh (f:=f) (y:=y) (t:=t) hq oO)
     refine uR 34 O O O O ?_
     refine uR 35 O O O O ?_
     refine uR 36 O O O O ?_
     refine iB 37 O O O (by with_reducible (repeat(first |exact aF|apply aG|apply aH))) oK O ?_
     refine iB 38 O O O (by with_reducible (repeat(first |exact aF|apply aG|apply aH))) oK O ?_
     refine iB 39 O O O (by with_reducible (repeat(first |exact aF|apply aG|apply aH))) oK O ?_
     refine iB 40 O O O (by with_reducible (repeat(first |exact aF|apply aG|apply aH))) oK O ?_
     refine iB 41 O O O (by with_reducible (repeat(first |exact aF|apply aG|apply aH))) oK O ?_
     refine iB 42 O O O (by with_reducible (repeat(first |exact aF|apply aG|apply aH))) oK O ?_
     refine uR 43 O O O O ?_
     refine uD 44 O (aX O O) ?_
     refine qFt oK ?_
     refine aK (bD O (bC (bI (aK (aJ (uM O (uB (uAa O O) (uA O (aM ?_)))))))))
     refine bS (ι:=Nat) (j:=k+1) oO oO ⟨O,O,O,O,O,by rw[hb];rfl,congrArg some (bW oO),trivial⟩ uI
    refine uR 6 O O O O ?_
    refine uR 7 O O O O ?_
    refine uR 8 O O O O ?_
    refine uR 9 O O O O ?_
    refine uR 10 O O O O ?_
    refine uR 11 O O O O ?_
    refine uD 12 O (aX O O) (uD 13 O (aB O) ?_)
    refine uR 14 O O O O ?_
    refine uR 15 O O O O ?_
    refine uR 16 O O O O ?_
    refine uR 17 O O O O ?_
    refine uR 18 O O O O ?_
    refine uR 19 O O O O ?_
    refine uR 20 O O O O ?_
    refine uR 21 O O O O ?_
    refine uD 22 O (aX O O) (uD 23 O (aB O) ?_)
    refine uR 24 O O O O ?_
    refine uR 25 O O O O ?_
    refine uR 26 O O O O ?_
    refine uR 27 O O O O ?_
    refine uR 28 O O O O ?_
    refine uR 29 O O O O ?_
    refine uR 30 O O O O ?_
    refine uR 31 O O O O ?_
    refine uD 32 O (aX O O) (uD 33 O (aB O) ?_)
    have hb:=congrArg bz (qOh (f:=f) (y:=y) (t:=t) hq oO)
    refine uR 34 O O O O ?_
    refine uR 35 O O O O ?_
    refine uR 36 O O O O ?_
    refine iB 37 O O O (by with_reducible (repeat(first |exact aF|apply aG|apply aH))) oK O ?_
    refine iB 38 O O O (by with_reducible (repeat(first |exact aF|apply aG|apply aH))) oK O ?_
    refine iB 39 O O O (by with_reducible (repeat(first |exact aF|apply aG|apply aH))) oK O ?_
    refine iB 40 O O O (by with_reducible (repeat(first |exact aF|apply aG|apply aH))) oK O ?_
    refine iB 41 O O O (by with_reducible (repeat(first |exact aF|apply aG|apply aH))) oK O ?_
    refine iB 42 O O O (by with_reducible (repeat(first |exact aF|apply aG|apply aH))) oK O ?_
    refine uR 43 O O O O ?_
    refine uD 44 O (aX O O) ?_
    refine qFt oK ?_
    refine aK (bD O (bC (bI (aK (aJ (uM O (uB (uAa O O) (uA O (aM ?_)))))))))
    refine bS (ι:=Nat) (j:=k+1) oO oO ⟨O,O,O,O,O,by rw[hb];rfl,congrArg some (bW oO),trivial⟩ uI
   obtain rfl:k=L.length:=by omega
   rw[pQ g1 hr]
   refine dP (dP (dP (uB (aX O O) (dM (bD O (dE (aQ (aQ (bH (aK (aL (dN (uM O (uB (y_ge O O) (dM ?_)))))))))))))))
   cases hbest:best L f y t with
   |none=>
    have hbe:qA L f y t L.length=none:=hbest
    rw[hbe]
    refine bE O (fun h4=>?_) (fun h4=>?_)
    ·exfalso;simp[bz]at h4
    refine bC (aK (dN (uM O (uM O (uX (qNs hE hw hn (i+1) hx hl) O ?_)))))
    rintro _ _⟨rfl,rfl⟩
    simp only[uV,uW]
    refine uB (iK (hE.t O) O O) ?_
    refine uU ?_
    refine aU (hE.t O) (hE.t O) O O O (fun b122=>?_)
    refine uA O (dM (bZ ?_))
    apply cB
    ·rfl
    ·(apply Rs.tmp rfl;exact Rs.nil)
    ·exact⟨some ⟨b122,0,none⟩,1,O,O⟩
    apply cO (cK (p:=cells b122 (pzC [.text (txt L (i+1))]) 47) (p':=sl (some ⟨b122,0,none⟩) 1 47 4 1 (pzC [.text (txt L (i+1))])) uK (gK O (by unfold maxLen;omega)))
    exact uI
   |some a=>
    have hbe:qA L f y t L.length=some a:=hbest
    rw[hbe]
    refine bE O (fun h4=>?_) (fun h4=>?_)
    ·refine aL (aJ (uM O (uM O (uM O (uB (uAj O O) (uL ?_))))))
     refine uB (iK (hE.t O) O O) ?_
     refine uU ?_
     refine aU (hE.t O) (hE.t O) O O O (fun b117=>?_)
     refine uA O (dM (bZ (aV ?_)))
     apply cB
     ·rfl
     ·(apply Rs.tmp rfl;exact Rs.nil)
     ·exact⟨some ⟨b117,0,none⟩,1,O,O⟩
     apply cO (cK (p:=cells b117 (pzC [.copy a (len L (i+1))]) 47) (p':=sl (some ⟨b117,0,none⟩) 1 47 4 1 (pzC [.copy a (len L (i+1))])) uK (gK O (by unfold maxLen;omega)))
     exact uI
    exfalso;simp[bz]at h4
 rw[g2]at f5 ⊢
 refine bE O (fun h1=>?_) (fun h1=>?_)
 ·rw[xA (L:=L) g1]
  refine aL ?_
  refine uH ([sl (some ⟨gl,0,none⟩) cl 3 1 (L.length+1) (lzC L L.length),sl (some ⟨gf,0,none⟩) cf 3 1 (L.length+1) (vzC (fz f) (L.length+1))]) ?_
  refine uD 0 O (aB O) (uD 1 O (aB O) (uD 2 O (uAj O O) ?_))
  refine uD 3 O (uY) ?_
  refine uD 4 O (aB O) (uD 5 O (aB O) (uD 6 O (uAj O O) ?_))
  refine uD 7 O (uY) ?_
  refine uD 8 O (iK (hE.t O) O O) ?_
  apply dG 9 O oK O
  refine aU (hE.t O) (hE.t O) O O O (fun b28=>?_)
  refine uE ?_
  refine uD 10 O (aC O) ?_
  refine qFt oK ?_
  refine aK (bZ (aV ?_))
  apply cB
  ·rfl
  ·(apply Rs.tmp rfl;exact Rs.nil)
  ·exact⟨some ⟨b28,0,none⟩,1,O,O⟩
  apply cO (cK (p:=cells b28 (pzC [.copy a (len L (i+1))]) 47) (p':=sl (some ⟨b28,0,none⟩) 1 47 4 1 (pzC [.copy a (len L (i+1))])) uK (gK O (by unfold maxLen;omega)))
  exact uI
 exfalso;omega
end
section
open Go Go.RowKit Sl Eg
variable {E:Env}{Es:List Ent}{pp tb s most:Nat}
theorem lX (D:List Pc):(pzC D).length=D.length*4:=by
 induction D with
 |nil=>rfl
 |cons x D ih=>rw[pzC,List.flatMap_cons,List.length_append];show 4+(pzC D).length=_;rw[ih,List.length_cons];omega
theorem qVt {D:List Pc}{k:Nat}{x:Pc}(h:D[k]?=some x)(o:Nat)(ho:o=k*4):(pzC D)[o]?=some (.bool x.pc)∧(pzC D)[o+1]?=some (.int .i64 (x.pf:Nat))∧(pzC D)[o+2]?=some (.int .i64 (x.pn:Nat))∧(pzC D)[o+3]?=some (.string ⟨⟨x.pt⟩⟩):=by
 subst ho
 obtain⟨h1,e1⟩:=List.getElem?_eq_some_iff.1 h
 have e:D=D.take k++(x::D.drop (k+1)):=by rw[←e1,←List.drop_eq_getElem_cons h1,List.take_append_drop]
 have hl:(pzC (D.take k)).length=k*4:=by rw[lX,List.length_take,Nat.min_eq_left oO]
 have key:∀j,j<4→(pzC D)[k*4+j]?=(pzV x)[j]?:=fun j hj=>by
  rw[e,kV,List.getElem?_append_right oO,hl,Nat.add_sub_cancel_left]
  show(pzV x++pzC (D.drop (k+1)))[j]?=_
  rw[List.getElem?_append_left (by simpa[pzV]using hj)]
 exact⟨key 0 oO,key 1 oO,key 2 oO,key 3 oO⟩
def Jq (z x:Pc):Prop:=z.pc=x.pc∧(x.pc=false∨z.pf+z.pn=x.pf)
def jpc:Pc→Pc→Pc
 | .copy f n,.copy _ n'=> .copy f (n+n')
 | .text a,.text b=> .text (a++b)
 |z,_=>z
theorem qAq {o:List Pc}{z x:Pc}(h:Jq z x):addP (o++[z]) x=o++[jpc z x]∧pzV (jpc z x)=[.bool z.pc,.int .i64 (z.pf:Nat),.int .i64 ((z.pn+x.pn:Nat):Int),.string ⟨⟨z.pt++x.pt⟩⟩]:=by
 obtain⟨h1,h2⟩:=h
 cases z with
 |copy f n=>
  cases x with
  |copy f' n'=>
   have e:f+n=f':=by rcases h2 with h2|h2
                     ·cases h2
                     exact h2
   subst e
   exact⟨qSe o f n n',O⟩
  |text b=>cases h1
 |text a=>
  cases x with
  |copy f' n'=>cases h1
  |text b=>exact⟨qSi o a b,rfl⟩
theorem qAr {o:List Pc}{z x:Pc}(h:¬Jq z x):addP (o++[z]) x=o++[z]++[x]:=by
 cases z with
 |copy f n=>
  cases x with
  |copy f' n'=>exact qSf o (fun e=>h ⟨rfl,.inr e⟩)
  |text b=>exact qSg o f n b
 |text a=>
  cases x with
  |copy f' n'=>exact qSh o f' n' a
  |text b=>exact absurd ⟨rfl,.inl rfl⟩ h
def psz (x:Pc):Nat:=x.pn+x.pt.length
def psum (l:List Pc):Nat:=(l.map psz).sum
theorem qVq (l:List Pc)(x:Pc):psum (l++[x])=psum l+psz x:=by simp[psum]
theorem qJr {F:Nat}{D:List Pc}(hF:∀x∈D,x.pf≤F):(nrm D).length≤D.length∧∀z∈nrm D,psz z≤psum D∧z.pf≤F:=by
 refine qU (P:=fun D=>(∀x∈D,x.pf≤F)→(nrm D).length≤D.length∧∀z∈nrm D,psz z≤psum D∧z.pf≤F) (fun _=>⟨Nat.le_refl _,fun z h=>by cases h⟩) ?_ D hF
 intro l x ih hF
 obtain⟨i1,i2⟩:=ih fun x hx=>hF x (by simp[hx])
 have hx:=hF x (by simp)
 rw[qGh,qVq]
 rcases List.eq_nil_or_concat (nrm l)with h|⟨o,z,h⟩
 ·rw[h,qFf]
  refine⟨by simp,fun y hy=>?_⟩
  obtain rfl:=List.mem_singleton.1 hy
  exact⟨oO,hx⟩
 rw[List.concat_eq_append]at h
 rw[h]at i1 i2 ⊢
 simp only[List.length_append,List.length_singleton]at i1 ⊢
 obtain⟨z1,z2⟩:=i2 z (by simp)
 by_cases hj:Jq z x
 ·rw[(qAq hj).1]
  refine⟨by simp;omega,fun y hy=>?_⟩
  rcases List.mem_append.1 hy with hy|hy
  ·obtain⟨y1,y2⟩:=i2 y (by simp[hy])
   exact⟨oO,y2⟩
  obtain rfl:=List.mem_singleton.1 hy
  obtain⟨j1,j2⟩:=hj
  cases z<;>cases x<;>simp_all [jpc,psz,Pc.pn,Pc.pf,Pc.pt,Pc.pc]<;>omega
 rw[qAr hj]
 refine⟨by simp;omega,fun y hy=>?_⟩
 rcases List.mem_append.1 hy with hy|hy
 ·obtain⟨y1,y2⟩:=i2 y hy
  exact⟨oO,y2⟩
 obtain rfl:=List.mem_singleton.1 hy
 exact⟨oO,hx⟩
theorem qVv (o:List Pc)(z:Pc)(v:Int)(k:Nat)(hk:k=o.length*4+2):bX (pzC (o++[z])) k (bP (.int .i64 v))=pzC o++[.bool z.pc,.int .i64 (z.pf:Nat),.int .i64 v,.string ⟨⟨z.pt⟩⟩]:=by
 subst hk
 show(pzC (o++[z])).set _ _=_
 rw[kV,List.set_append_right _ _ (by rw[lX];omega),lX,Nat.add_sub_cancel_left]
 rfl
theorem qVw (o:List Pc)(a b c:Value)(d:List UInt8)(d':Value)(k:Nat)(hk:k=o.length*4+3):bX (pzC o++[a,b,c,d']) k (bP (.string ⟨⟨d⟩⟩))=pzC o++[a,b,c,.string ⟨⟨d⟩⟩]:=by
 subst hk
 show(pzC o++[a,b,c,d']).set _ _=_
 rw[List.set_append_right _ _ (by rw[lX];omega),lX,Nat.add_sub_cancel_left]
 rfl
structure NzGm where
 i:Nat
 q:Option Addr
 d:Nat
theorem qVu (o:List Pc)(a b c d:Value)(k:Nat)(hk:k=o.length*4+3):(pzC o++[a,b,c,d])[k]?=some d:=by
 subst hk
 rw[List.getElem?_append_right (by rw[lX];omega),lX,Nat.add_sub_cancel_left]
 rfl
theorem qQm (hE:Seat E){D:List Pc}{F:Nat}(hF:∀x∈D,x.pf≤F) (hF2:F≤1000000000) (hS:psum D≤100000) (hn:D.length≤100000) {p:Option Addr} {c:Nat}:Ct E 12 [.slice p D.length c] [sl p c 47 4 D.length (pzC D)]
  (fun v Q=>∃q d,v= .slice q (nrm D).length d∧Q=[sl p c 47 4 D.length (pzC D),sl q d 47 4 (nrm D).length (pzC (nrm D))]):=by
 refine bO (hE.fn Tryz.func12) O O O (fun R=>?_)
 simp only[dV,uV,uW]
 refine gg17 ?_
 refine jI (gW (t:=47) (sz:=4)) ?_
 refine dX (fun k:NzGm=>[(0,.slice p D.length c),(3,.slice k.q (nrm (D.take k.i)).length k.d),(4,.int .i64 (k.i:Nat))]) (fun k=>[sl p c 47 4 D.length (pzC D),sl k.q k.d 47 4 (nrm (D.take k.i)).length (pzC (nrm (D.take k.i))),R]) (fun k=>D.length-k.i) (fun k=>k.i≤D.length) ⟨0,none,0⟩ (Nat.zero_le _) ⟨O,O,O,trivial⟩ uI ?_
 rintro⟨i,q,d⟩hi
 simp only at hi ⊢
 refine gg9 ?_
 refine bE O (fun h=>?_) (fun h=>?_)
 ·obtain⟨x,hx⟩:∃x,D[i]?=some x:=⟨_,List.getElem?_eq_getElem oO⟩
  have hxm:=List.mem_of_getElem? hx
  have hxF:=hF x hxm
  have hns:nrm (D.take (i+1))=addP (nrm (D.take i)) x:=by rw[List.take_add_one,hx,←qGh];rfl
  have hbd:=qJr (D:=D.take i) (F:=F) fun y hy=>hF y (List.mem_of_mem_take hy)
  have hps:psum (D.take i)+psz x≤psum D:=by
   have e:D=D.take i++(x::D.drop (i+1)):=by
    obtain⟨h1,e1⟩:=List.getElem?_eq_some_iff.1 hx
    rw[←e1,←List.drop_eq_getElem_cons h1,List.take_append_drop]
   conv=>rhs;rw[e]
   simp[psum]
  refine jY (p:=sl p c 47 4 D.length (pzC D)) uK (fun _ h=>eZ h oO) ?_
  rintro⟨gp,rfl⟩
  obtain⟨f0,f1,f2,f3⟩:=qVt hx (0+((i:Nat):Int).toNat*4) oO
  generalize nrm (D.take i)=out at hns hbd ⊢
  have hol:out.length≤100000:=by have:=hbd.1;rw[List.length_take]at this;omega
  refine gg10 ?_
  refine uU (cZ (hE.t O) (fun b5=>?_))
  refine gg3 ?_
  rcases List.eq_nil_or_concat out with rfl|⟨o,z,rfl⟩
  ·have hl0:([]:List Pc).length=0:=rfl
   refine gg14 ?_
   refine dW 22 O (fun c1=>?_) (fun c1=>?_)
   ·exfalso;omega
   refine gg38 ?_
   refine uU ?_
   refine aU (hE.t O) (hE.t O) O O O (fun b75=>?_)
   refine uU ?_
   apply bU (hE.t O) (hE.t O) O O O
   ·exact uK
   ·exact uK
   ·rfl
   ·rfl
   ·omega
   ·omega
   ·(unfold maxLen;omega)
   intro g76 c76 n76 x76 hn76 hx76
   refine gg9 ?_
   have hpa:pzC (([]:List Pc)++[x])=pzC ([]:List Pc)++pzC [x]:=kV _ _
   obtain rfl:x76=pzC (([]:List Pc)++[x]):=by rw[hx76,hpa];rfl
   obtain rfl:n76=(([]:List Pc)++[x]).length:=by rw[hn76,List.length_append];simp
   have hnx:nrm (D.take (i+1))=([]:List Pc)++[x]:=by rw[hns];exact qFf x
   refine bS (ι:=NzGm) (j:=⟨i+1,some ⟨g76,0,none⟩,c76⟩) (by simp only;omega) (by simp only;omega) ⟨O,by rw[hnx];rfl,congrArg some (bW (by simp only;omega)),trivial⟩ ?_
   simp only
   rw[hnx]
   exact uI
  rw[List.concat_eq_append]at hns hbd hol ⊢
  have hl1:(o++[z]).length=o.length+1:=by simp
  obtain⟨z1,z2⟩:=hbd.2 z (by simp)
  have hzg:(o++[z])[o.length]?=some z:=by simp
  unfold psz at z1 hps
  refine jY (p:=sl q d 47 4 (o++[z]).length (pzC (o++[z]))) uK (fun _ h=>eZ h oO) ?_
  rintro⟨gq,rfl⟩
  obtain⟨k0,k1,k2,k3⟩:=qVt hzg (0+((((o++[z]).length:Nat):Int)-1).toNat*4) oO
  refine gg14 ?_
  refine dW 22 O (fun c1=>?_) (fun c1=>?_)
  ·refine gg18 ?_
   refine dW 32 O (fun c2=>?_) (fun c2=>?_)
   ·refine gg8 ?_
    refine qN 36 O (fun c3=>?_) (fun c3=>?_)
    ·have hj:=qAq (o:=o) (z:=z) (x:=x) ⟨c2,.inl (by simpa using c3)⟩
     refine gg21 ?_
     refine uN 10 ([cells b5 (pzV x) 47,sl (some ⟨gq,0,none⟩) d 47 4 (o++[z]).length (pzC (o++[z]))]) ?_
     refine gg5 ?_
     apply dF 5 O oK
     ·exact uBf O
     ·rfl
     apply dF 6 O oK
     ·(apply aO rfl (hE.t rfl) rfl;(repeat(first |rfl|assumption|constructor));done)
     ·rfl
     apply dF 7 O oK
     ·exact uAa O O
     ·rfl
     apply dF 8 O oK
     ·exact uAi O O
     ·rfl
     apply dF 9 O oK
     ·exact uBf O
     ·rfl
     apply fU O oK oK O
     refine uJ ?_
     refine gg1 ?_
     rw[←Int.natCast_add,qVv o z _ _ oO]
     have k4:=qVu o (.bool z.pc) (.int .i64 (z.pf:Nat)) (.int .i64 ((z.pn+x.pn:Nat):Int)) (.string ⟨⟨z.pt⟩⟩) (0+((((o++[z]).length:Nat):Int)-1).toNat*4+3) oO
     refine gg1 ?_
     refine uN 10 ([cells b5 (pzV x) 47,sl (some ⟨gq,0,none⟩) d 47 4 (o++[z]).length (pzC o++[.bool z.pc,.int .i64 (z.pf:Nat),.int .i64 ((z.pn+x.pn:Nat):Int),.string ⟨⟨z.pt⟩⟩])]) ?_
     refine gg5 ?_
     apply dF 5 O oK
     ·exact uBf O
     ·rfl
     apply dF 6 O oK
     ·(apply aO rfl (hE.t rfl) rfl;(repeat(first |rfl|assumption|constructor));done)
     ·rfl
     apply dF 7 O oK
     ·exact xJ O O oO
     ·rfl
     apply dF 8 O oK
     ·exact uAi O O
     ·rfl
     apply dF 9 O oK
     ·exact uBf O
     ·rfl
     apply fU O oK oK O
     refine uJ ?_
     refine gg10 ?_
     rw[qVw o _ _ _ _ _ _ oO,←hj.2]
     have hnx:nrm (D.take (i+1))=o++[jpc z x]:=by rw[hns];exact hj.1
     have hpa:pzC (o++[jpc z x])=pzC o++pzV (jpc z x):=by rw[kV];simp[pzC]
     have hlj:(o++[jpc z x]).length=(o++[z]).length:=by simp
     refine bS (ι:=NzGm) (j:=⟨i+1,some ⟨gq,0,none⟩,d⟩) (by simp only;omega) (by simp only;omega) ⟨O,by rw[hnx,hlj];rfl,congrArg some (bW (by simp only;omega)),trivial⟩ ?_
     simp only
     rw[hnx,hlj,hpa]
     exact uI
    refine gg33 ?_
    refine bE O (fun c4=>?_) (fun c4=>?_)
    ·have hj:=qAq (o:=o) (z:=z) (x:=x) ⟨c2,.inr oO⟩
     refine gg1 ?_
     refine uN 10 ([cells b5 (pzV x) 47,sl (some ⟨gq,0,none⟩) d 47 4 (o++[z]).length (pzC (o++[z]))]) ?_
     refine gg5 ?_
     apply dF 5 O oK
     ·exact uBf O
     ·rfl
     apply dF 6 O oK
     ·(apply aO rfl (hE.t rfl) rfl;(repeat(first |rfl|assumption|constructor));done)
     ·rfl
     apply dF 7 O oK
     ·exact uAa O O
     ·rfl
     apply dF 8 O oK
     ·exact uAi O O
     ·rfl
     apply dF 9 O oK
     ·exact uBf O
     ·rfl
     apply fU O oK oK O
     refine uJ ?_
     refine gg1 ?_
     rw[←Int.natCast_add,qVv o z _ _ oO]
     have k4:=qVu o (.bool z.pc) (.int .i64 (z.pf:Nat)) (.int .i64 ((z.pn+x.pn:Nat):Int)) (.string ⟨⟨z.pt⟩⟩) (0+((((o++[z]).length:Nat):Int)-1).toNat*4+3) oO
     refine gg1 ?_
     refine uN 10 ([cells b5 (pzV x) 47,sl (some ⟨gq,0,none⟩) d 47 4 (o++[z]).length (pzC o++[.bool z.pc,.int .i64 (z.pf:Nat),.int .i64 ((z.pn+x.pn:Nat):Int),.string ⟨⟨z.pt⟩⟩])]) ?_
     refine gg5 ?_
     apply dF 5 O oK
     ·exact uBf O
     ·rfl
     apply dF 6 O oK
     ·(apply aO rfl (hE.t rfl) rfl;(repeat(first |rfl|assumption|constructor));done)
     ·rfl
     apply dF 7 O oK
     ·exact xJ O O oO
     ·rfl
     apply dF 8 O oK
     ·exact uAi O O
     ·rfl
     apply dF 9 O oK
     ·exact uBf O
     ·rfl
     apply fU O oK oK O
     refine uJ ?_
     refine gg10 ?_
     rw[qVw o _ _ _ _ _ _ oO,←hj.2]
     have hnx:nrm (D.take (i+1))=o++[jpc z x]:=by rw[hns];exact hj.1
     have hpa:pzC (o++[jpc z x])=pzC o++pzV (jpc z x):=by rw[kV];simp[pzC]
     have hlj:(o++[jpc z x]).length=(o++[z]).length:=by simp
     refine bS (ι:=NzGm) (j:=⟨i+1,some ⟨gq,0,none⟩,d⟩) (by simp only;omega) (by simp only;omega) ⟨O,by rw[hnx,hlj];rfl,congrArg some (bW (by simp only;omega)),trivial⟩ ?_
     simp only
     rw[hnx,hlj,hpa]
     exact uI
    have hj:¬Jq z x:=fun hj=>by
     rcases hj.2 with hj|hj
     ·rw[hj]at c3
      cases c3
     omega
    refine gg5 ?_
    refine uU ?_
    refine aU (hE.t O) (hE.t O) O O O (fun b75=>?_)
    refine uU ?_
    apply bU (hE.t O) (hE.t O) O O O
    ·exact uK
    ·exact uK
    ·rfl
    ·rfl
    ·omega
    ·omega
    ·(unfold maxLen;omega)
    intro g76 c76 n76 x76 hn76 hx76
    refine gg9 ?_
    have hpa:pzC ((o++[z])++[x])=pzC (o++[z])++pzC [x]:=kV _ _
    obtain rfl:x76=pzC ((o++[z])++[x]):=by rw[hx76,hpa];rfl
    obtain rfl:n76=((o++[z])++[x]).length:=by rw[hn76,List.length_append];simp
    have hnx:nrm (D.take (i+1))=(o++[z])++[x]:=by rw[hns];exact qAr hj
    refine bS (ι:=NzGm) (j:=⟨i+1,some ⟨g76,0,none⟩,c76⟩) (by simp only;omega) (by simp only;omega) ⟨O,by rw[hnx];rfl,congrArg some (bW (by simp only;omega)),trivial⟩ ?_
    simp only
    rw[hnx]
    exact uI
   have hj:¬Jq z x:=fun hj=>c2 hj.1
   refine gg28 ?_
   refine uU ?_
   refine aU (hE.t O) (hE.t O) O O O (fun b75=>?_)
   refine uU ?_
   apply bU (hE.t O) (hE.t O) O O O
   ·exact uK
   ·exact uK
   ·rfl
   ·rfl
   ·omega
   ·omega
   ·(unfold maxLen;omega)
   intro g76 c76 n76 x76 hn76 hx76
   refine gg9 ?_
   have hpa:pzC ((o++[z])++[x])=pzC (o++[z])++pzC [x]:=kV _ _
   obtain rfl:x76=pzC ((o++[z])++[x]):=by rw[hx76,hpa];rfl
   obtain rfl:n76=((o++[z])++[x]).length:=by rw[hn76,List.length_append];simp
   have hnx:nrm (D.take (i+1))=(o++[z])++[x]:=by rw[hns];exact qAr hj
   refine bS (ι:=NzGm) (j:=⟨i+1,some ⟨g76,0,none⟩,c76⟩) (by simp only;omega) (by simp only;omega) ⟨O,by rw[hnx];rfl,congrArg some (bW (by simp only;omega)),trivial⟩ ?_
   simp only
   rw[hnx]
   exact uI
  exfalso;omega
 obtain rfl:i=D.length:=by omega
 rw[List.take_length]
 refine gg12 ?_
 exact uZ O (.tmp O .nil) ⟨q,d,O,O⟩
end
end Go.Proofs.YtblljbllmnbiaaaGreatDoor
namespace Sl
open Go Go.RowKit
variable {E:Env}{n:Nat}{L:Fr}{S:List HP}{ty:TypeId}{pos:String}{af:Array Edge}{d:Option Nat}{gd:Option (Nat×Bool)}
theorem qSd {x y:Operand}{t yt:TypeId}{a b:Bool}{sz:Nat}{zs:List Value}(hx:ev L x=some (.bool a))(hy:ev L y=some (.bool b))(ht:E.tab t=some ⟨.bool,sz,zs⟩):
  Yl E n L S ⟨d,.binOp .neq t x y yt,ty,pos,af,gd⟩ (.bool (decide (¬a=b))):=fun o w g _=>by
 have hu:=qPg ht
 have h1:(eqGuard .neq t x y (.bool a) (.bool b)).run E.P w= .ok () w:=by unfold eqGuard;simp
 have h2:binOp .neq t (.bool a) (.bool b)=(do pure (.bool (!(←Op.equal t (.bool a) (.bool b))))):=rfl
 have h3:=run_equal_bool (P:=E.P) w t a b hu
 simp[execOp,h1,h2,h3,g.ev hx,g.ev hy]
 cases a<;>cases b<;>rfl
end Sl
namespace Go.Proofs.YtblljbllmnbiaaaGreatDoor
open Go Go.RowKit Sl Eg
set_option maxRecDepth 10000
variable {E:Env}{Es:List Ent}{pp tb s most:Nat}
theorem px_out (L:List Rl)(x:Px):(x.out L).pc=x.cp∧(x.out L).pf=x.fr∧(x.out L).pn=x.nn∧(x.out L).pt=txt L x.tx:=by
 cases x<;>exact⟨rfl,rfl,rfl,rfl⟩
theorem psum_out (L:List Rl)(D:List Px):psum (D.map (Px.out L))=asz L D:=by
 unfold psum asz
 rw[List.map_map]
 congr 1
 refine List.map_congr_left fun x _=>?_
 cases x with
 |copy f n=>show n+0=n;rfl
 |text x=>show 0+(txt L x).length=len L x;rw[Nat.zero_add];rfl
theorem ok_pf {L:List Rl}{N:Nat}{D:List Px}(h:∀x∈D,x.ok L N):∀z∈D.map (Px.out L),z.pf≤N:=fun z hz=>by
 obtain⟨x,hx,rfl⟩:=List.mem_map.1 hz
 have:=h x hx
 cases x with
 |copy f n=>exact Nat.le_trans (Nat.le_add_right f n) this.2
 |text x=>exact Nat.zero_le _
theorem ok_tx {L:List Rl}{N:Nat}{x:Px}(h:x.ok L N):x.tx≤L.length:=by
 cases x with
 |copy f n=>exact Nat.zero_le _
 |text x=>exact h.2.gd.1
theorem vR (hE:Seat E)(hB:Base E.w0){a b:Tx}(ha:OkT E.w0 a)(hb:OkT E.w0 b):Ct E 3 [.slice a.a a.bs.length a.c,.slice b.a b.bs.length b.c] [] (fun v Q=>v= .bool true∧Q=[]):=by
 have hal:=ha.2.1
 have hbl:=hb.2.1
 refine bO (hE.fn Tryz.func3) O O O (fun R=>?_)
 simp only[dV,uV,uW]
 refine gg12 ?_
 refine dW 20 O (fun h1=>?_) (fun h1=>?_)
 ·refine gg14 ?_
  exact uZ O (.tmp O .nil) ⟨O,O⟩
 refine gg9 ?_
 refine bE O (fun h2=>?_) (fun h2=>?_)
 ·refine gg7 ?_
  exact uZ O (.tmp O .nil) ⟨O,O⟩
 refine gg6 ?_
 refine uX (ct_two42 hE hB ha hb oO oO) O ?_
 rintro _ _⟨pp,s,tb,M,x,y,rfl,hM,hx,hy,rfl⟩
 have hLl:=bQ M
 have hxl:=hx.gd.1
 have hyl:=hy.gd.1
 simp only[uV,uW]
 refine vD (p:=bR s 1048576 M) uK (fun _ h=>dU h) (fun hsay=>?_)
 have hw:=hsay.1
 obtain⟨p1,p2,p3⟩:=sn_pcs hw hx hy
 have elx:=hx.len
 have ely:=hy.len
 refine gg24 ?_
 refine uX (gU hE) O ?_
 rintro _ _⟨rfl,rfl⟩
 simp only[uV,uW]
 refine uX (ct_table (Es:=M) (most:=1048576) hE oO) O ?_
 rintro _ _⟨p,c,q2,c2,rfl,rfl⟩
 simp only[uV,uW]
 refine gg14 ?_
 refine uX (qTb (Es:=M) (most:=1048576) hE hB hx hy oO oO oO oO) O ?_
 rintro _ _⟨N,out,q,d,rfl,hJ,rfl⟩
 simp only[uV,uW]
 refine gg30 ?_
 obtain⟨D,hD⟩:∃D,D=pcs (rls M) (gL (rls M) x) y:=⟨_,rfl⟩
 rw[←hD]at hJ p1 p2 p3
 obtain⟨W,hW⟩:∃W,W=D.map (Px.out (rls M)):=⟨_,rfl⟩
 have hWl:D.length=W.length:=by rw[hW,List.length_map]
 have hWF:=ok_pf p1
 have hWS:=psum_out (rls M) D
 rw[←hW]at hWF hWS
 have hJe:=hJ.eq
 rw[List.take_length,dA,(Px.ok.exts (rls N) p1).2,←dA,←hW]at hJe
 rw[←hLl]
 refine vD (p:=sl p c 74 5 ((rls M).length+1) (ruC (rls M))) uK (fun _ h=>eZ h oO) ?_
 rintro⟨gr,rfl⟩
 refine vD (p:=sl q2 c2 3 1 ((rls M).length+1) (lzC (rls M) (rls M).length)) uK (fun _ h=>eZ h oO) ?_
 rintro⟨gl,rfl⟩
 refine uX (qQl (L:=rls M) hE hw hxl oO) O ?_
 rintro _ _⟨fx,rfl,rfl⟩
 simp only[uV,uW]
 refine gg1 ?_
 refine uX (qQn (L:=rls M) (f:=gL (rls M) x) hE hw oO y hyl oO) O ?_
 rintro _ _⟨q3,c3,rfl,rfl⟩
 rw[←hD,hWl,←hW]
 simp only[uV,uW]
 refine uX (qQm (D:=W) (F:=len (rls M) x) hE hWF oO oO oO) O ?_
 rintro _ _⟨q4,c4,rfl,rfl⟩
 simp only[uV,uW]
 have hnb:=qJr hWF
 rw[←hJe]at hnb ⊢
 have hlo:(out.map (Px.out (rls (M++N)))).length=out.length:=List.length_map ..
 rw[hlo]at hnb ⊢
 refine gg13 ?_
 refine bE O (fun h3=>?_) (fun h3=>?_)
 ·exfalso;exact h3 rfl
 have hok:=hJ.ok
 have hrl2:=bQ (M++N)
 have hNl:(M++N).length<65536:=by
  have h1:=hJ.room
  have h2:=qXa (rls M) D
  rw[List.take_length]at h1
  have h3:=Nat.mul_le_mul (show D.length≤120 by omega) (show tsz (rls M) D≤120 by omega)
  rw[List.length_append]
  omega
 refine gg9 ?_
 refine dX (fun i:Nat=>[(5,uPt pp),(11,.slice q out.length d),(13,.slice q4 out.length c4),(14,.int .i64 (i:Nat))]) (fun i=>[cells pp [uPt s,uPt tb] 86,tabP tb s (rls (M++N)),bR s 1048576 (M++N),sl (q) d 45 4 out.length (pxC out),sl (q4) c4 47 4 out.length (pzC (out.map (Px.out (rls (M++N))))),R]) (fun i=>out.length-i) (fun i=>i≤out.length) 0 (Nat.zero_le _) ⟨O,O,O,O,trivial⟩ uI ?_
 rintro i hi
 refine gg9 ?_
 refine bE O (fun h4=>?_) (fun h4=>?_)
 ·obtain⟨u,hu⟩:∃u,out[i]?=some u:=⟨_,List.getElem?_eq_getElem oO⟩
  have hum:=List.mem_of_getElem? hu
  have huw:(out.map (Px.out (rls (M++N))))[i]?=some (u.out (rls (M++N))):=by rw[List.getElem?_map,hu];rfl
  obtain⟨o1,o2,o3,o4⟩:=px_out (rls (M++N)) u
  have hps:=(hnb.2 _ (List.mem_of_getElem? huw)).1
  unfold psz at hps
  rw[o4]at hps
  have hut:=ok_tx (hok u hum)
  refine jY (p:=sl (q) d 45 4 out.length (pxC out)) uK (fun _ h=>eZ h oO) ?_
  rintro⟨gq,rfl⟩
  refine jY (p:=sl (q4) c4 47 4 out.length (pzC (out.map (Px.out (rls (M++N)))))) uK (fun _ h=>eZ h oO) ?_
  rintro⟨gw,rfl⟩
  obtain⟨f0,f1,f2,f3⟩:=qEr hu (0+((i:Nat):Int).toNat*4) oO
  obtain⟨k0,k1,k2,k3⟩:=qVt huw (0+((i:Nat):Int).toNat*4) oO
  rw[o1]at k0
  rw[o2]at k1
  rw[o3]at k2
  rw[o4]at k3
  have hlu:len (rls (M++N)) u.tx=(txt (rls (M++N)) u.tx).length:=rfl
  refine gg5 ?_
  refine uH ([cells pp [uPt s,uPt tb] 86,sl (some ⟨gq,0,none⟩) d 45 4 out.length (pxC out)]) ?_
  refine gg1 ?_
  refine uD 2 O (aB O) ?_
  refine gg4 ?_
  apply dG 1 O oK O
  refine uC (gU hE) O ?_
  rintro _ _⟨rfl,rfl⟩
  simp only[uV,uW]
  refine uE ?_
  apply dG 7 O oK O
  refine uC (qPz (Es:=M++N) (most:=1048576) (id:=u.tx) hE oO hNl oO) O ?_
  rintro _ _⟨tp,tc,rfl,rfl⟩
  simp only[uV,uW]
  refine uE ?_
  refine gg7 ?_
  refine jY (p:=sl tp tc 5 1 (len (rls (M++N)) u.tx) (byC (txt (rls (M++N)) u.tx))) uK (fun _ h=>fun hpos=>eZ h hpos) ?_
  intro hpt
  have hqs:Rdb E.w0 tp (byC (txt (rls (M++N)) u.tx)) (sl tp tc 5 1 (len (rls (M++N)) u.tx) (byC (txt (rls (M++N)) u.tx))):=qVx (mP _) hpt
  refine gg1 ?_
  refine uH ([sl (some ⟨gq,0,none⟩) d 45 4 out.length (pxC out),sl (some ⟨gw,0,none⟩) c4 47 4 out.length (pzC (out.map (Px.out (rls (M++N))))),sl tp tc 5 1 (len (rls (M++N)) u.tx) (byC (txt (rls (M++N)) u.tx))]) ?_
  refine gg13 ?_
  refine uO 13 O O O (qSd O O (hE.t O)) ?_
  refine gg2 ?_
  refine qE 101 O (fun c1=>?_) (fun c1=>?_)
  ·exfalso;exact c1 rfl
  refine uO 16 O O O (aB O) ?_
  refine gg12 ?_
  refine qE 114 O (fun c2=>?_) (fun c2=>?_)
  ·exfalso;exact c2 rfl
  refine uO 29 O O O (aB O) ?_
  refine gg12 ?_
  refine qE 127 O (fun c3=>?_) (fun c3=>?_)
  ·exfalso;exact c3 rfl
  refine uO 42 O O O (aB O) ?_
  refine uO 43 O O O (qXq (q:=sl tp tc 5 1 (len (rls (M++N)) u.tx) (byC (txt (rls (M++N)) u.tx))) (src:=22) (dst:=9) (e:=5) O (hE.t O) (hE.t O) (hE.t O) (by assumption) (by((repeat constructor);done))) ?_
  refine gg9 ?_
  refine bE O (fun c5=>?_) (fun c5=>?_)
  ·exfalso;exact c5 rfl
  refine gg8 ?_
  refine bS (ι:=Nat) (j:=i+1) oO oO ⟨O,O,O,congrArg some (bW oO),trivial⟩ uI
 refine gg11 ?_
 exact uZ O (.tmp O .nil) ⟨O,O⟩
end Go.Proofs.YtblljbllmnbiaaaGreatDoor
