import Derived.Test.YtblljbllmnbiaaaGreatDoorQ85
import Derived.Test.YtblljbllmnbiaaaGreatDoorQ92
set_option linter.all false
set_option maxHeartbeats 1000000
namespace Go.Proofs.YtblljbllmnbiaaaGreatDoor
open Go Go.RowKit Sl Eg
set_option maxRecDepth 10000
section
theorem qCw {L:List Rl}{f:Nat→Option Nat}{a x:Nat}{r:Rl}(h:f x≠none∨x∈kids r):xC L f a r x≠none:=fun e=>by
 have:=qCv.1 e
 rcases h with h| h
 ·exact h this.2
 exact this.1 h
theorem rV {L:List Rl}{f:Nat→Option Nat}{i x:Nat}(h:f x≠none):nJ L i f x≠none:=by
 rcases pM L i f with⟨a,r,_,_,e⟩| e
 ·rw[e];exact qCw (.inl h)
 rw[e];exact h
theorem qHt {L:List Rl}{f:Nat→Option Nat}{i k:Nat}{r:Rl}(h:f (i+1)≠none)(hr:L[i]?=some r)(hk:k∈kids r):nJ L i f k≠none:=by
 obtain⟨a,ha⟩:∃a,f (i+1)=some a:=by
  cases e:f (i+1)with
  |none=>exact absurd e h
  |some a=>exact⟨a,rfl⟩
 rw[vQ ha hr]
 exact qCw (.inr hk)
theorem qCx {L:List Rl}{f:Nat→Option Nat}{x:Nat}(h:f x≠none):∀B:List Nat,sH L B f x≠none
 |[]=>h
 |v::B=>rV (qCx h B)
theorem qHq {L:List Rl}(hw:Wf L){base:Nat}{V:List Nat}(hs:V.Pairwise (· < ·))(hV:∀x,x∈V↔Rea L base x):∀(B A:List Nat),V=A++B→
  (∀v C,B=v::C→sH L C (jK base) v≠none)∧∀u r k,u+1∈B→L[u]?=some r→k∈kids r→sH L B (jK base) k≠none
 |[],A,_=>⟨fun v C h=>(by cases h),fun u r k h=>(by simp at h)⟩
 |v::C,A,e=>by
  obtain⟨_,h2⟩:=qHq hw hs hV C (A++[v]) (by rw[e];simp)
  have hv:Rea L base v:=(hV v).1 (by rw[e];simp)
  have key:sH L C (jK base) v≠none:=by
   rcases hv.up with rfl|⟨p,r,g1,g2,g3⟩
   ·refine qCx ?_ C
    have:=hv.pos
    unfold jK
    rw[if_pos ⟨rfl,oO⟩]
    simp
   have hp:p+1∈V:=(hV _).2 g1
   have hlt:=(sU (hw.ok _ _ g2) v g3).2
   rw[e]at hp hs
   obtain⟨_,hs2,hs3⟩:=List.pairwise_append.1 hs
   rcases List.mem_append.1 hp with h| h
   ·have:=hs3 _ h v (by simp);omega
   rcases List.mem_cons.1 h with h| h
   ·omega
   exact h2 p r v h g2 g3
  refine⟨fun w D h=>?_,fun u r k hu hr hk=>?_⟩
  ·cases h;exact key
  have hpos:=hv.pos
  rcases List.mem_cons.1 hu with h| h
  ·subst h
   show nJ L (u+1-1) (sH L C (jK base)) k≠none
   rw[Nat.add_sub_cancel]
   exact qHt key hr hk
  exact rV (h2 u r k h hr hk)
theorem fbase_le {base x a:Nat}(h:jK base x=some a):a=0∧x=base:=by
 unfold jK at h
 split at h
 ·rename_i g;cases h;exact⟨rfl,g.1⟩
 cases h
def FIn (L:List Rl)(n:Nat)(f:Nat→Option Nat):Prop:=∀x a,f x=some a→a+len L x≤n
theorem FIn.put {L:List Rl}{n:Nat}{f:Nat→Option Nat}(h:FIn L n f){k a:Nat}(ha:a+len L k≤n):FIn L n (fput f k a):=fun x b hb=>by
 unfold fput at hb
 split at hb
 ·rename_i e
  subst e
  split at hb
  ·rename_i o ho
   have:=h x o ho
   cases hb
   omega
  cases hb;exact ha
 exact h x b hb
theorem FIn.step {L:List Rl}(hw:Wf L){n i:Nat}{f:Nat→Option Nat}(h:FIn L n f):FIn L n (nJ L i f):=by
 rcases pM L i f with⟨a,r,h1,h2,e⟩| e
 ·rw[e]
  have hk:=hw.ok _ _ h2
  have hl:=h _ _ h1
  cases r with
  |letter b=>exact h
  |pair l r=>
   rw[yZ h2 hk]at hl
   exact(h.put oO).put oO
  |power x k=>
   rw[nN h2 hk]at hl
   obtain⟨_,_,h3⟩:=hk
   refine h.put ?_
   have:len L x*1≤len L x*k:=Nat.mul_le_mul_left _ oO
   rw[Nat.mul_comm k]at hl
   omega
 rw[e];exact h
theorem FIn.base {L:List Rl}(base:Nat):FIn L (len L base) (jK base):=fun x a h=>by
 obtain⟨rfl,rfl⟩:=fbase_le h
 omega
theorem FIn.down {L:List Rl}(hw:Wf L){n:Nat}:∀{i:Nat}{f:Nat→Option Nat},FIn L n f→FIn L n (vL L i f)
 |0,f,h=>h
 |i+1,f,h=>FIn.down (i:=i) (f:=nJ L i f) hw (h.step hw)
theorem qAd {L:List Rl}(hw:Wf L)(base:Nat):FIn L (len L base) (fG L base):=FIn.down hw (FIn.base base)
theorem rR {L:List Rl}(hw:Wf L){base:Nat}(hb:base≤L.length):Dom L base (fG L base):=Dom.down hw (Dom.base hb)
theorem qMf {L:List Rl}{base:Nat}{f:Nat→Option Nat}(h:Dom L base f):f 0=none:=by
 cases e:f 0 with
 |none=>rfl
 |some a=>have:=(h 0 (by rw[e];simp)).pos;omega
def Px.ok (L:List Rl)(N:Nat):Px→Prop
 | .copy f n=>1≤n∧f+n≤N
 | .text x=>x≠0∧Sn L (txt L x) x
def Px.size (L:List Rl):Px→Nat
 | .copy f n=>n
 | .text x=>len L x
def Px.tsize (L:List Rl):Px→Nat
 | .copy f n=>0
 | .text x=>len L x
theorem Px.ok.ext {L:List Rl}(M:List Rl){N:Nat}{x:Px}(h:x.ok L N):x.ok (L++M) N∧x.out (L++M)=x.out L∧x.size (L++M)=x.size L∧x.tsize (L++M)=x.tsize L:=by
 cases x with
 |copy f n=>exact⟨h,rfl,rfl,rfl⟩
 |text x=>
  have hb:=h.2.gd.1
  exact⟨⟨h.1,by rw[lI M hb];exact h.2.ext M⟩,by simp only[Px.out];rw[lI M hb],by simp only[Px.size];rw[lF M hb],by simp only[Px.tsize];rw[lF M hb]⟩
theorem Px.ok.exts {L:List Rl}(M:List Rl){N:Nat}{D:List Px}(h:∀x∈D,x.ok L N):(∀x∈D,x.ok (L++M) N)∧D.map (Px.out (L++M))=D.map (Px.out L):=
 ⟨fun x hx=>((h x hx).ext M).1,List.map_congr_left fun x hx=>((h x hx).ext M).2.1⟩
def pjn:Px→Px→Prop
 | .copy f n,.copy f' _=>f+n=f'
 | .text _,.text _=>True
 |_,_=>False
theorem addP_pjn {L:List Rl}{out:List Px}{x:Px}(h:∀y,out.getLast?=some y→¬pjn y x):addP (out.map (Px.out L)) (x.out L)=(out++[x]).map (Px.out L):=by
 rcases List.eq_nil_or_concat out with rfl|⟨o,y,rfl⟩
 ·rw[List.map_nil,addP_nil];rfl
 rw[List.concat_eq_append]at h ⊢
 have hy:=h y (by simp)
 rw[List.map_append,List.map_append,List.map_append]
 simp only[List.map_cons,List.map_nil]
 cases y with
 |copy f n=>cases x with
  |copy f' n'=>exact addP_cn _ hy
  |text x=>exact addP_ct _ _ _ _
 |text a=>cases x with
  |copy f' n'=>exact addP_tc _ _ _ _
  |text x=>exact absurd trivial hy
def tsz (L:List Rl)(D:List Px):Nat:=(D.map (Px.tsize L)).sum
def asz (L:List Rl)(D:List Px):Nat:=(D.map (Px.size L)).sum
theorem qDp (L:List Rl)(a b:List Px):tsz L (a++b)=tsz L a+tsz L b:=by simp[tsz]
theorem wN (L:List Rl)(a b:List Px):asz L (a++b)=asz L a+asz L b:=by simp[asz]
theorem tsz_le (L:List Rl)(D:List Px):tsz L D≤asz L D:=by
 induction D with
 |nil=>exact Nat.le_refl _
 |cons x D ih=>
  simp only[tsz,asz,List.map_cons,List.sum_cons]at ih ⊢
  have:x.tsize L≤x.size L:=by cases x<;>simp[Px.tsize,Px.size]
  omega
theorem pcs_spec {L:List Rl}(hw:Wf L){f:Nat→Option Nat}{N:Nat}(hf:FIn L N f)(hbest:∀n y t a,L[n]?=some (.power y t)→best L f y t=some a→a+len L (n+1)≤N) {P:Nat→Prop} (hP:∀n r k,P (n+1)→L[n]?=some r→k∈kids r→P k) (hS:∀x,P x→1≤x→Sn L (txt L x) x):∀x,x≤L.length→P x→(∀p∈pcs L f x,p.ok L N)∧asz L (pcs L f x)=len L x∧(pcs L f x).length≤len L x:=by
 intro x
 induction x using Nat.strongRecOn with
 |ind x ih=>
  intro hx hPx
  cases x with
  |zero=>rw[qEz];exact⟨fun p h=>by simp at h,rfl,Nat.le_refl _⟩
  |succ n=>
   have hpos:=qQ hw (n+1) oO hx
   cases e:f (n+1)with
   |some a=>
    rw[qIm e]
    have:=hf _ _ e
    exact⟨fun p h=>by simp at h;subst h;exact⟨hpos,this⟩,by simp[asz,Px.size],by simpa using hpos⟩
   |none=>
    have one:∀p:Px,p.ok L N→p.size L=len L (n+1)→(∀q∈[p],q.ok L N)∧asz L [p]=len L (n+1)∧[p].length≤len L (n+1):=fun p h1 h2=>⟨fun q hq=>by simp at hq;subst hq;exact h1,by simp[asz,h2],by simpa using hpos⟩
    have tx:Px.ok L N (.text (n+1)):=⟨oO,hS _ hPx oO⟩
    obtain⟨r,hr⟩:∃r,L[n]?=some r:=⟨_,List.getElem?_eq_getElem oO⟩
    cases r with
    |letter b=>rw[qDh e hr];exact one _ tx rfl
    |power y t=>
     rw[wC e hr]
     cases eb:best L f y t with
     |some a=>exact one _ ⟨hpos,hbest n y t a hr eb⟩ rfl
     |none=>exact one _ tx rfl
    |pair l r=>
     have hk:=hw.ok _ _ hr
     have hlp:=yZ hr hk
     obtain⟨h1,h2,h3,h4⟩:=hk
     rw[qMt hw e hr]
     obtain⟨a1,a2,a3⟩:=ih l h2 oO (hP _ _ _ hPx hr (by simp[kids]))
     obtain⟨b1,b2,b3⟩:=ih r h4 oO (hP _ _ _ hPx hr (by simp[kids]))
     refine⟨fun p hp=>?_,by rw[wN];omega,by rw[List.length_append];omega⟩
     rcases List.mem_append.1 hp with h| h
     ·exact a1 p h
     exact b1 p h
theorem best_in {L:List Rl}(hw:Wf L){f:Nat→Option Nat}{N:Nat}(hf:FIn L N f):∀n y t a,L[n]?=some (.power y t)→best L f y t=some a→a+len L (n+1)≤N:=fun n y t a hr hb=>by
 obtain⟨⟨i,_,hi⟩,_⟩:=rO hb
 obtain⟨t',h1,h2⟩:=vH.1 hi
 unfold entP at h1
 rw[Nat.add_sub_cancel]at h1
 split at h1
 ·rename_i y' t2 a' g1 g2
  split at h1
  ·rename_i e
   subst e
   simp only[Option.some.injEq,Prod.mk.injEq]at h1
   obtain⟨rfl,rfl⟩:=h1
   have k1:=hf _ _ g2
   rw[nN g1 (hw.ok _ _ g1)]at k1
   rw[nN hr (hw.ok _ _ hr)]
   have:=Nat.mul_le_mul_right (len L y') h2
   omega
  cases h1
 cases h1
end
section
variable {E:Env}{Es:List Ent}{pp tb s most:Nat}
theorem qCg (hE:Seat E){x y g:Nat}(hx:x≤Es.length)(hy:y≤Es.length)(hs:Es.length≤1048576):Ct E 32 [uPt pp,.slice (some ⟨g,0,none⟩) 2 2] [cells pp [uPt s,uPt tb] 86,tabP tb s (rls Es),bR s most Es,cells g [.int .i64 (x:Nat),.int .i64 (y:Nat)] 24] (fun v Q=>v= .tuple #[uPt s,.nilIface]∧Q=[cells pp [uPt s,uPt tb] 86,tabP tb s (rls Es),bR s most Es]):=by
 refine bO (hE.fn Tryz.func32) O O O (fun R=>?_)
 simp only[dR,uV,uW]
 refine gg15 ?_
 refine uX (gQ hE) O ?_
 rintro _ _⟨rfl,rfl⟩
 simp only[uV,uW]
 refine gg17 ?_
 have f0:[Value.int .i64 (x:Nat),.int .i64 (y:Nat)][0]?=some (.int .i64 (x:Nat)):=rfl
 have f1:[Value.int .i64 (x:Nat),.int .i64 (y:Nat)][1]?=some (.int .i64 (y:Nat)):=rfl
 refine jW 3 ?_
 refine gg24 ?_
 refine dS 24 O (fun h1=>?_) (fun h1=>?_)
 ·exfalso;omega
 refine gg5 ?_
 refine uX (gQ hE) O ?_
 rintro _ _⟨rfl,rfl⟩
 simp only[uV,uW]
 refine gg1 ?_
 refine uX (qCi hE) O ?_
 rintro _ _⟨rfl,rfl⟩
 simp only[uV,uW]
 refine gg5 ?_
 refine bE O (fun h2=>?_) (fun h2=>?_)
 ·exfalso;omega
 refine gg32 ?_
 refine dS 24 O (fun h3=>?_) (fun h3=>?_)
 ·exfalso;omega
 refine gg5 ?_
 refine uX (gQ hE) O ?_
 rintro _ _⟨rfl,rfl⟩
 simp only[uV,uW]
 refine gg1 ?_
 refine uX (qCi hE) O ?_
 rintro _ _⟨rfl,rfl⟩
 simp only[uV,uW]
 refine gg5 ?_
 refine bE O (fun h4=>?_) (fun h4=>?_)
 ·exfalso;omega
 refine gg24 ?_
 refine uX (gQ hE) O ?_
 rintro _ _⟨rfl,rfl⟩
 simp only[uV,uW]
 refine gg5 ?_
 exact uZ O (.tmp O (.tmp O .nil)) ⟨O,O⟩
theorem zQ (hE:Seat E){p:Option Addr}{m c:Nat}:Ct E 99 [.slice p m c] [] (fun v Q=>∃b1,v= .func (.func 122) #[] ⟨[uPt b1]⟩∧Q=[cells b1 [.slice p m c] 51]):=by
 refine bO (hE.fn Tryz.func99) O O O (fun R=>?_)
 simp only[dR,uV,uW]
 refine gg2 ?_
 refine uU ?_
 refine jC O (fun b1=>?_)
 refine gg10 ?_
 exact uZ O (.tmp O .nil) ⟨b1,O,O⟩
theorem qGq (hE:Seat E){V:List Nat}{g c b1 l:Nat}{J:Nat→HP}(hn:V.length<65536)
  (hy:∀k x,k<V.length→V[V.length-1-k]?=some x→Cy E l [.int .i64 ((V.length-1-k:Nat):Int),.int .i64 (x:Nat)] [J k] (fun v Q=>v= .bool true∧Q=[J (k+1)])):
  Ct E 122 [.func (.yield l) #[] #[],uPt b1] [J 0,cells b1 [.slice (some ⟨g,0,none⟩) V.length c] 51,sl (some ⟨g,0,none⟩) c 24 1 V.length (idC V)]
   (fun v Q=>Q=[J V.length,cells b1 [.slice (some ⟨g,0,none⟩) V.length c] 51,sl (some ⟨g,0,none⟩) c 24 1 V.length (idC V)]):=by
 refine vO (hE.fn Tryz.func122) O O O (fun R=>?_)
 simp only[dR,uV,uW]
 refine iG (dZ ?_)
 apply dN
 ·(apply aO rfl (hE.t rfl) rfl;(repeat(first |rfl|assumption|constructor));done)
 ·rfl
 ·rfl
 refine dN (uBl O) O O ?_
 refine dN (uAs O O) O O ?_
 refine dN (aC O) O O ?_
 refine iV (eF (xF ?_))
 refine i_loop (fun k:Nat=>[(0,.func (.yield l) #[] #[]),(1,uPt b1),(3,.int .i64 ((V.length:Int)-1-(k:Nat)))]) (fun k=>[J k,cells b1 [.slice (some ⟨g,0,none⟩) V.length c] 51,sl (some ⟨g,0,none⟩) c 24 1 V.length (idC V),R]) (fun k=>V.length-k) (fun k=>k≤V.length) 0 (Nat.zero_le _) ⟨O,O,congrArg some (bW oO),trivial⟩ uI ?_
 intro k hk
 refine iG (iG (dZ ?_))
 refine dN (aB O) O O ?_
 refine dN (y_ge O O) O O ?_
 refine iV (eF ?_)
 refine lK O (fun h1=>?_) (fun h1=>?_)
 ·have hkn:k<V.length:=oO
  obtain⟨x,hx⟩:∃x,V[V.length-1-k]?=some x:=⟨_,List.getElem?_eq_getElem oO⟩
  have f0:=jL hx (((V.length:Int)-1-(k:Nat))).toNat oO
  have hyk:=hy k x hkn hx
  rw[show((V.length-1-k:Nat):Int)=(V.length:Int)-1-(k:Nat) by omega]at hyk
  refine sK (eF (iG (xF (iG (dZ ?_)))))
  refine dN (aB O) O O ?_
  refine dN (aB O) O O ?_
  apply dN
  ·(apply aO rfl (hE.t rfl) rfl;(repeat(first |rfl|assumption|constructor));done)
  ·rfl
  ·rfl
  refine dN (aB O) O O ?_
  apply dN
  ·exact uAj O O
  ·rfl
  ·rfl
  apply dN
  ·(apply aO rfl (hE.t rfl) rfl;(repeat(first |rfl|assumption|constructor));done)
  ·rfl
  ·rfl
  apply j_round O O O (hyk)
  ·exact uK
  rintro _ _⟨rfl,rfl⟩
  simp only[uV,uW]
  refine dN (y_not O) O O ?_
  refine iV (eF ?_)
  refine vR O ?_
  refine sK (rM (eF (dZ ?_)))
  refine dN (aB O) O O ?_
  refine dN (uAs O O) O O ?_
  refine dN (aC O) O O ?_
  refine iV ?_
  refine ai_round (ι:=Nat) (j:=k+1) oO (by show V.length-(k+1)<V.length-k;omega) ⟨O,O,congrArg some (bW oO),trivial⟩ uI
 obtain rfl:k=V.length:=by omega
 refine i_exit (mZ (mZ (tL ?_)))
 apply ai_end
 ·rfl
 ·(exact Rs.nil)
 ·exact O
 exact uI
theorem qJy (hE:Seat E):Ct E 135 [.slice none 0 0,.int .i64 0,.int .i64 0] [] (fun v Q=>v= .tuple #[]∧Q=[]):=by
 refine bO (hE.fn Tryz.func135) O O O (fun R=>?_)
 simp only[dR,uV,uW]
 refine gg8 ?_
 refine jW 1 ?_
 refine gg14 ?_
 exact uZe O .nil ⟨O,O⟩
theorem qKc (hE:Seat E){l:Int}:Ct E 108 [.slice none 0 0,.int .i64 0,.int .i64 0,.int .i64 l] [] (fun v Q=>v= .tuple #[]∧Q=[]):=by
 refine bO (hE.fn Tryz.func108) O O O (fun R=>?_)
 simp only[dR,uV,uW]
 refine gg11 ?_
 refine jW 1 ?_
 refine gg23 ?_
 refine uX (qJy hE) O ?_
 rintro _ _⟨rfl,rfl⟩
 simp only[uV,uW]
 refine gg7 ?_
 exact uZ O .nil ⟨O,O⟩
theorem qBw (hE:Seat E):Ct E 75 [.slice none 0 0] [] (fun v Q=>v= .tuple #[]∧Q=[]):=by
 refine bO (hE.fn Tryz.func75) O O O (fun R=>?_)
 simp only[dR,uV,uW]
 refine gg12 ?_
 refine uX (sP hE (k:=0) (by decide)) O ?_
 rintro _ _⟨rfl,rfl⟩
 simp only[uV,uW]
 refine uX (qKc hE) O ?_
 rintro _ _⟨rfl,rfl⟩
 simp only[uV,uW]
 refine gg1 ?_
 exact uZe O .nil ⟨O,O⟩
theorem qOd (hE:Seat E)(hs:Es.length≤1048576):Ct E 73 [uPt s,.int .i64 ((0:Nat):Int)] [bR s most Es] (fun v Q=>v= .bool true∧Q=[bR s most Es]):=qGx hE (Nat.zero_le _) hs
theorem qRd (hE:Seat E){b6 b7 bm:Nat}:
  Ct E 72 [.int .i64 ((0:Nat):Int),uPt b7,uPt b6] [cells b7 [.map (some bm)] 152,mapF bm .i64 (sI (0::[]))]
   (fun v Q=>v= .tuple #[]∧Q=[cells b7 [.map (some bm)] 152,mapF bm .i64 (sI (0::[]))]):=by
 have hm1:E.P.underlying 152=some (.map 24 4):=by rw[hE.P];kernel_rfl
 have hm2:E.P.underlying 24=some (.int .i64):=by rw[hE.P];kernel_rfl
 have hm3:∀w,(zeroValue 4).run E.P w= .ok (.bool false) w:=fun w=>by rw[hE.P];kernel_rfl
 refine bO (hE.fn Tryz.func72) O O O (fun R=>?_)
 simp only[dR,uV,uW]
 refine gg4 ?_
 refine uB (rG hm1 hm2 hm3 O O uK (qNg List.mem_cons_self)) ?_
 refine gg5 ?_
 exact uZe O .nil ⟨O,O⟩
theorem qGu (hE:Seat E){g:Nat}(hn:Es.length<65536):
  Ct E 41 [uPt s,.slice (some ⟨g,0,none⟩) 1 1] [bR s most Es,cells g [.int .i64 ((0:Nat):Int)] 24]
   (fun v Q=>v= .tuple #[.slice none 0 0,.nilIface]∧Q=[bR s most Es]):=by
 have hgo:goFn E.P 72=true:=hE.f oK
 refine bO (hE.fn Tryz.func41) O O O (fun R=>?_)
 simp only[dR,uV,uW]
 refine gg18 ?_
 refine uU (cZ (hE.t O) (fun b6=>?_))
 refine gg4 ?_
 refine uU ?_
 refine qP .i64 (fun b19=>?_)
 refine uU ?_
 apply qHy (kt:=24) (et:=4) (by rw[hE.P];kernel_rfl) (by rw[hE.P];kernel_rfl) O O O
 ·exact uK
 refine gg1 ?_
 refine uU (cZ (hE.t O) (fun b7=>?_))
 refine gg18 ?_
 rw[seen0]
 have f0:[Value.int .i64 ((0:Nat):Int)][0]?=some (.int .i64 ((0:Nat):Int)):=rfl
 refine jW 2 ?_
 refine gg24 ?_
 refine uX (qOd (Es:=Es) hE oO) O ?_
 rintro _ _⟨rfl,rfl⟩
 simp only[uV,uW]
 refine gg9 ?_
 refine uU ?_
 apply fO (hx:=O) (ha:=O) (hf:=hgo)
 ·exact qRd (b6:=b6) (b7:=b7) (bm:=b19) hE
 ·exact uK
 rintro _ _⟨rfl,rfl⟩
 simp only[uV,uW]
 refine gg28 ?_
 refine jW 1 ?_
 refine gg19 ?_
 refine uX (qBw hE) O ?_
 rintro _ _⟨rfl,rfl⟩
 simp only[uV,uW]
 refine gg10 ?_
 exact uZ O (.tmp O (.tmp O .nil)) ⟨O,O⟩
def mapN (f:Nat→Option Nat):Int→Option Value:=fun k=>if 0≤k then(f k.toNat).map fun a=> .int .i64 (a:Nat)else none
theorem qIb:mapN (fun _=>none)=fun _=>none:=by funext k;simp[mapN]
theorem zB (f:Nat→Option Nat)(k:Nat):mapN f ((k:Nat):Int)=(f k).map fun a=> .int .i64 (a:Nat):=by simp[mapN]
theorem qEu (f:Nat→Option Nat)(k a:Nat):setF (mapN f) ((k:Nat):Int) (.int .i64 (a:Nat))=mapN (fun x=>if x=k then some a else f x):=by
 funext x
 unfold setF mapN
 by_cases h:0≤x
 ·rw[if_pos h]
  by_cases e:x.toNat=k
  ·rw[if_pos (show x=((k:Nat):Int) by omega),if_pos h]
   show _=Option.map _ (if x.toNat=k then some a else f x.toNat)
   rw[if_pos e];rfl
  rw[if_neg (show ¬x=((k:Nat):Int) by omega),if_pos h]
  show _=Option.map _ (if x.toNat=k then some a else f x.toNat)
  rw[if_neg e]
 rw[if_neg h,if_neg (show ¬x=((k:Nat):Int) by omega),if_neg h]
theorem fput_low {f:Nat→Option Nat}{k a b:Nat}(h:f k=some b)(hab:b≤a):fput f k a=f:=by
 funext x
 unfold fput
 by_cases e:x=k
 ·subst e;rw[if_pos rfl,h];simp only;rw[Nat.min_eq_left hab]
 rw[if_neg e]
theorem qMk {f:Nat→Option Nat}{k a:Nat}(h:∀b,f k=some b→a<b):(fun x=>if x=k then some a else f x)=fput f k a:=by
 funext x
 unfold fput
 by_cases e:x=k
 ·subst e
  rw[if_pos rfl,if_pos rfl]
  cases e2:f x with
  |none=>rfl
  |some b=>have:=h b e2;simp only;rw[Nat.min_eq_right oO]
 rw[if_neg e,if_neg e]
theorem qEb (hE:Seat E){b8 bm k a:Nat}{f:Nat→Option Nat}:
  Ct E 98 [.int .i64 (k:Nat),.int .i64 (a:Nat),uPt b8] [cells b8 [.map (some bm)] 135,mapF bm .i64 (mapN f)] (fun v Q=>v= .tuple #[]∧Q=[cells b8 [.map (some bm)] 135,mapF bm .i64 (mapN (fput f k a))]):=by
 have hm1:E.P.underlying 135=some (.map 24 3):=by rw[hE.P];kernel_rfl
 have hm2:E.P.underlying 24=some (.int .i64):=by rw[hE.P];kernel_rfl
 have hm3:∀w,(zeroValue 3).run E.P w= .ok (.int .i64 0) w:=fun w=>by rw[hE.P];kernel_rfl
 have hf:=zB f k
 refine bO (hE.fn Tryz.func98) O O O (fun R=>?_)
 simp only[dR,uV,uW]
 refine gg4 ?_
 refine uB (rG (ok:=true) hm1 hm2 hm3 O O uK hf) ?_
 cases e:f k with
 |none=>
  simp only[Option.map_none,qAf,Option.getD_none,Option.isSome_none,if_true]
  refine gg23 ?_
  refine uU ?_
  apply nM (kt:=24) (et:=3) (by rw[hE.P];kernel_rfl) (by rw[hE.P];kernel_rfl) O O O
  ·exact uK
  refine gg1 ?_
  rw[qEu,qMk (a:=a) (fun b h=>by rw[e]at h;cases h)]
  exact uZe O .nil ⟨O,O⟩
 |some b=>
  simp only[Option.map_some,qAf,Option.getD_some,Option.isSome_some,if_true]
  refine gg21 ?_
  refine bE O (fun h1=>?_) (fun h1=>?_)
  ·refine gg4 ?_
   refine uU ?_
   apply nM (kt:=24) (et:=3) (by rw[hE.P];kernel_rfl) (by rw[hE.P];kernel_rfl) O O O
   ·exact uK
   refine gg1 ?_
   rw[qEu,qMk (a:=a) (fun c h=>by rw[e]at h;cases h;omega)]
   exact uZe O .nil ⟨O,O⟩
  rw[fput_low (a:=a) e oO]
  refine gg1 ?_
  exact uZe O .nil ⟨O,O⟩
end
section
variable {E:Env}{Es:List Ent}{pp tb s most:Nat}
theorem fbase_ne {base:Nat}(h:base≠0):jK base=fun x=>if x=base then some 0 else none:=by
 funext x
 unfold jK
 by_cases e:x=base
 ·rw[if_pos ⟨e,oO⟩,if_pos e]
 rw[if_neg (fun h=>e h.1),if_neg e]
theorem qOq:jK 0=fun _=>none:=by
 funext x
 unfold jK
 by_cases e:x=0
 ·rw[if_neg (fun h=>h.2 e)]
 rw[if_neg (fun h=>e h.1)]
theorem yM (hE:Seat E){b1 l:Nat}{J:HP}:
  Ct E 122 [.func (.yield l) #[] #[],uPt b1] [J,cells b1 [.slice none 0 0] 51] (fun v Q=>Q=[J,cells b1 [.slice none 0 0] 51]):=by
 refine vO (hE.fn Tryz.func122) O O O (fun R=>?_)
 simp only[dR,uV,uW]
 refine iG (dZ ?_)
 apply dN
 ·(apply aO rfl (hE.t rfl) rfl;(repeat(first |rfl|assumption|constructor));done)
 ·rfl
 ·rfl
 refine dN (uBl O) O O ?_
 refine dN (uAs O O) O O ?_
 refine dN (aC O) O O ?_
 refine iV (eF (xF ?_))
 refine i_loop (fun k:Nat=>[(0,.func (.yield l) #[] #[]),(1,uPt b1),(3,.int .i64 (-1))]) (fun k=>[J,cells b1 [.slice none 0 0] 51,R]) (fun k=>0) (fun k=>True) 0 trivial ⟨O,O,congrArg some (bW oO),trivial⟩ uI ?_
 intro k hk
 refine iG (iG (dZ ?_))
 refine dN (aB O) O O ?_
 refine dN (y_ge O O) O O ?_
 refine iV (eF ?_)
 refine lK O (fun h1=>?_) (fun h1=>?_)
 ·exfalso;omega
 refine i_exit (mZ (mZ (tL ?_)))
 apply ai_end
 ·rfl
 ·(exact Rs.nil)
 ·exact O
 exact uI
theorem ct_occ0 (hE:Seat E)(hn:Es.length<65536):Ct E 64 [uPt s,.int .i64 ((0:Nat):Int)] [bR s most Es]
  (fun v Q=>∃bm,v= .tuple #[.map (some bm),.nilIface]∧Q=[bR s most Es,mapF bm .i64 (mapN (fG (rls Es) 0))]):=by
 have e0:mapN (fG (rls Es) 0)=fun _=>none:=by
  have:fG (rls Es) 0=jK 0:=rfl
  rw[this,qOq,qIb]
 rw[e0]
 refine vO (hE.fn Tryz.func64) O O O (fun R=>?_)
 simp only[dR,uV,uW]
 refine iG (dZ ?_)
 apply gD O O
 refine jC O (fun b2=>?_)
 apply gD O O
 refine cZ (hE.t O) (fun b4=>?_)
 apply gD O O
 refine cZ (hE.t O) (fun b5=>?_)
 refine iV (eF (iG (dZ ?_)))
 apply dN
 ·(apply aO rfl (hE.t rfl) rfl;(repeat(first |rfl|assumption|constructor));done)
 ·rfl
 ·rfl
 refine dN (aB O) O O ?_
 apply gD O O
 refine aU (hE.t O) (hE.t O) O O O (fun b20=>?_)
 apply gD O O
 refine uC (qGu hE hn) O ?_
 rintro _ _⟨rfl,rfl⟩
 simp only[uV,uW]
 refine dN (aB O) O O ?_
 refine dN (aT O O) O O ?_
 refine dN (aT O O) O O ?_
 refine dN (aC O) O O ?_
 refine dN (aC O) O O ?_
 refine iV (eF (iG (iG (dZ ?_))))
 refine dN (aB O) O O ?_
 apply dN
 ·exact qBt O (hE.t O)
 ·rfl
 ·rfl
 refine iV (eF ?_)
 refine vR O ?_
 refine sK (eF (iG (dZ ?_)))
 apply gD O O
 refine qP .i64 (fun b27=>?_)
 apply gD O O
 refine cZ (hE.t O) (fun b8=>?_)
 apply gD O O
 refine uS ?_
 refine iV (eF (iG (iG (dZ ?_))))
 refine dN (aB O) O O ?_
 refine dN (y_ne O O) O O ?_
 refine iV (eF ?_)
 refine lK O (fun hb=>?_) (fun hb=>?_)
 ·exfalso;omega
 refine sK (eF (iG (dZ ?_)))
 refine dN (yC O) O O ?_
 apply gD O O
 refine qHv (by rw[hE.P];kernel_rfl) (fun b9=>?_)
 apply gD O O
 (apply qHz rfl rfl (by rw[hE.P];kernel_rfl) rfl;(focus((repeat constructor);done));(focus rfl);(focus(exact Nat.le_of_ble_eq_true rfl)))
 refine iV (eF (iG (iG (dZ ?_))))
 refine dN (aB O) O O ?_
 apply gD O O
 refine uC (zQ hE) O ?_
 rintro _ _⟨b1,rfl,rfl⟩
 simp only[uV,uW]
 refine iV (eF (xF ?_))
 refine qRy 0 (fun _=>[.int .i64 0,.int .i64 0]) (fun _=>[]) [cells b1 [.slice none 0 0] 51] (fun _=>[]) O (hE.f oK) (by decide) (fun _=>O) uK (fun l J' _=>yM hE) (fun k l B hk=>absurd hk oO) (fun k l B hk=>absurd hk oO) (fun D=>?_)
 simp only[List.nil_append,List.cons_append]
 refine rM (eF ?_)
 refine iG (dZ ?_)
 apply dN
 ·(apply aO rfl (hE.t rfl) rfl;(repeat(first |rfl|assumption|constructor));done)
 ·rfl
 ·rfl
 apply gD O O
 refine uS ?_
 apply gD O O
 refine uS ?_
 refine iV (eF (i_ret ?_))
 apply qLt
 ·rfl
 ·exact uK
 ·((apply Rs.cell1 rfl (hE.t rfl) rfl;(focus((repeat(first |rfl|assumption|constructor));done)));(apply Rs.cell1 rfl (hE.t rfl) rfl;(focus((repeat(first |rfl|assumption|constructor));done)));exact Rs.nil)
 ·exact⟨_,O,O⟩
 exact uI
theorem qRk {V:List Nat}{k x:Nat}(hk:k<V.length)(hx:V[V.length-1-k]?=some x):V.drop (V.length-(k+1))=x::V.drop (V.length-k):=by
 have e:V.length-(k+1)=V.length-1-k:=oO
 rw[e,List.drop_eq_getElem_cons oO,(List.getElem?_eq_some_iff.1 hx).2]
 congr 2
 omega
theorem qSq {L:List Rl}(hw:Wf L){n:Nat}{f:Nat→Option Nat}:∀(B:List Nat),FIn L n f→FIn L n (sH L B f)
 |[],h=>h
 |v::B,h=>(qSq hw B h).step hw
theorem ct_occ1 (hE:Seat E){base:Nat}(h1:1≤base)(h2:base≤Es.length)(hn:Es.length<65536):Ct E 64 [uPt s,.int .i64 (base:Nat)] [bR s most Es]
  (fun v Q=>∃bm,v= .tuple #[.map (some bm),.nilIface]∧Q=[bR s most Es,mapF bm .i64 (mapN (fG (rls Es) base))]):=by
 have hm1:E.P.underlying 135=some (.map 24 3):=by rw[hE.P];kernel_rfl
 have hm2:E.P.underlying 24=some (.int .i64):=by rw[hE.P];kernel_rfl
 have hm3:∀w,(zeroValue 3).run E.P w= .ok (.int .i64 0) w:=fun w=>by rw[hE.P];kernel_rfl
 have hgo:goFn E.P 98=true:=hE.f oK
 refine fF (p:=bR s most Es) uK (fun _ h=>dQ h) (fun hsay=>?_)
 have hw:=hsay.1
 have hLl:=bQ Es
 refine vO (hE.fn Tryz.func64) O O O (fun R=>?_)
 simp only[dR,uV,uW]
 refine iG (dZ ?_)
 apply gD O O
 refine jC O (fun b2=>?_)
 apply gD O O
 refine cZ (hE.t O) (fun b4=>?_)
 apply gD O O
 refine cZ (hE.t O) (fun b5=>?_)
 refine iV (eF (iG (dZ ?_)))
 apply dN
 ·(apply aO rfl (hE.t rfl) rfl;(repeat(first |rfl|assumption|constructor));done)
 ·rfl
 ·rfl
 refine dN (aB O) O O ?_
 apply gD O O
 refine aU (hE.t O) (hE.t O) O O O (fun b20=>?_)
 apply gD O O
 refine uC (qLx hE h1 h2 hn) O ?_
 rintro _ _⟨p0,c0,V,rfl,hnd,hps,hV,rfl⟩
 have hVl:V.length<65536:=by
  have:=nG hnd (B:=(List.range (Es.length+1))) (fun x hx=>List.mem_range.2 (by have:=((hV x).1 hx).pos;omega))
  simp at this
  have hz:0∉V:=fun h=>by have:=((hV 0).1 h).pos;omega
  have:=nG (A:=0::V) (B:=List.range (Es.length+1)) (List.nodup_cons.2 ⟨hz,hnd⟩) (fun x hx=>List.mem_range.2 (by
   rcases List.mem_cons.1 hx with rfl|hx
   ·omega
   have:=((hV x).1 hx).pos;omega))
  simp at this
  omega
 have hsrt:V.Pairwise (· < ·):=by
  have h3:=List.nodup_iff_pairwise_ne.1 hnd
  exact(hps.and h3).imp fun⟨a,b⟩=>by omega
 simp only[uV,uW]
 refine dN (aB O) O O ?_
 refine dN (aT O O) O O ?_
 refine dN (aT O O) O O ?_
 refine dN (aC O) O O ?_
 refine dN (aC O) O O ?_
 refine iV (eF (iG (iG (dZ ?_))))
 refine dN (aB O) O O ?_
 apply dN
 ·exact qBt O (hE.t O)
 ·rfl
 ·rfl
 refine iV (eF ?_)
 refine vR O ?_
 refine sK (eF (iG (dZ ?_)))
 apply gD O O
 refine qP .i64 (fun b27=>?_)
 apply gD O O
 refine cZ (hE.t O) (fun b8=>?_)
 apply gD O O
 refine uS ?_
 refine iV (eF (iG (iG (dZ ?_))))
 refine dN (aB O) O O ?_
 refine dN (y_ne O O) O O ?_
 refine iV (eF ?_)
 refine lK O (fun hb=>?_) (fun hb=>?_)
 ·refine dZ ?_
  apply dN
  ·(apply aO rfl (hE.t rfl) rfl;(repeat(first |rfl|assumption|constructor));done)
  ·rfl
  ·rfl
  refine dN (aB O) O O ?_
  apply gD O O
  apply nM (kt:=24) (et:=3) (by rw[hE.P];kernel_rfl) (by rw[hE.P];kernel_rfl) O O O
  ·exact uK
  refine iV (eF (iG (dZ ?_)))
  refine dN (yC O) O O ?_
  apply gD O O
  refine qHv (by rw[hE.P];kernel_rfl) (fun b9=>?_)
  apply gD O O
  (apply qHz rfl rfl (by rw[hE.P];kernel_rfl) rfl;(focus((repeat constructor);done));(focus rfl);(focus(exact Nat.le_of_ble_eq_true rfl)))
  refine iV (eF (iG (iG (dZ ?_))))
  refine dN (aB O) O O ?_
  have em:setF (fun _:Int=>(none:Option Value)) ((base:Nat):Int) (.int .i64 0)=mapN (jK base):=by
   rw[fbase_ne oO,←qIb]
   exact qEu _ base 0
  rw[em]
  apply gD O O
  refine uC (zQ hE) O ?_
  rintro _ _⟨bq,rfl,rfl⟩
  simp only[uV,uW]
  refine iV (eF (xF ?_))
  apply qRy V.length (fun k=>[.int .i64 ((V.length-1-k:Nat):Int),.int .i64 ((V[V.length-1-k]?.getD 0:Nat):Int)]) (fun k=>[bR s most Es,cells b2 [uPt s] 31,cells b8 [.map (some b27)] 135,cells b9 [.func (.func 98) #[] ⟨[uPt b8]⟩] 189,mapF b27 .i64 (mapN (sH (rls Es) (V.drop (V.length-k)) (jK base)))]) [cells bq [.slice (some ⟨p0,0,none⟩) V.length c0] 51,sl (some ⟨p0,0,none⟩) c0 24 1 V.length (idC V)] (fun k=>[(2,uPt b2),(8,uPt b8),(9,uPt b9),(11,.int .i64 ((V[V.length-1-k]?.getD 0:Nat):Int))]) O (hE.f oK) (by decide) (fun _=>O)
  ·show Sl.Sub _ _ _
   rw[Nat.sub_zero,List.drop_length]
   show Sl.Sub [bR s most Es,_,_,_,mapF b27 .i64 (mapN (jK base)),_,_] _ _
   ((repeat constructor);done)
  ·intro l J' hy
   refine qGq hE hVl fun k x hk hx=>?_
   have:=hy k hk
   rw[hx]at this
   exact this
  ·intro k l B hk
   refine dZ ?_
   refine dN (aC O) O O ?_
   refine iV ?_
   exact ai_aend ⟨O,O,O,O,trivial⟩ uI
  ·intro k l B hk
   obtain⟨x,hx⟩:∃x,V[V.length-1-k]?=some x:=⟨_,List.getElem?_eq_getElem oO⟩
   obtain⟨m,rfl⟩:∃m,x=m+1:=⟨x-1,by have:=((hV x).1 (List.mem_of_getElem? hx)).pos;omega⟩
   have hxb:=((hV _).1 (List.mem_of_getElem? hx)).pos
   obtain⟨y,hy⟩:∃y,Es[m]?=some y:=⟨_,List.getElem?_eq_getElem oO⟩
   have hyr:(rls Es)[m]?=some y.r:=tC hy
   have hdn:=qRk hk hx
   have hcov:=(qHq hw hsrt hV (V.drop (V.length-(k+1))) (V.take (V.length-(k+1))) (by rw[List.take_append_drop])).1 _ _ hdn
   obtain⟨a,ha⟩:∃a,sH (rls Es) (V.drop (V.length-k)) (jK base) (m+1)=some a:=by
    cases e:sH (rls Es) (V.drop (V.length-k)) (jK base) (m+1)with
    |none=>exact absurd e hcov
    |some a=>exact⟨a,rfl⟩
   have hnext:sH (rls Es) (V.drop (V.length-(k+1))) (jK base)=xC (rls Es) (sH (rls Es) (V.drop (V.length-k)) (jK base)) a y.r:=by
    rw[hdn]
    show nJ _ (m+1-1) _=_
    rw[Nat.add_sub_cancel]
    exact vQ ha hyr
   rw[hnext,hx]
   simp only[Option.getD_some,uV,uW]
   have hfb:∀j b,sH (rls Es) (V.drop (V.length-k)) (jK base) j=some b→b≤1152921504606846976:=fun j b h=>by
    have h3:=qSq hw (V.drop (V.length-k)) (FIn.base base) j b h
    have h4:=hw.short base
    have:dB=1152921504606846976:=rfl
    omega
   generalize sH (rls Es) (V.drop (V.length-k)) (jK base)=f at ha hfb ⊢
   have hf:=zB f (m+1)
   rw[ha]at hf
   refine xF (iG (dZ ?_))
   apply dN
   ·(apply aO rfl (hE.t rfl) rfl;(repeat(first |rfl|assumption|constructor));done)
   ·rfl
   ·rfl
   refine dN (aB O) O O ?_
   apply gD O O
   refine uC (pF hE hy) O ?_
   rintro _ _⟨rfl,rfl⟩
   simp only[uV,uW]
   refine dN (aB O) O O ?_
   refine dN (aT O O) O O ?_
   refine dN (aT O O) O O ?_
   apply gD O O
   refine cZ (hE.t O) (fun b12=>?_)
   apply gD O O
   refine uS ?_
   refine dN (aC O) O O ?_
   refine iV (eF (iG (iG (dZ ?_))))
   refine dN (aB O) O O ?_
   apply dN
   ·exact qBt O (hE.t O)
   ·rfl
   ·rfl
   refine iV (eF ?_)
   refine vR O ?_
   refine sK (eF (iG (dZ ?_)))
   apply dN
   ·(apply aO rfl (hE.t rfl) rfl;(repeat(first |rfl|assumption|constructor));done)
   ·rfl
   ·rfl
   refine dN (aB O) O O ?_
   apply dN
   ·exact rG (ok:=false) hm1 hm2 hm3 O O uK hf
   ·rfl
   ·rfl
   have hk':=hw.ok _ _ hyr
   have hmx:dB=1152921504606846976:=rfl
   have hbl:∀j b,f j=some b→b≤1152921504606846976:=fun j b h=>hfb j b h
   have ha2:=hbl _ _ ha
   generalize y.r=r at hyr hk' ⊢
   simp only[qAf,Option.map_some,Option.getD_some,Bool.false_eq_true,if_false]
   cases r with
   |letter b=>
    refine dN (aC O) O O ?_
    refine iV (eF (iG (iG (dZ ?_))))
    refine dN (uBf O) O O ?_
    apply dN
    ·(apply aO rfl (hE.t rfl) rfl;(repeat(first |rfl|assumption|constructor));done)
    ·rfl
    ·rfl
    refine dN (y_ne O O) O O ?_
    refine iV (eF ?_)
    refine lK O (fun e1=>?_) (fun e1=>?_)
    ·exfalso;simp[Rl.left]at e1
    refine sK (eF (iG (dZ ?_)))
    refine dN (uBf O) O O ?_
    apply dN
    ·(apply aO rfl (hE.t rfl) rfl;(repeat(first |rfl|assumption|constructor));done)
    ·rfl
    ·rfl
    refine dN (y_ne O O) O O ?_
    refine iV (eF ?_)
    refine lK O (fun e2=>?_) (fun e2=>?_)
    ·exfalso;simp[Rl.right]at e2
    refine sK (rM ?_)
    exact qJt uI
   |power z t=>
    obtain⟨k1,k2,k3⟩:=hk'
    refine dN (aC O) O O ?_
    refine iV (eF (iG (iG (dZ ?_))))
    refine dN (uBf O) O O ?_
    apply dN
    ·(apply aO rfl (hE.t rfl) rfl;(repeat(first |rfl|assumption|constructor));done)
    ·rfl
    ·rfl
    refine dN (y_ne O O) O O ?_
    refine iV (eF ?_)
    refine lK O (fun e1=>?_) (fun e1=>?_)
    ·refine dZ ?_
     apply dN
     ·(apply qLq rfl (by rw[hE.P];kernel_rfl);(repeat(first |rfl|assumption|constructor));done)
     ·rfl
     ·rfl
     refine dN (uBf O) O O ?_
     apply dN
     ·(apply aO rfl (hE.t rfl) rfl;(repeat(first |rfl|assumption|constructor));done)
     ·rfl
     ·rfl
     refine dN (aB O) O O ?_
     apply gD O O
     apply fO (hx:=O) (ha:=O) (hf:=hE.f oK)
     ·exact qEb (bm:=b27) (k:=z) (a:=a) (f:=f) hE
     ·exact uK
     rintro _ _⟨rfl,rfl⟩
     simp only[uV,uW]
     refine iV (eF (iG (dZ ?_)))
     refine dN (uBf O) O O ?_
     apply dN
     ·(apply aO rfl (hE.t rfl) rfl;(repeat(first |rfl|assumption|constructor));done)
     ·rfl
     ·rfl
     refine dN (y_ne O O) O O ?_
     refine iV (eF ?_)
     refine lK O (fun e2=>?_) (fun e2=>?_)
     ·exfalso;simp[Rl.right]at e2
     refine sK (rM ?_)
     exact qJt uI
    exfalso;simp only[Rl.left]at e1;omega
   |pair z q=>
    obtain⟨k1,k2,k3,k4⟩:=hk'
    obtain⟨i,rfl⟩:∃i,z=i+1:=⟨z-1,oO⟩
    obtain⟨y2,hy2⟩:∃y,Es[i]?=some y:=⟨_,List.getElem?_eq_getElem oO⟩
    have htl:y2.t.length=len (rls Es) (i+1):=by rw[hsay.2.1 i y2 hy2];rfl
    have hsh:=hw.short (i+1)
    refine dN (aC O) O O ?_
    refine iV (eF (iG (iG (dZ ?_))))
    refine dN (uBf O) O O ?_
    apply dN
    ·(apply aO rfl (hE.t rfl) rfl;(repeat(first |rfl|assumption|constructor));done)
    ·rfl
    ·rfl
    refine dN (y_ne O O) O O ?_
    refine iV (eF ?_)
    refine lK O (fun e1=>?_) (fun e1=>?_)
    ·refine dZ ?_
     apply dN
     ·(apply qLq rfl (by rw[hE.P];kernel_rfl);(repeat(first |rfl|assumption|constructor));done)
     ·rfl
     ·rfl
     refine dN (uBf O) O O ?_
     apply dN
     ·(apply aO rfl (hE.t rfl) rfl;(repeat(first |rfl|assumption|constructor));done)
     ·rfl
     ·rfl
     refine dN (aB O) O O ?_
     apply gD O O
     apply fO (hx:=O) (ha:=O) (hf:=hE.f oK)
     ·exact qEb (bm:=b27) (k:=i+1) (a:=a) (f:=f) hE
     ·exact uK
     rintro _ _⟨rfl,rfl⟩
     simp only[uV,uW]
     refine iV (eF (iG (dZ ?_)))
     refine dN (uBf O) O O ?_
     apply dN
     ·(apply aO rfl (hE.t rfl) rfl;(repeat(first |rfl|assumption|constructor));done)
     ·rfl
     ·rfl
     refine dN (y_ne O O) O O ?_
     refine iV (eF ?_)
     refine lK O (fun e2=>?_) (fun e2=>?_)
     ·refine iG (dZ ?_)
      apply dN
      ·(apply aO rfl (hE.t rfl) rfl;(repeat(first |rfl|assumption|constructor));done)
      ·rfl
      ·rfl
      refine dN (uBf O) O O ?_
      apply dN
      ·(apply aO rfl (hE.t rfl) rfl;(repeat(first |rfl|assumption|constructor));done)
      ·rfl
      ·rfl
      apply gD O O
      refine uC (lQ hE hy2) O ?_
      rintro _ _⟨rfl,rfl⟩
      simp only[uV,uW]
      rw[htl]
      refine dN (aB O) O O ?_
      refine dN (aT O O) O O ?_
      refine dN (aT O O) O O ?_
      apply gD O O
      refine cZ (hE.t O) (fun b15=>?_)
      apply gD O O
      refine uS ?_
      refine dN (aC O) O O ?_
      refine iV (eF (iG (iG (dZ ?_))))
      refine dN (aB O) O O ?_
      apply dN
      ·exact qBt O (hE.t O)
      ·rfl
      ·rfl
      refine iV (eF ?_)
      refine vR O ?_
      refine sK (eF (dZ ?_))
      apply dN
      ·(apply qLq rfl (by rw[hE.P];kernel_rfl);(repeat(first |rfl|assumption|constructor));done)
      ·rfl
      ·rfl
      refine dN (uBf O) O O ?_
      apply dN
      ·(apply aO rfl (hE.t rfl) rfl;(repeat(first |rfl|assumption|constructor));done)
      ·rfl
      ·rfl
      refine dN (aB O) O O ?_
      refine dN (uBf O) O O ?_
      apply dN
      ·(apply aO rfl (hE.t rfl) rfl;(repeat(first |rfl|assumption|constructor));done)
      ·rfl
      ·rfl
      refine dN (uAa O O) O O ?_
      refine j_eq 76 (.int .i64 ((a+len (rls Es) (i+1):Nat):Int)) O (bW oO) ?_
      apply gD O O
      apply fO (hx:=O) (ha:=O) (hf:=hE.f oK)
      ·exact qEb (bm:=b27) (k:=q) (a:=a+len (rls Es) (i+1)) (f:=fput f (i+1) a) hE
      ·exact uK
      rintro _ _⟨rfl,rfl⟩
      simp only[uV,uW]
      refine iV (rM ?_)
      exact qJt uI
     exfalso;simp only[Rl.right]at e2;omega
    exfalso;simp only[Rl.left]at e1;omega
  intro D
  simp only[List.nil_append,List.cons_append]
  rw[Nat.sub_self,List.drop_zero,qKl hw oO hsrt hV]
  refine rM (eF ?_)
  refine iG (dZ ?_)
  apply dN
  ·(apply aO rfl (hE.t rfl) rfl;(repeat(first |rfl|assumption|constructor));done)
  ·rfl
  ·rfl
  apply gD O O
  refine uS ?_
  apply gD O O
  refine uS ?_
  refine iV (eF (i_ret ?_))
  apply qLt
  ·rfl
  ·exact uK
  ·((apply Rs.cell1 rfl (hE.t rfl) rfl;(focus((repeat(first |rfl|assumption|constructor));done)));(apply Rs.cell1 rfl (hE.t rfl) rfl;(focus((repeat(first |rfl|assumption|constructor));done)));exact Rs.nil)
  ·exact⟨_,O,O⟩
  exact uI
 exfalso;omega
end
end Go.Proofs.YtblljbllmnbiaaaGreatDoor
namespace Sl
open Go Go.RowKit
theorem qDn {l l':List HP}(h:l.Perm l'):∀k,dP l k→dP l' k:=by
 induction h with
 |nil=>exact fun k x=>x
 |cons p _ ih=>exact fun k x=>dY (fun k' y=>ih k' y) x
 |swap p q l=>exact fun k x=>fA x
 |trans _ _ i1 i2=>exact fun k x=>i2 k (i1 k x)
theorem qJe {H:List HP}:∀k,dP H k→dP (dP []::H) k:=fun k x=>⟨fun _=>none,k,fun _=> .inl rfl,by funext b;simp[join],trivial,x⟩
end Sl
namespace Go.Proofs.YtblljbllmnbiaaaGreatDoor
open Go Go.RowKit Sl Eg
set_option maxRecDepth 10000
section
variable {E:Env}{Es:List Ent}{pp tb s most:Nat}
def updF {α:Type}(f:Nat→α)(y:Nat)(v:α):Nat→α:=fun x=>if x=y then v else f x
theorem kX {α:Type}(f:Nat→α)(y:Nat)(v:α):updF f y v y=v:=by simp[updF]
theorem jH {α:Type}(f:Nat→α){y x:Nat}(v:α)(h:x≠y):updF f y v x=f x:=by simp[updF,h]
def jM (K:List Nat)(P:Nat→Option Addr×Nat)(X:Nat→List (Nat×Nat)):Int→Option Value:=fun k=>if 0≤k∧k.toNat∈K then some (.slice (P k.toNat).1 (X k.toNat).length (P k.toNat).2)else none
theorem zC {K:List Nat}{P:Nat→Option Addr×Nat}{X:Nat→List (Nat×Nat)}{y:Nat}(h:y∈K):jM K P X ((y:Nat):Int)=some (.slice (P y).1 (X y).length (P y).2):=by
 unfold jM
 rw[if_pos ⟨oO,by simpa using h⟩]
 simp
theorem qIc {K:List Nat}{P:Nat→Option Addr×Nat}{X:Nat→List (Nat×Nat)}{y:Nat}(h:y∉K):jM K P X ((y:Nat):Int)=none:=by
 unfold jM
 rw[if_neg (fun hh=>h (by simpa using hh.2))]
theorem qSk (P:Nat→Option Addr×Nat)(X:Nat→List (Nat×Nat)):jM [] P X=fun _=>none:=by
 funext k
 unfold jM
 rw[if_neg (fun hh=>by simp at hh)]
theorem qId {K K':List Nat}{P:Nat→Option Addr×Nat}{X:Nat→List (Nat×Nat)}{y:Nat}(p:Option Addr)(c:Nat)(l:List (Nat×Nat))(hK:∀x,x∈K'↔x=y∨x∈K):setF (jM K P X) ((y:Nat):Int) (.slice p l.length c)=jM K' (updF P y (p,c)) (updF X y l):=by
 funext k
 unfold setF
 by_cases hk:k=((y:Nat):Int)
 ·subst hk
  rw[if_pos rfl,zC ((hK y).2 (.inl rfl)),kX,kX]
 rw[if_neg hk]
 unfold jM
 by_cases h0:0≤k
 ·have hne:k.toNat≠y:=oO
  have e:(0≤k∧k.toNat∈K)↔(0≤k∧k.toNat∈K'):=by rw[hK];simp[hne]
  by_cases h1:0≤k∧k.toNat∈K
  ·rw[if_pos h1,if_pos (e.1 h1),jH _ _ hne,jH _ _ hne]
  rw[if_neg h1,if_neg (fun h=>h1 (e.2 h))]
 rw[if_neg (fun h=>h0 h.1),if_neg (fun h=>h0 h.1)]
theorem qSj {K:List Nat}{P:Nat→Option Addr×Nat}{X X':Nat→List (Nat×Nat)}(h:∀y∈K,(X y).length=(X' y).length):jM K P X=jM K P X':=by
 funext k
 unfold jM
 by_cases h1:0≤k∧k.toNat∈K
 ·rw[if_pos h1,if_pos h1,h _ h1.2]
 rw[if_neg h1,if_neg h1]
abbrev slP (P:Option Addr×Nat)(l:List (Nat×Nat)):HP:=sl P.1 P.2 143 2 l.length (pwC l)
def bag (K:List Nat)(P:Nat→Option Addr×Nat)(X:Nat→List (Nat×Nat)):HP:=dP (K.map fun y=>slP (P y) (X y))
theorem bag_out {K:List Nat}{P:Nat→Option Addr×Nat}{X:Nat→List (Nat×Nat)}{y:Nat}{H:List HP}(h:y∈K):∀k,dP (bag K P X::H) k→dP (slP (P y) (X y)::bag (K.erase y) P X::H) k:=fun k x=>by
 have h1:dP (K.map (fun y=>slP (P y) (X y))++H) k:=gK (fun _ y=>y) x
 have h2:=qDn (((List.perm_cons_erase h).map fun y=>slP (P y) (X y)).append_right H) k h1
 exact dY (fun k' y=>fQ (fun _ z=>z) y) h2
theorem qLv {K:List Nat}{P P':Nat→Option Addr×Nat}{X X':Nat→List (Nat×Nat)}(h:∀y∈K,P y=P' y∧X y=X' y):bag K P X=bag K P' X':=by
 unfold bag
 congr 1
 exact List.map_congr_left fun y hy=>by rw[(h y hy).1,(h y hy).2]
theorem qQd {K:List Nat}{P:Nat→Option Addr×Nat}{X:Nat→List (Nat×Nat)}{y:Nat}{H:List HP}(hn:K.Nodup)(h:y∈K)(p:Option Addr)(c:Nat)(l:List (Nat×Nat)):∀k,dP (slP (p,c) l::bag (K.erase y) P X::H) k→dP (bag K (updF P y (p,c)) (updF X y l)::H) k:=fun k x=>by
 have e:bag (K.erase y) P X=bag (K.erase y) (updF P y (p,c)) (updF X y l):=qLv fun z hz=>by
  have hne:z≠y:=fun e=>by subst e;exact(List.Nodup.not_mem_erase hn) hz
  rw[jH _ _ hne,jH _ _ hne]
  exact⟨O,O⟩
 rw[e]at x
 have h1:dP (slP (p,c) l::((K.erase y).map (fun z=>slP (updF P y (p,c) z) (updF X y l z))++H)) k:=dY (fun k' z=>gK (fun _ y=>y) z) x
 have h2:=qDn ((((List.perm_cons_erase h).map fun z=>slP (updF P y (p,c) z) (updF X y l z)).symm).append_right H) k (by
  rw[List.map_cons,kX,kX]
  exact h1)
 exact fQ (fun _ z=>z) h2
theorem bag_new {K:List Nat}{P:Nat→Option Addr×Nat}{X:Nat→List (Nat×Nat)}{y:Nat}{H:List HP}(h:y∉K)(p:Option Addr)(c:Nat)(l:List (Nat×Nat)):∀k,dP (slP (p,c) l::bag K P X::H) k→dP (bag (y::K) (updF P y (p,c)) (updF X y l)::H) k:=fun k x=>by
 have e:bag K P X=bag K (updF P y (p,c)) (updF X y l):=qLv fun z hz=>by
  have hne:z≠y:=fun e=>by subst e;exact h hz
  rw[jH _ _ hne,jH _ _ hne]
  exact⟨O,O⟩
 rw[e]at x
 have h1:dP (slP (p,c) l::(K.map (fun z=>slP (updF P y (p,c) z) (updF X y l z))++H)) k:=dY (fun k' z=>gK (fun _ y=>y) z) x
 unfold bag
 rw[List.map_cons,kX,kX]
 exact fQ (ps:=slP (p,c) l::K.map (fun z=>slP (updF P y (p,c) z) (updF X y l z))) (fun _ z=>z) h1
theorem bag_nil {P:Nat→Option Addr×Nat}{X:Nat→List (Nat×Nat)}{H:List HP}:∀k,dP H k→dP (bag [] P X::H) k:=qJe
theorem qPl (a b:List (Nat×Nat)):pwC (a++b)=pwC a++pwC b:=by simp[pwC]
structure Ix1 (L:List Rl)(f:Nat→Option Nat)(done:Int→Bool)(D K:List Nat)(P:Nat→Option Addr×Nat)(X:Nat→List (Nat×Nat)):Prop where
 dn:∀n:Nat,done ((n:Nat):Int)=decide (n∈D)
 nd:D.Nodup
 fD:∀n∈D,f n≠none
 kn:K.Nodup
 km:∀y,y∈K↔qH L f D y≠[]
 xe:∀y∈K,X y=qH L f D y
theorem Ix1.start {L:List Rl}{f:Nat→Option Nat}{P:Nat→Option Addr×Nat}{X:Nat→List (Nat×Nat)}:Ix1 L f (fun _=>false) [] [] P X:=
 ⟨fun n=>by simp,.nil,fun n h=>by simp at h,.nil,fun y=>by simp[qH],fun y h=>by simp at h⟩
theorem Ix1.skip {L:List Rl}{f:Nat→Option Nat}{done:Int→Bool}{D K:List Nat}{P:Nat→Option Addr×Nat}{X:Nat→List (Nat×Nat)}(h:Ix1 L f done D K P X){n:Nat}(hn:n∉D)(hf:f n≠none)(he:∀y,entP L f y n=none):Ix1 L f (fun x=>x==((n:Nat):Int)||done x) (D++[n]) K P X:=by
 have e:∀y,qH L f (D++[n]) y=qH L f D y:=fun y=>by rw[xB,he y];simp
 refine⟨fun m=>?_,?_,fun m hm=>?_,h.kn,fun y=>by rw[e];exact h.km y,fun y hy=>by rw[e];exact h.xe y hy⟩
 ·simp only[h.dn m]
  by_cases hm:m=n
  ·subst hm;simp
  have:¬((m:Nat):Int)=((n:Nat):Int):=oO
  simp[hm,this]
 ·rw[List.nodup_append];exact⟨h.nd,by simp,fun u hu b hb=>by simp at hb;subst hb;exact fun e=>hn (e▸hu)⟩
 rcases List.mem_append.1 hm with hm|hm
 ·exact h.fD m hm
 simp at hm;subst hm;exact hf
theorem Ix1.add {L:List Rl}{f:Nat→Option Nat}{done:Int→Bool}{D K:List Nat}{P:Nat→Option Addr×Nat}{X:Nat→List (Nat×Nat)}(h:Ix1 L f done D K P X){n y t a:Nat}(hn:n∉D)(hf:f n≠none)(hr:L[n-1]?=some (.power y t))(ha:f n=some a){K':List Nat}(hK:K'=if y∈K then K else y::K)(p:Option Addr)(c:Nat):Ix1 L f (fun x=>x==((n:Nat):Int)||done x) (D++[n]) K' (updF P y (p,c)) (updF X y (qH L f D y++[(t,a)])):=by
 have he:entP L f y n=some (t,a):=by unfold entP;rw[hr,ha];simp
 have ho:∀z,z≠y→entP L f z n=none:=fun z hz=>by unfold entP;rw[hr,ha];simp[Ne.symm hz]
 have e1:qH L f (D++[n]) y=qH L f D y++[(t,a)]:=by rw[xB,he];rfl
 have e2:∀z,z≠y→qH L f (D++[n]) z=qH L f D z:=fun z hz=>by rw[xB,ho z hz];simp
 have hmem:∀x,x∈K'↔x=y∨x∈K:=fun x=>by
  rw[hK]
  split
  ·rename_i hy
   exact⟨.inr,fun h=>by rcases h with rfl|h;exact hy;exact h⟩
  exact List.mem_cons
 refine⟨fun m=>?_,?_,fun m hm=>?_,?_,fun z=>?_,fun z hz=>?_⟩
 ·simp only[h.dn m]
  by_cases hm:m=n
  ·subst hm;simp
  have:¬((m:Nat):Int)=((n:Nat):Int):=oO
  simp[hm,this]
 ·rw[List.nodup_append];exact⟨h.nd,by simp,fun u hu b hb=>by simp at hb;subst hb;exact fun e=>hn (e▸hu)⟩
 ·rcases List.mem_append.1 hm with hm|hm
  ·exact h.fD m hm
  simp at hm;subst hm;exact hf
 ·rw[hK]
  split
  ·exact h.kn
  rename_i hy;exact List.nodup_cons.2 ⟨hy,h.kn⟩
 ·rw[hmem]
  by_cases hz:z=y
  ·subst hz;rw[e1];simp
  rw[e2 z hz,←h.km z];simp[hz]
 by_cases hzy:z=y
 ·subst hzy;rw[kX,e1]
 rw[jH _ _ hzy,e2 z hzy]
 exact h.xe z (by rcases(hmem z).1 hz with e|e;exact absurd e hzy;exact e)
theorem Ix1.all {L:List Rl}{f:Nat→Option Nat}{done:Int→Bool}{D K:List Nat}{P:Nat→Option Addr×Nat}{X:Nat→List (Nat×Nat)}(h:Ix1 L f done D K P X)(hz:f 0=none)(hall:∀n,f n≠none→n∈D):(∀y∈K,X y≠[]∧∀p,p∈X y↔∃i,entP L f y (i+1)=some p)∧∀y,y∉K→∀i,entP L f y (i+1)=none:=by
 have mem:∀y p,p∈qH L f D y↔∃i,entP L f y (i+1)=some p:=fun y p=>by
  unfold qH
  rw[List.mem_filterMap]
  constructor
  ·rintro⟨n,hn,he⟩
   have h0:n≠0:=fun e=>by subst e;exact h.fD 0 hn hz
   exact⟨n-1,by rw[Nat.sub_add_cancel oO];exact he⟩
  rintro⟨i,he⟩
  refine⟨i+1,hall _ fun e=>?_,he⟩
  unfold entP at he
  rw[e]at he
  split at he
  ·rename_i h2;cases h2
  cases he
 refine⟨fun y hy=>⟨by rw[h.xe y hy];exact(h.km y).1 hy,fun p=>by rw[h.xe y hy];exact mem y p⟩,fun y hy i=>?_⟩
 cases e:entP L f y (i+1)with
 |none=>rfl
 |some p=>
  have:=(mem y p).2 ⟨i,e⟩
  exact absurd ((h.km y).2 (List.ne_nil_of_mem this)) hy
theorem qHo {L:List Rl}{f:Nat→Option Nat}{D:List Nat}{y:Nat}:(qH L f D y).length≤D.length:=List.length_filterMap_le _ _
end
section
variable {E:Env}{Es:List Ent}{pp tb s most:Nat}
theorem qSi {f:Nat→Option Nat}{k:Int}{v:Value}(h:mapN f k=some v):∃n a:Nat,k=((n:Nat):Int)∧v= .int .i64 (a:Nat)∧f n=some a:=by
 unfold mapN at h
 split at h
 ·rename_i h0
  cases e:f k.toNat with
  |none=>rw[e]at h;cases h
  |some a=>rw[e]at h;exact⟨k.toNat,a,oO,by simpa using h.symm,e⟩
 cases h
theorem qPh {K:List Nat}{P:Nat→Option Addr×Nat}{X:Nat→List (Nat×Nat)}{k:Int}{v:Value}(h:jM K P X k=some v):∃y:Nat,k=((y:Nat):Int)∧y∈K∧v= .slice (P y).1 (X y).length (P y).2:=by
 unfold jM at h
 split at h
 ·rename_i h0
  exact⟨k.toNat,oO,h0.2,by simpa using h.symm⟩
 cases h
section
variable {c:Code}{Q:Exit→Act→World→Prop}{n:Nat}{L:Fr}{H H':List HP}
theorem qBn {K:List Nat}{P:Nat→Option Addr×Nat}{X:Nat→List (Nat×Nat)}{y:Nat}(hy:y∈K)(ht:Take (bag K P X) H H')(h:WP E c Q n L (sl (P y).1 (P y).2 143 2 (X y).length (pwC (X y))::bag (K.erase y) P X::H')):WP E c Q n L H:=
 jR (fun k x=>bag_out hy k (ht.out x)) h
end
theorem a_rng {e:Exit}{Q:Exit→Act→World→Prop}{n:Nat}{L:Fr}{H H':List HP}{r b:Nat}{ki:IntKind}{f:Int→Option Value}{done:Int→Bool}(ht:Take (rngF r b ki f done) H H')(h:AT E Q e n L (mapF b ki f::H')):AT E Q e n L H:=
 qLk (fun k x=>fP (fun _ y=>rng_map y) (ht.out x)) h
structure N1 where
 done:Int→Bool
 D:List Nat
 K:List Nat
 P:Nat→Option Addr×Nat
 X:Nat→List (Nat×Nat)
structure N2 where
 done:Int→Bool
 D:List Nat
 X:Nat→List (Nat×Nat)
structure Ix2 (L:List Rl)(f:Nat→Option Nat)(K:List Nat)(X0:Nat→List (Nat×Nat))(done:Int→Bool)(D:List Nat)(X:Nat→List (Nat×Nat)):Prop where
 dn:∀n:Nat,n∈K→done ((n:Nat):Int)=decide (n∈D)
 nd:D.Nodup
 DK:∀n∈D,n∈K
 ln:∀y∈K,(X y).length=(X0 y).length
 new:∀y∈K,y∉D→X y=X0 y
 old:∀y∈D,∃Q,X y=sfx Q∧PwOk L f y Q
theorem qLj {α:Type}(f:Nat→α)(y:Nat){v:α}(h:f y=v):updF f y v=f:=by
 funext x
 unfold updF
 split
 ·rename_i e;subst e;exact h.symm
 rfl
theorem Ix2.start {L:List Rl}{f:Nat→Option Nat}{K:List Nat}{X:Nat→List (Nat×Nat)}:Ix2 L f K X (fun _=>false) [] X:=
 ⟨fun n _=>by simp,.nil,fun n h=>by simp at h,fun _ _=>rfl,fun _ _ _=>rfl,fun y h=>by simp at h⟩
theorem Ix2.add {L:List Rl}{f:Nat→Option Nat}{K:List Nat}{X0 X:Nat→List (Nat×Nat)}{done:Int→Bool}{D:List Nat}(h:Ix2 L f K X0 done D X){y:Nat}(hy:y∈K)(hD:y∉D){Q:List (Nat×Nat)}(hl:Q.length=(X0 y).length)(hQ:PwOk L f y Q):Ix2 L f K X0 (fun x=>x==((y:Nat):Int)||done x) (D++[y]) (updF X y (sfx Q)):=by
 refine⟨fun m hm=>?_,?_,fun m hm=>?_,fun z hz=>?_,fun z hz hzD=>?_,fun z hz=>?_⟩
 ·simp only[h.dn m hm]
  by_cases e:m=y
  ·subst e;simp
  have:¬((m:Nat):Int)=((y:Nat):Int):=oO
  simp[e,this]
 ·rw[List.nodup_append];exact⟨h.nd,by simp,fun u hu b hb=>by simp at hb;subst hb;exact fun e=>hD (e▸hu)⟩
 ·rcases List.mem_append.1 hm with hm|hm
  ·exact h.DK m hm
  simp at hm;subst hm;exact hy
 ·by_cases e:z=y
  ·subst e;rw[kX,mH,hl]
  rw[jH _ _ e];exact h.ln z hz
 ·have e:z≠y:=fun e=>hzD (by rw[e];simp)
  rw[jH _ _ e]
  exact h.new z hz fun hh=>hzD (by simp[hh])
 by_cases e:z=y
 ·subst e;exact⟨Q,kX _ _ _,hQ⟩
 rw[jH _ _ e]
 refine h.old z ?_
 rcases List.mem_append.1 hz with hz|hz
 ·exact hz
 simp at hz;exact absurd hz e
theorem last_sfx (Q:List (Nat×Nat))(h:Q≠[]):Q.take (Q.length-1)++sfx (Q.drop (Q.length-1))=Q:=by
 have hp:=List.length_pos_iff.2 h
 have e:Q.drop (Q.length-1)=[Q[Q.length-1]'oO]:=by
  rw[List.drop_eq_getElem_cons oO]
  congr 1
  exact List.drop_of_length_le oO
 rw[e,qTl,←e,List.take_append_drop]
structure IxOk (L:List Rl)(f:Nat→Option Nat)(K:List Nat)(X:Nat→List (Nat×Nat)):Prop where
 kn:K.Nodup
 inn:∀y∈K,X y≠[]∧(X y).length≤65536∧∃Q,X y=sfx Q∧PwOk L f y Q
 out:∀y,y∉K→∀i,entP L f y (i+1)=none
theorem qMv {l:List (Nat×Nat)}{i:Nat}{p:Nat×Nat}(h:l[i]?=some p)(o:Nat)(ho:o=0+i*2):(pwC l)[o]?=some (.int .i64 (p.1:Nat))∧(pwC l)[o+1]?=some (.int .i64 (p.2:Nat)):=by
 subst ho
 induction l generalizing i with
 |nil=>simp at h
 |cons q l ih=>
  cases i with
  |zero=>simp at h;subst h;exact⟨rfl,rfl⟩
  |succ i=>
   rw[List.getElem?_cons_succ]at h
   have:=ih h
   rw[show 0+(i+1)*2=(0+i*2)+1+1 by omega]
   exact this
theorem pwC_set2 {l:List (Nat×Nat)}{i b:Nat}{p:Nat×Nat}(h:l[i]?=some p)(o:Nat)(ho:o=0+i*2+1):bX (pwC l) o [.int .i64 (b:Nat)]=pwC (l.set i (p.1,b)):=by
 subst ho
 induction l generalizing i with
 |nil=>simp at h
 |cons q l ih=>
  cases i with
  |zero=>simp at h;subst h;rfl
  |succ i=>
   rw[List.getElem?_cons_succ]at h
   have:=ih h
   rw[show 0+(i+1)*2+1=(0+i*2+1)+1+1 by omega,List.set_cons_succ]
   unfold pwC at this ⊢
   rw[List.flatMap_cons,List.flatMap_cons,←this]
   rfl
theorem qJz (hE:Seat E){base:Nat}(h2:base≤Es.length)(hn:Es.length<65536):Ct E 34 [uPt s,.int .i64 (base:Nat)] [bR s most Es]
  (fun v Q=>∃bx bm bp K P X,v= .tuple #[uPt bx,.nilIface]∧IxOk (rls Es) (fG (rls Es) base) K X∧Q=[bR s most Es,cells bx [uPt s,.map (some bm),.map (some bp)] 140,mapF bm .i64 (mapN (fG (rls Es) base)),mapF bp .i64 (jM K P X),bag K P X]):=by
 have hm1:E.P.underlying 135=some (.map 24 3):=by rw[hE.P];kernel_rfl
 have hm2:E.P.underlying 138=some (.map 24 141):=by rw[hE.P];kernel_rfl
 refine fF (p:=bR s most Es) uK (fun _ h=>dQ h) (fun hsay=>?_)
 have hw:=hsay.1
 have hLl:=bQ Es
 have hdom:=rR hw (base:=base) oO
 have hz:=qMf hdom
 have hfin:=qAd hw base
 have hbase:=hw.short base
 have hmx:dB=1152921504606846976:=rfl
 have hocc:Ct E 64 [uPt s,.int .i64 (base:Nat)] [bR s most Es] (fun v Q=>∃bm,v= .tuple #[.map (some bm),.nilIface]∧Q=[bR s most Es,mapF bm .i64 (mapN (fG (rls Es) base))]):=by
  rcases Nat.eq_zero_or_pos base with rfl|h1
  ·exact ct_occ0 hE hn
  exact ct_occ1 hE h1 h2 hn
 obtain⟨f,hf⟩:∃f,f=fG (rls Es) base:=⟨_,rfl⟩
 rw[←hf]at hdom hz hfin hocc ⊢
 have hD:∀D:List Nat,D.Nodup→(∀n∈D,f n≠none)→D.length≤Es.length:=fun D hd hfd=>by
  have:=nG (A:=0::D) (B:=List.range (Es.length+1)) (List.nodup_cons.2 ⟨fun h=>hfd 0 h hz,hd⟩) (fun x hx=>List.mem_range.2 (by
   rcases List.mem_cons.1 hx with rfl|hx
   ·omega
   have:=(hdom x (hfd x hx)).pos;omega))
  simp at this
  omega
 refine bO (hE.fn Tryz.func34) O O O (fun R=>?_)
 simp only[dR,uV,uW]
 refine gg10 ?_
 refine uX (hocc) O ?_
 rintro _ _⟨bm,rfl,rfl⟩
 simp only[uV,uW]
 refine gg21 ?_
 refine uU ?_
 refine qP .i64 (fun b27=>?_)
 refine gg1 ?_
 refine uU ?_
 refine jC O (fun b29=>?_)
 refine gg7 ?_
 refine uU ?_
 apply qMq hm1 O uK
 intro br
 refine gg3 ?_
 refine jR (cO uI (bag_nil (P:=fun _=>(none,0)) (X:=fun _=>[]) (H:=[rngF br bm .i64 (mapN f) (fun _=>false),cells b29 [uPt s,.map (some bm),.map (some b27)] 140,mapF b27 .i64 (fun _=>none),bR s most Es,R]))) ?_
 refine dV (fun x:N1=>[(0,uPt s),(8,uPt b29),(31,uPt br)]) (fun x=>[bag x.K x.P x.X,rngF br bm .i64 (mapN f) x.done,cells b29 [uPt s,.map (some bm),.map (some b27)] 140,mapF b27 .i64 (jM x.K x.P x.X),bR s most Es,R]) (fun x=>Es.length+1-x.D.length) (fun x=>Ix1 (rls Es) f x.done x.D x.K x.P x.X) ⟨fun _=>false,[],[],fun _=>(none,0),fun _=>[]⟩ Ix1.start ⟨O,O,O,trivial⟩ (by rw[qSk];(apply ent;(repeat constructor);done)) ?_
 rintro⟨done,D,K,P,X⟩hI
 simp only at hI ⊢
 have hDl:=hD D hI.nd hI.fD
 refine gg2 ?_
 refine uU ?_
 apply qSh O uK
 ·intro hall
  refine gg17 ?_
  obtain⟨hk1,hk2⟩:=hI.all hz fun n hfn=>by
   cases e:f n with
   |none=>exact absurd e hfn
   |some a=>
    have:=hall ((n:Nat):Int) _ (by rw[zB,e];rfl)
    rw[hI.dn n]at this
    simpa using this
  have hXl:∀y∈K,(X y).length≤Es.length:=fun y hy=>by rw[hI.xe y hy];exact Nat.le_trans qHo hDl
  have hXb:∀y∈K,∀p∈X y,p.2<4611686018427387904:=fun y hy p hp=>by
   obtain⟨i,hi⟩:=((hk1 y hy).2 p).1 hp
   unfold entP at hi
   split at hi
   ·rename_i y' t' a' g1 g2
    split at hi
    ·cases hi
     have:=hfin _ _ g2
     simp only
     omega
    cases hi
   cases hi
  refine uU ?_
  apply qMq hm2 O uK
  intro br2
  refine gg3 ?_
  refine dV (fun x:N2=>[(8,uPt b29),(72,uPt br2)]) (fun x=>[bag K P x.X,rngF br2 b27 .i64 (jM K P X) x.done,rngF br bm .i64 (mapN f) done,cells b29 [uPt s,.map (some bm),.map (some b27)] 140,bR s most Es,R]) (fun x=>K.length+1-x.D.length) (fun x=>Ix2 (rls Es) f K X x.done x.D x.X) ⟨fun _=>false,[],X⟩ Ix2.start ⟨O,O,trivial⟩ uI ?_
  rintro⟨done2,D2,X2⟩hJ
  simp only at hJ ⊢
  have hD2:=nG hJ.nd hJ.DK
  refine gg2 ?_
  refine uU ?_
  apply qSh O uK
  ·intro hall2
   refine gg18 ?_
   have hin:∀y∈K,y∈D2:=fun y hy=>by
    have:=hall2 ((y:Nat):Int) _ (zC hy)
    rw[hJ.dn y hy]at this
    simpa using this
   apply a_rng
   ·exact uK
   apply a_rng
   ·exact uK
   rw[qSj fun y hy=>(hJ.ln y hy).symm]
   apply cB
   ·rfl
   ·(apply Rs.tmp rfl;apply Rs.tmp rfl;exact Rs.nil)
   ·refine⟨b29,bm,b27,K,P,X2,O,⟨hI.kn,fun y hy=>⟨?_,?_,hJ.old y (hin y hy)⟩,hk2⟩,O⟩
    ·intro e
     have:=hJ.ln y hy
     rw[e]at this
     exact(hk1 y hy).1 (List.eq_nil_of_length_eq_zero this.symm)
    have:=hJ.ln y hy
    have:=hXl y hy
    omega
   exact uI
  intro k v hk hd
  obtain⟨y,rfl,hyK,rfl⟩:=qPh hk
  rw[hJ.dn y hyK]at hd
  have hyD:y∉D2:=by simpa using hd
  have hnew:=hJ.new y hyK hyD
  have hpos:0<(X y).length:=List.length_pos_iff.2 (hk1 y hyK).1
  have hXy:=hXl y hyK
  have hXby:=hXb y hyK
  refine gg10 ?_
  refine uB (qUq O uK) ?_
  refine vU (fun _ h=>fP (fun _ x=>rngE_F x) h) ?_
  refine gg4 ?_
  apply qBn hyK
  ·exact uK
  rw[hnew]
  refine jU (p:=sl (P y).1 (P y).2 143 2 (X y).length (pwC (X y))) uK (fun _ h=>fB h hpos) ?_
  rintro⟨g,hg⟩
  rw[hg]
  refine gg3 ?_
  refine uX (qRa (l:=X y) (c:=(P y).2) hE oO hXby) O ?_
  rintro _ _⟨Q,rfl,hQl,hQp,hQs,rfl⟩
  have hQ:PwOk (rls Es) f y Q:=⟨hQs,fun p=>(hQp.mem_iff).trans ((hk1 y hyK).2 p)⟩
  have hQne:Q≠[]:=fun e=>by rw[e]at hQl;simp at hQl;omega
  simp only[uV,uW]
  refine gg11 ?_
  refine dV (fun j:Nat=>[(8,uPt b29),(72,uPt br2),(14,.slice (some ⟨g,0,none⟩) (X y).length (P y).2),(15,.int .i64 ((j:Nat)-1:Int))]) (fun j=>[sl (some ⟨g,0,none⟩) (P y).2 143 2 (X y).length (pwC (Q.take j++sfx (Q.drop j))),bag (K.erase y) P X2,rngF br2 b27 .i64 (jM K P X) (fun x=>x==((y:Nat):Int)||done2 x),rngF br bm .i64 (mapN f) done,cells b29 [uPt s,.map (some bm),.map (some b27)] 140,bR s most Es,R]) (fun j=>j) (fun j=>j<Q.length) (Q.length-1) oO ⟨rfl,rfl,rfl,congrArg some (bW oO),trivial⟩ ?_ ?_
  ·rw[last_sfx Q hQne]
   exact uI
  intro j hj
  refine gg7 ?_
  refine bE O (fun h1=>?_) (fun h1=>?_)
  ·obtain⟨i,rfl⟩:∃i,j=i+1:=⟨j-1,oO⟩
   obtain⟨x,hx⟩:∃x,Q[i]?=some x:=⟨_,List.getElem?_eq_getElem oO⟩
   obtain⟨C,hC⟩:∃C,C=Q.take (i+1)++sfx (Q.drop (i+1)):=⟨_,rfl⟩
   have hCl:C.length=Q.length:=by rw[hC,List.length_append,mH,List.length_take,List.length_drop];omega
   have hCi:C[i]?=some x:=by rw[hC,List.getElem?_append_left (by simp;omega),List.getElem?_take,if_pos oO];exact hx
   obtain⟨z,hz2⟩:∃z,C[i+1]?=some z:=⟨_,List.getElem?_eq_getElem oO⟩
   have hstep:=sfx_step hx (y:=z) (by rw[←hC];exact hz2)
   rw[←hC]at hstep
   obtain⟨f0,f0'⟩:=qMv hCi (0+(((i+1:Nat):Int)-1).toNat*2) oO
   obtain⟨f1,f1'⟩:=qMv hz2 (0+(((i+1:Nat):Int)-1+1).toNat*2) oO
   rw[←hC]
   refine gg19 ?_
   refine l_eq 99 (.int .i64 ((min x.2 z.2:Nat):Int)) O (bW oO) ?_
   refine gg11 ?_
   simp only[bP]
   rw[pwC_set2 (i:=i) hCi]
   case ho=>omega
   rw[hstep]
   refine bS (ι:=Nat) (j:=i) oO oO ⟨O,O,O,congrArg some (bW oO),trivial⟩ uI
  obtain rfl:j=0:=by omega
  rw[List.take_zero,List.drop_zero,List.nil_append]
  refine gg5 ?_
  refine bS (ι:=N2) (j:=⟨_,D2++[y],updF X2 y (sfx Q)⟩) (hJ.add hyK hyD hQl hQ) (by simp only[List.length_append,List.length_singleton];omega) ⟨O,O,trivial⟩ ?_
  have hlen:(X y).length=(sfx Q).length:=by rw[mH,hQl]
  have hP:updF P y (some ⟨g,0,none⟩,(P y).2)=P:=qLj P y (by rw[←hg])
  refine cO (m:=[sl (some ⟨g,0,none⟩) (P y).2 143 2 (X y).length (pwC (sfx Q)),bag (K.erase y) P X2,rngF br2 b27 .i64 (jM K P X) (fun x=>x==((y:Nat):Int)||done2 x),rngF br bm .i64 (mapN f) done,cells b29 [uPt s,.map (some bm),.map (some b27)] 140,bR s most Es,R]) uI (fun k h=>?_)
  rw[hlen]at h
  have:=qQd hI.kn hyK (some ⟨g,0,none⟩) (P y).2 (sfx Q) k h
  rw[hP]at this
  exact this
 intro k v hk hd
 obtain⟨n,a,rfl,rfl,hfa⟩:=qSi hk
 rw[hI.dn n]at hd
 have hnD:n∉D:=by simpa using hd
 have hn1:n≠0:=fun e=>by subst e;rw[hz]at hfa;cases hfa
 obtain⟨m,rfl⟩:∃m,n=m+1:=⟨n-1,oO⟩
 have hrea:=(hdom (m+1) (by rw[hfa];simp)).pos
 obtain⟨y,hy⟩:∃y,Es[m]?=some y:=⟨_,List.getElem?_eq_getElem oO⟩
 have hyr:(rls Es)[m]?=some y.r:=tC hy
 have hal:=hfin _ _ hfa
 refine gg10 ?_
 refine uB (qUq O uK) ?_
 refine vU (fun _ h=>fP (fun _ x=>rngE_F x) h) ?_
 refine gg10 ?_
 refine uX (pF hE hy) O ?_
 rintro _ _⟨rfl,rfl⟩
 simp only[uV,uW]
 refine gg3 ?_
 refine uU (cZ (hE.t O) (fun b11=>?_))
 refine gg21 ?_
 generalize y.r=r at hyr ⊢
 cases r with
 |letter b=>
  refine bE O (fun e1=>?_) (fun e1=>?_)
  ·exfalso;simp[Rl.kind]at e1
  refine gg2 ?_
  refine bS (ι:=N1) (j:=⟨_,D++[m+1],K,P,X⟩) (hI.skip hnD (by rw[hfa];simp) fun z=>by unfold entP;rw[Nat.add_sub_cancel,hyr]) (by simp only[List.length_append,List.length_singleton];omega) ⟨rfl,rfl,rfl,trivial⟩ uI
 |pair z q=>
  refine bE O (fun e1=>?_) (fun e1=>?_)
  ·exfalso;simp[Rl.kind]at e1
  refine gg2 ?_
  refine bS (ι:=N1) (j:=⟨_,D++[m+1],K,P,X⟩) (hI.skip hnD (by rw[hfa];simp) fun z=>by unfold entP;rw[Nat.add_sub_cancel,hyr]) (by simp only[List.length_append,List.length_singleton];omega) ⟨rfl,rfl,rfl,trivial⟩ uI
 |power y0 t=>
  refine bE O (fun e1=>?_) (fun e1=>?_)
  ·skip
   by_cases hyK:y0∈K
   ·have hlk:=zC (P:=P) (X:=X) hyK
    have hXl:(X y0).length≤D.length:=by rw[hI.xe y0 hyK];exact qHo
    have hadd:=fun c' g'=>hI.add hnD (by rw[hfa];simp) (by rw[Nat.add_sub_cancel];exact hyr) hfa (K':=K) (by rw[if_pos hyK]) (some ⟨g',0,none⟩) c'
    rw[←hI.xe y0 hyK]at hadd
    apply qBn hyK
    ·exact uK
    refine uN 19 ([cells b29 [uPt s,.map (some bm),.map (some b27)] 140,cells b11 [.int .i64 (Rl.kind ((Rl.power y0 t)):Nat),.int .u8 (Rl.byte ((Rl.power y0 t)):Nat),.int .i64 (Rl.left ((Rl.power y0 t)):Nat),.int .i64 (Rl.right ((Rl.power y0 t)):Nat),.int .i64 (Rl.times ((Rl.power y0 t)):Nat)] 74,mapF b27 .i64 (jM K P X)]) ?_
    refine gg12 ?_
    refine uT 12 O (rG (kt:=24) (et:=141) (z:= .slice none 0 0) (by rw[hE.P];kernel_rfl) (by rw[hE.P];kernel_rfl) (fun w=>by rw[hE.P];kernel_rfl) rfl rfl (by((repeat constructor);done)) (by assumption)) ?_
    refine gg2 ?_
    apply dF 15 O oK
    ·exact aB O
    ·rfl
    apply dF 16 O oK
    ·exact jA (hE.t O) O O
    ·rfl
    apply dX 17 O oK O
    refine aU (hE.t O) (hE.t O) O O O (fun b66=>?_)
    refine uE ?_
    apply dX 18 O oK O
    apply bU (hE.t O) (hE.t O) O O O
    ·exact uK
    ·exact uK
    ·rfl
    ·rfl
    ·omega
    ·omega
    ·(unfold maxLen;omega)
    intro g67 c67 n67 x67 hn67 hx67
    refine uE ?_
    apply gJ O oK oK O
    apply nM (kt:=24) (et:=141) (by rw[hE.P];kernel_rfl) (by rw[hE.P];kernel_rfl) O O O
    ·exact uK
    refine gg1 ?_
    obtain rfl:n67=(X y0++[(t,a)]).length:=by simp;omega
    obtain rfl:x67=pwC (X y0++[(t,a)]):=by rw[hx67,qPl];rfl
    rw[show setF (jM K P X) (((Rl.power y0 t).left:Nat):Int) (.slice (some ⟨g67,0,none⟩) (X y0++[(t,a)]).length c67)=_ from qId (K':=K) (some ⟨g67,0,none⟩) c67 (X y0++[(t,a)]) (fun x=>⟨.inr,fun h=>by rcases h with rfl|h;exact hyK;exact h⟩)]
    refine bS (ι:=N1) (j:=⟨_,D++[m+1],K,updF P y0 (some ⟨g67,0,none⟩,c67),updF X y0 (X y0++[(t,a)])⟩) (hadd c67 g67) (by simp only[List.length_append,List.length_singleton];omega) ⟨O,O,O,trivial⟩ ?_
    refine cO (m:=[slP (some ⟨g67,0,none⟩,c67) (X y0++[(t,a)]),bag (K.erase y0) P X,rngF br bm .i64 (mapN f) _,cells b29 [uPt s,.map (some bm),.map (some b27)] 140,mapF b27 .i64 (jM K (updF P y0 (some ⟨g67,0,none⟩,c67)) (updF X y0 (X y0++[(t,a)]))),bR s most Es,R]) uI (qQd hI.kn hyK _ _ _)
   have hlk:=qIc (P:=P) (X:=X) hyK
   have hadd:=fun c' g'=>hI.add hnD (by rw[hfa];simp) (by rw[Nat.add_sub_cancel];exact hyr) hfa (K':=y0::K) (by rw[if_neg hyK]) (some ⟨g',0,none⟩) c'
   have hemp:qH (rls Es) f D y0=[]:=Classical.byContradiction fun h=>hyK ((hI.km y0).2 h)
   rw[hemp]at hadd
   simp only[List.nil_append]at hadd
   refine jR (gZ (t:=143) (sz:=2)) ?_
   refine uN 19 ([cells b29 [uPt s,.map (some bm),.map (some b27)] 140,cells b11 [.int .i64 (Rl.kind ((Rl.power y0 t)):Nat),.int .u8 (Rl.byte ((Rl.power y0 t)):Nat),.int .i64 (Rl.left ((Rl.power y0 t)):Nat),.int .i64 (Rl.right ((Rl.power y0 t)):Nat),.int .i64 (Rl.times ((Rl.power y0 t)):Nat)] 74,mapF b27 .i64 (jM K P X)]) ?_
   refine gg12 ?_
   refine uT 12 O (rG (kt:=24) (et:=141) (z:= .slice none 0 0) (by rw[hE.P];kernel_rfl) (by rw[hE.P];kernel_rfl) (fun w=>by rw[hE.P];kernel_rfl) rfl rfl (by((repeat constructor);done)) (by assumption)) ?_
   refine gg2 ?_
   apply dF 15 O oK
   ·exact aB O
   ·rfl
   apply dF 16 O oK
   ·exact jA (hE.t O) O O
   ·rfl
   apply dX 17 O oK O
   refine aU (hE.t O) (hE.t O) O O O (fun b66=>?_)
   refine uE ?_
   apply dX 18 O oK O
   apply bU (hE.t O) (hE.t O) O O O
   ·exact uK
   ·exact uK
   ·rfl
   ·rfl
   ·omega
   ·omega
   ·(unfold maxLen;omega)
   intro g67 c67 n67 x67 hn67 hx67
   refine uE ?_
   apply gJ O oK oK O
   apply nM (kt:=24) (et:=141) (by rw[hE.P];kernel_rfl) (by rw[hE.P];kernel_rfl) O O O
   ·exact uK
   refine gg1 ?_
   obtain rfl:n67=([(t,a)]).length:=by simp;omega
   obtain rfl:x67=pwC ([(t,a)]):=by rw[hx67];rfl
   rw[show setF (jM K P X) (((Rl.power y0 t).left:Nat):Int) (.slice (some ⟨g67,0,none⟩) ([(t,a)]).length c67)=_ from qId (K':=y0::K) (some ⟨g67,0,none⟩) c67 ([(t,a)]) (fun x=>List.mem_cons)]
   refine bS (ι:=N1) (j:=⟨_,D++[m+1],y0::K,updF P y0 (some ⟨g67,0,none⟩,c67),updF X y0 ([(t,a)])⟩) (hadd c67 g67) (by simp only[List.length_append,List.length_singleton];omega) ⟨O,O,O,trivial⟩ ?_
   refine cO (m:=[slP (some ⟨g67,0,none⟩,c67) ([(t,a)]),bag K P X,rngF br bm .i64 (mapN f) _,cells b29 [uPt s,.map (some bm),.map (some b27)] 140,mapF b27 .i64 (jM (y0::K) (updF P y0 (some ⟨g67,0,none⟩,c67)) (updF X y0 ([(t,a)]))),bR s most Es,R]) uI (bag_new hyK _ _ _)
  exfalso;simp[Rl.kind]at e1
end
end Go.Proofs.YtblljbllmnbiaaaGreatDoor
