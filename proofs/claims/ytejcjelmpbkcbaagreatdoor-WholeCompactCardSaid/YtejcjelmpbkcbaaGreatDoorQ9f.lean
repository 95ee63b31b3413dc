import Derived.Test.YtejcjelmpbkcbaaGreatDoorQ9W
import Derived.Test.YtejcjelmpbkcbaaGreatDoorQ9e
set_option linter.all false
set_option maxHeartbeats 1000000
namespace Go.Proofs.YtejcjelmpbkcbaaGreatDoor
set_option maxRecDepth 10000
section
open Go Go.RowKit Sl Eg
variable {E:Env}{s:Nat}
def mvR (T:List Nat):Rl->Rl
 | .letter b=> .letter b
 | .pair a b=> .pair (T.getD a 0) (T.getD b 0)
 | .power a k=> .power (T.getD a 0) k
def qNu {T:List Nat}{a:Nat}(h:a<T.length):T[a]?=some (T.getD a 0):=by simp[jg,h]
def ct_rMove (hE:Seat E){r:Rl}{T:List Nat}{gt ct n:Nat}(hT:T.length=n)(hk:∀k∈kids r,k<n):Ct E 100 [.agg #[.int .i64 (Rl.kind (r):Nat),.int .u8 (Rl.byte (r):Nat),.int .i64 (Rl.left (r):Nat),.int .i64 (Rl.right (r):Nat),.int .i64 (Rl.times (r):Nat)],.slice (some ⟨gt,0,none⟩) n ct] [sl (some ⟨gt,0,none⟩) ct 56 1 n (idC T)]
  (fun v Q=>v= .tuple #[.agg #[.int .i64 (Rl.kind ((mvR T r)):Nat),.int .u8 (Rl.byte ((mvR T r)):Nat),.int .i64 (Rl.left ((mvR T r)):Nat),.int .i64 (Rl.right ((mvR T r)):Nat),.int .i64 (Rl.times ((mvR T r)):Nat)],.nilIface]/\Q=[sl (some ⟨gt,0,none⟩) ct 56 1 n (idC T)]):=by
 refine bO (hE.fn Tryz.func100) O O O (fun R=>?_);simp only[dQ,uV,uW];refine gg2 ?_;refine uU ?_;refine gW O (fun b2=>?_);refine uU (dA (hE.t O) (fun b4=>?_));refine gg7 ?_;refine uX (wY hE r) O ?_;rintro _ _⟨pk,ck,rfl,rfl⟩;simp only[uV,uW];refine lQ (p:=sl pk ck 56 1 (kids r).length (idC (kids r))) uK (fun _ h=>fun hpos=>dX h hpos) ?_;intro hp;have hkl:(kids r).length<=2:=by cases r<;>simp[kids]
 refine gg5 ?_;refine dV (fun j:Nat=>[(1,.slice (some ⟨gt,0,none⟩) n ct),(2,uPt b2),(4,uPt b4),(9,.slice pk (kids r).length ck),(10,.int .i64 ((kids r).length:Nat)),(11,.int .i64 (j:Nat))]) (fun j=>[sl (some ⟨gt,0,none⟩) ct 56 1 n (idC T),sl pk ck 56 1 (kids r).length (idC (kids r)),cells b2 [.int .i64 (Rl.kind (r):Nat),.int .u8 (Rl.byte (r):Nat),.int .i64 (Rl.left (r):Nat),.int .i64 (Rl.right (r):Nat),.int .i64 (Rl.times (r):Nat)] 141,cells b4 [.int .i64 0,.int .u8 0,.int .i64 0,.int .i64 0,.int .i64 0] 141,R]) (fun j=>(kids r).length-j) (fun j=>j<=(kids r).length) 0 (au _) ⟨O,O,O,O,O,O,trivial⟩ uI ?_;rintro j hj;refine gg6 ?_;refine bE O (fun h1=>?_) (fun h1=>?_)
 ·have hjl:j<(kids r).length:=oO;obtain⟨gk,rfl⟩:=hp oO;obtain⟨z,hz⟩:∃z,(kids r)[j]?=some z:=⟨_,ah hjl⟩;have hzl:=hk z (ak hz);have f0:=eF hz (((j:Nat):Int).toNat) oO;refine gg27 ?_;refine w_eq 22 (.bool false) O (bg Value.bool (ma oO)) ?_;refine gg8 ?_;refine bS (ι:=Nat) (j:=j+1) oO oO ⟨O,O,O,O,O,bg some (bW oO),trivial⟩ uI
 clear hp h1 hj hkl;refine gg19 ?_;cases r with
 |letter b=>
  simp only[Rl.kind,Rl.byte,Rl.left,Rl.right,Rl.times]
  refine gg19 ?_
  apply cK
  ·rfl
  ·((apply Rs.cell rfl (hE.t rfl) rfl;(focus((repeat(first |rfl|assumption|constructor));done)));apply Rs.tmp rfl;exact Rs.nil)
  ·exact⟨O,O⟩
  exact uI
 |pair a b=>
  simp only[Rl.kind,Rl.byte,Rl.left,Rl.right,Rl.times]
  have ha:=qNu (T:=T) (a:=a) (by have:=hk a (by simp[kids]);omega)
  have hb:=qNu (T:=T) (a:=b) (by have:=hk b (by simp[kids]);omega)
  have hal:=hk a (by simp[kids])
  have hbl:=hk b (by simp[kids])
  have f0:=eF ha (((a:Nat):Int).toNat) oO
  have f1:=eF hb (((b:Nat):Int).toNat) oO
  refine gg1 ?_
  refine gK 11 ([sl (some ⟨gt,0,none⟩) ct 56 1 n (idC T),cells b2 [.int .i64 ((2:Nat):Int),.int .u8 ((0:Nat):Int),.int .i64 (a:Nat),.int .i64 (b:Nat),.int .i64 ((0:Nat):Int)] 141]) [(13,[sl (some ⟨gt,0,none⟩) ct 56 1 n (idC T)])] ?_ ?_
  ·exact uI
  refine uP 0 O (aB O) ?_
  refine uP 1 O (uBf O) ?_
  refine uQ 2 O (uY) ?_
  refine uP 3 O (gY) ?_
  refine uQ 4 O (uY) ?_
  refine uP 5 O (aB O) ?_
  refine uP 6 O (uBf O) ?_
  refine uQ 7 O (uY) ?_
  refine uP 8 O (gY) ?_
  apply s_keep ([sl (some ⟨gt,0,none⟩) ct 56 1 n (idC T)]) 9 O
  ·(apply aO rfl (hE.t rfl) rfl;(repeat(first |rfl|assumption|constructor));done)
  ·with_reducible (repeat(first |exact aF|apply aG|apply aH))
  ·kernel_rfl
  ·kernel_rfl
  ·rfl
  ·(repeat(first |exact trivial |refine⟨by(apply ent;(repeat constructor);done),?_⟩))
  refine uP 10 O (uBf O) ?_
  apply jZ O oK O
  (first |(apply bL rfl rfl (hE.t rfl) rfl;(focus((repeat constructor);done));(focus rfl);(focus(exact bn rfl)))|(apply aS rfl rfl (hE.t rfl) rfl;(focus((repeat constructor);done));(focus rfl);(focus(first |omega |(simp only[bP,aN,bf,dz];omega)))))
  refine uE ?_
  refine uP 12 O (uBf O) ?_
  apply jY O oK oK O
  (first |(apply bL rfl rfl (hE.t rfl) rfl;(focus((repeat constructor);done));(focus rfl);(focus(exact bn rfl)))|(apply aS rfl rfl (hE.t rfl) rfl;(focus((repeat constructor);done));(focus rfl);(focus(first |omega |(simp only[bP,aN,bf,dz];omega)))))
  refine gg10 ?_
  apply cK
  ·rfl
  ·((apply Rs.cell rfl (hE.t rfl) rfl;(focus((repeat(first |rfl|assumption|constructor));done)));apply Rs.tmp rfl;exact Rs.nil)
  ·exact⟨O,O⟩
  exact uI
 |power a k=>
  simp only[Rl.kind,Rl.byte,Rl.left,Rl.right,Rl.times]
  have ha:=qNu (T:=T) (a:=a) (by have:=hk a (by simp[kids]);omega)
  have hal:=hk a (by simp[kids])
  have f0:=eF ha (((a:Nat):Int).toNat) oO
  refine gg27 ?_
  apply cK
  ·rfl
  ·((apply Rs.cell rfl (hE.t rfl) rfl;(focus((repeat(first |rfl|assumption|constructor));done)));apply Rs.tmp rfl;exact Rs.nil)
  ·exact⟨O,O⟩
  exact uI
structure ImH where
 k:Nat
 Es:List Ent
def qRj (hE:Seat E){G:List Rl}{most:Nat}(hw:Wf G)(hGl:G.length<=100000)(hmo:G.length<=most){p:Option Addr}{c:Nat}:Ct E 102 [uPt s,.slice p G.length c] [bR s most [],sl p c 141 5 G.length (rusC G)]
  (fun v Q=>∃Es,v= .tuple #[.int .i64 (G.length:Nat),.nilIface]/\rls Es=G/\Q=[bR s most Es,sl p c 141 5 G.length (rusC G)]):=by
 have hml:G.length+1<=maxLen:=by unfold maxLen;omega
 refine dW (p:=sl p c 141 5 G.length (rusC G)) uK (fun _ h=>fun hpos=>dX h hpos) (fun hp=>?_);refine bO (hE.fn Tryz.func102) O O O (fun R=>?_);simp only[dQ,uV,uW];refine gg25 ?_;refine dV (fun k:Nat=>[(0,uPt s),(1,.slice p G.length c),(17,.slice p G.length c),(18,.int .i64 (G.length:Nat)),(19,.int .i64 (k:Nat))]) (fun k=>[bR s most [],sl p c 141 5 G.length (rusC G),R]) (fun k=>G.length-k) (fun k=>k<=G.length) 0 (au _) ⟨O,O,O,O,O,trivial⟩ uI ?_;rintro k hk;refine gg6 ?_;refine bE O (fun h1=>?_) (fun h1=>?_)
 ·have hkl:k<G.length:=oO;obtain⟨g,rfl⟩:=hp oO;obtain⟨r,hr⟩:∃x,G[k]?=some x:=⟨_,ah hkl⟩;obtain⟨f0,f1,f2,f3,f4⟩:=qYf hr (0+((k:Nat):Int).toNat*5) oO;refine gg9 ?_;refine uU (dA (hE.t O) (fun b7=>?_));refine gg9 ?_;refine l_eq 26 (.int .i64 ((k+1:Nat):Int)) O (bW oO) ?_;refine uX (wX (r:=r) (n:=k+1) hE (hw.ok k r hr) oO oO) O ?_;rintro _ _⟨rfl,rfl⟩;simp only[uV,uW];refine gg17 ?_;refine bS (ι:=Nat) (j:=k+1) oO oO ⟨O,O,O,O,bg some (bW oO),trivial⟩ uI
 refine gg10 ?_;refine l_eq 34 (.int .i64 ((G.length+1:Nat):Int)) O (bW oO) ?_;refine uU ?_;refine tZ (hE.t O) (hE.t O) O oO hml (fun b35=>?_);rw[tkL_zero (Z:=id) rfl];refine gg12 ?_;refine dV (fun x:ImH=>[(0,uPt s),(1,.slice p G.length c),(9,.slice (some ⟨b35,0,none⟩) (G.length+1) (G.length+1)),(36,.slice p G.length c),(37,.int .i64 (G.length:Nat)),(38,.int .i64 (x.k:Nat))]) (fun x=>[bR s most x.Es,sl p c 141 5 G.length (rusC G),sl (some ⟨b35,0,none⟩) (G.length+1) 56 1 (G.length+1) (idC (tkL id (G.length+1) x.k)),R]) (fun x=>G.length-x.k) (fun x=>x.k<=G.length/\rls x.Es=G.take x.k) ⟨0,[]⟩ ⟨au _,O⟩ ⟨O,O,O,O,O,O,trivial⟩ uI ?_;clear hk h1 k;rintro⟨k,Es⟩⟨hk,hEs⟩;simp only at hk hEs ⊢;refine gg6 ?_;refine bE O (fun h1=>?_) (fun h1=>?_)
 ·have hkl:k<G.length:=oO;obtain⟨g,rfl⟩:=hp oO;obtain⟨r,hr⟩:∃x,G[k]?=some x:=⟨_,ah hkl⟩;obtain⟨f0,f1,f2,f3,f4⟩:=qYf hr (0+((k:Nat):Int).toNat*5) oO;have hmk:=imp_ok hw hr;rw[<-hEs]at hmk;have hEl:Es.length=k:=by rw[<-bQ,hEs,fw];omega
  have htl:=qGq id (G.length+1) k;refine gg9 ?_;refine uU (dA (hE.t O) (fun b11=>?_));refine gg9 ?_;refine l_eq 46 (.slice (some ⟨b35,0,none⟩) (tkL id (G.length+1) k).length (G.length+1)) O (by rw[htl]) ?_;refine lT (cO (p:=sl (some ⟨b35,0,none⟩) (G.length+1) 56 1 (G.length+1) (idC (tkL id (G.length+1) k))) (p':=sl (some ⟨b35,0,none⟩) (G.length+1) 56 1 (tkL id (G.length+1) k).length (idC (tkL id (G.length+1) k))) uK (fun _ h=>by rw[htl];exact h)) ?_;refine uX (ct_xPut (s:=s) (most:=most) (Es:=Es) (r:=r) (r':=r) (T:=tkL id (G.length+1) k) (gt:=b35) (ct:=G.length+1) hE oO hmk oO) O ?_;rintro _ _⟨M,i,rfl,hM,hi1,hid,rfl⟩;obtain⟨rfl,hEM⟩:=imp_next hw hr hEs hM hi1 hid;rw[htl];simp only[uV,uW];refine gg27 ?_;rw[tkL_set (Z:=id) (n:=G.length+1) (k:=k) (v:=((k+1:Nat):Int)) oO ((((k:Nat):Int)+1).toNat) oO rfl];refine gg4 ?_;refine bS (ι:=ImH) (j:=⟨k+1,Es++M⟩) ⟨by simp only;omega,hEM⟩ (by simp only;omega) ⟨rfl,rfl,rfl,rfl,rfl,bg some (bW (by simp only;omega)),trivial⟩ uI
 obtain rfl:k=G.length:=by omega
 rw[lw]at hEs;have hat:(tkL id (G.length+1) G.length)[G.length]?=some G.length:=qQy oO (aj _);have f5:=eF hat (((G.length:Nat):Int).toNat) oO;refine gg17 ?_;exact uZ O (.tmp O (.tmp O .nil)) ⟨Es,O,hEs,O⟩
end
section
open Go Go.RowKit Eg
set_option maxRecDepth 100000
section room
variable {w w':World}{s most bm:Nat}{E:List Ent}{lv:Value}
def qTd (w:World)(h:StoreAt w s most E lv bm):
  Calls Tryz.prog 101 #[.pointer (some ⟨s,0,none⟩)] w fun e w'=>e= .returned (.int .i64 ((most:Nat)-(E.length:Nat):Int))/\Below w.heap.size w w':=by
 obtain⟨a,c,rfl,hc⟩:=h.slice;have k0:=h.top.cell 0 O;have k1:=h.top.cell 1 O;have hl:E.length<=1048576:=iw h.fits h.most_le;have hm:most<=1048576:=h.most_le;clear h hc;go_enter Tryz.func101,Tryz.ntmps101
 go_wp2_with fail
 go_region
 all_goals go_wp2_with fail
 all_goals go_ret
 all_goals exact⟨rfl,Below.drew (Below.refl _ _)⟩
end room
open Sl
def ct_room {E:Env}(hE:Seat E){s most:Nat}{Es:List Ent}:Ct E 101 [.pointer (some ⟨s,0,none⟩)] [bR s most Es] (fun v Q=>v= .int .i64 ((most:Nat)-(Es.length:Nat):Int)/\Q=[bR s most Es]):=
 iJ hE fun w _ _ h=>(qTd w h).mono fun _ _⟨h1,h2⟩=>⟨h1,h2⟩
end
section
open Go Go.RowKit Sl Eg
variable {E:Env}{Es:List Ent}{s most:Nat}
structure RcM (L:List Rl)(X:List Nat)(i:Nat)(S:List Nat):Prop where
 ib:i<=S.length
 nd:S.Nodup
 rch:∀x∈S,∃a∈X,Rea L a x
 rt:∀a∈X,a=0\/a∈S
 done:∀(t x:Nat)(r:Rl),t<i->S[t]?=some x->L[x-1]?=some r->∀k∈kids r,k∈S
def RcM.nil (L:List Rl):RcM L [] 0 []:=⟨au _,.nil,fun x h=>(by cases h),fun x h=>(by cases h),fun t x r h=>by omega⟩
variable {L:List Rl}{X:List Nat}{i:Nat}{S:List Nat}
def RcM.rg (h:RcM L X i S)(x:Nat)(hx:x∈S):1<=x/\x<=L.length:=by
 obtain⟨a,_,hr⟩:=h.rch x hx;exact hr.le
def RcM.len (h:RcM L X i S):S.length<=L.length:=AccOk.len ⟨h.nd,fun y hy=>h.rg y hy⟩
def RcM.root {a:Nat}(h:RcM L X 0 S)(ha:a<=L.length):RcM L (X++[a]) 0 (if a=0\/a∈S then S else S++[a]):=by
 by_cases hin:a=0\/a∈S
 ·rw[if_pos hin];refine⟨au _,h.nd,fun x hx=>?_,fun b hb=>?_,fun t x r h=>by omega⟩
  ·obtain⟨b,hb,hr⟩:=h.rch x hx;exact⟨b,iq _ hb,hr⟩
  rcases bi.1 hb with hb|hb
  ·exact h.rt b hb
  rw[az.1 hb];exact hin
 rw[if_neg hin];obtain⟨n,rfl⟩:∃n,a=n+1:=⟨a-1,oO⟩;refine⟨au _,nu.2 ⟨h.nd,by simp,fun u hu v hv e=>hin (.inr (by rw[az.1 hv]at e;exact e▸hu))⟩,fun x hx=>?_,fun b hb=>?_,fun t x r h=>by omega⟩
 ·rcases bi.1 hx with hx|hx
  ·obtain⟨b,hb,hr⟩:=h.rch x hx;exact⟨b,iq _ hb,hr⟩
  rw[az.1 hx];exact⟨n+1,mo _ (by simp),.self oO⟩
 rcases bi.1 hb with hb|hb
 ·rcases h.rt b hb with e| e
  ·exact .inl e
  exact .inr (iq _ e)
 exact .inr (mo _ hb)
def RcM.more (hw:Wf L)(h:RcM L X i S){x z:Nat}{r:Rl}(hx:x∈S)(hr:L[x-1]?=some r)(hz:z∈kids r)(hn:z∉S):RcM L X i (S++[z]):=by
 have hxb:=h.rg x hx;refine⟨by have:=h.ib;rw[ae];omega,nu.2 ⟨h.nd,by simp,fun a ha b hb=>by rw[az.1 hb];exact fun e=>hn (e▸ha)⟩,fun y hy=>?_,fun a ha=>?_,fun t y q ht hy hq k hk=>?_⟩
 ·rcases bi.1 hy with hy|hy
  ·exact h.rch y hy
  rw[az.1 hy];obtain⟨n,rfl⟩:∃n,x=n+1:=⟨x-1,oO⟩;obtain⟨b,hb,hre⟩:=h.rch _ hx;exact⟨b,hb,hre.step hr hz hw⟩
 ·rcases h.rt a ha with e| e
  ·exact .inl e
  exact .inr (iq _ e)
 rw[ax (by have:=h.ib;omega)]at hy;exact iq _ (h.done t y q ht hy hq k hk)
def RcM.next (h:RcM L X i S){x:Nat}{r:Rl}(hx:S[i]?=some x)(hr:L[x-1]?=some r)(hk:∀k∈kids r,k∈S):RcM L X (i+1) S:=
 ⟨(ag.1 hx).1,h.nd,h.rch,h.rt,fun t y q ht hy hq k hkk=>by
   rcases ed t i with hl|hl
   ·exact h.done t y q hl hy hq k hkk
   obtain rfl:t=i:=by omega
   rw[hx]at hy;cases hy
   rw[hr]at hq;cases hq
   exact hk k hkk⟩
def RcM.all (h:RcM L X S.length S)(x:Nat):x∈S↔∃a∈X,Rea L a x:=by
 refine⟨h.rch x,fun⟨a,ha,hr⟩=>?_⟩
 have hc:Closed L S:=fun n r hn hr k hk=>by
  obtain⟨t,ht⟩:=jv hn;exact h.done t (n+1) r (ag.1 ht).1 ht hr k hk
 rcases h.rt a ha with rfl| e
 ·cases hr
 exact hr.inside hc e
def qVh (hE:Seat E){b6 b7 bm c:Nat}{p:Option Addr}{S:List Nat}:
  Ct E 103 [.int .i64 ((0:Nat):Int),uPt b7,uPt b6] [cells b7 [.map (some bm)] 210,cells b6 [.slice p S.length c] 26,mapF bm .i64 (qB (0::S)),sl p c 56 1 S.length (idC S)] (fun v Q=>v= .tuple #[]/\Q=[cells b7 [.map (some bm)] 210,cells b6 [.slice p S.length c] 26,mapF bm .i64 (qB (0::S)),sl p c 56 1 S.length (idC S)]):=by
 have hm1:E.P.underlying 210=some (.map 56 4):=by rw[hE.P];kernel_rfl
 have hm2:E.P.underlying 56=some (.int .i64):=by rw[hE.P];kernel_rfl
 have hm3:∀w,(zeroValue 4).run E.P w= .ok (.bool false) w:=fun w=>by rw[hE.P];kernel_rfl
 refine bO (hE.fn Tryz.func103) O O O (fun R=>?_);simp only[dQ,uV,uW];refine gg4 ?_;refine uB (lV hm1 hm2 hm3 O O uK (qQr oM)) ?_;refine gg5 ?_;exact uZe O .nil ⟨O,O⟩
def qVg (hE:Seat E){b6 b7 bm z c:Nat}{p:Option Addr}{S:List Nat}(hS:S.length<=1048576):
  Ct E 103 [.int .i64 (z:Nat),uPt b7,uPt b6] [cells b7 [.map (some bm)] 210,cells b6 [.slice p S.length c] 26,mapF bm .i64 (qB (0::S)),sl p c 56 1 S.length (idC S)]
   (fun v Q=>v= .tuple #[]/\∃p' c',Q=[cells b7 [.map (some bm)] 210,cells b6 [.slice p' (if z=0\/z∈S then S else S++[z]).length c'] 26,mapF bm .i64 (qB (0::(if z=0\/z∈S then S else S++[z]))),sl p' c' 56 1 (if z=0\/z∈S then S else S++[z]).length (idC (if z=0\/z∈S then S else S++[z]))]):=by
 rcases fu z with rfl|hz
 ·rw[if_pos (.inl rfl)];exact(qVh hE).mono fun v Q⟨h1,h2⟩=>⟨h1,p,c,h2⟩
 have e:(if z=0\/z∈S then S else S++[z])=if z∈S then S else S++[z]:=by
  simp only[show ¬z=0 by omega,false_or]
 rw[e];exact qAx hE hz hS
def qKc (hE:Seat E){X:List Nat}{q:Option Addr}{cq:Nat}(hX:∀a∈X,a<=Es.length) (hn:Es.length<=1048576) (hN:∀S:List Nat,S.Nodup->(∀x∈S,∃a∈X,Rea (rls Es) a x)->S.length<65536) (hXl:X.length<=1000000):
  Ct E 73 [uPt s,.slice q X.length cq] [bR s most Es,sl q cq 56 1 X.length (idC X)]
   (fun v Q=>∃p c V,v= .tuple #[.slice p V.length c,.nilIface]/\(V.Nodup/\V.Pairwise (· <= ·)/\∀x,x∈V↔∃a∈X,Rea (rls Es) a x)/\Q=[bR s most Es,sl q cq 56 1 X.length (idC X),sl p c 56 1 V.length (idC V)]):=by
 refine dW (p:=bR s most Es) uK (fun _ h=>dP h) (fun hsay=>?_);refine dW (p:=sl q cq 56 1 X.length (idC X)) uK (fun _ h=>fun hpos=>dX h hpos) (fun hqf=>?_);have hw:=hsay.1;have hLl:=bQ Es;have hgo:goFn E.P 103=true:=hE.f oK;refine bO (hE.fn Tryz.func73) O O O (fun R=>?_);simp only[dQ,uV,uW];refine gg18 ?_;refine uU (dA (hE.t O) (fun b6=>?_));refine gg4 ?_;refine uU ?_;refine sM .i64 (fun b19=>?_);refine uU ?_;apply qCx (kt:=56) (et:=4) (by rw[hE.P];kernel_rfl) (by rw[hE.P];kernel_rfl) O O O
 ·exact uK
 refine gg1 ?_;refine uU (dA (hE.t O) (fun b7=>?_));refine gg18 ?_;rw[seen0];refine gF (fV (t:=56) (sz:=1)) ?_;refine dV (fun x:RhG=>[(0,uPt s),(6,uPt b6),(8,.func (.func 103) #[] ⟨[uPt b7,uPt b6]⟩),(22,.slice q X.length cq),(23,.int .i64 (X.length:Nat)),(24,.int .i64 (x.i:Nat))]) (fun x=>[bR s most Es,cells b7 [.map (some b19)] 210,cells b6 [.slice x.p x.S.length x.c] 26,mapF b19 .i64 (qB (0::x.S)),sl x.p x.c 56 1 x.S.length (idC x.S),sl q cq 56 1 X.length (idC X),R]) (fun x=>X.length-x.i) (fun x=>x.i<=X.length/\RcM (rls Es) (X.take x.i) 0 x.S) ⟨0,0,[],none,0⟩ ⟨au _,RcM.nil _⟩ ⟨O,O,O,O,O,O,trivial⟩ uI ?_;rintro⟨i,_,S,p,c⟩⟨hi,hI⟩;simp only at hi hI ⊢;have hSl:=hI.len;refine gg6 ?_;refine bE O (fun e1=>?_) (fun e1=>?_)
 ·have hil:i<X.length:=oO;obtain⟨gq,rfl⟩:=hqf oO;obtain⟨a,ha⟩:∃a,X[i]?=some a:=⟨_,ah hil⟩;have haE:=hX a (ak ha);have f1:=eF ha (((i:Nat):Int).toNat) oO;refine gg16 ?_;refine uX (qCa (x:=a) hE haE oO) O ?_;rintro _ _⟨rfl,rfl⟩;simp only[uV,uW];refine gg9 ?_;refine uU ?_;apply xP (hx:=O) (ha:=O) (hf:=hgo)
  ·exact qVg (b6:=b6) (b7:=b7) (bm:=b19) (z:=a) (p:=p) (c:=c) (S:=S) hE oO
  ·exact uK
  rintro _ _⟨rfl,p1,c1,rfl⟩;simp only[uV,uW];refine gg7 ?_;refine bS (ι:=RhG) (j:=⟨i+1,0,if a=0\/a∈S then S else S++[a],p1,c1⟩) ⟨by simp only;omega,?_⟩ (by simp only;omega) ⟨rfl,rfl,rfl,rfl,rfl,bg some (bW (by simp only;omega)),trivial⟩ uI;simp only;rw[di,ha];exact hI.root oO
 obtain rfl:i=X.length:=by omega
 rw[lw]at hI;clear hSl hi;refine gg12 ?_;refine dV (fun x:RhG=>[(0,uPt s),(6,uPt b6),(8,.func (.func 103) #[] ⟨[uPt b7,uPt b6]⟩),(11,.int .i64 (x.i:Nat))]) (fun x=>[bR s most Es,cells b7 [.map (some b19)] 210,cells b6 [.slice x.p x.S.length x.c] 26,mapF b19 .i64 (qB (0::x.S)),sl x.p x.c 56 1 x.S.length (idC x.S),sl q cq 56 1 X.length (idC X),R]) (fun x=>Es.length-x.i) (fun x=>RcM (rls Es) X x.i x.S) ⟨0,0,S,p,c⟩ hI ⟨O,O,O,O,trivial⟩ uI ?_;clear hI;rintro⟨i,_,S,p,c⟩hI;simp only at hI ⊢;have hSl:=hI.len;have hib:=hI.ib;refine gg9 ?_;refine bE O (fun e2=>?_) (fun e2=>?_)
 ·have hil:i<S.length:=oO;obtain⟨x,hx⟩:∃x,S[i]?=some x:=⟨_,ah hil⟩;have hxb:=hI.rg x (ak hx);obtain⟨n,rfl⟩:∃n,x=n+1:=⟨x-1,oO⟩;obtain⟨y,hy⟩:∃y,Es[n]?=some y:=⟨_,ah oO⟩;have hyr:(rls Es)[n+1-1]?=some y.r:=by rw[fe];exact rP hy
  have hkn:(kids y.r).length<=2:=by cases y.r<;>simp[kids]
  refine iY (p:=sl p c 56 1 S.length (idC S)) uK (fun _ h=>dX h oO) ?_;rintro⟨gp,rfl⟩;have f1:=eF hx (((i:Nat):Int).toNat) oO;have f2:=eF hx (0+((i:Nat):Int).toNat) oO;refine gg11 ?_;refine uX (jU hE hy) O ?_;rintro _ _⟨rfl,rfl⟩;simp only[uV,uW];refine gg3 ?_;refine uU (dA (hE.t O) (fun b12=>?_));refine gg17 ?_;refine uX (wY hE y.r) O ?_;rintro _ _⟨pk,ck,rfl,rfl⟩;simp only[uV,uW];refine gg5 ?_;refine iY (p:=sl pk ck 56 1 (kids y.r).length (idC (kids y.r))) uK (fun _ h=>fun hpos=>dX h hpos) ?_;intro hpk;clear f1 f2 hil hSl hib e2
  refine dV (fun x:RhG=>[(0,uPt s),(6,uPt b6),(8,.func (.func 103) #[] ⟨[uPt b7,uPt b6]⟩),(11,.int .i64 (i:Nat)),(56,.slice pk (kids y.r).length ck),(57,.int .i64 ((kids y.r).length:Nat)),(58,.int .i64 (x.j:Nat))]) (fun x=>[bR s most Es,cells b7 [.map (some b19)] 210,cells b6 [.slice x.p x.S.length x.c] 26,mapF b19 .i64 (qB (0::x.S)),sl x.p x.c 56 1 x.S.length (idC x.S),sl pk ck 56 1 (kids y.r).length (idC (kids y.r)),sl q cq 56 1 X.length (idC X),R]) (fun x=>(kids y.r).length-x.j)
   (fun x=>x.j<=(kids y.r).length/\RcM (rls Es) X i x.S/\x.S[i]?=some (n+1)/\∀t k,t<x.j->(kids y.r)[t]?=some k->k∈x.S) ⟨0,0,S,some ⟨gp,0,none⟩,c⟩ ⟨au _,hI,hx,fun t k h=>absurd h (AO _)⟩ ⟨rfl,rfl,rfl,rfl,rfl,rfl,rfl,trivial⟩ uI ?_
  clear hI hx;rintro⟨_,j,S,p,c⟩⟨hj,hI,hx,hall⟩;simp only at hj hI hx hall ⊢;have hSl:=hI.len;refine gg6 ?_;refine bE O (fun e3=>?_) (fun e3=>?_)
  ·have hjl:j<(kids y.r).length:=oO;obtain⟨gk,rfl⟩:=hpk oO;obtain⟨z,hz⟩:∃z,(kids y.r)[j]?=some z:=⟨_,ah hjl⟩;have hzk:=ak hz;have hz1:=(jW (hw.ok _ _ hyr) z hzk).1;have f1:=eF hz (((j:Nat):Int).toNat) oO;refine gg14 ?_;refine uU ?_;apply xP (hx:=O) (ha:=O) (hf:=hgo)
   ·exact qAx (b6:=b6) (b7:=b7) (bm:=b19) (z:=z) (p:=p) (c:=c) (S:=S) hE hz1 oO
   ·exact uK
   rintro _ _⟨rfl,p1,c1,rfl⟩;simp only[uV,uW];by_cases hin:z∈S
   ·rw[if_pos hin];refine gg7 ?_;refine bS (ι:=RhG) (j:=⟨0,j+1,S,p1,c1⟩) ⟨by simp only;omega,hI,hx,fun t k ht hk=>?_⟩ (by simp only;omega) ⟨rfl,rfl,rfl,rfl,rfl,rfl,bg some (bW (by simp only;omega)),trivial⟩ uI;rcases ed t j with h| h
    ·exact hall t k h hk
    obtain rfl:t=j:=by simp only at ht;omega
    rw[hz]at hk;cases hk
    exact hin
   rw[if_neg hin];have hI2:=hI.more hw (ak hx) hyr hzk hin;refine gg7 ?_;refine bS (ι:=RhG) (j:=⟨0,j+1,S++[z],p1,c1⟩) ⟨by simp only;omega,hI2,by simp only;rw[ax (ag.1 hx).1];exact hx,fun t k ht hk=>?_⟩ (by simp only;omega) ⟨rfl,rfl,rfl,rfl,rfl,rfl,bg some (bW (by simp only;omega)),trivial⟩ uI;rcases ed t j with h| h
   ·exact iq _ (hall t k h hk)
   obtain rfl:t=j:=by simp only at ht;omega
   rw[hz]at hk;cases hk
   simp
  have hii:=(ag.1 hx).1;refine gg11 ?_
  refine bS (ι:=RhG) (j:=⟨i+1,0,S,p,c⟩) (hI.next hx hyr fun k hk=>by
   obtain⟨t,ht⟩:=jv hk;exact hall t k (by have:=(ag.1 ht).1;omega) ht) (by have:=(ag.1 hx).1;simp only;omega) ⟨rfl,rfl,rfl,bg some (bW (by simp only;omega)),trivial⟩ uI
 obtain rfl:i=S.length:=by omega
 have hall:=hI.all;have hnd:=hI.nd;have hS6:=hN S hnd hI.rch;rcases fu S.length with h0|h0
 ·obtain rfl:S=[]:=cz h0;refine gg8 ?_;refine uX (qAd hE) O ?_;rintro _ _⟨rfl,rfl⟩;simp only[uV,uW];refine gg10 ?_;exact uZ O (.tmp O (.tmp O .nil)) ⟨p,c,[],O,⟨hnd,.nil,hall⟩,O⟩
 refine iY (p:=sl p c 56 1 S.length (idC S)) uK (fun _ h=>dX h h0) ?_;rintro⟨gp,rfl⟩;refine gg8 ?_;refine uX (yT (l:=S) hE hS6) O ?_;rintro _ _⟨V,rfl,hVl,hVp,hVs,rfl⟩;rw[<-hVl];simp only[uV,uW];refine gg10 ?_;exact uZ O (.tmp O (.tmp O .nil)) ⟨some ⟨gp,0,none⟩,c,V,O,⟨hVp.nodup_iff.2 hnd,hVs,fun x=>hVp.mem_iff.trans (hall x)⟩,O⟩
end
section
open Go Go.RowKit Sl Eg
variable {L:List Rl}{X V:List Nat}
structure RcS (L:List Rl)(X V:List Nat):Prop where
 nd:V.Nodup
 srt:V.Pairwise (· <= ·)
 all:∀x,x∈V↔∃a∈X,Rea L a x
def RcS.le (h:RcS L X V){y:Nat}(hy:y∈V):1<=y/\y<=L.length:=by
 obtain⟨a,_,hr⟩:=(h.all y).1 hy;exact hr.le
def RcS.split (hw:Wf L)(h:RcS L X V):Odr L V:=fun A n B r e hr k hk=>by
 have hn:n+1∈V:=by rw[e];simp
 have hkl:=jW (hw.ok n r hr) k hk
 have hkV:k∈V:=(h.all k).2 (by
  obtain⟨a,ha,hre⟩:=(h.all _).1 hn;exact⟨a,ha,hre.step hr hk hw⟩)
 have hs:=h.srt;rw[e]at hs hkV;rcases bi.1 hkV with h1|h1
 ·exact h1
 have:=(List.pairwise_cons.1 (tq.1 hs).2.1).1;rcases jo.1 h1 with h2|h2
 ·omega
 have:=this k h2;omega
def RcS.lis (hw:Wf L)(h:RcS L X V):Lis L V:=⟨hw,⟨h.nd,fun y hy=>h.le hy⟩,h.split hw⟩
def RcS.root (h:RcS L X V){a:Nat}(ha:a∈X)(h1:1<=a)(h2:a<=L.length):a∈V:=(h.all a).2 ⟨a,ha,by
 obtain⟨n,rfl⟩:∃n,a=n+1:=⟨a-1,oO⟩;exact .self oO⟩
def Iso.dpe {L1 L2:List Rl}(w1:Wf L1)(w2:Wf L2){x y:Nat}(h:Iso L1 L2 x y):Eg.dpe L1 x=Eg.dpe L2 y:=by
 induction h with
 |letter h1 h2=>rw[mD h1,mD h2]
 |pair h1 h2 _ _ i1 i2=>
  rw[tL h1 (w1.ok _ _ h1),tL h2 (w2.ok _ _ h2)]
  unfold dep evn
  rw[i1,i2]
 |power h1 h2 _ i=>
  rw[nR h1 (w1.ok _ _ h1),nR h2 (w2.ok _ _ h2)]
  unfold dep
  rw[i]
def Iso.txG {L1 L2:List Rl}(w1:Wf L1)(w2:Wf L2){x y:Nat}(h:Iso L1 L2 x y):Eg.txt L1 x=Eg.txt L2 y:=by
 induction h with
 |letter h1 h2=>rw[fC h1,fC h2]
 |pair h1 h2 _ _ i1 i2=>rw[iC h1 (w1.ok _ _ h1),iC h2 (w2.ok _ _ h2),i1,i2]
 |power h1 h2 _ i=>rw[iG h1 (w1.ok _ _ h1),iG h2 (w2.ok _ _ h2),i]
def Be.gram (h:Lis L V){x:Nat}{t:List UInt8}(hb:Be L x t)(hx:x=0\/x∈V):Be (gram L V) (numb V x) t:=by
 rcases hx with rfl|hx
 ·have h0:numb V 0=0:=fZ.2 h.zero;rw[h0];have ht:t=[]:=by rw[<-hb.tx,jC]
  rw[ht];exact Be.zero _
 have hi:=h.iso x hx;have hd:=hi.dpe h.wf h.gwf;refine⟨⟨hi.le.2,?_⟩,by rw[<-hi.txG h.wf h.gwf];exact hb.tx⟩;unfold evn;rw[<-hd];exact hb.ev.ev
def qDp (hw:Wf L){B:Nat}(hX:∀a∈X,a<=L.length/\len L a<=B) (S:List Nat) (hS:S.Nodup) (h:∀x∈S,∃a∈X,Rea L a x):S.length<=2*B*X.length:=by
 have h1:=qGs hw X [] hX;have h2:=(vI hw X []).2 (fun n r hn=>by cases hn);refine iw (lL hS fun x hx=>?_) (by simpa using h1);obtain⟨a,ha,hr⟩:=h x hx;refine hr.inside h2.1 (h2.2 a ha ?_ (hX a ha).1);cases hr<;>exact zz _
end
