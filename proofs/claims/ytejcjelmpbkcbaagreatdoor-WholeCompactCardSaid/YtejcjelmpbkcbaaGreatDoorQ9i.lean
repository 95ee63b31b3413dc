import Derived.Test.YtejcjelmpbkcbaaGreatDoorQ9g
set_option linter.all false
set_option maxHeartbeats 1000000
namespace Go.Proofs.YtejcjelmpbkcbaaGreatDoor
open Go Go.RowKit Sl Eg
set_option maxRecDepth 10000
variable {E:Env}{Es:List Ent}{s most:Nat}
def txG (G:List Gc.Cm)(n:Nat):Nat:=(Gc.cmAt G n).tx
def InG (G:List Gc.Cm)(n:Nat):Prop:=∀(i:Nat)(c:Gc.Cm),G[i]?=some c->c.tx<=n
def InG.tx {G:List Gc.Cm}{n m:Nat}(h:InG G n)(hm:m<G.length):txG G m<=n:=h m _ (Gc.cmAt_some hm)
def keep_len {G:List Gc.Cm}{S K:List Nat}(hok:Gc.Ok G)(hS:∀x∈S,x<G.length) (hn:K.Nodup) (hK:∀x,x∈K↔Gc.kp G S x=true):K.length=Gc.pos G S G.length:=by
 have hnd:(Gc.kl G S G.length).Nodup:=by
  unfold Gc.kl;exact List.Pairwise.filter _ List.nodup_range
 have:=(qy hn hnd).2 fun x=>by
  rw[hK,Gc.kl_mem];exact⟨fun h=>⟨Gc.kp_lt hok hS h,h⟩,fun h=>h.2⟩
 exact this.length_eq
structure TxG where
 i:Nat
 xs:List Nat
def qKf (hE:Seat E){g r:Nat}{G:List Gc.Cm}{f:List UInt8->Option Nat}{S:List Nat}(hok:Gc.Ok G)(hl:G.length<=65536)(hf:finG f 12)(hfS:∀x,x∈S↔∃y,f y=some x) (hS:∀x∈S,x<G.length) (htx:InG G Es.length) (hs:Es.length<=1048576):
  Ct E 67 [uPt s,uPt g,uPt r] [bR s most Es,grP g G,tbP r f] (fun v Q=>∃(K:List Nat)(p:Option Addr)(c:Nat)(p2:Option Addr)(c2:Nat),v= .tuple #[.slice p K.length c,.slice p2 K.length c2,.nilIface]/\K.Nodup/\(∀x,x∈K↔Gc.kp G S x=true)/\Q=[bR s most Es,grP g G,tbP r f,sl p c 3 1 K.length (idC K),sl p2 c2 56 1 K.length (idC (K.map (txG G)))]):=by
 refine bO (hE.fn Tryz.func67) O O O (fun R=>?_);simp only[dQ,uV,uW];refine gg21 ?_;refine uX (ct_cKeep hE hok hl hf hfS hS) O ?_;rintro _ _⟨K,p,c,rfl,hKn,hK,rfl⟩;have hKlt:∀x∈K,x<G.length:=fun x hx=>Gc.kp_lt hok hS ((hK x).1 hx)
 have hKl:K.length<=G.length:=by
  have:=lL hKn (B:=List.range G.length) fun x hx=>mh.2 (hKlt x hx)
  simpa using this
 have hml:K.length<=maxLen:=by unfold maxLen;omega
 simp only[uV,uW];refine lQ (p:=sl p c 3 1 K.length (idC K)) uK (fun _ h=>fun hpos=>dX h hpos) ?_;intro hp;refine gg21 ?_;refine uU ?_;refine tZ (hE.t O) (hE.t O) O oO hml (fun b30=>?_);have hz0:List.replicate K.length (Value.int .i64 0)=idC (List.replicate K.length 0):=by simp[idC]
 rw[hz0];refine gg12 ?_;refine dV (fun x:TxG=>[(0,uPt s),(1,uPt g),(9,.slice p K.length c),(11,.slice (some ⟨b30,0,none⟩) K.length K.length),(31,.slice p K.length c),(32,.int .i64 (K.length:Nat)),(33,.int .i64 (x.i:Nat))]) (fun x=>[bR s most Es,grP g G,tbP r f,sl p c 3 1 K.length (idC K),sl (some ⟨b30,0,none⟩) K.length 56 1 K.length (idC x.xs),R]) (fun x=>K.length-x.i) (fun x=>x.i<=K.length/\x.xs.length=K.length/\∀j n,j<x.i->K[j]?=some n->x.xs[j]?=some (txG G n)) ⟨0,List.replicate K.length 0⟩ ⟨au _,by simp,fun j n hj=>by simp only at hj;omega⟩ ⟨rfl,rfl,rfl,rfl,rfl,rfl,rfl,trivial⟩ uI ?_;rintro⟨i,xs⟩⟨hi,hxl,hxs⟩;simp only at hi hxl hxs ⊢;refine gg6 ?_;refine bE O (fun h1=>?_) (fun h1=>?_)
 ·have hiK:i<K.length:=oO;obtain⟨gp,rfl⟩:=hp oO;obtain⟨n,hn⟩:∃n,K[i]?=some n:=⟨_,ah hiK⟩;have hnG:=hKlt n (ak hn);have hc:=Gc.cmAt_some hnG;have htn:=htx.tx hnG;unfold txG at htn;have f0:=eF hn (((i:Nat):Int).toNat) oO;refine gg17 ?_;refine uX (vO hE hc hl) O ?_;rintro _ _⟨⟨cm,a,ka⟩,hcm,rfl,rfl⟩;simp only at hcm;subst hcm;simp only[uV,uW];refine gg3 ?_;refine uU (dA (hE.t O) (fun b14=>?_));refine gg16 ?_;refine uH ([cells b14 [.slice a (paN (Gc.cmAt G n)) ka,.int .i64 ((Gc.cmAt G n).tx:Nat),.string ⟨⟨(Gc.cmAt G n).nt⟩⟩] 71]) ?_;refine gg7 ?_;apply jO 7 O O O oK O;refine uC (wV hE) O ?_;rintro _ _⟨rfl,rfl⟩;simp only[uV,uW];refine uE ?_;refine gg4 ?_;refine bE O (fun h2=>?_) (fun h2=>?_)
  ·exfalso;omega
  refine gg16 ?_;rw[qHu (xs:=xs) (k:=i) oO (((i:Nat):Int).toNat) oO];refine bS (ι:=TxG) (j:=⟨i+1,xs.set i (Gc.cmAt G n).tx⟩) ⟨by simp only;omega,by simp only[ny];exact hxl,fun j m hj hm=>?_⟩ (by simp only;omega) ⟨rfl,rfl,rfl,rfl,rfl,rfl,bg some (bW (by simp only;omega)),trivial⟩ uI;simp only at hj ⊢;by_cases e:i=j
  ·subst e;rw[hn]at hm;cases hm
   rw[oC oO];rfl
  rw[lh e];exact hxs j m oO hm
 obtain rfl:i=K.length:=by omega
 have hxe:xs=K.map (txG G):=by
  apply kz;intro j;rcases ed j K.length with h| h
  ·obtain⟨n,hn⟩:∃n,K[j]?=some n:=⟨_,ah h⟩;rw[hxs j n h hn,bu,hn];rfl
  rw[fq oO,fq (by simpa using h)]
 refine gg15 ?_;apply cK
 ·rfl
 ·(apply Rs.tmp rfl;apply Rs.tmp rfl;apply Rs.tmp rfl;exact Rs.nil)
 ·exact⟨K,p,c,some ⟨b30,0,none⟩,_,O,hKn,hK,O⟩
 rw[hxe];exact uI
def qUf (hE:Seat E){g r:Nat}{G:List Gc.Cm}{f:List UInt8->Option Nat}{S:List Nat}(hok:Gc.Ok G)(hl:G.length<=65536)(hf:finG f 12)(hfS:∀x,x∈S↔∃y,f y=some x) (hS:∀x∈S,x<G.length) (htx:InG G Es.length) (hs:Es.length<=1048576) (hN:∀S:List Nat,S.Nodup->(∀x∈S,∃n,n<G.length/\Rea (rls Es) (txG G n) x)->S.length<65536):
  Ct E 35 [uPt s,uPt g,uPt r] [bR s most Es,grP g G,tbP r f] (fun v Q=>∃k:Nat,v= .tuple #[.agg #[.int .i64 (G.length:Nat),.int .i64 (Es.length:Nat),.int .i64 (Gc.pos G S G.length:Nat),.int .i64 (k:Nat)],.nilIface]/\Q=[bR s most Es,grP g G,tbP r f]):=by
 refine bO (hE.fn Tryz.func35) O O O (fun R=>?_);simp only[dQ,uV,uW];refine gg2 ?_;refine uU (dA (hE.t O) (fun b6=>?_));refine gg8 ?_;refine uX (qKf hE hok hl hf hfS hS htx hs) O ?_;rintro _ _⟨K,p,c,p2,c2,rfl,hKn,hK,rfl⟩;have hKlt:∀x∈K,x<G.length:=fun x hx=>Gc.kp_lt hok hS ((hK x).1 hx)
 have hKl:=keep_len hok hS hKn hK
 have hKG:K.length<=G.length:=by
  have:=lL hKn (B:=List.range G.length) fun x hx=>mh.2 (hKlt x hx)
  simpa using this
 have hXl:(K.map (txG G)).length=K.length:=ic _
 have hXle:∀a∈K.map (txG G),a<=Es.length:=fun a ha=>by
  obtain⟨n,hn,rfl⟩:=dw.1 ha;exact htx.tx (hKlt n hn)
 have hNX:∀S:List Nat,S.Nodup->(∀x∈S,∃a∈K.map (txG G),Rea (rls Es) a x)->S.length<65536:=fun S h1 h2=>hN S h1 fun x hx=>by
  obtain⟨a,ha,hr⟩:=h2 x hx;obtain⟨n,hn,rfl⟩:=dw.1 ha;exact⟨n,hKlt n hn,hr⟩
 simp only[uV,uW];refine gg23 ?_;rw[<-hXl];refine uX (qKc hE (X:=K.map (txG G)) hXle hs hNX oO) O ?_;rintro _ _⟨p3,c3,V,rfl,hV,rfl⟩;rw[hXl];simp only[uV,uW];refine gg20 ?_;refine uX (qW hE) O ?_;rintro _ _⟨rfl,rfl⟩;simp only[uV,uW];refine gg1 ?_;refine uX (wV hE) O ?_;rintro _ _⟨rfl,rfl⟩;simp only[uV,uW];refine gg10 ?_;apply cK
 ·rfl
 ·((apply Rs.cell rfl (hE.t rfl) rfl;(focus((repeat(first |rfl|assumption|constructor));done)));apply Rs.tmp rfl;exact Rs.nil)
 ·exact⟨V.length,by rw[<-hKl];rfl,rfl⟩
 exact uI
end Go.Proofs.YtejcjelmpbkcbaaGreatDoor
namespace Gc
def keepG_map (G:List Cm)(S:List Nat)(f:Nat->Nat)(n:Nat):keepG G S f n=(keepG G S id n).map fun c=>⟨c.pa,f c.tx,c.nt⟩:=by
 unfold keepG;rw[nz];rfl
def keepG_in {G:List Cm}(hok:Ok G){S:List Nat}(hS:∀x∈S,x<G.length) {f:Nat->Nat} {i:Nat} {c:Cm} (h:(keepG G S f G.length)[i]?=some c):∃n,kp G S n=true/\n<G.length/\pos G S n=i/\c=mvC G S f (cmAt G n):=by
 unfold keepG at h;rw[bu]at h;cases hn:(kl G S G.length)[i]? with
 |none=>rw[hn]at h;cases h
 |some n=>
  rw[hn]at h
  obtain⟨h1,h2,h3⟩:=qWq hn
  exact⟨n,h2,h1,h3,(mg h).symm⟩
end Gc
namespace Go.Proofs.YtejcjelmpbkcbaaGreatDoor
open Go Go.RowKit Sl Eg
set_option maxRecDepth 10000
section
variable {E:Env}{Es:List Ent}{s most:Nat}
def ct_cOf (hE:Seat E){g r m2:Nat}{G:List Gc.Cm}{f:List UInt8->Option Nat}{S:List Nat}(hok:Gc.Ok G)(hl:G.length<=1000)(hf:finG f 12)(hfS:∀x,x∈S↔∃y,f y=some x) (hS:∀x∈S,x<G.length) (htx:InG G Es.length) (hnt:∀(i:Nat)(c:Gc.Cm),G[i]?=some c->c.nt.length<=200) (hs:Es.length<=1048576) (hN:∀S:List Nat,S.Nodup->(∀x∈S,∃n,n<G.length/\Rea (rls Es) (txG G n) x)->S.length<65536) (hm2:m2=1048576):
  Ct E 31 [uPt s,uPt g,uPt r,.int .i64 (m2:Nat)] [bR s most Es,grP g G,tbP r f] (fun v Q=>∃(V:List Nat)(s2 h q:Nat)(M2:List Ent),v= .tuple #[uPt s2,uPt h,uPt q,.nilIface]/\Lis (rls Es) V/\V.length<65536/\(∀n,Gc.kp G S n=true->txG G n=0\/txG G n∈V)/\rls M2=gram (rls Es) V/\
   Q=[bR s most Es,grP g G,tbP r f,bR s2 m2 M2,grP h (Gc.keepG G S (numb V) G.length),tbP q (fun y=>(f y).map (Gc.pos G S))]):=by
 refine dW (p:=bR s most Es) uK (fun _ h=>dP h) (fun hsay=>?_);have hw:=hsay.1;have hLl:=bQ Es;refine bO (hE.fn Tryz.func31) O O O (fun R=>?_);simp only[dQ,uV,uW];refine gg13 ?_;refine uX (qKf hE hok oO hf hfS hS htx hs) O ?_;rintro _ _⟨K,p,c,p2,c2,rfl,hKn,hK,rfl⟩;have hKlt:∀x∈K,x<G.length:=fun x hx=>Gc.kp_lt hok hS ((hK x).1 hx)
 have hKG:K.length<=G.length:=by
  have:=lL hKn (B:=List.range G.length) fun x hx=>mh.2 (hKlt x hx)
  simpa using this
 have hXl:(K.map (txG G)).length=K.length:=ic _
 have hXle:∀a∈K.map (txG G),a<=Es.length:=fun a ha=>by
  obtain⟨n,hn,rfl⟩:=dw.1 ha;exact htx.tx (hKlt n hn)
 have hNX:∀S:List Nat,S.Nodup->(∀x∈S,∃a∈K.map (txG G),Rea (rls Es) a x)->S.length<65536:=fun S h1 h2=>hN S h1 fun x hx=>by
  obtain⟨a,ha,hr⟩:=h2 x hx;obtain⟨n,hn,rfl⟩:=dw.1 ha;exact⟨n,hKlt n hn,hr⟩
 simp only[uV,uW];refine lQ (p:=sl p2 c2 56 1 K.length (idC (K.map (txG G)))) uK (fun _ h=>fun hpos=>dX h hpos) ?_;intro hp2;refine gg22 ?_;refine uX (ct_coNew (s:=s) hE) O ?_;rintro _ _⟨t,b,rfl,rfl⟩;simp only[uV,uW];refine gg12 ?_;have e0:([]:List Nat)=(K.map (txG G)).take 0:=rfl;rw[e0];refine dV (fun i:Nat=>[(0,uPt s),(1,uPt g),(2,uPt r),(3,.int .i64 (m2:Nat)),(12,.slice p K.length c),(15,uPt t),(43,.slice p2 K.length c2),(44,.int .i64 (K.length:Nat)),(45,.int .i64 (i:Nat))]) (fun i=>[cells t [uPt s,.map (some b)] 224,mapF b .i64 (heF ((K.map (txG G)).take i)),bR s most Es,grP g G,tbP r f,sl p c 3 1 K.length (idC K),sl p2 c2 56 1 K.length (idC (K.map (txG G))),R]) (fun i=>K.length-i) (fun i=>i<=K.length) 0 (au _) ⟨O,O,O,O,O,O,O,O,O,trivial⟩ uI ?_;rintro i hi;refine gg6 ?_;refine bE O (fun h1=>?_) (fun h1=>?_)
 ·have hiK:i<K.length:=oO;obtain⟨gp2,rfl⟩:=hp2 oO;obtain⟨x,hx⟩:∃x,(K.map (txG G))[i]?=some x:=⟨_,ah oO⟩;have hxl:=hXle x (ak hx);have f0:=eF hx (((i:Nat):Int).toNat) oO;have hHl:((K.map (txG G)).take i).length<=100000:=by rw[fw];omega
  refine gg15 ?_;refine uX (qUh (x:=x) hE hxl hs hHl) O ?_;rintro _ _⟨rfl,rfl⟩;simp only[uV,uW];have e1:(K.map (txG G)).take i++[x]=(K.map (txG G)).take (i+1):=by rw[di,hx];rfl
  rw[e1];refine gg17 ?_;refine bS (ι:=Nat) (j:=i+1) oO oO ⟨O,O,O,O,O,O,O,O,bg some (bW oO),trivial⟩ uI
 obtain rfl:i=K.length:=by omega
 have e2:(K.map (txG G)).take K.length=K.map (txG G):=by rw[<-hXl,lw]
 rw[e2];clear h1 hi;refine gg9 ?_;refine uX (qRq hE oO hXle hs hNX hm2) O ?_;rintro _ _⟨V,s2,M2,p3,c3,rfl,hR,hVl,hM2,rfl⟩;have hlis:=hR.lis hw
 have hV0:∀n,Gc.kp G S n=true->txG G n=0\/txG G n∈V:=fun n hn=>by
  rcases fu (txG G n)with e| e
  ·exact .inl e
  have hm:txG G n∈K.map (txG G):=dw.2 ⟨n,(hK n).2 hn,O⟩;exact .inr (hR.root hm e (by rw[hLl];exact hXle _ hm))
 simp only[uV,uW];refine gg23 ?_;refine uX (ct_gKeep hE hok hS oO hKn hK) O ?_;rintro _ _⟨g2,p4,c4,zs,rfl,hzl,hzs,rfl⟩;simp only[uV,uW];refine gg21 ?_;refine uX (qHg hE) O ?_;rintro _ _⟨h,rfl,rfl⟩;simp only[uV,uW];refine gg7 ?_;refine uX (qW hE) O ?_;rintro _ _⟨rfl,rfl⟩;simp only[uV,uW];have hkl:=Gc.keepG_len G S id G.length;have hkm:=Gc.keepG_map G S (numb V) G.length;have hkk:=Gc.keep_ok hok hS (numb V)
 have hps:Gc.pos G S G.length<=G.length:=by
  have:Gc.pos G S G.length=(Gc.kl G S G.length).length:=rfl;rw[this];unfold Gc.kl;exact iw (uo _ _) (by simp)
 obtain⟨G2,hG2⟩:∃G2,G2=Gc.keepG G S id G.length:=⟨_,rfl⟩;obtain⟨G3,hG3⟩:∃G3,G3=Gc.keepG G S (numb V) G.length:=⟨_,rfl⟩;rw[<-hG2]at hkl hkm ⊢;rw[<-hG3]at hkm hkk;have hG3l:G3.length=G2.length:=by rw[hkm,ic]
 refine gg4 ?_;have e3:([]:List Gc.Cm)=G3.take 0:=rfl;rw[e3];refine dV (fun i:Nat=>[(2,uPt r),(19,uPt s2),(20,.slice (some ⟨p3,0,none⟩) (Es.length+1) c3),(21,uPt g2),(22,.slice p4 G.length c4),(23,uPt h),(78,.int .i64 (G2.length:Nat)),(79,.int .i64 (i:Nat))]) (fun i=>[bR s most Es,bR s2 m2 M2,sl (some ⟨p3,0,none⟩) c3 56 1 (Es.length+1) (idC (toW V Es.length)),grP g G,tbP r f,grP g2 G2,sl p4 c4 3 1 G.length (inC zs),grP h (G3.take i),R]) (fun i=>G2.length-i) (fun i=>i<=G2.length) 0 (au _) ⟨O,O,O,O,O,O,O,O,trivial⟩ uI ?_;rintro i hi;refine gg6 ?_;refine bE O (fun h1=>?_) (fun h1=>?_)
 ·have hiK:i<G2.length:=oO;obtain⟨c0,hc0⟩:∃c0,G2[i]?=some c0:=⟨_,ah hiK⟩;have hc0':=hc0;rw[hG2]at hc0';obtain⟨n,hn1,hn2,hn3,hcn⟩:=Gc.keepG_in hok hS hc0';have h3c:G3[i]?=some ⟨c0.pa,numb V c0.tx,c0.nt⟩:=by rw[hkm,bu,hc0];rfl
  have htl:c0.tx<=Es.length:=by rw[hcn];exact htx.tx hn2
  have hnl:c0.nt.length<=200:=by rw[hcn];exact hnt n (Gc.cmAt G n) (Gc.cmAt_some hn2)
  have hpl:∀q,c0.pa=some q->q<i:=fun q hq=>hkk i _ q h3c hq
  clear hcn;have hG3i:(G3.take i).length=i:=by rw[fw];omega
  obtain⟨pa,tx,nt⟩:=c0;simp only at h3c htl hnl hpl;have hpl2:∀q,pa=some q->q<(G3.take i).length:=fun q hq=>by rw[hG3i];exact hpl q hq
  refine gg14 ?_;refine uX (vO hE hc0 oO) O ?_;rintro _ _⟨⟨cm,a,ka⟩,hcm,rfl,rfl⟩;simp only at hcm;subst hcm;simp only[uV,uW];have f0:=eF (qMk (V:=V) htl) (((tx:Nat):Int).toNat) oO;refine gg3 ?_;refine uU (dA (hE.t O) (fun b25=>?_));refine gg29 ?_;refine lT (cO (p:=paH ⟨⟨pa,tx,nt⟩,a,ka⟩) (p':=paH ⟨⟨pa,numb V tx,nt⟩,a,ka⟩) uK (fun _ h=>h)) ?_;refine uX (qMy (x:=⟨⟨pa,numb V tx,nt⟩,a,ka⟩) hE hpl2 hnl oO) O ?_;rintro _ _⟨rfl,rfl⟩;simp only[uV,uW];have e4:G3.take i++[(⟨pa,numb V tx,nt⟩:Gc.Cm)]=G3.take (i+1):=by rw[di,h3c];rfl
  rw[e4];refine gg21 ?_;refine bS (ι:=Nat) (j:=i+1) oO oO ⟨O,O,O,O,O,O,O,bg some (bW oO),trivial⟩ uI
 obtain rfl:i=G2.length:=by omega
 have e5:G3.take G2.length=G3:=by rw[<-hG3l,lw]
 rw[e5];subst hG3
 have hz:∀y m,f y=some m->m<G.length/\zs[m]?=some ((Gc.pos G S m:Nat):Int):=fun y m hy=>by
  have hm:m∈S:=(hfS m).2 ⟨y,hy⟩;refine⟨hS m hm,?_⟩;rw[hzs m (hS m hm)];unfold Gc.tz;rw[if_pos (Gc.kp_self hok hm)]
 refine gg9 ?_;refine uX (ct_tMove (mv:=Gc.pos G S) hE hf hz) O ?_;rintro _ _⟨q,rfl,rfl⟩;simp only[uV,uW];refine gg29 ?_;exact uZ O (.tmp O (.tmp O (.tmp O (.tmp O .nil)))) ⟨V,s2,h,q,M2,O,hlis,hVl,hV0,hM2,O⟩
end
section
variable {E:Env}
def parW (zs:List Int)(i:Nat):Option Nat:=if 0<i then(match zs[i]? with
 |some z=>if 0<=z then some (z.toNat%i)else none
 |none=>none)else none
def qXk {zs:List Int}{i p:Nat}(h:parW zs i=some p):p<i:=by
 unfold parW at h;split at h
 ·rename_i h0
  cases e:zs[i]? with
  |none=>rw[e]at h;cases h
  |some z=>
   rw[e]at h
   simp only at h
   split at h
   ·rw[<-mg h]
    exact qz _ h0
   cases h
 cases h
def cmW (ids:List Nat)(zs:List Int)(i:Nat):Gc.Cm:=⟨parW zs i,idW ids i,nmW i⟩
def gphW (ids:List Nat)(zs:List Int)(k:Nat):List Gc.Cm:=(List.range k).map (cmW ids zs)
def xK (ids:List Nat)(zs:List Int)(k:Nat):(gphW ids zs k).length=k:=by simp[gphW]
def qWd (ids:List Nat)(zs:List Int)(k:Nat):gphW ids zs k++[cmW ids zs k]=gphW ids zs (k+1):=by
 unfold gphW;rw[List.range_succ,jh];rfl
def qNv {ids:List Nat}{zs:List Int}{k i:Nat}(h:i<k):(gphW ids zs k)[i]?=some (cmW ids zs i):=by
 unfold gphW;rw[bu,lu h];rfl
def qHr {ids:List Nat}{zs:List Int}{k i:Nat}{c:Gc.Cm}(h:(gphW ids zs k)[i]?=some c):i<k/\c=cmW ids zs i:=by
 have hi:=(ag.1 h).1;rw[xK]at hi;rw[qNv hi]at h;exact⟨hi,(mg h).symm⟩
def gphW_ok (ids:List Nat)(zs:List Int)(k:Nat):Gc.Ok (gphW ids zs k):=fun i c p hc hp=>by
 obtain⟨hi,rfl⟩:=qHr hc;exact qXk hp
def qWc {ids:List Nat}{zs:List Int}{k i:Nat}(h:i<k):Gc.cmAt (gphW ids zs k) i=cmW ids zs i:=Gc.cmAt_get (qNv h)
def qWe {ids:List Nat}{zs:List Int}{k i:Nat}(h:i<k):txG (gphW ids zs k) i=idW ids i:=by
 unfold txG;rw[qWc h];rfl
def gphW_nt {ids:List Nat}{zs:List Int}{k:Nat}(i:Nat)(c:Gc.Cm)(h:(gphW ids zs k)[i]?=some c):c.nt.length<=200:=by
 obtain⟨_,rfl⟩:=qHr h;exact bn O
def hdK (h:Nat->Nat):Nat->List UInt8->Option Nat
 |0=>fun _=>none
 |k+1=>setG (hdK h k) (nmW k) (h k)
def tV {h:Nat->Nat}{x:List UInt8}{v:Nat}:∀{k:Nat},hdK h k x=some v->∃i,i<k/\x=nmW i/\v=h i
 |0,e=>by cases e
 |k+1,e=>by
  unfold hdK setG at e;split at e
  ·rename_i hx
   exact⟨k,oO,hx,(mg e).symm⟩
  obtain⟨i,h1,h2,h3⟩:=tV e;exact⟨i,oO,h2,h3⟩
def qPu {h:Nat->Nat}{i:Nat}:∀{k:Nat},i<k->k<=26->hdK h k (nmW i)=some (h i)
 |0,h1,_=>by omega
 |k+1,h1,h2=>by
  unfold hdK setG;by_cases e:i=k
  ·subst e;rw[if_pos rfl]
  rw[if_neg (fun e2=>e (qXc oO oO e2))];exact qPu oO oO
def hdK_new {h:Nat->Nat}{k:Nat}(hk:k<26):hdK h k (nmW k)=none:=by
 cases e:hdK h k (nmW k)with
 |none=>rfl
 |some v=>
  obtain⟨i,h1,h2,_⟩:=tV e
  have:=qXc hk oO h2
  omega
def qWi (h p:Nat->Nat):∀k,(fun y=>(hdK h k y).map p)=hdK (fun i=>p (h i)) k
 |0=>rfl
 |k+1=>by
  funext y;unfold hdK setG;by_cases e:y=nmW k
  ·rw[if_pos e,if_pos e];rfl
  rw[if_neg e,if_neg e];exact congrFun (qWi h p k) y
def qWh (h:Nat->Nat){k:Nat}(hk:k<=12):finG (hdK h k) 12:=⟨(List.range k).map nmW,by simpa using hk,fun x hx=>by
 obtain⟨v,hv⟩:=uy.1 hx;obtain⟨i,h1,rfl,_⟩:=tV hv;exact dw.2 ⟨i,mh.2 h1,O⟩⟩
def hdK_S (h:Nat->Nat){k:Nat}(hk:k<=26)(x:Nat):x∈(List.range k).map h↔∃y,hdK h k y=some x:=by
 rw[dw];constructor
 ·rintro⟨i,hi,rfl⟩;exact⟨nmW i,qPu (mh.1 hi) hk⟩
 rintro⟨y,hy⟩;obtain⟨i,h1,_,rfl⟩:=tV hy;exact⟨i,mh.2 h1,O⟩
def qWj (h:Nat->Nat){k:Nat}(hk:k<=26)(y:List UInt8)(hy:hdK h k y≠none):ValidN y:=by
 obtain⟨v,hv⟩:=uy.1 hy;obtain⟨i,h1,rfl,_⟩:=tV hv;exact xU ⟨i,oO⟩
def Kys.uniq {F:List UInt8->Option Value}{l l':List (List UInt8)}(h:Kys F l)(h':Kys F l'):l=l':=by
 have hp:l.Perm l':=(qy h.nd h'.nd).2 fun x=>by rw[h.mem,h'.mem]
 exact hp.eq_of_pairwise (fun a b _ _ h1 h2=>qBt.1 (by have:=qE a b;omega)) h.srt h'.srt
def retx (G:List Gc.Cm)(f:Nat->Nat):List Gc.Cm:=G.map fun c=>⟨c.pa,f c.tx,c.nt⟩
def qNj (hE:Seat E){a b:Nat}{G:List Gc.Cm}{F:Nat->Nat}(hok:Gc.Ok G)(hS:SmG (retx G F))(hnt:∀(i:Nat)(c:Gc.Cm),G[i]?=some c->c.nt.length<=200) (hl:G.length<=1000):
  Ct E 37 [uPt a,uPt b] [grP a (retx G F),grP b G] (fun v Q=>∃g c,v= .slice (some ⟨g,0,none⟩) (putG (retx G F)).length c/\Q=[grP a (retx G F),grP b G,sl (some ⟨g,0,none⟩) c 5 1 (putG (retx G F)).length (byC (putG (retx G F)))]):=by
 have hrl:(retx G F).length=G.length:=ic _;obtain⟨G2,hG2⟩:∃G2,G2=retx G F:=⟨_,rfl⟩;rw[<-hG2]at hS hrl ⊢;refine bO (hE.fn Tryz.func37) O O O (fun R=>?_);simp only[dQ,uV,uW];refine gg7 ?_;refine uX (qHg hE) O ?_;rintro _ _⟨h,rfl,rfl⟩;simp only[uV,uW];refine gg7 ?_;refine uX (qW hE) O ?_;rintro _ _⟨rfl,rfl⟩;simp only[uV,uW];refine gg1 ?_;refine uX (qW hE) O ?_;rintro _ _⟨rfl,rfl⟩;simp only[uV,uW];refine gg3 ?_;refine bE O (fun h0=>?_) (fun h0=>?_)
 ·exfalso;omega
 clear h0;refine gg9 ?_;have e0:([]:List Gc.Cm)=G2.take 0:=rfl;rw[e0];refine dV (fun i:Nat=>[(0,uPt a),(1,uPt b),(5,uPt h),(6,.int .i64 (i:Nat))]) (fun i=>[grP a G2,grP b G,grP h (G2.take i),R]) (fun i=>G.length-i) (fun i=>i<=G.length) 0 (au _) ⟨O,O,O,O,trivial⟩ uI ?_;rintro i hi;refine gg5 ?_;refine uX (qW hE) O ?_;rintro _ _⟨rfl,rfl⟩;simp only[uV,uW];refine gg3 ?_;refine bE O (fun h1=>?_) (fun h1=>?_)
 ·have hiG:i<G.length:=oO;obtain⟨⟨pa,tx,nt⟩,hc⟩:∃c,G[i]?=some c:=⟨_,ah hiG⟩;have hc2:G2[i]?=some ⟨pa,F tx,nt⟩:=by rw[hG2];unfold retx;rw[bu,hc];rfl
  have hnl:=hnt i _ hc
  have hpl2:∀q,pa=some q->q<(G2.take i).length:=fun q hq=>by
   rw[fw];have:=hok i _ q hc hq;omega
  simp only at hnl;refine gg8 ?_;refine uX (vO hE hc oO) O ?_;rintro _ _⟨⟨cm,aa,ka⟩,hcm,rfl,rfl⟩;simp only at hcm;subst hcm;simp only[uV,uW];refine gg3 ?_;refine uU (dA (hE.t O) (fun b7=>?_));refine gg8 ?_;refine uX (vO hE hc2 oO) O ?_;rintro _ _⟨⟨cm,ab,kb⟩,hcm,rfl,rfl⟩;simp only at hcm;subst hcm;simp only[uV,uW];refine gg3 ?_;refine uU (dA (hE.t O) (fun b9=>?_));refine gg32 ?_;refine lT (cO (p:=paH ⟨⟨pa,tx,nt⟩,aa,ka⟩) (p':=paH ⟨⟨pa,F tx,nt⟩,aa,ka⟩) uK (fun _ h=>h)) ?_;have hl3:(G2.take i).length<65536:=by rw[fw];omega
  refine uX (qMy (x:=⟨⟨pa,F tx,nt⟩,aa,ka⟩) hE hpl2 hnl hl3) O ?_;rintro _ _⟨rfl,rfl⟩;simp only[uV,uW];have e4:G2.take i++[(⟨pa,F tx,nt⟩:Gc.Cm)]=G2.take (i+1):=by rw[di,hc2];rfl
  rw[e4];refine gg22 ?_;refine bS (ι:=Nat) (j:=i+1) oO oO ⟨O,O,O,bg some (bW oO),trivial⟩ uI
 obtain rfl:i=G.length:=by omega
 have e5:G2.take G.length=G2:=by rw[<-hrl,lw]
 rw[e5];refine gg8 ?_;refine uX (qUk hE hS) O ?_;rintro _ _⟨g,c,rfl,rfl⟩;simp only[uV,uW];refine gg4 ?_;exact uZ O (.tmp O .nil) ⟨g,c,O,O⟩
end
end Go.Proofs.YtejcjelmpbkcbaaGreatDoor
namespace Sl
open Go Go.RowKit
variable {E:Env}{n:Nat}{L:Fr}{H:List HP}{o:Oper}{v:Value}{K:Value->List HP->Prop}
def qCy (h:Yl E n L H o v)(k:K v H):Ld E n L H o K:=fun Q next a w G hn=>by
 unfold Oper.wp;rw[h a w G.f G.hp,Oper.upon_value];exact hn _ _ _ k G.hp
end Sl
namespace Go.Proofs.YtejcjelmpbkcbaaGreatDoor
open Go Go.RowKit Sl Eg
set_option maxRecDepth 10000
variable {E:Env}{Es:List Ent}{pp tb s m bm:Nat}{f:Int->Option Value}
def EncOf (ts:List (List UInt8))(k:Nat)(B:List UInt8):Prop:=∃(L:List Rl)(X y:List Nat),Wf L/\(∀i,i<k->Be L (idW X i) (ts.getD i []))/\y.length=k/\SigL L (rawN (lsW X k)) y/\B=encB L (dD L y []) (nmY (lsW X k) y)
def EncOf.fn {ts:List (List UInt8)}{k:Nat}{B B':List UInt8}(h:EncOf ts k B)(h':EncOf ts k B'):B=B':=by
 obtain⟨L,X,y,w,b,e,g,rfl⟩:=h;obtain⟨L',X',y',w',b',e',g',rfl⟩:=h';rw[enc_W (ts:=ts),enc_W (ts:=ts)];exact(eql_W w e b g).same (eql_W w' e' b' g') O
structure MemS (U:List Nat)(Es:List Ent)(f:Int->Option Value):Prop where
 ev:∀u∈U,Ev (rls Es) u/\Eg.len (rls Es) u<=400
 room:Es.length+pot' (rls Es) f U<=1048576
 kn:Kn (rls Es) f
def MemS.start {U:List Nat}(hw:Wf (rls Es))(h:∀u∈U,Ev (rls Es) u/\Eg.len (rls Es) u<=400) (hl:Es.length+12368*U.length<=1048576):MemS U Es (fun _=>none):=by
 have:=qXn hw (f:=fun _=>none) U h;exact⟨h,oO,Kn.nil _⟩
def qFf (hE:Seat E)(hB:Base E.w0){U X:List Nat}{ts:List (List UInt8)}{k:Nat}{p:Option Addr}{c:Nat}(hM:MemS U Es f)(hk:k<=26)(hX:∀i,i<k->idW X i∈U) (hb:∀i,i<k->Be (rls Es) (idW X i) (ts.getD i [])):
  Ct E 14 [uPt m,.slice p (lsW X k).length c] [cells pp [uPt s,uPt tb] 117,tabP tb s (rls Es),bR s 1048576 Es,cells m [uPt pp,.map (some bm)] 113,mapF bm .i64 f,sl p c 105 2 (lsW X k).length (nlC (lsW X k))]
   (fun v Q=>∃(M:List Ent)(f':Int->Option Value)(g d:Nat)(B:List UInt8),v= .tuple #[.slice (some ⟨g,0,none⟩) B.length d,.nilIface]/\EncOf ts k B/\MemS U (Es++M) f'/\Q=[cells pp [uPt s,uPt tb] 117,tabP tb s (rls (Es++M)),bR s 1048576 (Es++M),cells m [uPt pp,.map (some bm)] 113,mapF bm .i64 f',sl p c 105 2 (lsW X k).length (nlC (lsW X k)),sl (some ⟨g,0,none⟩) d 5 1 B.length (byC B)]):=by
 refine dW (p:=sl p c 105 2 (lsW X k).length (nlC (lsW X k))) uK (fun _ h=>fun hpos=>dX h hpos) (fun hp=>?_);refine dW (p:=bR s 1048576 Es) uK (fun _ h=>(dP h).1) (fun hw=>?_);have hll:=zC X k;have hLl:=bQ Es
 have hidM:∀i,i<k->idW X i<=Es.length:=fun i hi=>by
  have:=(hM.ev _ (hX i hi)).1.le;rwa [hLl]at this
 have hq:Rdb E.w0 p (nlC (lsW X k)) (sl p c 105 2 (lsW X k).length (nlC (lsW X k))):=fun hne=>by
  obtain⟨g,rfl⟩:=hp (by
   rcases fu (lsW X k).length with e| e
   ·exact absurd (bg nlC (cz e)) hne
   exact e)
  exact⟨g,0,O,vM (fun _ _ h=>h)⟩
 have hlU:∀p∈lsW X k,0<=p.2->p.2<=Es.length->p.2.toNat∈U:=fun p hp _ _=>by
  obtain⟨i,hi,rfl⟩:=qOd hp;exact hX i hi
 have key:=qFg (U:=U) (Es:=Es) (s:=s) (tb:=tb) (pp:=pp) (most:=1048576) (m:=m) (bm:=bm) (f:=f) (l:=lsW X k) (a:=p) (ca:=c) hE hB hq oO hlU hM.ev hM.room hM.kn;refine fun R w hs=>(key R w hs).mono fun e w'⟨v,Qs,h1,h2,h3⟩=>⟨v,Qs,h1,?_,h3⟩
 rcases h2 with⟨e,he,rfl,rfl⟩|⟨M,f',y,g,d,B,ho,rfl,hB1,hM1, -,hk1,hy1,hs1,rfl⟩
 ·exact(he.not (lsW_ok hk hidM)).elim
 have hw2:Wf (rls (Es++M)):=by
  have h4:=h3.take (p:=bR s 1048576 (Es++M)) uK;obtain⟨k1,k2,_,_,hp,_⟩:=h4.hp;exact(dP hp).1
 have he:=dB Es M;refine⟨M,f',g,d,B,O,⟨rls (Es++M),X,y,hw2,fun i hi=>(hb i hi).more M,oO,hs1,hB1⟩,⟨fun u hu=>?_,?_,hk1⟩,O⟩
 ·obtain⟨e1,e2⟩:=hM.ev u hu;rw[he];exact⟨e1.ext _,by rw[lJ _ e1.le];exact e2⟩
 have:=hM.room;rw[he,pot_ext hw _ (fun u hu=>(hM.ev u hu).1),ae];omega
