import Derived.Test.YtejcjelmpbkcbaaGreatDoorQ9i
set_option linter.all false
set_option maxHeartbeats 1000000
namespace Go.Proofs.YtejcjelmpbkcbaaGreatDoor
open Go Go.RowKit Sl Eg
set_option maxRecDepth 10000
variable {E:Env}
def hdK_id {h:Nat->Nat}{p:Nat->Nat}{k:Nat}(hp:∀i,i<k->p (h i)=h i):(fun y=>(hdK h k y).map p)=hdK h k:=by
 funext y;cases e:hdK h k y with
 |none=>rfl
 |some v=>
  obtain⟨i,h1,_,rfl⟩:=tV e
  rw[ru,hp i h1]
def qSj {G:List Gc.Cm}{S:List Nat}(hok:Gc.Ok G){n:Nat}(h:Gc.kp G S n=true):∀m∈Gc.lineG G n,Gc.kp G S m=true:=fun m hm=>by
 obtain⟨x,hx,hl⟩:=Gc.kp_iff.1 h;refine Gc.kp_iff.2 ⟨x,hx,?_⟩
 have:∀(n:Nat),n∈Gc.lineG G x->∀m∈Gc.lineG G n,m∈Gc.lineG G x:=fun n=>by
  induction n using Nat.strongRecOn with
  |_ n ih=>
   intro h1 m h2
   rw[Gc.lineG_eq hok n]at h2
   rcases jo.1 h2 with rfl|h2
   ·exact h1
   cases e:Gc.paG G n with
   |none=>rw[e]at h2;cases h2
   |some q=>rw[e]at h2;exact ih q (Gc.paG_lt hok e).1 (Gc.line_pa hok e x h1) m h2
 exact this n hl m hm
def qWo {L:List Nat}{F:Nat->Nat}{i n:Nat}(h:L[i]?=some n):idW (L.map F) i=F n:=xL (by rw[bu,h];rfl)
def getD_map {L:List Nat}{F:Nat->List UInt8}{i n:Nat}(h:L[i]?=some n):(L.map F).getD i []=F n:=by rw[jg,bu,h];rfl
def inC_ne {zs:List Int}(h:0<zs.length):inC zs≠[]:=fun e=>by
 have:=bg List.length e;simp[inC]at this;rw[this]at h;exact absurd h (Nat.lt_irrefl _)
def parW_yes {zs:List Int}{i w:Nat}(h0:0<i)(h:zs[i]?=some ((w:Nat):Int)):parW zs i=some (w%i):=by
 unfold parW;rw[if_pos h0,h];simp
def parW_neg {zs:List Int}{i:Nat}{z:Int}(h:zs[i]?=some z)(hz:z<0):parW zs i=none:=by
 unfold parW;rw[h];simp only;rw[if_neg (by omega:¬0<=z)];split <;>rfl
def parW_out {zs:List Int}{i:Nat}(h:zs.length<=i):parW zs i=none:=by
 unfold parW;rw[fq h];split <;>rfl
structure HcG where
 i:Nat
 N1:List Ent
 f1:Int->Option Value
 N2:List Ent
 f2:Int->Option Value
structure LnH where
 k:Nat
 p1:Option Addr
 c1:Nat
 p2:Option Addr
 c2:Nat
def qAn (hE:Seat E)(hB:Base E.w0){l:List TMk}{a a1 a2:Option Addr}{c c1 c2:Nat}{zs1 zs2:List Int}{q:HP}(hq:Rdb E.w0 a (mkVs l) q)(hl:l.length<=9223372036854775807)(hx:∀x∈l,x.ok)
  (hq1:Rdb E.w0 a1 (inC zs1) q) (hz1:zs1.length<=9223372036854775807) (hzb:∀z∈zs1, -9223372036854775808<=z/\z<=9223372036854775807) (hq2:Rdb E.w0 a2 (inC zs2) q) (hz2:zs2.length<=9223372036854775807):
  Ct E 4 [.slice a l.length c,.slice a1 zs1.length c1,.slice a2 zs2.length c2] [q] (fun v Q=>v= .bool true/\Q=[q]):=by
 refine bO (hE.fn Tryz.func4) O O O (fun R=>?_);simp only[dQ,uV,uW];refine gg8 ?_;refine uX (qUz hE) O ?_;rintro _ _⟨rfl,rfl⟩;simp only[uV,uW];refine gg3 ?_;refine uX (qRs hE hB) O ?_;rintro _ _⟨rfl,rfl⟩;simp only[uV,uW];refine gg11 ?_;refine uX (qPi hE hq hl hx) O ?_;rintro _ _⟨s,M,ids,p1,p2,k1,k2,rfl,hM,hbes,rfl⟩
 have hn30:(plns [] (l.take 30)).length<=30:=by
  have:=qBj (l.take 30) [];rw[fw,dz]at this;omega
 have hsh:∀t∈plns [] (l.take 30),t.length<=400:=vD _ _ (fun t h=>by cases h);generalize plns [] (l.take 30)=ts at*;obtain⟨n,hn⟩:∃n,ts.length=n:=⟨_,rfl⟩;rw[hn]at hn30 ⊢;have hil:ids.length=n:=by rw[hbes.1,hn]
 simp only[uV,uW];refine lQ (p:=bR s 1048576 M) uK (fun _ h=>(dP h).1) (fun hw=>?_);refine gg25 ?_;refine dU 68 O (fun h0=>?_) (fun h0=>?_)
 ·refine gg15 ?_;exact uZ O (.tmp O .nil) ⟨O,O⟩
 refine gg9 ?_;refine bE O (fun h6=>?_) (fun h6=>?_)
 ·refine gg8 ?_;exact uZ O (.tmp O .nil) ⟨O,O⟩
 have hn1:1<=n:=by
  rcases fu n with e| e
  ·exact absurd (by subst e;rfl) h0
  exact e
 have hz26:zs2.length<=6:=oO;clear h0 h6;obtain⟨m,hm⟩:∃m,min n 26=m:=⟨_,rfl⟩;have hm26:m<=26:=oO;have hmn:m<=n:=oO;have hm1:1<=m:=oO;obtain⟨hd,hhd⟩:∃hd:Nat->Nat,hd=fun i=>pick (zs2.getD i 0) m:=⟨_,rfl⟩
 have hdm:∀i,hd i<m:=fun i=>by rw[hhd];exact kU _ hm1
 refine gg4 ?_;refine uX (qHg hE) O ?_;rintro _ _⟨g,rfl,rfl⟩;simp only[uV,uW];refine uX (qVc hE) O ?_;rintro _ _⟨r,rfl,rfl⟩;simp only[uV,uW];refine gg4 ?_;refine iY (p:=sl p1 k1 56 1 n (idC ids)) uK (fun _ h=>fun hpos=>dX h hpos) ?_;intro hp1;obtain⟨gp1,rfl⟩:=hp1 oO;have hgm:gphW ids zs1 0=[]:=rfl;rw[<-hgm];have hh0:(fun _=>none:List UInt8->Option Nat)=hdK hd 0:=rfl;rw[hh0];refine mI (fun _:Unit=>[(2,.slice a2 zs2.length c2),(7,uPt s),(11,uPt g),(12,uPt r)]) (fun _=>[bR s 1048576 M,q,grP g (gphW ids zs1 m),tbP r (hdK hd 0),R]) (fun _=>True) ?_ ?_
 ·refine gg6 ?_;refine dV (fun i:Nat=>[(1,.slice a1 zs1.length c1),(2,.slice a2 zs2.length c2),(7,uPt s),(8,.slice (some ⟨gp1,0,none⟩) n k1),(11,uPt g),(12,uPt r),(13,.int .i64 (i:Nat))]) (fun i=>[bR s 1048576 M,q,sl (some ⟨gp1,0,none⟩) k1 56 1 n (idC ids),grP g (gphW ids zs1 i),tbP r (hdK hd 0),R]) (fun i=>m-i) (fun i=>i<=m) 0 (au _) ⟨O,O,O,O,O,O,O,trivial⟩ uI ?_;rintro i hi;refine gg8 ?_;refine dU 80 O (fun g1=>?_) (fun g1=>?_)
  ·refine gg7 ?_;refine bE O (fun g2=>?_) (fun g2=>?_)
   ·have him:i<m:=oO;have hin:i<n:=oO
    have hid:ids[i]?=some (idW ids i):=by
     obtain⟨x,hx⟩:∃x,ids[i]?=some x:=⟨_,ah oO⟩;rw[hx,xL hx]
    have f0:=eF hid (((i:Nat):Int).toNat) oO;refine gg4 ?_;refine mI (fun b14:Nat=>[(1,.slice a1 zs1.length c1),(2,.slice a2 zs2.length c2),(7,uPt s),(8,.slice (some ⟨gp1,0,none⟩) n k1),(11,uPt g),(12,uPt r),(13,.int .i64 (i:Nat)),(14,uPt b14)]) (fun b14=>[cells b14 [.slice none 0 0,.int .i64 (idW ids i:Nat),.string ⟨⟨nmW i⟩⟩] 71,bR s 1048576 M,q,sl (some ⟨gp1,0,none⟩) k1 56 1 n (idC ids),grP g (gphW ids zs1 i),tbP r (hdK hd 0),R]) (fun _=>True) ?_ ?_
    ·refine uN 8 ([sl (some ⟨gp1,0,none⟩) k1 56 1 n (idC ids)]) ?_;refine gg5 ?_;apply qLd 5 7 O O oK O O
     ·refine uC (tK hE (i:=i) oO) O ?_;rintro _ _⟨rfl,rfl⟩;simp only[uV,uW];refine uE ?_;refine uT 6 O (gY) ?_;apply eG 7 O oK O;refine dA (hE.t O) (fun b14=>?_);refine uE ?_;apply fU O oK oK O;(first |(apply bL rfl rfl (hE.t rfl) rfl;(focus((repeat constructor);done));(focus rfl);(focus(exact bn rfl)))|(apply aS rfl rfl (hE.t rfl) rfl;(focus((repeat constructor);done));(focus rfl);(focus(first |omega |(simp only[bP,aN,bf,dz];omega)))))
      refine fJ b14 trivial ⟨O,O,O,O,O,O,O,O,trivial⟩ uI
     refine dA (hE.t O) (fun b14=>?_);refine uE ?_;apply eG 5 O oK O;refine uC (tK hE (i:=i) oO) O ?_;rintro _ _⟨rfl,rfl⟩;simp only[uV,uW];refine uE ?_;apply dG 6 O oK
     ·(first |exact jM (hE.t rfl) rfl rfl|exact qJp (hE.t rfl) rfl rfl)
     ·rfl
     apply fU O oK oK O;(first |(apply bL rfl rfl (hE.t rfl) rfl;(focus((repeat constructor);done));(focus rfl);(focus(exact bn rfl)))|(apply aS rfl rfl (hE.t rfl) rfl;(focus((repeat constructor);done));(focus rfl);(focus(first |omega |(simp only[bP,aN,bf,dz];omega)))))
     refine fJ b14 trivial ⟨O,O,O,O,O,O,O,O,trivial⟩ uI
    rintro b14 -;clear f0;refine mI (fun x:Option Addr×Nat=>[(1,.slice a1 zs1.length c1),(2,.slice a2 zs2.length c2),(7,uPt s),(8,.slice (some ⟨gp1,0,none⟩) n k1),(11,uPt g),(12,uPt r),(13,.int .i64 (i:Nat)),(14,uPt b14)]) (fun x=>[cells b14 [.slice x.1 (paN (cmW ids zs1 i)) x.2,.int .i64 (idW ids i:Nat),.string ⟨⟨nmW i⟩⟩] 71,paH ⟨cmW ids zs1 i,x.1,x.2⟩,bR s 1048576 M,q,sl (some ⟨gp1,0,none⟩) k1 56 1 n (idC ids),grP g (gphW ids zs1 i),tbP r (hdK hd 0),R]) (fun _=>True) ?_ ?_
    ·refine gg5 ?_;refine dU 95 O (fun e1=>?_) (fun e1=>?_)
     ·refine gg10 ?_;refine dU 101 O (fun e2=>?_) (fun e2=>?_)
      ·have hi0:0<i:=oO;have hiz:i<zs1.length:=oO;obtain⟨z,hz⟩:∃z,zs1[i]?=some z:=⟨_,ah hiz⟩;have hzz:=hzb z (ak hz);obtain⟨g9,o9,rfl,hq9⟩:=hq1 (inC_ne oO);have f0:=qHv hz i O;refine gg13 ?_;refine bE O (fun e3=>?_) (fun e3=>?_)
       ·obtain⟨w,rfl⟩:∃w:Nat,z=(w:Nat):=⟨z.toNat,oO⟩;have hp1:(cmW ids zs1 i).pa=some (w%i):=parW_yes hi0 hz;have hmd:((w:Nat):Int)%((i:Nat):Int)=((w%i:Nat):Int):=oO;refine gg7 ?_;refine uU ?_;refine aU (hE.t O) (hE.t O) O O O (fun b114=>?_);refine gg3 ?_
        refine fJ (some ⟨b114,0,none⟩,1) trivial ⟨O,O,O,O,O,O,O,O,trivial⟩ (by
         simp only[paH,zH hp1,vC hp1,<-hmd];refine cZ (cO (p:=cells b114 [.int .i64 (((w:Nat):Int)%((i:Nat):Int))] 3) (p':=sl (some ⟨b114,0,none⟩) 1 3 1 1 [.int .i64 (((w:Nat):Int)%((i:Nat):Int))]) uK (gP O (by unfold maxLen;omega))) ?_;(apply ent;(repeat constructor);done))
       have hp0:(cmW ids zs1 i).pa=none:=parW_neg hz oO;refine gg1 ?_
       refine fJ (none,0) trivial ⟨O,O,O,O,O,O,O,O,trivial⟩ (by
        simp only[paH,rJ hp0,qIf hp0];exact cZ fV uI)
      have hp0:(cmW ids zs1 i).pa=none:=parW_out oO;refine gg10 ?_
      refine fJ (none,0) trivial ⟨O,O,O,O,O,O,O,O,trivial⟩ (by
       simp only[paH,rJ hp0,qIf hp0];exact cZ fV uI)
     obtain rfl:i=0:=by omega
     have hp0:(cmW ids zs1 0).pa=none:=rfl;refine gg16 ?_
     refine fJ (none,0) trivial ⟨O,O,O,O,O,O,O,O,trivial⟩ (by
      simp only[paH,rJ hp0,qIf hp0];exact cZ fV uI)
    rintro⟨pa,ka⟩ -;have hpl:∀p,(cmW ids zs1 i).pa=some p->p<(gphW ids zs1 i).length:=fun p hp=>by rw[xK];exact qXk hp
    have hnl:(cmW ids zs1 i).nt.length<=200:=bn O;have hll:(gphW ids zs1 i).length<65536:=(by rw[xK];omega);refine gg3 ?_;apply aA
    ·(first |(apply bV rfl (hE.t rfl) rfl;(repeat(first |rfl|assumption|constructor));done)|(apply y_load_agg_old rfl (hE.t rfl) rfl;assumption))
    ·rfl
    refine uX (qMy (x:=⟨cmW ids zs1 i,pa,ka⟩) hE hpl hnl hll) O ?_;rintro _ _⟨rfl,rfl⟩;simp only[uV,uW];rw[qWd];refine gg22 ?_;refine bS (ι:=Nat) (j:=i+1) oO oO ⟨O,O,O,O,O,O,bg some (bW oO),trivial⟩ uI
   obtain rfl:i=m:=by omega
   refine gg4 ?_;refine fJ () trivial ⟨O,O,O,O,trivial⟩ uI
  obtain rfl:i=m:=by omega
  refine gg10 ?_;refine fJ () trivial ⟨O,O,O,O,trivial⟩ uI
 rintro _ -;clear hgm hh0 hp1;refine gg7 ?_;refine dV (fun i:Nat=>[(2,.slice a2 zs2.length c2),(7,uPt s),(11,uPt g),(12,uPt r),(17,.int .i64 (i:Nat))]) (fun i=>[bR s 1048576 M,q,grP g (gphW ids zs1 m),tbP r (hdK hd i),R]) (fun i=>zs2.length-i) (fun i=>i<=zs2.length) 0 (au _) ⟨O,O,O,O,O,trivial⟩ uI ?_;rintro i hi;refine gg9 ?_;refine bE O (fun e1=>?_) (fun e1=>?_)
 ·have hin:i<zs2.length:=oO;obtain⟨z,hz⟩:∃z,zs2[i]?=some z:=⟨_,ah hin⟩;obtain⟨g9,o9,rfl,hq9⟩:=hq2 (inC_ne oO);have f0:=qHv hz i O
  have hset:setG (hdK hd i) (nmW i) (pick z m)=hdK hd (i+1):=by
   show _=setG (hdK hd i) (nmW i) (hd i);rw[hhd];simp[hz]
  have hvi:ValidN (nmW i):=xU ⟨i,oO⟩;refine gg5 ?_;refine uH ([q]) ?_;refine gg2 ?_;refine uD 3 O (aB O) ?_;refine gg4 ?_;apply dH 2 O oK O;refine uC (tK hE (i:=i) oO) O ?_;rintro _ _⟨rfl,rfl⟩;simp only[uV,uW];refine uE ?_;apply dH 8 O oK O;refine uC (qW hE) O ?_;rintro _ _⟨rfl,rfl⟩;simp only[uV,uW];rw[xK];refine uE ?_;apply dH 9 O oK O;refine uC (mZ (k:=z) (n:=m) hE hm1 oO) O ?_;rintro _ _⟨rfl,rfl⟩;simp only[uV,uW];refine uE ?_;apply dH 10 O oK O;refine uC (qSa (x:=nmW i) (n:=pick z m) (f:=hdK hd i) hE hvi (hdK_new oO)) O ?_;rintro _ _⟨rfl,rfl⟩;simp only[uV,uW];rw[hset];refine uE ?_;refine gg12 ?_;refine bS (ι:=Nat) (j:=i+1) oO oO ⟨O,O,O,O,bg some (bW oO),trivial⟩ uI
 obtain rfl:i=zs2.length:=by omega
 obtain⟨n2,hn2⟩:∃n2,zs2.length=n2:=⟨_,rfl⟩;rw[hn2]at hz26 ⊢;have hLl:=bQ M;obtain⟨S,hSd⟩:∃S,S=(List.range n2).map hd:=⟨_,rfl⟩;have hGl:=xK ids zs1 m;have hok:=gphW_ok ids zs1 m;have hfin:=qWh hd (k:=n2) oO;have hfS:∀x,x∈S↔∃y,hdK hd n2 y=some x:=by rw[hSd];exact hdK_S hd oO
 have hSm:∀x∈S,x<(gphW ids zs1 m).length:=fun x hx=>by
  rw[hSd]at hx;obtain⟨i,_,rfl⟩:=dw.1 hx;rw[hGl];exact hdm i
 have hbe:∀i,i<m->Be (rls M) (idW ids i) (ts.getD i []):=fun i hi=>by
  obtain⟨t,ht⟩:∃t,ts[i]?=some t:=⟨_,ah oO⟩;obtain⟨id,hid,hb⟩:=hbes.at ht;rw[xL hid,jg,ht];exact hb
 have hU:∀u∈ids,Ev (rls M) u/\len (rls M) u<=400:=fun u hu=>by
  obtain⟨i,hi⟩:=jv hu;obtain⟨t,ht⟩:∃t,ts[i]?=some t:=⟨_,ah (by have:=(ag.1 hi).1;omega)⟩;have hb:=hbes.2 i u t hi ht;exact⟨hb.ev,by unfold len;rw[hb.tx];exact hsh t (ak ht)⟩
 have hidm:∀i,i<m->idW ids i∈ids:=fun i hi=>by
  rw[xL (ah (by omega:i<ids.length))];exact List.getElem_mem _
 have htx:InG (gphW ids zs1 m) M.length:=fun i c hc=>by
  obtain⟨hi,rfl⟩:=qHr hc;exact(hbe i hi).le
 have hN:∀S:List Nat,S.Nodup->(∀x∈S,∃n,n<(gphW ids zs1 m).length/\Rea (rls M) (txG (gphW ids zs1 m) n) x)->S.length<65536:=fun S h1 h2=>by
  have:=qDp hw (B:=400) (X:=ids) (fun a ha=>⟨(hU a ha).1.le,(hU a ha).2⟩) S h1 fun x hx=>by
   obtain⟨n,hn,hr⟩:=h2 x hx;rw[hGl]at hn;rw[qWe hn]at hr;exact⟨_,hidm n hn,hr⟩
  omega
 refine gg10 ?_;refine uX (ct_cOf (most:=1048576) (Es:=M) (m2:=1048576) (S:=S) hE hok oO hfin hfS hSm htx gphW_nt oO hN O) O ?_;rintro _ _⟨V,s2,h2,q2,M2,rfl,hlis,hVl,hV0,hM2,rfl⟩;rw[qWi];have hm2l:M2.length=V.length:=by rw[<-bQ M2,hM2,rF]
 simp only[uV,uW];refine lQ (p:=bR s2 1048576 M2) uK (fun _ h=>(dP h).1) (fun hw2=>?_)
 have hgr:∀i,i<m->Gc.kp (gphW ids zs1 m) S i=true->Be (rls M2) (numb V (idW ids i)) (ts.getD i []):=fun i hi hk=>by
  rw[hM2];have:=hV0 i hk;rw[qWe hi]at this;exact(hbe i hi).gram hlis this
 have hUb:∀u∈ids.map (numb V),Ev (rls M2) u/\len (rls M2) u<=400:=fun u hu=>by
  obtain⟨x,hx,rfl⟩:=dw.1 hu;obtain⟨i,hi⟩:=jv hx;obtain⟨t,ht⟩:∃t,ts[i]?=some t:=⟨_,ah (by have:=(ag.1 hi).1;omega)⟩;have hb:=hbes.2 i x t hi ht;by_cases hxV:x∈V
  ·have hb2:=hb.gram hlis (.inr hxV);rw[<-hM2]at hb2;exact⟨hb2.ev,by unfold len;rw[hb2.tx];exact hsh t (ak ht)⟩
  rw[fZ.2 hxV];exact⟨Ev.zero _,by rw[qBd];omega⟩
 have hS1:MemS ids M (fun _=>none):=MemS.start hw hU oO;have hS2:MemS (ids.map (numb V)) M2 (fun _=>none):=MemS.start hw2 hUb (by rw[ic];omega);have hcm:∀x,x<m->(gphW ids zs1 m)[x]?=some (cmW ids zs1 x):=fun x hx=>qNv hx
 have hHat:∀x,x<m->Gc.kp (gphW ids zs1 m) S x=true->(Gc.keepG (gphW ids zs1 m) S (numb V) (gphW ids zs1 m).length)[Gc.pos (gphW ids zs1 m) S x]?=some ⟨(parW zs1 x).map (Gc.pos (gphW ids zs1 m) S),numb V (idW ids x),nmW x⟩:=fun x hx hk=>by
  rw[Gc.keepG_at hk (by rw[hGl];exact hx),qWc hx];rfl
 have hHok:=Gc.keep_ok hok hSm (numb V);have hHl:=Gc.keepG_len (gphW ids zs1 m) S (numb V) (gphW ids zs1 m).length
 have hpsl:Gc.pos (gphW ids zs1 m) S (gphW ids zs1 m).length<=m:=by
  have:Gc.pos (gphW ids zs1 m) S (gphW ids zs1 m).length=(Gc.kl (gphW ids zs1 m) S (gphW ids zs1 m).length).length:=rfl;rw[this];unfold Gc.kl;exact iw (uo _ _) (by simp[hGl])
 have hkh:∀i,i<n2->Gc.kp (gphW ids zs1 m) S (hd i)=true:=fun i hi=>Gc.kp_self hok (by rw[hSd];exact dw.2 ⟨i,mh.2 hi,rfl⟩)
 have hph:∀i,i<n2->Gc.pos (gphW ids zs1 m) S (hd i)<(Gc.keepG (gphW ids zs1 m) S (numb V) (gphW ids zs1 m).length).length:=fun i hi=>by
  rw[hHl];exact Gc.pos_lt (by rw[hGl];exact hdm i) (hkh i hi)
 have hkline:=Gc.keep_line hok hSm (numb V);obtain⟨G,hG⟩:∃G,G=gphW ids zs1 m:=⟨_,rfl⟩;simp only[<-hG]at*;obtain⟨H,hH⟩:∃H,H=Gc.keepG G S (numb V) G.length:=⟨_,rfl⟩;simp only[<-hH]at hHat hHok hHl hph hkline ⊢;obtain⟨ps,hps⟩:∃ps,ps=Gc.pos G S:=⟨_,rfl⟩;simp only[<-hps]at hHat hHl hpsl hph hkline ⊢;refine gg24 ?_;refine uX (yS (Es:=M) (s:=s) (most:=1048576) hE) O ?_;rintro _ _⟨pp,tb,rfl,rfl⟩;simp only[uV,uW];refine uX (qBy hE) O ?_;rintro _ _⟨mm,bm,rfl,rfl⟩;simp only[uV,uW];refine gg1 ?_;refine uX (yS (Es:=M2) (s:=s2) (most:=1048576) hE) O ?_;rintro _ _⟨pp2,tb2,rfl,rfl⟩;simp only[uV,uW];refine uX (qBy hE) O ?_;rintro _ _⟨mm2,bm2,rfl,rfl⟩;simp only[uV,uW];refine gg11 ?_
 refine dV (fun x:HcG=>[(2,.slice a2 n2 c2),(7,uPt s),(11,uPt g),(12,uPt r),(18,uPt s2),(19,uPt h2),(20,uPt q2),(22,uPt mm),(23,uPt mm2),(24,.int .i64 (x.i:Nat))]) (fun x=>[cells pp [uPt s,uPt tb] 117,tabP tb s (rls (M++x.N1)),bR s 1048576 (M++x.N1),cells mm [uPt pp,.map (some bm)] 113,mapF bm .i64 x.f1,cells pp2 [uPt s2,uPt tb2] 117,tabP tb2 s2 (rls (M2++x.N2)),bR s2 1048576 (M2++x.N2),cells mm2 [uPt pp2,.map (some bm2)] 113,mapF bm2 .i64 x.f2,grP g G,tbP r (hdK hd n2),grP h2 H,tbP q2 (hdK (fun i=>ps (hd i)) n2),q,R]) (fun x=>n2-x.i) (fun x=>x.i<=n2/\MemS ids (M++x.N1) x.f1/\MemS (ids.map (numb V)) (M2++x.N2) x.f2) ⟨0,[],fun _=>none,[],fun _=>none⟩ ⟨au _,by rw[av];exact hS1,by rw[av];exact hS2⟩ ⟨rfl,rfl,rfl,rfl,rfl,rfl,rfl,rfl,rfl,rfl,trivial⟩ (by simp only[av];(apply ent;(repeat constructor);done)) ?_;clear hS1 hS2;rintro⟨i,N1,f1,N2,f2⟩⟨hi,hS1,hS2⟩;simp only at hi hS1 hS2 ⊢;refine gg9 ?_;refine bE O (fun e1=>?_) (fun e1=>?_)
 ·have hin:i<n2:=oO;have hvi:ValidN (nmW i):=xU ⟨i,oO⟩;have hdi:=hdm i;refine gg8 ?_;refine uX (tK hE (i:=i) oO) O ?_;rintro _ _⟨rfl,rfl⟩;simp only[uV,uW];refine uX (qVa (n:=hd i) hE hvi (qPu hin oO)) O ?_;rintro _ _⟨rfl,rfl⟩;simp only[uV,uW];refine gg13 ?_;refine uX (tK hE (i:=i) oO) O ?_;rintro _ _⟨rfl,rfl⟩;simp only[uV,uW];refine uX (qVa (n:=ps (hd i)) hE hvi (qPu (h:=fun i=>ps (hd i)) hin oO)) O ?_;rintro _ _⟨rfl,rfl⟩;simp only[uV,uW];refine gg29 ?_;refine uX (qPm hE hok oO oO) O ?_;rintro _ _⟨po,co,rfl,rfl⟩;simp only[uV,uW];refine gg11 ?_;refine uX (qPm hE hHok (hph i hin) oO) O ?_;rintro _ _⟨pt,ct,rfl,rfl⟩;rw[hkline (hd i) (hkh i hin)]
  have hLk:∀x∈Gc.lineG G (hd i),x<m/\Gc.kp G S x=true:=fun x hx=>by
   have:=Gc.line_le hok (hd i) x hx;exact⟨oO,qSj hok (hkh i hin) x hx⟩
  have hLl:=Gc.line_len hok (hd i);generalize Gc.lineG G (hd i)=L1 at*;have hmpl:(L1.map ps).length=L1.length:=ic _;rw[hmpl];simp only[uV,uW];have hL26:L1.length<=26:=oO;refine gg32 ?_;refine w_eq 211 (.bool false) O (by simp) ?_;refine gg16 ?_;refine gF (fV (t:=56) (sz:=1)) ?_;refine gF (fV (t:=56) (sz:=1)) ?_;obtain⟨XL,hXL⟩:∃XL,XL=L1.map (idW ids):=⟨_,rfl⟩;obtain⟨YL,hYL⟩:∃YL,YL=L1.map (fun n=>numb V (idW ids n)):=⟨_,rfl⟩;have hXl:XL.length=L1.length:=by rw[hXL,ic]
  have hYl:YL.length=L1.length:=by rw[hYL,ic]
  refine iY (p:=sl po co 3 1 L1.length (idC L1)) uK (fun _ h=>fun hpos=>dX h hpos) ?_;intro hpo;refine iY (p:=sl pt ct 3 1 L1.length (idC (L1.map ps))) uK (fun _ h=>fun hpos=>dX h hpos) ?_;intro hpt;refine dV (fun x:LnH=>[(2,.slice a2 n2 c2),(7,uPt s),(11,uPt g),(12,uPt r),(18,uPt s2),(19,uPt h2),(20,uPt q2),(22,uPt mm),(23,uPt mm2),(24,.int .i64 (i:Nat)),(31,.slice po L1.length co),(32,.slice pt L1.length ct),(33,.slice x.p1 x.k x.c1),(34,.slice x.p2 x.k x.c2),(35,.int .i64 (x.k:Nat))]) (fun x=>[cells pp [uPt s,uPt tb] 117,tabP tb s (rls (M++N1)),bR s 1048576 (M++N1),cells mm [uPt pp,.map (some bm)] 113,mapF bm .i64 f1,cells pp2 [uPt s2,uPt tb2] 117,tabP tb2 s2 (rls (M2++N2)),bR s2 1048576 (M2++N2),cells mm2 [uPt pp2,.map (some bm2)] 113,mapF bm2 .i64 f2,grP g G,tbP r (hdK hd n2),grP h2 H,tbP q2 (hdK (fun i=>ps (hd i)) n2),sl po co 3 1 L1.length (idC L1),sl pt ct 3 1 L1.length (idC (L1.map ps)),sl x.p1 x.c1 56 1 x.k (idC (XL.take x.k)),sl x.p2 x.c2 56 1 x.k (idC (YL.take x.k)),q,R]) (fun x=>L1.length-x.k) (fun x=>x.k<=L1.length) ⟨0,none,0,none,0⟩ (au _) ⟨O,O,O,O,O,O,O,O,O,O,O,O,O,O,O,trivial⟩ uI ?_;rintro⟨k,p1',c1',p2',c2'⟩hk;simp only at hk ⊢;refine gg9 ?_
  refine bE O (fun e2=>?_) (fun e2=>?_)
  ·have hkl:k<L1.length:=oO;obtain⟨gpo,rfl⟩:=hpo oO;obtain⟨gpt,rfl⟩:=hpt oO;obtain⟨x,hx⟩:∃x,L1[k]?=some x:=⟨_,ah hkl⟩;obtain⟨hxm,hxk⟩:=hLk x (ak hx);have hx2:(L1.map ps)[k]?=some (ps x):=by rw[bu,hx];rfl
   have f0:=eF hx (((k:Nat):Int).toNat) oO;have f1:=eF hx2 (((k:Nat):Int).toNat) oO
   have hXt:idC (XL.take (k+1))=idC (XL.take k)++[.int .i64 (idW ids x:Nat)]:=by
    rw[di,hXL,bu,hx,gZ];rfl
   have hYt:idC (YL.take (k+1))=idC (YL.take k)++[.int .i64 (numb V (idW ids x):Nat)]:=by
    rw[di,hYL,bu,hx,gZ];rfl
   refine gg11 ?_;refine uX (vO hE (hcm x hxm) oO) O ?_;rintro _ _⟨⟨cm,aa,ka⟩,hcm1,rfl,rfl⟩;simp only at hcm1;subst hcm1;simp only[uV,uW];refine gg3 ?_;refine uU (dA (hE.t O) (fun b36=>?_));refine gg11 ?_;refine uX (vO hE (hHat x hxm hxk) oO) O ?_;rintro _ _⟨⟨cm,ab,kb⟩,hcm1,rfl,rfl⟩;simp only at hcm1;subst hcm1;simp only[uV,uW];refine gg3 ?_;refine uU (dA (hE.t O) (fun b38=>?_));refine gg29 ?_;refine w_eq 248 (.bool false) O (by simp[cmW]) ?_;refine gg3 ?_;refine uN 11 ([cells b36 [.slice aa (paN (cmW ids zs1 x)) ka,.int .i64 ((cmW ids zs1 x).tx:Nat),.string ⟨⟨(cmW ids zs1 x).nt⟩⟩] 71,cells b38 [.slice ab (paN ⟨(parW zs1 x).map ps,numb V (idW ids x),nmW x⟩) kb,.int .i64 ((numb V (idW ids x)):Nat),.string ⟨⟨(nmW x)⟩⟩] 71]) ?_;refine gg3 ?_;refine uT 5 O (aB O) ?_;refine gg2 ?_;apply qLd 3 8 O O oK O O
   ·refine aU (hE.t O) (hE.t O) O O O (fun b252=>?_);refine uE ?_;apply qLd 4 8 O O oK O O
    ·apply bU (hE.t O) (hE.t O) O O O
     ·exact uK
     ·exact uK
     ·rfl
     ·rfl
     ·omega
     ·omega
     ·(unfold maxLen;omega)
     intro g253 c253 n253 x253 hn253 hx253;refine uE ?_;apply eG 8 O oK O;refine aU (hE.t O) (hE.t O) O O O (fun b257=>?_);refine uE ?_;apply eG 9 O oK O;apply bU (hE.t O) (hE.t O) O O O
     ·exact uK
     ·exact uK
     ·rfl
     ·rfl
     ·omega
     ·omega
     ·(unfold maxLen;omega)
     intro g258 c258 n258 x258 hn258 hx258;refine uE ?_;apply dG 10 O oK
     ·exact aC O
     ·rfl
     apply fU O oK oK O;refine qCy (aC O) ?_;refine gg7 ?_;obtain rfl:n253=k+1:=hn253;obtain rfl:n258=k+1:=hn258;rw[hx253,hx258]
     refine bS (ι:=LnH) (j:=⟨k+1,_,c253,_,c258⟩) (by simp only;omega) (by simp only;omega) ⟨O,O,O,O,O,O,O,O,O,O,O,O,O,O,bg some (bW (by simp only;omega)),trivial⟩ (by
      simp only;rw[hXt,hYt];(apply ent;(repeat constructor);done))
    refine aU (hE.t O) (hE.t O) O O O (fun b257=>?_);refine uE ?_;apply eG 4 O oK O;apply bU (hE.t O) (hE.t O) O O O
    ·exact uK
    ·exact uK
    ·rfl
    ·rfl
    ·omega
    ·omega
    ·(unfold maxLen;omega)
    intro g253 c253 n253 x253 hn253 hx253;refine uE ?_;apply eG 9 O oK O;apply bU (hE.t O) (hE.t O) O O O
    ·exact uK
    ·exact uK
    ·rfl
    ·rfl
    ·omega
    ·omega
    ·(unfold maxLen;omega)
    intro g258 c258 n258 x258 hn258 hx258;refine uE ?_;apply dG 10 O oK
    ·exact aC O
    ·rfl
    apply fU O oK oK O;refine qCy (aC O) ?_;refine gg7 ?_;obtain rfl:n253=k+1:=hn253;obtain rfl:n258=k+1:=hn258;rw[hx253,hx258]
    refine bS (ι:=LnH) (j:=⟨k+1,_,c253,_,c258⟩) (by simp only;omega) (by simp only;omega) ⟨O,O,O,O,O,O,O,O,O,O,O,O,O,O,bg some (bW (by simp only;omega)),trivial⟩ (by
     simp only;rw[hXt,hYt];(apply ent;(repeat constructor);done))
   refine aU (hE.t O) (hE.t O) O O O (fun b257=>?_);refine uE ?_;apply eG 3 O oK O;refine aU (hE.t O) (hE.t O) O O O (fun b252=>?_);refine uE ?_;apply eG 4 O oK O;apply bU (hE.t O) (hE.t O) O O O
   ·exact uK
   ·exact uK
   ·rfl
   ·rfl
   ·omega
   ·omega
   ·(unfold maxLen;omega)
   intro g253 c253 n253 x253 hn253 hx253;refine uE ?_;apply eG 9 O oK O;apply bU (hE.t O) (hE.t O) O O O
   ·exact uK
   ·exact uK
   ·rfl
   ·rfl
   ·omega
   ·omega
   ·(unfold maxLen;omega)
   intro g258 c258 n258 x258 hn258 hx258;refine uE ?_;apply dG 10 O oK
   ·exact aC O
   ·rfl
   apply fU O oK oK O;refine qCy (aC O) ?_;refine gg7 ?_;obtain rfl:n253=k+1:=hn253;obtain rfl:n258=k+1:=hn258;rw[hx253,hx258]
   refine bS (ι:=LnH) (j:=⟨k+1,_,c253,_,c258⟩) (by simp only;omega) (by simp only;omega) ⟨O,O,O,O,O,O,O,O,O,O,O,O,O,O,bg some (bW (by simp only;omega)),trivial⟩ (by
    simp only;rw[hXt,hYt];(apply ent;(repeat constructor);done))
  obtain rfl:k=L1.length:=by omega
  have htX:XL.take L1.length=XL:=dh oO;have htY:YL.take L1.length=YL:=dh oO;rw[htX,htY];have hmn26:min L1.length 26=L1.length:=oO
  have hXa:∀j,j<L1.length->∃x,x<m/\Gc.kp G S x=true/\idW XL j=idW ids x/\idW YL j=numb V (idW ids x)/\(L1.map fun n=>ts.getD n []).getD j []=ts.getD x []:=fun j hj=>by
   obtain⟨x,hx⟩:∃x,L1[j]?=some x:=⟨_,ah hj⟩;obtain⟨hxm,hxk⟩:=hLk x (ak hx);exact⟨x,hxm,hxk,by rw[hXL];exact qWo hx,by rw[hYL];exact qWo hx,getD_map hx⟩
  have hX1:∀j,j<L1.length->idW XL j∈ids:=fun j hj=>by
   obtain⟨x,a,b,c,d,e⟩:=hXa j hj;rw[c];exact hidm x a
  have hX2:∀j,j<L1.length->Be (rls (M++N1)) (idW XL j) ((L1.map fun n=>ts.getD n []).getD j []):=fun j hj=>by
   obtain⟨x,a,b,c,d,e⟩:=hXa j hj;rw[c,e];exact(hbe x a).more N1
  have hX3:∀j,j<L1.length->idW YL j∈ids.map (numb V):=fun j hj=>by
   obtain⟨x,a,b,c,d,e⟩:=hXa j hj;rw[d];exact dw.2 ⟨_,hidm x a,O⟩
  have hX4:∀j,j<L1.length->Be (rls (M2++N2)) (idW YL j) ((L1.map fun n=>ts.getD n []).getD j []):=fun j hj=>by
   obtain⟨x,a,b,c,d,e⟩:=hXa j hj;rw[d,e];exact(hgr x a b).more N2
  refine gg9 ?_;refine uX (qKk (q:=p1') (cq:=c1') (ids:=XL) hE hXl) O ?_;rintro _ _⟨p5,c5,rfl,rfl⟩;rw[hmn26];simp only[uV,uW];refine uX (qFf (U:=ids) (X:=XL) (ts:=L1.map fun n=>ts.getD n []) (k:=L1.length) (p:=p5) (c:=c5) (Es:=M++N1) (s:=s) (pp:=pp) (tb:=tb) (m:=mm) (bm:=bm) (f:=f1) hE hB hS1 hL26 hX1 hX2) O ?_;rintro _ _⟨N3,f3,g3,d3,B3,rfl,hE3,hS3,rfl⟩;simp only[uV,uW];refine gg11 ?_;refine uX (qKk (q:=p2') (cq:=c2') (ids:=YL) hE hYl) O ?_;rintro _ _⟨p6,c6,rfl,rfl⟩;rw[hmn26];simp only[uV,uW];refine uX (qFf (U:=ids.map (numb V)) (X:=YL) (ts:=L1.map fun n=>ts.getD n []) (k:=L1.length) (p:=p6) (c:=c6) (Es:=M2++N2) (s:=s2) (pp:=pp2) (tb:=tb2) (m:=mm2) (bm:=bm2) (f:=f2) hE hB hS2 hL26 hX3 hX4) O ?_;rintro _ _⟨N4,f4,g4,d4,B4,rfl,hE4,hS4,rfl⟩;obtain rfl:B4=B3:=hE4.fn hE3;simp only[uV,uW];have hqB3:Rdb E.w0 (some ⟨g3,0,none⟩) (byC B4) (sl (some ⟨g3,0,none⟩) d3 5 1 B4.length (byC B4)):=fun _=>⟨g3,0,O,vM (fun _ _ h=>h)⟩
  have hqB4:Rdb E.w0 (some ⟨g4,0,none⟩) (byC B4) (sl (some ⟨g4,0,none⟩) d4 5 1 B4.length (byC B4)):=fun _=>⟨g4,0,O,vM (fun _ _ h=>h)⟩
  refine gg23 ?_;refine uX (qAv (c:=d3) (d:=d4) hE hqB3 hqB4) O ?_;rintro _ _⟨rfl,rfl⟩;rw[lq (show B4=B4 from rfl)];simp only[uV,uW];refine gg14 ?_
  refine bS (ι:=HcG) (j:=⟨i+1,N1++N3,f3,N2++N4,f4⟩) ⟨by simp only;omega,by simp only;rw[<-ai];exact hS3,by simp only;rw[<-ai];exact hS4⟩ (by simp only;omega) ⟨rfl,rfl,rfl,rfl,rfl,rfl,rfl,rfl,rfl,bg some (bW (by simp only;omega)),trivial⟩ (by
   simp only;rw[<-ai,<-ai];(apply ent;(repeat constructor);done))
 obtain rfl:n2=i:=by omega
 have hW1:=hS1.room;have hW2:=hS2.room;refine iY (p:=bR s 1048576 (M++N1)) uK (fun _ h=>(dP h).1) ?_;intro hw1;refine iY (p:=bR s2 1048576 (M2++N2)) uK (fun _ h=>(dP h).1) ?_;intro hw3;have hGl':G.length=m:=hGl
 have htx1:InG G (M++N1).length:=fun i c hc=>by
  have:=htx i c hc;rw[ae];omega
 have hGtx:∀x,x<m->txG G x=idW ids x:=fun x hx=>by
  unfold txG;rw[Gc.cmAt_get (hcm x hx)];rfl
 have hN1:∀S:List Nat,S.Nodup->(∀x∈S,∃n,n<G.length/\Rea (rls (M++N1)) (txG G n) x)->S.length<65536:=fun S h1 h2=>by
  have:=qDp hw1 (B:=400) (X:=ids) (fun a ha=>⟨(hS1.ev a ha).1.le,(hS1.ev a ha).2⟩) S h1 fun x hx=>by
   obtain⟨n,hn,hr⟩:=h2 x hx;rw[hGl']at hn;rw[hGtx n hn]at hr;exact⟨_,hidm n hn,hr⟩
  omega
 obtain⟨S',hSd'⟩:∃S',S'=(List.range n2).map (fun i=>ps (hd i)):=⟨_,rfl⟩;have hSS:S'=S.map ps:=by rw[hSd',hSd,nz];rfl
 have hfin':=qWh (fun i=>ps (hd i)) (k:=n2) oO;have hfS':∀x,x∈S'↔∃y,hdK (fun i=>ps (hd i)) n2 y=some x:=by rw[hSd'];exact hdK_S _ oO
 have hSm':∀x∈S',x<H.length:=fun x hx=>by
  rw[hSd']at hx;obtain⟨i,hi,rfl⟩:=dw.1 hx;exact hph i (mh.1 hi)
 have hHin:∀(i:Nat)(c:Gc.Cm),H[i]?=some c->∃x,x<m/\Gc.kp G S x=true/\c=⟨(parW zs1 x).map ps,numb V (idW ids x),nmW x⟩:=fun i c hc=>by
  rw[hH]at hc;obtain⟨x,hk,hx,_,rfl⟩:=Gc.keepG_in hok hSm hc;have hx':x<m:=oO;refine⟨x,hx',hk,?_⟩;rw[Gc.cmAt_get (hcm x hx'),hps];rfl
 have hUle:∀x,x<m->numb V (idW ids x)<=(M2++N2).length:=fun x hx=>by
  have:=(hS2.ev (numb V (idW ids x)) (dw.2 ⟨_,hidm x hx,rfl⟩)).1.le;rwa [bQ]at this
 have htx2:InG H (M2++N2).length:=fun i c hc=>by
  obtain⟨x,hx,_,rfl⟩:=hHin i c hc;exact hUle x hx
 have hnt2:∀(i:Nat)(c:Gc.Cm),H[i]?=some c->c.nt.length<=200:=fun i c hc=>by
  obtain⟨x,hx,_,rfl⟩:=hHin i c hc;exact bn O
 have hHm:H.length<=m:=oO
 have hN2:∀S:List Nat,S.Nodup->(∀x∈S,∃n,n<H.length/\Rea (rls (M2++N2)) (txG H n) x)->S.length<65536:=fun S h1 h2=>by
  have:=qDp hw3 (B:=400) (X:=ids.map (numb V)) (fun a ha=>⟨(hS2.ev a ha).1.le,(hS2.ev a ha).2⟩) S h1 fun x hx=>by
   obtain⟨n,hn,hr⟩:=h2 x hx;obtain⟨y,hy,_,e⟩:=hHin n _ (Gc.cmAt_some hn);have e2:txG H n=numb V (idW ids y):=by unfold txG;rw[e]
   rw[e2]at hr;exact⟨_,dw.2 ⟨_,hidm y hy,O⟩,hr⟩
  rw[ic]at this;omega
 have hall:∀i,i<H.length->Gc.kp H S' i=true:=fun i hi=>by
  rw[hSS,hH,hps];exact Gc.keep_all hok hSm (numb V) i (by rw[hHl,hps]at hi;exact hi)
 refine gg10 ?_;refine uX (qUf (most:=1048576) (Es:=M++N1) (s:=s) (S:=S) hE hok oO hfin hfS hSm htx1 oO hN1) O ?_;rintro _ _⟨k42,rfl,rfl⟩;rw[<-hps,<-hHl];simp only[uV,uW];refine gg3 ?_;refine uU (dA (hE.t O) (fun b42=>?_));refine gg9 ?_;refine uX (ct_cOf (most:=1048576) (Es:=M2++N2) (s:=s2) (m2:=1048576) (S:=S') hE hHok oO hfin' hfS' hSm' htx2 hnt2 oO hN2 O) O ?_;rintro _ _⟨V',s3,h3,q3,M3,rfl,hlis',hVl',hV0',hM3,rfl⟩;have hm3l:M3.length=V'.length:=by rw[<-bQ M3,hM3,rF]
 have hG3:Gc.keepG H S' (numb V') H.length=retx H (numb V'):=Gc.keepG_full hHok hall _;have hT3:(fun y=>(hdK (fun i=>ps (hd i)) n2 y).map (Gc.pos H S'))=hdK (fun i=>ps (hd i)) n2:=hdK_id fun i hi=>Gc.pos_full hall _ (AA (hph i hi))
 rw[hG3,hT3];have hnumb:∀x,numb V' x<=V'.length:=vZ V'
 have hsm3:SmG (retx H (numb V')):=⟨by unfold retx;rw[ic];omega,fun i c hc=>by
  unfold retx at hc;rw[bu]at hc;cases e:H[i]? with
  |none=>rw[e]at hc;cases hc
  |some c0=>
   rw[e]at hc
   obtain rfl:=mg hc
   have h1:=hnumb c0.tx
   refine⟨by simp only;omega,hnt2 i c0 e,fun p hp=>?_⟩
   have h2:=hHok i c0 p e hp
   have h3:=(ag.1 e).1
   omega⟩
 have hTv:∀y,hdK (fun i=>ps (hd i)) n2 y≠none->ValidN y:=qWj _ oO
 have hTm:∀y k,hdK (fun i=>ps (hd i)) n2 y=some k->k<=1099511627776:=fun y k h=>by
  have:=hSm' k ((hfS' k).2 ⟨y,h⟩);omega
 simp only[uV,uW];refine gg12 ?_;refine uH ([cells b42 [.int .i64 (G.length:Nat),.int .i64 ((M++N1).length:Nat),.int .i64 (H.length:Nat),.int .i64 (k42:Nat)] 83]) ?_;refine gg10 ?_;apply jO 10 O O O oK O;refine uC (qW hE) O ?_;rintro _ _⟨rfl,rfl⟩;simp only[uV,uW];refine uE ?_;refine gg3 ?_;refine d_eq 314 (.bool true) O (by simp) ?_;refine uO 14 O O O (uBf O) ?_;refine gg2 ?_;apply jO 17 O O O oK O;refine uC (qW hE) O ?_;rintro _ _⟨rfl,rfl⟩;simp only[uV,uW];refine uE ?_;refine gg3 ?_;refine d_eq 321 (.bool true) O (by simp) ?_;refine uO 21 O O O (aB O) (uO 23 O O O (aB O) ?_);refine gg1 ?_;apply jO 22 O O O oK O;refine uC (qUk hE hsm3) O ?_;rintro _ _⟨ba,ca,rfl,rfl⟩;simp only[uV,uW];refine uE ?_;apply jO 25 O O O oK O;refine uC (qNj hE hHok hsm3 hnt2 oO) O ?_;rintro _ _⟨bb,cb,rfl,rfl⟩;simp only[uV,uW];have hqa:Rdb E.w0 (some ⟨ba,0,none⟩) (byC (putG (retx H (numb V')))) (sl (some ⟨ba,0,none⟩) ca 5 1 (putG (retx H (numb V'))).length (byC (putG (retx H (numb V'))))):=fun _=>⟨ba,0,O,vM (fun _ _ h=>h)⟩
 have hqb:Rdb E.w0 (some ⟨bb,0,none⟩) (byC (putG (retx H (numb V')))) (sl (some ⟨bb,0,none⟩) cb 5 1 (putG (retx H (numb V'))).length (byC (putG (retx H (numb V'))))):=fun _=>⟨bb,0,O,vM (fun _ _ h=>h)⟩
 refine uE ?_;apply jO 26 O O O oK O;refine uC (qAv (c:=ca) (d:=cb) hE hqa hqb) O ?_;rintro _ _⟨rfl,rfl⟩;rw[lq (show putG (retx H (numb V'))=putG (retx H (numb V'))from rfl)];simp only[uV,uW];refine uE ?_;refine gg3 ?_;refine uO 31 O O O (aB O) ?_;apply jO 30 O O O oK O;refine uC (qVd hE hfin' hTv hTm) O ?_;rintro _ _⟨l1,bc,cc,rfl,hl1,rfl⟩;simp only[uV,uW];refine uE ?_;apply jO 32 O O O oK O;refine uC (qVd hE hfin' hTv hTm) O ?_;rintro _ _⟨l2,bd,cd,rfl,hl2,rfl⟩;obtain rfl:l2=l1:=hl2.uniq hl1;simp only[uV,uW];have hqc:Rdb E.w0 (some ⟨bc,0,none⟩) (byC (qDm (hdK (fun i=>ps (hd i)) n2) l2)) (sl (some ⟨bc,0,none⟩) cc 5 1 (qDm (hdK (fun i=>ps (hd i)) n2) l2).length (byC (qDm (hdK (fun i=>ps (hd i)) n2) l2))):=fun _=>⟨bc,0,O,vM (fun _ _ h=>h)⟩
 have hqd:Rdb E.w0 (some ⟨bd,0,none⟩) (byC (qDm (hdK (fun i=>ps (hd i)) n2) l2)) (sl (some ⟨bd,0,none⟩) cd 5 1 (qDm (hdK (fun i=>ps (hd i)) n2) l2).length (byC (qDm (hdK (fun i=>ps (hd i)) n2) l2))):=fun _=>⟨bd,0,O,vM (fun _ _ h=>h)⟩
 refine uE ?_;apply jO 33 O O O oK O;refine uC (qAv (c:=cc) (d:=cd) hE hqc hqd) O ?_;rintro _ _⟨rfl,rfl⟩;rw[lq (show qDm (hdK (fun i=>ps (hd i)) n2) l2=qDm (hdK (fun i=>ps (hd i)) n2) l2 from rfl)];simp only[uV,uW];refine uE ?_;refine gg5 ?_;exact uZ O (.tmp O .nil) ⟨O,O⟩
