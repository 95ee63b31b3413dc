import Derived.Test.YtejcjelmpbkcbaaGreatDoorQ9b
import Derived.Test.YtejcjelmpbkcbaaGreatDoorQ9c
set_option linter.all false
set_option maxHeartbeats 1000000
namespace Go.Proofs.YtejcjelmpbkcbaaGreatDoor
open Go Go.RowKit Sl Eg
set_option maxRecDepth 10000
section
variable {E:Env}
def inC (zs:List Int):List Value:=zs.map fun z=> .int .i64 z
def qHv {l:List Int}{i:Nat}{x:Int}(h:l[i]?=some x)(k:Nat)(hk:k=i):(inC l)[k]?=some (.int .i64 x):=by subst hk;simp[inC,h]
def mvD (f:List UInt8->Option Nat)(mv:Nat->Nat)(done:List UInt8->Bool):List UInt8->Option Nat:=fun y=>if done y=true then(f y).map mv else none
def mvD_set {f:List UInt8->Option Nat}{mv:Nat->Nat}{done:List UInt8->Bool}{k:List UInt8}{m:Nat}(h:f k=some m):qIv (tgF (mvD f mv done)) k (tgV (mv m))=tgF (mvD f mv (fun x=>x==k||done x)):=by
 rw[qYv];congr 1;funext y;unfold setG mvD;by_cases e:y=k
 ·subst e;simp[h]
 simp[e]
structure MvG where
 D:List (List UInt8)
 done:List UInt8->Bool
def ct_tMove (hE:Seat E){t n c:Nat}{p:Option Addr}{f:List UInt8->Option Nat}{zs:List Int}{mv:Nat->Nat}(hf:finG f 12)(hz:∀y m,f y=some m->m<n/\zs[m]?=some ((mv m:Nat):Int)):Ct E 72 [uPt t,.slice p n c] [tbP t f,sl p c 3 1 n (inC zs)] (fun v Q=>∃t2,v= .tuple #[uPt t2,.nilIface]/\Q=[tbP t f,sl p c 3 1 n (inC zs),tbP t2 (fun y=>(f y).map mv)]):=by
 have hm1:E.P.underlying 163=some (.map 9 170):=by rw[hE.P];kernel_rfl
 have hm2:E.P.underlying 9=some .string:=by rw[hE.P];kernel_rfl
 have hm3:∀w,(zeroValue 170).run E.P w= .ok (.agg #[.int .i64 0,.bool false]) w:=fun w=>by rw[hE.P];kernel_rfl
 refine Sl.ct_open vH (fun b=>?_);simp only[uV,uW];refine dW (p:=kL b (tgF f)) uK (fun _ h=>qBf h) ?_;rintro⟨nn,hc⟩;refine dW (p:=sl p c 3 1 n (inC zs)) uK (fun _ h=>fun hpos=>dX h hpos) (fun hp=>?_);refine bO (hE.fn Tryz.func72) O O O (fun R=>?_);simp only[dQ,uV,uW];refine gg18 ?_;refine uX (qVc hE) O ?_;rintro _ _⟨t2,rfl,rfl⟩;simp only[uV,uW];refine gg10 ?_;refine uU ?_;apply qCz hm1 O uK;intro br;refine gg3 ?_;refine yI (p:=tbP t2 (fun _=>none)) (ps:=fun b2:Nat=>[cells t2 [.map (some b2)] 165,kL b2 (tgF (fun _=>none))]) uK (fun k h=>h) ?_;intro b2;simp only[uV,uW];have e0:(fun _=>none:List UInt8->Option Nat)=mvD f mv (fun _=>false):=by funext y;simp[mvD]
 rw[e0];refine dV (fun x:MvG=>[(0,uPt t),(1,.slice p n c),(6,uPt t2),(17,uPt br)]) (fun x=>[qAs br b (tgF f) x.done,cells t [.map (some b)] 165,sl p c 3 1 n (inC zs),cells t2 [.map (some b2)] 165,kL b2 (tgF (mvD f mv x.done)),R]) (fun x=>nn+1-x.D.length) (fun x=>x.D.Nodup/\(∀y,y∈x.D↔x.done y=true)/\∀y∈x.D,tgF f y≠none) ⟨[],fun _=>false⟩ ⟨.nil,fun y=>by simp,fun y h=>by simp at h⟩ ⟨rfl,rfl,rfl,rfl,trivial⟩ uI ?_;rintro⟨D,done⟩⟨h1,h2,h3⟩;simp only at h1 h2 h3 ⊢;have hDn:=lY hc h1 h3;refine gg2 ?_;refine uU ?_;apply qHy O uK
 ·intro hall;refine gg5 ?_
  have e1:mvD f mv done=fun y=>(f y).map mv:=by
   funext y;unfold mvD;split
   ·rfl
   rename_i hn
   cases e:f y with
   |none=>rfl
   |some m=>exact absurd (hall y _ (qBp e)) hn
  rw[e1];refine gF (cO (p:=qAs br b (tgF f) done) (p':=kL b (tgF f)) uK (fun k h=>qIo h)) ?_;refine gF (fH (ps:=[cells t [.map (some b)] 165,kL b (tgF f)]) (p:=tbP t f) uK nE) ?_;refine gF (fH (ps:=[cells t2 [.map (some b2)] 165,kL b2 (tgF (fun y=>(f y).map mv))]) (p:=tbP t2 (fun y=>(f y).map mv)) uK nE) ?_;refine gg13 ?_;exact uZ O (.tmp O (.tmp O .nil)) ⟨t2,O,O⟩
 intro k v hk hd;obtain⟨m,hfm,rfl⟩:=qYu hk;obtain⟨hmn,hzm⟩:=hz k m hfm;obtain⟨gp,rfl⟩:=hp oO;have f0:=qHv hzm (((m:Nat):Int).toNat) oO;refine gg10 ?_;refine uB (qJq O uK) ?_;refine lT (fun _ h=>fA (fun _ x=>qOl x) h) ?_;unfold tgV;refine gg2 ?_;refine uU (dA (hE.t O) (fun b8=>?_));refine gg13 ?_;refine l_eq 28 (.bool false) O (bg Value.bool (ma oO)) ?_;refine gg18 ?_;refine uN 13 ([cells t2 [.map (some b2)] 165,cells b8 [.int .i64 (m:Nat),.bool false] 170,sl (some ⟨gp,0,none⟩) c 3 1 n (inC zs)]) ?_;refine gg10 ?_;apply dG 10 O oK
 ·exact uBf O
 ·rfl
 apply dG 11 O oK
 ·(apply aO rfl (hE.t rfl) rfl;(repeat(first |rfl|assumption|constructor));done)
 ·rfl
 apply dG 12 O oK
 ·(first |exact jM (hE.t rfl) rfl rfl|exact qJp (hE.t rfl) rfl rfl)
 ·rfl
 apply fU O oK oK O;apply qFx (kt:=9) (et:=170) (by rw[hE.P];kernel_rfl) (by rw[hE.P];kernel_rfl) O O O
 ·exact uK
 refine gg1 ?_;obtain⟨hnd,hdn⟩:=qDz h1 h2 hd
 have hne:∀y∈D++[k],tgF f y≠none:=fun y hy=>by
  rcases bi.1 hy with hy|hy
  ·exact h3 y hy
  simp at hy;subst hy;rw[hk];simp
 have hb2:=lY hc hnd hne;have hset:qIv (tgF (mvD f mv done)) k (Value.agg ⟨bX (bX [.int .i64 0,.bool false] 0 (bP (.int .i64 (mv m:Nat)))) 1 (bP (.bool false))⟩)=tgF (mvD f mv (fun x=>x==k||done x)):=mvD_set (mv:=mv) (done:=done) hfm;rw[hset];refine bS (ι:=MvG) (j:=⟨D++[k],fun x=>x==k||done x⟩) ⟨hnd,hdn,hne⟩ (by simp only[ae,ay]at hb2 ⊢;omega) ⟨rfl,rfl,rfl,rfl,trivial⟩ uI
structure PtG where
 i:Nat
 B:List UInt8
 g:Nat
 c:Nat
def putN (f:List UInt8->Option Nat)(x:List UInt8):List UInt8:=gX x++([0]++vput ((f x).getD 0))
def qDm (f:List UInt8->Option Nat)(l:List (List UInt8)):List UInt8:=vput l.length++l.flatMap (putN f)
def qTs {x:List UInt8}(hx:ValidN x):(gX x).length<=42/\0<(gX x).length:=by
 have h1:=gJ (n:=x.length) (by have:=hx.2.1;omega);have h2:=jD x.length;have h3:(gX x).length=(vput x.length).length+x.length:=ae;have:=hx.2.1;omega
def qCl {α:Type}{l:List α}{i:Nat}{x:α}(h:l[i]?=some x)(F:α->List UInt8):(l.take (i+1)).flatMap F=(l.take i).flatMap F++F x:=by
 rw[di,h,yz,yf,List.flatMap_singleton]
def qVd (hE:Seat E){t:Nat}{f:List UInt8->Option Nat}(hf:finG f 12)(hv:∀y,f y≠none->ValidN y) (hm:∀y m,f y=some m->m<=1099511627776):Ct E 38 [uPt t] [tbP t f] (fun v Q=>∃l g c,v= .slice (some ⟨g,0,none⟩) (qDm f l).length c/\Kys (tgF f) l/\Q=[tbP t f,sl (some ⟨g,0,none⟩) c 5 1 (qDm f l).length (byC (qDm f l))]):=by
 have hm1:E.P.underlying 163=some (.map 9 170):=by rw[hE.P];kernel_rfl
 have hm2:E.P.underlying 9=some .string:=by rw[hE.P];kernel_rfl
 have hm3:∀w,(zeroValue 170).run E.P w= .ok (.agg #[.int .i64 0,.bool false]) w:=fun w=>by rw[hE.P];kernel_rfl
 refine Sl.ct_open vH (fun b=>?_);simp only[uV,uW];refine dW (p:=kL b (tgF f)) uK (fun _ h=>qBf h) ?_;rintro⟨nn,hc⟩;have hn:=hf.cnt hc;refine bO (hE.fn Tryz.func38) O O O (fun R=>?_);simp only[dQ,uV,uW];refine gg21 ?_;refine uB (qTk (kt:=9) (et:=170) (by rw[hE.P];kernel_rfl) O uK (by assumption)) ?_;refine gg1 ?_;refine uX (kQ (n:=nn) hE oO) O ?_;rintro _ _⟨g0,c0,rfl,rfl⟩;simp only[uV,uW];refine gg3 ?_;refine gF (fH (ps:=[cells t [.map (some b)] 165,kL b (tgF f)]) (p:=tbP t f) uK nE) ?_;refine gg4 ?_;refine uX (qVb hE hf) O ?_;rintro _ _⟨l,q,d,rfl,hl,rfl⟩;have hln:=hl.len hc;subst hln;have hv0:=gJ (n:=l.length) oO;simp only[uV,uW];refine lQ (p:=sl q d 9 1 l.length (nmC l)) uK (fun _ h=>fun hpos=>dX h hpos) ?_;intro hq;refine gg5 ?_
 refine dV (fun x:PtG=>[(0,uPt t),(3,.slice (some ⟨x.g,0,none⟩) x.B.length x.c),(17,.slice q l.length d),(18,.int .i64 (l.length:Nat)),(19,.int .i64 (x.i:Nat))]) (fun x=>[tbP t f,sl q d 9 1 l.length (nmC l),sl (some ⟨x.g,0,none⟩) x.c 5 1 x.B.length (byC x.B),R]) (fun x=>l.length-x.i) (fun x=>x.i<=l.length/\x.B=vput l.length++(l.take x.i).flatMap (putN f)/\x.B.length<=10+60*x.i) ⟨0,vput l.length,g0,c0⟩ ⟨au _,by simp,by simp only;omega⟩ ⟨rfl,rfl,rfl,rfl,rfl,trivial⟩ uI ?_;rintro⟨i,B,g,c⟩⟨hi,hB,hBl⟩;simp only at hi hB hBl ⊢;refine gg6 ?_;refine bE O (fun h1=>?_) (fun h1=>?_)
 ·have hil:i<l.length:=oO;obtain⟨gq,rfl⟩:=hq oO;obtain⟨x,hx⟩:∃x,l[i]?=some x:=⟨_,ah hil⟩;have hxf:=tgF_ne.1 ((hl.mem x).1 (ak hx));obtain⟨m,hfm⟩:=uy.1 hxf;have hvx:=hv x hxf;have hz:=qBp hfm;have hm0:=hm x m hfm;have hxl:=hvx.2.1;obtain⟨hb1,hb2⟩:=qTs hvx;have hv1:=gJ (n:=m) oO;have f0:(nmC l)[((i:Nat):Int).toNat]?=some (.string ⟨⟨x⟩⟩):=by unfold nmC;simp[hx]
  refine gg11 ?_;refine yI (p:=tbP t f) (ps:=fun b2:Nat=>[cells t [.map (some b2)] 165,kL b2 (tgF f)]) uK (fun k h=>h) ?_;intro b2;simp only[uV,uW];refine gg7 ?_;refine uB (qPa hm1 hm2 hm3 O O uK hz) ?_;refine uU (dA (hE.t O) (fun b6=>?_));refine gg3 ?_;refine gF (fH (ps:=[cells t [.map (some b2)] 165,kL b2 (tgF f)]) (p:=tbP t f) uK nE) ?_;refine gg4 ?_;refine uU ?_;refine qBb O (hE.t O) (hE.t O) (hE.t O) (fun gb cb=>?_);refine uX (qU (g:=gb) (c:=cb) (bs:=x) hE oO) O ?_;rintro _ _⟨g4,c4,rfl,rfl⟩;simp only[uV,uW];refine uU ?_;apply fD (hE.t O) (hE.t O) O O O
  ·exact uK
  ·exact uK
  ·exact gV _
  ·exact hb2
  ·omega
  ·unfold maxLen;omega
  intro g5 c5 m' x' hm' hx';obtain rfl:m'=(B++gX x).length:=hm'.trans ae.symm;obtain rfl:x'=byC (B++gX x):=hx'.trans (fG _ _).symm;clear hm' hx';have hd5:(B++gX x).length=B.length+(gX x).length:=ae;refine gg13 ?_;refine uU ?_;refine aU (hE.t O) (hE.t O) O O O (fun b40=>?_);refine uU ?_;apply bU (hE.t O) (hE.t O) O O O
  ·exact uK
  ·exact uK
  ·rfl
  ·rfl
  ·omega
  ·omega
  ·(unfold maxLen;omega)
  intro g41 c41 n41 x41 hn41 hx41;refine gg8 ?_;obtain rfl:n41=(B++gX x++[0]).length:=by rw[ae,ay];omega
  obtain rfl:x41=byC (B++gX x++[0]):=by rw[hx41,fG (B++gX x) [0]];rfl
  have hd6:(B++gX x++[(0:UInt8)]).length=(B++gX x).length+1:=ae;refine uX (kQ (n:=m) hE oO) O ?_;rintro _ _⟨g6,c6,rfl,rfl⟩;simp only[uV,uW];refine uU ?_;apply fD (hE.t O) (hE.t O) O O O
  ·exact uK
  ·exact uK
  ·exact gV _
  ·exact(jD _)
  ·omega
  ·unfold maxLen;omega
  intro g7 c7 m' x' hm' hx';obtain rfl:m'=(B++gX x++[0]++vput m).length:=hm'.trans ae.symm;obtain rfl:x'=byC (B++gX x++[0]++vput m):=hx'.trans (fG _ _).symm;clear hm' hx';have hd7:(B++gX x++[0]++vput m).length=(B++gX x++[0]).length+(vput m).length:=ae;refine gg8 ?_;refine bS (ι:=PtG) (j:=⟨i+1,B++gX x++[0]++vput m,g7,c7⟩) ⟨by simp only;omega,?_,by simp only;omega⟩ (by simp only;omega) ⟨rfl,rfl,rfl,rfl,bg some (bW (by simp only;omega)),trivial⟩ uI;simp only;rw[hB,qCl hx,putN,hfm];simp only[ai,uh]
 obtain rfl:i=l.length:=by omega
 rw[lw]at hB;refine gg12 ?_;apply cK
 ·rfl
 ·(apply Rs.tmp rfl;exact Rs.nil)
 ·exact⟨l,g,c,by rw[hB];rfl,hl,rfl⟩
 rw[hB];exact uI
end
section
variable {E:Env}
def putP (c:Gc.Cm):List UInt8:=match c.pa with
 |none=>[]
 |some p=>vput p
def putC (c:Gc.Cm):List UInt8:=vput (paN c)++putP c++vput c.tx++gX c.nt
def putG (G:List Gc.Cm):List UInt8:=vput G.length++G.flatMap putC
def SmG (G:List Gc.Cm):Prop:=G.length<=65536/\∀(i:Nat)(c:Gc.Cm),G[i]?=some c->c.tx<=1099511627776/\c.nt.length<=200/\∀p,c.pa=some p->p<=1099511627776
def putP_len {c:Gc.Cm}(h:∀p,c.pa=some p->p<=1099511627776):(putP c).length<=10:=by
 unfold putP;cases e:c.pa with
 |none=>simp
 |some p=>have:=gJ (n:=p) (by have:=h p e;omega);simpa using this
def qUk (hE:Seat E){g:Nat}{G:List Gc.Cm}(hS:SmG G):Ct E 36 [uPt g] [grP g G] (fun v Q=>∃b c,v= .slice (some ⟨b,0,none⟩) (putG G).length c/\Q=[grP g G,sl (some ⟨b,0,none⟩) c 5 1 (putG G).length (byC (putG G))]):=by
 have hGl:=hS.1;refine Sl.ct_open pO (fun i=>?_);have hil:=i.len;have hat:∀(m:Nat),m<G.length->∃x,i.l[m]?=some x/\x.c=Gc.cmAt G m:=fun m hm=>i.at (Gc.cmAt_some hm)
 obtain⟨p,kk,l,his⟩:=i;simp only[uV,uW]at hil hat ⊢;refine dW (p:=sl p kk 71 3 l.length (cmC l)) uK (fun _ h=>fun hpos=>dX h hpos) (fun hp=>?_);have hv0:=gJ (n:=G.length) oO;have hvp:=jD G.length;refine bO (hE.fn Tryz.func36) O O O (fun R=>?_);simp only[dQ,uV,uW];refine gg23 ?_;refine uX (kQ (n:=l.length) hE oO) O ?_;rintro _ _⟨b0,d0,rfl,rfl⟩;rw[show vput l.length=vput G.length by rw[hil]];simp only[uV,uW];refine gg15 ?_;refine dV (fun x:PtG=>[(0,uPt g),(3,.slice (some ⟨x.g,0,none⟩) x.B.length x.c),(20,.slice p l.length kk),(21,.int .i64 (l.length:Nat)),(22,.int .i64 (x.i:Nat))]) (fun x=>[cells g [.slice p l.length kk] 162,sl p kk 71 3 l.length (cmC l),dS (l.map paH),sl (some ⟨x.g,0,none⟩) x.c 5 1 x.B.length (byC x.B),R]) (fun x=>l.length-x.i) (fun x=>x.i<=l.length/\x.B=vput G.length++(G.take x.i).flatMap putC/\x.B.length<=10+300*x.i) ⟨0,vput G.length,b0,d0⟩ ⟨au _,by simp,by simp only;omega⟩ ⟨rfl,rfl,rfl,rfl,rfl,trivial⟩ uI ?_;rintro⟨i,B,gB,cB⟩⟨hi,hB,hBl⟩;simp only at hi hB hBl ⊢;refine gg6 ?_;refine bE O (fun h1=>?_) (fun h1=>?_)
 ·have hiG:i<G.length:=oO;obtain⟨gl,rfl⟩:=hp oO;obtain⟨⟨c0,a,k⟩,hx,hcm⟩:=hat i hiG;have hc0:=Gc.cmAt_some hiG;rw[<-hcm]at hc0;simp only at hc0;clear hcm;obtain⟨hb1,hb2,hb3⟩:=hS.2 i c0 hc0;obtain⟨f0,f1,f2⟩:=qPg hx (0+((i:Nat):Int).toNat*3) oO;simp only at f0 f1 f2;have hpn:=qXh c0;have hpl:=putP_len hb3;have hv1:=gJ (n:=paN c0) oO;have hv2:=gJ (n:=c0.tx) oO;have hv3:=gJ (n:=c0.nt.length) oO;have hv4:=jD c0.nt.length;have hbl:(gX c0.nt).length=(vput c0.nt.length).length+c0.nt.length:=ae;refine gg8 ?_;refine uU (dA (hE.t O) (fun b5=>?_));refine gg10 ?_;refine uX (kQ (n:=paN c0) hE oO) O ?_;rintro _ _⟨g4,c4,rfl,rfl⟩;simp only[uV,uW];refine uU ?_;apply fD (hE.t O) (hE.t O) O O O
  ·exact uK
  ·exact uK
  ·exact gV _
  ·exact(jD _)
  ·omega
  ·unfold maxLen;omega
  intro g5 c5 m' x' hm' hx';obtain rfl:m'=(B++vput (paN c0)).length:=hm'.trans ae.symm;obtain rfl:x'=byC (B++vput (paN c0)):=hx'.trans (fG _ _).symm;clear hm' hx';have hd5:(B++vput (paN c0)).length=B.length+(vput (paN c0)).length:=ae;refine gg13 ?_;rcases hpa:c0.pa with _| q
  ·have e0:putP c0=[]:=by unfold putP;rw[hpa]
   refine w_eq 35 (.int .i64 ((0:Nat):Int)) O (bW (by rw[rJ hpa])) ?_;have e1:B++vput (paN c0)=B++vput (paN c0)++putP c0:=by rw[e0,av]
   refine w_eq 3 (.slice (some ⟨g5,0,none⟩) (B++vput (paN c0)++putP c0).length c5) O (by rw[<-e1]) ?_;refine gF (cO (p:=sl (some ⟨g5,0,none⟩) c5 5 1 (B++vput (paN c0)).length (byC (B++vput (paN c0)))) (p':=sl (some ⟨g5,0,none⟩) c5 5 1 (B++vput (paN c0)++putP c0).length (byC (B++vput (paN c0)++putP c0))) uK (fun _ h=>by rw[<-e1];exact h)) ?_;refine fT 1 ?_;refine gg8 ?_;have hdp:(B++vput (paN c0)++putP c0).length=(B++vput (paN c0)).length+(putP c0).length:=ae;refine gg11 ?_;refine uX (kQ (n:=c0.tx) hE oO) O ?_;rintro _ _⟨g6,c6,rfl,rfl⟩;simp only[uV,uW];refine uU ?_;apply fD (hE.t O) (hE.t O) O O O
   ·exact uK
   ·exact uK
   ·exact gV _
   ·exact(jD _)
   ·omega
   ·unfold maxLen;omega
   intro g7 c7 m' x' hm' hx';obtain rfl:m'=(B++vput (paN c0)++putP c0++vput c0.tx).length:=hm'.trans ae.symm;obtain rfl:x'=byC (B++vput (paN c0)++putP c0++vput c0.tx):=hx'.trans (fG _ _).symm;clear hm' hx';have hd7:(B++vput (paN c0)++putP c0++vput c0.tx).length=(B++vput (paN c0)++putP c0).length+(vput c0.tx).length:=ae;refine gg7 ?_;refine uU ?_;refine qBb O (hE.t O) (hE.t O) (hE.t O) (fun gb cb=>?_);refine uX (qU (g:=gb) (c:=cb) (bs:=c0.nt) hE oO) O ?_;rintro _ _⟨g8,c8,rfl,rfl⟩;simp only[uV,uW];refine uU ?_;apply fD (hE.t O) (hE.t O) O O O
   ·exact uK
   ·exact uK
   ·exact gV _
   ·exact oO
   ·omega
   ·unfold maxLen;omega
   intro g9 c9 m' x' hm' hx';obtain rfl:m'=(B++vput (paN c0)++putP c0++vput c0.tx++gX c0.nt).length:=hm'.trans ae.symm;obtain rfl:x'=byC (B++vput (paN c0)++putP c0++vput c0.tx++gX c0.nt):=hx'.trans (fG _ _).symm;clear hm' hx';have hd9:(B++vput (paN c0)++putP c0++vput c0.tx++gX c0.nt).length=(B++vput (paN c0)++putP c0++vput c0.tx).length+(gX c0.nt).length:=ae;refine gg8 ?_;refine bS (ι:=PtG) (j:=⟨i+1,B++vput (paN c0)++putP c0++vput c0.tx++gX c0.nt,g9,c9⟩) ⟨by simp only;omega,by simp only;rw[hB,qCl hc0,putC];simp only[ai],by simp only;omega⟩ (by simp only;omega) ⟨rfl,rfl,rfl,rfl,bg some (bW (by simp only;omega)),trivial⟩ uI
  have e0:putP c0=vput q:=by unfold putP;rw[hpa]
  have hq:=hb3 q hpa;have hvq:=gJ (n:=q) oO;have hn1:=zH hpa;refine yI (p:=dS (l.map paH)) (ps:=fun _:Unit=>[paH ⟨c0,a,k⟩,dS ((l.take i++l.drop (i+1)).map paH)]) uK (fun k h=>⟨(),qBh hx k h⟩) ?_;intro _;simp only[uV,uW];refine iY (p:=paH ⟨c0,a,k⟩) uK (fun _ h=>dX h (by simp only;omega)) ?_;rintro⟨ga,hga⟩;simp only at hga;subst hga;have f3:(paI c0)[((0:Int)).toNat]?=some (.int .i64 (q:Nat)):=by rw[vC hpa];rfl
  have f4:(paI c0)[0+((0:Int)).toNat]?=some (.int .i64 (q:Nat)):=by rw[vC hpa];rfl
  refine w_eq 35 (.int .i64 ((1:Nat):Int)) O (bW (by rw[hn1])) ?_;refine fT 2 ?_;refine gg23 ?_;refine uX (kQ (n:=q) hE oO) O ?_;rintro _ _⟨gq,cq,rfl,rfl⟩;simp only[uV,uW];refine uU ?_;apply fD (hE.t O) (hE.t O) O O O
  ·exact uK
  ·exact uK
  ·exact gV _
  ·exact(jD _)
  ·omega
  ·unfold maxLen;omega
  intro gr cr m' x' hm' hx';obtain rfl:m'=(B++vput (paN c0)++vput q).length:=hm'.trans ae.symm;obtain rfl:x'=byC (B++vput (paN c0)++vput q):=hx'.trans (fG _ _).symm;clear hm' hx';rw[<-e0];refine gg17 ?_;refine gF (fH (ps:=[paH ⟨c0,some ⟨ga,0,none⟩,k⟩,dS ((l.take i++l.drop (i+1)).map paH)]) (p:=dS (l.map paH)) uK (vB hx)) ?_;have hdp:(B++vput (paN c0)++putP c0).length=(B++vput (paN c0)).length+(putP c0).length:=ae;refine gg11 ?_;refine uX (kQ (n:=c0.tx) hE oO) O ?_;rintro _ _⟨g6,c6,rfl,rfl⟩;simp only[uV,uW];refine uU ?_;apply fD (hE.t O) (hE.t O) O O O
  ·exact uK
  ·exact uK
  ·exact gV _
  ·exact(jD _)
  ·omega
  ·unfold maxLen;omega
  intro g7 c7 m' x' hm' hx';obtain rfl:m'=(B++vput (paN c0)++putP c0++vput c0.tx).length:=hm'.trans ae.symm;obtain rfl:x'=byC (B++vput (paN c0)++putP c0++vput c0.tx):=hx'.trans (fG _ _).symm;clear hm' hx';have hd7:(B++vput (paN c0)++putP c0++vput c0.tx).length=(B++vput (paN c0)++putP c0).length+(vput c0.tx).length:=ae;refine gg7 ?_;refine uU ?_;refine qBb O (hE.t O) (hE.t O) (hE.t O) (fun gb cb=>?_);refine uX (qU (g:=gb) (c:=cb) (bs:=c0.nt) hE oO) O ?_;rintro _ _⟨g8,c8,rfl,rfl⟩;simp only[uV,uW];refine uU ?_;apply fD (hE.t O) (hE.t O) O O O
  ·exact uK
  ·exact uK
  ·exact gV _
  ·exact oO
  ·omega
  ·unfold maxLen;omega
  intro g9 c9 m' x' hm' hx';obtain rfl:m'=(B++vput (paN c0)++putP c0++vput c0.tx++gX c0.nt).length:=hm'.trans ae.symm;obtain rfl:x'=byC (B++vput (paN c0)++putP c0++vput c0.tx++gX c0.nt):=hx'.trans (fG _ _).symm;clear hm' hx';have hd9:(B++vput (paN c0)++putP c0++vput c0.tx++gX c0.nt).length=(B++vput (paN c0)++putP c0++vput c0.tx).length+(gX c0.nt).length:=ae;refine gg8 ?_;refine bS (ι:=PtG) (j:=⟨i+1,B++vput (paN c0)++putP c0++vput c0.tx++gX c0.nt,g9,c9⟩) ⟨by simp only;omega,by simp only;rw[hB,qCl hc0,putC];simp only[ai],by simp only;omega⟩ (by simp only;omega) ⟨rfl,rfl,rfl,rfl,bg some (bW (by simp only;omega)),trivial⟩ uI
 obtain rfl:i=l.length:=by omega
 rw[hil,lw]at hB;refine gg12 ?_;apply cK
 ·rfl
 ·(apply Rs.tmp rfl;exact Rs.nil)
 ·exact⟨gB,cB,by rw[hB];rfl,rfl⟩
 rw[hB];refine cZ (fH (ps:=[cells g [.slice p l.length kk] 162,sl p kk 71 3 l.length (cmC l),dS (l.map paH)]) (p:=grP g G) uK (mJ his)) ?_;exact uI
end
