import Derived.Test.YtejcjelmpbkcbaaGreatDoorQ9d
set_option linter.all false
set_option maxHeartbeats 1000000
namespace Gc
def keepG_succ (G:List Cm)(S:List Nat)(f:Nat->Nat)(n:Nat):keepG G S f (n+1)=if kp G S n=true then keepG G S f n++[mvC G S f (cmAt G n)]else keepG G S f n:=by
 unfold keepG;rw[qZw];split
 ·rw[jh];rfl
 rfl
def mv_none {c:Cm}{f:Nat->Nat}(h:c.pa=none):(⟨c.pa.map f,id c.tx,c.nt⟩:Cm)=c:=by
 obtain⟨pa,tx,nt⟩:=c;simp only at h;subst h;rfl
def mv_some {c:Cm}{f:Nat->Nat}{q:Nat}(h:c.pa=some q):(⟨c.pa.map f,id c.tx,c.nt⟩:Cm)=⟨some (f q),c.tx,c.nt⟩:=by rw[h];rfl
def tz (G:List Cm)(S:List Nat)(m:Nat):Int:=if kp G S m=true then((pos G S m:Nat):Int)else -1
end Gc
namespace Go.Proofs.YtejcjelmpbkcbaaGreatDoor
open Go Go.RowKit Sl Eg
set_option maxRecDepth 10000
variable {E:Env}
def boC (bs:List Bool):List Value:=bs.map .bool
def qMr {l:List Bool}{i:Nat}{x:Bool}(h:l[i]?=some x)(k:Nat)(hk:k=i):(boC l)[k]?=some (.bool x):=by subst hk;simp[boC,h]
def qMs {xs:List Bool}{k:Nat}{a:Bool}(h:k<xs.length)(o:Nat)(ho:o=k):bX (boC xs) o (bP (.bool a))=boC (xs.set k a):=by
 subst ho;have hl:(boC xs).length=xs.length:=by simp[boC]
 rw[iB _ _ _ (by rw[hl];exact h)];unfold boC;rw[yj,oP,if_pos (by simpa using h)];simp[bP]
def qNx {xs:List Int}{k:Nat}{a:Int}(h:k<xs.length)(o:Nat)(ho:o=k):bX (inC xs) o (bP (.int .i64 a))=inC (xs.set k a):=by
 subst ho;have hl:(inC xs).length=xs.length:=by simp[inC]
 rw[iB _ _ _ (by rw[hl];exact h)];unfold inC;rw[yj,oP,if_pos (by simpa using h)];simp[bP]
def qPf (n:Nat):List.replicate n (Value.bool false)=boC (List.replicate n false):=by simp[boC]
def inC_zero (n:Nat):List.replicate n (Value.int .i64 0)=inC (List.replicate n 0):=by simp[inC]
structure KpG where
 i:Nat
 bs:List Bool
structure KqG where
 i:Nat
 zs:List Int
def ct_gKeep (hE:Seat E){g c:Nat}{p:Option Addr}{G:List Gc.Cm}{S K:List Nat}(hok:Gc.Ok G)(hS:∀x∈S,x<G.length) (hl:G.length<=65536) (hKn:K.Nodup) (hK:∀x,x∈K↔Gc.kp G S x=true):
  Ct E 71 [uPt g,.slice p K.length c] [grP g G,sl p c 3 1 K.length (idC K)] (fun v Q=>∃g2 p2 c2 zs,v= .tuple #[uPt g2,.slice p2 G.length c2,.nilIface]/\zs.length=G.length/\(∀m,m<G.length->zs[m]?=some (Gc.tz G S m))/\Q=[grP g G,sl p c 3 1 K.length (idC K),grP g2 (Gc.keepG G S id G.length),sl p2 c2 3 1 G.length (inC zs)]):=by
 refine Sl.ct_open pO (fun i=>?_);have hil:=i.len;have hat:∀(m:Nat),m<G.length->∃x,i.l[m]?=some x/\x.c=Gc.cmAt G m:=fun m hm=>i.at (Gc.cmAt_some hm)
 obtain⟨pg,kk,l,his⟩:=i;simp only[uV,uW]at hil hat ⊢
 have hKl:K.length<=G.length:=by
  have:=lL hKn (B:=List.range G.length) fun x hx=>mh.2 (Gc.kp_lt hok hS ((hK x).1 hx))
  simpa using this
 refine dW (p:=sl p c 3 1 K.length (idC K)) uK (fun _ h=>fun hpos=>dX h hpos) (fun hp=>?_);refine dW (p:=sl pg kk 71 3 l.length (cmC l)) uK (fun _ h=>fun hpos=>dX h hpos) (fun hpg=>?_);refine bO (hE.fn Tryz.func71) O O O (fun R=>?_);simp only[dQ,uV,uW];refine gg26 ?_;refine dV (fun i:Nat=>[(0,uPt g),(1,.slice p K.length c),(21,.slice p K.length c),(22,.int .i64 (K.length:Nat)),(23,.int .i64 (i:Nat))]) (fun i=>[cells g [.slice pg l.length kk] 162,sl pg kk 71 3 l.length (cmC l),dS (l.map paH),sl p c 3 1 K.length (idC K),R]) (fun i=>K.length-i) (fun i=>i<=K.length) 0 (au _) ⟨O,O,O,O,O,trivial⟩ uI ?_;rintro i hi;refine gg6 ?_;refine bE O (fun h1=>?_) (fun h1=>?_)
 ·have hiK:i<K.length:=oO;obtain⟨gp,rfl⟩:=hp oO;obtain⟨x,hx⟩:∃x,K[i]?=some x:=⟨_,ah hiK⟩;have hxl:=Gc.kp_lt hok hS ((hK x).1 (ak hx));have f0:=eF hx (((i:Nat):Int).toNat) oO;refine gg15 ?_;refine uX (qHd (n:=l.length) hE (m:=x) oO) O ?_;rintro _ _⟨rfl,rfl⟩;simp only[uV,uW];refine gg11 ?_;refine bS (ι:=Nat) (j:=i+1) oO oO ⟨O,O,O,O,bg some (bW oO),trivial⟩ uI
 obtain rfl:i=K.length:=by omega
 clear h1 hi;have hml:l.length<=maxLen:=by unfold maxLen;omega
 refine gg12 ?_;refine uU ?_;refine tZ (hE.t O) (hE.t O) O oO hml (fun b38=>?_);rw[qPf];refine gg12 ?_;refine dV (fun x:KpG=>[(0,uPt g),(1,.slice p K.length c),(9,.slice (some ⟨b38,0,none⟩) l.length l.length),(39,.slice p K.length c),(40,.int .i64 (K.length:Nat)),(41,.int .i64 (x.i:Nat))]) (fun x=>[cells g [.slice pg l.length kk] 162,sl pg kk 71 3 l.length (cmC l),dS (l.map paH),sl p c 3 1 K.length (idC K),sl (some ⟨b38,0,none⟩) l.length 4 1 l.length (boC x.bs),R]) (fun x=>K.length-x.i) (fun x=>x.i<=K.length/\x.bs.length=l.length/\∀m,m<l.length->x.bs[m]?=some ((K.take x.i).contains m)) ⟨0,List.replicate l.length false⟩ ⟨au _,by simp,fun m hm=>by simp[hm]⟩ ⟨rfl,rfl,rfl,rfl,rfl,rfl,trivial⟩ uI ?_;rintro⟨i,bs⟩⟨hi,hbl,hbs⟩;simp only at hi hbl hbs ⊢;refine gg6 ?_;refine bE O (fun h1=>?_) (fun h1=>?_)
 ·have hiK:i<K.length:=oO;obtain⟨gp,rfl⟩:=hp oO;obtain⟨x,hx⟩:∃x,K[i]?=some x:=⟨_,ah hiK⟩;have hxl:=Gc.kp_lt hok hS ((hK x).1 (ak hx))
  have hxn:(K.take i).contains x=false:=by
   cases e:(K.take i).contains x with
   |false=>rfl
   |true=>
    exfalso
    simp only[uu,decide_eq_true_eq]at e
    obtain⟨j,hj⟩:=jv e
    have hji:j<i:=by
     have:=(ag.1 hj).1;rw[fw]at this;omega
    rw[kw,if_pos hji]at hj
    have:=(zl oO hKn).1 (hj.trans hx.symm)
    omega
  have hbx:=hbs x oO;rw[hxn]at hbx;have f0:=eF hx (((i:Nat):Int).toNat) oO;have f1:=qMr hbx (((x:Nat):Int).toNat) oO;refine gg35 ?_;rw[qMs (k:=x) oO (((x:Nat):Int).toNat) oO];refine bS (ι:=KpG) (j:=⟨i+1,bs.set x true⟩) ⟨by simp only;omega,by simp only[ny];exact hbl,fun m hm=>?_⟩ (by simp only;omega) ⟨rfl,rfl,rfl,rfl,rfl,bg some (bW (by simp only;omega)),trivial⟩ uI;simp only;rw[di,hx,uu];by_cases e:x=m
  ·subst e;rw[oC oO];simp
  rw[lh e,hbs m hm];simp[Ne.symm e]
 obtain rfl:i=K.length:=by omega
 rw[lw]at hbs
 have hkb:∀m,m<l.length->bs[m]?=some (Gc.kp G S m):=fun m hm=>by
  rw[hbs m hm];congr 1;rw[qm];simp only[uu,decide_eq_true_eq];exact hK m
 clear hbs;refine gg7 ?_;refine uX (qHg hE) O ?_;rintro _ _⟨g2,rfl,rfl⟩;simp only[uV,uW];refine gg10 ?_;refine uU ?_;refine tZ (hE.t O) (hE.t O) O oO hml (fun b60=>?_);rw[inC_zero];refine gg15 ?_;refine dV (fun x:KqG=>[(9,.slice (some ⟨b38,0,none⟩) l.length l.length),(12,uPt g2),(13,.slice (some ⟨b60,0,none⟩) l.length l.length),(64,.slice pg l.length kk),(65,.int .i64 (l.length:Nat)),(66,.int .i64 (x.i:Nat))]) (fun x=>[cells g [.slice pg l.length kk] 162,sl pg kk 71 3 l.length (cmC l),dS (l.map paH),sl p c 3 1 K.length (idC K),sl (some ⟨b38,0,none⟩) l.length 4 1 l.length (boC bs),sl (some ⟨b60,0,none⟩) l.length 3 1 l.length (inC x.zs),grP g2 (Gc.keepG G S id x.i),R]) (fun x=>l.length-x.i) (fun x=>x.i<=l.length/\x.zs.length=l.length/\∀m,m<x.i->x.zs[m]?=some (Gc.tz G S m)) ⟨0,List.replicate l.length 0⟩ ⟨au _,by simp,fun m hm=>by simp only at hm;omega⟩ ⟨rfl,rfl,rfl,rfl,rfl,rfl,trivial⟩ uI ?_;clear hi h1;rintro⟨i,zs⟩⟨hi,hzl,hzs⟩;simp only at hi hzl hzs ⊢;refine gg6 ?_;refine bE O (fun h1=>?_) (fun h1=>?_)
 ·have hiG:i<G.length:=oO;obtain⟨gl,rfl⟩:=hpg oO;obtain⟨⟨c0,a,k⟩,hx,hcm⟩:=hat i hiG;simp only at hcm;obtain⟨f0,f1,f2⟩:=qPg hx (0+((i:Nat):Int).toNat*3) oO;simp only at f0 f1 f2;have f3:=qMr (hkb i oO) (((i:Nat):Int).toNat) oO;have hpg':Gc.paG G i=c0.pa:=by unfold Gc.paG;rw[Gc.cmAt_some hiG,<-hcm];rfl
  refine gg9 ?_;refine uU (dA (hE.t O) (fun b15=>?_));refine gg22 ?_;rw[qNx (k:=i) oO (((i:Nat):Int).toNat) oO];cases hkp:Gc.kp G S i with
  |false=>
   rw[hkp]at f3
   refine gg9 ?_
   have hk1:Gc.keepG G S id (i+1)=Gc.keepG G S id i:=by rw[Gc.keepG_succ,if_neg (by rw[hkp];simp)]
   refine bS (ι:=KqG) (j:=⟨i+1,zs.set i (-1)⟩) ⟨by simp only;omega,by simp only[ny];exact hzl,fun m hm=>?_⟩ (by simp only;omega) ⟨rfl,rfl,rfl,rfl,rfl,bg some (bW (by simp only;omega)),trivial⟩ (by simp only;rw[hk1];(apply ent;(repeat constructor);done))
   simp only at hm ⊢
   rcases ed m i with h| h
   ·rw[lh oO]
    exact hzs m h
   obtain rfl:m=i:=by omega
   rw[oC oO]
   unfold Gc.tz
   rw[if_neg (by rw[hkp];simp)]
  |true=>
   rw[hkp]at f3
   refine gg1 ?_
   refine yI (p:=dS (l.map paH)) (ps:=fun _:Unit=>[paH ⟨c0,a,k⟩,dS ((l.take i++l.drop (i+1)).map paH)]) uK (fun k h=>⟨(),qBh hx k h⟩) ?_
   intro _
   simp only[uV,uW]
   refine gg6 ?_
   refine uX (wS hE ⟨c0,a,k⟩) O ?_
   rintro _ _⟨⟨cm2,a2,k2⟩,hc2,rfl,rfl⟩
   have hc3:c0=cm2:=hc2.symm
   subst hc3
   simp only[uV,uW]
   refine gg14 ?_
   refine gF (fH (ps:=[paH ⟨c0,a,k⟩,dS ((l.take i++l.drop (i+1)).map paH)]) (p:=dS (l.map paH)) uK (vB hx)) ?_
   rcases hpa:c0.pa with _| q
   ·refine w_eq 85 (.int .i64 ((0:Nat):Int)) O (bW (by simp only[rJ hpa])) ?_
    refine fT 1 ?_
    refine gg13 ?_
    refine yI (p:=grP g2 (Gc.keepG G S id i)) (ps:=fun j:GrI (Gc.keepG G S id i)=>[cells g2 [.slice j.p j.l.length j.k] 162,sl j.p j.k 71 3 j.l.length (cmC j.l),dS (j.l.map paH)]) uK (fun k h=>pO k h) ?_
    rintro⟨p9,k9,l9,his2⟩
    simp only
    simp only[uV,uW]
    have hl2:l9.length=Gc.pos G S i:=by rw[<-Gc.keepG_len G S id i,<-his2,ic]
    have hps:Gc.pos G S i<=i:=by
     have:Gc.pos G S i=(Gc.kl G S i).length:=rfl;rw[this];unfold Gc.kl;exact iw (uo _ _) (by simp)
    refine gg13 ?_
    rw[qNx (k:=i) (by rw[ny];omega) (((i:Nat):Int).toNat) oO]
    refine uN 10 ([cells g2 [.slice p9 l9.length k9] 162,cells b15 [.slice a2 (paN c0) k2,.int .i64 (c0.tx:Nat),.string ⟨⟨c0.nt⟩⟩] 71]) ?_
    refine gg5 ?_
    apply dG 5 O oK
    ·(apply bV rfl (hE.t rfl) rfl;(repeat(first |rfl|assumption|constructor));done)
    ·rfl
    apply eG 6 O oK O
    refine aU (hE.t O) (hE.t O) O O O (fun b120=>?_)
    refine uE ?_
    apply eG 7 O oK O
    apply bU (hE.t O) (hE.t O) O O O
    ·exact uK
    ·exact uK
    ·rfl
    ·rfl
    ·omega
    ·omega
    ·(unfold maxLen;omega)
    intro g121 c121 n121 x121 hn121 hx121
    refine uE ?_
    apply dG 8 O oK
    ·exact bA O
    ·rfl
    apply dG 9 O oK
    ·exact uBf O
    ·rfl
    apply fU O oK oK O
    (first |(apply bL rfl rfl (hE.t rfl) rfl;(focus((repeat constructor);done));(focus rfl);(focus(exact bn rfl)))|(apply aS rfl rfl (hE.t rfl) rfl;(focus((repeat constructor);done));(focus rfl);(focus(first |omega |(simp only[bP,aN,bf,dz];omega)))))
    refine gg6 ?_
    obtain rfl:n121=(l9++[(⟨c0,a2,k2⟩:Rw)]).length:=by rw[ae,ay];omega
    obtain rfl:x121=cmC (l9++[(⟨c0,a2,k2⟩:Rw)]):=by rw[hx121,qD];rfl
    have hk1:Gc.keepG G S id (i+1)=Gc.keepG G S id i++[c0]:=by
     rw[Gc.keepG_succ,if_pos hkp,<-hcm];unfold Gc.mvC;exact bg (fun z=>Gc.keepG G S id i++[z]) (Gc.mv_none hpa)
    refine bS (ι:=KqG) (j:=⟨i+1,(zs.set i (-1)).set i ((l9.length:Nat):Int)⟩) ⟨by simp only;omega,by simp only[ny];exact hzl,fun m hm=>?_⟩ (by simp only;omega) ⟨rfl,rfl,rfl,rfl,rfl,bg some (bW (by simp only;omega)),trivial⟩ (by
     simp only;rw[hk1];refine cZ (fH (ps:=[dS (l9.map paH),paH ⟨c0,a2,k2⟩]) (p:=dS ((l9++[(⟨c0,a2,k2⟩:Rw)]).map paH)) uK qBi) ?_;refine cZ (fH (ps:=[cells g2 [.slice (some ⟨g121,0,none⟩) (l9++[(⟨c0,a2,k2⟩:Rw)]).length c121] 162,sl (some ⟨g121,0,none⟩) c121 71 3 (l9++[(⟨c0,a2,k2⟩:Rw)]).length (cmC (l9++[(⟨c0,a2,k2⟩:Rw)])),dS ((l9++[(⟨c0,a2,k2⟩:Rw)]).map paH)]) (p:=grP g2 (Gc.keepG G S id i++[c0])) uK (mJ (by rw[jh,his2];rfl))) ?_;(apply ent;(repeat constructor);done))
    simp only at hm ⊢
    rcases ed m i with h| h
    ·rw[lh oO,lh oO]
     exact hzs m h
    obtain rfl:m=i:=by omega
    rw[oC (by rw[ny];omega)]
    unfold Gc.tz
    rw[if_pos hkp,hl2]
   have hq:=Gc.paG_lt hok (hpg'.trans hpa)
   have hqk:Gc.kp G S q=true:=Gc.kp_pa hok hkp (hpg'.trans hpa)
   have hn1:=zH hpa
   have hi1:=vC hpa
   refine iY (p:=paH ⟨c0,a2,k2⟩) uK (fun _ h=>dX h (by simp only;omega)) ?_
   rintro⟨ga,hga⟩
   simp only at hga
   subst hga
   simp only[paH,hn1,hi1]
   have f4:[Value.int .i64 ((q:Nat):Int)][((0:Int)).toNat]?=some (.int .i64 (q:Nat)):=rfl
   have hzq:(zs.set i (-1))[q]?=some ((Gc.pos G S q:Nat):Int):=by
    rw[lh oO,hzs q hq.1];unfold Gc.tz;rw[if_pos hqk]
   have f5:=qHv hzq (((q:Nat):Int).toNat) oO
   refine fT 2 ?_
   refine gg34 ?_
   refine uN 8 ([cells b15 [.slice (some ⟨ga,0,none⟩) 1 k2,.int .i64 (c0.tx:Nat),.string ⟨⟨c0.nt⟩⟩] 71,sl (some ⟨b60,0,none⟩) l.length 3 1 l.length (inC (zs.set i (-1)))]) ?_
   refine gg4 ?_
   apply dG 4 O oK
   ·exact aB O
   ·rfl
   apply dG 5 O oK
   ·(first |exact uAj rfl rfl|exact uAi rfl rfl)
   ·rfl
   apply dG 6 O oK
   ·(apply aO rfl (hE.t rfl) rfl;(repeat(first |rfl|assumption|constructor));done)
   ·rfl
   apply dG 7 O oK
   ·(first |exact uAj rfl rfl|exact uAi rfl rfl)
   ·rfl
   apply fU O oK oK O
   (first |(apply bL rfl rfl (hE.t rfl) rfl;(focus((repeat constructor);done));(focus rfl);(focus(exact bn rfl)))|(apply aS rfl rfl (hE.t rfl) rfl;(focus((repeat constructor);done));(focus rfl);(focus(first |omega |(simp only[bP,aN,bf,dz];omega)))))
   refine gg15 ?_
   refine gF (cO (p:=sl (some ⟨ga,0,none⟩) k2 3 1 1 (bX [Value.int .i64 ((q:Nat):Int)] ((0:Int)).toNat (bP (.int .i64 (Gc.pos G S q:Nat))))) (p':=paH ⟨⟨some (Gc.pos G S q),c0.tx,c0.nt⟩,some ⟨ga,0,none⟩,k2⟩) uK (fun _ h=>h)) ?_
   refine gg5 ?_
   refine yI (p:=grP g2 (Gc.keepG G S id i)) (ps:=fun j:GrI (Gc.keepG G S id i)=>[cells g2 [.slice j.p j.l.length j.k] 162,sl j.p j.k 71 3 j.l.length (cmC j.l),dS (j.l.map paH)]) uK (fun k h=>pO k h) ?_
   rintro⟨p9,k9,l9,his2⟩
   simp only
   simp only[uV,uW]
   have hl2:l9.length=Gc.pos G S i:=by rw[<-Gc.keepG_len G S id i,<-his2,ic]
   have hps:Gc.pos G S i<=i:=by
    have:Gc.pos G S i=(Gc.kl G S i).length:=rfl;rw[this];unfold Gc.kl;exact iw (uo _ _) (by simp)
   refine gg13 ?_
   rw[qNx (k:=i) (by rw[ny];omega) (((i:Nat):Int).toNat) oO]
   refine uN 10 ([cells g2 [.slice p9 l9.length k9] 162,cells b15 [.slice (some ⟨ga,0,none⟩) (paN ⟨some (Gc.pos G S q),c0.tx,c0.nt⟩) k2,.int .i64 (c0.tx:Nat),.string ⟨⟨c0.nt⟩⟩] 71]) ?_
   refine gg5 ?_
   apply dG 5 O oK
   ·(apply bV rfl (hE.t rfl) rfl;(repeat(first |rfl|assumption|constructor));done)
   ·rfl
   apply eG 6 O oK O
   refine aU (hE.t O) (hE.t O) O O O (fun b120=>?_)
   refine uE ?_
   apply eG 7 O oK O
   apply bU (hE.t O) (hE.t O) O O O
   ·exact uK
   ·exact uK
   ·rfl
   ·rfl
   ·omega
   ·omega
   ·(unfold maxLen;omega)
   intro g121 c121 n121 x121 hn121 hx121
   refine uE ?_
   apply dG 8 O oK
   ·exact bA O
   ·rfl
   apply dG 9 O oK
   ·exact uBf O
   ·rfl
   apply fU O oK oK O
   (first |(apply bL rfl rfl (hE.t rfl) rfl;(focus((repeat constructor);done));(focus rfl);(focus(exact bn rfl)))|(apply aS rfl rfl (hE.t rfl) rfl;(focus((repeat constructor);done));(focus rfl);(focus(first |omega |(simp only[bP,aN,bf,dz];omega)))))
   refine gg6 ?_
   obtain rfl:n121=(l9++[(⟨⟨some (Gc.pos G S q),c0.tx,c0.nt⟩,(some ⟨ga,0,none⟩),k2⟩:Rw)]).length:=by rw[ae,ay];omega
   obtain rfl:x121=cmC (l9++[(⟨⟨some (Gc.pos G S q),c0.tx,c0.nt⟩,(some ⟨ga,0,none⟩),k2⟩:Rw)]):=by rw[hx121,qD];rfl
   have hk1:Gc.keepG G S id (i+1)=Gc.keepG G S id i++[⟨some (Gc.pos G S q),c0.tx,c0.nt⟩]:=by
    rw[Gc.keepG_succ,if_pos hkp,<-hcm];unfold Gc.mvC;exact bg (fun z=>Gc.keepG G S id i++[z]) (Gc.mv_some hpa)
   refine bS (ι:=KqG) (j:=⟨i+1,(zs.set i (-1)).set i ((l9.length:Nat):Int)⟩) ⟨by simp only;omega,by simp only[ny];exact hzl,fun m hm=>?_⟩ (by simp only;omega) ⟨rfl,rfl,rfl,rfl,rfl,bg some (bW (by simp only;omega)),trivial⟩ (by
    simp only;rw[hk1];refine cZ (fH (ps:=[dS (l9.map paH),paH ⟨⟨some (Gc.pos G S q),c0.tx,c0.nt⟩,(some ⟨ga,0,none⟩),k2⟩]) (p:=dS ((l9++[(⟨⟨some (Gc.pos G S q),c0.tx,c0.nt⟩,(some ⟨ga,0,none⟩),k2⟩:Rw)]).map paH)) uK qBi) ?_;refine cZ (fH (ps:=[cells g2 [.slice (some ⟨g121,0,none⟩) (l9++[(⟨⟨some (Gc.pos G S q),c0.tx,c0.nt⟩,(some ⟨ga,0,none⟩),k2⟩:Rw)]).length c121] 162,sl (some ⟨g121,0,none⟩) c121 71 3 (l9++[(⟨⟨some (Gc.pos G S q),c0.tx,c0.nt⟩,(some ⟨ga,0,none⟩),k2⟩:Rw)]).length (cmC (l9++[(⟨⟨some (Gc.pos G S q),c0.tx,c0.nt⟩,(some ⟨ga,0,none⟩),k2⟩:Rw)])),dS ((l9++[(⟨⟨some (Gc.pos G S q),c0.tx,c0.nt⟩,(some ⟨ga,0,none⟩),k2⟩:Rw)]).map paH)]) (p:=grP g2 (Gc.keepG G S id i++[⟨some (Gc.pos G S q),c0.tx,c0.nt⟩])) uK (mJ (by rw[jh,his2];rfl))) ?_;(apply ent;(repeat constructor);done))
   simp only at hm ⊢
   rcases ed m i with h| h
   ·rw[lh oO,lh oO]
    exact hzs m h
   obtain rfl:m=i:=by omega
   rw[oC (by rw[ny];omega)]
   unfold Gc.tz
   rw[if_pos hkp,hl2]
 obtain rfl:i=l.length:=by omega
 refine gg15 ?_;apply cK
 ·rfl
 ·(apply Rs.tmp rfl;apply Rs.tmp rfl;apply Rs.tmp rfl;exact Rs.nil)
 ·exact⟨g2,some ⟨b60,0,none⟩,l.length,zs,by rw[hil];rfl,oO,fun m hm=>hzs m oO,rfl⟩
 rw[<-hil];refine cZ (fH (ps:=[cells g [.slice pg l.length kk] 162,sl pg kk 71 3 l.length (cmC l),dS (l.map paH)]) (p:=grP g G) uK (mJ his)) ?_;exact uI
end Go.Proofs.YtejcjelmpbkcbaaGreatDoor
namespace Gc
def kp_congr {G:List Cm}{S V:List Nat}(h:∀x,x∈S↔x∈V) (m:Nat):kp G S m=kp G V m:=by
 rw[qm,kp_iff,kp_iff];simp only[h]
end Gc
namespace Go.Proofs.YtejcjelmpbkcbaaGreatDoor
open Go Go.RowKit Sl Eg
set_option maxRecDepth 10000
variable {E:Env}
def qW (hE:Seat E){g:Nat}{G:List Gc.Cm}:Ct E 30 [uPt g] [grP g G] (fun v Q=>v= .int .i64 (G.length:Nat)/\Q=[grP g G]):=by
 refine Sl.ct_open pO (fun i=>?_);have hil:=i.len;obtain⟨p,kk,l,his⟩:=i;simp only[uV,uW]at hil ⊢;refine bO (hE.fn Tryz.func30) O O O (fun R=>?_);simp only[dQ,uV,uW];refine gg26 ?_;apply cK
 ·rfl
 ·(apply Rs.tmp rfl;exact Rs.nil)
 ·exact⟨by rw[<-hil];rfl,rfl⟩
 refine cZ (fH (ps:=[cells g [.slice p l.length kk] 162,sl p kk 71 3 l.length (cmC l),dS (l.map paH)]) (p:=grP g G) uK (mJ his)) ?_;exact uI
structure CkG where
 k:Nat
 bs:List Bool
 A:List Nat
 p:Option Addr
 c:Nat
def ct_cKeep (hE:Seat E){g r:Nat}{G:List Gc.Cm}{f:List UInt8->Option Nat}{S:List Nat}(hok:Gc.Ok G)(hl:G.length<=65536)(hf:finG f 12)(hfS:∀x,x∈S↔∃y,f y=some x) (hS:∀x∈S,x<G.length):
  Ct E 96 [uPt g,uPt r] [grP g G,tbP r f] (fun v Q=>∃(K:List Nat)(p:Option Addr)(c:Nat),v= .tuple #[.slice p K.length c,.nilIface]/\K.Nodup/\(∀x,x∈K↔Gc.kp G S x=true)/\Q=[grP g G,tbP r f,sl p c 3 1 K.length (idC K)]):=by
 refine bO (hE.fn Tryz.func96) O O O (fun R=>?_);simp only[dQ,uV,uW];refine gg25 ?_;refine uX (qW hE) O ?_;rintro _ _⟨rfl,rfl⟩;simp only[uV,uW];have hml:G.length<=maxLen:=by unfold maxLen;omega
 refine uU ?_;refine tZ (hE.t O) (hE.t O) O oO hml (fun b24=>?_);rw[qPf];refine gg7 ?_;refine uX (qNm hE hf) O ?_;rintro _ _⟨V,q,d,rfl,hV,hVl,rfl⟩;have hVS:∀x,x∈V↔x∈S:=fun x=>(hV x).trans (hfS x).symm
 have hVG:∀x∈V,x<G.length:=fun x hx=>hS x ((hVS x).1 hx)
 simp only[uV,uW];refine lQ (p:=sl q d 3 1 V.length (idC V)) uK (fun _ h=>fun hpos=>dX h hpos) ?_;intro hq;refine gg5 ?_;refine dV (fun x:CkG=>[(0,uPt g),(6,.slice (some ⟨b24,0,none⟩) G.length G.length),(26,.slice q V.length d),(27,.int .i64 (V.length:Nat)),(28,.int .i64 (x.k:Nat))]) (fun x=>[grP g G,tbP r f,sl (some ⟨b24,0,none⟩) G.length 4 1 G.length (boC x.bs),sl q d 3 1 V.length (idC V),R]) (fun x=>V.length-x.k) (fun x=>x.k<=V.length/\x.bs.length=G.length/\∀m,m<G.length->x.bs[m]?=some ((V.take x.k).contains m)) ⟨0,List.replicate G.length false,[],none,0⟩ ⟨au _,by simp,fun m hm=>by simp[hm]⟩ ⟨rfl,rfl,rfl,rfl,rfl,trivial⟩ uI ?_;rintro⟨i,bs,_,_,_⟩⟨hi,hbl,hbs⟩;simp only at hi hbl hbs ⊢;refine gg6 ?_;refine bE O (fun h1=>?_) (fun h1=>?_)
 ·have hiV:i<V.length:=oO;obtain⟨gq,rfl⟩:=hq oO;obtain⟨x,hx⟩:∃x,V[i]?=some x:=⟨_,ah hiV⟩;have hxl:=hVG x (ak hx);have f0:=eF hx (((i:Nat):Int).toNat) oO;refine gg20 ?_;refine bE O (fun h2=>?_) (fun h2=>?_)
  ·exfalso;omega
  refine gg14 ?_;rw[qMs (k:=x) oO (((x:Nat):Int).toNat) oO];refine bS (ι:=CkG) (j:=⟨i+1,bs.set x true,[],none,0⟩) ⟨by simp only;omega,by simp only[ny];exact hbl,fun m hm=>?_⟩ (by simp only;omega) ⟨rfl,rfl,rfl,rfl,bg some (bW (by simp only;omega)),trivial⟩ uI;simp only;rw[di,hx,uu];by_cases e:x=m
  ·subst e;rw[oC oO];simp
  rw[lh e,hbs m hm];simp[Ne.symm e]
 obtain rfl:i=V.length:=by omega
 rw[lw]at hbs;have hb0:∀m,m<G.length->bs[m]?=some (Gc.mk G V G.length m):=fun m hm=>by rw[hbs m hm,Gc.mk_all]
 clear hbs h1 hi;refine gg20 ?_
 have hini:∀y,y∈([]:List Nat)↔G.length<=y/\Gc.kp G V y=true:=fun y=>by
  constructor
  ·intro h;cases h
  rintro⟨h1,h2⟩;have:=Gc.kp_lt hok hVG h2;omega
 refine gF (fV (t:=3) (sz:=1)) ?_;refine dV (fun x:CkG=>[(0,uPt g),(6,.slice (some ⟨b24,0,none⟩) G.length G.length),(9,.slice x.p x.A.length x.c),(10,.int .i64 ((x.k:Int)-1))]) (fun x=>[grP g G,tbP r f,sl (some ⟨b24,0,none⟩) G.length 4 1 G.length (boC x.bs),sl x.p x.c 3 1 x.A.length (idC x.A),R]) (fun x=>x.k) (fun x=>x.k<=G.length/\x.bs.length=G.length/\(∀m,m<G.length->x.bs[m]?=some (Gc.mk G V x.k m))/\x.A.Nodup/\∀y,y∈x.A↔x.k<=y/\Gc.kp G V y=true) ⟨G.length,bs,[],none,0⟩ ⟨aj _,hbl,hb0,.nil,hini⟩ ⟨O,O,O,bg some (bW (by simp only)),trivial⟩ uI ?_;clear hb0 hbl bs;rintro⟨k,bs,A,p,c⟩⟨hk,hbl,hbs,hAn,hA⟩;simp only at hk hbl hbs hAn hA ⊢
 have hAl:A.length<=G.length:=by
  have:=lL hAn (B:=List.range G.length) fun x hx=>mh.2 (Gc.kp_lt hok hVG ((hA x).1 hx).2)
  simpa using this
 refine gg7 ?_;refine bE O (fun h1=>?_) (fun h1=>?_)
 ·have hkp:1<=k:=oO;obtain⟨n,rfl⟩:∃n,k=n+1:=⟨k-1,oO⟩;have hnG:n<G.length:=oO;have hc:=Gc.cmAt_some hnG;have hb:=hbs n hnG;rw[Gc.mk_now hok hVG (aj _)]at hb;have hpg:Gc.paG G n=(Gc.cmAt G n).pa:=by unfold Gc.paG;rw[hc];rfl
  have f0:=qMr hb ((((n+1:Nat):Int)-1).toNat) oO;refine gg14 ?_;cases hkn:Gc.kp G V n with
  |false=>
   rw[hkn]at f0
   refine gg10 ?_
   refine bS (ι:=CkG) (j:=⟨n,bs,A,p,c⟩) ⟨by simp only;omega,hbl,fun m hm=>?_,hAn,fun y=>?_⟩ (by simp only;omega) ⟨rfl,rfl,rfl,bg some (bW (by simp only;omega)),trivial⟩ uI
   ·rw[hbs m hm,Gc.mk_no (.inl hkn)]
   rw[hA]
   constructor
   ·exact fun⟨h1,h2⟩=>⟨by simp only;omega,h2⟩
   rintro⟨h1,h2⟩
   refine⟨?_,h2⟩
   rcases Nat.eq_or_lt_of_le h1 with rfl| h
   ·rw[hkn]at h2;cases h2
   exact h
  |true=>
   rw[hkn]at f0
   refine gg1 ?_
   refine w_eq 10 (.int .i64 (n:Nat)) O (bW oO) ?_
   refine gg6 ?_
   refine uU ?_
   refine aU (hE.t O) (hE.t O) O O O (fun b55=>?_)
   refine uU ?_
   apply bU (hE.t O) (hE.t O) O O O
   ·exact uK
   ·exact uK
   ·rfl
   ·rfl
   ·omega
   ·omega
   ·(unfold maxLen;omega)
   intro g56 c56 n56 x56 hn56 hx56
   refine gg3 ?_
   obtain rfl:n56=(A++[n]).length:=by rw[ae,ay];omega
   obtain rfl:x56=idC (A++[n]):=by rw[hx56,gZ];rfl
   refine gg4 ?_
   refine uX (vO hE hc hl) O ?_
   rintro _ _⟨⟨cm,a,ka⟩,hcm,rfl,rfl⟩
   simp only at hcm
   subst hcm
   simp only[uV,uW]
   refine gg3 ?_
   refine uU (dA (hE.t O) (fun b11=>?_))
   refine gg23 ?_
   have hA2:(A++[n]).Nodup:=by
    rw[nu];refine⟨hAn,by simp,fun x hx y hy e=>?_⟩;rw[az.1 hy]at e;have:=((hA x).1 hx).1;omega
   have hA3:∀y,y∈A++[n]↔n<=y/\Gc.kp G V y=true:=fun y=>by
    rw[bi,az,hA];constructor
    ·rintro(⟨h1,h2⟩|rfl)
     ·exact⟨oO,h2⟩
     exact⟨aj _,hkn⟩
    rintro⟨h1,h2⟩;rcases Nat.eq_or_lt_of_le h1 with rfl| h
    ·exact .inr O
    exact .inl ⟨h,h2⟩
   rcases hpa:(Gc.cmAt G n).pa with _| q
   ·refine w_eq 68 (.int .i64 ((0:Nat):Int)) O (bW (by simp only[rJ hpa])) ?_
    refine fT 1 ?_
    refine gg19 ?_
    refine bS (ι:=CkG) (j:=⟨n,bs,A++[n],some ⟨g56,0,none⟩,c56⟩) ⟨by simp only;omega,hbl,fun m hm=>?_,hA2,hA3⟩ (by simp only;omega) ⟨rfl,rfl,rfl,bg some (bW (by simp only)),trivial⟩ uI
    rw[hbs m hm,Gc.mk_no (.inr (hpg.trans hpa))]
   have hq2:=Gc.paG_lt hok (hpg.trans hpa)
   have hn1:=zH hpa
   refine iY (p:=paH ⟨Gc.cmAt G n,a,ka⟩) uK (fun _ h=>dX h (by simp only;omega)) ?_
   rintro⟨ga,hga⟩
   simp only at hga
   subst hga
   have f4:(paI (Gc.cmAt G n))[((0:Int)).toNat]?=some (.int .i64 (q:Nat)):=by rw[vC hpa];rfl
   refine w_eq 68 (.int .i64 ((1:Nat):Int)) O (bW (by simp only[hn1])) ?_
   refine fT 2 ?_
   refine gg51 ?_
   rw[qMs (k:=q) oO (((q:Nat):Int).toNat) oO]
   refine bS (ι:=CkG) (j:=⟨n,bs.set q true,A++[n],some ⟨g56,0,none⟩,c56⟩) ⟨by simp only;omega,by simp only[ny];exact hbl,fun m hm=>?_,hA2,hA3⟩ (by simp only;omega) ⟨rfl,rfl,rfl,bg some (bW (by simp only)),trivial⟩ uI
   simp only
   rw[Gc.mk_yes hok hkn (hpg.trans hpa)]
   by_cases e:q=m
   ·subst e
    rw[oC oO,if_pos rfl]
   rw[lh e,hbs m hm,if_neg (Ne.symm e)]
 obtain rfl:k=0:=by omega
 have hmem:∀x,x∈A↔Gc.kp G S x=true:=fun x=>by
  rw[hA,Gc.kp_congr (fun y=>(hVS y).symm)];simp
 refine gg8 ?_;rcases fu A.length with h0|h0
 ·obtain rfl:=qi.1 h0;refine uX (qNk hE) O ?_;rintro _ _⟨rfl,rfl⟩;simp only[uV,uW];refine gg10 ?_;exact uZ O (.tmp O (.tmp O .nil)) ⟨[],p,c,O,.nil,hmem,O⟩
 refine lQ (p:=sl p c 3 1 A.length (idC A)) uK (fun _ h=>dX h h0) ?_;rintro⟨ga,rfl⟩;refine uX (qNl hE h0 oO) O ?_;rintro _ _⟨K,rfl,hp,rfl⟩;rw[<-hp.length_eq];simp only[uV,uW];refine gg10 ?_;exact uZ O (.tmp O (.tmp O .nil)) ⟨K,_,c,O,hp.nodup_iff.2 hAn,fun x=>(hp.mem_iff).trans (hmem x),O⟩
