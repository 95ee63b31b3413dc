import Derived.Test.YtnicahfnolhgbaaGreatDoorQ9F
import Derived.Test.YtnicahfnolhgbaaGreatDoorQ9L
import Derived.Test.YtnicahfnolhgbaaGreatDoorQ9N
import Derived.Test.YtnicahfnolhgbaaGreatDoorQClb
import Derived.Test.YtnicahfnolhgbaaGreatDoorQClc
set_option linter.all false
set_option maxHeartbeats 1000000
namespace Go.Proofs.YtnicahfnolhgbaaGreatDoor
set_option maxRecDepth 10000
section
open Go Go.RowKit Sl Eg
variable {E:Bp}{Es:List Bj}{pp tb s most m bm:Nat}{f:Int->Option Value}
def SI {i}(h1:0<=i)(h2:i<=255):IntKind.u8.wrap i=i:=by
 have e:=XX i.toNat;rw[Int.toNat_of_nonneg h1]at e;rw[e];omega
def zX (hE:BP E):Ct E 14 [uPt s] [bR s most Es] (fun v Q=>∃pp tb,v=uPt pp/\Q=[cells pp [uPt s,uPt tb] 122,BV tb s (BO Es),bR s most Es]):=by
 refine bO (hE.fn Tryz.func14) O O O (fun R=>?_);simp only[dS,uV,uW];refine Ci ?_;refine uX (qTl hE) O ?_;rintro _ _⟨tb,rfl,rfl⟩;simp only[uV,uW];refine Bv ?_;refine uU (gN O (fun b9=>?_));refine Bz ?_;apply cK
 ·rfl
 ·(apply Rs.tmp rfl;exact Rs.nil)
 ·exact⟨b9,tb,O,O⟩
 refine cZ (cO (p:=BV tb s []) (p':=BV tb s (BO Es)) uK (fun _ h=>sG (BO Es) h)) ?_;exact uI
def Qk {w0 b i}{t:TypeId}(h:i<26):Cv w0 (BM b) ([UInt8.ofNat (97+i)].map fun b=>Value.int .u8 (b.toNat:Nat)) (cells b [Value.int .u8 ((97:Int)+(i:Nat))] t):=fun _=>⟨b,0,rfl,VG (fun j v hv=>by
 have e:([UInt8.ofNat (97+i)].map fun b=>Value.int .u8 (b.toNat:Nat))=[Value.int .u8 ((97:Int)+(i:Nat))]:=by
  show[Value.int .u8 ((UInt8.ofNat (97+i)).toNat:Nat)]=_;rw[UInt8.toNat_ofNat'];exact au (fun z=>[Value.int .u8 z]) oO
 rw[e]at hv;exact hv)⟩
def KI (hE:BP E){i}(hi:i<26):Ct E 33 [BK i] [] (fun v Q=>v= BN (ER i)/\Q=[]):=by
 have hA:([116]:List UInt8).length+[UInt8.ofNat (97+i)].length<=1000000000:=by show 2<=1000000000;decide
 refine bO (hE.fn Tryz.func33) O O O (fun R=>?_);simp only[dS,uV,uW];refine Bu ?_;refine BU 4 (BK i) O (bW oO) ?_;refine Bv ?_;refine uB (dI O (hE.t O) (hE.t O) (by first |exact dJ oO oO|exact dK oO oO|exact SI oO oO)) ?_;refine uU (aU (hE.t O) (hE.t O) O O O (fun b7=>?_));refine uB (xO (q:=cells b7 [Value.int .u8 ((97:Int)+(i:Nat))] 5) (src:=44) (dst:=9) (e:=5) (bs:=[UInt8.ofNat (97+i)]) O (hE.t O) (hE.t O) (hE.t O) (Qk hi) uK) ?_;refine uB (Mf O O (by assumption)) ?_;refine Bz ?_;exact uZ O (.tmp O .nil) ⟨O,O⟩
structure Ui where
 i:Nat
 p:Option Addr
 c:Nat
def qWy (hE:BP E){ids q cq n}(hn:ids.length=n):Ct E 10 [.slice q n cq] [sl q cq 41 1 n (Bg ids)]
  (fun v Q=>∃p c,v= .slice p (Dy ids (min n 26)).length c/\Q=[sl q cq 41 1 n (Bg ids),sl p c 43 2 (Dy ids (min n 26)).length (FY (Dy ids (min n 26)))]):=by
 refine eF (p:=sl q cq 41 1 n (Bg ids)) uK (fun _ h=>fun hA=>eG h hA) (fun hq=>?_);refine bO (hE.fn Tryz.func10) O O O (fun R=>?_);simp only[dS,uV,uW];refine CY ?_;refine fF (fU (t:=43) (sz:=2)) ?_;refine dX (fun x:Ui=>[(0,.slice q n cq),(3,.slice x.p (Dy ids x.i).length x.c),(4,BK (x.i))]) (fun x=>[sl q cq 41 1 n (Bg ids),sl x.p x.c 43 2 (Dy ids x.i).length (FY (Dy ids x.i)),R]) (fun x=>26-x.i) (fun x=>x.i<=n/\x.i<=26) ⟨0,none,0⟩ ⟨av _,av _⟩ BC uI ?_;rintro⟨i,p,c⟩⟨hi,hF⟩;simp only at hi hF ⊢;have hL:=tL ids i;refine Br ?_;refine dV 9 O (fun h1=>?_) (fun h1=>?_)
 ·refine Bi ?_;refine bE O (fun h2=>?_) (fun h2=>?_)
  ·obtain⟨g,rfl⟩:=hq oO;obtain⟨id,hB⟩:∃x,ids[i]?=some x:=BG;have hC:=wM hB;have f0:=fT hB (0+((i:Nat):Int).toNat) oO;have f1:=fT hB (((i:Nat):Int).toNat) oO;refine Bz ?_;refine uH ([sl (BM g) cq 41 1 n (Bg ids)]) ?_;refine CL ?_;refine uD 3 O (aB O) ?_;refine CG ?_;apply dH 2 O oK O;refine uC (KI hE oO) O ?_;rintro _ _⟨rfl,rfl⟩;simp only[uV,uW];refine uE ?_;refine uD 7 O (gY) ?_;apply dH 8 O oK O;refine aU (hE.t O) (hE.t O) O O O (fun hM=>?_);refine uE ?_;apply dH 9 O oK O;refine BJ (fun hG hH hI hJ hK hD=>?_);refine uE ?_;refine Bu ?_
   have e1:FY (Dy ids (i+1))=FY (Dy ids i)++[BN (ER i),BL ((id:Nat):Int)]:=by
    rw[qRk,WU,hC];rfl
   obtain rfl:hI=(Dy ids (i+1)).length:=by have:=tL ids (i+1);omega
   obtain rfl:hJ=FY (Dy ids (i+1)):=by rw[hD,e1];rfl
   refine bS (ι:=Ui) (j:=⟨i+1,some ⟨hG,0,none⟩,hH⟩) ⟨BD,BD⟩ BD ⟨rfl,rfl,au some (bW BD),trivial⟩ uI
  have e:i=min n 26:=oO;rw[e];refine Bq ?_;exact uZ O (.tmp O .nil) ⟨p,c,O,O⟩
 have e:i=min n 26:=oO;rw[e];refine Cw ?_;exact uZ O (.tmp O .nil) ⟨p,c,O,O⟩
def KH (hE:BP E):Ct E 22 [] [] (fun v Q=>∃m bm pp s tb,v= .tuple #[.agg #[uPt s,uPt m],.bool true]/\Q=[cells m [uPt pp,.map (some bm)] 118,Bn bm .i64 (fun _=>none),cells pp [uPt s,uPt tb] 122,BV tb s (BO []),bR s 1048576 []]):=by
 have hA:1048576<=fJ:=ai _;refine bO (hE.fn Tryz.func22) O O O (fun R=>?_);simp only[dS,uV,uW];refine CL ?_;refine uU (dA (hE.t O) (fun b0=>?_));refine Bw ?_;refine uX (jE (most:=1048576) hE hA) O ?_;rintro _ _⟨s,rfl,rfl⟩;simp only[uV,uW];refine CB ?_;refine uX (zX (Es:=[]) (s:=s) (most:=1048576) hE) O ?_;rintro _ _⟨pp,tb,rfl,rfl⟩;simp only[uV,uW];refine uX (Wt hE) O ?_;rintro _ _⟨m,bm,rfl,rfl⟩;simp only[uV,uW];refine DW ?_;apply cK
 ·rfl
 ·((apply Rs.cell rfl (hE.t rfl) rfl;(focus((repeat(first |rfl|assumption|constructor));done)));apply Rs.tmp rfl;exact Rs.nil)
 ·exact⟨m,bm,pp,s,tb,O,O⟩
 exact uI
def Qu (hE:BP E){m t}(ht:t.length<=65536)(hA:Es.length+2*t.length<=most):
  Ct E 23 [.agg #[uPt s,uPt m],BN t] [bR s most Es]
   (fun v Q=>∃(M:List Bj)(id:Nat),v= .tuple #[BK id,.bool true]/\M.length<=2*t.length/\Be (BO (Es++M)) id t/\Q=[bR s most (Es++M)]):=by
 have hs:(⟨⟨t⟩⟩:ByteArray).size=t.length:=rfl;refine bO (hE.fn Tryz.func23) O O O (fun R=>?_);simp only[dS,uV,uW];refine CL ?_;refine uU (gN O (fun b2=>?_));refine Bu ?_;refine uU (XC O (hE.t O) (hE.t O) (hE.t O) (fun gb cb hD=>?_));refine uX (Ws (bs:=t) (a:=some ⟨gb,0,none⟩) (c:=cb) (q:=ro gb (t.map fun b=>Value.int .u8 (b.toNat:Nat))) hE qZu ht hD hA) O ?_;rintro _ _⟨M,id,rfl,hM,hB,rfl⟩;refine lQ (p:=bR s most (Es++M)) uK (fun _ h=>dR h) (fun hC=>?_)
 have hF:0<id↔0<t.length:=by
  have h0:=hB.tx;have h1:=hB.ev.le;rcases jo id with h| h
  ·subst h;rw[jI]at h0;subst h0;simp
  have:=hC.1.pos id h h1;unfold len at this;rw[h0]at this;omega
 simp only[uV,uW];refine GN ?_;apply cK
 ·rfl
 ·(apply Rs.tmp rfl;apply Rs.tmp rfl;exact Rs.nil)
 ·have hb:decide (decide ((0:Int)<(id:Nat))=decide ((0:Int)<(((⟨⟨t⟩⟩:ByteArray).size:Nat):Int)))=true:=oI (decide_eq_decide.2 (by rw[hs];omega));exact⟨M,id,au (fun b=>one [BK id,.bool b]) hb,hM,hB,O⟩
 exact uI
def qTg (hE:BP E)(hB:Ca E.w0):Ct E 5 [] [] (fun v Q=>v= .bool true/\Q=[]):=by
 refine bO (hE.fn Tryz.func5) O O O (fun R=>?_);simp only[dS,uV,uW];refine Bi ?_;refine uX (KH hE) O ?_;rintro _ _⟨m,bm,pp,s,tb,rfl,rfl⟩;simp only[uV,uW];refine CG ?_;refine uU (dA (hE.t O) (fun b1=>?_));refine CX ?_;apply aA
 ·(first |(apply bV rfl (hE.t rfl) rfl;(repeat(first |rfl|assumption|constructor));done)|(apply y_load_agg_old rfl (hE.t rfl) rfl;assumption))
 ·rfl
 refine uX (Qu (Es:=[]) (s:=s) (most:=1048576) (m:=m) (t:=[120,120]) hE (by decide) (by decide)) O ?_;rintro _ _⟨M,id,rfl,hM,hA,rfl⟩;simp only[uV,uW];refine jM (cO (p:=BV tb s []) (p':=BV tb s (BO M)) uK (fun _ h=>sG (BO M) h)) ?_;rw[jw]at hA;have hQ:M.length<=4:=hM;have hH:=hA.tx;have hJ:id<=M.length:=by have:=hA.ev.le;rwa [bQ]at this
 refine lQ (p:=bR s 1048576 M) uK (fun _ h=>(dR h).1) (fun hw=>?_)
 have hK:∀p∈[(([97]:List UInt8),(id:Int))],0<=p.2->p.2<=M.length->p.2.toNat∈[id]:=fun p hp _ _=>by
  obtain rfl:=bg.1 hp;exact bg.2 (ny id)
 have hU:∀u∈[id],Ev (BO M) u/\len (BO M) u<=400:=fun u hu=>by
  obtain rfl:=bg.1 hu;exact⟨hA.ev,by unfold len;rw[hH];decide⟩
 have hC:=Vr hw (f:=fun _=>none) [id] hU;have hL:M.length+DR (BO M) (fun _=>none) [id]<=1048576:=by simp only[bf]at hC;omega
 refine DL ?_;refine uU (aU (hE.t O) (hE.t O) O O O (fun hD=>?_));refine uX (zL (U:=[id]) (Es:=M) (s:=s) (tb:=tb) (pp:=pp) (most:=1048576) (m:=m) (bm:=bm) (f:=fun _=>none) (l:=[([97],(id:Int))]) (a:=some ⟨hD,0,none⟩) (ca:=1) (q:=cells hD [BN [97],BK id] 43) hE hB (fun _=>⟨hD,0,O,VG (fun _ _ h=>h)⟩) (bz O) hK hU hL (Kn.nil _)) O ?_;rintro _ _(⟨e,he,rfl,rfl⟩|⟨M2,f',ys,g,c,B,ho,rfl,hB,hR, -,hS,hN,hO,rfl⟩)
 ·exact(he.not (PL hJ)).elim
 simp only[uV,uW];refine lQ (p:=bR s 1048576 (M++M2)) uK (fun _ h=>dR h) (fun hF=>?_)
 have hP:B=[2,1,120,3,1,0,1,1,97,2]:=by
  rw[hB];have hG:EJ (BO (M++M2)) [id] ys:=hO;exact MX hF.1 (by rw[bQ,aa];omega) (by rw[dB,jX _ (by rw[bQ];omega)];exact hH) hN hG
 refine CK ?_;refine uU (aU (hE.t O) (hE.t O) O O O (fun hI=>?_));refine Bv ?_;refine BH (qQr (xs:=B) (bs:=[2,1,120,3,1,0,1,1,97,2]) (q:=sl (BM g) c 5 1 B.length (Bd B)) (r:=cells hI [.int .u8 2,.int .u8 1,.int .u8 120,.int .u8 3,.int .u8 1,.int .u8 0,.int .u8 1,.int .u8 1,.int .u8 97,.int .u8 2] 5) hE (fun _=>⟨g,0,O,Rj (fun _ _ h=>h)⟩) (fun _=>⟨hI,0,O,VG (fun _ _ h=>h)⟩)) O ?_;refine Bw ?_;exact uZ O (.tmp O .nil) ⟨au Value.bool (oI hP),O⟩
end
section
open Go Go.RowKit Sl Eg
variable {E:Bp}
def IU.at2 {L ids ts}(h:IU L ids ts){u}(hu:u∈ids):∃t,t∈ts/\Be L u t:=by
 obtain⟨i,hi⟩:=mf hu;have hl:=(ae.1 hi).1;obtain⟨t,ht⟩:∃t,ts[i]?=some t:=⟨_,ag (by rw[<-h.1];exact hl)⟩;exact⟨t,ak ht,h.2 i u t hi ht⟩
def qCr (hE:BP E)(hB:Ca E.w0){l a c kp kn kc q}(hq:Cv E.w0 a (Fj l) q)(hl:l.length<=9223372036854775807)(hx:∀x∈l,x.ok) (gd:kn<=9223372036854775807):
  Ct E 3 [.slice a l.length c,.slice kp kn kc] [q] (fun v Q=>v= .bool true/\Q=[q]):=by
 refine bO (hE.fn Tryz.func3) O O O (fun R=>?_);simp only[dS,uV,uW];refine Br ?_;refine BH (qXh hE) O ?_;refine CG ?_;refine BH (qTg hE hB) O ?_;refine Bc ?_;refine uX (Jr (n0:=[116]) (n1:=[116]++mD) hE) O ?_;rintro _ _⟨fa,rfl,rfl⟩;simp only[uV,uW];refine CB ?_;refine uX (qLl (n0:=[116]) (x0:=none) (ts:=[]) (most:=1048576) (C:=Cn.nil) hE O (by decide) (by decide) JE.nil.has JE.nil.pay (by decide) trivial MV (by decide) (ai _) (fun x k h=>by cases h)) rfl ?_;rintro _ _⟨d,s,Es,rfl,ge,rfl⟩;obtain rfl:Es=[]:=dw (by rw[<-bQ,ge];rfl);simp only[uV,uW];refine FH ?_;refine BH (Wu hE) O ?_;refine Bv ?_;refine uX (qQt (s:=s) (most:=1048576) hE hq hl hx (by decide)) O ?_;rintro _ _⟨M,ids,p1,p2,c1,c2,rfl,hM,hI,rfl⟩
 have ha:(DY [] (l.take 30)).length<=30:=by
  have:=VF (l.take 30) [];rw[ig,iw]at this;omega
 have hc:∀t∈DY [] (l.take 30),t.length<=400:=wD _ _ (fun t h=>by cases h);generalize DY [] (l.take 30)=ts at*;obtain⟨n,hn⟩:∃n,ts.length=n:=⟨_,rfl⟩;rw[hn]at ha ⊢;have gR:ids.length=n:=by rw[hI.1,hn]
 simp only[uV,uW];refine Dv ?_;refine bE O (fun gf=>?_) (fun gf=>?_)
 ·refine Br ?_;exact uZ O (.tmp O .nil) ⟨O,O⟩
 refine Bw ?_;refine uX (qWy hE gR) O ?_;rintro _ _⟨p3,c3,rfl,rfl⟩;obtain⟨m,hm⟩:∃m,min n 26=m:=⟨_,rfl⟩;rw[hm];have hA:m<=26:=oO;have g3:m<=n:=oO;have gg:=tL ids m;simp only[uV,uW];refine lQ (p:=sl p3 c3 43 2 (Dy ids m).length (FY (Dy ids m))) uK (fun _ h=>fun hC=>eG h hC) ?_;intro hd;refine lQ (p:=bR s 1048576 M) uK (fun _ h=>(dR h).1) (fun hw=>?_)
 have hU:∀u∈ids,Ev (BO M) u/\len (BO M) u<=400:=fun u hu=>by
  obtain⟨t,ht,hb⟩:=hI.at2 hu;exact⟨hb.ev,by unfold len;rw[hb.tx];exact hc t ht⟩
 have hf:∀i,i<m->EL ids i∈ids:=fun i hi=>by
  rw[wM (ag (by omega:i<ids.length))];exact AR _
 have hL:∀i,i<m->EL ids i<=M.length:=fun i hi=>by
  have:=(hU _ (hf i hi)).1.le;rwa [bQ]at this
 have hg:∀i,i<m->Be (BO M) (EL ids i) (ts.getD i []):=fun i hi=>by
  obtain⟨t,ht⟩:∃t,ts[i]?=some t:=BG;obtain⟨id,gh,hb⟩:=hI.at ht;rw[wM gh,lh,ht];exact hb
 have hh:=Vr hw (f:=fun _=>none) ids hU;rw[gR]at hh;have hV:M.length+DR (BO M) (fun _=>none) ids<=1048576:=oO;refine Bc ?_;refine dX (fun i:Nat=>[(1,.slice kp kn kc),(5,uPt fa),(6,uPt d),(11,.slice p3 (Dy ids m).length c3),(12,BK i)]) (fun i=>[GG d fa [116] s (fW ids i) (IZ i) [] 0,bR s 1048576 M,Dt fa [116] ([116]++mD) none none Dr.on,sl p3 c3 43 2 (Dy ids m).length (FY (Dy ids m)),q,R]) (fun i=>m-i) (fun i=>i<=m) 0 (av _) BC uI ?_;rintro i hi;refine Bu ?_;refine bE O (fun h1=>?_) (fun h1=>?_)
 ·obtain⟨gn,rfl⟩:=hd oO;obtain⟨f0,f1⟩:=YP (Rh (ids:=ids) (m:=m) (i:=i) oO) (((i:Nat):Int).toNat*2) oO;obtain⟨f2,f3⟩:=YP (Rh (ids:=ids) (m:=m) (i:=i) oO) (0+((i:Nat):Int).toNat*2) oO;refine Bw ?_;refine uH ([sl (BM gn) c3 43 2 (Dy ids m).length (FY (Dy ids m))]) ?_;refine Bo ?_;apply dH 11 O oK O;refine uC (qWl (k:=ER i) (id:=EL ids i) hE (Vq i) (hL i oO)) O ?_;rintro _ _⟨rfl,rfl⟩;simp only[uV,uW];rw[show Cq (fW ids i) (ER i,EL ids i)=fW ids (i+1)from rfl,show(fun x=>x==ER i||IZ i x)=IZ (i+1)from rfl];refine uE ?_;refine Bq ?_;refine bS (ι:=Nat) (j:=i+1) oO oO ⟨O,O,O,O,au some (bW oO),trivial⟩ uI
 obtain rfl:i=m:=by omega
 clear hi h1;refine Br ?_;refine BH (Wu hE) O ?_;refine uX (zX (Es:=M) (s:=s) (most:=1048576) hE) O ?_;rintro _ _⟨pp,tb,rfl,rfl⟩;simp only[uV,uW];refine uX (Wt hE) O ?_;rintro _ _⟨me,bm,rfl,rfl⟩;simp only[uV,uW]
 have gi:Cv E.w0 p3 (FY (Dy ids i)) (sl p3 c3 43 2 (Dy ids i).length (FY (Dy ids i))):=fun hO=>by
  obtain⟨gn,rfl⟩:=hd (pm.2 fun e=>hO (by rw[e];rfl));exact⟨gn,0,O,Rj (fun _ _ h=>h)⟩
 have gj:∀p∈Dy ids i,0<=p.2->p.2<=M.length->p.2.toNat∈ids:=fun p hp _ _=>by
  obtain⟨j,hj,rfl⟩:=VW hp;exact hf j hj
 refine Bv ?_;refine uX (zL (Es:=M) (s:=s) (tb:=tb) (pp:=pp) (most:=1048576) (m:=me) (bm:=bm) (f:=fun _=>none) (l:=Dy ids i) (a:=p3) (ca:=c3) (U:=ids) hE hB gi oO gj hU hV (Kn.nil _)) O ?_;rintro _ _(⟨e,he,rfl,rfl⟩|⟨M2,f',ys,g,cB,B,ho,rfl,gk,g4, -,gd,gl,gm,rfl⟩)
 ·exact(he.not (LD hA hL)).elim
 simp only[uV,uW];refine lQ (p:=bR s 1048576 (M++M2)) uK (fun _ h=>(dR h).1) (fun hs=>?_);have g5:(M++M2).length=M.length+M2.length:=aa;have hW:∀j,j<i->Be (BO (M++M2)) (EL ids j) (ts.getD j []):=fun j hj=>(hg j hj).more M2
 obtain⟨jd,eq1,eq2⟩:=QB (ts:=ts) hs (by rw[gl,gg]) hW gm
 have hN:∀S:List Nat,S.Nodup->(∀x∈S,∃y id,fW ids i y=some id/\En (BO (M++M2)) id x)->S.length<=24000:=fun S hS hr=>by
  have:=qPv hs (B:=400) (ids:=ids) (f:=fW ids i) (fun x hx=>by
   obtain⟨t,ht,hb⟩:=hI.at2 hx;have gT:=hb.more M2;exact⟨gT.ev.le,by unfold len;rw[gT.tx];exact hc t ht⟩) (fun y id h=>by
   obtain⟨j,hj,_,rfl⟩:=(Sv ids i hA y id).1 h;exact hf j hj) hS hr
  omega
 refine CX ?_
 have hv:∀j,j<i->EL ids j<=(M++M2).length:=fun j hj=>by
  have:=hL j hj;omega
 refine uX (qTt (Es:=M++M2) (s:=s) (most:=1048576) (N:=24000) hE hs hA hv hN (ai _)) O ?_;rintro _ _⟨x0,tx,W,nn,rfl,⟨hF,hD,ga⟩,rfl⟩;simp only[uV,uW];refine Br ?_;refine jT (fun _:Unit=>[(1,.slice kp kn kc),(5,uPt fa),(13,.slice (BM g) B.length cB)]) (fun _=>[Dt fa [116] ([116]++mD) x0 none Dr.on,sl (BM g) cB 5 1 B.length (Bd B),q,R]) (fun _=>True) ?_ ?_
 ·refine CB ?_;by_cases hz:0<i
  ·obtain⟨gn,rfl⟩:=hd oO;obtain⟨f0,f1⟩:=YP (Rh (ids:=ids) (m:=i) (i:=0) hz) 0 rfl;refine BU 91 (.bool true) O (au Value.bool (oI oO)) ?_;refine Bo ?_;refine BH (qWl (k:=ER 0) (id:=0) hE (Vq 0) (av _)) O ?_;refine Bi ?_;refine eX (ι:=Unit) () trivial BC ?_;exact uI
  refine BU 91 (.bool false) O (au Value.bool (oM oO)) ?_;refine Bq ?_;refine eX (ι:=Unit) () trivial BC ?_;exact uI
 rintro - -;have hR:=hD.reopen;have hP:=JR hA hD;have hJ:=JS hD;have hG:=JU hD;rw[bQ]at hG;have hO:=qVk hA hD;have hX:∀j,j<i->(nL Cn.nil tx).N (ER j)=some (Bh W (EL ids j)):=fun j hj=>NJ hA hD hj
 have hH:∀j,j<i->Be (nL Cn.nil tx).G (EL (Sj ids W i) j) (ts.getD j []):=fun j hj=>by
  rw[Ko hj];exact NK (ts:=ts) hA hD hj (hW j hj)
 refine Bz ?_;refine uX (qOn (p:=Dr.on) (n0:=[116]) (n1:=[116]++mD) (x0:=x0) (x1:=none) hE hF.syn (fun y hy=>by cases hy)) rfl ?_;rintro _ _⟨rfl,rfl⟩;simp only[uV,uW];refine Bw ?_;refine uX (qLl (n0:=[116]) (x0:=x0) (ts:=tx) (most:=1048576) (C:=nL Cn.nil tx) hE O (by decide) (by decide) hF.has hF.pay ga hF.fit hR.1 oO (ai _) hJ) O ?_;rintro _ _⟨d2,s2,Es2,rfl,hQ,rfl⟩;rw[<-hQ]at hH;have g6:Es2.length<=(M++M2).length:=by rw[<-bQ,hQ];exact hG
 generalize(nL Cn.nil tx).N=N2 at hP hO hX ⊢;generalize Ga (nL Cn.nil tx).G.length=V2;generalize(DV (DX 0 tx)).length=n2;clear hR hJ hG ga hD hF hN hQ;simp only[uV,uW];refine FH ?_;refine uX (qWk (m:=i) hE hP oO) O ?_;rintro _ _⟨nl,q5,c5,rfl,hK,rfl⟩;have h0:=OJ hA hK fun x=>RX.trans (hO x)
 have g7:nl.length=i:=by rw[h0];simp
 have go:∀j,j<i->nl[j]?=some (ER j):=fun j hj=>by rw[h0,bn,lu hj];rfl
 clear h0 hK hO hP;simp only[uV,uW];refine lQ (p:=sl q5 c5 9 1 nl.length (Dh nl)) uK (fun _ h=>fun hC=>eG h hC) ?_;intro gp;refine CK ?_;refine fF (fU (t:=43) (sz:=2)) ?_;obtain⟨js,h3⟩:∃js,Sj ids W i=js:=⟨_,rfl⟩;have h4:∀j,j<i->Bh W (EL ids j)=EL js j:=fun j hj=>by rw[<-h3,Ko hj]
 rw[h3]at hH;refine dX (fun x:Ui=>[(6,uPt d2),(13,.slice (BM g) B.length cB),(15,.slice q5 nl.length c5),(16,.slice x.p (Dy js x.i).length x.c),(17,BK (x.i))]) (fun x=>[GG d2 fa [116] s2 N2 (fun _=>false) V2 n2,bR s2 1048576 Es2,sl q5 c5 9 1 nl.length (Dh nl),sl x.p x.c 43 2 (Dy js x.i).length (FY (Dy js x.i)),sl (BM g) cB 5 1 B.length (Bd B),q,R]) (fun x=>i-x.i) (fun x=>x.i<=i) ⟨0,none,0⟩ (av _) BC uI ?_;rintro⟨j,p,cc⟩hj;simp only at hj ⊢;have gr:=tL js j;refine Bu ?_;refine bE O (fun h2=>?_) (fun h2=>?_)
 ·have h5:j<i:=oO;obtain⟨gq,rfl⟩:=gp oO;have f0:=Ri (go j h5) (((j:Nat):Int).toNat) oO;refine Bo ?_;refine BH (Nf (k:=ER j) (id:=Bh W (EL ids j)) hE (hX j h5)) O ?_;rw[h4 j h5];refine Dv ?_;refine aA (iE (hE.t O) O O) O ?_;refine uU (aU (hE.t O) (hE.t O) O O O (fun gs=>?_));refine uU (BJ (fun h6 h7 h8 h9 gb hY=>?_));refine Bu ?_
  have e1:FY (Dy js (j+1))=FY (Dy js j)++[BN (ER j),BL ((EL js j:Nat):Int)]:=by
   rw[qRk,WU];rfl
  obtain rfl:h8=(Dy js (j+1)).length:=by have:=tL js (j+1);omega
  obtain rfl:h9=FY (Dy js (j+1)):=by rw[hY,e1];rfl
  refine bS (ι:=Ui) (j:=⟨j+1,some ⟨h6,0,none⟩,h7⟩) BD BD ⟨O,O,O,O,au some (bW BD),trivial⟩ uI
 obtain rfl:j=i:=by omega
 clear hj h2;have gt:js.length=j:=by rw[<-h3,OD]
 refine iO (p:=sl p cc 43 2 (Dy js j).length (FY (Dy js j))) uK (fun _ h=>fun hC=>eG h hC) ?_;intro hp;refine iO (p:=bR s2 1048576 Es2) uK (fun _ h=>(dR h).1) ?_;intro gu
 have gv:Cv E.w0 p (FY (Dy js j)) (sl p cc 43 2 (Dy js j).length (FY (Dy js j))):=fun hO=>by
  obtain⟨gn,rfl⟩:=hp (pm.2 fun e=>hO (by rw[e];rfl));exact⟨gn,0,O,Rj (fun _ _ h=>h)⟩
 have gA:∀u∈js,∃k,k<j/\u=EL js k:=fun u hu=>by
  obtain⟨k,hk⟩:=mf hu;exact⟨k,by have:=(ae.1 hk).1;omega,(wM hk).symm⟩
 have gc:∀u∈js,Ev (BO Es2) u/\len (BO Es2) u<=400:=fun u hu=>by
  obtain⟨k,hk,rfl⟩:=gA u hu;have hb:=hH k hk;refine⟨hb.ev,?_⟩;unfold len;rw[hb.tx];obtain⟨t,ht⟩:∃t,ts[k]?=some t:=BG;rw[lh,ht];exact hc t (ak ht)
 have gw:∀k,k<j->EL js k<=Es2.length:=fun k hk=>by
  have:=(hH k hk).ev.le;rwa [bQ]at this
 have gE:∀x∈Dy js j,0<=x.2->x.2<=Es2.length->x.2.toNat∈js:=fun x hx _ _=>by
  obtain⟨k,hk,rfl⟩:=VW hx;show EL js k∈js;rw[wM (ag (by omega:k<js.length))];exact AR _
 have hZ:=Vr gu (f:=fun _=>none) js gc;rw[gt]at hZ;have hT:Es2.length+DR (BO Es2) (fun _=>none) js<=1048576:=oO;refine Br ?_;refine BH (Wu hE) O ?_;refine uX (zX (Es:=Es2) (s:=s2) (most:=1048576) hE) O ?_;rintro _ _⟨pp2,tb2,rfl,rfl⟩;simp only[uV,uW];refine uX (Wt hE) O ?_;rintro _ _⟨me2,bm2,rfl,rfl⟩;simp only[uV,uW];refine Bv ?_;refine uX (zL (Es:=Es2) (s:=s2) (tb:=tb2) (pp:=pp2) (most:=1048576) (m:=me2) (bm:=bm2) (f:=fun _=>none) (l:=Dy js j) (a:=p) (ca:=cc) (U:=js) hE hB gv oO gE gc hT (Kn.nil _)) O ?_;rintro _ _(⟨e,he,rfl,rfl⟩|⟨M3,f3,zs,gz,cz,B2,g8,rfl,gx,g9, -,gy,g0,gO,rfl⟩)
 ·exact(he.not (LD hA gw)).elim
 simp only[uV,uW];refine lQ (p:=bR s2 1048576 (Es2++M3)) uK (fun _ h=>(dR h).1) (fun g1=>?_);obtain⟨jd2,eq3,eq4⟩:=QB (ts:=ts) g1 (by rw[g0,gr]) (fun k hk=>(hH k hk).more M3) gO
 have g2:B=B2:=by
  have:=eq1.same eq3 rfl;rw[eq2,eq4]at this;rw[gk,gx];exact this
 refine CY ?_;refine BH (qQr (xs:=B) (bs:=B2) (q:=sl (BM g) cB 5 1 B.length (Bd B)) (r:=sl (BM gz) cz 5 1 B2.length (Bd B2)) hE (fun _=>⟨g,0,O,Rj (fun _ _ h=>h)⟩) (fun _=>⟨gz,0,O,Rj (fun _ _ h=>h)⟩)) O ?_;refine Bw ?_;exact uZ O (.tmp O .nil) ⟨au Value.bool (oI g2),O⟩
end
section
open Go Go.ChangeShapes Go.WideShapes Go.ChangeAt Go.WideMaps Go.WideElems Go.RowKit Go.ChangeMaps Sl Eg
instance:Inhabited EY:=⟨⟨0,0,0,0,0,[]⟩⟩
def Ik {fs:Array Field}{i o:Nat}{t:TypeId}(h:fs[i]?.map (fun f=>(f.offset,f.type))=some (o,t)):∃f,fs[i]?=some f/\f.offset=o/\f.type=t:=by
 cases e:fs[i]? with
 |none=>rw[e]at h;cases h
 |some f=>rw[e]at h;simp at h;exact⟨f,rfl,h.1,h.2⟩
def yV {H:Type}{enc:TypeId×Value->H}{P:Program}{w:World}{Di n o:Nat}{spare:Nat->Bool}{held:Bool}{t:TypeId}{k:IntKind}{cs:List Value}{f:Field}{x:Option (DataW H×List MemPlace)}(hx:x≠none)(ho:f.offset=o)(ht:f.type=t)(hi:P.underlying t=some (.int k))(hc:P.cellsOf t=1)
  (h:DataW.trod enc P w Di spare held n f.type ((cs.drop f.offset).take (P.cellsOf f.type))=x):∃z,cs[o]?=some (.int k z)/\(Lit.int k z).wf=true:=by
 cases x with
 |none=>exact absurd rfl hx
 |some x=>
  rw[ho,ht,hc]at h
  obtain⟨z,e,_,hw⟩:=DataW.trod_int hi h
  exact⟨z,qRn e,hw⟩
def tN {z}(h:(Lit.int .i64 z).wf=true): -9223372036854775808<=z/\z<=9223372036854775807:=by
 simp only[Lit.wf,ik,decide_eq_true_eq]at h;have h1:(IntKind.i64.min:Int)= -9223372036854775808:=by rfl
 have h2:(IntKind.i64.max:Int)=9223372036854775807:=by rfl
 omega
def LV {H:Type}{enc:TypeId×Value->H}{P:Program}{w:World}{Di n o:Nat}{spare:Nat->Bool}{held:Bool}{t:TypeId}{cs:List Value}{f:Field}{x:Option (DataW H×List MemPlace)}(hx:x≠none)(ho:f.offset=o)(ht:f.type=t)(hi:P.underlying t=some .string)(hc:P.cellsOf t=1)
  (h:DataW.trod enc P w Di spare held n f.type ((cs.drop f.offset).take (P.cellsOf f.type))=x):∃u:List UInt8,cs[o]?=some (.string ⟨⟨u⟩⟩):=by
 cases x with
 |none=>exact absurd rfl hx
 |some x=>
  rw[ho,ht,hc]at h
  obtain⟨⟨⟨u⟩⟩,e,_⟩:=DataW.trod_string hi h
  exact⟨u,qRn e⟩
set_option maxRecDepth 100000 in
def qZj {H:Type}{enc:TypeId×Value->H}{w:World}{Di fuel:Nat}{spare:Nat->Bool}{held:Bool}{cs:List Value}{x:DataW H×List MemPlace}(h:DataW.trod enc Tryz.prog w Di spare held fuel 61 cs=some x):∃m:EY,cs=Ic m/\m.ok:=by
 obtain⟨xs,n,_,_,hC,hD,hA⟩:=DataW.trod_struct (fs:=Tryz.prog.fieldsOf 61) oK h;have hE:(Tryz.prog.fieldsOf 61).size=6:=by kernel_rfl
 have hc:Tryz.prog.cellsOf 61=6:=by kernel_rfl
 have ui:Tryz.prog.underlying 3=some (.int .i64):=by kernel_rfl
 have us:Tryz.prog.underlying 9=some .string:=by kernel_rfl
 have ci:Tryz.prog.cellsOf 3=1:=by kernel_rfl
 have cs':Tryz.prog.cellsOf 9=1:=by kernel_rfl
 obtain⟨f0,a0,o0,t0⟩:=Ik (fs:=Tryz.prog.fieldsOf 61) (i:=0) (o:=0) (t:=3) oK;obtain⟨f1,a1,o1,t1⟩:=Ik (fs:=Tryz.prog.fieldsOf 61) (i:=1) (o:=1) (t:=3) oK;obtain⟨f2,a2,o2,t2⟩:=Ik (fs:=Tryz.prog.fieldsOf 61) (i:=2) (o:=2) (t:=3) oK;obtain⟨f3,a3,o3,t3⟩:=Ik (fs:=Tryz.prog.fieldsOf 61) (i:=3) (o:=3) (t:=3) oK;obtain⟨f4,a4,o4,t4⟩:=Ik (fs:=Tryz.prog.fieldsOf 61) (i:=4) (o:=4) (t:=3) oK;obtain⟨f5,a5,o5,t5⟩:=Ik (fs:=Tryz.prog.fieldsOf 61) (i:=5) (o:=5) (t:=9) oK;rw[hE]at hD;have hB:∀i,i<6->xs[i]?≠none:=fun i hi=>by rw[ag oO];simp
 obtain⟨z0,e0,w0⟩:=yV (hB 0 oO) o0 t0 ui ci (hA 0 f0 a0);obtain⟨z1,e1,w1⟩:=yV (hB 1 oO) o1 t1 ui ci (hA 1 f1 a1);obtain⟨z2,e2,w2⟩:=yV (hB 2 oO) o2 t2 ui ci (hA 2 f2 a2);obtain⟨z3,e3,w3⟩:=yV (hB 3 oO) o3 t3 ui ci (hA 3 f3 a3);obtain⟨z4,e4,w4⟩:=yV (hB 4 oO) o4 t4 ui ci (hA 4 f4 a4);obtain⟨u,e5⟩:=LV (hB 5 oO) o5 t5 us cs' (hA 5 f5 a5);rw[hc]at hC;refine⟨⟨z0,z1,z2,z3,z4,u⟩,?_,⟨tN w0,tN w1,tN w2,tN w3,tN w4⟩⟩;match cs,hC with
 |[c0,c1,c2,c3,c4,c5],_=>
  simp at e0 e1 e2 e3 e4 e5
  subst e0 e1 e2 e3 e4 e5
  rfl
set_option maxRecDepth 100000 in
def qUr {H:Type}{enc:TypeId×Value->H}{w Di b0 r held v d ps}
  (hv:Value.okWide Tryz.prog w r b0 22 v) (hd:DataW.Trod enc Tryz.prog w Di (fun _=>true) held 22 v d ps):
  ∃(A:Option Addr)(ms:List EY)(C:Nat),v= .slice A ms.length C/\Cv w A (Fj ms) old/\(∀m∈ms,m.ok)/\ms.length<=maxLen:=by
 have hc:Tryz.prog.cellsOf 61=6:=by kernel_rfl
 have hu:Tryz.prog.underlying 22=some (.slice 61):=by kernel_rfl
 obtain⟨a,len,cap,rfl⟩:=okWide_slice hu hv;obtain⟨fuel,hf⟩:=hd;simp only[Value.cells]at hf;rcases Go.Deep.open_slice hu hf with⟨h1,h2⟩|⟨a',len',cap',m,n,D,Pl,h1,hb,hl,hm,hG,hx,hB⟩
 ·simp at h1;obtain⟨rfl,rfl,rfl⟩:=h1;exact⟨none,[],0,O,fun h=>absurd O h,(by simp),av _⟩
 simp at h1;obtain⟨rfl,rfl,rfl⟩:=h1;have hJ:len<=m:=by rw[hG];split <;>omega
 obtain⟨M,hM⟩:=Go.Deep.choose_lt (n:=len) (p:=fun i(k:EY)=>k.ok/\∀j u,(Ic k)[j]?=some u->w.cell? (a'.add (i*6+j))=some u) (fun i hi=>by
  obtain⟨cs',g1,g2⟩:=hB i oO;obtain⟨k,rfl,hk⟩:=qZj g2;rw[hc]at g1;obtain⟨_,_,g3⟩:=World.cells?_some g1;refine⟨k,hk,fun j u hj=>?_⟩;have hH:j<6:=(ae.1 hj).1;rw[<-Go.Deep.add_add,g3 j hH,hj])
 have hA:((List.range len).map M).length=len:=by simp
 have hC:∀i,i<len->((List.range len).map M)[i]?=some (M i):=fun i hi=>by simp[hi]
 refine⟨some a',(List.range len).map M,cap,by rw[hA],fun hI=>?_,fun t ht=>?_,by rw[hA];omega⟩
 ·have h0:0<len:=by
   rcases jo len with h| h
   ·subst h;simp[Fj]at hI
   exact h
  have hE:=(hM 0 h0).2 0 _ O;rw[show a'.add (0*6+0)=a' by simp[Addr.add]]at hE;have e:=zAo hE;refine⟨a'.block,a'.off,by rw[<-e],Ro fun i v hv=>?_⟩
  have hi:i<len*6:=by
   have:=(ae.1 hv).1;rwa [xD,hA]at this
  have hk:i/6<len:=oO;have hj:i%6<6:=oO;have hu:(Ic (M (i/6)))[i%6]?=some ((Ic (M (i/6)))[i%6]'hj):=ag hj;have hF:=qZb (hC _ hk) _ _ hu;have hD:=(hM _ hk).2 _ _ hu;rw[show i/6*6+i%6=i by omega]at hF hD;rw[hF]at hv;rw[e,Sl.addr_add]at hD;rw[hD,hv]
 obtain⟨i,hi,rfl⟩:=jg.1 ht;exact(hM i (oC.1 hi)).1
def qXj {E f args u}(h:Ct E f args [old] (fun v Q=>v=u/\Q=[old])):Ct E f args [] (fun v Q=>v=u/\Q=[]):=fun R w s=>(h R w (s.imp fun _ x=>Nt _ x)).mono fun e w'⟨v,Qs,h1,⟨h2,h3⟩,h4⟩=>⟨v,[],h1,⟨h2,rfl⟩,by
 subst h3;exact h4.imp (by show ∀k,dW [old,R] k->dW [R] k;(apply Dm;(repeat constructor);done))⟩
set_option maxRecDepth 100000 in
def qUq {H:Type}{enc:TypeId×Value->H}{w Di b0 r held v d ps}
  (hv:Value.okWide Tryz.prog w r b0 23 v) (hd:DataW.Trod enc Tryz.prog w Di (fun _=>true) held 23 v d ps):
  ∃(A:Option Addr)(n C:Nat),v= .slice A n C/\n<=maxLen:=by
 have hu:Tryz.prog.underlying 23=some (.slice 3):=by kernel_rfl
 obtain⟨a,len,cap,rfl⟩:=okWide_slice hu hv;obtain⟨fuel,hf⟩:=hd;simp only[Value.cells]at hf;rcases Go.Deep.open_slice hu hf with⟨h1,h2⟩|⟨a',len',cap',m,n,D,Pl,h1,hb,hl,hm,hB,hx,hA⟩
 ·simp at h1;obtain⟨rfl,rfl,rfl⟩:=h1;exact⟨none,0,0,O,av _⟩
 simp at h1;obtain⟨rfl,rfl,rfl⟩:=h1;have hC:len<=m:=by rw[hB];split <;>omega
 exact⟨some a',len,cap,O,oO⟩
def qFp {E}(hE:BP E)(hB:Ca E.w0){l a c kp kn kc}(hq:Cv E.w0 a (Fj l) old)(hl:l.length<=maxLen)(hx:∀x∈l,x.ok) (hk:kn<=maxLen):
  Ct E 3 [.slice a l.length c,.slice kp kn kc] [] (fun v Q=>v= .bool true/\Q=[]):=qXj (qCr hE hB hq (by unfold maxLen at hl;omega) hx (by unfold maxLen at hk;omega))
end
