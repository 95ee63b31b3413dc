import Derived.Test.YtlmpojkmeglepaaGreatDoorQ87
import Derived.Test.YtlmpojkmeglepaaGreatDoorQ9R
set_option linter.all false
set_option maxHeartbeats 1000000
namespace Go.Proofs.YtlmpojkmeglepaaGreatDoor
open Go Go.RowKit Sl Eg
set_option maxRecDepth 10000
section
variable {E:Env}{Es:List Ent}{pp tb s most:Nat}
def HerePost (pp s tb most:Nat)(Es:List Ent)(x:Nat)(v:Value)(Q:List HP):Prop:=∃M,v= .tuple #[.int .i64 (x:Nat),.nilIface]∧M.length≤1∧Q=[cells pp [uPt s,uPt tb] 97,tabP tb s (rls (Es++M)),bR s most (Es++M)]
def ct_joinS (hE:Seat E)(hB:Base E.w0){i a b:Nat}(hr:(rls Es)[i]?=some (.pair a b))(hs:Sig (rls Es) (i+1))(ha:a≤(rls Es).length)(hroom:Es.length+2≤most):
  Ct E 131 [uPt pp,.int .i64 (a:Nat),.int .i64 (b:Nat)] [cells pp [uPt s,uPt tb] 97,tabP tb s (rls Es),bR s most Es] (HerePost pp s tb most Es (i+1)):=by
 refine bO (hE.fn Tryz.func131) O O O (fun R=>?_);simp only[dR,uV,uW];refine gg12 ?_;refine uX (kS hE ha) O ?_;rintro _ _⟨rfl,rfl⟩;simp only[uV,uW];refine gg1 ?_;refine uX (qRa hE hB hr hs hroom) O ?_;rintro _ _⟨M,rfl,hM,rfl⟩;simp only[uV,uW];refine gg7 ?_;exact uZ O (.tmp O (.tmp O .nil)) ⟨M,O,hM,O⟩
def ct_JoinS (hE:Seat E)(hB:Base E.w0){i a b:Nat}(hr:(rls Es)[i]?=some (.pair a b))(hs:Sig (rls Es) (i+1))(hroom:Es.length+2≤most):
  Ct E 105 [uPt pp,.int .i64 (a:Nat),.int .i64 (b:Nat)] [cells pp [uPt s,uPt tb] 97,tabP tb s (rls Es),bR s most Es] (HerePost pp s tb most Es (i+1)):=by
 refine dX (p:=bR s most Es) uK (fun _ h=>dP h) (fun hsay=>?_);have hw:=hsay.1;have hmx:dC=1152921504606846976:=rfl;obtain⟨d1,_,_⟩:=hs.down2 hw hr;have sa:=(d1 a (by simp[kids])).1;have sb:=(d1 b (by simp[kids])).1;have hal:=sa.le;have hi1:=sa.le;have hj1:=sb.le;have hln:=rT hr (hw.ok _ _ hr);have hsx:=hw.short (i+1);have ga:good (rls Es) a:=⟨sa.le,sa.lv⟩;have gb:good (rls Es) b:=⟨sb.le,sb.lv⟩;rw[bQ]at hi1 hj1;refine bO (hE.fn Tryz.func105) O O O (fun R=>?_);simp only[dR,uV,uW];refine gg10 ?_;refine uX (fQ hE) O ?_;rintro _ _⟨rfl,rfl⟩;simp only[uV,uW];refine gg16 ?_;refine nD 3 ?_;refine gg23 ?_;refine dS 28 O (fun h1=>?_) (fun h1=>?_)
 ·exact absurd h1 oO
 refine gg5 ?_;refine uX (fQ hE) O ?_;rintro _ _⟨rfl,rfl⟩;simp only[uV,uW];refine gg1 ?_;refine uX (sF hE) O ?_;rintro _ _⟨rfl,rfl⟩;simp only[uV,uW];refine gg5 ?_;refine bE O (fun h2=>?_) (fun h2=>?_)
 ·exact absurd h2 oO
 refine gg31 ?_;refine dS 28 O (fun h3=>?_) (fun h3=>?_)
 ·exact absurd h3 oO
 refine gg5 ?_;refine uX (fQ hE) O ?_;rintro _ _⟨rfl,rfl⟩;simp only[uV,uW];refine gg1 ?_;refine uX (sF hE) O ?_;rintro _ _⟨rfl,rfl⟩;simp only[uV,uW];refine gg5 ?_;refine bE O (fun h4=>?_) (fun h4=>?_)
 ·exact absurd h4 oO
 refine gg31 ?_;refine nD 3 ?_;refine gg22 ?_;refine uX (qB hE hB ga) O ?_;rintro _ _⟨rfl,rfl⟩;simp only[uV,uW];refine gg44 ?_;refine uX (qB hE hB gb) O ?_;rintro _ _⟨rfl,rfl⟩;simp only[uV,uW];refine gg40 ?_;refine uX (kS hE ga.1) O ?_;rintro _ _⟨rfl,rfl⟩;simp only[uV,uW];refine gg2 ?_;refine uX (kS hE gb.1) O ?_;rintro _ _⟨rfl,rfl⟩;simp only[uV,uW];refine uX (qTm hE oO) O ?_;rintro _ _⟨rfl,rfl⟩;simp only[uV,uW];refine gg21 ?_;refine uX (ct_joinS hE hB hr hs hal hroom) O ?_;rintro _ _⟨M,rfl,hM,rfl⟩;simp only[uV,uW];refine gg7 ?_;exact uZ O (.tmp O (.tmp O .nil)) ⟨M,O,hM,O⟩
def qTb (hE:Seat E)(hB:Base E.w0){x m:Nat}(hs:Sig (rls Es) x)(hn:Nb (rls Es) x x)(hm:lvl (rls Es) x=(m:Nat))(hev:m%2=0):
  Ct E 129 [uPt pp,.int .i64 (x:Nat)] [cells pp [uPt s,uPt tb] 97,tabP tb s (rls Es),bR s most Es] (fun v Q=>v= .bool true∧Q=[cells pp [uPt s,uPt tb] 97,tabP tb s (rls Es),bR s most Es]):=by
 refine dX (p:=bR s most Es) uK (fun _ h=>dP h) (fun hsay=>?_);have hw:=hsay.1;have gx:good (rls Es) x:=⟨hs.le,hs.lv⟩;have hsh:=hs.short hw;refine bO (hE.fn Tryz.func129) O O O (fun R=>?_);simp only[dR,uV,uW];refine gg9 ?_;refine uX (kS hE gx.1) O ?_;rintro _ _⟨rfl,rfl⟩;simp only[uV,uW];refine gg9 ?_;refine uX (qJ hE hB hs) O ?_;rintro _ _⟨ya,ga,p1,c1,rfl,da,da0,rfl⟩;simp only[uV,uW];refine gg3 ?_;refine uX (qJ hE hB hs) O ?_;rintro _ _⟨yb,gb,p2,c2,rfl,db,db0,rfl⟩;simp only[uV,uW];refine gg1 ?_;refine uU (dA (hE.t O) (fun b6=>?_));refine gg7 ?_;refine uX (qB hE hB gx) O ?_;rintro _ _⟨rfl,rfl⟩;simp only[uV,uW];rw[hm];refine gg22 ?_;refine bE O (fun hod=>?_) (fun hod=>?_)
 ·exfalso;omega
 refine gg9 ?_;have hst:=qOc (A:=⟨ya,ga,p1,c1⟩) (B:=⟨yb,gb,p2,c2⟩) hw none 0 hs hs da db da0 db0;refine iB (gW (t:=278) (sz:=4)) ?_;refine dW (fun q:ApG=>[(6,uPt b6),(7,.int .i64 (m:Nat)),(9,.int .i64 ((q.l+1:Nat):Int))]) (fun q=>[cells pp [uPt s,uPt tb] 97,tabP tb s (rls Es),bR s most Es,cells b6 [uPt pp,uPt pp,.bool false,.slice q.A.p q.A.fs.length q.A.c,.int .i64 (q.A.x:Nat),.int .u64 (key (rls Es) q.A.x:Nat),uPt pp,.bool true,.slice q.B.p q.B.fs.length q.B.c,.int .i64 (q.B.x:Nat),.int .u64 (key (rls Es) q.B.x:Nat),.slice q.C.p q.C.its.length q.C.c] 257,sl q.A.p q.A.c 266 8 q.A.fs.length (dU (rls Es) q.A.fs),sl q.B.p q.B.c 266 8 q.B.fs.length (dU (rls Es) q.B.fs),sl q.C.p q.C.c 278 4 q.C.its.length (itsC (rls Es) q.C.its),R]) (fun q=>m-q.l) (fun q=>ClI (rls Es) x x q∧q.l≤m) ⟨0,⟨ya,ga,p1,c1⟩,⟨yb,gb,p2,c2⟩,⟨[],none,0⟩⟩ ⟨hst,av _⟩ ⟨O,O,O,trivial⟩ uI ?_;clear hst;rintro⟨l,A,B,C⟩⟨hI,hle⟩;simp only at hle ⊢;have hea:=hI.ea;have heb:=hI.eb;have hem:=hI.em;simp only at hea heb hem;refine gg8 ?_;refine bE O (fun hlt=>?_) (fun hlt=>?_)
 ·have hbd:=(hn (l+1) oO oO).1;rw[cu]at hbd;have hcalm:=hI.calm hw hs hs hbd;refine gg7 ?_;refine uX (qFc hE hB (S:=b6) hs hs hea heb hem hcalm oO oO) O ?_;rintro _ _⟨rfl,rfl⟩;simp only[uV,uW];refine gg11 ?_;refine bE O (fun hc=>?_) (fun hc=>?_)
  ·exfalso;rw[hem]at hc;simp at hc
  have hnx:=hI.next hw hs hs hem;refine gg6 ?_;refine uX (qMm hE hB (Es:=Es) (b:=b6) (pre:=[uPt pp]) (suf:=[uPt pp,.bool true,.slice B.p B.fs.length B.c,.int .i64 (B.x:Nat),.int .u64 (key (rls Es) B.x:Nat),.slice C.p C.its.length C.c]) (fs:=A.fs) hs hea) O ?_;rintro _ _⟨rfl,rfl⟩;simp only[uV,uW];refine gg5 ?_;refine uX (qMm hE hB (Es:=Es) (b:=b6) (pre:=[uPt pp,uPt pp,.bool false,.slice (upS (rls Es) (l+1) A).p (upS (rls Es) (l+1) A).fs.length (upS (rls Es) (l+1) A).c,.int .i64 ((upS (rls Es) (l+1) A).x:Nat),.int .u64 (key (rls Es) (upS (rls Es) (l+1) A).x:Nat)]) (suf:=[.slice C.p C.its.length C.c]) (fs:=B.fs) hs heb) O ?_;rintro _ _⟨rfl,rfl⟩;simp only[uV,uW];refine gg8 ?_;refine jK 9 (.int .i64 ((l+1+1:Nat):Int)) O (bW oO) ?_;refine bS (ι:=ApG) (j:=⟨l+1,upS (rls Es) (l+1) A,upS (rls Es) (l+1) B,C⟩) ⟨hnx,by simp only;omega⟩ (by show m-(l+1)<m-l;omega) ⟨rfl,rfl,rfl,trivial⟩ ?_;exact uI
 refine gg11 ?_;exact uZe O (.tmp O .nil) ⟨O,O⟩
def ct_lmulM (hE:Seat E){a k:Nat}(h0:1≤a)(ha:a≤dC)(h:a*k≤dC):Ct E 92 [.int .i64 (a:Nat),.int .i64 (k:Nat)] [] (fun v Q=>v= .tuple #[.int .i64 ((a*k:Nat):Int),.nilIface]∧Q=[]):=by
 apply sK;intro w;rw[hE.P];exact zD a k w ha h0 h
def qQy (hE:Seat E)(hB:Base E.w0){i y k:Nat}(hr:(rls Es)[i]?=some (.power y k))(hs:Sig (rls Es) (i+1))(hroom:Es.length+2≤most):
  Ct E 104 [uPt pp,.int .i64 (y:Nat),.int .i64 (k:Nat)] [cells pp [uPt s,uPt tb] 97,tabP tb s (rls Es),bR s most Es] (HerePost pp s tb most Es (i+1)):=by
 refine dX (p:=bR s most Es) uK (fun _ h=>dP h) (fun hsay=>?_);have hw:=hsay.1;have htx:=hsay.2.1;have hmx:dC=1152921504606846976:=rfl;obtain⟨d1,_,d3⟩:=hs.down2 hw hr;have sy:=(d1 y (by simp[kids])).1;have hn:=d3 y k O;have hk:=hw.ok _ _ hr;simp only[Rl.ok]at hk;obtain⟨u1,u2⟩:=nZ hw (x:=i+1) oO hr hs.lv;have gy:good (rls Es) y:=⟨sy.le,sy.lv⟩;have hln:=kC hr (hw.ok _ _ hr);have hsx:=hw.short (i+1);have py:=wJ hw y sy.pos sy.le;have hyl:=sy.le;have lvy:=sy.short hw;have hcm:len (rls Es) y*k=len (rls Es) (i+1):=by rw[hln,nu]
 have hkb:k≤dC:=by
  have:=jw k py;omega
 obtain⟨m,hm⟩:∃m:Nat,lvl (rls Es) y=(m:Nat):=⟨(lvl (rls Es) y).toNat,by have:=sy.lv;omega⟩;have hym:m%2=0:=oO;rw[bQ]at hyl;have hyp:=sy.pos;refine bO (hE.fn Tryz.func104) O O O (fun R=>?_);simp only[dR,uV,uW];refine gg10 ?_;refine uX (fQ hE) O ?_;rintro _ _⟨rfl,rfl⟩;simp only[uV,uW];refine gg12 ?_;refine dS 20 O (fun h1=>?_) (fun h1=>?_)
 ·exfalso;omega
 refine gg5 ?_;refine uX (fQ hE) O ?_;rintro _ _⟨rfl,rfl⟩;simp only[uV,uW];refine gg1 ?_;refine uX (sF hE) O ?_;rintro _ _⟨rfl,rfl⟩;simp only[uV,uW];refine gg5 ?_;refine bE O (fun h2=>?_) (fun h2=>?_)
 ·exfalso;omega
 refine gg6 ?_;refine uX (qB hE hB gy) O ?_;rintro _ _⟨rfl,rfl⟩;simp only[uV,uW];refine gg24 ?_;refine bE O (fun h3=>?_) (fun h3=>?_)
 ·exfalso;omega
 refine gg7 ?_;refine uX (kS hE gy.1) O ?_;rintro _ _⟨rfl,rfl⟩;simp only[uV,uW];refine gg1 ?_;refine uX (ct_lmulM hE py (hw.short y) oO) O ?_;rintro _ _⟨rfl,rfl⟩;simp only[uV,uW];refine gg22 ?_;refine dS 53 O (fun h4=>?_) (fun h4=>?_)
 ·exfalso;omega
 refine gg7 ?_;refine bE O (fun h5=>?_) (fun h5=>?_)
 ·exfalso;omega
 refine gg8 ?_;refine dS 59 O (fun h6=>?_) (fun h6=>?_)
 ·exfalso;omega
 refine gg7 ?_;refine bE O (fun h7=>?_) (fun h7=>?_)
 ·exfalso;omega
 obtain⟨j,rfl⟩:∃i,y=i+1:=⟨y-1,oO⟩;have hil:j<Es.length:=oO;obtain⟨en,hent⟩:∃e,Es[j]?=some e:=⟨_,ag hil⟩;have het:en.t=txt (rls Es) (j+1):=htx j en hent;have hrr:=mY hent;refine gg6 ?_;refine uX (fQ hE) O ?_;rintro _ _⟨rfl,rfl⟩;simp only[uV,uW];refine gg1 ?_;refine uX (jP hE hent) O ?_;rintro _ _⟨rfl,rfl⟩;simp only[uV,uW];refine gg3 ?_;refine uU (dA (hE.t O) (fun b12=>?_));refine gg18 ?_;refine bE O (fun hkd=>?_) (fun hkd=>?_)
 ·exfalso;cases e:en.r with
  |letter b=>rw[e]at hkd;simp[Rl.kind]at hkd
  |pair a b=>rw[e]at hkd;simp[Rl.kind]at hkd
  |power z n=>
   rw[e]at hrr
   have:=nZ hw (x:=j+1) oO hrr sy.lv
   omega
 refine gg7 ?_;refine uX (qTb hE hB sy hn hm hym) O ?_;rintro _ _⟨rfl,rfl⟩;simp only[uV,uW];refine gg6 ?_;refine uX (fQ hE) O ?_;rintro _ _⟨rfl,rfl⟩;simp only[uV,uW];refine gg2 ?_;have hlt:en.t.length*k≤dC:=by rw[het];show len (rls Es) (j+1)*k≤_;omega
 refine uX (qJv (s:=s) (most:=most) hE hent oO hlt oO) O ?_;rintro _ _⟨M,id,rfl,g1,g2,g3,rfl⟩;simp only[uV,uW];have hM1:M.length≤1:=by rcases g3 with rfl|⟨x,rfl,_⟩<;>simp
 refine qO (cO (p:=tabP tb s (rls Es)) (p':=tabP tb s (rls (Es++M))) uK (fun _ h=>by rw[dB];exact lT _ h)) ?_;refine mX (p:=bR s most (Es++M)) uK (fun _ h=>dP h) ?_;rintro⟨hw3, -, -, -⟩
 have hid:id=i+1:=by
  have h2:(rls (Es++M))[i]?=some (.power (j+1) k):=by rw[dB];exact wF _ hr
  have:=hw3.nodup _ _ _ g2 h2;omega
 subst hid;refine gg8 ?_;exact uZ O (.tmp O (.tmp O .nil)) ⟨M,O,hM1,O⟩
end
section
variable {E:Env}{Es:List Ent}{pp tb s most:Nat}
def qCn {n m:Nat}{l:List Nat}(h:Fresh n m l)(hl:∀x∈l,x≤n) (hm:n≤m):m=n:=by
 apply Classical.byContradiction;intro hn;have h1:=h (n+1) oO oO;have:=hl _ h1;omega
def ct_OfS (hE:Seat E)(hB:Base E.w0){x:Nat}(hs:Sig (rls Es) x){a:Option Addr}{c:Nat}{bs:List UInt8}(hbs:bs=txt (rls Es) x){q:HP}(hq:bs≠[]→∃g o,a=some ⟨g,o,none⟩∧∀k,q k→RdAt E.w0 g o (byC bs) k) (hn:bs.length≤65536) (hroom:Es.length+bs.length≤most):
  Ct E 42 [uPt pp,.slice a bs.length c] [cells pp [uPt s,uPt tb] 97,tabP tb s (rls Es),bR s most Es,q] (fun v Q=>v= .tuple #[.int .i64 (x:Nat),.nilIface]∧Q=[cells pp [uPt s,uPt tb] 97,tabP tb s (rls Es),bR s most Es,q]):=by
 refine dX (p:=bR s most Es) uK (fun _ h=>dP h) (fun hsay=>?_);have hw:=hsay.1;have htx:txt (rls Es) x=bs:=hbs.symm;have hlt0:=hs.lts hw;rw[htx]at hlt0;have hpos:1≤bs.length:=by rw[hbs];exact wJ hw x hs.pos hs.le
 have hlen0:=hlt0.le.1;have hrows:∀k,1≤k→(expd (rls Es) (k-1) x).length≤bs.length:=fun k hk=>by rw[←hlen0];exact qFo hs (k-1)
 have hsh:=hs.short hw
 have hrt0:∀k,rowT (rls Es) (expd (rls Es) k x)=bs:=fun k=>by
  induction k with
  |zero=>exact hlt0.text
  |succ k ih=>
   have:=(hs.step (k+1) oO).text hw
   rw[cu]at this
   rw[this]
   exact ih
 refine bO (hE.fn Tryz.func42) O O O (fun R=>?_);simp only[dR,uV,uW];refine gg36 ?_;refine bE O (fun h0=>?_) (fun h0=>?_)
 ·exfalso;omega
 refine gg10 ?_;refine bE O (fun h1=>?_) (fun h1=>?_)
 ·exfalso;omega
 obtain⟨g,o,rfl,hqq⟩:=hq (by rintro rfl;simp at hpos);refine gg6 ?_;refine uX (qFe hE hB hqq hn hroom) O ?_;rintro _ _⟨M,ids,xs,ys,g1,g2,rfl,hM,hlts,hrow,hfr,rfl⟩;have hil:=hlts.le.1;have ex:xs=idC ids:=by have:=hrow.hx;rwa [di (by have:=hrow.xl;omega)]at this
 have ey:ys=kyC (ids.map (key (rls (Es++M)))):=by have:=hrow.hy;rwa [di (by have:=hrow.yl;omega)]at this
 subst ex ey;simp only[uV,uW];refine mX (p:=bR s most (Es++M)) uK (fun _ h=>(dP h).1) ?_;intro hw1
 obtain rfl:ids=expd (rls Es) 0 x:=by
  have h2:Lts (rls (Es++M)) (expd (rls Es) 0 x) bs:=by rw[dB];exact hlt0.ext _
  exact hlts.fn hw1 h2
 have hM0:=qCn hfr (fun y hy=>by have:=((hs.inv 1 oO).ok y hy).2.1;rwa [bQ]at this) (by simp);obtain rfl:M=[]:=az (by rw[aa]at hM0;omega);rw[aj];clear hw1 hfr hM0 hrow hlts hM;refine gg3 ?_;refine uU (dA (hE.t O) (fun b6=>?_));refine gg21 ?_;refine iB (cO (p:=sl (some ⟨g1,0,none⟩) bs.length 44 1 bs.length (idC (expd (rls Es) 0 x))) (p':=sl (some ⟨g1,0,none⟩) bs.length 44 1 (expd (rls Es) 0 x).length (idC (expd (rls Es) 0 x))) uK (fun _ h=>by rw[hil];exact h)) ?_;refine iB (cO (p:=sl (some ⟨g2,0,none⟩) bs.length 70 1 bs.length (kyC ((expd (rls Es) 0 x).map (key (rls Es))))) (p':=sl (some ⟨g2,0,none⟩) bs.length 70 1 (expd (rls Es) 0 x).length (kyC ((expd (rls Es) 0 x).map (key (rls Es))))) uK (fun _ h=>by rw[hil];exact h)) ?_;clear hil
 refine dW (fun k:Nat=>[(0,uPt pp),(6,uPt b6),(8,.int .i64 ((k+1:Nat):Int))]) (fun k=>[cells pp [uPt s,uPt tb] 97,tabP tb s (rls Es),bR s most Es,cells b6 [.slice (some ⟨g1,0,none⟩) (expd (rls Es) k x).length bs.length,.slice (some ⟨g2,0,none⟩) (expd (rls Es) k x).length bs.length] 164,sl (some ⟨g1,0,none⟩) bs.length 44 1 (expd (rls Es) k x).length (idC (expd (rls Es) k x)),sl (some ⟨g2,0,none⟩) bs.length 70 1 (expd (rls Es) k x).length (kyC ((expd (rls Es) k x).map (key (rls Es)))),q,R]) (fun k=>30000-k) (fun k=>(k:Int)≤lvl (rls Es) x) 0 hs.lv ⟨O,O,O,trivial⟩ uI ?_;rintro k hk;have hrk:=hrows (k+1) oO;rw[cu]at hrk;have hinv:=hs.inv (k+1) oO;have hstp:=hs.step (k+1) oO;rw[cu]at hinv hstp;have hxp:=lG hw (l:=k) x hs.pos hs.le;have hnxt:∀y∈expd (rls Es) (k+1) x,y≤(rls Es).length:=fun y hy=>((hs.inv (k+2) oO).ok y hy).2.1
 refine gg9 ?_;refine bE O (fun hlt=>?_) (fun hlt=>?_)
 ·have h2:2≤(expd (rls Es) k x).length:=oO
  have hkl:(k:Int)<lvl (rls Es) x:=by
   apply Classical.byContradiction;intro hno;rw[eO hs.pos oO]at h2;simp at h2
  have hids:∀y∈expd (rls Es) k x,1≤y∧y≤Es.length:=fun y hy=>by have:=hinv.ok y hy;rw[bQ]at this;omega
  have hrt:rowT (rls Es) (expd (rls Es) k x)=bs:=hrt0 k;have hmx:dC=1152921504606846976:=rfl;have hr1:Es.length+(expd (rls Es) k x).length≤most:=oO
  have hln1:∀A y t B,expd (rls Es) k x=A++List.replicate t y++B→(txt (rls Es) y).length*t≤dC:=fun A y t B e=>by
   have:=qIe (L:=rls Es) (A:=A) (B:=B) (x:=y) (t:=t);rw[←e,hrt]at this;omega
  have hln2:∀i y z,(expd (rls Es) k x)[i]?=some y→(expd (rls Es) k x)[i+1]?=some z→(txt (rls Es) y).length+(txt (rls Es) z).length≤dC:=fun i y z hy hz=>by
   have:=qIf (L:=rls Es) hy hz;rw[hrt]at this;omega
  have hin:(expd (rls Es) k x).length≤65536:=oO;refine gg12 ?_;refine bE O (fun hodd=>?_) (fun hodd=>?_)
  ·have ho:(k+1)%2=1:=oO;refine gg2 ?_;apply aA
   ·(first |(apply bV rfl (hE.t rfl) rfl;(repeat(first |rfl|assumption|constructor));done)|(apply y_load_agg_old rfl (hE.t rfl) rfl;assumption))
   ·rfl
   refine uX (qTu hE hB hin hids hln1 hr1) O ?_;rintro _ _⟨M2,out,rfl,hM2,hrn,hfr,rfl⟩;simp only[uV,uW];refine gg22 ?_;refine yM (p:=bR s most (Es++M2)) uK (fun _ h=>(dP h).1) ?_;intro hwf
   obtain rfl:out=expd (rls Es) (k+1) x:=by
    unfold Sq at hstp;rw[if_pos ho]at hstp;have h3:=hstp.runs.ext (rls M2);rw[←dB]at h3;exact hrn.fn hwf h3
   have hM0:=qCn hfr (fun y hy=>by have:=hnxt y hy;rwa [bQ]at this) (by simp);obtain rfl:M2=[]:=az (by rw[aa]at hM0;omega);simp only[aj];refine jK 8 (.int .i64 ((k+1+1:Nat):Int)) O (bW oO) ?_;refine bS (ι:=Nat) (j:=k+1) oO oO ⟨O,O,O,trivial⟩ ?_;exact uI
  have hev:(k+1)%2=0:=oO;refine gg2 ?_;apply aA
  ·(first |(apply bV rfl (hE.t rfl) rfl;(repeat(first |rfl|assumption|constructor));done)|(apply y_load_agg_old rfl (hE.t rfl) rfl;assumption))
  ·rfl
  refine gg1 ?_;refine uX (qOi (l:=k+1) hE hB hin oO hev oO hids hln2 hr1) O ?_;rintro _ _⟨M2,out,a,rfl,hM2,hrn,hfr,rfl⟩;simp only[uV,uW];refine gg22 ?_;refine yM (p:=bR s most (Es++M2)) uK (fun _ h=>(dP h).1) ?_;intro hwf
  have hout:out++(expd (rls Es) k x).drop a=expd (rls Es) (k+1) x:=by
   have hle:∀y∈expd (rls Es) k x,y≤(rls Es).length:=fun y hy=>(hinv.ok y hy).2.1
   have h3:=hstp.ext (rls M2) hle;rw[←dB]at h3
   have h4:Sq (rls (Es++M2)) (k+1) (expd (rls Es) k x) (out++(expd (rls Es) k x).drop a):=by
    unfold Sq;rw[if_neg oO];refine pg_of (c:=num (k+1)) ?_;have e:(expd (rls Es) k x).map (key (rls (Es++M2)))=(expd (rls Es) k x).map (key (rls Es)):=by rw[dB];exact vN _ hle
    rw[e];exact hrn
   exact h4.fn hwf h3
  have hM0:=qCn hfr (fun y hy=>by
   have:=hnxt y (by rw[←hout];exact jr _ hy);rwa [bQ]at this) (by simp)
  obtain rfl:M2=[]:=az (by rw[aa]at hM0;omega);rw[hout];simp only[aj];refine jK 8 (.int .i64 ((k+1+1:Nat):Int)) O (bW oO) ?_;refine bS (ι:=Nat) (j:=k+1) oO oO ⟨O,O,O,trivial⟩ ?_;exact uI
 have hone:expd (rls Es) k x=[x]:=by
  rcases Int.lt_or_le (k:Int) (lvl (rls Es) x)with h| h
  ·have:=hxp.2 h;omega
  exact eO hs.pos h
 rw[hone];have f0:(idC [x])[0]?=some (.int .i64 (x:Nat)):=rfl;have hl1:([x]:List Nat).length=1:=rfl;refine gg16 ?_;exact uZ O (.tmp O (.tmp O .nil)) ⟨O,O⟩
end
section
variable {E:Env}{Es:List Ent}{pp tb s most m bm:Nat}{f:Int→Option Value}
def SigOf.self {L:List Rl}(hw:Wf L){x y:Nat}(hs:Sig L x)(h:SigOf L x y):y=x:=Sg.fn hw h.2.2.2 (hs.sn hw).sg
def Sig.of {L:List Rl}(hw:Wf L){x:Nat}(hs:Sig L x):SigOf L x x:=(hs.sn hw).of hs.le rfl
def Kn.self {L:List Rl}(hw:Wf L)(h:Kn L f){x:Nat}(hs:Sig L x){v:Value}(e:f (x:Nat)=some v):v= .int .i64 (x:Nat):=by
 obtain⟨y,rfl,hy⟩:=h.at e;rw[hy.self hw hs]
def qTn (hE:Seat E)(hB:Base E.w0){i:Nat}{en:Ent}(hent:Es[i]?=some en)(hs:Sig (rls Es) (i+1))(hroom:Es.length+256≤most)(hk:Kn (rls Es) f):
  Ct E 79 [uPt m,.int .i64 ((i+1:Nat):Int)] [cells pp [uPt s,uPt tb] 97,tabP tb s (rls Es),bR s most Es,cells m [uPt pp,.map (some bm)] 93,mapF bm .i64 f]
   (fun v Q=>(∃z:Nat,z∈kids en.r∧f (z:Nat)=none∧v= .tuple #[.int .i64 (z:Nat),.nilIface]∧Q=[cells pp [uPt s,uPt tb] 97,tabP tb s (rls Es),bR s most Es,cells m [uPt pp,.map (some bm)] 93,mapF bm .i64 f])∨
    ∃M,v= .tuple #[.int .i64 0,.nilIface]∧M.length≤1∧Q=[cells pp [uPt s,uPt tb] 97,tabP tb s (rls (Es++M)),bR s most (Es++M),cells m [uPt pp,.map (some bm)] 93,mapF bm .i64 (setF f ((i+1:Nat):Int) (.int .i64 ((i+1:Nat):Int)))]):=by
 refine dX (p:=bR s most Es) uK (fun _ h=>dP h) (fun hsay=>?_);have hw:=hsay.1;have hil:i<Es.length:=(ae.1 hent).1;have htx:=hsay.2.1 i en hent;have hle:en.t.length=len (rls Es) (i+1):=by rw[htx];rfl
 have hlt:(txt (rls Es) (i+1)).length=len (rls Es) (i+1):=rfl;have hg:=mY hent;have hok:=hw.ok _ _ hg;obtain⟨d1,_,_⟩:=hs.down2 hw hg;have hm1:E.P.underlying 91=some (.map 44 44):=by rw[hE.P];kernel_rfl
 have hm2:E.P.underlying 44=some (.int .i64):=by rw[hE.P];kernel_rfl
 have hm3:∀w,(zeroValue 44).run E.P w= .ok (.int .i64 0) w:=fun w=>by rw[hE.P];kernel_rfl
 refine bO (hE.fn Tryz.func79) O O O (fun R=>?_);simp only[dR,uV,uW];refine gg12 ?_;refine uX (fQ hE) O ?_;rintro _ _⟨rfl,rfl⟩;simp only[uV,uW];refine gg7 ?_;refine uX (nT hE hent) O ?_;rintro _ _⟨rfl,rfl⟩;simp only[uV,uW];refine gg3 ?_;refine uU (dA (hE.t O) (fun b7=>?_));refine gg22 ?_;refine bE O (fun h=>?_) (fun h=>?_)
 ·have hl2:len (rls Es) (i+1)≤65536:=oO;refine gg6 ?_;refine l_eq 40 (.int .i64 (len (rls Es) (i+1):Nat)) O (bW oO) ?_;refine uX (yP hE hent hl2) O ?_;rintro _ _⟨g,c,rfl,rfl⟩;simp only[uV,uW];refine gg24 ?_;refine uX (ct_OfS (Es:=Es) (s:=s) (most:=most) (tb:=tb) (pp:=pp) (a:=some ⟨g,0,none⟩) (c:=c) (q:=sl (some ⟨g,0,none⟩) c 5 1 (txt (rls Es) (i+1)).length (byC (txt (rls Es) (i+1)))) (bs:=txt (rls Es) (i+1)) hE hB hs O (fun _=>⟨g,0,O,qV (fun _ _ h=>h)⟩) oO oO) O ?_;rintro _ _⟨rfl,rfl⟩;simp only[uV,uW];refine gg13 ?_;refine uX (nP (f:=f) (m:=m) (pp:=pp) (bm:=bm) (x:=i+1) (y:=i+1) hE) O ?_;rintro _ _⟨rfl,rfl⟩;simp only[uV,uW];refine gg6 ?_;exact uZ O (.tmp O (.tmp O .nil)) (.inr ⟨[],O,av _,by rw[aj]⟩)
 have hnl:∀b,en.r≠ .letter b:=fun b e=>by
  rw[e]at hg;have:=vO hg;omega
 refine gg6 ?_;refine uX (jP hE hent) O ?_;rintro _ _⟨rfl,rfl⟩;simp only[uV,uW];generalize her:en.r=r at hg hok d1 hnl ⊢;cases r with
 |letter b=>exact absurd rfl (hnl b)
 |pair l r=>
  obtain⟨ho1,ho2,ho3,ho4⟩:=hok
  have sl':=(d1 l (by simp[kids])).1
  have sr':=(d1 r (by simp[kids])).1
  refine gg3 ?_
  refine uU (dA (hE.t O) (fun b12=>?_))
  refine gg22 ?_
  rcases hfl:f (l:Nat)with _|v0
  ·refine uB (iP hm1 hm2 hm3 O O uK hfl) ?_
   refine gg25 ?_
   exact uZ O (.tmp O (.tmp O .nil)) (.inl ⟨l,by simp[kids],hfl,rfl,rfl⟩)
  obtain rfl:=hk.self hw sl' hfl
  refine uB (iP hm1 hm2 hm3 O O uK hfl) ?_
  refine gg36 ?_
  rcases hfr:f (r:Nat)with _|v1
  ·refine uB (iP hm1 hm2 hm3 O O uK hfr) ?_
   refine gg25 ?_
   exact uZ O (.tmp O (.tmp O .nil)) (.inl ⟨r,by simp[kids],hfr,rfl,rfl⟩)
  obtain rfl:=hk.self hw sr' hfr
  refine uB (iP hm1 hm2 hm3 O O uK hfr) ?_
  refine gg25 ?_
  refine uX (ct_JoinS (Es:=Es) (s:=s) (most:=most) (tb:=tb) (pp:=pp) hE hB hg hs oO) O ?_
  rintro _ _⟨M,rfl,hM,rfl⟩
  simp only[uV,uW]
  refine gg13 ?_
  refine uX (nP (f:=f) (m:=m) (pp:=pp) (bm:=bm) (x:=i+1) (y:=i+1) hE) O ?_
  rintro _ _⟨rfl,rfl⟩
  simp only[uV,uW]
  refine gg5 ?_
  exact uZ O (.tmp O (.tmp O .nil)) (.inr ⟨M,O,hM,O⟩)
 |power y k=>
  have sy:=(d1 y (by simp[kids])).1
  refine gg3 ?_
  refine uU (dA (hE.t O) (fun b12=>?_))
  refine gg22 ?_
  rcases hfl:f (y:Nat)with _|v0
  ·refine uB (iP hm1 hm2 hm3 O O uK hfl) ?_
   refine gg25 ?_
   exact uZ O (.tmp O (.tmp O .nil)) (.inl ⟨y,by simp[kids],hfl,rfl,rfl⟩)
  obtain rfl:=hk.self hw sy hfl
  refine uB (iP hm1 hm2 hm3 O O uK hfl) ?_
  refine gg27 ?_
  refine uH ([cells m [uPt pp,.map (some bm)] 93,cells b12 [.int .i64 (Rl.kind ((Rl.power y k)):Nat),.int .u8 (Rl.byte ((Rl.power y k)):Nat),.int .i64 (Rl.left ((Rl.power y k)):Nat),.int .i64 (Rl.right ((Rl.power y k)):Nat),.int .i64 (Rl.times ((Rl.power y k)):Nat)] 86]) ?_
  refine gg7 ?_
  apply dH 7 O oK O
  refine uC (qQy (Es:=Es) (s:=s) (most:=most) (tb:=tb) (pp:=pp) hE hB hg hs oO) O ?_
  rintro _ _⟨M,rfl,hM,rfl⟩
  simp only[uV,uW]
  refine uE ?_
  refine gg13 ?_
  refine uX (nP (f:=f) (m:=m) (pp:=pp) (bm:=bm) (x:=i+1) (y:=i+1) hE) O ?_
  rintro _ _⟨rfl,rfl⟩
  simp only[uV,uW]
  refine gg6 ?_
  exact uZ O (.tmp O (.tmp O .nil)) (.inr ⟨M,O,hM,O⟩)
end
section
variable {E:Env}{Es:List Ent}{pp tb s most m bm:Nat}{f:Int→Option Value}
def unk (f:Int→Option Value):Nat→Nat
 |0=>0
 |n+1=>unk f n+if(f ((n+1:Nat):Int)).isNone then 1 else 0
def qXe (f:Int→Option Value):∀n,unk f n≤n
 |0=>ai _
 |n+1=>by have:=qXe f n;unfold unk;split <;>omega
def qXd {f:Int→Option Value}{j:Nat}{v:Value}:∀{n:Nat},n<j→unk (setF f (j:Nat) v) n=unk f n
 |0,_=>rfl
 |n+1,h=>by
  unfold unk;rw[qXd oO];have e:setF f (j:Nat) v ((n+1:Nat):Int)=f ((n+1:Nat):Int):=by unfold setF;rw[if_neg oO]
  rw[e]
def qXf {f:Int→Option Value}{j:Nat}{v:Value}(hf:f (j:Nat)=none)(h1:1≤j):∀{n:Nat},j≤n→unk (setF f (j:Nat) v) n+1=unk f n
 |0,h=>by omega
 |n+1,h=>by
  unfold unk;by_cases e:j=n+1
  ·subst e;have e2:setF f ((n+1:Nat):Int) v ((n+1:Nat):Int)=some v:=by unfold setF;rw[if_pos rfl]
   rw[qXd oO,e2,hf];rfl
  have e2:setF f (j:Nat) v ((n+1:Nat):Int)=f ((n+1:Nat):Int):=by unfold setF;rw[if_neg oO]
  have:=qXf (f:=f) (v:=v) hf h1 (n:=n) oO;rw[e2];omega
def Dcr (x:Nat):List Nat→Prop
 |[]=>True
 |[y]=>y=x
 |y::z::r=>y<z∧Dcr x (z::r)
def Dcr.tail {x y:Nat}{r:List Nat}(h:Dcr x (y::r)):Dcr x r:=by
 cases r with
 |nil=>trivial
 |cons z r=>exact h.2
def Dcr.len {x:Nat}:∀{r:List Nat}{y:Nat},Dcr x (y::r)→(y::r).length+y≤x+1
 |[],y,h=>by
  have e:y=x:=h;simp[e];omega
 |z::r,y,h=>by
  have:=Dcr.len h.2;have:=h.1;simp only[ax]at*;omega
structure OcS where
 ts:List Nat
 M:List Ent
 f:Int→Option Value
 g:Nat
 c:Nat
structure OcJ (Es:List Ent)(f0:Int→Option Value)(N x0:Nat)(q:OcS):Prop where
 dcr:Dcr x0 q.ts
 sig:∀y∈q.ts,Sig (rls Es) y
 nil:q.ts=[]→(q.f (x0:Nat)).isSome=true
 cost:q.M.length+unk q.f N≤unk f0 N
 kn:Kn (rls (Es++q.M)) q.f
def stop' (N:Nat)(q:OcS):Nat:=match q.ts with
 |[]=>0
 |y::r=>if(q.f (y:Nat)).isSome then N+2+r.length else y
def OcT (N:Nat)(q:OcS):Nat:=(2*N+4)*unk q.f N+stop' N q
def take_idR {st:List Nat}{y:Nat}:(idC (st++[y])).take (st.length*1)=idC st:=by
 have h:(idC st).length=st.length:=by simp[idC]
 rw[oC,jD,←h,wm]
def qTg (hE:Seat E)(hB:Base E.w0){x N:Nat}(hx:x=0∨Sig (rls Es) x)(hxN:x≤N)(hN:N≤Es.length)(hroom:Es.length+256+unk f N≤most)(hk:Kn (rls Es) f):
  Ct E 47 [uPt m,.int .i64 (x:Nat)] [cells pp [uPt s,uPt tb] 97,tabP tb s (rls Es),bR s most Es,cells m [uPt pp,.map (some bm)] 93,mapF bm .i64 f]
   (fun v Q=>∃M f',v= .tuple #[.int .i64 (x:Nat),.nilIface]∧M.length+unk f' N≤unk f N∧Kn (rls (Es++M)) f'∧Q=[cells pp [uPt s,uPt tb] 97,tabP tb s (rls (Es++M)),bR s most (Es++M),cells m [uPt pp,.map (some bm)] 93,mapF bm .i64 f']):=by
 refine dX (p:=bR s most Es) uK (fun _ h=>dP h) (fun hsay=>?_);have hw:=hsay.1;have hmr:eU=1048576:=rfl;have hmost:=hsay.2.2;refine bO (hE.fn Tryz.func47) O O O (fun R=>?_);simp only[dR,uV,uW];refine gg21 ?_;refine uX (fQ hE) O ?_;rintro _ _⟨rfl,rfl⟩;simp only[uV,uW];refine gg14 ?_;refine dS 25 O (fun h1=>?_) (fun h1=>?_)
 ·exfalso;omega
 refine gg11 ?_;refine uX (fQ hE) O ?_;rintro _ _⟨rfl,rfl⟩;simp only[uV,uW];refine gg1 ?_;refine uX (sF hE) O ?_;rintro _ _⟨rfl,rfl⟩;simp only[uV,uW];refine gg5 ?_;refine bE O (fun h2=>?_) (fun h2=>?_)
 ·exfalso;omega
 refine gg9 ?_;refine bE O (fun h3=>?_) (fun h3=>?_)
 ·obtain rfl:x=0:=by omega
  refine gg8 ?_;apply cB
  ·rfl
  ·(apply Rs.tmp rfl;apply Rs.tmp rfl;exact Rs.nil)
  ·exact⟨[],f,O,by simp,by rw[aj];exact hk,rfl⟩
  rw[aj];exact uI
 have hsx:Sig (rls Es) x:=hx.resolve_left oO;have f0:(idC [x])[0]?=some (.int .i64 (x:Nat)):=rfl;have hm1:E.P.underlying 91=some (.map 44 44):=by rw[hE.P];kernel_rfl
 have hm2:E.P.underlying 44=some (.int .i64):=by rw[hE.P];kernel_rfl
 have hm3:∀w,(zeroValue 44).run E.P w= .ok (.int .i64 0) w:=fun w=>by rw[hE.P];kernel_rfl
 refine gg5 ?_;refine uU ?_;refine aU (hE.t O) (hE.t O) O O O (fun b39=>?_);refine gg5 ?_;refine iB (cO (p:=cells b39 [.int .i64 (x:Nat)] 44) (p':=sl (some ⟨b39,0,none⟩) 1 44 1 1 (idC [x])) uK (eG O (by unfold maxLen;omega))) ?_
 refine dW (fun q:OcS=>[(0,uPt m),(1,.int .i64 (x:Nat)),(6,.slice (some ⟨q.g,0,none⟩) q.ts.reverse.length q.c)]) (fun q=>[cells pp [uPt s,uPt tb] 97,tabP tb s (rls (Es++q.M)),bR s most (Es++q.M),cells m [uPt pp,.map (some bm)] 93,mapF bm .i64 q.f,sl (some ⟨q.g,0,none⟩) q.c 44 1 q.ts.reverse.length (idC q.ts.reverse),R])
  (OcT N) (OcJ Es f N x) ⟨[x],[],f,b39,1⟩ ⟨rfl,fun y hy=>(by obtain rfl:=bf.1 hy;exact hsx),fun h=>(by cases h),by simp,by rw[aj];exact hk⟩ ⟨rfl,rfl,rfl,trivial⟩ ?_ ?_
 ·rw[aj];exact uI
 rintro⟨ts,M,f',g,c⟩hI;obtain⟨hdcr,hsig,hnil,hcost,hkn⟩:=hI;simp only at hdcr hsig hnil hcost hkn ⊢;have hEM:(Es++M).length=Es.length+M.length:=aa;have huf:=qXe f' N;have hsE:∀y,Sig (rls Es) y→Wf (rls (Es++M))→Sig (rls (Es++M)) y:=fun y h hw2=>by rw[dB]at hw2 ⊢;exact h.ext _ hw hw2
 refine gP (p:=bR s most (Es++M)) uK (fun _ h=>dP h) ?_;rintro⟨hw2, -, -, -⟩;cases ts with
 |nil=>
  simp only[List.reverse_nil]
  refine gg8 ?_
  refine bE O (fun h=>?_) (fun h=>?_)
  ·exfalso;simp at h
  obtain⟨v,hfx⟩:=pz.1 (hnil rfl)
  obtain rfl:=hkn.self hw2 (hsE x hsx hw2) hfx
  refine gg12 ?_
  refine uB (iP hm1 hm2 hm3 O O uK hfx) ?_
  refine gg5 ?_
  exact uZ O (.tmp O (.tmp O .nil)) ⟨M,f',O,hcost,hkn,O⟩
 |cons y r=>
  have hln:=hdcr.len
  have hys:=hsig y (by simp)
  have hyp:=hys.pos
  have hyl:=hys.le
  rw[bQ]at hyl
  rw[ax]at hln
  rw[qw]
  have hrl:r.reverse.length=r.length:=uw
  generalize hst:r.reverse=st at*
  have hsl:(st++[y]).length=st.length+1:=by simp
  have hy:(st++[y])[st.length]?=some y:=by simp
  have f1:=eQ hy (((st.length:Nat):Int).toNat) oO
  have f2:=eQ hy (0+((st.length:Nat):Int).toNat) oO
  refine gP (p:=sl (some ⟨g,0,none⟩) c 44 1 (st++[y]).length (idC (st++[y]))) uK (fun _ h=>(lS h).1) (fun hcap=>?_)
  refine gg8 ?_
  refine bE O (fun h=>?_) (fun h=>?_)
  rotate_left
  ·exfalso;simp at h
  refine gg9 ?_
  refine l_eq 46 (.int .i64 (st.length:Nat)) O (bW oO) ?_
  refine gg13 ?_
  rcases hfx:f' (y:Nat)with _| v
  ·refine uB (iP hm1 hm2 hm3 O O uK hfx) ?_
   refine gg19 ?_
   obtain⟨j,rfl⟩:∃j,y=j+1:=⟨y-1,oO⟩
   have hentE:Es[j]?=some (Es[j]'oO):=ag oO
   generalize Es[j]'oO=en at hentE
   have hent:(Es++M)[j]?=some en:=by rw[au oO];exact hentE
   have hg:=mY hentE
   have hun:=qXf (v:= .int .i64 ((j+1:Nat):Int)) hfx oO (n:=N) oO
   refine uX (qTn (most:=most) (s:=s) (tb:=tb) (Es:=Es++M) (f:=f') (m:=m) (pp:=pp) (bm:=bm) hE hB hent (hsE _ hys hw2) oO hkn) O ?_
   rintro _ _(⟨z,hz,hfz,rfl,rfl⟩|⟨K,rfl,hK,rfl⟩)
   ·have hzk:=iG (hw.ok _ _ hg) z hz
    have hzs:=((hys.down2 hw hg).1 z hz).1
    simp only[uV,uW]
    refine gg23 ?_
    refine bE O (fun hz0=>?_) (fun hz0=>?_)
    rotate_left
    ·exfalso;omega
    refine gg3 ?_
    refine uU ?_
    refine aU (hE.t O) (hE.t O) O O O (fun b77=>?_)
    refine uU ?_
    apply bU (hE.t O) (hE.t O) O O O
    ·exact uK
    ·exact uK
    ·rfl
    ·rfl
    ·omega
    ·omega
    ·(unfold maxLen;omega)
    intro g78 c78 n78 x78 hn78 hx78
    refine gg3 ?_
    obtain rfl:x78=idC (st++[j+1]++[z]):=by rw[hx78,jD (st++[j+1])];rfl
    have hzl:(z::(j+1)::r).reverse=st++[j+1]++[z]:=by rw[qw,qw,hst]
    have hzn:(st++[j+1]++[z]).length=st.length+2:=by simp
    subst hn78
    refine bS (ι:=OcS) (j:=⟨z::(j+1)::r,M,f',g78,c78⟩) ⟨⟨oO,hdcr⟩,fun w hw'=>?_,fun h=>by simp at h,hcost,hkn⟩ ?_ ⟨rfl,rfl,by simp only[hzl,hzn,hsl];rfl,trivial⟩ ?_
    ·rcases ku.1 hw' with rfl|hw'
     ·exact hzs
     exact hsig w hw'
    ·unfold OcT stop'
     simp only
     rw[if_neg (by rw[hfz];simp),if_neg (by rw[hfx];simp)]
     omega
    simp only[hzl,hzn,hsl]
    exact uI
   simp only[uV,uW]
   rw[ah]
   refine gg23 ?_
   refine bE O (fun hzz=>?_) (fun hzz=>?_)
   ·exact absurd O hzz
   refine gg2 ?_
   refine yM (p:=bR s most (Es++(M++K))) uK (fun _ h=>dP h) ?_
   rintro⟨hw3, -, -, -⟩
   have hset:(setF f' ((j+1:Nat):Int) (.int .i64 ((j+1:Nat):Int))) ((j+1:Nat):Int)=some (.int .i64 ((j+1:Nat):Int)):=by unfold setF;rw[if_pos rfl]
   have hzl:((j+1)::r).reverse=st++[j+1]:=by rw[qw,hst]
   refine bS (ι:=OcS) (j:=⟨(j+1)::r,M++K,setF f' ((j+1:Nat):Int) (.int .i64 ((j+1:Nat):Int)),g,c⟩) ⟨hdcr,hsig,fun h=>by simp at h,by simp only[aa];omega,?_⟩ ?_ ⟨rfl,rfl,by simp only[hzl];rfl,trivial⟩ ?_
   ·simp only
    have:=hkn.ext (rls K)
    rw[←dB,ah]at this
    refine this.set (x:=j+1) (y:=j+1) ?_
    have h3:Sig (rls (Es++(M++K))) (j+1):=by rw[dB]at hw3 ⊢;exact hys.ext _ hw hw3
    exact h3.of hw3
   ·unfold OcT stop'
    simp only
    rw[if_pos (by rw[hset];rfl),if_neg (by rw[hfx];simp)]
    have e1:(2*N+4)*unk f' N=(2*N+4)*unk (setF f' ((j+1:Nat):Int) (.int .i64 ((j+1:Nat):Int))) N+(2*N+4):=by rw[←hun,zo,oC]
    omega
   simp only[hzl]
   exact uI
  refine uB (iP hm1 hm2 hm3 O O uK hfx) ?_
  refine l_eq 55 (.tuple #[v,.bool true]) O O ?_
  refine gg19 ?_
  refine uB (fJ st.length O O (hE.t O) oO oO) ?_
  refine gg6 ?_
  refine bS (ι:=OcS) (j:=⟨r,M,f',g,c⟩) ⟨hdcr.tail,fun w hw'=>hsig w (by simp[hw']),fun h=>?_,hcost,hkn⟩ ?_ ⟨O,O,by simp only[hst];rfl,trivial⟩ ?_
  ·simp only at h
   subst h
   have e:y=x:=hdcr
   show(f' (x:Nat)).isSome=true
   rw[←e,hfx]
   rfl
  ·unfold OcT stop'
   simp only
   rw[if_pos (by rw[hfx];rfl)]
   cases r with
   |nil=>simp only[fw];omega
   |cons z r'=>
    have hl2:=hdcr.tail.len
    simp only[ax]at hl2 ⊢
    split <;>omega
  simp only[hst]
  refine cZ (cO (p:=sl (some ⟨g,0,none⟩) c 44 1 (st++[y]).length (idC (st++[y]))) (p':=sl (some ⟨g,0,none⟩) c 44 1 st.length (idC st)) uK (kX oO take_idR (by simp[idC]))) ?_
  exact uI
end
