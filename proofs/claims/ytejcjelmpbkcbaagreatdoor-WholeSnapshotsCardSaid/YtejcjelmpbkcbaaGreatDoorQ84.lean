import Derived.Test.YtejcjelmpbkcbaaGreatDoorQ79
set_option linter.all false
set_option maxHeartbeats 1000000
namespace Go.Proofs.YtejcjelmpbkcbaaGreatDoor
open Go Go.RowKit Sl Eg
set_option maxRecDepth 10000
section
variable {E:Env}{Es:List Ent}{s most:Nat}
def wY (hE:Seat E){i:Nat}(h:i≤Es.length):Ct E 76 [uPt s,.int .i64 (i:Nat)] [bR s most Es] (fun v Q=>v= .bool true∧Q=[bR s most Es]):=
 iX hE fun w _ _ hs=>(pO w (i:Int) hs).mono fun e w'⟨h1,h2⟩=>⟨by
  rw[h1,ma (show(0:Int)≤(i:Int) by omega),ma (show(i:Int)≤(Es.length:Int) by omega)];rfl,qFf h2⟩
def qEd {h:PH}(hs:bR s most Es h):Deep Es:=by
 obtain⟨w,lv,bm,h,_⟩:=hs;exact h.deeps
def qUr (hE:Seat E){i:Nat}{x:Ent}(hi:Es[i]?=some x):Ct E 77 [uPt s,.int .i64 ((i+1:Nat):Int)] [bR s most Es] (fun v Q=>v= .agg #[.int .i64 (Rl.kind (x.r):Nat),.int .u8 (Rl.byte (x.r):Nat),.int .i64 (Rl.left (x.r):Nat),.int .i64 (Rl.right (x.r):Nat),.int .i64 (Rl.times (x.r):Nat),.int .i64 (List.length (x.t):Nat),.int .i64 (gF (x.t):Nat),.int .i64 (kR (x.t):Nat),.int .i64 (kS (x.t):Nat),.int .u64 (dval (x.t):Nat),.int .u64 (fE (x.t):Nat),.int .i64 x.d,.bool x.e]∧Q=[bR s most Es]):=
 iX hE fun w _ _ h=>yH w i x h hi
def ct_at0 (hE:Seat E):Ct E 77 [uPt s,.int .i64 0] [bR s most Es] (fun v Q=>v= .agg #[.int .i64 0,.int .u8 0,.int .i64 0,.int .i64 0,.int .i64 0,.int .i64 0,.int .i64 0,.int .i64 0,.int .i64 0,.int .u64 0,.int .u64 1,.int .i64 0,.bool true]∧Q=[bR s most Es]):=
 iX hE fun w _ _ h=>qMq w _
def qVp (h:Deep Es){i:Nat}{x:Ent}(hi:Es[i]?=some x):x.d=(dep (rls Es) (i+1):Int)∧x.e=evn (rls Es) (i+1):=h i x hi
def fld_d (hE:Seat E):∀gs g,E.P.underlying 188=some (.struct gs)→gs[2]?=some g→g.type=3:=fun gs g h1 h2=>by
 rw[hE.P,show Tryz.prog.underlying 188=some (.struct (Tryz.prog.fieldsOf 188))from by kernel_rfl]at h1;cases h1
 have:(Tryz.prog.fieldsOf 188)[2]?.map (·.type)=some 3:=by kernel_rfl
 rw[h2]at this;simpa using this
def fld_e (hE:Seat E):∀gs g,E.P.underlying 188=some (.struct gs)→gs[3]?=some g→g.type=4:=fun gs g h1 h2=>by
 rw[hE.P,show Tryz.prog.underlying 188=some (.struct (Tryz.prog.fieldsOf 188))from by kernel_rfl]at h1;cases h1
 have:(Tryz.prog.fieldsOf 188)[3]?.map (·.type)=some 4:=by kernel_rfl
 rw[h2]at this;simpa using this
def rE (hE:Seat E){x:Nat}(hx:x≤Es.length):Ct E 183 [uPt s,.int .i64 (x:Nat)] [bR s most Es] (fun v Q=>v= .tuple #[.int .i64 (dep (rls Es) x:Nat),.nilIface]∧Q=[bR s most Es]):=by
 refine eU (p:=bR s most Es) uK (fun _ h=>qEd h) (fun hdeep=>?_);refine bO (hE.fn Tryz.func183) O O O (fun R=>?_);simp only[dX,uV,uW];refine gg21 ?_;refine uX (wY (i:=x) hE hx) O ?_;rintro _ _⟨rfl,rfl⟩;simp only[uV,uW];refine gg10 ?_;rcases x with _| i
 ·refine uX (ct_at0 hE) O ?_;rintro _ _⟨rfl,rfl⟩;simp only[uV,uW];refine uB (qJt O (hE.t O) O (fld_d hE) (hE.t O) O O) ?_;refine gg5 ?_;exact uZ O (.tmp O (.tmp O .nil)) ⟨O,O⟩
 obtain⟨en,hent⟩:∃e,Es[i]?=some e:=⟨_,ag hx⟩;obtain⟨e1,e2⟩:=qVp hdeep hent;rw[←e1];refine uX (qUr hE hent) O ?_;rintro _ _⟨rfl,rfl⟩;simp only[uV,uW];refine uB (qJt O (hE.t O) O (fld_d hE) (hE.t O) O O) ?_;refine gg5 ?_;exact uZ O (.tmp O (.tmp O .nil)) ⟨O,O⟩
def qNf (hE:Seat E){x:Nat}(hx:x≤Es.length):Ct E 131 [uPt s,.int .i64 (x:Nat)] [bR s most Es] (fun v Q=>v= .bool (evn (rls Es) x)∧Q=[bR s most Es]):=by
 refine eU (p:=bR s most Es) uK (fun _ h=>qEd h) (fun hdeep=>?_);refine bO (hE.fn Tryz.func131) O O O (fun R=>?_);simp only[dX,uV,uW];refine gg15 ?_;refine uX (wY (i:=x) hE hx) O ?_;rintro _ _⟨rfl,rfl⟩;simp only[uV,uW];refine gg7 ?_;rcases x with _| i
 ·refine uX (ct_at0 hE) O ?_;rintro _ _⟨rfl,rfl⟩;simp only[uV,uW];refine gg1 ?_;refine uB (qJt O (hE.t O) O (fld_e hE) (hE.t O) O O) ?_;refine gg5 ?_;exact uZ O (.tmp O .nil) ⟨O,O⟩
 obtain⟨en,hent⟩:∃e,Es[i]?=some e:=⟨_,ag hx⟩;obtain⟨e1,e2⟩:=qVp hdeep hent;rw[←e2];refine uX (qUr hE hent) O ?_;rintro _ _⟨rfl,rfl⟩;simp only[uV,uW];refine gg1 ?_;refine uB (qJt O (hE.t O) O (fld_e hE) (hE.t O) O O) ?_;refine gg5 ?_;exact uZ O (.tmp O .nil) ⟨O,O⟩
def yB {Es:List Ent}{i:Nat}{r:Rl}(h:(rls Es)[i]?=some r):∃x,Es[i]?=some x∧x.r=r:=by
 unfold rls at h;rw[bq]at h;cases hx:Es[i]? with
 |none=>rw[hx]at h;cases h
 |some x=>rw[hx]at h;exact⟨x,rfl,by simpa using h⟩
structure Bl (L:List Rl)(id:Nat)(t:List UInt8)(d:Nat):Prop where
 pos:1≤id
 ev:Ev L id
 tx:txt L id=t
 dp:dep L id=d
def Bl.ext {L:List Rl}{id d:Nat}{t:List UInt8}(h:Bl L id t d)(M:List Rl):Bl (L++M) id t d:=⟨h.pos,h.ev.ext M,by rw[jQ M h.ev.le];exact h.tx,by rw[vZ M h.ev.le];exact h.dp⟩
def Bl.more {id d:Nat}{t:List UInt8}(h:Bl (rls Es) id t d)(M:List Ent):Bl (rls (Es++M)) id t d:=by rw[dA];exact h.ext _
def Bl.le {id d:Nat}{t:List UInt8}(h:Bl (rls Es) id t d):id≤Es.length:=by have:=h.ev.le;rwa [bQ]at this
def Bl.pair {L:List Rl}(hw:Wf L){i a b da db:Nat}{ta tb':List UInt8}(hg:L[i]?=some (.pair a b))(ha:Bl L a ta da)(hb:Bl L b tb' db)(h1:da≤db+1)(h2:db≤da+1):Bl L (i+1) (ta++tb') (1+max da db):=by
 obtain⟨e1,e2,e3⟩:=Ev.pair hw hg ha.ev.ev hb.ev.ev (by rw[ha.dp,hb.dp];exact h1) (by rw[ha.dp,hb.dp];exact h2);exact⟨oO,e1,by rw[e3,ha.tx,hb.tx],by rw[e2,ha.dp,hb.dp]⟩
def Bl.split {L:List Rl}(hw:Wf L){a d:Nat}{t:List UInt8}(h:Bl L a t d)(hd:1≤d):∃i l r tl tr dl dr,a=i+1∧L[i]?=some (.pair l r)∧Bl L l tl dl∧Bl L r tr dr∧t=tl++tr∧d=1+max dl dr∧dl≤dr+1∧dr≤dl+1:=by
 obtain⟨i,rfl⟩:∃i,a=i+1:=⟨a-1,by have:=h.pos;omega⟩;rcases h.ev.rule hw with⟨b,hg,h0⟩|⟨l,r,hg,h1,h2,h3,h4,el,er,hdp,hlr,hrl,ht⟩
 ·have:=h.dp;omega
 exact⟨i,l,r,_,_,_,_,O,hg,⟨h1,el,O,O⟩,⟨h3,er,O,O⟩,by rw[←h.tx,ht],by rw[←h.dp,hdp],hlr,hrl⟩
def BalP (s most:Nat)(Es:List Ent)(t:List UInt8)(lo hi n:Nat)(v:Value)(Q:List HP):Prop:=
 ∃(M:List Ent)(id d:Nat),v= .tuple #[.int .i64 (id:Nat),.nilIface]∧M.length≤n∧Bl (rls (Es++M)) id t d∧lo≤d∧d≤hi∧Q=[bR s most (Es++M)]
def pV (hE:Seat E){a b da db:Nat}{ta tb':List UInt8}(ha:Bl (rls Es) a ta da)(hb:Bl (rls Es) b tb' db)(h1:da≤db+1)(h2:db≤da+1)(hlen:ta.length+tb'.length≤dC)(hroom:Es.length<most):
  Ct E 130 [uPt s,.int .i64 (a:Nat),.int .i64 (b:Nat)] [bR s most Es] (BalP s most Es (ta++tb') (1+max da db) (1+max da db) 1):=fun R w hs=>by
 obtain⟨lv,bm,hS,hs'⟩:=yE hs;rw[hE.P];have la:=ha.le;have lb:=hb.le;obtain⟨i,rfl⟩:∃i,a=i+1:=⟨a-1,by have:=ha.pos;omega⟩;obtain⟨j,rfl⟩:∃j,b=j+1:=⟨b-1,by have:=hb.pos;omega⟩;obtain⟨xl,hxl⟩:∃x,Es[i]?=some x:=⟨_,ag la⟩;obtain⟨xr,hxr⟩:∃x,Es[j]?=some x:=⟨_,ag lb⟩;have t1:=hS.texts _ _ hxl;have t2:=hS.texts _ _ hxr;rw[ha.tx]at t1;rw[hb.tx]at t2;refine(zU w i j xl xr hS hxl hxr (by rw[t1,t2];exact hlen) hroom).mono fun e w'⟨lv',M,id,e1,e2,e3,e4,e5,e6,e7,_⟩=>⟨_,_,e1,⟨M,id,_,O,e3,?_,ai _,ai _,O⟩,qH hs' e2 e6 e7⟩
 obtain⟨n,rfl⟩:∃n,id=n+1:=⟨id-1,oO⟩;exact Bl.pair e2.wf e5 (ha.more M) (hb.more M) h1 h2
end
section
variable {E:Env}{Es:List Ent}{s most:Nat}
def mH (hE:Seat E){x:Nat}(hx:x≤Es.length):Ct E 134 [uPt s,.int .i64 (x:Nat)] [bR s most Es] (fun v Q=>v= .tuple #[.bool (evn (rls Es) x),.nilIface]∧Q=[bR s most Es]):=by
 refine bO (hE.fn Tryz.func134) O O O (fun R=>?_);simp only[dX,uV,uW];refine gg11 ?_;refine uX (rE hE hx) O ?_;rintro _ _⟨rfl,rfl⟩;simp only[uV,uW];refine gg20 ?_;refine uX (qNf hE hx) O ?_;rintro _ _⟨rfl,rfl⟩;simp only[uV,uW];refine gg5 ?_;exact uZ O (.tmp O (.tmp O .nil)) ⟨O,O⟩
def nN (hE:Seat E){i l r dl dr:Nat}{tl tr:List UInt8}(hg:(rls Es)[i]?=some (.pair l r))(hl:Bl (rls Es) l tl dl)(hr:Bl (rls Es) r tr dr):
  Ct E 184 [uPt s,.int .i64 ((i+1:Nat):Int)] [bR s most Es] (fun v Q=>v= .tuple #[.int .i64 (l:Nat),.int .i64 (r:Nat),.int .i64 (dl:Nat),.int .i64 (dr:Nat),.nilIface]∧Q=[bR s most Es]):=by
 obtain⟨en,hent,hr'⟩:=yB hg;refine bO (hE.fn Tryz.func184) O O O (fun R=>?_);simp only[dX,uV,uW];refine gg13 ?_;refine uX (kZ hE hent) O ?_;rintro _ _⟨rfl,rfl⟩;simp only[uV,uW];rw[hr'];refine gg3 ?_;refine uU (cZ (hE.t O) (fun b9=>?_));refine gg20 ?_;refine uX (rE (x:=l) hE hl.le) O ?_;rintro _ _⟨rfl,rfl⟩;simp only[uV,uW];rw[hl.dp];refine gg22 ?_;refine uX (rE (x:=r) hE hr.le) O ?_;rintro _ _⟨rfl,rfl⟩;simp only[uV,uW];rw[hr.dp];refine gg32 ?_;exact uZ O (.tmp O (.tmp O (.tmp O (.tmp O (.tmp O .nil))))) ⟨O,O⟩
def qPi (hE:Seat E){a b c da db dc:Nat}{ta tb' tc:List UInt8}(ha:Bl (rls Es) a ta da)(hb:Bl (rls Es) b tb' db)(hc:Bl (rls Es) c tc dc)(h1:db≤dc+1)(h2:dc≤db+1)(h3:da≤1+max db dc+1)(h4:1+max db dc≤da+1)
  (hlen:ta.length+(tb'.length+tc.length)≤dC) (hroom:Es.length+2≤most):
  Ct E 214 [uPt s,.int .i64 (a:Nat),.int .i64 (b:Nat),.int .i64 (c:Nat)] [bR s most Es] (BalP s most Es (ta++(tb'++tc)) (1+max da (1+max db dc)) (1+max da (1+max db dc)) 2):=by
 have hr1:Es.length<most:=oO;refine bO (hE.fn Tryz.func214) O O O (fun R=>?_);simp only[dX,uV,uW];refine gg11 ?_;refine uX (pV (most:=most) hE hb hc h1 h2 oO hr1) O ?_;rintro _ _⟨M,id,d,rfl,hM,hbl,hlo,hhi,rfl⟩;simp only[uV,uW];obtain rfl:d=1+max db dc:=by omega
 have hr2:(Es++M).length<most:=by rw[aa];omega
 have hl2:ta.length+(tb'++tc).length≤dC:=by rw[aa];omega
 refine gg22 ?_;refine uX (pV (most:=most) (Es:=Es++M) hE (ha.more M) hbl h3 h4 hl2 hr2) O ?_;rintro _ _⟨M2,id2,d2,rfl,hM2,hbl2,hlo2,hhi2,rfl⟩;simp only[uV,uW];rw[ah Es]at hbl2 ⊢;refine gg7 ?_;exact uZ O (.tmp O (.tmp O .nil)) ⟨M++M2,id2,d2,O,by rw[aa];omega,hbl2,hlo2,hhi2,rfl⟩
def qKg (hE:Seat E){a b c d da db dc dd:Nat}{ta tb' tc td:List UInt8}(ha:Bl (rls Es) a ta da)(hb:Bl (rls Es) b tb' db)(hc:Bl (rls Es) c tc dc)(hd:Bl (rls Es) d td dd)(h1:da≤db+1)(h2:db≤da+1)(h3:dc≤dd+1)(h4:dd≤dc+1)
  (h5:max da db≤max dc dd+1) (h6:max dc dd≤max da db+1) (hlen:(ta.length+tb'.length)+(tc.length+td.length)≤dC) (hroom:Es.length+3≤most):
  Ct E 215 [uPt s,.int .i64 (a:Nat),.int .i64 (b:Nat),.int .i64 (c:Nat),.int .i64 (d:Nat)] [bR s most Es] (BalP s most Es ((ta++tb')++(tc++td)) (2+max (max da db) (max dc dd)) (2+max (max da db) (max dc dd)) 3):=by
 have hr1:Es.length<most:=oO;refine bO (hE.fn Tryz.func215) O O O (fun R=>?_);simp only[dX,uV,uW];refine gg11 ?_;refine uX (pV (most:=most) hE ha hb h1 h2 oO hr1) O ?_;rintro _ _⟨M,id,e,rfl,hM,hbl,hlo,hhi,rfl⟩;simp only[uV,uW];obtain rfl:e=1+max da db:=by omega
 have hr2:(Es++M).length+2≤most:=by rw[aa];omega
 have hl2:(ta++tb').length+(tc.length+td.length)≤dC:=by rw[aa];omega
 refine gg23 ?_;refine uX (qPi (most:=most) (Es:=Es++M) hE hbl (hc.more M) (hd.more M) h3 h4 oO oO hl2 hr2) O ?_;rintro _ _⟨M2,id2,d2,rfl,hM2,hbl2,hlo2,hhi2,rfl⟩;simp only[uV,uW];rw[ah Es]at hbl2 ⊢;refine gg7 ?_;exact uZ O (.tmp O (.tmp O .nil)) ⟨M++M2,id2,d2,O,by rw[aa];omega,hbl2,oO,oO,rfl⟩
def qFj (hE:Seat E){a b da db:Nat}{ta tb':List UInt8}(ha:Bl (rls Es) a ta da)(hb:Bl (rls Es) b tb' db)(h1:da≤db+2)(h2:db≤da+2)(hlen:ta.length+tb'.length≤dC)(hda:da≤1000)(hdb:db≤1000)(hroom:Es.length+3≤most):
  Ct E 185 [uPt s,.int .i64 (a:Nat),.int .i64 (b:Nat)] [bR s most Es] (BalP s most Es (ta++tb') (if da≤db+1∧db≤da+1 then 1+max da db else max da db) (1+max da db) 3):=by
 refine eU (p:=bR s most Es) uK (fun _ h=>dS h) (fun hsay=>?_);have hw:=hsay.1;have hr1:Es.length<most:=oO;have hmx:dC=1152921504606846976:=rfl;refine bO (hE.fn Tryz.func185) O O O (fun R=>?_);simp only[dX,uV,uW];refine gg10 ?_;refine uX (rE (x:=a) hE ha.le) O ?_;rintro _ _⟨rfl,rfl⟩;simp only[uV,uW];rw[ha.dp];refine gg21 ?_;refine uX (rE (x:=b) hE hb.le) O ?_;rintro _ _⟨rfl,rfl⟩;simp only[uV,uW];rw[hb.dp];refine gg26 ?_;refine bE O (fun hc=>?_) (fun hc=>?_)
 ·have hif:¬(da≤db+1∧db≤da+1):=oO;rw[if_neg hif];obtain⟨i,l,r,tl,tr,dl,dr,rfl,hg,hl,hr,rfl,hd,hlr,hrl⟩:=ha.split hw oO;have hlen':tl.length+(tr.length+tb'.length)≤dC:=by rw[aa]at hlen;omega
  refine gg4 ?_;refine uX (nN hE hg hl hr) O ?_;rintro _ _⟨rfl,rfl⟩;simp only[uV,uW];refine gg31 ?_;refine bE O (fun hq=>?_) (fun hq=>?_)
  ·refine gg6 ?_;refine uX (qPi (most:=most) hE hl hr hb oO oO oO oO hlen' oO) O ?_;rintro _ _⟨M,id,e,rfl,hM,hbl,hlo,hhi,rfl⟩;simp only[uV,uW];refine gg9 ?_;exact uZ O (.tmp O (.tmp O .nil)) ⟨M,id,e,O,oO,by rw[ah];exact hbl,oO,oO,rfl⟩
  obtain⟨j,x,y,tx,ty,dx,dy,rfl,hg2,hx,hy,rfl,hd2,hxy,hyx⟩:=hr.split hw oO;have hlen2:(tl.length+tx.length)+(ty.length+tb'.length)≤dC:=by rw[aa]at hlen';omega
  refine gg6 ?_;refine uX (nN hE hg2 hx hy) O ?_;rintro _ _⟨rfl,rfl⟩;simp only[uV,uW];refine gg30 ?_;refine uX (qKg (most:=most) hE hl hx hy hb oO oO oO oO oO oO hlen2 hroom) O ?_;rintro _ _⟨M,id,e,rfl,hM,hbl,hlo,hhi,rfl⟩;simp only[uV,uW];refine gg8 ?_;exact uZ O (.tmp O (.tmp O .nil)) ⟨M,id,e,O,oO,by simp only[ah]at hbl ⊢;exact hbl,oO,oO,rfl⟩
 refine gg11 ?_;refine bE O (fun hc2=>?_) (fun hc2=>?_)
 ·have hif:¬(da≤db+1∧db≤da+1):=oO;rw[if_neg hif];obtain⟨i,l,r,tl,tr,dl,dr,rfl,hg,hl,hr,rfl,hd,hlr,hrl⟩:=hb.split hw oO;have hlen':(ta.length+tl.length)+tr.length≤dC:=by rw[aa]at hlen;omega
  refine gg4 ?_;refine uX (nN hE hg hl hr) O ?_;rintro _ _⟨rfl,rfl⟩;simp only[uV,uW];refine gg31 ?_;refine bE O (fun hq=>?_) (fun hq=>?_)
  ·obtain⟨j,x,y,tx,ty,dx,dy,rfl,hg2,hx,hy,rfl,hd2,hxy,hyx⟩:=hl.split hw oO;have hlen2:(ta.length+tx.length)+(ty.length+tr.length)≤dC:=(by rw[aa]at hlen';omega);refine gg4 ?_;refine uX (nN hE hg2 hx hy) O ?_;rintro _ _⟨rfl,rfl⟩;simp only[uV,uW];refine gg30 ?_;refine uX (qKg (most:=most) hE ha hx hy hr oO oO oO oO oO oO hlen2 hroom) O ?_;rintro _ _⟨M,id,e,rfl,hM,hbl,hlo,hhi,rfl⟩;simp only[uV,uW];refine gg9 ?_;exact uZ O (.tmp O (.tmp O .nil)) ⟨M,id,e,O,oO,by simp only[ah]at hbl ⊢;exact hbl,oO,oO,rfl⟩
  refine gg8 ?_;refine uX (pV (most:=most) hE ha hl oO oO oO hr1) O ?_;rintro _ _⟨M,id,e,rfl,hM,hbl,hlo,hhi,rfl⟩;simp only[uV,uW];have hr2:(Es++M).length<most:=by rw[aa];omega
  have hl2:(ta++tl).length+tr.length≤dC:=by rw[aa];exact hlen'
  refine gg21 ?_;refine uX (pV (most:=most) (Es:=Es++M) hE hbl (hr.more M) oO oO hl2 hr2) O ?_;rintro _ _⟨M2,id2,e2,rfl,hM2,hbl2,hlo2,hhi2,rfl⟩;simp only[uV,uW];rw[ah Es]at hbl2 ⊢;refine gg8 ?_;exact uZ O (.tmp O (.tmp O .nil)) ⟨M++M2,id2,e2,O,by rw[aa];omega,by rw[←ah ta];exact hbl2,oO,oO,rfl⟩
 have hif:da≤db+1∧db≤da+1:=oO;rw[if_pos hif];refine gg7 ?_;refine uX (pV (most:=most) hE ha hb hif.1 hif.2 hlen hr1) O ?_;rintro _ _⟨M,id,e,rfl,hM,hbl,hlo,hhi,rfl⟩;simp only[uV,uW];refine gg7 ?_;exact uZ O (.tmp O (.tmp O .nil)) ⟨M,id,e,O,oO,hbl,oO,oO,O⟩
def qUj (hE:Seat E):∀(n:Nat){Es:List Ent}{a b da db:Nat}{ta tb':List UInt8},da+db≤n→Bl (rls Es) a ta da→Bl (rls Es) b tb' db→ta.length+tb'.length≤dC→da≤500→db≤500→Es.length+(3*n+1)≤most→
  Ct E 133 [uPt s,.int .i64 (a:Nat),.int .i64 (b:Nat)] [bR s most Es] (BalP s most Es (ta++tb') (max da db) (1+max da db) (3*n+1)):=by
 intro n;induction n using Nat.strongRecOn with
 |ind n ih=>
 intro Es a b da db ta tb' hn ha hb hlen hda hdb hroom;refine eU (p:=bR s most Es) uK (fun _ h=>dS h) (fun hsay=>?_);have hw:=hsay.1;have hmx:dC=1152921504606846976:=rfl;refine bO (hE.fn Tryz.func133) O O O (fun R=>?_);simp only[dX,uV,uW];refine gg10 ?_;refine uX (rE (x:=a) hE ha.le) O ?_;rintro _ _⟨rfl,rfl⟩;simp only[uV,uW];rw[ha.dp];refine gg21 ?_;refine uX (rE (x:=b) hE hb.le) O ?_;rintro _ _⟨rfl,rfl⟩;simp only[uV,uW];rw[hb.dp];refine gg28 ?_;refine bE O (fun hc=>?_) (fun hc=>?_)
 ·obtain⟨i,l,r,tl,tr,dl,dr,rfl,hg,hl,hr,rfl,hd,hlr,hrl⟩:=ha.split hw oO;have hlen':tr.length+tb'.length≤dC:=by rw[aa]at hlen;omega
  refine gg4 ?_;refine uX (nN hE hg hl hr) O ?_;rintro _ _⟨rfl,rfl⟩;simp only[uV,uW];refine gg29 ?_;refine uX (ih (n-1) oO (Es:=Es) oO hr hb hlen' oO hdb oO) O ?_;rintro _ _⟨M,id,e,rfl,hM,hbl,hlo,hhi,rfl⟩;simp only[uV,uW];have hr2:(Es++M).length+3≤most:=by rw[aa];omega
  have hl2:tl.length+(tr++tb').length≤dC:=by rw[aa]at hlen ⊢;omega
  refine gg21 ?_;refine uX (qFj (most:=most) (Es:=Es++M) hE (hl.more M) hbl oO oO hl2 oO oO hr2) O ?_;rintro _ _⟨M2,id2,e2,rfl,hM2,hbl2,hlo2,hhi2,rfl⟩;simp only[uV,uW];rw[ah Es]at hbl2 ⊢;refine gg9 ?_;apply cB
  ·rfl
  ·(apply Rs.tmp rfl;apply Rs.tmp rfl;exact Rs.nil)
  ·refine⟨M++M2,id2,e2,O,by rw[aa];omega,by rw[ah];exact hbl2,?_,oO,rfl⟩;split at hlo2<;>omega
  exact uI
 refine gg9 ?_;refine bE O (fun hc2=>?_) (fun hc2=>?_)
 ·obtain⟨i,l,r,tl,tr,dl,dr,rfl,hg,hl,hr,rfl,hd,hlr,hrl⟩:=hb.split hw oO;have hlen':ta.length+tl.length≤dC:=by rw[aa]at hlen;omega
  refine gg4 ?_;refine uX (nN hE hg hl hr) O ?_;rintro _ _⟨rfl,rfl⟩;simp only[uV,uW];refine gg29 ?_;refine uX (ih (n-1) oO (Es:=Es) oO ha hl hlen' hda oO oO) O ?_;rintro _ _⟨M,id,e,rfl,hM,hbl,hlo,hhi,rfl⟩;simp only[uV,uW];have hr2:(Es++M).length+3≤most:=by rw[aa];omega
  have hl2:(ta++tl).length+tr.length≤dC:=by rw[aa]at hlen ⊢;omega
  refine gg21 ?_;refine uX (qFj (most:=most) (Es:=Es++M) hE hbl (hr.more M) oO oO hl2 oO oO hr2) O ?_;rintro _ _⟨M2,id2,e2,rfl,hM2,hbl2,hlo2,hhi2,rfl⟩;simp only[uV,uW];rw[ah Es]at hbl2 ⊢;refine gg9 ?_;apply cB
  ·rfl
  ·(apply Rs.tmp rfl;apply Rs.tmp rfl;exact Rs.nil)
  ·refine⟨M++M2,id2,e2,O,by rw[aa];omega,by rw[←ah ta];exact hbl2,?_,oO,rfl⟩;split at hlo2<;>omega
  exact uI
 refine gg8 ?_;refine uX (pV (most:=most) hE ha hb oO oO hlen oO) O ?_;rintro _ _⟨M,id,e,rfl,hM,hbl,hlo,hhi,rfl⟩;simp only[uV,uW];refine gg7 ?_;exact uZ O (.tmp O (.tmp O .nil)) ⟨M,id,e,O,oO,hbl,oO,oO,O⟩
end
section
variable {E:Env}{Es:List Ent}{s most:Nat}
def wc_nil:(.agg #[.int .i64 (List.length (([]:List UInt8)):Nat),.int .i64 (gF (([]:List UInt8)):Nat),.int .i64 (kR (([]:List UInt8)):Nat),.int .i64 (kS (([]:List UInt8)):Nat),.int .u64 (dval (([]:List UInt8)):Nat),.int .u64 (fE (([]:List UInt8)):Nat)]:Value)= .agg #[.int .i64 0,.int .i64 0,.int .i64 0,.int .i64 0,.int .u64 0,.int .u64 1]:=by
 rfl
def sI (hE:Seat E){x:Nat}(hx:x≤Es.length):Ct E 39 [uPt s,.int .i64 (x:Nat)] [bR s most Es] (fun v Q=>v= .tuple #[.agg #[.int .i64 (List.length (txt (rls Es) x):Nat),.int .i64 (gF (txt (rls Es) x):Nat),.int .i64 (kR (txt (rls Es) x):Nat),.int .i64 (kS (txt (rls Es) x):Nat),.int .u64 (dval (txt (rls Es) x):Nat),.int .u64 (fE (txt (rls Es) x):Nat)],.nilIface]∧Q=[bR s most Es]):=by
 cases x with
 |zero=>rw[kN,wc_nil];exact qFq hE
 |succ i=>
  refine eU (p:=bR s most Es) uK (fun _ h=>dS h) (fun hsay=>?_)
  have hent:Es[i]?=some (Es[i]'hx):=ag hx
  generalize Es[i]'hx=en at hent
  rw[←hsay.2.1 i en hent]
  exact qL hE hent
structure Be (L:List Rl)(id:Nat)(t:List UInt8):Prop where
 ev:Ev L id
 tx:txt L id=t
def Be.zero (L:List Rl):Be L 0 []:=⟨Ev.zero _,kN _⟩
def Be.ext {L:List Rl}{id:Nat}{t:List UInt8}(h:Be L id t)(M:List Rl):Be (L++M) id t:=⟨h.ev.ext M,by rw[jQ M h.ev.le];exact h.tx⟩
def Be.more {id:Nat}{t:List UInt8}(h:Be (rls Es) id t)(M:List Ent):Be (rls (Es++M)) id t:=by rw[dA];exact h.ext _
def Be.le {id:Nat}{t:List UInt8}(h:Be (rls Es) id t):id≤Es.length:=by have:=h.ev.le;rwa [bQ]at this
def Be.bl {L:List Rl}{id:Nat}{t:List UInt8}(h:Be L id t)(h0:1≤id):Bl L id t (dep L id):=⟨h0,h.ev,h.tx,rfl⟩
def Bl.be {L:List Rl}{id d:Nat}{t:List UInt8}(h:Bl L id t d):Be L id t:=⟨h.ev,h.tx⟩
def Be.dep {L:List Rl}(hw:Wf L){id:Nat}{t:List UInt8}(h:Be L id t)(hl:t.length≤400):dep L id≤12:=h.ev.dep_le hw (by unfold len;rw[h.tx];exact hl)
def Be.pos {L:List Rl}(hw:Wf L){id:Nat}{t:List UInt8}(h:Be L id t)(h0:1≤id):1≤t.length:=by
 have:=hw.pos id h0 h.ev.le;unfold len at this;rwa [h.tx]at this
def Be.len {L:List Rl}{id:Nat}{t:List UInt8}(h:Be L id t):(txt L id).length=t.length:=by rw[h.tx]
def Be.split {L:List Rl}(hw:Wf L){a:Nat}{t:List UInt8}(h:Be L a t)(h2:2≤t.length):∃i l r tl tr,a=i+1∧L[i]?=some (.pair l r)∧1≤l∧1≤r∧Be L l tl∧Be L r tr∧t=tl++tr∧Eg.dep L l<Eg.dep L a∧Eg.dep L r<Eg.dep L a:=by
 have h0:1≤a:=by
  rcases jr a with rfl|h'
  ·have:=h.tx;rw[kN]at this;subst this;simp at h2
  exact h'
 obtain⟨i,rfl⟩:∃i,a=i+1:=⟨a-1,oO⟩;rcases h.ev.rule hw with⟨b,hg,hd⟩|⟨l,r,hg,h1,_,h3,_,el,er,hdp,_,_,ht⟩
 ·have:=gN hg;rw[h.tx]at this;subst this;simp at h2
 exact⟨i,l,r,_,_,O,hg,h1,h3,⟨el,O⟩,⟨er,O⟩,by rw[←h.tx,ht],oO,oO⟩
def BeP (s most:Nat)(Es:List Ent)(t:List UInt8)(n:Nat)(v:Value)(Q:List HP):Prop:=
 ∃(M:List Ent)(id:Nat),v= .tuple #[.int .i64 (id:Nat),.nilIface]∧M.length≤n∧Be (rls (Es++M)) id t∧Q=[bR s most (Es++M)]
def nW (hE:Seat E){a b:Nat}{ta tb':List UInt8}(ha:Be (rls Es) a ta)(hb:Be (rls Es) b tb')(hlen:ta.length+tb'.length≤400)(hroom:Es.length+73≤most):
  Ct E 108 [uPt s,.int .i64 (a:Nat),.int .i64 (b:Nat)] [bR s most Es] (BeP s most Es (ta++tb') 73):=by
 refine eU (p:=bR s most Es) uK (fun _ h=>dS h) (fun hsay=>?_);have hmx:dC=1152921504606846976:=rfl;have hla:=ha.len;have hlb:=hb.len;have ea:=ha.ev.ev;have eb:=hb.ev.ev;refine bO (hE.fn Tryz.func108) O O O (fun R=>?_);simp only[dX,uV,uW];refine gg10 ?_;refine uX (sI hE ha.le) O ?_;rintro _ _⟨rfl,rfl⟩;simp only[uV,uW];refine gg3 ?_;refine uU (cZ (hE.t O) (fun b8=>?_));refine gg18 ?_;refine uX (sI hE hb.le) O ?_;rintro _ _⟨rfl,rfl⟩;simp only[uV,uW];refine gg3 ?_;refine uU (cZ (hE.t O) (fun b10=>?_));refine gg19 ?_;refine uX (qNf hE ha.le) O ?_;rintro _ _⟨rfl,rfl⟩;simp only[uV,uW];rw[ea];refine gg7 ?_;refine uX (qNf hE hb.le) O ?_;rintro _ _⟨rfl,rfl⟩;simp only[uV,uW];rw[eb];refine gg15 ?_;refine uX (ct_lnAdd (a:=(txt (rls Es) a).length) (b:=(txt (rls Es) b).length) hE oO) O ?_;rintro _ _⟨rfl,rfl⟩;simp only[uV,uW];refine gg23 ?_;refine bE O (fun h1=>?_) (fun h1=>?_)
 ·obtain rfl:a=0:=by omega
  have ht:=ha.tx;rw[kN]at ht;subst ht;refine gg9 ?_;apply cB
  ·rfl
  ·(apply Rs.tmp rfl;apply Rs.tmp rfl;exact Rs.nil)
  ·exact⟨[],b,O,au _,by rw[aj];exact hb,rfl⟩
  rw[aj];exact uI
 refine gg9 ?_;refine bE O (fun h2=>?_) (fun h2=>?_)
 ·obtain rfl:b=0:=by omega
  have ht:=hb.tx;rw[kN]at ht;subst ht;refine gg9 ?_;apply cB
  ·rfl
  ·(apply Rs.tmp rfl;apply Rs.tmp rfl;exact Rs.nil)
  ·exact⟨[],a,O,au _,by rw[aj,aj];exact ha,rfl⟩
  rw[aj];exact uI
 have hda:=ha.dep hsay.1 oO;have hdb:=hb.dep hsay.1 oO;refine gg7 ?_;refine uX (qUj (most:=most) hE 24 oO (ha.bl oO) (hb.bl oO) oO oO oO hroom) O ?_;rintro _ _⟨M,id,d,rfl,hM,hbl,hlo,hhi,rfl⟩;simp only[uV,uW];refine gg7 ?_;exact uZ O (.tmp O (.tmp O .nil)) ⟨M,id,O,oO,hbl.be,O⟩
def nY (hE:Seat E){a:Nat}{t:List UInt8}(ha:Be (rls Es) a t):Ct E 186 [uPt s,.int .i64 (a:Nat)] [bR s most Es] (fun v Q=>v= .tuple #[.int .i64 (t.length:Nat),.nilIface]∧Q=[bR s most Es]):=by
 have hl:=ha.len;refine bO (hE.fn Tryz.func186) O O O (fun R=>?_);simp only[dX,uV,uW];refine gg10 ?_;refine uX (sI hE ha.le) O ?_;rintro _ _⟨rfl,rfl⟩;simp only[uV,uW];refine gg3 ?_;refine uU (cZ (hE.t O) (fun b6=>?_));refine gg23 ?_;exact uZ O (.tmp O (.tmp O .nil)) ⟨by rw[←hl];rfl,rfl⟩
def qFp (hE:Seat E){a:Nat}{t:List UInt8}(ha:Be (rls Es) a t):Ct E 137 [uPt s,.int .i64 (a:Nat)] [bR s most Es] (fun v Q=>v= .tuple #[.int .i64 (t.length:Nat),.nilIface]∧Q=[bR s most Es]):=by
 have ea:=ha.ev.ev;refine bO (hE.fn Tryz.func137) O O O (fun R=>?_);simp only[dX,uV,uW];refine gg10 ?_;refine uX (mH hE ha.le) O ?_;rintro _ _⟨rfl,rfl⟩;simp only[uV,uW];rw[ea];refine gg31 ?_;refine uX (nY hE ha) O ?_;rintro _ _⟨rfl,rfl⟩;simp only[uV,uW];refine gg7 ?_;exact uZ O (.tmp O (.tmp O .nil)) ⟨O,O⟩
def qPm (hE:Seat E):∀(m:Nat){Es:List Ent}{a n:Nat}{t:List UInt8},dep (rls Es) a≤m→Be (rls Es) a t→t.length≤400→n≤t.length→Es.length+73*m≤most→
  Ct E 140 [uPt s,.int .i64 (a:Nat),.int .i64 (n:Nat)] [bR s most Es] (BeP s most Es (t.take n) (73*m)):=by
 intro m;induction m using Nat.strongRecOn with
 |ind m ih=>
 intro Es a n t hd ha hl hn hroom;refine eU (p:=bR s most Es) uK (fun _ h=>dS h) (fun hsay=>?_);have hw:=hsay.1;refine bO (hE.fn Tryz.func140) O O O (fun R=>?_);simp only[dX,uV,uW];refine gg13 ?_;refine bE O (fun h1=>?_) (fun h1=>?_)
 ·obtain rfl:n=0:=by omega
  refine gg8 ?_;apply cB
  ·rfl
  ·(apply Rs.tmp rfl;apply Rs.tmp rfl;exact Rs.nil)
  ·exact⟨[],0,O,au _,Be.zero _,O⟩
  rw[aj];exact uI
 refine gg6 ?_;refine uX (nY hE ha) O ?_;rintro _ _⟨rfl,rfl⟩;simp only[uV,uW];refine gg25 ?_;refine bE O (fun h2=>?_) (fun h2=>?_)
 ·obtain rfl:n=t.length:=by omega
  refine gg9 ?_;apply cB
  ·rfl
  ·(apply Rs.tmp rfl;apply Rs.tmp rfl;exact Rs.nil)
  ·exact⟨[],a,O,au _,by rw[aj,qa];exact ha,rfl⟩
  rw[aj];exact uI
 obtain⟨i,l,r,tl,tr,rfl,hg,h0l,h0r,hbl,hbr,rfl,hdl,hdr⟩:=ha.split hw oO;obtain⟨en,hent,hr'⟩:=yB hg;have hla:(tl++tr).length=tl.length+tr.length:=aa;refine gg6 ?_;refine uX (kZ hE hent) O ?_;rintro _ _⟨rfl,rfl⟩;simp only[uV,uW];rw[hr'];refine gg3 ?_;refine uU (cZ (hE.t O) (fun b10=>?_));refine gg19 ?_;refine uX (nY (a:=l) hE hbl) O ?_;rintro _ _⟨rfl,rfl⟩;simp only[uV,uW];refine gg25 ?_;refine bE O (fun h3=>?_) (fun h3=>?_)
 ·refine gg6 ?_;refine uX (ih (m-1) oO (a:=l) (n:=n) oO hbl oO oO oO) O ?_;rintro _ _⟨M,id,rfl,hM,hbe,rfl⟩;simp only[uV,uW];refine gg8 ?_;exact uZ O (.tmp O (.tmp O .nil)) ⟨M,id,O,oO,by rw[ny oO];exact hbe,rfl⟩
 refine gg10 ?_;refine l_eq 63 (.int .i64 ((n-tl.length:Nat):Int)) O (bW oO) ?_;refine uX (ih (m-1) oO (a:=r) (n:=n-tl.length) oO hbr oO oO oO) O ?_;rintro _ _⟨M,id,rfl,hM,hbe,rfl⟩;simp only[uV,uW];refine gg23 ?_;have hj:(Es++M).length+73≤most:=by rw[aa];omega
 have hlj:tl.length+(tr.take (n-tl.length)).length≤400:=by rw[jv];omega
 refine uX (nW (most:=most) (Es:=Es++M) hE (hbl.more M) hbe hlj hj) O ?_;rintro _ _⟨M2,id2,rfl,hM2,hbe2,rfl⟩;simp only[uV,uW];rw[ah Es]at hbe2 ⊢;refine gg7 ?_;exact uZ O (.tmp O (.tmp O .nil)) ⟨M++M2,id2,O,by rw[aa];omega,by rw[List.take_append,bz oO];exact hbe2,rfl⟩
def qVc (hE:Seat E):∀(m:Nat){Es:List Ent}{a n:Nat}{t:List UInt8},dep (rls Es) a≤m→Be (rls Es) a t→t.length≤400→n≤t.length→Es.length+73*m≤most→
  Ct E 141 [uPt s,.int .i64 (a:Nat),.int .i64 (n:Nat)] [bR s most Es] (BeP s most Es (t.drop n) (73*m)):=by
 intro m;induction m using Nat.strongRecOn with
 |ind m ih=>
 intro Es a n t hd ha hl hn hroom;refine eU (p:=bR s most Es) uK (fun _ h=>dS h) (fun hsay=>?_);have hw:=hsay.1;refine bO (hE.fn Tryz.func141) O O O (fun R=>?_);simp only[dX,uV,uW];refine gg13 ?_;refine bE O (fun h1=>?_) (fun h1=>?_)
 ·obtain rfl:n=0:=by omega
  refine gg9 ?_;apply cB
  ·rfl
  ·(apply Rs.tmp rfl;apply Rs.tmp rfl;exact Rs.nil)
  ·exact⟨[],a,O,au _,by rw[aj];exact ha,rfl⟩
  rw[aj];exact uI
 refine gg6 ?_;refine uX (nY hE ha) O ?_;rintro _ _⟨rfl,rfl⟩;simp only[uV,uW];refine gg22 ?_;refine bE O (fun h2=>?_) (fun h2=>?_)
 ·obtain rfl:n=t.length:=by omega
  refine gg9 ?_;apply cB
  ·rfl
  ·(apply Rs.tmp rfl;apply Rs.tmp rfl;exact Rs.nil)
  ·exact⟨[],0,O,au _,by rw[wo];exact Be.zero _,rfl⟩
  rw[aj];exact uI
 obtain⟨i,l,r,tl,tr,rfl,hg,h0l,h0r,hbl,hbr,rfl,hdl,hdr⟩:=ha.split hw oO;obtain⟨en,hent,hr'⟩:=yB hg;have hla:(tl++tr).length=tl.length+tr.length:=aa;refine gg6 ?_;refine uX (kZ hE hent) O ?_;rintro _ _⟨rfl,rfl⟩;simp only[uV,uW];rw[hr'];refine gg3 ?_;refine uU (cZ (hE.t O) (fun b10=>?_));refine gg19 ?_;refine uX (nY (a:=l) hE hbl) O ?_;rintro _ _⟨rfl,rfl⟩;simp only[uV,uW];refine gg25 ?_;refine bE O (fun h3=>?_) (fun h3=>?_)
 ·refine gg8 ?_;refine l_eq 57 (.int .i64 ((n-tl.length:Nat):Int)) O (bW oO) ?_;refine uX (ih (m-1) oO (a:=r) (n:=n-tl.length) oO hbr oO oO oO) O ?_;rintro _ _⟨M,id,rfl,hM,hbe,rfl⟩;simp only[uV,uW];refine gg8 ?_;exact uZ O (.tmp O (.tmp O .nil)) ⟨M,id,O,oO,by rw[List.drop_append,jy oO,jq];exact hbe,rfl⟩
 refine gg8 ?_;refine uX (ih (m-1) oO (a:=l) (n:=n) oO hbl oO oO oO) O ?_;rintro _ _⟨M,id,rfl,hM,hbe,rfl⟩;simp only[uV,uW];refine gg23 ?_;have hj:(Es++M).length+73≤most:=by rw[aa];omega
 have hlj:(tl.drop n).length+tr.length≤400:=by rw[lw];omega
 refine uX (nW (most:=most) (Es:=Es++M) hE hbe (hbr.more M) hlj hj) O ?_;rintro _ _⟨M2,id2,rfl,hM2,hbe2,rfl⟩;simp only[uV,uW];rw[ah Es]at hbe2 ⊢;refine gg7 ?_;exact uZ O (.tmp O (.tmp O .nil)) ⟨M++M2,id2,O,by rw[aa];omega,by rw[oP oO];exact hbe2,rfl⟩
end
section
variable {E:Env}{Es:List Ent}{s most:Nat}
structure SeG where
 id:Nat
 fr:Nat
 t:List UInt8
def sec_left {tl tr:List UInt8}{a n:Nat}(h:a+n≤tl.length):((tl++tr).drop a).take n=(tl.drop a).take n:=by
 rw[oP oO,ny (by rw[lw];omega)]
def qYl {tl tr:List UInt8}{a n:Nat}(h:tl.length≤a):((tl++tr).drop a).take n=(tr.drop (a-tl.length)).take n:=by
 rw[List.drop_append,jy h,jq]
def sec_mid {tl tr:List UInt8}{a n:Nat}(h:a<tl.length)(h2:tl.length<a+n):((tl++tr).drop a).take n=tl.drop a++tr.take (a+n-tl.length):=by
 rw[oP oO,List.take_append,bz (by rw[lw];omega),lw];congr 2;omega
def qSi (hE:Seat E){a fr n:Nat}{t:List UInt8}(ha:Be (rls Es) a t)(hl:t.length≤400)(hn:fr+n≤t.length)(hroom:Es.length+1825≤most):
  Ct E 139 [uPt s,.int .i64 (a:Nat),.int .i64 (fr:Nat),.int .i64 (n:Nat)] [bR s most Es] (BeP s most Es ((t.drop fr).take n) 1825):=by
 refine eU (p:=bR s most Es) uK (fun _ h=>dS h) (fun hsay=>?_);have hw:=hsay.1;refine bO (hE.fn Tryz.func139) O O O (fun R=>?_);simp only[dX,uV,uW];refine gg13 ?_;refine bE O (fun h1=>?_) (fun h1=>?_)
 ·obtain rfl:n=0:=by omega
  refine gg8 ?_;apply cB
  ·rfl
  ·(apply Rs.tmp rfl;apply Rs.tmp rfl;exact Rs.nil)
  ·exact⟨[],0,O,au _,by rw[nk];exact Be.zero _,rfl⟩
  rw[aj];exact uI
 refine gg3 ?_;refine eQ (fun q:SeG=>[(0,uPt s),(1,.int .i64 (q.id:Nat)),(2,.int .i64 (q.fr:Nat)),(3,.int .i64 (n:Nat))]) (fun q=>[bR s most Es,R]) (fun q=>dep (rls Es) q.id) (fun q=>Be (rls Es) q.id q.t∧q.t.length≤400∧q.fr+n≤q.t.length∧(q.t.drop q.fr).take n=(t.drop fr).take n) ⟨a,fr,t⟩ ⟨ha,hl,hn,O⟩ ⟨O,O,O,O,trivial⟩ uI ?_;rintro⟨id,f,u⟩⟨hu,hul,hun,hgoal⟩;simp only at hu hul hun hgoal ⊢;rw[←hgoal];refine gg5 ?_;refine uX (nY hE hu) O ?_;rintro _ _⟨rfl,rfl⟩;simp only[uV,uW];refine gg25 ?_;refine bE O (fun h2=>?_) (fun h2=>?_)
 ·obtain rfl:n=u.length:=by omega
  obtain rfl:f=0:=by omega
  refine gg12 ?_;apply cB
  ·rfl
  ·(apply Rs.tmp rfl;apply Rs.tmp rfl;exact Rs.nil)
  ·exact⟨[],id,O,au _,by rw[aj,oU,qa];exact hu,rfl⟩
  rw[aj];exact uI
 obtain⟨i,l,r,tl,tr,rfl,hg,h0l,h0r,hbl,hbr,rfl,hdl,hdr⟩:=hu.split hw oO;obtain⟨en,hent,hr'⟩:=yB hg;have hla:(tl++tr).length=tl.length+tr.length:=aa;refine gg6 ?_;refine uX (kZ hE hent) O ?_;rintro _ _⟨rfl,rfl⟩;simp only[uV,uW];rw[hr'];refine gg3 ?_;refine uU (cZ (hE.t O) (fun b12=>?_));refine gg19 ?_;refine uX (nY (a:=l) hE hbl) O ?_;rintro _ _⟨rfl,rfl⟩;simp only[uV,uW];refine gg28 ?_;refine bE O (fun h3=>?_) (fun h3=>?_)
 ·refine gg7 ?_;refine bS (ι:=SeG) (j:=⟨l,f,tl⟩) ⟨hbl,by simp only;omega,by simp only;omega,by simp only;rw[←sec_left (tr:=tr) oO]⟩ (by simp only;omega) ⟨rfl,rfl,rfl,rfl,trivial⟩ uI
 refine gg8 ?_;refine bE O (fun h4=>?_) (fun h4=>?_)
 ·refine gg11 ?_;refine bS (ι:=SeG) (j:=⟨r,f-tl.length,tr⟩) ⟨hbr,by simp only;omega,by simp only;omega,by simp only;rw[←qYl (tr:=tr) oO]⟩ (by simp only;omega) ⟨rfl,rfl,bf some (bW (by simp only;omega)),rfl,trivial⟩ uI
 have hdr17:=hbr.dep hw oO;have hdl17:=hbl.dep hw oO;refine gg6 ?_;refine uX (qVc (most:=most) hE 12 (a:=l) (n:=f) hdl17 hbl oO oO oO) O ?_;rintro _ _⟨M,id1,rfl,hM,hb1,rfl⟩;simp only[uV,uW];refine gg27 ?_;refine l_eq 70 (.int .i64 ((f+n-tl.length:Nat):Int)) O (bW oO) ?_;have hr1:(Es++M).length+73*12≤most:=by rw[aa];omega
 have hbr2:=hbr.more M;have hdr2:dep (rls (Es++M)) r≤12:=by rw[dA,vZ _ hbr.ev.le];exact hdr17
 refine uX (qPm (most:=most) hE 12 (Es:=Es++M) (a:=r) (n:=f+n-tl.length) hdr2 hbr2 oO oO hr1) O ?_;rintro _ _⟨M2,id2,rfl,hM2,hb2,rfl⟩;simp only[uV,uW];have hr2:(Es++M++M2).length+73≤most:=by rw[aa,aa];omega
 have hl2:(tl.drop f).length+(tr.take (f+n-tl.length)).length≤400:=by rw[lw,jv];omega
 refine gg22 ?_;refine uX (nW (most:=most) (Es:=Es++M++M2) hE (hb1.more M2) hb2 hl2 hr2) O ?_;rintro _ _⟨M3,id3,rfl,hM3,hb3,rfl⟩;simp only[uV,uW];have ea:Es++M++M2++M3=Es++(M++(M2++M3)):=by simp only[ah]
 rw[ea]at hb3 ⊢;refine gg11 ?_;exact uZ O (.tmp O (.tmp O .nil)) ⟨M++(M2++M3),id3,O,by simp only[aa];omega,by rw[sec_mid oO oO];exact hb3,rfl⟩
def qRw (hE:Seat E){a fr n:Nat}{t:List UInt8}(ha:Be (rls Es) a t)(hl:t.length≤400)(hn:fr+n≤t.length)(hroom:Es.length+1825≤most):
  Ct E 110 [uPt s,.int .i64 (a:Nat),.int .i64 (fr:Nat),.int .i64 (n:Nat)] [bR s most Es] (BeP s most Es ((t.drop fr).take n) 1825):=by
 refine bO (hE.fn Tryz.func110) O O O (fun R=>?_);simp only[dX,uV,uW];refine gg10 ?_;refine uX (qFp hE ha) O ?_;rintro _ _⟨rfl,rfl⟩;simp only[uV,uW];refine gg23 ?_;refine uX (ct_lnRng (f:=fr) (n:=n) (l:=t.length) hE oO hn) O ?_;rintro _ _⟨rfl,rfl⟩;simp only[uV,uW];refine gg18 ?_;refine uX (qSi (most:=most) hE ha hl hn hroom) O ?_;rintro _ _⟨M,id,rfl,hM,hb,rfl⟩;simp only[uV,uW];refine gg7 ?_;exact uZ O (.tmp O (.tmp O .nil)) ⟨M,id,O,hM,hb,O⟩
def ct_Split (hE:Seat E){a n:Nat}{t:List UInt8}(ha:Be (rls Es) a t)(hl:t.length≤400)(hn:n≤t.length)(hroom:Es.length+1752≤most):
  Ct E 111 [uPt s,.int .i64 (a:Nat),.int .i64 (n:Nat)] [bR s most Es]
   (fun v Q=>∃(M:List Ent)(x y:Nat),v= .tuple #[.int .i64 (x:Nat),.int .i64 (y:Nat),.nilIface]∧M.length≤1752∧Be (rls (Es++M)) x (t.take n)∧Be (rls (Es++M)) y (t.drop n)∧Q=[bR s most (Es++M)]):=by
 refine eU (p:=bR s most Es) uK (fun _ h=>dS h) (fun hsay=>?_);have hw:=hsay.1;have hd:=ha.dep hw hl;refine bO (hE.fn Tryz.func111) O O O (fun R=>?_);simp only[dX,uV,uW];refine gg11 ?_;refine uX (qFp hE ha) O ?_;rintro _ _⟨rfl,rfl⟩;simp only[uV,uW];refine gg23 ?_;refine eF 24 O (fun g1=>?_) (fun g1=>?_)
 ·exfalso;omega
 refine gg9 ?_;refine bE O (fun g2=>?_) (fun g2=>?_)
 ·exfalso;omega
 refine gg7 ?_;refine uX (qPm (most:=most) hE 12 (a:=a) (n:=n) hd ha hl hn oO) O ?_;rintro _ _⟨M,id1,rfl,hM,hb1,rfl⟩;simp only[uV,uW];have hr1:(Es++M).length+73*12≤most:=by rw[aa];omega
 have hd2:dep (rls (Es++M)) a≤12:=by rw[dA,vZ _ ha.ev.le];exact hd
 refine gg22 ?_;refine uX (qVc (most:=most) hE 12 (Es:=Es++M) (a:=a) (n:=n) hd2 (ha.more M) hl hn hr1) O ?_;rintro _ _⟨M2,id2,rfl,hM2,hb2,rfl⟩;simp only[uV,uW];have hb1':=hb1.more M2;rw[ah Es]at hb2 hb1' ⊢;refine gg27 ?_;exact uZ O (.tmp O (.tmp O (.tmp O .nil))) ⟨M++M2,id1,id2,O,by rw[aa];omega,hb1',hb2,rfl⟩
end
