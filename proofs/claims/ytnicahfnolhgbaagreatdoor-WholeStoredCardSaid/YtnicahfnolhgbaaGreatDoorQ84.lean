import Derived.Test.YtnicahfnolhgbaaGreatDoorQ83
set_option linter.all false
set_option maxHeartbeats 1000000
namespace Go.Proofs.YtnicahfnolhgbaaGreatDoor
open Go Go.RowKit Sl Eg
set_option maxRecDepth 10000
section
variable {E:Bp}{Es:List Bj}{s most:Nat}
def xY (hE:BP E){i}(h:i<=Es.length):Ct E 47 [uPt s,BK i] [bR s most Es] (fun v Q=>v= .bool true/\Q=[bR s most Es]):=
 jH hE fun w _ _ hs=>(pU w (i:Int) hs).mono fun e w'⟨h1,h2⟩=>⟨by
  rw[h1,oI (show(0:Int)<=(i:Int) by omega),oI (show(i:Int)<=(Es.length:Int) by omega)];rfl,Zw h2⟩
def Zq {h}(hs:bR s most Es h):Deep Es:=by
 obtain⟨w,lv,bm,h,_⟩:=hs;exact h.deeps
def qWs (hE:BP E){i x}(hi:Es[i]?=some x):Ct E 48 [uPt s,BL ((i+1:Nat):Int)] [bR s most Es] (fun v Q=>v= .agg #[BK (Rl.kind (x.r)),.int .u8 (Rl.byte (x.r):Nat),BK (Rl.left (x.r)),BK (Rl.right (x.r)),BK (Rl.times (x.r)),BK (List.length (x.t)),BK (gQ (x.t)),BK (kQ (x.t)),BK (kR (x.t)),.int .u64 (CS (x.t):Nat),.int .u64 (fI (x.t):Nat),BL x.d,.bool x.e]/\Q=[bR s most Es]):=
 jH hE fun w _ _ h=>zH w i x h hi
def Jl (hE:BP E):Ct E 48 [uPt s,BL 0] [bR s most Es] (fun v Q=>v= .agg #[BL 0,.int .u8 0,BL 0,BL 0,BL 0,BL 0,BL 0,BL 0,BL 0,.int .u64 0,.int .u64 1,BL 0,.bool true]/\Q=[bR s most Es]):=
 jH hE fun w _ _ h=>qNy w _
def qXo (h:Deep Es){i x}(hi:Es[i]?=some x):x.d=(dep (BO Es) (i+1):Int)/\x.e=Fs (BO Es) (i+1):=h i x hi
def QC (hE:BP E):∀gs g,E.P.underlying 132=some (.struct gs)->gs[2]?=some g->g.type=3:=fun gs g h1 h2=>by
 rw[hE.P,show Tryz.prog.underlying 132=some (.struct (Tryz.prog.fieldsOf 132))from by kernel_rfl]at h1;cases h1
 have:(Tryz.prog.fieldsOf 132)[2]?.map (·.type)=some 3:=by kernel_rfl
 rw[h2]at this;simpa using this
def QD (hE:BP E):∀gs g,E.P.underlying 132=some (.struct gs)->gs[3]?=some g->g.type=4:=fun gs g h1 h2=>by
 rw[hE.P,show Tryz.prog.underlying 132=some (.struct (Tryz.prog.fieldsOf 132))from by kernel_rfl]at h1;cases h1
 have:(Tryz.prog.fieldsOf 132)[3]?.map (·.type)=some 4:=by kernel_rfl
 rw[h2]at this;simpa using this
def rD (hE:BP E){x:Nat}(hx:x<=Es.length):Ct E 134 [uPt s,.int .i64 (x:Nat)] [bR s most Es] (fun v Q=>v= .tuple #[.int .i64 (dep (BO Es) x:Nat),.nilIface]/\Q=[bR s most Es]):=by
 refine eF (p:=bR s most Es) uK (fun _ h=>Zq h) (fun hA=>?_);refine bO (hE.fn Tryz.func134) O O O (fun R=>?_);simp only[dS,uV,uW];refine DW ?_;refine BH (xY (i:=x) hE hx) O ?_;refine Bc ?_;rcases x with _| i
 ·refine BH (Jl hE) O ?_;refine uB (Vk O (hE.t O) O (QC hE) (hE.t O) O O) ?_;refine Bw ?_;exact uZ O (.tmp O (.tmp O .nil)) ⟨O,O⟩
 obtain⟨en,hB⟩:∃e,Es[i]?=some e:=⟨_,ag hx⟩;obtain⟨e1,e2⟩:=qXo hA hB;rw[<-e1];refine BH (qWs hE hB) O ?_;refine uB (Vk O (hE.t O) O (QC hE) (hE.t O) O O) ?_;refine Bw ?_;exact uZ O (.tmp O (.tmp O .nil)) ⟨O,O⟩
def YH (hE:BP E){x}(hx:x<=Es.length):Ct E 92 [uPt s,BK x] [bR s most Es] (fun v Q=>v= .bool (Fs (BO Es) x)/\Q=[bR s most Es]):=by
 refine eF (p:=bR s most Es) uK (fun _ h=>Zq h) (fun hA=>?_);refine bO (hE.fn Tryz.func92) O O O (fun R=>?_);simp only[dS,uV,uW];refine CK ?_;refine BH (xY (i:=x) hE hx) O ?_;refine Bi ?_;rcases x with _| i
 ·refine BH (Jl hE) O ?_;refine Bv ?_;refine uB (Vk O (hE.t O) O (QD hE) (hE.t O) O O) ?_;refine Bw ?_;exact uZ O (.tmp O .nil) ⟨O,O⟩
 obtain⟨en,hB⟩:∃e,Es[i]?=some e:=⟨_,ag hx⟩;obtain⟨e1,e2⟩:=qXo hA hB;rw[<-e2];refine BH (qWs hE hB) O ?_;refine Bv ?_;refine uB (Vk O (hE.t O) O (QD hE) (hE.t O) O O) ?_;refine Bw ?_;exact uZ O (.tmp O .nil) ⟨O,O⟩
def yZ {Es:List Bj}{i:Nat}{r:Rl}(h:(BO Es)[i]?=some r):∃x,Es[i]?=some x/\x.r=r:=by
 unfold BO at h;rw[bn]at h;cases hx:Es[i]? with
 |none=>rw[hx]at h;cases h
 |some x=>rw[hx]at h;exact⟨x,rfl,by simpa using h⟩
structure Bl (L:List Rl)(id:Nat)(t:List UInt8)(d:Nat):Prop where
 pos:1<=id
 ev:Ev L id
 tx:txt L id=t
 dp:dep L id=d
def Bl.ext {L id d t}(h:Bl L id t d)(M:List Rl):Bl (L++M) id t d:=⟨h.pos,h.ev.ext M,by rw[jX M h.ev.le];exact h.tx,by rw[wU M h.ev.le];exact h.dp⟩
def Bl.more {id d t}(h:Bl (BO Es) id t d)(M:List Bj):Bl (BO (Es++M)) id t d:=by rw[dB];exact h.ext _
def Bl.le {id d t}(h:Bl (BO Es) id t d):id<=Es.length:=by have:=h.ev.le;rwa [bQ]at this
def Bl.pair {L}(hw:Wf L){i a b da db ta tb'}(hg:L[i]?=some (.pair a b))(ha:Bl L a ta da)(hb:Bl L b tb' db)(h1:da<=db+1)(h2:db<=da+1):Bl L (i+1) (ta++tb') (1+max da db):=by
 obtain⟨e1,e2,e3⟩:=Ev.pair hw hg ha.ev.ev hb.ev.ev (by rw[ha.dp,hb.dp];exact h1) (by rw[ha.dp,hb.dp];exact h2);exact⟨oO,e1,by rw[e3,ha.tx,hb.tx],by rw[e2,ha.dp,hb.dp]⟩
def Bl.split {L}(hw:Wf L){a d t}(h:Bl L a t d)(hd:1<=d):∃i l r tl tr dl dr,a=i+1/\L[i]?=some (.pair l r)/\Bl L l tl dl/\Bl L r tr dr/\t=tl++tr/\d=1+max dl dr/\dl<=dr+1/\dr<=dl+1:=by
 obtain⟨i,rfl⟩:∃i,a=i+1:=⟨a-1,by have:=h.pos;omega⟩;rcases h.ev.rule hw with⟨b,hg,h0⟩|⟨l,r,hg,h1,h2,h3,h4,el,er,hA,hB,hC,ht⟩
 ·have:=h.dp;omega
 exact⟨i,l,r,_,_,_,_,O,hg,⟨h1,el,O,O⟩,⟨h3,er,O,O⟩,by rw[<-h.tx,ht],by rw[<-h.dp,hA],hB,hC⟩
def JD (s most:Nat)(Es:List Bj)(t:List UInt8)(lo hi n:Nat)(v:Value)(Q:List HP):Prop:=
 ∃(M:List Bj)(id d:Nat),v= .tuple #[.int .i64 (id:Nat),.nilIface]/\M.length<=n/\Bl (BO (Es++M)) id t d/\lo<=d/\d<=hi/\Q=[bR s most (Es++M)]
def pY (hE:BP E){a b da db ta tb'}(ha:Bl (BO Es) a ta da)(hb:Bl (BO Es) b tb' db)(h1:da<=db+1)(h2:db<=da+1)(hB:ta.length+tb'.length<=dC)(hA:Es.length<most):
  Ct E 91 [uPt s,BK a,BK b] [bR s most Es] (JD s most Es (ta++tb') (1+max da db) (1+max da db) 1):=fun R w hs=>by
 obtain⟨lv,bm,hS,hF⟩:=zD hs;rw[hE.P];have la:=ha.le;have lb:=hb.le;obtain⟨i,rfl⟩:∃i,a=i+1:=⟨a-1,by have:=ha.pos;omega⟩;obtain⟨j,rfl⟩:∃j,b=j+1:=⟨b-1,by have:=hb.pos;omega⟩;obtain⟨xl,hC⟩:∃x,Es[i]?=some x:=⟨_,ag la⟩;obtain⟨xr,hD⟩:∃x,Es[j]?=some x:=⟨_,ag lb⟩;have t1:=hS.texts _ _ hC;have t2:=hS.texts _ _ hD;rw[ha.tx]at t1;rw[hb.tx]at t2;refine(Wj w i j xl xr hS hC hD (by rw[t1,t2];exact hB) hA).mono fun e w'⟨lv',M,id,e1,e2,e3,e4,e5,e6,e7,_⟩=>⟨_,_,e1,⟨M,id,_,O,e3,?_,ai _,ai _,O⟩,qH hF e2 e6 e7⟩
 obtain⟨n,rfl⟩:∃n,id=n+1:=⟨id-1,oO⟩;exact Bl.pair e2.wf e5 (ha.more M) (hb.more M) h1 h2
end
section
variable {E:Bp}{Es:List Bj}{s most:Nat}
def mE (hE:BP E){x}(hx:x<=Es.length):Ct E 95 [uPt s,BK x] [bR s most Es] (fun v Q=>v= .tuple #[.bool (Fs (BO Es) x),.nilIface]/\Q=[bR s most Es]):=by
 refine bO (hE.fn Tryz.func95) O O O (fun R=>?_);simp only[dS,uV,uW];refine Bo ?_;refine BH (rD hE hx) O ?_;refine FH ?_;refine BH (YH hE hx) O ?_;refine Bw ?_;exact uZ O (.tmp O (.tmp O .nil)) ⟨O,O⟩
def nQ (hE:BP E){i l r dl dr:Nat}{tl tr:List UInt8}(hg:(BO Es)[i]?=some (.pair l r))(hl:Bl (BO Es) l tl dl)(hr:Bl (BO Es) r tr dr):
  Ct E 135 [uPt s,.int .i64 ((i+1:Nat):Int)] [bR s most Es] (fun v Q=>v= .tuple #[.int .i64 (l:Nat),.int .i64 (r:Nat),.int .i64 (dl:Nat),.int .i64 (dr:Nat),.nilIface]/\Q=[bR s most Es]):=by
 obtain⟨en,hA,hB⟩:=yZ hg;refine bO (hE.fn Tryz.func135) O O O (fun R=>?_);simp only[dS,uV,uW];refine CP ?_;refine BH (kF hE hA) O ?_;rw[hB];refine CG ?_;refine uU (dA (hE.t O) (fun b9=>?_));refine FH ?_;refine BH (rD (x:=l) hE hl.le) O ?_;rw[hl.dp];refine Df ?_;refine BH (rD (x:=r) hE hr.le) O ?_;rw[hr.dp];refine Kh ?_;exact uZ O (.tmp O (.tmp O (.tmp O (.tmp O (.tmp O .nil))))) ⟨O,O⟩
def qQs (hE:BP E){a b c da db dc ta tb' tc}(ha:Bl (BO Es) a ta da)(hb:Bl (BO Es) b tb' db)(hc:Bl (BO Es) c tc dc)(h1:db<=dc+1)(h2:dc<=db+1)(h3:da<=1+max db dc+1)(h4:1+max db dc<=da+1)
  (hF:ta.length+(tb'.length+tc.length)<=dC) (hD:Es.length+2<=most):
  Ct E 155 [uPt s,BK a,BK b,BK c] [bR s most Es] (JD s most Es (ta++(tb'++tc)) (1+max da (1+max db dc)) (1+max da (1+max db dc)) 2):=by
 have hG:Es.length<most:=oO;refine bO (hE.fn Tryz.func155) O O O (fun R=>?_);simp only[dS,uV,uW];refine Bo ?_;refine uX (pY (most:=most) hE hb hc h1 h2 oO hG) O ?_;rintro _ _⟨M,id,d,rfl,hM,hH,hK,hL,rfl⟩;simp only[uV,uW];obtain rfl:d=1+max db dc:=by omega
 have hI:(Es++M).length<most:=by rw[aa];omega
 have hJ:ta.length+(tb'++tc).length<=dC:=by rw[aa];omega
 refine Df ?_;refine uX (pY (most:=most) (Es:=Es++M) hE (ha.more M) hH h3 h4 hJ hI) O ?_;rintro _ _⟨M2,id2,d2,rfl,hN,hA,hB,hC,rfl⟩;simp only[uV,uW];rw[ah Es]at hA ⊢;refine Bi ?_;exact uZ O (.tmp O (.tmp O .nil)) ⟨M++M2,id2,d2,O,by rw[aa];omega,hA,hB,hC,rfl⟩
def qLi (hE:BP E){a b c d da db dc dd ta tb' tc td}(ha:Bl (BO Es) a ta da)(hb:Bl (BO Es) b tb' db)(hc:Bl (BO Es) c tc dc)(hd:Bl (BO Es) d td dd)(h1:da<=db+1)(h2:db<=da+1)(h3:dc<=dd+1)(h4:dd<=dc+1)
  (h5:max da db<=max dc dd+1) (h6:max dc dd<=max da db+1) (hC:(ta.length+tb'.length)+(tc.length+td.length)<=dC) (hB:Es.length+3<=most):
  Ct E 156 [uPt s,BK a,BK b,BK c,BK d] [bR s most Es] (JD s most Es ((ta++tb')++(tc++td)) (2+max (max da db) (max dc dd)) (2+max (max da db) (max dc dd)) 3):=by
 have hD:Es.length<most:=oO;refine bO (hE.fn Tryz.func156) O O O (fun R=>?_);simp only[dS,uV,uW];refine Bo ?_;refine uX (pY (most:=most) hE ha hb h1 h2 oO hD) O ?_;rintro _ _⟨M,id,e,rfl,hM,hF,hK,hL,rfl⟩;simp only[uV,uW];obtain rfl:e=1+max da db:=by omega
 have hG:(Es++M).length+2<=most:=by rw[aa];omega
 have hH:(ta++tb').length+(tc.length+td.length)<=dC:=by rw[aa];omega
 refine DL ?_;refine uX (qQs (most:=most) (Es:=Es++M) hE hF (hc.more M) (hd.more M) h3 h4 oO oO hH hG) O ?_;rintro _ _⟨M2,id2,d2,rfl,hN,hA,hI,hJ,rfl⟩;simp only[uV,uW];rw[ah Es]at hA ⊢;refine Bi ?_;exact uZ O (.tmp O (.tmp O .nil)) ⟨M++M2,id2,d2,O,by rw[aa];omega,hA,oO,oO,rfl⟩
def Zz (hE:BP E){a b da db ta tb'}(ha:Bl (BO Es) a ta da)(hb:Bl (BO Es) b tb' db)(h1:da<=db+2)(h2:db<=da+2)(hF:ta.length+tb'.length<=dC)(hY:da<=1000)(hZ:db<=1000)(hD:Es.length+3<=most):
  Ct E 136 [uPt s,BK a,BK b] [bR s most Es] (JD s most Es (ta++tb') (if da<=db+1/\db<=da+1 then 1+max da db else max da db) (1+max da db) 3):=by
 refine eF (p:=bR s most Es) uK (fun _ h=>dR h) (fun hK=>?_);have hw:=hK.1;have hN:Es.length<most:=oO;have he:dC=1152921504606846976:=rfl;refine bO (hE.fn Tryz.func136) O O O (fun R=>?_);simp only[dS,uV,uW];refine Bc ?_;refine BH (rD (x:=a) hE ha.le) O ?_;rw[ha.dp];refine DW ?_;refine BH (rD (x:=b) hE hb.le) O ?_;rw[hb.dp];refine RB ?_;refine bE O (fun hc=>?_) (fun hc=>?_)
 ·have hG:¬(da<=db+1/\db<=da+1):=oO;rw[if_neg hG];obtain⟨i,l,r,tl,tr,dl,dr,rfl,hg,hl,hr,rfl,hd,hO,hP⟩:=ha.split hw oO;have hA:tl.length+(tr.length+tb'.length)<=dC:=by rw[aa]at hF;omega
  refine Bz ?_;refine BH (nQ hE hg hl hr) O ?_;refine GN ?_;refine bE O (fun hq=>?_) (fun hq=>?_)
  ·refine CB ?_;refine uX (qQs (most:=most) hE hl hr hb oO oO oO oO hA oO) O ?_;rintro _ _⟨M,id,e,rfl,hM,hB,hI,hJ,rfl⟩;simp only[uV,uW];refine Bu ?_;exact uZ O (.tmp O (.tmp O .nil)) ⟨M,id,e,O,oO,by rw[ah];exact hB,oO,oO,rfl⟩
  obtain⟨j,x,y,tx,ty,dx,dy,rfl,hL,hx,hy,rfl,hQ,hR,hS⟩:=hr.split hw oO;have hC:(tl.length+tx.length)+(ty.length+tb'.length)<=dC:=by rw[aa]at hA;omega
  refine CB ?_;refine BH (nQ hE hL hx hy) O ?_;refine Hy ?_;refine uX (qLi (most:=most) hE hl hx hy hb oO oO oO oO oO oO hC hD) O ?_;rintro _ _⟨M,id,e,rfl,hM,hB,hI,hJ,rfl⟩;simp only[uV,uW];refine Br ?_;exact uZ O (.tmp O (.tmp O .nil)) ⟨M,id,e,O,oO,by simp only[ah]at hB ⊢;exact hB,oO,oO,rfl⟩
 refine Bo ?_;refine bE O (fun hT=>?_) (fun hT=>?_)
 ·have hG:¬(da<=db+1/\db<=da+1):=oO;rw[if_neg hG];obtain⟨i,l,r,tl,tr,dl,dr,rfl,hg,hl,hr,rfl,hd,hO,hP⟩:=hb.split hw oO;have hA:(ta.length+tl.length)+tr.length<=dC:=by rw[aa]at hF;omega
  refine Bz ?_;refine BH (nQ hE hg hl hr) O ?_;refine GN ?_;refine bE O (fun hq=>?_) (fun hq=>?_)
  ·obtain⟨j,x,y,tx,ty,dx,dy,rfl,hL,hx,hy,rfl,hQ,hR,hS⟩:=hl.split hw oO;have hC:(ta.length+tx.length)+(ty.length+tr.length)<=dC:=(by rw[aa]at hA;omega);refine Bz ?_;refine BH (nQ hE hL hx hy) O ?_;refine Hy ?_;refine uX (qLi (most:=most) hE ha hx hy hr oO oO oO oO oO oO hC hD) O ?_;rintro _ _⟨M,id,e,rfl,hM,hB,hI,hJ,rfl⟩;simp only[uV,uW];refine Bu ?_;exact uZ O (.tmp O (.tmp O .nil)) ⟨M,id,e,O,oO,by simp only[ah]at hB ⊢;exact hB,oO,oO,rfl⟩
  refine Br ?_;refine uX (pY (most:=most) hE ha hl oO oO oO hN) O ?_;rintro _ _⟨M,id,e,rfl,hM,hB,hI,hJ,rfl⟩;simp only[uV,uW];have hU:(Es++M).length<most:=by rw[aa];omega
  have hV:(ta++tl).length+tr.length<=dC:=by rw[aa];exact hA
  refine DW ?_;refine uX (pY (most:=most) (Es:=Es++M) hE hB (hr.more M) oO oO hV hU) O ?_;rintro _ _⟨M2,id2,e2,rfl,hf,hH,hW,hX,rfl⟩;simp only[uV,uW];rw[ah Es]at hH ⊢;refine Br ?_;exact uZ O (.tmp O (.tmp O .nil)) ⟨M++M2,id2,e2,O,by rw[aa];omega,by rw[<-ah ta];exact hH,oO,oO,rfl⟩
 have hG:da<=db+1/\db<=da+1:=oO;rw[if_pos hG];refine Bi ?_;refine uX (pY (most:=most) hE ha hb hG.1 hG.2 hF hN) O ?_;rintro _ _⟨M,id,e,rfl,hM,hB,hI,hJ,rfl⟩;simp only[uV,uW];refine Bi ?_;exact uZ O (.tmp O (.tmp O .nil)) ⟨M,id,e,O,oO,hB,oO,oO,O⟩
def qWd (hE:BP E):∀(n:Nat){Es:List Bj}{a b da db:Nat}{ta tb':List UInt8},da+db<=n->Bl (BO Es) a ta da->Bl (BO Es) b tb' db->ta.length+tb'.length<=dC->da<=500->db<=500->Es.length+(3*n+1)<=most->
  Ct E 94 [uPt s,BK a,BK b] [bR s most Es] (JD s most Es (ta++tb') (max da db) (1+max da db) (3*n+1)):=by
 intro n;induction n using Nat.strongRecOn with
 |ind n ih=>
 intro Es a b da db ta tb' hn ha hb hA hO hP hK;refine eF (p:=bR s most Es) uK (fun _ h=>dR h) (fun hG=>?_);have hw:=hG.1;have hU:dC=1152921504606846976:=rfl;refine bO (hE.fn Tryz.func94) O O O (fun R=>?_);simp only[dS,uV,uW];refine Bc ?_;refine BH (rD (x:=a) hE ha.le) O ?_;rw[ha.dp];refine DW ?_;refine BH (rD (x:=b) hE hb.le) O ?_;rw[hb.dp];refine Nz ?_;refine bE O (fun hc=>?_) (fun hc=>?_)
 ·obtain⟨i,l,r,tl,tr,dl,dr,rfl,hg,hl,hr,rfl,hd,hQ,hR⟩:=ha.split hw oO;have hB:tr.length+tb'.length<=dC:=by rw[aa]at hA;omega
  refine Bz ?_;refine BH (nQ hE hg hl hr) O ?_;refine Hw ?_;refine uX (ih (n-1) oO (Es:=Es) oO hr hb hB oO hP oO) O ?_;rintro _ _⟨M,id,e,rfl,hM,hF,hL,hN,rfl⟩;simp only[uV,uW];have hH:(Es++M).length+3<=most:=by rw[aa];omega
  have hI:tl.length+(tr++tb').length<=dC:=by rw[aa]at hA ⊢;omega
  refine DW ?_;refine uX (Zz (most:=most) (Es:=Es++M) hE (hl.more M) hF oO oO hI oO oO hH) O ?_;rintro _ _⟨M2,id2,e2,rfl,hS,hC,hD,hJ,rfl⟩;simp only[uV,uW];rw[ah Es]at hC ⊢;refine Bu ?_;apply cK
  ·rfl
  ·(apply Rs.tmp rfl;apply Rs.tmp rfl;exact Rs.nil)
  ·refine⟨M++M2,id2,e2,O,by rw[aa];omega,by rw[ah];exact hC,?_,oO,rfl⟩;split at hD<;>omega
  exact uI
 refine Bu ?_;refine bE O (fun hT=>?_) (fun hT=>?_)
 ·obtain⟨i,l,r,tl,tr,dl,dr,rfl,hg,hl,hr,rfl,hd,hQ,hR⟩:=hb.split hw oO;have hB:ta.length+tl.length<=dC:=by rw[aa]at hA;omega
  refine Bz ?_;refine BH (nQ hE hg hl hr) O ?_;refine Hw ?_;refine uX (ih (n-1) oO (Es:=Es) oO ha hl hB hO oO oO) O ?_;rintro _ _⟨M,id,e,rfl,hM,hF,hL,hN,rfl⟩;simp only[uV,uW];have hH:(Es++M).length+3<=most:=by rw[aa];omega
  have hI:(ta++tl).length+tr.length<=dC:=by rw[aa]at hA ⊢;omega
  refine DW ?_;refine uX (Zz (most:=most) (Es:=Es++M) hE hF (hr.more M) oO oO hI oO oO hH) O ?_;rintro _ _⟨M2,id2,e2,rfl,hS,hC,hD,hJ,rfl⟩;simp only[uV,uW];rw[ah Es]at hC ⊢;refine Bu ?_;apply cK
  ·rfl
  ·(apply Rs.tmp rfl;apply Rs.tmp rfl;exact Rs.nil)
  ·refine⟨M++M2,id2,e2,O,by rw[aa];omega,by rw[<-ah ta];exact hC,?_,oO,rfl⟩;split at hD<;>omega
  exact uI
 refine Br ?_;refine uX (pY (most:=most) hE ha hb oO oO hA oO) O ?_;rintro _ _⟨M,id,e,rfl,hM,hF,hL,hN,rfl⟩;simp only[uV,uW];refine Bi ?_;exact uZ O (.tmp O (.tmp O .nil)) ⟨M,id,e,O,oO,hF,oO,oO,O⟩
end
section
variable {E:Bp}{Es:List Bj}{s most:Nat}
def SH:(.agg #[BK (List.length (([]:List UInt8))),BK (gQ (([]:List UInt8))),BK (kQ (([]:List UInt8))),BK (kR (([]:List UInt8))),.int .u64 (CS (([]:List UInt8)):Nat),.int .u64 (fI (([]:List UInt8)):Nat)]:Value)= .agg #[BL 0,BL 0,BL 0,BL 0,.int .u64 0,.int .u64 1]:=by
 rfl
def sO (hE:BP E){x}(hx:x<=Es.length):Ct E 21 [uPt s,BK x] [bR s most Es] (fun v Q=>v= .tuple #[.agg #[BK (List.length (txt (BO Es) x)),BK (gQ (txt (BO Es) x)),BK (kQ (txt (BO Es) x)),BK (kR (txt (BO Es) x)),.int .u64 (CS (txt (BO Es) x):Nat),.int .u64 (fI (txt (BO Es) x):Nat)],.nilIface]/\Q=[bR s most Es]):=by
 cases x with
 |zero=>rw[jI,SH];exact qGl hE
 |succ i=>
  refine eF (p:=bR s most Es) uK (fun _ h=>dR h) (fun hB=>?_)
  have hA:Es[i]?=some (Es[i]'hx):=ag hx
  generalize Es[i]'hx=en at hA
  rw[<-hB.2.1 i en hA]
  exact qM hE hA
structure Be (L:List Rl)(id:Nat)(t:List UInt8):Prop where
 ev:Ev L id
 tx:txt L id=t
def Be.zero (L:List Rl):Be L 0 []:=⟨Ev.zero _,jI _⟩
def Be.ext {L id t}(h:Be L id t)(M:List Rl):Be (L++M) id t:=⟨h.ev.ext M,by rw[jX M h.ev.le];exact h.tx⟩
def Be.more {id t}(h:Be (BO Es) id t)(M:List Bj):Be (BO (Es++M)) id t:=by rw[dB];exact h.ext _
def Be.le {id t}(h:Be (BO Es) id t):id<=Es.length:=by have:=h.ev.le;rwa [bQ]at this
def Be.bl {L id t}(h:Be L id t)(h0:1<=id):Bl L id t (dep L id):=⟨h0,h.ev,h.tx,rfl⟩
def Bl.be {L id d t}(h:Bl L id t d):Be L id t:=⟨h.ev,h.tx⟩
def Be.dep {L}(hw:Wf L){id t}(h:Be L id t)(hl:t.length<=400):dep L id<=12:=h.ev.dep_le hw (by unfold len;rw[h.tx];exact hl)
def Be.pos {L}(hw:Wf L){id t}(h:Be L id t)(h0:1<=id):1<=t.length:=by
 have:=hw.pos id h0 h.ev.le;unfold len at this;rwa [h.tx]at this
def Be.len {L id t}(h:Be L id t):(txt L id).length=t.length:=by rw[h.tx]
def Be.split {L}(hw:Wf L){a t}(h:Be L a t)(h2:2<=t.length):∃i l r tl tr,a=i+1/\L[i]?=some (.pair l r)/\1<=l/\1<=r/\Be L l tl/\Be L r tr/\t=tl++tr/\Eg.dep L l<Eg.dep L a/\Eg.dep L r<Eg.dep L a:=by
 have h0:1<=a:=by
  rcases jo a with rfl|h'
  ·have:=h.tx;rw[jI]at this;subst this;simp at h2
  exact h'
 obtain⟨i,rfl⟩:∃i,a=i+1:=⟨a-1,oO⟩;rcases h.ev.rule hw with⟨b,hg,hd⟩|⟨l,r,hg,h1,_,h3,_,el,er,hA,_,_,ht⟩
 ·have:=fP hg;rw[h.tx]at this;subst this;simp at h2
 exact⟨i,l,r,_,_,O,hg,h1,h3,⟨el,O⟩,⟨er,O⟩,by rw[<-h.tx,ht],oO,oO⟩
def Pn (s most:Nat)(Es:List Bj)(t:List UInt8)(n:Nat)(v:Value)(Q:List HP):Prop:=
 ∃(M:List Bj)(id:Nat),v= .tuple #[.int .i64 (id:Nat),.nilIface]/\M.length<=n/\Be (BO (Es++M)) id t/\Q=[bR s most (Es++M)]
def nY (hE:BP E){a b ta tb'}(ha:Be (BO Es) a ta)(hb:Be (BO Es) b tb')(hC:ta.length+tb'.length<=400)(hA:Es.length+73<=most):
  Ct E 61 [uPt s,BK a,BK b] [bR s most Es] (Pn s most Es (ta++tb') 73):=by
 refine eF (p:=bR s most Es) uK (fun _ h=>dR h) (fun hB=>?_);have hF:dC=1152921504606846976:=rfl;have hG:=ha.len;have hH:=hb.len;have ea:=ha.ev.ev;have eb:=hb.ev.ev;refine bO (hE.fn Tryz.func61) O O O (fun R=>?_);simp only[dS,uV,uW];refine Bc ?_;refine BH (sO hE ha.le) O ?_;refine CG ?_;refine uU (dA (hE.t O) (fun b8=>?_));refine Cw ?_;refine BH (sO hE hb.le) O ?_;refine CG ?_;refine uU (dA (hE.t O) (fun hI=>?_));refine Ci ?_;refine BH (YH hE ha.le) O ?_;rw[ea];refine Bi ?_;refine BH (YH hE hb.le) O ?_;rw[eb];refine CK ?_;refine BH (qQz (a:=(txt (BO Es) a).length) (b:=(txt (BO Es) b).length) hE oO) O ?_;refine DL ?_;refine bE O (fun h1=>?_) (fun h1=>?_)
 ·obtain rfl:a=0:=by omega
  have ht:=ha.tx;rw[jI]at ht;subst ht;refine Bu ?_;apply cK
  ·rfl
  ·(apply Rs.tmp rfl;apply Rs.tmp rfl;exact Rs.nil)
  ·exact⟨[],b,O,av _,by rw[ax];exact hb,rfl⟩
  rw[ax];exact uI
 refine Bu ?_;refine bE O (fun h2=>?_) (fun h2=>?_)
 ·obtain rfl:b=0:=by omega
  have ht:=hb.tx;rw[jI]at ht;subst ht;refine Bu ?_;apply cK
  ·rfl
  ·(apply Rs.tmp rfl;apply Rs.tmp rfl;exact Rs.nil)
  ·exact⟨[],a,O,av _,by rw[ax,ax];exact ha,rfl⟩
  rw[ax];exact uI
 have hJ:=ha.dep hB.1 oO;have hK:=hb.dep hB.1 oO;refine Bi ?_;refine uX (qWd (most:=most) hE 24 oO (ha.bl oO) (hb.bl oO) oO oO oO hA) O ?_;rintro _ _⟨M,id,d,rfl,hM,hD,hL,hN,rfl⟩;simp only[uV,uW];refine Bi ?_;exact uZ O (.tmp O (.tmp O .nil)) ⟨M,id,O,oO,hD.be,O⟩
def pE (hE:BP E){a t}(ha:Be (BO Es) a t):Ct E 137 [uPt s,BK a] [bR s most Es] (fun v Q=>v= .tuple #[BK t.length,.nilIface]/\Q=[bR s most Es]):=by
 have hl:=ha.len;refine bO (hE.fn Tryz.func137) O O O (fun R=>?_);simp only[dS,uV,uW];refine Bc ?_;refine BH (sO hE ha.le) O ?_;refine CG ?_;refine uU (dA (hE.t O) (fun b6=>?_));refine DL ?_;exact uZ O (.tmp O (.tmp O .nil)) ⟨by rw[<-hl];rfl,rfl⟩
def qGj (hE:BP E){a t}(ha:Be (BO Es) a t):Ct E 98 [uPt s,BK a] [bR s most Es] (fun v Q=>v= .tuple #[BK t.length,.nilIface]/\Q=[bR s most Es]):=by
 have ea:=ha.ev.ev;refine bO (hE.fn Tryz.func98) O O O (fun R=>?_);simp only[dS,uV,uW];refine Bc ?_;refine BH (mE hE ha.le) O ?_;rw[ea];refine GN ?_;refine BH (pE hE ha) O ?_;refine Bi ?_;exact uZ O (.tmp O (.tmp O .nil)) ⟨O,O⟩
def qQw (hE:BP E):∀(m:Nat){Es:List Bj}{a n:Nat}{t:List UInt8},dep (BO Es) a<=m->Be (BO Es) a t->t.length<=400->n<=t.length->Es.length+73*m<=most->
  Ct E 101 [uPt s,.int .i64 (a:Nat),.int .i64 (n:Nat)] [bR s most Es] (Pn s most Es (t.take n) (73*m)):=by
 intro m;induction m using Nat.strongRecOn with
 |ind m ih=>
 intro Es a n t hd ha hl hn hG;refine eF (p:=bR s most Es) uK (fun _ h=>dR h) (fun hB=>?_);have hw:=hB.1;refine bO (hE.fn Tryz.func101) O O O (fun R=>?_);simp only[dS,uV,uW];refine CP ?_;refine bE O (fun h1=>?_) (fun h1=>?_)
 ·obtain rfl:n=0:=by omega
  refine Br ?_;apply cK
  ·rfl
  ·(apply Rs.tmp rfl;apply Rs.tmp rfl;exact Rs.nil)
  ·exact⟨[],0,O,av _,Be.zero _,O⟩
  rw[ax];exact uI
 refine CB ?_;refine BH (pE hE ha) O ?_;refine EK ?_;refine bE O (fun h2=>?_) (fun h2=>?_)
 ·obtain rfl:n=t.length:=by omega
  refine Bu ?_;apply cK
  ·rfl
  ·(apply Rs.tmp rfl;apply Rs.tmp rfl;exact Rs.nil)
  ·exact⟨[],a,O,av _,by rw[ax,nu];exact ha,rfl⟩
  rw[ax];exact uI
 obtain⟨i,l,r,tl,tr,rfl,hg,hK,hL,hC,hH,rfl,hN,hO⟩:=ha.split hw oO;obtain⟨en,hD,hI⟩:=yZ hg;have hP:(tl++tr).length=tl.length+tr.length:=aa;refine CB ?_;refine BH (kF hE hD) O ?_;rw[hI];refine CG ?_;refine uU (dA (hE.t O) (fun hQ=>?_));refine Ci ?_;refine BH (pE (a:=l) hE hC) O ?_;refine EK ?_;refine bE O (fun h3=>?_) (fun h3=>?_)
 ·refine CB ?_;refine uX (ih (m-1) oO (a:=l) (n:=n) oO hC oO oO oO) O ?_;rintro _ _⟨M,id,rfl,hM,hF,rfl⟩;simp only[uV,uW];refine Br ?_;exact uZ O (.tmp O (.tmp O .nil)) ⟨M,id,O,oO,by rw[oW oO];exact hF,rfl⟩
 refine Bc ?_;refine BU 63 (.int .i64 ((n-tl.length:Nat):Int)) O (bW oO) ?_;refine uX (ih (m-1) oO (a:=r) (n:=n-tl.length) oO hH oO oO oO) O ?_;rintro _ _⟨M,id,rfl,hM,hF,rfl⟩;simp only[uV,uW];refine DL ?_;have hj:(Es++M).length+73<=most:=by rw[aa];omega
 have hJ:tl.length+(tr.take (n-tl.length)).length<=400:=by rw[ig];omega
 refine uX (nY (most:=most) (Es:=Es++M) hE (hC.more M) hF hJ hj) O ?_;rintro _ _⟨M2,id2,rfl,hR,hA,rfl⟩;simp only[uV,uW];rw[ah Es]at hA ⊢;refine Bi ?_;exact uZ O (.tmp O (.tmp O .nil)) ⟨M++M2,id2,O,by rw[aa];omega,by rw[List.take_append,fe oO];exact hA,rfl⟩
def qXe (hE:BP E):∀(m:Nat){Es:List Bj}{a n:Nat}{t:List UInt8},dep (BO Es) a<=m->Be (BO Es) a t->t.length<=400->n<=t.length->Es.length+73*m<=most->
  Ct E 102 [uPt s,.int .i64 (a:Nat),.int .i64 (n:Nat)] [bR s most Es] (Pn s most Es (t.drop n) (73*m)):=by
 intro m;induction m using Nat.strongRecOn with
 |ind m ih=>
 intro Es a n t hd ha hl hn hF;refine eF (p:=bR s most Es) uK (fun _ h=>dR h) (fun hB=>?_);have hw:=hB.1;refine bO (hE.fn Tryz.func102) O O O (fun R=>?_);simp only[dS,uV,uW];refine CP ?_;refine bE O (fun h1=>?_) (fun h1=>?_)
 ·obtain rfl:n=0:=by omega
  refine Bu ?_;apply cK
  ·rfl
  ·(apply Rs.tmp rfl;apply Rs.tmp rfl;exact Rs.nil)
  ·exact⟨[],a,O,av _,by rw[ax];exact ha,rfl⟩
  rw[ax];exact uI
 refine CB ?_;refine BH (pE hE ha) O ?_;refine Df ?_;refine bE O (fun h2=>?_) (fun h2=>?_)
 ·obtain rfl:n=t.length:=by omega
  refine Bu ?_;apply cK
  ·rfl
  ·(apply Rs.tmp rfl;apply Rs.tmp rfl;exact Rs.nil)
  ·exact⟨[],0,O,av _,by rw[uj];exact Be.zero _,rfl⟩
  rw[ax];exact uI
 obtain⟨i,l,r,tl,tr,rfl,hg,hK,hL,hG,hH,rfl,hN,hO⟩:=ha.split hw oO;obtain⟨en,hC,hI⟩:=yZ hg;have hP:(tl++tr).length=tl.length+tr.length:=aa;refine CB ?_;refine BH (kF hE hC) O ?_;rw[hI];refine CG ?_;refine uU (dA (hE.t O) (fun hQ=>?_));refine Ci ?_;refine BH (pE (a:=l) hE hG) O ?_;refine EK ?_;refine bE O (fun h3=>?_) (fun h3=>?_)
 ·refine Br ?_;refine BU 57 (.int .i64 ((n-tl.length:Nat):Int)) O (bW oO) ?_;refine uX (ih (m-1) oO (a:=r) (n:=n-tl.length) oO hH oO oO oO) O ?_;rintro _ _⟨M,id,rfl,hM,hD,rfl⟩;simp only[uV,uW];refine Br ?_;exact uZ O (.tmp O (.tmp O .nil)) ⟨M,id,O,oO,by rw[List.drop_append,ma oO,jw];exact hD,rfl⟩
 refine Br ?_;refine uX (ih (m-1) oO (a:=l) (n:=n) oO hG oO oO oO) O ?_;rintro _ _⟨M,id,rfl,hM,hD,rfl⟩;simp only[uV,uW];refine DL ?_;have hj:(Es++M).length+73<=most:=by rw[aa];omega
 have hJ:(tl.drop n).length+tr.length<=400:=by rw[lw];omega
 refine uX (nY (most:=most) (Es:=Es++M) hE hD (hH.more M) hJ hj) O ?_;rintro _ _⟨M2,id2,rfl,hR,hA,rfl⟩;simp only[uV,uW];rw[ah Es]at hA ⊢;refine Bi ?_;exact uZ O (.tmp O (.tmp O .nil)) ⟨M++M2,id2,O,by rw[aa];omega,by rw[pz oO];exact hA,rfl⟩
end
section
variable {E:Bp}{Es:List Bj}{s most:Nat}
structure WB where
 id:Nat
 fr:Nat
 t:List UInt8
def MF {tl tr:List UInt8}{a n:Nat}(h:a+n<=tl.length):((tl++tr).drop a).take n=(tl.drop a).take n:=by
 rw[pz oO,oW (by rw[lw];omega)]
def zAk {tl tr:List UInt8}{a n:Nat}(h:tl.length<=a):((tl++tr).drop a).take n=(tr.drop (a-tl.length)).take n:=by
 rw[List.drop_append,ma h,jw]
def PK {tl tr:List UInt8}{a n:Nat}(h:a<tl.length)(h2:tl.length<a+n):((tl++tr).drop a).take n=tl.drop a++tr.take (a+n-tl.length):=by
 rw[pz oO,List.take_append,fe (by rw[lw];omega),lw];congr 2;omega
def qTr (hE:BP E){a fr n:Nat}{t:List UInt8}(ha:Be (BO Es) a t)(hl:t.length<=400)(hn:fr+n<=t.length)(hK:Es.length+1825<=most):
  Ct E 100 [uPt s,.int .i64 (a:Nat),.int .i64 (fr:Nat),.int .i64 (n:Nat)] [bR s most Es] (Pn s most Es ((t.drop fr).take n) 1825):=by
 refine eF (p:=bR s most Es) uK (fun _ h=>dR h) (fun hG=>?_);have hw:=hG.1;refine bO (hE.fn Tryz.func100) O O O (fun R=>?_);simp only[dS,uV,uW];refine CP ?_;refine bE O (fun h1=>?_) (fun h1=>?_)
 ·obtain rfl:n=0:=by omega
  refine Br ?_;apply cK
  ·rfl
  ·(apply Rs.tmp rfl;apply Rs.tmp rfl;exact Rs.nil)
  ·exact⟨[],0,O,av _,by rw[oJ];exact Be.zero _,rfl⟩
  rw[ax];exact uI
 refine CG ?_;refine dX (fun q:WB=>[(0,uPt s),(1,.int .i64 (q.id:Nat)),(2,.int .i64 (q.fr:Nat)),(3,.int .i64 (n:Nat))]) (fun q=>[bR s most Es,R]) (fun q=>dep (BO Es) q.id) (fun q=>Be (BO Es) q.id q.t/\q.t.length<=400/\q.fr+n<=q.t.length/\(q.t.drop q.fr).take n=(t.drop fr).take n) ⟨a,fr,t⟩ ⟨ha,hl,hn,O⟩ BC uI ?_;rintro⟨id,f,u⟩⟨hu,hN,hO,hA⟩;simp only at hu hN hO hA ⊢;rw[<-hA];refine Bw ?_;refine BH (pE hE hu) O ?_;refine EK ?_;refine bE O (fun h2=>?_) (fun h2=>?_)
 ·obtain rfl:n=u.length:=by omega
  obtain rfl:f=0:=by omega
  refine Bq ?_;apply cK
  ·rfl
  ·(apply Rs.tmp rfl;apply Rs.tmp rfl;exact Rs.nil)
  ·exact⟨[],id,O,av _,by rw[ax,oU,nu];exact hu,rfl⟩
  rw[ax];exact uI
 obtain⟨i,l,r,tl,tr,rfl,hg,hV,hW,hD,hF,rfl,hX,hY⟩:=hu.split hw oO;obtain⟨en,hH,hP⟩:=yZ hg;have hZ:(tl++tr).length=tl.length+tr.length:=aa;refine CB ?_;refine BH (kF hE hH) O ?_;rw[hP];refine CG ?_;refine uU (dA (hE.t O) (fun hb=>?_));refine Ci ?_;refine BH (pE (a:=l) hE hD) O ?_;refine Nz ?_;refine bE O (fun h3=>?_) (fun h3=>?_)
 ·refine Bi ?_;refine bS (ι:=WB) (j:=⟨l,f,tl⟩) ⟨hD,BD,BD,by simp only;rw[<-MF (tr:=tr) oO]⟩ BD BC uI
 refine Br ?_;refine bE O (fun h4=>?_) (fun h4=>?_)
 ·refine Bo ?_;refine bS (ι:=WB) (j:=⟨r,f-tl.length,tr⟩) ⟨hF,BD,BD,by simp only;rw[<-zAk (tr:=tr) oO]⟩ BD ⟨rfl,rfl,au some (bW BD),rfl,trivial⟩ uI
 have hB:=hF.dep hw oO;have hC:=hD.dep hw oO;refine CB ?_;refine uX (qXe (most:=most) hE 12 (a:=l) (n:=f) hC hD oO oO oO) O ?_;rintro _ _⟨M,id1,rfl,hM,hQ,rfl⟩;simp only[uV,uW];refine Gp ?_;refine BU 70 (.int .i64 ((f+n-tl.length:Nat):Int)) O (bW oO) ?_;have hR:(Es++M).length+73*12<=most:=by rw[aa];omega
 have hI:=hF.more M;have hJ:dep (BO (Es++M)) r<=12:=by rw[dB,wU _ hF.ev.le];exact hB
 refine uX (qQw (most:=most) hE 12 (Es:=Es++M) (a:=r) (n:=f+n-tl.length) hJ hI oO oO hR) O ?_;rintro _ _⟨M2,id2,rfl,hc,hS,rfl⟩;simp only[uV,uW];have hT:(Es++M++M2).length+73<=most:=by rw[aa,aa];omega
 have hU:(tl.drop f).length+(tr.take (f+n-tl.length)).length<=400:=by rw[lw,ig];omega
 refine Df ?_;refine uX (nY (most:=most) (Es:=Es++M++M2) hE (hQ.more M2) hS hU hT) O ?_;rintro _ _⟨M3,id3,rfl,hd,hL,rfl⟩;simp only[uV,uW];have ea:Es++M++M2++M3=Es++(M++(M2++M3)):=by simp only[ah]
 rw[ea]at hL ⊢;refine Bo ?_;exact uZ O (.tmp O (.tmp O .nil)) ⟨M++(M2++M3),id3,O,by simp only[aa];omega,by rw[PK oO oO];exact hL,rfl⟩
def qTb (hE:BP E){a fr n t}(ha:Be (BO Es) a t)(hl:t.length<=400)(hn:fr+n<=t.length)(hA:Es.length+1825<=most):
  Ct E 63 [uPt s,BK a,BK fr,BK n] [bR s most Es] (Pn s most Es ((t.drop fr).take n) 1825):=by
 refine bO (hE.fn Tryz.func63) O O O (fun R=>?_);simp only[dS,uV,uW];refine Bc ?_;refine BH (qGj hE ha) O ?_;refine DL ?_;refine BH (Jw (f:=fr) (n:=n) (l:=t.length) hE oO hn) O ?_;refine Cw ?_;refine uX (qTr (most:=most) hE ha hl hn hA) O ?_;rintro _ _⟨M,id,rfl,hM,hb,rfl⟩;simp only[uV,uW];refine Bi ?_;exact uZ O (.tmp O (.tmp O .nil)) ⟨M,id,O,hM,hb,O⟩
def Jj (hE:BP E){a n t}(ha:Be (BO Es) a t)(hl:t.length<=400)(hn:n<=t.length)(hC:Es.length+1752<=most):
  Ct E 64 [uPt s,BK a,BK n] [bR s most Es]
   (fun v Q=>∃(M:List Bj)(x y:Nat),v= .tuple #[BK x,BK y,.nilIface]/\M.length<=1752/\Be (BO (Es++M)) x (t.take n)/\Be (BO (Es++M)) y (t.drop n)/\Q=[bR s most (Es++M)]):=by
 refine eF (p:=bR s most Es) uK (fun _ h=>dR h) (fun hB=>?_);have hw:=hB.1;have hd:=ha.dep hw hl;refine bO (hE.fn Tryz.func64) O O O (fun R=>?_);simp only[dS,uV,uW];refine Bo ?_;refine BH (qGj hE ha) O ?_;refine DL ?_;refine dV 24 O (fun g1=>?_) (fun g1=>?_)
 ·exfalso;omega
 refine Bu ?_;refine bE O (fun g2=>?_) (fun g2=>?_)
 ·exfalso;omega
 refine Bi ?_;refine uX (qQw (most:=most) hE 12 (a:=a) (n:=n) hd ha hl hn oO) O ?_;rintro _ _⟨M,id1,rfl,hM,hF,rfl⟩;simp only[uV,uW];have hG:(Es++M).length+73*12<=most:=by rw[aa];omega
 have hH:dep (BO (Es++M)) a<=12:=by rw[dB,wU _ ha.ev.le];exact hd
 refine Df ?_;refine uX (qXe (most:=most) hE 12 (Es:=Es++M) (a:=a) (n:=n) hH (ha.more M) hl hn hG) O ?_;rintro _ _⟨M2,id2,rfl,hI,hD,rfl⟩;simp only[uV,uW];have hA:=hF.more M2;rw[ah Es]at hD hA ⊢;refine Gp ?_;exact uZ O (.tmp O (.tmp O (.tmp O .nil))) ⟨M++M2,id1,id2,O,by rw[aa];omega,hA,hD,rfl⟩
end
