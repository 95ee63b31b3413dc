import Derived.Test.YtnicahfnolhgbaaGreatDoorQ05
import Derived.Test.YtnicahfnolhgbaaGreatDoorQ31
import Derived.Lib.Overlaps
set_option linter.all false
set_option maxHeartbeats 1000000
namespace Sl
open Go Go.RowKit
variable {E:Bp}{n:Nat}{L:Fr}{S:List HP}{ty:TypeId}{pos:String}{af:Array Edge}{d:Option Nat}{gd:Option (Nat×Bool)}
def Pm {x y}{xt yt:TypeId}{i j}(hx:ev L x=some (.int .u64 i))(hy:ev L y=some (.int .u64 j))(h0:0<=i-j)(h1:i-j<=18446744073709551615):
  Yl E n L S ⟨d,.binOp .sub xt x y yt,ty,pos,af,gd⟩ (.int .u64 (i-j)):=fun a w g _=>by
 have e:IntKind.u64.wrap (i-j)=i-j:=by rw[IntKind.wrap_u64];omega
 simp[execOp,eqGuard,binOp,Op.intArith,g.ev hx,g.ev hy,e]
end Sl
namespace Go.Proofs.YtnicahfnolhgbaaGreatDoor
open Go Go.RowKit Sl Eg
set_option maxRecDepth 10000
variable {E:Bp}{Es:List Bj}{pp tb s most:Nat}
def qXg (hE:BP E){i}(hi:i<Es.length):Ct E 183 [uPt pp,BL ((i+1:Nat):Int)] [cells pp [uPt s,uPt tb] 122,BV tb s (BO Es),bR s most Es] (fun v Q=>v= BK (len (BO Es) (i+1))/\Q=[cells pp [uPt s,uPt tb] 122,BV tb s (BO Es),bR s most Es]):=by
 refine eF (p:=bR s most Es) uK (fun _ h=>dR h) (fun hB=>?_);have hA:Es[i]?=some (Es[i]'hi):=ag hi;generalize Es[i]'hi=en at hA;have hC:=hB.2.1 i en hA;refine bO (hE.fn Tryz.func183) O O O (fun R=>?_);simp only[dS,uV,uW];refine Br ?_;refine BH (kC hE) O ?_;refine Bv ?_;refine BH (qM hE hA) O ?_;refine CG ?_;refine uU (dA (hE.t O) (fun b5=>?_));refine Bq ?_;exact uZ O (.tmp O .nil) ⟨by rw[len,<-hC];rfl,rfl⟩
def qXf (hE:BP E):Ct E 183 [uPt pp,BL ((0:Nat):Int)] [cells pp [uPt s,uPt tb] 122,BV tb s (BO Es),bR s most Es] (fun v Q=>v= BL ((0:Nat):Int)/\Q=[cells pp [uPt s,uPt tb] 122,BV tb s (BO Es),bR s most Es]):=by
 refine bO (hE.fn Tryz.func183) O O O (fun R=>?_);simp only[dS,uV,uW];refine Br ?_;refine BH (kC hE) O ?_;refine Bv ?_;refine BH (qGl hE) O ?_;refine CG ?_;refine uU (dA (hE.t O) (fun b5=>?_));refine Bq ?_;exact uZ O (.tmp O .nil) ⟨O,O⟩
def vM (hE:BP E){i}(hi:i<=(BO Es).length):Ct E 183 [uPt pp,BK i] [cells pp [uPt s,uPt tb] 122,BV tb s (BO Es),bR s most Es] (fun v Q=>v= BK (len (BO Es) i)/\Q=[cells pp [uPt s,uPt tb] 122,BV tb s (BO Es),bR s most Es]):=by
 cases i with
 |zero=>exact qXf hE
 |succ i=>exact qXg hE (by rw[bQ]at hi;omega)
def qLr (hE:BP E){l}(h2:2<=l)(he:l%2=0)(hl:l<1099511627776):Ct E 213 [BK l] []
  (fun v Q=>(∃a b d,v= .tuple #[BL a,.int .u64 b,.bool d]/\(d=true↔Cu l=122))/\Q=[]):=by
 by_cases hc:Ef l=122
 ·refine bO (hE.fn Tryz.func213) O O O (fun R=>?_);simp only[dS,uV,uW];refine Bc ?_;refine BH (xX hE h2 he hl hc) O ?_;refine Bu ?_;exact uZ O (.tmp O (.tmp O (.tmp O .nil))) ⟨⟨_,_,true,O,fun _=>hc,fun _=>O⟩,O⟩
 refine bO (hE.fn Tryz.func213) O O O (fun R=>?_);simp only[dS,uV,uW];refine Bc ?_;refine BH (xW hE h2 he hl hc) O ?_;refine Bu ?_;exact uZ O (.tmp O (.tmp O (.tmp O .nil))) ⟨⟨_,_,false,O,fun h=>(by cases h),fun h=>absurd h hc⟩,O⟩
def qTo (hE:BP E){l}(h2:2<=l)(he:l%2=0)(hl:l<1099511627776):Ct E 222 [BK l] [] (fun v Q=>v= .tuple ⟨[BK (Cu l),.bool true]⟩/\Q=[]):=by
 apply rG;intro w;rw[hE.P];exact Zk l w h2 he hl
def NY (hE:BP E){l x y}(h2:2<=l)(he:l%2=0)(hl:l<1099511627776):Ct E 236 [.int .u64 (x:Nat),.int .u64 (y:Nat),BK l] []
  (fun v Q=>(∃d:Bool,v= .bool d/\(d=true↔fB (Cu l) x y))/\Q=[]):=by
 have hn:=LU l;refine bO (hE.fn Tryz.func236) O O O (fun R=>?_);simp only[dS,uV,uW];refine Br ?_;refine BH (qTo hE h2 he hl) O ?_;refine Dv ?_;refine bE O (fun hc=>?_) (fun hc=>?_)
 ·have hA:Cu l=122:=oO;refine Bc ?_;apply cK
  ·rfl
  ·(apply Rs.tmp rfl;exact Rs.nil)
  ·refine⟨⟨_,O,?_⟩,O⟩;rw[decide_eq_true_eq,hA,fB,if_pos rfl];omega
  exact uI
 have hA:Cu l≠122:=oO;have e1:((Cu l:Nat):Int)/2=((Cu l/2:Nat):Int):=oO;have e2:((Cu l:Nat):Int)%2=((Cu l%2:Nat):Int):=oO;have hB:=sW (c:=Cu l) (x:=x) (y:=y) hA;have hC:=QS y (Cu l/2);unfold bt at hB hC;refine CP ?_;refine CW 9 (BL ((Cu l/2:Nat):Int)) O (bW e1) ?_;refine CW 10 (.int .u64 ((Cu l%2:Nat):Int)) O (bW e2) ?_;refine Bu ?_;refine dV 34 O (fun h1=>?_) (fun h1=>?_)
 ·refine Bo ?_;refine uB (Pm O O oO oO) ?_;refine Bi ?_;apply cK
  ·rfl
  ·(apply Rs.tmp rfl;exact Rs.nil)
  ·refine⟨⟨_,O,?_⟩,O⟩;rw[decide_eq_true_eq,hB];omega
  exact uI
 refine Bq ?_;apply cK
 ·rfl
 ·(apply Rs.tmp rfl;exact Rs.nil)
 ·refine⟨⟨false,O,?_⟩,O⟩;rw[hB];simp only[ou,false_iff];omega
 exact uI
def YI (hE:BP E){l x y}(h2:2<=l)(he:l%2=0)(hl:l<1099511627776):Ct E 228 [.int .u64 (x:Nat),.int .u64 (y:Nat),BK l] []
  (fun v Q=>(∃d:Bool,v= .bool d/\(d=true↔fB (Cu l) x y))/\Q=[]):=by
 refine bO (hE.fn Tryz.func228) O O O (fun R=>?_);simp only[dS,uV,uW];refine Bc ?_;refine uX (NY hE h2 he hl) O ?_;rintro _ _⟨⟨d,rfl,hd⟩,rfl⟩;simp only[uV,uW];refine Bz ?_;exact uZ O (.tmp O .nil) ⟨⟨d,O,hd⟩,O⟩
def KM (L:List Rl):Option Fm->Bool
 |none=>false
 |some f=>decide (f.hv<gD (Bf L f.id))
def KF (hE:BP E){b c x k l root pre suf}{bt:TypeId}{p bh fs}(hw:Wf (BO Es))(hL:(BO Es).length<=1048576)(hs:De (BO Es) root)(he:EO (BO Es) bh l root x fs)(hx:x≠0)(hA:(l+1)%2=1):
  Ct E 224 [.pointer (some ⟨b,pre.length,none⟩),BL ((l+1:Nat):Int)] [cells b (pre++uPt pp:: .bool bh:: .slice p fs.length c:: BK x:: .int .u64 (k:Nat)::suf) bt,sl p c 332 8 fs.length (dZ (BO Es) fs)]
   (fun v Q=>(∃o,IV (BO Es) (l+1) fs o/\v= .tuple #[BK (many (BO Es) o),.bool (KM (BO Es) o)])/\Q=[cells b (pre++uPt pp:: .bool bh:: .slice p fs.length c:: BK x:: .int .u64 (k:Nat)::suf) bt,sl p c 332 8 fs.length (dZ (BO Es) fs)]):=by
 have hB:=he.pl hw hL hs;obtain⟨_,h2,_,_⟩:=he.low hx;refine bO (hE.fn Tryz.func224) O O O (fun R=>?_);simp only[dS,uV,uW];refine Bc ?_;refine uX (nZ hE hB) O ?_;rintro v _⟨⟨o,ho,hv⟩,rfl⟩;simp only[uV,uW];cases o with
 |none=>
  obtain rfl:v= .pointer none:=hv
  refine Ci ?_
  exact uZ O (.tmp O (.tmp O .nil)) ⟨⟨none,ho,O⟩,O⟩
 |some f=>
  obtain⟨gs,g,rfl,rfl,rfl⟩:=hv
  obtain⟨r,l1,l2,l3,l4,l5,l6,ex⟩:=h2.inv
  have er:=iV l3
  obtain⟨y,n,rfl⟩:∃y n,r= .power y n:=by
   have hl:=ho.2;have okf:=l1.ok hw hs;cases r with
   |letter b=>exact absurd rfl (l4 b)
   |pair a b=>have:=(wC hw l2 l3 okf.2.2.1).1;omega
   |power y n=>exact⟨y,n,rfl⟩
  have em:many (BO Es) (some f)=f.hv:=by simp[many,er]
  have ec:KM (BO Es) (some f)=decide (f.hv<n):=by simp[KM,er,gD]
  rw[aa,bf]at*
  rw[kN]
  refine IP ?_
  apply cK
  ·rfl
  ·(apply Rs.tmp rfl;apply Rs.tmp rfl;exact Rs.nil)
  ·refine⟨⟨some f,ho,?_⟩,O⟩
   rw[em,ec,er]
   have e:decide (f.hv<n)=decide (((f.hv:Nat):Int)<(((Rl.power y n).times:Nat):Int)):=by simp[Rl.times]
   rw[e]
   rfl
  exact uI
def qLq (hE:BP E)(hB:Ca E.w0){x:Nat}{bh:Bool}(hs:De (BO Es) x):
  Ct E 199 [uPt pp,BK x,BK (len (BO Es) x),.bool bh] [cells pp [uPt s,uPt tb] 122,BV tb s (BO Es),bR s most Es]
   (fun v Q=>∃y gs p c,v= .agg #[uPt pp,.bool bh,.slice p gs.length c,BK y,.int .u64 (key (BO Es) y:Nat)]/\Dn (BO Es) bh 0 x [] y gs/\Bt (BO Es) y<=((0:Nat):Int)/\Q=[cells pp [uPt s,uPt tb] 122,BV tb s (BO Es),bR s most Es,sl p c 332 8 gs.length (dZ (BO Es) gs)]):=by
 refine eF (p:=bR s most Es) uK (fun _ h=>dR h) (fun hA=>?_);have hF:=YM hA.1 x hs.pos hs.le;have hD:0<=1099511627776:=oO;have hC:=fun b9 k=>qWn (pp:=pp) (s:=s) (tb:=tb) (most:=most) (b:=b9) (c:=0) (k:=k) (pre:=[]) (suf:=[]) (bt:=312) (bh:=bh) (p:=none) (fs:=[]) hE hB hs .nil hD
 simp only[jw,iw,qZn]at hC;refine bO (hE.fn Tryz.func199) O O O (fun R=>?_);simp only[dS,uV,uW];refine CL ?_;refine uU (dA (hE.t O) (fun b8=>?_));refine Bi ?_;refine uU (dA (hE.t O) (fun b9=>?_));refine Bv ?_;try simp only[bP,EM,EN,ES,EP,ET,EU,EW,EX]
 refine Bu ?_;refine bE O (fun h0=>?_) (fun h0=>?_)
 ·exfalso;omega
 refine Br ?_;try simp only[bP,EM,EN,ES,EP,ET,EU,EW,EX]
 refine CG ?_;refine mV 1 ?_;refine Br ?_;refine BH (vM hE hs.le) O ?_;refine CG ?_;refine bE O (fun h1=>?_) (fun h1=>?_)
 ·exfalso;omega
 refine Bi ?_;refine jM (fU (t:=332) (sz:=8)) ?_;refine uX (hC b9 0) O ?_;rintro _ _⟨y,gs,p,c,rfl,q1,q2,rfl⟩;simp only[jw,jq];refine CB ?_;try simp only[bP,EM,EN,ES,EP,ET,EU,EW,EX]
 refine CG ?_;apply cK
 ·rfl
 ·((apply Rs.cell rfl (hE.t rfl) rfl;(focus((repeat(first |rfl|assumption|exact FP|exact FQ|exact Fx|exact Fg|exact GL|exact Gh|exact Gi|exact GX|constructor));done)));exact Rs.nil)
 ·exact⟨y,gs,p,c,O,q1,q2,O⟩
 exact uI
end Go.Proofs.YtnicahfnolhgbaaGreatDoor
namespace Sl
section
open Go Go.RowKit
variable {E:Bp}{n:Nat}{L:Fr}{S H H':List HP}{ty:TypeId}{pos:String}{af:Array Edge}{d:Option Nat}{gd:Option (Nat×Bool)}{K:Value->List HP->Prop}{Q:Exit->Act->World->Prop}
def VI {t e:TypeId}{i:TypeInfo}(ht:E.P.underlying t=some (.slice e))(hi:E.P.info? e=some i){b c o dl dc k cc N m q xs us w}(ty:TypeId)
  (s:CR E.w0 w (sl (BM b) c e i.size N xs::H)) (hm:m=Nat.min k dl) (hu:us.length=m*i.size) (hq:∀j u,us[j]?=some u->w.cell? (q.add j)=some u) (hp:iU us=true) (hN:o+m*i.size<=N*i.size):
  ∃w',(Builtin.copy_ #[t,t] ty #[.slice (some ⟨b,o,none⟩) dl dc,.slice (some q) k cc]).run E.P w= .ok (BK m) w'/\CR E.w0 w' (sl (BM b) c e i.size N (bX xs o us)::H):=by
 have hB:xs.length=N*i.size:=by obtain⟨h1,h2,_,_,hh,_⟩:=s.hp;exact hh.1
 obtain⟨cur,s1,h1,h2,h3,h4⟩:=s.slice;have hE:N*i.size<=cur.size:=by rw[h3];exact kg _ h1
 obtain⟨w',hr,hs⟩:=tZ (E:=E) cur o us w s1 hp oO;have hC:=run_firstCells_some (P:=E.P) w i.size m q k cc us hu hq;refine⟨w',?_,hs.imp fun k' hD=>eU (fun k'' hA=>?_) hD⟩
 ·subst hm;simp[Builtin.copy_,run_underlying ht,Go.sizeOf,typeInfo,hi,Builtin.lenOf,hC,hr,goInt]
 refine⟨by rw[aN,hB],.inr ⟨b,_,rfl,hA,h1,h2,by simpa[aN]using h3,?_⟩⟩;rw[qE _ _ _ _ oO,h4]
def qYs {x y}{t e:TypeId}{b o c dl dc k cc N m g es by_ sz sz' xs us zs zs' kk H''}{bt:TypeId}(ht:E.tab t=some ⟨.slice e es by_,sz,zs⟩)(he:E.tab e=some ⟨kk,sz',zs'⟩)
  (hx:ev L x=some (.slice (some ⟨b,o,none⟩) dl dc)) (hy:ev L y=some (.slice (BM g) k cc)) (hm:CO (cells g us bt) H H') (hC:CO (sl (BM b) c e es N xs) H' H'') (hp:iU us=true) (hl:us.length=m*es) (hD:m=Nat.min k dl) (hN:o+m*es<=N*es)
  (hk:K (BK m) (cells g us bt::sl (BM b) c e es N (bX xs o us)::H'')):Ld E n L H ⟨d,.call {callee:= .builtin .copy,args:= #[x,y],argTypes:= #[t,t]},ty,pos,af,gd⟩ K:=fun Q next a w G hn=>by
 obtain⟨hu,j,hj,hs,hE⟩:=fD ht;obtain⟨i,z,hi,hF,hG,hH,_⟩:=fC he;obtain rfl:i=j:=by rw[hi]at hj;simpa using hj
 subst hs;have s1:=G.hp.take hm;have s2:CR E.w0 w (sl (BM b) c e i.size N xs::cells g us bt::H''):=(s1.imp fun _ h=>gK (fG (fun _=>hC.out) h));have hA:∀j u,us[j]?=some u->w.cell? ((⟨g,0,none⟩:Addr).add j)=some u:=fun j u hu=>by rw[addr_add,jh];exact s1.cell j hu
 obtain⟨w',hr,ho⟩:=VI hu hi ty (dc:=dc) (cc:=cc) s2 hD hl hA hp hN
 have hB:(execOp a.eval ⟨d,.call {callee:= .builtin .copy,args:= #[x,y],argTypes:= #[t,t]},ty,pos,af,gd⟩).run E.P w= .ok (.value (BK m)) w':=by
  simp[execOp,resolve,invoke,builtin,G.f.ev hx,G.f.ev hy,hr]
 unfold Oper.wp;rw[hB,Oper.upon_value];exact hn _ _ _ hk (ho.imp fun _ h=>gK h)
def qMq {x y}{t e:TypeId}{b o q c dl dc k cc N m es by_ sz sz' xs us zs zs' kk}(ht:E.tab t=some ⟨.slice e es by_,sz,zs⟩)(he:E.tab e=some ⟨kk,sz',zs'⟩)
  (hx:ev L x=some (.slice (some ⟨b,o,none⟩) dl dc)) (hy:ev L y=some (.slice (some ⟨b,q,none⟩) k cc)) (hD:CO (sl (BM b) c e es N xs) H H') (hC:us=(xs.drop q).take (m*es)) (hp:iU us=true) (hE:m=Nat.min k dl) (hN:o+m*es<=N*es) (hM:q+m*es<=N*es)
  (hk:K (BK m) (sl (BM b) c e es N (bX xs o us)::H')):Ld E n L H ⟨d,.call {callee:= .builtin .copy,args:= #[x,y],argTypes:= #[t,t]},ty,pos,af,gd⟩ K:=fun Q next a w G hn=>by
 obtain⟨hu,j,hj,hs,hF⟩:=fD ht;obtain⟨i,z,hi,hG,hH,hI,_⟩:=fC he;obtain rfl:i=j:=by rw[hi]at hj;simpa using hj
 subst hs;have s1:=G.hp.take hD;have hJ:xs.length=N*i.size:=by obtain⟨h1,h2,_,_,hh,_⟩:=s1.hp;exact hh.1
 have hl:us.length=m*i.size:=by rw[hC,ig,lw];omega
 have hA:∀j u,us[j]?=some u->w.cell? ((⟨b,q,none⟩:Addr).add j)=some u:=fun j u hu=>by
  rw[addr_add];refine(Ew.slice ?_).cell s1;rw[hC,ni]at hu;split at hu
  ·rw[om]at hu;exact hu
  cases hu
 obtain⟨w',hr,ho⟩:=VI hu hi ty (dc:=dc) (cc:=cc) s1 hE hl hA hp hN
 have hB:(execOp a.eval ⟨d,.call {callee:= .builtin .copy,args:= #[x,y],argTypes:= #[t,t]},ty,pos,af,gd⟩).run E.P w= .ok (.value (BK m)) w':=by
  simp[execOp,resolve,invoke,builtin,G.f.ev hx,G.f.ev hy,hr]
 unfold Oper.wp;rw[hB,Oper.upon_value];exact hn _ _ _ hk ho
def qUj {x y}{t e:TypeId}{b o c dl dc k cc N m g c2 N2 es by_ sz sz' xs ys us zs zs' kk H''}(ht:E.tab t=some ⟨.slice e es by_,sz,zs⟩)(he:E.tab e=some ⟨kk,sz',zs'⟩)
  (hx:ev L x=some (.slice (some ⟨b,o,none⟩) dl dc)) (hy:ev L y=some (.slice (BM g) k cc)) (hm:CO (sl (BM g) c2 e es N2 ys) H H') (hD:CO (sl (BM b) c e es N xs) H' H'') (hC:us=ys.take (m*es)) (hM:m<=N2) (hp:iU us=true) (hE:m=Nat.min k dl) (hN:o+m*es<=N*es)
  (hk:K (BK m) (sl (BM g) c2 e es N2 ys::sl (BM b) c e es N (bX xs o us)::H'')):Ld E n L H ⟨d,.call {callee:= .builtin .copy,args:= #[x,y],argTypes:= #[t,t]},ty,pos,af,gd⟩ K:=fun Q next a w G hn=>by
 obtain⟨hu,j,hj,hs,hF⟩:=fD ht;obtain⟨i,z,hi,hG,hH,hI,_⟩:=fC he;obtain rfl:i=j:=by rw[hi]at hj;simpa using hj
 subst hs;have s1:=G.hp.take hm;have hJ:ys.length=N2*i.size:=by obtain⟨h1,h2,_,_,hh,_⟩:=s1.hp;exact hh.1
 have hK:m*i.size<=N2*i.size:=kg _ hM;have hl:us.length=m*i.size:=by rw[hC,ig];omega
 have s2:CR E.w0 w (sl (BM b) c e i.size N xs::sl (BM g) c2 e i.size N2 ys::H''):=(s1.imp fun _ h=>gK (fG (fun _=>hD.out) h))
 have hA:∀j u,us[j]?=some u->w.cell? ((⟨g,0,none⟩:Addr).add j)=some u:=fun j u hu=>by
  rw[addr_add,jh];refine(Ew.slice ?_).cell s1;rw[hC,ni]at hu;split at hu
  ·exact hu
  cases hu
 obtain⟨w',hr,ho⟩:=VI hu hi ty (dc:=dc) (cc:=cc) s2 hE hl hA hp hN
 have hB:(execOp a.eval ⟨d,.call {callee:= .builtin .copy,args:= #[x,y],argTypes:= #[t,t]},ty,pos,af,gd⟩).run E.P w= .ok (.value (BK m)) w':=by
  simp[execOp,resolve,invoke,builtin,G.f.ev hx,G.f.ev hy,hr]
 unfold Oper.wp;rw[hB,Oper.upon_value];exact hn _ _ _ hk (ho.imp fun _ h=>gK h)
def xB {x y}{t tn e:TypeId}{p c k es by_ sz sz' szn zs zs' zsn kk kn i}(ht:E.tab t=some ⟨.slice e es by_,sz,zs⟩)(he:E.tab e=some ⟨kk,sz',zs'⟩)(hJ:E.tab tn=some ⟨.int kn,szn,zsn⟩)(hz:(Nat.beq zs'.length es&&Nat.blt 0 es)=true)
  (hx:ev L x=some (.slice p 0 c)) (hy:ev L y=some (BL i)) (hi:i=(k:Nat)) (hc:c<k) (hb:k*by_<=140737488355328) (hE:k<=maxLen)
  (hk:∀g' c' us,us.length=k*es->K (.slice (BM g') k c') (sl (BM g') c' e es k us::H)):Ld E n L H ⟨d,.call {callee:= .builtin .append,args:= #[x,y],argTypes:= #[t,tn]},ty,pos,af,gd⟩ K:=fun Q next a w G hn=>by
 obtain⟨hu,j,hj,hs,hK⟩:=fD ht;obtain⟨i',z,hF,hQ,hL,hM,_⟩:=fC he;obtain rfl:i'=j:=by rw[hF]at hj;simpa using hj
 simp only[ik]at hz;have z1:=mg hz.1;have z2:0<es:=by simpa[zo]using hz.2
 subst hi hs hK;have hG:z.cells.size=i'.size:=by rw[<-mo,hM];exact z1
 have hA:(Builtin.firstCells i'.size 0 (.slice p 0 c)).run E.P w.drew= .ok ([]:List Value).toArray w.drew:=by
  cases p with
  |none=>simp[Builtin.firstCells]
  |some q=>exact run_firstCells_some (P:=E.P) w.drew i'.size 0 q 0 c [] BF (fun j u h=>by simp at h)
 have hN:k*i'.bytes<=281474976710656:=oO;have hO:((0+k:Nat):Int)<=9223372036854775807:=by simp only[maxLen]at hE;omega
 have hr:=Lib.run_append_grow_zeros (P:=E.P) w t tn ty e i' z .i64 kn hu (nJ hJ) hF hL p 0 c [] hA k oO oO oO hO hN (growslice_fits oO (by rw[jh];exact hb));have hH:=grownCap_ge w (0+k) c e;have hI:grownCap w (0+k) c e<=maxLen:=grownCap_le_maxLen w (0+k) c e (by rw[jh];exact hE);rw[jh]at hr hH hI
 have hB:(execOp a.eval ⟨d,.call {callee:= .builtin .append,args:= #[x,y],argTypes:= #[t,tn]},ty,pos,af,gd⟩).run E.P w= .ok (.value (.slice (BM w.heap.size) k (grownCap w k c e))) (w.drew.alloc (.cells (([]:List Value).toArray++Builtin.zeroCells z.cells k++Builtin.zeroCells z.cells (grownCap w k c e-k)) e)):=by
  simp[execOp,resolve,invoke,builtin,G.f.ev hx,G.f.ev hy,hr]
 have hC:(Builtin.zeroCells z.cells k).toList.length=k*i'.size:=by simp[size_zeroCells,hG]
 unfold Oper.wp;rw[hB,Oper.upon_value];refine hn _ _ _ (hk w.heap.size (grownCap w k c e) (Builtin.zeroCells z.cells k).toList hC) ((G.hp.drew.new _).imp fun k' hP=>eU (fun k'' hD=>?_) hP);refine⟨hC,.inr ⟨_,_,O,hD,hH,hI,?_,?_⟩⟩
 ·simp only[Array.size_append,yf,iw,size_zeroCells,hG,jh,<-qc];congr 1;omega
 simp only[Array.toList_append,jw];rw[<-hC];exact xe
def qPm {x y f fn}{t tR e:TypeId}{b o c la ca lb cb N g go es by_ sz sz' xs us zs zs' kk H''}{bt:TypeId}{ts:Array TypeId}(ht:E.tab t=some ⟨.slice e es by_,sz,zs⟩)(he:E.tab e=some ⟨kk,sz',zs'⟩)
  (hf : E.P.funcs[f]? = some fn) (hA : (fn.name == "runtime.NumGoroutine") = false) (hb : fn.body.isNone = true) (hC : Extern.findNext fn = none) (hD : Extern.find fn = some (Extern.SlicesOverlaps.overlaps #[t, t] #[tR]))
  (hx:ev L x=some (.slice (some ⟨g,go,none⟩) la ca)) (hy:ev L y=some (.slice (some ⟨b,o,none⟩) lb cb)) (hm:CO (cells g us bt) H H') (hE:CO (sl (BM b) c e es N xs) H' H'') (hN:0<N*es) (hF:g≠b)
  (hk:K (.bool false) H):Ld E n L H ⟨d,.call {callee:= .value (.func f),args:= #[x,y],argTypes:=ts},ty,pos,af,gd⟩ K:=fun Q next a w G hn=>by
 obtain⟨hu,j,hj,hs,hI⟩:=fD ht;obtain⟨i,z,hi,hG,hJ,hK,_⟩:=fC he;obtain rfl:i=j:=by rw[hi]at hj;simpa using hj
 subst hs;have s1:=G.hp.take hm;have s2:CR E.w0 w (sl (BM b) c e i.size N xs::cells g us bt::H''):=(s1.imp fun _ h=>gK (fG (fun _=>hE.out) h));obtain⟨cur,s3,h1,h2,h3,h4⟩:=s2.slice;have hc:0<c*i.size:=mi hN (kg _ h1);have e1:=s1.ptr.1;have e2:=s3.ptr.1;have hH:=Lib.run_overlaps_apart (P:=E.P) w t tR e hu i.size (fun w=>by rw[wG he w,<-hG]) ⟨g,go,none⟩ ⟨b,o,none⟩ la ca lb cb hF bt e us.length cur.size (by simp[World.shape?,e1]) (by simp[World.shape?,e2]) oO (by simp[World.frozen?,e1]) (by simp[World.frozen?,e1])
 have hB:(execOp a.eval ⟨d,.call {callee:= .value (.func f),args:= #[x,y],argTypes:=ts},ty,pos,af,gd⟩).run E.P w= .ok (.value (.bool false)) w:=by
  have h5:a.eval (.func f)= .func (.func f) #[] #[]:=rfl;simp[execOp,resolve,Deferred.ofValue,invoke,h5,G.f.ev hx,G.f.ev hy,run_callFunc_extern hf hA hb hC hD,hH]
 unfold Oper.wp;rw[hB,Oper.upon_value];exact hn _ _ _ hk G.hp
end
section
open Go Go.RowKit
variable {E:Bp}{n:Nat}{L:Fr}{S H H':List HP}{ty:TypeId}{pos:String}{af:Array Edge}{d:Option Nat}{gd:Option (Nat×Bool)}
def qQm {x}{t e:TypeId}{p len cap s b sz zs}(hx:ev L x=some (.slice p len cap))(ht:E.tab t=some ⟨.slice e s b,sz,zs⟩):
  Yl E n L S ⟨d,.call {callee:= .builtin .cap,args:= #[x],argTypes:= #[t]},ty,pos,af,gd⟩ (BK cap):=fun a w g _=>by
 obtain⟨hu,_⟩:=fD ht;simp[execOp,resolve,invoke,builtin,Builtin.cap_,underlying,program,Sem.run,hu,g.ev hx,goInt]
def zAr {p h}(x:p h):dW [p] h:=⟨h,fun _=>none,fun _=> .inr rfl,by funext k;simp[join],x,trivial⟩
def PN {b c sz m xs}{t:TypeId}{k}(h:sl (BM b) c t sz m xs k)(hm:m+1<=c):∃us:List Value,us.length=sz/\sl (BM b) c t sz (m+1) (xs++us) k:=by
 obtain⟨hl,h1|⟨g,cur,h1,h2,h3,h4,h5,h6⟩⟩:=h
 ·cases h1.1
 have hs:(m+1)*sz<=cur.size:=by rw[h5];exact kg _ hm
 have e:(m+1)*sz=m*sz+sz:=by rw[qc,AB]
 have hB:cur.toList.length=cur.size:=mo;have hA:((cur.toList.drop (m*sz)).take sz).length=sz:=by rw[ig,lw];omega
 refine⟨(cur.toList.drop (m*sz)).take sz,hA,by rw[aa,hl,hA,e],.inr ⟨g,cur,h1,h2,hm,h4,h5,?_⟩⟩;rw[e,List.take_add,h6]
end
end Sl
namespace Go.Proofs.YtnicahfnolhgbaaGreatDoor
open Go Go.RowKit Sl Eg
set_option maxRecDepth 10000
variable {E:Bp}{Es:List Bj}{pp tb s most:Nat}
def xA {b k c l n m}(h:¬c=l):(.slice (some (if c=l then(⟨b,0,none⟩:Addr)else Addr.add ⟨b,0,none⟩ (l*k))) n m:Value)= .slice (some ⟨b,l*k,none⟩) n m:=by
 rw[if_neg h,addr_add]
def RJ {zs xs v n}(hz:zs.length=(n+1)*4)(hx:xs.length=n*4)(hv:v.length=4):bX (bX zs 0 v) 4 xs=v++xs:=by
 rw[jO v zs 0 oO,oJ,jw,jh,hv,jO xs _ 4 (by simp;omega)];rw[oW oO,fe oO,ma (l:=v++List.drop 4 zs) (by simp;omega),ax]
def OH {zs xs v n}(hz:zs.length=(n+1)*4)(hx:xs.length=n*4)(hv:v.length=4):bX (bX zs 4 xs) 0 v=v++xs:=by
 rw[jO xs zs 4 oO,jO v _ 0 (by simp;omega),oJ,jw,jh,hv,ma (l:=zs) oO,ax];rw[pz (by simp;omega),ma (by simp;omega)];rfl
def Gs (xs:List Value)(n:Nat)(a1 a2 a3 a4:Int)(v:Value)(Q:List HP):Prop:=∃g' c',v= .slice (some ⟨g',0,none⟩) (n+1) c'/\Q=[sl (some ⟨g',0,none⟩) c' 343 4 (n+1) ([.int .i64 a1,.int .i64 a2,.int .u64 a3,.int .i64 a4]++xs)]
def qSx (hE:BP E){p c g cc a1 a2 a3 a4}:Ct E 225 [.slice p 0 c,BL 0,.slice (BM g) 1 cc] [sl p c 343 4 0 [],cells g [BL a1,BL a2,.int .u64 a3,BL a4] 343] (Gs [] 0 a1 a2 a3 a4):=by
 refine bO (hE.fn Tryz.func225) O O O (fun R=>?_);simp only[dS,uV,uW];refine Bu ?_;refine uB (jZ (l:=0) O (hE.t O) ⟨_,O⟩ O oO oO) ?_;refine RF ?_;refine uU ?_;apply bU (hE.t O) (hE.t O) O O O
 ·exact uK
 ·exact uK
 ·rfl
 ·rfl
 ·omega
 ·omega
 ·(unfold maxLen;omega)
 intro g' c' m' x' hm hx;obtain rfl:m'=0+1:=hm;subst hx;refine Bw ?_;exact uZ O (.tmp O .nil) ⟨g',c',O,O⟩
def qSy (hE:BP E){b c n g cc a1 a2 a3 a4 xs}(hn:n<=1099511627776)(hL:1<=n)(hF:iU xs=true)(hH:g≠b):Ct E 225 [.slice (BM b) n c,BL 0,.slice (BM g) 1 cc] [sl (BM b) c 343 4 n xs,cells g [BL a1,BL a2,.int .u64 a3,BL a4] 343] (Gs xs n a1 a2 a3 a4):=by
 refine eF (p:=sl (BM b) c 343 4 n xs) uK (fun _ h=>lX h) ?_;rintro⟨hI,hJ,hG⟩;unfold maxLen at hJ;refine bO (hE.fn Tryz.func225) O O O (fun R=>?_);simp only[dS,uV,uW];refine Bu ?_;refine uB (jZ (l:=0) O (hE.t O) ⟨_,O⟩ O oO oO) ?_;refine IP ?_;refine bE O (fun h0=>?_) (fun h0=>?_)
 ·exfalso;omega
 refine Bu ?_;refine uB (qQm O (hE.t O)) ?_;refine CG ?_;refine bE O (fun hg=>?_) (fun hg=>?_)
 ·have hK:n+1<=maxLen:=by unfold maxLen;omega
  have hA:1=Nat.min 1 (n+1):=by show 1=min 1 (n+1);omega
  have hB:n=Nat.min n (n+1-1):=by show n=min n (n+1-1);omega
  have hC:xs=xs.take (n*4):=(fe oO).symm;refine Bz ?_;refine uB (gF 0 O O (hE.t O) O (av _)) ?_;refine Bw ?_;refine uU (xB (k:=n+1) (hE.t O) (hE.t O) (hE.t O) O O O oO oO oO hK (fun g' c' zs hD=>?_));refine lQ (p:=sl (BM g') c' 343 4 (n+1) zs) uK (fun _ h=>lX h) ?_;rintro⟨hM, -, -⟩;refine Bi ?_;refine uB (gL (l:=0) O (hE.t O) ⟨_,O⟩ O oO oO) ?_;refine BU 43 (.slice (BM g') (n+1) c') O (by rw[xA oO];rfl) ?_;refine Bv ?_;refine uU (qYs (m:=1) (hE.t O) (hE.t O) O O uK uK O O hA oO ?_);refine Br ?_;refine uB (gL (l:=1) O (hE.t O) ⟨_,O⟩ O oO oO) ?_;refine BU 50 (.slice (some ⟨g',4,none⟩) (n+1-1) (c'-1)) O (by rw[xA oO]) ?_;refine CL ?_;refine uB (gL (l:=0) O (hE.t O) ⟨_,O⟩ O oO oO) ?_;refine BU 53 (.slice (BM b) n c) O (by rw[xA oO];rfl) ?_;refine uU (qUj (m:=n) (us:=xs) (hE.t O) (hE.t O) O O uK uK hC (ai _) hF hB oO ?_);refine Bc ?_;exact uZ O (.tmp O .nil) ⟨g',c',O,by rw[<-RJ (zs:=zs) (v:=[BL a1,BL a2,.int .u64 a3,BL a4]) hD hG rfl]⟩
 have hA:1=Nat.min 1 (n+1):=by show 1=min 1 (n+1);omega
 have hB:n=Nat.min (n+1) (n+1-1):=by show n=min (n+1) (n+1-1);omega
 refine zJ (ps:=fun us=>[sl (BM b) c 343 4 (n+1) (xs++us)]) uK (fun k h=>by obtain⟨us,_,q⟩:=PN h oO;exact⟨us,zAr q⟩) (fun us=>?_);simp only[uV,uW];refine iO (p:=sl (BM b) c 343 4 (n+1) (xs++us)) uK (fun _ h=>lX h) ?_;rintro⟨-, -,hD⟩;have hC:xs=((xs++us).drop 0).take (n*4):=by rw[oU,oW oO,fe oO]
 refine Br ?_;refine uB (gF (n+1) O O (hE.t O) oO oO) ?_;refine Bo ?_;refine uB (gL (l:=1) O (hE.t O) ⟨_,O⟩ O oO oO) ?_;refine BU 66 (.slice (some ⟨b,4,none⟩) (n+1-1) (c-1)) O (by rw[xA oO]) ?_;refine uU (qPm (t:=314) (tR:=4) (hE.t O) (hE.t O) (hE.fn Tryz.func234) oK oK oK oK O O uK uK oO hH ?_);refine Bc ?_;refine uB (gL (l:=1) O (hE.t O) ⟨_,O⟩ O oO oO) ?_;refine BU 73 (.slice (some ⟨b,4,none⟩) (n+1-1) (c-1)) O (by rw[xA oO]) ?_;refine CL ?_;refine uB (gL (l:=0) O (hE.t O) ⟨_,O⟩ O oO oO) ?_;refine BU 76 (.slice (BM b) (n+1) c) O (by rw[xA oO];rfl) ?_;refine uU (qMq (m:=n) (us:=xs) (hE.t O) (hE.t O) O O uK hC hF hB oO oO ?_);refine CB ?_;refine uB (gL (l:=0) O (hE.t O) ⟨_,O⟩ O oO oO) ?_;refine BU 80 (.slice (BM b) (n+1) c) O (by rw[xA oO];rfl) ?_;refine Bv ?_;refine uU (qYs (m:=1) (hE.t O) (hE.t O) O O uK uK O O hA oO ?_);refine Bc ?_;exact uZ O (.tmp O .nil) ⟨b,c,O,by rw[<-OH (zs:=xs++us) (v:=[BL a1,BL a2,.int .u64 a3,BL a4]) hD hG rfl]⟩
end Go.Proofs.YtnicahfnolhgbaaGreatDoor
namespace Sl
open Go Go.RowKit
def MH {w0 w g b c sz n us xs}{t t2:TypeId}{H}(s:CR w0 w (sl (BM b) c t2 sz n xs::cells g us t::H)):g≠b:=by
 intro e;subst e;obtain⟨h1,h2,d,e,hp,hr⟩:=s.hp;obtain⟨h3,h4,d2,e2,hq,_⟩:=hr;obtain⟨_,h0|⟨g',cur,h0,hb,_⟩⟩:=hp
 ·cases h0.1
 cases h0
 have hc:h3 g=some _:=hq
 have h5:h2 g=none:=by
  rcases d g with h| h
  ·rw[hb]at h;cases h
  exact h
 rw[e2]at h5;unfold join at h5;rw[hc]at h5;simp at h5
end Sl
namespace Go.Proofs.YtnicahfnolhgbaaGreatDoor
open Go Go.RowKit Sl Eg
set_option maxRecDepth 10000
section
variable {E:Bp}{Es:List Bj}{pp tb s most S:Nat}
structure Sd where
 x:Nat
 fs:List Fm
 p:Option Addr
 c:Nat
structure Md where
 its:List It
 p:Option Addr
 c:Nat
def WN (L:List Rl)(it:It):List Value:=[.int .i64 (it.id:Nat),.int .i64 (it.next:Nat),.int .u64 (key L it.id:Nat),.int .i64 (it.times:Nat)]
def Ba (L:List Rl)(its:List It):List Value:=its.flatMap (WN L)
def iG (L:List Rl)(it:It)(its:List It):Ba L (it::its)= BK (it.id):: BK (it.next):: .int .u64 (key L it.id:Nat):: BK (it.times)::Ba L its:=by simp[Ba,WN]
def jK (L:List Rl)(its:List It)(it:It):Ba L (its++[it])=Ba L its++ BK (it.id):: BK (it.next):: .int .u64 (key L it.id:Nat):: BK (it.times)::[]:=by simp[Ba,WN]
def rU (L:List Rl)(its:List It):(Ba L its).length=its.length*4:=by
 induction its with
 |nil=>rfl
 |cons it its ih=>rw[iG,az,az,az,az,ih,az];omega
def qGw (L:List Rl)(its:List It):iU (Ba L its)=true:=by
 induction its with
 |nil=>rfl
 |cons it its ih=>rw[iG];exact ih
def qRi {L}(M:List Rl){its}(h:∀it∈its,it.id<=L.length):Ba (L++M) its=Ba L its:=by
 induction its with
 |nil=>rfl
 |cons it its ih=>rw[iG,iG,ih fun i hi=>h i (by simp[hi]),fO M (h it BF)]
def pQ {L its g n}(h:n=its.length+1):(.pointer (some ⟨g,0+(((n:Nat):Int)-1).toNat*4,none⟩):Value)= .pointer (some ⟨g,(Ba L its).length,none⟩):=by
 rw[rU,show 0+(((n:Nat):Int)-1).toNat*4=its.length*4 by omega]
def xV (hE:BP E){p c n g cc a1 a2 a3 a4 xs}(hn:n<=1099511627776)(hA:iU xs=true):Ct E 225 [.slice p n c,BL 0,.slice (BM g) 1 cc] [sl p c 343 4 n xs,cells g [BL a1,BL a2,.int .u64 a3,BL a4] 343] (Gs xs n a1 a2 a3 a4):=by
 refine eF (p:=sl p c 343 4 n xs) uK (fun _ h=>lX h) ?_;rintro⟨-, -,hB⟩;rcases jo n with rfl|h1
 ·obtain rfl:xs=[]:=dw oO;exact qSx hE
 refine eF (p:=sl p c 343 4 n xs) uK (fun _ h=>eG h h1) ?_;rintro⟨b,rfl⟩;intro R w hs;exact qSy hE hn h1 hA (MH hs) R w hs
def Hu (B:Sd)(M:Md):Nat:=match M.its with |[]=>B.x|it::_=>it.id
def IQ (A:Sd)(M:Md):Nat:=match M.its.getLast? with |none=>A.x|some it=>it.id
def qQv (hE:BP E){A B:Sd}{M:Md}:Ct E 223 [uPt S] [cells S [uPt pp,uPt pp,.bool false,.slice A.p A.fs.length A.c,.int .i64 (A.x:Nat),.int .u64 (key (BO Es) A.x:Nat),uPt pp,.bool true,.slice B.p B.fs.length B.c,.int .i64 (B.x:Nat),.int .u64 (key (BO Es) B.x:Nat),.slice M.p M.its.length M.c] 316,sl M.p M.c 343 4 M.its.length (Ba (BO Es) M.its)] (fun v Q=>v= .tuple #[.int .i64 (Hu B M:Nat),.int .u64 (key (BO Es) (Hu B M):Nat)]/\Q=[cells S [uPt pp,uPt pp,.bool false,.slice A.p A.fs.length A.c,.int .i64 (A.x:Nat),.int .u64 (key (BO Es) A.x:Nat),uPt pp,.bool true,.slice B.p B.fs.length B.c,.int .i64 (B.x:Nat),.int .u64 (key (BO Es) B.x:Nat),.slice M.p M.its.length M.c] 316,sl M.p M.c 343 4 M.its.length (Ba (BO Es) M.its)]):=by
 obtain⟨its,p,c⟩:=M;cases its with
 |nil=>
  refine bO (hE.fn Tryz.func223) O O O (fun R=>?_)
  simp only[dS,uV,uW]
  refine CY ?_
  refine bE O (fun h=>?_) (fun h=>?_)
  ·exfalso;simp at h
  refine Ci ?_
  exact uZ O (.tmp O (.tmp O .nil)) ⟨O,O⟩
 |cons it its=>
  simp only
  refine eF (p:=sl (⟨it::its,p,c⟩:Md).p (⟨it::its,p,c⟩:Md).c 343 4 (⟨it::its,p,c⟩:Md).its.length (Ba (BO Es) (⟨it::its,p,c⟩:Md).its)) uK (fun _ h=>eG h BF) ?_
  rintro⟨g,rfl⟩
  rw[iG]
  refine bO (hE.fn Tryz.func223) O O O (fun R=>?_)
  simp only[dS,uV,uW]
  refine CY ?_
  refine bE O (fun h=>?_) (fun h=>?_)
  ·have hl:(1:Int)<=((it::its).length:Nat):=by simp only[az];omega
   refine Df ?_
   exact uZ O (.tmp O (.tmp O .nil)) ⟨O,O⟩
  exfalso;apply h;simp only[az];omega
def qWw (hE:BP E){A B:Sd}{M:Md}(hl:M.its.length<=1099511627776):Ct E 227 [uPt S] [cells S [uPt pp,uPt pp,.bool false,.slice A.p A.fs.length A.c,.int .i64 (A.x:Nat),.int .u64 (key (BO Es) A.x:Nat),uPt pp,.bool true,.slice B.p B.fs.length B.c,.int .i64 (B.x:Nat),.int .u64 (key (BO Es) B.x:Nat),.slice M.p M.its.length M.c] 316,sl M.p M.c 343 4 M.its.length (Ba (BO Es) M.its)] (fun v Q=>v= .tuple #[.int .i64 (IQ A M:Nat),.int .u64 (key (BO Es) (IQ A M):Nat)]/\Q=[cells S [uPt pp,uPt pp,.bool false,.slice A.p A.fs.length A.c,.int .i64 (A.x:Nat),.int .u64 (key (BO Es) A.x:Nat),uPt pp,.bool true,.slice B.p B.fs.length B.c,.int .i64 (B.x:Nat),.int .u64 (key (BO Es) B.x:Nat),.slice M.p M.its.length M.c] 316,sl M.p M.c 343 4 M.its.length (Ba (BO Es) M.its)]):=by
 obtain⟨its,p,c⟩:=M;rcases bq its with rfl|⟨is,it,rfl⟩
 ·refine bO (hE.fn Tryz.func227) O O O (fun R=>?_);simp only[dS,uV,uW];refine DL ?_;refine bE O (fun h=>?_) (fun h=>?_)
  ·exfalso;simp at h
  refine Ci ?_;exact uZ O (.tmp O (.tmp O .nil)) ⟨O,O⟩
 rw[bu]at*;have hA:(is++[it]).length=is.length+1:=by simp
 have hB:is.length+1<=1099511627776:=by have:=hl;simp only at this;omega
 have el:IQ A ⟨is++[it],p,c⟩=it.id:=by simp[IQ]
 rw[el];simp only;rw[hA]at*;refine eF (p:=sl p c 343 4 (is.length+1) (Ba (BO Es) (is++[it]))) uK (fun _ h=>eG h oO) ?_;rintro⟨g,rfl⟩;rw[jK];refine bO (hE.fn Tryz.func227) O O O (fun R=>?_);simp only[dS,uV,uW];refine DL ?_;refine bE O (fun h=>?_) (fun h=>?_)
 ·refine Bu ?_;refine BU 18 _ O (pQ (L:=BO Es) O) ?_;refine Bu ?_;refine BU 27 _ O (pQ (L:=BO Es) O) ?_;refine Br ?_;exact uZ O (.tmp O (.tmp O .nil)) ⟨O,O⟩
 exfalso;omega
end
section
variable {E:Bp}{Es:List Bj}{pp tb s most S:Nat}
def Vo {its it}(h:it∈its)(ht:1<=it.times):it.id∈dU its:=by
 refine List.mem_flatMap.2 ⟨it,h,?_⟩;obtain⟨m,hm⟩:∃m,it.times=m+1:=⟨it.times-1,oO⟩;unfold Ed;rw[hm,dz,ko];split <;>simp
def vX {it}(ht:1<=it.times):(Ed it).head?=some it.id:=by
 obtain⟨m,hm⟩:∃m,it.times=m+1:=⟨it.times-1,oO⟩;unfold Ed;rw[hm,dz,ko];split <;>simp
def qRg {L l rr B M}(he:EO L true l rr B.x B.fs)(ht:∀it∈M.its,1<=it.times) (hR:∀x∈dU M.its,1<=x/\x<=L.length):
  (Hu B M=0->dU M.its++BX L true l B.x B.fs=[])/\(Hu B M≠0->(dU M.its++BX L true l B.x B.fs).head?=some (Hu B M)):=by
 obtain⟨its,p,c⟩:=M;obtain⟨x,fs,q,d⟩:=B;simp only at*;cases its with
 |nil=>
  simp only[Hu,qYf,jw]
  refine⟨fun h=>?_,fun h=>he.head h⟩
  subst h
  rw[he.zero,kJ]
 |cons it its=>
  have h1:=ht it BF
  have h2:=(hR it.id (Vo BF h1)).1
  simp only[Hu]
  refine⟨fun h=>by omega,fun _=>?_⟩
  rw[iP,ah,ww,vX h1]
  rfl
def Xi {L:List Rl}{l rl:Nat}{A:Sd}{M:Md}(hs:Ez M.its):∀u,(dU M.its).getLast?=some u->IQ A M=u:=by
 obtain⟨its,p,c⟩:=M;simp only at*;intro u hu;rcases bq its with rfl|⟨is,it,rfl⟩
 ·simp[dU]at hu
 rw[bu]at*;have h1:=hs it BF;rw[fQ,jJ,lN h1.1]at hu;obtain⟨m,hm⟩:∃m,it.times=m+1:=⟨it.times-1,oO⟩;rw[hm,oG]at hu;simp at hu;simp[IQ,hu]
def Tq {L gs f}:(dZ L (gs++[f]))[(dZ L gs).length+7]?=some (BK (f.hv)):=by rw[kN];exact GX
def sV {L bh root x fs}(h:Lk L bh root x fs):NE L 1 fs:=⟨ai _,fun _=>rfl,fun g f e=>⟨by subst e;obtain⟨_,_,_,_,_,q,_,_⟩:=h.inv;exact q,.inl rfl⟩⟩
def XH {L f a b}(h:Bf L f.id= .pair a b):many L (some f)=1:=by simp[many,h]
def tC (x:Nat)(its:List It):dU (⟨x,0,1⟩::its)=x::dU its:=by rw[iP,Tk];rfl
def sZ (x:Nat)(its:List It):dU (its++[⟨x,0,1⟩])=dU its++[x]:=by rw[fQ,jJ,Tk];rfl
def qIg (hE:BP E)(hB:Ca E.w0){l rl rr:Nat}{A B:Sd}{M:Md}(hs:De (BO Es) rl)(eA:EO (BO Es) false l rl A.x A.fs)(eB:EO (BO Es) true l rr B.x B.fs)(hM:∀it∈M.its,1<=it.times) (hR:∀x∈dU M.its,1<=x/\x<=(BO Es).length) (hI:M.its.length<=1099511627776) (hA:(l+1)%2=0) (hO:l+1<1099511627776):
  Ct E 214 [uPt S,.int .i64 ((l+1:Nat):Int)] [cells pp [uPt s,uPt tb] 122,BV tb s (BO Es),bR s most Es,cells S [uPt pp,uPt pp,.bool false,.slice A.p A.fs.length A.c,.int .i64 (A.x:Nat),.int .u64 (key (BO Es) A.x:Nat),uPt pp,.bool true,.slice B.p B.fs.length B.c,.int .i64 (B.x:Nat),.int .u64 (key (BO Es) B.x:Nat),.slice M.p M.its.length M.c] 316,sl A.p A.c 332 8 A.fs.length (dZ (BO Es) A.fs),sl B.p B.c 332 8 B.fs.length (dZ (BO Es) B.fs),sl M.p M.c 343 4 M.its.length (Ba (BO Es) M.its)]
   (fun v Q=>∃(A':Sd)(M':Md),v= .tuple #[]/\RL (BO Es) l rl A'.x A'.fs (dU M'.its++BX (BO Es) true l B.x B.fs)/\BX (BO Es) false l A'.x A'.fs++dU M'.its=BX (BO Es) false l A.x A.fs++dU M.its/\(M'=M/\A'=A\/M'.its=⟨A.x,0,1⟩::M.its/\A.x≠0)/\Q=[cells pp [uPt s,uPt tb] 122,BV tb s (BO Es),bR s most Es,cells S [uPt pp,uPt pp,.bool false,.slice A'.p A'.fs.length A'.c,.int .i64 (A'.x:Nat),.int .u64 (key (BO Es) A'.x:Nat),uPt pp,.bool true,.slice B.p B.fs.length B.c,.int .i64 (B.x:Nat),.int .u64 (key (BO Es) B.x:Nat),.slice M'.p M'.its.length M'.c] 316,sl A'.p A'.c 332 8 A'.fs.length (dZ (BO Es) A'.fs),sl B.p B.c 332 8 B.fs.length (dZ (BO Es) B.fs),sl M'.p M'.c 343 4 M'.its.length (Ba (BO Es) M'.its)]):=by
 refine eF (p:=bR s most Es) uK (fun _ h=>dR h) (fun hC=>?_);have hw:=hC.1;have hL:(BO Es).length<=1048576:=by have:=hC.2.2;rw[bQ];unfold fJ at this;omega
 have hP:=eA.pl hw hL hs;obtain⟨hQ,hS⟩:=qRg eB hM hR;have hJ:=qGw (BO Es) M.its;have hK:l<=1099511627776:=oO
 have same:RL (BO Es) l rl A.x A.fs (dU M.its++BX (BO Es) true l B.x B.fs)->∃(A':Sd)(M':Md),Value.tuple #[]= .tuple #[]/\RL (BO Es) l rl A'.x A'.fs (dU M'.its++BX (BO Es) true l B.x B.fs)/\BX (BO Es) false l A'.x A'.fs++dU M'.its=BX (BO Es) false l A.x A.fs++dU M.its/\(M'=M/\A'=A\/M'.its=⟨A.x,0,1⟩::M.its/\A.x≠0)/\[cells pp [uPt s,uPt tb] 122,BV tb s (BO Es),bR s most Es,cells S [uPt pp,uPt pp,.bool false,.slice A.p A.fs.length A.c,.int .i64 (A.x:Nat),.int .u64 (key (BO Es) A.x:Nat),uPt pp,.bool true,.slice B.p B.fs.length B.c,.int .i64 (B.x:Nat),.int .u64 (key (BO Es) B.x:Nat),.slice M.p M.its.length M.c] 316,sl A.p A.c 332 8 A.fs.length (dZ (BO Es) A.fs),sl B.p B.c 332 8 B.fs.length (dZ (BO Es) B.fs),sl M.p M.c 343 4 M.its.length (Ba (BO Es) M.its)]=[cells pp [uPt s,uPt tb] 122,BV tb s (BO Es),bR s most Es,cells S [uPt pp,uPt pp,.bool false,.slice A'.p A'.fs.length A'.c,.int .i64 (A'.x:Nat),.int .u64 (key (BO Es) A'.x:Nat),uPt pp,.bool true,.slice B.p B.fs.length B.c,.int .i64 (B.x:Nat),.int .u64 (key (BO Es) B.x:Nat),.slice M'.p M'.its.length M'.c] 316,sl A'.p A'.c 332 8 A'.fs.length (dZ (BO Es) A'.fs),sl B.p B.c 332 8 B.fs.length (dZ (BO Es) B.fs),sl M'.p M'.c 343 4 M'.its.length (Ba (BO Es) M'.its)]:=fun h=>⟨A,M,O,h,O,.inl ⟨O,O⟩,O⟩
 refine bO (hE.fn Tryz.func214) O O O (fun R=>?_);simp only[dS,uV,uW];refine Bo ?_;refine bE O (fun h0=>?_) (fun h0=>?_)
 ·have hN:A.x=0:=oO;refine CL ?_;apply cK
  ·rfl
  ·(exact Rs.nil)
  ·refine same ?_;have:=zAb (L:=BO Es) (l:=l) (root:=rl) (fs:=A.fs) (Z:=dU M.its++BX (BO Es) true l B.x B.fs) (by rw[<-hN];exact eA);rwa [<-hN]at this
  exact uI
 have hx:A.x≠0:=oO;obtain⟨k1,k2,k3,k4⟩:=eA.low hx;refine Bu ?_;refine uX (nZ hE (b:=S) (pre:=[uPt pp]) (suf:=[uPt pp,.bool true,.slice B.p B.fs.length B.c,.int .i64 (B.x:Nat),.int .u64 (key (BO Es) B.x:Nat),.slice M.p M.its.length M.c]) (fs:=A.fs) hP) O ?_;rintro v _⟨⟨o,ho,hv⟩,rfl⟩;simp only[uV,uW];refine CG ?_;cases o with
 |none=>
  obtain rfl:v= .pointer none:=hv
  refine Dv ?_
  refine BH (qQv hE) O ?_
  have hF:1=many (BO Es) none:=rfl
  have hG:(l+1)%2=0->∀f:Fm,none=some f->f.hv=1:=fun _ f e=>by cases e
  refine Bq ?_
  refine dV 36 O (fun h3=>?_) (fun h3=>?_)
  ·refine CK ?_
   apply cK
   ·rfl
   ·(exact Rs.nil)
   ·refine same (zAa hw hs eA hx ho hA fun v hv=>?_)
    rw[hQ oO]at hv
    cases hv
   exact uI
  have hh:=hS oO
  refine CK ?_
  refine uX (YI hE oO hA hO) O ?_
  rintro _ _⟨⟨d,rfl,hd⟩,rfl⟩
  simp only[uV,uW]
  refine Bw ?_
  cases d with
  |false=>
   refine CG ?_
   apply cK
   ·rfl
   ·(exact Rs.nil)
   ·refine same (zAa hw hs eA hx ho hA fun v hv hf=>?_)
    rw[hh]at hv
    cases hv
    exact absurd (hd.2 hf) BF
   exact uI
  |true=>
   refine Bz ?_
   refine uN 20 ([cells S [uPt pp,uPt pp,.bool false,.slice A.p A.fs.length A.c,.int .i64 (A.x:Nat),.int .u64 (key (BO Es) A.x:Nat),uPt pp,.bool true,.slice B.p B.fs.length B.c,.int .i64 (B.x:Nat),.int .u64 (key (BO Es) B.x:Nat),.slice M.p M.its.length M.c] 316]) ?_
   refine Bc ?_
   apply dG 10 O oK
   ·exact aB O
   ·rfl
   apply dG 11 O oK
   ·exact bA O
   ·rfl
   apply dG 12 O oK
   ·exact EC O
   ·rfl
   apply dG 13 O oK
   ·exact EC O
   ·rfl
   apply dG 14 O oK
   ·(apply aO rfl (hE.t rfl) rfl;(repeat(first |rfl|assumption|constructor));done)
   ·rfl
   apply dG 15 O oK
   ·exact iE (hE.t O) O O
   ·rfl
   apply fE 16 O oK O
   refine aU (hE.t O) (hE.t O) O O O (fun hT=>?_)
   refine uE ?_
   apply fE 17 O oK O
   refine uC (xV hE hI hJ (a1:=(A.x:Nat)) (a2:=0) (a3:=(key (BO Es) A.x:Nat)) (a4:=1)) O ?_
   rintro _ _⟨g',c',rfl,rfl⟩
   simp only[uV,uW]
   have ei:(.int .i64 (A.x:Nat):: .int .i64 0:: .int .u64 (key (BO Es) A.x:Nat):: .int .i64 1::Ba (BO Es) M.its:List Value)=Ba (BO Es) (⟨A.x,0,1⟩::M.its):=by rw[iG];rfl
   rw[ei]
   refine uE ?_
   apply dG 18 O oK
   ·exact bA O
   ·rfl
   apply dG 19 O oK
   ·exact EC O
   ·rfl
   apply gW O oK oK O
   refine uS ?_
   refine Bi ?_
   refine BU 71 (.int .i64 (l:Nat)) O (bW oO) ?_
   have hH:=lH (pp:=pp) (tb:=tb) (s:=s) (most:=most) hE hB (b:=S) (bt:=316) (p:=A.p) (c:=A.c) (k:=key (BO Es) A.x) (pre:=[uPt pp]) (suf:=[uPt pp,.bool true,.slice B.p B.fs.length B.c,.int .i64 (B.x:Nat),.int .u64 (key (BO Es) B.x:Nat),.slice (⟨⟨A.x,0,1⟩::M.its,some ⟨g',0,none⟩,c'⟩:Md).p (⟨⟨A.x,0,1⟩::M.its,some ⟨g',0,none⟩,c'⟩:Md).its.length (⟨⟨A.x,0,1⟩::M.its,some ⟨g',0,none⟩,c'⟩:Md).c]) hs k2 (sV k2) hK
   refine uX (hH) O ?_
   rintro _ _⟨x',gs',p',c'',rfl,q1,rfl⟩
   simp only[uV,uW]
   refine Bv ?_
   have hD:=Mx hw hs eA hx ho hF hG q1
   apply xP
   ·rfl
   ·(exact Rs.nil)
   ·refine⟨⟨x',gs',p',c''⟩,⟨⟨A.x,0,1⟩::M.its,some ⟨g',0,none⟩,c'⟩,O,VZ hD (by rw[tC];rfl),?_,.inr ⟨O,hx⟩,O⟩
    rw[hD.seq,tC]
    simp[Cy]
   exact uI
 |some f=>
  obtain⟨gs,g,hU,hp,rfl⟩:=hv
  have f7:(dZ (BO Es) A.fs)[(dZ (BO Es) gs).length+7]?=some (.int .i64 (f.hv:Nat)):=by rw[hU];exact Tq
  rw[hp]
  refine Cw ?_
  refine bE O (fun h2=>?_) (fun h2=>?_)
  ·refine CL ?_
   apply cK
   ·rfl
   ·(exact Rs.nil)
   ·exact same (Rt hw hs eA hx ho hA oO)
   rw[hp]
   exact uI
  refine Bu ?_
  rw[<-hp]
  obtain⟨_,a,b,_,_,_,_,l4,l5,l6,_⟩:=pW hw hs eA hx ho hA
  have hF:=(XH l4).symm
  have hG:(l+1)%2=0->∀f':Fm,some f=some f'->f'.hv=1:=fun _ f' e=>by cases e;omega
  refine Bv ?_
  refine uN 20 ([cells S [uPt pp,uPt pp,.bool false,.slice A.p A.fs.length A.c,.int .i64 (A.x:Nat),.int .u64 (key (BO Es) A.x:Nat),uPt pp,.bool true,.slice B.p B.fs.length B.c,.int .i64 (B.x:Nat),.int .u64 (key (BO Es) B.x:Nat),.slice M.p M.its.length M.c] 316]) ?_
  refine Bc ?_
  apply dG 10 O oK
  ·exact aB O
  ·rfl
  apply dG 11 O oK
  ·exact bA O
  ·rfl
  apply dG 12 O oK
  ·exact EC O
  ·rfl
  apply dG 13 O oK
  ·exact EC O
  ·rfl
  apply dG 14 O oK
  ·(apply aO rfl (hE.t rfl) rfl;(repeat(first |rfl|assumption|constructor));done)
  ·rfl
  apply dG 15 O oK
  ·exact iE (hE.t O) O O
  ·rfl
  apply fE 16 O oK O
  refine aU (hE.t O) (hE.t O) O O O (fun hT=>?_)
  refine uE ?_
  apply fE 17 O oK O
  refine uC (xV hE hI hJ (a1:=(A.x:Nat)) (a2:=0) (a3:=(key (BO Es) A.x:Nat)) (a4:=1)) O ?_
  rintro _ _⟨g',c',rfl,rfl⟩
  simp only[uV,uW]
  have ei:(.int .i64 (A.x:Nat):: .int .i64 0:: .int .u64 (key (BO Es) A.x:Nat):: .int .i64 1::Ba (BO Es) M.its:List Value)=Ba (BO Es) (⟨A.x,0,1⟩::M.its):=by rw[iG];rfl
  rw[ei]
  refine uE ?_
  apply dG 18 O oK
  ·exact bA O
  ·rfl
  apply dG 19 O oK
  ·exact EC O
  ·rfl
  apply gW O oK oK O
  refine uS ?_
  refine Bi ?_
  refine BU 71 (.int .i64 (l:Nat)) O (bW oO) ?_
  have hH:=lH (pp:=pp) (tb:=tb) (s:=s) (most:=most) hE hB (b:=S) (bt:=316) (p:=A.p) (c:=A.c) (k:=key (BO Es) A.x) (pre:=[uPt pp]) (suf:=[uPt pp,.bool true,.slice B.p B.fs.length B.c,.int .i64 (B.x:Nat),.int .u64 (key (BO Es) B.x:Nat),.slice (⟨⟨A.x,0,1⟩::M.its,some ⟨g',0,none⟩,c'⟩:Md).p (⟨⟨A.x,0,1⟩::M.its,some ⟨g',0,none⟩,c'⟩:Md).its.length (⟨⟨A.x,0,1⟩::M.its,some ⟨g',0,none⟩,c'⟩:Md).c]) hs k2 (sV k2) hK
  refine uX (hH) O ?_
  rintro _ _⟨x',gs',p',c'',rfl,q1,rfl⟩
  simp only[uV,uW]
  refine Bv ?_
  have hD:=Mx hw hs eA hx ho hF hG q1
  apply xP
  ·rfl
  ·(exact Rs.nil)
  ·refine⟨⟨x',gs',p',c''⟩,⟨⟨A.x,0,1⟩::M.its,some ⟨g',0,none⟩,c'⟩,O,VZ hD (by rw[tC];rfl),?_,.inr ⟨O,hx⟩,O⟩
   rw[hD.seq,tC]
   simp[Cy]
  exact uI
end
section
variable {E:Bp}{Es:List Bj}{pp tb s most S:Nat}
def LH {l:List Nat}{u:Nat}(h:l.getLast?=some u):u∈l:=oq h
def Uz (its:List It)(x:Nat):(dU (its++[⟨x,0,1⟩])).getLast?=some x:=by rw[sZ];simp
def qFq (hE:BP E)(hB:Ca E.w0){l rr:Nat}{A B:Sd}{M:Md}(hs:De (BO Es) rr)(eB:EO (BO Es) true l rr B.x B.fs)(hM:Ez M.its)(hR:∀x∈dU M.its,1<=x/\x<=(BO Es).length) (hT:M.its.length<=1099511627776) (hG:(l+1)%2=0) (hU:l+1<1099511627776) (hn:Cu (l+1)≠122):
  Ct E 216 [uPt S,.int .i64 ((l+1:Nat):Int)] [cells pp [uPt s,uPt tb] 122,BV tb s (BO Es),bR s most Es,cells S [uPt pp,uPt pp,.bool false,.slice A.p A.fs.length A.c,.int .i64 (A.x:Nat),.int .u64 (key (BO Es) A.x:Nat),uPt pp,.bool true,.slice B.p B.fs.length B.c,.int .i64 (B.x:Nat),.int .u64 (key (BO Es) B.x:Nat),.slice M.p M.its.length M.c] 316,sl A.p A.c 332 8 A.fs.length (dZ (BO Es) A.fs),sl B.p B.c 332 8 B.fs.length (dZ (BO Es) B.fs),sl M.p M.c 343 4 M.its.length (Ba (BO Es) M.its)]
   (fun v Q=>∃(B':Sd)(M':Md),v= .tuple #[]/\RR (BO Es) l rr B'.x B'.fs (dU M'.its)/\dU M'.its++BX (BO Es) true l B'.x B'.fs=dU M.its++BX (BO Es) true l B.x B.fs/\(M'=M/\B'=B\/M'.its=M.its++[⟨B.x,0,1⟩]/\B.x≠0)/\Q=[cells pp [uPt s,uPt tb] 122,BV tb s (BO Es),bR s most Es,cells S [uPt pp,uPt pp,.bool false,.slice A.p A.fs.length A.c,.int .i64 (A.x:Nat),.int .u64 (key (BO Es) A.x:Nat),uPt pp,.bool true,.slice B'.p B'.fs.length B'.c,.int .i64 (B'.x:Nat),.int .u64 (key (BO Es) B'.x:Nat),.slice M'.p M'.its.length M'.c] 316,sl A.p A.c 332 8 A.fs.length (dZ (BO Es) A.fs),sl B'.p B'.c 332 8 B'.fs.length (dZ (BO Es) B'.fs),sl M'.p M'.c 343 4 M'.its.length (Ba (BO Es) M'.its)]):=by
 refine eF (p:=bR s most Es) uK (fun _ h=>dR h) (fun hH=>?_);have hw:=hH.1;have hL:(BO Es).length<=1048576:=by have:=hH.2.2;rw[bQ];unfold fJ at this;omega
 have hV:=eB.pl hw hL hs;have hQ:l<=1099511627776:=oO;have hI:=Xi (L:=BO Es) (l:=l) (rl:=rr) (A:=A) hM
 have same:RR (BO Es) l rr B.x B.fs (dU M.its)->∃(B':Sd)(M':Md),Value.tuple #[]= .tuple #[]/\RR (BO Es) l rr B'.x B'.fs (dU M'.its)/\dU M'.its++BX (BO Es) true l B'.x B'.fs=dU M.its++BX (BO Es) true l B.x B.fs/\(M'=M/\B'=B\/M'.its=M.its++[⟨B.x,0,1⟩]/\B.x≠0)/\[cells pp [uPt s,uPt tb] 122,BV tb s (BO Es),bR s most Es,cells S [uPt pp,uPt pp,.bool false,.slice A.p A.fs.length A.c,.int .i64 (A.x:Nat),.int .u64 (key (BO Es) A.x:Nat),uPt pp,.bool true,.slice B.p B.fs.length B.c,.int .i64 (B.x:Nat),.int .u64 (key (BO Es) B.x:Nat),.slice M.p M.its.length M.c] 316,sl A.p A.c 332 8 A.fs.length (dZ (BO Es) A.fs),sl B.p B.c 332 8 B.fs.length (dZ (BO Es) B.fs),sl M.p M.c 343 4 M.its.length (Ba (BO Es) M.its)]=[cells pp [uPt s,uPt tb] 122,BV tb s (BO Es),bR s most Es,cells S [uPt pp,uPt pp,.bool false,.slice A.p A.fs.length A.c,.int .i64 (A.x:Nat),.int .u64 (key (BO Es) A.x:Nat),uPt pp,.bool true,.slice B'.p B'.fs.length B'.c,.int .i64 (B'.x:Nat),.int .u64 (key (BO Es) B'.x:Nat),.slice M'.p M'.its.length M'.c] 316,sl A.p A.c 332 8 A.fs.length (dZ (BO Es) A.fs),sl B'.p B'.c 332 8 B'.fs.length (dZ (BO Es) B'.fs),sl M'.p M'.c 343 4 M'.its.length (Ba (BO Es) M'.its)]:=fun h=>⟨B,M,O,h,O,.inl ⟨O,O⟩,O⟩
 refine bO (hE.fn Tryz.func216) O O O (fun R=>?_);simp only[dS,uV,uW];refine Bo ?_;refine bE O (fun h0=>?_) (fun h0=>?_)
 ·have hS:B.x=0:=oO;refine CL ?_;apply cK
  ·rfl
  ·(exact Rs.nil)
  ·refine same ?_;have:=Vf (L:=BO Es) (l:=l) (root:=rr) (fs:=B.fs) (M:=dU M.its) (by rw[<-hS];exact eB);rwa [<-hS]at this
  exact uI
 have hx:B.x≠0:=oO;obtain⟨k1,k2,k3,k4⟩:=eB.low hx;refine Bu ?_;refine uX (nZ hE (b:=S) (pre:=[uPt pp,uPt pp,.bool false,.slice A.p A.fs.length A.c,.int .i64 (A.x:Nat),.int .u64 (key (BO Es) A.x:Nat)]) (suf:=[.slice M.p M.its.length M.c]) (fs:=B.fs) hV) O ?_;rintro v _⟨⟨o,ho,hv⟩,rfl⟩;simp only[uV,uW];refine CG ?_;cases o with
 |none=>
  obtain rfl:v= .pointer none:=hv
  refine Dv ?_
  refine BH (qWw hE hT) O ?_
  have hN:1=many (BO Es) none:=rfl
  have hO:(l+1)%2=0->∀f:Fm,none=some f->f.hv=1:=fun _ f e=>by cases e
  refine Bq ?_
  refine dV 36 O (fun h3=>?_) (fun h3=>?_)
  ·refine CK ?_
   apply cK
   ·rfl
   ·(exact Rs.nil)
   ·refine same (Vd hw hs eB hx ho (fun f e=>by cases e) hG fun u hu=>?_)
    have h1:=hI u hu
    have h2:=(hR u (LH hu)).1
    omega
   exact uI
  refine CK ?_
  refine uX (YI hE oO hG hU) O ?_
  rintro _ _⟨⟨d,rfl,hd⟩,rfl⟩
  simp only[uV,uW]
  refine Bw ?_
  cases d with
  |false=>
   refine CG ?_
   apply cK
   ·rfl
   ·(exact Rs.nil)
   ·refine same (Vd hw hs eB hx ho (fun f e=>by cases e) hG fun u hu hf=>?_)
    rw[<-hI u hu]at hf
    exact absurd (hd.2 hf) BF
   exact uI
  |true=>
   refine Bz ?_
   refine uN 20 ([cells S [uPt pp,uPt pp,.bool false,.slice A.p A.fs.length A.c,.int .i64 (A.x:Nat),.int .u64 (key (BO Es) A.x:Nat),uPt pp,.bool true,.slice B.p B.fs.length B.c,.int .i64 (B.x:Nat),.int .u64 (key (BO Es) B.x:Nat),.slice M.p M.its.length M.c] 316]) ?_
   refine Bc ?_
   apply dG 10 O oK
   ·exact aB O
   ·rfl
   apply dG 11 O oK
   ·exact bA O
   ·rfl
   apply dG 12 O oK
   ·exact EC O
   ·rfl
   apply dG 13 O oK
   ·exact EC O
   ·rfl
   apply dG 14 O oK
   ·(apply aO rfl (hE.t rfl) rfl;(repeat(first |rfl|assumption|constructor));done)
   ·rfl
   apply dG 15 O oK
   ·exact iE (hE.t O) O O
   ·rfl
   apply fE 16 O oK O
   refine aU (hE.t O) (hE.t O) O O O (fun hW=>?_)
   refine uE ?_
   apply fE 17 O oK O
   refine BJ (fun hA hC hX hP hD hF=>?_)
   refine uE ?_
   apply dG 18 O oK
   ·exact bA O
   ·rfl
   apply dG 19 O oK
   ·exact EC O
   ·rfl
   apply gW O oK oK O
   refine uS ?_
   refine Bv ?_
   obtain rfl:hP=Ba (BO Es) (M.its++[⟨B.x,0,1⟩]):=by rw[hF,jK];rfl
   subst hD
   refine CB ?_
   refine BU 71 (.int .i64 (l:Nat)) O (bW oO) ?_
   have hJ:=lH (pp:=pp) (tb:=tb) (s:=s) (most:=most) hE hB (b:=S) (bt:=316) (p:=B.p) (c:=B.c) (k:=key (BO Es) B.x) (pre:=[uPt pp,uPt pp,.bool false,.slice A.p A.fs.length A.c,.int .i64 (A.x:Nat),.int .u64 (key (BO Es) A.x:Nat)]) (suf:=[.slice (⟨M.its++[⟨B.x,0,1⟩],some ⟨hA,0,none⟩,hC⟩:Md).p (⟨M.its++[⟨B.x,0,1⟩],some ⟨hA,0,none⟩,hC⟩:Md).its.length (⟨M.its++[⟨B.x,0,1⟩],some ⟨hA,0,none⟩,hC⟩:Md).c]) hs k2 (sV k2) hQ
   simp only[aa,bf]at hJ
   refine uX (hJ) O ?_
   rintro _ _⟨x',gs',p',c'',rfl,q1,rfl⟩
   simp only[uV,uW]
   refine Bv ?_
   have hK:=Mx hw hs eB hx ho hN hO q1
   apply xP
   ·rfl
   ·(exact Rs.nil)
   ·refine⟨⟨x',gs',p',c''⟩,⟨M.its++[⟨B.x,0,1⟩],some ⟨hA,0,none⟩,hC⟩,O,Ve hK (.inr (.inr hn)) (Uz _ _),?_,.inr ⟨O,hx⟩,O⟩
    rw[hK.seq,sZ]
    simp[Cy]
   simp only[aa,bf]
   exact uI
 |some f=>
  obtain⟨gs,g,hY,hp,rfl⟩:=hv
  have f7:(dZ (BO Es) B.fs)[(dZ (BO Es) gs).length+7]?=some (.int .i64 (f.hv:Nat)):=by rw[hY];exact Tq
  rw[hp]
  refine Cw ?_
  refine bE O (fun h2=>?_) (fun h2=>?_)
  ·refine CL ?_
   apply cK
   ·rfl
   ·(exact Rs.nil)
   ·exact same (Rv hw hs eB hx ho hG oO hn)
   rw[hp]
   exact uI
  refine Bu ?_
  rw[<-hp]
  obtain⟨_,a,b,_,_,_,_,l4,l5,l6,_⟩:=pW hw hs eB hx ho hG
  have hN:=(XH l4).symm
  have hO:(l+1)%2=0->∀f':Fm,some f=some f'->f'.hv=1:=fun _ f' e=>by cases e;omega
  refine Bv ?_
  refine uN 20 ([cells S [uPt pp,uPt pp,.bool false,.slice A.p A.fs.length A.c,.int .i64 (A.x:Nat),.int .u64 (key (BO Es) A.x:Nat),uPt pp,.bool true,.slice B.p B.fs.length B.c,.int .i64 (B.x:Nat),.int .u64 (key (BO Es) B.x:Nat),.slice M.p M.its.length M.c] 316]) ?_
  refine Bc ?_
  apply dG 10 O oK
  ·exact aB O
  ·rfl
  apply dG 11 O oK
  ·exact bA O
  ·rfl
  apply dG 12 O oK
  ·exact EC O
  ·rfl
  apply dG 13 O oK
  ·exact EC O
  ·rfl
  apply dG 14 O oK
  ·(apply aO rfl (hE.t rfl) rfl;(repeat(first |rfl|assumption|constructor));done)
  ·rfl
  apply dG 15 O oK
  ·exact iE (hE.t O) O O
  ·rfl
  apply fE 16 O oK O
  refine aU (hE.t O) (hE.t O) O O O (fun hW=>?_)
  refine uE ?_
  apply fE 17 O oK O
  refine BJ (fun hA hC hX hP hD hF=>?_)
  refine uE ?_
  apply dG 18 O oK
  ·exact bA O
  ·rfl
  apply dG 19 O oK
  ·exact EC O
  ·rfl
  apply gW O oK oK O
  refine uS ?_
  refine Bv ?_
  obtain rfl:hP=Ba (BO Es) (M.its++[⟨B.x,0,1⟩]):=by rw[hF,jK];rfl
  subst hD
  refine CB ?_
  refine BU 71 (.int .i64 (l:Nat)) O (bW oO) ?_
  have hJ:=lH (pp:=pp) (tb:=tb) (s:=s) (most:=most) hE hB (b:=S) (bt:=316) (p:=B.p) (c:=B.c) (k:=key (BO Es) B.x) (pre:=[uPt pp,uPt pp,.bool false,.slice A.p A.fs.length A.c,.int .i64 (A.x:Nat),.int .u64 (key (BO Es) A.x:Nat)]) (suf:=[.slice (⟨M.its++[⟨B.x,0,1⟩],some ⟨hA,0,none⟩,hC⟩:Md).p (⟨M.its++[⟨B.x,0,1⟩],some ⟨hA,0,none⟩,hC⟩:Md).its.length (⟨M.its++[⟨B.x,0,1⟩],some ⟨hA,0,none⟩,hC⟩:Md).c]) hs k2 (sV k2) hQ
  simp only[aa,bf]at hJ
  refine uX (hJ) O ?_
  rintro _ _⟨x',gs',p',c'',rfl,q1,rfl⟩
  simp only[uV,uW]
  refine Bv ?_
  have hK:=Mx hw hs eB hx ho hN hO q1
  apply xP
  ·rfl
  ·(exact Rs.nil)
  ·refine⟨⟨x',gs',p',c''⟩,⟨M.its++[⟨B.x,0,1⟩],some ⟨hA,0,none⟩,hC⟩,O,Ve hK (.inr (.inr hn)) (Uz _ _),?_,.inr ⟨O,hx⟩,O⟩
   rw[hK.seq,sZ]
   simp[Cy]
  simp only[aa,bf]
  exact uI
end
