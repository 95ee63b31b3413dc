import Derived.Test.YtejcjelmpbkcbaaGreatDoorQ05
import Derived.Test.YtejcjelmpbkcbaaGreatDoorQ31
import Derived.Lib.Overlaps
set_option linter.all false
set_option maxHeartbeats 1000000
namespace Sl
open Go Go.RowKit
variable {E:Env}{n:Nat}{L:Fr}{S:List HP}{ty:TypeId}{pos:String}{af:Array Edge}{d:Option Nat}{gd:Option (Nat×Bool)}
def y_sub_u {x y:Operand}{xt yt:TypeId}{i j:Int}(hx:ev L x=some (.int .u64 i))(hy:ev L y=some (.int .u64 j))(h0:0≤i-j)(h1:i-j≤18446744073709551615):
  Yl E n L S ⟨d,.binOp .sub xt x y yt,ty,pos,af,gd⟩ (.int .u64 (i-j)):=fun a w g _=>by
 have e:IntKind.u64.wrap (i-j)=i-j:=by rw[IntKind.wrap_u64];omega
 simp[execOp,eqGuard,binOp,Op.intArith,g.ev hx,g.ev hy,e]
end Sl
namespace Go.Proofs.YtejcjelmpbkcbaaGreatDoor
open Go Go.RowKit Sl Eg
set_option maxRecDepth 10000
variable {E:Env}{Es:List Ent}{pp tb s most:Nat}
def qVi (hE:Seat E){i:Nat}(hi:i<Es.length):Ct E 224 [uPt pp,.int .i64 ((i+1:Nat):Int)] [cells pp [uPt s,uPt tb] 117,tabP tb s (rls Es),bR s most Es] (fun v Q=>v= .int .i64 (len (rls Es) (i+1):Nat)∧Q=[cells pp [uPt s,uPt tb] 117,tabP tb s (rls Es),bR s most Es]):=by
 refine eU (p:=bR s most Es) uK (fun _ h=>dS h) (fun hsay=>?_);have hent:Es[i]?=some (Es[i]'hi):=ag hi;generalize Es[i]'hi=en at hent;have htx:=hsay.2.1 i en hent;refine bO (hE.fn Tryz.func224) O O O (fun R=>?_);simp only[dX,uV,uW];refine gg8 ?_;refine uX (jS hE) O ?_;rintro _ _⟨rfl,rfl⟩;simp only[uV,uW];refine gg1 ?_;refine uX (qL hE hent) O ?_;rintro _ _⟨rfl,rfl⟩;simp only[uV,uW];refine gg3 ?_;refine uU (cZ (hE.t O) (fun b5=>?_));refine gg12 ?_;exact uZ O (.tmp O .nil) ⟨by rw[len,←htx];rfl,rfl⟩
def qVh (hE:Seat E):Ct E 224 [uPt pp,.int .i64 ((0:Nat):Int)] [cells pp [uPt s,uPt tb] 117,tabP tb s (rls Es),bR s most Es] (fun v Q=>v= .int .i64 ((0:Nat):Int)∧Q=[cells pp [uPt s,uPt tb] 117,tabP tb s (rls Es),bR s most Es]):=by
 refine bO (hE.fn Tryz.func224) O O O (fun R=>?_);simp only[dX,uV,uW];refine gg8 ?_;refine uX (jS hE) O ?_;rintro _ _⟨rfl,rfl⟩;simp only[uV,uW];refine gg1 ?_;refine uX (qFq hE) O ?_;rintro _ _⟨rfl,rfl⟩;simp only[uV,uW];refine gg3 ?_;refine uU (cZ (hE.t O) (fun b5=>?_));refine gg12 ?_;exact uZ O (.tmp O .nil) ⟨O,O⟩
def vB (hE:Seat E){i:Nat}(hi:i≤(rls Es).length):Ct E 224 [uPt pp,.int .i64 (i:Nat)] [cells pp [uPt s,uPt tb] 117,tabP tb s (rls Es),bR s most Es] (fun v Q=>v= .int .i64 (len (rls Es) i:Nat)∧Q=[cells pp [uPt s,uPt tb] 117,tabP tb s (rls Es),bR s most Es]):=by
 cases i with
 |zero=>exact qVh hE
 |succ i=>exact qVi hE (by rw[bQ]at hi;omega)
def qKp (hE:Seat E){l:Nat}(h2:2≤l)(he:l%2=0)(hl:l<1099511627776):Ct E 267 [.int .i64 (l:Nat)] []
  (fun v Q=>(∃a b d,v= .tuple #[.int .i64 a,.int .u64 b,.bool d]∧(d=true↔num l=122))∧Q=[]):=by
 by_cases hc:lnum l=122
 ·refine bO (hE.fn Tryz.func267) O O O (fun R=>?_);simp only[dX,uV,uW];refine gg10 ?_;refine uX (wW hE h2 he hl hc) O ?_;rintro _ _⟨rfl,rfl⟩;simp only[uV,uW];refine gg9 ?_;exact uZ O (.tmp O (.tmp O (.tmp O .nil))) ⟨⟨_,_,true,O,fun _=>hc,fun _=>O⟩,O⟩
 refine bO (hE.fn Tryz.func267) O O O (fun R=>?_);simp only[dX,uV,uW];refine gg10 ?_;refine uX (wV hE h2 he hl hc) O ?_;rintro _ _⟨rfl,rfl⟩;simp only[uV,uW];refine gg9 ?_;exact uZ O (.tmp O (.tmp O (.tmp O .nil))) ⟨⟨_,_,false,O,fun h=>(by cases h),fun h=>absurd h hc⟩,O⟩
def qSe (hE:Seat E){l:Nat}(h2:2≤l)(he:l%2=0)(hl:l<1099511627776):Ct E 277 [.int .i64 (l:Nat)] [] (fun v Q=>v= .tuple ⟨[.int .i64 (num l:Nat),.bool true]⟩∧Q=[]):=by
 apply vY;intro w;rw[hE.P];exact qDo l w h2 he hl
def ct_Fits (hE:Seat E){l x y:Nat}(h2:2≤l)(he:l%2=0)(hl:l<1099511627776):Ct E 291 [.int .u64 (x:Nat),.int .u64 (y:Nat),.int .i64 (l:Nat)] []
  (fun v Q=>(∃d:Bool,v= .bool d∧(d=true↔eY (num l) x y))∧Q=[]):=by
 have hn:=num_le l;refine bO (hE.fn Tryz.func291) O O O (fun R=>?_);simp only[dX,uV,uW];refine gg8 ?_;refine uX (qSe hE h2 he hl) O ?_;rintro _ _⟨rfl,rfl⟩;simp only[uV,uW];refine gg24 ?_;refine bE O (fun hc=>?_) (fun hc=>?_)
 ·have hc':num l=122:=oO;refine gg10 ?_;apply cB
  ·rfl
  ·(apply Rs.tmp rfl;exact Rs.nil)
  ·refine⟨⟨_,O,?_⟩,O⟩;rw[decide_eq_true_eq,hc',eY,if_pos rfl];omega
  exact uI
 have hc':num l≠122:=oO;have e1:((num l:Nat):Int)/2=((num l/2:Nat):Int):=oO;have e2:((num l:Nat):Int)%2=((num l%2:Nat):Int):=oO;have hfb:=sP (c:=num l) (x:=x) (y:=y) hc';have hbl:=qJz y (num l/2);unfold bt at hfb hbl;refine gg13 ?_;refine w_eq 9 (.int .i64 ((num l/2:Nat):Int)) O (bW e1) ?_;refine w_eq 10 (.int .u64 ((num l%2:Nat):Int)) O (bW e2) ?_;refine gg9 ?_;refine eF 34 O (fun h1=>?_) (fun h1=>?_)
 ·refine gg11 ?_;refine uB (y_sub_u O O oO oO) ?_;refine gg7 ?_;apply cB
  ·rfl
  ·(apply Rs.tmp rfl;exact Rs.nil)
  ·refine⟨⟨_,O,?_⟩,O⟩;rw[decide_eq_true_eq,hfb];omega
  exact uI
 refine gg12 ?_;apply cB
 ·rfl
 ·(apply Rs.tmp rfl;exact Rs.nil)
 ·refine⟨⟨false,O,?_⟩,O⟩;rw[hfb];simp only[oJ,false_iff];omega
 exact uI
def qNh (hE:Seat E){l x y:Nat}(h2:2≤l)(he:l%2=0)(hl:l<1099511627776):Ct E 283 [.int .u64 (x:Nat),.int .u64 (y:Nat),.int .i64 (l:Nat)] []
  (fun v Q=>(∃d:Bool,v= .bool d∧(d=true↔eY (num l) x y))∧Q=[]):=by
 refine bO (hE.fn Tryz.func283) O O O (fun R=>?_);simp only[dX,uV,uW];refine gg10 ?_;refine uX (ct_Fits hE h2 he hl) O ?_;rintro _ _⟨⟨d,rfl,hd⟩,rfl⟩;simp only[uV,uW];refine gg4 ?_;exact uZ O (.tmp O .nil) ⟨⟨d,O,hd⟩,O⟩
def cutO (L:List Rl):Option Fm→Bool
 |none=>false
 |some f=>decide (f.hv<fT (rlAt L f.id))
def ct_run (hE:Seat E){b c x k l root:Nat}{pre suf:List Value}{bt:TypeId}{p:Option Addr}{bh:Bool}{fs:List Fm}(hw:Wf (rls Es))(hL:(rls Es).length≤1048576)(hs:Sig (rls Es) root)(he:EO (rls Es) bh l root x fs)(hx:x≠0)(hodd:(l+1)%2=1):
  Ct E 279 [.pointer (some ⟨b,pre.length,none⟩),.int .i64 ((l+1:Nat):Int)] [cells b (pre++uPt pp:: .bool bh:: .slice p fs.length c:: .int .i64 (x:Nat):: .int .u64 (k:Nat)::suf) bt,sl p c 389 8 fs.length (eG (rls Es) fs)]
   (fun v Q=>(∃o,Par (rls Es) (l+1) fs o∧v= .tuple #[.int .i64 (many (rls Es) o:Nat),.bool (cutO (rls Es) o)])∧Q=[cells b (pre++uPt pp:: .bool bh:: .slice p fs.length c:: .int .i64 (x:Nat):: .int .u64 (k:Nat)::suf) bt,sl p c 389 8 fs.length (eG (rls Es) fs)]):=by
 have hfl:=he.pl hw hL hs;obtain⟨_,h2,_,_⟩:=he.low hx;refine bO (hE.fn Tryz.func279) O O O (fun R=>?_);simp only[dX,uV,uW];refine gg10 ?_;refine uX (nX hE hfl) O ?_;rintro v _⟨⟨o,ho,hv⟩,rfl⟩;simp only[uV,uW];cases o with
 |none=>
  obtain rfl:v= .pointer none:=hv
  refine gg19 ?_
  exact uZ O (.tmp O (.tmp O .nil)) ⟨⟨none,ho,O⟩,O⟩
 |some f=>
  obtain⟨gs,g,rfl,rfl,rfl⟩:=hv
  obtain⟨r,l1,l2,l3,l4,l5,l6,ex⟩:=h2.inv
  have er:=iI l3
  obtain⟨y,n,rfl⟩:∃y n,r= .power y n:=by
   have hl:=ho.2;have okf:=l1.ok hw hs;cases r with
   |letter b=>exact absurd rfl (l4 b)
   |pair a b=>have:=(vL hw l2 l3 okf.2.2.1).1;omega
   |power y n=>exact⟨y,n,rfl⟩
  have em:many (rls Es) (some f)=f.hv:=by simp[many,er]
  have ec:cutO (rls Es) (some f)=decide (f.hv<n):=by simp[cutO,er,fT]
  rw[aa,az]at*
  rw[kK]
  refine gg34 ?_
  apply cB
  ·rfl
  ·(apply Rs.tmp rfl;apply Rs.tmp rfl;exact Rs.nil)
  ·refine⟨⟨some f,ho,?_⟩,O⟩
   rw[em,ec,er]
   have e:decide (f.hv<n)=decide (((f.hv:Nat):Int)<(((Rl.power y n).times:Nat):Int)):=by simp[Rl.times]
   rw[e]
   rfl
  exact uI
def qKo (hE:Seat E)(hB:Base E.w0){x:Nat}{bh:Bool}(hs:Sig (rls Es) x):
  Ct E 249 [uPt pp,.int .i64 (x:Nat),.int .i64 (len (rls Es) x:Nat),.bool bh] [cells pp [uPt s,uPt tb] 117,tabP tb s (rls Es),bR s most Es]
   (fun v Q=>∃y gs p c,v= .agg #[uPt pp,.bool bh,.slice p gs.length c,.int .i64 (y:Nat),.int .u64 (key (rls Es) y:Nat)]∧Dn (rls Es) bh 0 x [] y gs∧lvl (rls Es) y≤((0:Nat):Int)∧Q=[cells pp [uPt s,uPt tb] 117,tabP tb s (rls Es),bR s most Es,sl p c 389 8 gs.length (eG (rls Es) gs)]):=by
 refine eU (p:=bR s most Es) uK (fun _ h=>dS h) (fun hsay=>?_);have hlp:=qOb hsay.1 x hs.pos hs.le;have hll:0≤1099511627776:=oO;have hdn:=fun b9 k=>qUp (pp:=pp) (s:=s) (tb:=tb) (most:=most) (b:=b9) (c:=0) (k:=k) (pre:=[]) (suf:=[]) (bt:=366) (bh:=bh) (p:=none) (fs:=[]) hE hB hs .nil hll
 simp only[jq,di,qXq]at hdn;refine bO (hE.fn Tryz.func249) O O O (fun R=>?_);simp only[dX,uV,uW];refine gg2 ?_;refine uU (cZ (hE.t O) (fun b8=>?_));refine gg7 ?_;refine uU (cZ (hE.t O) (fun b9=>?_));refine gg1 ?_;try simp only[bP,sm_0,sm_1,sm_2,sm_3,sm_4,sm_5,sm_6,sm_7]
 refine gg9 ?_;refine bE O (fun h0=>?_) (fun h0=>?_)
 ·exfalso;omega
 refine gg8 ?_;try simp only[bP,sm_0,sm_1,sm_2,sm_3,sm_4,sm_5,sm_6,sm_7]
 refine gg3 ?_;refine yL 1 ?_;refine gg8 ?_;refine uX (vB hE hs.le) O ?_;rintro _ _⟨rfl,rfl⟩;simp only[uV,uW];refine gg3 ?_;refine bE O (fun h1=>?_) (fun h1=>?_)
 ·exfalso;omega
 refine gg7 ?_;refine qAh (gU (t:=389) (sz:=8)) ?_;refine uX (hdn b9 0) O ?_;rintro _ _⟨y,gs,p,c,rfl,q1,q2,rfl⟩;simp only[jq,ik];refine gg6 ?_;try simp only[bP,sm_0,sm_1,sm_2,sm_3,sm_4,sm_5,sm_6,sm_7]
 refine gg3 ?_;apply cB
 ·rfl
 ·((apply Rs.cell rfl (hE.t rfl) rfl;(focus((repeat(first |rfl|assumption|exact ap_0|exact ap_1|exact ap_2|exact ap_3|exact ap_4|exact ap_5|exact ap_6|exact ap_7|constructor));done)));exact Rs.nil)
 ·exact⟨y,gs,p,c,O,q1,q2,O⟩
 exact uI
end Go.Proofs.YtejcjelmpbkcbaaGreatDoor
namespace Sl
section
open Go Go.RowKit
variable {E:Env}{n:Nat}{L:Fr}{S H H':List HP}{ty:TypeId}{pos:String}{af:Array Edge}{d:Option Nat}{gd:Option (Nat×Bool)}{K:Value→List HP→Prop}{Q:Exit→Act→World→Prop}
def qIw {t e:TypeId}{i:TypeInfo}(ht:E.P.underlying t=some (.slice e))(hi:E.P.info? e=some i){b c o dl dc k cc N m:Nat}{q:Addr}{xs us:List Value}{w:World}(ty:TypeId)
  (s:Sat E.w0 w (sl (some ⟨b,0,none⟩) c e i.size N xs::H)) (hm:m=Nat.min k dl) (hu:us.length=m*i.size) (hq:∀j u,us[j]?=some u→w.cell? (q.add j)=some u) (hp:iR us=true) (hN:o+m*i.size≤N*i.size):
  ∃w',(Builtin.copy_ #[t,t] ty #[.slice (some ⟨b,o,none⟩) dl dc,.slice (some q) k cc]).run E.P w= .ok (.int .i64 (m:Nat)) w'∧Sat E.w0 w' (sl (some ⟨b,0,none⟩) c e i.size N (bX xs o us)::H):=by
 have hxl:xs.length=N*i.size:=by obtain⟨h1,h2,_,_,hh,_⟩:=s.hp;exact hh.1
 obtain⟨cur,s1,h1,h2,h3,h4⟩:=s.slice;have hme:N*i.size≤cur.size:=by rw[h3];exact jw _ h1
 obtain⟨w',hr,hs⟩:=tK (E:=E) cur o us w s1 hp oO;have hfc:=run_firstCells_some (P:=E.P) w i.size m q k cc us hu hq;refine⟨w',?_,hs.imp fun k' hk'=>fG (fun k'' hk''=>?_) hk'⟩
 ·subst hm;simp[Builtin.copy_,run_underlying ht,Go.sizeOf,typeInfo,hi,Builtin.lenOf,hfc,hr,goInt]
 refine⟨by rw[aN,hxl],.inr ⟨b,_,rfl,hk'',h1,h2,by simpa[aN]using h3,?_⟩⟩;rw[qE _ _ _ _ oO,h4]
def qWt {x y:Operand}{t e:TypeId}{b o c dl dc k cc N m g es by_ sz sz':Nat}{xs us zs zs':List Value}{kk:TK}{H'':List HP}{bt:TypeId}(ht:E.tab t=some ⟨.slice e es by_,sz,zs⟩)(he:E.tab e=some ⟨kk,sz',zs'⟩)
  (hx:ev L x=some (.slice (some ⟨b,o,none⟩) dl dc)) (hy:ev L y=some (.slice (some ⟨g,0,none⟩) k cc)) (hm:Take (cells g us bt) H H') (hm2:Take (sl (some ⟨b,0,none⟩) c e es N xs) H' H'') (hp:iR us=true) (hl:us.length=m*es) (hmm:m=Nat.min k dl) (hN:o+m*es≤N*es)
  (hk:K (.int .i64 (m:Nat)) (cells g us bt::sl (some ⟨b,0,none⟩) c e es N (bX xs o us)::H'')):Ld E n L H ⟨d,.call {callee:= .builtin .copy,args:= #[x,y],argTypes:= #[t,t]},ty,pos,af,gd⟩ K:=fun Q next a w G hn=>by
 obtain⟨hu,j,hj,hs,hby⟩:=fQ ht;obtain⟨i,z,hi,hi2,hiz,hzc,_⟩:=fH he;obtain rfl:i=j:=by rw[hi]at hj;simpa using hj
 subst hs;have s1:=G.hp.take hm;have s2:Sat E.w0 w (sl (some ⟨b,0,none⟩) c e i.size N xs::cells g us bt::H''):=(s1.imp fun _ h=>fK (fC (fun _=>hm2.out) h));have hnews:∀j u,us[j]?=some u→w.cell? ((⟨g,0,none⟩:Addr).add j)=some u:=fun j u hu=>by rw[addr_add,jg];exact s1.cell j hu
 obtain⟨w',hr,ho⟩:=qIw hu hi ty (dc:=dc) (cc:=cc) s2 hmm hl hnews hp hN
 have hrun:(execOp a.eval ⟨d,.call {callee:= .builtin .copy,args:= #[x,y],argTypes:= #[t,t]},ty,pos,af,gd⟩).run E.P w= .ok (.value (.int .i64 (m:Nat))) w':=by
  simp[execOp,resolve,invoke,builtin,G.f.ev hx,G.f.ev hy,hr]
 unfold Oper.wp;rw[hrun,Oper.upon_value];exact hn _ _ _ hk (ho.imp fun _ h=>fK h)
def qLg {x y:Operand}{t e:TypeId}{b o q c dl dc k cc N m es by_ sz sz':Nat}{xs us zs zs':List Value}{kk:TK}(ht:E.tab t=some ⟨.slice e es by_,sz,zs⟩)(he:E.tab e=some ⟨kk,sz',zs'⟩)
  (hx:ev L x=some (.slice (some ⟨b,o,none⟩) dl dc)) (hy:ev L y=some (.slice (some ⟨b,q,none⟩) k cc)) (hm2:Take (sl (some ⟨b,0,none⟩) c e es N xs) H H') (hus:us=(xs.drop q).take (m*es)) (hp:iR us=true) (hmm:m=Nat.min k dl) (hN:o+m*es≤N*es) (hM:q+m*es≤N*es)
  (hk:K (.int .i64 (m:Nat)) (sl (some ⟨b,0,none⟩) c e es N (bX xs o us)::H')):Ld E n L H ⟨d,.call {callee:= .builtin .copy,args:= #[x,y],argTypes:= #[t,t]},ty,pos,af,gd⟩ K:=fun Q next a w G hn=>by
 obtain⟨hu,j,hj,hs,hby⟩:=fQ ht;obtain⟨i,z,hi,hi2,hiz,hzc,_⟩:=fH he;obtain rfl:i=j:=by rw[hi]at hj;simpa using hj
 subst hs;have s1:=G.hp.take hm2;have hxl:xs.length=N*i.size:=by obtain⟨h1,h2,_,_,hh,_⟩:=s1.hp;exact hh.1
 have hl:us.length=m*i.size:=by rw[hus,jv,lw];omega
 have hnews:∀j u,us[j]?=some u→w.cell? ((⟨b,q,none⟩:Addr).add j)=some u:=fun j u hu=>by
  rw[addr_add];refine(HasC.slice ?_).cell s1;rw[hus,mf]at hu;split at hu
  ·rw[pz]at hu;exact hu
  cases hu
 obtain⟨w',hr,ho⟩:=qIw hu hi ty (dc:=dc) (cc:=cc) s1 hmm hl hnews hp hN
 have hrun:(execOp a.eval ⟨d,.call {callee:= .builtin .copy,args:= #[x,y],argTypes:= #[t,t]},ty,pos,af,gd⟩).run E.P w= .ok (.value (.int .i64 (m:Nat))) w':=by
  simp[execOp,resolve,invoke,builtin,G.f.ev hx,G.f.ev hy,hr]
 unfold Oper.wp;rw[hrun,Oper.upon_value];exact hn _ _ _ hk ho
def qSt {x y:Operand}{t e:TypeId}{b o c dl dc k cc N m g c2 N2 es by_ sz sz':Nat}{xs ys us zs zs':List Value}{kk:TK}{H'':List HP}(ht:E.tab t=some ⟨.slice e es by_,sz,zs⟩)(he:E.tab e=some ⟨kk,sz',zs'⟩)
  (hx:ev L x=some (.slice (some ⟨b,o,none⟩) dl dc)) (hy:ev L y=some (.slice (some ⟨g,0,none⟩) k cc)) (hm:Take (sl (some ⟨g,0,none⟩) c2 e es N2 ys) H H') (hm2:Take (sl (some ⟨b,0,none⟩) c e es N xs) H' H'') (hus:us=ys.take (m*es)) (hM:m≤N2) (hp:iR us=true) (hmm:m=Nat.min k dl) (hN:o+m*es≤N*es)
  (hk:K (.int .i64 (m:Nat)) (sl (some ⟨g,0,none⟩) c2 e es N2 ys::sl (some ⟨b,0,none⟩) c e es N (bX xs o us)::H'')):Ld E n L H ⟨d,.call {callee:= .builtin .copy,args:= #[x,y],argTypes:= #[t,t]},ty,pos,af,gd⟩ K:=fun Q next a w G hn=>by
 obtain⟨hu,j,hj,hs,hby⟩:=fQ ht;obtain⟨i,z,hi,hi2,hiz,hzc,_⟩:=fH he;obtain rfl:i=j:=by rw[hi]at hj;simpa using hj
 subst hs;have s1:=G.hp.take hm;have hyl:ys.length=N2*i.size:=by obtain⟨h1,h2,_,_,hh,_⟩:=s1.hp;exact hh.1
 have hme:m*i.size≤N2*i.size:=jw _ hM;have hl:us.length=m*i.size:=by rw[hus,jv];omega
 have s2:Sat E.w0 w (sl (some ⟨b,0,none⟩) c e i.size N xs::sl (some ⟨g,0,none⟩) c2 e i.size N2 ys::H''):=(s1.imp fun _ h=>fK (fC (fun _=>hm2.out) h))
 have hnews:∀j u,us[j]?=some u→w.cell? ((⟨g,0,none⟩:Addr).add j)=some u:=fun j u hu=>by
  rw[addr_add,jg];refine(HasC.slice ?_).cell s1;rw[hus,mf]at hu;split at hu
  ·exact hu
  cases hu
 obtain⟨w',hr,ho⟩:=qIw hu hi ty (dc:=dc) (cc:=cc) s2 hmm hl hnews hp hN
 have hrun:(execOp a.eval ⟨d,.call {callee:= .builtin .copy,args:= #[x,y],argTypes:= #[t,t]},ty,pos,af,gd⟩).run E.P w= .ok (.value (.int .i64 (m:Nat))) w':=by
  simp[execOp,resolve,invoke,builtin,G.f.ev hx,G.f.ev hy,hr]
 unfold Oper.wp;rw[hrun,Oper.upon_value];exact hn _ _ _ hk (ho.imp fun _ h=>fK h)
def wF {x y:Operand}{t tn e:TypeId}{p:Option Addr}{c k es by_ sz sz' szn:Nat}{zs zs' zsn:List Value}{kk:TK}{kn:IntKind}{i:Int}(ht:E.tab t=some ⟨.slice e es by_,sz,zs⟩)(he:E.tab e=some ⟨kk,sz',zs'⟩)(htn:E.tab tn=some ⟨.int kn,szn,zsn⟩)(hz:(Nat.beq zs'.length es&&Nat.blt 0 es)=true)
  (hx:ev L x=some (.slice p 0 c)) (hy:ev L y=some (.int .i64 i)) (hi:i=(k:Nat)) (hc:c<k) (hb:k*by_≤140737488355328) (hb2:k≤maxLen)
  (hk:∀g' c' us,us.length=k*es→K (.slice (some ⟨g',0,none⟩) k c') (sl (some ⟨g',0,none⟩) c' e es k us::H)):Ld E n L H ⟨d,.call {callee:= .builtin .append,args:= #[x,y],argTypes:= #[t,tn]},ty,pos,af,gd⟩ K:=fun Q next a w G hn=>by
 obtain⟨hu,j,hj,hs,hby⟩:=fQ ht;obtain⟨i',z,hi',hi2,hiz,hzc,_⟩:=fH he;obtain rfl:i'=j:=by rw[hi']at hj;simpa using hj
 simp only[dz]at hz;have z1:=lh hz.1;have z2:0<es:=by simpa[vz]using hz.2
 subst hi hs hby;have hzs:z.cells.size=i'.size:=by rw[←lq,hzc];exact z1
 have hold:(Builtin.firstCells i'.size 0 (.slice p 0 c)).run E.P w.drew= .ok ([]:List Value).toArray w.drew:=by
  cases p with
  |none=>simp[Builtin.firstCells]
  |some q=>exact run_firstCells_some (P:=E.P) w.drew i'.size 0 q 0 c [] (by simp) (fun j u h=>by simp at h)
 have hkb:k*i'.bytes≤281474976710656:=oO;have hsm:((0+k:Nat):Int)≤9223372036854775807:=by simp only[maxLen]at hb2;omega
 have hr:=Lib.run_append_grow_zeros (P:=E.P) w t tn ty e i' z .i64 kn hu (nE htn) hi' hiz p 0 c [] hold k oO oO oO hsm hkb (growslice_fits oO (by rw[jg];exact hb));have hge:=grownCap_ge w (0+k) c e;have hcm:grownCap w (0+k) c e≤maxLen:=grownCap_le_maxLen w (0+k) c e (by rw[jg];exact hb2);rw[jg]at hr hge hcm
 have hrun:(execOp a.eval ⟨d,.call {callee:= .builtin .append,args:= #[x,y],argTypes:= #[t,tn]},ty,pos,af,gd⟩).run E.P w= .ok (.value (.slice (some ⟨w.heap.size,0,none⟩) k (grownCap w k c e))) (w.drew.alloc (.cells (([]:List Value).toArray++Builtin.zeroCells z.cells k++Builtin.zeroCells z.cells (grownCap w k c e-k)) e)):=by
  simp[execOp,resolve,invoke,builtin,G.f.ev hx,G.f.ev hy,hr]
 have hzl:(Builtin.zeroCells z.cells k).toList.length=k*i'.size:=by simp[size_zeroCells,hzs]
 unfold Oper.wp;rw[hrun,Oper.upon_value];refine hn _ _ _ (hk w.heap.size (grownCap w k c e) (Builtin.zeroCells z.cells k).toList hzl) ((G.hp.drew.new _).imp fun k' hk'=>fG (fun k'' hk''=>?_) hk');refine⟨hzl,.inr ⟨_,_,O,hk'',hge,hcm,?_,?_⟩⟩
 ·simp only[Array.size_append,vg,di,size_zeroCells,hzs,jg,←ou];congr 1;omega
 simp only[Array.toList_append,jq];rw[←hzl];exact yf
def qNz {x y:Operand}{f:FuncId}{fn:Func}{t tR e:TypeId}{b o c la ca lb cb N g go es by_ sz sz':Nat}{xs us zs zs':List Value}{kk:TK}{H'':List HP}{bt:TypeId}{ts:Array TypeId}(ht:E.tab t=some ⟨.slice e es by_,sz,zs⟩)(he:E.tab e=some ⟨kk,sz',zs'⟩)
  (hf : E.P.funcs[f]? = some fn) (hname : (fn.name == "runtime.NumGoroutine") = false) (hb : fn.body.isNone = true) (hnx : Extern.findNext fn = none) (hex : Extern.find fn = some (Extern.SlicesOverlaps.overlaps #[t, t] #[tR]))
  (hx:ev L x=some (.slice (some ⟨g,go,none⟩) la ca)) (hy:ev L y=some (.slice (some ⟨b,o,none⟩) lb cb)) (hm:Take (cells g us bt) H H') (hm2:Take (sl (some ⟨b,0,none⟩) c e es N xs) H' H'') (hN:0<N*es) (hne:g≠b)
  (hk:K (.bool false) H):Ld E n L H ⟨d,.call {callee:= .value (.func f),args:= #[x,y],argTypes:=ts},ty,pos,af,gd⟩ K:=fun Q next a w G hn=>by
 obtain⟨hu,j,hj,hs,hby⟩:=fQ ht;obtain⟨i,z,hi,hi2,hiz,hzc,_⟩:=fH he;obtain rfl:i=j:=by rw[hi]at hj;simpa using hj
 subst hs;have s1:=G.hp.take hm;have s2:Sat E.w0 w (sl (some ⟨b,0,none⟩) c e i.size N xs::cells g us bt::H''):=(s1.imp fun _ h=>fK (fC (fun _=>hm2.out) h));obtain⟨cur,s3,h1,h2,h3,h4⟩:=s2.slice;have hc:0<c*i.size:=kv hN (jw _ h1);have e1:=s1.ptr.1;have e2:=s3.ptr.1;have hov:=Lib.run_overlaps_apart (P:=E.P) w t tR e hu i.size (fun w=>by rw[sF he w,←hi2]) ⟨g,go,none⟩ ⟨b,o,none⟩ la ca lb cb hne bt e us.length cur.size (by simp[World.shape?,e1]) (by simp[World.shape?,e2]) oO (by simp[World.frozen?,e1]) (by simp[World.frozen?,e1])
 have hrun:(execOp a.eval ⟨d,.call {callee:= .value (.func f),args:= #[x,y],argTypes:=ts},ty,pos,af,gd⟩).run E.P w= .ok (.value (.bool false)) w:=by
  have h5:a.eval (.func f)= .func (.func f) #[] #[]:=rfl;simp[execOp,resolve,Deferred.ofValue,invoke,h5,G.f.ev hx,G.f.ev hy,run_callFunc_extern hf hname hb hnx hex,hov]
 unfold Oper.wp;rw[hrun,Oper.upon_value];exact hn _ _ _ hk G.hp
end
section
open Go Go.RowKit
variable {E:Env}{n:Nat}{L:Fr}{S H H':List HP}{ty:TypeId}{pos:String}{af:Array Edge}{d:Option Nat}{gd:Option (Nat×Bool)}
def qPb {x:Operand}{t e:TypeId}{p:Option Addr}{len cap:Nat}{s b sz:Nat}{zs:List Value}(hx:ev L x=some (.slice p len cap))(ht:E.tab t=some ⟨.slice e s b,sz,zs⟩):
  Yl E n L S ⟨d,.call {callee:= .builtin .cap,args:= #[x],argTypes:= #[t]},ty,pos,af,gd⟩ (.int .i64 (cap:Nat)):=fun a w g _=>by
 obtain⟨hu,_⟩:=fQ ht;simp[execOp,resolve,invoke,builtin,Builtin.cap_,underlying,program,Sem.run,hu,g.ev hx,goInt]
def qYq {p:HP}{h:PH}(x:p h):dU [p] h:=⟨h,fun _=>none,fun _=> .inr rfl,by funext k;simp[join],x,trivial⟩
def sl_more {b c sz m:Nat}{xs:List Value}{t:TypeId}{k:PH}(h:sl (some ⟨b,0,none⟩) c t sz m xs k)(hm:m+1≤c):∃us:List Value,us.length=sz∧sl (some ⟨b,0,none⟩) c t sz (m+1) (xs++us) k:=by
 obtain⟨hl,h1|⟨g,cur,h1,h2,h3,h4,h5,h6⟩⟩:=h
 ·cases h1.1
 have hs:(m+1)*sz≤cur.size:=by rw[h5];exact jw _ hm
 have e:(m+1)*sz=m*sz+sz:=by rw[ou,zo]
 have hcl:cur.toList.length=cur.size:=lq;have hul:((cur.toList.drop (m*sz)).take sz).length=sz:=by rw[jv,lw];omega
 refine⟨(cur.toList.drop (m*sz)).take sz,hul,by rw[aa,hl,hul,e],.inr ⟨g,cur,h1,h2,hm,h4,h5,?_⟩⟩;rw[e,List.take_add,h6]
end
end Sl
namespace Go.Proofs.YtejcjelmpbkcbaaGreatDoor
open Go Go.RowKit Sl Eg
set_option maxRecDepth 10000
variable {E:Env}{Es:List Ent}{pp tb s most:Nat}
def wE {b k c l n m:Nat}(h:¬c=l):(.slice (some (if c=l then(⟨b,0,none⟩:Addr)else Addr.add ⟨b,0,none⟩ (l*k))) n m:Value)= .slice (some ⟨b,l*k,none⟩) n m:=by
 rw[if_neg h,addr_add]
def ins_eq {zs xs v:List Value}{n:Nat}(hz:zs.length=(n+1)*4)(hx:xs.length=n*4)(hv:v.length=4):bX (bX zs 0 v) 4 xs=v++xs:=by
 rw[kM v zs 0 oO,nk,jq,jg,hv,kM xs _ 4 (by simp;omega)];rw[ny oO,bz oO,jy (l:=v++List.drop 4 zs) (by simp;omega),aj]
def ins_eq2 {zs xs v:List Value}{n:Nat}(hz:zs.length=(n+1)*4)(hx:xs.length=n*4)(hv:v.length=4):bX (bX zs 4 xs) 0 v=v++xs:=by
 rw[kM xs zs 4 oO,kM v _ 0 (by simp;omega),nk,jq,jg,hv,jy (l:=zs) oO,aj];rw[oP (by simp;omega),jy (by simp;omega)];rfl
def InsPost (xs:List Value)(n:Nat)(a1 a2 a3 a4:Int)(v:Value)(Q:List HP):Prop:=∃g' c',v= .slice (some ⟨g',0,none⟩) (n+1) c'∧Q=[sl (some ⟨g',0,none⟩) c' 400 4 (n+1) ([.int .i64 a1,.int .i64 a2,.int .u64 a3,.int .i64 a4]++xs)]
def qRt (hE:Seat E){p:Option Addr}{c g cc:Nat}{a1 a2 a3 a4:Int}:Ct E 280 [.slice p 0 c,.int .i64 0,.slice (some ⟨g,0,none⟩) 1 cc] [sl p c 400 4 0 [],cells g [.int .i64 a1,.int .i64 a2,.int .u64 a3,.int .i64 a4] 400] (InsPost [] 0 a1 a2 a3 a4):=by
 refine bO (hE.fn Tryz.func280) O O O (fun R=>?_);simp only[dX,uV,uW];refine gg9 ?_;refine uB (qJv (l:=0) O (hE.t O) ⟨_,O⟩ O oO oO) ?_;refine gg39 ?_;refine uU ?_;apply bU (hE.t O) (hE.t O) O O O
 ·exact uK
 ·exact uK
 ·rfl
 ·rfl
 ·omega
 ·omega
 ·(unfold maxLen;omega)
 intro g' c' m' x' hm hx;obtain rfl:m'=0+1:=hm;subst hx;refine gg5 ?_;exact uZ O (.tmp O .nil) ⟨g',c',O,O⟩
def qRu (hE:Seat E){b c n g cc:Nat}{a1 a2 a3 a4:Int}{xs:List Value}(hn:n≤1099511627776)(hn1:1≤n)(hpx:iR xs=true)(hgb:g≠b):Ct E 280 [.slice (some ⟨b,0,none⟩) n c,.int .i64 0,.slice (some ⟨g,0,none⟩) 1 cc] [sl (some ⟨b,0,none⟩) c 400 4 n xs,cells g [.int .i64 a1,.int .i64 a2,.int .u64 a3,.int .i64 a4] 400] (InsPost xs n a1 a2 a3 a4):=by
 refine eU (p:=sl (some ⟨b,0,none⟩) c 400 4 n xs) uK (fun _ h=>pM h) ?_;rintro⟨hcap,hcm,hxl⟩;unfold maxLen at hcm;refine bO (hE.fn Tryz.func280) O O O (fun R=>?_);simp only[dX,uV,uW];refine gg9 ?_;refine uB (qJv (l:=0) O (hE.t O) ⟨_,O⟩ O oO oO) ?_;refine gg34 ?_;refine bE O (fun h0=>?_) (fun h0=>?_)
 ·exfalso;omega
 refine gg9 ?_;refine uB (qPb O (hE.t O)) ?_;refine gg3 ?_;refine bE O (fun hg=>?_) (fun hg=>?_)
 ·have hb2:n+1≤maxLen:=by unfold maxLen;omega
  have hm1:1=Nat.min 1 (n+1):=by show 1=min 1 (n+1);omega
  have hm2:n=Nat.min n (n+1-1):=by show n=min n (n+1-1);omega
  have hxt:xs=xs.take (n*4):=(bz oO).symm;refine gg4 ?_;refine uB (fU 0 O O (hE.t O) O (au _)) ?_;refine gg5 ?_;refine uU ?_;refine wF (k:=n+1) (hE.t O) (hE.t O) (hE.t O) O O O oO oO oO hb2 (fun g' c' zs hzl=>?_);refine sZ (p:=sl (some ⟨g',0,none⟩) c' 400 4 (n+1) zs) uK (fun _ h=>pM h) ?_;rintro⟨hc', -, -⟩;refine gg7 ?_;refine uB (gD (l:=0) O (hE.t O) ⟨_,O⟩ O oO oO) ?_;refine l_eq 43 (.slice (some ⟨g',0,none⟩) (n+1) c') O (by rw[wE oO];rfl) ?_;refine gg1 ?_;refine uU ?_;refine qWt (m:=1) (hE.t O) (hE.t O) O O uK uK O O hm1 oO ?_;refine gg8 ?_;refine uB (gD (l:=1) O (hE.t O) ⟨_,O⟩ O oO oO) ?_;refine l_eq 50 (.slice (some ⟨g',4,none⟩) (n+1-1) (c'-1)) O (by rw[wE oO]) ?_;refine gg2 ?_;refine uB (gD (l:=0) O (hE.t O) ⟨_,O⟩ O oO oO) ?_;refine l_eq 53 (.slice (some ⟨b,0,none⟩) n c) O (by rw[wE oO];rfl) ?_;refine uU ?_;refine qSt (m:=n) (us:=xs) (hE.t O) (hE.t O) O O uK uK hxt (ai _) hpx hm2 oO ?_;refine gg10 ?_;exact uZ O (.tmp O .nil) ⟨g',c',O,by rw[←ins_eq (zs:=zs) (v:=[.int .i64 a1,.int .i64 a2,.int .u64 a3,.int .i64 a4]) hzl hxl rfl]⟩
 have hm1:1=Nat.min 1 (n+1):=by show 1=min 1 (n+1);omega
 have hm2:n=Nat.min (n+1) (n+1-1):=by show n=min (n+1) (n+1-1);omega
 refine w_open (ps:=fun us=>[sl (some ⟨b,0,none⟩) c 400 4 (n+1) (xs++us)]) uK (fun k h=>by obtain⟨us,_,q⟩:=sl_more h oO;exact⟨us,qYq q⟩) (fun us=>?_);simp only[uV,uW];refine jG (p:=sl (some ⟨b,0,none⟩) c 400 4 (n+1) (xs++us)) uK (fun _ h=>pM h) ?_;rintro⟨-, -,hzl⟩;have hxt:xs=((xs++us).drop 0).take (n*4):=by rw[oU,ny oO,bz oO]
 refine gg8 ?_;refine uB (fU (n+1) O O (hE.t O) oO oO) ?_;refine gg11 ?_;refine uB (gD (l:=1) O (hE.t O) ⟨_,O⟩ O oO oO) ?_;refine l_eq 66 (.slice (some ⟨b,4,none⟩) (n+1-1) (c-1)) O (by rw[wE oO]) ?_;refine uU ?_;refine qNz (t:=368) (tR:=4) (hE.t O) (hE.t O) (hE.fn Tryz.func289) oK oK oK oK O O uK uK oO hgb ?_;refine gg10 ?_;refine uB (gD (l:=1) O (hE.t O) ⟨_,O⟩ O oO oO) ?_;refine l_eq 73 (.slice (some ⟨b,4,none⟩) (n+1-1) (c-1)) O (by rw[wE oO]) ?_;refine gg2 ?_;refine uB (gD (l:=0) O (hE.t O) ⟨_,O⟩ O oO oO) ?_;refine l_eq 76 (.slice (some ⟨b,0,none⟩) (n+1) c) O (by rw[wE oO];rfl) ?_;refine uU ?_;refine qLg (m:=n) (us:=xs) (hE.t O) (hE.t O) O O uK hxt hpx hm2 oO oO ?_;refine gg6 ?_;refine uB (gD (l:=0) O (hE.t O) ⟨_,O⟩ O oO oO) ?_;refine l_eq 80 (.slice (some ⟨b,0,none⟩) (n+1) c) O (by rw[wE oO];rfl) ?_;refine gg1 ?_;refine uU ?_;refine qWt (m:=1) (hE.t O) (hE.t O) O O uK uK O O hm1 oO ?_;refine gg10 ?_;exact uZ O (.tmp O .nil) ⟨b,c,O,by rw[←ins_eq2 (zs:=xs++us) (v:=[.int .i64 a1,.int .i64 a2,.int .u64 a3,.int .i64 a4]) hzl hxl rfl]⟩
end Go.Proofs.YtejcjelmpbkcbaaGreatDoor
namespace Sl
open Go Go.RowKit
def sl_apart {w0 w:World}{g b c sz n:Nat}{us xs:List Value}{t t2:TypeId}{H:List HP}(s:Sat w0 w (sl (some ⟨b,0,none⟩) c t2 sz n xs::cells g us t::H)):g≠b:=by
 intro e;subst e;obtain⟨h1,h2,d,e,hp,hr⟩:=s.hp;obtain⟨h3,h4,d2,e2,hq,_⟩:=hr;obtain⟨_,h0|⟨g',cur,h0,hb,_⟩⟩:=hp
 ·cases h0.1
 cases h0
 have hc:h3 g=some _:=hq
 have h5:h2 g=none:=by
  rcases d g with h| h
  ·rw[hb]at h;cases h
  exact h
 rw[e2]at h5;unfold join at h5;rw[hc]at h5;simp at h5
end Sl
namespace Go.Proofs.YtejcjelmpbkcbaaGreatDoor
open Go Go.RowKit Sl Eg
set_option maxRecDepth 10000
section
variable {E:Env}{Es:List Ent}{pp tb s most S:Nat}
structure Sd where
 x:Nat
 fs:List Fm
 p:Option Addr
 c:Nat
structure Md where
 its:List It
 p:Option Addr
 c:Nat
def itC (L:List Rl)(it:It):List Value:=[.int .i64 (it.id:Nat),.int .i64 (it.next:Nat),.int .u64 (key L it.id:Nat),.int .i64 (it.times:Nat)]
def itsC (L:List Rl)(its:List It):List Value:=its.flatMap (itC L)
def gV (L:List Rl)(it:It)(its:List It):itsC L (it::its)= .int .i64 (it.id:Nat):: .int .i64 (it.next:Nat):: .int .u64 (key L it.id:Nat):: .int .i64 (it.times:Nat)::itsC L its:=by simp[itsC,itC]
def jC (L:List Rl)(its:List It)(it:It):itsC L (its++[it])=itsC L its++ .int .i64 (it.id:Nat):: .int .i64 (it.next:Nat):: .int .u64 (key L it.id:Nat):: .int .i64 (it.times:Nat)::[]:=by simp[itsC,itC]
def rT (L:List Rl)(its:List It):(itsC L its).length=its.length*4:=by
 induction its with
 |nil=>rfl
 |cons it its ih=>rw[gV,av,av,av,av,ih,av];omega
def qFz (L:List Rl)(its:List It):iR (itsC L its)=true:=by
 induction its with
 |nil=>rfl
 |cons it its ih=>rw[gV];exact ih
def qQc {L:List Rl}(M:List Rl){its:List It}(h:∀it∈its,it.id≤L.length):itsC (L++M) its=itsC L its:=by
 induction its with
 |nil=>rfl
 |cons it its ih=>rw[gV,gV,ih fun i hi=>h i (by simp[hi]),fM M (h it (by simp))]
def pJ {L:List Rl}{its:List It}{g n:Nat}(h:n=its.length+1):(.pointer (some ⟨g,0+(((n:Nat):Int)-1).toNat*4,none⟩):Value)= .pointer (some ⟨g,(itsC L its).length,none⟩):=by
 rw[rT,show 0+(((n:Nat):Int)-1).toNat*4=its.length*4 by omega]
def wU (hE:Seat E){p:Option Addr}{c n g cc:Nat}{a1 a2 a3 a4:Int}{xs:List Value}(hn:n≤1099511627776)(hpx:iR xs=true):Ct E 280 [.slice p n c,.int .i64 0,.slice (some ⟨g,0,none⟩) 1 cc] [sl p c 400 4 n xs,cells g [.int .i64 a1,.int .i64 a2,.int .u64 a3,.int .i64 a4] 400] (InsPost xs n a1 a2 a3 a4):=by
 refine eU (p:=sl p c 400 4 n xs) uK (fun _ h=>pM h) ?_;rintro⟨-, -,hxl⟩;rcases jr n with rfl|h1
 ·obtain rfl:xs=[]:=dh oO;exact qRt hE
 refine eU (p:=sl p c 400 4 n xs) uK (fun _ h=>fA h h1) ?_;rintro⟨b,rfl⟩;intro R w hs;exact qRu hE hn h1 hpx (sl_apart hs) R w hs
def fstS (B:Sd)(M:Md):Nat:=match M.its with |[]=>B.x|it::_=>it.id
def lstS (A:Sd)(M:Md):Nat:=match M.its.getLast? with |none=>A.x|some it=>it.id
def qPl (hE:Seat E){A B:Sd}{M:Md}:Ct E 278 [uPt S] [cells S [uPt pp,uPt pp,.bool false,.slice A.p A.fs.length A.c,.int .i64 (A.x:Nat),.int .u64 (key (rls Es) A.x:Nat),uPt pp,.bool true,.slice B.p B.fs.length B.c,.int .i64 (B.x:Nat),.int .u64 (key (rls Es) B.x:Nat),.slice M.p M.its.length M.c] 370,sl M.p M.c 400 4 M.its.length (itsC (rls Es) M.its)] (fun v Q=>v= .tuple #[.int .i64 (fstS B M:Nat),.int .u64 (key (rls Es) (fstS B M):Nat)]∧Q=[cells S [uPt pp,uPt pp,.bool false,.slice A.p A.fs.length A.c,.int .i64 (A.x:Nat),.int .u64 (key (rls Es) A.x:Nat),uPt pp,.bool true,.slice B.p B.fs.length B.c,.int .i64 (B.x:Nat),.int .u64 (key (rls Es) B.x:Nat),.slice M.p M.its.length M.c] 370,sl M.p M.c 400 4 M.its.length (itsC (rls Es) M.its)]):=by
 obtain⟨its,p,c⟩:=M;cases its with
 |nil=>
  refine bO (hE.fn Tryz.func278) O O O (fun R=>?_)
  simp only[dX,uV,uW]
  refine gg17 ?_
  refine bE O (fun h=>?_) (fun h=>?_)
  ·exfalso;simp at h
  refine gg19 ?_
  exact uZ O (.tmp O (.tmp O .nil)) ⟨O,O⟩
 |cons it its=>
  simp only
  refine eU (p:=sl (⟨it::its,p,c⟩:Md).p (⟨it::its,p,c⟩:Md).c 400 4 (⟨it::its,p,c⟩:Md).its.length (itsC (rls Es) (⟨it::its,p,c⟩:Md).its)) uK (fun _ h=>fA h (by simp)) ?_
  rintro⟨g,rfl⟩
  rw[gV]
  refine bO (hE.fn Tryz.func278) O O O (fun R=>?_)
  simp only[dX,uV,uW]
  refine gg17 ?_
  refine bE O (fun h=>?_) (fun h=>?_)
  ·have hl:(1:Int)≤((it::its).length:Nat):=by simp only[av];omega
   refine gg22 ?_
   exact uZ O (.tmp O (.tmp O .nil)) ⟨O,O⟩
  exfalso;apply h;simp only[av];omega
def qUt (hE:Seat E){A B:Sd}{M:Md}(hl:M.its.length≤1099511627776):Ct E 282 [uPt S] [cells S [uPt pp,uPt pp,.bool false,.slice A.p A.fs.length A.c,.int .i64 (A.x:Nat),.int .u64 (key (rls Es) A.x:Nat),uPt pp,.bool true,.slice B.p B.fs.length B.c,.int .i64 (B.x:Nat),.int .u64 (key (rls Es) B.x:Nat),.slice M.p M.its.length M.c] 370,sl M.p M.c 400 4 M.its.length (itsC (rls Es) M.its)] (fun v Q=>v= .tuple #[.int .i64 (lstS A M:Nat),.int .u64 (key (rls Es) (lstS A M):Nat)]∧Q=[cells S [uPt pp,uPt pp,.bool false,.slice A.p A.fs.length A.c,.int .i64 (A.x:Nat),.int .u64 (key (rls Es) A.x:Nat),uPt pp,.bool true,.slice B.p B.fs.length B.c,.int .i64 (B.x:Nat),.int .u64 (key (rls Es) B.x:Nat),.slice M.p M.its.length M.c] 370,sl M.p M.c 400 4 M.its.length (itsC (rls Es) M.its)]):=by
 obtain⟨its,p,c⟩:=M;rcases bu its with rfl|⟨is,it,rfl⟩
 ·refine bO (hE.fn Tryz.func282) O O O (fun R=>?_);simp only[dX,uV,uW];refine gg23 ?_;refine bE O (fun h=>?_) (fun h=>?_)
  ·exfalso;simp at h
  refine gg19 ?_;exact uZ O (.tmp O (.tmp O .nil)) ⟨O,O⟩
 rw[bv]at*;have hil:(is++[it]).length=is.length+1:=by simp
 have hl':is.length+1≤1099511627776:=by have:=hl;simp only at this;omega
 have el:lstS A ⟨is++[it],p,c⟩=it.id:=by simp[lstS]
 rw[el];simp only;rw[hil]at*;refine eU (p:=sl p c 400 4 (is.length+1) (itsC (rls Es) (is++[it]))) uK (fun _ h=>fA h oO) ?_;rintro⟨g,rfl⟩;rw[jC];refine bO (hE.fn Tryz.func282) O O O (fun R=>?_);simp only[dX,uV,uW];refine gg23 ?_;refine bE O (fun h=>?_) (fun h=>?_)
 ·refine gg9 ?_;refine l_eq 18 _ O (pJ (L:=rls Es) O) ?_;refine gg9 ?_;refine l_eq 27 _ O (pJ (L:=rls Es) O) ?_;refine gg8 ?_;exact uZ O (.tmp O (.tmp O .nil)) ⟨O,O⟩
 exfalso;omega
end
section
variable {E:Env}{Es:List Ent}{pp tb s most S:Nat}
def qQb {its:List It}{it:It}(h:it∈its)(ht:1≤it.times):it.id∈dV its:=by
 refine List.mem_flatMap.2 ⟨it,h,?_⟩;obtain⟨m,hm⟩:∃m,it.times=m+1:=⟨it.times-1,oO⟩;unfold itF;rw[hm,cu,ko];split <;>simp
def vI {it:It}(ht:1≤it.times):(itF it).head?=some it.id:=by
 obtain⟨m,hm⟩:∃m,it.times=m+1:=⟨it.times-1,oO⟩;unfold itF;rw[hm,cu,ko];split <;>simp
def qPy {L:List Rl}{l rr:Nat}{B:Sd}{M:Md}(he:EO L true l rr B.x B.fs)(ht:∀it∈M.its,1≤it.times) (hR:∀x∈dV M.its,1≤x∧x≤L.length):
  (fstS B M=0→dV M.its++seqE L true l B.x B.fs=[])∧(fstS B M≠0→(dV M.its++seqE L true l B.x B.fs).head?=some (fstS B M)):=by
 obtain⟨its,p,c⟩:=M;obtain⟨x,fs,q,d⟩:=B;simp only at*;cases its with
 |nil=>
  simp only[fstS,qWa,jq]
  refine⟨fun h=>?_,fun h=>he.head h⟩
  subst h
  rw[he.zero,kC]
 |cons it its=>
  have h1:=ht it (by simp)
  have h2:=(hR it.id (qQb (by simp) h1)).1
  simp only[fstS]
  refine⟨fun h=>by omega,fun _=>?_⟩
  rw[iC,ah,ug,vI h1]
  rfl
def qHy {L:List Rl}{l rl:Nat}{A:Sd}{M:Md}(hs:Sng M.its):∀u,(dV M.its).getLast?=some u→lstS A M=u:=by
 obtain⟨its,p,c⟩:=M;simp only at*;intro u hu;rcases bu its with rfl|⟨is,it,rfl⟩
 ·simp[dV]at hu
 rw[bv]at*;have h1:=hs it (by simp);rw[fO,jB,lV h1.1]at hu;obtain⟨m,hm⟩:∃m,it.times=m+1:=⟨it.times-1,oO⟩;rw[hm,lg]at hu;simp at hu;simp[lstS,hu]
def qDp {L:List Rl}{gs:List Fm}{f:Fm}:(eG L (gs++[f]))[(eG L gs).length+7]?=some (.int .i64 (f.hv:Nat)):=by rw[kK];exact ap_7
def sO {L:List Rl}{bh:Bool}{root x:Nat}{fs:List Fm}(h:Lk L bh root x fs):Drp L 1 fs:=⟨ai _,fun _=>rfl,fun g f e=>⟨by subst e;obtain⟨_,_,_,_,_,q,_,_⟩:=h.inv;exact q,.inl rfl⟩⟩
def qDi {L:List Rl}{f:Fm}{a b:Nat}(h:rlAt L f.id= .pair a b):many L (some f)=1:=by simp[many,h]
def sS (x:Nat)(its:List It):dV (⟨x,0,1⟩::its)=x::dV its:=by rw[iC,qCx];rfl
def sQ (x:Nat)(its:List It):dV (its++[⟨x,0,1⟩])=dV its++[x]:=by rw[fO,jB,qCx];rfl
def qHc (hE:Seat E)(hB:Base E.w0){l rl rr:Nat}{A B:Sd}{M:Md}(hs:Sig (rls Es) rl)(eA:EO (rls Es) false l rl A.x A.fs)(eB:EO (rls Es) true l rr B.x B.fs)(hM:∀it∈M.its,1≤it.times) (hR:∀x∈dV M.its,1≤x∧x≤(rls Es).length) (hml:M.its.length≤1099511627776) (hev:(l+1)%2=0) (hll:l+1<1099511627776):
  Ct E 268 [uPt S,.int .i64 ((l+1:Nat):Int)] [cells pp [uPt s,uPt tb] 117,tabP tb s (rls Es),bR s most Es,cells S [uPt pp,uPt pp,.bool false,.slice A.p A.fs.length A.c,.int .i64 (A.x:Nat),.int .u64 (key (rls Es) A.x:Nat),uPt pp,.bool true,.slice B.p B.fs.length B.c,.int .i64 (B.x:Nat),.int .u64 (key (rls Es) B.x:Nat),.slice M.p M.its.length M.c] 370,sl A.p A.c 389 8 A.fs.length (eG (rls Es) A.fs),sl B.p B.c 389 8 B.fs.length (eG (rls Es) B.fs),sl M.p M.c 400 4 M.its.length (itsC (rls Es) M.its)]
   (fun v Q=>∃(A':Sd)(M':Md),v= .tuple #[]∧RL (rls Es) l rl A'.x A'.fs (dV M'.its++seqE (rls Es) true l B.x B.fs)∧seqE (rls Es) false l A'.x A'.fs++dV M'.its=seqE (rls Es) false l A.x A.fs++dV M.its∧(M'=M∧A'=A∨M'.its=⟨A.x,0,1⟩::M.its∧A.x≠0)∧Q=[cells pp [uPt s,uPt tb] 117,tabP tb s (rls Es),bR s most Es,cells S [uPt pp,uPt pp,.bool false,.slice A'.p A'.fs.length A'.c,.int .i64 (A'.x:Nat),.int .u64 (key (rls Es) A'.x:Nat),uPt pp,.bool true,.slice B.p B.fs.length B.c,.int .i64 (B.x:Nat),.int .u64 (key (rls Es) B.x:Nat),.slice M'.p M'.its.length M'.c] 370,sl A'.p A'.c 389 8 A'.fs.length (eG (rls Es) A'.fs),sl B.p B.c 389 8 B.fs.length (eG (rls Es) B.fs),sl M'.p M'.c 400 4 M'.its.length (itsC (rls Es) M'.its)]):=by
 refine eU (p:=bR s most Es) uK (fun _ h=>dS h) (fun hsay=>?_);have hw:=hsay.1;have hL:(rls Es).length≤1048576:=by have:=hsay.2.2;rw[bQ];unfold fP at this;omega
 have hfl:=eA.pl hw hL hs;obtain⟨hf0,hf1⟩:=qPy eB hM hR;have hpl:=qFz (rls Es) M.its;have hl1:l≤1099511627776:=oO
 have same:RL (rls Es) l rl A.x A.fs (dV M.its++seqE (rls Es) true l B.x B.fs)→∃(A':Sd)(M':Md),Value.tuple #[]= .tuple #[]∧RL (rls Es) l rl A'.x A'.fs (dV M'.its++seqE (rls Es) true l B.x B.fs)∧seqE (rls Es) false l A'.x A'.fs++dV M'.its=seqE (rls Es) false l A.x A.fs++dV M.its∧(M'=M∧A'=A∨M'.its=⟨A.x,0,1⟩::M.its∧A.x≠0)∧[cells pp [uPt s,uPt tb] 117,tabP tb s (rls Es),bR s most Es,cells S [uPt pp,uPt pp,.bool false,.slice A.p A.fs.length A.c,.int .i64 (A.x:Nat),.int .u64 (key (rls Es) A.x:Nat),uPt pp,.bool true,.slice B.p B.fs.length B.c,.int .i64 (B.x:Nat),.int .u64 (key (rls Es) B.x:Nat),.slice M.p M.its.length M.c] 370,sl A.p A.c 389 8 A.fs.length (eG (rls Es) A.fs),sl B.p B.c 389 8 B.fs.length (eG (rls Es) B.fs),sl M.p M.c 400 4 M.its.length (itsC (rls Es) M.its)]=[cells pp [uPt s,uPt tb] 117,tabP tb s (rls Es),bR s most Es,cells S [uPt pp,uPt pp,.bool false,.slice A'.p A'.fs.length A'.c,.int .i64 (A'.x:Nat),.int .u64 (key (rls Es) A'.x:Nat),uPt pp,.bool true,.slice B.p B.fs.length B.c,.int .i64 (B.x:Nat),.int .u64 (key (rls Es) B.x:Nat),.slice M'.p M'.its.length M'.c] 370,sl A'.p A'.c 389 8 A'.fs.length (eG (rls Es) A'.fs),sl B.p B.c 389 8 B.fs.length (eG (rls Es) B.fs),sl M'.p M'.c 400 4 M'.its.length (itsC (rls Es) M'.its)]:=fun h=>⟨A,M,O,h,O,.inl ⟨O,O⟩,O⟩
 refine bO (hE.fn Tryz.func268) O O O (fun R=>?_);simp only[dX,uV,uW];refine gg11 ?_;refine bE O (fun h0=>?_) (fun h0=>?_)
 ·have hx0:A.x=0:=oO;refine gg2 ?_;apply cB
  ·rfl
  ·(exact Rs.nil)
  ·refine same ?_;have:=qYc (L:=rls Es) (l:=l) (root:=rl) (fs:=A.fs) (Z:=dV M.its++seqE (rls Es) true l B.x B.fs) (by rw[←hx0];exact eA);rwa [←hx0]at this
  exact uI
 have hx:A.x≠0:=oO;obtain⟨k1,k2,k3,k4⟩:=eA.low hx;refine gg9 ?_;refine uX (nX hE (b:=S) (pre:=[uPt pp]) (suf:=[uPt pp,.bool true,.slice B.p B.fs.length B.c,.int .i64 (B.x:Nat),.int .u64 (key (rls Es) B.x:Nat),.slice M.p M.its.length M.c]) (fs:=A.fs) hfl) O ?_;rintro v _⟨⟨o,ho,hv⟩,rfl⟩;simp only[uV,uW];refine gg3 ?_;cases o with
 |none=>
  obtain rfl:v= .pointer none:=hv
  refine gg24 ?_
  refine uX (qPl hE) O ?_
  rintro _ _⟨rfl,rfl⟩
  simp only[uV,uW]
  have hmt:1=many (rls Es) none:=rfl
  have hov:(l+1)%2=0→∀f:Fm,none=some f→f.hv=1:=fun _ f e=>by cases e
  refine gg12 ?_
  refine eF 36 O (fun h3=>?_) (fun h3=>?_)
  ·refine gg15 ?_
   apply cB
   ·rfl
   ·(exact Rs.nil)
   ·refine same (qYb hw hs eA hx ho hev fun v hv=>?_)
    rw[hf0 oO]at hv
    cases hv
   exact uI
  have hh:=hf1 oO
  refine gg15 ?_
  refine uX (qNh hE oO hev hll) O ?_
  rintro _ _⟨⟨d,rfl,hd⟩,rfl⟩
  simp only[uV,uW]
  refine gg5 ?_
  cases d with
  |false=>
   refine gg3 ?_
   apply cB
   ·rfl
   ·(exact Rs.nil)
   ·refine same (qYb hw hs eA hx ho hev fun v hv hf=>?_)
    rw[hh]at hv
    cases hv
    exact absurd (hd.2 hf) (by simp)
   exact uI
  |true=>
   refine gg4 ?_
   refine uN 20 ([cells S [uPt pp,uPt pp,.bool false,.slice A.p A.fs.length A.c,.int .i64 (A.x:Nat),.int .u64 (key (rls Es) A.x:Nat),uPt pp,.bool true,.slice B.p B.fs.length B.c,.int .i64 (B.x:Nat),.int .u64 (key (rls Es) B.x:Nat),.slice M.p M.its.length M.c] 370]) ?_
   refine gg10 ?_
   apply dG 10 O oK
   ·exact aB O
   ·rfl
   apply dG 11 O oK
   ·exact bA O
   ·rfl
   apply dG 12 O oK
   ·exact uBf O
   ·rfl
   apply dG 13 O oK
   ·exact uBf O
   ·rfl
   apply dG 14 O oK
   ·(apply aO rfl (hE.t rfl) rfl;(repeat(first |rfl|assumption|constructor));done)
   ·rfl
   apply dG 15 O oK
   ·exact jK (hE.t O) O O
   ·rfl
   apply fI 16 O oK O
   refine aU (hE.t O) (hE.t O) O O O (fun b63=>?_)
   refine uE ?_
   apply fI 17 O oK O
   refine uC (wU hE hml hpl (a1:=(A.x:Nat)) (a2:=0) (a3:=(key (rls Es) A.x:Nat)) (a4:=1)) O ?_
   rintro _ _⟨g',c',rfl,rfl⟩
   simp only[uV,uW]
   have ei:(.int .i64 (A.x:Nat):: .int .i64 0:: .int .u64 (key (rls Es) A.x:Nat):: .int .i64 1::itsC (rls Es) M.its:List Value)=itsC (rls Es) (⟨A.x,0,1⟩::M.its):=by rw[gV];rfl
   rw[ei]
   refine uE ?_
   apply dG 18 O oK
   ·exact bA O
   ·rfl
   apply dG 19 O oK
   ·exact uBf O
   ·rfl
   apply iH O oK oK O
   refine uS ?_
   refine gg7 ?_
   refine l_eq 71 (.int .i64 (l:Nat)) O (bW oO) ?_
   have hdr:=lQ (pp:=pp) (tb:=tb) (s:=s) (most:=most) hE hB (b:=S) (bt:=370) (p:=A.p) (c:=A.c) (k:=key (rls Es) A.x) (pre:=[uPt pp]) (suf:=[uPt pp,.bool true,.slice B.p B.fs.length B.c,.int .i64 (B.x:Nat),.int .u64 (key (rls Es) B.x:Nat),.slice (⟨⟨A.x,0,1⟩::M.its,some ⟨g',0,none⟩,c'⟩:Md).p (⟨⟨A.x,0,1⟩::M.its,some ⟨g',0,none⟩,c'⟩:Md).its.length (⟨⟨A.x,0,1⟩::M.its,some ⟨g',0,none⟩,c'⟩:Md).c]) hs k2 (sO k2) hl1
   refine uX (hdr) O ?_
   rintro _ _⟨x',gs',p',c'',rfl,q1,rfl⟩
   simp only[uV,uW]
   refine gg1 ?_
   have hmv:=mvd hw hs eA hx ho hmt hov q1
   apply yM
   ·rfl
   ·(exact Rs.nil)
   ·refine⟨⟨x',gs',p',c''⟩,⟨⟨A.x,0,1⟩::M.its,some ⟨g',0,none⟩,c'⟩,O,qIo hmv (by rw[sS];rfl),?_,.inr ⟨O,hx⟩,O⟩
    rw[hmv.seq,sS]
    simp[cat]
   exact uI
 |some f=>
  obtain⟨gs,g,hfs,hp,rfl⟩:=hv
  have f7:(eG (rls Es) A.fs)[(eG (rls Es) gs).length+7]?=some (.int .i64 (f.hv:Nat)):=by rw[hfs];exact qDp
  rw[hp]
  refine gg18 ?_
  refine bE O (fun h2=>?_) (fun h2=>?_)
  ·refine gg2 ?_
   apply cB
   ·rfl
   ·(exact Rs.nil)
   ·exact same (rl_two hw hs eA hx ho hev oO)
   rw[hp]
   exact uI
  refine gg9 ?_
  rw[←hp]
  obtain⟨_,a,b,_,_,_,_,l4,l5,l6,_⟩:=pR hw hs eA hx ho hev
  have hmt:=(qDi l4).symm
  have hov:(l+1)%2=0→∀f':Fm,some f=some f'→f'.hv=1:=fun _ f' e=>by cases e;omega
  refine gg1 ?_
  refine uN 20 ([cells S [uPt pp,uPt pp,.bool false,.slice A.p A.fs.length A.c,.int .i64 (A.x:Nat),.int .u64 (key (rls Es) A.x:Nat),uPt pp,.bool true,.slice B.p B.fs.length B.c,.int .i64 (B.x:Nat),.int .u64 (key (rls Es) B.x:Nat),.slice M.p M.its.length M.c] 370]) ?_
  refine gg10 ?_
  apply dG 10 O oK
  ·exact aB O
  ·rfl
  apply dG 11 O oK
  ·exact bA O
  ·rfl
  apply dG 12 O oK
  ·exact uBf O
  ·rfl
  apply dG 13 O oK
  ·exact uBf O
  ·rfl
  apply dG 14 O oK
  ·(apply aO rfl (hE.t rfl) rfl;(repeat(first |rfl|assumption|constructor));done)
  ·rfl
  apply dG 15 O oK
  ·exact jK (hE.t O) O O
  ·rfl
  apply fI 16 O oK O
  refine aU (hE.t O) (hE.t O) O O O (fun b63=>?_)
  refine uE ?_
  apply fI 17 O oK O
  refine uC (wU hE hml hpl (a1:=(A.x:Nat)) (a2:=0) (a3:=(key (rls Es) A.x:Nat)) (a4:=1)) O ?_
  rintro _ _⟨g',c',rfl,rfl⟩
  simp only[uV,uW]
  have ei:(.int .i64 (A.x:Nat):: .int .i64 0:: .int .u64 (key (rls Es) A.x:Nat):: .int .i64 1::itsC (rls Es) M.its:List Value)=itsC (rls Es) (⟨A.x,0,1⟩::M.its):=by rw[gV];rfl
  rw[ei]
  refine uE ?_
  apply dG 18 O oK
  ·exact bA O
  ·rfl
  apply dG 19 O oK
  ·exact uBf O
  ·rfl
  apply iH O oK oK O
  refine uS ?_
  refine gg7 ?_
  refine l_eq 71 (.int .i64 (l:Nat)) O (bW oO) ?_
  have hdr:=lQ (pp:=pp) (tb:=tb) (s:=s) (most:=most) hE hB (b:=S) (bt:=370) (p:=A.p) (c:=A.c) (k:=key (rls Es) A.x) (pre:=[uPt pp]) (suf:=[uPt pp,.bool true,.slice B.p B.fs.length B.c,.int .i64 (B.x:Nat),.int .u64 (key (rls Es) B.x:Nat),.slice (⟨⟨A.x,0,1⟩::M.its,some ⟨g',0,none⟩,c'⟩:Md).p (⟨⟨A.x,0,1⟩::M.its,some ⟨g',0,none⟩,c'⟩:Md).its.length (⟨⟨A.x,0,1⟩::M.its,some ⟨g',0,none⟩,c'⟩:Md).c]) hs k2 (sO k2) hl1
  refine uX (hdr) O ?_
  rintro _ _⟨x',gs',p',c'',rfl,q1,rfl⟩
  simp only[uV,uW]
  refine gg1 ?_
  have hmv:=mvd hw hs eA hx ho hmt hov q1
  apply yM
  ·rfl
  ·(exact Rs.nil)
  ·refine⟨⟨x',gs',p',c''⟩,⟨⟨A.x,0,1⟩::M.its,some ⟨g',0,none⟩,c'⟩,O,qIo hmv (by rw[sS];rfl),?_,.inr ⟨O,hx⟩,O⟩
   rw[hmv.seq,sS]
   simp[cat]
  exact uI
end
section
variable {E:Env}{Es:List Ent}{pp tb s most S:Nat}
def mem_last {l:List Nat}{u:Nat}(h:l.getLast?=some u):u∈l:=oL h
def qBa (its:List It)(x:Nat):(dV (its++[⟨x,0,1⟩])).getLast?=some x:=by rw[sQ];simp
def qEv (hE:Seat E)(hB:Base E.w0){l rr:Nat}{A B:Sd}{M:Md}(hs:Sig (rls Es) rr)(eB:EO (rls Es) true l rr B.x B.fs)(hM:Sng M.its)(hR:∀x∈dV M.its,1≤x∧x≤(rls Es).length) (hml:M.its.length≤1099511627776) (hev:(l+1)%2=0) (hll:l+1<1099511627776) (hn:num (l+1)≠122):
  Ct E 270 [uPt S,.int .i64 ((l+1:Nat):Int)] [cells pp [uPt s,uPt tb] 117,tabP tb s (rls Es),bR s most Es,cells S [uPt pp,uPt pp,.bool false,.slice A.p A.fs.length A.c,.int .i64 (A.x:Nat),.int .u64 (key (rls Es) A.x:Nat),uPt pp,.bool true,.slice B.p B.fs.length B.c,.int .i64 (B.x:Nat),.int .u64 (key (rls Es) B.x:Nat),.slice M.p M.its.length M.c] 370,sl A.p A.c 389 8 A.fs.length (eG (rls Es) A.fs),sl B.p B.c 389 8 B.fs.length (eG (rls Es) B.fs),sl M.p M.c 400 4 M.its.length (itsC (rls Es) M.its)]
   (fun v Q=>∃(B':Sd)(M':Md),v= .tuple #[]∧RR (rls Es) l rr B'.x B'.fs (dV M'.its)∧dV M'.its++seqE (rls Es) true l B'.x B'.fs=dV M.its++seqE (rls Es) true l B.x B.fs∧(M'=M∧B'=B∨M'.its=M.its++[⟨B.x,0,1⟩]∧B.x≠0)∧Q=[cells pp [uPt s,uPt tb] 117,tabP tb s (rls Es),bR s most Es,cells S [uPt pp,uPt pp,.bool false,.slice A.p A.fs.length A.c,.int .i64 (A.x:Nat),.int .u64 (key (rls Es) A.x:Nat),uPt pp,.bool true,.slice B'.p B'.fs.length B'.c,.int .i64 (B'.x:Nat),.int .u64 (key (rls Es) B'.x:Nat),.slice M'.p M'.its.length M'.c] 370,sl A.p A.c 389 8 A.fs.length (eG (rls Es) A.fs),sl B'.p B'.c 389 8 B'.fs.length (eG (rls Es) B'.fs),sl M'.p M'.c 400 4 M'.its.length (itsC (rls Es) M'.its)]):=by
 refine eU (p:=bR s most Es) uK (fun _ h=>dS h) (fun hsay=>?_);have hw:=hsay.1;have hL:(rls Es).length≤1048576:=by have:=hsay.2.2;rw[bQ];unfold fP at this;omega
 have hfl:=eB.pl hw hL hs;have hl1:l≤1099511627776:=oO;have hlst:=qHy (L:=rls Es) (l:=l) (rl:=rr) (A:=A) hM
 have same:RR (rls Es) l rr B.x B.fs (dV M.its)→∃(B':Sd)(M':Md),Value.tuple #[]= .tuple #[]∧RR (rls Es) l rr B'.x B'.fs (dV M'.its)∧dV M'.its++seqE (rls Es) true l B'.x B'.fs=dV M.its++seqE (rls Es) true l B.x B.fs∧(M'=M∧B'=B∨M'.its=M.its++[⟨B.x,0,1⟩]∧B.x≠0)∧[cells pp [uPt s,uPt tb] 117,tabP tb s (rls Es),bR s most Es,cells S [uPt pp,uPt pp,.bool false,.slice A.p A.fs.length A.c,.int .i64 (A.x:Nat),.int .u64 (key (rls Es) A.x:Nat),uPt pp,.bool true,.slice B.p B.fs.length B.c,.int .i64 (B.x:Nat),.int .u64 (key (rls Es) B.x:Nat),.slice M.p M.its.length M.c] 370,sl A.p A.c 389 8 A.fs.length (eG (rls Es) A.fs),sl B.p B.c 389 8 B.fs.length (eG (rls Es) B.fs),sl M.p M.c 400 4 M.its.length (itsC (rls Es) M.its)]=[cells pp [uPt s,uPt tb] 117,tabP tb s (rls Es),bR s most Es,cells S [uPt pp,uPt pp,.bool false,.slice A.p A.fs.length A.c,.int .i64 (A.x:Nat),.int .u64 (key (rls Es) A.x:Nat),uPt pp,.bool true,.slice B'.p B'.fs.length B'.c,.int .i64 (B'.x:Nat),.int .u64 (key (rls Es) B'.x:Nat),.slice M'.p M'.its.length M'.c] 370,sl A.p A.c 389 8 A.fs.length (eG (rls Es) A.fs),sl B'.p B'.c 389 8 B'.fs.length (eG (rls Es) B'.fs),sl M'.p M'.c 400 4 M'.its.length (itsC (rls Es) M'.its)]:=fun h=>⟨B,M,O,h,O,.inl ⟨O,O⟩,O⟩
 refine bO (hE.fn Tryz.func270) O O O (fun R=>?_);simp only[dX,uV,uW];refine gg11 ?_;refine bE O (fun h0=>?_) (fun h0=>?_)
 ·have hx0:B.x=0:=oO;refine gg2 ?_;apply cB
  ·rfl
  ·(exact Rs.nil)
  ·refine same ?_;have:=qIv (L:=rls Es) (l:=l) (root:=rr) (fs:=B.fs) (M:=dV M.its) (by rw[←hx0];exact eB);rwa [←hx0]at this
  exact uI
 have hx:B.x≠0:=oO;obtain⟨k1,k2,k3,k4⟩:=eB.low hx;refine gg9 ?_;refine uX (nX hE (b:=S) (pre:=[uPt pp,uPt pp,.bool false,.slice A.p A.fs.length A.c,.int .i64 (A.x:Nat),.int .u64 (key (rls Es) A.x:Nat)]) (suf:=[.slice M.p M.its.length M.c]) (fs:=B.fs) hfl) O ?_;rintro v _⟨⟨o,ho,hv⟩,rfl⟩;simp only[uV,uW];refine gg3 ?_;cases o with
 |none=>
  obtain rfl:v= .pointer none:=hv
  refine gg24 ?_
  refine uX (qUt hE hml) O ?_
  rintro _ _⟨rfl,rfl⟩
  simp only[uV,uW]
  have hmt:1=many (rls Es) none:=rfl
  have hov:(l+1)%2=0→∀f:Fm,none=some f→f.hv=1:=fun _ f e=>by cases e
  refine gg12 ?_
  refine eF 36 O (fun h3=>?_) (fun h3=>?_)
  ·refine gg15 ?_
   apply cB
   ·rfl
   ·(exact Rs.nil)
   ·refine same (qIt hw hs eB hx ho (fun f e=>by cases e) hev fun u hu=>?_)
    have h1:=hlst u hu
    have h2:=(hR u (mem_last hu)).1
    omega
   exact uI
  refine gg15 ?_
  refine uX (qNh hE oO hev hll) O ?_
  rintro _ _⟨⟨d,rfl,hd⟩,rfl⟩
  simp only[uV,uW]
  refine gg5 ?_
  cases d with
  |false=>
   refine gg3 ?_
   apply cB
   ·rfl
   ·(exact Rs.nil)
   ·refine same (qIt hw hs eB hx ho (fun f e=>by cases e) hev fun u hu hf=>?_)
    rw[←hlst u hu]at hf
    exact absurd (hd.2 hf) (by simp)
   exact uI
  |true=>
   refine gg4 ?_
   refine uN 20 ([cells S [uPt pp,uPt pp,.bool false,.slice A.p A.fs.length A.c,.int .i64 (A.x:Nat),.int .u64 (key (rls Es) A.x:Nat),uPt pp,.bool true,.slice B.p B.fs.length B.c,.int .i64 (B.x:Nat),.int .u64 (key (rls Es) B.x:Nat),.slice M.p M.its.length M.c] 370]) ?_
   refine gg10 ?_
   apply dG 10 O oK
   ·exact aB O
   ·rfl
   apply dG 11 O oK
   ·exact bA O
   ·rfl
   apply dG 12 O oK
   ·exact uBf O
   ·rfl
   apply dG 13 O oK
   ·exact uBf O
   ·rfl
   apply dG 14 O oK
   ·(apply aO rfl (hE.t rfl) rfl;(repeat(first |rfl|assumption|constructor));done)
   ·rfl
   apply dG 15 O oK
   ·exact jK (hE.t O) O O
   ·rfl
   apply fI 16 O oK O
   refine aU (hE.t O) (hE.t O) O O O (fun b63=>?_)
   refine uE ?_
   apply fI 17 O oK O
   apply bU (hE.t O) (hE.t O) O O O
   ·exact uK
   ·exact uK
   ·rfl
   ·rfl
   ·omega
   ·omega
   ·(unfold maxLen;omega)
   intro g64 c64 n64 x64 hn64 hx64
   refine uE ?_
   apply dG 18 O oK
   ·exact bA O
   ·rfl
   apply dG 19 O oK
   ·exact uBf O
   ·rfl
   apply iH O oK oK O
   refine uS ?_
   refine gg1 ?_
   obtain rfl:x64=itsC (rls Es) (M.its++[⟨B.x,0,1⟩]):=by rw[hx64,jC];rfl
   subst hn64
   refine gg6 ?_
   refine l_eq 71 (.int .i64 (l:Nat)) O (bW oO) ?_
   have hdr:=lQ (pp:=pp) (tb:=tb) (s:=s) (most:=most) hE hB (b:=S) (bt:=370) (p:=B.p) (c:=B.c) (k:=key (rls Es) B.x) (pre:=[uPt pp,uPt pp,.bool false,.slice A.p A.fs.length A.c,.int .i64 (A.x:Nat),.int .u64 (key (rls Es) A.x:Nat)]) (suf:=[.slice (⟨M.its++[⟨B.x,0,1⟩],some ⟨g64,0,none⟩,c64⟩:Md).p (⟨M.its++[⟨B.x,0,1⟩],some ⟨g64,0,none⟩,c64⟩:Md).its.length (⟨M.its++[⟨B.x,0,1⟩],some ⟨g64,0,none⟩,c64⟩:Md).c]) hs k2 (sO k2) hl1
   simp only[aa,az]at hdr
   refine uX (hdr) O ?_
   rintro _ _⟨x',gs',p',c'',rfl,q1,rfl⟩
   simp only[uV,uW]
   refine gg1 ?_
   have hmv:=mvd hw hs eB hx ho hmt hov q1
   apply yM
   ·rfl
   ·(exact Rs.nil)
   ·refine⟨⟨x',gs',p',c''⟩,⟨M.its++[⟨B.x,0,1⟩],some ⟨g64,0,none⟩,c64⟩,O,qIu hmv (.inr (.inr hn)) (qBa _ _),?_,.inr ⟨O,hx⟩,O⟩
    rw[hmv.seq,sQ]
    simp[cat]
   simp only[aa,az]
   exact uI
 |some f=>
  obtain⟨gs,g,hfs,hp,rfl⟩:=hv
  have f7:(eG (rls Es) B.fs)[(eG (rls Es) gs).length+7]?=some (.int .i64 (f.hv:Nat)):=by rw[hfs];exact qDp
  rw[hp]
  refine gg18 ?_
  refine bE O (fun h2=>?_) (fun h2=>?_)
  ·refine gg2 ?_
   apply cB
   ·rfl
   ·(exact Rs.nil)
   ·exact same (rr_two hw hs eB hx ho hev oO hn)
   rw[hp]
   exact uI
  refine gg9 ?_
  rw[←hp]
  obtain⟨_,a,b,_,_,_,_,l4,l5,l6,_⟩:=pR hw hs eB hx ho hev
  have hmt:=(qDi l4).symm
  have hov:(l+1)%2=0→∀f':Fm,some f=some f'→f'.hv=1:=fun _ f' e=>by cases e;omega
  refine gg1 ?_
  refine uN 20 ([cells S [uPt pp,uPt pp,.bool false,.slice A.p A.fs.length A.c,.int .i64 (A.x:Nat),.int .u64 (key (rls Es) A.x:Nat),uPt pp,.bool true,.slice B.p B.fs.length B.c,.int .i64 (B.x:Nat),.int .u64 (key (rls Es) B.x:Nat),.slice M.p M.its.length M.c] 370]) ?_
  refine gg10 ?_
  apply dG 10 O oK
  ·exact aB O
  ·rfl
  apply dG 11 O oK
  ·exact bA O
  ·rfl
  apply dG 12 O oK
  ·exact uBf O
  ·rfl
  apply dG 13 O oK
  ·exact uBf O
  ·rfl
  apply dG 14 O oK
  ·(apply aO rfl (hE.t rfl) rfl;(repeat(first |rfl|assumption|constructor));done)
  ·rfl
  apply dG 15 O oK
  ·exact jK (hE.t O) O O
  ·rfl
  apply fI 16 O oK O
  refine aU (hE.t O) (hE.t O) O O O (fun b63=>?_)
  refine uE ?_
  apply fI 17 O oK O
  apply bU (hE.t O) (hE.t O) O O O
  ·exact uK
  ·exact uK
  ·rfl
  ·rfl
  ·omega
  ·omega
  ·(unfold maxLen;omega)
  intro g64 c64 n64 x64 hn64 hx64
  refine uE ?_
  apply dG 18 O oK
  ·exact bA O
  ·rfl
  apply dG 19 O oK
  ·exact uBf O
  ·rfl
  apply iH O oK oK O
  refine uS ?_
  refine gg1 ?_
  obtain rfl:x64=itsC (rls Es) (M.its++[⟨B.x,0,1⟩]):=by rw[hx64,jC];rfl
  subst hn64
  refine gg6 ?_
  refine l_eq 71 (.int .i64 (l:Nat)) O (bW oO) ?_
  have hdr:=lQ (pp:=pp) (tb:=tb) (s:=s) (most:=most) hE hB (b:=S) (bt:=370) (p:=B.p) (c:=B.c) (k:=key (rls Es) B.x) (pre:=[uPt pp,uPt pp,.bool false,.slice A.p A.fs.length A.c,.int .i64 (A.x:Nat),.int .u64 (key (rls Es) A.x:Nat)]) (suf:=[.slice (⟨M.its++[⟨B.x,0,1⟩],some ⟨g64,0,none⟩,c64⟩:Md).p (⟨M.its++[⟨B.x,0,1⟩],some ⟨g64,0,none⟩,c64⟩:Md).its.length (⟨M.its++[⟨B.x,0,1⟩],some ⟨g64,0,none⟩,c64⟩:Md).c]) hs k2 (sO k2) hl1
  simp only[aa,az]at hdr
  refine uX (hdr) O ?_
  rintro _ _⟨x',gs',p',c'',rfl,q1,rfl⟩
  simp only[uV,uW]
  refine gg1 ?_
  have hmv:=mvd hw hs eB hx ho hmt hov q1
  apply yM
  ·rfl
  ·(exact Rs.nil)
  ·refine⟨⟨x',gs',p',c''⟩,⟨M.its++[⟨B.x,0,1⟩],some ⟨g64,0,none⟩,c64⟩,O,qIu hmv (.inr (.inr hn)) (qBa _ _),?_,.inr ⟨O,hx⟩,O⟩
   rw[hmv.seq,sQ]
   simp[cat]
  simp only[aa,az]
  exact uI
end
