import Derived.Test.YtnicahfnolhgbaaGreatDoorQ85
set_option linter.all false
set_option maxHeartbeats 1000000
namespace Sl
open Go Go.RowKit
variable {E:Bp}{n:Nat}{L:Fr}{S:List HP}{ty:TypeId}{pos:String}{af:Array Edge}{d:Option Nat}{gd:Option (Nat×Bool)}
def Qi (a b:List UInt8):(⟨⟨a⟩⟩:ByteArray)++⟨⟨b⟩⟩=⟨⟨a++b⟩⟩:=by
 apply ByteArray.ext;rw[ByteArray.data_append];simp
def Ig {x y}{xt yt:TypeId}{a b}(hx:ev L x=some (BN a))(hy:ev L y=some (BN b))(h:a.length+b.length<=1000000000):
  Yl E n L S ⟨d,.binOp .add xt x y yt,ty,pos,af,gd⟩ (BN (a++b)):=fun o w g _=>by
 have h2:¬((((⟨⟨a⟩⟩:ByteArray).size+(⟨⟨b⟩⟩:ByteArray).size:Nat):Int)>IntKind.i64.max):=by
  rw[show(⟨⟨a⟩⟩:ByteArray).size=a.length from rfl,show(⟨⟨b⟩⟩:ByteArray).size=b.length from rfl,show IntKind.i64.max=9223372036854775807 from rfl];omega
 have e:(Op.stringOp .add ⟨⟨a⟩⟩ ⟨⟨b⟩⟩:Sem Value)=pure (BN (a++b)):=by
  simp only[Op.stringOp];rw[if_neg h2,Qi]
 simp[execOp,eqGuard,binOp_string_add,e,g.ev hx,g.ev hy,pure]
end Sl
namespace Go.Proofs.YtnicahfnolhgbaaGreatDoor
open Go Go.RowKit Sl Eg
set_option maxRecDepth 10000
section
variable {E:Bp}
def pF (hE:BP E){k n}(hn:1<=n)(hA:n<=1000000):Ct E 60 [BL k,BK n] [] (fun v Q=>v= BK (pick k n)/\Q=[]):=by
 have hp:=zBc (n:=k) hn;have h1:=Int.lt_tmod_of_pos k (b:=(n:Int)) oO;have h2:=Int.tmod_lt_of_pos k (b:=(n:Int)) oO
 have h3:(k.tmod n+n)%(n:Int)=(pick k n:Nat):=by
  rw[hp];split
  ·exact AJ (a:=k.tmod n+n) (b:=(n:Int)) oO oO
  rw[Int.add_emod_right];exact AJ (a:=k.tmod n) (b:=(n:Int)) oO oO
 refine bO (hE.fn Tryz.func60) O O O (fun R=>?_);simp only[dS,uV,uW];refine Bu ?_;refine uB (SN (j:=(n:Int)) O O oO) ?_;refine Bz ?_;refine BU 11 (BK (pick k n)) O (bW h3) ?_;refine Bz ?_;exact uZ O (.tmp O .nil) ⟨O,O⟩
end
section
variable {E:Bp}
def MN {ts}(h:ts≠[]):Gv ts≠[]:=fun e=>by
 have:=zBd ts;rw[e]at this;exact h (dw this.symm)
def Yv {ts}(h:ts≠[])(x:EY):ts[pick x.a ts.length]?=some (x.txA ts):=by
 have:=lV x.a (many:=ts.length) (pm.2 h);unfold EY.txA;rw[lh,ag this];rfl
def MP {ts}(h:ts≠[])(x:EY):ts[pick x.b ts.length]?=some (x.txB ts):=by
 have:=lV x.b (many:=ts.length) (pm.2 h);unfold EY.txB;rw[lh,ag this];rfl
def YX {ts i t}(h:ts[i]?=some t)(j:Nat)(hj:j=i):(Gv ts)[j]?=some (BN t):=by subst hj;exact SF h
def qLb (x:EY):bP (.agg ⟨Ic x⟩)=Ic x:=rfl
def WA (ts:List (List UInt8))(x:EY)(q:HP)(v:Value)(Q:List HP):Prop:=∃(u:List UInt8)(b:Bool),v= .tuple #[.string ⟨⟨u⟩⟩,.bool b]/\(b=true->FZ ts x=some u)/\(b=false->FZ ts x=none)/\Q=[q]
def qXi (hE:BP E){ts x a c q}(hq:Cv E.w0 a (Gv ts) q)(hI:∀t∈ts,t.length<=400) (hn:ts.length<=1000) (hx:x.ok):
  Ct E 30 [.slice a ts.length c,.agg ⟨Ic x⟩] [q] (WA ts x q):=by
 obtain⟨⟨k1,k2⟩,⟨a1,a2⟩,⟨b1,b2⟩,⟨n1,n2⟩,⟨m1,m2⟩⟩:=hx;have hA:=YY hI x;have hP:=zBg hI x;have hQ:=lV x.kd (many:=6) oO;have hR:=lV x.n (many:=7) oO;refine bO (hE.fn Tryz.func30) O O O (fun R=>?_);simp only[dS,uV,uW];refine CL ?_;refine uU (gN O (fun b3=>?_));rw[qLb];refine Br ?_;refine BH (pF (k:=x.kd) (n:=6) hE oO oO) O ?_;refine Bu ?_;refine dV 19 O (fun k0=>?_) (fun k0=>?_)
 ·refine DW ?_;apply cK
  ·rfl
  ·(apply Rs.tmp rfl;apply Rs.tmp rfl;exact Rs.nil)
  ·refine⟨x.t,decide (x.t.length<=60),?_,fun h=>?_,fun h=>?_,O⟩
   ·exact au (fun b=>Value.tuple #[BN (x.t),.bool b]) (decide_eq_decide.2 (show((x.t.length:Nat):Int)<=60↔_ by omega))
   ·unfold FZ;rw[if_pos (.inl oO),if_pos (by simpa using h)]
   unfold FZ;rw[if_pos (.inl oO),if_neg (by simpa using h)]
  exact uI
 have hL:pick x.kd 6≠0:=oO;refine Bu ?_;refine bE O (fun k9=>?_) (fun k9=>?_)
 ·obtain rfl:ts=[]:=dw oO;refine CU ?_;apply cK
  ·rfl
  ·(apply Rs.tmp rfl;apply Rs.tmp rfl;exact Rs.nil)
  ·refine⟨x.t,decide (x.t.length<=60),?_,fun h=>?_,fun h=>?_,O⟩
   ·exact au (fun b=>Value.tuple #[BN (x.t),.bool b]) (decide_eq_decide.2 (show((x.t.length:Nat):Int)<=60↔_ by omega))
   ·unfold FZ;rw[if_pos (.inr rfl),if_pos (by simpa using h)]
   unfold FZ;rw[if_pos (.inr rfl),if_neg (by simpa using h)]
  exact uI
 refine CL ?_;have hD:ts≠[]:=fun e=>k9 (by rw[e];rfl)
 have hC:=pm.2 hD;have hS:=lV x.a hC;have hT:=lV x.b hC;obtain⟨g,o,rfl,hU⟩:=hq (MN hD);have f1:=YX (Yv hD x) (((pick x.a ts.length:Nat):Int).toNat) oO;have f2:=YX (MP hD x) (((pick x.b ts.length:Nat):Int).toNat) oO;have hB:¬(pick x.kd 6=0\/ts=[]):=fun h=>h.elim hL hD
 refine Bv ?_;refine uH ([cells b3 (Ic x) 61,q]) ?_;refine Bw ?_;refine uD 8 O (aB O) ?_;refine Bz ?_;apply dH 5 O oK O;refine uC (pF (k:=x.a) (n:=ts.length) hE hC oO) O ?_;rintro _ _⟨rfl,rfl⟩;simp only[uV,uW];refine uE ?_;refine CL ?_;apply dH 13 O oK O;refine uC (pF (k:=x.b) (n:=ts.length) hE hC oO) O ?_;rintro _ _⟨rfl,rfl⟩;simp only[uV,uW];refine uE ?_;refine Bc ?_;refine BH (pF (k:=x.n) (n:=7) hE oO oO) O ?_;refine CX ?_;have hF:∀u:List UInt8,(⟨⟨u⟩⟩:ByteArray).size=u.length:=fun u=>O
 have hV:=hF (x.txA ts);have hW:=hF (x.txB ts);refine bE O (fun kd1=>?_) (fun kd1=>?_)
 ·have e1:pick x.kd 6=1:=oO;refine Bz ?_;refine uB (Ig O O oO) ?_;refine CP ?_;apply cK
  ·rfl
  ·(apply Rs.tmp rfl;apply Rs.tmp rfl;exact Rs.nil)
  ·refine⟨x.txA ts++x.txB ts,decide ((x.txA ts).length+(x.txB ts).length<=400),?_,fun h=>?_,fun h=>?_,O⟩
   ·exact au (fun b=>Value.tuple #[BN (x.txA ts++x.txB ts),.bool b]) (decide_eq_decide.2 (show(((x.txA ts).length:Nat):Int)+(((x.txB ts).length:Nat):Int)<=400↔_ by omega))
   ·unfold FZ;rw[if_neg hB,if_pos e1,if_pos (by simpa using h)]
   unfold FZ;rw[if_neg hB,if_pos e1,if_neg (by simpa using h)]
  exact uI
 have n1:¬pick x.kd 6=1:=oO;refine Bi ?_;refine bE O (fun kd2=>?_) (fun kd2=>?_)
 ·have e2:pick x.kd 6=2\/pick x.kd 6=5:= .inl oO;refine CL ?_;refine CW 61 (.bool true) O (au Value.bool (oI kd2)) ?_;refine CP ?_;refine dX (fun i:Nat=>[(7,BN (x.txA ts)),(9,BK (pick x.n 7)),(10,BN (Eg.rep i (x.txA ts))),(11,BK i)]) (fun i=>[q,R]) (fun i=>pick x.n 7-i) (fun i=>i<=pick x.n 7) 0 (av _) BC uI ?_;intro i hi;have hM:(Eg.rep i (x.txA ts)).length=i*(x.txA ts).length:=Eg.rep_length _ _;refine Bi ?_;have hN:=hF (Eg.rep i (x.txA ts));have hH:i*(x.txA ts).length<=pick x.n 7*(x.txA ts).length:=kg _ hi;refine dV 67 O (fun c1=>?_) (fun c1=>?_)
  ·refine Bu ?_;refine bE O (fun c2=>?_) (fun c2=>?_)
   ·refine Bi ?_;refine uB (Ig O O oO) ?_;refine Bu ?_;rw[Eg.rep_comm,<-Eg.rep_succ];refine bS (ι:=Nat) (j:=i+1) oO oO ⟨O,O,O,au some (bW oO),trivial⟩ uI
   refine Cw ?_;apply cK
   ·rfl
   ·(apply Rs.tmp rfl;apply Rs.tmp rfl;exact Rs.nil)
   ·refine⟨Eg.rep i (x.txA ts),false,?_,fun h=>(by cases h),fun _=>?_,O⟩
    ·exact au (fun b=>Value.tuple #[BN (Eg.rep i (x.txA ts)),.bool b]) (oM oO)
    unfold FZ;rw[if_neg hB,if_neg oO,if_pos e2,if_neg oO]
   exact uI
  obtain rfl:i=pick x.n 7:=by omega
  refine EK ?_;apply cK
  ·rfl
  ·(apply Rs.tmp rfl;apply Rs.tmp rfl;exact Rs.nil)
  ·refine⟨Eg.rep (pick x.n 7) (x.txA ts),decide (pick x.n 7*(x.txA ts).length<=400),?_,fun h=>?_,fun h=>?_,O⟩
   ·exact au (fun b=>Value.tuple #[BN (Eg.rep (pick x.n 7) (x.txA ts)),.bool b]) (decide_eq_decide.2 oO)
   ·unfold FZ;rw[if_neg hB,if_neg oO,if_pos e2,if_pos (by simpa using h)]
   unfold FZ;rw[if_neg hB,if_neg oO,if_pos e2,if_neg (by simpa using h)]
  exact uI
 refine Bw ?_;refine bE O (fun kd5=>?_) (fun kd5=>?_)
 ·have e2:pick x.kd 6=2\/pick x.kd 6=5:= .inr oO;refine Bq ?_;refine dX (fun i:Nat=>[(7,BN (x.txA ts)),(9,BK (pick x.n 7)),(10,BN (Eg.rep i (x.txA ts))),(11,BK i)]) (fun i=>[q,R]) (fun i=>pick x.n 7-i) (fun i=>i<=pick x.n 7) 0 (av _) BC uI ?_;intro i hi;have hM:(Eg.rep i (x.txA ts)).length=i*(x.txA ts).length:=Eg.rep_length _ _;refine Bi ?_;have hN:=hF (Eg.rep i (x.txA ts));have hH:i*(x.txA ts).length<=pick x.n 7*(x.txA ts).length:=kg _ hi;refine dV 67 O (fun c1=>?_) (fun c1=>?_)
  ·refine Bu ?_;refine bE O (fun c2=>?_) (fun c2=>?_)
   ·refine Bi ?_;refine uB (Ig O O oO) ?_;refine Bu ?_;rw[Eg.rep_comm,<-Eg.rep_succ];refine bS (ι:=Nat) (j:=i+1) oO oO ⟨O,O,O,au some (bW oO),trivial⟩ uI
   refine Cw ?_;apply cK
   ·rfl
   ·(apply Rs.tmp rfl;apply Rs.tmp rfl;exact Rs.nil)
   ·refine⟨Eg.rep i (x.txA ts),false,?_,fun h=>(by cases h),fun _=>?_,O⟩
    ·exact au (fun b=>Value.tuple #[BN (Eg.rep i (x.txA ts)),.bool b]) (oM oO)
    unfold FZ;rw[if_neg hB,if_neg oO,if_pos e2,if_neg oO]
   exact uI
  obtain rfl:i=pick x.n 7:=by omega
  refine EK ?_;apply cK
  ·rfl
  ·(apply Rs.tmp rfl;apply Rs.tmp rfl;exact Rs.nil)
  ·refine⟨Eg.rep (pick x.n 7) (x.txA ts),decide (pick x.n 7*(x.txA ts).length<=400),?_,fun h=>?_,fun h=>?_,O⟩
   ·exact au (fun b=>Value.tuple #[BN (Eg.rep (pick x.n 7) (x.txA ts)),.bool b]) (decide_eq_decide.2 oO)
   ·unfold FZ;rw[if_neg hB,if_neg oO,if_pos e2,if_pos (by simpa using h)]
   unfold FZ;rw[if_neg hB,if_neg oO,if_pos e2,if_neg (by simpa using h)]
  exact uI
 have n2:¬(pick x.kd 6=2\/pick x.kd 6=5):=oO;have hJ:=lV x.n (many:=(x.txA ts).length+1) oO;refine CB ?_;refine bE O (fun kd3=>?_) (fun kd3=>?_)
 ·have e3:pick x.kd 6=3:=oO;refine Bi ?_;refine BU 87 (BL (((x.txA ts).length+1:Nat):Int)) O (bW (by rw[hF];omega)) ?_;refine BH (pF (k:=x.n) (n:=(x.txA ts).length+1) hE oO oO) O ?_;obtain⟨fr,hG⟩:∃fr,pick x.n ((x.txA ts).length+1)=fr:=⟨_,rfl⟩;rw[hG]at hJ ⊢;have hO:=lV x.m (many:=(x.txA ts).length-fr+1) oO;obtain⟨gn,hK⟩:∃gn,pick x.m ((x.txA ts).length-fr+1)=gn:=⟨_,rfl⟩;refine CK ?_;refine BU 98 (BL (((x.txA ts).length-fr+1:Nat):Int)) O (bW oO) ?_;refine BH (pF (k:=x.m) (n:=(x.txA ts).length-fr+1) hE oO oO) O ?_;rw[hK]at hO ⊢;refine Bv ?_;refine BU 100 (BL ((fr+gn:Nat):Int)) O (bW oO) ?_;refine uB (xN O (hE.t O) ⟨_,O⟩ ⟨_,O⟩ oO oO) ?_;refine BU 101 (BN (((x.txA ts).drop fr).take gn)) O (au Value.string (by rw[zZ _ _ _ oO,Am,qd])) ?_;refine Bi ?_;apply cK
  ·rfl
  ·(apply Rs.tmp rfl;apply Rs.tmp rfl;exact Rs.nil)
  ·refine⟨_,true,O,fun _=>?_,fun h=>(by cases h),O⟩;unfold FZ;rw[if_neg hB,if_neg n1,if_neg n2,if_pos e3,hG,hK]
  exact uI
 have n3:¬pick x.kd 6=3:=oO;refine Bc ?_;refine BU 106 (BL (((x.txA ts).length+1:Nat):Int)) O (bW oO) ?_;refine BH (pF (k:=x.n) (n:=(x.txA ts).length+1) hE oO oO) O ?_;obtain⟨fr,hG⟩:∃fr,pick x.n ((x.txA ts).length+1)=fr:=⟨_,rfl⟩;rw[hG]at hJ ⊢;refine Bi ?_;refine uB (xN O (hE.t O) ⟨_,O⟩ O oO oO) ?_;refine BU 110 (BN ((x.txA ts).drop fr)) O (au Value.string (by rw[zZ _ _ _ oO,fe oO])) ?_;refine CL ?_;refine uB (xN O (hE.t O) O ⟨_,O⟩ oO oO) ?_;refine BU 113 (BN ((x.txA ts).take fr)) O (au Value.string (by rw[zZ _ _ _ oO,oU])) ?_;have hX:((x.txA ts).drop fr).length<=400:=by rw[lw];omega
 have hY:((x.txA ts).take fr).length<=400:=by rw[ig];omega
 refine uB (Ig O O oO) ?_;refine Bw ?_;apply cK
 ·rfl
 ·(apply Rs.tmp rfl;apply Rs.tmp rfl;exact Rs.nil)
 ·refine⟨_,true,O,fun _=>?_,fun h=>(by cases h),O⟩;unfold FZ;rw[if_neg hB,if_neg n1,if_neg n2,if_neg n3,hG]
 exact uI
end
end Go.Proofs.YtnicahfnolhgbaaGreatDoor
namespace Sl
open Go Go.RowKit
variable {E:Bp}{n:Nat}{L:Fr}{S H H':List HP}{ty:TypeId}{pos:String}{af:Array Edge}{d:Option Nat}{gd:Option (Nat×Bool)}{K:Value->List HP->Prop}{Q:Exit->Act->World->Prop}
def XC {x}{src dst e:TypeId}{bs s by_ sz sz1 sz2 zs zs1 zs2}(hx:ev L x=some (BN bs))(hs:E.tab src=some ⟨.string,sz,zs⟩)(ht:E.tab dst=some ⟨.slice e s by_,sz1,zs1⟩)(he:E.tab e=some ⟨.int .u8,sz2,zs2⟩)
  (hk:∀g c,bs.length<=c->K (.slice (BM g) bs.length c) (ro g (bs.map fun b=>Value.int .u8 (b.toNat:Nat))::H)):Ld E n L H ⟨d,.convert src dst x,ty,pos,af,gd⟩ K:=fun Q next a w G hn=>by
 obtain⟨i',z,_,_,_,_,hA⟩:=fC hs;simp only[TK.holds]at hA
 have hu:E.P.underlying src=some .string:=by
  split at hA
  ·assumption
  cases hA
 obtain⟨hd,_⟩:=fD ht;have hr:=run_bytes_of_string (P:=E.P) w src dst e ⟨⟨bs⟩⟩ hu hd (nJ he)
 have hB:(execOp a.eval ⟨d,.convert src dst x,ty,pos,af,gd⟩).run E.P w= .ok (.value (.slice (BM w.heap.size) bs.length (grownCap w bs.length 0 e))) (w.drew.alloc (.cells (bytesRow ⟨⟨bs⟩⟩ (grownCap w bs.length 0 e)) e ((bytesRow ⟨⟨bs⟩⟩ (grownCap w bs.length 0 e)).size,(bytesRow ⟨⟨bs⟩⟩ (grownCap w bs.length 0 e)).size+1))):=by
  have hC:(convert src dst (BN bs)).run E.P w= .ok (.slice (BM w.heap.size) bs.length (grownCap w bs.length 0 e)) (w.drew.alloc (.cells (bytesRow ⟨⟨bs⟩⟩ (grownCap w bs.length 0 e)) e ((bytesRow ⟨⟨bs⟩⟩ (grownCap w bs.length 0 e)).size,(bytesRow ⟨⟨bs⟩⟩ (grownCap w bs.length 0 e)).size+1))):=hr;simp only[execOp,G.f.ev hx,Sem.run_bind,Sem.run_map,hC];simp[hC]
 unfold Oper.wp;rw[hB,Oper.upon_value];refine hn _ _ _ (hk _ _ (grownCap_ge _ _ _ _)) ?_;refine(G.hp.drew.new _).imp fun _=>eU fun k h=>⟨_,_,_,h,fun i v hv=>?_⟩
 have hi:i<bs.length:=by have:=(ae.1 hv).1;simpa using this
 unfold bytesRow;rw[wy (by simpa using hi)];simpa using hv
end Sl
namespace Go.Proofs.YtnicahfnolhgbaaGreatDoor
open Go Go.RowKit Sl Eg
set_option maxRecDepth 10000
section
variable {E:Bp}{Es:List Bj}{s most:Nat}
def IU (L:List Rl)(ids:List Nat)(ts:List (List UInt8)):Prop:=ids.length=ts.length/\∀(i id:Nat)(t:List UInt8),ids[i]?=some id->ts[i]?=some t->Be L id t
def IU.more {ids ts}(h:IU (BO Es) ids ts)(M:List Bj):IU (BO (Es++M)) ids ts:=⟨h.1,fun i id t h1 h2=>(h.2 i id t h1 h2).more M⟩
def IU.at {L:List Rl}{ids:List Nat}{ts:List (List UInt8)}(h:IU L ids ts){i:Nat}{t:List UInt8}(ht:ts[i]?=some t):∃id,ids[i]?=some id/\Be L id t:=by
 have hi:=(ae.1 ht).1;obtain⟨id,hA⟩:∃id,ids[i]?=some id:=⟨_,ag (by rw[h.1];exact hi)⟩;exact⟨id,hA,h.2 i id t hA ht⟩
def IU.snoc {L ids ts}(h:IU L ids ts){id t}(hb:Be L id t):IU L (ids++[id]) (ts++[t]):=by
 refine⟨by simp[h.1],fun i id' t' h1 h2=>?_⟩;rcases fw i ids.length with hi|hi
 ·rw[aj hi]at h1;rw[aj (by rw[<-h.1];exact hi)]at h2;exact h.2 i id' t' h1 h2
 have hl:=(ae.1 h1).1;simp at hl;obtain rfl:i=ids.length:=by omega
 rw[bi (ai _)]at h1;rw[h.1,bi (ai _)]at h2;simp at h1 h2;subst h1;subst h2;exact hb
def RI {ids}(h:0<ids.length):Bg ids≠[]:=fun e=>by
 have:(Bg ids).length=ids.length:=by simp[Bg]
 rw[e]at this;simp at this;omega
def Nk (hE:BP E){ids:List Nat}{ts:List (List UInt8)}{x:EY}{a1 a2:Option Addr}{c1 c2 n:Nat}{q1 q2:HP}(hn:ts.length=n)(hO:Cv E.w0 a1 (Bg ids) q1)(hP:Cv E.w0 a2 (Gv ts) q2)(hJ:IU (BO Es) ids ts)(hL:∀t∈ts,t.length<=400) (he:n<=1000) (hx:x.ok) {t:List UInt8} (hp:FZ ts x=some t) (hN:Es.length+1825<=most) (hf:Es.length<65000):
  Ct E 31 [uPt s,.slice a1 n c1,.slice a2 n c2,.agg ⟨Ic x⟩] [bR s most Es,q1,q2]
   (fun v Q=>∃(M:List Bj)(id:Nat),v= .tuple #[.int .i64 (id:Nat),.nilIface]/\M.length<=1825/\Be (BO (Es++M)) id t/\Q=[bR s most (Es++M),q1,q2]):=by
 subst hn;have hg:=hJ.1;have hA:=YY hL x;have hh:=zBg hL x;have hi:=lV x.kd (many:=6) oO;have hj:=lV x.n (many:=7) oO;have hk:=hx;obtain⟨⟨k1,k2⟩,⟨p1,p2⟩,⟨b1,b2⟩,⟨n1',n2'⟩,⟨m1,m2⟩⟩:=hx;refine bO (hE.fn Tryz.func31) O O O (fun R=>?_);simp only[dS,uV,uW];refine CL ?_;refine uU (gN O (fun b7=>?_));rw[qLb];refine Br ?_;refine BH (pF (k:=x.kd) (n:=6) hE oO oO) O ?_;refine Bu ?_;refine dV 26 O (fun k0=>?_) (fun k0=>?_)
 ·have hC:x.t.length<=60/\t=x.t:=by
   unfold FZ at hp;rw[if_pos (.inl oO)]at hp;split at hp
   ·cases hp;exact⟨by assumption,rfl⟩
   cases hp
  refine Bi ?_;obtain⟨hC,rfl⟩:=hC;refine Bw ?_;refine uU (XC O (hE.t O) (hE.t O) (hE.t O) (fun gb cb hK=>?_));refine uX (Ws (Es:=Es) (most:=most) (bs:=x.t) (a:=some ⟨gb,0,none⟩) (c:=cb) (q:=ro gb (x.t.map fun b=>Value.int .u8 (b.toNat:Nat))) hE (fun _=>⟨gb,0,O,Ll⟩) oO hK oO) O ?_;rintro _ _⟨M,id,rfl,hM,hb,rfl⟩;simp only[uV,uW];refine Br ?_;exact uZ O (.tmp O (.tmp O .nil)) ⟨M,id,O,oO,hb,O⟩
 have hQ:pick x.kd 6≠0:=oO;refine Bu ?_;refine bE O (fun k9=>?_) (fun k9=>?_)
 ·have hC:x.t.length<=60/\t=x.t:=by
   unfold FZ at hp;rw[if_pos (.inr (dw oO))]at hp;split at hp
   ·cases hp;exact⟨by assumption,rfl⟩
   cases hp
  obtain⟨hC,rfl⟩:=hC;refine Bw ?_;refine uU (XC O (hE.t O) (hE.t O) (hE.t O) (fun gb cb hK=>?_));refine uX (Ws (Es:=Es) (most:=most) (bs:=x.t) (a:=some ⟨gb,0,none⟩) (c:=cb) (q:=ro gb (x.t.map fun b=>Value.int .u8 (b.toNat:Nat))) hE (fun _=>⟨gb,0,O,Ll⟩) oO hK oO) O ?_;rintro _ _⟨M,id,rfl,hM,hb,rfl⟩;simp only[uV,uW];refine Br ?_;exact uZ O (.tmp O (.tmp O .nil)) ⟨M,id,O,oO,hb,O⟩
 have hF:ts≠[]:=fun e=>k9 (by rw[e];rfl)
 have hD:0<ts.length:=pm.2 hF;have hl:=lV x.a hD;have hm:=lV x.b hD;have hG:¬(pick x.kd 6=0\/ts=[]):=fun h=>h.elim hQ hF
 obtain⟨ia,hR,hH⟩:=hJ.at (Yv hF x);obtain⟨ib,hS,hT⟩:=hJ.at (MP hF x);obtain⟨g1,o1,rfl,ho⟩:=hO (RI oO);obtain⟨g2,o2,rfl,hq⟩:=hP (MN hF);have f1:=fT hR (((pick x.a ts.length:Nat):Int).toNat) oO;have f2:=fT hS (((pick x.b ts.length:Nat):Int).toNat) oO;have f3:=YX (Yv hF x) (((pick x.a ts.length:Nat):Int).toNat) oO;refine CG ?_;refine uH ([cells b7 (Ic x) 61,q1]) ?_;refine Bw ?_;refine uD 8 O (aB O) ?_;refine Bz ?_;apply dH 5 O oK O;refine uC (pF (k:=x.a) (n:=ts.length) hE hD oO) O ?_;rintro _ _⟨rfl,rfl⟩;simp only[uV,uW];refine uE ?_;refine CL ?_;apply dH 13 O oK O;refine uC (pF (k:=x.b) (n:=ts.length) hE hD oO) O ?_;rintro _ _⟨rfl,rfl⟩;simp only[uV,uW];refine uE ?_;refine CP ?_;refine BH (pF (k:=x.a) (n:=ts.length) hE hD oO) O ?_;refine Bu ?_;refine BH (pF (k:=x.n) (n:=7) hE oO oO) O ?_;refine CX ?_;have hr:(⟨⟨x.txA ts⟩⟩:ByteArray).size=(x.txA ts).length:=rfl;have hs:=lV x.n (many:=(x.txA ts).length+1) oO;refine bE O (fun kd1=>?_) (fun kd1=>?_)
 ·have e1:pick x.kd 6=1:=oO
  have hB:(x.txA ts).length+(x.txB ts).length<=400/\t=x.txA ts++x.txB ts:=by
   unfold FZ at hp;rw[if_neg hG,if_pos e1]at hp;split at hp
   ·cases hp;exact⟨by assumption,rfl⟩
   cases hp
  obtain⟨hB,rfl⟩:=hB;refine Bw ?_;refine uX (nY (most:=most) hE hH hT hB oO) O ?_;rintro _ _⟨M,id,rfl,hM,hb,rfl⟩;simp only[uV,uW];refine Bu ?_;exact uZ O (.tmp O (.tmp O .nil)) ⟨M,id,O,oO,hb,O⟩
 have n1:¬pick x.kd 6=1:=oO;refine CB ?_;refine bE O (fun kd2=>?_) (fun kd2=>?_)
 ·have hB:pick x.n 7*(x.txA ts).length<=400/\t=Eg.rep (pick x.n 7) (x.txA ts):=by
   unfold FZ at hp;rw[if_neg hG,if_neg n1,if_pos (.inl oO)]at hp;split at hp
   ·cases hp;exact⟨by assumption,rfl⟩
   cases hp
  obtain⟨hB,rfl⟩:=hB;refine Bw ?_;refine uX (qTe (most:=most) hE hH oO hB hA oO) O ?_;rintro _ _⟨M,id,rfl,hM,hb,rfl⟩;simp only[uV,uW];refine Bu ?_;exact uZ O (.tmp O (.tmp O .nil)) ⟨M,id,O,oO,hb,O⟩
 refine CB ?_;refine bE O (fun kd3=>?_) (fun kd3=>?_)
 ·have hB:t=((x.txA ts).drop (pick x.n ((x.txA ts).length+1))).take (pick x.m ((x.txA ts).length-pick x.n ((x.txA ts).length+1)+1)):=by
   unfold FZ at hp;rw[if_neg hG,if_neg n1,if_neg oO,if_pos oO]at hp;exact(oH hp).symm
  subst hB;refine Bi ?_;refine BU 88 (.int .i64 (((x.txA ts).length+1:Nat):Int)) O (bW oO) ?_;refine BH (pF (k:=x.n) (n:=(x.txA ts).length+1) hE oO oO) O ?_;generalize hU:pick x.n ((x.txA ts).length+1)=fr at*;have ht:=lV x.m (many:=(x.txA ts).length-fr+1) oO;refine CK ?_;refine BU 99 (.int .i64 (((x.txA ts).length-fr+1:Nat):Int)) O (bW oO) ?_;refine BH (pF (k:=x.m) (n:=(x.txA ts).length-fr+1) hE oO oO) O ?_;refine uX (qTb (most:=most) hE hH hA oO oO) O ?_;rintro _ _⟨M,id,rfl,hM,hb,rfl⟩;simp only[uV,uW];refine Bu ?_;exact uZ O (.tmp O (.tmp O .nil)) ⟨M,id,O,oO,hb,O⟩
 refine CB ?_;refine bE O (fun kd4=>?_) (fun kd4=>?_)
 ·have hB:t=(x.txA ts).drop (pick x.n ((x.txA ts).length+1))++(x.txA ts).take (pick x.n ((x.txA ts).length+1)):=by
   unfold FZ at hp;rw[if_neg hG,if_neg n1,if_neg oO,if_neg oO]at hp;exact(oH hp).symm
  subst hB;refine Bu ?_;refine BU 113 (.int .i64 (((x.txA ts).length+1:Nat):Int)) O (bW oO) ?_;refine BH (pF (k:=x.n) (n:=(x.txA ts).length+1) hE oO oO) O ?_;generalize hU:pick x.n ((x.txA ts).length+1)=fr at*;refine uX (Jj (most:=most) (n:=fr) hE hH hA oO oO) O ?_;rintro _ _⟨M,u,v,rfl,hM,hV,hW,rfl⟩;simp only[uV,uW];refine Dv ?_;have hX:((x.txA ts).drop fr).length+((x.txA ts).take fr).length<=400:=by rw[lw,ig];omega
  have hY:(Es++M).length+73<=most:=by rw[aa];omega
  refine uX (nY (most:=most) (Es:=Es++M) hE hW hV hX hY) O ?_;rintro _ _⟨M2,id2,rfl,hZ,hI,rfl⟩;simp only[uV,uW];rw[ah Es]at hI ⊢;refine Bu ?_;exact uZ O (.tmp O (.tmp O .nil)) ⟨M++M2,id2,O,by rw[aa];omega,hI,rfl⟩
 have hB:pick x.n 7*(x.txA ts).length<=400/\t=Eg.rep (pick x.n 7) (x.txA ts):=by
  unfold FZ at hp;rw[if_neg hG,if_neg n1,if_pos (.inr oO)]at hp;split at hp
  ·cases hp;exact⟨by assumption,rfl⟩
  cases hp
 obtain⟨hB,rfl⟩:=hB;refine Br ?_;refine uX (qXb (most:=most) hE hH oO hA oO) O ?_;rintro _ _⟨M,id,rfl,hM,ha,rfl⟩;simp only[uV,uW];refine DW ?_;have hc:(Es++M).length+146*pick x.n 7<=most:=by rw[aa];omega
 have hd:(Es++M).length<65536:=by rw[aa];omega
 refine uX (Qt (most:=most) (Es:=Es++M) hE ha oO hB hc hd) O ?_;rintro _ _⟨M2,id2,rfl,hZ,hI,rfl⟩;simp only[uV,uW];rw[ah Es]at hI ⊢;refine Bi ?_;exact uZ O (.tmp O (.tmp O .nil)) ⟨M++M2,id2,O,by rw[aa];omega,hI,rfl⟩
end
section
variable {E:Bp}{s most:Nat}
def xD (l:List EY):(Fj l).length=l.length*6:=by
 induction l with
 |nil=>rfl
 |cons x l ih=>simp only[Fj,qz,aa,az]at ih ⊢;rw[ih];simp only[Ic,az,iw];omega
def qZb {l k x}(h:l[k]?=some x):∀j u,(Ic x)[j]?=some u->(Fj l)[k*6+j]?=some u:=by
 have hk:=(ae.1 h).1
 have e:l=l.take k++x::l.drop (k+1):=by
  obtain⟨h1,e1⟩:=ae.1 h;have e2:l.drop k=x::l.drop (k+1):=by rw[mr h1,e1]
  rw[<-e2,dh]
 have hl:(Fj (l.take k)).length=k*6:=by rw[xD,ig,lm oO]
 have e2:Fj l=Fj (l.take k)++(Ic x++Fj (l.drop (k+1))):=by
  conv=>lhs;rw[e]
  simp[Fj]
 intro j u hu;have hj:=(ae.1 hu).1;rw[e2,<-hl,bi oO,qd,aj hj];exact hu
structure Vv where
 i:Nat
 M:List Bj
 ids:List Nat
 ts:List (List UInt8)
 p1:Option Addr
 c1:Nat
 p2:Option Addr
 c2:Nat
def BuP (s most:Nat)(l:List EY)(q:HP)(v:Value)(Q:List HP):Prop:=
 ∃(M:List Bj)(ids:List Nat)(p1 p2:Option Addr)(c1 c2:Nat),v= .tuple #[.slice p1 (DY [] (l.take 30)).length c1,.slice p2 (DY [] (l.take 30)).length c2,.bool true]/\M.length<=54750/\IU (BO M) ids (DY [] (l.take 30))/\
  Q=[bR s most M,q,sl p1 c1 41 1 (DY [] (l.take 30)).length (Bg ids),sl p2 c2 9 1 (DY [] (l.take 30)).length (Gv (DY [] (l.take 30)))]
def qQt (hE:BP E){l a c q}(hq:Cv E.w0 a (Fj l) q)(hl:l.length<=9223372036854775807)(hx:∀x∈l,x.ok) (hm:100000<=most):
  Ct E 8 [uPt s,.slice a l.length c] [bR s most [],q] (BuP s most l q):=by
 refine bO (hE.fn Tryz.func8) O O O (fun R=>?_);simp only[dS,uV,uW];refine Dv ?_
 refine dX (fun x:Vv=>[(0,uPt s),(1,.slice a l.length c),(7,.slice x.p1 x.ts.length x.c1),(8,.slice x.p2 x.ts.length x.c2),(9,BK (x.i))]) (fun x=>[bR s most x.M,q,sl x.p1 x.c1 41 1 x.ts.length (Bg x.ids),sl x.p2 x.c2 9 1 x.ts.length (Gv x.ts),R]) (fun x=>l.length-x.i)
  (fun x=>x.i<=l.length/\x.i<=30/\x.ts=DY [] (l.take x.i)/\IU (BO x.M) x.ids x.ts/\x.M.length<=1825*x.i) ⟨0,[],[],[],none,0,none,0⟩ ⟨av _,av _,rfl,⟨rfl,fun i id t h=>by simp at h⟩,av _⟩ BC ?_ ?_
 ·apply cZ (fU (t:=41) (sz:=1));apply cZ (fU (t:=9) (sz:=1));exact uI
 rintro⟨i,M,ids,ts,p1,c1,p2,c2⟩⟨hQ,hK,hB,hC,hM⟩;simp only at hQ hK hB hC hM ⊢
 have hi:ts.length<=i:=by
  have:=VF (l.take i) [];rw[<-hB,ig,iw]at this;omega
 have hL:∀t∈ts,t.length<=400:=by rw[hB];exact wD _ _ (fun t h=>by cases h)
 refine Br ?_;refine dV 18 O (fun g1=>?_) (fun g1=>?_)
 ·refine Bi ?_;refine bE O (fun g2=>?_) (fun g2=>?_)
  ·obtain⟨x,hF⟩:∃x,l[i]?=some x:=BG;have hO:=ak hF
   obtain⟨g,o,rfl,hj⟩:=hq (fun e=>by
    have:=xD l;rw[e]at this;simp at this;omega)
   have fm:=qZb hF;refine iO (p:=sl p1 c1 41 1 ts.length (Bg ids)) uK (fun _ h=>fun hD=>eG h hD) ?_;intro hR;refine iO (p:=sl p2 c2 9 1 ts.length (Gv ts)) uK (fun _ h=>fun hD=>eG h hD) ?_;intro hS;have hT:Cv E.w0 p1 (Bg ids) (sl p1 c1 41 1 ts.length (Bg ids)):=sK (by rw[<-hC.1];simp[Bg]) hR;have hP:Cv E.w0 p2 (Gv ts) (sl p2 c2 9 1 ts.length (Gv ts)):=sK (zBd ts) hS
   have hA:DY [] (l.take (i+1))=match FZ ts x with
     |none=>ts
     |some t=>ts++[t]:=by rw[ed,hF,hB];exact XI _ _
   refine Bc ?_;apply aA
   ·(apply dL rfl (hE.t rfl) rfl (by assumption);(focus((repeat constructor);done));(focus exact fm);(focus rfl);(focus omega))
   ·rfl
   refine uX (qXi (x:=x) hE hP hL oO (hx x hO)) O ?_;rintro _ _⟨u,b,rfl,hU,hV,rfl⟩;simp only[uV,uW];refine CU ?_;refine sI O (fun g3=>?_) (fun g3=>?_)
   ·have hb:b=false:=by simpa using g3
    rw[hV hb]at hA;refine Bu ?_;refine bS (ι:=Vv) (j:=⟨i+1,M,ids,ts,p1,c1,p2,c2⟩) ⟨BD,BD,hA.symm,hC,BD⟩ BD ⟨rfl,rfl,rfl,rfl,au some (bW BD),trivial⟩ uI
   have hb:b=true:=by simpa using g3
   have hp:=hU hb;rw[hp]at hA;refine Bc ?_;apply aA
   ·(apply dL rfl (hE.t rfl) rfl (by assumption);(focus((repeat constructor);done));(focus exact fm);(focus rfl);(focus omega))
   ·rfl
   refine uX (Nk (Es:=M) (s:=s) (most:=most) (n:=ts.length) (x:=x) hE O hT hP hC hL oO (hx x hO) hp oO oO) O ?_;rintro _ _⟨N,id,rfl,hN,hG,rfl⟩;simp only[uV,uW];refine lQ (p:=bR s most (M++N)) uK (fun _ h=>(dR h).1) (fun hw=>?_);have hk:((⟨⟨u⟩⟩:ByteArray).size:Nat)=u.length:=rfl
   have hn:(0<id)↔(0<u.length):=by
    constructor
    ·exact fun h=>hG.pos hw h
    intro h;rcases jo id with rfl|h'
    ·have:=hG.tx;rw[jI]at this;subst this;exact absurd h (Nat.lt_irrefl _)
    exact h'
   have hH:=(hC.more N).snoc hG;refine Dv ?_;refine uB (zBz O O (hE.t O)) ?_;refine BU 54 (.bool false) O (au Value.bool (by rw[show decide (0<((id:Nat):Int))=decide (0<(((⟨⟨u⟩⟩:ByteArray).size:Nat):Int))from decide_eq_decide.2 oO,Bool.xor_self])) ?_;refine Bu ?_;refine uU (aU (hE.t O) (hE.t O) O O O (fun ho=>?_));refine uU (BJ (fun hW hX hY hZ ha hI=>?_));refine CL ?_;refine uU (aU (hE.t O) (hE.t O) O O O (fun hr=>?_));refine uU (BJ (fun hc hd he hf hg hJ=>?_));refine Bc ?_;obtain rfl:hY=(ts++[u]).length:=by rw[aa,bf];omega
   obtain rfl:hZ=Bg (ids++[id]):=by rw[hI,iF];rfl
   obtain rfl:he=(ts++[u]).length:=by rw[aa,bf];omega
   obtain rfl:hf=Gv (ts++[u]):=by rw[hJ,MO];rfl
   refine bS (ι:=Vv) (j:=⟨i+1,M++N,ids++[id],ts++[u],some ⟨hW,0,none⟩,hX,some ⟨hc,0,none⟩,hd⟩) ⟨BD,BD,hA.symm,hH,by simp only[aa];omega⟩ BD ⟨rfl,rfl,rfl,rfl,au some (bW BD),trivial⟩ uI
  obtain rfl:i=30:=by omega
  refine CK ?_;apply cK
  ·rfl
  ·(apply Rs.tmp rfl;apply Rs.tmp rfl;apply Rs.tmp rfl;exact Rs.nil)
  ·refine⟨M,ids,p1,p2,c1,c2,?_,oO,by rw[<-hB];exact hC,rfl⟩;rw[<-hB];rfl
  rw[<-hB];exact uI
 obtain rfl:i=l.length:=by omega
 rw[nu]at hB;have hh:l.take 30=l:=fe hK;rw[<-hh]at hB;refine DW ?_;apply cK
 ·rfl
 ·(apply Rs.tmp rfl;apply Rs.tmp rfl;apply Rs.tmp rfl;exact Rs.nil)
 ·refine⟨M,ids,p1,p2,c1,c2,?_,oO,by rw[<-hB];exact hC,rfl⟩;rw[<-hB];rfl
 rw[<-hB];exact uI
def Jm (hE:BP E){l a c q}(hq:Cv E.w0 a (Fj l) q)(hl:l.length<=9223372036854775807)(hx:∀x∈l,x.ok):
  Ct E 20 [.slice a l.length c] [q]
   (fun v Q=>∃(s:Nat)(M:List Bj)(ids:List Nat)(p1 p2:Option Addr)(c1 c2:Nat),v= .tuple #[uPt s,.slice p1 (DY [] (l.take 30)).length c1,.slice p2 (DY [] (l.take 30)).length c2,.bool true]/\M.length<=54750/\IU (BO M) ids (DY [] (l.take 30))/\
    Q=[bR s 1048576 M,q,sl p1 c1 41 1 (DY [] (l.take 30)).length (Bg ids),sl p2 c2 9 1 (DY [] (l.take 30)).length (Gv (DY [] (l.take 30)))]):=by
 have hA:1048576<=fJ:=ai _;refine bO (hE.fn Tryz.func20) O O O (fun R=>?_);simp only[dS,uV,uW];refine Bc ?_;refine uX (jE (most:=1048576) hE hA) O ?_;rintro _ _⟨s,rfl,rfl⟩;simp only[uV,uW];refine CY ?_;refine uX (qQt (s:=s) (most:=1048576) hE hq hl hx oO) O ?_;rintro _ _⟨M,ids,p1,p2,c1,c2,rfl,hM,hB,rfl⟩;simp only[uV,uW];refine Df ?_;exact uZ O (.tmp O (.tmp O (.tmp O (.tmp O .nil)))) ⟨s,M,ids,p1,p2,c1,c2,O,hM,hB,O⟩
end
