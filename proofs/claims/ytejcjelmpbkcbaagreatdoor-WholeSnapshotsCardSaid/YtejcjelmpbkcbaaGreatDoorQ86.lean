import Derived.Test.YtejcjelmpbkcbaaGreatDoorQ85
set_option linter.all false
set_option maxHeartbeats 1000000
namespace Sl
open Go Go.RowKit
variable {E:Env}{n:Nat}{L:Fr}{S:List HP}{ty:TypeId}{pos:String}{af:Array Edge}{d:Option Nat}{gd:Option (Nat×Bool)}
def cat_mk (a b:List UInt8):(⟨⟨a⟩⟩:ByteArray)++⟨⟨b⟩⟩=⟨⟨a++b⟩⟩:=by
 apply ByteArray.ext;rw[ByteArray.data_append];simp
def qZu {x y:Operand}{xt yt:TypeId}{a b:List UInt8}(hx:ev L x=some (.string ⟨⟨a⟩⟩))(hy:ev L y=some (.string ⟨⟨b⟩⟩))(h:a.length+b.length≤1000000000):
  Yl E n L S ⟨d,.binOp .add xt x y yt,ty,pos,af,gd⟩ (.string ⟨⟨a++b⟩⟩):=fun o w g _=>by
 have h2:¬((((⟨⟨a⟩⟩:ByteArray).size+(⟨⟨b⟩⟩:ByteArray).size:Nat):Int)>IntKind.i64.max):=by
  rw[show(⟨⟨a⟩⟩:ByteArray).size=a.length from rfl,show(⟨⟨b⟩⟩:ByteArray).size=b.length from rfl,show IntKind.i64.max=9223372036854775807 from rfl];omega
 have e:(Op.stringOp .add ⟨⟨a⟩⟩ ⟨⟨b⟩⟩:Sem Value)=pure (.string ⟨⟨a++b⟩⟩):=by
  simp only[Op.stringOp];rw[if_neg h2,cat_mk]
 simp[execOp,eqGuard,binOp_string_add,e,g.ev hx,g.ev hy,pure]
end Sl
namespace Go.Proofs.YtejcjelmpbkcbaaGreatDoor
open Go Go.RowKit Sl Eg
set_option maxRecDepth 10000
section
variable {E:Env}
def mU (hE:Seat E){k:Int}{n:Nat}(hn:1≤n)(hn2:n≤1000000):Ct E 17 [.int .i64 k,.int .i64 (n:Nat)] [] (fun v Q=>v= .int .i64 (pick k n:Nat)∧Q=[]):=by
 have hp:=qZa (n:=k) hn;have h1:=Int.lt_tmod_of_pos k (b:=(n:Int)) oO;have h2:=Int.tmod_lt_of_pos k (b:=(n:Int)) oO
 have h3:(k.tmod n+n)%(n:Int)=(pick k n:Nat):=by
  rw[hp];split
  ·exact yx (a:=k.tmod n+n) (b:=(n:Int)) oO oO
  rw[Int.add_emod_right];exact yx (a:=k.tmod n) (b:=(n:Int)) oO oO
 refine bO (hE.fn Tryz.func17) O O O (fun R=>?_);simp only[dX,uV,uW];refine gg9 ?_;refine uB (y_remt (j:=(n:Int)) O O oO) ?_;refine gg4 ?_;refine l_eq 11 (.int .i64 (pick k n:Nat)) O (bW h3) ?_;refine gg4 ?_;exact uZ O (.tmp O .nil) ⟨O,O⟩
end
section
variable {E:Env}
def tsC_ne {ts:List (List UInt8)}(h:ts≠[]):tsC ts≠[]:=fun e=>by
 have:=qZb ts;rw[e]at this;exact h (dh this.symm)
def qZd {ts:List (List UInt8)}(h:ts≠[])(x:TMk):ts[pick x.a ts.length]?=some (x.txA ts):=by
 have:=lG x.a (many:=ts.length) (qw.2 h);unfold TMk.txA;rw[fe,ag this];rfl
def txB_at {ts:List (List UInt8)}(h:ts≠[])(x:TMk):ts[pick x.b ts.length]?=some (x.txB ts):=by
 have:=lG x.b (many:=ts.length) (qw.2 h);unfold TMk.txB;rw[fe,ag this];rfl
def qOw {ts:List (List UInt8)}{i:Nat}{t:List UInt8}(h:ts[i]?=some t)(j:Nat)(hj:j=i):(tsC ts)[j]?=some (.string ⟨⟨t⟩⟩):=by subst hj;exact tsC_at h
def qKa (x:TMk):bP (.agg ⟨mkV x⟩)=mkV x:=rfl
def PlnP (ts:List (List UInt8))(x:TMk)(q:HP)(v:Value)(Q:List HP):Prop:=∃(u:List UInt8)(b:Bool),v= .tuple #[.string ⟨⟨u⟩⟩,.bool b]∧(b=true→pln ts x=some u)∧(b=false→pln ts x=none)∧Q=[q]
def qVk (hE:Seat E){ts:List (List UInt8)}{x:TMk}{a:Option Addr}{c:Nat}{q:HP}(hq:Rdb E.w0 a (tsC ts) q)(hts:∀t∈ts,t.length≤400) (hn:ts.length≤1000) (hx:x.ok):
  Ct E 80 [.slice a ts.length c,.agg ⟨mkV x⟩] [q] (PlnP ts x q):=by
 obtain⟨⟨k1,k2⟩,⟨a1,a2⟩,⟨b1,b2⟩,⟨n1,n2⟩,⟨m1,m2⟩⟩:=hx;have hA:=qOx hts x;have hBl:=qZe hts x;have hk6:=lG x.kd (many:=6) oO;have hn7:=lG x.n (many:=7) oO;refine bO (hE.fn Tryz.func80) O O O (fun R=>?_);simp only[dX,uV,uW];refine gg2 ?_;refine uU ?_;refine gW O (fun b3=>?_);rw[qKa];refine gg8 ?_;refine uX (mU (k:=x.kd) (n:=6) hE oO oO) O ?_;rintro _ _⟨rfl,rfl⟩;simp only[uV,uW];refine gg9 ?_;refine eF 19 O (fun k0=>?_) (fun k0=>?_)
 ·refine gg21 ?_;apply cB
  ·rfl
  ·(apply Rs.tmp rfl;apply Rs.tmp rfl;exact Rs.nil)
  ·refine⟨x.t,decide (x.t.length≤60),?_,fun h=>?_,fun h=>?_,O⟩
   ·exact bf (fun b=>Value.tuple #[.string ⟨⟨x.t⟩⟩,.bool b]) (decide_eq_decide.2 (show((x.t.length:Nat):Int)≤60↔_ by omega))
   ·unfold pln;rw[if_pos (.inl oO),if_pos (by simpa using h)]
   unfold pln;rw[if_pos (.inl oO),if_neg (by simpa using h)]
  exact uI
 have hk0:pick x.kd 6≠0:=oO;refine gg9 ?_;refine bE O (fun k9=>?_) (fun k9=>?_)
 ·obtain rfl:ts=[]:=dh oO;refine gg14 ?_;apply cB
  ·rfl
  ·(apply Rs.tmp rfl;apply Rs.tmp rfl;exact Rs.nil)
  ·refine⟨x.t,decide (x.t.length≤60),?_,fun h=>?_,fun h=>?_,O⟩
   ·exact bf (fun b=>Value.tuple #[.string ⟨⟨x.t⟩⟩,.bool b]) (decide_eq_decide.2 (show((x.t.length:Nat):Int)≤60↔_ by omega))
   ·unfold pln;rw[if_pos (.inr rfl),if_pos (by simpa using h)]
   unfold pln;rw[if_pos (.inr rfl),if_neg (by simpa using h)]
  exact uI
 refine gg2 ?_;have hne:ts≠[]:=fun e=>k9 (by rw[e];rfl)
 have hpos:=qw.2 hne;have hpa:=lG x.a hpos;have hpb:=lG x.b hpos;obtain⟨g,o,rfl,hq'⟩:=hq (tsC_ne hne);have f1:=qOw (qZd hne x) (((pick x.a ts.length:Nat):Int).toNat) oO;have f2:=qOw (txB_at hne x) (((pick x.b ts.length:Nat):Int).toNat) oO;have hor:¬(pick x.kd 6=0∨ts=[]):=fun h=>h.elim hk0 hne
 refine gg1 ?_;refine uH ([cells b3 (mkV x) 90,q]) ?_;refine gg5 ?_;refine uD 8 O (aB O) ?_;refine gg4 ?_;apply dH 5 O oK O;refine uC (mU (k:=x.a) (n:=ts.length) hE hpos oO) O ?_;rintro _ _⟨rfl,rfl⟩;simp only[uV,uW];refine uE ?_;refine gg2 ?_;apply dH 13 O oK O;refine uC (mU (k:=x.b) (n:=ts.length) hE hpos oO) O ?_;rintro _ _⟨rfl,rfl⟩;simp only[uV,uW];refine uE ?_;refine gg10 ?_;refine uX (mU (k:=x.n) (n:=7) hE oO oO) O ?_;rintro _ _⟨rfl,rfl⟩;simp only[uV,uW];refine gg16 ?_;have hsz:∀u:List UInt8,(⟨⟨u⟩⟩:ByteArray).size=u.length:=fun u=>O
 have hsA:=hsz (x.txA ts);have hsB:=hsz (x.txB ts);refine bE O (fun kd1=>?_) (fun kd1=>?_)
 ·have e1:pick x.kd 6=1:=oO;refine gg4 ?_;refine uB (qZu O O oO) ?_;refine gg13 ?_;apply cB
  ·rfl
  ·(apply Rs.tmp rfl;apply Rs.tmp rfl;exact Rs.nil)
  ·refine⟨x.txA ts++x.txB ts,decide ((x.txA ts).length+(x.txB ts).length≤400),?_,fun h=>?_,fun h=>?_,O⟩
   ·exact bf (fun b=>Value.tuple #[.string ⟨⟨x.txA ts++x.txB ts⟩⟩,.bool b]) (decide_eq_decide.2 (show(((x.txA ts).length:Nat):Int)+(((x.txB ts).length:Nat):Int)≤400↔_ by omega))
   ·unfold pln;rw[if_neg hor,if_pos e1,if_pos (by simpa using h)]
   unfold pln;rw[if_neg hor,if_pos e1,if_neg (by simpa using h)]
  exact uI
 have n1:¬pick x.kd 6=1:=oO;refine gg7 ?_;refine bE O (fun kd2=>?_) (fun kd2=>?_)
 ·have e2:pick x.kd 6=2∨pick x.kd 6=5:= .inl oO;refine gg2 ?_;refine w_eq 61 (.bool true) O (bf Value.bool (ma kd2)) ?_;refine gg13 ?_;refine eQ (fun i:Nat=>[(7,.string ⟨⟨x.txA ts⟩⟩),(9,.int .i64 (pick x.n 7:Nat)),(10,.string ⟨⟨Eg.rep i (x.txA ts)⟩⟩),(11,.int .i64 (i:Nat))]) (fun i=>[q,R]) (fun i=>pick x.n 7-i) (fun i=>i≤pick x.n 7) 0 (au _) ⟨O,O,O,O,trivial⟩ uI ?_;intro i hi;have hrl:(Eg.rep i (x.txA ts)).length=i*(x.txA ts).length:=Eg.rep_length _ _;refine gg7 ?_;have hsR:=hsz (Eg.rep i (x.txA ts));have hmul:i*(x.txA ts).length≤pick x.n 7*(x.txA ts).length:=jw _ hi;refine eF 67 O (fun c1=>?_) (fun c1=>?_)
  ·refine gg9 ?_;refine bE O (fun c2=>?_) (fun c2=>?_)
   ·refine gg7 ?_;refine uB (qZu O O oO) ?_;refine gg9 ?_;rw[Eg.rep_comm,←Eg.rep_succ];refine bS (ι:=Nat) (j:=i+1) oO oO ⟨O,O,O,bf some (bW oO),trivial⟩ uI
   refine gg18 ?_;apply cB
   ·rfl
   ·(apply Rs.tmp rfl;apply Rs.tmp rfl;exact Rs.nil)
   ·refine⟨Eg.rep i (x.txA ts),false,?_,fun h=>(by cases h),fun _=>?_,O⟩
    ·exact bf (fun b=>Value.tuple #[.string ⟨⟨Eg.rep i (x.txA ts)⟩⟩,.bool b]) (ni oO)
    unfold pln;rw[if_neg hor,if_neg oO,if_pos e2,if_neg oO]
   exact uI
  obtain rfl:i=pick x.n 7:=by omega
  refine gg25 ?_;apply cB
  ·rfl
  ·(apply Rs.tmp rfl;apply Rs.tmp rfl;exact Rs.nil)
  ·refine⟨Eg.rep (pick x.n 7) (x.txA ts),decide (pick x.n 7*(x.txA ts).length≤400),?_,fun h=>?_,fun h=>?_,O⟩
   ·exact bf (fun b=>Value.tuple #[.string ⟨⟨Eg.rep (pick x.n 7) (x.txA ts)⟩⟩,.bool b]) (decide_eq_decide.2 oO)
   ·unfold pln;rw[if_neg hor,if_neg oO,if_pos e2,if_pos (by simpa using h)]
   unfold pln;rw[if_neg hor,if_neg oO,if_pos e2,if_neg (by simpa using h)]
  exact uI
 refine gg5 ?_;refine bE O (fun kd5=>?_) (fun kd5=>?_)
 ·have e2:pick x.kd 6=2∨pick x.kd 6=5:= .inr oO;refine gg12 ?_;refine eQ (fun i:Nat=>[(7,.string ⟨⟨x.txA ts⟩⟩),(9,.int .i64 (pick x.n 7:Nat)),(10,.string ⟨⟨Eg.rep i (x.txA ts)⟩⟩),(11,.int .i64 (i:Nat))]) (fun i=>[q,R]) (fun i=>pick x.n 7-i) (fun i=>i≤pick x.n 7) 0 (au _) ⟨O,O,O,O,trivial⟩ uI ?_;intro i hi;have hrl:(Eg.rep i (x.txA ts)).length=i*(x.txA ts).length:=Eg.rep_length _ _;refine gg7 ?_;have hsR:=hsz (Eg.rep i (x.txA ts));have hmul:i*(x.txA ts).length≤pick x.n 7*(x.txA ts).length:=jw _ hi;refine eF 67 O (fun c1=>?_) (fun c1=>?_)
  ·refine gg9 ?_;refine bE O (fun c2=>?_) (fun c2=>?_)
   ·refine gg7 ?_;refine uB (qZu O O oO) ?_;refine gg9 ?_;rw[Eg.rep_comm,←Eg.rep_succ];refine bS (ι:=Nat) (j:=i+1) oO oO ⟨O,O,O,bf some (bW oO),trivial⟩ uI
   refine gg18 ?_;apply cB
   ·rfl
   ·(apply Rs.tmp rfl;apply Rs.tmp rfl;exact Rs.nil)
   ·refine⟨Eg.rep i (x.txA ts),false,?_,fun h=>(by cases h),fun _=>?_,O⟩
    ·exact bf (fun b=>Value.tuple #[.string ⟨⟨Eg.rep i (x.txA ts)⟩⟩,.bool b]) (ni oO)
    unfold pln;rw[if_neg hor,if_neg oO,if_pos e2,if_neg oO]
   exact uI
  obtain rfl:i=pick x.n 7:=by omega
  refine gg25 ?_;apply cB
  ·rfl
  ·(apply Rs.tmp rfl;apply Rs.tmp rfl;exact Rs.nil)
  ·refine⟨Eg.rep (pick x.n 7) (x.txA ts),decide (pick x.n 7*(x.txA ts).length≤400),?_,fun h=>?_,fun h=>?_,O⟩
   ·exact bf (fun b=>Value.tuple #[.string ⟨⟨Eg.rep (pick x.n 7) (x.txA ts)⟩⟩,.bool b]) (decide_eq_decide.2 oO)
   ·unfold pln;rw[if_neg hor,if_neg oO,if_pos e2,if_pos (by simpa using h)]
   unfold pln;rw[if_neg hor,if_neg oO,if_pos e2,if_neg (by simpa using h)]
  exact uI
 have n2:¬(pick x.kd 6=2∨pick x.kd 6=5):=oO;have hpf:=lG x.n (many:=(x.txA ts).length+1) oO;refine gg6 ?_;refine bE O (fun kd3=>?_) (fun kd3=>?_)
 ·have e3:pick x.kd 6=3:=oO;refine gg7 ?_;refine l_eq 87 (.int .i64 (((x.txA ts).length+1:Nat):Int)) O (bW (by rw[hsz];omega)) ?_;refine uX (mU (k:=x.n) (n:=(x.txA ts).length+1) hE oO oO) O ?_;rintro _ _⟨rfl,rfl⟩;simp only[uV,uW];obtain⟨fr,hfr⟩:∃fr,pick x.n ((x.txA ts).length+1)=fr:=⟨_,rfl⟩;rw[hfr]at hpf ⊢;have hpg:=lG x.m (many:=(x.txA ts).length-fr+1) oO;obtain⟨gn,hgn⟩:∃gn,pick x.m ((x.txA ts).length-fr+1)=gn:=⟨_,rfl⟩;refine gg15 ?_;refine l_eq 98 (.int .i64 (((x.txA ts).length-fr+1:Nat):Int)) O (bW oO) ?_;refine uX (mU (k:=x.m) (n:=(x.txA ts).length-fr+1) hE oO oO) O ?_;rintro _ _⟨rfl,rfl⟩;simp only[uV,uW];rw[hgn]at hpg ⊢;refine gg1 ?_;refine l_eq 100 (.int .i64 ((fr+gn:Nat):Int)) O (bW oO) ?_;refine uB (wO O (hE.t O) ⟨_,O⟩ ⟨_,O⟩ oO oO) ?_;refine l_eq 101 (.string ⟨⟨((x.txA ts).drop fr).take gn⟩⟩) O (bf Value.string (by rw[yY _ _ _ oO,zw,oh])) ?_;refine gg7 ?_;apply cB
  ·rfl
  ·(apply Rs.tmp rfl;apply Rs.tmp rfl;exact Rs.nil)
  ·refine⟨_,true,O,fun _=>?_,fun h=>(by cases h),O⟩;unfold pln;rw[if_neg hor,if_neg n1,if_neg n2,if_pos e3,hfr,hgn]
  exact uI
 have n3:¬pick x.kd 6=3:=oO;refine gg10 ?_;refine l_eq 106 (.int .i64 (((x.txA ts).length+1:Nat):Int)) O (bW oO) ?_;refine uX (mU (k:=x.n) (n:=(x.txA ts).length+1) hE oO oO) O ?_;rintro _ _⟨rfl,rfl⟩;simp only[uV,uW];obtain⟨fr,hfr⟩:∃fr,pick x.n ((x.txA ts).length+1)=fr:=⟨_,rfl⟩;rw[hfr]at hpf ⊢;refine gg7 ?_;refine uB (wO O (hE.t O) ⟨_,O⟩ O oO oO) ?_;refine l_eq 110 (.string ⟨⟨(x.txA ts).drop fr⟩⟩) O (bf Value.string (by rw[yY _ _ _ oO,bz oO])) ?_;refine gg2 ?_;refine uB (wO O (hE.t O) O ⟨_,O⟩ oO oO) ?_;refine l_eq 113 (.string ⟨⟨(x.txA ts).take fr⟩⟩) O (bf Value.string (by rw[yY _ _ _ oO,oU])) ?_;have hd1:((x.txA ts).drop fr).length≤400:=by rw[lw];omega
 have hd2:((x.txA ts).take fr).length≤400:=by rw[jv];omega
 refine uB (qZu O O oO) ?_;refine gg5 ?_;apply cB
 ·rfl
 ·(apply Rs.tmp rfl;apply Rs.tmp rfl;exact Rs.nil)
 ·refine⟨_,true,O,fun _=>?_,fun h=>(by cases h),O⟩;unfold pln;rw[if_neg hor,if_neg n1,if_neg n2,if_neg n3,hfr]
 exact uI
end
end Go.Proofs.YtejcjelmpbkcbaaGreatDoor
namespace Sl
open Go Go.RowKit
variable {E:Env}{n:Nat}{L:Fr}{S H H':List HP}{ty:TypeId}{pos:String}{af:Array Edge}{d:Option Nat}{gd:Option (Nat×Bool)}{K:Value→List HP→Prop}{Q:Exit→Act→World→Prop}
def qCz {x:Operand}{src dst e:TypeId}{bs:List UInt8}{s by_ sz sz1 sz2:Nat}{zs zs1 zs2:List Value}(hx:ev L x=some (.string ⟨⟨bs⟩⟩))(hs:E.tab src=some ⟨.string,sz,zs⟩)(ht:E.tab dst=some ⟨.slice e s by_,sz1,zs1⟩)(he:E.tab e=some ⟨.int .u8,sz2,zs2⟩)
  (hk:∀g c,bs.length≤c→K (.slice (some ⟨g,0,none⟩) bs.length c) (ro g (bs.map fun b=>Value.int .u8 (b.toNat:Nat))::H)):Ld E n L H ⟨d,.convert src dst x,ty,pos,af,gd⟩ K:=fun Q next a w G hn=>by
 obtain⟨i',z,_,_,_,_,hk'⟩:=fH hs;simp only[TK.holds]at hk'
 have hu:E.P.underlying src=some .string:=by
  split at hk'
  ·assumption
  cases hk'
 obtain⟨hd,_⟩:=fQ ht;have hr:=run_bytes_of_string (P:=E.P) w src dst e ⟨⟨bs⟩⟩ hu hd (nE he)
 have hrun:(execOp a.eval ⟨d,.convert src dst x,ty,pos,af,gd⟩).run E.P w= .ok (.value (.slice (some ⟨w.heap.size,0,none⟩) bs.length (grownCap w bs.length 0 e))) (w.drew.alloc (.cells (bytesRow ⟨⟨bs⟩⟩ (grownCap w bs.length 0 e)) e ((bytesRow ⟨⟨bs⟩⟩ (grownCap w bs.length 0 e)).size,(bytesRow ⟨⟨bs⟩⟩ (grownCap w bs.length 0 e)).size+1))):=by
  have hr':(convert src dst (.string ⟨⟨bs⟩⟩)).run E.P w= .ok (.slice (some ⟨w.heap.size,0,none⟩) bs.length (grownCap w bs.length 0 e)) (w.drew.alloc (.cells (bytesRow ⟨⟨bs⟩⟩ (grownCap w bs.length 0 e)) e ((bytesRow ⟨⟨bs⟩⟩ (grownCap w bs.length 0 e)).size,(bytesRow ⟨⟨bs⟩⟩ (grownCap w bs.length 0 e)).size+1))):=hr;simp only[execOp,G.f.ev hx,Sem.run_bind,Sem.run_map,hr'];simp[hr']
 unfold Oper.wp;rw[hrun,Oper.upon_value];refine hn _ _ _ (hk _ _ (grownCap_ge _ _ _ _)) ?_;refine(G.hp.drew.new _).imp fun _=>fG fun k h=>⟨_,_,_,h,fun i v hv=>?_⟩
 have hi:i<bs.length:=by have:=(ae.1 hv).1;simpa using this
 unfold bytesRow;rw[oq (by simpa using hi)];simpa using hv
end Sl
namespace Go.Proofs.YtejcjelmpbkcbaaGreatDoor
open Go Go.RowKit Sl Eg
set_option maxRecDepth 10000
section
variable {E:Env}{Es:List Ent}{s most:Nat}
def Bes (L:List Rl)(ids:List Nat)(ts:List (List UInt8)):Prop:=ids.length=ts.length∧∀(i id:Nat)(t:List UInt8),ids[i]?=some id→ts[i]?=some t→Be L id t
def Bes.more {ids:List Nat}{ts:List (List UInt8)}(h:Bes (rls Es) ids ts)(M:List Ent):Bes (rls (Es++M)) ids ts:=⟨h.1,fun i id t h1 h2=>(h.2 i id t h1 h2).more M⟩
def Bes.at {L:List Rl}{ids:List Nat}{ts:List (List UInt8)}(h:Bes L ids ts){i:Nat}{t:List UInt8}(ht:ts[i]?=some t):∃id,ids[i]?=some id∧Be L id t:=by
 have hi:=(ae.1 ht).1;obtain⟨id,hid⟩:∃id,ids[i]?=some id:=⟨_,ag (by rw[h.1];exact hi)⟩;exact⟨id,hid,h.2 i id t hid ht⟩
def Bes.snoc {L:List Rl}{ids:List Nat}{ts:List (List UInt8)}(h:Bes L ids ts){id:Nat}{t:List UInt8}(hb:Be L id t):Bes L (ids++[id]) (ts++[t]):=by
 refine⟨by simp[h.1],fun i id' t' h1 h2=>?_⟩;rcases ed i ids.length with hi|hi
 ·rw[ak hi]at h1;rw[ak (by rw[←h.1];exact hi)]at h2;exact h.2 i id' t' h1 h2
 have hl:=(ae.1 h1).1;simp at hl;obtain rfl:i=ids.length:=by omega
 rw[ax (ai _)]at h1;rw[h.1,ax (ai _)]at h2;simp at h1 h2;subst h1;subst h2;exact hb
def idC_ne {ids:List Nat}(h:0<ids.length):idC ids≠[]:=fun e=>by
 have:(idC ids).length=ids.length:=by simp[idC]
 rw[e]at this;simp at this;omega
def ct_made (hE:Seat E){ids:List Nat}{ts:List (List UInt8)}{x:TMk}{a1 a2:Option Addr}{c1 c2 n:Nat}{q1 q2:HP}(hn:ts.length=n)(hq1:Rdb E.w0 a1 (idC ids) q1)(hq2:Rdb E.w0 a2 (tsC ts) q2)(hbs:Bes (rls Es) ids ts)(hts:∀t∈ts,t.length≤400) (hn2:n≤1000) (hx:x.ok) {t:List UInt8} (hp:pln ts x=some t) (hroom:Es.length+1825≤most) (hE6:Es.length<65000):
  Ct E 81 [uPt s,.slice a1 n c1,.slice a2 n c2,.agg ⟨mkV x⟩] [bR s most Es,q1,q2]
   (fun v Q=>∃(M:List Ent)(id:Nat),v= .tuple #[.int .i64 (id:Nat),.nilIface]∧M.length≤1825∧Be (rls (Es++M)) id t∧Q=[bR s most (Es++M),q1,q2]):=by
 subst hn;have hil:=hbs.1;have hA:=qOx hts x;have hBl:=qZe hts x;have hk6:=lG x.kd (many:=6) oO;have hn7:=lG x.n (many:=7) oO;have hx2:=hx;obtain⟨⟨k1,k2⟩,⟨p1,p2⟩,⟨b1,b2⟩,⟨n1',n2'⟩,⟨m1,m2⟩⟩:=hx;refine bO (hE.fn Tryz.func81) O O O (fun R=>?_);simp only[dX,uV,uW];refine gg2 ?_;refine uU ?_;refine gW O (fun b7=>?_);rw[qKa];refine gg8 ?_;refine uX (mU (k:=x.kd) (n:=6) hE oO oO) O ?_;rintro _ _⟨rfl,rfl⟩;simp only[uV,uW];refine gg9 ?_;refine eF 26 O (fun k0=>?_) (fun k0=>?_)
 ·have ht60:x.t.length≤60∧t=x.t:=by
   unfold pln at hp;rw[if_pos (.inl oO)]at hp;split at hp
   ·cases hp;exact⟨by assumption,rfl⟩
   cases hp
  refine gg7 ?_;obtain⟨ht60,rfl⟩:=ht60;refine gg5 ?_;refine uU ?_;refine qCz O (hE.t O) (hE.t O) (hE.t O) (fun gb cb hcb=>?_);refine uX (qBu (Es:=Es) (most:=most) (bs:=x.t) (a:=some ⟨gb,0,none⟩) (c:=cb) (q:=ro gb (x.t.map fun b=>Value.int .u8 (b.toNat:Nat))) hE (fun _=>⟨gb,0,O,rd_ro⟩) oO hcb oO) O ?_;rintro _ _⟨M,id,rfl,hM,hb,rfl⟩;simp only[uV,uW];refine gg8 ?_;exact uZ O (.tmp O (.tmp O .nil)) ⟨M,id,O,oO,hb,O⟩
 have hk0:pick x.kd 6≠0:=oO;refine gg9 ?_;refine bE O (fun k9=>?_) (fun k9=>?_)
 ·have ht60:x.t.length≤60∧t=x.t:=by
   unfold pln at hp;rw[if_pos (.inr (dh oO))]at hp;split at hp
   ·cases hp;exact⟨by assumption,rfl⟩
   cases hp
  obtain⟨ht60,rfl⟩:=ht60;refine gg5 ?_;refine uU ?_;refine qCz O (hE.t O) (hE.t O) (hE.t O) (fun gb cb hcb=>?_);refine uX (qBu (Es:=Es) (most:=most) (bs:=x.t) (a:=some ⟨gb,0,none⟩) (c:=cb) (q:=ro gb (x.t.map fun b=>Value.int .u8 (b.toNat:Nat))) hE (fun _=>⟨gb,0,O,rd_ro⟩) oO hcb oO) O ?_;rintro _ _⟨M,id,rfl,hM,hb,rfl⟩;simp only[uV,uW];refine gg8 ?_;exact uZ O (.tmp O (.tmp O .nil)) ⟨M,id,O,oO,hb,O⟩
 have hne:ts≠[]:=fun e=>k9 (by rw[e];rfl)
 have hpos:0<ts.length:=qw.2 hne;have hpa:=lG x.a hpos;have hpb:=lG x.b hpos;have hor:¬(pick x.kd 6=0∨ts=[]):=fun h=>h.elim hk0 hne
 obtain⟨ia,hia,hba⟩:=hbs.at (qZd hne x);obtain⟨ib,hib,hbb⟩:=hbs.at (txB_at hne x);obtain⟨g1,o1,rfl,hqa⟩:=hq1 (idC_ne oO);obtain⟨g2,o2,rfl,hqb⟩:=hq2 (tsC_ne hne);have f1:=gL hia (((pick x.a ts.length:Nat):Int).toNat) oO;have f2:=gL hib (((pick x.b ts.length:Nat):Int).toNat) oO;have f3:=qOw (qZd hne x) (((pick x.a ts.length:Nat):Int).toNat) oO;refine gg3 ?_;refine uH ([cells b7 (mkV x) 90,q1]) ?_;refine gg5 ?_;refine uD 8 O (aB O) ?_;refine gg4 ?_;apply dH 5 O oK O;refine uC (mU (k:=x.a) (n:=ts.length) hE hpos oO) O ?_;rintro _ _⟨rfl,rfl⟩;simp only[uV,uW];refine uE ?_;refine gg2 ?_;apply dH 13 O oK O;refine uC (mU (k:=x.b) (n:=ts.length) hE hpos oO) O ?_;rintro _ _⟨rfl,rfl⟩;simp only[uV,uW];refine uE ?_;refine gg13 ?_;refine uX (mU (k:=x.a) (n:=ts.length) hE hpos oO) O ?_;rintro _ _⟨rfl,rfl⟩;simp only[uV,uW];refine gg9 ?_;refine uX (mU (k:=x.n) (n:=7) hE oO oO) O ?_;rintro _ _⟨rfl,rfl⟩;simp only[uV,uW];refine gg16 ?_;have hsA:(⟨⟨x.txA ts⟩⟩:ByteArray).size=(x.txA ts).length:=rfl;have hpf:=lG x.n (many:=(x.txA ts).length+1) oO;refine bE O (fun kd1=>?_) (fun kd1=>?_)
 ·have e1:pick x.kd 6=1:=oO
  have hp1:(x.txA ts).length+(x.txB ts).length≤400∧t=x.txA ts++x.txB ts:=by
   unfold pln at hp;rw[if_neg hor,if_pos e1]at hp;split at hp
   ·cases hp;exact⟨by assumption,rfl⟩
   cases hp
  obtain⟨hp1,rfl⟩:=hp1;refine gg5 ?_;refine uX (nW (most:=most) hE hba hbb hp1 oO) O ?_;rintro _ _⟨M,id,rfl,hM,hb,rfl⟩;simp only[uV,uW];refine gg9 ?_;exact uZ O (.tmp O (.tmp O .nil)) ⟨M,id,O,oO,hb,O⟩
 have n1:¬pick x.kd 6=1:=oO;refine gg6 ?_;refine bE O (fun kd2=>?_) (fun kd2=>?_)
 ·have hp1:pick x.n 7*(x.txA ts).length≤400∧t=Eg.rep (pick x.n 7) (x.txA ts):=by
   unfold pln at hp;rw[if_neg hor,if_neg n1,if_pos (.inl oO)]at hp;split at hp
   ·cases hp;exact⟨by assumption,rfl⟩
   cases hp
  obtain⟨hp1,rfl⟩:=hp1;refine gg5 ?_;refine uX (qRx (most:=most) hE hba oO hp1 hA oO) O ?_;rintro _ _⟨M,id,rfl,hM,hb,rfl⟩;simp only[uV,uW];refine gg9 ?_;exact uZ O (.tmp O (.tmp O .nil)) ⟨M,id,O,oO,hb,O⟩
 refine gg6 ?_;refine bE O (fun kd3=>?_) (fun kd3=>?_)
 ·have hp1:t=((x.txA ts).drop (pick x.n ((x.txA ts).length+1))).take (pick x.m ((x.txA ts).length-pick x.n ((x.txA ts).length+1)+1)):=by
   unfold pln at hp;rw[if_neg hor,if_neg n1,if_neg oO,if_pos oO]at hp;exact(lm hp).symm
  subst hp1;refine gg7 ?_;refine l_eq 88 (.int .i64 (((x.txA ts).length+1:Nat):Int)) O (bW oO) ?_;refine uX (mU (k:=x.n) (n:=(x.txA ts).length+1) hE oO oO) O ?_;rintro _ _⟨rfl,rfl⟩;simp only[uV,uW];generalize hfr:pick x.n ((x.txA ts).length+1)=fr at*;have hpg:=lG x.m (many:=(x.txA ts).length-fr+1) oO;refine gg15 ?_;refine l_eq 99 (.int .i64 (((x.txA ts).length-fr+1:Nat):Int)) O (bW oO) ?_;refine uX (mU (k:=x.m) (n:=(x.txA ts).length-fr+1) hE oO oO) O ?_;rintro _ _⟨rfl,rfl⟩;simp only[uV,uW];refine uX (qRw (most:=most) hE hba hA oO oO) O ?_;rintro _ _⟨M,id,rfl,hM,hb,rfl⟩;simp only[uV,uW];refine gg9 ?_;exact uZ O (.tmp O (.tmp O .nil)) ⟨M,id,O,oO,hb,O⟩
 refine gg6 ?_;refine bE O (fun kd4=>?_) (fun kd4=>?_)
 ·have hp1:t=(x.txA ts).drop (pick x.n ((x.txA ts).length+1))++(x.txA ts).take (pick x.n ((x.txA ts).length+1)):=by
   unfold pln at hp;rw[if_neg hor,if_neg n1,if_neg oO,if_neg oO]at hp;exact(lm hp).symm
  subst hp1;refine gg9 ?_;refine l_eq 113 (.int .i64 (((x.txA ts).length+1:Nat):Int)) O (bW oO) ?_;refine uX (mU (k:=x.n) (n:=(x.txA ts).length+1) hE oO oO) O ?_;rintro _ _⟨rfl,rfl⟩;simp only[uV,uW];generalize hfr:pick x.n ((x.txA ts).length+1)=fr at*;refine uX (ct_Split (most:=most) (n:=fr) hE hba hA oO oO) O ?_;rintro _ _⟨M,u,v,rfl,hM,hbu,hbv,rfl⟩;simp only[uV,uW];refine gg24 ?_;have hlr:((x.txA ts).drop fr).length+((x.txA ts).take fr).length≤400:=by rw[lw,jv];omega
  have hjr:(Es++M).length+73≤most:=by rw[aa];omega
  refine uX (nW (most:=most) (Es:=Es++M) hE hbv hbu hlr hjr) O ?_;rintro _ _⟨M2,id2,rfl,hM2,hb2,rfl⟩;simp only[uV,uW];rw[ah Es]at hb2 ⊢;refine gg9 ?_;exact uZ O (.tmp O (.tmp O .nil)) ⟨M++M2,id2,O,by rw[aa];omega,hb2,rfl⟩
 have hp1:pick x.n 7*(x.txA ts).length≤400∧t=Eg.rep (pick x.n 7) (x.txA ts):=by
  unfold pln at hp;rw[if_neg hor,if_neg n1,if_pos (.inr oO)]at hp;split at hp
  ·cases hp;exact⟨by assumption,rfl⟩
  cases hp
 obtain⟨hp1,rfl⟩:=hp1;refine gg8 ?_;refine uX (qVa (most:=most) hE hba oO hA oO) O ?_;rintro _ _⟨M,id,rfl,hM,hpw,rfl⟩;simp only[uV,uW];refine gg21 ?_;have hr1:(Es++M).length+146*pick x.n 7≤most:=by rw[aa];omega
 have hr2:(Es++M).length<65536:=by rw[aa];omega
 refine uX (ct_bOf (most:=most) (Es:=Es++M) hE hpw oO hp1 hr1 hr2) O ?_;rintro _ _⟨M2,id2,rfl,hM2,hb2,rfl⟩;simp only[uV,uW];rw[ah Es]at hb2 ⊢;refine gg7 ?_;exact uZ O (.tmp O (.tmp O .nil)) ⟨M++M2,id2,O,by rw[aa];omega,hb2,rfl⟩
end
section
variable {E:Env}{s most:Nat}
def wH (l:List TMk):(mkVs l).length=l.length*6:=by
 induction l with
 |nil=>rfl
 |cons x l ih=>simp only[mkVs,uu,aa,av]at ih ⊢;rw[ih];simp only[mkV,av,di];omega
def qXf {l:List TMk}{k:Nat}{x:TMk}(h:l[k]?=some x):∀j u,(mkV x)[j]?=some u→(mkVs l)[k*6+j]?=some u:=by
 have hk:=(ae.1 h).1
 have e:l=l.take k++x::l.drop (k+1):=by
  obtain⟨h1,e1⟩:=ae.1 h;have e2:l.drop k=x::l.drop (k+1):=by rw[kz h1,e1]
  rw[←e2,iw]
 have hl:(mkVs (l.take k)).length=k*6:=by rw[wH,jv,kw oO]
 have e2:mkVs l=mkVs (l.take k)++(mkV x++mkVs (l.drop (k+1))):=by
  conv=>lhs;rw[e]
  simp[mkVs]
 intro j u hu;have hj:=(ae.1 hu).1;rw[e2,←hl,ax oO,oh,ak hj];exact hu
structure BuG where
 i:Nat
 M:List Ent
 ids:List Nat
 ts:List (List UInt8)
 p1:Option Addr
 c1:Nat
 p2:Option Addr
 c2:Nat
def BuP (s most:Nat)(l:List TMk)(q:HP)(v:Value)(Q:List HP):Prop:=
 ∃(M:List Ent)(ids:List Nat)(p1 p2:Option Addr)(c1 c2:Nat),v= .tuple #[.slice p1 (plns [] (l.take 30)).length c1,.slice p2 (plns [] (l.take 30)).length c2,.bool true]∧M.length≤54750∧Bes (rls M) ids (plns [] (l.take 30))∧
  Q=[bR s most M,q,sl p1 c1 56 1 (plns [] (l.take 30)).length (idC ids),sl p2 c2 9 1 (plns [] (l.take 30)).length (tsC (plns [] (l.take 30)))]
def ct_build (hE:Seat E){l:List TMk}{a:Option Addr}{c:Nat}{q:HP}(hq:Rdb E.w0 a (mkVs l) q)(hl:l.length≤9223372036854775807)(hx:∀x∈l,x.ok) (hm:100000≤most):
  Ct E 44 [uPt s,.slice a l.length c] [bR s most [],q] (BuP s most l q):=by
 refine bO (hE.fn Tryz.func44) O O O (fun R=>?_);simp only[dX,uV,uW];refine gg24 ?_
 refine eQ (fun x:BuG=>[(0,uPt s),(1,.slice a l.length c),(7,.slice x.p1 x.ts.length x.c1),(8,.slice x.p2 x.ts.length x.c2),(9,.int .i64 (x.i:Nat))]) (fun x=>[bR s most x.M,q,sl x.p1 x.c1 56 1 x.ts.length (idC x.ids),sl x.p2 x.c2 9 1 x.ts.length (tsC x.ts),R]) (fun x=>l.length-x.i)
  (fun x=>x.i≤l.length∧x.i≤30∧x.ts=plns [] (l.take x.i)∧Bes (rls x.M) x.ids x.ts∧x.M.length≤1825*x.i) ⟨0,[],[],[],none,0,none,0⟩ ⟨au _,au _,rfl,⟨rfl,fun i id t h=>by simp at h⟩,au _⟩ ⟨rfl,rfl,rfl,rfl,rfl,trivial⟩ ?_ ?_
 ·apply cO (gU (t:=56) (sz:=1));apply cO (gU (t:=9) (sz:=1));exact uI
 rintro⟨i,M,ids,ts,p1,c1,p2,c2⟩⟨hi1,hi2,hts,hbs,hM⟩;simp only at hi1 hi2 hts hbs hM ⊢
 have htl:ts.length≤i:=by
  have:=qBd (l.take i) [];rw[←hts,jv,di]at this;omega
 have hsh:∀t∈ts,t.length≤400:=by rw[hts];exact vM _ _ (fun t h=>by cases h)
 refine gg8 ?_;refine eF 18 O (fun g1=>?_) (fun g1=>?_)
 ·refine gg7 ?_;refine bE O (fun g2=>?_) (fun g2=>?_)
  ·obtain⟨x,hxl⟩:∃x,l[i]?=some x:=⟨_,ag oO⟩;have hxm:=ay hxl
   obtain⟨g,o,rfl,hq'⟩:=hq (fun e=>by
    have:=wH l;rw[e]at this;simp at this;omega)
   have fm:=qXf hxl;refine jG (p:=sl p1 c1 56 1 ts.length (idC ids)) uK (fun _ h=>fun hpos=>fA h hpos) ?_;intro hf1;refine jG (p:=sl p2 c2 9 1 ts.length (tsC ts)) uK (fun _ h=>fun hpos=>fA h hpos) ?_;intro hf2;have hr1:Rdb E.w0 p1 (idC ids) (sl p1 c1 56 1 ts.length (idC ids)):=rdb_sl (by rw[←hbs.1];simp[idC]) hf1;have hr2:Rdb E.w0 p2 (tsC ts) (sl p2 c2 9 1 ts.length (tsC ts)):=rdb_sl (qZb ts) hf2
   have htake:plns [] (l.take (i+1))=match pln ts x with
     |none=>ts
     |some t=>ts++[t]:=by rw[ic,hxl,hts];exact qDq _ _
   refine gg10 ?_;apply aA
   ·(apply dL rfl (hE.t rfl) rfl (by assumption);(focus((repeat constructor);done));(focus exact fm);(focus rfl);(focus omega))
   ·rfl
   refine uX (qVk (x:=x) hE hr2 hsh oO (hx x hxm)) O ?_;rintro _ _⟨u,b,rfl,hb1,hb2,rfl⟩;simp only[uV,uW];refine gg14 ?_;refine yK O (fun g3=>?_) (fun g3=>?_)
   ·have hb:b=false:=by simpa using g3
    rw[hb2 hb]at htake;refine gg9 ?_;refine bS (ι:=BuG) (j:=⟨i+1,M,ids,ts,p1,c1,p2,c2⟩) ⟨by simp only;omega,by simp only;omega,htake.symm,hbs,by simp only;omega⟩ (by simp only;omega) ⟨rfl,rfl,rfl,rfl,bf some (bW (by simp only;omega)),trivial⟩ uI
   have hb:b=true:=by simpa using g3
   have hp:=hb1 hb;rw[hp]at htake;refine gg10 ?_;apply aA
   ·(apply dL rfl (hE.t rfl) rfl (by assumption);(focus((repeat constructor);done));(focus exact fm);(focus rfl);(focus omega))
   ·rfl
   refine uX (ct_made (Es:=M) (s:=s) (most:=most) (n:=ts.length) (x:=x) hE O hr1 hr2 hbs hsh oO (hx x hxm) hp oO oO) O ?_;rintro _ _⟨N,id,rfl,hN,hbe,rfl⟩;simp only[uV,uW];refine sZ (p:=bR s most (M++N)) uK (fun _ h=>(dS h).1) (fun hw=>?_);have hul:((⟨⟨u⟩⟩:ByteArray).size:Nat)=u.length:=rfl
   have hid:(0<id)↔(0<u.length):=by
    constructor
    ·exact fun h=>hbe.pos hw h
    intro h;rcases jr id with rfl|h'
    ·have:=hbe.tx;rw[kN]at this;subst this;exact absurd h (Nat.lt_irrefl _)
    exact h'
   have hbs2:=(hbs.more N).snoc hbe;refine gg24 ?_;refine uB (qZz O O (hE.t O)) ?_;refine l_eq 54 (.bool false) O (bf Value.bool (by rw[show decide (0<((id:Nat):Int))=decide (0<(((⟨⟨u⟩⟩:ByteArray).size:Nat):Int))from decide_eq_decide.2 oO,Bool.xor_self])) ?_;refine gg9 ?_;refine uU ?_;refine aU (hE.t O) (hE.t O) O O O (fun b58=>?_);refine uU ?_;apply bU (hE.t O) (hE.t O) O O O
   ·exact uK
   ·exact uK
   ·rfl
   ·rfl
   ·omega
   ·omega
   ·(unfold maxLen;omega)
   intro g59 c59 n59 x59 hn59 hx59;refine gg2 ?_;refine uU ?_;refine aU (hE.t O) (hE.t O) O O O (fun b62=>?_);refine uU ?_;apply bU (hE.t O) (hE.t O) O O O
   ·exact uK
   ·exact uK
   ·rfl
   ·rfl
   ·omega
   ·omega
   ·(unfold maxLen;omega)
   intro g63 c63 n63 x63 hn63 hx63;refine gg10 ?_;obtain rfl:n59=(ts++[u]).length:=by rw[aa,az];omega
   obtain rfl:x59=idC (ids++[id]):=by rw[hx59,lI];rfl
   obtain rfl:n63=(ts++[u]).length:=by rw[aa,az];omega
   obtain rfl:x63=tsC (ts++[u]):=by rw[hx63,tsC_snoc];rfl
   refine bS (ι:=BuG) (j:=⟨i+1,M++N,ids++[id],ts++[u],some ⟨g59,0,none⟩,c59,some ⟨g63,0,none⟩,c63⟩) ⟨by simp only;omega,by simp only;omega,htake.symm,hbs2,by simp only[aa];omega⟩ (by simp only;omega) ⟨rfl,rfl,rfl,rfl,bf some (bW (by simp only;omega)),trivial⟩ uI
  obtain rfl:i=30:=by omega
  refine gg15 ?_;apply cB
  ·rfl
  ·(apply Rs.tmp rfl;apply Rs.tmp rfl;apply Rs.tmp rfl;exact Rs.nil)
  ·refine⟨M,ids,p1,p2,c1,c2,?_,oO,by rw[←hts];exact hbs,rfl⟩;rw[←hts];rfl
  rw[←hts];exact uI
 obtain rfl:i=l.length:=by omega
 rw[qa]at hts;have e30:l.take 30=l:=bz hi2;rw[←e30]at hts;refine gg21 ?_;apply cB
 ·rfl
 ·(apply Rs.tmp rfl;apply Rs.tmp rfl;apply Rs.tmp rfl;exact Rs.nil)
 ·refine⟨M,ids,p1,p2,c1,c2,?_,oO,by rw[←hts];exact hbs,rfl⟩;rw[←hts];rfl
 rw[←hts];exact uI
def qPj (hE:Seat E){l:List TMk}{a:Option Addr}{c:Nat}{q:HP}(hq:Rdb E.w0 a (mkVs l) q)(hl:l.length≤9223372036854775807)(hx:∀x∈l,x.ok):
  Ct E 8 [.slice a l.length c] [q]
   (fun v Q=>∃(s:Nat)(M:List Ent)(ids:List Nat)(p1 p2:Option Addr)(c1 c2:Nat),v= .tuple #[uPt s,.slice p1 (plns [] (l.take 30)).length c1,.slice p2 (plns [] (l.take 30)).length c2,.bool true]∧M.length≤54750∧Bes (rls M) ids (plns [] (l.take 30))∧
    Q=[bR s 1048576 M,q,sl p1 c1 56 1 (plns [] (l.take 30)).length (idC ids),sl p2 c2 9 1 (plns [] (l.take 30)).length (tsC (plns [] (l.take 30)))]):=by
 have hmr:1048576≤fP:=ai _;refine bO (hE.fn Tryz.func8) O O O (fun R=>?_);simp only[dX,uV,uW];refine gg10 ?_;refine uX (qKk (most:=1048576) hE hmr) O ?_;rintro _ _⟨s,rfl,rfl⟩;simp only[uV,uW];refine gg17 ?_;refine uX (ct_build (s:=s) (most:=1048576) hE hq hl hx oO) O ?_;rintro _ _⟨M,ids,p1,p2,c1,c2,rfl,hM,hbs,rfl⟩;simp only[uV,uW];refine gg22 ?_;exact uZ O (.tmp O (.tmp O (.tmp O (.tmp O .nil)))) ⟨s,M,ids,p1,p2,c1,c2,O,hM,hbs,O⟩
end
