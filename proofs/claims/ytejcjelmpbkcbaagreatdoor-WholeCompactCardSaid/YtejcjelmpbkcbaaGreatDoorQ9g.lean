import Derived.Test.YtejcjelmpbkcbaaGreatDoorQ9f
set_option linter.all false
set_option maxHeartbeats 1000000
namespace Sl
open Go Go.RowKit
def cntI (f:Int->Option Value)(n:Nat):Prop:=∃M:List (Int×Value),(M.map (·.1)).Nodup/\(∀k,M.lookup k=f k)/\M.length=n
def vV {M:List (Int×Value)}{k:Int}:k∈M.map (·.1)↔M.lookup k≠none:=by
 induction M with
 |nil=>simp[List.lookup]
 |cons p M ih=>
  obtain⟨a,b⟩:=p
  by_cases e:k=a
  ·subst e;simp[List.lookup]
  have e':(k==a)=false:=by simpa using e
  simp only[List.lookup,e',jr,jo,ih]
  simp[e]
def cntI.fn {f:Int->Option Value}{n m:Nat}(h:cntI f n)(h':cntI f m):n=m:=by
 obtain⟨M,h1,h2,rfl⟩:=h;obtain⟨M',h1',h2',rfl⟩:=h';have:=(qy h1 h1').2 fun k=>by rw[vV,vV,h2,h2']
 have:=this.length_eq;rwa [ic,ic]at this
def mapI_cnt {b:Nat}{ki:IntKind}{f:Int->Option Value}{h:PH}(x:mapF b ki f h):∃n,cntI f n:=by
 obtain⟨es,c,M,_,h1,h2⟩:=x;exact⟨M.length,M,h1.keys,h2,O⟩
variable {E:Env}{n:Nat}{L:Fr}{S S' H H':List HP}{ty:TypeId}{pos:String}{af:Array Edge}{d:Option Nat}{gd:Option (Nat×Bool)}{K:Value->List HP->Prop}
def qTj {x:Operand}{b:Nat}{ki:IntKind}{t kt et:TypeId}{f:Int->Option Value}{c:Nat}(ht:E.P.underlying t=some (.map kt et))(hx:ev L x=some (.map (some b)))(hm:Take (mapF b ki f) S S')(hc:cntI f c):
  Yl E n L S ⟨d,.call {callee:= .builtin .len,args:= #[x],argTypes:= #[t]},ty,pos,af,gd⟩ (.int .i64 (c:Nat)):=fun a w g s=>by
 obtain⟨es,c1,M,hh,he,hf,_⟩:=qDw (s.take hm)
 have e1:es.size=c:=by
  have h1:(ents es.toList).length=(prs ki M).length:=by rw[he.is]
  unfold ents prs at h1;rw[ic,ic,mf]at h1;rw[h1];exact cntI.fn ⟨M,he.keys,hf,O⟩ hc
 simp[execOp,resolve,invoke,builtin,Builtin.len_,underlying,program,Sem.run,ht,g.ev hx,goInt,getObj,hh,e1]
end Sl
namespace Go.Proofs.YtejcjelmpbkcbaaGreatDoor
open Go Go.RowKit Sl Eg
set_option maxRecDepth 10000
section
variable {E:Env}{Es:List Ent}{s most:Nat}
def heF (H:List Nat):Int->Option Value:=fun k=>if 1<=k/\k.toNat∈H then some (.int .i64 (H.count k.toNat:Nat))else none
def heF_nil:heF []=fun _=>none:=by funext k;simp[heF]
def heF_get {H:List Nat}{x:Nat}(hx:1<=x):xJ false (.int .i64 0) (heF H ((x:Nat):Int))= .int .i64 (H.count x:Nat):=by
 unfold xJ heF;simp only[oL,if_false,nk];by_cases h:x∈H
 ·rw[if_pos ⟨oO,h⟩];rfl
 rw[if_neg (fun e=>h e.2),uj h];rfl
def heF_set {H:List Nat}{x:Nat}(hx:1<=x):setF (heF H) ((x:Nat):Int) (.int .i64 ((H.count x:Nat)+1:Int))=heF (H++[x]):=by
 funext k;unfold setF heF;by_cases e:k=(x:Nat)
 ·subst e;rw[if_pos rfl,if_pos ⟨oO,by simp⟩,nk,wu];simp
 have hne:1<=k->¬k.toNat=x:=fun h1 h2=>e oO
 rw[if_neg e];by_cases h1:1<=k
 ·have hn:=hne h1;have hc:[x].count k.toNat=0:=uj (by simpa using hn);simp only[bi,az,hn,or_false,wu,hc,ry]
 rw[if_neg (fun h=>h1 h.1),if_neg (fun h=>h1 h.1)]
def heF_zero (H:List Nat):heF (H++[0])=heF H:=by
 funext k;unfold heF;by_cases h1:1<=k
 ·have hn:¬k.toNat=0:=oO;have hc:[0].count k.toNat=0:=uj (by simpa using hn);simp only[bi,az,hn,or_false,wu,hc,ry]
 rw[if_neg (fun h=>h1 h.1),if_neg (fun h=>h1 h.1)]
def qPv {H:List Nat}{k:Int}{v:Value}(h:heF H k=some v):1<=k/\k.toNat∈H:=by
 unfold heF at h;split at h
 ·rename_i h';exact h'
 cases h
def heF_ne {H:List Nat}{x:Nat}(h1:1<=x)(h2:x∈H):∃v,heF H ((x:Nat):Int)=some v:=by
 unfold heF;rw[if_pos ⟨oO,by simpa using h2⟩];exact⟨_,O⟩
def heF_cnt {H:List Nat}{n:Nat}(hc:cntI (heF H) n):n<=H.length:=by
 obtain⟨M,m1,m2,rfl⟩:=hc
 have h1:∀k∈M.map (·.1),1<=k/\k.toNat∈H:=fun k hk=>by
  have:=vV.1 hk;rw[m2]at this;cases e:heF H k with
  |none=>exact absurd e this
  |some v=>exact qPv e
 have h2:((M.map (·.1)).map Int.toNat).Nodup:=by
  rw[oG,ww];refine(List.Pairwise.and_mem.1 (oG.1 m1)).imp fun{a b}h e=>h.2.2 ?_
  have:=(h1 a h.1).1;have:=(h1 b h.2.1).1;omega
 have:=lL h2 (B:=H) fun x hx=>by
  obtain⟨k,hk,rfl⟩:=dw.1 hx;exact(h1 k hk).2
 simpa using this
def ct_coNew (hE:Seat E):Ct E 68 [uPt s] [] (fun v Q=>∃t b,v=uPt t/\Q=[cells t [uPt s,.map (some b)] 224,mapF b .i64 (heF [])]):=by
 rw[heF_nil];refine bO (hE.fn Tryz.func68) O O O (fun R=>?_);simp only[dQ,uV,uW];refine gg18 ?_;refine uU ?_;refine sM .i64 (fun b6=>?_);refine gg1 ?_;refine uU ?_;refine gW O (fun b8=>?_);refine gg4 ?_;exact uZ O (.tmp O .nil) ⟨b8,b6,O,O⟩
def wT (hE:Seat E){t b:Nat}:Ct E 97 [uPt t] [cells t [uPt s,.map (some b)] 224] (fun v Q=>v= .bool false/\Q=[cells t [uPt s,.map (some b)] 224]):=by
 refine bO (hE.fn Tryz.func97) O O O (fun R=>?_);simp only[dQ,uV,uW];refine gg25 ?_;exact uZ O (.tmp O .nil) ⟨O,O⟩
def qUh (hE:Seat E){t b x:Nat}{H:List Nat}(hx:x<=Es.length)(hs:Es.length<=1048576)(hH:H.length<=100000):Ct E 69 [uPt t,.int .i64 (x:Nat)] [cells t [uPt s,.map (some b)] 224,mapF b .i64 (heF H),bR s most Es] (fun v Q=>v= .nilIface/\Q=[cells t [uPt s,.map (some b)] 224,mapF b .i64 (heF (H++[x])),bR s most Es]):=by
 have hm1:E.P.underlying 138=some (.map 56 3):=by rw[hE.P];kernel_rfl
 have hm2:E.P.underlying 56=some (.int .i64):=by rw[hE.P];kernel_rfl
 have hm3:∀w,(zeroValue 3).run E.P w= .ok (.int .i64 0) w:=fun w=>by rw[hE.P];kernel_rfl
 have hcl:H.count x<=H.length:=List.count_le_length;refine bO (hE.fn Tryz.func69) O O O (fun R=>?_);simp only[dQ,uV,uW];refine gg9 ?_;refine uX (wT hE) O ?_;rintro _ _⟨rfl,rfl⟩;simp only[uV,uW];refine gg13 ?_;refine uX (qCa hE hx hs) O ?_;rintro _ _⟨rfl,rfl⟩;simp only[uV,uW];refine gg13 ?_;rcases fu x with rfl|hp
 ·rw[heF_zero];refine w_eq 17 (.bool false) O O ?_;refine gg9 ?_;exact uZ O (.tmp O .nil) ⟨O,O⟩
 refine w_eq 17 (.bool true) O (by simp;omega) ?_;refine gg7 ?_;refine uB (lV hm1 hm2 hm3 O O uK O) ?_;refine l_eq 23 (.int .i64 (H.count x:Nat)) O (heF_get hp) ?_;refine gg1 ?_;refine uU ?_;apply nV (kt:=56) (et:=3) (by rw[hE.P];kernel_rfl) (by rw[hE.P];kernel_rfl) O O O
 ·exact uK
 refine gg8 ?_;rw[heF_set hp];exact uZ O (.tmp O .nil) ⟨O,O⟩
structure RoG where
 D:List Nat
 done:Int->Bool
 q:Option Addr
 d:Nat
def qRp (hE:Seat E){t b:Nat}{H:List Nat}(hH:H.length<=1000):Ct E 123 [uPt t] [cells t [uPt s,.map (some b)] 224,mapF b .i64 (heF H)] (fun v Q=>∃(X:List Nat)(p:Option Addr)(c:Nat),v= .slice p X.length c/\X.length<=1000/\(∀x,x∈X↔1<=x/\x∈H)/\Q=[cells t [uPt s,.map (some b)] 224,mapF b .i64 (heF H),sl p c 56 1 X.length (idC X)]):=by
 have hm1:E.P.underlying 138=some (.map 56 3):=by rw[hE.P];kernel_rfl
 refine dW (p:=mapF b .i64 (heF H)) uK (fun _ h=>mapI_cnt h) ?_;rintro⟨nn,hc⟩;have hn:=heF_cnt hc;refine bO (hE.fn Tryz.func123) O O O (fun R=>?_);simp only[dQ,uV,uW];refine gg9 ?_;refine uX (wT hE) O ?_;rintro _ _⟨rfl,rfl⟩;simp only[uV,uW];refine gg11 ?_;refine uB (qTj hm1 O uK hc) ?_;refine uU ?_;refine jT (hE.t O) (hE.t O) O O (by first |omega |exact bn rfl) (by(unfold maxLen;first |omega |exact bn rfl)) (fun b12 us12 hu12=>?_);refine gg10 ?_;refine lT (cO (p:=sl (some ⟨b12,0,none⟩) nn 56 1 nn us12) (p':=sl (some ⟨b12,0,none⟩) nn 56 1 ([]:List Nat).length (idC [])) uK (lU (au _) (by simp[idC]) (by simp))) ?_;refine uU ?_;apply ld_range hm1 O uK;intro br;refine gg3 ?_;refine dV (fun x:RoG=>[(0,uPt t),(3,.slice x.q x.D.length x.d),(17,uPt br)]) (fun x=>[rngF br b .i64 (heF H) x.done,cells t [uPt s,.map (some b)] 224,sl x.q x.d 56 1 x.D.length (idC x.D),R]) (fun x=>H.length+1-x.D.length) (fun x=>x.D.Nodup/\(∀y:Nat,y∈x.D↔x.done ((y:Nat):Int)=true)/\∀y∈x.D,1<=y/\y∈H) ⟨[],fun _=>false,some ⟨b12,0,none⟩,nn⟩ ⟨.nil,fun y=>by simp,fun y h=>by simp at h⟩ ⟨rfl,rfl,rfl,trivial⟩ uI ?_;rintro⟨D,done,q,dd⟩⟨h1,h2,h3⟩;simp only at h1 h2 h3 ⊢;have hDn:=lL h1 fun x hx=>(h3 x hx).2
 refine gg2 ?_;refine uU ?_;apply ld_next O uK
 ·intro hall;refine gg5 ?_;refine gF (cO (p:=rngF br b .i64 (heF H) done) (p':=mapF b .i64 (heF H)) uK (fun k h=>rng_map h)) ?_
  have hmem:∀x,x∈D↔1<=x/\x∈H:=fun x=>⟨h3 x,fun hx=>by
   obtain⟨v,hv⟩:=heF_ne hx.1 hx.2;exact(h2 x).2 (hall _ _ hv)⟩
  refine gg8 ?_;rcases fu D.length with h0|h0
  ·obtain rfl:=qi.1 h0;refine uX (qAd hE) O ?_;rintro _ _⟨rfl,rfl⟩;simp only[uV,uW];refine gg9 ?_;exact uZ O (.tmp O .nil) ⟨[],q,dd,O,by simp,hmem,rfl⟩
  refine lQ (p:=sl q dd 56 1 D.length (idC D)) uK (fun _ h=>dX h h0) ?_;rintro⟨g,rfl⟩;refine uX (yT hE oO) O ?_;rintro _ _⟨l,rfl,hll,hp,hs,rfl⟩;rw[<-hll];simp only[uV,uW];refine gg9 ?_;exact uZ O (.tmp O .nil) ⟨l,_,dd,O,oO,fun x=>(hp.mem_iff).trans (hmem x),O⟩
 intro k v hk hd;obtain⟨k1,k2⟩:=qPv hk;obtain⟨x,rfl⟩:∃x:Nat,k=(x:Nat):=⟨k.toNat,oO⟩;rw[nk]at k2;refine gg10 ?_;refine uB (y_entry O uK) ?_;refine lT (fun _ h=>fA (fun _ x=>rngE_F x) h) ?_;refine gg7 ?_;refine uU ?_;refine aU (hE.t O) (hE.t O) O O O (fun b24=>?_);refine uU ?_;apply bU (hE.t O) (hE.t O) O O O
 ·exact uK
 ·exact uK
 ·rfl
 ·rfl
 ·omega
 ·omega
 ·(unfold maxLen;omega)
 intro g25 c25 n25 x25 hn25 hx25;refine gg3 ?_;obtain rfl:x25=idC (D++[x]):=by rw[hx25,gZ];rfl
 obtain rfl:n25=(D++[x]).length:=by rw[hn25,ae];rfl
 have hxD:x∉D:=fun h=>by
  have:=(h2 x).1 h;rw[hd]at this;cases this
 have hnd:(D++[x]).Nodup:=by
  rw[nu];exact⟨h1,by simp,fun a ha b hb e=>by simp at hb;subst hb;subst e;exact hxD ha⟩
 have hne:∀y∈D++[x],1<=y/\y∈H:=fun y hy=>by
  rcases bi.1 hy with hy|hy
  ·exact h3 y hy
  simp at hy;subst hy;exact⟨oO,k2⟩
 have hb2:=lL hnd fun x hx=>(hne x hx).2
 refine bS (ι:=RoG) (j:=⟨D++[x],fun z=>z==((x:Nat):Int)||done z,some ⟨g25,0,none⟩,c25⟩) ⟨hnd,fun y=>?_,hne⟩ (by simp only[ae,ay]at hb2 ⊢;omega) ⟨rfl,rfl,rfl,trivial⟩ uI;simp only[bi,az,Bool.or_eq_true,beq_iff_eq,Int.natCast_inj];rw[h2 y];exact or_comm
end
section
variable {E:Env}{Es:List Ent}{s most:Nat}
def qUi (hE:Seat E){t b:Nat}{H:List Nat}(hH:H.length<=1000)(hle:∀a∈H,a<=Es.length) (hs:Es.length<=1048576) (hN:∀S:List Nat,S.Nodup->(∀x∈S,∃a∈H,Rea (rls Es) a x)->S.length<65536):
  Ct E 99 [uPt t] [cells t [uPt s,.map (some b)] 224,mapF b .i64 (heF H),bR s most Es] (fun v Q=>∃(V:List Nat)(p:Option Addr)(c:Nat),v= .slice p V.length c/\RcS (rls Es) H V/\V.length<65536/\Q=[cells t [uPt s,.map (some b)] 224,mapF b .i64 (heF H),bR s most Es,sl p c 56 1 V.length (idC V)]):=by
 refine bO (hE.fn Tryz.func99) O O O (fun R=>?_);simp only[dQ,uV,uW];refine gg9 ?_;refine uX (wT hE) O ?_;rintro _ _⟨rfl,rfl⟩;simp only[uV,uW];refine gg6 ?_;refine uH ([cells t [uPt s,.map (some b)] 224]) ?_;refine gg5 ?_;apply dH 5 O oK O;refine uC (qRp hE hH) O ?_;rintro _ _⟨X,p,c,rfl,hXl,hX,rfl⟩
 have hXH:∀x,(∃a∈X,Rea (rls Es) a x)↔∃a∈H,Rea (rls Es) a x:=fun x=>
  ⟨fun⟨a,ha,hr⟩=>⟨a,((hX a).1 ha).2,hr⟩,fun⟨a,ha,hr⟩=>⟨a,(hX a).2 ⟨by cases hr<;>exact zz _,ha⟩,hr⟩⟩
 simp only[uV,uW];refine uE ?_;apply dH 6 O oK O;refine uC (qKc hE (X:=X) (fun a ha=>hle a ((hX a).1 ha).2) hs (fun S h1 h2=>hN S h1 fun x hx=>(hXH x).1 (h2 x hx)) oO) O ?_;rintro _ _⟨p2,c2,V,rfl,⟨hV1,hV2,hV3⟩,rfl⟩;have hR:RcS (rls Es) H V:=⟨hV1,hV2,fun x=>(hV3 x).trans (hXH x)⟩;have hVl:=hN V hV1 fun x hx=>(hR.all x).1 hx
 simp only[uV,uW];refine uE ?_;refine gg24 ?_;exact uZ O (.tmp O .nil) ⟨V,p2,c2,O,hR,hVl,O⟩
def toW (V:List Nat)(n:Nat):List Nat:=(List.range (n+1)).map (numb V)
def zU (V:List Nat)(n:Nat):(toW V n).length=n+1:=by simp[toW]
def qMk {V:List Nat}{n x:Nat}(h:x<=n):(toW V n)[x]?=some (numb V x):=by
 unfold toW;rw[bu,lu oO];rfl
def qJh {V:List Nat}{n x:Nat}(h:x<=n):(toW V n).getD x 0=numb V x:=by rw[jg,qMk h];rfl
def toW_nil (n:Nat):List.replicate (n+1) (Value.int .i64 0)=idC (toW [] n):=by
 apply kz;intro i;unfold idC;rw[bu];rcases ed i (n+1)with h| h
 ·rw[qMk oO,oo,if_pos h];rw[fZ.2 (by simp)];rfl
 rw[oo,if_neg oO,fq (by rw[zU];omega)];rfl
def toW_set {V:List Nat}{n k x:Nat}(hn:V.Nodup)(hx:V[k]?=some x)(hxn:x<=n):(toW (V.take k) n).set x (k+1)=toW (V.take (k+1)) n:=by
 have hk:=(ag.1 hx).1;have htk:V.take (k+1)=V.take k++[x]:=by rw[di,hx];rfl
 have hnot:x∉V.take k:=fun h=>by
  obtain⟨j,hj⟩:=jv h;have hjk:=(ag.1 hj).1;rw[fw]at hjk;rw[kw,if_pos oO]at hj;have:=(zl oO hn).1 (hj.trans hx.symm);omega
 apply kz;intro i;rcases ed i (n+1)with h| h
 ·rw[qMk oO,htk];by_cases e:x=i
  ·subst e;rw[oC (by rw[zU];omega),qLg hnot,fw,kv oO]
  rw[lh e,qMk oO,qGg (Ne.symm e)]
 rw[fq (by rw[ny,zU];omega),fq (by rw[zU];omega)]
def qXa {V:List Nat}{n:Nat}{r:Rl}(h:∀k∈kids r,k<=n):mvR (toW V n) r=iO V r:=by
 cases r with
 |letter b=>rfl
 |pair a b=>
  simp only[mvR,iO]
  rw[qJh (h a (by simp[kids])),qJh (h b (by simp[kids]))]
 |power a k=>
  simp only[mvR,iO]
  rw[qJh (h a (by simp[kids]))]
structure SwG where
 k:Nat
 p:Option Addr
 c:Nat
def qRq (hE:Seat E){t b m2:Nat}{H:List Nat}(hH:H.length<=1000)(hle:∀a∈H,a<=Es.length) (hs:Es.length<=1048576) (hN:∀S:List Nat,S.Nodup->(∀x∈S,∃a∈H,Rea (rls Es) a x)->S.length<65536) (hm2:m2=1048576):
  Ct E 70 [uPt t,.int .i64 (m2:Nat)] [cells t [uPt s,.map (some b)] 224,mapF b .i64 (heF H),bR s most Es] (fun v Q=>∃(V:List Nat)(s2:Nat)(M2:List Ent)(p c:Nat),v= .tuple #[uPt s2,.slice (some ⟨p,0,none⟩) (Es.length+1) c,.nilIface]/\RcS (rls Es) H V/\V.length<65536/\rls M2=gram (rls Es) V/\
   Q=[bR s most Es,bR s2 m2 M2,sl (some ⟨p,0,none⟩) c 56 1 (Es.length+1) (idC (toW V Es.length))]):=by
 refine dW (p:=bR s most Es) uK (fun _ h=>dP h) (fun hsay=>?_);have hw:=hsay.1;have hLl:=bQ Es;have hml:Es.length+1<=maxLen:=by unfold maxLen;omega
 have hmr:m2<=fE:=by unfold fE;omega
 refine bO (hE.fn Tryz.func70) O O O (fun R=>?_);simp only[dQ,uV,uW];refine gg11 ?_;refine uX (wT hE) O ?_;rintro _ _⟨rfl,rfl⟩;simp only[uV,uW];refine gg11 ?_;refine uX (wV hE) O ?_;rintro _ _⟨rfl,rfl⟩;simp only[uV,uW];refine gg1 ?_;refine l_eq 24 (.int .i64 ((Es.length+1:Nat):Int)) O (bW oO) ?_;refine uU ?_;refine tZ (hE.t O) (hE.t O) O oO hml (fun b25=>?_);rw[toW_nil];refine gg12 ?_;refine uX (qUi hE hH hle hs hN) O ?_;rintro _ _⟨V,pv,cv,rfl,hR,hVl,rfl⟩;have hlis:=hR.lis hw;have hgl:=rF (L:=rls Es) (V:=V);simp only[uV,uW];refine lQ (p:=sl pv cv 56 1 V.length (idC V)) uK (fun _ h=>fun hpos=>dX h hpos) ?_;intro hpv;refine gg5 ?_;refine gF (fV (t:=141) (sz:=5)) ?_;have e0:([]:List Nat)=V.take 0:=rfl;rw[e0]
 refine dV (fun x:SwG=>[(0,uPt t),(1,.int .i64 (m2:Nat)),(7,.slice (some ⟨b25,0,none⟩) (Es.length+1) (Es.length+1)),(8,.slice x.p x.k x.c),(27,.slice pv V.length cv),(28,.int .i64 (V.length:Nat)),(29,.int .i64 (x.k:Nat))]) (fun x=>[cells t [uPt s,.map (some b)] 224,bR s most Es,sl pv cv 56 1 V.length (idC V),sl (some ⟨b25,0,none⟩) (Es.length+1) 56 1 (Es.length+1) (idC (toW (V.take x.k) Es.length)),sl x.p x.c 141 5 x.k (rusC ((gram (rls Es) V).take x.k)),R]) (fun x=>V.length-x.k) (fun x=>x.k<=V.length) ⟨0,none,0⟩ (au _) ⟨O,O,O,O,O,O,O,trivial⟩ uI ?_;rintro⟨k,p,c⟩hk;simp only at hk ⊢;refine gg6 ?_;refine bE O (fun h1=>?_) (fun h1=>?_)
 ·have hkl:k<V.length:=oO;obtain⟨gv,rfl⟩:=hpv oO;obtain⟨x,hx⟩:∃x,V[k]?=some x:=⟨_,ah hkl⟩;have hxb:=hR.le (ak hx);obtain⟨n,rfl⟩:∃n,x=n+1:=⟨x-1,oO⟩;obtain⟨y,hy⟩:∃y,Es[n]?=some y:=⟨_,ah oO⟩;have hyr:=rP hy;have htk:V.take (k+1)=V.take k++[n+1]:=by rw[di,hx];rfl
  have hsplit:V=V.take k++(n+1)::V.drop (k+1):=qPq hx;have hkids:=hlis.ord _ _ _ _ hsplit hyr
  have hkle:∀z∈kids y.r,z<=Es.length:=fun z hz=>by
   have:=(hR.le (lm (hkids z hz))).2;omega
  have hmv:mvR (toW (V.take k) Es.length) y.r=iO V y.r:=by rw[qXa hkle,qSx hkids]
  have hkl2:∀z∈kids y.r,z<Es.length+1:=fun z hz=>by have:=hkle z hz;omega
  have f0:=eF hx (((k:Nat):Int).toNat) oO;refine gg20 ?_;refine uX (jU hE hy) O ?_;rintro _ _⟨rfl,rfl⟩;simp only[uV,uW];refine gg3 ?_;refine uU (dA (hE.t O) (fun b11=>?_));refine gg19 ?_;refine uX (ct_rMove (r:=y.r) (T:=toW (V.take k) Es.length) (gt:=b25) (ct:=Es.length+1) (n:=Es.length+1) hE (zU _ _) hkl2) O ?_;rintro _ _⟨rfl,rfl⟩;simp only[uV,uW];rw[hmv];refine gg20 ?_;refine uU ?_;refine aU (hE.t O) (hE.t O) O O O (fun b57=>?_);refine uU ?_;apply bU (hE.t O) (hE.t O) O O O
  ·exact uK
  ·exact uK
  ·rfl
  ·rfl
  ·omega
  ·omega
  ·(unfold maxLen;omega)
  intro g58 c58 n58 x58 hn58 hx58;refine gg17 ?_;rw[show((k:Nat):Int)+1=((k+1:Nat):Int) by omega];rw[qHu (xs:=toW (V.take k) Es.length) (k:=n+1) (a:=k+1) (by rw[zU];omega) ((((n+1:Nat):Int)).toNat) oO];rw[toW_set hR.nd hx oO];obtain rfl:n58=k+1:=by omega
  obtain rfl:x58=rusC ((gram (rls Es) V).take (k+1)):=by rw[hx58,qWg hx hyr];rfl
  refine bS (ι:=SwG) (j:=⟨k+1,some ⟨g58,0,none⟩,c58⟩) (by simp only;omega) (by simp only;omega) ⟨O,O,O,O,O,O,O,trivial⟩ uI
 obtain rfl:k=V.length:=by omega
 have hgt:(gram (rls Es) V).take V.length=gram (rls Es) V:=by rw[<-hgl,lw]
 rw[hgt,lw];refine gg8 ?_;refine uX (qCb hE (most:=m2) hmr) O ?_;rintro _ _⟨s2,rfl,rfl⟩;simp only[uV,uW];refine gg9 ?_;refine uX (ct_room hE) O ?_;rintro _ _⟨rfl,rfl⟩;simp only[uV,uW];refine gg3 ?_;refine bE O (fun h2=>?_) (fun h2=>?_)
 ·exfalso;simp at h2;omega
 refine gg7 ?_;rw[<-hgl];refine uX (qRj (s:=s2) (most:=m2) (G:=gram (rls Es) V) (p:=p) (c:=c) hE hlis.gwf oO oO) O ?_;rintro _ _⟨M2,rfl,hM2,rfl⟩;simp only[uV,uW];refine gg26 ?_;exact uZ O (.tmp O (.tmp O (.tmp O .nil))) ⟨V,s2,M2,b25,_,O,hR,hVl,hM2,O⟩
end
