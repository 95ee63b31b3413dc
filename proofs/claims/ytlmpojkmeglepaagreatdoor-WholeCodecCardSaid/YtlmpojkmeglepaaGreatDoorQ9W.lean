import Derived.Test.YtlmpojkmeglepaaGreatDoorQ9L
import Derived.Test.YtlmpojkmeglepaaGreatDoorQ9T
import Derived.Laws.BitsAllLaws
set_option linter.all false
set_option maxHeartbeats 1000000
namespace Sl
open Go Go.RowKit
variable {E:Env}{n:Nat}{L:Fr}{S:List HP}{d:Option Nat}{ty:TypeId}{pos:String}{af:Array Edge}{gd:Option (Nat×Bool)}
end Sl
namespace Go.Proofs.YtlmpojkmeglepaaGreatDoor
open Go Go.RowKit Sl Eg
set_option maxRecDepth 10000
section
variable {G L L1:List Rl}{Z:List Nat}{A:List (List UInt8×Nat)}{l:List Im}{ids y1:List Nat}
def gotL (L:List Rl)(Z:List Nat)(A:List (List UInt8×Nat)):List Im:=A.map fun p=>⟨p.1,none,txt L (zat Z p.2),0⟩
def gotI (Z:List Nat)(A:List (List UInt8×Nat)):List Nat:=A.map fun p=>zat Z p.2
def qOy:(gotL L Z A).length=A.length:=gz _
def qOx:(gotI Z A).length=A.length:=gz _
def mkN_got:mkN (gotL L Z A) (gotI Z A)=nmI (A.map fun p=>(p.1,zat Z p.2)):=by
 unfold mkN gotL gotI nmI;rw[List.zip_map',lw,lw];rfl
def Prop50.eql (hP:Prop50 G A)(hL:Wf L)(h:DcI G L G.length Z):EqL L (gotL L Z A) (gotI Z A) (gotI Z A):=by
 have hs:∀p∈A,zat Z p.2≤L.length∧SigOf L (zat Z p.2) (zat Z p.2):=fun p hp=>by
  have hn:=(hP.names p hp).2;rcases fe p.2 with e| e
  ·rw[e,h.zero];exact⟨av _,SigOf.zero L⟩
  exact⟨(h.iso e hn).le.2,((Twi.mk hP.wf hL h).sig ⟨e,hn⟩ (hP.sig _ e hn).1).of hL⟩
 refine⟨hL,by rw[qOx,qOy],by rw[qOx,qOy],fun i x id hx hi=>?_,fun i x y hx hy=>?_⟩
 ·unfold gotL at hx;unfold gotI at hi;obtain⟨p,e1,rfl⟩:=wo.1 (bi▸hx);rw[bi,e1]at hi;cases hi
  exact⟨(hs p (ak e1)).1,O⟩
 rw[hx]at hy;cases hy
 obtain⟨p,hp,rfl⟩:=jg.1 (ak hx);exact(hs p hp).2
def Prop50.enc (hP:Prop50 G A)(hL:Wf L)(h:DcI G L G.length Z):encB L (dD L (gotI Z A) []) (nmY (mkN (gotL L Z A) (gotI Z A)) (gotI Z A))=encA G A:=by
 rw[mkN_got];unfold gotI;rw[qVh];exact qQj hP hL h
def Prop50.same (hP:Prop50 G A)(hL:Wf L)(h:DcI G L G.length Z)(q:EqL L1 l ids y1):imP (gotL L Z A)=imP l↔encA G A=encB L1 (dD L1 y1 []) (nmY (mkN l ids) y1):=by
 rw[←hP.enc hL h];exact⟨(hP.eql hL h).same q,(hP.eql hL h).only q⟩
end
section
def nmW (i:Nat):List UInt8:=[116,UInt8.ofNat (97+i)]
def qKt:∀i:Fin 26,ValidN (nmW i.val):=by decide
def qPi:∀i:Fin 25,Op.bytesLess (nmW i.val) (nmW (i.val+1))=true:=by decide
def idW (ids:List Nat)(i:Nat):Nat:=ids.getD i 0
def xO {ids:List Nat}{i id:Nat}(h:ids[i]?=some id):idW ids i=id:=by
 unfold idW;rw[iq,h];rfl
def lsW (ids:List Nat)(m:Nat):List (List UInt8×Int):=(List.range m).map fun i=>(nmW i,((idW ids i:Nat):Int))
def wK (ids:List Nat)(m:Nat):(lsW ids m).length=m:=by simp[lsW]
def qPf {ids:List Nat}{m i:Nat}(h:i<m):(lsW ids m)[i]?=some (nmW i,((idW ids i:Nat):Int)):=by
 unfold lsW;rw[bi,lc h];rfl
def lsW_snoc (ids:List Nat)(m:Nat):lsW ids (m+1)=lsW ids m++[(nmW m,((idW ids m:Nat):Int))]:=by
 unfold lsW;rw[List.range_succ,kg];rfl
def qHq {ids:List Nat}{m:Nat}{p:List UInt8×Int}(h:p∈lsW ids m):∃i,i<m∧p=(nmW i,((idW ids i:Nat):Int)):=by
 obtain⟨i,hi,e⟩:=jg.1 h;exact⟨i,qp.1 hi,e.symm⟩
def lsW_ok {ids:List Nat}{m n:Nat}(hm:m≤26)(h:∀i,i<m→idW ids i≤n):SgO n (lsW ids m):=by
 refine⟨fun p hp=>?_,fun i p q hi h1 h2=>?_,fun p hp=>?_⟩
 ·obtain⟨i,hi,rfl⟩:=qHq hp;exact qKt ⟨i,oO⟩
 ·rw[wK]at hi;rw[qPf oO]at h1;rw[qPf hi]at h2;cases h1
  cases h2
  exact qPi ⟨i,oO⟩
 obtain⟨i,hi,rfl⟩:=qHq hp;have:=h i hi;simp only;omega
def itW (ts:List (List UInt8))(m:Nat):List Im:=(List.range m).map fun i=>⟨nmW i,none,ts.getD i [],0⟩
def wH (ts:List (List UInt8))(m:Nat):(itW ts m).length=m:=by simp[itW]
def qPa {ts:List (List UInt8)}{m i:Nat}(h:i<m):(itW ts m)[i]?=some ⟨nmW i,none,ts.getD i [],0⟩:=by
 unfold itW;rw[bi,lc h];rfl
def mkN_itW {ts:List (List UInt8)}{ids:List Nat}{m:Nat}(h:ids.length=m):mkN (itW ts m) ids=lsW ids m:=by
 apply lm;intro i;rcases dw i m with hi|hi
 ·obtain⟨id,hid⟩:∃id,ids[i]?=some id:=⟨_,ag oO⟩;rw[mkN_at (qPa hi) hid,qPf hi,xO hid]
 rw[fq (by rw[qRx (by rw[wH];exact h),wH];exact hi),fq (by rw[wK];exact hi)]
def eql_of {ts:List (List UInt8)}{ids ys:List Nat}{m:Nat}{L:List Rl}(hw:Wf L)(hil:ids.length=m)(hyl:ys.length=m)(h:∀i,i<m→Be L (idW ids i) (ts.getD i [])) (hs:SigL L ids ys):EqL L (itW ts m) ids ys:=by
 refine⟨hw,by rw[wH];exact hil,by rw[wH];exact hyl,fun i x id hx hid=>?_,hs⟩
 have hi:i<m:=by
  have:=(ae.1 hid).1;omega
 rw[qPa hi]at hx;cases hx
 have:=h i hi;rw[xO hid]at this;exact⟨this.ev.le,this.tx⟩
def rawN_lsW {ids:List Nat}{m:Nat}(h:ids.length=m):rawN (lsW ids m)=ids:=by
 apply lm;intro i;unfold rawN;rcases dw i m with hi|hi
 ·obtain⟨id,hid⟩:∃id,ids[i]?=some id:=⟨_,ag oO⟩;rw[bi,qPf hi,hid,xO hid];simp
 rw[fq (by rw[gz,wK];exact hi),fq oO]
end
section
variable {E:Env}{Es:List Ent}{pp tb s most m bm:Nat}{f:Int→Option Value}
def wrap_b {i:Int}(h1:0≤i)(h2:i≤255):IntKind.u8.wrap i=i:=by
 have e:=qEh i.toNat;rw[Int.toNat_of_nonneg h1]at e;rw[e];omega
def rdb_roW {w0:World}{g:Nat}{vs:List Value}:Rdb w0 (some ⟨g,0,none⟩) vs (ro g vs):=fun _=>⟨g,0,rfl,fun k h i v hv=>by
 obtain⟨cur,t,z,h1,h2⟩:=h;exact .inr ⟨cur,t,z,h1,by rw[ko];exact h2 i v hv⟩⟩
def qFg (hE:Seat E):Ct E 11 [uPt s] [bR s most Es] (fun v Q=>∃pp tb,v=uPt pp∧Q=[cells pp [uPt s,uPt tb] 97,tabP tb s (rls Es),bR s most Es]):=by
 refine bO (hE.fn Tryz.func11) O O O (fun R=>?_);simp only[dR,uV,uW];refine gg19 ?_;refine uX (qFd hE) O ?_;rintro _ _⟨tb,rfl,rfl⟩;simp only[uV,uW];refine gg1 ?_;refine uU ?_;refine fH O (fun b9=>?_);refine gg4 ?_;apply cB
 ·rfl
 ·(apply Rs.tmp rfl;exact Rs.nil)
 ·exact⟨b9,tb,O,O⟩
 refine cZ (cO (p:=tabP tb s []) (p':=tabP tb s (rls Es)) uK (fun _ h=>lT (rls Es) h)) ?_;exact uI
def chW_rd {w0:World}{b i:Nat}{t:TypeId}(h:i<26):Rdb w0 (some ⟨b,0,none⟩) ([UInt8.ofNat (97+i)].map fun b=>Value.int .u8 (b.toNat:Nat)) (cells b [Value.int .u8 ((97:Int)+(i:Nat))] t):=fun _=>⟨b,0,rfl,qBj (fun j v hv=>by
 have e:([UInt8.ofNat (97+i)].map fun b=>Value.int .u8 (b.toNat:Nat))=[Value.int .u8 ((97:Int)+(i:Nat))]:=by
  show[Value.int .u8 ((UInt8.ofNat (97+i)).toNat:Nat)]=_;rw[UInt8.toNat_ofNat'];exact bg (fun z=>[Value.int .u8 z]) oO
 rw[e]at hv;exact hv)⟩
def qOl (hE:Seat E){i:Nat}(hi:i<26):Ct E 18 [.int .i64 (i:Nat)] [] (fun v Q=>v= .string ⟨⟨nmW i⟩⟩∧Q=[]):=by
 have hcat:([116]:List UInt8).length+[UInt8.ofNat (97+i)].length≤1000000000:=by show 2≤1000000000;decide
 refine bO (hE.fn Tryz.func18) O O O (fun R=>?_);simp only[dR,uV,uW];refine gg9 ?_;refine l_eq 4 (.int .i64 (i:Nat)) O (bW oO) ?_;refine gg1 ?_;refine uB (dI O (hE.t O) (hE.t O) (by first |exact dJ oO oO|exact dK oO oO|exact wrap_b oO oO)) ?_;refine uU ?_;refine aU (hE.t O) (hE.t O) O O O (fun b7=>?_);refine uB (vB (q:=cells b7 [Value.int .u8 ((97:Int)+(i:Nat))] 5) (src:=29) (dst:=9) (e:=5) (bs:=[UInt8.ofNat (97+i)]) O (hE.t O) (hE.t O) (hE.t O) (chW_rd hi) uK) ?_;refine uB (qXr O O (by assumption)) ?_;refine gg4 ?_;exact uZ O (.tmp O .nil) ⟨O,O⟩
structure LsG where
 i:Nat
 p:Option Addr
 c:Nat
def qCd (hE:Seat E){ids:List Nat}{q:Option Addr}{cq n:Nat}(hn:ids.length=n):Ct E 12 [.slice q n cq] [sl q cq 44 1 n (idC ids)]
  (fun v Q=>∃p c,v= .slice p (lsW ids (min n 26)).length c∧Q=[sl q cq 44 1 n (idC ids),sl p c 53 2 (lsW ids (min n 26)).length (nlC (lsW ids (min n 26)))]):=by
 refine dX (p:=sl q cq 44 1 n (idC ids)) uK (fun _ h=>fun hpos=>eF h hpos) (fun hq=>?_);refine bO (hE.fn Tryz.func12) O O O (fun R=>?_);simp only[dR,uV,uW];refine gg17 ?_;refine iB (gW (t:=53) (sz:=2)) ?_;refine dW (fun x:LsG=>[(0,.slice q n cq),(3,.slice x.p (lsW ids x.i).length x.c),(4,.int .i64 (x.i:Nat))]) (fun x=>[sl q cq 44 1 n (idC ids),sl x.p x.c 53 2 (lsW ids x.i).length (nlC (lsW ids x.i)),R]) (fun x=>26-x.i) (fun x=>x.i≤n∧x.i≤26) ⟨0,none,0⟩ ⟨av _,av _⟩ ⟨O,O,O,trivial⟩ uI ?_;rintro⟨i,p,c⟩⟨hi,hi2⟩;simp only at hi hi2 ⊢;have hll:=wK ids i;refine gg8 ?_;refine dS 9 O (fun h1=>?_) (fun h1=>?_)
 ·refine gg7 ?_;refine bE O (fun h2=>?_) (fun h2=>?_)
  ·obtain⟨g,rfl⟩:=hq oO;obtain⟨id,hid⟩:∃x,ids[i]?=some x:=⟨_,ag oO⟩;have hidw:=xO hid;have f0:=eQ hid (0+((i:Nat):Int).toNat) oO;have f1:=eQ hid (((i:Nat):Int).toNat) oO;refine gg4 ?_;refine uH ([sl (some ⟨g,0,none⟩) cq 44 1 n (idC ids)]) ?_;refine gg2 ?_;refine uD 3 O (aB O) ?_;refine gg3 ?_;apply dH 2 O oK O;refine uC (qOl hE oO) O ?_;rintro _ _⟨rfl,rfl⟩;simp only[uV,uW];refine uE ?_;refine uD 7 O (gY) ?_;apply dH 8 O oK O;refine aU (hE.t O) (hE.t O) O O O (fun b23=>?_);refine uE ?_;apply dH 9 O oK O;apply bU (hE.t O) (hE.t O) O O O
   ·exact uK
   ·exact uK
   ·rfl
   ·rfl
   ·omega
   ·omega
   ·(unfold maxLen;omega)
   intro g24 c24 n24 x24 hn24 hx24;refine uE ?_;refine gg9 ?_
   have e1:nlC (lsW ids (i+1))=nlC (lsW ids i)++[.string ⟨⟨nmW i⟩⟩,.int .i64 ((id:Nat):Int)]:=by
    rw[lsW_snoc,nI,hidw];rfl
   obtain rfl:n24=(lsW ids (i+1)).length:=by have:=wK ids (i+1);omega
   obtain rfl:x24=nlC (lsW ids (i+1)):=by rw[hx24,e1];rfl
   refine bS (ι:=LsG) (j:=⟨i+1,some ⟨g24,0,none⟩,c24⟩) ⟨by simp only;omega,by simp only;omega⟩ (by simp only;omega) ⟨rfl,rfl,bg some (bW (by simp only;omega)),trivial⟩ uI
  have e:i=min n 26:=oO;rw[e];refine gg12 ?_;exact uZ O (.tmp O .nil) ⟨p,c,O,O⟩
 have e:i=min n 26:=oO;rw[e];refine gg18 ?_;exact uZ O (.tmp O .nil) ⟨p,c,O,O⟩
def qOk (hE:Seat E):Ct E 13 [] [] (fun v Q=>∃m bm pp s tb,v= .tuple #[.agg #[uPt s,uPt m],.bool true]∧Q=[cells m [uPt pp,.map (some bm)] 93,mapF bm .i64 (fun _=>none),cells pp [uPt s,uPt tb] 97,tabP tb s (rls []),bR s 1048576 []]):=by
 have hmr:1048576≤eU:=ai _;refine bO (hE.fn Tryz.func13) O O O (fun R=>?_);simp only[dR,uV,uW];refine gg2 ?_;refine uU (dA (hE.t O) (fun b0=>?_));refine gg5 ?_;refine uX (qBz (most:=1048576) hE hmr) O ?_;rintro _ _⟨s,rfl,rfl⟩;simp only[uV,uW];refine gg6 ?_;refine uX (qFg (Es:=[]) (s:=s) (most:=1048576) hE) O ?_;rintro _ _⟨pp,tb,rfl,rfl⟩;simp only[uV,uW];refine uX (qJr hE) O ?_;rintro _ _⟨m,bm,rfl,rfl⟩;simp only[uV,uW];refine gg21 ?_;apply cB
 ·rfl
 ·((apply Rs.cell rfl (hE.t rfl) rfl;(focus((repeat(first |rfl|assumption|constructor));done)));apply Rs.tmp rfl;exact Rs.nil)
 ·exact⟨m,bm,pp,s,tb,O,O⟩
 exact uI
def ct_tId (hE:Seat E){m:Nat}{t:List UInt8}(ht:t.length≤65536)(hroom:Es.length+2*t.length≤most):
  Ct E 14 [.agg #[uPt s,uPt m],.string ⟨⟨t⟩⟩] [bR s most Es]
   (fun v Q=>∃(M:List Ent)(id:Nat),v= .tuple #[.int .i64 (id:Nat),.bool true]∧M.length≤2*t.length∧Be (rls (Es++M)) id t∧Q=[bR s most (Es++M)]):=by
 have hs:(⟨⟨t⟩⟩:ByteArray).size=t.length:=rfl;refine bO (hE.fn Tryz.func14) O O O (fun R=>?_);simp only[dR,uV,uW];refine gg2 ?_;refine uU ?_;refine fH O (fun b2=>?_);refine gg9 ?_;refine uU ?_;refine qCz O (hE.t O) (hE.t O) (hE.t O) (fun gb cb hcb=>?_);refine uX (qBu (bs:=t) (a:=some ⟨gb,0,none⟩) (c:=cb) (q:=ro gb (t.map fun b=>Value.int .u8 (b.toNat:Nat))) hE rdb_roW ht hcb hroom) O ?_;rintro _ _⟨M,id,rfl,hM,hid,rfl⟩;refine mX (p:=bR s most (Es++M)) uK (fun _ h=>dP h) (fun hsay=>?_)
 have hpos:0<id↔0<t.length:=by
  have h0:=hid.tx;have h1:=hid.ev.le;rcases fe id with h| h
  ·subst h;rw[jG]at h0;subst h0;simp
  have:=hsay.1.pos id h h1;unfold len at this;rw[h0]at this;omega
 simp only[uV,uW];refine gg31 ?_;apply cB
 ·rfl
 ·(apply Rs.tmp rfl;apply Rs.tmp rfl;exact Rs.nil)
 ·have hb:decide (decide ((0:Int)<(id:Nat))=decide ((0:Int)<(((⟨⟨t⟩⟩:ByteArray).size:Nat):Int)))=true:=mr (decide_eq_decide.2 (by rw[hs];omega));exact⟨M,id,bg (fun b=>one [.int .i64 (id:Nat),.bool b]) hb,hM,hid,O⟩
 exact uI
def qRd (hE:Seat E)(hB:Base E.w0):Ct E 7 [] [] (fun v Q=>v= .bool true∧Q=[]):=by
 refine bO (hE.fn Tryz.func7) O O O (fun R=>?_);simp only[dR,uV,uW];refine gg7 ?_;refine uX (qOk hE) O ?_;rintro _ _⟨m,bm,pp,s,tb,rfl,rfl⟩;simp only[uV,uW];refine gg3 ?_;refine uU (dA (hE.t O) (fun b1=>?_));refine gg16 ?_;apply aA
 ·(first |(apply bV rfl (hE.t rfl) rfl;(repeat(first |rfl|assumption|constructor));done)|(apply y_load_agg_old rfl (hE.t rfl) rfl;assumption))
 ·rfl
 refine uX (ct_tId (Es:=[]) (s:=s) (most:=1048576) (m:=m) (t:=[120,120]) hE (by decide) (by decide)) O ?_;rintro _ _⟨M,id,rfl,hM,hbe,rfl⟩;simp only[uV,uW];refine qO (cO (p:=tabP tb s []) (p':=tabP tb s (rls M)) uK (fun _ h=>lT (rls M) h)) ?_;rw[fu]at hbe;have hM4:M.length≤4:=hM;have htx:=hbe.tx;have hid:id≤M.length:=by have:=hbe.ev.le;rwa [bQ]at this
 refine mX (p:=bR s 1048576 M) uK (fun _ h=>(dP h).1) (fun hw=>?_)
 have hln:∀p∈[(([97]:List UInt8),(id:Int))],0≤p.2→p.2≤M.length→p.2.toNat∈[id]:=fun p hp _ _=>by
  obtain rfl:=bf.1 hp;exact bf.2 (mf id)
 have hU:∀u∈[id],Ev (rls M) u∧len (rls M) u≤400:=fun u hu=>by
  obtain rfl:=bf.1 hu;exact⟨hbe.ev,by unfold len;rw[htx];decide⟩
 have hpot:=qPo hw (f:=fun _=>none) [id] hU;have hrm:M.length+pot' (rls M) (fun _=>none) [id]≤1048576:=by simp only[bq]at hpot;omega
 refine gg23 ?_;refine uU ?_;refine aU (hE.t O) (hE.t O) O O O (fun b24=>?_);refine uX (yO (U:=[id]) (Es:=M) (s:=s) (tb:=tb) (pp:=pp) (most:=1048576) (m:=m) (bm:=bm) (f:=fun _=>none) (l:=[([97],(id:Int))]) (a:=some ⟨b24,0,none⟩) (ca:=1) (q:=cells b24 [.string ⟨⟨[97]⟩⟩,.int .i64 (id:Nat)] 53) hE hB (fun _=>⟨b24,0,O,qBj (fun _ _ h=>h)⟩) (bz O) hln hU hrm (Kn.nil _)) O ?_;rintro _ _(⟨e,he,rfl,rfl⟩|⟨M2,f',ys,g,c,B,ho,rfl,hB,hM2, -,hkn,hyl,hsl,rfl⟩)
 ·exact(he.not (sgo_one hid)).elim
 simp only[uV,uW];refine mX (p:=bR s 1048576 (M++M2)) uK (fun _ h=>dP h) (fun hsay=>?_)
 have hBv:B=[2,1,120,3,1,0,1,1,97,2]:=by
  rw[hB];have hsl':SigL (rls (M++M2)) [id] ys:=hsl;exact xx_bytes hsay.1 (by rw[bQ,aa];omega) (by rw[dB,jR _ (by rw[bQ];omega)];exact htx) hyl hsl'
 refine gg15 ?_;refine uU ?_;refine aU (hE.t O) (hE.t O) O O O (fun b32=>?_);refine gg1 ?_;refine uX (qGu (xs:=B) (bs:=[2,1,120,3,1,0,1,1,97,2]) (q:=sl (some ⟨g,0,none⟩) c 5 1 B.length (byC B)) (r:=cells b32 [.int .u8 2,.int .u8 1,.int .u8 120,.int .u8 3,.int .u8 1,.int .u8 0,.int .u8 1,.int .u8 1,.int .u8 97,.int .u8 2] 5) hE (fun _=>⟨g,0,O,qV (fun _ _ h=>h)⟩) (fun _=>⟨b32,0,O,qBj (fun _ _ h=>h)⟩)) O ?_;rintro _ _⟨rfl,rfl⟩;simp only[uV,uW];refine gg5 ?_;exact uZ O (.tmp O .nil) ⟨bg Value.bool (mr hBv),O⟩
end
section
variable {E:Env}{Es:List Ent}{s most:Nat}
def qRi (hE:Seat E){fv:Value}:Ct E 68 [uPt s,.int .i64 0,.int .i64 0,.int .i64 0,fv] [] (fun v Q=>v= .nilIface∧Q=[]):=by
 refine bO (hE.fn Tryz.func68) O O O (fun R=>?_);simp only[dR,uV,uW];refine gg11 ?_;refine uU ?_;refine aU (hE.t O) (hE.t O) O O O (fun b22=>?_);refine gg5 ?_;refine iB (cO (p:=cells b22 [.int .i64 0,.int .i64 0,.int .i64 0,.int .i64 1] 194) (p':=sl (some ⟨b22,0,none⟩) 1 194 4 1 [.int .i64 0,.int .i64 0,.int .i64 0,.int .i64 1]) uK (eG O (by unfold maxLen;omega))) ?_;refine nD 2 ?_;refine gg20 ?_;refine l_eq 30 (uPt b22) O O ?_;refine gg1 ?_;refine uU (dA (hE.t O) (fun b12=>?_));refine gg9 ?_;refine uB (fJ 0 O O (hE.t O) oO oO) ?_;refine gg42 ?_;exact uZ O (.tmp O .nil) ⟨O,O⟩
def qJm (hE:Seat E):Ct E 41 [uPt s,.int .i64 0,.int .i64 0,.int .i64 0] [bR s most Es]
  (fun v Q=>∃g,v= .tuple #[.slice (some ⟨g,0,none⟩) 0 0,.nilIface]∧Q=[bR s most Es,sl (some ⟨g,0,none⟩) 0 5 1 0 (byC [])]):=by
 refine bO (hE.fn Tryz.func41) O O O (fun R=>?_);simp only[dR,uV,uW];refine gg2 ?_;refine uU ?_;refine fH O (fun b4=>?_);refine gg8 ?_;refine uX (yV hE) O ?_;rintro _ _⟨rfl,rfl⟩;simp only[uV,uW];refine gg3 ?_;refine uU (dA (hE.t O) (fun b10=>?_));refine gg21 ?_;refine uX (qCb (n:=0) hE oO) O ?_;rintro _ _⟨rfl,rfl⟩;simp only[uV,uW];refine gg25 ?_;refine uU ?_;refine jQ (hE.t O) (hE.t O) O O (by first |omega |exact bz rfl) (by(unfold maxLen;first |omega |exact bz rfl)) (fun b35 us35 hu35=>?_);refine uU (dA (hE.t O) (fun b13=>?_));refine gg10 ?_;refine uX (qRi hE) O ?_;rintro _ _⟨rfl,rfl⟩;simp only[uV,uW];refine qO (cO (p:=sl (some ⟨b35,0,none⟩) 0 5 1 0 us35) (p':=sl (some ⟨b35,0,none⟩) 0 5 1 0 (byC [])) uK (kX (av _) O (by simp))) ?_;refine gg21 ?_;exact uZ O (.tmp O (.tmp O .nil)) ⟨b35,O,O⟩
def ct_tText (hE:Seat E){m x:Nat}{t:List UInt8}(hx:x≤Es.length)(ht:txt (rls Es) x=t)(hl:t.length≤20000):
  Ct E 17 [.agg #[uPt s,uPt m],.int .i64 (x:Nat)] [bR s most Es]
   (fun v Q=>v= .tuple #[.string ⟨⟨t⟩⟩,.bool true]∧Q=[bR s most Es]):=by
 subst ht;refine bO (hE.fn Tryz.func17) O O O (fun R=>?_);simp only[dR,uV,uW];refine gg2 ?_;refine uU ?_;refine fH O (fun b2=>?_);refine gg9 ?_;refine uX (qH (x:=x) hE hx) O ?_;rintro _ _⟨rfl,rfl⟩;simp only[uV,uW];refine gg3 ?_;refine uU (dA (hE.t O) (fun b6=>?_));refine gg19 ?_;refine bE O (fun h1=>?_) (fun h1=>?_)
 ·exfalso;omega
 cases x with
 |zero=>
  rw[jG]
  refine gg9 ?_
  refine uX (qJm hE) O ?_
  rintro _ _⟨g,rfl,rfl⟩
  simp only[uV,uW]
  refine gg10 ?_
  refine uB (vB (q:=sl (some ⟨g,0,none⟩) 0 5 1 0 (byC [])) (src:=29) (dst:=9) (e:=5) (bs:=[]) O (hE.t O) (hE.t O) (hE.t O) (fun _=>⟨g,0,O,qV (fun _ _ h=>h)⟩) uK) ?_
  refine gg7 ?_
  exact uZ O (.tmp O (.tmp O .nil)) ⟨O,O⟩
 |succ i=>
  have hent:Es[i]?=some (Es[i]'hx):=ag hx
  have hl2:len (rls Es) (i+1)≤65536:=by unfold len;omega
  refine gg9 ?_
  refine uX (yP hE hent hl2) O ?_
  rintro _ _⟨g,c,rfl,rfl⟩
  simp only[uV,uW]
  refine gg10 ?_
  refine uB (vB (q:=sl (some ⟨g,0,none⟩) c 5 1 (txt (rls Es) (i+1)).length (byC (txt (rls Es) (i+1)))) (src:=29) (dst:=9) (e:=5) (bs:=txt (rls Es) (i+1)) O (hE.t O) (hE.t O) (hE.t O) (fun _=>⟨g,0,O,qV (fun _ _ h=>h)⟩) uK) ?_
  refine gg7 ?_
  exact uZ O (.tmp O (.tmp O .nil)) ⟨O,O⟩
end
section
variable {L:List Rl}{ids ys:List Nat}{ts:List (List UInt8)}{m:Nat}
def qXh (hw:Wf L):∀(n:Nat)(acc:List Nat),1≤n→n≤L.length→(visit L n acc).length+1≤acc.length+2*len L n:=by
 intro n;induction n using Nat.strongRecOn with
 |_ n ih=>
  intro acc h1 hn
  obtain⟨n,rfl⟩:∃k,n=k+1:=⟨n-1,oO⟩
  have hp:=hw.pos (n+1) h1 hn
  by_cases hm:n+1∈acc
  ·rw[kJ hm];omega
  have hg:L[n]?=some L[n]:=ag oO
  generalize L[n]=r at hg
  have ho:=hw.ok n r hg
  have hk:=iG ho
  rw[gU hw hg hm,aa,bq]
  cases r with
  |letter b=>
   have:len L (n+1)=1:=by unfold len;rw[fM hg];rfl
   show acc.length+1+1≤_
   omega
  |pair a b=>
   have e:len L (n+1)=len L a+len L b:=by unfold len;rw[iO hg ho,aa]
   have ka:=hk a (by simp[kids])
   have kb:=hk b (by simp[kids])
   have ha:=ih a oO acc ka.1 oO
   have hb:=ih b oO (visit L a acc) kb.1 oO
   show(visit L b (visit L a acc)).length+1+1≤_
   omega
  |power y k=>
   have e:len L (n+1)=k*len L y:=by unfold len;rw[jE hg ho];simp
   have ky:=hk y (by simp[kids])
   have hy:=ih y oO acc ky.1 oO
   have hpy:=hw.pos y ky.1 oO
   obtain⟨_,_,h3⟩:=ho
   have:2*len L y≤k*len L y:=jw _ h3
   show(visit L y acc).length+1+1≤_
   omega
def qGl (hw:Wf L){B:Nat}:∀(xs acc:List Nat),(∀x∈xs,x≤L.length∧len L x≤B)→(dD L xs acc).length≤acc.length+2*B*xs.length
 |[],acc,_=>Nat.le_add_right _ _
 |x::xs,acc,h=>by
  have h1:=qGl hw xs (visit L x acc) (fun y hy=>h y (by simp[hy]));have hx:=h x (by simp);rw[fP,ax,Nat.mul_succ];rcases fe x with rfl|hp
  ·rw[jW]at h1 ⊢;omega
  have:=qXh hw x acc hp hx.1;omega
def idT (ids:List Nat)(m:Nat):List Nat:=(List.range m).map (idW ids)
def qMx (ids:List Nat)(m:Nat):(idT ids m).length=m:=by simp[idT]
def idT_at {i:Nat}(h:i<m):idW (idT ids m) i=idW ids i:=by
 refine xO ?_;unfold idT;rw[bi,lc h];rfl
def qUz:lsW (idT ids m) m=lsW ids m:=by
 unfold lsW;refine ow fun i hi=>?_
 rw[idT_at (qp.1 hi)]
def rawN_idT:rawN (lsW ids m)=idT ids m:=by
 rw[←qUz];exact rawN_lsW (qMx ids m)
def eql_W (hw:Wf L)(hyl:ys.length=m)(h:∀i,i<m→Be L (idW ids i) (ts.getD i [])) (hs:SigL L (rawN (lsW ids m)) ys):EqL L (itW ts m) (idT ids m) ys:=by
 rw[rawN_idT]at hs;exact eql_of hw (qMx ids m) hyl (fun i hi=>by rw[idT_at hi];exact h i hi) hs
def enc_W:nmY (lsW ids m) ys=nmY (mkN (itW ts m) (idT ids m)) ys:=by rw[mkN_itW (qMx ids m),qUz]
def qHj {i:Nat}{x:Im}(h:(itW ts m)[i]?=some x):i<m∧x=⟨nmW i,none,ts.getD i [],0⟩:=by
 have hi:i<m:=by have:=(ae.1 h).1;rwa [wH]at this
 rw[qPa hi]at h;exact⟨hi,(oH h).symm⟩
def prop_W (q:EqL L (itW ts m) ids ys)(hm:m≤26)(hsh:∀t∈ts,t.length≤400):Prop50 (gram L (dD L ys [])) (nmA (itW ts m) (ys.map (numb (dD L ys []))))∧(gram L (dD L ys [])).length≤20800∧(∀r∈gram L (dD L ys []),r.times≤1152921504606846976)∧(∀j,1≤j→j≤(gram L (dD L ys [])).length→0≤lvl (gram L (dD L ys [])) j):=by
 have hrs:=q.rsl;have hlis:=hrs.lis;have hgl:(gram L (dD L ys [])).length=(dD L ys []).length:=rP;have hyl2:=q.yl;rw[wH]at hyl2;have hyl:(ys.map (numb (dD L ys []))).length=(itW ts m).length:=by rw[gz];exact hrs.yl
 have hAs:=nmA_snd (l:=itW ts m) hyl;have hgv:=qMw hrs.wf hrs.bound hlis;have hmx:dC=1152921504606846976:=rfl
 have hbs:∀(i:Nat)(x:Im),(itW ts m)[i]?=some x→x.bs.length≤400:=fun i x hx=>by
  obtain⟨hi,rfl⟩:=qHj hx;show(ts.getD i []).length≤400;rw[iq];cases e:ts[i]? with
  |none=>exact av _
  |some t=>exact hsh t (ak e)
 have hsig:∀y∈ys,1≤y→Sig L y∧lvl L y≤25544:=fun y hy h0=>by
  obtain⟨i,hi⟩:=jy hy;have hil:=(ae.1 hi).1;have:=hrs.yl;obtain⟨x,hx⟩:∃x,(itW ts m)[i]?=some x:=⟨_,ag oO⟩;have hb:=hbs i x hx;rcases(hrs.sg i x y hx hi).2 with⟨_,e⟩|⟨lv,hr⟩
  ·omega
  obtain⟨s1,s2⟩:=hr.sig hrs.wf;exact⟨s1,s1.lv_le hrs.wf s2 oO⟩
 have hyt:∀y∈ys,y≤L.length∧len L y≤400:=fun y hy=>by
  obtain⟨i,hi⟩:=jy hy;obtain⟨x,id,h1,h2,h3,h4⟩:=q.at hi;refine⟨hrs.bound y hy,?_⟩;unfold len;rw[h3.2.1,h4];exact hbs i x h1
 have hfew:=qGl hrs.wf ys [] hyt;rw[fw,hyl2]at hfew
 have hrule:∀j,1≤j→j≤(gram L (dD L ys [])).length→Sig (gram L (dD L ys [])) j∧0≤lvl (gram L (dD L ys [])) j∧lvl (gram L (dD L ys [])) j≤1048576:=fun j h1 h2=>by
  obtain⟨i,rfl⟩:∃i,j=i+1:=⟨j-1,oO⟩;obtain⟨r,hr⟩:∃r,(gram L (dD L ys []))[i]?=some r:=⟨_,ag oO⟩;obtain⟨n,q,v1,q1,rfl,m1⟩:=hlis.one hr;have hin:=ak v1;rcases(qY hrs.wf ys []).1 _ hin with e|⟨y,hy,hre⟩
  ·simp at e
  have hp:1≤y:=by cases hre<;>omega
  obtain⟨s1,s2⟩:=hsig y hy hp;obtain⟨s3,s4⟩:=hre.sigs hrs.wf s1;have s5:=hlis.sig hin s3;have s6:=hlis.lv hin;rw[m1]at s5 s6;have:=s5.lv;exact⟨s5,this,oO⟩
 rw[←hAs,←hgl]at hgv;refine⟨⟨qCs hlis.wf hlis.acc hlis.ord,hlis.gwf,fun p hp=>?_,fun i p p' h1 h2=>?_,fun j h1 h2=>⟨(hrule j h1 h2).1,(hrule j h1 h2).2.2⟩,hgv⟩,oO,hlis.times,fun j h1 h2=>(hrule j h1 h2).2.1⟩
 ·obtain⟨i,hi⟩:=jy hp;obtain⟨x,hx,hn,e⟩:=qNe hi;obtain⟨y,hy,e2⟩:=qC hn;obtain⟨hi2,rfl⟩:=qHj hx;exact⟨by rw[e];exact qKt ⟨i,oO⟩,by rw[e2,rP];exact qD _ _⟩
 obtain⟨x,hx,hn,e⟩:=qNe h1;obtain⟨x',hx',hn',e'⟩:=qNe h2;obtain⟨hi,rfl⟩:=qHj hx;obtain⟨hi',rfl⟩:=qHj hx';rw[e,e'];exact qPi ⟨i,oO⟩
def len_W (q:EqL L (itW ts m) ids ys):(nmA (itW ts m) (ys.map (numb (dD L ys [])))).length=m:=by
 have:(ys.map (numb (dD L ys []))).length=(itW ts m).length:=by rw[gz];exact q.rsl.yl
 rw[qRz this,wH]
def got_W {Z:List Nat}{A:List (List UInt8×Nat)}{L2:List Rl}(h:imP (gotL L2 Z A)=imP (itW ts m)){i:Nat}(hi:i<m):∃p,A[i]?=some p∧p.1=nmW i∧txt L2 (zat Z p.2)=ts.getD i []:=by
 have h1:(imP (gotL L2 Z A))[i]?=some (nmW i,ts.getD i []):=by
  rw[h];unfold imP;rw[bi,qPa hi];rfl
 unfold imP gotL at h1;rw[lw,bi]at h1;obtain⟨p,hp,e⟩:=wo.1 h1;simp only[Function.comp,Prod.mk.injEq]at e;exact⟨p,hp,e.1,e.2⟩
end
