import Derived.Test.YtejcjelmpbkcbaaGreatDoorQ9L
import Derived.Test.YtejcjelmpbkcbaaGreatDoorQ9P
import Derived.Laws.BitsAllLaws
set_option linter.all false
set_option maxHeartbeats 1000000
namespace Sl
open Go Go.RowKit
variable {E:Env}{n:Nat}{L:Fr}{S:List HP}{d:Option Nat}{ty:TypeId}{pos:String}{af:Array Edge}{gd:Option (Nat×Bool)}
end Sl
namespace Go.Proofs.YtejcjelmpbkcbaaGreatDoor
open Go Go.RowKit Sl Eg
set_option maxRecDepth 10000
section
variable {G L L1:List Rl}{Z:List Nat}{A:List (List UInt8×Nat)}{l:List Im}{ids y1:List Nat}
def gotL (L:List Rl)(Z:List Nat)(A:List (List UInt8×Nat)):List Im:=A.map fun p=>⟨p.1,none,txt L (zat Z p.2),0⟩
def gotI (Z:List Nat)(A:List (List UInt8×Nat)):List Nat:=A.map fun p=>zat Z p.2
def mkN_got:mkN (gotL L Z A) (gotI Z A)=nmI (A.map fun p=>(p.1,zat Z p.2)):=by
 unfold mkN gotL gotI nmI;rw[List.zip_map',mi,mi];rfl
def Prop50.enc (hP:Prop50 G A)(hL:Wf L)(h:DcI G L G.length Z):encB L (dD L (gotI Z A) []) (nmY (mkN (gotL L Z A) (gotI Z A)) (gotI Z A))=encA G A:=by
 rw[mkN_got];unfold gotI;rw[nmY_zat];exact uniq_enc hP hL h
end
section
def nmW (i:Nat):List UInt8:=[116,UInt8.ofNat (97+i)]
def xV:∀i:Fin 26,ValidN (nmW i.val):=by decide
def idW (ids:List Nat)(i:Nat):Nat:=ids.getD i 0
def qAg {ids:List Nat}{i id:Nat}(h:ids[i]?=some id):idW ids i=id:=by
 unfold idW;rw[fe,h];rfl
def lsW (ids:List Nat)(m:Nat):List (List UInt8×Int):=(List.range m).map fun i=>(nmW i,((idW ids i:Nat):Int))
def qDg (ids:List Nat)(m:Nat):(lsW ids m).length=m:=by simp[lsW]
def qWy {ids:List Nat}{m i:Nat}(h:i<m):(lsW ids m)[i]?=some (nmW i,((idW ids i:Nat):Int)):=by
 unfold lsW;rw[bq,mh h];rfl
def lsW_snoc (ids:List Nat)(m:Nat):lsW ids (m+1)=lsW ids m++[(nmW m,((idW ids m:Nat):Int))]:=by
 unfold lsW;rw[wy,fw];rfl
def itW (ts:List (List UInt8))(m:Nat):List Im:=(List.range m).map fun i=>⟨nmW i,none,ts.getD i [],0⟩
def qHt (ts:List (List UInt8))(m:Nat):(itW ts m).length=m:=by simp[itW]
def itW_at {ts:List (List UInt8)}{m i:Nat}(h:i<m):(itW ts m)[i]?=some ⟨nmW i,none,ts.getD i [],0⟩:=by
 unfold itW;rw[bq,mh h];rfl
def mkN_itW {ts:List (List UInt8)}{ids:List Nat}{m:Nat}(h:ids.length=m):mkN (itW ts m) ids=lsW ids m:=by
 apply nu;intro i;rcases ed i m with hi|hi
 ·obtain⟨id,hid⟩:∃id,ids[i]?=some id:=⟨_,ag oO⟩;rw[mkN_at (itW_at hi) hid,qWy hi,qAg hid]
 rw[ig (by rw[qSx (by rw[qHt];exact h),qHt];exact hi),ig (by rw[qDg];exact hi)]
def eql_of {ts:List (List UInt8)}{ids ys:List Nat}{m:Nat}{L:List Rl}(hw:Wf L)(hil:ids.length=m)(hyl:ys.length=m)(h:∀i,i<m→Be L (idW ids i) (ts.getD i [])) (hs:SigL L ids ys):EqL L (itW ts m) ids ys:=by
 refine⟨hw,by rw[qHt];exact hil,by rw[qHt];exact hyl,fun i x id hx hid=>?_,hs⟩
 have hi:i<m:=by
  have:=(ae.1 hid).1;omega
 rw[itW_at hi]at hx;cases hx
 have:=h i hi;rw[qAg hid]at this;exact⟨this.ev.le,this.tx⟩
def rawN_lsW {ids:List Nat}{m:Nat}(h:ids.length=m):rawN (lsW ids m)=ids:=by
 apply nu;intro i;unfold rawN;rcases ed i m with hi|hi
 ·obtain⟨id,hid⟩:∃id,ids[i]?=some id:=⟨_,ag oO⟩;rw[bq,qWy hi,hid,qAg hid];simp
 rw[ig (by rw[ku,qDg];exact hi),ig oO]
end
section
variable {E:Env}{Es:List Ent}{pp tb s most m bm:Nat}{f:Int→Option Value}
def wrap_b {i:Int}(h1:0≤i)(h2:i≤255):IntKind.u8.wrap i=i:=by
 have e:=qEr i.toNat;rw[Int.toNat_of_nonneg h1]at e;rw[e];omega
def rdb_roW {w0:World}{g:Nat}{vs:List Value}:Rdb w0 (some ⟨g,0,none⟩) vs (ro g vs):=fun _=>⟨g,0,rfl,fun k h i v hv=>by
 obtain⟨cur,t,z,h1,h2⟩:=h;exact .inr ⟨cur,t,z,h1,by rw[jg];exact h2 i v hv⟩⟩
def qFo (hE:Seat E):Ct E 10 [uPt s] [bR s most Es] (fun v Q=>∃pp tb,v=uPt pp∧Q=[cells pp [uPt s,uPt tb] 117,tabP tb s (rls Es),bR s most Es]):=by
 refine bO (hE.fn Tryz.func10) O O O (fun R=>?_);simp only[dX,uV,uW];refine gg19 ?_;refine uX (qSa hE) O ?_;rintro _ _⟨tb,rfl,rfl⟩;simp only[uV,uW];refine gg1 ?_;refine uU ?_;refine gW O (fun b9=>?_);refine gg4 ?_;apply cB
 ·rfl
 ·(apply Rs.tmp rfl;exact Rs.nil)
 ·exact⟨b9,tb,O,O⟩
 refine cO (cK (p:=tabP tb s []) (p':=tabP tb s (rls Es)) uK (fun _ h=>sD (rls Es) h)) ?_;exact uI
def chW_rd {w0:World}{b i:Nat}{t:TypeId}(h:i<26):Rdb w0 (some ⟨b,0,none⟩) ([UInt8.ofNat (97+i)].map fun b=>Value.int .u8 (b.toNat:Nat)) (cells b [Value.int .u8 ((97:Int)+(i:Nat))] t):=fun _=>⟨b,0,rfl,qBe (fun j v hv=>by
 have e:([UInt8.ofNat (97+i)].map fun b=>Value.int .u8 (b.toNat:Nat))=[Value.int .u8 ((97:Int)+(i:Nat))]:=by
  show[Value.int .u8 ((UInt8.ofNat (97+i)).toNat:Nat)]=_;rw[UInt8.toNat_ofNat'];exact bf (fun z=>[Value.int .u8 z]) oO
 rw[e]at hv;exact hv)⟩
def xB (hE:Seat E){i:Nat}(hi:i<26):Ct E 12 [.int .i64 (i:Nat)] [] (fun v Q=>v= .string ⟨⟨nmW i⟩⟩∧Q=[]):=by
 have hcat:([116]:List UInt8).length+[UInt8.ofNat (97+i)].length≤1000000000:=by show 2≤1000000000;decide
 refine bO (hE.fn Tryz.func12) O O O (fun R=>?_);simp only[dX,uV,uW];refine gg9 ?_;refine l_eq 4 (.int .i64 (i:Nat)) O (bW oO) ?_;refine gg1 ?_;refine uB (dI O (hE.t O) (hE.t O) (by first |exact dJ oO oO|exact dK oO oO|exact wrap_b oO oO)) ?_;refine uU ?_;refine aU (hE.t O) (hE.t O) O O O (fun b7=>?_);refine uB (qPc (q:=cells b7 [Value.int .u8 ((97:Int)+(i:Nat))] 5) (src:=44) (dst:=9) (e:=5) (bs:=[UInt8.ofNat (97+i)]) O (hE.t O) (hE.t O) (hE.t O) (chW_rd hi) uK) ?_;refine uB (qZu O O (by assumption)) ?_;refine gg4 ?_;exact uZ O (.tmp O .nil) ⟨O,O⟩
def ct_tOpen (hE:Seat E):Ct E 40 [] [] (fun v Q=>∃m bm pp s tb,v= .tuple #[.agg #[uPt s,uPt m],.bool true]∧Q=[cells m [uPt pp,.map (some bm)] 113,mapF bm .i64 (fun _=>none),cells pp [uPt s,uPt tb] 117,tabP tb s (rls []),bR s 1048576 []]):=by
 have hmr:1048576≤fP:=ai _;refine bO (hE.fn Tryz.func40) O O O (fun R=>?_);simp only[dX,uV,uW];refine gg2 ?_;refine uU (cZ (hE.t O) (fun b0=>?_));refine gg5 ?_;refine uX (qKk (most:=1048576) hE hmr) O ?_;rintro _ _⟨s,rfl,rfl⟩;simp only[uV,uW];refine gg6 ?_;refine uX (qFo (Es:=[]) (s:=s) (most:=1048576) hE) O ?_;rintro _ _⟨pp,tb,rfl,rfl⟩;simp only[uV,uW];refine uX (qKh hE) O ?_;rintro _ _⟨m,bm,rfl,rfl⟩;simp only[uV,uW];refine gg21 ?_;apply cB
 ·rfl
 ·((apply Rs.cell rfl (hE.t rfl) rfl;(focus((repeat(first |rfl|assumption|constructor));done)));apply Rs.tmp rfl;exact Rs.nil)
 ·exact⟨m,bm,pp,s,tb,O,O⟩
 exact uI
def ct_tId (hE:Seat E){m:Nat}{t:List UInt8}(ht:t.length≤65536)(hroom:Es.length+2*t.length≤most):
  Ct E 41 [.agg #[uPt s,uPt m],.string ⟨⟨t⟩⟩] [bR s most Es]
   (fun v Q=>∃(M:List Ent)(id:Nat),v= .tuple #[.int .i64 (id:Nat),.bool true]∧M.length≤2*t.length∧Be (rls (Es++M)) id t∧Q=[bR s most (Es++M)]):=by
 have hs:(⟨⟨t⟩⟩:ByteArray).size=t.length:=rfl;refine bO (hE.fn Tryz.func41) O O O (fun R=>?_);simp only[dX,uV,uW];refine gg2 ?_;refine uU ?_;refine gW O (fun b2=>?_);refine gg9 ?_;refine uU ?_;refine qCz O (hE.t O) (hE.t O) (hE.t O) (fun gb cb hcb=>?_);refine uX (qBu (bs:=t) (a:=some ⟨gb,0,none⟩) (c:=cb) (q:=ro gb (t.map fun b=>Value.int .u8 (b.toNat:Nat))) hE rdb_roW ht hcb hroom) O ?_;rintro _ _⟨M,id,rfl,hM,hid,rfl⟩;refine sZ (p:=bR s most (Es++M)) uK (fun _ h=>dS h) (fun hsay=>?_)
 have hpos:0<id↔0<t.length:=by
  have h0:=hid.tx;have h1:=hid.ev.le;rcases jr id with h| h
  ·subst h;rw[kN]at h0;subst h0;simp
  have:=hsay.1.pos id h h1;unfold len at this;rw[h0]at this;omega
 simp only[uV,uW];refine gg31 ?_;apply cB
 ·rfl
 ·(apply Rs.tmp rfl;apply Rs.tmp rfl;exact Rs.nil)
 ·have hb:decide (decide ((0:Int)<(id:Nat))=decide ((0:Int)<(((⟨⟨t⟩⟩:ByteArray).size:Nat):Int)))=true:=ma (decide_eq_decide.2 (by rw[hs];omega));exact⟨M,id,bf (fun b=>one [.int .i64 (id:Nat),.bool b]) hb,hM,hid,O⟩
 exact uI
def qRz (hE:Seat E)(hB:Base E.w0):Ct E 6 [] [] (fun v Q=>v= .bool true∧Q=[]):=by
 refine bO (hE.fn Tryz.func6) O O O (fun R=>?_);simp only[dX,uV,uW];refine gg7 ?_;refine uX (ct_tOpen hE) O ?_;rintro _ _⟨m,bm,pp,s,tb,rfl,rfl⟩;simp only[uV,uW];refine gg3 ?_;refine uU (cZ (hE.t O) (fun b1=>?_));refine gg16 ?_;apply aA
 ·(first |(apply bV rfl (hE.t rfl) rfl;(repeat(first |rfl|assumption|constructor));done)|(apply y_load_agg_old rfl (hE.t rfl) rfl;assumption))
 ·rfl
 refine uX (ct_tId (Es:=[]) (s:=s) (most:=1048576) (m:=m) (t:=[120,120]) hE (by decide) (by decide)) O ?_;rintro _ _⟨M,id,rfl,hM,hbe,rfl⟩;simp only[uV,uW];refine qAh (cK (p:=tabP tb s []) (p':=tabP tb s (rls M)) uK (fun _ h=>sD (rls M) h)) ?_;rw[jq]at hbe;have hM4:M.length≤4:=hM;have htx:=hbe.tx;have hid:id≤M.length:=by have:=hbe.ev.le;rwa [bQ]at this
 refine sZ (p:=bR s 1048576 M) uK (fun _ h=>(dS h).1) (fun hw=>?_)
 have hln:∀p∈[(([97]:List UInt8),(id:Int))],0≤p.2→p.2≤M.length→p.2.toNat∈[id]:=fun p hp _ _=>by
  obtain rfl:=bg.1 hp;exact bg.2 (oG id)
 have hU:∀u∈[id],Ev (rls M) u∧len (rls M) u≤400:=fun u hu=>by
  obtain rfl:=bg.1 hu;exact⟨hbe.ev,by unfold len;rw[htx];decide⟩
 have hpot:=qXt hw (f:=fun _=>none) [id] hU;have hrm:M.length+pot' (rls M) (fun _=>none) [id]≤1048576:=by simp only[az]at hpot;omega
 refine gg23 ?_;refine uU ?_;refine aU (hE.t O) (hE.t O) O O O (fun b24=>?_);refine uX (qFi (U:=[id]) (Es:=M) (s:=s) (tb:=tb) (pp:=pp) (most:=1048576) (m:=m) (bm:=bm) (f:=fun _=>none) (l:=[([97],(id:Int))]) (a:=some ⟨b24,0,none⟩) (ca:=1) (q:=cells b24 [.string ⟨⟨[97]⟩⟩,.int .i64 (id:Nat)] 105) hE hB (fun _=>⟨b24,0,O,qBe (fun _ _ h=>h)⟩) (bi O) hln hU hrm (Kn.nil _)) O ?_;rintro _ _(⟨e,he,rfl,rfl⟩|⟨M2,f',ys,g,c,B,ho,rfl,hB,hM2, -,hkn,hyl,hsl,rfl⟩)
 ·exact(he.not (sgo_one hid)).elim
 simp only[uV,uW];refine sZ (p:=bR s 1048576 (M++M2)) uK (fun _ h=>dS h) (fun hsay=>?_)
 have hBv:B=[2,1,120,3,1,0,1,1,97,2]:=by
  rw[hB];have hsl':SigL (rls (M++M2)) [id] ys:=hsl;exact xx_bytes hsay.1 (by rw[bQ,aa];omega) (by rw[dA,jQ _ (by rw[bQ];omega)];exact htx) hyl hsl'
 refine gg15 ?_;refine uU ?_;refine aU (hE.t O) (hE.t O) O O O (fun b32=>?_);refine gg1 ?_;refine uX (qPh (xs:=B) (bs:=[2,1,120,3,1,0,1,1,97,2]) (q:=sl (some ⟨g,0,none⟩) c 5 1 B.length (byC B)) (r:=cells b32 [.int .u8 2,.int .u8 1,.int .u8 120,.int .u8 3,.int .u8 1,.int .u8 0,.int .u8 1,.int .u8 1,.int .u8 97,.int .u8 2] 5) hE (fun _=>⟨g,0,O,qGj (fun _ _ h=>h)⟩) (fun _=>⟨b32,0,O,qBe (fun _ _ h=>h)⟩)) O ?_;rintro _ _⟨rfl,rfl⟩;simp only[uV,uW];refine gg5 ?_;exact uZ O (.tmp O .nil) ⟨bf Value.bool (ma hBv),O⟩
end
section
variable {L:List Rl}{ids ys:List Nat}{ts:List (List UInt8)}{m:Nat}
def idT (ids:List Nat)(m:Nat):List Nat:=(List.range m).map (idW ids)
def qNw (ids:List Nat)(m:Nat):(idT ids m).length=m:=by simp[idT]
def idT_at {i:Nat}(h:i<m):idW (idT ids m) i=idW ids i:=by
 refine qAg ?_;unfold idT;rw[bq,mh h];rfl
def qWz:lsW (idT ids m) m=lsW ids m:=by
 unfold lsW;refine oD fun i hi=>?_
 rw[idT_at (oQ.1 hi)]
def rawN_idT:rawN (lsW ids m)=idT ids m:=by
 rw[←qWz];exact rawN_lsW (qNw ids m)
def eql_W (hw:Wf L)(hyl:ys.length=m)(h:∀i,i<m→Be L (idW ids i) (ts.getD i [])) (hs:SigL L (rawN (lsW ids m)) ys):EqL L (itW ts m) (idT ids m) ys:=by
 rw[rawN_idT]at hs;exact eql_of hw (qNw ids m) hyl (fun i hi=>by rw[idT_at hi];exact h i hi) hs
def enc_W:nmY (lsW ids m) ys=nmY (mkN (itW ts m) (idT ids m)) ys:=by rw[mkN_itW (qNw ids m),qWz]
end
