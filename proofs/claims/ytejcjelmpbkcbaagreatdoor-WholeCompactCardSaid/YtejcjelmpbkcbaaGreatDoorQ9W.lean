import Derived.Test.YtejcjelmpbkcbaaGreatDoorQ9L
import Derived.Test.YtejcjelmpbkcbaaGreatDoorQ9P
import Derived.Laws.BitsAllLaws
set_option linter.all false
set_option maxHeartbeats 1000000
namespace Sl
open Go Go.RowKit
variable {E:Env}{n:Nat}{L:Fr}{S:List HP}{d:Option Nat}{ty:TypeId}{pos:String}{af:Array Edge}{gd:Option (Nat×Bool)}
end Sl
namespace Go.Proofs.YtejcjelmpbkcbaaGreatDoor
open Go Go.RowKit Sl Eg
set_option maxRecDepth 10000
section
variable {G L L1:List Rl}{Z:List Nat}{A:List (List UInt8×Nat)}{l:List Im}{ids y1:List Nat}
def gotL (L:List Rl)(Z:List Nat)(A:List (List UInt8×Nat)):List Im:=A.map fun p=>⟨p.1,none,txt L (zat Z p.2),0⟩
def gotI (Z:List Nat)(A:List (List UInt8×Nat)):List Nat:=A.map fun p=>zat Z p.2
def mkN_got:mkN (gotL L Z A) (gotI Z A)=nmI (A.map fun p=>(p.1,zat Z p.2)):=by
 unfold mkN gotL gotI nmI;rw[List.zip_map',nz,nz];rfl
def Prop50.enc (hP:Prop50 G A)(hL:Wf L)(h:DcI G L G.length Z):encB L (dD L (gotI Z A) []) (nmY (mkN (gotL L Z A) (gotI Z A)) (gotI Z A))=encA G A:=by
 rw[mkN_got];unfold gotI;rw[nmY_zat];exact uniq_enc hP hL h
end
section
def nmW (i:Nat):List UInt8:=[116,UInt8.ofNat (97+i)]
def qXc {i j:Nat}(hi:i<26)(hj:j<26)(h:nmW i=nmW j):i=j:=by
 unfold nmW at h;simp at h;have:=bg UInt8.toNat h;rw[UInt8.toNat_ofNat',UInt8.toNat_ofNat']at this;omega
def xU:∀i:Fin 26,ValidN (nmW i.val):=by decide
def nmW_less:∀i:Fin 25,Op.bytesLess (nmW i.val) (nmW (i.val+1))=true:=by decide
def idW (ids:List Nat)(i:Nat):Nat:=ids.getD i 0
def xL {ids:List Nat}{i id:Nat}(h:ids[i]?=some id):idW ids i=id:=by
 unfold idW;rw[jg,h];rfl
def lsW (ids:List Nat)(m:Nat):List (List UInt8×Int):=(List.range m).map fun i=>(nmW i,((idW ids i:Nat):Int))
def zC (ids:List Nat)(m:Nat):(lsW ids m).length=m:=by simp[lsW]
def qPz {ids:List Nat}{m i:Nat}(h:i<m):(lsW ids m)[i]?=some (nmW i,((idW ids i:Nat):Int)):=by
 unfold lsW;rw[bu,lu h];rfl
def lsW_snoc (ids:List Nat)(m:Nat):lsW ids (m+1)=lsW ids m++[(nmW m,((idW ids m:Nat):Int))]:=by
 unfold lsW;rw[List.range_succ,jh];rfl
def qOd {ids:List Nat}{m:Nat}{p:List UInt8×Int}(h:p∈lsW ids m):∃i,i<m/\p=(nmW i,((idW ids i:Nat):Int)):=by
 obtain⟨i,hi,e⟩:=dw.1 h;exact⟨i,mh.1 hi,e.symm⟩
def lsW_ok {ids:List Nat}{m n:Nat}(hm:m<=26)(h:∀i,i<m->idW ids i<=n):SgO n (lsW ids m):=by
 refine⟨fun p hp=>?_,fun i p q hi h1 h2=>?_,fun p hp=>?_⟩
 ·obtain⟨i,hi,rfl⟩:=qOd hp;exact xU ⟨i,oO⟩
 ·rw[zC]at hi;rw[qPz oO]at h1;rw[qPz hi]at h2;cases h1
  cases h2
  exact nmW_less ⟨i,oO⟩
 obtain⟨i,hi,rfl⟩:=qOd hp;have:=h i hi;simp only;omega
def itW (ts:List (List UInt8))(m:Nat):List Im:=(List.range m).map fun i=>⟨nmW i,none,ts.getD i [],0⟩
def qHw (ts:List (List UInt8))(m:Nat):(itW ts m).length=m:=by simp[itW]
def itW_at {ts:List (List UInt8)}{m i:Nat}(h:i<m):(itW ts m)[i]?=some ⟨nmW i,none,ts.getD i [],0⟩:=by
 unfold itW;rw[bu,lu h];rfl
def mkN_itW {ts:List (List UInt8)}{ids:List Nat}{m:Nat}(h:ids.length=m):mkN (itW ts m) ids=lsW ids m:=by
 apply kz;intro i;rcases ed i m with hi|hi
 ·obtain⟨id,hid⟩:∃id,ids[i]?=some id:=⟨_,ah oO⟩;rw[mkN_at (itW_at hi) hid,qPz hi,xL hid]
 rw[fq (by rw[qSp (by rw[qHw];exact h),qHw];exact hi),fq (by rw[zC];exact hi)]
def eql_of {ts:List (List UInt8)}{ids ys:List Nat}{m:Nat}{L:List Rl}(hw:Wf L)(hil:ids.length=m)(hyl:ys.length=m)(h:∀i,i<m->Be L (idW ids i) (ts.getD i [])) (hs:SigL L ids ys):EqL L (itW ts m) ids ys:=by
 refine⟨hw,by rw[qHw];exact hil,by rw[qHw];exact hyl,fun i x id hx hid=>?_,hs⟩
 have hi:i<m:=by
  have:=(ag.1 hid).1;omega
 rw[itW_at hi]at hx;cases hx
 have:=h i hi;rw[xL hid]at this;exact⟨this.ev.le,this.tx⟩
def rawN_lsW {ids:List Nat}{m:Nat}(h:ids.length=m):rawN (lsW ids m)=ids:=by
 apply kz;intro i;unfold rawN;rcases ed i m with hi|hi
 ·obtain⟨id,hid⟩:∃id,ids[i]?=some id:=⟨_,ah oO⟩;rw[bu,qPz hi,hid,xL hid];simp
 rw[fq (by rw[ic,zC];exact hi),fq oO]
end
section
variable {E:Env}{Es:List Ent}{pp tb s most m bm:Nat}{f:Int->Option Value}
def wrap_b {i:Int}(h1:0<=i)(h2:i<=255):IntKind.u8.wrap i=i:=by
 have e:=qEo i.toNat;rw[Int.toNat_of_nonneg h1]at e;rw[e];omega
def rdb_roW {w0:World}{g:Nat}{vs:List Value}:Rdb w0 (some ⟨g,0,none⟩) vs (ro g vs):=fun _=>⟨g,0,rfl,fun k h i v hv=>by
 obtain⟨cur,t,z,h1,h2⟩:=h;exact .inr ⟨cur,t,z,h1,by rw[kg];exact h2 i v hv⟩⟩
def yS (hE:Seat E):Ct E 10 [uPt s] [bR s most Es] (fun v Q=>∃pp tb,v=uPt pp/\Q=[cells pp [uPt s,uPt tb] 117,tabP tb s (rls Es),bR s most Es]):=by
 refine bO (hE.fn Tryz.func10) O O O (fun R=>?_);simp only[dQ,uV,uW];refine gg19 ?_;refine uX (qRt hE) O ?_;rintro _ _⟨tb,rfl,rfl⟩;simp only[uV,uW];refine gg1 ?_;refine uU ?_;refine gW O (fun b9=>?_);refine gg4 ?_;apply cK
 ·rfl
 ·(apply Rs.tmp rfl;exact Rs.nil)
 ·exact⟨b9,tb,O,O⟩
 refine cZ (cO (p:=tabP tb s []) (p':=tabP tb s (rls Es)) uK (fun _ h=>rT (rls Es) h)) ?_;exact uI
def chW_rd {w0:World}{b i:Nat}{t:TypeId}(h:i<26):Rdb w0 (some ⟨b,0,none⟩) ([UInt8.ofNat (97+i)].map fun b=>Value.int .u8 (b.toNat:Nat)) (cells b [Value.int .u8 ((97:Int)+(i:Nat))] t):=fun _=>⟨b,0,rfl,qBk (fun j v hv=>by
 have e:([UInt8.ofNat (97+i)].map fun b=>Value.int .u8 (b.toNat:Nat))=[Value.int .u8 ((97:Int)+(i:Nat))]:=by
  show[Value.int .u8 ((UInt8.ofNat (97+i)).toNat:Nat)]=_;rw[UInt8.toNat_ofNat'];exact bg (fun z=>[Value.int .u8 z]) oO
 rw[e]at hv;exact hv)⟩
def tK (hE:Seat E){i:Nat}(hi:i<26):Ct E 12 [.int .i64 (i:Nat)] [] (fun v Q=>v= .string ⟨⟨nmW i⟩⟩/\Q=[]):=by
 have hcat:([116]:List UInt8).length+[UInt8.ofNat (97+i)].length<=1000000000:=by show 2<=1000000000;decide
 refine bO (hE.fn Tryz.func12) O O O (fun R=>?_);simp only[dQ,uV,uW];refine gg9 ?_;refine l_eq 4 (.int .i64 (i:Nat)) O (bW oO) ?_;refine gg1 ?_;refine uB (dI O (hE.t O) (hE.t O) (by first |exact dJ oO oO|exact dK oO oO|exact wrap_b oO oO)) ?_;refine uU ?_;refine aU (hE.t O) (hE.t O) O O O (fun b7=>?_);refine uB (qPb (q:=cells b7 [Value.int .u8 ((97:Int)+(i:Nat))] 5) (src:=44) (dst:=9) (e:=5) (bs:=[UInt8.ofNat (97+i)]) O (hE.t O) (hE.t O) (hE.t O) (chW_rd hi) uK) ?_;refine uB (qZs O O (by assumption)) ?_;refine gg4 ?_;exact uZ O (.tmp O .nil) ⟨O,O⟩
structure LsG where
 i:Nat
 p:Option Addr
 c:Nat
def qKk (hE:Seat E){ids:List Nat}{q:Option Addr}{cq n:Nat}(hn:ids.length=n):Ct E 11 [.slice q n cq] [sl q cq 56 1 n (idC ids)]
  (fun v Q=>∃p c,v= .slice p (lsW ids (min n 26)).length c/\Q=[sl q cq 56 1 n (idC ids),sl p c 105 2 (lsW ids (min n 26)).length (nlC (lsW ids (min n 26)))]):=by
 refine dW (p:=sl q cq 56 1 n (idC ids)) uK (fun _ h=>fun hpos=>dX h hpos) (fun hq=>?_);refine bO (hE.fn Tryz.func11) O O O (fun R=>?_);simp only[dQ,uV,uW];refine gg17 ?_;refine gF (fV (t:=105) (sz:=2)) ?_;refine dV (fun x:LsG=>[(0,.slice q n cq),(3,.slice x.p (lsW ids x.i).length x.c),(4,.int .i64 (x.i:Nat))]) (fun x=>[sl q cq 56 1 n (idC ids),sl x.p x.c 105 2 (lsW ids x.i).length (nlC (lsW ids x.i)),R]) (fun x=>26-x.i) (fun x=>x.i<=n/\x.i<=26) ⟨0,none,0⟩ ⟨au _,au _⟩ ⟨O,O,O,trivial⟩ uI ?_;rintro⟨i,p,c⟩⟨hi,hi2⟩;simp only at hi hi2 ⊢;have hll:=zC ids i;refine gg8 ?_;refine dU 9 O (fun h1=>?_) (fun h1=>?_)
 ·refine gg7 ?_;refine bE O (fun h2=>?_) (fun h2=>?_)
  ·obtain⟨g,rfl⟩:=hq oO;obtain⟨id,hid⟩:∃x,ids[i]?=some x:=⟨_,ah oO⟩;have hidw:=xL hid;have f0:=eF hid (0+((i:Nat):Int).toNat) oO;have f1:=eF hid (((i:Nat):Int).toNat) oO;refine gg4 ?_;refine uH ([sl (some ⟨g,0,none⟩) cq 56 1 n (idC ids)]) ?_;refine gg2 ?_;refine uD 3 O (aB O) ?_;refine gg3 ?_;apply dH 2 O oK O;refine uC (tK hE oO) O ?_;rintro _ _⟨rfl,rfl⟩;simp only[uV,uW];refine uE ?_;refine uD 7 O (gY) ?_;apply dH 8 O oK O;refine aU (hE.t O) (hE.t O) O O O (fun b23=>?_);refine uE ?_;apply dH 9 O oK O;apply bU (hE.t O) (hE.t O) O O O
   ·exact uK
   ·exact uK
   ·rfl
   ·rfl
   ·omega
   ·omega
   ·(unfold maxLen;omega)
   intro g24 c24 n24 x24 hn24 hx24;refine uE ?_;refine gg9 ?_
   have e1:nlC (lsW ids (i+1))=nlC (lsW ids i)++[.string ⟨⟨nmW i⟩⟩,.int .i64 ((id:Nat):Int)]:=by
    rw[lsW_snoc,qGd,hidw];rfl
   obtain rfl:n24=(lsW ids (i+1)).length:=by have:=zC ids (i+1);omega
   obtain rfl:x24=nlC (lsW ids (i+1)):=by rw[hx24,e1];rfl
   refine bS (ι:=LsG) (j:=⟨i+1,some ⟨g24,0,none⟩,c24⟩) ⟨by simp only;omega,by simp only;omega⟩ (by simp only;omega) ⟨rfl,rfl,bg some (bW (by simp only;omega)),trivial⟩ uI
  have e:i=min n 26:=oO;rw[e];refine gg12 ?_;exact uZ O (.tmp O .nil) ⟨p,c,O,O⟩
 have e:i=min n 26:=oO;rw[e];refine gg18 ?_;exact uZ O (.tmp O .nil) ⟨p,c,O,O⟩
def ct_tOpen (hE:Seat E):Ct E 40 [] [] (fun v Q=>∃m bm pp s tb,v= .tuple #[.agg #[uPt s,uPt m],.bool true]/\Q=[cells m [uPt pp,.map (some bm)] 113,mapF bm .i64 (fun _=>none),cells pp [uPt s,uPt tb] 117,tabP tb s (rls []),bR s 1048576 []]):=by
 have hmr:1048576<=fE:=aj _;refine bO (hE.fn Tryz.func40) O O O (fun R=>?_);simp only[dQ,uV,uW];refine gg2 ?_;refine uU (dA (hE.t O) (fun b0=>?_));refine gg5 ?_;refine uX (qCb (most:=1048576) hE hmr) O ?_;rintro _ _⟨s,rfl,rfl⟩;simp only[uV,uW];refine gg6 ?_;refine uX (yS (Es:=[]) (s:=s) (most:=1048576) hE) O ?_;rintro _ _⟨pp,tb,rfl,rfl⟩;simp only[uV,uW];refine uX (qBy hE) O ?_;rintro _ _⟨m,bm,rfl,rfl⟩;simp only[uV,uW];refine gg21 ?_;apply cK
 ·rfl
 ·((apply Rs.cell rfl (hE.t rfl) rfl;(focus((repeat(first |rfl|assumption|constructor));done)));apply Rs.tmp rfl;exact Rs.nil)
 ·exact⟨m,bm,pp,s,tb,O,O⟩
 exact uI
def ct_tId (hE:Seat E){m:Nat}{t:List UInt8}(ht:t.length<=65536)(hroom:Es.length+2*t.length<=most):
  Ct E 41 [.agg #[uPt s,uPt m],.string ⟨⟨t⟩⟩] [bR s most Es]
   (fun v Q=>∃(M:List Ent)(id:Nat),v= .tuple #[.int .i64 (id:Nat),.bool true]/\M.length<=2*t.length/\Be (rls (Es++M)) id t/\Q=[bR s most (Es++M)]):=by
 have hs:(⟨⟨t⟩⟩:ByteArray).size=t.length:=rfl;refine bO (hE.fn Tryz.func41) O O O (fun R=>?_);simp only[dQ,uV,uW];refine gg2 ?_;refine uU ?_;refine gW O (fun b2=>?_);refine gg9 ?_;refine uU ?_;refine qCw O (hE.t O) (hE.t O) (hE.t O) (fun gb cb hcb=>?_);refine uX (qBx (bs:=t) (a:=some ⟨gb,0,none⟩) (c:=cb) (q:=ro gb (t.map fun b=>Value.int .u8 (b.toNat:Nat))) hE rdb_roW ht hcb hroom) O ?_;rintro _ _⟨M,id,rfl,hM,hid,rfl⟩;refine lQ (p:=bR s most (Es++M)) uK (fun _ h=>dP h) (fun hsay=>?_)
 have hpos:0<id↔0<t.length:=by
  have h0:=hid.tx;have h1:=hid.ev.le;rcases fu id with h| h
  ·subst h;rw[jC]at h0;subst h0;simp
  have:=hsay.1.pos id h h1;unfold len at this;rw[h0]at this;omega
 simp only[uV,uW];refine gg31 ?_;apply cK
 ·rfl
 ·(apply Rs.tmp rfl;apply Rs.tmp rfl;exact Rs.nil)
 ·have hb:decide (decide ((0:Int)<(id:Nat))=decide ((0:Int)<(((⟨⟨t⟩⟩:ByteArray).size:Nat):Int)))=true:=lq (decide_eq_decide.2 (by rw[hs];omega));exact⟨M,id,bg (fun b=>one [.int .i64 (id:Nat),.bool b]) hb,hM,hid,O⟩
 exact uI
def qRs (hE:Seat E)(hB:Base E.w0):Ct E 6 [] [] (fun v Q=>v= .bool true/\Q=[]):=by
 refine bO (hE.fn Tryz.func6) O O O (fun R=>?_);simp only[dQ,uV,uW];refine gg7 ?_;refine uX (ct_tOpen hE) O ?_;rintro _ _⟨m,bm,pp,s,tb,rfl,rfl⟩;simp only[uV,uW];refine gg3 ?_;refine uU (dA (hE.t O) (fun b1=>?_));refine gg16 ?_;apply aA
 ·(first |(apply bV rfl (hE.t rfl) rfl;(repeat(first |rfl|assumption|constructor));done)|(apply y_load_agg_old rfl (hE.t rfl) rfl;assumption))
 ·rfl
 refine uX (ct_tId (Es:=[]) (s:=s) (most:=1048576) (m:=m) (t:=[120,120]) hE (by decide) (by decide)) O ?_;rintro _ _⟨M,id,rfl,hM,hbe,rfl⟩;simp only[uV,uW];refine lT (cO (p:=tabP tb s []) (p':=tabP tb s (rls M)) uK (fun _ h=>rT (rls M) h)) ?_;rw[jy]at hbe;have hM4:M.length<=4:=hM;have htx:=hbe.tx;have hid:id<=M.length:=by have:=hbe.ev.le;rwa [bQ]at this
 refine lQ (p:=bR s 1048576 M) uK (fun _ h=>(dP h).1) (fun hw=>?_)
 have hln:∀p∈[(([97]:List UInt8),(id:Int))],0<=p.2->p.2<=M.length->p.2.toNat∈[id]:=fun p hp _ _=>by
  obtain rfl:=az.1 hp;exact az.2 (nk id)
 have hU:∀u∈[id],Ev (rls M) u/\len (rls M) u<=400:=fun u hu=>by
  obtain rfl:=az.1 hu;exact⟨hbe.ev,by unfold len;rw[htx];decide⟩
 have hpot:=qXn hw (f:=fun _=>none) [id] hU;have hrm:M.length+pot' (rls M) (fun _=>none) [id]<=1048576:=by simp only[ay]at hpot;omega
 refine gg23 ?_;refine uU ?_;refine aU (hE.t O) (hE.t O) O O O (fun b24=>?_);refine uX (qFg (U:=[id]) (Es:=M) (s:=s) (tb:=tb) (pp:=pp) (most:=1048576) (m:=m) (bm:=bm) (f:=fun _=>none) (l:=[([97],(id:Int))]) (a:=some ⟨b24,0,none⟩) (ca:=1) (q:=cells b24 [.string ⟨⟨[97]⟩⟩,.int .i64 (id:Nat)] 105) hE hB (fun _=>⟨b24,0,O,qBk (fun _ _ h=>h)⟩) (bn O) hln hU hrm (Kn.nil _)) O ?_;rintro _ _(⟨e,he,rfl,rfl⟩|⟨M2,f',ys,g,c,B,ho,rfl,hB,hM2, -,hkn,hyl,hsl,rfl⟩)
 ·exact(he.not (sgo_one hid)).elim
 simp only[uV,uW];refine lQ (p:=bR s 1048576 (M++M2)) uK (fun _ h=>dP h) (fun hsay=>?_)
 have hBv:B=[2,1,120,3,1,0,1,1,97,2]:=by
  rw[hB];have hsl':SigL (rls (M++M2)) [id] ys:=hsl;exact xx_bytes hsay.1 (by rw[bQ,ae];omega) (by rw[dB,jQ _ (by rw[bQ];omega)];exact htx) hyl hsl'
 refine gg15 ?_;refine uU ?_;refine aU (hE.t O) (hE.t O) O O O (fun b32=>?_);refine gg1 ?_;refine uX (qAv (xs:=B) (bs:=[2,1,120,3,1,0,1,1,97,2]) (q:=sl (some ⟨g,0,none⟩) c 5 1 B.length (byC B)) (r:=cells b32 [.int .u8 2,.int .u8 1,.int .u8 120,.int .u8 3,.int .u8 1,.int .u8 0,.int .u8 1,.int .u8 1,.int .u8 97,.int .u8 2] 5) hE (fun _=>⟨g,0,O,vM (fun _ _ h=>h)⟩) (fun _=>⟨b32,0,O,qBk (fun _ _ h=>h)⟩)) O ?_;rintro _ _⟨rfl,rfl⟩;simp only[uV,uW];refine gg5 ?_;exact uZ O (.tmp O .nil) ⟨bg Value.bool (lq hBv),O⟩
end
section
variable {L:List Rl}{ids ys:List Nat}{ts:List (List UInt8)}{m:Nat}
def qZh (hw:Wf L):∀(n:Nat)(acc:List Nat),1<=n->n<=L.length->(visit L n acc).length+1<=acc.length+2*len L n:=by
 intro n;induction n using Nat.strongRecOn with
 |_ n ih=>
  intro acc h1 hn
  obtain⟨n,rfl⟩:∃k,n=k+1:=⟨n-1,oO⟩
  have hp:=hw.pos (n+1) h1 hn
  by_cases hm:n+1∈acc
  ·rw[kH hm];omega
  have hg:L[n]?=some L[n]:=ah oO
  generalize L[n]=r at hg
  have ho:=hw.ok n r hg
  have hk:=jW ho
  rw[gQ hw hg hm,ae,ay]
  cases r with
  |letter b=>
   have:len L (n+1)=1:=by unfold len;rw[fC hg];rfl
   show acc.length+1+1<=_
   omega
  |pair a b=>
   have e:len L (n+1)=len L a+len L b:=by unfold len;rw[iC hg ho,ae]
   have ka:=hk a (by simp[kids])
   have kb:=hk b (by simp[kids])
   have ha:=ih a oO acc ka.1 oO
   have hb:=ih b oO (visit L a acc) kb.1 oO
   show(visit L b (visit L a acc)).length+1+1<=_
   omega
  |power y k=>
   have e:len L (n+1)=k*len L y:=by unfold len;rw[iG hg ho];simp
   have ky:=hk y (by simp[kids])
   have hy:=ih y oO acc ky.1 oO
   have hpy:=hw.pos y ky.1 oO
   obtain⟨_,_,h3⟩:=ho
   have:2*len L y<=k*len L y:=jw _ h3
   show(visit L y acc).length+1+1<=_
   omega
def qGs (hw:Wf L){B:Nat}:∀(xs acc:List Nat),(∀x∈xs,x<=L.length/\len L x<=B)->(dD L xs acc).length<=acc.length+2*B*xs.length
 |[],acc,_=>Nat.le_add_right _ _
 |x::xs,acc,h=>by
  have h1:=qGs hw xs (visit L x acc) (fun y hy=>h y (by simp[hy]));have hx:=h x (by simp);rw[fO,bf,Nat.mul_succ];rcases fu x with rfl|hp
  ·rw[jP]at h1 ⊢;omega
  have:=qZh hw x acc hp hx.1;omega
def idT (ids:List Nat)(m:Nat):List Nat:=(List.range m).map (idW ids)
def qNw (ids:List Nat)(m:Nat):(idT ids m).length=m:=by simp[idT]
def idT_at {i:Nat}(h:i<m):idW (idT ids m) i=idW ids i:=by
 refine xL ?_;unfold idT;rw[bu,lu h];rfl
def qWv:lsW (idT ids m) m=lsW ids m:=by
 unfold lsW;refine oZ fun i hi=>?_
 rw[idT_at (mh.1 hi)]
def rawN_idT:rawN (lsW ids m)=idT ids m:=by
 rw[<-qWv];exact rawN_lsW (qNw ids m)
def eql_W (hw:Wf L)(hyl:ys.length=m)(h:∀i,i<m->Be L (idW ids i) (ts.getD i [])) (hs:SigL L (rawN (lsW ids m)) ys):EqL L (itW ts m) (idT ids m) ys:=by
 rw[rawN_idT]at hs;exact eql_of hw (qNw ids m) hyl (fun i hi=>by rw[idT_at hi];exact h i hi) hs
def enc_W:nmY (lsW ids m) ys=nmY (mkN (itW ts m) (idT ids m)) ys:=by rw[mkN_itW (qNw ids m),qWv]
end
