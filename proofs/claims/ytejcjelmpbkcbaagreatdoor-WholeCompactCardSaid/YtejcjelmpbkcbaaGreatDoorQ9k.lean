import Derived.Test.YtejcjelmpbkcbaaGreatDoorQ9j
import Derived.Carry
import Derived.ChangeArms
import Derived.ChangeSame
import Derived.ChangeSlices
import Derived.ChangeVars
import Derived.Deep.Matrix
import Derived.JoinedOf
import Derived.LaidHandle
import Derived.LaidLaws
import Derived.LaidMore
import Derived.Lib.LaidTab
import Derived.MakeChecks
import Derived.OpenShut
import Derived.ProofKit
import Derived.RowKit
import Derived.RowKitTokens
import Derived.SizedLaws
import Derived.Stop.Joined
import Derived.Test.YtejcjelmpbkcbaaGreatDoorCards
import Derived.Test.YtejcjelmpbkcbaaGreatDoorRows
import Derived.Test.YtejcjelmpbkcbaaGreatDoorTie
set_option linter.all false
set_option maxHeartbeats 1000000
namespace Go.Proofs.YtejcjelmpbkcbaaGreatDoor
section
open Go.ChangeShapes Go.WideShapes Go.RowKit Sl
def own:ownKnob Tryz.prog.godebug=none:=by kernel_rfl
def laidOut:laidOutB Tryz.prog=true:=by kernel_rfl
def gTab : Tryz.prog.globalNamed "math/bits.deBruijn64tab" = some 0 := by kernel_rfl
def boolT:Tryz.prog.underlying 4=some .bool:=by kernel_rfl
abbrev lay : List (String × DataW Unit) := [("math/bits.deBruijn64tab", Rows.laid_math_bits_deBruijn64tab)]
def door_met (os:Os)(args:Array Value):laidMetH Tryz.prog lay ((World.doorLaid Tryz.prog 400 os).forCall (fun _ _=>0) ⟨#[],args,[]⟩).memory:=
 laidMetH_of_parts3 (fuel:=8) (laidMet_of_run' 8 oK oK) oK oK
def base_of {W:World}(h:laidMetH Tryz.prog lay W):Base W:=by
 rw[MakeChecks.laidMetH_plain _ _ _ oK]at h;obtain⟨t,ht⟩:∃t,(Tryz.prog.globals[0]?).map (·.type)=some t:=⟨_,rfl⟩;have hT := Lib.tabIs_of_head (e := 5) (n := 64) gTab ht (by cases ht; kernel_rfl) (by kernel_rfl) (by kernel_rfl) (by cases ht; kernel_rfl) (show laidMet Tryz.prog [("math/bits.deBruijn64tab", Lib.tabData .u8 (Lib.deBruijn64tab.map fun (n : Nat) => (n : Int)))] W from h)
 have hc:TabAt W:=fun j hj=>by
  have:=hT.cell gTab j (by simpa using hj);rw[this];simp[List.getD,hj]
 refine⟨hc,?_⟩;have h0:=hc 0 (by decide)
 exact Nat.pos_of_ne_zero fun e=>by
  have:W.heap[0]?=none:=oz oO;simp[World.cell?,this]at h0
def qJi {H:Type}{enc:TypeId×Value->H}{P:Program}(hlo:laidOutB P=true){W W':World}(hb:Below W.heap.size W W'):∀(ts:List TypeId)(vs:List Value)(ds:List (DataW H))(ps:List MemPlace),
  (ts.all fun t=>P.readableRec t&&decide (t<P.types.size))=true->(∀x∈ps,x.block<W.heap.size)->DataW.TrodAll enc P W 0 (fun _=>true) true ts vs ds ps->DataW.TrodAll enc P W' 0 (fun b=>decide (b<W.heap.size)) true ts vs ds ps:=by
 intro ts;induction ts with
 |nil=>
  intro vs ds ps _ _ h
  cases vs<;>cases ds<;>first |exact h|exact h.elim
 |cons t ts ih=>
  intro vs ds ps ht hl h
  cases vs with
  |nil=>cases ds<;>exact h.elim
  |cons v vs=>
   cases ds with
   |nil=>exact h.elim
   |cons d ds=>
    obtain⟨p,q,h1,h2,rfl⟩:=h
    simp only[List.all_cons,ik,decide_eq_true_eq]at ht
    exact⟨p,q,Below.trod hlo ht.1.1 ht.1.2 h1 hb (fun x hx=>hl x (iq _ hx)),ih vs ds q ht.2 (fun x hx=>hl x (mo _ hx)) h2,O⟩
def law_post {H:Type}{enc:TypeId×Value->H}{f:Func}{s:ChangeSpec}{W W':World}{args:Array Value}{ds:List (DataW H)}{before:List MemPlace}(hv:s.vars=[])
  (hW:DataW.Whole enc Tryz.prog f.params.toList s.vars false W args.toList ds [] before) (hb:Below W.heap.size W W') (hts:(f.params.toList.all fun t=>Tryz.prog.readableRec t&&decide (t<Tryz.prog.types.size))=true)
  (hr:f.resultTypes= #[4]) (hfn:s.fn H (ds++[])={results:=[.lit (.bool true)],args:=ds}):s.post enc Tryz.prog f false true false false W args (.bool true) W':=by
 have hW':=hW;obtain⟨p,q,hA,hV,rfl,hfz,hnd⟩:=hW;have hlt:∀x∈p,x.block<W.heap.size:=fun x hx=>hW'.lt x (iq _ hx)
 refine⟨ds,[],p++q,[],p,[],hW',?_,?_,?_,hb.frame _,fun h=>by cases h⟩
 ·rw[hfn,hr];exact trodAll_mk1 (shut_bool boolT true)
 ·rw[hfn];exact qJi laidOut hb _ _ _ _ hts hlt hA
 rw[hfn,hv];rfl
def env_of (W:World):∃E:Env,Seat E/\E.w0=W:=⟨⟨Tryz.prog,W,tabT.find,tab_ok,by kernel_rfl⟩,⟨rfl,rfl⟩,rfl⟩
end
section
open Go Go.ChangeShapes Go.WideShapes Go.ChangeAt Go.WideMaps Go.WideElems Go.RowKit Go.ChangeMaps Sl
def qQd {cs:List Value}{o:Nat}{v:Value}(h:(cs.drop o).take 1=[v]):cs[o]?=some v:=by
 have:=bg (fun l=>l[0]?) h;simpa[kw,qb]using this
end
section
open Go Go.ChangeShapes Go.WideShapes Go.ChangeAt Go.WideMaps Go.WideElems Go.RowKit Go.ChangeMaps Sl Eg
def qMc {W:World}{a:Addr}{v:Value}(h:W.cell? a=some v):a=⟨a.block,a.off,none⟩:=by
 obtain⟨b,o,s⟩:=a;cases s with
 |none=>rfl
 |some x=>
  unfold World.cell? at h
  split at h
  ·simp at h
  cases h
def calls_at {W:World}{f:FuncId}{args:List Value}(hB:Base W)(h:∀E:Env,Seat E->E.w0=W->Base E.w0->Ct E f args [] (fun v Q=>v= .bool true/\Q=[])):Calls Tryz.prog f ⟨args⟩ W (fun e W'=>e= .returned (.bool true)/\Below W.heap.size W W'):=by
 obtain⟨E,hE,rfl⟩:=env_of W;have hs:Sat E.w0 E.w0 ([]++[fun _=>True]):=⟨O,O,O,aj _,fun _ _=>O,⟨lW E.w0 E.w0,fun _=>none,fun _=> .inr O,by funext b;simp[join],trivial,trivial⟩⟩;have:=h E hE rfl hB (fun _=>True) E.w0 hs;rw[hE.P]at this;exact this.mono fun e W'⟨v,Qs,h1,⟨h2,_⟩,h3⟩=>⟨by rw[h1,h2],h3.os,h3.tape,h3.output,h3.size,h3.old⟩
end
section
open Go Go.ChangeShapes Go.WideShapes Go.ChangeAt Go.WideMaps Go.WideElems Go.RowKit Go.ChangeMaps Sl Eg
instance:Inhabited TMk:=⟨⟨0,0,0,0,0,[]⟩⟩
def fldT {fs:Array Field}{i o:Nat}{t:TypeId}(h:fs[i]?.map (fun f=>(f.offset,f.type))=some (o,t)):∃f,fs[i]?=some f/\f.offset=o/\f.type=t:=by
 cases e:fs[i]? with
 |none=>rw[e]at h;cases h
 |some f=>rw[e]at h;simp at h;exact⟨f,rfl,h.1,h.2⟩
def xX {H:Type}{enc:TypeId×Value->H}{P:Program}{w:World}{base n o:Nat}{spare:Nat->Bool}{held:Bool}{t:TypeId}{k:IntKind}{cs:List Value}{f:Field}{x:Option (DataW H×List MemPlace)}(hx:x≠none)(ho:f.offset=o)(ht:f.type=t)(hi:P.underlying t=some (.int k))(hc:P.cellsOf t=1)
  (h:DataW.trod enc P w base spare held n f.type ((cs.drop f.offset).take (P.cellsOf f.type))=x):∃z,cs[o]?=some (.int k z)/\(Lit.int k z).wf=true:=by
 cases x with
 |none=>exact absurd rfl hx
 |some x=>
  rw[ho,ht,hc]at h
  obtain⟨z,e,_,hw⟩:=DataW.trod_int hi h
  exact⟨z,qQd e,hw⟩
def sN {z:Int}(h:(Lit.int .i64 z).wf=true): -9223372036854775808<=z/\z<=9223372036854775807:=by
 simp only[Lit.wf,ik,decide_eq_true_eq]at h;have h1:(IntKind.i64.min:Int)= -9223372036854775808:=by rfl
 have h2:(IntKind.i64.max:Int)=9223372036854775807:=by rfl
 omega
def one_strT {H:Type}{enc:TypeId×Value->H}{P:Program}{w:World}{base n o:Nat}{spare:Nat->Bool}{held:Bool}{t:TypeId}{cs:List Value}{f:Field}{x:Option (DataW H×List MemPlace)}(hx:x≠none)(ho:f.offset=o)(ht:f.type=t)(hi:P.underlying t=some .string)(hc:P.cellsOf t=1)
  (h:DataW.trod enc P w base spare held n f.type ((cs.drop f.offset).take (P.cellsOf f.type))=x):∃u:List UInt8,cs[o]?=some (.string ⟨⟨u⟩⟩):=by
 cases x with
 |none=>exact absurd rfl hx
 |some x=>
  rw[ho,ht,hc]at h
  obtain⟨⟨⟨u⟩⟩,e,_⟩:=DataW.trod_string hi h
  exact⟨u,qQd e⟩
set_option maxRecDepth 100000 in
def qXe {H:Type}{enc:TypeId×Value->H}{w:World}{base fuel:Nat}{spare:Nat->Bool}{held:Bool}{cs:List Value}{x:DataW H×List MemPlace}(h:DataW.trod enc Tryz.prog w base spare held fuel 90 cs=some x):∃m:TMk,cs=mkV m/\m.ok:=by
 obtain⟨xs,n,_,_,hcl,hxl,hall⟩:=DataW.trod_struct (fs:=Tryz.prog.fieldsOf 90) oK h;have hsz:(Tryz.prog.fieldsOf 90).size=6:=by kernel_rfl
 have hc:Tryz.prog.cellsOf 90=6:=by kernel_rfl
 have ui:Tryz.prog.underlying 3=some (.int .i64):=by kernel_rfl
 have us:Tryz.prog.underlying 9=some .string:=by kernel_rfl
 have ci:Tryz.prog.cellsOf 3=1:=by kernel_rfl
 have cs':Tryz.prog.cellsOf 9=1:=by kernel_rfl
 obtain⟨f0,a0,o0,t0⟩:=fldT (fs:=Tryz.prog.fieldsOf 90) (i:=0) (o:=0) (t:=3) oK;obtain⟨f1,a1,o1,t1⟩:=fldT (fs:=Tryz.prog.fieldsOf 90) (i:=1) (o:=1) (t:=3) oK;obtain⟨f2,a2,o2,t2⟩:=fldT (fs:=Tryz.prog.fieldsOf 90) (i:=2) (o:=2) (t:=3) oK;obtain⟨f3,a3,o3,t3⟩:=fldT (fs:=Tryz.prog.fieldsOf 90) (i:=3) (o:=3) (t:=3) oK;obtain⟨f4,a4,o4,t4⟩:=fldT (fs:=Tryz.prog.fieldsOf 90) (i:=4) (o:=4) (t:=3) oK;obtain⟨f5,a5,o5,t5⟩:=fldT (fs:=Tryz.prog.fieldsOf 90) (i:=5) (o:=5) (t:=9) oK;rw[hsz]at hxl;have hne:∀i,i<6->xs[i]?≠none:=fun i hi=>by rw[ah oO];simp
 obtain⟨z0,e0,w0⟩:=xX (hne 0 oO) o0 t0 ui ci (hall 0 f0 a0);obtain⟨z1,e1,w1⟩:=xX (hne 1 oO) o1 t1 ui ci (hall 1 f1 a1);obtain⟨z2,e2,w2⟩:=xX (hne 2 oO) o2 t2 ui ci (hall 2 f2 a2);obtain⟨z3,e3,w3⟩:=xX (hne 3 oO) o3 t3 ui ci (hall 3 f3 a3);obtain⟨z4,e4,w4⟩:=xX (hne 4 oO) o4 t4 ui ci (hall 4 f4 a4);obtain⟨u,e5⟩:=one_strT (hne 5 oO) o5 t5 us cs' (hall 5 f5 a5);rw[hc]at hcl;refine⟨⟨z0,z1,z2,z3,z4,u⟩,?_,⟨sN w0,sN w1,sN w2,sN w3,sN w4⟩⟩;match cs,hcl with
 |[c0,c1,c2,c3,c4,c5],_=>
  simp at e0 e1 e2 e3 e4 e5
  subst e0 e1 e2 e3 e4 e5
  rfl
set_option maxRecDepth 100000 in
def qSs {H:Type}{enc:TypeId×Value->H}{w:World}{base b0:Nat}{r:Reach}{held:Bool}{v:Value}{d:DataW H}{ps:List MemPlace}
  (hv:Value.okWide Tryz.prog w r b0 22 v) (hd:DataW.Trod enc Tryz.prog w base (fun _=>true) held 22 v d ps):
  ∃(A:Option Addr)(ms:List TMk)(C:Nat),v= .slice A ms.length C/\Rdb w A (mkVs ms) old/\(∀m∈ms,m.ok)/\ms.length<=maxLen:=by
 have hc:Tryz.prog.cellsOf 90=6:=by kernel_rfl
 have hu:Tryz.prog.underlying 22=some (.slice 90):=by kernel_rfl
 obtain⟨a,len,cap,rfl⟩:=okWide_slice hu hv;obtain⟨fuel,hf⟩:=hd;simp only[Value.cells]at hf;rcases Go.Deep.open_slice hu hf with⟨h1,h2⟩|⟨a',len',cap',m,n,D,Pl,h1,hb,hl,hm,hmm,hx,hcell⟩
 ·simp at h1;obtain⟨rfl,rfl,rfl⟩:=h1;exact⟨none,[],0,O,fun h=>absurd O h,(by simp),au _⟩
 simp at h1;obtain⟨rfl,rfl,rfl⟩:=h1;have hml:len<=m:=by rw[hmm];split <;>omega
 obtain⟨M,hM⟩:=Go.Deep.choose_lt (n:=len) (p:=fun i(k:TMk)=>k.ok/\∀j u,(mkV k)[j]?=some u->w.cell? (a'.add (i*6+j))=some u) (fun i hi=>by
  obtain⟨cs',g1,g2⟩:=hcell i oO;obtain⟨k,rfl,hk⟩:=qXe g2;rw[hc]at g1;obtain⟨_,_,g3⟩:=World.cells?_some g1;refine⟨k,hk,fun j u hj=>?_⟩;have hj6:j<6:=(ag.1 hj).1;rw[<-Go.Deep.add_add,g3 j hj6,hj])
 have hlen:((List.range len).map M).length=len:=by simp
 have hget:∀i,i<len->((List.range len).map M)[i]?=some (M i):=fun i hi=>by simp[hi]
 refine⟨some a',(List.range len).map M,cap,by rw[hlen],fun hne=>?_,fun t ht=>?_,by rw[hlen];omega⟩
 ·have h0:0<len:=by
   rcases fu len with h| h
   ·subst h;simp[mkVs]at hne
   exact h
  have hc0:=(hM 0 h0).2 0 _ O;rw[show a'.add (0*6+0)=a' by simp[Addr.add]]at hc0;have e:=qMc hc0;refine⟨a'.block,a'.off,by rw[<-e],rd_old fun i v hv=>?_⟩
  have hi:i<len*6:=by
   have:=(ag.1 hv).1;rwa [vX,hlen]at this
  have hk:i/6<len:=oO;have hj:i%6<6:=oO;have hu:(mkV (M (i/6)))[i%6]?=some ((mkV (M (i/6)))[i%6]'hj):=ah hj;have hat:=qWz (hget _ hk) _ _ hu;have hci:=(hM _ hk).2 _ _ hu;rw[show i/6*6+i%6=i by omega]at hat hci;rw[hat]at hv;rw[e,Sl.addr_add]at hci;rw[hci,hv]
 obtain⟨i,hi,rfl⟩:=dw.1 ht;exact(hM i (mh.1 hi)).1
def qVf {E:Env}{f:FuncId}{args:List Value}{u:Value}(h:Ct E f args [old] (fun v Q=>v=u/\Q=[old])):Ct E f args [] (fun v Q=>v=u/\Q=[]):=fun R w s=>(h R w (s.imp fun _ x=>ent_old _ x)).mono fun e w'⟨v,Qs,h1,⟨h2,h3⟩,h4⟩=>⟨v,[],h1,⟨h2,rfl⟩,by
 subst h3;exact h4.imp (by show ∀k,dS [old,R] k->dS [R] k;(apply ent;(repeat constructor);done))⟩
def rdb_of {W:World}{a:Option Addr}{vs:List Value}(h:∀i v,vs[i]?=some v->∃a',a=some a'/\W.cell? (a'.add i)=some v):Rdb W a vs old:=fun hne=>by
 cases vs with
 |nil=>exact absurd rfl hne
 |cons v vs=>
  obtain⟨a',rfl,h0⟩:=h 0 v rfl
  rw[show a'.add 0=a' by simp[Addr.add]]at h0
  have e:=qMc h0
  refine⟨a'.block,a'.off,by rw[<-e],rd_old fun i u hu=>?_⟩
  obtain⟨a2,h1,h2⟩:=h i u hu
  cases h1
  rw[e,Sl.addr_add]at h2
  exact h2
def qGr:Tryz.prog.underlying 65=some (.slice 3):=by kernel_rfl
def qZf:Tryz.prog.underlying 3=some (.int .i64):=by kernel_rfl
def qTv:Tryz.prog.cellsOf 3=1:=by kernel_rfl
def i64_wf {z:Int}(h:(Lit.int .i64 z).wf=true): -9223372036854775808<=z/\z<=9223372036854775807:=by
 simp only[Lit.wf,ik,decide_eq_true_eq]at h;have h1:(IntKind.i64.min:Int)= -9223372036854775808:=by rfl
 have h2:(IntKind.i64.max:Int)=9223372036854775807:=by rfl
 omega
set_option maxRecDepth 100000 in
def qDi {H:Type}{enc:TypeId×Value->H}{w:World}{base b0:Nat}{r:Reach}{held:Bool}{v:Value}{d:DataW H}{ps:List MemPlace}
  (hv:Value.okWide Tryz.prog w r b0 65 v) (hd:DataW.Trod enc Tryz.prog w base (fun _=>true) held 65 v d ps):
  ∃(A:Option Addr)(zs:List Int)(C:Nat),v= .slice A zs.length C/\Rdb w A (inC zs) old/\(∀z∈zs, -9223372036854775808<=z/\z<=9223372036854775807)/\zs.length<=maxLen/\zs.length<=C:=by
 obtain⟨a,len,cap,rfl⟩:=okWide_slice qGr hv;obtain⟨fuel,hf⟩:=hd;simp only[Value.cells]at hf;rcases open_ints qGr qZf qTv hf with⟨h1,h2⟩|⟨a',len',cap',zs,h1,hb,hl,hm,hzl,hx,hcell,hwf⟩
 ·simp at h1;obtain⟨rfl,rfl,rfl⟩:=h1;exact⟨none,[],0,O,fun h=>absurd O h,by simp,au _,au _⟩
 simp at h1;obtain⟨rfl,rfl,rfl⟩:=h1;simp only[if_true]at hzl;have hlen:(zs.take len).length=len:=by simp;omega
 refine⟨some a',zs.take len,cap,by rw[hlen],rdb_of fun i v hv=>⟨a',rfl,?_⟩,fun z hz=>i64_wf (hwf z (lm hz)),by rw[hlen];omega,by rw[hlen];exact hl⟩;unfold inC at hv;rw[bu,AJ]at hv;obtain⟨z,hz,rfl⟩:=hv
 have hi:i<len:=by
  have:=(ag.1 hz).1;omega
 rw[kw,if_pos hi]at hz;rw[hcell i oO,jg,hz];rfl
def qBw {E:Env}(hE:Seat E)(hB:Base E.w0){l:List TMk}{zs1 zs2:List Int}{a a1 a2:Option Addr}{c c1 c2:Nat}(hq:Rdb E.w0 a (mkVs l) old)(hl:l.length<=maxLen)(hx:∀x∈l,x.ok)
  (hq1:Rdb E.w0 a1 (inC zs1) old) (hzb:∀z∈zs1, -9223372036854775808<=z/\z<=9223372036854775807) (hz1:zs1.length<=maxLen) (hq2:Rdb E.w0 a2 (inC zs2) old) (hz2:zs2.length<=maxLen):
  Ct E 4 [.slice a l.length c,.slice a1 zs1.length c1,.slice a2 zs2.length c2] [] (fun v Q=>v= .bool true/\Q=[]):=qVf (qAn hE hB hq (by unfold maxLen at hl;omega) hx hq1 (by unfold maxLen at hz1;omega) hzb hq2 (by unfold maxLen at hz2;omega))
end
