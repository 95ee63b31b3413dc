import Derived.Test.YtjbdlljghogodaaGreatDoorQ88
import Derived.Test.YtjbdlljghogodaaGreatDoorQClb
import Derived.Test.YtjbdlljghogodaaGreatDoorQClc
set_option linter.all false
set_option maxHeartbeats 1000000
namespace Go.Proofs.YtjbdlljghogodaaGreatDoor
open Go Go.ChangeShapes Go.WideShapes Go.ChangeAt Go.WideMaps Go.WideElems Go.RowKit Go.ChangeMaps Sl Eg
instance:Inhabited TMk:=⟨⟨0,0,0,0,0,[]⟩⟩
theorem fldT {fs:Array Field}{i o:Nat}{t:TypeId}(h:fs[i]?.map (fun f=>(f.offset,f.type))=some (o,t)):∃f,fs[i]?=some f∧f.offset=o∧f.type=t:=by
 cases e:fs[i]? with
 |none=>rw[e]at h;cases h
 |some f=>rw[e]at h;simp at h;exact⟨f,rfl,h.1,h.2⟩
theorem wS {H:Type}{enc:TypeId×Value→H}{P:Program}{w:World}{base n o:Nat}{spare:Nat→Bool}{held:Bool}{t:TypeId}{k:IntKind}{cs:List Value}{f:Field}{x:Option (DataW H×List MemPlace)}(hx:x≠none)(ho:f.offset=o)(ht:f.type=t)(hi:P.underlying t=some (.int k))(hc:P.cellsOf t=1)
  (h:DataW.trod enc P w base spare held n f.type ((cs.drop f.offset).take (P.cellsOf f.type))=x):∃z,cs[o]?=some (.int k z)∧(Lit.int k z).wf=true:=by
 cases x with
 |none=>exact absurd rfl hx
 |some x=>
  rw[ho,ht,hc]at h
  obtain⟨z,e,_,hw⟩:=DataW.trod_int hi h
  exact⟨z,qLz e,hw⟩
theorem rE {z:Int}(h:(Lit.int .i64 z).wf=true): -9223372036854775808≤z∧z≤9223372036854775807:=by
 simp only[Lit.wf,Bool.and_eq_true,decide_eq_true_eq]at h
 have h1:(IntKind.i64.min:Int)= -9223372036854775808:=by rfl
 have h2:(IntKind.i64.max:Int)=9223372036854775807:=by rfl
 omega
theorem one_strT {H:Type}{enc:TypeId×Value→H}{P:Program}{w:World}{base n o:Nat}{spare:Nat→Bool}{held:Bool}{t:TypeId}{cs:List Value}{f:Field}{x:Option (DataW H×List MemPlace)}(hx:x≠none)(ho:f.offset=o)(ht:f.type=t)(hi:P.underlying t=some .string)(hc:P.cellsOf t=1)
  (h:DataW.trod enc P w base spare held n f.type ((cs.drop f.offset).take (P.cellsOf f.type))=x):∃u:List UInt8,cs[o]?=some (.string ⟨⟨u⟩⟩):=by
 cases x with
 |none=>exact absurd rfl hx
 |some x=>
  rw[ho,ht,hc]at h
  obtain⟨⟨⟨u⟩⟩,e,_⟩:=DataW.trod_string hi h
  exact⟨u,qLz e⟩
set_option maxRecDepth 100000 in
theorem qSh {H:Type}{enc:TypeId×Value→H}{w:World}{base fuel:Nat}{spare:Nat→Bool}{held:Bool}{cs:List Value}{x:DataW H×List MemPlace}(h:DataW.trod enc Tryz.prog w base spare held fuel 90 cs=some x):∃m:TMk,cs=mkV m∧m.ok:=by
 obtain⟨xs,n,_,_,hcl,hxl,hall⟩:=DataW.trod_struct (fs:=Tryz.prog.fieldsOf 90) oK h
 have hsz:(Tryz.prog.fieldsOf 90).size=6:=by kernel_rfl
 have hc:Tryz.prog.cellsOf 90=6:=by kernel_rfl
 have ui:Tryz.prog.underlying 3=some (.int .i64):=by kernel_rfl
 have us:Tryz.prog.underlying 9=some .string:=by kernel_rfl
 have ci:Tryz.prog.cellsOf 3=1:=by kernel_rfl
 have cs':Tryz.prog.cellsOf 9=1:=by kernel_rfl
 obtain⟨f0,a0,o0,t0⟩:=fldT (fs:=Tryz.prog.fieldsOf 90) (i:=0) (o:=0) (t:=3) oK
 obtain⟨f1,a1,o1,t1⟩:=fldT (fs:=Tryz.prog.fieldsOf 90) (i:=1) (o:=1) (t:=3) oK
 obtain⟨f2,a2,o2,t2⟩:=fldT (fs:=Tryz.prog.fieldsOf 90) (i:=2) (o:=2) (t:=3) oK
 obtain⟨f3,a3,o3,t3⟩:=fldT (fs:=Tryz.prog.fieldsOf 90) (i:=3) (o:=3) (t:=3) oK
 obtain⟨f4,a4,o4,t4⟩:=fldT (fs:=Tryz.prog.fieldsOf 90) (i:=4) (o:=4) (t:=3) oK
 obtain⟨f5,a5,o5,t5⟩:=fldT (fs:=Tryz.prog.fieldsOf 90) (i:=5) (o:=5) (t:=9) oK
 rw[hsz]at hxl
 have hne:∀i,i<6→xs[i]?≠none:=fun i hi=>by rw[List.getElem?_eq_getElem oO];simp
 obtain⟨z0,e0,w0⟩:=wS (hne 0 oO) o0 t0 ui ci (hall 0 f0 a0)
 obtain⟨z1,e1,w1⟩:=wS (hne 1 oO) o1 t1 ui ci (hall 1 f1 a1)
 obtain⟨z2,e2,w2⟩:=wS (hne 2 oO) o2 t2 ui ci (hall 2 f2 a2)
 obtain⟨z3,e3,w3⟩:=wS (hne 3 oO) o3 t3 ui ci (hall 3 f3 a3)
 obtain⟨z4,e4,w4⟩:=wS (hne 4 oO) o4 t4 ui ci (hall 4 f4 a4)
 obtain⟨u,e5⟩:=one_strT (hne 5 oO) o5 t5 us cs' (hall 5 f5 a5)
 rw[hc]at hcl
 refine⟨⟨z0,z1,z2,z3,z4,u⟩,?_,⟨rE w0,rE w1,rE w2,rE w3,rE w4⟩⟩
 match cs,hcl with
 |[c0,c1,c2,c3,c4,c5],_=>
  simp at e0 e1 e2 e3 e4 e5
  subst e0 e1 e2 e3 e4 e5
  rfl
set_option maxRecDepth 100000 in
theorem qOl {H:Type}{enc:TypeId×Value→H}{w:World}{base b0:Nat}{r:Reach}{held:Bool}{v:Value}{d:DataW H}{ps:List MemPlace}
  (hv:Value.okWide Tryz.prog w r b0 22 v) (hd:DataW.Trod enc Tryz.prog w base (fun _=>true) held 22 v d ps):
  ∃(A:Option Addr)(ms:List TMk)(C:Nat),v= .slice A ms.length C∧Rdb w A (mkVs ms) old∧(∀m∈ms,m.ok)∧ms.length≤maxLen:=by
 have hc:Tryz.prog.cellsOf 90=6:=by kernel_rfl
 have hu:Tryz.prog.underlying 22=some (.slice 90):=by kernel_rfl
 obtain⟨a,len,cap,rfl⟩:=okWide_slice hu hv
 obtain⟨fuel,hf⟩:=hd
 simp only[Value.cells]at hf
 rcases Go.Deep.open_slice hu hf with⟨h1,h2⟩|⟨a',len',cap',m,n,D,Pl,h1,hb,hl,hm,hmm,hx,hcell⟩
 ·simp at h1
  obtain⟨rfl,rfl,rfl⟩:=h1
  exact⟨none,[],0,O,fun h=>absurd O h,(by simp),Nat.zero_le _⟩
 simp at h1
 obtain⟨rfl,rfl,rfl⟩:=h1
 have hml:len≤m:=by rw[hmm];split <;>omega
 obtain⟨M,hM⟩:=Go.Deep.choose_lt (n:=len) (p:=fun i(k:TMk)=>k.ok∧∀j u,(mkV k)[j]?=some u→w.cell? (a'.add (i*6+j))=some u) (fun i hi=>by
  obtain⟨cs',g1,g2⟩:=hcell i oO
  obtain⟨k,rfl,hk⟩:=qSh g2
  rw[hc]at g1
  obtain⟨_,_,g3⟩:=World.cells?_some g1
  refine⟨k,hk,fun j u hj=>?_⟩
  have hj6:j<6:=(List.getElem?_eq_some_iff.1 hj).1
  rw[←Go.Deep.add_add,g3 j hj6,hj])
 have hlen:((List.range len).map M).length=len:=by simp
 have hget:∀i,i<len→((List.range len).map M)[i]?=some (M i):=fun i hi=>by simp[hi]
 refine⟨some a',(List.range len).map M,cap,by rw[hlen],fun hne=>?_,fun t ht=>?_,by rw[hlen];omega⟩
 ·have h0:0<len:=by
   rcases Nat.eq_zero_or_pos len with h| h
   ·subst h;simp[mkVs]at hne
   exact h
  have hc0:=(hM 0 h0).2 0 _ O
  rw[show a'.add (0*6+0)=a' by simp[Addr.add]]at hc0
  have e:=qTg hc0
  refine⟨a'.block,a'.off,by rw[←e],rd_old fun i v hv=>?_⟩
  have hi:i<len*6:=by
   have:=(List.getElem?_eq_some_iff.1 hv).1
   rwa [vJ,hlen]at this
  have hk:i/6<len:=oO
  have hj:i%6<6:=oO
  have hu:(mkV (M (i/6)))[i%6]?=some ((mkV (M (i/6)))[i%6]'hj):=List.getElem?_eq_getElem hj
  have hat:=qSe (hget _ hk) _ _ hu
  have hci:=(hM _ hk).2 _ _ hu
  rw[show i/6*6+i%6=i by omega]at hat hci
  rw[hat]at hv
  rw[e,Sl.addr_add]at hci
  rw[hci,hv]
 obtain⟨i,hi,rfl⟩:=List.mem_map.1 ht
 exact(hM i (List.mem_range.1 hi)).1
theorem qQt {E:Env}{f:FuncId}{args:List Value}{u:Value}(h:Ct E f args [old] (fun v Q=>v=u∧Q=[old])):Ct E f args [] (fun v Q=>v=u∧Q=[]):=fun R w s=>(h R w (s.imp fun _ x=>ent_old _ x)).mono fun e w'⟨v,Qs,h1,⟨h2,h3⟩,h4⟩=>⟨v,[],h1,⟨h2,rfl⟩,by
 subst h3
 exact h4.imp (by show ∀k,dU [old,R] k→dU [R] k;(apply ent;(repeat constructor);done))⟩
theorem qEb {E:Env}(hE:Seat E)(hB:Base E.w0){l:List TMk}{a:Option Addr}{c:Nat}{bs:List UInt8}(hq:Rdb E.w0 a (mkVs l) old)(hl:l.length≤maxLen)(hx:∀x∈l,x.ok):
  Ct E 5 [.slice a l.length c,.string ⟨⟨bs⟩⟩] [] (fun v Q=>v= .bool true∧Q=[]):=qQt (qBx hE hB hq (by unfold maxLen at hl;omega) hx)
end Go.Proofs.YtjbdlljghogodaaGreatDoor
