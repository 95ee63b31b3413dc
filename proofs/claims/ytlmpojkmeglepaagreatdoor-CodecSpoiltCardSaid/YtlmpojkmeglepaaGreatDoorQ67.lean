import Derived.Test.YtlmpojkmeglepaaGreatDoorQ62
import Derived.Test.YtlmpojkmeglepaaGreatDoorQClc
import Derived.Deep.SlicePairs
set_option linter.all false
set_option maxHeartbeats 1000000
namespace Go.Proofs.YtlmpojkmeglepaaGreatDoor
section
open Go Go.RowKit Sl Eg
set_option maxRecDepth 10000
variable {E:Env}{Es:List Ent}{pp tb s most m bm:Nat}{f:Int→Option Value}
theorem SigOf.fn {L:List Rl}(hw:Wf L){x y y':Nat}(h:SigOf L x y)(h':SigOf L x y'):y=y':=Sg.fn hw h.2.2.2 h'.2.2.2
theorem SigL.fn {L:List Rl}(hw:Wf L){xs ys ys':List Nat}(h:SigL L xs ys)(h':SigL L xs ys')(hl:ys.length=xs.length)(hl':ys'.length=xs.length):ys=ys':=by
 apply List.ext_getElem?
 intro i
 rcases Nat.lt_or_ge i xs.length with hi|hi
 ·obtain⟨x,hx⟩:∃x,xs[i]?=some x:=⟨_,List.getElem?_eq_getElem hi⟩
  obtain⟨y,hy⟩:∃y,ys[i]?=some y:=⟨_,List.getElem?_eq_getElem oO⟩
  obtain⟨y',hy'⟩:∃y,ys'[i]?=some y:=⟨_,List.getElem?_eq_getElem oO⟩
  rw[hy,hy',(h i x y hx hy).fn hw (h' i x y' hx hy')]
 rw[List.getElem?_eq_none oO,List.getElem?_eq_none oO]
theorem SigL.bound {L:List Rl}{xs ys:List Nat}(h:SigL L xs ys)(hl:ys.length=xs.length):∀y∈ys,y≤L.length:=fun y hy=>by
 obtain⟨i,hi⟩:=List.getElem?_of_mem hy
 have hil:=(List.getElem?_eq_some_iff.1 hi).1
 obtain⟨x,hx⟩:∃x,xs[i]?=some x:=⟨_,List.getElem?_eq_getElem oO⟩
 exact(h i x y hx hi).2.2.1.1
def TxOk (Es:List Ent)(l:List (List UInt8×Int)):Prop:=∀p∈l,∃id:Nat,p.2=(id:Int)∧id≤Es.length∧len (rls Es) id≤60
theorem TxOk.short {l:List (List UInt8×Int)}(h:TxOk Es l):∀p∈l,0≤p.2→p.2≤(Es.length:Nat)→Eg.len (rls Es) p.2.toNat≤256:=fun p hp _ _=>by
 obtain⟨id,h1,h2,h3⟩:=h p hp
 rw[h1,Int.toNat_natCast]
 omega
theorem TxOk.inr {l:List (List UInt8×Int)}(h:TxOk Es l):InR Es.length l:=fun p hp=>by
 obtain⟨id,h1,h2,h3⟩:=h p hp
 rw[h1]
 omega
theorem qDh {l:List Im}{ids:List Nat}(h:ids.length=l.length):(mkN l ids).length=l.length:=by simp[mkN,h]
theorem qSq {l:List Im}{ids:List Nat}{i id:Nat}{x:Im}(hx:l[i]?=some x)(hi:ids[i]?=some id):(mkN l ids)[i]?=some (x.name,(id:Int)):=by
 unfold mkN
 rw[List.getElem?_map]
 have:(l.zip ids)[i]?=some (x,id):=by rw[List.getElem?_zip_eq_some];exact⟨hx,hi⟩
 rw[this]
 rfl
theorem qFk {l:List Im}{ids:List Nat}{i:Nat}{p:List UInt8×Int}(h:(mkN l ids)[i]?=some p):∃x id,l[i]?=some x∧ids[i]?=some id∧p=(x.name,(id:Int)):=by
 unfold mkN at h
 rw[List.getElem?_map]at h
 cases e:(l.zip ids)[i]? with
 |none=>rw[e]at h;cases h
 |some q=>
  rw[e]at h
  obtain⟨x,id⟩:=q
  rw[List.getElem?_zip_eq_some]at e
  simp at h
  exact⟨x,id,e.1,e.2,h.symm⟩
theorem raw_mkN {l:List Im}{ids:List Nat}(h:ids.length=l.length):rawN (mkN l ids)=ids:=by
 apply List.ext_getElem?
 intro i
 unfold rawN
 rw[List.getElem?_map]
 rcases Nat.lt_or_ge i l.length with hi|hi
 ·obtain⟨x,hx⟩:∃x,l[i]?=some x:=⟨_,List.getElem?_eq_getElem hi⟩
  obtain⟨y,hy⟩:∃y,ids[i]?=some y:=⟨_,List.getElem?_eq_getElem oO⟩
  rw[qSq hx hy,hy]
  rfl
 rw[List.getElem?_eq_none (by rw[qDh h];exact hi),List.getElem?_eq_none oO]
 rfl
theorem mkN_txok {l:List Im}{ids:List Nat}(hg:GoodI l)(ht:Txs (rls Es) l ids):TxOk Es (mkN l ids):=fun p hp=>by
 obtain⟨i,hi⟩:=List.getElem?_of_mem hp
 obtain⟨x,id,hx,hid,rfl⟩:=qFk hi
 have h:=ht i x id hx hid
 rw[bQ]at h
 exact⟨id,O,h.1,by unfold len;rw[h.2];exact(hg.1 x (List.mem_of_getElem? hx)).2⟩
theorem qSs {l:List Im}{ids:List Nat}(hg:GoodI l):Names (mkN l ids)∧Ordered (mkN l ids) l.length:=by
 refine⟨fun p hp=>?_,fun i p q hi hp hq=>?_⟩
 ·obtain⟨i,hi⟩:=List.getElem?_of_mem hp
  obtain⟨x,id,hx,hid,rfl⟩:=qFk hi
  exact(hg.1 x (List.mem_of_getElem? hx)).1
 obtain⟨x,id,hx,hid,rfl⟩:=qFk hp
 obtain⟨y,id',hy,hid',rfl⟩:=qFk hq
 exact hg.2.1 i x y hi hx hy
theorem sgo_of {l:List (List UInt8×Int)}(h1:Names l)(h2:Ordered l l.length)(h3:TxOk Es l):SgO Es.length l:=⟨h1,h2,h3.inr⟩
end
section
open Go Go.ChangeShapes Go.WideShapes Go.ChangeAt Go.WideMaps Go.WideElems Go.RowKit Go.ChangeMaps Sl Eg
theorem byte_nat {z:Int}(h:(Lit.int .u8 z).wf=true):∃n:Nat,z=(n:Int)∧n<256:=by
 have hh:0≤z∧z<256:=by
  simp only[Lit.wf,Bool.and_eq_true,decide_eq_true_eq]at h
  have h1:(IntKind.u8.min:Int)=0:=by rfl
  have h2:(IntKind.u8.max:Int)=255:=by rfl
  omega
 exact⟨z.toNat,oO,oO⟩
instance:Inhabited Im:=⟨⟨[],none,[],0⟩⟩
theorem byC_neq {bs:List UInt8}(h:byC bs≠[]):bs≠[]:=fun e=>h (by subst e;rfl)
set_option maxRecDepth 100000 in
theorem qPo {H:Type}{enc:TypeId×Value→H}{w:World}{base b0:Nat}{r:Reach}{held:Bool}{v:Value}{d:DataW H}{ps:List MemPlace}
  (hv:Value.okWide Tryz.prog w r b0 60 v) (hd:DataW.Trod enc Tryz.prog w base (fun _=>true) held 60 v d ps):
  ∃(A:Option Addr)(l:List Im)(C:Nat),v= .slice A l.length C∧Rdb w A (imC l) old∧(∀x∈l,Rdb w x.a (byC x.bs) old)∧l.length≤maxLen:=by
 have hu:Tryz.prog.underlying 60=some (.slice 112):=by kernel_rfl
 obtain⟨a,len,cap,rfl⟩:=okWide_slice hu hv
 obtain⟨fuel,hf⟩:=hd
 simp only[Value.cells]at hf
 rcases Go.Deep.open_slice_pairs hu Tryz.underlying112 oK rfl rfl oK oK hf with⟨h1,h2⟩|⟨a',len',cap',m,n,V0,V1,D0,D1,P0,P1,h1,hb,hl,hm,hmm,hx,hcell⟩
 ·simp at h1
  obtain⟨rfl,rfl,rfl⟩:=h1
  exact⟨none,[],0,O,fun h=>absurd O h,(by simp),Nat.zero_le _⟩
 simp at h1
 obtain⟨rfl,rfl,rfl⟩:=h1
 have hml:len≤m:=by rw[hmm];split <;>omega
 obtain⟨M,hM⟩:=Go.Deep.choose_lt (n:=len) (p:=fun i(x:Im)=>V0 i= .string ⟨⟨x.name⟩⟩∧V1 i= .slice x.a x.bs.length x.c∧Rdb w x.a (byC x.bs) old) (fun i hi=>by
  obtain⟨c0,c1,t0,t1⟩:=hcell i oO
  obtain⟨⟨⟨nm⟩⟩,e0,_,_⟩:=DataW.trod_string oK t0
  simp at e0
  rcases open_ints qLj qQb qOe t1 with⟨g1,g2⟩|⟨a2,l2,c2,zs,g1,gb,gl,gm,gzl,gx,gcell,gwf⟩
  ·simp at g1
   exact⟨⟨nm,none,[],0⟩,e0,g1,fun h=>absurd O h⟩
  simp at g1
  simp only[if_true]at gzl
  have hlen:((zs.take l2).map qGy).length=l2:=by simp;omega
  refine⟨⟨nm,some a2,(zs.take l2).map qGy,c2⟩,e0,by rw[g1];simp only[hlen],fun hne=>?_⟩
  exact(old_of oO gwf (fun _=>⟨a2,O,gcell⟩)).rd (byC_neq hne))
 have hlen:((List.range len).map M).length=len:=by simp
 have hget:∀i,i<len→((List.range len).map M)[i]?=some (M i):=fun i hi=>by simp[hi]
 refine⟨some a',(List.range len).map M,cap,by rw[hlen],fun hne=>?_,fun t ht=>?_,by rw[hlen];omega⟩
 ·have h0:0<len:=by
   rcases Nat.eq_zero_or_pos len with h| h
   ·subst h;simp[imC]at hne
   exact h
  have hc0:=(hcell 0 oO).1
  rw[show a'.add (0*2)=a' by simp[Addr.add]]at hc0
  have e:=qJe hc0
  refine⟨a'.block,a'.off,by rw[←e],rd_old fun i v hv=>?_⟩
  have hi:i<len*2:=by
   have:=(List.getElem?_eq_some_iff.1 hv).1
   rwa [xQ,hlen]at this
  have hk:i/2<len:=oO
  obtain⟨k0,k1⟩:=qAx (hget _ hk)
  obtain⟨c0,c1,_,_⟩:=hcell (i/2) oO
  obtain⟨m0,m1,_⟩:=hM _ hk
  rw[e,Sl.addr_add]at c0 c1
  rcases Nat.mod_two_eq_zero_or_one i with hp|hp
  ·rw[show i/2*2=i by omega]at k0 c0
   rw[k0]at hv
   rw[c0,m0,hv]
  rw[show i/2*2+1=i by omega]at k1 c1
  rw[k1]at hv
  rw[c1,m1,hv]
 obtain⟨i,hi,rfl⟩:=List.mem_map.1 ht
 exact(hM i (List.mem_range.1 hi)).2.2
theorem qRj {E:Env}{f:FuncId}{args:List Value}{u:Value}(h:Ct E f args [old] (fun v Q=>v=u∧Q=[old])):Ct E f args [] (fun v Q=>v=u∧Q=[]):=fun R w s=>(h R w (s.imp fun _ x=>ent_old _ x)).mono fun e w'⟨v,Qs,h1,⟨h2,h3⟩,h4⟩=>⟨v,[],h1,⟨h2,rfl⟩,by
 subst h3
 exact h4.imp (by show ∀k,eG [old,R] k→eG [R] k;(apply ent;(repeat constructor);done))⟩
end
end Go.Proofs.YtlmpojkmeglepaaGreatDoor
