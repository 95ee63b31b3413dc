import Derived.Test.YtblljbllmnbiaaaGreatDoorQ79
import Derived.Test.YtblljbllmnbiaaaGreatDoorQ83
set_option linter.all false
set_option maxHeartbeats 1000000
namespace Go.Proofs.YtblljbllmnbiaaaGreatDoor
open Go Go.RowKit Sl Eg
set_option maxRecDepth 10000
variable {E:Env}{Es:List Ent}{s most:Nat}
theorem qId (hE:Seat E){x:Nat}(hx:x≤Es.length)(hs:Es.length≤1048576):Ct E 73 [uPt s,.int .i64 (x:Nat)] [bR s most Es] (fun v Q=>v= .bool true∧Q=[bR s most Es]):=by
 refine bO (hE.fn Tryz.func73) O O O (fun R=>?_)
 simp only[dR,uV,uW]
 refine gg15 ?_
 refine uX (qIj hE) O ?_
 rintro _ _⟨rfl,rfl⟩
 simp only[uV,uW]
 refine gg7 ?_
 exact uZ O (.tmp O .nil) ⟨congrArg Value.bool (decide_eq_true oO),O⟩
theorem qNo (hE:Seat E){b6 b7 bm z c:Nat}{p:Option Addr}{S:List Nat}(hz:1≤z)(hS:S.length≤1048576):
  Ct E 72 [.int .i64 (z:Nat),uPt b7,uPt b6] [cells b7 [.map (some bm)] 152,cells b6 [.slice p S.length c] 51,mapF bm .i64 (tQ (0::S)),sl p c 24 1 S.length (idC S)]
   (fun v Q=>v= .tuple #[]∧∃p' c',Q=[cells b7 [.map (some bm)] 152,cells b6 [.slice p' (if z∈S then S else S++[z]).length c'] 51,mapF bm .i64 (tQ (0::(if z∈S then S else S++[z]))),sl p' c' 24 1 (if z∈S then S else S++[z]).length (idC (if z∈S then S else S++[z]))]):=by
 have hm1:E.P.underlying 152=some (.map 24 4):=by rw[hE.P];kernel_rfl
 have hm2:E.P.underlying 24=some (.int .i64):=by rw[hE.P];kernel_rfl
 have hm3:∀w,(zeroValue 4).run E.P w= .ok (.bool false) w:=fun w=>by rw[hE.P];kernel_rfl
 refine bO (hE.fn Tryz.func72) O O O (fun R=>?_)
 simp only[dR,uV,uW]
 refine gg4 ?_
 by_cases hin:z∈S
 ·rw[if_pos hin]
  refine uB (sF hm1 hm2 hm3 O O uK (qOu (List.mem_cons_of_mem _ hin))) ?_
  refine gg5 ?_
  exact uZe O .nil ⟨O,p,c,O⟩
 rw[if_neg hin]
 have hout:z∉0::S:=fun h=>by
  rcases List.mem_cons.1 h with h| h
  ·omega
  exact hin h
 refine uB (sF hm1 hm2 hm3 O O uK (qVs hout)) ?_
 refine gg8 ?_
 refine uU ?_
 apply pF (kt:=24) (et:=4) (by rw[hE.P];kernel_rfl) (by rw[hE.P];kernel_rfl) O O O
 ·exact uK
 refine gg2 ?_
 rw[qJz]
 refine gg3 ?_
 refine uU ?_
 refine aU (hE.t O) (hE.t O) O O O (fun b12=>?_)
 refine uU ?_
 apply bU (hE.t O) (hE.t O) O O O
 ·exact uK
 ·exact uK
 ·rfl
 ·rfl
 ·omega
 ·omega
 ·(unfold maxLen;omega)
 intro g13 c13 n13 x13 hn13 hx13
 refine gg2 ?_
 obtain rfl:n13=(S++[z]).length:=by rw[List.length_append,List.length_singleton];omega
 obtain rfl:x13=idC (S++[z]):=by rw[hx13,iU];rfl
 exact uZe O .nil ⟨O,some ⟨g13,0,none⟩,c13,O⟩
theorem seen0:setF (fun _:Int=>(none:Option Value)) 0 (.bool true)=tQ (0::[]):=by
 have h:(fun _:Int=>(none:Option Value))=tQ []:=by funext x;simp[tQ]
 rw[h]
 exact qJz [] 0
structure RhG where
 i:Nat
 j:Nat
 S:List Nat
 p:Option Addr
 c:Nat
theorem ct_Reach (hE:Seat E){id g:Nat}(h1:1≤id)(h2:id≤Es.length)(hn:Es.length<65536):
  Ct E 41 [uPt s,.slice (some ⟨g,0,none⟩) 1 1] [bR s most Es,cells g [.int .i64 (id:Nat)] 24]
   (fun v Q=>∃p c V,v= .tuple #[.slice (some ⟨p,0,none⟩) V.length c,.nilIface]∧V.Nodup∧V.Pairwise (· ≤ ·)∧(∀x,x∈V↔Rea (rls Es) id x)∧Q=[bR s most Es,sl (some ⟨p,0,none⟩) c 24 1 V.length (idC V)]):=by
 refine eO (p:=bR s most Es) uK (fun _ h=>dO h) (fun hsay=>?_)
 have hw:=hsay.1
 have hLl:=bQ Es
 have hgo:goFn E.P 72=true:=hE.f oK
 refine bO (hE.fn Tryz.func41) O O O (fun R=>?_)
 simp only[dR,uV,uW]
 refine gg18 ?_
 refine uU (cZ (hE.t O) (fun b6=>?_))
 refine gg4 ?_
 refine uU ?_
 refine rJ .i64 (fun b19=>?_)
 refine uU ?_
 apply qJc (kt:=24) (et:=4) (by rw[hE.P];kernel_rfl) (by rw[hE.P];kernel_rfl) O O O
 ·exact uK
 refine gg1 ?_
 refine uU (cZ (hE.t O) (fun b7=>?_))
 refine gg18 ?_
 rw[seen0]
 have f0:[Value.int .i64 (id:Nat)][0]?=some (.int .i64 (id:Nat)):=rfl
 refine gU 2 ?_
 refine gg24 ?_
 refine uX (qId (x:=id) hE h2 oO) O ?_
 rintro _ _⟨rfl,rfl⟩
 simp only[uV,uW]
 refine gg9 ?_
 refine tX (gL (t:=24) (sz:=1)) ?_
 refine uU ?_
 apply fO (hx:=O) (ha:=O) (hf:=hgo)
 ·exact qNo (b6:=b6) (b7:=b7) (bm:=b19) (z:=id) (p:=none) (c:=0) (S:=[]) hE h1 (Nat.zero_le _)
 ·exact uK
 rintro _ _⟨rfl,p0,c0,rfl⟩
 rw[if_neg (List.not_mem_nil),List.nil_append]
 simp only[uV,uW]
 refine gg28 ?_
 refine dV (fun x:RhG=>[(0,uPt s),(6,uPt b6),(8,.func (.func 72) #[] ⟨[uPt b7,uPt b6]⟩),(11,.int .i64 (x.i:Nat))]) (fun x=>[bR s most Es,cells b7 [.map (some b19)] 152,cells b6 [.slice x.p x.S.length x.c] 51,mapF b19 .i64 (tQ (0::x.S)),sl x.p x.c 24 1 x.S.length (idC x.S),R]) (fun x=>Es.length-x.i) (fun x=>RchI (rls Es) id x.i x.S) ⟨0,0,[id],p0,c0⟩ (RchI.start h1 oO) ⟨O,O,O,O,trivial⟩ uI ?_
 rintro⟨i,_,S,p,c⟩hI
 simp only at hI ⊢
 have hSl:=hI.len
 have hib:=hI.ib
 refine gg9 ?_
 refine bE O (fun e2=>?_) (fun e2=>?_)
 ·have hil:i<S.length:=oO
  obtain⟨x,hx⟩:∃x,S[i]?=some x:=⟨_,List.getElem?_eq_getElem hil⟩
  have hxb:=(hI.rch x (List.mem_of_getElem? hx)).le
  obtain⟨n,rfl⟩:∃n,x=n+1:=⟨x-1,oO⟩
  obtain⟨y,hy⟩:∃y,Es[n]?=some y:=⟨_,List.getElem?_eq_getElem oO⟩
  have hyr:(rls Es)[n+1-1]?=some y.r:=by rw[Nat.add_sub_cancel];exact vM hy
  have hkn:(kids y.r).length≤2:=by cases y.r<;>simp[kids]
  refine jY (p:=sl p c 24 1 S.length (idC S)) uK (fun _ h=>fA h oO) ?_
  rintro⟨gp,rfl⟩
  have f1:=kJ hx (((i:Nat):Int).toNat) oO
  have f2:=kJ hx (0+((i:Nat):Int).toNat) oO
  refine gg11 ?_
  refine uX (qB hE hy) O ?_
  rintro _ _⟨rfl,rfl⟩
  simp only[uV,uW]
  refine gg3 ?_
  refine uU (cZ (hE.t O) (fun b12=>?_))
  refine gg17 ?_
  refine uX (ct_rRefs hE y.r) O ?_
  rintro _ _⟨pk,ck,rfl,rfl⟩
  simp only[uV,uW]
  refine gg5 ?_
  refine jY (p:=sl pk ck 24 1 (kids y.r).length (idC (kids y.r))) uK (fun _ h=>fun hpos=>fA h hpos) ?_
  intro hpk
  clear f1 f2 hil hSl hib e2
  refine dV (fun x:RhG=>[(0,uPt s),(6,uPt b6),(8,.func (.func 72) #[] ⟨[uPt b7,uPt b6]⟩),(11,.int .i64 (i:Nat)),(56,.slice pk (kids y.r).length ck),(57,.int .i64 ((kids y.r).length:Nat)),(58,.int .i64 (x.j:Nat))]) (fun x=>[bR s most Es,cells b7 [.map (some b19)] 152,cells b6 [.slice x.p x.S.length x.c] 51,mapF b19 .i64 (tQ (0::x.S)),sl x.p x.c 24 1 x.S.length (idC x.S),sl pk ck 24 1 (kids y.r).length (idC (kids y.r)),R]) (fun x=>(kids y.r).length-x.j)
   (fun x=>x.j≤(kids y.r).length∧RchI (rls Es) id i x.S∧x.S[i]?=some (n+1)∧∀t k,t<x.j→(kids y.r)[t]?=some k→k∈x.S) ⟨0,0,S,some ⟨gp,0,none⟩,c⟩ ⟨Nat.zero_le _,hI,hx,fun t k h=>absurd h (Nat.not_lt_zero _)⟩ ⟨rfl,rfl,rfl,rfl,rfl,rfl,rfl,trivial⟩ uI ?_
  clear hI hx
  rintro⟨_,j,S,p,c⟩⟨hj,hI,hx,hall⟩
  simp only at hj hI hx hall ⊢
  have hSl:=hI.len
  refine gg6 ?_
  refine bE O (fun e3=>?_) (fun e3=>?_)
  ·have hjl:j<(kids y.r).length:=oO
   obtain⟨gk,rfl⟩:=hpk oO
   obtain⟨z,hz⟩:∃z,(kids y.r)[j]?=some z:=⟨_,List.getElem?_eq_getElem hjl⟩
   have hzk:=List.mem_of_getElem? hz
   have hz1:=(rG (hw.ok _ _ hyr) z hzk).1
   have f1:=kJ hz (((j:Nat):Int).toNat) oO
   refine gg14 ?_
   refine uU ?_
   apply fO (hx:=O) (ha:=O) (hf:=hgo)
   ·exact qNo (b6:=b6) (b7:=b7) (bm:=b19) (z:=z) (p:=p) (c:=c) (S:=S) hE hz1 oO
   ·exact uK
   rintro _ _⟨rfl,p1,c1,rfl⟩
   simp only[uV,uW]
   by_cases hin:z∈S
   ·rw[if_pos hin]
    refine gg7 ?_
    refine bS (ι:=RhG) (j:=⟨0,j+1,S,p1,c1⟩) ⟨by simp only;omega,hI,hx,fun t k ht hk=>?_⟩ (by simp only;omega) ⟨rfl,rfl,rfl,rfl,rfl,rfl,congrArg some (bW (by simp only;omega)),trivial⟩ uI
    rcases Nat.lt_or_ge t j with h| h
    ·exact hall t k h hk
    obtain rfl:t=j:=by simp only at ht;omega
    rw[hz]at hk
    cases hk
    exact hin
   rw[if_neg hin]
   have hI2:=hI.more hw (List.mem_of_getElem? hx) hyr hzk hin
   refine gg7 ?_
   refine bS (ι:=RhG) (j:=⟨0,j+1,S++[z],p1,c1⟩) ⟨by simp only;omega,hI2,by simp only;rw[List.getElem?_append_left (List.getElem?_eq_some_iff.1 hx).1];exact hx,fun t k ht hk=>?_⟩ (by simp only;omega) ⟨rfl,rfl,rfl,rfl,rfl,rfl,congrArg some (bW (by simp only;omega)),trivial⟩ uI
   rcases Nat.lt_or_ge t j with h| h
   ·exact List.mem_append_left _ (hall t k h hk)
   obtain rfl:t=j:=by simp only at ht;omega
   rw[hz]at hk
   cases hk
   simp
  have hii:=(List.getElem?_eq_some_iff.1 hx).1
  refine gg11 ?_
  refine bS (ι:=RhG) (j:=⟨i+1,0,S,p,c⟩) (hI.next hx hyr fun k hk=>by
   obtain⟨t,ht⟩:=List.getElem?_of_mem hk
   exact hall t k (by have:=(List.getElem?_eq_some_iff.1 ht).1;omega) ht) (by have:=(List.getElem?_eq_some_iff.1 hx).1;simp only;omega) ⟨rfl,rfl,rfl,congrArg some (bW (by simp only;omega)),trivial⟩ uI
 obtain rfl:i=S.length:=by omega
 have hS0:0<S.length:=(List.getElem?_eq_some_iff.1 hI.hd).1
 refine jY (p:=sl p c 24 1 S.length (idC S)) uK (fun _ h=>fA h hS0) ?_
 rintro⟨gp,rfl⟩
 refine gg8 ?_
 refine uX (qQl (l:=S) hE oO) O ?_
 rintro _ _⟨V,rfl,hVl,hVp,hVs,rfl⟩
 rw[←hVl]
 simp only[uV,uW]
 refine gg10 ?_
 exact uZ O (.tmp O (.tmp O .nil)) ⟨gp,c,V,O,hVp.nodup_iff.2 hI.nd,hVs,fun x=>hVp.mem_iff.trans (hI.all x),O⟩
end Go.Proofs.YtblljbllmnbiaaaGreatDoor
