import Derived.Test.YtblljbllmnbiaaaGreatDoorQ75
import Derived.Test.YtblljbllmnbiaaaGreatDoorQ78
set_option linter.all false
set_option maxHeartbeats 1000000
namespace Go.Proofs.YtblljbllmnbiaaaGreatDoor
open Go Go.RowKit Sl Eg
set_option maxRecDepth 10000
section
variable {E:Env}{Es:List Ent}{s most:Nat}
def pX (w0:World)(s most:Nat)(Es:List Ent)(g c:Nat):HP:=fun h=>bR s most Es h∧RdAt w0 s 1 [.slice (some ⟨g,0,none⟩) Es.length c] h∧RdAt w0 g 0 (xC Es) h
theorem qCs {p:HP}{h:PH}(x:p h):dS [p] h:=⟨h,fun _=>none,fun _=> .inr rfl,by funext b;simp[join],x,trivial⟩
theorem qKp {w0:World}(h0:0<Es.length){h:PH}(hs:bR s most Es h):∃i:Nat×Nat,dS [pX w0 s most Es i.1 i.2] h:=by
 obtain⟨w,lv,bm,hS,hk⟩:=hs
 rcases hS.row.2 with⟨_,hn⟩|⟨g,cap,cur,rfl,hb,hg,hc,hm,hsz,htk⟩
 ·omega
 refine⟨(g,cap),qCs ⟨⟨w,_,bm,hS,hk⟩,fun i v hv=>?_,fun i v hv=>?_⟩⟩
 ·have hi:=(List.getElem?_eq_some_iff.1 hv).1
  have hi0:i=0:=by simp at hi;omega
  subst hi0
  cases hv
  have ht:=hS.top
  unfold Blk at ht
  exact .inr ⟨_,_,_,(hk s (.inl O)).trans ht,O⟩
 refine .inr ⟨cur,_,_,(hk g (.inr (.inr O))).trans hg,?_⟩
 rw[←htk,List.getElem?_take]at hv
 split at hv
 ·rw[Nat.zero_add];simpa using hv
 cases hv
theorem qEu {i:Nat}{x:Ent}(h:Es[i]?=some x)(p:Nat)(hp:p=i*13):∀(j:Nat)(u:Value),[.int .i64 (Rl.kind (x.r):Nat),.int .u8 (Rl.byte (x.r):Nat),.int .i64 (Rl.left (x.r):Nat),.int .i64 (Rl.right (x.r):Nat),.int .i64 (Rl.times (x.r):Nat)][j]?=some u→(xC Es)[p+j]?=some u:=fun j u hu=>by
 subst hp
 have hj:=(List.getElem?_eq_some_iff.1 hu).1
 simp only[List.length_cons,List.length_nil]at hj
 rw[qKe h j oO]
 have e:x.cells=[.int .i64 (Rl.kind (x.r):Nat),.int .u8 (Rl.byte (x.r):Nat),.int .i64 (Rl.left (x.r):Nat),.int .i64 (Rl.right (x.r):Nat),.int .i64 (Rl.times (x.r):Nat)]++x.cells.drop 5:=by simp[Ent.cells]
 rw[e,List.getElem?_append_left (by simpa using hj)]
 exact hu
def pV (S:List Nat):Int→Option Value:=fun x=>if S.any (fun n=>x==(n:Int))then some (.bool true)else none
theorem qHc {S:List Nat}{x:Nat}(h:x∈S):pV S (x:Nat)=some (.bool true):=by
 unfold pV
 rw[if_pos (List.any_eq_true.2 ⟨x,h,by simp⟩)]
theorem qKi {S:List Nat}{x:Nat}(h:x∉S):pV S (x:Nat)=none:=by
 unfold pV
 rw[if_neg]
 intro e
 obtain⟨n,hn,e⟩:=List.any_eq_true.1 e
 have:(x:Int)=n:=by simpa using e
 obtain rfl:x=n:=by omega
 exact h hn
theorem xF (S:List Nat)(x:Nat):setF (pV S) (x:Nat) (.bool true)=pV (S++[x]):=by
 funext y
 unfold setF pV
 rw[List.any_append]
 by_cases h:y=(x:Int)
 ·subst h;simp
 rw[if_neg h]
 simp[h]
structure RchI (L:List Rl)(id i:Nat)(S:List Nat):Prop where
 ib:i≤S.length
 hd:S[0]?=some id
 nd:S.Nodup
 rch:∀x∈S,Rea L id x
 done:∀(t x:Nat)(r:Rl),t<i→S[t]?=some x→L[x-1]?=some r→∀k∈kids r,k∈S
theorem Rea.le {L:List Rl}{k x:Nat}(h:Rea L k x):1≤x∧x≤L.length:=by
 induction h with
 |self h=>exact⟨oO,h⟩
 |kid _ _ _ ih=>exact ih
theorem Rea.step {L:List Rl}{k n z:Nat}{r:Rl}(h:Rea L k (n+1))(hr:L[n]?=some r)(hz:z∈kids r)(hw:Wf L):Rea L k z:=by
 have hzk:=pF (hw.ok n r hr) z hz
 have hn:=(List.getElem?_eq_some_iff.1 hr).1
 obtain⟨m,rfl⟩:∃m,z=m+1:=⟨z-1,oO⟩
 generalize hx:n+1=x at h
 induction h with
 | @self a ha=>
  obtain rfl:n=a:=by omega
  exact .kid hr hz (.self oO)
 |kid h1 h2 _ ih=>exact .kid h1 h2 (ih hx)
theorem RchI.start {L:List Rl}{id:Nat}(h1:1≤id)(h2:id≤L.length):RchI L id 0 [id]:=by
 obtain⟨n,rfl⟩:∃n,id=n+1:=⟨id-1,oO⟩
 exact⟨Nat.zero_le _,O,by simp,fun x hx=>by rw[List.mem_singleton.1 hx];exact .self h2,fun t x r h=>by omega⟩
theorem RchI.more {L:List Rl}(hw:Wf L){id i:Nat}{S:List Nat}(h:RchI L id i S){x z:Nat}{r:Rl}(hx:x∈S)(hr:L[x-1]?=some r)(hz:z∈kids r)(hn:z∉S):RchI L id i (S++[z]):=by
 have hxb:=(h.rch x hx).le
 refine⟨by have:=h.ib;rw[List.length_append];omega,by rw[List.getElem?_append_left (List.getElem?_eq_some_iff.1 h.hd).1];exact h.hd,List.nodup_append.2 ⟨h.nd,by simp,fun a ha b hb=>by rw[List.mem_singleton.1 hb];exact fun e=>hn (e▸ha)⟩,fun y hy=>?_,fun t y q ht hy hq k hk=>?_⟩
 ·rcases List.mem_append.1 hy with hy|hy
  ·exact h.rch y hy
  rw[List.mem_singleton.1 hy]
  obtain⟨n,rfl⟩:∃n,x=n+1:=⟨x-1,oO⟩
  exact(h.rch _ hx).step hr hz hw
 rw[List.getElem?_append_left (by have:=h.ib;omega)]at hy
 exact List.mem_append_left _ (h.done t y q ht hy hq k hk)
theorem RchI.next {L:List Rl}{id i:Nat}{S:List Nat}(h:RchI L id i S){x:Nat}{r:Rl}(hx:S[i]?=some x)(hr:L[x-1]?=some r)(hk:∀k∈kids r,k∈S):RchI L id (i+1) S:=
 ⟨(List.getElem?_eq_some_iff.1 hx).1,h.hd,h.nd,h.rch,fun t y q ht hy hq k hkk=>by
   rcases Nat.lt_or_ge t i with hl|hl
   ·exact h.done t y q hl hy hq k hkk
   obtain rfl:t=i:=by omega
   rw[hx]at hy
   cases hy
   rw[hr]at hq
   cases hq
   exact hk k hkk⟩
theorem RchI.all {L:List Rl}{id:Nat}{S:List Nat}(h:RchI L id S.length S)(x:Nat):x∈S↔Rea L id x:=by
 refine⟨h.rch x,fun hr=>?_⟩
 have hid:id∈S:=List.mem_of_getElem? h.hd
 refine hr.inside (fun n r hn hl k hk=>?_) hid
 obtain⟨t,ht⟩:=List.getElem?_of_mem hn
 exact h.done t _ r (List.getElem?_eq_some_iff.1 ht).1 ht (by simpa using hl) k hk
theorem RchI.len {L:List Rl}{id i:Nat}{S:List Nat}(h:RchI L id i S):S.length≤L.length:=
 AccOk.len ⟨h.nd,fun x hx=>(h.rch x hx).le⟩
end
section
variable {E:Env}{Es:List Ent}{s most:Nat}
structure RcG where
 i:Nat
 j:Nat
 S:List Nat
 p:Nat
 c:Nat
theorem ct_reach (hE:Seat E){id:Nat}(h1:1≤id)(h2:id≤Es.length)(hn:Es.length<65536):Ct E 69 [uPt s,.int .i64 (id:Nat)] [bR s most Es]
  (fun v Q=>∃p c V,v= .slice (some ⟨p,0,none⟩) V.length c∧V.Nodup∧V.Pairwise (· ≤ ·)∧(∀x,x∈V↔Rea (rls Es) id x)∧Q=[bR s most Es,sl (some ⟨p,0,none⟩) c 24 1 V.length (idC V)]):=by
 refine fG (p:=bR s most Es) uK (fun _ h=>dU h) (fun hsay=>?_)
 have hw:=hsay.1
 have hLl:=bQ Es
 refine Sl.ct_open (p:=bR s most Es) (ps:=fun i:Nat×Nat=>[pX E.w0 s most Es i.1 i.2]) (fun k hk=>qKp (w0:=E.w0) oO hk) ?_
 rintro⟨g,c0⟩
 have hq1:∀k,pX E.w0 s most Es g c0 k→RdAt E.w0 s 1 [.slice (some ⟨g,0,none⟩) Es.length c0] k:=fun k h=>h.2.1
 have hq2:∀k,pX E.w0 s most Es g c0 k→RdAt E.w0 g 0 (xC Es) k:=fun k h=>h.2.2
 have hm1:E.P.underlying 152=some (.map 24 4):=by rw[hE.P];kernel_rfl
 have hm2:E.P.underlying 24=some (.int .i64):=by rw[hE.P];kernel_rfl
 have hm3:∀w,(zeroValue 4).run E.P w= .ok (.bool false) w:=fun w=>by rw[hE.P];kernel_rfl
 have h0F:(fun _:Int=>(none:Option Value))=pV []:=by funext x;simp[pV]
 refine bO (hE.fn Tryz.func69) O O O (fun R=>?_)
 simp only[dV,uV,uW]
 refine gg12 ?_
 refine bE O (fun e1=>?_) (fun e1=>?_)
 ·exfalso;omega
 refine gg5 ?_
 refine uU ?_
 refine aU (hE.t O) (hE.t O) O O O (fun b13=>?_)
 refine gg5 ?_
 refine uU ?_
 refine pJ .i64 (fun b14=>?_)
 refine gg1 ?_
 refine uU ?_
 apply qBy (kt:=24) (et:=4) (by rw[hE.P];kernel_rfl) (by rw[hE.P];kernel_rfl) O O O
 ·exact uK
 refine gg11 ?_
 rw[h0F,xF]
 refine jI (cK (p:=cells b13 [.int .i64 (id:Nat)] 24) (p':=sl (some ⟨b13,0,none⟩) 1 24 1 1 (idC [id])) uK (gK O (by unfold maxLen;omega))) ?_
 refine dX (fun x:RcG=>[(0,uPt s),(5,.slice (some ⟨x.p,0,none⟩) x.S.length x.c),(6,.map (some b14)),(7,.int .i64 (x.i:Nat))]) (fun x=>[pX E.w0 s most Es g c0,mapF b14 .i64 (pV x.S),sl (some ⟨x.p,0,none⟩) x.c 24 1 x.S.length (idC x.S),R]) (fun x=>Es.length-x.i) (fun x=>RchI (rls Es) id x.i x.S) ⟨0,0,[id],b13,1⟩ (RchI.start h1 oO) ⟨O,O,O,O,trivial⟩ uI ?_
 rintro⟨i,_,S,p,c⟩hI
 simp only at hI ⊢
 have hSl:=hI.len
 have hib:=hI.ib
 refine gg9 ?_
 refine bE O (fun e2=>?_) (fun e2=>?_)
 ·have hil:i<S.length:=oO
  obtain⟨x,hx⟩:∃x,S[i]?=some x:=⟨_,List.getElem?_eq_getElem hil⟩
  have hxb:=(hI.rch x (List.mem_of_getElem? hx)).le
  obtain⟨y,hy⟩:∃y,Es[x-1]?=some y:=⟨_,List.getElem?_eq_getElem oO⟩
  have hyr:(rls Es)[x-1]?=some y.r:=by unfold rls;rw[List.getElem?_map,hy];rfl
  have hkn:(kids y.r).length≤2:=by cases y.r<;>simp[kids]
  have f0:[Value.slice (some ⟨g,0,none⟩) Es.length c0][0]?=some (.slice (some ⟨g,0,none⟩) Es.length c0):=rfl
  have f1:=kE hx (((i:Nat):Int).toNat) oO
  have fm:=qEu hy ((((x:Nat):Int)-1).toNat*13) oO
  refine gg5 ?_
  refine uH ([pX E.w0 s most Es g c0,sl (some ⟨p,0,none⟩) c 24 1 S.length (idC S)]) ?_
  refine gg11 ?_
  apply bG 11 O
  ·(apply dK rfl (hE.t rfl) rfl (by assumption);(focus((repeat constructor);done));(focus exact fm);(focus rfl);(focus omega))
  ·with_reducible (repeat(first |exact aF|apply aG|apply aH))
  ·kernel_rfl
  ·rfl
  refine uD 14 O (aB O) ?_
  apply dG 12 O oK O
  refine uC (qNr hE y.r) O ?_
  rintro _ _⟨pk,ck,rfl,rfl⟩
  simp only[uV,uW]
  refine uE ?_
  refine gg4 ?_
  have hSi:((S.length:Nat):Int)≤65536:=oO
  clear f1 hil hSl hib e2
  refine jY (p:=sl pk ck 24 1 (kids y.r).length (idC (kids y.r))) uK (fun _ h=>fun hpos=>eZ h hpos) ?_
  intro hpk
  refine dX (fun x:RcG=>[(0,uPt s),(5,.slice (some ⟨x.p,0,none⟩) x.S.length x.c),(6,.map (some b14)),(7,.int .i64 (i:Nat)),(35,.slice pk (kids y.r).length ck),(36,.int .i64 ((kids y.r).length:Nat)),(37,.int .i64 (x.j:Nat))]) (fun x=>[pX E.w0 s most Es g c0,mapF b14 .i64 (pV x.S),sl (some ⟨x.p,0,none⟩) x.c 24 1 x.S.length (idC x.S),sl pk ck 24 1 (kids y.r).length (idC (kids y.r)),R]) (fun x=>(kids y.r).length-x.j) (fun z=>z.j≤(kids y.r).length∧RchI (rls Es) id i z.S∧z.S[i]?=some x∧∀t k,t<z.j→(kids y.r)[t]?=some k→k∈z.S) ⟨0,0,S,p,c⟩ ⟨Nat.zero_le _,hI,hx,fun t k h=>by simp only at h;omega⟩ ⟨rfl,rfl,rfl,rfl,rfl,rfl,rfl,trivial⟩ uI ?_
  clear hI hx hSi
  rintro⟨_,j,S,p,c⟩⟨hj,hI,hx,hall⟩
  simp only at hj hI hx hall ⊢
  have hSl:=hI.len
  refine gg6 ?_
  refine bE O (fun e3=>?_) (fun e3=>?_)
  ·have hjl:j<(kids y.r).length:=oO
   obtain⟨gk,rfl⟩:=hpk oO
   obtain⟨z,hz⟩:∃z,(kids y.r)[j]?=some z:=⟨_,List.getElem?_eq_getElem hjl⟩
   have hzk:=List.mem_of_getElem? hz
   have f1:=kE hz (((j:Nat):Int).toNat) oO
   refine gg15 ?_
   by_cases hin:z∈S
   ·refine uB (nZ hm1 hm2 hm3 O O uK (qHc hin)) ?_
    refine l_eq 43 (.bool true) O O ?_
    refine gg11 ?_
    refine bS (ι:=RcG) (j:=⟨0,j+1,S,p,c⟩) ⟨by simp only;omega,hI,hx,fun t k ht hk=>?_⟩ (by simp only;omega) ⟨rfl,rfl,rfl,rfl,rfl,rfl,congrArg some (bW (by simp only;omega)),trivial⟩ uI
    rcases Nat.lt_or_ge t j with h| h
    ·exact hall t k h hk
    obtain rfl:t=j:=by simp only at ht;omega
    rw[hz]at hk
    cases hk
    exact hin
   refine uB (nZ hm1 hm2 hm3 O O uK (qKi hin)) ?_
   refine l_eq 43 (.bool false) O O ?_
   refine gg8 ?_
   refine uU ?_
   apply mM (kt:=24) (et:=4) (by rw[hE.P];kernel_rfl) (by rw[hE.P];kernel_rfl) O O O
   ·exact uK
   refine gg2 ?_
   rw[xF]
   have hI2:=hI.more hw (List.mem_of_getElem? hx) hyr hzk hin
   have hSl2:=hI2.len
   rw[List.length_append,List.length_singleton]at hSl2
   refine gg3 ?_
   refine uU ?_
   refine aU (hE.t O) (hE.t O) O O O (fun b49=>?_)
   refine uU ?_
   apply bU (hE.t O) (hE.t O) O O O
   ·exact uK
   ·exact uK
   ·rfl
   ·rfl
   ·omega
   ·omega
   ·(unfold maxLen;omega)
   intro g50 c50 n50 x50 hn50 hx50
   refine gg8 ?_
   obtain rfl:n50=(S++[z]).length:=by rw[List.length_append,List.length_singleton];omega
   obtain rfl:x50=idC (S++[z]):=by rw[hx50,jB];rfl
   refine bS (ι:=RcG) (j:=⟨0,j+1,S++[z],g50,c50⟩) ⟨by simp only;omega,hI2,by simp only;rw[List.getElem?_append_left (List.getElem?_eq_some_iff.1 hx).1];exact hx,fun t k ht hk=>?_⟩ (by simp only;omega) ⟨rfl,rfl,rfl,rfl,rfl,rfl,congrArg some (bW (by simp only;omega)),trivial⟩ uI
   rcases Nat.lt_or_ge t j with h| h
   ·exact List.mem_append_left _ (hall t k h hk)
   obtain rfl:t=j:=by simp only at ht;omega
   rw[hz]at hk
   cases hk
   simp
  have hii:=(List.getElem?_eq_some_iff.1 hx).1
  refine gg11 ?_
  refine bS (ι:=RcG) (j:=⟨i+1,0,S,p,c⟩) (hI.next hx hyr fun k hk=>by
   obtain⟨t,ht⟩:=List.getElem?_of_mem hk
   exact hall t k (by have:=(List.getElem?_eq_some_iff.1 ht).1;omega) ht) (by have:=(List.getElem?_eq_some_iff.1 hx).1;simp only;omega) ⟨rfl,rfl,rfl,congrArg some (bW (by simp only;omega)),trivial⟩ uI
 obtain rfl:i=S.length:=by omega
 refine gg8 ?_
 refine uX (qDq (l:=S) hE oO) O ?_
 rintro _ _⟨V,rfl,hVl,hVp,hVs,rfl⟩
 rw[←hVl]
 simp only[uV,uW]
 refine gg9 ?_
 apply cB
 ·rfl
 ·(apply Rs.tmp rfl;exact Rs.nil)
 ·exact⟨p,c,V,O,hVp.nodup_iff.2 hI.nd,hVs,fun x=>hVp.mem_iff.trans (hI.all x),O⟩
 refine cO (cK (p:=pX E.w0 s most Es g c0) (p':=bR s most Es) uK (fun _ h=>h.1)) ?_
 exact uI
end
end Go.Proofs.YtblljbllmnbiaaaGreatDoor
namespace Sl
open Go Go.RowKit Go.Proofs.YtblljbllmnbiaaaGreatDoor
variable {E:Env}{n:Nat}{L:Fr}{S S':List HP}{ty:TypeId}{pos:String}{af:Array Edge}{d:Option Nat}{gd:Option (Nat×Bool)}
theorem qXp {x y:Operand}{b:Nat}{t kt et:TypeId}{V:List Nat}{k:Nat}(ht:E.P.underlying t=some (.map kt et))(hkt:E.P.underlying kt=some (.int .i64))(hz:∀w,(zeroValue et).run E.P w= .ok (.int .i64 0) w) (hx:ev L x=some (.map (some b))) (hy:ev L y=some (.int .i64 (k:Nat))) (hm:Take (mapF b .i64 (nuF V)) S S'):
  Yl E n L S ⟨d,.lookup t x y false,ty,pos,af,gd⟩ (.int .i64 (numb V k:Nat)):=by
 have e:wM false (.int .i64 0) (nuF V (k:Nat))= .int .i64 (numb V k:Nat):=nuF_get _ _
 rw[←e]
 exact nZ ht hkt hz hx hy hm O
end Sl
namespace Go.Proofs.YtblljbllmnbiaaaGreatDoor
open Go Go.RowKit Sl Eg
set_option maxRecDepth 10000
variable {E:Env}{Es:List Ent}{s most:Nat}
theorem qNo (hE:Seat E)(n:Int):Ct E 46 [uPt s,.int .i64 n] [bR s most Es] (fun u Q=>u= .bool (decide (0≤n)&&decide (n≤(Es.length:Int)))∧Q=[bR s most Es]):=
 kF hE fun w _ _ h=>(nN w n h).mono fun _ _⟨h1,h2⟩=>⟨h1,qDl h2⟩
structure RcL (L:List Rl)(id:Nat)(V:List Nat):Prop where
 nd:V.Nodup
 srt:V.Pairwise (· ≤ ·)
 all:∀x,x∈V↔Rea L id x
theorem RcL.split {L:List Rl}{id:Nat}{V:List Nat}(hw:Wf L)(h:RcL L id V):Odr L V:=fun A n B r e hr k hk=>by
 have hn:n+1∈V:=by rw[e];simp
 have hkl:=pF (hw.ok n r hr) k hk
 have hkV:k∈V:=(h.all k).2 (((h.all _).1 hn).step hr hk hw)
 have hs:=h.srt
 rw[e]at hs hkV
 rcases List.mem_append.1 hkV with h1|h1
 ·exact h1
 have:=(List.pairwise_cons.1 (List.pairwise_append.1 hs).2.1).1
 rcases List.mem_cons.1 h1 with h2|h2
 ·omega
 have:=this k h2;omega
theorem RcL.lis {L:List Rl}{id:Nat}{V:List Nat}(hw:Wf L)(h:RcL L id V):Lis L V:=⟨hw,⟨h.nd,fun y hy=>((h.all y).1 hy).le⟩,h.split hw⟩
structure ExG where
 k:Nat
 p:Option Addr
 c:Nat
theorem qSw (hE:Seat E){id:Nat}(h1:1≤id)(h2:id≤Es.length)(hn:Es.length<65536):Ct E 39 [uPt s,.int .i64 (id:Nat)] [bR s most Es]
  (fun v Q=>∃V p c,v= .tuple #[.slice p V.length c,.nilIface]∧RcL (rls Es) id V∧Q=[bR s most Es,sl p c 74 5 V.length (rusC (gram (rls Es) V))]):=by
 refine fG (p:=bR s most Es) uK (fun _ h=>dU h) (fun hsay=>?_)
 have hw:=hsay.1
 have hLl:=bQ Es
 have hm1:E.P.underlying 148=some (.map 24 24):=by rw[hE.P];kernel_rfl
 have hm2:E.P.underlying 24=some (.int .i64):=by rw[hE.P];kernel_rfl
 have hm3:∀w,(zeroValue 24).run E.P w= .ok (.int .i64 0) w:=fun w=>by rw[hE.P];kernel_rfl
 refine bO (hE.fn Tryz.func39) O O O (fun R=>?_)
 simp only[dV,uV,uW]
 refine gg21 ?_
 refine uX (qNo hE (id:Nat)) O ?_
 rintro _ _⟨rfl,rfl⟩
 simp only[uV,uW]
 refine gg3 ?_
 refine w_eq 18 (.bool false) O (by simp;omega) ?_
 refine gg7 ?_
 refine uX (ct_reach hE h1 h2 hn) O ?_
 rintro _ _⟨gv,cv,V,rfl,hV1,hV2,hV3,rfl⟩
 have hR:RcL (rls Es) id V:=⟨hV1,hV2,hV3⟩
 have hlis:=hR.lis hw
 have hVl:=hlis.acc.len
 have hV0:0<V.length:=List.length_pos_of_mem ((hV3 id).2 (by
  obtain⟨n,rfl⟩:∃n,id=n+1:=⟨id-1,oO⟩
  exact .self oO))
 simp only[uV,uW]
 refine gg7 ?_
 refine uU ?_
 refine qEj .i64 (kt:=24) (et:=24) (by rw[hE.P];kernel_rfl) O (fun b25=>?_)
 refine gg7 ?_
 refine uU ?_
 refine kK (hE.t O) (hE.t O) O O (by first |omega |exact Nat.le_of_ble_eq_true rfl) (by(unfold maxLen;first |omega |exact Nat.le_of_ble_eq_true rfl)) (fun b28 us28 hu28=>?_)
 refine gg12 ?_
 rw[nuF_nil]
 refine w_open (p:=bR s most Es) (ps:=fun i:Nat×Nat=>[pX E.w0 s most Es i.1 i.2]) uK (fun k hk=>qKp (w0:=E.w0) oO hk) ?_
 rintro⟨g,c0⟩
 have hq1:∀k,pX E.w0 s most Es g c0 k→RdAt E.w0 s 1 [.slice (some ⟨g,0,none⟩) Es.length c0] k:=fun k h=>h.2.1
 have hq2:∀k,pX E.w0 s most Es g c0 k→RdAt E.w0 g 0 (xC Es) k:=fun k h=>h.2.2
 refine jI (cK (p:=sl (some ⟨b28,0,none⟩) V.length 74 5 V.length us28) (p':=sl (some ⟨b28,0,none⟩) V.length 74 5 0 (rusC ((gram (rls Es) V).take 0))) uK (nM (Nat.zero_le _) (by simp[rusC]) (by simp))) ?_
 refine dX (fun x:ExG=>[(0,uPt s),(7,.map (some b25)),(8,.slice x.p x.k x.c),(29,.slice (some ⟨gv,0,none⟩) V.length cv),(30,.int .i64 (V.length:Nat)),(31,.int .i64 (x.k:Nat))]) (fun x=>[pX E.w0 s most Es g c0,sl (some ⟨gv,0,none⟩) cv 24 1 V.length (idC V),mapF b25 .i64 (nuF (V.take x.k)),sl x.p x.c 74 5 x.k (rusC ((gram (rls Es) V).take x.k)),R]) (fun x=>V.length-x.k) (fun x=>x.k≤V.length) ⟨0,some ⟨b28,0,none⟩,V.length⟩ (Nat.zero_le _) ⟨O,O,O,O,O,O,trivial⟩ uI ?_
 rintro⟨k,p,c⟩hk
 simp only at hk ⊢
 refine gg6 ?_
 refine bE O (fun e2=>?_) (fun e2=>?_)
 ·have hkl:k<V.length:=oO
  obtain⟨x,hx⟩:∃x,V[k]?=some x:=⟨_,List.getElem?_eq_getElem hkl⟩
  have hxb:=((hV3 x).1 (List.mem_of_getElem? hx)).le
  obtain⟨n,rfl⟩:∃n,x=n+1:=⟨x-1,oO⟩
  obtain⟨y,hy⟩:∃y,Es[n]?=some y:=⟨_,List.getElem?_eq_getElem oO⟩
  have hyr:=rU hy
  have f0:[Value.slice (some ⟨g,0,none⟩) Es.length c0][0]?=some (.slice (some ⟨g,0,none⟩) Es.length c0):=rfl
  have f1:=kE hx (((k:Nat):Int).toNat) oO
  have fm:=qEu hy ((((n+1:Nat):Int)-1).toNat*13) oO
  refine gg19 ?_
  refine l_eq 39 (.int .i64 ((k+1:Nat):Int)) O (bW oO) ?_
  refine uU ?_
  apply mM (kt:=24) (et:=24) (by rw[hE.P];kernel_rfl) (by rw[hE.P];kernel_rfl) O O O
  ·exact uK
  refine gg2 ?_
  rw[nuF_at hx hV1]
  refine gg10 ?_
  apply aA
  ·(apply dK rfl (hE.t rfl) rfl (by assumption);(focus((repeat constructor);done));(focus exact fm);(focus rfl);(focus omega))
  ·rfl
  refine uU (cZ (hE.t O) (fun b11=>?_))
  refine gg4 ?_
  refine eU 9 ([mapF b25 .i64 (nuF (V.take (k+1))),cells b11 [.int .i64 (Rl.kind (y.r):Nat),.int .u8 (Rl.byte (y.r):Nat),.int .i64 (Rl.left (y.r):Nat),.int .i64 (Rl.right (y.r):Nat),.int .i64 (Rl.times (y.r):Nat)] 74]) [(11,[mapF b25 .i64 (nuF (V.take (k+1)))])] ?_ ?_
  ·exact uI
  refine uP 0 O (aB O) ?_
  refine uP 1 O (uBf O) ?_
  refine uQ 2 O (uY) ?_
  refine uQ 3 O (qXp hm1 hm2 hm3 O O (by((repeat constructor);done))) ?_
  refine uP 4 O (aB O) ?_
  refine uP 5 O (uBf O) ?_
  refine uQ 6 O (uY) ?_
  apply s_keep ([mapF b25 .i64 (nuF (V.take (k+1)))]) 7 O
  ·exact qXp hm1 hm2 hm3 O O uK
  ·with_reducible (repeat(first |exact aF|apply aG|apply aH))
  ·kernel_rfl
  ·kernel_rfl
  ·rfl
  ·(repeat(first |exact trivial |refine⟨by(apply ent;(repeat constructor);done),?_⟩))
  refine uP 8 O (uBf O) ?_
  apply gH O oK O
  refine uS ?_
  refine uE ?_
  refine uP 10 O (uBf O) ?_
  apply gG O oK oK O
  refine uS ?_
  refine gg1 ?_
  have htk:V.take (k+1)=V.take k++[n+1]:=by rw[List.take_add_one,hx];rfl
  have hsplit:V=V.take k++(n+1)::V.drop (k+1):=by
   have:=List.take_append_drop k V
   rw[qNy hx]at this
   exact this.symm
  have hkids:=hlis.ord _ _ _ _ hsplit hyr
  have h0t:0∉V.take (k+1):=fun h=>hlis.zero (List.mem_of_mem_take h)
  have hrn:=qRq (V:=V) (k:=k+1) (r:=y.r) (fun z hz=>by rw[htk];exact List.mem_append_left _ (hkids z hz))
  refine jI (cK (p:=cells b11 [.int .i64 (y.r.kind:Nat),.int .u8 (y.r.byte:Nat),.int .i64 (numb (V.take (k+1)) y.r.left:Nat),.int .i64 (numb (V.take (k+1)) y.r.right:Nat),.int .i64 (y.r.times:Nat)] 74) (p':=cells b11 [.int .i64 (Rl.kind ((lK V y.r)):Nat),.int .u8 (Rl.byte ((lK V y.r)):Nat),.int .i64 (Rl.left ((lK V y.r)):Nat),.int .i64 (Rl.right ((lK V y.r)):Nat),.int .i64 (Rl.times ((lK V y.r)):Nat)] 74) uK (fun _ h=>by rw[←hrn,qRo,qRn,qRp h0t,qMk h0t,qMl];exact h)) ?_
  refine gg3 ?_
  refine uU ?_
  refine aU (hE.t O) (hE.t O) O O O (fun b61=>?_)
  refine uU ?_
  apply bU (hE.t O) (hE.t O) O O O
  ·exact uK
  ·exact uK
  ·rfl
  ·rfl
  ·omega
  ·omega
  ·(unfold maxLen;omega)
  intro g62 c62 n62 x62 hn62 hx62
  refine gg8 ?_
  obtain rfl:n62=k+1:=by omega
  obtain rfl:x62=rusC ((gram (rls Es) V).take (k+1)):=by rw[hx62,qUn hx hyr];rfl
  refine bS (ι:=ExG) (j:=⟨k+1,some ⟨g62,0,none⟩,c62⟩) (by simp only;omega) (by simp only;omega) ⟨O,O,O,O,O,congrArg some (bW (by simp only;omega)),trivial⟩ uI
 obtain rfl:k=V.length:=by omega
 have hgt:(gram (rls Es) V).take V.length=gram (rls Es) V:=by rw[←qAd (L:=rls Es) (V:=V),List.take_length]
 rw[hgt]
 refine gg13 ?_
 apply cB
 ·rfl
 ·(apply Rs.tmp rfl;apply Rs.tmp rfl;exact Rs.nil)
 ·exact⟨V,p,c,O,hR,O⟩
 refine cO (cK (p:=pX E.w0 s most Es g c0) (p':=bR s most Es) uK (fun _ h=>h.1)) ?_
 exact uI
end Go.Proofs.YtblljbllmnbiaaaGreatDoor
