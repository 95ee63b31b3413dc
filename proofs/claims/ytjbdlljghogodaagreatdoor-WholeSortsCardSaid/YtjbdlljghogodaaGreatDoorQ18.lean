import Derived.Test.YtjbdlljghogodaaGreatDoorQ17
set_option linter.all false
set_option maxHeartbeats 1000000
namespace Eg
def Srt (ts:List (List UInt8)):Prop:=∀k A B,ts[k]?=some A→ts[k+1]?=some B→cmpT A B≤0
theorem Srt.le {ts:List (List UInt8)}(h:Srt ts){i j:Nat}{A B:List UInt8}(hij:i≤j)(hA:ts[i]?=some A)(hB:ts[j]?=some B):cmpT A B≤0:=by
 induction j generalizing B with
 |zero=>
  obtain rfl:i=0:=by omega
  rw[hA]at hB
  cases hB
  rw[nV];exact Int.le_refl 0
 |succ j ih=>
  by_cases e:i=j+1
  ·subst e
   rw[hA]at hB
   cases hB
   rw[nV];exact Int.le_refl 0
  have hl:=(List.getElem?_eq_some_iff.1 hB).1
  obtain⟨C,hC⟩:∃C,ts[j]?=some C:=⟨_,List.getElem?_eq_getElem oO⟩
  exact sG (ih oO hC) (h j C B hC hB)
def cnt (p:List UInt8→Bool):List (List UInt8)→Nat
 |[]=>0
 |A::l=>if p A then cnt p l+1 else 0
theorem qPj (p:List UInt8→Bool)(ts:List (List UInt8)):cnt p ts≤ts.length:=by
 induction ts with
 |nil=>simp[cnt]
 |cons A l ih=>simp only[cnt,List.length_cons];split <;>omega
theorem cnt_lt {p:List UInt8→Bool}{ts:List (List UInt8)}{i:Nat}{A:List UInt8}(h:i<cnt p ts)(hA:ts[i]?=some A):p A=true:=by
 induction ts generalizing i with
 |nil=>simp at hA
 |cons B l ih=>
  simp only[cnt]at h
  split at h
  ·rename_i hp
   cases i with
   |zero=>simp at hA;subst hA;exact hp
   |succ i=>exact ih (i:=i) oO (by simpa using hA)
  omega
theorem cnt_at {p:List UInt8→Bool}{ts:List (List UInt8)}{A:List UInt8}(hA:ts[cnt p ts]?=some A):p A=false:=by
 induction ts with
 |nil=>simp[cnt]at hA
 |cons B l ih=>
  simp only[cnt]at hA
  by_cases hp:p B=true
  ·rw[if_pos hp]at hA
   exact ih (by simpa using hA)
  rw[if_neg hp]at hA
  simp at hA
  subst hA
  simpa using hp
def srch (ts:List (List UInt8))(x:List UInt8):Nat:=cnt (fun A=>decide (cmpT A x<0)) ts
theorem qFn {ts:List (List UInt8)}{x:List UInt8}{i:Nat}{A:List UInt8}(h:i<srch ts x)(hA:ts[i]?=some A):cmpT A x<0:=by simpa using cnt_lt h hA
theorem qKm {ts:List (List UInt8)}{x:List UInt8}(hs:Srt ts){i:Nat}{A:List UInt8}(h:srch ts x≤i)(hA:ts[i]?=some A):0≤cmpT A x:=by
 have hl:=(List.getElem?_eq_some_iff.1 hA).1
 obtain⟨B,hB⟩:∃B,ts[srch ts x]?=some B:=⟨_,List.getElem?_eq_getElem oO⟩
 have h1:¬cmpT B x<0:=by simpa using cnt_at hB
 have h2:=hs.le h hB hA
 have h3:cmpT x B≤0:=by rw[lG B x];omega
 have h4:=sG h3 h2
 rw[lG A x]at h4
 omega
def bgns (ts:List (List UInt8))(x:List UInt8):Nat:=cnt (fun A=>decide (Bgn A x)) (ts.drop (srch ts x))
theorem qPc {ts:List (List UInt8)}{x:List UInt8}{i:Nat}{A:List UInt8}(h:i<bgns ts x)(hA:ts[srch ts x+i]?=some A):Bgn A x:=by
 simpa using cnt_lt h (show(ts.drop (srch ts x))[i]?=some A by rw[List.getElem?_drop];exact hA)
theorem qPa {ts:List (List UInt8)}{x:List UInt8}(hs:Srt ts){i:Nat}{A:List UInt8}(h:bgns ts x≤i)(hA:ts[srch ts x+i]?=some A):¬Bgn A x:=by
 intro hb
 have hl:=(List.getElem?_eq_some_iff.1 hA).1
 obtain⟨B,hB⟩:∃B,ts[srch ts x+bgns ts x]?=some B:=⟨_,List.getElem?_eq_getElem oO⟩
 have h1:¬Bgn B x:=by simpa using cnt_at (show(ts.drop (srch ts x))[bgns ts x]?=some B by rw[List.getElem?_drop];exact hB)
 exact h1 (qJe (qKm hs (Nat.le_add_right _ _) hB) (hs.le oO hB hA) hb)
theorem qPb (ts:List (List UInt8))(x:List UInt8):srch ts x+bgns ts x≤ts.length:=by
 have h1:=qPj (fun A=>decide (Bgn A x)) (ts.drop (srch ts x))
 rw[List.length_drop]at h1
 have h2:srch ts x≤ts.length:=qPj _ _
 unfold bgns
 omega
end Eg
namespace Go.Proofs.YtjbdlljghogodaaGreatDoor
open Go Go.RowKit Sl Eg
set_option maxRecDepth 10000
section
variable {E:Env}{Es:List Ent}{pp tb s most:Nat}
theorem qIc {w0:World}{a:Option Addr}{q:HP}{ids:List Nat}(h:Rdb w0 a (idC ids) q):ids≠[]→∃g o,a=some ⟨g,o,none⟩∧∀k,q k→RdAt w0 g o (idC ids) k:=fun hn=>h (by simpa[idC]using hn)
theorem tN (hE:Seat E)(hB:Base E.w0){ids:List Nat}{x:Nat}(hg:∀x∈ids,good (rls Es) x) (hx:good (rls Es) x) (hl:∀x∈ids,len (rls Es) x≤4000000) (hn:ids.length≤1099511627776) {a:Option Addr} {c:Nat} {q:HP} (hq:Rdb E.w0 a (idC ids) q) {b:Bool} (hb:b=true↔Srt (ids.map (txt (rls Es)))):
  Ct E 73 [uPt pp,.slice a ids.length c,.int .i64 (x:Nat)] [cells pp [uPt s,uPt tb] 108,tabP tb s (rls Es),bR s most Es,q] (fun v Q=>v=(if b then .nilIface else .iface 54 (.int .i64 4))∧Q=[cells pp [uPt s,uPt tb] 108,tabP tb s (rls Es),bR s most Es,q]):=by
 have hg1:∀y∈[x],good (rls Es) y:=by intro y hy;simp at hy;subst hy;exact hx
 refine bO (hE.fn Tryz.func73) O O O (fun R=>?_)
 simp only[dR,uV,uW]
 refine gg10 ?_
 refine uX (zW hE hB hg (qIc hq) oO) O ?_
 rintro _ _⟨rfl,rfl⟩
 simp only[uV,uW]
 refine gg17 ?_
 refine uU ?_
 refine aU (hE.t O) (hE.t O) O O O (fun b18=>?_)
 refine uX (zW (ids:=[x]) hE hB hg1 (fun _=>⟨b18,0,O,rd_cells (fun _ _ h=>h)⟩) (by simp)) O ?_
 rintro _ _⟨rfl,rfl⟩
 simp only[uV,uW]
 refine gg19 ?_
 refine dW (fun k:Nat=>[(0,uPt pp),(1,.slice a ids.length c),(9,.int .i64 (k:Nat))]) (fun k=>[cells pp [uPt s,uPt tb] 108,tabP tb s (rls Es),bR s most Es,q,R]) (fun k=>ids.length-k) (fun k=>1≤k∧(k≤ids.length∨k=1)∧∀j A B,j+1<k→(ids.map (txt (rls Es)))[j]?=some A→(ids.map (txt (rls Es)))[j+1]?=some B→cmpT A B≤0) 1 ?_ ?_ ?_ ?_
 ·exact⟨Nat.le_refl _,.inr O,fun j A B h=>by omega⟩
 ·exact⟨O,O,O,trivial⟩
 ·exact uI
 rintro k⟨hk1,hk2,hso⟩
 refine gg9 ?_
 refine bE O (fun h1=>?_) (fun h1=>?_)
 ·have hkl:k<ids.length:=oO
  obtain⟨g,o,rfl,hqq⟩:=qIc hq (by intro e;rw[e]at hkl;simp at hkl)
  obtain⟨k,rfl⟩:∃j,k=j+1:=⟨k-1,oO⟩
  obtain⟨u,hu⟩:∃u,ids[k]?=some u:=⟨_,List.getElem?_eq_getElem oO⟩
  obtain⟨v,hv⟩:∃v,ids[k+1]?=some v:=⟨_,List.getElem?_eq_getElem hkl⟩
  have hum:=List.mem_of_getElem? hu
  have hvm:=List.mem_of_getElem? hv
  have f0:=fV hu k O
  have f1:=fV hv (k+1) O
  have e0:(ids.map (txt (rls Es)))[k]?=some (txt (rls Es) u):=by simp[hu]
  have e1:(ids.map (txt (rls Es)))[k+1]?=some (txt (rls Es) v):=by simp[hv]
  have l0:=hl u hum
  have l1:=hl v hvm
  refine gg5 ?_
  refine uH ([q]) ?_
  refine gg11 ?_
  refine qQw 39 O (fun h2=>?_) (fun h2=>?_)
  ·refine uO 11 O O O (aB O) ?_
   refine gg9 ?_
   apply qAb 21 O O O oK O
   refine uC (sI hE hB (hg u hum) (hg v hvm) oO) O ?_
   rintro _ _⟨rfl,rfl⟩
   simp only[uV,uW]
   refine uE ?_
   refine gg4 ?_
   refine bE O (fun h3=>?_) (fun h3=>?_)
   ·have hbf:b=false:=by
     cases b with
     |false=>rfl
     |true=>have:=(hb.1 rfl) k _ _ e0 e1;omega
    refine gg12 ?_
    exact uZ O (.tmp O .nil) ⟨by rw[hbf];rfl,rfl⟩
   refine gg8 ?_
   refine gG 9 (.int .i64 ((k+2:Nat):Int)) O (bW oO) ?_
   refine bS (k+2) ⟨oO,.inl oO,fun j A B hj hA hB=>?_⟩ oO ⟨O,O,O,trivial⟩ uI
   by_cases e:j=k
   ·subst e
    rw[e0]at hA
    rw[e1]at hB
    cases hA
    cases hB
    omega
   exact hso j A B oO hA hB
  have huv:u=v:=oO
  refine uR 11 O O O O ?_
  refine gg23 ?_
  refine gG 9 (.int .i64 ((k+2:Nat):Int)) O (bW oO) ?_
  refine bS (k+2) ⟨oO,.inl oO,fun j A B hj hA hB=>?_⟩ oO ⟨O,O,O,trivial⟩ uI
  by_cases e:j=k
  ·subst e
   rw[e0]at hA
   rw[e1]at hB
   cases hA
   cases hB
   rw[huv,nV]
   exact Int.le_refl 0
  exact hso j A B oO hA hB
 have hbt:b=true:=hb.2 fun j A B hA hB=>hso j A B (by have:=(List.getElem?_eq_some_iff.1 hB).1;simp at this;omega) hA hB
 refine gg11 ?_
 exact uZ O (.tmp O .nil) ⟨by rw[hbt];rfl,rfl⟩
end
section
variable {E:Env}{Es:List Ent}{pp tb s most:Nat}
theorem wrU (a:Nat)(ha:a<18446744073709551616):IntKind.u64.wrap (a:Int)=(a:Int):=by rw[IntKind.wrap_u64];omega
theorem y_shr1 {n:Nat}{L:Fr}{S:List HP}{ty:TypeId}{pos:String}{af:Array Edge}{d:Option Nat}{gd:Option (Nat×Bool)}{x y:Operand}{xt yt:TypeId}{i:Nat}(hx:ev L x=some (.int .u64 (i:Nat)))(hy:ev L y=some (.int .u64 1)):
  Yl E n L S ⟨d,.binOp .shr xt x y yt,ty,pos,af,gd⟩ (.int .u64 ((i/2:Nat):Int)):=fun a w g _=>by
 have h:=shift_shr_any .u64 .u64 (i:Int) 1 (by decide)
 have e:(i:Int)/2^min (1:Int).toNat IntKind.u64.bits=((i/2:Nat):Int):=by
  show(i:Int)/2^1=_
  omega
 rw[e]at h
 simp[execOp,eqGuard,binOp,g.ev hx,g.ev hy,h]
theorem vZ (hE:Seat E){fc:FuncId}{caps:List Value}{n m:Nat}{P:Nat→Bool}{pre:HP}(hf:goFn E.P fc=true)(hn:n≤1099511627776)(hc:∀i,i<n→Ct E fc (.int .i64 (i:Nat)::caps) [pre] (fun v Q=>v= .bool (P i)∧Q=[pre]))
  (hm:m≤n) (h0:∀i,i<m→P i=false) (h1:∀i,m≤i→i<n→P i=true):Ct E 78 [.int .i64 (n:Nat),.func (.func fc) #[] ⟨caps⟩] [pre] (fun v Q=>v= .int .i64 (m:Nat)∧Q=[pre]):=by
 refine bO (hE.fn Tryz.func78) O O O (fun R=>?_)
 simp only[dR,uV,uW]
 refine gg14 ?_
 refine dW (fun x:Nat×Nat=>[(1,.func (.func fc) #[] ⟨caps⟩),(5,.int .i64 (x.1:Nat)),(6,.int .i64 (x.2:Nat))]) (fun x=>[pre,R]) (fun x=>x.2-x.1) (fun x=>x.1≤m∧m≤x.2∧x.2≤n) (0,n) ?_ ?_ ?_ ?_
 ·exact⟨Nat.zero_le _,hm,Nat.le_refl _⟩
 ·exact⟨O,O,O,trivial⟩
 ·exact uI
 rintro⟨i,j⟩⟨hi,hj,hjn⟩
 simp only at hi hj hjn ⊢
 refine gg8 ?_
 refine bE O (fun h2=>?_) (fun h2=>?_)
 ·refine gg8 ?_
  refine l_eq 14 (.int .i64 ((i+j:Nat):Int)) O (bW oO) ?_
  refine uB (dI O (hE.t O) (hE.t O) (wrU _ oO)) ?_
  refine uB (y_shr1 O O) ?_
  refine uB (dI O (hE.t O) (hE.t O) (dJ oO oO)) ?_
  refine gg7 ?_
  obtain⟨h,eh⟩:∃h:Nat,h=(i+j)/2:=⟨_,rfl⟩
  refine l_eq 19 (.int .i64 (h:Nat)) O (bW oO) ?_
  have hcc:=hc h oO
  refine uU ?_
  apply fP (hx:=O) (ha:=O) (hf:=hf)
  ·exact hcc
  ·exact uK
  rintro _ _⟨rfl,rfl⟩
  simp only[uV,uW]
  cases hp:P h with
  |false=>
   have hlt:h<m:=by
    rcases Nat.lt_or_ge h m with hh|hh
    ·exact hh
    have:=h1 h hh oO;rw[hp]at this;cases this
   refine gg10 ?_
   refine bS (ι:=Nat×Nat) (j:=(h+1,j)) ⟨by show h+1≤m;omega,hj,hjn⟩ (by show j-(h+1)<j-i;omega) ⟨rfl,?_,rfl,trivial⟩ uI
   exact congrArg some (bW oO)
  |true=>
   have hge:m≤h:=by
    rcases Nat.lt_or_ge h m with hh|hh
    ·have:=h0 h hh;rw[hp]at this;cases this
    exact hh
   refine gg9 ?_
   refine bS (ι:=Nat×Nat) (j:=(i,h)) ⟨hi,hge,by show h≤n;omega⟩ (by show h-i<j-i;omega) ⟨rfl,rfl,?_,trivial⟩ uI
   exact congrArg some (bW oO)
 obtain rfl:i=m:=by omega
 refine gg12 ?_
 exact uZ O (.tmp O .nil) ⟨O,O⟩
theorem qNp (hE:Seat E)(hB:Base E.w0){ids:List Nat}{x i u:Nat}(hu:ids[i]?=some u)(gu:good (rls Es) u)(hx:good (rls Es) x)(hl:len (rls Es) u+len (rls Es) x<8388608){g o c b3 b4 b5:Nat}{q:HP}(hqq:∀k,q k→RdAt E.w0 g o (idC ids) k):
  Ct E 122 [.int .i64 (i:Nat),uPt b3,uPt b4,uPt b5] [cells b3 [uPt pp] 32,cells b4 [.slice (some ⟨g,o,none⟩) ids.length c] 26,cells b5 [.int .i64 (x:Nat)] 56,cells pp [uPt s,uPt tb] 108,tabP tb s (rls Es),bR s most Es,q]
   (fun v Q=>v= .bool (decide (0≤cmpT (txt (rls Es) u) (txt (rls Es) x)))∧Q=[cells b3 [uPt pp] 32,cells b4 [.slice (some ⟨g,o,none⟩) ids.length c] 26,cells b5 [.int .i64 (x:Nat)] 56,cells pp [uPt s,uPt tb] 108,tabP tb s (rls Es),bR s most Es,q]):=by
 have hil:=(List.getElem?_eq_some_iff.1 hu).1
 have f0:=fV hu i O
 refine bO (hE.fn Tryz.func122) O O O (fun R=>?_)
 simp only[dR,uV,uW]
 refine gg6 ?_
 refine uH ([cells b3 [uPt pp] 32,cells b4 [.slice (some ⟨g,o,none⟩) ids.length c] 26,cells b5 [.int .i64 (x:Nat)] 56,q]) ?_
 refine gg6 ?_
 apply dH 6 O oK O
 refine uC (sI hE hB gu hx hl) O ?_
 rintro _ _⟨rfl,rfl⟩
 simp only[uV,uW]
 refine uE ?_
 refine gg5 ?_
 exact uZ O (.tmp O .nil) ⟨O,O⟩
end
section
variable {E:Env}{Es:List Ent}{pp tb s most:Nat}
theorem xO {l:List Nat}{i u:Nat}(h:l[i]?=some u):l.getD i 0=u:=by rw[List.getD_eq_getElem?_getD,h];rfl
theorem qCq (hE:Seat E)(hB:Base E.w0){ids:List Nat}{x:Nat}(hg:∀x∈ids,good (rls Es) x) (hx:good (rls Es) x) (hl:∀y∈ids,len (rls Es) y+len (rls Es) x<8388608) (hn:ids.length≤1099511627776) {a:Option Addr} {c:Nat} {q:HP} (hq:Rdb E.w0 a (idC ids) q) (hs:Srt (ids.map (txt (rls Es)))):
  Ct E 74 [uPt pp,.slice a ids.length c,.int .i64 (x:Nat)] [cells pp [uPt s,uPt tb] 108,tabP tb s (rls Es),bR s most Es,q] (fun v Q=>v= .int .i64 (srch (ids.map (txt (rls Es))) (txt (rls Es) x):Nat)∧Q=[cells pp [uPt s,uPt tb] 108,tabP tb s (rls Es),bR s most Es,q]):=by
 have hgo:goFn E.P 122=true:=hE.f oK
 have hml:srch (ids.map (txt (rls Es))) (txt (rls Es) x)≤ids.length:=by have:=qPj (fun A=>decide (cmpT A (txt (rls Es) x)<0)) (ids.map (txt (rls Es)));rw[List.length_map]at this;exact this
 refine bO (hE.fn Tryz.func74) O O O (fun R=>?_)
 simp only[dR,uV,uW]
 refine gg2 ?_
 refine uU ?_
 refine gL O (fun b3=>?_)
 refine uU ?_
 refine gL O (fun b4=>?_)
 refine uU ?_
 refine gL O (fun b5=>?_)
 refine gg8 ?_
 have hcl:∀i,i<ids.length→Ct E 122 (.int .i64 (i:Nat)::[uPt b3,uPt b4,uPt b5]) [dU [cells b3 [uPt pp] 32,cells b4 [.slice a ids.length c] 26,cells b5 [.int .i64 (x:Nat)] 56,cells pp [uPt s,uPt tb] 108,tabP tb s (rls Es),bR s most Es,q]] (fun v Q=>v= .bool (decide (0≤cmpT (txt (rls Es) (ids.getD i 0)) (txt (rls Es) x)))∧Q=[dU [cells b3 [uPt pp] 32,cells b4 [.slice a ids.length c] 26,cells b5 [.int .i64 (x:Nat)] 56,cells pp [uPt s,uPt tb] 108,tabP tb s (rls Es),bR s most Es,q]]):=by
  intro i hi
  obtain⟨g,o,rfl,hqq⟩:=qIc hq (by intro e;rw[e]at hi;simp at hi)
  obtain⟨u,hu⟩:∃u,ids[i]?=some u:=⟨_,List.getElem?_eq_getElem hi⟩
  rw[xO hu]
  have hum:=List.mem_of_getElem? hu
  exact qJo (qNp hE hB hu (hg u hum) hx (hl u hum) hqq)
 have h0:∀i,i<srch (ids.map (txt (rls Es))) (txt (rls Es) x)→decide (0≤cmpT (txt (rls Es) (ids.getD i 0)) (txt (rls Es) x))=false:=by
  intro i hi
  obtain⟨u,hu⟩:∃u,ids[i]?=some u:=⟨_,List.getElem?_eq_getElem oO⟩
  rw[xO hu]
  have:=qFn hi (show(ids.map (txt (rls Es)))[i]?=some (txt (rls Es) u) by simp[hu])
  exact decide_eq_false oO
 have h1:∀i,srch (ids.map (txt (rls Es))) (txt (rls Es) x)≤i→i<ids.length→decide (0≤cmpT (txt (rls Es) (ids.getD i 0)) (txt (rls Es) x))=true:=by
  intro i hi hil
  obtain⟨u,hu⟩:∃u,ids[i]?=some u:=⟨_,List.getElem?_eq_getElem hil⟩
  rw[xO hu]
  exact decide_eq_true (qKm hs hi (show(ids.map (txt (rls Es)))[i]?=some (txt (rls Es) u) by simp[hu]))
 refine uX (qHc (vZ hE hgo hn hcl hml h0 h1)) O ?_
 rintro _ _⟨rfl,rfl⟩
 simp only[uV,uW]
 refine gg4 ?_
 exact uZ O (.tmp O .nil) ⟨O,O⟩
theorem qPp (hE:Seat E)(hB:Base E.w0){ids:List Nat}{x:Nat}(hg:∀x∈ids,good (rls Es) x) (hx:good (rls Es) x) (hl:∀x∈ids,len (rls Es) x≤4000000) (hlx:len (rls Es) x≤4000000) (hn:ids.length≤1099511627776) {a:Option Addr} {c:Nat} {q:HP} (hq:Rdb E.w0 a (idC ids) q) (hs:Srt (ids.map (txt (rls Es)))):
  Ct E 35 [uPt pp,.slice a ids.length c,.int .i64 (x:Nat)] [cells pp [uPt s,uPt tb] 108,tabP tb s (rls Es),bR s most Es,q] (fun v Q=>∃r:Bool,v= .tuple #[.int .i64 (srch (ids.map (txt (rls Es))) (txt (rls Es) x):Nat),.bool r,.nilIface]∧(r=true↔∃u,ids[srch (ids.map (txt (rls Es))) (txt (rls Es) x)]?=some u∧txt (rls Es) u=txt (rls Es) x)∧Q=[cells pp [uPt s,uPt tb] 108,tabP tb s (rls Es),bR s most Es,q]):=by
 have hl2:∀y∈ids,len (rls Es) y+len (rls Es) x<8388608:=fun y hy=>by have:=hl y hy;omega
 have hbb:true=true↔Srt (ids.map (txt (rls Es))):=⟨fun _=>hs,fun _=>O⟩
 refine bO (hE.fn Tryz.func35) O O O (fun R=>?_)
 simp only[dR,uV,uW]
 refine gg13 ?_
 refine uX (tN hE hB hg hx hl hn hq hbb) O ?_
 rintro _ _⟨rfl,rfl⟩
 simp only[uV,uW]
 refine gg17 ?_
 refine uX (qCq hE hB hg hx hl2 hn hq hs) O ?_
 rintro _ _⟨rfl,rfl⟩
 simp only[uV,uW]
 generalize srch (ids.map (txt (rls Es))) (txt (rls Es) x)=m
 refine gg11 ?_
 refine dS 27 O (fun h2=>?_) (fun h2=>?_)
 ·have hm:m<ids.length:=oO
  obtain⟨g,o,rfl,hqq⟩:=qIc hq (by intro e;rw[e]at hm;simp at hm)
  obtain⟨u,hu⟩:∃u,ids[m]?=some u:=⟨_,List.getElem?_eq_getElem hm⟩
  have hum:=List.mem_of_getElem? hu
  have f0:=fV hu m O
  refine gg13 ?_
  refine uX (sI hE hB (hg u hum) hx (hl2 u hum)) O ?_
  rintro _ _⟨rfl,rfl⟩
  simp only[uV,uW]
  refine gg9 ?_
  apply cB
  ·rfl
  ·(apply Rs.tmp rfl;apply Rs.tmp rfl;apply Rs.tmp rfl;exact Rs.nil)
  ·refine⟨decide (cmpT (txt (rls Es) u) (txt (rls Es) x)=0),O,?_,O⟩
   rw[decide_eq_true_iff,vS]
   exact⟨fun e=>⟨u,hu,e⟩,fun⟨v,hv,e⟩=>by rw[hu]at hv;cases hv;exact e⟩
  exact uI
 refine gg15 ?_
 apply cB
 ·rfl
 ·(apply Rs.tmp rfl;apply Rs.tmp rfl;apply Rs.tmp rfl;exact Rs.nil)
 ·refine⟨false,O,⟨fun h=>(by cases h),fun⟨v,hv,_⟩=>?_⟩,O⟩
  have:=(List.getElem?_eq_some_iff.1 hv).1
  omega
 exact uI
end
end Go.Proofs.YtjbdlljghogodaaGreatDoor
