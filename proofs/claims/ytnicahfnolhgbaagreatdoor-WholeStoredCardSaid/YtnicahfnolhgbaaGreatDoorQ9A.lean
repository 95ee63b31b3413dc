import Derived.Test.YtnicahfnolhgbaaGreatDoorQ69
import Derived.LaidEql
import Derived.Laws.BitsAllLaws
import Derived.RowKitTokens
import Derived.Stop.Asserts
import Derived.Test.YtnicahfnolhgbaaGreatDoorChecked
set_option linter.all false
set_option maxHeartbeats 1000000
namespace Go.Proofs.YtnicahfnolhgbaaGreatDoor
set_option maxRecDepth 10000
section
open Go Go.RowKit Sl Eg
structure Du where
 new:List Rl
 sets:List (List UInt8×Nat)
 drops:List (List UInt8)
def Mw (l:List (List UInt8)):List UInt8:=l.flatMap eY
def Du.body (k:Nat)(t:Du):List UInt8:=BS t.new.length++(FR k t.new++(BS t.sets.length++(GY t.sets++(BS t.drops.length++Mw t.drops))))
def Du.pay (k:Nat)(t:Du):List UInt8:=69::71::3::t.body k
def DX:Nat->List Du->List (List UInt8)
 |_,[]=>[]
 |k,t::ts=>t.pay k::DX (k+t.new.length) ts
structure Cn where
 G:List Rl
 N:List UInt8->Option Nat
def Cq (N:List UInt8->Option Nat)(p:List UInt8×Nat):List UInt8->Option Nat:=fun x=>if x=p.1 then some p.2 else N x
def FC (N:List UInt8->Option Nat)(n:List UInt8):List UInt8->Option Nat:=fun x=>if x=n then none else N x
def Cn.app (c:Cn)(t:Du):Cn:=⟨c.G++t.new,t.drops.foldl FC (t.sets.foldl Cq c.N)⟩
def Cn.nil:Cn:=⟨[],fun _=>none⟩
def nL (c:Cn)(ts:List Du):Cn:=ts.foldl Cn.app c
def Zl:∀(k:Nat)(a b:List Du),DX k (a++b)=DX k a++DX (k+(a.map fun t=>t.new.length).sum) b
 |k,[],b=>by simp[DX]
 |k,t::a,b=>by
  simp only[jq,DX,kz,List.sum_cons];rw[Zl (k+t.new.length) a b,qa]
def qVw (c:Cn)(ts:List Du):(nL c ts).G.length=c.G.length+(ts.map fun t=>t.new.length).sum:=by
 induction ts generalizing c with
 |nil=>rfl
 |cons t ts ih=>
  show(nL (c.app t) ts).G.length=_
  rw[ih,kz,List.sum_cons]
  simp only[Cn.app,aa]
  omega
def nI {N:List UInt8->Option Nat}{x}:∀{l:List (List UInt8×Nat)},x∉l.map (·.1)->(l.foldl Cq N) x=N x:=by
 intro l;induction l generalizing N with
 |nil=>intro _;rfl
 |cons p l ih=>
  intro h
  rw[sj,ih (fun hm=>h (lg _ hm))]
  unfold Cq
  rw[if_neg fun e=>h (by rw[e];exact nk)]
def qFs {N:List UInt8->Option Nat}{p}:∀{l:List (List UInt8×Nat)},(l.map (·.1)).Nodup->p∈l->(l.foldl Cq N) p.1=some p.2:=by
 intro l;induction l generalizing N with
 |nil=>intro _ h;cases h
 |cons q l ih=>
  intro hn h
  have hA:=uq.1 hn
  rw[sj]
  rcases di.1 h with rfl| h
  ·rw[nI hA.1]
   unfold Cq
   rw[if_pos rfl]
  exact ih hA.2 h
def qUa {N:List UInt8->Option Nat}{x}:∀{l:List (List UInt8)},(l.foldl FC N) x=if x∈l then none else N x:=by
 intro l;induction l generalizing N with
 |nil=>rfl
 |cons n l ih=>
  rw[sj,ih]
  unfold FC
  by_cases h1:x∈l
  ·rw[if_pos h1,if_pos (lg _ h1)]
  rw[if_neg h1]
  by_cases h2:x=n
  ·rw[if_pos h2,if_pos (by rw[h2];exact nk)]
  rw[if_neg h2,if_neg fun h=>by rcases di.1 h with h|h;exact h2 h;exact h1 h]
structure He (L:List Rl)(V:List Nat)(f:List UInt8->Option Nat)(ch:List UInt8->Bool)(c:Cn):Prop where
 lis:Fv L V
 gr:c.G=Cs L V
 nm:∀x,ch x=false->c.N x=(f x).map (Bh V)
 inV:∀x id,ch x=false->f x=some id->id=0\/id∈V
 ids:∀x id,f x=some id->id<=L.length
def Zf {L V W}(h:Fv L V)(h2:Fv L (V++W)):Cs L (V++W)=Cs L V++(Cs L (V++W)).drop V.length:=by
 have e:Cs L V=(Cs L (V++W)).take V.length:=by
  apply mh;intro i;rw[ni];by_cases hi:i<V.length
  ·rw[if_pos hi];obtain⟨x,hx⟩:∃x,V[i]?=some x:=⟨_,ag hi⟩;obtain⟨n,q,rfl,hq,hk⟩:=h.mem (ak hx);rw[rR hx hq,rR (ids:=V++W) (by rw[aj hi];exact hx) hq];congr 1;cases q with
   |letter b=>rfl
   |pair l r=>simp only[gP];rw[rV (hk l (by simp[BZ])),rV (hk r (by simp[BZ]))]
   |power y k=>simp only[gP];rw[rV (hk y (by simp[BZ]))]
  rw[if_neg hi,oL.2 (by rw[kV];omega)]
 conv=>lhs;rw[<-dh V.length (Cs L (V++W)),<-e]
def Cz (L:List Rl)(V W:List Nat)(f:List UInt8->Option Nat)(l:List (List UInt8)):Du:=
 ⟨(Cs L (V++W)).drop V.length,l.filterMap (fun x=>(f x).map fun id=>(x,Bh (V++W) id)),l.filter fun x=>(f x).isNone⟩
def He.commit {L V W}{f:List UInt8->Option Nat}{ch:List UInt8->Bool}{c}(h:He L V f ch c){l}(hl:l.Nodup)(hm:∀x,x∈l↔ch x=true) (hW:Fv L (V++W)) (hC:∀x id,ch x=true->f x=some id->id=0\/id∈V++W):
  He L (V++W) f (fun _=>false) (c.app (Cz L V W f l)):=by
 have h0:=hW.zero
 have hB:∀x id,f x=some id->id=0\/id∈V++W:=fun x id hf=>by
  cases hc:ch x with
  |true=>exact hC x id hc hf
  |false=>rcases h.inV x id hc hf with e|e;exact .inl e;exact .inr (cu _ e)
 refine⟨hW,?_,fun x _=>?_,fun x id _ hf=>hB x id hf,h.ids⟩
 ·show c.G++(Cs L (V++W)).drop V.length=_;rw[h.gr];exact(Zf h.lis hW).symm
 show(List.foldl FC (List.foldl Cq c.N (l.filterMap fun x=>(f x).map fun id=>(x,Bh (V++W) id))) (l.filter fun x=>(f x).isNone)) x=_;rw[qUa]
 have hA:(l.filterMap fun x=>(f x).map fun id=>(x,Bh (V++W) id)).map (·.1)=l.filter fun x=>(f x).isSome:=by
  clear hl hm;induction l with
  |nil=>rfl
  |cons a l ih=>
   cases hf:f a with
   |none=>rw[AO (by rw[hf];rfl),xw (by rw[hf];simp),ih]
   |some id=>rw[qw (by rw[hf];rfl),xx (by rw[hf];rfl),kz,ih]
 cases hf:f x with
 |none=>
  by_cases hx:x∈l
  ·rw[if_pos (ow.2 ⟨hx,by rw[hf];rfl⟩)];rfl
  rw[if_neg fun hc=>hx (ow.1 hc).1,nI (by rw[hA];exact fun hc=>hx (ow.1 hc).1)]
  have hc:ch x=false:=by cases e:ch x with |true=>exact absurd ((hm x).2 e) hx|false=>rfl
  rw[h.nm x hc,hf];rfl
 |some id=>
  rw[if_neg fun hc=>by have:=(ow.1 hc).2;rw[hf]at this;cases this]
  by_cases hx:x∈l
  ·have:=qFs (N:=c.N) (p:=(x,Bh (V++W) id)) (by rw[hA];exact hl.sublist List.filter_sublist) (List.mem_filterMap.2 ⟨x,hx,by rw[hf];rfl⟩)
   exact this
  rw[nI (by rw[hA];exact fun hc=>hx (ow.1 hc).1)]
  have hc:ch x=false:=by cases e:ch x with |true=>exact absurd ((hm x).2 e) hx|false=>rfl
  rw[h.nm x hc,hf]
  show some (Bh V id)=some (Bh (V++W) id)
  rcases h.inV x id hc hf with rfl| e
  ·rw[gH.2 h.lis.zero,gH.2 h0]
  rw[rV e]
end
section
open Go Go.RowKit Sl Eg
def Ga (n:Nat):List Nat:=(List.range n).map (· +1)
def Tj (n:Nat):(Ga n).length=n:=by simp[Ga]
def Tw {n i}(h:i<n):(Ga n)[i]?=some (i+1):=by unfold Ga;rw[bn,lu h];rfl
def VS {n x}:x∈Ga n↔1<=x/\x<=n:=by
 unfold Ga;rw[jg];refine⟨fun⟨a,h,e⟩=>?_,fun h=>⟨x-1,oC.2 oO,oO⟩⟩;have:=oC.1 h;omega
def qMl (n:Nat):(Ga n).Nodup:=by
 unfold Ga;rw[oo,wu];exact(oo.1 List.nodup_range).imp fun h e=>h oO
def VD {n x}(h:x<=n):Bh (Ga n) x=x:=by
 rcases jo x with rfl|h0
 ·exact gH.2 fun h=>by have:=(VS.1 h).1;omega
 have hm:=VS.2 ⟨h0,h⟩;have h1:=xE hm;have h2:=VE hm;have h3:=qG (Ga n) x;rw[Tj]at h3;rw[Tw oO]at h1;have:=oH h1;omega
def OT {G}(hw:Wf G):Fv G (Ga G.length):=by
 refine⟨hw,⟨qMl _,fun y hy=>VS.1 hy⟩,fun A n B r e hr k hk=>?_⟩
 have hl:A.length<G.length:=by
  have:=au List.length e;rw[Tj,aa,az]at this;omega
 have h1:(Ga G.length)[A.length]?=some (n+1):=by rw[e];simp
 rw[Tw hl]at h1;have h2:A.length=n:=by have:=oH h1;omega
 have h3:=kH (hw.ok _ _ hr) k hk
 have h4:1<=k:=by
  have:=hw.ok _ _ hr;cases r with
  |letter b=>simp[BZ]at hk
  |pair l r=>
   obtain⟨a1,a2,a3,a4⟩:=this
   simp[BZ]at hk
   rcases hk with rfl|rfl<;>omega
  |power y t=>
   obtain⟨a1,a2,a3⟩:=this
   simp[BZ]at hk
   omega
 have h5:A=(Ga G.length).take A.length:=by rw[e];simp
 rw[h5];obtain⟨m,rfl⟩:∃m,k=m+1:=⟨k-1,oO⟩;refine ak (i:=m) ?_;rw[ni,if_pos oO];exact Tw oO
def Kk {G}(hw:Wf G):Cs G (Ga G.length)=G:=by
 apply mh;intro i;by_cases hi:i<G.length
 ·obtain⟨r,hr⟩:∃r,G[i]?=some r:=⟨_,ag hi⟩;rw[rR (Tw hi) hr,hr];have hk:=kH (hw.ok _ _ hr);congr 1;cases r with
  |letter b=>rfl
  |pair l r=>simp only[gP];rw[VD (by have:=hk l (by simp[BZ]);omega),VD (by have:=hk r (by simp[BZ]);omega)]
  |power y k=>simp only[gP];rw[VD (by have:=hk y (by simp[BZ]);omega)]
 rw[oL.2 (by rw[kV,Tj];omega),oL.2 oO]
def qYm {L1 L2}(w1:Wf L1)(w2:Wf L2){x y}(h:Ey L1 L2 x y):Eg.txt L1 x=Eg.txt L2 y:=by
 induction h with
 |letter h1 h2=>rw[fP h1,fP h2]
 |pair h1 h2 _ _ i1 i2=>rw[iK h1 (w1.ok _ _ h1),iK h2 (w2.ok _ _ h2),i1,i2]
 |power h1 h2 _ i=>rw[iY h1 (w1.ok _ _ h1),iY h2 (w2.ok _ _ h2),i]
def Yn (L:List Rl)(f:List UInt8->Option Nat):List UInt8->Option (List UInt8):=fun x=>(f x).map (txt L)
def He.reopen {L V}{f:List UInt8->Option Nat}{c}(h:He L V f (fun _=>false) c):Wf c.G/\He c.G (Ga c.G.length) c.N (fun _=>false) c/\Yn c.G c.N=Yn L f:=by
 have hw:Wf c.G:=by rw[h.gr];exact h.lis.gwf
 have hA:c.G.length=V.length:=by rw[h.gr,kV]
 have hN:∀x k,c.N x=some k->k<=c.G.length:=fun x k hk=>by
  rw[h.nm x rfl]at hk;cases hf:f x with
  |none=>rw[hf]at hk;cases hk
  |some id=>rw[hf]at hk;cases hk;rw[hA];exact qG V id
 refine⟨hw,⟨OT hw,(Kk hw).symm,fun x _=>?_,fun x id _ hx=>?_,hN⟩,?_⟩
 ·cases hx:c.N x with
  |none=>rfl
  |some k=>show some k=some (Bh _ k);rw[VD (hN x k hx)]
 ·have:=hN x id hx;rcases jo id with e| e
  ·exact .inl e
  exact .inr (VS.2 ⟨e,this⟩)
 funext x;unfold Yn;rw[h.nm x rfl];cases hf:f x with
 |none=>rfl
 |some id=>
  show some (txt c.G (Bh V id))=some (txt L id)
  congr 1
  rcases h.inV x id rfl hf with rfl| e
  ·rw[gH.2 h.lis.zero];rfl
  have:=qYm h.lis.wf h.lis.gwf (h.lis.iso id e)
  rw[<-h.gr]at this
  exact this.symm
end
section
open Go Go.RowKit Sl Eg
structure Gl (L:List Rl)(V St S A:List Nat):Prop where
 nd:S.Nodup
 rg:∀x∈S,1<=x/\x<=L.length
 dj:∀x∈S,x∉V
 st:∀x∈St,x<=L.length
 cl:∀n r,n+1∈S->L[n]?=some r->∀k∈BZ r,k∈S\/k∈V\/k∈St
 rt:∀x∈A,x=0\/x∈S\/x∈V\/x∈St
 re:∀x,x∈S\/x∈St->x=0\/∃a∈A,En L a x
def Gl.nil (L:List Rl)(V:List Nat):Gl L V [] [] []:=⟨.nil,fun x h=>(by cases h),fun x h=>(by cases h),fun x h=>(by cases h),fun n r h=>(by cases h),fun x h=>(by cases h),fun x h=>(by rcases h with h|h<;>cases h)⟩
variable {L:List Rl}{V St S A:List Nat}
def Gl.len (h:Gl L V St S A):S.length<=L.length:=DU.len ⟨h.nd,h.rg⟩
def Gl.push (h:Gl L V St S A){id}(hA:id<=L.length):Gl L V (St++[id]) S (A++[id]):=by
 refine⟨h.nd,h.rg,h.dj,fun x hx=>?_,fun n r hn hr k hk=>?_,fun x hx=>?_,fun x hx=>?_⟩
 ·rcases ay.1 hx with hx|hx
  ·exact h.st x hx
  simp at hx;omega
 ·rcases h.cl n r hn hr k hk with e|e| e
  ·exact .inl e
  ·exact .inr (.inl e)
  exact .inr (.inr (cu _ e))
 ·rcases ay.1 hx with hx|hx
  ·rcases h.rt x hx with e|e|e| e
   ·exact .inl e
   ·exact .inr (.inl e)
   ·exact .inr (.inr (.inl e))
   exact .inr (.inr (.inr (cu _ e)))
  exact .inr (.inr (.inr (jy _ hx)))
 have key:x∈S\/x∈St->x=0\/∃a∈A++[id],En L a x:=fun hy=>by
  rcases h.re x hy with e|⟨a,ha,hr⟩
  ·exact .inl e
  exact .inr ⟨a,cu _ ha,hr⟩
 rcases hx with hx|hx
 ·exact key (.inl hx)
 rcases ay.1 hx with hx|hx
 ·exact key (.inr hx)
 obtain rfl:=bg.1 hx;rcases jo x with e| e
 ·exact .inl e
 obtain⟨n,rfl⟩:∃n,x=n+1:=⟨x-1,oO⟩;exact .inr ⟨n+1,jy _ BF,.self oO⟩
def Gl.skip {id}(h:Gl L V (St++[id]) S A)(hw:Wf L)(hid:id=0\/id∈S\/id∈V):Gl L V St S A:=by
 refine⟨h.nd,h.rg,h.dj,fun x hx=>h.st x (cu _ hx),fun n r hn hr k hk=>?_,fun x hx=>?_,fun x hx=>h.re x (hx.imp_right (cu _))⟩
 ·have hA:=(kH (hw.ok n r hr) k hk).1;rcases h.cl n r hn hr k hk with e|e| e
  ·exact .inl e
  ·exact .inr (.inl e)
  rcases ay.1 e with e| e
  ·exact .inr (.inr e)
  simp at e;subst e;rcases hid with hid|hid|hid
  ·omega
  ·exact .inl hid
  exact .inr (.inl hid)
 rcases h.rt x hx with e|e|e| e
 ·exact .inl e
 ·exact .inr (.inl e)
 ·exact .inr (.inr (.inl e))
 rcases ay.1 e with e| e
 ·exact .inr (.inr (.inr e))
 simp at e;subst e;rcases hid with hid|hid|hid
 ·exact .inl hid
 ·exact .inr (.inl hid)
 exact .inr (.inr (.inl hid))
def Gl.take {n r}(h:Gl L V (St++[n+1]) S A)(hw:Wf L)(hr:L[n]?=some r)(h1:n+1∉S)(h2:n+1∉V):Gl L V (St++BZ r) (S++[n+1]) A:=by
 have hn:=(ae.1 hr).1;refine⟨?_,fun x hx=>?_,fun x hx=>?_,fun x hx=>?_,fun m q hm hq k hk=>?_,fun x hx=>?_,fun x hx=>?_⟩
 ·rw[ng];exact⟨h.nd,by simp,fun a ha b hb e=>by simp at hb;subst hb;subst e;exact h1 ha⟩
 ·rcases ay.1 hx with hx|hx
  ·exact h.rg x hx
  simp at hx;omega
 ·rcases ay.1 hx with hx|hx
  ·exact h.dj x hx
  simp at hx;subst hx;exact h2
 ·rcases ay.1 hx with hx|hx
  ·exact h.st x (cu _ hx)
  have:=(kH (hw.ok n r hr) x hx).2;omega
 ·rcases ay.1 hm with hm|hm
  ·rcases h.cl m q hm hq k hk with e|e| e
   ·exact .inl (cu _ e)
   ·exact .inr (.inl e)
   rcases ay.1 e with e| e
   ·exact .inr (.inr (cu _ e))
   exact .inl (jy _ e)
  simp at hm;subst hm;rw[hr]at hq;cases hq
  exact .inr (.inr (jy _ hk))
 ·rcases h.rt x hx with e|e|e| e
  ·exact .inl e
  ·exact .inr (.inl (cu _ e))
  ·exact .inr (.inr (.inl e))
  rcases ay.1 e with e| e
  ·exact .inr (.inr (.inr (cu _ e)))
  exact .inr (.inl (jy _ e))
 rcases hx with hx|hx
 ·rcases ay.1 hx with hx|hx
  ·exact h.re x (.inl hx)
  obtain rfl:=bg.1 hx;exact h.re (n+1) (.inr (jy _ BF))
 rcases ay.1 hx with hx|hx
 ·exact h.re x (.inr (cu _ hx))
 rcases h.re (n+1) (.inr (jy _ BF))with e|⟨a,ha,h2⟩
 ·omega
 exact .inr ⟨a,ha,h2.step hr hx hw⟩
def Gl.rea {W:List Nat}(h:Gl L V [] S A)(hp:W.Perm S):∀x∈W,∃a∈A,En L a x:=fun x hx=>by
 have hA:=hp.mem_iff.1 hx;rcases h.re x (.inl hA)with e| e
 ·have:=(h.rg x hA).1;omega
 exact e
def Gl.lis {W}(h:Gl L V [] S A)(hV:Fv L V)(hp:W.Perm S)(hs:W.Pairwise (· <= ·)):Fv L (V++W)/\∀x∈A,x=0\/x∈V++W:=by
 have hw:=hV.wf;have hm:∀x,x∈W↔x∈S:=fun x=>hp.mem_iff
 have key:∀A' n B r,W=A'++(n+1)::B->L[n]?=some r->∀k∈BZ r,k∈V++A':=fun A' n B r e hr k hk=>by
  have hC:=(kH (hw.ok n r hr) k hk).2;have hB:n+1∈S:=(hm _).1 (by rw[e];simp);rcases h.cl n r hB hr k hk with e1|e1|e1
  ·have hA:=(hm k).2 e1;rw[e]at hA hs;rcases ay.1 hA with h2|h2
   ·exact jy _ h2
   exfalso;rcases di.1 h2 with h2|h2
   ·omega
   have:=(List.pairwise_cons.1 (uw.1 hs).2.1).1 k h2;omega
  ·exact cu _ e1
  cases e1
 refine⟨⟨hw,⟨?_,fun x hx=>?_⟩,fun A' n B r e hr k hk=>?_⟩,fun x hx=>?_⟩
 ·rw[ng];exact⟨hV.acc.1,hp.nodup_iff.2 h.nd,fun a ha b hb e=>h.dj b ((hm b).1 hb) (e▸ha)⟩
 ·rcases ay.1 hx with hx|hx
  ·exact hV.acc.2 x hx
  exact h.rg x ((hm x).1 hx)
 ·rcases List.append_eq_append_iff.1 e with⟨C,e1,e2⟩|⟨C,e1,e2⟩
  ·rw[e1];exact key C n B r e2 hr k hk
  cases C with
  |nil=>
   rw[ax]at e1
   rw[<-e1]
   have:=key [] n B r e2.symm hr k hk
   rwa [ax]at this
  |cons c C=>
   injection e2 with e3 e4
   subst e3
   exact hV.ord A' n C r e1 hr k hk
 rcases h.rt x hx with e|e|e| e
 ·exact .inl e
 ·exact .inr (jy _ ((hm x).2 e))
 ·exact .inr (cu _ e)
 cases e
end
section
open Go Go.RowKit Sl Eg
def Iw (L:List Rl)(V W:List Nat)(k:Nat):List Rl:=((Cs L (V++W)).drop V.length).take k
def Kj (L:List Rl)(V W:List Nat):Iw L V W 0=[]:=oJ
def OA (L:List Rl)(V W:List Nat):Iw L V W W.length=(Cs L (V++W)).drop V.length:=by
 unfold Iw;rw[fe];rw[lw,kV,aa];omega
def OB {L V W k}(h:k<=W.length):(Iw L V W k).length=k:=by
 unfold Iw;rw[ig,lw,kV,aa];omega
def JP {V W:List Nat}{k x:Nat}(h:W[k]?=some x):(V++W)[V.length+k]?=some x:=by
 rw[bi oO,show V.length+k-V.length=k by omega];exact h
def qXu {L:List Rl}{V W:List Nat}{k i:Nat}{r:Rl}(hx:W[k]?=some (i+1))(hr:L[i]?=some r):FR V.length (Iw L V W (k+1))=FR V.length (Iw L V W k)++Co (V.length+k+1) (gP (V++W) r):=by
 have hk:=(ae.1 hx).1
 have e:Iw L V W (k+1)=Iw L V W k++[gP (V++W) r]:=by
  unfold Iw;rw[ed,om,rR (JP hx) hr];rfl
 rw[e,wV,OB oO];simp[FR]
def qMh {p:List UInt8->Bool}{l:List (List UInt8)}{i:Nat}{x:List UInt8}(h:l[i]?=some x)(hp:p x=true):(l.take (i+1)).filter p=(l.take i).filter p++[x]:=by
 rw[ed,h,List.filter_append];congr 1;show List.filter p [x]=[x];rw[xx hp,List.filter_nil]
def qMg {p:List UInt8->Bool}{l:List (List UInt8)}{i:Nat}{x:List UInt8}(h:l[i]?=some x)(hp:p x=false):(l.take (i+1)).filter p=(l.take i).filter p:=by
 rw[ed,h,List.filter_append];show _++List.filter p [x]=_;rw[xw (by rw[hp];simp),List.filter_nil,ax]
def JB (I:List Nat)(f:List UInt8->Option Nat)(l:List (List UInt8)):List (List UInt8×Nat):=l.filterMap fun x=>(f x).map fun id=>(x,Bh I id)
def ZV (I:List Nat)(f:List UInt8->Option Nat)(l:List (List UInt8)):JB I f (l.filter fun x=>(f x).isSome)=JB I f l:=by
 unfold JB;induction l with
 |nil=>rfl
 |cons a l ih=>
  cases h:f a with
  |none=>rw[xw (by rw[h];simp),AO (by rw[h];rfl),ih]
  |some id=>rw[xx (by rw[h];rfl),qw (by rw[h];rfl),qw (by rw[h];rfl),ih]
def zAl (I:List Nat){f:List UInt8->Option Nat}{l}(h:∀x∈l,∃id,f x=some id):(JB I f l).length=l.length:=by
 unfold JB;induction l with
 |nil=>rfl
 |cons a l ih=>
  obtain⟨id,hA⟩:=h a nk
  rw[qw (by rw[hA];rfl),az,az,ih fun x hx=>h x (lg _ hx)]
def qUy (I:List Nat){f:List UInt8->Option Nat}{l:List (List UInt8)}{i id:Nat}{x:List UInt8}(h:l[i]?=some x)(hA:f x=some id):GY (JB I f (l.take (i+1)))=GY (JB I f (l.take i))++eY x++BS (Bh I id):=by
 unfold JB;rw[ed,h,List.filterMap_append]
 have:List.filterMap (fun x=>(f x).map fun id=>(x,Bh I id)) (some x).toList=[(x,Bh I id)]:=by
  show List.filterMap _ [x]=_;rw[qw (by rw[hA];rfl),List.filterMap_nil]
 rw[this];simp[GY]
def KR {l:List (List UInt8)}{i:Nat}{x:List UInt8}(h:l[i]?=some x):Mw (l.take (i+1))=Mw (l.take i)++eY x:=by
 rw[ed,h];simp[Mw]
def Ja {L V W}{f:List UInt8->Option Nat}{l}:
  (Cz L V W f l).body V.length=BS W.length++FR V.length (Iw L V W W.length)++BS (l.filter fun x=>(f x).isSome).length++GY (JB (V++W) f (l.filter fun x=>(f x).isSome))++BS (l.filter fun x=>(f x).isNone).length++Mw (l.filter fun x=>(f x).isNone):=by
 unfold Du.body Cz;simp only;have h1:((Cs L (V++W)).drop V.length).length=W.length:=by rw[lw,kV,aa];omega
 have h2:(JB (V++W) f l).length=(l.filter fun x=>(f x).isSome).length:=by
  rw[<-ZV]
  exact zAl _ fun x hx=>by
   have:=(ow.1 hx).2;cases e:f x with
   |none=>rw[e]at this;cases this
   |some id=>exact⟨id,rfl⟩
 rw[h1,OA,ZV,<-h2];simp only[ah];rfl
end
section
open Go Go.RowKit Sl
def Je (x:Nat):Nat:=if x%2=1 then(x/2)^^^2197175160 else x/2
def Si (i:Nat):Nat:=Je (Je (Je (Je i)))
def Qp (s:Nat):Nat:=(s/16)^^^Si (s%16)
def Ul (s:Nat)(c:UInt8):Nat:=Qp (Qp (s^^^c.toNat))
def NU (l:List UInt8):Nat:=l.foldl Ul 4294967295
def Ij (l:List UInt8):Nat:=4294967295^^^NU l
def UA {a b}(ha:a<4294967296)(hb:b<4294967296):a^^^b<4294967296:=ul (n:=32) ha hb
def Tv {x}(h:x<4294967296):Je x<4294967296:=by
 unfold Je;split
 ·exact UA oO oO
 omega
def Yd {x}(h:x<4294967296):Si x<4294967296:=Tv (Tv (Tv (Tv h)))
def Yc {s}(h:s<4294967296):Qp s<4294967296:=UA oO (Yd oO)
def Qo {s}(c:UInt8)(h:s<4294967296):Ul s c<4294967296:=Yc (Yc (UA h (by have:=c.toNat_lt;omega)))
def qMi:∀(l:List UInt8){s:Nat},s<4294967296->l.foldl Ul s<4294967296
 |[],_,h=>h
 |c::l,_,h=>qMi l (Qo c h)
def Yb (l:List UInt8):NU l<4294967296:=qMi l oO
def Jf (l:List UInt8):Ij l<4294967296:=UA oO (Yb l)
def Jd {l:List UInt8}{i:Nat}{c:UInt8}(h:l[i]?=some c):NU (l.take (i+1))=Ul (NU (l.take i)) c:=by
 unfold NU;rw[ed,h];simp
def Gx (n:Nat):List UInt8:=[UInt8.ofNat (n/16777216),UInt8.ofNat (n/65536),UInt8.ofNat (n/256),UInt8.ofNat n]
def sM (n:Nat):(Gx n).length=4:=rfl
def Ym (a b c d:UInt8):Nat:=a.toNat*16777216+b.toNat*65536+c.toNat*256+d.toNat
def JV {n}(h:n<4294967296):Ym (UInt8.ofNat (n/16777216)) (UInt8.ofNat (n/65536)) (UInt8.ofNat (n/256)) (UInt8.ofNat n)=n:=by
 unfold Ym;simp only[UInt8.toNat_ofNat'];omega
def Et (p:List UInt8):List UInt8:=Gx p.length++(Gx (Ij p)++p)
def wZ (p:List UInt8):(Et p).length=p.length+8:=by
 unfold Et;rw[aa,aa,sM,sM];omega
def DV (ps:List (List UInt8)):List UInt8:=ps.flatMap Et
def vU (a b:List (List UInt8)):DV (a++b)=DV a++DV b:=by unfold DV;rw[List.flatMap_append]
def YK (p:List UInt8):DV [p]=Et p:=by unfold DV;simp
end
end Go.Proofs.YtnicahfnolhgbaaGreatDoor
namespace Sl
open Go Go.RowKit
variable {E:Bp}{n:Nat}{L:Fr}{S:List HP}{ty:TypeId}{pos:String}{af:Array Edge}{d:Option Nat}{gd:Option (Nat×Bool)}
def Vm {x y}{xt yt:TypeId}{i j}(hx:ev L x=some (.int .u32 (i:Nat)))(hy:ev L y=some (.int .u32 (j:Nat)))(hi:i<4294967296)(hj:j<4294967296):
  Yl E n L S ⟨d,.binOp .xor xt x y yt,ty,pos,af,gd⟩ (.int .u32 ((i^^^j:Nat):Int)):=fun a w g _=>by
 have h:=Go.u32_xor_nat i j hi hj;simp[execOp,eqGuard,binOp,Op.intBits,g.ev hx,g.ev hy];exact h
def Yx {x y}{xt yt:TypeId}{i j}(hx:ev L x=some (.int .u32 (i:Nat)))(hy:ev L y=some (.int .u32 (j:Nat)))(hi:i<4294967296)(hj:j<4294967296):
  Yl E n L S ⟨d,.binOp .or xt x y yt,ty,pos,af,gd⟩ (.int .u32 ((i|||j:Nat):Int)):=fun a w g _=>by
 have h:=Go.u32_or_nat i j hi hj;simp[execOp,eqGuard,binOp,Op.intBits,g.ev hx,g.ev hy];exact h
def Pe {x y}{xt yt:TypeId}{i j k}(hx:ev L x=some (.int .u32 (i:Nat)))(hy:ev L y=some (.int .u32 (j:Nat)))(hi:i<4294967296)(hk:j=2^k-1)(hj:j<4294967296):
  Yl E n L S ⟨d,.binOp .and xt x y yt,ty,pos,af,gd⟩ (.int .u32 ((i%2^k:Nat):Int)):=fun a w g _=>by
 have h:=Go.u32_and_nat i j hi hj;rw[hk,vv]at h;subst hk;simp[execOp,eqGuard,binOp,Op.intBits,g.ev hx,g.ev hy];exact h
def YA {x y}{xt yt:TypeId}{i}(j k m:Nat)(hx:ev L x=some (.int .u32 (i:Nat)))(hy:ev L y=some (.int .u32 (j:Nat)))(hi:i<4294967296)(hk:j=2^k-1)(hm:2^k=m)(hj:j<4294967296):
  Yl E n L S ⟨d,.binOp .and xt x y yt,ty,pos,af,gd⟩ (.int .u32 ((i%m:Nat):Int)):=by subst hm;exact Pe hx hy hi hk hj
def sJ {x y}{xt yt:TypeId}{i ky}(j m:Nat)(hx:ev L x=some (.int .u32 (i:Nat)))(hy:ev L y=some (.int ky (j:Nat)))(hj:j<=32)(hm:2^j=m):
  Yl E n L S ⟨d,.binOp .shr xt x y yt,ty,pos,af,gd⟩ (.int .u32 ((i/m:Nat):Int)):=by subst hm;exact rA hx hy hj
def Pk {x y}{xt yt:TypeId}{i j ky}(hx:ev L x=some (.int .u32 (i:Nat)))(hy:ev L y=some (.int ky (j:Nat)))(hj:j<=32)(hi:i*2^j<4294967296):
  Yl E n L S ⟨d,.binOp .shl xt x y yt,ty,pos,af,gd⟩ (.int .u32 ((i*2^j:Nat):Int)):=fun a w g _=>by
 have h:=shift_shl_any .u32 ky (i:Int) ((j:Nat):Int) (oP j);have hc:((i*2^j:Nat):Int)=(i:Int)*2^j:=by rw[nz,qb];rfl
 have e2:IntKind.u32.wrap ((i:Int)*2^j)=(i:Int)*2^j:=by rw[Go.IntKind.wrap_u32',<-hc];omega
 have e:IntKind.u32.wrap ((i:Int)*2^min ((j:Nat):Int).toNat IntKind.u32.bits)=((i*2^j:Nat):Int):=by
  rw[ny,show min j IntKind.u32.bits=j from lm hj,e2,hc]
 rw[e]at h;simp[execOp,eqGuard,binOp,g.ev hx,g.ev hy,h,e2]
def YB {x y:Operand}{xt yt:TypeId}{i:Nat}{ky:IntKind}(j m:Nat)(hx:ev L x=some (.int .u32 (i:Nat)))(hy:ev L y=some (.int ky (j:Nat)))(hj:j<=32)(hm:2^j=m)(hi:i*m<4294967296):
  Yl E n L S ⟨d,.binOp .shl xt x y yt,ty,pos,af,gd⟩ (.int .u32 ((i*m:Nat):Int)):=by subst hm;exact Pk hx hy hj hi
def Pf {x}{xt:TypeId}{i}(hx:ev L x=some (.int .u32 (i:Nat)))(hi:i<4294967296):
  Yl E n L S ⟨d,.unOp .xor xt x,ty,pos,af,gd⟩ (.int .u32 ((4294967295^^^i:Nat):Int)):=fun a w g _=>by
 have h:=Go.u32_xor_nat 4294967295 i oO hi;simp[execOp,g.ev hx,Op.unary,Op.intBits,IntKind.signed,IntKind.max];exact h
def IR {i}(h0:0<=i)(h1:i<4294967296):IntKind.u32.wrap i=i:=by rw[Go.IntKind.wrap_u32'];omega
def wI (i:Nat):IntKind.u8.wrap (i:Int)=((UInt8.ofNat i).toNat:Nat):=by
 rw[IntKind.wrap_u8,UInt8.toNat_ofNat'];omega
end Sl
namespace Go.Proofs.YtnicahfnolhgbaaGreatDoor
open Go Go.RowKit Go.Extern.Stop Go.Stop Go.Extern Go.Extern.Rtype Sl
set_option maxRecDepth 10000
def Kr (v:Value)(w:World):(Extern.ReflectliteType.typeOf #[.iface 78 v]).run Tryz.prog w= .ok (.iface 192 (.agg #[.pointer (some ⟨1,78,none⟩)])) w:=by kernel_rfl
def qMm (w : World) : ((Extern.ReflectliteType.method fun t => do noPackHeld "Comparable" t; (fun a => Value.bool a.comparable) <$> typeInfo t) #[.agg #[.pointer (some ⟨1, 78, none⟩)]]).run Tryz.prog w = .ok (.bool true) w := by kernel_rfl
def yN (v : Value) (w : World) : (Go.method 380 192 v "Comparable").run Tryz.prog w = .ok (266, v) w := by kernel_rfl
def Kt (w:World):Calls Tryz.prog 29 #[.iface 78 (BL 5),.iface 78 (BL 5)] w fun e w'=>e= .returned (.bool true)/\w'=w:=by
 have h8:= @run_callFunc_extern Tryz.prog 58 _ Extern.ReflectliteType.typeOf Tryz.func58 oK oK oK oK;have h32 := @run_callFunc_extern Tryz.prog 266 _ (Extern.ReflectliteType.method fun t => do noPackHeld "Comparable" t; pure (.bool (<- typeInfo t).comparable)) Tryz.func266 (by kernel_rfl) (by kernel_rfl) (by kernel_rfl) (by kernel_rfl);have tT:=Kr;have cT:=qMm;have mR:=yN;have hA:∀w,(binOp .eql 29 (.iface 78 (BL 5)) (.iface 78 (BL 5))).run Tryz.prog w= .ok (.bool true) w:=fun w=>by kernel_rfl
 go_enter Tryz.func29,Tryz.ntmps29
 go_wp2
 refine wp_loop_rounds 1 ?_;rw[rounds_succ];go_wp2
 go_ret
 exact⟨O,O⟩
def RN (v:Value)(w:World):Calls Tryz.prog 29 #[.nilIface,.iface 78 v] w fun e w'=>e= .returned (.bool false)/\w'=w:=by
 have hn:=run_eql_iface_nil_left (P:=Tryz.prog) w 78 v Tryz.underlying29;go_enter Tryz.func29,Tryz.ntmps29
 go_wp2
 go_ret
 exact⟨O,O⟩
variable {E:Bp}
def qWv (hE:BP E):Ct E 29 [.iface 78 (BL 5),.iface 78 (BL 5)] [] (fun v Q=>v= .bool true/\Q=[]):=
 rG fun w=>by rw[hE.P];exact(Kt w).mono fun e w'⟨h1,h2⟩=>⟨h1,h2.symm⟩
def Js (hE:BP E){v}:Ct E 29 [.nilIface,.iface 78 v] [] (fun u Q=>u= .bool false/\Q=[]):=
 rG fun w=>by rw[hE.P];exact(RN v w).mono fun e w'⟨h1,h2⟩=>⟨h1,h2.symm⟩
