import Derived.Test.YtnicahfnolhgbaaGreatDoorQ68
import Derived.Test.YtnicahfnolhgbaaGreatDoorQ73
import Derived.Test.YtnicahfnolhgbaaGreatDoorQ78
set_option linter.all false
set_option maxHeartbeats 1000000
namespace Go.Proofs.YtnicahfnolhgbaaGreatDoor
open Go Go.RowKit Sl Eg
def Xk {V x y}(hx:x∈V)(h:Bh V x=Bh V y):x=y:=by
 have h1:=xE hx;have hy:y∈V:=Classical.byContradiction fun hy=>gH.1 (h.trans (gH.2 hy)) hx
 have h2:=xE hy;rw[h,h2]at h1;exact(oH h1).symm
def VE {V x}(h:x∈V):1<=Bh V x:=by
 have:Bh V x≠0:=fun e=>gH.1 e h
 omega
structure Fv (L:List Rl)(V:List Nat):Prop where
 wf:Wf L
 acc:DU L V
 ord:II L V
variable {L:List Rl}{V:List Nat}
def Fv.closed (h:Fv L V):Ei L V:=h.ord.closed
def Fv.mem (h:Fv L V){x}(hx:x∈V):∃n r,x=n+1/\L[n]?=some r/\∀k∈BZ r,k∈V:=by
 have hb:=h.acc.2 x hx;obtain⟨n,rfl⟩:∃n,x=n+1:=⟨x-1,oO⟩;obtain⟨r,hr⟩:∃r,L[n]?=some r:=BG;exact⟨n,r,O,hr,h.closed n r hx hr⟩
def kV:(Cs L V).length=V.length:=jr _
def Fv.get (h:Fv L V){n r}(hx:n+1∈V)(hr:L[n]?=some r):∃i,Bh V (n+1)=i+1/\(Cs L V)[i]?=some (gP V r):=by
 have h1:=VE hx;refine⟨Bh V (n+1)-1,oO,rR (xE hx) hr⟩
def Fv.zero (h:Fv L V):0∉V:=fun h0=>by have:=(h.acc.2 0 h0).1;omega
def Fv.one (h:Fv L V){i r}(hr:(Cs L V)[i]?=some r):∃n q,V[i]?=some (n+1)/\L[n]?=some q/\r=gP V q/\Bh V (n+1)=i+1:=by
 have hB:i<V.length:=by have:=(ae.1 hr).1;rwa [kV]at this
 obtain⟨x,hA⟩:∃x,V[i]?=some x:=⟨_,ag hB⟩;have hm:=ak hA;obtain⟨n,q,rfl,hq,_⟩:=h.mem hm;rw[rR hA hq]at hr;refine⟨n,q,hA,hq,(oH hr).symm,?_⟩;have h1:=xE hm;have h2:=VE hm;have h3:=qG V (n+1)
 have:Bh V (n+1)-1=i:=by
  have hC:=h.acc.1;exact(List.getElem?_inj oO hC).1 (h1.trans hA.symm)
 omega
def qZx {q q'}(h1:∀k∈BZ q,k∈V) (h2:∀k∈BZ q',k∈V) (h:gP V q=gP V q'):q=q':=by
 cases q<;>cases q'<;>simp only[gP,Rl.letter.injEq,Rl.pair.injEq,Rl.power.injEq,reduceCtorEq]at h
 ·rw[h]
 ·rw[Xk (h1 _ (by simp[BZ])) h.1,Xk (h1 _ (by simp[BZ])) h.2]
 rw[Xk (h1 _ (by simp[BZ])) h.1,h.2]
def Fv.gwf (h:Fv L V):Wf (Cs L V):=by
 have hA:=qYj h.wf h.acc h.ord;refine⟨fun i r hr=>by have:=hA i r hr;rwa [jh]at this,fun i j r hi hj=>?_,fun i=>?_,by rw[kV];exact jv h.acc.len h.wf.room⟩
 ·obtain⟨n,q,v1,q1,e1,m1⟩:=h.one hi;obtain⟨n',q',v2,q2,e2,m2⟩:=h.one hj;have k1:=h.closed n q (ak v1) q1;have k2:=h.closed n' q' (ak v2) q2;obtain rfl:=qZx k1 k2 (e1.symm.trans e2);obtain rfl:=h.wf.nodup _ _ _ q1 q2;omega
 rcases fw (Cs L V).length i with hi|hi
 ·rw[Tm hi];exact av _
 cases i with
 |zero=>rw[Xh];exact av _
 |succ i=>
  obtain⟨r,hr⟩:∃r,(Cs L V)[i]?=some r:=BG
  obtain⟨n,q,v1,q1,e1,m1⟩:=h.one hr
  have:=MQ h.wf h.acc h.ord (n+1) (.inr (ak v1))
  rw[m1]at this
  unfold len
  rw[this]
  exact h.wf.short (n+1)
def Fv.iso (h:Fv L V):∀x,x∈V->Ey L (Cs L V) x (Bh V x):=by
 intro x;induction x using Nat.strongRecOn with
 |ind x ih=>
  intro hx
  obtain⟨n,r,rfl,hr,hk⟩:=h.mem hx
  obtain⟨i,e,hg⟩:=h.get hx hr
  have hA:=kH (h.wf.ok _ _ hr)
  rw[e]
  cases r with
  |letter b=>exact .letter hr hg
  |pair a b=>exact .pair hr hg (ih a (hA a (by simp[BZ])).2 (hk a (by simp[BZ]))) (ih b (hA b (by simp[BZ])).2 (hk b (by simp[BZ])))
  |power a t=>exact .power hr hg (ih a (hA a (by simp[BZ])).2 (hk a (by simp[BZ])))
end Go.Proofs.YtnicahfnolhgbaaGreatDoor
namespace Sl
open Go Go.RowKit
variable {E:Bp}{n:Nat}{L:Fr}{H:List HP}{ty:TypeId}{pos:String}{af:Array Edge}{d:Option Nat}{gd:Option (Nat×Bool)}{K:Value->List HP->Prop}
def LC {x}{t e:TypeId}{c by_ sz sz' zs v0 kk}(ht:E.tab t=some ⟨.slice e 1 by_,sz,zs⟩)(he:E.tab e=some ⟨kk,sz',[v0]⟩)
  (hx:ev L x=some (BK c)) (hb:by_*c<=281474976710656) (hc:c<=maxLen)
  (hk:∀b,K (.slice (BM b) c c) (sl (BM b) c e 1 c (List.replicate c v0)::H)):Ld E n L H ⟨d,.makeSlice t x x,ty,pos,af,gd⟩ K:=fun Q next a w G hn=>by
 obtain⟨hu,j,hj,hs,hB⟩:=fD ht;obtain⟨i,z,hi,hG,hC,hD,_⟩:=fC he;obtain rfl:i=j:=by rw[hi]at hj;simpa using hj
 subst hB
 have hE:z.cells= #[v0]:=by
  apply xf.1;rw[hD]
 have hF:(c:Int)<=9223372036854775807:=by have h:=hc;simp[maxLen]at h;omega
 have hr:=run_make (P:=E.P) w t e i z hu hi hC .i64 .i64 (c:Int) (c:Int) (oP c) (yu _) (by rw[<-nz];omega) hF
 have hA:(execOp a.eval ⟨d,.makeSlice t x x,ty,pos,af,gd⟩).run E.P w= .ok (.value (.slice (BM w.heap.size) c c)) (w.alloc (.cells (madeCells z.cells (c*i.size)) e)):=by
  simp[execOp,G.f.ev hx,hr]
 unfold Oper.wp;rw[hA,Oper.upon_value]
 have hM:(madeCells z.cells (c*i.size)).toList=List.replicate c v0:=by
  rw[hE,hs,oV];apply mh;intro k;rcases fw k c with hk|hk
  ·rw[xy,if_pos hk];simp[madeCells,hk,Nat.mod_one]
  rw[ku (by simpa[size_madeCells]using hk),ku (by simpa using hk)]
 have hz:(madeCells z.cells (c*i.size)).size=c*1:=by rw[size_madeCells,hs]
 generalize madeCells z.cells (c*i.size)=M at*;refine hn _ _ _ (hk _) ?_;have:=G.hp.new (.cells M e)
 exact this.imp fun _=>eU fun _ h=>by
  have:=gU (us:=M.toList) (sz:=1) (by simpa using hz) hc _ h;rwa [hM]at this
end Sl
namespace Go.Proofs.YtnicahfnolhgbaaGreatDoor
open Go Go.RowKit Sl Eg
set_option maxRecDepth 10000
end Go.Proofs.YtnicahfnolhgbaaGreatDoor
namespace Sl
open Go Go.RowKit
variable {E:Bp}{n:Nat}{L:Fr}{H:List HP}{Q:Exit->Act->World->Prop}{fuel:Nat}{listed:Array Bool}{ops:List Oper}
def JN (S0:List HP):List (Nat×List HP)->Prop
 |[]=>True
 |(_,S)::r=>(∀k,dW S k->dW S0 k)/\JN S0 r
end Sl
namespace Go.Proofs.YtnicahfnolhgbaaGreatDoor
open Go Go.RowKit Sl Eg
set_option maxRecDepth 10000
section
end
section
variable {E:Bp}{s:Nat}
def IC (Z:Nat->Nat)(n k:Nat):List Nat:=(List.range n).map fun j=>if j<=k then Z j else 0
def Wl (Z:Nat->Nat)(n k:Nat):(IC Z n k).length=n:=by simp[IC]
def MM {Z:Nat->Nat}(h:Z 0=0)(n:Nat):List.replicate n (Value.int .i64 0)=Bg (IC Z n 0):=by
 apply mh;intro i;unfold Bg IC;rw[qx,bn,xy];rcases fw i n with hi|hi
 ·rw[if_pos hi,lu hi];simp only[ut,Function.comp];split
  ·rename_i h0
   obtain rfl:i=0:=by omega
   rw[h];rfl
  rfl
 rw[if_neg oO,ku (by simpa using hi)];rfl
def ML {Z:Nat->Nat}{n k j}(hj:j<n)(hk:j<=k):(IC Z n k)[j]?=some (Z j):=by
 unfold IC;rw[bn,lu hj];simp[hk]
def PU {Z:Nat->Nat}{n k:Nat}(hk:k+1<n)(o:Nat)(ho:o=k+1){v:Int}(hv:v=(Z (k+1):Nat)):bX (Bg (IC Z n k)) o (bP (.int .i64 v))=Bg (IC Z n (k+1)):=by
 subst ho hv;apply mh;intro i;simp only[bX,bP];unfold Bg;rw[List.getElem?_set,jr,Wl,bn,bn];unfold IC;rw[bn,bn];rcases fw i n with hi|hi
 ·rw[lu hi];simp only[ut];by_cases e:k+1=i
  ·subst e;rw[if_pos rfl,if_pos hk,if_pos (ai _)]
  rw[if_neg e];by_cases h2:i<=k
  ·rw[if_pos h2,if_pos oO]
  rw[if_neg h2,if_neg oO]
 rw[if_neg oO,ku (by simpa using hi)];rfl
end
end Go.Proofs.YtnicahfnolhgbaaGreatDoor
namespace Sl
open Go Go.RowKit
variable {E:Bp}{n:Nat}{L:Fr}{S:List HP}{ty:TypeId}{pos:String}{af:Array Edge}{d:Option Nat}{gd:Option (Nat×Bool)}
def zBz {x y}{t yt:TypeId}{a b sz zs}(hx:ev L x=some (.bool a))(hy:ev L y=some (.bool b))(ht:E.tab t=some ⟨.bool,sz,zs⟩):
  Yl E n L S ⟨d,.binOp .neq t x y yt,ty,pos,af,gd⟩ (.bool (a^^b)):=fun o w g _=>by
 have hu:=qSh ht;have h1:(eqGuard .neq t x y (.bool a) (.bool b)).run E.P w= .ok () w:=by unfold eqGuard;simp
 have h2:binOp .neq t (.bool a) (.bool b)=(do pure (.bool (!(<-Op.equal t (.bool a) (.bool b))))):=rfl;have h3:=run_equal_bool (P:=E.P) w t a b hu;simp[execOp,h1,h2,h3,g.ev hx,g.ev hy];cases a<;>cases b<;>rfl
end Sl
namespace Go.Proofs.YtnicahfnolhgbaaGreatDoor
open Go Go.RowKit Sl Eg
set_option maxRecDepth 10000
end Go.Proofs.YtnicahfnolhgbaaGreatDoor
namespace Sl
open Go Go.RowKit
variable {E:Bp}{n:Nat}{L:Fr}{H H':List HP}{K:Value->List HP->Prop}{op:Oper}{ty:TypeId}{pos:String}{af:Array Edge}{d:Option Nat}{gd:Option (Nat×Bool)}
end Sl
namespace Go.Proofs.YtnicahfnolhgbaaGreatDoor
open Go Go.RowKit Sl Eg
set_option maxRecDepth 10000
section
variable {E:Bp}{G:List Rl}
def YP {l i p}(h:l[i]?=some p)(o:Nat)(ho:o=i*2):(FY l)[o]?=some (BN (p.1))/\(FY l)[o+1]?=some (BL p.2):=by subst ho;exact Ty h
end
section
variable {E:Bp}{Es:List Bj}{s most:Nat}
def sF (S:List Nat):Int->Option Value:=fun x=>if S.any (fun n=>x==(n:Int))then some (.bool true)else none
def qSb {S x}(h:x∈S):sF S (x:Nat)=some (.bool true):=by
 unfold sF;rw[if_pos (List.any_eq_true.2 ⟨x,h,by simp⟩)]
def qNp {S x}(h:x∉S):sF S (x:Nat)=none:=by
 unfold sF;rw[if_neg];intro e;obtain⟨n,hn,e⟩:=List.any_eq_true.1 e;have:(x:Int)=n:=by simpa using e
 obtain rfl:x=n:=by omega
 exact h hn
def zF (S:List Nat)(x:Nat):DD (sF S) (x:Nat) (.bool true)=sF (S++[x]):=by
 funext y;unfold DD sF;rw[List.any_append];by_cases h:y=(x:Int)
 ·subst h;simp
 rw[if_neg h];simp[h]
structure Fb (L:List Rl)(id i:Nat)(S:List Nat):Prop where
 ib:i<=S.length
 hd:S[0]?=some id
 nd:S.Nodup
 rch:∀x∈S,En L id x
 done:∀(t x:Nat)(r:Rl),t<i->S[t]?=some x->L[x-1]?=some r->∀k∈BZ r,k∈S
def En.le {L k x}(h:En L k x):1<=x/\x<=L.length:=by
 induction h with
 |self h=>exact⟨oO,h⟩
 |kid _ _ _ ih=>exact ih
def En.step {L k n z r}(h:En L k (n+1))(hr:L[n]?=some r)(hz:z∈BZ r)(hw:Wf L):En L k z:=by
 have hA:=kH (hw.ok n r hr) z hz;have hn:=(ae.1 hr).1;obtain⟨m,rfl⟩:∃m,z=m+1:=⟨z-1,oO⟩;generalize hx:n+1=x at h;induction h with
 | @self a ha=>
  obtain rfl:n=a:=by omega
  exact .kid hr hz (.self oO)
 |kid h1 h2 _ ih=>exact .kid h1 h2 (ih hx)
def Fb.start {L id}(h1:1<=id)(h2:id<=L.length):Fb L id 0 [id]:=by
 obtain⟨n,rfl⟩:∃n,id=n+1:=⟨id-1,oO⟩;exact⟨av _,O,by simp,fun x hx=>by rw[bg.1 hx];exact .self h2,fun t x r h=>by omega⟩
def Fb.more {L}(hw:Wf L){id i S}(h:Fb L id i S){x z r}(hx:x∈S)(hr:L[x-1]?=some r)(hz:z∈BZ r)(hn:z∉S):Fb L id i (S++[z]):=by
 have hA:=(h.rch x hx).le;refine⟨by have:=h.ib;rw[aa];omega,by rw[aj (ae.1 h.hd).1];exact h.hd,ng.2 ⟨h.nd,by simp,fun a ha b hb=>by rw[bg.1 hb];exact fun e=>hn (e▸ha)⟩,fun y hy=>?_,fun t y q ht hy hq k hk=>?_⟩
 ·rcases ay.1 hy with hy|hy
  ·exact h.rch y hy
  rw[bg.1 hy];obtain⟨n,rfl⟩:∃n,x=n+1:=⟨x-1,oO⟩;exact(h.rch _ hx).step hr hz hw
 rw[aj (by have:=h.ib;omega)]at hy;exact cu _ (h.done t y q ht hy hq k hk)
def Fb.next {L id i S}(h:Fb L id i S){x r}(hx:S[i]?=some x)(hr:L[x-1]?=some r)(hk:∀k∈BZ r,k∈S):Fb L id (i+1) S:=
 ⟨(ae.1 hx).1,h.hd,h.nd,h.rch,fun t y q ht hy hq k hA=>by
   rcases fw t i with hl|hl
   ·exact h.done t y q hl hy hq k hA
   obtain rfl:t=i:=by omega
   rw[hx]at hy;cases hy
   rw[hr]at hq;cases hq
   exact hk k hA⟩
def Fb.all {L id S}(h:Fb L id S.length S)(x:Nat):x∈S↔En L id x:=by
 refine⟨h.rch x,fun hr=>?_⟩;have hA:id∈S:=ak h.hd;refine hr.inside (fun n r hn hl k hk=>?_) hA;obtain⟨t,ht⟩:=mf hn;exact h.done t _ r (ae.1 ht).1 ht (by simpa using hl) k hk
def Fb.len {L id i S}(h:Fb L id i S):S.length<=L.length:=
 DU.len ⟨h.nd,fun x hx=>(h.rch x hx).le⟩
end
