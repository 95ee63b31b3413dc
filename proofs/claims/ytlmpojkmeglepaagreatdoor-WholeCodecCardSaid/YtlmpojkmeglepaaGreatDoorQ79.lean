import Derived.Test.YtlmpojkmeglepaaGreatDoorQ75
import Derived.Test.YtlmpojkmeglepaaGreatDoorQ78
set_option linter.all false
set_option maxHeartbeats 1000000
namespace Go.Proofs.YtlmpojkmeglepaaGreatDoor
open Go Go.RowKit Sl Eg
set_option maxRecDepth 10000
variable {E:Env}{Es:List Ent}{s most:Nat}
def yH (S:List Nat):Int→Option Value:=fun x=>if S.any (fun n=>x==(n:Int))then some (.bool true)else none
def seenF_in {S:List Nat}{x:Nat}(h:x∈S):yH S (x:Nat)=some (.bool true):=by
 unfold yH;rw[if_pos (List.any_eq_true.2 ⟨x,h,by simp⟩)]
def qWh {S:List Nat}{x:Nat}(h:x∉S):yH S (x:Nat)=none:=by
 unfold yH;rw[if_neg];intro e;obtain⟨n,hn,e⟩:=List.any_eq_true.1 e;have:(x:Int)=n:=by simpa using e
 obtain rfl:x=n:=by omega
 exact h hn
def qLm (S:List Nat)(x:Nat):setF (yH S) (x:Nat) (.bool true)=yH (S++[x]):=by
 funext y;unfold setF yH;rw[List.any_append];by_cases h:y=(x:Int)
 ·subst h;simp
 rw[if_neg h];simp[h]
structure RchI (L:List Rl)(id i:Nat)(S:List Nat):Prop where
 ib:i≤S.length
 hd:S[0]?=some id
 nd:S.Nodup
 rch:∀x∈S,Rea L id x
 done:∀(t x:Nat)(r:Rl),t<i→S[t]?=some x→L[x-1]?=some r→∀k∈kids r,k∈S
def Rea.le {L:List Rl}{k x:Nat}(h:Rea L k x):1≤x∧x≤L.length:=by
 induction h with
 |self h=>exact⟨oO,h⟩
 |kid _ _ _ ih=>exact ih
def Rea.step {L:List Rl}{k n z:Nat}{r:Rl}(h:Rea L k (n+1))(hr:L[n]?=some r)(hz:z∈kids r)(hw:Wf L):Rea L k z:=by
 have hzk:=iG (hw.ok n r hr) z hz;have hn:=(ae.1 hr).1;obtain⟨m,rfl⟩:∃m,z=m+1:=⟨z-1,oO⟩;generalize hx:n+1=x at h;induction h with
 | @self a ha=>
  obtain rfl:n=a:=by omega
  exact .kid hr hz (.self oO)
 |kid h1 h2 _ ih=>exact .kid h1 h2 (ih hx)
def RchI.start {L:List Rl}{id:Nat}(h1:1≤id)(h2:id≤L.length):RchI L id 0 [id]:=by
 obtain⟨n,rfl⟩:∃n,id=n+1:=⟨id-1,oO⟩;exact⟨av _,O,by simp,fun x hx=>by rw[bf.1 hx];exact .self h2,fun t x r h=>by omega⟩
def RchI.more {L:List Rl}(hw:Wf L){id i:Nat}{S:List Nat}(h:RchI L id i S){x z:Nat}{r:Rl}(hx:x∈S)(hr:L[x-1]?=some r)(hz:z∈kids r)(hn:z∉S):RchI L id i (S++[z]):=by
 have hxb:=(h.rch x hx).le;refine⟨by have:=h.ib;rw[aa];omega,by rw[au (ae.1 h.hd).1];exact h.hd,qy.2 ⟨h.nd,by simp,fun a ha b hb=>by rw[bf.1 hb];exact fun e=>hn (e▸ha)⟩,fun y hy=>?_,fun t y q ht hy hq k hk=>?_⟩
 ·rcases bu.1 hy with hy|hy
  ·exact h.rch y hy
  rw[bf.1 hy];obtain⟨n,rfl⟩:∃n,x=n+1:=⟨x-1,oO⟩;exact(h.rch _ hx).step hr hz hw
 rw[au (by have:=h.ib;omega)]at hy;exact jr _ (h.done t y q ht hy hq k hk)
def RchI.next {L:List Rl}{id i:Nat}{S:List Nat}(h:RchI L id i S){x:Nat}{r:Rl}(hx:S[i]?=some x)(hr:L[x-1]?=some r)(hk:∀k∈kids r,k∈S):RchI L id (i+1) S:=
 ⟨(ae.1 hx).1,h.hd,h.nd,h.rch,fun t y q ht hy hq k hkk=>by
   rcases dw t i with hl|hl
   ·exact h.done t y q hl hy hq k hkk
   obtain rfl:t=i:=by omega
   rw[hx]at hy;cases hy
   rw[hr]at hq;cases hq
   exact hk k hkk⟩
def RchI.all {L:List Rl}{id:Nat}{S:List Nat}(h:RchI L id S.length S)(x:Nat):x∈S↔Rea L id x:=by
 refine⟨h.rch x,fun hr=>?_⟩;have hid:id∈S:=ak h.hd;refine hr.inside (fun n r hn hl k hk=>?_) hid;obtain⟨t,ht⟩:=jy hn;exact h.done t _ r (ae.1 ht).1 ht (by simpa using hl) k hk
def RchI.len {L:List Rl}{id i:Nat}{S:List Nat}(h:RchI L id i S):S.length≤L.length:=
 AccOk.len ⟨h.nd,fun x hx=>(h.rch x hx).le⟩
