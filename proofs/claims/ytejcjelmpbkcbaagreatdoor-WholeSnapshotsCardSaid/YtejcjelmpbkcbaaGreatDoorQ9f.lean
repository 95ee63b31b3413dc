import Derived.Test.YtejcjelmpbkcbaaGreatDoorQ85
set_option linter.all false
set_option maxHeartbeats 1000000
namespace Go.Proofs.YtejcjelmpbkcbaaGreatDoor
open Go Go.RowKit Sl Eg
set_option maxRecDepth 10000
variable {E:Env}{Es:List Ent}{s most:Nat}
structure RcM (L:List Rl)(X:List Nat)(i:Nat)(S:List Nat):Prop where
 ib:i≤S.length
 nd:S.Nodup
 rch:∀x∈S,∃a∈X,Rea L a x
 rt:∀a∈X,a=0∨a∈S
 done:∀(t x:Nat)(r:Rl),t<i→S[t]?=some x→L[x-1]?=some r→∀k∈kids r,k∈S
variable {L:List Rl}{X:List Nat}{i:Nat}{S:List Nat}
def RcM.all (h:RcM L X S.length S)(x:Nat):x∈S↔∃a∈X,Rea L a x:=by
 refine⟨h.rch x,fun⟨a,ha,hr⟩=>?_⟩
 have hc:Closed L S:=fun n r hn hr k hk=>by
  obtain⟨t,ht⟩:=kg hn;exact h.done t (n+1) r (ae.1 ht).1 ht hr k hk
 rcases h.rt a ha with rfl| e
 ·cases hr
 exact hr.inside hc e
