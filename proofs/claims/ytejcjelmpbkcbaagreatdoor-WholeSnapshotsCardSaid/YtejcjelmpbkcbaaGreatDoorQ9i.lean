import Derived.Test.YtejcjelmpbkcbaaGreatDoorQ9g
set_option linter.all false
set_option maxHeartbeats 1000000
namespace Sl
open Go Go.RowKit
variable {E:Env}{n:Nat}{L:Fr}{H:List HP}{o:Oper}{v:Value}{K:Value→List HP→Prop}
end Sl
namespace Go.Proofs.YtejcjelmpbkcbaaGreatDoor
open Go Go.RowKit Sl Eg
set_option maxRecDepth 10000
variable {E:Env}{Es:List Ent}{pp tb s m bm:Nat}{f:Int→Option Value}
def EncOf (ts:List (List UInt8))(k:Nat)(B:List UInt8):Prop:=∃(L:List Rl)(X y:List Nat),Wf L∧(∀i,i<k→Be L (idW X i) (ts.getD i []))∧y.length=k∧SigL L (rawN (lsW X k)) y∧B=encB L (dD L y []) (nmY (lsW X k) y)
def EncOf.fn {ts:List (List UInt8)}{k:Nat}{B B':List UInt8}(h:EncOf ts k B)(h':EncOf ts k B'):B=B':=by
 obtain⟨L,X,y,w,b,e,g,rfl⟩:=h;obtain⟨L',X',y',w',b',e',g',rfl⟩:=h';rw[enc_W (ts:=ts),enc_W (ts:=ts)];exact(eql_W w e b g).same (eql_W w' e' b' g') O
structure MemS (U:List Nat)(Es:List Ent)(f:Int→Option Value):Prop where
 ev:∀u∈U,Ev (rls Es) u∧Eg.len (rls Es) u≤400
 room:Es.length+pot' (rls Es) f U≤1048576
 kn:Kn (rls Es) f
def MemS.start {U:List Nat}(hw:Wf (rls Es))(h:∀u∈U,Ev (rls Es) u∧Eg.len (rls Es) u≤400) (hl:Es.length+12368*U.length≤1048576):MemS U Es (fun _=>none):=by
 have:=qXt hw (f:=fun _=>none) U h;exact⟨h,oO,Kn.nil _⟩
