import Derived.Test.YtejcjelmpbkcbaaGreatDoorQ13
set_option linter.all false
set_option maxHeartbeats 1000000
namespace Gc
structure Cm where
 pa:Option Nat
 tx:Nat
 nt:List UInt8
def paG (G:List Cm)(n:Nat):Option Nat:=(G[n]?).bind (·.pa)
def lineF (G:List Cm):Nat→Nat→List Nat
 |0,n=>[n]
 |k+1,n=>n::match paG G n with
  |none=>[]
  |some p=>lineF G k p
def lineG (G:List Cm)(n:Nat):List Nat:=lineF G n n
def kp (G:List Cm)(S:List Nat)(m:Nat):Bool:=S.any fun x=>(lineG G x).contains m
def kl (G:List Cm)(S:List Nat)(n:Nat):List Nat:=(List.range n).filter (kp G S)
def pos (G:List Cm)(S:List Nat)(n:Nat):Nat:=(kl G S n).length
section keep
end keep
end Gc
namespace Go.Proofs.YtejcjelmpbkcbaaGreatDoor
open Go Go.RowKit Sl Eg
set_option maxRecDepth 10000
variable {E:Env}
def rd_slzG {w0:World}{g c m sz:Nat}{vs xs:List Value}{t:TypeId}(h:∀(i:Nat)(v:Value),vs[i]?=some v→xs[i]?=some v):∀k,sl (some ⟨g,0,none⟩) c t sz m xs k→RdAt w0 g 0 vs k:=fun k hk i v hv=>by
 obtain⟨_,h1|⟨g',cur,h1,h2,h3,h4,h5,h6⟩⟩:=hk
 ·cases h1.1
 cases h1
 refine .inr ⟨cur,t,(0,0),h2,?_⟩;have hx:=h i v hv;rw[←h6,mf]at hx;split at hx
 ·rw[jg];simpa using hx
 cases hx
def qTm {H:List HP}:∀k,dU H k→dU (dU []::H) k:=fun k x=>⟨fun _=>none,k,fun _=> .inl rfl,by funext b;simp[join],trivial,x⟩
structure Rw where
 c:Gc.Cm
 a:Option Addr
 k:Nat
structure GrI (G:List Gc.Cm)where
 p:Option Addr
 k:Nat
 l:List Rw
 is:l.map (·.c)=G
def GrI.at {G:List Gc.Cm}(i:GrI G){n:Nat}{c:Gc.Cm}(h:G[n]?=some c):∃x,i.l[n]?=some x∧x.c=c:=by
 have h':(i.l.map (·.c))[n]?=some c:=by rw[i.is];exact h
 rw[bq]at h';cases hx:i.l[n]? with
 |none=>rw[hx]at h';cases h'
 |some x=>rw[hx]at h';exact⟨x,rfl,lm h'⟩
