import Derived.Test.YtlmpojkmeglepaaGreatDoorQ35
set_option linter.all false
set_option maxHeartbeats 1000000
namespace Go.Proofs.YtlmpojkmeglepaaGreatDoor
open Go Go.RowKit Sl Eg
section
def rep {α:Type}(k:Nat)(l:List α):List α:=(List.replicate k l).flatten
end
section
set_option maxRecDepth 10000
variable {E:Env}{Es:List Ent}{pp tb s most:Nat}
def qFo {L:List Rl}{x:Nat}(hs:Sig L x):∀l,(expd L l x).length≤(expd L 0 x).length
 |0=>ai _
 |l+1=>by
  have:=(hs.step (l+1) oO).le;rw[cu]at this;have:=qFo hs l;omega
structure ApG where
 l:Nat
 A:Sd
 B:Sd
 C:Md
end
end Go.Proofs.YtlmpojkmeglepaaGreatDoor
namespace Sl
open Go Go.RowKit
variable {E:Env}{n:Nat}{L:Fr}{S:List HP}{ty:TypeId}{pos:String}{af:Array Edge}{d:Option Nat}{gd:Option (Nat×Bool)}
def y_add_u {x y:Operand}{xt yt:TypeId}{i j:Int}(hx:ev L x=some (.int .u64 i))(hy:ev L y=some (.int .u64 j))(h0:0≤i+j)(h1:i+j≤18446744073709551615):
  Yl E n L S ⟨d,.binOp .add xt x y yt,ty,pos,af,gd⟩ (.int .u64 (i+j)):=fun a w g _=>by
 have e:IntKind.u64.wrap (i+j)=i+j:=by rw[IntKind.wrap_u64];omega
 simp[execOp,eqGuard,binOp,Op.intArith,g.ev hx,g.ev hy,e]
end Sl
namespace Go.Proofs.YtlmpojkmeglepaaGreatDoor
open Go Go.RowKit Sl Eg
set_option maxRecDepth 10000
section
end
section
variable {E:Env}{Es:List Ent}{s most:Nat}
def rlC (r:Rl):List Value:=[.int .i64 (Rl.kind (r):Nat),.int .u8 (Rl.byte (r):Nat),.int .i64 (Rl.left (r):Nat),.int .i64 (Rl.right (r):Nat),.int .i64 (Rl.times (r):Nat)]
def ruC (L:List Rl):List Value:=[.int .i64 0,.int .u8 0,.int .i64 0,.int .i64 0,.int .i64 0]++L.flatMap rlC
def ruC_snoc (L:List Rl)(r:Rl):ruC (L++[r])=ruC L++rlC r:=by simp[ruC]
def qSh (L:List Rl):(ruC L).length=(L.length+1)*5:=by
 refine tO (P:=fun L=>(ruC L).length=(L.length+1)*5) O ?_ L;intro L r ih;rw[ruC_snoc,aa,ih];simp[rlC];omega
end
section
variable {E:Env}{L:List Rl}
def qGe {L:List Rl}{k:Nat}{r:Rl}(h:L[k]?=some r)(o:Nat)(ho:o=(k+1)*5):(ruC L)[o]?=some (.int .i64 (Rl.kind r:Nat))∧(ruC L)[o+1]?=some (.int .u8 (Rl.byte r:Nat))∧(ruC L)[o+2]?=some (.int .i64 (Rl.left r:Nat))∧(ruC L)[o+3]?=some (.int .i64 (Rl.right r:Nat))∧(ruC L)[o+4]?=some (.int .i64 (Rl.times r:Nat)):=by
 have hk:=(ae.1 h).1
 have e:L=L.take k++r::L.drop (k+1):=by
  obtain⟨h1,e1⟩:=ae.1 h;have e2:L.drop k=r::L.drop (k+1):=by rw[kw h1,e1]
  rw[←e2,dz]
 have hl:(ruC (L.take k)).length=o:=by rw[qSh,ig,kz oO,ho]
 have e2:ruC L=ruC (L.take k)++(rlC r++(L.drop (k+1)).flatMap rlC):=by
  conv=>lhs;rw[e]
  simp[ruC]
 rw[e2];subst hl;exact⟨ap_0,ap_1,ap_2,ap_3,ap_4⟩
end
