import Derived.Test.YtejcjelmpbkcbaaGreatDoorQ13
set_option linter.all false
set_option maxHeartbeats 1000000
namespace Go.Proofs.YtejcjelmpbkcbaaGreatDoor
open Go Eg
def pick (n:Int)(many:Nat):Nat:=(n%(many:Int)).toNat
def lG (n:Int){many:Nat}(h:1≤many):pick n many<many:=by
 unfold pick;have h1:=Int.emod_nonneg n (b:=(many:Int)) oO;have h2:=Int.emod_lt_of_pos n (b:=(many:Int)) oO;omega
end Go.Proofs.YtejcjelmpbkcbaaGreatDoor
namespace Sl
open Go Go.RowKit
variable {E:Env}{n:Nat}{L:Fr}{S:List HP}{ty:TypeId}{pos:String}{af:Array Edge}{d:Option Nat}{gd:Option (Nat×Bool)}
def y_remt {x y:Operand}{xt yt:TypeId}{i j:Int}{kd:IntKind}(hx:ev L x=some (.int kd i))(hy:ev L y=some (.int kd j))(h1:0<j):
  Yl E n L S ⟨d,.binOp .rem xt x y yt,ty,pos,af,gd⟩ (.int kd (i.tmod j)):=fun a w g _=>by
 have hj:¬j=0:=oO;simp[execOp,eqGuard,binOp,Op.intDiv,g.ev hx,g.ev hy,hj]
end Sl
namespace Go.Proofs.YtejcjelmpbkcbaaGreatDoor
open Go Go.RowKit Sl Eg
set_option maxRecDepth 10000
variable {E:Env}
def qZa {n:Int}{m:Nat}(h:1≤m):(pick n m:Int)=if n.tmod m<0 then n.tmod m+m else n.tmod m:=by
 have h1:=Int.emod_nonneg n (b:=(m:Int)) oO;have h2:=Int.emod_lt_of_pos n (b:=(m:Int)) oO;have h3:(pick n m:Int)=n%(m:Int):=by unfold pick;omega
 have h4:=Int.mul_tdiv_add_tmod n (m:Int);have h5:=Int.mul_ediv_add_emod n (m:Int);rw[h3];by_cases hn:n<0
 ·have h6:=Int.lt_tmod_of_pos n (b:=(m:Int)) oO
  have h7:n.tmod m≤0:=by
   have:=Int.tmod_nonneg (a:= -n) (m:Int) oO;rw[Int.neg_tmod]at this;omega
  have key:∃q:Int,n%(m:Int)-n.tmod m=(m:Int)*q:=⟨n.tdiv m-n/m,by rw[Int.mul_sub];omega⟩;obtain⟨q,hq⟩:=key;split
  ·have q0:0<q:=by
    apply Classical.byContradiction;intro hh;have:(m:Int)*q≤0:=Int.mul_nonpos_of_nonneg_of_nonpos oO oO;omega
   have q1:q<2:=by
    apply Classical.byContradiction;intro hh;have:(m:Int)*2≤(m:Int)*q:=si oO oO;omega
   obtain rfl:q=1:=by omega
   omega
  have e:n.tmod m=0:=oO;rw[e]at hq ⊢
  have q1:q<1:=by
   apply Classical.byContradiction;intro hh;have:(m:Int)*1≤(m:Int)*q:=si oO oO;omega
  have q0: -1<q:=by
   apply Classical.byContradiction;intro hh;have:(m:Int)*q≤(m:Int)*(-1):=si oO oO;omega
  obtain rfl:q=0:=by omega
  omega
 rw[xz oO,if_neg oO]
