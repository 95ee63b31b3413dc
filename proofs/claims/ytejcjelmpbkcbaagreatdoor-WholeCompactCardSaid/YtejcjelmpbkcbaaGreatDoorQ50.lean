import Derived.Test.YtejcjelmpbkcbaaGreatDoorQ35
set_option linter.all false
set_option maxHeartbeats 1000000
namespace Go.Proofs.YtejcjelmpbkcbaaGreatDoor
open Go Eg
def pick (n:Int)(many:Nat):Nat:=(n%(many:Int)).toNat
def kU (n:Int){many:Nat}(h:1<=many):pick n many<many:=by
 unfold pick;have h1:=Int.emod_nonneg n (b:=(many:Int)) oO;have h2:=Int.emod_lt_of_pos n (b:=(many:Int)) oO;omega
end Go.Proofs.YtejcjelmpbkcbaaGreatDoor
namespace Sl
open Go Go.RowKit
variable {E:Env}{n:Nat}{L:Fr}{S:List HP}{ty:TypeId}{pos:String}{af:Array Edge}{d:Option Nat}{gd:Option (Nat×Bool)}
def y_remt {x y:Operand}{xt yt:TypeId}{i j:Int}{kd:IntKind}(hx:ev L x=some (.int kd i))(hy:ev L y=some (.int kd j))(h1:0<j):
  Yl E n L S ⟨d,.binOp .rem xt x y yt,ty,pos,af,gd⟩ (.int kd (i.tmod j)):=fun a w g _=>by
 have hj:¬j=0:=oO;simp[execOp,eqGuard,binOp,Op.intDiv,g.ev hx,g.ev hy,hj]
end Sl
namespace Go.Proofs.YtejcjelmpbkcbaaGreatDoor
open Go Go.RowKit Sl Eg
set_option maxRecDepth 10000
section
variable {E:Env}
def qYy {n:Int}{m:Nat}(h:1<=m):(pick n m:Int)=if n.tmod m<0 then n.tmod m+m else n.tmod m:=by
 have h1:=Int.emod_nonneg n (b:=(m:Int)) oO;have h2:=Int.emod_lt_of_pos n (b:=(m:Int)) oO;have h3:(pick n m:Int)=n%(m:Int):=by unfold pick;omega
 have h4:=Int.mul_tdiv_add_tmod n (m:Int);have h5:=Int.mul_ediv_add_emod n (m:Int);rw[h3];by_cases hn:n<0
 ·have h6:=Int.lt_tmod_of_pos n (b:=(m:Int)) oO
  have h7:n.tmod m<=0:=by
   have:=Int.tmod_nonneg (a:= -n) (m:Int) oO;rw[Int.neg_tmod]at this;omega
  have key:∃q:Int,n%(m:Int)-n.tmod m=(m:Int)*q:=⟨n.tdiv m-n/m,by rw[Int.mul_sub];omega⟩;obtain⟨q,hq⟩:=key;split
  ·have q0:0<q:=by
    apply Classical.byContradiction;intro hh;have:(m:Int)*q<=0:=Int.mul_nonpos_of_nonneg_of_nonpos oO oO;omega
   have q1:q<2:=by
    apply Classical.byContradiction;intro hh;have:(m:Int)*2<=(m:Int)*q:=uk oO oO;omega
   obtain rfl:q=1:=by omega
   omega
  have e:n.tmod m=0:=oO;rw[e]at hq ⊢
  have q1:q<1:=by
   apply Classical.byContradiction;intro hh;have:(m:Int)*1<=(m:Int)*q:=uk oO oO;omega
  have q0: -1<q:=by
   apply Classical.byContradiction;intro hh;have:(m:Int)*q<=(m:Int)*(-1):=uk oO oO;omega
  obtain rfl:q=0:=by omega
  omega
 rw[za oO,if_neg oO]
end
section
variable {E:Env}{L:List Rl}
def rusC (L:List Rl):List Value:=L.flatMap rlC
end
end Go.Proofs.YtejcjelmpbkcbaaGreatDoor
namespace Sl
open Go Go.RowKit
variable {E:Env}{n:Nat}{L L':Fr}{S H H':List HP}{K:Value->List HP->Prop}{Q:Exit->Act->World->Prop}{ty:TypeId}{pos:String}{af:Array Edge}{d:Option Nat}{gd:Option (Nat×Bool)}
end Sl
namespace Go.Proofs.YtejcjelmpbkcbaaGreatDoor
open Go Go.RowKit Sl Eg
set_option maxRecDepth 10000
variable {E:Env}{L:List Rl}
def qOq (L:List Rl):(rusC L).length=L.length*5:=by
 induction L with
 |nil=>rfl
 |cons r L ih=>simp only[rusC,rz,ae,bf]at ih ⊢;rw[ih];simp[rlC];omega
def qYf {L:List Rl}{k:Nat}{r:Rl}(h:L[k]?=some r)(o:Nat)(ho:o=k*5):(rusC L)[o]?=some (.int .i64 (Rl.kind r:Nat))/\(rusC L)[o+1]?=some (.int .u8 (Rl.byte r:Nat))/\(rusC L)[o+2]?=some (.int .i64 (Rl.left r:Nat))/\(rusC L)[o+3]?=some (.int .i64 (Rl.right r:Nat))/\(rusC L)[o+4]?=some (.int .i64 (Rl.times r:Nat)):=by
 have hk:=(ag.1 h).1
 have e:L=L.take k++r::L.drop (k+1):=by
  obtain⟨h1,e1⟩:=ag.1 h;have e2:L.drop k=r::L.drop (k+1):=by rw[lg h1,e1]
  rw[<-e2,ig]
 have hl:(rusC (L.take k)).length=o:=by rw[qOq,fw,kv oO,ho]
 have e2:rusC L=rusC (L.take k)++(rlC r++(L.drop (k+1)).flatMap rlC):=by
  conv=>lhs;rw[e]
  simp[rusC]
 rw[e2];subst hl;exact⟨ap_0,ap_1,ap_2,ap_3,ap_4⟩
def qYg (L:List Rl)(r:Rl):rusC (L++[r])=rusC L++rlC r:=by simp[rusC]
