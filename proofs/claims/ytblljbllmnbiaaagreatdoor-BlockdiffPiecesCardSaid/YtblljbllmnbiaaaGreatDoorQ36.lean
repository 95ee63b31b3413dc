import Derived.Test.YtblljbllmnbiaaaGreatDoorQ35
set_option linter.all false
set_option maxHeartbeats 1000000
namespace Go.Proofs.YtblljbllmnbiaaaGreatDoor
open Go Go.RowKit Sl Eg
set_option maxRecDepth 10000
variable {E:Env}
theorem Sn.up {Es M:List Ent}{bs:List UInt8}{x:Nat}(h:Sn (rls Es) bs x):Sn (rls (Es++M)) bs x:=by rw[dA];exact h.ext _
theorem Sn.fn {L:List Rl}(hw:Wf L){bs:List UInt8}{x y:Nat}(h:Sn L bs x)(h':Sn L bs y):x=y:=h.sg.fn hw h'.sg
end Go.Proofs.YtblljbllmnbiaaaGreatDoor
namespace Sl
open Go Go.RowKit
variable {E:Env}{n:Nat}{L:Fr}{S:List HP}{ty:TypeId}{pos:String}{af:Array Edge}{d:Option Nat}{gd:Option (Nat×Bool)}
theorem qSl (a b:List UInt8):(⟨⟨a⟩⟩:ByteArray)++⟨⟨b⟩⟩=⟨⟨a++b⟩⟩:=by
 apply ByteArray.ext
 rw[ByteArray.data_append]
 simp
theorem xJ {x y:Operand}{xt yt:TypeId}{a b:List UInt8}(hx:ev L x=some (.string ⟨⟨a⟩⟩))(hy:ev L y=some (.string ⟨⟨b⟩⟩))(h:a.length+b.length≤1000000000):
  Yl E n L S ⟨d,.binOp .add xt x y yt,ty,pos,af,gd⟩ (.string ⟨⟨a++b⟩⟩):=fun o w g _=>by
 have h2:¬((((⟨⟨a⟩⟩:ByteArray).size+(⟨⟨b⟩⟩:ByteArray).size:Nat):Int)>IntKind.i64.max):=by
  rw[show(⟨⟨a⟩⟩:ByteArray).size=a.length from rfl,show(⟨⟨b⟩⟩:ByteArray).size=b.length from rfl,show IntKind.i64.max=9223372036854775807 from rfl]
  omega
 have e:(Op.stringOp .add ⟨⟨a⟩⟩ ⟨⟨b⟩⟩:Sem Value)=pure (.string ⟨⟨a++b⟩⟩):=by
  simp only[Op.stringOp]
  rw[if_neg h2,qSl]
 simp[execOp,eqGuard,binOp_string_add,e,g.ev hx,g.ev hy,pure]
end Sl
namespace Go.Proofs.YtblljbllmnbiaaaGreatDoor
open Go Go.RowKit Sl Eg
set_option maxRecDepth 10000
variable {E:Env}
end Go.Proofs.YtblljbllmnbiaaaGreatDoor
