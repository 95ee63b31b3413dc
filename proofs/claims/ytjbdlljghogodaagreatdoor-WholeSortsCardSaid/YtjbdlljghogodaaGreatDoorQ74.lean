import Derived.Test.YtjbdlljghogodaaGreatDoorQ38
import Derived.Test.YtjbdlljghogodaaGreatDoorQ50
import Derived.Test.YtjbdlljghogodaaGreatDoorQ68
set_option linter.all false
set_option maxHeartbeats 1000000
namespace Sl
open Go Go.RowKit
variable {E:Env}{n:Nat}{L:Fr}{S:List HP}{ty:TypeId}{pos:String}{af:Array Edge}{d:Option Nat}{gd:Option (Nat×Bool)}
theorem rW {x y:Operand}{t yt:TypeId}{a b:Bool}{sz:Nat}{zs:List Value}(hx:ev L x=some (.bool a))(hy:ev L y=some (.bool b))(ht:E.tab t=some ⟨.bool,sz,zs⟩):
  Yl E n L S ⟨d,.binOp .neq t x y yt,ty,pos,af,gd⟩ (.bool (a^^b)):=fun o w g _=>by
 have hu:=qMs ht
 have h1:(eqGuard .neq t x y (.bool a) (.bool b)).run E.P w= .ok () w:=by unfold eqGuard;simp
 have h2:binOp .neq t (.bool a) (.bool b)=(do pure (.bool (!(←Op.equal t (.bool a) (.bool b))))):=rfl
 have h3:=run_equal_bool (P:=E.P) w t a b hu
 simp[execOp,h1,h2,h3,g.ev hx,g.ev hy]
 cases a<;>cases b<;>rfl
end Sl
namespace Go.Proofs.YtjbdlljghogodaaGreatDoor
open Go Go.RowKit Sl Eg
set_option maxRecDepth 10000
variable {E:Env}{G:List Rl}
end Go.Proofs.YtjbdlljghogodaaGreatDoor
