import Derived.Test.YtblljbllmnbiaaaGreatDoorQ35
set_option linter.all false
set_option maxHeartbeats 1000000
namespace Go.Proofs.YtblljbllmnbiaaaGreatDoor
open Go Go.RowKit Sl Eg
set_option maxRecDepth 10000
variable {E:Env}
theorem Sn.up {Es M:List Ent}{bs:List UInt8}{x:Nat}(h:Sn (rls Es) bs x):Sn (rls (Es++M)) bs x:=by rw[dA];exact h.ext _
theorem Sn.fn {L:List Rl}(hw:Wf L){bs:List UInt8}{x y:Nat}(h:Sn L bs x)(h':Sn L bs y):x=y:=h.sg.fn hw h'.sg
theorem Sn.empty (L:List Rl):Sn L [] 0:=⟨.inl ⟨rfl,rfl⟩,rfl,Nat.zero_le _,by show(0:Int)≤0;omega⟩
end Go.Proofs.YtblljbllmnbiaaaGreatDoor
