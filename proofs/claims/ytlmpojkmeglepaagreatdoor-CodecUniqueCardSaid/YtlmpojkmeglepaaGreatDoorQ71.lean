import Derived.Test.YtlmpojkmeglepaaGreatDoorQ51
import Derived.Test.YtlmpojkmeglepaaGreatDoorQ68
set_option linter.all false
set_option maxHeartbeats 1000000
namespace Sl
open Go Go.RowKit
variable {E:Env}{n:Nat}{L:Fr}{H:List HP}{ty:TypeId}{pos:String}{af:Array Edge}{d:Option Nat}{gd:Option (Nat×Bool)}{K:Value→List HP→Prop}
theorem qLe {x:Operand}{t e:TypeId}{c by_ sz sz':Nat}{zs:List Value}{v0:Value}{kk:TK}(ht:E.tab t=some ⟨.slice e 1 by_,sz,zs⟩)(he:E.tab e=some ⟨kk,sz',[v0]⟩)
  (hx:ev L x=some (.int .i64 (c:Nat))) (hb:by_*c≤281474976710656) (hc:c≤maxLen)
  (hk:∀b,K (.slice (some ⟨b,0,none⟩) c c) (sl (some ⟨b,0,none⟩) c e 1 c (List.replicate c v0)::H)):Ld E n L H ⟨d,.makeSlice t x x,ty,pos,af,gd⟩ K:=fun Q next a w G hn=>by
 obtain⟨hu,j,hj,hs,hby⟩:=fI ht
 obtain⟨i,z,hi,hi2,hiz,hzc,_⟩:=fG he
 obtain rfl:i=j:=by rw[hi]at hj;simpa using hj
 subst hby
 have hz1:z.cells= #[v0]:=by
  apply Array.toList_inj.1
  rw[hzc]
 have h63:(c:Int)≤9223372036854775807:=by have h:=hc;simp[maxLen]at h;omega
 have hr:=run_make (P:=E.P) w t e i z hu hi hiz .i64 .i64 (c:Int) (c:Int) (Int.natCast_nonneg c) (Int.le_refl _) (by rw[←Int.natCast_mul];omega) h63
 have hrun:(execOp a.eval ⟨d,.makeSlice t x x,ty,pos,af,gd⟩).run E.P w= .ok (.value (.slice (some ⟨w.heap.size,0,none⟩) c c)) (w.alloc (.cells (madeCells z.cells (c*i.size)) e)):=by
  simp[execOp,G.f.ev hx,hr]
 unfold Oper.wp
 rw[hrun,Oper.upon_value]
 have hM:(madeCells z.cells (c*i.size)).toList=List.replicate c v0:=by
  rw[hz1,hs,Nat.mul_one]
  apply List.ext_getElem?
  intro k
  rcases Nat.lt_or_ge k c with hk|hk
  ·rw[List.getElem?_replicate,if_pos hk]
   simp[madeCells,hk,Nat.mod_one]
  rw[List.getElem?_eq_none (by simpa[size_madeCells]using hk),List.getElem?_eq_none (by simpa using hk)]
 have hz:(madeCells z.cells (c*i.size)).size=c*1:=by rw[size_madeCells,hs]
 generalize madeCells z.cells (c*i.size)=M at*
 refine hn _ _ _ (hk _) ?_
 have:=G.hp.new (.cells M e)
 exact this.imp fun _=>gI fun _ h=>by
  have:=eO (us:=M.toList) (sz:=1) (by simpa using hz) hc _ h
  rwa [hM]at this
end Sl
namespace Go.Proofs.YtlmpojkmeglepaaGreatDoor
open Go Go.RowKit Sl Eg
set_option maxRecDepth 10000
end Go.Proofs.YtlmpojkmeglepaaGreatDoor
