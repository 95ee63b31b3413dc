import Derived.Test.YtkkjjablmmmmkaaGreatDoorQ13
import Derived.Laws.Small
set_option linter.all false
namespace Sl
open Go Go.RowKit
variable {E : Env} {n : Nat} {L : Fr} {S S' H H' : List HP} {ty : TypeId} {pos : String} {af : Array Edge} {d : Option Nat} {gd : Option (Nat × Bool)} {K : Value → List HP → Prop} {Q : Exit → Act → World → Prop}
theorem tab_bool {t : TypeId} {sz : Nat} {zs : List Value} (h : E.tab t = some ⟨.bool, sz, zs⟩) : E.P.underlying t = some .bool := by
 obtain ⟨i', z, _, _, _, _, hk⟩ := qAy h
 simp only [TK.holds] at hk
 split at hk
 ·assumption
 cases hk
theorem ld_callv {x : Operand} {f : FuncId} {caps : List Value} {args : List Operand} {ts : Array TypeId} {vs : List Value} {Pre : List HP} {Φ : Value → List HP → Prop} (hc : Ct E f (vs ++ caps) Pre Φ) (hx : ev L x = some (.func (.func f) #[] ⟨caps⟩)) (ha : evs L args = some vs) (hf : goFn E.P f = true) (hs : Sub Pre H H') (hk : ∀ v Qs, Φ v Qs → K v (Qs ++ H')) :
  Ld E n L H ⟨d, .call { callee := .value x, args := args.toArray, argTypes := ts }, ty, pos, af, gd⟩ K := fun Q next a w g hn => by
 have hrun : (execOp a.eval ⟨d, .call { callee := .value x, args := args.toArray, argTypes := ts }, ty, pos, af, gd⟩).run E.P w = .ok (.enter f ⟨vs ++ caps⟩) w := by
  have h1 := g.f.evs ha
  have h2 := g.f.ev hx
  have h3 : (⟨vs⟩ : Array Value) ++ (⟨caps⟩ : Array Value) = ⟨vs ++ caps⟩ := by simp
  simp [execOp, resolve, Deferred.ofValue, invoke, h2, qLt hf, h1, h3]
 unfold Oper.wp
 rw [hrun, Oper.upon_enter]
 refine (hc (qAb H') w ((g.hp.sub hs).imp fun _ => qDr)).mono ?_
 rintro e w' ⟨v, Qs, rfl, hΦ, hs'⟩
 exact hn v _ w' (hk v Qs hΦ) (hs'.imp fun _ => qIb)
theorem qZo {f : FuncId} {caps : List Operand} {vs : List Value} (hc : evs L caps = some vs) : Yl E n L S ⟨d, .makeFunc (.func f) #[] caps.toArray, ty, pos, af, gd⟩ (.func (.func f) #[] ⟨vs⟩) := fun a w g _ => by
 have h1 := g.evs hc
 simp [execOp, Instr.makeFunc, h1]
end Sl
