/- Function values; contracts under one assertion. -/
import Derived.Test.YtekhbjlplfbdkaaDoorQ13
import Derived.Laws.Small
set_option linter.unusedVariables false
set_option linter.unusedSimpArgs false
namespace Sl
open Go Go.RowKit
variable {E : Env} {n : Nat} {L : Fr} {S S' H H' : List HP} {ty : TypeId} {pos : String} {af : Array Edge} {d : Option Nat} {gd : Option (Nat × Bool)} {K : Value → List HP → Prop} {Q : Exit → Act → World → Prop}
theorem ct_pack {f : FuncId} {args : List Value} {l : List HP} {u : Value} (h : Ct E f args l (fun v Q => v = u ∧ Q = l)) : Ct E f args [stars l] (fun v Q => v = u ∧ Q = [stars l]) := fun R w s =>
  (h R w (s.imp fun _ => stars_unpack (ps := l) (r := [R]) (p := stars l) (fun _ x => x))).mono fun e w' ⟨v, Qs, h1, ⟨h2, h3⟩, h4⟩ => ⟨v, [stars l], h1, ⟨h2, rfl⟩, by subst h3; exact h4.imp fun _ => stars_pack (fun _ x => x)⟩
theorem ct_spread {f : FuncId} {args : List Value} {l : List HP} {u : Value} (h : Ct E f args [stars l] (fun v Q => v = u ∧ Q = [stars l])) : Ct E f args l (fun v Q => v = u ∧ Q = l) := fun R w s =>
  (h R w (s.imp fun _ => stars_pack (fun _ x => x))).mono fun e w' ⟨v, Qs, h1, ⟨h2, h3⟩, h4⟩ => ⟨v, l, h1, ⟨h2, rfl⟩, by subst h3; exact h4.imp fun _ => stars_unpack (ps := l) (r := [R]) (p := stars l) (fun _ x => x)⟩
end Sl
