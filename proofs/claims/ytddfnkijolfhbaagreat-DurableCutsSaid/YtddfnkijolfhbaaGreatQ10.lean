import Derived.Test.YtddfnkijolfhbaaGreatQ08
import Derived.Laws.Shifts
set_option linter.all false
set_option maxHeartbeats 1000000
namespace Go.Proofs.YtddfnkijolfhbaaGreat
open Go Go.RowKit Sl Eg
set_option maxRecDepth 10000
variable {E : Env}
def idC (l : List Nat) : List Value := l.map fun x => .int .i64 (x : Nat)
theorem qDa {l : List Nat} {i x : Nat} (h : l[i]? = some x) (k : Nat) (hk : k = i) : (idC l)[k]? = some (.int .i64 (x : Nat)) := by subst hk; simp [idC, h]
end Go.Proofs.YtddfnkijolfhbaaGreat
namespace Sl
open Go Go.RowKit
variable {E : Env} {n : Nat} {L : Fr} {S : List HP} {ty : TypeId} {pos : String} {af : Array Edge} {d : Option Nat} {gd : Option (Nat × Bool)}
theorem qIc {f : FuncId} {args : List Value} {v : Value} (h : ∀ w, Calls E.P f ⟨args⟩ w (fun e w' => e = .returned v ∧ w = w')) : Ct E f args [] (fun u Q => u = v ∧ Q = []) := fun R w s =>
 (h w).mono fun e w' ⟨h1, h2⟩ => ⟨v, [], h1, ⟨rfl, rfl⟩, h2 ▸ s⟩
end Sl
