import Derived.Test.YtddfnkijolfhbaaGreatQ12
set_option linter.all false
set_option maxHeartbeats 1000000
namespace Go.Proofs.YtddfnkijolfhbaaGreat
open Go Go.RowKit Sl Eg
section
theorem Lts.length {L : List Rl} {ids : List Nat} {bs : List UInt8} (h : Lts L ids bs) : ids.length = bs.length := by
 induction h with
 | nil => rfl
 | snoc _ _ ih => simp [ih]
end
section
structure Fm where
 id : Nat
 hv : Nat
def rlAt (L : List Rl) (x : Nat) : Rl := (L[x - 1]?).getD (.letter 0)
end
section
def Par (L : List Rl) (lv : Nat) (fs : List Fm) : Option Fm → Prop
 | none => ∀ f g, fs = g ++ [f] → lvl L f.id ≠ (lv : Nat)
 | some f => (∃ g, fs = g ++ [f]) ∧ lvl L f.id = (lv : Nat)
def many (L : List Rl) : Option Fm → Nat
 | none => 1
 | some f => match rlAt L f.id with | .power _ _ => f.hv | _ => 1
end
end Go.Proofs.YtddfnkijolfhbaaGreat
