import Derived.Test.YtddfnkijolfhbaaGreatQ74
import Derived.Test.YtddfnkijolfhbaaGreatQ78
set_option linter.all false
set_option maxHeartbeats 1000000
namespace Go.Proofs.YtddfnkijolfhbaaGreat
open Go Go.RowKit Sl Eg
set_option maxRecDepth 10000
variable {E : Env} {Es : List Ent} {s most : Nat}
theorem qZa {p : HP} {h : PH} (x : p h) : qAb [p] h := ⟨h, fun _ => none, fun _ => .inr rfl, by funext b; simp [join], x, trivial⟩
def qKa (S : List Nat) : Int → Option Value := fun x => if S.any (fun n => x == (n : Int)) then some (.bool true) else none
theorem seenF_in {S : List Nat} {x : Nat} (h : x ∈ S) : qKa S (x : Nat) = some (.bool true) := by
 unfold qKa
 rw [if_pos (List.any_eq_true.2 ⟨x, h, by simp⟩)]
theorem qYv {S : List Nat} {x : Nat} (h : x ∉ S) : qKa S (x : Nat) = none := by
 unfold qKa
 rw [if_neg]
 intro e
 obtain ⟨n, hn, e⟩ := List.any_eq_true.1 e
 have : (x : Int) = n := by simpa using e
 obtain rfl : x = n := by omega
 exact h hn
theorem qRd (S : List Nat) (x : Nat) : setF (qKa S) (x : Nat) (.bool true) = qKa (S ++ [x]) := by
 funext y
 unfold setF qKa
 rw [List.any_append]
 by_cases h : y = (x : Int)
 ·subst h; simp
 rw [if_neg h]
 simp [h]
end Go.Proofs.YtddfnkijolfhbaaGreat
