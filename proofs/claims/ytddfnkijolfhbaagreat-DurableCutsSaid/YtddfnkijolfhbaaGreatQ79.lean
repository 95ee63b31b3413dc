import Derived.Test.YtddfnkijolfhbaaGreatQ74
import Derived.Test.YtddfnkijolfhbaaGreatQ78
set_option linter.all false
set_option maxHeartbeats 1000000
namespace Go.Proofs.YtddfnkijolfhbaaGreat
open Go Go.RowKit Sl Eg
set_option maxRecDepth 10000
variable {E : Env} {Es : List Ent} {s most : Nat}
theorem zBq {p : HP} {h : PH} (x : p h) : qAd [p] h := ⟨h, fun _ => none, fun _ => .inr rfl, by funext b; simp [join], x, trivial⟩
def qLf (S : List Nat) : Int → Option Value := fun x => if S.any (fun n => x == (n : Int)) then some (.bool true) else none
theorem seenF_in {S : List Nat} {x : Nat} (h : x ∈ S) : qLf S (x : Nat) = some (.bool true) := by
 unfold qLf
 rw [if_pos (List.any_eq_true.2 ⟨x, h, by simp⟩)]
theorem zBl {S : List Nat} {x : Nat} (h : x ∉ S) : qLf S (x : Nat) = none := by
 unfold qLf
 rw [if_neg]
 intro e
 obtain ⟨n, hn, e⟩ := List.any_eq_true.1 e
 have : (x : Int) = n := by simpa using e
 obtain rfl : x = n := by omega
 exact h hn
theorem qSz (S : List Nat) (x : Nat) : setF (qLf S) (x : Nat) (.bool true) = qLf (S ++ [x]) := by
 funext y
 unfold setF qLf
 rw [List.any_append]
 by_cases h : y = (x : Int)
 ·subst h; simp
 rw [if_neg h]
 simp [h]
theorem Rea.step {L : List Rl} {k n z : Nat} {r : Rl} (h : Rea L k (n + 1)) (hr : L[n]? = some r) (hz : z ∈ kids r) (hw : Wf L) : Rea L k z := by
 have hzk := qGa (hw.ok n r hr) z hz
 have hn := (List.getElem?_eq_some_iff.1 hr).1
 obtain ⟨m, rfl⟩ : ∃ m, z = m + 1 := ⟨z - 1, by omega⟩
 generalize hx : n + 1 = x at h
 induction h with
 | @self a ha =>
  obtain rfl : n = a := by omega
  exact .kid hr hz (.self (by omega))
 | kid h1 h2 _ ih => exact .kid h1 h2 (ih hx)
end Go.Proofs.YtddfnkijolfhbaaGreat
