import Derived.Test.YtddfnkijolfhbaaGreatQ10
set_option linter.all false
set_option maxHeartbeats 1000000
namespace Go.Proofs.YtddfnkijolfhbaaGreat
open Go Go.RowKit Sl Eg
set_option maxRecDepth 10000
variable {E : Env}
theorem qXc (hE : Seat E) {n : Nat} (h : n ≤ kI) : Ct E 88 [.int .i64 (n : Nat)] [] (fun v Q => v = .bool true ∧ Q = []) := by
 apply qIc
 intro w
 rw [hE.P]
 exact qCg n w h
theorem ct_lnAdd (hE : Seat E) {a b : Nat} (h : a + b ≤ kI) : Ct E 121 [.int .i64 (a : Nat), .int .i64 (b : Nat)] [] (fun v Q => v = .tuple #[.int .i64 ((a + b : Nat) : Int), .nilIface] ∧ Q = []) := by
 apply qIc
 intro w
 rw [hE.P]
 exact qHl a b w h
end Go.Proofs.YtddfnkijolfhbaaGreat
