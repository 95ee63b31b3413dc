import Derived.Test.YtddfnkijolfhbaaGreatQ11
set_option linter.all false
set_option maxHeartbeats 1000000
namespace Go.Proofs.YtddfnkijolfhbaaGreat
section
open Go Sl Eg
def aft (L : List Rl) (x y : Nat) : Nat := after (max (lvl L x).toNat (lvl L y).toNat) (key L x) (key L y)
end
section
open Go Sl Eg
def d0 (L : List Rl) : List Nat → Nat
 | x :: y :: _ => aft L x y
 | _ => 0
end
end Go.Proofs.YtddfnkijolfhbaaGreat
