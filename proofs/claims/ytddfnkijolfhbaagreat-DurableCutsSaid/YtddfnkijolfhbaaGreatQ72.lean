import Derived.Test.YtddfnkijolfhbaaGreatQ69
import Derived.Test.YtddfnkijolfhbaaGreatQ71
set_option linter.all false
set_option maxHeartbeats 1000000
namespace Sl
open Go Go.RowKit
variable {E : Env} {n : Nat} {L : Fr} {H : List HP} {Q : Exit → Act → World → Prop} {fuel : Nat} {listed : Array Bool} {ops : List Oper}
def allS (S0 : List HP) : List (Nat × List HP) → Prop
 | [] => True
 | (_, S) :: r => (∀ k, qAd S k → qAd S0 k) ∧ allS S0 r
end Sl
namespace Go.Proofs.YtddfnkijolfhbaaGreat
open Go Go.RowKit Sl Eg
set_option maxRecDepth 10000
end Go.Proofs.YtddfnkijolfhbaaGreat
