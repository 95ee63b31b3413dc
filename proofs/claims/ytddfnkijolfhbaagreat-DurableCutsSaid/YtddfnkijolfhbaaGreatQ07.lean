import Derived.Test.YtddfnkijolfhbaaGreatQ04
set_option linter.all false
set_option maxHeartbeats 1000000
namespace Eg
def tx (L : List Rl) (bk : Bool) (i : Nat) : List UInt8 := if bk then (txt L i).reverse else txt L i
end Eg
