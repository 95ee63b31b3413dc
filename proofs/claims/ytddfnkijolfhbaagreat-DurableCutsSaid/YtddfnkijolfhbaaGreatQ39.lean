import Derived.Test.YtddfnkijolfhbaaGreatQ05
import Derived.Test.YtddfnkijolfhbaaGreatQ31
import Derived.Test.YtddfnkijolfhbaaGreatQ32
set_option linter.all false
set_option maxHeartbeats 1000000
namespace Go.Proofs.YtddfnkijolfhbaaGreat
open Go Go.RowKit Sl Eg
set_option maxRecDepth 10000
variable {E : Env} {Es : List Ent} {s most : Nat}
def rlC (r : Rl) : List Value := [.int .i64 (Rl.kind (r) : Nat), .int .u8 (Rl.byte (r) : Nat), .int .i64 (Rl.left (r) : Nat), .int .i64 (Rl.right (r) : Nat), .int .i64 (Rl.times (r) : Nat)]
end Go.Proofs.YtddfnkijolfhbaaGreat
