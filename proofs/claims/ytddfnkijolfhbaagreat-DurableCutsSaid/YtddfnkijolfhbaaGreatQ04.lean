import Derived.Test.YtddfnkijolfhbaaGreatQ22
set_option linter.all false
set_option maxHeartbeats 1000000
namespace Go.Proofs.YtddfnkijolfhbaaGreat
open Go Go.RowKit Eg
set_option maxRecDepth 100000
variable {w w' : World} {tb s : Nat} {rv : Value} {L : List Rl} {K : List Bool}

def rc (L : List Rl) (i : Nat) (b : Bool) : List Value := if b then [.int .u64 (key L i : Nat), .int .i64 (lvl L i), .bool true] else [.int .u64 0, .int .i64 0, .bool false]
end Go.Proofs.YtddfnkijolfhbaaGreat
namespace Eg
theorem qXu {L : List Rl} {i : Nat} {b : UInt8} (h : L[i]? = some (.letter b)) : len L (i + 1) = 1 := by rw [len, qCm h]; rfl
theorem qQe {L : List Rl} {i l r : Nat} (h : L[i]? = some (.pair l r)) (hk : (Rl.pair l r).ok (i + 1)) : len L (i + 1) = len L l + len L r := by rw [len, qEa h hk]; simp [len]
theorem qJd {L : List Rl} {i x k : Nat} (h : L[i]? = some (.power x k)) (hk : (Rl.power x k).ok (i + 1)) : len L (i + 1) = k * len L x := by
 rw [len, qDr h hk]; simp [len, List.length_flatten]
end Eg
