import Derived.Test.YtddfnkijolfhbaaGreatQ30
set_option linter.all false
set_option maxHeartbeats 1000000
namespace Sl
open Go Go.RowKit
section
variable {α : Type} {pre r : List α} {x0 x1 x2 x3 x4 x5 x6 x7 : α}
theorem ap_0 : (pre ++ x0 :: r)[pre.length]? = some x0 := by simp
theorem ap_1 : (pre ++ x0 :: x1 :: r)[pre.length + 1]? = some x1 := by simp
theorem ap_2 : (pre ++ x0 :: x1 :: x2 :: r)[pre.length + 2]? = some x2 := by simp
theorem ap_3 : (pre ++ x0 :: x1 :: x2 :: x3 :: r)[pre.length + 3]? = some x3 := by simp
theorem ap_4 : (pre ++ x0 :: x1 :: x2 :: x3 :: x4 :: r)[pre.length + 4]? = some x4 := by simp
end
section
variable {pre r : List Value} {x0 x1 x2 x3 x4 x5 x6 x7 v : Value}
theorem sm_1 : zY (pre ++ x0 :: x1 :: r) (pre.length + 1) [v] = pre ++ x0 :: v :: r := by simp [zY]
end
section
end
end Sl
namespace Go.Proofs.YtddfnkijolfhbaaGreat
open Go Go.RowKit Sl Eg
set_option maxRecDepth 10000
end Go.Proofs.YtddfnkijolfhbaaGreat
