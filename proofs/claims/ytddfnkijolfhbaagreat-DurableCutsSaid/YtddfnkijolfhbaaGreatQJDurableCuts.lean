/- evergreen DurableCuts: the row's facts that the kernel computes (a text of its own: they take 9 GB of its memory). -/
import Derived.Test.YtddfnkijolfhbaaGreatQ9G
set_option linter.all false
set_option maxHeartbeats 1000000
namespace Go.Proofs.YtddfnkijolfhbaaGreat
open Go Go.ChangeShapes Go.WideShapes Go.ChangeAt Go.WideMaps Go.WideElems Go.RowKit Go.ChangeMaps Sl
set_option maxRecDepth 100000 in
theorem durableCuts_joined : joinedFacts Tryz.pinned.checked.prog 7 Tryz.f7 Rows.durableCutsSpec Rows.durableCutsRow = true := by kernel_rfl
end Go.Proofs.YtddfnkijolfhbaaGreat
