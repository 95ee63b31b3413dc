/- evergreen WholeSnapshots: the row's facts that the kernel computes (a text of its own: they take 9 GB of its memory). -/
import Derived.Test.YtejcjelmpbkcbaaGreatDoorQ9k
set_option linter.all false
set_option maxHeartbeats 1000000
namespace Go.Proofs.YtejcjelmpbkcbaaGreatDoor
open Go Go.ChangeShapes Go.WideShapes Go.ChangeAt Go.WideMaps Go.WideElems Go.RowKit Go.ChangeMaps Sl
set_option maxRecDepth 100000 in
theorem wholeSnapshots_joined : joinedFacts Tryz.pinned.checked.prog 3 Tryz.f3 Rows.wholeSnapshotsSpec Rows.wholeSnapshotsRow = true := by kernel_rfl
end Go.Proofs.YtejcjelmpbkcbaaGreatDoor
