/- evergreen WholeCodec: the row's facts that the kernel computes (a text of its own: they take 9 GB of its memory). -/
import Derived.Test.YtlmpojkmeglepaaGreatDoorQ9Y
set_option linter.all false
set_option maxHeartbeats 1000000
namespace Go.Proofs.YtlmpojkmeglepaaGreatDoor
open Go Go.ChangeShapes Go.WideShapes Go.ChangeAt Go.WideMaps Go.WideElems Go.RowKit Go.ChangeMaps Sl
set_option maxRecDepth 100000 in
theorem wholeCodec_joined : joinedFacts Tryz.pinned.checked.prog 3 Tryz.f3 Rows.wholeCodecSpec Rows.wholeCodecRow = true := by kernel_rfl
end Go.Proofs.YtlmpojkmeglepaaGreatDoor
