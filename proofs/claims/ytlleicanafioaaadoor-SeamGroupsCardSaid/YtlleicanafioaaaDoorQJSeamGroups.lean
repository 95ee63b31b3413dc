/- evergreen SeamGroups: the row's facts that the kernel computes (a text of its own: they take 9 GB of its memory). -/
import Derived.Test.YtlleicanafioaaaDoorQCla
set_option linter.all false
set_option maxHeartbeats 1000000
namespace Go.Proofs.YtlleicanafioaaaDoor
open Go Go.ChangeShapes Go.WideShapes Go.ChangeAt Go.WideMaps Go.WideElems Go.RowKit Go.ChangeMaps Sl
set_option maxRecDepth 100000 in
theorem seamGroups_joined : joinedFacts Tryd.pinned.checked.prog 4 Tryd.f4 Rows.seamGroupsSpec Rows.seamGroupsRow = true := by kernel_rfl
end Go.Proofs.YtlleicanafioaaaDoor
