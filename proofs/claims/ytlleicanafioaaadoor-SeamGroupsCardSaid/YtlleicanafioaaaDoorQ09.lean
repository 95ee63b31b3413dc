import Derived.Test.YtlleicanafioaaaDoorQ08
set_option linter.all false
set_option maxHeartbeats 1000000
namespace Go.Proofs.YtlleicanafioaaaDoor
open Go Go.RowKit Sl Eg
set_option maxRecDepth 10000
variable {E : Env} {Es : List Ent} {pp tb s most : Nat}
def good (L : List Rl) (i : Nat) : Prop := i ≤ L.length ∧ 0 ≤ lvl L i
theorem qIm (hE : Seat E) (hB : Base E.w0) {i : Nat} (hg : good (rls Es) i) : Ct E 21 [uPt pp, .int .i64 (i : Nat)] [cells pp [uPt s, uPt tb] 57, tabP tb s (rls Es), zU s most Es] (fun v Q => v = .tuple #[.int .i64 (lvl (rls Es) i), .nilIface] ∧ Q = [cells pp [uPt s, uPt tb] 57, tabP tb s (rls Es), zU s most Es]) := by
 cases i with
 | zero => exact ct_Top0 hE
 | succ i => exact ct_Top hE hB (by have := hg.1; rw [zT] at this; omega) hg.2
end Go.Proofs.YtlleicanafioaaaDoor
