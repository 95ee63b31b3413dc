/- Package prefix: check, Common, CommonEnd. -/
import Derived.Test.YtekhbjlplfbdkaaGreatDoorQ07
import Derived.Test.YtekhbjlplfbdkaaGreatDoorQ08
set_option linter.unusedVariables false
set_option linter.unusedSimpArgs false
namespace Go.Proofs.YtekhbjlplfbdkaaGreatDoor
open Go Go.RowKit Sl Eg
set_option maxRecDepth 10000
variable {E : Env} {Es : List Ent} {pp tb s most : Nat}
def good (L : List Rl) (i : Nat) : Prop := i ≤ L.length ∧ 0 ≤ lvl L i
theorem ct_TopN (hE : Seat E) (hB : Base E.w0) {i : Nat} (hg : good (rls Es) i) : Ct E 24 [.pointer (some ⟨pp, 0, none⟩), .int .i64 (i : Nat)] [cells pp [.pointer (some ⟨s, 0, none⟩), .pointer (some ⟨tb, 0, none⟩)] 59, tabP tb s (rls Es), storeP s most Es] (fun v Q => v = .tuple #[.int .i64 (lvl (rls Es) i), .nilIface] ∧ Q = [cells pp [.pointer (some ⟨s, 0, none⟩), .pointer (some ⟨tb, 0, none⟩)] 59, tabP tb s (rls Es), storeP s most Es]) := by
  cases i with
  | zero => exact ct_Top0 hE
  | succ i => exact ct_Top hE hB (by have := hg.1; rw [rls_length] at this; omega) hg.2
end Go.Proofs.YtekhbjlplfbdkaaGreatDoor
