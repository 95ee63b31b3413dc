/- evergreenlaw27: long, begun; evergreenref27.Compare. -/
import Derived.Test.YtekhbjlplfbdkaaDoorQ09
import Derived.Test.YtekhbjlplfbdkaaDoorQ13
import Derived.Test.YtekhbjlplfbdkaaDoorQ17
import Derived.Laws.Small
set_option linter.unusedVariables false
set_option linter.unusedSimpArgs false
namespace Go.Proofs.YtekhbjlplfbdkaaDoor
open Go Go.RowKit Sl Eg
set_option maxRecDepth 10000
variable {E : Env} {Es : List Ent} {pp tb s most : Nat}
theorem old_cell {w0 : World} {g o : Nat} {bs : List UInt8} (h : ∀ (i : Nat) (v : Value), (byC bs)[i]? = some v → w0.cell? ⟨g, o + i, none⟩ = some v) {k : Nat} {x : UInt8} (hx : bs[k]? = some x) (j : Nat) (hj : j = o + k) : w0.cell? ⟨g, j, none⟩ = some (.int .u8 (x.toNat : Nat)) := by
  subst hj
  exact h k _ (byC_get hx k rfl)
end Go.Proofs.YtekhbjlplfbdkaaDoor
