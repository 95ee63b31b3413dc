/- Package seam: size, fits, number, run, newEnd. -/
import Derived.Test.YtkkjjablmmmmkaaGreatDoorQ05
import Derived.Test.YtkkjjablmmmmkaaGreatDoorQ11
import Derived.Test.YtkkjjablmmmmkaaGreatDoorQ12
import Derived.Test.YtkkjjablmmmmkaaGreatDoorQ20
import Derived.Test.YtkkjjablmmmmkaaGreatDoorQ31
import Derived.Test.YtkkjjablmmmmkaaGreatDoorQApz
import Derived.Lib.AppendZerosOnto
import Derived.Lib.Overlaps
set_option linter.unusedVariables false
set_option linter.unusedSimpArgs false
namespace Sl
open Go Go.RowKit
variable {E : Env} {n : Nat} {L : Fr} {S : List HP} {ty : TypeId} {pos : String} {af : Array Edge} {d : Option Nat} {gd : Option (Nat × Bool)}
theorem y_sub_u {x y : Operand} {xt yt : TypeId} {i j : Int} (hx : ev L x = some (.int .u64 i)) (hy : ev L y = some (.int .u64 j)) (h0 : 0 ≤ i - j) (h1 : i - j ≤ 18446744073709551615) :
  Yl E n L S ⟨d, .binOp .sub xt x y yt, ty, pos, af, gd⟩ (.int .u64 (i - j)) := fun a w g _ => by
 have e : IntKind.u64.wrap (i - j) = i - j := by rw [IntKind.wrap_u64]; omega
 simp [execOp, eqGuard, binOp, Op.intArith, g.ev hx, g.ev hy, e]
end Sl
namespace Go.Proofs.YtkkjjablmmmmkaaGreatDoor
open Go Go.RowKit Sl Eg
set_option maxRecDepth 10000
variable {E : Env} {Es : List Ent} {pp tb s most : Nat}
end Go.Proofs.YtkkjjablmmmmkaaGreatDoor
namespace Sl
open Go Go.RowKit
end Sl
namespace Go.Proofs.YtkkjjablmmmmkaaGreatDoor
section
open Go Go.RowKit Sl Eg
set_option maxRecDepth 10000
variable {E : Env} {Es : List Ent} {pp tb s most S : Nat}
structure Sd where
 x : Nat
 fs : List Fm
 p : Option Addr
 c : Nat
structure Md where
 its : List It
 p : Option Addr
 c : Nat
end
section
open Go Go.RowKit Sl Eg
set_option maxRecDepth 10000
variable {E : Env} {Es : List Ent} {pp tb s most S : Nat}
theorem it_mem {its : List It} {it : It} (h : it ∈ its) (ht : 1 ≤ it.times) : it.id ∈ flatI its := by
 refine List.mem_flatMap.2 ⟨it, h, ?_⟩
 obtain ⟨m, hm⟩ : ∃ m, it.times = m + 1 := ⟨it.times - 1, by omega⟩
 unfold itF
 rw [hm, List.replicate_succ, List.flatten_cons]
 split <;> simp
end
end Go.Proofs.YtkkjjablmmmmkaaGreatDoor
