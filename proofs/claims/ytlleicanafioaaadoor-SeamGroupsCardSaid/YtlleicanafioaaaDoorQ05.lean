import Derived.Test.YtlleicanafioaaaDoorQ08
set_option linter.all false
set_option maxHeartbeats 1000000
namespace Sl
open Go Go.RowKit
variable {E : Env} {n : Nat} {L : Fr} {S : List HP} {ty : TypeId} {pos : String} {af : Array Edge} {d : Option Nat} {gd : Option (Nat × Bool)}
theorem qKj {x y : Operand} {xt yt : TypeId} {i j : Nat} {kx ky : IntKind} (hx : ev L x = some (.int kx (i : Nat))) (hy : ev L y = some (.int ky (j : Nat))) (hj : j ≤ kx.bits) :
  Yl E n L S ⟨d, .binOp .shr xt x y yt, ty, pos, af, gd⟩ (.int kx ((i / 2 ^ j : Nat) : Int)) := fun a w g _ => by
 have e : (i : Int) / 2 ^ min ((j : Nat) : Int).toNat kx.bits = ((i / 2 ^ j : Nat) : Int) := by
  rw [Int.toNat_natCast, show min j kx.bits = j from Nat.min_eq_left hj, Int.natCast_ediv, Int.natCast_pow]; rfl
 have h := shift_shr_any kx ky (i : Int) ((j : Nat) : Int) (Int.natCast_nonneg j)
 rw [e] at h
 simp [execOp, eqGuard, binOp, g.ev hx, g.ev hy, h]
theorem kS {i : Int} (h0 : 0 ≤ i) (h1 : i ≤ 18446744073709551615) : IntKind.u64.wrap i = i := by rw [IntKind.wrap_u64]; omega
end Sl
namespace Go
section
variable {P : Program} {ops : Array Oper} {Q : Exit → Act → World → Prop} {md : Region.Mode}
abbrev Stages := List (Nat × (World → Prop))
def Stages.now : Stages → World → Prop
 | [], _ => True
 | (_, S) :: _, w => S w
def Stages.waits (md : Region.Mode) (ops : Array Oper) (i : Nat) : Stages → Prop
 | [] => False
 | [(m, _)] => i ≠ m ∧ Region.waitsFor md ops m i = true
 | (m, _) :: r => i ≠ m ∧ Stages.waits md ops i r
end
end Go
namespace Sl
open Go Go.RowKit
end Sl
