/- Appending what can be read. -/
import Derived.Test.YtekhbjlplfbdkaaDoorQ10
import Derived.Test.YtekhbjlplfbdkaaDoorQ13
import Derived.Test.YtekhbjlplfbdkaaDoorQ17
import Derived.Test.YtekhbjlplfbdkaaDoorQSlq
set_option linter.unusedVariables false
set_option linter.unusedSimpArgs false
namespace Sl
open Go Go.RowKit
variable {E : Env} {n : Nat} {L : Fr} {S S' H H' H'' : List HP} {ty : TypeId} {pos : String} {af : Array Edge} {d : Option Nat} {gd : Option (Nat × Bool)} {K : Value → List HP → Prop} {Q : Exit → Act → World → Prop}
def Rdb (w0 : World) (a : Option Addr) (vs : List Value) (q : HP) : Prop := vs ≠ [] → ∃ g o, a = some ⟨g, o, none⟩ ∧ ∀ k, q k → RdAt w0 g o vs k
theorem ld_append_none {x y : Operand} {t e : TypeId} {p a' : Option Addr} {c m cc es by_ sz : Nat} {zs xs : List Value} (ht : E.tab t = some ⟨.slice e es by_, sz, zs⟩)
    (hx : ev L x = some (.slice p m c)) (hy : ev L y = some (.slice a' 0 cc)) (hm : Take (sl p c e es m xs) H H') (hk : K (.slice p m c) H) : Ld E n L H ⟨d, .call { callee := .builtin .append, args := #[x, y], argTypes := #[t, t] }, ty, pos, af, gd⟩ K := fun Q next a w G hn => by
  obtain ⟨hu, j, hj, hs, hby⟩ := tab_slice ht
  obtain ⟨h1, h2, _, _, hh, _⟩ := (G.hp.take hm).hp
  have hmc := (sl_cap hh).1
  have hrun : (execOp a.eval ⟨d, .call { callee := .builtin .append, args := #[x, y], argTypes := #[t, t] }, ty, pos, af, gd⟩).run E.P w = .ok (.value (.slice p m c)) w := by
    cases p <;> cases a' <;> simp [execOp, resolve, invoke, builtin, G.f.ev hx, G.f.ev hy, Builtin.append_, underlying, program, Sem.run, hu, Go.sizeOf, typeInfo, hj, Builtin.lenOf, Builtin.firstCells, hmc, storeCells, loadCells, loadCellsFrom]
  unfold Oper.wp
  rw [hrun, Oper.upon_value]
  exact hn _ _ _ hk G.hp
end Sl
namespace Go.Proofs.YtekhbjlplfbdkaaDoor
open Go Go.RowKit Sl Eg
set_option maxRecDepth 10000
variable {E : Env} {Es : List Ent} {pp tb s most : Nat}
theorem old_cell {w0 : World} {g o : Nat} {bs : List UInt8} (h : ∀ (i : Nat) (v : Value), (byC bs)[i]? = some v → w0.cell? ⟨g, o + i, none⟩ = some v) {k : Nat} {x : UInt8} (hx : bs[k]? = some x) (j : Nat) (hj : j = o + k) : w0.cell? ⟨g, j, none⟩ = some (.int .u8 (x.toNat : Nat)) := by
  subst hj
  exact h k _ (byC_get hx k rfl)
end Go.Proofs.YtekhbjlplfbdkaaDoor
