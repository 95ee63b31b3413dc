/- Arguments that are texts, or slices of texts. -/
import Derived.Test.YtekhbjlplfbdkaaDoorQ20
import Derived.Test.YtekhbjlplfbdkaaDoorQCla
import Derived.ChangeArms
import Derived.ChangeSlices
import Derived.Deep.Matrix
import Derived.SizedLaws
set_option linter.unusedVariables false
set_option linter.unusedSimpArgs false
namespace Go.Proofs.YtekhbjlplfbdkaaDoor
open Go Go.ChangeShapes Go.WideShapes Go.ChangeAt Go.WideMaps Go.WideElems Go.RowKit Go.ChangeMaps Sl Eg
def byteOf (z : Int) : UInt8 := UInt8.ofNat z.toNat
theorem byteOf_nat {z : Int} (h : (Lit.int .u8 z).wf = true) : ((byteOf z).toNat : Int) = z := by
  have hh : 0 ≤ z ∧ z < 256 := by
    simp only [Lit.wf, Bool.and_eq_true, decide_eq_true_eq] at h
    have h1 : (IntKind.u8.min : Int) = 0 := by rfl
    have h2 : (IntKind.u8.max : Int) = 255 := by rfl
    omega
  unfold byteOf
  rw [UInt8.toNat_ofNat']
  omega
theorem spot_none {W : World} {a : Addr} {v : Value} (h : W.cell? a = some v) : a = ⟨a.block, a.off, none⟩ := by
  obtain ⟨b, o, s⟩ := a
  cases s with
  | none => rfl
  | some x =>
    unfold World.cell? at h
    split at h
    · simp at h
    · cases h
theorem calls_at {W : World} {f : FuncId} {args : List Value} (hB : Base W) (h : ∀ E : Env, Seat E → E.w0 = W → Base E.w0 → Ct E f args [] (fun v Q => v = .bool true ∧ Q = [])) : Calls Tryd.prog f ⟨args⟩ W (fun e W' => e = .returned (.bool true) ∧ Below W.heap.size W W') := by
  obtain ⟨E, hE, rfl⟩ := env_of W
  have hs : Sat E.w0 E.w0 ([] ++ [fun _ => True]) := ⟨rfl, rfl, rfl, Nat.le_refl _, fun _ _ => rfl, ⟨above E.w0 E.w0, fun _ => none, fun _ => .inr rfl, by funext b; simp [join], trivial, trivial⟩⟩
  have := h E hE rfl hB (fun _ => True) E.w0 hs
  rw [hE.P] at this
  exact this.mono fun e W' ⟨v, Qs, h1, ⟨h2, _⟩, h3⟩ => ⟨by rw [h1, h2], h3.os, h3.tape, h3.output, h3.size, h3.old⟩
end Go.Proofs.YtekhbjlplfbdkaaDoor
