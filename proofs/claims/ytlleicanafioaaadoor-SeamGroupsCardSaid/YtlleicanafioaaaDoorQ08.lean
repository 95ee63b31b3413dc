import Derived.Test.YtlleicanafioaaaDoorQ07
import Derived.LoopN
set_option linter.all false
set_option maxHeartbeats 1000000
namespace Eg
def cost (L : List Rl) : List (Nat × Nat) → Nat
 | [] => 0
 | g :: r => g.2 * (2 * len L g.1 - 1) + cost L r
end Eg
namespace Sl
open Go Go.RowKit
variable {E : Env} {n : Nat} {L : Fr} {S H H' : List HP} {ty : TypeId} {pos : String} {af : Array Edge} {d : Option Nat} {gd : Option (Nat × Bool)} {K : Value → List HP → Prop} {Q : Exit → Act → World → Prop}
theorem qQx {ops : List Oper} {m : Nat} {S : List HP} {fuel : Nat} {listed : Array Bool} (i j : Nat) {d d' : Option Nat} {op op' : Op} {ty ty' : TypeId} {pos pos' : String} {af af' : Array Edge} (hi : ops[i]? = some ⟨d, op, ty, pos, af, none⟩) (hj : ops[j]? = some ⟨d', op', ty', pos', af', none⟩) (hr : Region.ready .any ops.toArray listed = [i, j]) (hd : inB n d = true) (hd' : inB n d' = true)
  (h : Ld E n L H ⟨d, op, ty, pos, af, none⟩ (fun v H' => (∀ k, qAe H' k → qAe S k) ∧ WPM E ops m S Q fuel (listed.setIfInBounds i true) n (putL d v L) H')) (h' : Ld E n L H ⟨d', op', ty', pos', af', none⟩ (fun v H' => (∀ k, qAe H' k → qAe S k) ∧ WPM E ops m S Q fuel (listed.setIfInBounds j true) n (putL d' v L) H')) : WPM E ops m S Q (fuel + 1) listed n L H := fun _ a w g =>
 ⟨fun h0 => (by rw [hr] at h0; cases h0), fun x hx => by
  have hx' : x = i ∨ x = j := by rw [hr] at hx; simpa using hx
  rcases hx' with rfl | rfl
  ·unfold wpOp
   simp only [qAr hi, Region.wanted, if_true]
   exact .inl (h _ _ a w g (fun v H' w' hk hs => ⟨fun _ => hs.imp hk.1, hk.2 hk.1 _ _ ⟨g.f.put d v hd, hs⟩⟩))
  unfold wpOp
  simp only [qAr hj, Region.wanted, if_true]
  exact .inl (h' _ _ a w g (fun v H' w' hk hs => ⟨fun _ => hs.imp hk.1, hk.2 hk.1 _ _ ⟨g.f.put d' v hd', hs⟩⟩))⟩
theorem y_and {x y : Operand} {xt yt : TypeId} {i j : Int} {kd : IntKind} (hx : ev L x = some (.int kd i)) (hy : ev L y = some (.int kd j)) :
  Yl E n L S ⟨d, .binOp .and xt x y yt, ty, pos, af, gd⟩ (.int kd (kd.wrap (BitVec.ofInt kd.bits i &&& BitVec.ofInt kd.bits j).toNat)) := fun a w g _ => by
 simp [execOp, eqGuard, binOp, Op.intBits, g.ev hx, g.ev hy]
def WRd (E : Env) (c : Code) (Q : Exit → Act → World → Prop) (m : Nat) (n : Nat) (L : Fr) (H : List HP) : Prop := ∀ a w, Good E n L H a w → Code.rounds E.P c Q m a w
theorem qKi (m : Nat) {c : Code} (h : WRd E c Q m n L H) : WP E (.loop c) Q n L H := fun a w g => wp_loop_rounds m (h a w g)
theorem qFm {m : Nat} {c : Code} (h : WP E c (Exit.then (Code.rounds E.P c Q m) Q) n L H) : WRd E c Q (m + 1) n L H := fun a w g => h a w g
theorem a_rd {m : Nat} {c : Code} (h : WRd E c Q m n L H) : AT E (Exit.then (Code.rounds E.P c Q m) Q) .normal n L H := h
theorem qLy {x y : Operand} {t e : TypeId} {len sz sz' : Nat} {k : IntKind} {i : Int} {kk : TK} {zs zs' cs : List Value} {v : Value} (h : ev L x = some (.agg ⟨cs⟩)) (hy : ev L y = some (.int k i)) (ht : E.tab t = some ⟨.array len e 1, sz, zs⟩) (he : E.tab e = some ⟨kk, sz', zs'⟩) (hk : kk.agg = false)
  (h0 : 0 ≤ i) (h1 : i < len) (hv : cs[i.toNat]? = some v) : Yl E n L S ⟨d, .index t x y, ty, pos, af, gd⟩ v := fun a w g _ => by
 obtain ⟨hu, j, hj, hs⟩ := qOi ht
 simp [execOp, Instr.index, asIntOf, underlying, program, Sem.run, hu, g.ev h, g.ev hy, h0, h1, Go.sizeOf, typeInfo, hj, hs, part, qFy he, hk, hv]
theorem qGw {t e : TypeId} {len s : Nat} {ps : List (Nat × Operand)} {vs : List (Nat × Value)} {sz : Nat} {zs cs : List Value} (ht : E.tab t = some ⟨.array len e s, sz, zs⟩) (hp : evP L ps = some vs) (hf : qUx (fun i => some (i * s, s)) zs vs = some cs) :
  Yl E n L S ⟨d, .build t ps.toArray, ty, pos, af, gd⟩ (.agg ⟨cs⟩) := fun a w g _ => by
 obtain ⟨z, hz, hc⟩ := qMj ht w
 obtain ⟨hu, j, hj, hs⟩ := qOi ht
 have hps := g.evP hp
 have hfill := qQo (fun i => some (i * s, s)) vs zs cs hf
 have e' : z.cells = ⟨zs⟩ := by rw [← hc]
 have hpl : (ps.toArray.map fun x => match x with | (i, x) => (i, a.eval x)).toList = vs := by simpa using hps
 simp only [execOp, Instr.build, Sem.run_bind, hz, Result.andThen_ok, underlying, program, Sem.run, hu, Go.sizeOf, typeInfo, hj, hs, e', hpl, Sem.run_pure]
 rw [hfill]
 rfl
end Sl
