/- evergreenref12: Add. (Written by mkadd.py.) -/
import Derived.Test.YtkkjjablmmmmkaaGreatDoorQ02
import Derived.Test.YtkkjjablmmmmkaaGreatDoorQ08
import Derived.Test.YtkkjjablmmmmkaaGreatDoorQ20
import Derived.Test.YtkkjjablmmmmkaaGreatDoorQ50
set_option linter.unusedVariables false
set_option linter.unusedSimpArgs false
namespace Sl
open Go Go.RowKit
variable {E : Env} {n : Nat} {L L' : Fr} {S H H' : List HP} {K : Value → List HP → Prop} {Q : Exit → Act → World → Prop} {ty : TypeId} {pos : String} {af : Array Edge} {d : Option Nat} {gd : Option (Nat × Bool)}
end Sl
namespace Go.Proofs.YtkkjjablmmmmkaaGreatDoor
open Go Go.RowKit Sl Eg
set_option maxRecDepth 10000
variable {E : Env} {L : List Rl}
theorem rusC_length (L : List Rl) : (rusC L).length = L.length * 5 := by
 induction L with
 | nil => rfl
 | cons r L ih => simp only [rusC, List.flatMap_cons, List.length_append, List.length_cons] at ih ⊢; rw [ih]; simp [rlC]; omega
theorem rusC_at {L : List Rl} {k : Nat} {r : Rl} (h : L[k]? = some r) (o : Nat) (ho : o = k * 5) : (rusC L)[o]? = some (.int .i64 (Rl.kind r : Nat)) ∧ (rusC L)[o + 1]? = some (.int .u8 (Rl.byte r : Nat)) ∧ (rusC L)[o + 2]? = some (.int .i64 (Rl.left r : Nat)) ∧ (rusC L)[o + 3]? = some (.int .i64 (Rl.right r : Nat)) ∧ (rusC L)[o + 4]? = some (.int .i64 (Rl.times r : Nat)) := by
 have hk := (List.getElem?_eq_some_iff.1 h).1
 have e : L = L.take k ++ r :: L.drop (k + 1) := by
  obtain ⟨h1, e1⟩ := List.getElem?_eq_some_iff.1 h
  have e2 : L.drop k = r :: L.drop (k + 1) := by rw [List.drop_eq_getElem_cons h1, e1]
  rw [← e2, List.take_append_drop]
 have hl : (rusC (L.take k)).length = o := by rw [rusC_length, List.length_take, Nat.min_eq_left (by omega), ho]
 have e2 : rusC L = rusC (L.take k) ++ (rlC r ++ (L.drop (k + 1)).flatMap rlC) := by
  conv => lhs; rw [e]
  simp [rusC]
 rw [e2]
 subst hl
 exact ⟨ap_0, ap_1, ap_2, ap_3, ap_4⟩
theorem y_eq_rule (hE : Seat E) {n : Nat} {L : Fr} {S : List HP} {ty : TypeId} {pos : String} {af : Array Edge} {d : Option Nat} {gd : Option (Nat × Bool)} {x y : Operand} {yt : TypeId} {a b : Rl} (hx : ev L x = some (ruleV a)) (hy : ev L y = some (ruleV b)) :
  Yl E n L S ⟨d, .binOp .eql 82 x y yt, ty, pos, af, gd⟩ (.bool (decide (a = b))) := fun ac w g _ => by
 have h1 : (eqGuard .eql 82 x y (ruleV a) (ruleV b)).run E.P w = .ok () w := by
  have hg : E.P.eqGuardType E.P.depth 82 = false := by rw [hE.P]; kernel_rfl
  unfold eqGuard ruleV
  simp [program, Sem.run, hg]
 have h2 : binOp .eql 82 (ruleV a) (ruleV b) = (do pure (.bool (← Op.equal 82 (ruleV a) (ruleV b)))) := rfl
 have h3 := rule_equal a b w
 rw [← hE.P] at h3
 simp [execOp, h1, h2, h3, g.ev hx, g.ev hy]
theorem idOf_at {L : List Rl} (hw : Wf L) {r : Rl} {i : Nat} (h : L[i]? = some r) : idOf L r = i + 1 := by
 obtain ⟨h1, h2⟩ := idOf_some (List.mem_of_getElem? h)
 have := hw.nodup _ _ _ h h2
 omega
theorem rusC_snoc (L : List Rl) (r : Rl) : rusC (L ++ [r]) = rusC L ++ rlC r := by simp [rusC]
end Go.Proofs.YtkkjjablmmmmkaaGreatDoor
