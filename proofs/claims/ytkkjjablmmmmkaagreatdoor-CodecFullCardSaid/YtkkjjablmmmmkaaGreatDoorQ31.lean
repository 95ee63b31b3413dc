import Derived.Test.YtkkjjablmmmmkaaGreatDoorQ30
set_option linter.all false
namespace Sl
open Go Go.RowKit
section
variable {α : Type} {pre r : List α} {x0 x1 x2 x3 x4 x5 x6 x7 : α}
theorem ap_0 : (pre ++ x0 :: r)[pre.length]? = some x0 := by simp
theorem ap_1 : (pre ++ x0 :: x1 :: r)[pre.length + 1]? = some x1 := by simp
theorem ap_2 : (pre ++ x0 :: x1 :: x2 :: r)[pre.length + 2]? = some x2 := by simp
theorem ap_3 : (pre ++ x0 :: x1 :: x2 :: x3 :: r)[pre.length + 3]? = some x3 := by simp
theorem ap_4 : (pre ++ x0 :: x1 :: x2 :: x3 :: x4 :: r)[pre.length + 4]? = some x4 := by simp
end
section
variable {pre r : List Value} {x0 x1 x2 x3 x4 x5 x6 x7 v : Value}
theorem sm_0 : zZ (pre ++ x0 :: r) pre.length [v] = pre ++ v :: r := by simp [zZ]
theorem sm_1 : zZ (pre ++ x0 :: x1 :: r) (pre.length + 1) [v] = pre ++ x0 :: v :: r := by simp [zZ]
end
section
variable {E : Env} {n : Nat} {L : Fr} {S l : List HP} {o : Oper} {v : Value} {ι : Type} {f : ι → HP}
def Ex (f : ι → HP) : HP := fun h => ∃ i, f i h
theorem qXr (i : ι) (h : ∀ k, qAb l k → qAb (f i :: S) k) : ∀ k, qAb l k → qAb (Ex f :: S) k := fun k x => qBk (fun _ y => ⟨i, y⟩) (h k x)
theorem qWf (h : ∀ i, Yl E n L (f i :: S) o v) : Yl E n L (Ex f :: S) o v := fun a w g s => by
 obtain ⟨h1, h2, d, e, ⟨i, hp⟩, hq⟩ := s.hp
 exact h i a w g ⟨s.os, s.tape, s.output, s.size, s.old, ⟨h1, h2, d, e, hp, hq⟩⟩
end
end Sl
namespace Go.Proofs.YtkkjjablmmmmkaaGreatDoor
open Go Go.RowKit Sl Eg
set_option maxRecDepth 10000
variable {E : Env} {Es : List Ent} {pp tb s most : Nat}
end Go.Proofs.YtkkjjablmmmmkaaGreatDoor
