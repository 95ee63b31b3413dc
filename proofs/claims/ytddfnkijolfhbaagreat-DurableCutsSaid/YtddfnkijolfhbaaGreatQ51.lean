import Derived.Test.YtddfnkijolfhbaaGreatQ50
set_option linter.all false
set_option maxHeartbeats 1000000
namespace Sl
open Go Go.RowKit
variable {E : Env} {n : Nat} {L L' : Fr} {S H H' : List HP} {K : Value → List HP → Prop} {Q : Exit → Act → World → Prop} {ty : TypeId} {pos : String} {af : Array Edge} {d : Option Nat} {gd : Option (Nat × Bool)}
theorem m_abs {ops : List Oper} {m f : Nat} {l : Array Bool} (h : ∀ W : Nat → Array Bool → Fr → List HP → Prop, (∀ f l L H, W f l L H ↔ WPM E ops m S Q f l n L H) → W f l L H) : WPM E ops m S Q f l n L H := h (fun f l L H => WPM E ops m S Q f l n L H) (fun _ _ _ _ => Iff.rfl)
theorem qAt {ops : List Oper} {m f : Nat} {l' l : Array Bool} (e : l' = l) (h : WPM E ops m S Q f l n L H) : WPM E ops m S Q f l' n L H := e ▸ h
end Sl
namespace Go.Proofs.YtddfnkijolfhbaaGreat
open Go Go.RowKit Sl Eg
set_option maxRecDepth 10000
variable {E : Env} {L : List Rl}
theorem qUy (L : List Rl) : (rusC L).length = L.length * 5 := by
 induction L with
 | nil => rfl
 | cons r L ih => simp only [rusC, List.flatMap_cons, List.length_append, List.length_cons] at ih ⊢; rw [ih]; simp [rlC]; omega
theorem zBk {L : List Rl} {k : Nat} {r : Rl} (h : L[k]? = some r) (o : Nat) (ho : o = k * 5) : (rusC L)[o]? = some (.int .i64 (Rl.kind r : Nat)) ∧ (rusC L)[o + 1]? = some (.int .u8 (Rl.byte r : Nat)) ∧ (rusC L)[o + 2]? = some (.int .i64 (Rl.left r : Nat)) ∧ (rusC L)[o + 3]? = some (.int .i64 (Rl.right r : Nat)) ∧ (rusC L)[o + 4]? = some (.int .i64 (Rl.times r : Nat)) := by
 have hk := (List.getElem?_eq_some_iff.1 h).1
 have e : L = L.take k ++ r :: L.drop (k + 1) := by
  obtain ⟨h1, e1⟩ := List.getElem?_eq_some_iff.1 h
  have e2 : L.drop k = r :: L.drop (k + 1) := by rw [List.drop_eq_getElem_cons h1, e1]
  rw [← e2, List.take_append_drop]
 have hl : (rusC (L.take k)).length = o := by rw [qUy, List.length_take, Nat.min_eq_left (by omega), ho]
 have e2 : rusC L = rusC (L.take k) ++ (rlC r ++ (L.drop (k + 1)).flatMap rlC) := by
  conv => lhs; rw [e]
  simp [rusC]
 rw [e2]
 subst hl
 exact ⟨ap_0, ap_1, ap_2, ap_3, ap_4⟩
theorem qNk (L : List Rl) (r : Rl) : rusC (L ++ [r]) = rusC L ++ rlC r := by simp [rusC]
end Go.Proofs.YtddfnkijolfhbaaGreat
