import Derived.Test.YtddfnkijolfhbaaGreatQ60
import Derived.Laws.IdiomRangeMap
set_option linter.all false
set_option maxHeartbeats 1000000
namespace Sl
open Go Go.RowKit
theorem qJg {α β : Type} {f : α → β} : ∀ {l : List α}, (l.map f).Nodup → ∀ {a b : α}, a ∈ l → b ∈ l → f a = f b → a = b
 | [], _, _, _, h, _, _ => by cases h
 | x :: l, hn, a, b, ha, hb, e => by
  have hn' := List.nodup_cons.1 hn
  rcases List.mem_cons.1 ha with rfl | ha' <;> rcases List.mem_cons.1 hb with rfl | hb'
  ·rfl
  ·exact absurd (List.mem_map.2 ⟨b, hb', e.symm⟩) hn'.1
  ·exact absurd (List.mem_map.2 ⟨a, ha', e⟩) hn'.1
  exact qJg hn'.2 ha' hb' e
variable {ki : IntKind} {es : List MapEntry} {c : Nat} {M : List (Int × Value)}
theorem run_next {P : Program} {w : World} {ty : TypeId} {r b since c0 c : Nat} {seen : Array Nat} {es : Array MapEntry} (hr : w.heap[r]? = some (.mapIter (some b) since seen c0)) (hb : w.heap[b]? = some (.map es c)) (hold : ∀ x ∈ es.toList, x.born < since) (hsc : since ≤ c0) :
  ((∀ e ∈ es.toList, seen.contains e.born = true) ∧ (Instr.next (.pointer (some ⟨r, 0, none⟩)) false ty).run P w = .ok (.tuple #[.bool false]) w) ∨
  ∃ e ∈ es.toList, seen.contains e.born = false ∧ ∃ w1 : World, (w1 = w ∨ w1 = w.drew) ∧ (Instr.next (.pointer (some ⟨r, 0, none⟩)) false ty).run P w = .ok (.tuple #[.bool true, e.key, e.val]) (ChangeMaps.setBlock w1 r (.mapIter (some b) since (seen.push e.born) c)) := by
 simp only [Instr.next, getObj, Sem.run_bind, Sem.run, hr, hb, Result.andThen, next_test_false seen es since c0 hold hsc, Bool.false_eq_true, if_false]
 have hmem : ∀ x, x ∈ (Array.filter (fun e => !seen.contains e.born) es).toList → x ∈ es.toList ∧ seen.contains x.born = false := fun x hx => by simpa using hx
 have hall : (Array.filter (fun e => !seen.contains e.born) es).size = 0 → ∀ e ∈ es.toList, seen.contains e.born = true := fun h0 e he => by
  cases hc : seen.contains e.born with
  | true => rfl
  | false =>
   have h1 : e ∈ Array.filter (fun e => !seen.contains e.born) es := Array.mem_filter.2 ⟨by simpa using he, by rw [hc]; rfl⟩
   obtain ⟨i, hi, _⟩ := Array.mem_iff_getElem.1 h1
   omega
 generalize Array.filter (fun e => !seen.contains e.born) es = Lf at hmem hall ⊢
 have e1 : Lf.filter (fun x => decide (x.born < since)) = Lf := Array.filter_eq_self.2 (fun x hx => by simpa using hold x (hmem x (by simpa using hx)).1)
 have e2 : Lf.filter (fun x => decide (x.born ≥ since)) = #[] := by
  rw [Array.filter_eq_empty_iff]
  intro x hx
  have := hold x (hmem x (by simpa using hx)).1
  simp
  omega
 simp only [e1, e2, Array.append_empty]
 by_cases h0 : Lf.size = 0
 ·left
  refine ⟨hall h0, ?_⟩
  have : Lf = #[] := Array.eq_empty_of_size_eq_zero h0
  subst this
  simp [choose, Sem.run, Question.forced]
 right
 have hne : Lf.isEmpty = false := by simp [Array.isEmpty, h0]
 simp only [hne, Bool.false_eq_true, if_false, Array.empty_append, Array.size_map]
 have hch : ∃ (j : Nat) (w1 : World), j < Lf.size ∧ (w1 = w ∨ w1 = w.drew) ∧ (choose (Question.mapNext Lf.size)).run P w = .ok j w1 := by
  by_cases hf : Lf.size ≤ 1
  ·exact ⟨0, w, by omega, .inl rfl, by simp [choose, Sem.run, Question.forced, hf]⟩
  exact ⟨_, w.drew, Nat.mod_lt _ (by omega), .inr rfl, by
   simp only [choose, Sem.run, Question.forced, decide_eq_true_eq, hf, if_false, Question.cut]
   rfl⟩
 obtain ⟨j, w1, hj, hal, hrun⟩ := hch
 have h3 := hmem Lf[j] (by simp)
 refine ⟨Lf[j], h3.1, h3.2, w1, hal, ?_⟩
 have hr1 : w1.heap[r]? = some (.mapIter (some b) since seen c0) := by
  rcases hal with rfl | rfl
  ·exact hr
  exact hr
 simp only [hrun, Array.getElem?_map, Array.getElem?_eq_getElem hj, Option.map_some, Sem.run_bind, Result.andThen, setObj, Sem.run]
 rw [hr1]
 rfl
end Sl
