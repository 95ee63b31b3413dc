/- evergreenlaw26.PrefixTexts. -/
import Derived.Test.YtoenonlkdmdlcaaGreatDoorQ13
set_option linter.unusedVariables false
set_option linter.unusedSimpArgs false
namespace Go.Proofs.YtoenonlkdmdlcaaGreatDoor
open Go Go.RowKit Sl Eg
set_option maxRecDepth 10000
variable {E : Env} {Es : List Ent} {pp tb s most : Nat}
theorem lcp_self (a : List UInt8) : lcp a a = a.length := by
  have := lcp_append a [] []
  simpa [lcp_nil_left] using this
theorem lcp_all {a b : List UInt8} (h1 : lcp a b = a.length) (h2 : lcp a b = b.length) : a = b := by
  induction a generalizing b with
  | nil => cases b with
    | nil => rfl
    | cons y b => simp [lcp] at h2
  | cons x a ih => cases b with
    | nil => simp [lcp] at h1
    | cons y b =>
      by_cases e : x = y
      · subst e
        simp [lcp] at h1 h2
        rw [ih h1 h2]
      · simp [lcp, e] at h1
theorem good_ext {L : List Rl} (M : List Rl) {i : Nat} (h : good L i) : good (L ++ M) i := ⟨by have := h.1; rw [List.length_append]; omega, by rw [lvl_ext _ h.1]; exact h.2⟩
end Go.Proofs.YtoenonlkdmdlcaaGreatDoor
