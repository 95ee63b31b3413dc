/- Plain laws on sorted lists of texts. -/
import Derived.Test.YtekhbjlplfbdkaaGreatDoorQ17
set_option linter.unusedVariables false
set_option linter.unusedSimpArgs false
namespace Eg
def Srt (ts : List (List UInt8)) : Prop := ∀ k A B, ts[k]? = some A → ts[k + 1]? = some B → cmpT A B ≤ 0
theorem Srt.le {ts : List (List UInt8)} (h : Srt ts) {i j : Nat} {A B : List UInt8} (hij : i ≤ j) (hA : ts[i]? = some A) (hB : ts[j]? = some B) : cmpT A B ≤ 0 := by
  induction j generalizing B with
  | zero =>
    obtain rfl : i = 0 := by omega
    rw [hA] at hB
    cases hB
    rw [cmpT_self]; exact Int.le_refl 0
  | succ j ih =>
    by_cases e : i = j + 1
    · subst e
      rw [hA] at hB
      cases hB
      rw [cmpT_self]; exact Int.le_refl 0
    · have hl := (List.getElem?_eq_some_iff.1 hB).1
      obtain ⟨C, hC⟩ : ∃ C, ts[j]? = some C := ⟨_, List.getElem?_eq_getElem (by omega)⟩
      exact cmpT_trans (ih (by omega) hC) (h j C B hC hB)
def cnt (p : List UInt8 → Bool) : List (List UInt8) → Nat
  | [] => 0
  | A :: l => if p A then cnt p l + 1 else 0
end Eg
