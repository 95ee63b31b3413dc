/- Plain laws on periods, borders, squares and extensions. -/
import Derived.Test.YtoenonlkdmdlcaaGreatDoorQ08
set_option linter.unusedVariables false
set_option linter.unusedSimpArgs false
namespace Eg
/-- The letters at i and i + d are there and equal. -/
def Rep (T : List UInt8) (d i : Nat) : Prop := ∃ x, T[i]? = some x ∧ T[i + d]? = some x
theorem le_lcp {A B : List UInt8} {n : Nat} : n ≤ lcp A B ↔ ∀ i, i < n → ∃ x, A[i]? = some x ∧ B[i]? = some x := by
  induction n generalizing A B with
  | zero => simp
  | succ n ih =>
    cases A with
    | nil =>
      rw [lcp_nil_left]
      constructor
      · intro h; omega
      · intro h; obtain ⟨x, h1, _⟩ := h 0 (by omega); simp at h1
    | cons a A =>
      cases B with
      | nil =>
        rw [lcp_nil_right]
        constructor
        · intro h; omega
        · intro h; obtain ⟨x, _, h1⟩ := h 0 (by omega); simp at h1
      | cons b B =>
        by_cases e : a = b
        · subst e
          have : lcp (a :: A) (a :: B) = lcp A B + 1 := by simp [lcp]
          rw [this, Nat.add_le_add_iff_right, ih]
          constructor
          · intro h i hi
            cases i with
            | zero => exact ⟨a, rfl, rfl⟩
            | succ i => simpa using h i (by omega)
          · intro h i hi
            simpa using h (i + 1) (by omega)
        · have : lcp (a :: A) (b :: B) = 0 := by simp [lcp, e]
          rw [this]
          constructor
          · intro h; omega
          · intro h
            obtain ⟨x, h1, h2⟩ := h 0 (by omega)
            simp at h1 h2
            exact absurd (h1.trans h2.symm) e
theorem lcp_take {A B : List UInt8} {n : Nat} (ha : n ≤ A.length) (_hb : n ≤ B.length) : n ≤ lcp A B ↔ A.take n = B.take n := by
  rw [le_lcp]
  constructor
  · intro h
    apply List.ext_getElem?
    intro i
    rw [List.getElem?_take, List.getElem?_take]
    split
    · rename_i hi
      obtain ⟨x, h1, h2⟩ := h i hi
      rw [h1, h2]
    · rfl
  · intro h i hi
    have e := congrArg (·[i]?) h
    simp only [List.getElem?_take, if_pos hi] at e
    exact ⟨A[i]'(by omega), List.getElem?_eq_getElem (by omega), by rw [← e]; exact List.getElem?_eq_getElem (by omega)⟩
/-- Is d a period of the text? -/
def Per (T : List UInt8) (d : Nat) : Prop := lcp T (T.drop d) = T.length - d
instance (T : List UInt8) (d : Nat) : Decidable (Per T d) := inferInstanceAs (Decidable (_ = _))
theorem per_iff {T : List UInt8} {d : Nat} : Per T d ↔ ∀ i, i + d < T.length → Rep T d i := by
  have hl := (lcp_le T (T.drop d)).2
  rw [List.length_drop] at hl
  have : Per T d ↔ T.length - d ≤ lcp T (T.drop d) := by unfold Per; omega
  rw [this, le_lcp]
  constructor
  · intro h i hi
    obtain ⟨x, h1, h2⟩ := h i (by omega)
    rw [List.getElem?_drop, Nat.add_comm d i] at h2
    exact ⟨x, h1, h2⟩
  · intro h i hi
    obtain ⟨x, h1, h2⟩ := h i (by omega)
    exact ⟨x, h1, by rw [List.getElem?_drop, Nat.add_comm d i]; exact h2⟩
/-- The letters from a up to b. -/
def seg (T : List UInt8) (a b : Nat) : List UInt8 := (T.take b).drop a
theorem seg_length {T : List UInt8} {a b : Nat} (hb : b ≤ T.length) : (seg T a b).length = b - a := by unfold seg; rw [List.length_drop, List.length_take]; omega
theorem per_seg {T : List UInt8} {a b d : Nat} (hb : b ≤ T.length) : Per (seg T a b) d ↔ ∀ i, a ≤ i → i + d < b → Rep T d i := by
  rw [per_iff, seg_length hb]
  have key : ∀ i, a + i < b → (seg T a b)[i]? = T[a + i]? := fun i hi => by
    unfold seg
    rw [List.getElem?_drop, List.getElem?_take, if_pos hi]
  constructor
  · intro h i h1 h2
    obtain ⟨x, e1, e2⟩ := h (i - a) (by omega)
    rw [key _ (by omega)] at e1 e2
    exact ⟨x, by rw [← e1]; congr 1; omega, by rw [← e2]; congr 1; omega⟩
  · intro h i hi
    obtain ⟨x, e1, e2⟩ := h (a + i) (by omega) (by omega)
    exact ⟨x, by rw [key _ (by omega)]; exact e1, by rw [key _ (by omega), ← Nat.add_assoc]; exact e2⟩
/-- How many letters behind an offset are equal to those d letters on. -/
def aft (T : List UInt8) (p d : Nat) : Nat := lcp (T.drop p) (T.drop (p + d))
/-- How many letters before an offset are equal to those d letters on. -/
def bef (T : List UInt8) (p d : Nat) : Nat := lcp (T.take p).reverse (T.take (p + d)).reverse
theorem le_aft {T : List UInt8} {p d k : Nat} : k ≤ aft T p d ↔ ∀ i, i < k → Rep T d (p + i) := by
  unfold aft
  rw [le_lcp]
  constructor
  · intro h i hi
    obtain ⟨x, e1, e2⟩ := h i hi
    rw [List.getElem?_drop] at e1 e2
    exact ⟨x, e1, by rw [← e2]; congr 1; omega⟩
  · intro h i hi
    obtain ⟨x, e1, e2⟩ := h i hi
    exact ⟨x, by rw [List.getElem?_drop]; exact e1, by rw [List.getElem?_drop, ← e2]; congr 1; omega⟩
theorem rev_take {T : List UInt8} {p i : Nat} (hp : p ≤ T.length) (hi : i < p) : (T.take p).reverse[i]? = T[p - 1 - i]? := by
  have hl : (T.take p).length = p := by rw [List.length_take]; omega
  rw [List.getElem?_reverse (by omega), hl, List.getElem?_take, if_pos (by omega)]
theorem le_bef {T : List UInt8} {p d k : Nat} (hp : p + d ≤ T.length) (hk : k ≤ p) : k ≤ bef T p d ↔ ∀ i, i < k → Rep T d (p - 1 - i) := by
  unfold bef
  rw [le_lcp]
  constructor
  · intro h i hi
    obtain ⟨x, e1, e2⟩ := h i hi
    rw [rev_take (by omega) (by omega)] at e1
    rw [rev_take hp (by omega)] at e2
    exact ⟨x, e1, by rw [← e2]; congr 1; omega⟩
  · intro h i hi
    obtain ⟨x, e1, e2⟩ := h i hi
    exact ⟨x, by rw [rev_take (by omega) (by omega)]; exact e1, by rw [rev_take hp (by omega), ← e2]; congr 1; omega⟩
theorem bef_le {T : List UInt8} {p d : Nat} (hp : p ≤ T.length) : bef T p d ≤ p := by
  have := (lcp_le (T.take p).reverse (T.take (p + d)).reverse).1
  unfold bef
  rw [List.length_reverse, List.length_take] at this
  omega
theorem aft_le {T : List UInt8} {p d : Nat} : aft T p d ≤ T.length - (p + d) := by
  have := (lcp_le (T.drop p) (T.drop (p + d))).2
  rw [List.length_drop] at this
  exact this
/-- The ranges with the period that contain a range. -/
theorem per_range {T : List UInt8} {p d a b : Nat} (ha : a ≤ p) (hb : p + d ≤ b) (hl : b ≤ T.length) : Per (seg T a b) d ↔ p - bef T p d ≤ a ∧ b ≤ p + d + aft T p d := by
  rw [per_seg hl]
  have h1 : p - bef T p d ≤ a ↔ p - a ≤ bef T p d := by omega
  have h2 : b ≤ p + d + aft T p d ↔ b - d - p ≤ aft T p d := by omega
  rw [h1, h2, le_bef (by omega) (by omega), le_aft]
  constructor
  · intro h
    exact ⟨fun i hi => h _ (by omega) (by omega), fun i hi => h _ (by omega) (by omega)⟩
  · rintro ⟨h3, h4⟩ i hi hj
    by_cases hp : p ≤ i
    · have := h4 (i - p) (by omega)
      rwa [show p + (i - p) = i by omega] at this
    · have := h3 (p - 1 - i) (by omega)
      rwa [show p - 1 - (p - 1 - i) = i by omega] at this
/-- The best range that was met before the pair (a, b). -/
def bst (p n a0 b0 a b : Nat) : Nat × Nat := if a < a0 ∨ (a = a0 ∧ b ≤ p + n) then (p, n) else if a = a0 then (a0, min (b - 1) b0 - a0) else (a0, b0 - a0)
theorem bst_lo {p n a0 b0 a b : Nat} (h : a < a0 ∨ (a = a0 ∧ b ≤ p + n)) : bst p n a0 b0 a b = (p, n) := if_pos h
theorem bst_eq {p n a0 b0 b : Nat} (h : p + n < b) : bst p n a0 b0 a0 b = (a0, min (b - 1) b0 - a0) := by
  unfold bst
  rw [if_neg (by omega), if_pos rfl]
theorem bst_hi {p n a0 b0 a b : Nat} (h : a0 < a) : bst p n a0 b0 a b = (a0, b0 - a0) := by
  unfold bst
  rw [if_neg (by omega), if_neg (by omega)]
theorem bst_step {p n a0 b0 a b : Nat} (h0 : a0 ≤ p) (h1 : p + n ≤ b0) (ha : a ≤ p) (hb : p + n ≤ b) (hn : 1 ≤ n) :
    bst p n a0 b0 a (b + 1) = if (bst p n a0 b0 a b).2 < b - a ∧ (a0 ≤ a ∧ b ≤ b0) then (a, b - a) else bst p n a0 b0 a b := by
  by_cases c1 : a < a0
  · rw [bst_lo (b := b + 1) (.inl c1), bst_lo (b := b) (.inl c1)]
    rw [if_neg (by omega)]
  · by_cases c2 : a = a0
    · subst c2
      rw [bst_eq (b := b + 1) (by omega)]
      by_cases c3 : b ≤ p + n
      · have : b = p + n := by omega
        subst this
        rw [bst_lo (b := p + n) (.inr ⟨rfl, Nat.le_refl _⟩)]
        split
        · exact Prod.ext rfl (by show min (p + n + 1 - 1) b0 - a = p + n - a; omega)
        · rename_i hc
          have hc' : ¬ (n < p + n - a ∧ a ≤ a ∧ p + n ≤ b0) := hc
          exact Prod.ext (by show a = p; omega) (by show min (p + n + 1 - 1) b0 - a = n; omega)
      · rw [bst_eq (b := b) (by omega)]
        split
        · rename_i hc
          have hc' : min (b - 1) b0 - a < b - a ∧ a ≤ a ∧ b ≤ b0 := hc
          exact Prod.ext rfl (by show min (b + 1 - 1) b0 - a = b - a; omega)
        · rename_i hc
          have hc' : ¬ (min (b - 1) b0 - a < b - a ∧ a ≤ a ∧ b ≤ b0) := hc
          exact Prod.ext rfl (by show min (b + 1 - 1) b0 - a = min (b - 1) b0 - a; omega)
    · rw [bst_hi (b := b + 1) (by omega), bst_hi (b := b) (by omega)]
      rw [if_neg]
      intro hc
      have hc' : b0 - a0 < b - a ∧ a0 ≤ a ∧ b ≤ b0 := hc
      omega
theorem bst_next {p n a0 b0 a l : Nat} (h1 : p + n ≤ b0) (h2 : b0 ≤ l) : bst p n a0 b0 a (l + 1) = bst p n a0 b0 (a + 1) (p + n) := by
  by_cases c1 : a < a0
  · rw [bst_lo (.inl c1), bst_lo (by omega)]
  · by_cases c2 : a = a0
    · subst c2
      rw [bst_eq (by omega), bst_hi (by omega)]
      exact Prod.ext rfl (by show min (l + 1 - 1) b0 - a = b0 - a; omega)
    · rw [bst_hi (by omega), bst_hi (by omega)]
end Eg
