/- Plain laws on periods, borders, squares and extensions. -/
import Derived.Test.YtlmdkaniblhdmaaDoorQ08
import Derived.Test.YtlmdkaniblhdmaaDoorQLwc
import Derived.Test.YtlmdkaniblhdmaaDoorQSlq
set_option linter.unusedVariables false
set_option linter.unusedSimpArgs false
namespace Eg
/-- The letters at i and i + d are there and equal. -/
def Rep (T : List UInt8) (d i : Nat) : Prop := ∃ x, T[i]? = some x ∧ T[i + d]? = some x
theorem le_lcp {A B : List UInt8} {n : Nat} : n ≤ lcp A B ↔ ∀ i, i < n → ∃ x, A[i]? = some x ∧ B[i]? = some x := by
  induction n generalizing A B with
  | zero => simp
  | succ n ih =>
    cases A with
    | nil =>
      rw [lcp_nil_left]
      constructor
      · intro h; omega
      · intro h; obtain ⟨x, h1, _⟩ := h 0 (by omega); simp at h1
    | cons a A =>
      cases B with
      | nil =>
        rw [lcp_nil_right]
        constructor
        · intro h; omega
        · intro h; obtain ⟨x, _, h1⟩ := h 0 (by omega); simp at h1
      | cons b B =>
        by_cases e : a = b
        · subst e
          have : lcp (a :: A) (a :: B) = lcp A B + 1 := by simp [lcp]
          rw [this, Nat.add_le_add_iff_right, ih]
          constructor
          · intro h i hi
            cases i with
            | zero => exact ⟨a, rfl, rfl⟩
            | succ i => simpa using h i (by omega)
          · intro h i hi
            simpa using h (i + 1) (by omega)
        · have : lcp (a :: A) (b :: B) = 0 := by simp [lcp, e]
          rw [this]
          constructor
          · intro h; omega
          · intro h
            obtain ⟨x, h1, h2⟩ := h 0 (by omega)
            simp at h1 h2
            exact absurd (h1.trans h2.symm) e
theorem lcp_take {A B : List UInt8} {n : Nat} (ha : n ≤ A.length) (_hb : n ≤ B.length) : n ≤ lcp A B ↔ A.take n = B.take n := by
  rw [le_lcp]
  constructor
  · intro h
    apply List.ext_getElem?
    intro i
    rw [List.getElem?_take, List.getElem?_take]
    split
    · rename_i hi
      obtain ⟨x, h1, h2⟩ := h i hi
      rw [h1, h2]
    · rfl
  · intro h i hi
    have e := congrArg (·[i]?) h
    simp only [List.getElem?_take, if_pos hi] at e
    exact ⟨A[i]'(by omega), List.getElem?_eq_getElem (by omega), by rw [← e]; exact List.getElem?_eq_getElem (by omega)⟩
/-- Is d a period of the text? -/
def Per (T : List UInt8) (d : Nat) : Prop := lcp T (T.drop d) = T.length - d
instance (T : List UInt8) (d : Nat) : Decidable (Per T d) := inferInstanceAs (Decidable (_ = _))
theorem per_iff {T : List UInt8} {d : Nat} : Per T d ↔ ∀ i, i + d < T.length → Rep T d i := by
  have hl := (lcp_le T (T.drop d)).2
  rw [List.length_drop] at hl
  have : Per T d ↔ T.length - d ≤ lcp T (T.drop d) := by unfold Per; omega
  rw [this, le_lcp]
  constructor
  · intro h i hi
    obtain ⟨x, h1, h2⟩ := h i (by omega)
    rw [List.getElem?_drop, Nat.add_comm d i] at h2
    exact ⟨x, h1, h2⟩
  · intro h i hi
    obtain ⟨x, h1, h2⟩ := h i (by omega)
    exact ⟨x, h1, by rw [List.getElem?_drop, Nat.add_comm d i]; exact h2⟩
/-- The letters from a up to b. -/
def seg (T : List UInt8) (a b : Nat) : List UInt8 := (T.take b).drop a
theorem seg_length {T : List UInt8} {a b : Nat} (hb : b ≤ T.length) : (seg T a b).length = b - a := by unfold seg; rw [List.length_drop, List.length_take]; omega
theorem per_seg {T : List UInt8} {a b d : Nat} (hb : b ≤ T.length) : Per (seg T a b) d ↔ ∀ i, a ≤ i → i + d < b → Rep T d i := by
  rw [per_iff, seg_length hb]
  have key : ∀ i, a + i < b → (seg T a b)[i]? = T[a + i]? := fun i hi => by
    unfold seg
    rw [List.getElem?_drop, List.getElem?_take, if_pos hi]
  constructor
  · intro h i h1 h2
    obtain ⟨x, e1, e2⟩ := h (i - a) (by omega)
    rw [key _ (by omega)] at e1 e2
    exact ⟨x, by rw [← e1]; congr 1; omega, by rw [← e2]; congr 1; omega⟩
  · intro h i hi
    obtain ⟨x, e1, e2⟩ := h (a + i) (by omega) (by omega)
    exact ⟨x, by rw [key _ (by omega)]; exact e1, by rw [key _ (by omega), ← Nat.add_assoc]; exact e2⟩
/-- How many letters behind an offset are equal to those d letters on. -/
def aft (T : List UInt8) (p d : Nat) : Nat := lcp (T.drop p) (T.drop (p + d))
/-- How many letters before an offset are equal to those d letters on. -/
def bef (T : List UInt8) (p d : Nat) : Nat := lcp (T.take p).reverse (T.take (p + d)).reverse
theorem le_aft {T : List UInt8} {p d k : Nat} : k ≤ aft T p d ↔ ∀ i, i < k → Rep T d (p + i) := by
  unfold aft
  rw [le_lcp]
  constructor
  · intro h i hi
    obtain ⟨x, e1, e2⟩ := h i hi
    rw [List.getElem?_drop] at e1 e2
    exact ⟨x, e1, by rw [← e2]; congr 1; omega⟩
  · intro h i hi
    obtain ⟨x, e1, e2⟩ := h i hi
    exact ⟨x, by rw [List.getElem?_drop]; exact e1, by rw [List.getElem?_drop, ← e2]; congr 1; omega⟩
theorem rev_take {T : List UInt8} {p i : Nat} (hp : p ≤ T.length) (hi : i < p) : (T.take p).reverse[i]? = T[p - 1 - i]? := by
  have hl : (T.take p).length = p := by rw [List.length_take]; omega
  rw [List.getElem?_reverse (by omega), hl, List.getElem?_take, if_pos (by omega)]
theorem le_bef {T : List UInt8} {p d k : Nat} (hp : p + d ≤ T.length) (hk : k ≤ p) : k ≤ bef T p d ↔ ∀ i, i < k → Rep T d (p - 1 - i) := by
  unfold bef
  rw [le_lcp]
  constructor
  · intro h i hi
    obtain ⟨x, e1, e2⟩ := h i hi
    rw [rev_take (by omega) (by omega)] at e1
    rw [rev_take hp (by omega)] at e2
    exact ⟨x, e1, by rw [← e2]; congr 1; omega⟩
  · intro h i hi
    obtain ⟨x, e1, e2⟩ := h i hi
    exact ⟨x, by rw [rev_take (by omega) (by omega)]; exact e1, by rw [rev_take hp (by omega), ← e2]; congr 1; omega⟩
theorem bef_le {T : List UInt8} {p d : Nat} (hp : p ≤ T.length) : bef T p d ≤ p := by
  have := (lcp_le (T.take p).reverse (T.take (p + d)).reverse).1
  unfold bef
  rw [List.length_reverse, List.length_take] at this
  omega
theorem aft_le {T : List UInt8} {p d : Nat} : aft T p d ≤ T.length - (p + d) := by
  have := (lcp_le (T.drop p) (T.drop (p + d))).2
  rw [List.length_drop] at this
  exact this
/-- The ranges with the period that contain a range. -/
theorem per_range {T : List UInt8} {p d a b : Nat} (ha : a ≤ p) (hb : p + d ≤ b) (hl : b ≤ T.length) : Per (seg T a b) d ↔ p - bef T p d ≤ a ∧ b ≤ p + d + aft T p d := by
  rw [per_seg hl]
  have h1 : p - bef T p d ≤ a ↔ p - a ≤ bef T p d := by omega
  have h2 : b ≤ p + d + aft T p d ↔ b - d - p ≤ aft T p d := by omega
  rw [h1, h2, le_bef (by omega) (by omega), le_aft]
  constructor
  · intro h
    exact ⟨fun i hi => h _ (by omega) (by omega), fun i hi => h _ (by omega) (by omega)⟩
  · rintro ⟨h3, h4⟩ i hi hj
    by_cases hp : p ≤ i
    · have := h4 (i - p) (by omega)
      rwa [show p + (i - p) = i by omega] at this
    · have := h3 (p - 1 - i) (by omega)
      rwa [show p - 1 - (p - 1 - i) = i by omega] at this
/-- The best range that was met before the pair (a, b). -/
def bst (p n a0 b0 a b : Nat) : Nat × Nat := if a < a0 ∨ (a = a0 ∧ b ≤ p + n) then (p, n) else if a = a0 then (a0, min (b - 1) b0 - a0) else (a0, b0 - a0)
theorem bst_lo {p n a0 b0 a b : Nat} (h : a < a0 ∨ (a = a0 ∧ b ≤ p + n)) : bst p n a0 b0 a b = (p, n) := if_pos h
theorem bst_eq {p n a0 b0 b : Nat} (h : p + n < b) : bst p n a0 b0 a0 b = (a0, min (b - 1) b0 - a0) := by
  unfold bst
  rw [if_neg (by omega), if_pos rfl]
theorem bst_hi {p n a0 b0 a b : Nat} (h : a0 < a) : bst p n a0 b0 a b = (a0, b0 - a0) := by
  unfold bst
  rw [if_neg (by omega), if_neg (by omega)]
theorem bst_step {p n a0 b0 a b : Nat} (h0 : a0 ≤ p) (h1 : p + n ≤ b0) (ha : a ≤ p) (hb : p + n ≤ b) (hn : 1 ≤ n) :
    bst p n a0 b0 a (b + 1) = if (bst p n a0 b0 a b).2 < b - a ∧ (a0 ≤ a ∧ b ≤ b0) then (a, b - a) else bst p n a0 b0 a b := by
  by_cases c1 : a < a0
  · rw [bst_lo (b := b + 1) (.inl c1), bst_lo (b := b) (.inl c1)]
    rw [if_neg (by omega)]
  · by_cases c2 : a = a0
    · subst c2
      rw [bst_eq (b := b + 1) (by omega)]
      by_cases c3 : b ≤ p + n
      · have : b = p + n := by omega
        subst this
        rw [bst_lo (b := p + n) (.inr ⟨rfl, Nat.le_refl _⟩)]
        split
        · exact Prod.ext rfl (by show min (p + n + 1 - 1) b0 - a = p + n - a; omega)
        · rename_i hc
          have hc' : ¬ (n < p + n - a ∧ a ≤ a ∧ p + n ≤ b0) := hc
          exact Prod.ext (by show a = p; omega) (by show min (p + n + 1 - 1) b0 - a = n; omega)
      · rw [bst_eq (b := b) (by omega)]
        split
        · rename_i hc
          have hc' : min (b - 1) b0 - a < b - a ∧ a ≤ a ∧ b ≤ b0 := hc
          exact Prod.ext rfl (by show min (b + 1 - 1) b0 - a = b - a; omega)
        · rename_i hc
          have hc' : ¬ (min (b - 1) b0 - a < b - a ∧ a ≤ a ∧ b ≤ b0) := hc
          exact Prod.ext rfl (by show min (b + 1 - 1) b0 - a = min (b - 1) b0 - a; omega)
    · rw [bst_hi (b := b + 1) (by omega), bst_hi (b := b) (by omega)]
      rw [if_neg]
      intro hc
      have hc' : b0 - a0 < b - a ∧ a0 ≤ a ∧ b ≤ b0 := hc
      omega
theorem bst_next {p n a0 b0 a l : Nat} (h1 : p + n ≤ b0) (h2 : b0 ≤ l) : bst p n a0 b0 a (l + 1) = bst p n a0 b0 (a + 1) (p + n) := by
  by_cases c1 : a < a0
  · rw [bst_lo (.inl c1), bst_lo (by omega)]
  · by_cases c2 : a = a0
    · subst c2
      rw [bst_eq (by omega), bst_hi (by omega)]
      exact Prod.ext rfl (by show min (l + 1 - 1) b0 - a = b0 - a; omega)
    · rw [bst_hi (by omega), bst_hi (by omega)]
end Eg
/- Package period: check, Has; evergreenref28.Has. -/
namespace Go.Proofs.YtlmdkaniblhdmaaDoor
open Go Go.RowKit Sl Eg
set_option maxRecDepth 10000
variable {E : Env} {Es : List Ent} {pp tb s most : Nat}
theorem tup_bool {p q : Prop} [Decidable p] [Decidable q] (h : p ↔ q) {e : Value} : Value.tuple #[.bool (decide p), e] = .tuple #[.bool (decide q), e] := by simp [h]
theorem ct_pcheck (hE : Seat E) (hB : Base E.w0) {i : Nat} (hi : good (rls Es) i) : Ct E 81 [.pointer (some ⟨pp, 0, none⟩), .int .i64 (i : Nat)] [cells pp [.pointer (some ⟨s, 0, none⟩), .pointer (some ⟨tb, 0, none⟩)] 108, tabP tb s (rls Es), storeP s most Es] (fun v Q => v = .tuple #[.int .i64 (len (rls Es) i : Nat), .nilIface] ∧ Q = [cells pp [.pointer (some ⟨s, 0, none⟩), .pointer (some ⟨tb, 0, none⟩)] 108, tabP tb s (rls Es), storeP s most Es]) := by
  refine ct_fact (p := storeP s most Es) (by ((repeat constructor); done)) (fun _ h => storeP_says h) (fun hsay => ?_)
  cases i with
  | zero =>
    refine fn_enter (hE.fn Tryd.func81) rfl rfl rfl (fun R => ?_)
    simp only [argsL, List.cons_append, List.nil_append]
    refine w_seq (w_region ?_)
    refine l_yield (y_assign rfl) rfl ?_
    refine l_yield (y_assign rfl) rfl ?_
    refine l_nil (a_then (w_seq (w_seq (w_region ?_))))
    refine l_yield (y_move rfl) rfl ?_
    apply l_loud (by kernel_rfl) rfl
    apply ld_call (ct_Store hE) rfl (hE.f (by kernel_rfl))
    · ((repeat constructor); done)
    rintro _ _ ⟨rfl, rfl⟩
    simp only [List.cons_append, List.nil_append]
    apply l_yield
    · (first | exact y_eq_ptr rfl (hE.t rfl) | exact y_eq_nil rfl (hE.t rfl))
    · rfl
    refine l_nil (a_then ?_)
    refine w_cond_f rfl ?_
    refine w_skip (a_then (w_seq (w_region ?_)))
    refine l_yield (y_move rfl) rfl ?_
    apply l_loud (by kernel_rfl) rfl
    apply ld_call (ct_Store hE) rfl (hE.f (by kernel_rfl))
    · ((repeat constructor); done)
    rintro _ _ ⟨rfl, rfl⟩
    simp only [List.cons_append, List.nil_append]
    refine l_yield (y_move rfl) rfl ?_
    apply l_loud (by kernel_rfl) rfl
    apply ld_call (ct_weight0 hE) rfl (hE.f (by kernel_rfl))
    · ((repeat constructor); done)
    rintro _ _ ⟨rfl, rfl⟩
    simp only [List.cons_append, List.nil_append]
    refine l_yield (y_move rfl) rfl ?_
    refine l_yield (y_extract rfl rfl) rfl ?_
    refine l_yield (y_extract rfl rfl) rfl ?_
    apply l_loud (by kernel_rfl) rfl
    refine ld_alloc (hE.t rfl) (fun b6 => ?_)
    apply l_loud (by kernel_rfl) rfl
    (first | (apply ld_store rfl rfl (hE.t rfl) rfl; (focus ((repeat constructor); done)); (focus rfl); (focus (exact Nat.le_of_ble_eq_true rfl))) | (apply ld_store_sl rfl rfl (hE.t rfl) rfl; (focus ((repeat constructor); done)); (focus rfl); (focus (first | omega | (simp only [cellsL, List.length_cons, List.length_nil]; omega)))))
    refine l_yield (y_assign rfl) rfl ?_
    refine l_nil (a_then (w_seq (w_seq (w_region ?_))))
    refine l_yield (y_move rfl) rfl ?_
    apply l_yield
    · (first | exact y_ok_ne rfl (hE.t rfl) | exact y_err_ne rfl (hE.t rfl))
    · rfl
    refine l_nil (a_then ?_)
    refine w_cond_f rfl ?_
    refine w_skip (a_then (w_seq (w_seq (w_region ?_))))
    refine l_yield (y_move rfl) rfl ?_
    refine l_yield (y_move rfl) rfl ?_
    apply l_loud (by kernel_rfl) rfl
    apply ld_call (ct_TopN hE hB (i := 0) hi) rfl (hE.f (by kernel_rfl))
    · ((repeat constructor); done)
    rintro _ _ ⟨rfl, rfl⟩
    simp only [List.cons_append, List.nil_append]
    refine l_yield (y_move rfl) rfl ?_
    refine l_yield (y_extract rfl rfl) rfl ?_
    refine l_yield (y_extract rfl rfl) rfl ?_
    refine l_yield (y_assign rfl) rfl ?_
    refine l_yield (y_assign rfl) rfl ?_
    refine l_nil (a_then (w_seq (w_region ?_)))
    refine l_yield (y_move rfl) rfl ?_
    apply l_yield
    · (first | exact y_ok_ne rfl (hE.t rfl) | exact y_err_ne rfl (hE.t rfl))
    · rfl
    refine l_nil (a_then ?_)
    refine w_cond_f rfl ?_
    refine w_skip (a_then (w_seq (w_region ?_)))
    refine l_yield (y_fieldAddr rfl (hE.t rfl) rfl) rfl ?_
    apply l_yield
    · (apply y_load rfl (hE.t rfl) rfl; (repeat (first | rfl | assumption | constructor)); done)
    · rfl
    refine l_yield (y_assign rfl) rfl ?_
    refine l_yield (y_assign rfl) rfl ?_
    refine l_nil (a_then (w_ret ?_))
    apply a_ret
    · rfl
    · (apply Rs.tmp rfl; apply Rs.tmp rfl; exact Rs.nil)
    · exact ⟨rfl, rfl⟩
    · (apply ent; (repeat constructor); done)
  | succ i =>
    have hi1 := hi.1
    rw [rls_length] at hi1
    have hent : Es[i]? = some (Es[i]'(by omega)) := List.getElem?_eq_getElem (by omega)
    generalize Es[i]'(by omega) = en at hent
    have htx := hsay.2.1 i en hent
    refine fn_enter (hE.fn Tryd.func81) rfl rfl rfl (fun R => ?_)
    simp only [argsL, List.cons_append, List.nil_append]
    refine w_seq (w_region ?_)
    refine l_yield (y_assign rfl) rfl ?_
    refine l_yield (y_assign rfl) rfl ?_
    refine l_nil (a_then (w_seq (w_seq (w_region ?_))))
    refine l_yield (y_move rfl) rfl ?_
    apply l_loud (by kernel_rfl) rfl
    apply ld_call (ct_Store hE) rfl (hE.f (by kernel_rfl))
    · ((repeat constructor); done)
    rintro _ _ ⟨rfl, rfl⟩
    simp only [List.cons_append, List.nil_append]
    apply l_yield
    · (first | exact y_eq_ptr rfl (hE.t rfl) | exact y_eq_nil rfl (hE.t rfl))
    · rfl
    refine l_nil (a_then ?_)
    refine w_cond_f rfl ?_
    refine w_skip (a_then (w_seq (w_region ?_)))
    refine l_yield (y_move rfl) rfl ?_
    apply l_loud (by kernel_rfl) rfl
    apply ld_call (ct_Store hE) rfl (hE.f (by kernel_rfl))
    · ((repeat constructor); done)
    rintro _ _ ⟨rfl, rfl⟩
    simp only [List.cons_append, List.nil_append]
    refine l_yield (y_move rfl) rfl ?_
    apply l_loud (by kernel_rfl) rfl
    apply ld_call (ct_weight hE hent) rfl (hE.f (by kernel_rfl))
    · ((repeat constructor); done)
    rintro _ _ ⟨rfl, rfl⟩
    simp only [List.cons_append, List.nil_append]
    refine l_yield (y_move rfl) rfl ?_
    refine l_yield (y_extract rfl rfl) rfl ?_
    refine l_yield (y_extract rfl rfl) rfl ?_
    apply l_loud (by kernel_rfl) rfl
    refine ld_alloc (hE.t rfl) (fun b6 => ?_)
    apply l_loud (by kernel_rfl) rfl
    (first | (apply ld_store rfl rfl (hE.t rfl) rfl; (focus ((repeat constructor); done)); (focus rfl); (focus (exact Nat.le_of_ble_eq_true rfl))) | (apply ld_store_sl rfl rfl (hE.t rfl) rfl; (focus ((repeat constructor); done)); (focus rfl); (focus (first | omega | (simp only [cellsL, List.length_cons, List.length_nil]; omega)))))
    refine l_yield (y_assign rfl) rfl ?_
    refine l_nil (a_then (w_seq (w_seq (w_region ?_))))
    refine l_yield (y_move rfl) rfl ?_
    apply l_yield
    · (first | exact y_ok_ne rfl (hE.t rfl) | exact y_err_ne rfl (hE.t rfl))
    · rfl
    refine l_nil (a_then ?_)
    refine w_cond_f rfl ?_
    refine w_skip (a_then (w_seq (w_seq (w_region ?_))))
    refine l_yield (y_move rfl) rfl ?_
    refine l_yield (y_move rfl) rfl ?_
    apply l_loud (by kernel_rfl) rfl
    apply ld_call (ct_TopN hE hB hi) rfl (hE.f (by kernel_rfl))
    · ((repeat constructor); done)
    rintro _ _ ⟨rfl, rfl⟩
    simp only [List.cons_append, List.nil_append]
    refine l_yield (y_move rfl) rfl ?_
    refine l_yield (y_extract rfl rfl) rfl ?_
    refine l_yield (y_extract rfl rfl) rfl ?_
    refine l_yield (y_assign rfl) rfl ?_
    refine l_yield (y_assign rfl) rfl ?_
    refine l_nil (a_then (w_seq (w_region ?_)))
    refine l_yield (y_move rfl) rfl ?_
    apply l_yield
    · (first | exact y_ok_ne rfl (hE.t rfl) | exact y_err_ne rfl (hE.t rfl))
    · rfl
    refine l_nil (a_then ?_)
    refine w_cond_f rfl ?_
    refine w_skip (a_then (w_seq (w_region ?_)))
    refine l_yield (y_fieldAddr rfl (hE.t rfl) rfl) rfl ?_
    apply l_yield
    · (apply y_load rfl (hE.t rfl) rfl; (repeat (first | rfl | assumption | constructor)); done)
    · rfl
    refine l_yield (y_assign rfl) rfl ?_
    refine l_yield (y_assign rfl) rfl ?_
    refine l_nil (a_then (w_ret ?_))
    apply a_ret
    · rfl
    · (apply Rs.tmp rfl; apply Rs.tmp rfl; exact Rs.nil)
    · exact ⟨by rw [len, ← htx]; rfl, rfl⟩
    · (apply ent; (repeat constructor); done)
theorem ct_Has_no (hE : Seat E) (hB : Base E.w0) {i : Nat} {d : Int} (hi : good (rls Es) i) (hd : d < 1) : Ct E 36 [.pointer (some ⟨pp, 0, none⟩), .int .i64 (i : Nat), .int .i64 d] [cells pp [.pointer (some ⟨s, 0, none⟩), .pointer (some ⟨tb, 0, none⟩)] 108, tabP tb s (rls Es), storeP s most Es] (fun v Q => v = .tuple #[.bool false, .iface 38 (.int .i64 1)] ∧ Q = [cells pp [.pointer (some ⟨s, 0, none⟩), .pointer (some ⟨tb, 0, none⟩)] 108, tabP tb s (rls Es), storeP s most Es]) := by
  refine fn_enter (hE.fn Tryd.func36) rfl rfl rfl (fun R => ?_)
  simp only [argsL, List.cons_append, List.nil_append]
  refine w_seq (w_region ?_)
  refine l_yield (y_assign rfl) rfl ?_
  refine l_yield (y_assign rfl) rfl ?_
  refine l_nil (a_then (w_seq (w_region ?_)))
  refine l_yield (y_move rfl) rfl ?_
  refine l_yield (y_move rfl) rfl ?_
  apply l_loud (by kernel_rfl) rfl
  apply ld_call (ct_pcheck hE hB hi) rfl (hE.f (by kernel_rfl))
  · ((repeat constructor); done)
  rintro _ _ ⟨rfl, rfl⟩
  simp only [List.cons_append, List.nil_append]
  refine l_yield (y_move rfl) rfl ?_
  refine l_yield (y_extract rfl rfl) rfl ?_
  refine l_yield (y_extract rfl rfl) rfl ?_
  refine l_yield (y_assign rfl) rfl ?_
  refine l_yield (y_assign rfl) rfl ?_
  refine l_nil (a_then (w_seq (w_seq (w_region ?_))))
  refine l_yield (y_move rfl) rfl ?_
  apply l_yield
  · (first | exact y_ok_ne rfl (hE.t rfl) | exact y_err_ne rfl (hE.t rfl))
  · rfl
  refine l_nil (a_then ?_)
  refine w_cond_f rfl ?_
  refine w_skip (a_then (w_seq (w_seq (w_region ?_))))
  refine l_yield (y_move rfl) rfl ?_
  refine l_yield (y_lt rfl rfl) rfl ?_
  refine l_nil (a_then ?_)
  refine w_cond_d rfl (fun h1 => ?_) (fun h1 => ?_)
  · skip
    refine w_seq (w_region ?_)
    refine l_yield (y_iface rfl (hE.t rfl) rfl) rfl ?_
    refine l_yield (y_assign rfl) rfl ?_
    refine l_yield (y_assign rfl) rfl ?_
    refine l_nil (a_then (w_ret (a_then_ret ?_)))
    apply a_ret
    · rfl
    · (apply Rs.tmp rfl; apply Rs.tmp rfl; exact Rs.nil)
    · exact ⟨rfl, rfl⟩
    · (apply ent; (repeat constructor); done)
  · exact absurd hd h1
theorem ct_Has (hE : Seat E) (hB : Base E.w0) {i d : Nat} (hi : good (rls Es) i) (hd : 1 ≤ d) (hs : len (rls Es) i < 4194304) : Ct E 36 [.pointer (some ⟨pp, 0, none⟩), .int .i64 (i : Nat), .int .i64 (d : Nat)] [cells pp [.pointer (some ⟨s, 0, none⟩), .pointer (some ⟨tb, 0, none⟩)] 108, tabP tb s (rls Es), storeP s most Es] (fun v Q => v = .tuple #[.bool (decide (Per (txt (rls Es) i) d)), .nilIface] ∧ Q = [cells pp [.pointer (some ⟨s, 0, none⟩), .pointer (some ⟨tb, 0, none⟩)] 108, tabP tb s (rls Es), storeP s most Es]) := by
  refine fn_enter (hE.fn Tryd.func36) rfl rfl rfl (fun R => ?_)
  simp only [argsL, List.cons_append, List.nil_append]
  refine w_seq (w_region ?_)
  refine l_yield (y_assign rfl) rfl ?_
  refine l_yield (y_assign rfl) rfl ?_
  refine l_nil (a_then (w_seq (w_region ?_)))
  refine l_yield (y_move rfl) rfl ?_
  refine l_yield (y_move rfl) rfl ?_
  apply l_loud (by kernel_rfl) rfl
  apply ld_call (ct_pcheck hE hB hi) rfl (hE.f (by kernel_rfl))
  · ((repeat constructor); done)
  rintro _ _ ⟨rfl, rfl⟩
  simp only [List.cons_append, List.nil_append]
  refine l_yield (y_move rfl) rfl ?_
  refine l_yield (y_extract rfl rfl) rfl ?_
  refine l_yield (y_extract rfl rfl) rfl ?_
  refine l_yield (y_assign rfl) rfl ?_
  refine l_yield (y_assign rfl) rfl ?_
  refine l_nil (a_then (w_seq (w_seq (w_region ?_))))
  refine l_yield (y_move rfl) rfl ?_
  apply l_yield
  · (first | exact y_ok_ne rfl (hE.t rfl) | exact y_err_ne rfl (hE.t rfl))
  · rfl
  refine l_nil (a_then ?_)
  refine w_cond_f rfl ?_
  refine w_skip (a_then (w_seq (w_seq (w_region ?_))))
  refine l_yield (y_move rfl) rfl ?_
  refine l_yield (y_lt rfl rfl) rfl ?_
  refine l_nil (a_then ?_)
  refine w_cond_d rfl (fun h1 => ?_) (fun h1 => ?_)
  · exact absurd h1 (by omega)
  skip
  refine w_skip (a_then (w_seq (w_seq (w_region ?_))))
  refine l_yield (y_move rfl) rfl ?_
  refine l_yield (y_move rfl) rfl ?_
  refine l_yield (y_ge rfl rfl) rfl ?_
  refine l_nil (a_then ?_)
  refine w_cond_d rfl (fun h2 => ?_) (fun h2 => ?_)
  · skip
    refine w_seq (w_region ?_)
    refine l_yield (y_assign rfl) rfl ?_
    refine l_yield (y_assign rfl) rfl ?_
    refine l_nil (a_then (w_ret (a_then_ret ?_)))
    apply a_ret
    · rfl
    · (apply Rs.tmp rfl; apply Rs.tmp rfl; exact Rs.nil)
    · refine ⟨?_, rfl⟩
      have : Per (txt (rls Es) i) d := by
        unfold Per
        rw [List.drop_eq_nil_of_le (show (txt (rls Es) i).length ≤ d by unfold len at h2; omega), lcp_nil_right]
        unfold len at h2
        omega
      simp [one, this]
    · (apply ent; (repeat constructor); done)
  skip
  refine w_skip (a_then (w_seq (w_region ?_)))
  refine l_yield (y_move rfl) rfl ?_
  refine l_yield (y_move rfl) rfl ?_
  refine l_yield (y_move rfl) rfl ?_
  refine l_yield (y_move rfl) rfl ?_
  apply l_loud (by kernel_rfl) rfl
  apply ld_call (ct_CommonAt (x := 0) (y := d) hE hB hi hi (Nat.zero_le _) (by omega)) rfl (hE.f (by kernel_rfl))
  · ((repeat constructor); done)
  rintro _ _ ⟨c, rfl, -, e1, rfl⟩
  obtain rfl : c = lcp (txt (rls Es) i) ((txt (rls Es) i).drop d) := by rw [e1 (by simp only [List.length_drop, tx_length]; omega), tx_f, List.drop_zero]
  simp only [List.cons_append, List.nil_append]
  refine l_yield (y_move rfl) rfl ?_
  refine l_yield (y_extract rfl rfl) rfl ?_
  refine l_yield (y_extract rfl rfl) rfl ?_
  refine l_yield (y_assign rfl) rfl ?_
  refine l_yield (y_assign rfl) rfl ?_
  refine l_nil (a_then (w_seq (w_seq (w_region ?_))))
  refine l_yield (y_move rfl) rfl ?_
  apply l_yield
  · (first | exact y_ok_ne rfl (hE.t rfl) | exact y_err_ne rfl (hE.t rfl))
  · rfl
  refine l_nil (a_then ?_)
  refine w_cond_f rfl ?_
  refine w_skip (a_then (w_seq (w_region ?_)))
  refine l_yield (y_move rfl) rfl ?_
  refine l_yield (y_move rfl) rfl ?_
  refine l_yield (y_move rfl) rfl ?_
  refine l_yield (y_sub rfl rfl (by omega) (by omega)) rfl ?_
  refine l_yield (y_eq rfl rfl) rfl ?_
  refine l_yield (y_assign rfl) rfl ?_
  refine l_yield (y_assign rfl) rfl ?_
  refine l_nil (a_then (w_ret ?_))
  apply a_ret
  · rfl
  · (apply Rs.tmp rfl; apply Rs.tmp rfl; exact Rs.nil)
  · refine ⟨?_, rfl⟩
    exact tup_bool (by unfold Per; unfold len at h2 ⊢; omega)
  · (apply ent; (repeat constructor); done)
theorem lcp_step {T : List UInt8} {d n : Nat} {x y : UInt8} (hx : T[n]? = some x) (hy : T[n + d]? = some y) : lcp (T.drop n) (T.drop (n + d)) = if x = y then 1 + lcp (T.drop (n + 1)) (T.drop (n + 1 + d)) else 0 := by
  rw [drop_one hx, drop_one hy]
  simp only [lcp, show n + d + 1 = n + 1 + d by omega]
  split <;> omega
theorem ct_refHas (hE : Seat E) {a : List UInt8} {d : Nat} (hd : 1 ≤ d) (ha : a.length ≤ 1152921504606846976) :
    Ct E 37 [.string ⟨⟨a⟩⟩, .int .i64 (d : Nat)] [] (fun v Q => v = .bool (decide (Per a d)) ∧ Q = []) := by
  refine fn_enter (hE.fn Tryd.func37) rfl rfl rfl (fun R => ?_)
  simp only [argsL, List.cons_append, List.nil_append]
  refine w_seq (w_region ?_)
  refine l_yield (y_assign rfl) rfl ?_
  refine l_nil (a_then (w_seq (w_seq (w_region ?_))))
  refine l_yield (y_assign rfl) rfl ?_
  refine l_nil (a_then (w_block ?_))
  skip
  refine w_loop (fun n : Nat => [(0, .string ⟨⟨a⟩⟩), (1, .int .i64 (d : Nat)), (5, .int .i64 (n : Nat))]) (fun n => [R]) (fun n => a.length - n) (fun n => lcp a (a.drop d) = n + lcp (a.drop n) (a.drop (n + d)) ∧ n ≤ a.length - d) 0 ?_ ?_ ?_ ?_
  · exact ⟨by simp, Nat.zero_le _⟩
  · exact ⟨rfl, rfl, rfl, trivial⟩
  · (apply ent; (repeat constructor); done)
  rintro n ⟨hn, hna⟩
  have sa := size_mk a
  skip
  refine w_seq (w_seq (w_region ?_))
  refine l_yield (y_move rfl) rfl ?_
  refine l_yield (y_move rfl) rfl ?_
  refine l_yield (y_len_str rfl (hE.t rfl)) rfl ?_
  refine l_yield (y_lt rfl rfl) rfl ?_
  refine l_yield (y_move rfl) rfl ?_
  refine l_split 10 rfl (fun h1 => ?_) (fun h1 => ?_)
  · skip
    refine l_on rfl rfl ?_
    refine l_yield (y_move rfl) rfl ?_
    refine l_on rfl rfl ?_
    refine l_yield (y_move rfl) rfl ?_
    refine l_on rfl rfl ?_
    refine l_yield (y_len_str rfl (hE.t rfl)) rfl ?_
    refine l_on rfl rfl ?_
    refine l_yield (y_move rfl) rfl ?_
    refine l_on rfl rfl ?_
    refine l_yield (y_sub rfl rfl (by omega) (by omega)) rfl ?_
    refine l_on rfl rfl ?_
    refine l_yield (y_lt rfl rfl) rfl ?_
    apply l_yield
    · (first | exact y_pick_t rfl rfl | exact y_pick_f rfl rfl)
    · rfl
    refine l_nil (a_then ?_)
    refine w_cond_d rfl (fun h2 => ?_) (fun h2 => ?_)
    · skip
      have hx : n < a.length := by omega
      have hy : n + d < a.length := by omega
      have gx : a[n]? = some a[n] := List.getElem?_eq_getElem hx
      have gy : a[n + d]? = some a[n + d] := List.getElem?_eq_getElem hy
      generalize a[n] = x at gx
      generalize a[n + d] = y at gy
      have ex : (⟨⟨a⟩⟩ : ByteArray)[((n : Nat) : Int).toNat]? = some x := str_get gx _ (by omega)
      have ey : (⟨⟨a⟩⟩ : ByteArray)[(((n : Nat) : Int) + ((d : Nat) : Int)).toNat]? = some y := str_get gy _ (by omega)
      rw [lcp_step gx gy] at hn
      refine w_skip (a_then (w_seq (w_block (w_seq (w_draws (by kernel_rfl) ?_)))))
      refine l_yield (y_move rfl) rfl ?_
      refine l_yield (y_move rfl) rfl ?_
      refine l_yield (y_indexStr rfl rfl (hE.t rfl) (by omega) (by assumption)) rfl ?_
      refine l_yield (y_move rfl) rfl ?_
      refine l_yield (y_move rfl) rfl ?_
      refine l_yield (y_move rfl) rfl ?_
      refine l_yield (y_add rfl rfl (by omega) (by omega)) rfl ?_
      refine l_yield (y_indexStr rfl rfl (hE.t rfl) (by omega) (by assumption)) rfl ?_
      refine l_yield (y_ne rfl rfl) rfl ?_
      refine l_nil (a_then ?_)
      refine w_cond_d rfl (fun h3 => ?_) (fun h3 => ?_)
      · skip
        refine w_seq (w_region ?_)
        refine l_yield (y_assign rfl) rfl ?_
        refine l_nil (a_then (w_ret (a_block_ret (a_then_ret (a_then_ret (a_block_ret (a_then_ret ?_)))))))
        apply a_ret
        · rfl
        · (apply Rs.tmp rfl; exact Rs.nil)
        · refine ⟨?_, rfl⟩
          rw [if_neg (fun e => h3 (by rw [e]))] at hn
          have : ¬ Per a d := by unfold Per; omega
          simp [one, this]
        · (apply ent; (repeat constructor); done)
      · skip
        refine w_skip (a_block (a_then (w_region ?_)))
        refine l_yield (y_move rfl) rfl ?_
        refine l_yield (y_add rfl rfl (by omega) (by omega)) rfl ?_
        refine l_yield (y_assign rfl) rfl ?_
        refine l_nil ?_
        rw [if_pos (UInt8.toNat_inj.1 (by omega))] at hn
        refine a_round (n + 1) ⟨by omega, by omega⟩ (by omega) ⟨rfl, rfl, ?_, trivial⟩ (by (apply ent; (repeat constructor); done))
        rfl
    · skip
      refine w_exit (a_then_exit (a_then_exit (a_block_exit (a_then (w_seq (w_region ?_))))))
      refine l_yield (y_assign rfl) rfl ?_
      refine l_nil (a_then (w_ret ?_))
      apply a_ret
      · rfl
      · (apply Rs.tmp rfl; exact Rs.nil)
      · refine ⟨?_, rfl⟩
        have : Per a d := by
          unfold Per
          rw [hn, show a.drop (n + d) = [] from List.drop_eq_nil_of_le (by omega), lcp_nil_right]
          omega
        simp [one, this]
      · (apply ent; (repeat constructor); done)
  · skip
    refine l_off rfl rfl rfl rfl (l_off rfl rfl rfl rfl (l_off rfl rfl rfl rfl (l_off rfl rfl rfl rfl (l_off rfl rfl rfl rfl (l_off rfl rfl rfl rfl ?_)))))
    apply l_yield
    · (first | exact y_pick_t rfl rfl | exact y_pick_f rfl rfl)
    · rfl
    refine l_nil (a_then ?_)
    refine w_cond_f rfl ?_
    refine w_exit (a_then_exit (a_then_exit (a_block_exit (a_then (w_seq (w_region ?_))))))
    refine l_yield (y_assign rfl) rfl ?_
    refine l_nil (a_then (w_ret ?_))
    apply a_ret
    · rfl
    · (apply Rs.tmp rfl; exact Rs.nil)
    · refine ⟨?_, rfl⟩
      have : Per a d := by
        unfold Per
        rw [show a.drop d = [] from List.drop_eq_nil_of_le (by omega), lcp_nil_right]
        omega
      simp [one, this]
    · (apply ent; (repeat constructor); done)
end Go.Proofs.YtlmdkaniblhdmaaDoor
/- evergreenlaw28: parse, alive. -/
namespace Go.Proofs.YtlmdkaniblhdmaaDoor
open Go Go.RowKit Sl Eg
set_option maxRecDepth 10000
variable {E : Env} {Es : List Ent} {pp tb s most : Nat}
theorem id_pos {L : List Rl} (hw : Wf L) {x : Nat} (hx : x ≤ L.length) : 0 < x ↔ 0 < (txt L x).length := by
  cases x with
  | zero => simp [txt_zero]
  | succ x =>
    have := len_pos hw (x + 1) (by omega) hx
    unfold len at this
    omega
theorem ct_parse (hE : Seat E) (hB : Base E.w0) {a : List UInt8} (ha : a.length ≤ 65536) : Ct E 35 [.string ⟨⟨a⟩⟩] [] (fun v Q => ∃ pp s tb M x, v = .tuple #[.pointer (some ⟨pp, 0, none⟩), .int .i64 (x : Nat), .bool true] ∧ M.length ≤ 2 * a.length ∧ txt (rls M) x = a ∧ good (rls M) x ∧ Q = [cells pp [.pointer (some ⟨s, 0, none⟩), .pointer (some ⟨tb, 0, none⟩)] 108, tabP tb s (rls M), storeP s 1048576 M]) := by
  have sa := size_mk a
  refine fn_enter (hE.fn Tryd.func35) rfl rfl rfl (fun R => ?_)
  simp only [argsL, List.cons_append, List.nil_append]
  refine w_seq (w_region ?_)
  refine l_yield (y_assign rfl) rfl ?_
  refine l_yield (y_assign rfl) rfl ?_
  refine l_yield (y_assign rfl) rfl ?_
  refine l_nil (a_then (w_seq (w_region ?_)))
  apply l_loud (by kernel_rfl) rfl
  apply ld_call (ct_intNew (most := 1048576) hE (Nat.le_refl _)) rfl (hE.f (by kernel_rfl))
  · ((repeat constructor); done)
  rintro _ _ ⟨s, rfl, rfl⟩
  simp only [List.cons_append, List.nil_append]
  skip
  apply l_loud (by kernel_rfl) rfl
  apply ld_call (ct_sigNew hE) rfl (hE.f (by kernel_rfl))
  · ((repeat constructor); done)
  rintro _ _ ⟨pp, tb, rfl, rfl⟩
  simp only [List.cons_append, List.nil_append]
  refine l_yield (y_assign rfl) rfl ?_
  refine l_nil (a_then (w_seq (w_seq (w_region ?_))))
  refine l_yield (y_move rfl) rfl ?_
  apply l_yield
  · (first | exact y_eq_ptr rfl (hE.t rfl) | exact y_eq_nil rfl (hE.t rfl))
  · rfl
  refine l_nil (a_then ?_)
  refine w_cond_f rfl ?_
  refine w_skip (a_then (w_seq (w_region ?_)))
  refine l_yield (y_move rfl) rfl ?_
  refine l_yield (y_move rfl) rfl ?_
  apply l_loud (by kernel_rfl) rfl
  refine ld_bytes rfl (hE.t rfl) (hE.t rfl) (hE.t rfl) (fun g1 c1 => ?_)
  skip
  have r1 : ([] : List Ent).length + 2 * a.length ≤ 1048576 := by simp only [List.length_nil]; omega
  apply l_loud (by kernel_rfl) rfl
  apply ld_call (ct_Of (bs := a) hE hB ha r1) rfl (hE.f (by kernel_rfl))
  · ((repeat constructor); done)
  rintro _ _ ⟨M, x, rfl, hM, tx1, gx, -, rfl⟩
  simp only [List.nil_append] at tx1 gx
  simp only [List.cons_append, List.nil_append]
  refine l_yield (y_move rfl) rfl ?_
  refine l_yield (y_extract rfl rfl) rfl ?_
  refine l_yield (y_extract rfl rfl) rfl ?_
  refine l_yield (y_assign rfl) rfl ?_
  refine l_yield (y_assign rfl) rfl ?_
  refine l_nil (a_then (w_seq (w_region ?_)))
  refine l_yield (y_move rfl) rfl ?_
  refine l_yield (y_move rfl) rfl ?_
  refine l_yield (y_move rfl) rfl ?_
  apply l_yield
  · (first | exact y_ok_eq rfl (hE.t rfl) | exact y_err_eq rfl (hE.t rfl))
  · rfl
  refine l_yield (y_move rfl) rfl ?_
  skip
  refine l_on rfl rfl ?_
  refine l_yield (y_move rfl) rfl ?_
  refine l_on rfl rfl ?_
  refine l_yield (y_gt rfl rfl) rfl ?_
  refine l_on rfl rfl ?_
  refine l_yield (y_move rfl) rfl ?_
  refine l_on rfl rfl ?_
  refine l_yield (y_len_str rfl (hE.t rfl)) rfl ?_
  refine l_on rfl rfl ?_
  refine l_yield (y_gt rfl rfl) rfl ?_
  refine l_on rfl rfl ?_
  refine l_yield (y_eq_bool rfl rfl (hE.t rfl)) rfl ?_
  apply l_yield
  · (first | exact y_pick_t rfl rfl | exact y_pick_f rfl rfl)
  · rfl
  refine l_yield (y_assign rfl) rfl ?_
  refine l_yield (y_assign rfl) rfl ?_
  refine l_yield (y_assign rfl) rfl ?_
  refine l_nil (a_then (w_ret ?_))
  refine wa_say (p := storeP s 1048576 M) (by ((repeat constructor); done)) (fun _ h => storeP_says h) (fun hsay => ?_)
  have hp := id_pos hsay.1 gx.1
  rw [tx1] at hp
  apply a_ret
  · rfl
  · (apply Rs.tmp rfl; apply Rs.tmp rfl; apply Rs.tmp rfl; exact Rs.nil)
  · refine ⟨pp, s, tb, M, x, ?_, hM, tx1, gx, rfl⟩
    have : (decide ((0 : Int) < ((x : Nat) : Int)) : Bool) = decide ((0 : Int) < (((⟨⟨a⟩⟩ : ByteArray).size : Nat) : Int)) := decide_eq_decide.2 (by omega)
    simp only [one, this, decide_true]
  · (apply ent; (repeat constructor); done)
theorem lit4 : Per [97, 98, 97, 97, 98, 97, 97, 98] 3 := by unfold Per; decide
theorem lit5 : ¬ Per [97, 98, 97, 97, 98, 97, 97, 98] 2 := by unfold Per; decide
theorem ct_alive (hE : Seat E) (hB : Base E.w0) : Ct E 34 [] [] (fun v Q => v = .bool true ∧ Q = []) := by
  refine fn_enter (hE.fn Tryd.func34) rfl rfl rfl (fun R => ?_)
  simp only [argsL, List.cons_append, List.nil_append]
  refine w_seq (w_region ?_)
  refine l_yield (y_assign rfl) rfl ?_
  refine l_nil (a_then (w_seq (w_region ?_)))
  have n1 : ([97, 98, 97, 97, 98, 97, 97, 98] : List UInt8).length ≤ 65536 := by decide
  apply l_loud (by kernel_rfl) rfl
  apply ld_call (ct_parse (a := [97, 98, 97, 97, 98, 97, 97, 98]) hE hB n1) rfl (hE.f (by kernel_rfl))
  · ((repeat constructor); done)
  rintro _ _ ⟨pp, s, tb, M, x, rfl, hM, tx1, gx, rfl⟩
  have hl : len (rls M) x = 8 := by unfold len; rw [tx1]; rfl
  simp only [List.cons_append, List.nil_append]
  refine l_yield (y_move rfl) rfl ?_
  refine l_yield (y_extract rfl rfl) rfl ?_
  refine l_yield (y_extract rfl rfl) rfl ?_
  refine l_yield (y_extract rfl rfl) rfl ?_
  refine l_yield (y_assign rfl) rfl ?_
  refine l_yield (y_assign rfl) rfl ?_
  refine l_yield (y_assign rfl) rfl ?_
  refine l_nil (a_then (w_seq (w_seq (w_region ?_))))
  refine l_yield (y_move rfl) rfl ?_
  refine l_yield (y_not rfl) rfl ?_
  refine l_nil (a_then ?_)
  refine w_cond_f rfl ?_
  refine w_skip (a_then (w_seq (w_region ?_)))
  refine l_yield (y_move rfl) rfl ?_
  refine l_yield (y_move rfl) rfl ?_
  apply l_loud (by kernel_rfl) rfl
  apply ld_call (ct_Has (d := 3) hE hB gx (by decide) (by omega)) rfl (hE.f (by kernel_rfl))
  · ((repeat constructor); done)
  rintro _ _ ⟨rfl, rfl⟩
  have e3 : decide (Per (txt (rls M) x) 3) = true := by rw [tx1]; exact decide_eq_true lit4
  rw [e3]
  simp only [List.cons_append, List.nil_append]
  refine l_yield (y_move rfl) rfl ?_
  refine l_yield (y_extract rfl rfl) rfl ?_
  refine l_yield (y_extract rfl rfl) rfl ?_
  refine l_yield (y_assign rfl) rfl ?_
  refine l_yield (y_assign rfl) rfl ?_
  refine l_nil (a_then (w_seq (w_region ?_)))
  refine l_yield (y_move rfl) rfl ?_
  refine l_yield (y_move rfl) rfl ?_
  apply l_loud (by kernel_rfl) rfl
  apply ld_call (ct_Has (d := 2) hE hB gx (by decide) (by omega)) rfl (hE.f (by kernel_rfl))
  · ((repeat constructor); done)
  rintro _ _ ⟨rfl, rfl⟩
  have e2 : decide (Per (txt (rls M) x) 2) = false := by rw [tx1]; exact decide_eq_false lit5
  rw [e2]
  simp only [List.cons_append, List.nil_append]
  refine l_yield (y_move rfl) rfl ?_
  refine l_yield (y_extract rfl rfl) rfl ?_
  refine l_yield (y_extract rfl rfl) rfl ?_
  refine l_yield (y_assign rfl) rfl ?_
  refine l_yield (y_assign rfl) rfl ?_
  refine l_nil (a_then (w_seq (w_region ?_)))
  refine l_yield (y_move rfl) rfl ?_
  apply l_yield
  · (first | exact y_ok_eq rfl (hE.t rfl) | exact y_err_eq rfl (hE.t rfl))
  · rfl
  refine l_yield (y_move rfl) rfl ?_
  skip
  refine l_on rfl rfl ?_
  refine l_yield (y_move rfl) rfl ?_
  refine l_on rfl rfl ?_
  apply l_yield
  · (first | exact y_ok_eq rfl (hE.t rfl) | exact y_err_eq rfl (hE.t rfl))
  · rfl
  apply l_yield
  · (first | exact y_pick_t rfl rfl | exact y_pick_f rfl rfl)
  · rfl
  refine l_yield (y_move rfl) rfl ?_
  skip
  refine l_on rfl rfl ?_
  refine l_yield (y_move rfl) rfl ?_
  apply l_yield
  · (first | exact y_pick_t rfl rfl | exact y_pick_f rfl rfl)
  · rfl
  refine l_yield (y_move rfl) rfl ?_
  skip
  refine l_on rfl rfl ?_
  refine l_yield (y_move rfl) rfl ?_
  refine l_on rfl rfl ?_
  refine l_yield (y_not rfl) rfl ?_
  apply l_yield
  · (first | exact y_pick_t rfl rfl | exact y_pick_f rfl rfl)
  · rfl
  refine l_yield (y_assign rfl) rfl ?_
  refine l_nil (a_then (w_ret ?_))
  apply a_ret
  · rfl
  · (apply Rs.tmp rfl; exact Rs.nil)
  · exact ⟨rfl, rfl⟩
  · (apply ent; (repeat constructor); done)
theorem ct_PeriodHas (hE : Seat E) (hB : Base E.w0) {a : List UInt8} {d : Int} : Ct E 6 [.string ⟨⟨a⟩⟩, .int .i64 d] [] (fun v Q => v = .bool true ∧ Q = []) := by
  have sa := size_mk a
  refine fn_enter (hE.fn Tryd.func6) rfl rfl rfl (fun R => ?_)
  simp only [argsL, List.cons_append, List.nil_append]
  refine w_seq (w_region ?_)
  refine l_yield (y_assign rfl) rfl ?_
  refine l_nil (a_then (w_seq (w_seq (w_region ?_))))
  apply l_loud (by kernel_rfl) rfl
  apply ld_call (ct_alive hE hB) rfl (hE.f (by kernel_rfl))
  · ((repeat constructor); done)
  rintro _ _ ⟨rfl, rfl⟩
  simp only [List.cons_append, List.nil_append]
  refine l_yield (y_not rfl) rfl ?_
  refine l_nil (a_then ?_)
  refine w_cond_f rfl ?_
  refine w_skip (a_then (w_seq (w_seq (w_region ?_))))
  refine l_yield (y_move rfl) rfl ?_
  refine l_yield (y_len_str rfl (hE.t rfl)) rfl ?_
  refine l_yield (y_gt rfl rfl) rfl ?_
  refine l_nil (a_then ?_)
  refine w_cond_d rfl (fun h1 => ?_) (fun h1 => ?_)
  · skip
    refine w_seq (w_region ?_)
    refine l_yield (y_assign rfl) rfl ?_
    refine l_nil (a_then (w_ret (a_then_ret ?_)))
    apply a_ret
    · rfl
    · (apply Rs.tmp rfl; exact Rs.nil)
    · exact ⟨rfl, rfl⟩
    · (apply ent; (repeat constructor); done)
  skip
  refine w_skip (a_then (w_seq (w_region ?_)))
  refine l_yield (y_move rfl) rfl ?_
  apply l_loud (by kernel_rfl) rfl
  apply ld_call (ct_parse hE hB (by omega)) rfl (hE.f (by kernel_rfl))
  · ((repeat constructor); done)
  rintro _ _ ⟨pp, s, tb, M, x, rfl, hM, tx1, gx, rfl⟩
  have hl : len (rls M) x = a.length := by unfold len; rw [tx1]
  simp only [List.cons_append, List.nil_append]
  refine l_yield (y_move rfl) rfl ?_
  refine l_yield (y_extract rfl rfl) rfl ?_
  refine l_yield (y_extract rfl rfl) rfl ?_
  refine l_yield (y_extract rfl rfl) rfl ?_
  refine l_yield (y_assign rfl) rfl ?_
  refine l_yield (y_assign rfl) rfl ?_
  refine l_yield (y_assign rfl) rfl ?_
  refine l_nil (a_then (w_seq (w_seq (w_region ?_))))
  refine l_yield (y_move rfl) rfl ?_
  refine l_yield (y_not rfl) rfl ?_
  refine l_nil (a_then ?_)
  refine w_cond_f rfl ?_
  refine w_skip (a_then (w_seq (w_region ?_)))
  refine l_yield (y_move rfl) rfl ?_
  refine l_yield (y_move rfl) rfl ?_
  refine l_yield (y_move rfl) rfl ?_
  skip
  by_cases hd : d < 1
  · apply l_loud (by kernel_rfl) rfl
    apply ld_call (ct_Has_no hE hB gx hd) rfl (hE.f (by kernel_rfl))
    · ((repeat constructor); done)
    rintro _ _ ⟨rfl, rfl⟩
    simp only [List.cons_append, List.nil_append]
    refine l_yield (y_move rfl) rfl ?_
    refine l_yield (y_extract rfl rfl) rfl ?_
    refine l_yield (y_extract rfl rfl) rfl ?_
    refine l_yield (y_assign rfl) rfl ?_
    refine l_yield (y_assign rfl) rfl ?_
    refine l_nil (a_then (w_seq (w_seq (w_region ?_))))
    refine l_yield (y_move rfl) rfl ?_
    refine l_yield (y_lt rfl rfl) rfl ?_
    refine l_nil (a_then ?_)
    refine w_cond_d rfl (fun h2 => ?_) (fun h2 => ?_)
    · skip
      refine w_seq (w_region ?_)
      refine l_yield (y_move rfl) rfl ?_
      apply l_loud (by kernel_rfl) rfl
      apply ld_call (ct_Is hE (by decide)) rfl (hE.f (by kernel_rfl))
      · ((repeat constructor); done)
      rintro _ _ ⟨rfl, rfl⟩
      simp only [List.cons_append, List.nil_append]
      refine l_yield (y_move rfl) rfl ?_
      skip
      refine l_on rfl rfl ?_
      refine l_yield (y_move rfl) rfl ?_
      refine l_on rfl rfl ?_
      refine l_yield (y_not rfl) rfl ?_
      apply l_yield
      · (first | exact y_pick_t rfl rfl | exact y_pick_f rfl rfl)
      · rfl
      refine l_yield (y_assign rfl) rfl ?_
      refine l_nil (a_then (w_ret (a_then_ret ?_)))
      apply a_ret
      · rfl
      · (apply Rs.tmp rfl; exact Rs.nil)
      · exact ⟨rfl, rfl⟩
      · (apply ent; (repeat constructor); done)
    · exact absurd hd h2
  · skip
    obtain ⟨k, rfl⟩ := Int.eq_ofNat_of_zero_le (show 0 ≤ d by omega)
    apply l_loud (by kernel_rfl) rfl
    apply ld_call (ct_Has hE hB gx (d := k) (by omega) (by omega)) rfl (hE.f (by kernel_rfl))
    · ((repeat constructor); done)
    rintro _ _ ⟨rfl, rfl⟩
    rw [tx1]
    simp only [List.cons_append, List.nil_append]
    refine l_yield (y_move rfl) rfl ?_
    refine l_yield (y_extract rfl rfl) rfl ?_
    refine l_yield (y_extract rfl rfl) rfl ?_
    refine l_yield (y_assign rfl) rfl ?_
    refine l_yield (y_assign rfl) rfl ?_
    refine l_nil (a_then (w_seq (w_seq (w_region ?_))))
    refine l_yield (y_move rfl) rfl ?_
    refine l_yield (y_lt rfl rfl) rfl ?_
    refine l_nil (a_then ?_)
    refine w_cond_d rfl (fun h2 => ?_) (fun h2 => ?_)
    · exact absurd h2 hd
    skip
    refine w_skip (a_then (w_seq (w_region ?_)))
    refine l_yield (y_move rfl) rfl ?_
    apply l_yield
    · (first | exact y_ok_eq rfl (hE.t rfl) | exact y_err_eq rfl (hE.t rfl))
    · rfl
    refine l_yield (y_move rfl) rfl ?_
    skip
    refine l_on rfl rfl ?_
    refine l_yield (y_move rfl) rfl ?_
    refine l_on rfl rfl ?_
    refine l_yield (y_move rfl) rfl ?_
    refine l_on rfl rfl ?_
    refine l_yield (y_move rfl) rfl ?_
    refine l_on rfl rfl ?_
    apply l_loud (by kernel_rfl) rfl
    apply ld_call (ct_refHas hE (by omega) (by omega)) rfl (hE.f (by kernel_rfl))
    · ((repeat constructor); done)
    rintro _ _ ⟨rfl, rfl⟩
    simp only [List.cons_append, List.nil_append]
    refine l_on rfl rfl ?_
    refine l_yield (y_eq_bool rfl rfl (hE.t rfl)) rfl ?_
    apply l_yield
    · (first | exact y_pick_t rfl rfl | exact y_pick_f rfl rfl)
    · rfl
    refine l_yield (y_assign rfl) rfl ?_
    refine l_nil (a_then (w_ret ?_))
    apply a_ret
    · rfl
    · (apply Rs.tmp rfl; exact Rs.nil)
    · exact ⟨by simp [one], rfl⟩
    · (apply ent; (repeat constructor); done)
end Go.Proofs.YtlmdkaniblhdmaaDoor
