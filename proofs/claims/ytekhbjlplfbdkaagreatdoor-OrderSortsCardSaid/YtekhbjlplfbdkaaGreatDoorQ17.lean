/- Plain laws on the order of texts. -/
import Derived.Test.YtekhbjlplfbdkaaGreatDoorQ10
import Derived.Test.YtekhbjlplfbdkaaGreatDoorQ12
import Derived.Test.YtekhbjlplfbdkaaGreatDoorQ13
import Derived.Test.YtekhbjlplfbdkaaGreatDoorQ14
import Derived.Test.YtekhbjlplfbdkaaGreatDoorQSlq
import Derived.Laws.Strings
set_option linter.unusedVariables false
set_option linter.unusedSimpArgs false
namespace Eg
def cmpT : List UInt8 → List UInt8 → Int
  | [], [] => 0
  | [], _ :: _ => -1
  | _ :: _, [] => 1
  | a :: A, b :: B => if a.toNat < b.toNat then -1 else if b.toNat < a.toNat then 1 else cmpT A B
def cmpN (a b : Nat) : Int := if a < b then -1 else if b < a then 1 else 0
theorem cmpT_swap (A B : List UInt8) : cmpT B A = - cmpT A B := by
  induction A generalizing B with
  | nil => cases B <;> simp [cmpT]
  | cons a A ih =>
    cases B with
    | nil => simp [cmpT]
    | cons b B =>
      simp only [cmpT]
      rcases Nat.lt_trichotomy a.toNat b.toNat with h | h | h
      · rw [if_neg (by omega), if_pos h, if_pos h]; rfl
      · rw [if_neg (by omega), if_neg (by omega), if_neg (by omega), if_neg (by omega), ih]
      · rw [if_pos h, if_neg (by omega), if_pos h]
theorem cmpT_zero {A B : List UInt8} : cmpT A B = 0 ↔ A = B := by
  induction A generalizing B with
  | nil => cases B <;> simp [cmpT]
  | cons a A ih =>
    cases B with
    | nil => simp [cmpT]
    | cons b B =>
      simp only [cmpT]
      rcases Nat.lt_trichotomy a.toNat b.toNat with h | h | h
      · rw [if_pos h]
        have : a ≠ b := by rintro rfl; omega
        simp [this]
      · rw [if_neg (by omega), if_neg (by omega), ih]
        have : a = b := UInt8.toNat_inj.1 h
        simp [this]
      · rw [if_neg (by omega), if_pos h]
        have : a ≠ b := by rintro rfl; omega
        simp [this]
theorem cmpT_self (A : List UInt8) : cmpT A A = 0 := cmpT_zero.2 rfl
theorem cmpT_trans {A B C : List UInt8} (h1 : cmpT A B ≤ 0) (h2 : cmpT B C ≤ 0) : cmpT A C ≤ 0 := by
  induction A generalizing B C with
  | nil => cases C <;> simp [cmpT]
  | cons a A ih =>
    cases B with
    | nil => simp [cmpT] at h1
    | cons b B =>
      cases C with
      | nil => simp [cmpT] at h2
      | cons c C =>
        simp only [cmpT] at h1 h2 ⊢
        by_cases x1 : a.toNat < b.toNat
        · by_cases x2 : c.toNat < b.toNat
          · rw [if_neg (by omega), if_pos x2] at h2; omega
          · rw [if_pos (by omega)]; omega
        · rw [if_neg x1] at h1
          by_cases x3 : b.toNat < a.toNat
          · rw [if_pos x3] at h1; omega
          · rw [if_neg x3] at h1
            by_cases y1 : b.toNat < c.toNat
            · rw [if_pos (by omega)]; omega
            · rw [if_neg y1] at h2
              by_cases y3 : c.toNat < b.toNat
              · rw [if_pos y3] at h2; omega
              · rw [if_neg y3] at h2
                rw [if_neg (by omega), if_neg (by omega)]
                exact ih h1 h2
theorem cmpT_end {A B : List UInt8} (h : lcp A B = A.length ∨ lcp A B = B.length) : cmpT A B = cmpN A.length B.length := by
  induction A generalizing B with
  | nil => cases B <;> simp [cmpT, cmpN]
  | cons a A ih =>
    cases B with
    | nil => simp [cmpT, cmpN]
    | cons b B =>
      by_cases e : a = b
      · subst e
        have e1 : lcp (a :: A) (a :: B) = lcp A B + 1 := by simp [lcp]
        rw [e1] at h
        simp only [List.length_cons] at h ⊢
        simp only [cmpT]
        rw [if_neg (by omega), if_neg (by omega), ih (by omega)]
        unfold cmpN
        simp only [Nat.add_lt_add_iff_right]
      · have : lcp (a :: A) (b :: B) = 0 := by simp [lcp, e]
        rw [this] at h
        simp only [List.length_cons] at h
        omega
theorem cmpT_diff {A B : List UInt8} (h1 : lcp A B ≠ A.length) (h2 : lcp A B ≠ B.length) : ∃ x y, A[lcp A B]? = some x ∧ B[lcp A B]? = some y ∧ x ≠ y ∧ cmpT A B = cmpN x.toNat y.toNat := by
  induction A generalizing B with
  | nil => exact absurd (lcp_nil_left B) h1
  | cons a A ih =>
    cases B with
    | nil => exact absurd (lcp_nil_right _) h2
    | cons b B =>
      by_cases e : a = b
      · subst e
        have e1 : lcp (a :: A) (a :: B) = lcp A B + 1 := by simp [lcp]
        rw [e1] at h1 h2 ⊢
        simp only [List.length_cons] at h1 h2
        obtain ⟨x, y, g1, g2, g3, g4⟩ := ih (B := B) (by omega) (by omega)
        refine ⟨x, y, by simpa using g1, by simpa using g2, g3, ?_⟩
        simp only [cmpT]
        rw [if_neg (by omega), if_neg (by omega), g4]
      · have e1 : lcp (a :: A) (b :: B) = 0 := by simp [lcp, e]
        rw [e1]
        refine ⟨a, b, rfl, rfl, e, ?_⟩
        simp only [cmpT, cmpN]
        have : a.toNat ≠ b.toNat := fun h => e (UInt8.toNat_inj.1 h)
        rcases Nat.lt_trichotomy a.toNat b.toNat with h | h | h
        · rw [if_pos h, if_pos h]
        · omega
        · rw [if_neg (by omega), if_pos h, if_neg (by omega), if_pos h]
def Bgn (A B : List UInt8) : Prop := lcp A B = B.length
instance (A B : List UInt8) : Decidable (Bgn A B) := inferInstanceAs (Decidable (_ = _))
end Eg
namespace Go.Proofs.YtekhbjlplfbdkaaGreatDoor
open Go Go.RowKit Sl Eg
theorem snoc_inj {α : Type} {a b : List α} {x y : α} (h : a ++ [x] = b ++ [y]) : a = b ∧ x = y := by
  have := List.append_inj' h rfl
  simpa using this
theorem Lts.fn {L : List Rl} (hw : Wf L) {ids ids' : List Nat} {bs : List UInt8} (h : Lts L ids bs) (h' : Lts L ids' bs) : ids = ids' := by
  induction h generalizing ids' with
  | nil =>
    generalize e : ([] : List UInt8) = c at h'
    cases h' with
    | nil => rfl
    | snoc _ _ => simp at e
  | snoc h1 h2 ih =>
    generalize e : (_ ++ [_] : List UInt8) = c at h'
    cases h' with
    | nil => simp at e
    | snoc g1 g2 =>
      obtain ⟨rfl, rfl⟩ := snoc_inj e
      rw [ih g1, hw.nodup _ _ _ h2 g2]
theorem RunId.fn {L : List Rl} (hw : Wf L) {x t i j : Nat} (h : RunId L x t i) (h' : RunId L x t j) : i = j := by
  rcases h with ⟨h1, h2⟩ | ⟨h1, a, rfl, h2⟩ <;> rcases h' with ⟨g1, g2⟩ | ⟨g1, b, rfl, g2⟩
  · rw [h2, g2]
  · omega
  · omega
  · rw [hw.nodup _ _ _ h2 g2]
theorem Rns.fn {L : List Rl} (hw : Wf L) {rs : List (Nat × Nat)} {out out' : List Nat} (h : Rns L rs out) (h' : Rns L rs out') : out = out' := by
  induction h generalizing out' with
  | nil =>
    generalize e : ([] : List (Nat × Nat)) = c at h'
    cases h' with
    | nil => rfl
    | snoc _ _ => simp at e
  | snoc h1 h2 ih =>
    generalize e : (_ ++ [_] : List (Nat × Nat)) = c at h'
    cases h' with
    | nil => simp at e
    | snoc g1 g2 =>
      obtain ⟨rfl, e2⟩ := snoc_inj e
      cases e2
      rw [ih g1, h2.fn hw g2]
theorem Prs.fn {L : List Rl} (hw : Wf L) {ids js out out' : List Nat} {a a' : Nat} (h : Prs L ids js a out) (h' : Prs L ids js a' out') : a = a' ∧ out = out' := by
  induction h generalizing a' out' with
  | nil =>
    generalize e : ([] : List Nat) = c at h'
    cases h' with
    | nil => exact ⟨rfl, rfl⟩
    | snoc _ _ _ _ _ => simp at e
  | snoc h1 h2 h3 h4 h5 ih =>
    generalize e : (_ ++ [_] : List Nat) = c at h'
    cases h' with
    | nil => simp at e
    | snoc g1 g2 g3 g4 g5 =>
      obtain ⟨rfl, rfl⟩ := snoc_inj e
      obtain ⟨rfl, rfl⟩ := ih g1
      rw [h3] at g3
      rw [h4] at g4
      cases g3
      cases g4
      rw [hw.nodup _ _ _ h5 g5]
      exact ⟨rfl, rfl⟩
theorem Rch.pos {L : List Rl} {bs : List UInt8} {lv : Nat} {ids : List Nat} (h : Rch L bs lv ids) : 1 ≤ lv := by
  cases h <;> omega
theorem Rch.fn {L : List Rl} (hw : Wf L) {bs : List UInt8} {lv : Nat} {ids ids' : List Nat} (h : Rch L bs lv ids) (h' : Rch L bs lv ids') : ids = ids' := by
  induction h generalizing ids' with
  | start h =>
    generalize e : 1 = l at h'
    cases h' with
    | start g => exact h.fn hw g
    | odd g _ _ _ => have := g.pos; omega
    | even g _ _ _ _ => have := g.pos; omega
  | odd h h1 h2 h3 ih =>
    generalize e : _ + 1 = l at h'
    cases h' with
    | start g => have := h.pos; omega
    | odd g g1 g2 g3 =>
      have e1 := Nat.succ.inj e
      subst e1
      have e2 := ih g
      subst e2
      exact h3.fn hw g3
    | even g g1 _ _ _ => omega
  | even h h1 h2 h3 h4 ih =>
    generalize e : _ + 1 = l at h'
    cases h' with
    | start g => have := h.pos; omega
    | odd g g1 g2 g3 => omega
    | even g g1 g2 g3 g4 =>
      have e1 := Nat.succ.inj e
      subst e1
      have e2 := ih g
      subst e2
      obtain ⟨rfl, rfl⟩ := h4.fn hw g4
      rfl
theorem Rch.before {L : List Rl} {bs : List UInt8} {lv : Nat} {ids : List Nat} (h : Rch L bs lv ids) : ∀ k, 1 ≤ k → k < lv → ∃ r, Rch L bs k r ∧ 2 ≤ r.length := by
  induction h with
  | start h => intro k h1 h2; omega
  | odd h h1 h2 h3 ih =>
    intro k k1 k2
    rcases Nat.lt_or_ge k _ with e | e
    · exact ih k k1 e
    · obtain rfl := Nat.le_antisymm (Nat.le_of_lt_succ k2) e
      exact ⟨_, h, h2⟩
  | even h h1 h2 h3 h4 ih =>
    intro k k1 k2
    rcases Nat.lt_or_ge k _ with e | e
    · exact ih k k1 e
    · obtain rfl := Nat.le_antisymm (Nat.le_of_lt_succ k2) e
      exact ⟨_, h, h2⟩
theorem Rch.one {L : List Rl} (hw : Wf L) {bs : List UInt8} {lv lv' x y : Nat} (h : Rch L bs lv [x]) (h' : Rch L bs lv' [y]) : x = y := by
  rcases Nat.lt_trichotomy lv lv' with hl | hl | hl
  · obtain ⟨r, hr, h2⟩ := h'.before lv h.pos hl
    rw [← h.fn hw hr] at h2
    simp at h2
  · subst hl
    have := h.fn hw h'
    simpa using this
  · obtain ⟨r, hr, h2⟩ := h.before lv' h'.pos hl
    rw [← h'.fn hw hr] at h2
    simp at h2
def Sg (L : List Rl) (bs : List UInt8) (id : Nat) : Prop := (bs = [] ∧ id = 0) ∨ ∃ lv, Rch L bs lv [id]
theorem Sg.ext {L : List Rl} (M : List Rl) {bs : List UInt8} {id : Nat} (h : Sg L bs id) : Sg (L ++ M) bs id := by
  rcases h with h | ⟨lv, h⟩
  · exact .inl h
  · exact .inr ⟨lv, h.ext M⟩
theorem Lts.nil_inv {L : List Rl} {ids : List Nat} (h : Lts L ids []) : ids = [] := by
  generalize e : ([] : List UInt8) = c at h
  cases h with
  | nil => rfl
  | snoc _ _ => simp at e
theorem Rch.nonempty {L : List Rl} {bs : List UInt8} {lv x : Nat} (h : Rch L bs lv [x]) : bs ≠ [] := by
  rintro rfl
  have key : ∀ {lv : Nat} {ids : List Nat}, Rch L [] lv ids → ids = [] ∧ lv = 1 := by
    intro lv ids h
    induction h with
    | start h => exact ⟨h.nil_inv, rfl⟩
    | odd h h1 h2 h3 ih => rw [ih.1] at h2; simp at h2
    | even h h1 h2 h3 h4 ih => rw [ih.1] at h2; simp at h2
  have := (key h).1
  simp at this
theorem Sg.fn {L : List Rl} (hw : Wf L) {bs : List UInt8} {x y : Nat} (h : Sg L bs x) (h' : Sg L bs y) : x = y := by
  rcases h with ⟨h1, h2⟩ | ⟨lv, h⟩ <;> rcases h' with ⟨g1, g2⟩ | ⟨lv', h'⟩
  · rw [h2, g2]
  · exact absurd h1 h'.nonempty
  · exact absurd g1 h.nonempty
  · exact h.one hw h'
end Go.Proofs.YtekhbjlplfbdkaaGreatDoor
namespace Eg
theorem rep_get {t : List UInt8} {k p : Nat} (hp : p < k * t.length) : (rep k t)[p]? = t[p % t.length]? := by
  induction k generalizing p with
  | zero => simp at hp
  | succ k ih =>
    have e : rep (k + 1) t = t ++ rep k t := by simp [rep, List.replicate_succ]
    rw [e]
    have hm : (k + 1) * t.length = k * t.length + t.length := by rw [Nat.succ_mul]
    by_cases h : p < t.length
    · rw [List.getElem?_append_left h, Nat.mod_eq_of_lt h]
    · rw [List.getElem?_append_right (by omega), ih (by omega), Nat.mod_eq_sub_mod (a := p) (by omega)]
theorem txt_down {L : List Rl} (hw : Wf L) {i p : Nat} {c : UInt8} {r : Rl} (hr : L[i]? = some r) (h : (txt L (i + 1))[p]? = some c) :
    (∃ b, r = .letter b ∧ c = b) ∨ (∃ x k, r = .power x k ∧ 1 ≤ x ∧ x ≤ i ∧ 1 ≤ len L x ∧ (txt L x)[p % len L x]? = some c) ∨
    (∃ a b, r = .pair a b ∧ 1 ≤ a ∧ a ≤ i ∧ 1 ≤ b ∧ b ≤ i ∧ ((p < len L a ∧ (txt L a)[p]? = some c) ∨ (len L a ≤ p ∧ (txt L b)[p - len L a]? = some c))) := by
  have hk := hw.ok i r hr
  have hi : i < L.length := (List.getElem?_eq_some_iff.1 hr).1
  have hp : p < (txt L (i + 1)).length := (List.getElem?_eq_some_iff.1 h).1
  cases r with
  | letter b =>
    left
    rw [txt_letter hr] at h
    refine ⟨b, rfl, ?_⟩
    cases p with
    | zero => simpa using h.symm
    | succ p => simp at h
  | pair a b =>
    right; right
    obtain ⟨h1, h2, h3, h4⟩ := hk
    rw [txt_pair hr ⟨h1, h2, h3, h4⟩] at h
    refine ⟨a, b, rfl, h1, by omega, h3, by omega, ?_⟩
    by_cases hc : p < len L a
    · left
      rw [List.getElem?_append_left hc] at h
      exact ⟨hc, h⟩
    · right
      have hc' : (txt L a).length ≤ p := by unfold len at hc; omega
      rw [List.getElem?_append_right hc'] at h
      exact ⟨by omega, h⟩
  | power x k =>
    right; left
    obtain ⟨h1, h2, h3⟩ := hk
    have hl := len_pos hw x h1 (by omega)
    have hlp := len_power hr ⟨h1, h2, h3⟩
    rw [txt_power hr ⟨h1, h2, h3⟩] at h
    have e : (List.replicate k (txt L x)).flatten = rep k (txt L x) := rfl
    rw [e, rep_get (by unfold len at hlp; rw [← hlp]; exact hp)] at h
    exact ⟨x, k, rfl, h1, by omega, hl, h⟩
end Eg
namespace Go.Proofs.YtekhbjlplfbdkaaGreatDoor
open Go Go.RowKit Sl Eg
set_option maxRecDepth 10000
variable {E : Env} {Es : List Ent} {pp tb s most : Nat}
theorem ct_bel_power (hE : Seat E) {x k l p : Nat} (hl : 1 ≤ l) (hl2 : l ≤ 1152921504606846976) (hp : p ≤ 1152921504606846976) : Ct E 111 [.agg #[.int .i64 (Rl.kind ((.power x k)) : Nat), .int .u8 (Rl.byte ((.power x k)) : Nat), .int .i64 (Rl.left ((.power x k)) : Nat), .int .i64 (Rl.right ((.power x k)) : Nat), .int .i64 (Rl.times ((.power x k)) : Nat)], .int .i64 (l : Nat), .int .i64 (p : Nat)] [] (fun v Q => v = .tuple #[.int .i64 (x : Nat), .int .i64 ((p % l : Nat) : Int)] ∧ Q = []) := by
  refine fn_enter (hE.fn Tryz.func111) rfl rfl rfl (fun R => ?_)
  simp only [argsL, List.cons_append, List.nil_append]
  refine w_seq (wR ?_)
  apply lL (by kernel_rfl) rfl
  refine ld_box rfl (fun b3 => ?_)
  refine lY (yA rfl) rfl ?_
  refine lY (yA rfl) rfl ?_
  refine l_nil (aT (w_seq (w_block (w_seq (wR ?_)))))
  refine lY (yF rfl (hE.t rfl) rfl) rfl ?_
  apply lY
  · (apply y_load rfl (hE.t rfl) rfl; (repeat (first | rfl | assumption | constructor)); done)
  · rfl
  refine lY (y_eq rfl rfl) rfl ?_
  refine lY (yA rfl) rfl ?_
  refine l_nil (aT ?_)
  refine w_cond_t rfl ?_
  refine w_seq (w_draws (by kernel_rfl) ?_)
  refine lY (yF rfl (hE.t rfl) rfl) rfl ?_
  apply lY
  · (apply y_load rfl (hE.t rfl) rfl; (repeat (first | rfl | assumption | constructor)); done)
  · rfl
  refine lY (yM rfl) rfl ?_
  refine lY (yM rfl) rfl ?_
  refine lY (y_rem rfl rfl (by omega) (by omega)) rfl ?_
  refine lY (yA rfl) rfl ?_
  refine lY (yA rfl) rfl ?_
  refine l_nil (aT (w_ret (a_block_ret (a_then_ret ?_))))
  apply a_ret
  · rfl
  · (apply Rs.tmp rfl; apply Rs.tmp rfl; exact Rs.nil)
  · exact ⟨by simp [one, Rl.left], rfl⟩
  · (apply ent; (repeat constructor); done)
theorem ct_bel_left (hE : Seat E) {a b l p : Nat} (h : p < l) : Ct E 111 [.agg #[.int .i64 (Rl.kind ((.pair a b)) : Nat), .int .u8 (Rl.byte ((.pair a b)) : Nat), .int .i64 (Rl.left ((.pair a b)) : Nat), .int .i64 (Rl.right ((.pair a b)) : Nat), .int .i64 (Rl.times ((.pair a b)) : Nat)], .int .i64 (l : Nat), .int .i64 (p : Nat)] [] (fun v Q => v = .tuple #[.int .i64 (a : Nat), .int .i64 (p : Nat)] ∧ Q = []) := by
  refine fn_enter (hE.fn Tryz.func111) rfl rfl rfl (fun R => ?_)
  simp only [argsL, List.cons_append, List.nil_append]
  refine w_seq (wR ?_)
  apply lL (by kernel_rfl) rfl
  refine ld_box rfl (fun b3 => ?_)
  refine lY (yA rfl) rfl ?_
  refine lY (yA rfl) rfl ?_
  refine l_nil (aT (w_seq (w_block (w_seq (wR ?_)))))
  refine lY (yF rfl (hE.t rfl) rfl) rfl ?_
  apply lY
  · (apply y_load rfl (hE.t rfl) rfl; (repeat (first | rfl | assumption | constructor)); done)
  · rfl
  refine lY (y_eq rfl rfl) rfl ?_
  refine lY (yA rfl) rfl ?_
  refine l_nil (aT ?_)
  refine w_cond_f rfl ?_
  refine w_seq (wR ?_)
  refine lY (yM rfl) rfl ?_
  refine lY (yM rfl) rfl ?_
  refine lY (y_lt rfl rfl) rfl ?_
  refine lY (yA rfl) rfl ?_
  refine l_nil (aT ?_)
  refine w_cond_d rfl (fun h1 => ?_) (fun h1 => ?_)
  · skip
    refine w_seq (wR ?_)
    refine lY (yF rfl (hE.t rfl) rfl) rfl ?_
    apply lY
    · (apply y_load rfl (hE.t rfl) rfl; (repeat (first | rfl | assumption | constructor)); done)
    · rfl
    refine lY (yM rfl) rfl ?_
    refine lY (yA rfl) rfl ?_
    refine lY (yA rfl) rfl ?_
    refine l_nil (aT (w_ret (a_block_ret (a_then_ret ?_))))
    apply a_ret
    · rfl
    · (apply Rs.tmp rfl; apply Rs.tmp rfl; exact Rs.nil)
    · exact ⟨rfl, rfl⟩
    · (apply ent; (repeat constructor); done)
  · exfalso; omega
theorem ct_bel_right (hE : Seat E) {a b l p : Nat} (h : l ≤ p) (hp : p ≤ 1152921504606846976) : Ct E 111 [.agg #[.int .i64 (Rl.kind ((.pair a b)) : Nat), .int .u8 (Rl.byte ((.pair a b)) : Nat), .int .i64 (Rl.left ((.pair a b)) : Nat), .int .i64 (Rl.right ((.pair a b)) : Nat), .int .i64 (Rl.times ((.pair a b)) : Nat)], .int .i64 (l : Nat), .int .i64 (p : Nat)] [] (fun v Q => v = .tuple #[.int .i64 (b : Nat), .int .i64 ((p - l : Nat) : Int)] ∧ Q = []) := by
  refine fn_enter (hE.fn Tryz.func111) rfl rfl rfl (fun R => ?_)
  simp only [argsL, List.cons_append, List.nil_append]
  refine w_seq (wR ?_)
  apply lL (by kernel_rfl) rfl
  refine ld_box rfl (fun b3 => ?_)
  refine lY (yA rfl) rfl ?_
  refine lY (yA rfl) rfl ?_
  refine l_nil (aT (w_seq (w_block (w_seq (wR ?_)))))
  refine lY (yF rfl (hE.t rfl) rfl) rfl ?_
  apply lY
  · (apply y_load rfl (hE.t rfl) rfl; (repeat (first | rfl | assumption | constructor)); done)
  · rfl
  refine lY (y_eq rfl rfl) rfl ?_
  refine lY (yA rfl) rfl ?_
  refine l_nil (aT ?_)
  refine w_cond_f rfl ?_
  refine w_seq (wR ?_)
  refine lY (yM rfl) rfl ?_
  refine lY (yM rfl) rfl ?_
  refine lY (y_lt rfl rfl) rfl ?_
  refine lY (yA rfl) rfl ?_
  refine l_nil (aT ?_)
  refine w_cond_d rfl (fun h1 => ?_) (fun h1 => ?_)
  · exfalso; omega
  skip
  refine w_skip (a_block (aT (w_seq (wR ?_))))
  refine lY (yF rfl (hE.t rfl) rfl) rfl ?_
  apply lY
  · (apply y_load rfl (hE.t rfl) rfl; (repeat (first | rfl | assumption | constructor)); done)
  · rfl
  refine lY (yM rfl) rfl ?_
  refine lY (yM rfl) rfl ?_
  refine lY (y_sub rfl rfl (by omega) (by omega)) rfl ?_
  refine lY (yA rfl) rfl ?_
  refine lY (yA rfl) rfl ?_
  refine l_nil (aT (w_ret ?_))
  apply a_ret
  · rfl
  · (apply Rs.tmp rfl; apply Rs.tmp rfl; exact Rs.nil)
  · refine ⟨?_, rfl⟩
    rw [show ((p - l : Nat) : Int) = (p : Int) - (l : Int) by omega]
    rfl
  · (apply ent; (repeat constructor); done)
theorem ct_At (hE : Seat E) {i p : Nat} {c : UInt8} (hi : i ≤ Es.length) (hc : (txt (rls Es) i)[p]? = some c) : Ct E 72 [.pointer (some ⟨s, 0, none⟩), .int .i64 (i : Nat), .int .i64 (p : Nat)] [storeP s most Es] (fun v Q => v = .tuple #[.int .u8 (c.toNat : Nat), .nilIface] ∧ Q = [storeP s most Es]) := by
  refine ct_fact (p := storeP s most Es) (by ((repeat constructor); done)) (fun _ h => storeP_says h) (fun hsay => ?_)
  obtain ⟨j, rfl⟩ : ∃ j, i = j + 1 := by
    cases i with
    | zero => rw [txt_zero] at hc; simp at hc
    | succ j => exact ⟨j, rfl⟩
  have hpl : p < (txt (rls Es) (j + 1)).length := (List.getElem?_eq_some_iff.1 hc).1
  have hsh := hsay.1.short (j + 1)
  have hmx : maxLength = 1152921504606846976 := rfl
  have hent : Es[j]? = some (Es[j]'(by omega)) := List.getElem?_eq_getElem (by omega)
  generalize Es[j]'(by omega) = en at hent
  have htx := hsay.2.1 j en hent
  have hle : en.t.length = len (rls Es) (j + 1) := by rw [htx]; rfl
  have hlen : len (rls Es) (j + 1) = (txt (rls Es) (j + 1)).length := rfl
  refine fn_enter (hE.fn Tryz.func72) rfl rfl rfl (fun R => ?_)
  simp only [argsL, List.cons_append, List.nil_append]
  refine w_seq (wR ?_)
  refine lY (yA rfl) rfl ?_
  refine lY (yA rfl) rfl ?_
  refine l_nil (aT (w_seq (wR ?_)))
  refine lY (yM rfl) rfl ?_
  refine lY (yM rfl) rfl ?_
  apply lL (by kernel_rfl) rfl
  apply ld_call (ct_weight hE hent) rfl (hE.f (by kernel_rfl))
  · ((repeat constructor); done)
  rintro _ _ ⟨rfl, rfl⟩
  simp only [List.cons_append, List.nil_append]
  refine lY (yM rfl) rfl ?_
  refine lY (y_extract rfl rfl) rfl ?_
  refine lY (y_extract rfl rfl) rfl ?_
  apply lL (by kernel_rfl) rfl
  refine ld_alloc (hE.t rfl) (fun b8 => ?_)
  apply lL (by kernel_rfl) rfl
  (first | (apply ld_store rfl rfl (hE.t rfl) rfl; (focus ((repeat constructor); done)); (focus rfl); (focus (exact Nat.le_of_ble_eq_true rfl))) | (apply ld_store_sl rfl rfl (hE.t rfl) rfl; (focus ((repeat constructor); done)); (focus rfl); (focus (first | omega | (simp only [cellsL, length_setMany, List.length_cons, List.length_nil]; omega)))))
  refine lY (yA rfl) rfl ?_
  refine l_nil (aT (w_seq (w_seq (wR ?_))))
  refine lY (yM rfl) rfl ?_
  apply lY
  · (first | exact y_ok_ne rfl (hE.t rfl) | exact y_err_ne rfl (hE.t rfl))
  · rfl
  refine l_nil (aT ?_)
  refine w_cond_f rfl ?_
  refine w_skip (aT (w_seq (w_seq (wR ?_))))
  refine lY (yM rfl) rfl ?_
  refine lY (y_lt rfl rfl) rfl ?_
  refine lY (yM rfl) rfl ?_
  refine l_split 24 rfl (fun h1 => ?_) (fun h1 => ?_)
  · exfalso; omega
  skip
  refine l_on rfl rfl ?_
  refine lY (yM rfl) rfl ?_
  refine l_on rfl rfl ?_
  refine lY (yF rfl (hE.t rfl) rfl) rfl ?_
  refine l_on rfl rfl ?_
  apply lY
  · (apply y_load rfl (hE.t rfl) rfl; (repeat (first | rfl | assumption | constructor)); done)
  · rfl
  refine l_on rfl rfl ?_
  refine lY (y_ge rfl rfl) rfl ?_
  apply lY
  · (first | exact y_pick_t rfl rfl | exact y_pick_f rfl rfl)
  · rfl
  refine l_nil (aT ?_)
  refine w_cond_d rfl (fun h2 => ?_) (fun h2 => ?_)
  · exfalso; omega
  skip
  refine w_skip (aT (w_block ?_))
  skip
  clear htx hle hlen hent h1 h2
  refine w_loop (fun x : Nat × Nat => [(0, .pointer (some ⟨s, 0, none⟩)), (1, .int .i64 ((x.1 + 1 : Nat) : Int)), (2, .int .i64 (x.2 : Nat))]) (fun x => [storeP s most Es, R]) (fun x => x.1) (fun x => x.1 < Es.length ∧ (txt (rls Es) (x.1 + 1))[x.2]? = some c) (j, p) ?_ ?_ ?_ ?_
  · exact ⟨by omega, hc⟩
  · exact ⟨rfl, rfl, rfl, trivial⟩
  · (apply ent; (repeat constructor); done)
  clear hc hpl hsh hi
  rintro ⟨j, p⟩ ⟨hj, hc⟩
  simp only at hj hc ⊢
  have hpl : p < (txt (rls Es) (j + 1)).length := (List.getElem?_eq_some_iff.1 hc).1
  have hsh := hsay.1.short (j + 1)
  have hlen : len (rls Es) (j + 1) = (txt (rls Es) (j + 1)).length := rfl
  have hent : Es[j]? = some (Es[j]'hj) := List.getElem?_eq_getElem hj
  generalize Es[j]'hj = en at hent
  have hrl : (rls Es)[j]? = some en.r := by simp [rls, hent]
  skip
  refine w_block (w_seq (wR ?_))
  refine lY (yM rfl) rfl ?_
  refine lY (yM rfl) rfl ?_
  apply lL (by kernel_rfl) rfl
  apply ld_call (ct_rule hE hent) rfl (hE.f (by kernel_rfl))
  · ((repeat constructor); done)
  rintro _ _ ⟨rfl, rfl⟩
  simp only [List.cons_append, List.nil_append]
  have hdn := txt_down hsay.1 hrl hc
  generalize en.r = r at hdn
  skip
  rcases hdn with ⟨b, rfl, rfl⟩ | ⟨x, k, rfl, hx1, hx2, hl, hcx⟩ | ⟨a, b, rfl, ha1, ha2, hb1, hb2, hab⟩
  · refine lY (yM rfl) rfl ?_
    refine lY (y_extract rfl rfl) rfl ?_
    refine lY (y_extract rfl rfl) rfl ?_
    apply lL (by kernel_rfl) rfl
    refine ld_alloc (hE.t rfl) (fun b10 => ?_)
    apply lL (by kernel_rfl) rfl
    (first | (apply ld_store rfl rfl (hE.t rfl) rfl; (focus ((repeat constructor); done)); (focus rfl); (focus (exact Nat.le_of_ble_eq_true rfl))) | (apply ld_store_sl rfl rfl (hE.t rfl) rfl; (focus ((repeat constructor); done)); (focus rfl); (focus (first | omega | (simp only [cellsL, length_setMany, List.length_cons, List.length_nil]; omega)))))
    refine lY (yA rfl) rfl ?_
    refine l_nil (aT (w_seq (w_seq (wR ?_))))
    refine lY (yM rfl) rfl ?_
    apply lY
    · (first | exact y_ok_ne rfl (hE.t rfl) | exact y_err_ne rfl (hE.t rfl))
    · rfl
    refine l_nil (aT ?_)
    refine w_cond_f rfl ?_
    refine w_skip (aT (w_seq (w_seq (wR ?_))))
    refine lY (yF rfl (hE.t rfl) rfl) rfl ?_
    apply lY
    · (apply y_load rfl (hE.t rfl) rfl; (repeat (first | rfl | assumption | constructor)); done)
    · rfl
    refine lY (y_eq rfl rfl) rfl ?_
    refine l_nil (aT ?_)
    refine w_cond_t rfl ?_
    refine w_seq (wR ?_)
    refine lY (yF rfl (hE.t rfl) rfl) rfl ?_
    apply lY
    · (apply y_load rfl (hE.t rfl) rfl; (repeat (first | rfl | assumption | constructor)); done)
    · rfl
    refine lY (yA rfl) rfl ?_
    refine lY (yA rfl) rfl ?_
    refine l_nil (aT (w_ret (a_then_ret (a_block_ret (a_then_ret (a_block_ret ?_))))))
    apply a_ret
    · rfl
    · (apply Rs.tmp rfl; apply Rs.tmp rfl; exact Rs.nil)
    · exact ⟨rfl, rfl⟩
    · (apply ent; (repeat constructor); done)
  · skip
    obtain ⟨x, rfl⟩ : ∃ y, x = y + 1 := ⟨x - 1, by omega⟩
    have hxt : Es[x]? = some (Es[x]'(by omega)) := List.getElem?_eq_getElem (by omega)
    generalize Es[x]'(by omega) = ex at hxt
    have e1 : ex.t.length = len (rls Es) (x + 1) := by rw [hsay.2.1 x ex hxt]; rfl
    have hs2 := hsay.1.short (x + 1)
    refine lY (yM rfl) rfl ?_
    refine lY (y_extract rfl rfl) rfl ?_
    refine lY (y_extract rfl rfl) rfl ?_
    apply lL (by kernel_rfl) rfl
    refine ld_alloc (hE.t rfl) (fun b10 => ?_)
    apply lL (by kernel_rfl) rfl
    (first | (apply ld_store rfl rfl (hE.t rfl) rfl; (focus ((repeat constructor); done)); (focus rfl); (focus (exact Nat.le_of_ble_eq_true rfl))) | (apply ld_store_sl rfl rfl (hE.t rfl) rfl; (focus ((repeat constructor); done)); (focus rfl); (focus (first | omega | (simp only [cellsL, length_setMany, List.length_cons, List.length_nil]; omega)))))
    refine lY (yA rfl) rfl ?_
    refine l_nil (aT (w_seq (w_seq (wR ?_))))
    refine lY (yM rfl) rfl ?_
    apply lY
    · (first | exact y_ok_ne rfl (hE.t rfl) | exact y_err_ne rfl (hE.t rfl))
    · rfl
    refine l_nil (aT ?_)
    refine w_cond_f rfl ?_
    refine w_skip (aT (w_seq (w_seq (wR ?_))))
    refine lY (yF rfl (hE.t rfl) rfl) rfl ?_
    apply lY
    · (apply y_load rfl (hE.t rfl) rfl; (repeat (first | rfl | assumption | constructor)); done)
    · rfl
    refine lY (y_eq rfl rfl) rfl ?_
    refine l_nil (aT ?_)
    refine w_cond_f rfl ?_
    refine w_skip (aT (w_seq (wR ?_)))
    refine lY (yM rfl) rfl ?_
    refine lY (yF rfl (hE.t rfl) rfl) rfl ?_
    apply lY
    · (apply y_load rfl (hE.t rfl) rfl; (repeat (first | rfl | assumption | constructor)); done)
    · rfl
    apply lL (by kernel_rfl) rfl
    apply ld_call (ct_weight hE hxt) rfl (hE.f (by kernel_rfl))
    · ((repeat constructor); done)
    rintro _ _ ⟨rfl, rfl⟩
    simp only [List.cons_append, List.nil_append]
    refine lY (yM rfl) rfl ?_
    refine lY (y_extract rfl rfl) rfl ?_
    refine lY (y_extract rfl rfl) rfl ?_
    apply lL (by kernel_rfl) rfl
    refine ld_alloc (hE.t rfl) (fun b12 => ?_)
    apply lL (by kernel_rfl) rfl
    (first | (apply ld_store rfl rfl (hE.t rfl) rfl; (focus ((repeat constructor); done)); (focus rfl); (focus (exact Nat.le_of_ble_eq_true rfl))) | (apply ld_store_sl rfl rfl (hE.t rfl) rfl; (focus ((repeat constructor); done)); (focus rfl); (focus (first | omega | (simp only [cellsL, length_setMany, List.length_cons, List.length_nil]; omega)))))
    refine lY (yA rfl) rfl ?_
    refine l_nil (aT (w_seq (w_seq (wR ?_))))
    refine lY (yM rfl) rfl ?_
    apply lY
    · (first | exact y_ok_ne rfl (hE.t rfl) | exact y_err_ne rfl (hE.t rfl))
    · rfl
    refine l_nil (aT ?_)
    refine w_cond_f rfl ?_
    refine w_skip (aT (wR ?_))
    apply lY
    · (apply y_load_agg rfl (hE.t rfl) rfl; (repeat (first | rfl | assumption | constructor)); done)
    · rfl
    refine lY (yF rfl (hE.t rfl) rfl) rfl ?_
    apply lY
    · (apply y_load rfl (hE.t rfl) rfl; (repeat (first | rfl | assumption | constructor)); done)
    · rfl
    refine lY (yM rfl) rfl ?_
    apply lL (by kernel_rfl) rfl
    apply ld_call (ct_bel_power hE (l := ex.t.length) (by omega) (by omega) (by omega)) rfl (hE.f (by kernel_rfl))
    · ((repeat constructor); done)
    rintro _ _ ⟨rfl, rfl⟩
    simp only [List.cons_append, List.nil_append]
    refine lY (yM rfl) rfl ?_
    refine lY (y_extract rfl rfl) rfl ?_
    refine lY (y_extract rfl rfl) rfl ?_
    refine lY (yA rfl) rfl ?_
    refine lY (yA rfl) rfl ?_
    refine l_nil (a_block ?_)
    refine a_round (ι := Nat × Nat) (j := (x, p % ex.t.length)) ⟨by omega, by rw [e1]; exact hcx⟩ (by show x < j; omega) ⟨rfl, rfl, rfl, trivial⟩ ?_
    (apply ent; (repeat constructor); done)
  · skip
    obtain ⟨a, rfl⟩ : ∃ y, a = y + 1 := ⟨a - 1, by omega⟩
    obtain ⟨b, rfl⟩ : ∃ y, b = y + 1 := ⟨b - 1, by omega⟩
    have hxt : Es[a]? = some (Es[a]'(by omega)) := List.getElem?_eq_getElem (by omega)
    generalize Es[a]'(by omega) = ex at hxt
    have e1 : ex.t.length = len (rls Es) (a + 1) := by rw [hsay.2.1 a ex hxt]; rfl
    refine lY (yM rfl) rfl ?_
    refine lY (y_extract rfl rfl) rfl ?_
    refine lY (y_extract rfl rfl) rfl ?_
    apply lL (by kernel_rfl) rfl
    refine ld_alloc (hE.t rfl) (fun b10 => ?_)
    apply lL (by kernel_rfl) rfl
    (first | (apply ld_store rfl rfl (hE.t rfl) rfl; (focus ((repeat constructor); done)); (focus rfl); (focus (exact Nat.le_of_ble_eq_true rfl))) | (apply ld_store_sl rfl rfl (hE.t rfl) rfl; (focus ((repeat constructor); done)); (focus rfl); (focus (first | omega | (simp only [cellsL, length_setMany, List.length_cons, List.length_nil]; omega)))))
    refine lY (yA rfl) rfl ?_
    refine l_nil (aT (w_seq (w_seq (wR ?_))))
    refine lY (yM rfl) rfl ?_
    apply lY
    · (first | exact y_ok_ne rfl (hE.t rfl) | exact y_err_ne rfl (hE.t rfl))
    · rfl
    refine l_nil (aT ?_)
    refine w_cond_f rfl ?_
    refine w_skip (aT (w_seq (w_seq (wR ?_))))
    refine lY (yF rfl (hE.t rfl) rfl) rfl ?_
    apply lY
    · (apply y_load rfl (hE.t rfl) rfl; (repeat (first | rfl | assumption | constructor)); done)
    · rfl
    refine lY (y_eq rfl rfl) rfl ?_
    refine l_nil (aT ?_)
    refine w_cond_f rfl ?_
    refine w_skip (aT (w_seq (wR ?_)))
    refine lY (yM rfl) rfl ?_
    refine lY (yF rfl (hE.t rfl) rfl) rfl ?_
    apply lY
    · (apply y_load rfl (hE.t rfl) rfl; (repeat (first | rfl | assumption | constructor)); done)
    · rfl
    apply lL (by kernel_rfl) rfl
    apply ld_call (ct_weight hE hxt) rfl (hE.f (by kernel_rfl))
    · ((repeat constructor); done)
    rintro _ _ ⟨rfl, rfl⟩
    simp only [List.cons_append, List.nil_append]
    refine lY (yM rfl) rfl ?_
    refine lY (y_extract rfl rfl) rfl ?_
    refine lY (y_extract rfl rfl) rfl ?_
    apply lL (by kernel_rfl) rfl
    refine ld_alloc (hE.t rfl) (fun b12 => ?_)
    apply lL (by kernel_rfl) rfl
    (first | (apply ld_store rfl rfl (hE.t rfl) rfl; (focus ((repeat constructor); done)); (focus rfl); (focus (exact Nat.le_of_ble_eq_true rfl))) | (apply ld_store_sl rfl rfl (hE.t rfl) rfl; (focus ((repeat constructor); done)); (focus rfl); (focus (first | omega | (simp only [cellsL, length_setMany, List.length_cons, List.length_nil]; omega)))))
    refine lY (yA rfl) rfl ?_
    refine l_nil (aT (w_seq (w_seq (wR ?_))))
    refine lY (yM rfl) rfl ?_
    apply lY
    · (first | exact y_ok_ne rfl (hE.t rfl) | exact y_err_ne rfl (hE.t rfl))
    · rfl
    refine l_nil (aT ?_)
    refine w_cond_f rfl ?_
    refine w_skip (aT (wR ?_))
    apply lY
    · (apply y_load_agg rfl (hE.t rfl) rfl; (repeat (first | rfl | assumption | constructor)); done)
    · rfl
    refine lY (yF rfl (hE.t rfl) rfl) rfl ?_
    apply lY
    · (apply y_load rfl (hE.t rfl) rfl; (repeat (first | rfl | assumption | constructor)); done)
    · rfl
    refine lY (yM rfl) rfl ?_
    skip
    rcases hab with ⟨h1, h2⟩ | ⟨h1, h2⟩
    · apply lL (by kernel_rfl) rfl
      apply ld_call (ct_bel_left hE (l := ex.t.length) (by omega)) rfl (hE.f (by kernel_rfl))
      · ((repeat constructor); done)
      rintro _ _ ⟨rfl, rfl⟩
      simp only [List.cons_append, List.nil_append]
      refine lY (yM rfl) rfl ?_
      refine lY (y_extract rfl rfl) rfl ?_
      refine lY (y_extract rfl rfl) rfl ?_
      refine lY (yA rfl) rfl ?_
      refine lY (yA rfl) rfl ?_
      refine l_nil (a_block ?_)
      refine a_round (ι := Nat × Nat) (j := (a, p)) ⟨by omega, h2⟩ (by show a < j; omega) ⟨rfl, rfl, rfl, trivial⟩ ?_
      (apply ent; (repeat constructor); done)
    · skip
      apply lL (by kernel_rfl) rfl
      apply ld_call (ct_bel_right hE (l := ex.t.length) (by omega) (by omega)) rfl (hE.f (by kernel_rfl))
      · ((repeat constructor); done)
      rintro _ _ ⟨rfl, rfl⟩
      simp only [List.cons_append, List.nil_append]
      refine lY (yM rfl) rfl ?_
      refine lY (y_extract rfl rfl) rfl ?_
      refine lY (y_extract rfl rfl) rfl ?_
      refine lY (yA rfl) rfl ?_
      refine lY (yA rfl) rfl ?_
      refine l_nil (a_block ?_)
      refine a_round (ι := Nat × Nat) (j := (b, p - ex.t.length)) ⟨by omega, by rw [e1]; exact h2⟩ (by show b < j; omega) ⟨rfl, rfl, rfl, trivial⟩ ?_
      (apply ent; (repeat constructor); done)
end Go.Proofs.YtekhbjlplfbdkaaGreatDoor
namespace Sl
open Go Go.RowKit
theorem rd_cells {w0 : World} {g : Nat} {vs us : List Value} {t : TypeId} (h : ∀ (i : Nat) (v : Value), vs[i]? = some v → us[i]? = some v) : ∀ k, cells g us t k → RdAt w0 g 0 vs k := fun k hk i v hv => .inr ⟨⟨us⟩, t, (0, 0), hk, by rw [Nat.zero_add]; simpa using h i v hv⟩
end Sl
namespace Go.Proofs.YtekhbjlplfbdkaaGreatDoor
open Go Go.RowKit Sl Eg
set_option maxRecDepth 10000
variable {E : Env} {Es : List Ent} {pp tb s most : Nat}
theorem ct_isNaN (hE : Seat E) {a : Int} : Ct E 110 [.int .i64 a] [] (fun v Q => v = .bool false ∧ Q = []) := by
  refine fn_enter (hE.fn Tryz.func110) rfl rfl rfl (fun R => ?_)
  simp only [argsL, List.cons_append, List.nil_append]
  refine w_seq (wR ?_)
  refine lY (yA rfl) rfl ?_
  refine l_nil (aT (w_seq (wR ?_)))
  refine lY (yM rfl) rfl ?_
  refine lY (yM rfl) rfl ?_
  refine lY (y_ne rfl rfl) rfl ?_
  refine lY (yA rfl) rfl ?_
  refine l_nil (aT (w_ret ?_))
  apply a_ret
  · rfl
  · (apply Rs.tmp rfl; exact Rs.nil)
  · exact ⟨by simp [one], rfl⟩
  · (apply ent; (repeat constructor); done)
theorem ct_isNaN8 (hE : Seat E) {a : Int} : Ct E 112 [.int .u8 a] [] (fun v Q => v = .bool false ∧ Q = []) := by
  refine fn_enter (hE.fn Tryz.func112) rfl rfl rfl (fun R => ?_)
  simp only [argsL, List.cons_append, List.nil_append]
  refine w_seq (wR ?_)
  refine lY (yA rfl) rfl ?_
  refine l_nil (aT (w_seq (wR ?_)))
  refine lY (yM rfl) rfl ?_
  refine lY (yM rfl) rfl ?_
  refine lY (y_ne rfl rfl) rfl ?_
  refine lY (yA rfl) rfl ?_
  refine l_nil (aT (w_ret ?_))
  apply a_ret
  · rfl
  · (apply Rs.tmp rfl; exact Rs.nil)
  · exact ⟨by simp [one], rfl⟩
  · (apply ent; (repeat constructor); done)
theorem ct_cmp (hE : Seat E) {a b : Nat} : Ct E 71 [.int .i64 (a : Nat), .int .i64 (b : Nat)] [] (fun v Q => v = .int .i64 (cmpN a b) ∧ Q = []) := by
  refine fn_enter (hE.fn Tryz.func71) rfl rfl rfl (fun R => ?_)
  simp only [argsL, List.cons_append, List.nil_append]
  refine w_seq (wR ?_)
  refine lY (yA rfl) rfl ?_
  refine l_nil (aT (w_seq (wR ?_)))
  refine lY (yM rfl) rfl ?_
  apply lL (by kernel_rfl) rfl
  apply ld_call (ct_isNaN hE) rfl (hE.f (by kernel_rfl))
  · ((repeat constructor); done)
  rintro _ _ ⟨rfl, rfl⟩
  simp only [List.cons_append, List.nil_append]
  refine lY (yA rfl) rfl ?_
  refine l_nil (aT (w_seq (wR ?_)))
  refine lY (yM rfl) rfl ?_
  apply lL (by kernel_rfl) rfl
  apply ld_call (ct_isNaN hE) rfl (hE.f (by kernel_rfl))
  · ((repeat constructor); done)
  rintro _ _ ⟨rfl, rfl⟩
  simp only [List.cons_append, List.nil_append]
  refine lY (yA rfl) rfl ?_
  refine l_nil (aT (w_seq (w_seq (wR ?_))))
  refine lY (yM rfl) rfl ?_
  refine l_nil (aT ?_)
  refine w_cond_f rfl ?_
  refine w_skip (aT (w_seq (w_seq (wR ?_))))
  refine lY (yM rfl) rfl ?_
  refine l_nil (aT ?_)
  refine w_cond_f rfl ?_
  refine w_skip (aT (w_seq (w_seq (wR ?_))))
  refine lY (yM rfl) rfl ?_
  refine lY (yM rfl) rfl ?_
  refine lY (y_lt rfl rfl) rfl ?_
  refine l_nil (aT ?_)
  refine w_cond_d rfl (fun h1 => ?_) (fun h1 => ?_)
  · skip
    refine w_seq (wR ?_)
    refine lY (yA rfl) rfl ?_
    refine l_nil (aT (w_ret (a_then_ret ?_)))
    apply a_ret
    · rfl
    · (apply Rs.tmp rfl; exact Rs.nil)
    · exact ⟨by simp only [one]; rw [cmpN, if_pos (by omega)], rfl⟩
    · (apply ent; (repeat constructor); done)
  skip
  refine w_skip (aT (w_seq (w_seq (wR ?_))))
  refine lY (yM rfl) rfl ?_
  refine lY (yM rfl) rfl ?_
  refine lY (y_gt rfl rfl) rfl ?_
  refine l_nil (aT ?_)
  refine w_cond_d rfl (fun h2 => ?_) (fun h2 => ?_)
  · skip
    refine w_seq (wR ?_)
    refine lY (yA rfl) rfl ?_
    refine l_nil (aT (w_ret (a_then_ret ?_)))
    apply a_ret
    · rfl
    · (apply Rs.tmp rfl; exact Rs.nil)
    · exact ⟨by simp only [one]; rw [cmpN, if_neg (by omega), if_pos (by omega)], rfl⟩
    · (apply ent; (repeat constructor); done)
  skip
  refine w_skip (aT (w_seq (wR ?_)))
  refine lY (yA rfl) rfl ?_
  refine l_nil (aT (w_ret ?_))
  apply a_ret
  · rfl
  · (apply Rs.tmp rfl; exact Rs.nil)
  · exact ⟨by simp only [one]; rw [cmpN, if_neg (by omega), if_neg (by omega)], rfl⟩
  · (apply ent; (repeat constructor); done)
theorem ct_cmp8 (hE : Seat E) {a b : Nat} : Ct E 73 [.int .u8 (a : Nat), .int .u8 (b : Nat)] [] (fun v Q => v = .int .i64 (cmpN a b) ∧ Q = []) := by
  refine fn_enter (hE.fn Tryz.func73) rfl rfl rfl (fun R => ?_)
  simp only [argsL, List.cons_append, List.nil_append]
  refine w_seq (wR ?_)
  refine lY (yA rfl) rfl ?_
  refine l_nil (aT (w_seq (wR ?_)))
  refine lY (yM rfl) rfl ?_
  apply lL (by kernel_rfl) rfl
  apply ld_call (ct_isNaN8 hE) rfl (hE.f (by kernel_rfl))
  · ((repeat constructor); done)
  rintro _ _ ⟨rfl, rfl⟩
  simp only [List.cons_append, List.nil_append]
  refine lY (yA rfl) rfl ?_
  refine l_nil (aT (w_seq (wR ?_)))
  refine lY (yM rfl) rfl ?_
  apply lL (by kernel_rfl) rfl
  apply ld_call (ct_isNaN8 hE) rfl (hE.f (by kernel_rfl))
  · ((repeat constructor); done)
  rintro _ _ ⟨rfl, rfl⟩
  simp only [List.cons_append, List.nil_append]
  refine lY (yA rfl) rfl ?_
  refine l_nil (aT (w_seq (w_seq (wR ?_))))
  refine lY (yM rfl) rfl ?_
  refine l_nil (aT ?_)
  refine w_cond_f rfl ?_
  refine w_skip (aT (w_seq (w_seq (wR ?_))))
  refine lY (yM rfl) rfl ?_
  refine l_nil (aT ?_)
  refine w_cond_f rfl ?_
  refine w_skip (aT (w_seq (w_seq (wR ?_))))
  refine lY (yM rfl) rfl ?_
  refine lY (yM rfl) rfl ?_
  refine lY (y_lt rfl rfl) rfl ?_
  refine l_nil (aT ?_)
  refine w_cond_d rfl (fun h1 => ?_) (fun h1 => ?_)
  · skip
    refine w_seq (wR ?_)
    refine lY (yA rfl) rfl ?_
    refine l_nil (aT (w_ret (a_then_ret ?_)))
    apply a_ret
    · rfl
    · (apply Rs.tmp rfl; exact Rs.nil)
    · exact ⟨by simp only [one]; rw [cmpN, if_pos (by omega)], rfl⟩
    · (apply ent; (repeat constructor); done)
  skip
  refine w_skip (aT (w_seq (w_seq (wR ?_))))
  refine lY (yM rfl) rfl ?_
  refine lY (yM rfl) rfl ?_
  refine lY (y_gt rfl rfl) rfl ?_
  refine l_nil (aT ?_)
  refine w_cond_d rfl (fun h2 => ?_) (fun h2 => ?_)
  · skip
    refine w_seq (wR ?_)
    refine lY (yA rfl) rfl ?_
    refine l_nil (aT (w_ret (a_then_ret ?_)))
    apply a_ret
    · rfl
    · (apply Rs.tmp rfl; exact Rs.nil)
    · exact ⟨by simp only [one]; rw [cmpN, if_neg (by omega), if_pos (by omega)], rfl⟩
    · (apply ent; (repeat constructor); done)
  skip
  refine w_skip (aT (w_seq (wR ?_)))
  refine lY (yA rfl) rfl ?_
  refine l_nil (aT (w_ret ?_))
  apply a_ret
  · rfl
  · (apply Rs.tmp rfl; exact Rs.nil)
  · exact ⟨by simp only [one]; rw [cmpN, if_neg (by omega), if_neg (by omega)], rfl⟩
  · (apply ent; (repeat constructor); done)
theorem ct_osize (hE : Seat E) {i : Nat} (hi : i ≤ (rls Es).length) : Ct E 70 [.pointer (some ⟨pp, 0, none⟩), .int .i64 (i : Nat)] [cells pp [.pointer (some ⟨s, 0, none⟩), .pointer (some ⟨tb, 0, none⟩)] 59, tabP tb s (rls Es), storeP s most Es] (fun v Q => v = .int .i64 (len (rls Es) i : Nat) ∧ Q = [cells pp [.pointer (some ⟨s, 0, none⟩), .pointer (some ⟨tb, 0, none⟩)] 59, tabP tb s (rls Es), storeP s most Es]) := by
  refine ct_fact (p := storeP s most Es) (by ((repeat constructor); done)) (fun _ h => storeP_says h) (fun hsay => ?_)
  rw [rls_length] at hi
  cases i with
  | zero =>
    refine fn_enter (hE.fn Tryz.func70) rfl rfl rfl (fun R => ?_)
    simp only [argsL, List.cons_append, List.nil_append]
    refine w_seq (wR ?_)
    refine lY (yA rfl) rfl ?_
    refine l_nil (aT (w_seq (wR ?_)))
    refine lY (yM rfl) rfl ?_
    apply lL (by kernel_rfl) rfl
    apply ld_call (ct_Store hE) rfl (hE.f (by kernel_rfl))
    · ((repeat constructor); done)
    rintro _ _ ⟨rfl, rfl⟩
    simp only [List.cons_append, List.nil_append]
    refine lY (yM rfl) rfl ?_
    apply lL (by kernel_rfl) rfl
    apply ld_call (ct_weight0 hE) rfl (hE.f (by kernel_rfl))
    · ((repeat constructor); done)
    rintro _ _ ⟨rfl, rfl⟩
    simp only [List.cons_append, List.nil_append]
    refine lY (yM rfl) rfl ?_
    refine lY (y_extract rfl rfl) rfl ?_
    refine lY (y_extract rfl rfl) rfl ?_
    apply lL (by kernel_rfl) rfl
    refine ld_alloc (hE.t rfl) (fun b5 => ?_)
    apply lL (by kernel_rfl) rfl
    (first | (apply ld_store rfl rfl (hE.t rfl) rfl; (focus ((repeat constructor); done)); (focus rfl); (focus (exact Nat.le_of_ble_eq_true rfl))) | (apply ld_store_sl rfl rfl (hE.t rfl) rfl; (focus ((repeat constructor); done)); (focus rfl); (focus (first | omega | (simp only [cellsL, length_setMany, List.length_cons, List.length_nil]; omega)))))
    refine lY (yA rfl) rfl ?_
    refine l_nil (aT (w_seq (wR ?_)))
    refine lY (yF rfl (hE.t rfl) rfl) rfl ?_
    apply lY
    · (first | (apply y_load rfl (hE.t rfl) rfl; (repeat (first | rfl | assumption | constructor)); done) | exact y_load_old rfl (hE.t rfl) rfl (by assumption) | (apply y_load_ro rfl (hE.t rfl) rfl; (focus ((repeat constructor); done)); (focus assumption)) | (apply y_load_q rfl (hE.t rfl) rfl (by assumption); (focus ((repeat constructor); done)); (first | ((focus exact f0); (focus omega)) | ((focus exact f1); (focus omega)) | ((focus assumption); (focus omega)))))
    · rfl
    refine lY (yA rfl) rfl ?_
    refine l_nil (aT (w_ret ?_))
    apply a_ret
    · rfl
    · (apply Rs.tmp rfl; exact Rs.nil)
    · exact ⟨rfl, rfl⟩
    · (apply ent; (repeat constructor); done)
  | succ i =>
    have hent : Es[i]? = some (Es[i]'(by omega)) := List.getElem?_eq_getElem (by omega)
    generalize Es[i]'(by omega) = en at hent
    have htx := hsay.2.1 i en hent
    refine fn_enter (hE.fn Tryz.func70) rfl rfl rfl (fun R => ?_)
    simp only [argsL, List.cons_append, List.nil_append]
    refine w_seq (wR ?_)
    refine lY (yA rfl) rfl ?_
    refine l_nil (aT (w_seq (wR ?_)))
    refine lY (yM rfl) rfl ?_
    apply lL (by kernel_rfl) rfl
    apply ld_call (ct_Store hE) rfl (hE.f (by kernel_rfl))
    · ((repeat constructor); done)
    rintro _ _ ⟨rfl, rfl⟩
    simp only [List.cons_append, List.nil_append]
    refine lY (yM rfl) rfl ?_
    apply lL (by kernel_rfl) rfl
    apply ld_call (ct_weight hE hent) rfl (hE.f (by kernel_rfl))
    · ((repeat constructor); done)
    rintro _ _ ⟨rfl, rfl⟩
    simp only [List.cons_append, List.nil_append]
    refine lY (yM rfl) rfl ?_
    refine lY (y_extract rfl rfl) rfl ?_
    refine lY (y_extract rfl rfl) rfl ?_
    apply lL (by kernel_rfl) rfl
    refine ld_alloc (hE.t rfl) (fun b5 => ?_)
    apply lL (by kernel_rfl) rfl
    (first | (apply ld_store rfl rfl (hE.t rfl) rfl; (focus ((repeat constructor); done)); (focus rfl); (focus (exact Nat.le_of_ble_eq_true rfl))) | (apply ld_store_sl rfl rfl (hE.t rfl) rfl; (focus ((repeat constructor); done)); (focus rfl); (focus (first | omega | (simp only [cellsL, length_setMany, List.length_cons, List.length_nil]; omega)))))
    refine lY (yA rfl) rfl ?_
    refine l_nil (aT (w_seq (wR ?_)))
    refine lY (yF rfl (hE.t rfl) rfl) rfl ?_
    apply lY
    · (first | (apply y_load rfl (hE.t rfl) rfl; (repeat (first | rfl | assumption | constructor)); done) | exact y_load_old rfl (hE.t rfl) rfl (by assumption) | (apply y_load_ro rfl (hE.t rfl) rfl; (focus ((repeat constructor); done)); (focus assumption)) | (apply y_load_q rfl (hE.t rfl) rfl (by assumption); (focus ((repeat constructor); done)); (first | ((focus exact f0); (focus omega)) | ((focus exact f1); (focus omega)) | ((focus assumption); (focus omega)))))
    · rfl
    refine lY (yA rfl) rfl ?_
    refine l_nil (aT (w_ret ?_))
    apply a_ret
    · rfl
    · (apply Rs.tmp rfl; exact Rs.nil)
    · exact ⟨by rw [len, ← htx]; rfl, rfl⟩
    · (apply ent; (repeat constructor); done)
theorem ct_ocheck (hE : Seat E) (hB : Base E.w0) {ids : List Nat} (hg : ∀ x ∈ ids, good (rls Es) x) {a : Option Addr} {c : Nat} {q : HP} (hq : ids ≠ [] → ∃ g o, a = some ⟨g, o, none⟩ ∧ ∀ k, q k → RdAt E.w0 g o (idC ids) k) (hl : ids.length ≤ 1152921504606846976) :
    Ct E 36 [.pointer (some ⟨pp, 0, none⟩), .slice a ids.length c] [cells pp [.pointer (some ⟨s, 0, none⟩), .pointer (some ⟨tb, 0, none⟩)] 59, tabP tb s (rls Es), storeP s most Es, q] (fun v Q => v = .nilIface ∧ Q = [cells pp [.pointer (some ⟨s, 0, none⟩), .pointer (some ⟨tb, 0, none⟩)] 59, tabP tb s (rls Es), storeP s most Es, q]) := by
  refine fn_enter (hE.fn Tryz.func36) rfl rfl rfl (fun R => ?_)
  simp only [argsL, List.cons_append, List.nil_append]
  refine w_seq (wR ?_)
  refine lY (yA rfl) rfl ?_
  refine l_nil (aT (w_seq (w_seq (wR ?_))))
  refine lY (yM rfl) rfl ?_
  apply lL (by kernel_rfl) rfl
  apply ld_call (ct_Store hE) rfl (hE.f (by kernel_rfl))
  · ((repeat constructor); done)
  rintro _ _ ⟨rfl, rfl⟩
  simp only [List.cons_append, List.nil_append]
  apply lY
  · (first | exact y_eq_ptr rfl (hE.t rfl) | exact y_eq_nil rfl (hE.t rfl))
  · rfl
  refine l_nil (aT ?_)
  refine w_cond_f rfl ?_
  refine w_skip (aT (w_seq (w_seq (wR ?_))))
  refine lY (yM rfl) rfl ?_
  refine lY (y_len_slice rfl (hE.t rfl)) rfl ?_
  refine lY (yM rfl) rfl ?_
  refine l_nil (aT (w_block ?_))
  skip
  refine w_loop (fun k : Nat => [(0, .pointer (some ⟨pp, 0, none⟩)), (13, .slice a ids.length c), (14, .int .i64 (ids.length : Nat)), (15, .int .i64 (k : Nat))]) (fun k => [cells pp [.pointer (some ⟨s, 0, none⟩), .pointer (some ⟨tb, 0, none⟩)] 59, tabP tb s (rls Es), storeP s most Es, q, R]) (fun k => ids.length - k) (fun k => k ≤ ids.length) 0 ?_ ?_ ?_ ?_
  · exact Nat.zero_le _
  · exact ⟨rfl, rfl, rfl, rfl, trivial⟩
  · (apply ent; (repeat constructor); done)
  intro k hk
  skip
  refine w_seq (wR ?_)
  refine lY (y_lt rfl rfl) rfl ?_
  refine l_nil (aT (w_seq ?_))
  refine w_cond_d rfl (fun h1 => ?_) (fun h1 => ?_)
  · skip
    have hkl : k < ids.length := by omega
    obtain ⟨g, o, rfl, hqq⟩ := hq (by intro e; rw [e] at hkl; simp at hkl)
    obtain ⟨x, hx⟩ : ∃ x, ids[k]? = some x := ⟨_, List.getElem?_eq_getElem hkl⟩
    have gx := hg x (List.mem_of_getElem? hx)
    have gx1 := gx.1
    rw [rls_length] at gx1
    have f0 := idC_get hx k rfl
    refine w_skip (aT (w_seq (w_block (w_seq (wR ?_)))))
    apply lY
    · (first | exact y_indexAddr1 rfl rfl (hE.t rfl) (by omega) (by omega) | exact y_indexAddr rfl rfl (hE.t rfl) (by omega) (by omega))
    · rfl
    apply lY
    · (first | (apply y_load rfl (hE.t rfl) rfl; (repeat (first | rfl | assumption | constructor)); done) | exact y_load_old rfl (hE.t rfl) rfl (by assumption) | (apply y_load_ro rfl (hE.t rfl) rfl; (focus ((repeat constructor); done)); (focus assumption)) | (apply y_load_q rfl (hE.t rfl) rfl (by assumption); (focus ((repeat constructor); done)); (first | ((focus exact f0); (focus omega)) | ((focus exact f1); (focus omega)) | ((focus assumption); (focus omega)))))
    · rfl
    refine lY (yA rfl) rfl ?_
    refine l_nil (aT (w_seq (w_seq (wR ?_))))
    refine lY (yM rfl) rfl ?_
    refine lY (y_lt rfl rfl) rfl ?_
    refine lY (yM rfl) rfl ?_
    refine l_split 21 rfl (fun h2 => ?_) (fun h2 => ?_)
    · exfalso; omega
    skip
    refine l_on rfl rfl ?_
    refine lY (yM rfl) rfl ?_
    refine l_on rfl rfl ?_
    refine lY (yM rfl) rfl ?_
    refine l_on rfl rfl ?_
    apply lL (by kernel_rfl) rfl
    apply ld_call (ct_Store hE) rfl (hE.f (by kernel_rfl))
    · ((repeat constructor); done)
    rintro _ _ ⟨rfl, rfl⟩
    simp only [List.cons_append, List.nil_append]
    refine l_on rfl rfl ?_
    apply lL (by kernel_rfl) rfl
    apply ld_call (ct_len hE) rfl (hE.f (by kernel_rfl))
    · ((repeat constructor); done)
    rintro _ _ ⟨rfl, rfl⟩
    simp only [List.cons_append, List.nil_append]
    refine l_on rfl rfl ?_
    refine lY (y_gt rfl rfl) rfl ?_
    apply lY
    · (first | exact y_pick_t rfl rfl | exact y_pick_f rfl rfl)
    · rfl
    refine l_nil (aT ?_)
    refine w_cond_d rfl (fun h3 => ?_) (fun h3 => ?_)
    · exfalso; omega
    skip
    refine w_skip (aT (w_seq (wR ?_)))
    refine lY (yM rfl) rfl ?_
    refine lY (yM rfl) rfl ?_
    apply lL (by kernel_rfl) rfl
    apply ld_call (ct_TopN hE hB gx) rfl (hE.f (by kernel_rfl))
    · ((repeat constructor); done)
    rintro _ _ ⟨rfl, rfl⟩
    simp only [List.cons_append, List.nil_append]
    refine lY (yM rfl) rfl ?_
    refine lY (y_extract rfl rfl) rfl ?_
    refine lY (y_extract rfl rfl) rfl ?_
    refine lY (yA rfl) rfl ?_
    refine lY (yA rfl) rfl ?_
    refine l_nil (aT (w_seq (wR ?_)))
    refine lY (yM rfl) rfl ?_
    apply lY
    · (first | exact y_ok_ne rfl (hE.t rfl) | exact y_err_ne rfl (hE.t rfl))
    · rfl
    refine l_nil (aT ?_)
    refine w_cond_f rfl ?_
    refine w_skip (a_block (aT (wR ?_)))
    refine lY (y_add rfl rfl (by omega) (by omega)) rfl ?_
    refine lY (yM rfl) rfl ?_
    refine l_nil ?_
    refine wa_eq 15 (.int .i64 ((k + 1 : Nat) : Int)) rfl (int_eq (by omega)) ?_
    refine a_round (k + 1) (by omega) (by omega) ⟨rfl, rfl, rfl, rfl, trivial⟩ ?_
    (apply ent; (repeat constructor); done)
  · skip
    refine w_exit (a_then_exit (a_then_exit (a_block_exit (aT (w_seq (wR ?_))))))
    refine lY (yA rfl) rfl ?_
    refine l_nil (aT (w_ret ?_))
    apply a_ret
    · rfl
    · (apply Rs.tmp rfl; exact Rs.nil)
    · exact ⟨rfl, rfl⟩
    · (apply ent; (repeat constructor); done)
theorem ct_compare (hE : Seat E) (hB : Base E.w0) {i j : Nat} (hi : good (rls Es) i) (hj : good (rls Es) j) (hs : len (rls Es) i + len (rls Es) j < 8388608) :
    Ct E 40 [.pointer (some ⟨pp, 0, none⟩), .int .i64 (i : Nat), .int .i64 (j : Nat)] [cells pp [.pointer (some ⟨s, 0, none⟩), .pointer (some ⟨tb, 0, none⟩)] 59, tabP tb s (rls Es), storeP s most Es] (fun v Q => v = .int .i64 (cmpT (txt (rls Es) i) (txt (rls Es) j)) ∧ Q = [cells pp [.pointer (some ⟨s, 0, none⟩), .pointer (some ⟨tb, 0, none⟩)] 59, tabP tb s (rls Es), storeP s most Es]) := by
  have li : len (rls Es) i = (txt (rls Es) i).length := rfl
  have lj : len (rls Es) j = (txt (rls Es) j).length := rfl
  have hi1 := hi.1
  have hj1 := hj.1
  have hi2 := hi.1
  have hj2 := hj.1
  rw [rls_length] at hi2 hj2
  refine fn_enter (hE.fn Tryz.func40) rfl rfl rfl (fun R => ?_)
  simp only [argsL, List.cons_append, List.nil_append]
  refine w_seq (wR ?_)
  refine lY (yA rfl) rfl ?_
  refine l_nil (aT (w_seq (wR ?_)))
  refine lY (yM rfl) rfl ?_
  refine lY (yM rfl) rfl ?_
  refine lY (yM rfl) rfl ?_
  apply lL (by kernel_rfl) rfl
  apply ld_call (ct_Common hE hB hi hj) rfl (hE.f (by kernel_rfl))
  · ((repeat constructor); done)
  rintro _ _ ⟨n, rfl, -, e1, rfl⟩
  obtain rfl : n = lcp (txt (rls Es) i) (txt (rls Es) j) := by rw [e1 (by simp only [tx_length]; omega), tx_f, tx_f]
  simp only [List.cons_append, List.nil_append]
  refine lY (yM rfl) rfl ?_
  refine lY (y_extract rfl rfl) rfl ?_
  refine lY (y_extract rfl rfl) rfl ?_
  refine lY (yA rfl) rfl ?_
  refine lY (yA rfl) rfl ?_
  refine l_nil (aT (w_seq (w_seq (wR ?_))))
  refine lY (yM rfl) rfl ?_
  refine lY (yM rfl) rfl ?_
  refine lY (yM rfl) rfl ?_
  apply lL (by kernel_rfl) rfl
  apply ld_call (ct_osize hE hi1) rfl (hE.f (by kernel_rfl))
  · ((repeat constructor); done)
  rintro _ _ ⟨rfl, rfl⟩
  simp only [List.cons_append, List.nil_append]
  refine lY (y_eq rfl rfl) rfl ?_
  refine lY (yM rfl) rfl ?_
  refine l_split 25 rfl (fun h1 => ?_) (fun h1 => ?_)
  · skip
    refine l_off rfl rfl rfl rfl (l_off rfl rfl rfl rfl (l_off rfl rfl rfl rfl (l_off rfl rfl rfl rfl (l_off rfl rfl rfl rfl ?_))))
    apply lY
    · (first | exact y_pick_t rfl rfl | exact y_pick_f rfl rfl)
    · rfl
    refine l_nil (aT ?_)
    refine w_cond_t rfl ?_
    refine w_seq (wR ?_)
    refine lY (yM rfl) rfl ?_
    refine lY (yM rfl) rfl ?_
    apply lL (by kernel_rfl) rfl
    apply ld_call (ct_osize hE hi1) rfl (hE.f (by kernel_rfl))
    · ((repeat constructor); done)
    rintro _ _ ⟨rfl, rfl⟩
    simp only [List.cons_append, List.nil_append]
    refine lY (yM rfl) rfl ?_
    refine lY (yM rfl) rfl ?_
    apply lL (by kernel_rfl) rfl
    apply ld_call (ct_osize hE hj1) rfl (hE.f (by kernel_rfl))
    · ((repeat constructor); done)
    rintro _ _ ⟨rfl, rfl⟩
    simp only [List.cons_append, List.nil_append]
    skip
    apply lL (by kernel_rfl) rfl
    apply ld_call (ct_cmp hE) rfl (hE.f (by kernel_rfl))
    · ((repeat constructor); done)
    rintro _ _ ⟨rfl, rfl⟩
    simp only [List.cons_append, List.nil_append]
    refine lY (yA rfl) rfl ?_
    refine l_nil (aT (w_ret (a_then_ret ?_)))
    apply a_ret
    · rfl
    · (apply Rs.tmp rfl; exact Rs.nil)
    · exact ⟨by rw [cmpT_end (.inl (by omega))]; rfl, rfl⟩
    · (apply ent; (repeat constructor); done)
  skip
  refine l_on rfl rfl ?_
  refine lY (yM rfl) rfl ?_
  refine l_on rfl rfl ?_
  refine lY (yM rfl) rfl ?_
  refine l_on rfl rfl ?_
  refine lY (yM rfl) rfl ?_
  refine l_on rfl rfl ?_
  apply lL (by kernel_rfl) rfl
  apply ld_call (ct_osize hE hj1) rfl (hE.f (by kernel_rfl))
  · ((repeat constructor); done)
  rintro _ _ ⟨rfl, rfl⟩
  simp only [List.cons_append, List.nil_append]
  refine l_on rfl rfl ?_
  refine lY (y_eq rfl rfl) rfl ?_
  apply lY
  · (first | exact y_pick_t rfl rfl | exact y_pick_f rfl rfl)
  · rfl
  refine l_nil (aT ?_)
  refine w_cond_d rfl (fun h2 => ?_) (fun h2 => ?_)
  · skip
    refine w_seq (wR ?_)
    refine lY (yM rfl) rfl ?_
    refine lY (yM rfl) rfl ?_
    apply lL (by kernel_rfl) rfl
    apply ld_call (ct_osize hE hi1) rfl (hE.f (by kernel_rfl))
    · ((repeat constructor); done)
    rintro _ _ ⟨rfl, rfl⟩
    simp only [List.cons_append, List.nil_append]
    refine lY (yM rfl) rfl ?_
    refine lY (yM rfl) rfl ?_
    apply lL (by kernel_rfl) rfl
    apply ld_call (ct_osize hE hj1) rfl (hE.f (by kernel_rfl))
    · ((repeat constructor); done)
    rintro _ _ ⟨rfl, rfl⟩
    simp only [List.cons_append, List.nil_append]
    skip
    apply lL (by kernel_rfl) rfl
    apply ld_call (ct_cmp hE) rfl (hE.f (by kernel_rfl))
    · ((repeat constructor); done)
    rintro _ _ ⟨rfl, rfl⟩
    simp only [List.cons_append, List.nil_append]
    refine lY (yA rfl) rfl ?_
    refine l_nil (aT (w_ret (a_then_ret ?_)))
    apply a_ret
    · rfl
    · (apply Rs.tmp rfl; exact Rs.nil)
    · exact ⟨by rw [cmpT_end (.inr (by omega))]; rfl, rfl⟩
    · (apply ent; (repeat constructor); done)
  skip
  obtain ⟨x, y, hx, hy, hxy, hcm⟩ := cmpT_diff (A := txt (rls Es) i) (B := txt (rls Es) j) (by omega) (by omega)
  refine w_skip (aT (w_seq (wR ?_)))
  refine lY (yM rfl) rfl ?_
  apply lL (by kernel_rfl) rfl
  apply ld_call (ct_Store hE) rfl (hE.f (by kernel_rfl))
  · ((repeat constructor); done)
  rintro _ _ ⟨rfl, rfl⟩
  simp only [List.cons_append, List.nil_append]
  refine lY (yM rfl) rfl ?_
  refine lY (yM rfl) rfl ?_
  apply lL (by kernel_rfl) rfl
  apply ld_call (ct_At hE hi2 hx) rfl (hE.f (by kernel_rfl))
  · ((repeat constructor); done)
  rintro _ _ ⟨rfl, rfl⟩
  simp only [List.cons_append, List.nil_append]
  refine lY (yM rfl) rfl ?_
  refine lY (y_extract rfl rfl) rfl ?_
  refine lY (y_extract rfl rfl) rfl ?_
  refine lY (yA rfl) rfl ?_
  refine lY (yA rfl) rfl ?_
  refine l_nil (aT (w_seq (wR ?_)))
  refine lY (yM rfl) rfl ?_
  apply lL (by kernel_rfl) rfl
  apply ld_call (ct_Store hE) rfl (hE.f (by kernel_rfl))
  · ((repeat constructor); done)
  rintro _ _ ⟨rfl, rfl⟩
  simp only [List.cons_append, List.nil_append]
  refine lY (yM rfl) rfl ?_
  refine lY (yM rfl) rfl ?_
  apply lL (by kernel_rfl) rfl
  apply ld_call (ct_At hE hj2 hy) rfl (hE.f (by kernel_rfl))
  · ((repeat constructor); done)
  rintro _ _ ⟨rfl, rfl⟩
  simp only [List.cons_append, List.nil_append]
  refine lY (yM rfl) rfl ?_
  refine lY (y_extract rfl rfl) rfl ?_
  refine lY (y_extract rfl rfl) rfl ?_
  refine lY (yA rfl) rfl ?_
  refine lY (yA rfl) rfl ?_
  refine l_nil (aT (w_seq (wR ?_)))
  refine lY (yM rfl) rfl ?_
  refine lY (yM rfl) rfl ?_
  apply lL (by kernel_rfl) rfl
  apply ld_call (ct_cmp8 hE) rfl (hE.f (by kernel_rfl))
  · ((repeat constructor); done)
  rintro _ _ ⟨rfl, rfl⟩
  simp only [List.cons_append, List.nil_append]
  refine lY (yA rfl) rfl ?_
  refine l_nil (aT (w_ret ?_))
  apply a_ret
  · rfl
  · (apply Rs.tmp rfl; exact Rs.nil)
  · exact ⟨by rw [hcm]; rfl, rfl⟩
  · (apply ent; (repeat constructor); done)
theorem ct_Compare (hE : Seat E) (hB : Base E.w0) {i j : Nat} (hi : good (rls Es) i) (hj : good (rls Es) j) (hs : len (rls Es) i + len (rls Es) j < 8388608) :
    Ct E 35 [.pointer (some ⟨pp, 0, none⟩), .int .i64 (i : Nat), .int .i64 (j : Nat)] [cells pp [.pointer (some ⟨s, 0, none⟩), .pointer (some ⟨tb, 0, none⟩)] 59, tabP tb s (rls Es), storeP s most Es] (fun v Q => v = .tuple #[.int .i64 (cmpT (txt (rls Es) i) (txt (rls Es) j)), .nilIface] ∧ Q = [cells pp [.pointer (some ⟨s, 0, none⟩), .pointer (some ⟨tb, 0, none⟩)] 59, tabP tb s (rls Es), storeP s most Es]) := by
  refine fn_enter (hE.fn Tryz.func35) rfl rfl rfl (fun R => ?_)
  simp only [argsL, List.cons_append, List.nil_append]
  have hg : ∀ x ∈ [i, j], good (rls Es) x := by intro x hx; simp at hx; rcases hx with rfl | rfl <;> assumption
  refine w_seq (wR ?_)
  refine lY (yA rfl) rfl ?_
  refine lY (yA rfl) rfl ?_
  refine l_nil (aT (w_seq (w_seq (wR ?_))))
  refine lY (yM rfl) rfl ?_
  refine lY (yM rfl) rfl ?_
  refine lY (yM rfl) rfl ?_
  apply lL (by kernel_rfl) rfl
  refine ld_buildSlice (hE.t rfl) (hE.t rfl) rfl rfl rfl (fun b12 => ?_)
  apply lL (by kernel_rfl) rfl
  apply ld_call (ct_ocheck (ids := [i, j]) hE hB hg (fun _ => ⟨b12, 0, rfl, rd_cells (fun _ _ h => h)⟩) (by simp)) rfl (hE.f (by kernel_rfl))
  · ((repeat constructor); done)
  rintro _ _ ⟨rfl, rfl⟩
  simp only [List.cons_append, List.nil_append]
  refine lY (yA rfl) rfl ?_
  refine l_nil (aT (w_seq (wR ?_)))
  refine lY (yM rfl) rfl ?_
  apply lY
  · (first | exact y_ok_ne rfl (hE.t rfl) | exact y_err_ne rfl (hE.t rfl))
  · rfl
  refine l_nil (aT ?_)
  refine w_cond_f rfl ?_
  refine w_skip (aT (w_seq (wR ?_)))
  refine lY (yM rfl) rfl ?_
  refine lY (yM rfl) rfl ?_
  refine lY (yM rfl) rfl ?_
  apply lL (by kernel_rfl) rfl
  apply ld_call (ct_compare hE hB hi hj hs) rfl (hE.f (by kernel_rfl))
  · ((repeat constructor); done)
  rintro _ _ ⟨rfl, rfl⟩
  simp only [List.cons_append, List.nil_append]
  refine lY (yA rfl) rfl ?_
  refine lY (yA rfl) rfl ?_
  refine l_nil (aT (w_ret ?_))
  apply a_ret
  · rfl
  · (apply Rs.tmp rfl; apply Rs.tmp rfl; exact Rs.nil)
  · exact ⟨rfl, rfl⟩
  · (apply ent; (repeat constructor); done)
end Go.Proofs.YtekhbjlplfbdkaaGreatDoor
