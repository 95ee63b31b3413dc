import Derived.Test.YtlleicanafioaaaDoorQ12
set_option linter.all false
set_option maxHeartbeats 1000000
namespace Go.Proofs.YtlleicanafioaaaDoor
open Go Go.RowKit Sl Eg
theorem qRr {α : Type} {a b : List α} {x y : α} (h : a ++ [x] = b ++ [y]) : a = b ∧ x = y := by
 have := List.append_inj' h rfl
 simpa using this
theorem Lts.fn {L : List Rl} (hw : Wf L) {ids ids' : List Nat} {bs : List UInt8} (h : Lts L ids bs) (h' : Lts L ids' bs) : ids = ids' := by
 induction h generalizing ids' with
 | nil =>
  generalize e : ([] : List UInt8) = c at h'
  cases h' with
  | nil => rfl
  | snoc _ _ => simp at e
 | snoc h1 h2 ih =>
  generalize e : (_ ++ [_] : List UInt8) = c at h'
  cases h' with
  | nil => simp at e
  | snoc g1 g2 =>
   obtain ⟨rfl, rfl⟩ := qRr e
   rw [ih g1, hw.nodup _ _ _ h2 g2]
theorem RunId.fn {L : List Rl} (hw : Wf L) {x t i j : Nat} (h : RunId L x t i) (h' : RunId L x t j) : i = j := by
 rcases h with ⟨h1, h2⟩ | ⟨h1, a, rfl, h2⟩ <;> rcases h' with ⟨g1, g2⟩ | ⟨g1, b, rfl, g2⟩
 ·rw [h2, g2]
 ·omega
 ·omega
 rw [hw.nodup _ _ _ h2 g2]
theorem Rns.fn {L : List Rl} (hw : Wf L) {rs : List (Nat × Nat)} {out out' : List Nat} (h : Rns L rs out) (h' : Rns L rs out') : out = out' := by
 induction h generalizing out' with
 | nil =>
  generalize e : ([] : List (Nat × Nat)) = c at h'
  cases h' with
  | nil => rfl
  | snoc _ _ => simp at e
 | snoc h1 h2 ih =>
  generalize e : (_ ++ [_] : List (Nat × Nat)) = c at h'
  cases h' with
  | nil => simp at e
  | snoc g1 g2 =>
   obtain ⟨rfl, e2⟩ := qRr e
   cases e2
   rw [ih g1, h2.fn hw g2]
theorem Prs.fn {L : List Rl} (hw : Wf L) {ids js out out' : List Nat} {a a' : Nat} (h : Prs L ids js a out) (h' : Prs L ids js a' out') : a = a' ∧ out = out' := by
 induction h generalizing a' out' with
 | nil =>
  generalize e : ([] : List Nat) = c at h'
  cases h' with
  | nil => exact ⟨rfl, rfl⟩
  | snoc _ _ _ _ _ => simp at e
 | snoc h1 h2 h3 h4 h5 ih =>
  generalize e : (_ ++ [_] : List Nat) = c at h'
  cases h' with
  | nil => simp at e
  | snoc g1 g2 g3 g4 g5 =>
   obtain ⟨rfl, rfl⟩ := qRr e
   obtain ⟨rfl, rfl⟩ := ih g1
   rw [h3] at g3
   rw [h4] at g4
   cases g3
   cases g4
   rw [hw.nodup _ _ _ h5 g5]
   exact ⟨rfl, rfl⟩
theorem Rch.pos {L : List Rl} {bs : List UInt8} {lv : Nat} {ids : List Nat} (h : Rch L bs lv ids) : 1 ≤ lv := by
 cases h <;> omega
theorem Rch.fn {L : List Rl} (hw : Wf L) {bs : List UInt8} {lv : Nat} {ids ids' : List Nat} (h : Rch L bs lv ids) (h' : Rch L bs lv ids') : ids = ids' := by
 induction h generalizing ids' with
 | start h =>
  generalize e : 1 = l at h'
  cases h' with
  | start g => exact h.fn hw g
  | odd g _ _ _ => have := g.pos; omega
  | even g _ _ _ _ => have := g.pos; omega
 | odd h h1 h2 h3 ih =>
  generalize e : _ + 1 = l at h'
  cases h' with
  | start g => have := h.pos; omega
  | odd g g1 g2 g3 =>
   have e1 := Nat.succ.inj e
   subst e1
   have e2 := ih g
   subst e2
   exact h3.fn hw g3
  | even g g1 _ _ _ => omega
 | even h h1 h2 h3 h4 ih =>
  generalize e : _ + 1 = l at h'
  cases h' with
  | start g => have := h.pos; omega
  | odd g g1 g2 g3 => omega
  | even g g1 g2 g3 g4 =>
   have e1 := Nat.succ.inj e
   subst e1
   have e2 := ih g
   subst e2
   obtain ⟨rfl, rfl⟩ := h4.fn hw g4
   rfl
theorem Rch.before {L : List Rl} {bs : List UInt8} {lv : Nat} {ids : List Nat} (h : Rch L bs lv ids) : ∀ k, 1 ≤ k → k < lv → ∃ r, Rch L bs k r ∧ 2 ≤ r.length := by
 induction h with
 | start h => intro k h1 h2; omega
 | odd h h1 h2 h3 ih =>
  intro k k1 k2
  rcases Nat.lt_or_ge k _ with e | e
  ·exact ih k k1 e
  obtain rfl := Nat.le_antisymm (Nat.le_of_lt_succ k2) e
  exact ⟨_, h, h2⟩
 | even h h1 h2 h3 h4 ih =>
  intro k k1 k2
  rcases Nat.lt_or_ge k _ with e | e
  ·exact ih k k1 e
  obtain rfl := Nat.le_antisymm (Nat.le_of_lt_succ k2) e
  exact ⟨_, h, h2⟩
theorem Rch.one {L : List Rl} (hw : Wf L) {bs : List UInt8} {lv lv' x y : Nat} (h : Rch L bs lv [x]) (h' : Rch L bs lv' [y]) : x = y := by
 rcases Nat.lt_trichotomy lv lv' with hl | hl | hl
 ·obtain ⟨r, hr, h2⟩ := h'.before lv h.pos hl
  rw [← h.fn hw hr] at h2
  simp at h2
 ·subst hl
  have := h.fn hw h'
  simpa using this
 obtain ⟨r, hr, h2⟩ := h.before lv' h'.pos hl
 rw [← h'.fn hw hr] at h2
 simp at h2
def Sg (L : List Rl) (bs : List UInt8) (id : Nat) : Prop := (bs = [] ∧ id = 0) ∨ ∃ lv, Rch L bs lv [id]
theorem Sg.ext {L : List Rl} (M : List Rl) {bs : List UInt8} {id : Nat} (h : Sg L bs id) : Sg (L ++ M) bs id := by
 rcases h with h | ⟨lv, h⟩
 ·exact .inl h
 exact .inr ⟨lv, h.ext M⟩
theorem Lts.nil_inv {L : List Rl} {ids : List Nat} (h : Lts L ids []) : ids = [] := by
 generalize e : ([] : List UInt8) = c at h
 cases h with
 | nil => rfl
 | snoc _ _ => simp at e
theorem Rch.nonempty {L : List Rl} {bs : List UInt8} {lv x : Nat} (h : Rch L bs lv [x]) : bs ≠ [] := by
 rintro rfl
 have key : ∀ {lv : Nat} {ids : List Nat}, Rch L [] lv ids → ids = [] ∧ lv = 1 := by
  intro lv ids h
  induction h with
  | start h => exact ⟨h.nil_inv, rfl⟩
  | odd h h1 h2 h3 ih => rw [ih.1] at h2; simp at h2
  | even h h1 h2 h3 h4 ih => rw [ih.1] at h2; simp at h2
 have := (key h).1
 simp at this
theorem Sg.fn {L : List Rl} (hw : Wf L) {bs : List UInt8} {x y : Nat} (h : Sg L bs x) (h' : Sg L bs y) : x = y := by
 rcases h with ⟨h1, h2⟩ | ⟨lv, h⟩ <;> rcases h' with ⟨g1, g2⟩ | ⟨lv', h'⟩
 ·rw [h2, g2]
 ·exact absurd h1 h'.nonempty
 ·exact absurd g1 h.nonempty
 exact h.one hw h'
end Go.Proofs.YtlleicanafioaaaDoor
