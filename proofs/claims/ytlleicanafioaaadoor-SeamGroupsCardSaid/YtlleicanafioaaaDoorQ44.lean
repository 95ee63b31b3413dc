import Derived.Test.YtlleicanafioaaaDoorQ43
set_option linter.all false
set_option maxHeartbeats 1000000
namespace Go.Proofs.YtlleicanafioaaaDoor
open Go Go.RowKit Sl Eg
section
theorem qIn {V : List Nat} {n x : Nat} (h0 : 0 < V.length) (h : x ∈ cyc V n) : x ∈ V := by
 obtain ⟨i, hi⟩ := List.getElem?_of_mem h
 have hin : i < n := by
  have := (List.getElem?_eq_some_iff.1 hi).1
  rwa [qAs] at this
 rw [qDp hin] at hi
 rw [← Option.some.inj hi]
 exact qWd h0 i
def tw (V : List Nat) : List Nat := if V.length % 2 = 0 then V else V ++ V
theorem tw_even (V : List Nat) : (tw V).length % 2 = 0 := by
 unfold tw
 split
 ·assumption
 rw [List.length_append]; omega
theorem tw_cyc (V : List Nat) (n : Nat) : cyc (tw V) n = cyc V n := by
 unfold tw
 split
 ·rfl
 exact zAo
theorem tw_mem {V : List Nat} {x : Nat} (h : x ∈ tw V) : x ∈ V := by
 unfold tw at h
 split at h
 ·exact h
 rcases List.mem_append.1 h with h | h <;> exact h
theorem tw_len (V : List Nat) : V.length ≤ (tw V).length ∧ (tw V).length ≤ 2 * V.length := by
 unfold tw
 split
 ·omega
 rw [List.length_append]; omega
theorem mid_tie {L : List Rl} (hw : Wf L) {lv a : Nat} (he : lv % 2 = 0) (hc : num lv = 122) {X U : List Nat} (h0 : 0 < U.length) (hk : ∀ w ∈ U, key L w = a) :
  ∃ r, r ≤ 1 ∧ ∀ (N : Nat) (Y O : List Nat), 3 * U.length + 3 ≤ N → Sq L lv (X ++ cyc U N ++ Y) O →
   ∃ X' U' N' Y' Z, MidStep L lv X U N Y O r X' U' N' Y' Z ∧ Sq L lv (tw (rot r U)) U' ∧ Z.length ≤ 1 ∧ (∀ y ∈ Z, y ∈ U) ∧ 2 * N' ≤ N ∧ (∀ y ∈ U', key L y = mix 2 a a) ∧ 2 * U'.length = (tw (rot r U)).length := by
 obtain ⟨r, hr, hf⟩ := qSa L a X.length X (Nat.le_refl _)
 refine ⟨r, hr, fun N Y O hN h => ?_⟩
 have hno : ¬ lv % 2 = 1 := by omega
 unfold Sq at h
 rw [if_neg hno, hc] at h
 rw [List.append_assoc] at h
 have hUm : ∀ w n, w ∈ cyc U n → key L w = a := fun w n hw' => hk w (qIn h0 hw')
 obtain ⟨X', O1, e1, h1, h2⟩ := hf (cyc U N ++ Y) O (fun w hw' => by
  have : (cyc U N ++ Y).head? = U.head? := by
   rw [List.head?_append, qMb (by omega) h0]
   cases U with
   | nil => simp at h0
   | cons y U => rfl
  rw [this] at hw'
  exact hk w (List.mem_of_mem_head? hw')) (fun e => by
  have := congrArg List.length e
  rw [List.length_append, qAs, List.length_nil] at this
  omega) h
 have hl := qAs U N
 rw [List.take_append_of_le_length (by omega), qWq (by omega)] at h1
 rw [List.drop_append_of_le_length (by omega)] at h2
 obtain ⟨V, hV⟩ : ∃ V, V = rot r U := ⟨_, rfl⟩
 have hfront := qGe (r := r) (N := N) (U := U) (by omega) (by omega) h0
 rw [← hV] at hfront
 have hVl : V.length = U.length := by rw [hV, qAj]
 have hd : (cyc U N).drop r = cyc V (N - r) := by
  rw [qGe (r := r) (by omega) (by omega) h0, hV, List.drop_left' (by rw [List.length_take]; omega)]
 rw [hd] at h2
 obtain ⟨n1, hn1⟩ : ∃ n1, n1 = N - r := ⟨_, rfl⟩
 rw [← hn1] at h2
 obtain ⟨z, hz⟩ : ∃ z, z = n1 % 2 := ⟨_, rfl⟩
 rw [qJg (V := V) (n := n1 - z) (N := n1) (by omega), List.append_assoc] at h2
 have hVk : ∀ w ∈ V, key L w = a := fun w hw' => hk w (by rw [hV] at hw'; exact qKx hw')
 obtain ⟨O2, O3, e2, h3, h4, _, _⟩ := qKf hw _ (Nat.le_refl _) (by rw [qAs]; omega) (fun w hw' => hVk w (qIn (by omega) hw')) h2
 rw [← tw_cyc] at h3
 have ht := tw_len V
 obtain ⟨V', h5, e3, l1, k1⟩ := cyc_tie hw (by omega) (tw_even V) (fun w hw' => hVk w (tw_mem hw')) (by omega) (by omega) h3
 have hZl : ((cyc V n1).drop (n1 - z)).length = z := by rw [List.length_drop, qAs]; omega
 refine ⟨X', V', (n1 - z) / 2, O3, (cyc V n1).drop (n1 - z), ⟨?_, ?_, ?_, ?_, ⟨by omega, by omega⟩, ⟨U.take r ++ cyc V (n1 - z), by rw [hfront, ← hn1, List.append_assoc, ← qJg (by omega)]⟩⟩, by rw [← hV]; unfold Sq; rw [if_neg hno, hc]; exact h5, by omega, fun y hy => ?_, by omega, k1, by rw [← hV]; exact l1⟩
 ·rw [e1, e2, e3, List.append_assoc]
 ·unfold Sq
  rw [if_neg hno, hc]
  exact h1
 ·unfold Sq
  rw [if_neg hno, hc]
  exact h4
 ·rw [hZl]
  omega
 have := qIn (V := V) (by omega) (List.mem_of_mem_drop hy)
 rw [hV] at this
 exact qKx this
end
section
theorem Sq.same {L : List Rl} {lv : Nat} {X O : List Nat} (h : Sq L lv X O) (hl : O.length = X.length) : O = X := by
 unfold Sq at h
 split at h
 ·induction h with
  | nil => rfl
  | @run x t id r o ht hid hne hr ih =>
   obtain ⟨V, hv, _⟩ := Sq.made (L := L) (lv := 1) (X := r) (O := o) (by unfold Sq; rw [if_pos (by omega)]; exact hr)
   simp only [List.length_cons, List.length_append, List.length_replicate] at hl
   rcases hid with ⟨rfl, rfl⟩ | ⟨h3, i, rfl, h4⟩
   ·rw [ih (by omega)]
    rfl
   omega
 induction h with
 | nil => rfl
 | @one x r o hn hr ih =>
  simp only [List.length_cons] at hl
  rw [ih (by omega)]
 | @two x y j r o hf hj hr ih =>
  obtain ⟨V, hv, _⟩ := Sq.made (L := L) (lv := lv) (X := r) (O := o) (by unfold Sq; rename_i ho; rw [if_neg ho]; exact hr)
  simp only [List.length_cons] at hl
  omega
theorem qYp {L : List Rl} {lv N : Nat} {X U Y : List Nat} {u0 u : Nat} (hi : Inv L lv (X ++ cyc U N ++ Y)) (hN : 0 < N) (hu0 : U.head? = some u0) (hu : X.getLast? = some u) (e : u = u0) : lvl L u0 = lv - 1 := by
 have h0 : 0 < U.length := by cases U with | nil => simp at hu0 | cons y U => simp
 have hXl : 0 < X.length := by cases X with | nil => simp at hu | cons y X => simp
 refine (hi.same (X.length - 1) u0 ?_ ?_).2
 ·rw [List.append_assoc, List.getElem?_append_left (by omega), ← List.getLast?_eq_getElem?, hu, e]
 rw [List.append_assoc, show X.length - 1 + 1 = X.length by omega, List.getElem?_append_right (Nat.le_refl _), Nat.sub_self, ← List.head?_eq_getElem?, List.head?_append, qMb hN h0, hu0]
 rfl
theorem fresh_in {L : List Rl} {lv N i : Nat} {X U Y : List Nat} (hi : Inv L lv (X ++ cyc U N ++ Y)) (hN : i + 1 < N) (e : at_ U i = at_ U (i + 1)) : lvl L (at_ U i) = lv - 1 := by
 have g : ∀ j, j < N → (X ++ cyc U N ++ Y)[X.length + j]? = some (at_ U j) := fun j hj => by
  rw [List.append_assoc, List.getElem?_append_right (by omega), Nat.add_sub_cancel_left, List.getElem?_append_left (by rw [qAs]; exact hj), qDp hj]
  rfl
 exact (hi.same (X.length + i) _ (g i (by omega)) (by rw [Nat.add_assoc, g (i + 1) hN, e])).2
theorem qVa {L : List Rl} {lv N : Nat} {X U Y : List Nat} {v : Nat} (hi : Inv L lv (X ++ cyc U N ++ Y)) (hN : 0 < N) (hv : Y.head? = some v) (e : v = at_ U (N - 1)) : lvl L v = lv - 1 := by
 refine (hi.same (X.length + (N - 1)) v ?_ ?_).2
 ·rw [List.append_assoc, List.getElem?_append_right (by omega), Nat.add_sub_cancel_left, List.getElem?_append_left (by rw [qAs]; omega), qDp (by omega), e]
  rfl
 rw [List.getElem?_append_right (by rw [List.length_append, qAs]; omega), List.length_append, qAs, show X.length + (N - 1) + 1 - (X.length + N) = 0 by omega, ← List.head?_eq_getElem?, hv]
end
section
theorem hi_rot (L : List Rl) (k r : Nat) (U : List Nat) : hi L k (rot r U) = hi L k U := by
 unfold rot
 rw [qJq, Nat.add_comm, ← qJq, List.take_append_drop]
theorem hi_pos {L : List Rl} {k x : Nat} (X : List Nat) (h : (k : Int) < lvl L x) : hi L k (x :: X) = hi L k X + 1 := by
 unfold hi
 rw [List.countP_cons, if_pos (by simpa using h)]
theorem hi_neg {L : List Rl} {k x : Nat} (X : List Nat) (h : ¬ (k : Int) < lvl L x) : hi L k (x :: X) = hi L k X := by
 unfold hi
 rw [List.countP_cons, if_neg (by simpa using h)]
 rfl
theorem zBa {L : List Rl} {k : Nat} : ∀ (B : List Nat), (∀ i y z, B[i]? = some y → B[i + 1]? = some z → (k : Int) < lvl L y ∨ (k : Int) < lvl L z) →
  B.length ≤ 2 * hi L k B + 1 ∧ ((∀ y, B.head? = some y → (k : Int) < lvl L y) → B.length ≤ 2 * hi L k B)
 | [], _ => by simp
 | y :: B, ha => by
  obtain ⟨i1, i2⟩ := zBa B (fun i u v h1 h2 => ha (i + 1) u v (by simpa using h1) (by simpa using h2))
  rw [List.length_cons]
  by_cases hl : (k : Int) < lvl L y
  ·rw [hi_pos B hl]
   exact ⟨by omega, fun _ => by omega⟩
  rw [hi_neg B hl]
  have h2 := i2 (fun z hz => by
   rcases ha 0 y z rfl (by cases B with | nil => simp at hz | cons c B => simpa using hz) with h3 | h3
   ·exact absurd h3 hl
   exact h3)
  exact ⟨by omega, fun hh => absurd (hh y rfl) hl⟩
theorem cyc_half {L : List Rl} {k : Nat} {U : List Nat} (h0 : 0 < U.length) (h : ∀ i, (k : Int) < lvl L (at_ U i) ∨ (k : Int) < lvl L (at_ U (i + 1))) : U.length ≤ 2 * hi L k U := by
 have g : ∀ V : List Nat, V.length = U.length → (∀ i, (k : Int) < lvl L (at_ V i) ∨ (k : Int) < lvl L (at_ V (i + 1))) → (k : Int) < lvl L (at_ V 0) → V.length ≤ 2 * hi L k V := fun V hl hv hh => by
  refine (zBa V fun i y z h1 h2 => ?_).2 fun y hy => ?_
  ·have e1 := (List.getElem?_eq_some_iff.1 h1).1
   have e2 := (List.getElem?_eq_some_iff.1 h2).1
   rw [qDm e1] at h1
   rw [qDm e2] at h2
   rw [← Option.some.inj h1, ← Option.some.inj h2]
   exact hv i
  rw [List.head?_eq_getElem?, qDm (by omega)] at hy
  rw [← Option.some.inj hy]
  exact hh
 by_cases hh : (k : Int) < lvl L (at_ U 0)
 ·exact g U rfl h hh
 have h1 : (k : Int) < lvl L (at_ U 1) := by
  rcases h 0 with h2 | h2
  ·exact absurd h2 hh
  exact h2
 have := g (rot 1 U) qAj (fun i => by
  rw [qFe (by omega) h0, qFe (by omega) h0, show i + 1 + 1 = (i + 1) + 1 from rfl]
  exact h _) (by
  rw [qFe (by omega) h0]
  exact h1)
 rw [qAj, hi_rot] at this
 exact this
theorem inv_new {L : List Rl} (hw : Wf L) {k : Nat} {B : List Nat} (hi : Inv L (k + 247) B) {i y z : Nat} (h1 : B[i]? = some y) (h2 : B[i + 1]? = some z) : (k : Int) < lvl L y ∨ (k : Int) < lvl L z := by
 by_cases e : y = z
 ·subst e
  have := (hi.same i y h1 h2).2
  left
  omega
 have h4 := hi.diff i y z h1 h2 e
 have h5 := qWc (low := max (lvl L y).toNat (lvl L z).toNat) (qCg hw y) (qCg hw z)
 unfold aft at h4
 omega
theorem cyc_new {L : List Rl} (hw : Wf L) {k N : Nat} {X U Y : List Nat} (hi : Inv L (k + 247) (X ++ cyc U N ++ Y)) (h0 : 0 < U.length) (hN : U.length + 1 ≤ N) : U.length ≤ 2 * Go.Proofs.YtlleicanafioaaaDoor.hi L k U := by
 refine cyc_half h0 fun i => ?_
 have g : ∀ j, j < N → (X ++ cyc U N ++ Y)[X.length + j]? = some (at_ U j) := fun j hj => by
  rw [List.append_assoc, List.getElem?_append_right (by omega), Nat.add_sub_cancel_left, List.getElem?_append_left (by rw [qAs]; exact hj), qDp hj]
  rfl
 have hm := Nat.mod_lt i h0
 have e1 : at_ U i = at_ U (i % U.length) := by unfold at_; rw [Nat.mod_mod]
 have e2 : at_ U (i + 1) = at_ U (i % U.length + 1) := by unfold at_; rw [Nat.mod_add_mod]
 rw [e1, e2]
 exact inv_new hw hi (g (i % U.length) (by omega)) (by rw [Nat.add_assoc]; exact g (i % U.length + 1) (by omega))
theorem qVb {L : List Rl} {k : Nat} {X : List Nat} (h : ∀ x ∈ X, lvl L x ≤ (k : Nat)) : hi L k X = 0 := by
 unfold hi
 rw [List.countP_eq_zero]
 intro x hx
 have := h x hx
 simp
 omega
end
section
theorem Rg.plain {L : List Rl} {A O : List Nat} (h : Rg L A O) : (∀ i y, A[i]? = some y → A[i + 1]? = some y → False) → O = A := by
 induction h with
 | nil => exact fun _ => rfl
 | @run x t id r o ht hid hne hr ih =>
  intro hn
  have e : t = 1 := by
   rcases Nat.lt_or_ge t 2 with h1 | h1
   ·omega
   exfalso
   obtain ⟨m, rfl⟩ : ∃ m, t = m + 2 := ⟨t - 2, by omega⟩
   exact hn 0 x (by simp [List.replicate_succ]) (by simp [List.replicate_succ])
  subst e
  have h1 := ih fun i y h1 h2 => hn (i + 1) y (by simpa [List.replicate_succ] using h1) (by simpa [List.replicate_succ] using h2)
  rcases hid with ⟨_, rfl⟩ | ⟨h3, _⟩
  ·rw [h1]; rfl
  omega
theorem Pg.len_le {L : List Rl} {c : Nat} {X O : List Nat} (h : Pg L c X O) : O.length ≤ X.length := by
 induction h with
 | nil => exact Nat.le_refl _
 | one hn hr ih => simp only [List.length_cons]; omega
 | two hf hj hr ih => simp only [List.length_cons]; omega
theorem Pg.nofit {L : List Rl} {c : Nat} {V O : List Nat} (h : Pg L c V O) : O.length = V.length → ∀ i x y, V[i]? = some x → V[i + 1]? = some y → ¬ qAd c (key L x) (key L y) := by
 induction h with
 | nil => intro _ i x y h1; simp at h1
 | @one x r o hn hr ih =>
  intro hl i u v h1 h2
  simp only [List.length_cons] at hl
  cases i with
  | zero =>
   simp at h1
   subst h1
   refine hn v ?_
   cases r with
   | nil => simp at h2
   | cons y r => simpa using h2
  | succ i => exact ih (by omega) i u v (by simpa using h1) (by simpa using h2)
 | @two x y j r o hf hj hr ih =>
  intro hl
  exfalso
  have := hr.len_le
  simp only [List.length_cons] at hl
  omega
theorem qXi (U : List Nat) : rot 0 U = U := by unfold rot; rw [List.drop_zero, List.take_zero, List.append_nil]
theorem at_mod (U : List Nat) (i : Nat) : at_ U (i % U.length) = at_ U i := by unfold at_; rw [Nat.mod_mod]
theorem qZm (U : List Nat) (i : Nat) : at_ U (i % U.length + 1) = at_ U (i + 1) := by unfold at_; rw [Nat.mod_add_mod]
theorem qMm (U : List Nat) (i : Nat) : at_ U (U.length + i) = at_ U i := by unfold at_; rw [Nat.add_mod_left]
theorem qMn {U : List Nat} {u : Nat} (h : U.head? = some u) : at_ U 0 = u := by
 cases U with
 | nil => simp at h
 | cons y U =>
  simp at h
  subst h
  unfold at_
  rw [Nat.zero_mod]
  rfl
theorem at_last {U : List Nat} {u : Nat} (h : U.getLast? = some u) : at_ U (U.length - 1) = u := by
 have h0 : 0 < U.length := by cases U with | nil => simp at h | cons y U => simp
 rw [List.getLast?_eq_getElem?, qDm (by omega)] at h
 exact Option.some.inj h
theorem zCk {L : List Rl} {lv N : Nat} (ho : lv % 2 = 1) {X U Y : List Nat} (hi : Inv L lv (X ++ cyc U N ++ Y)) (h0 : 0 < U.length) (hN : U.length + 1 ≤ N) (hf : ∀ x ∈ U, lvl L x ≠ lv - 1) : (∀ i, at_ U i ≠ at_ U (i + 1)) ∧ ∀ O, Sq L lv U O → O = U := by
 have h1 : ∀ i, at_ U i ≠ at_ U (i + 1) := fun i e => by
  have hm := Nat.mod_lt i h0
  refine hf _ (qWd h0 (i % U.length)) (fresh_in hi (i := i % U.length) (by omega) ?_)
  rw [at_mod, qZm]
  exact e
 refine ⟨h1, fun O hO => ?_⟩
 unfold Sq at hO
 rw [if_pos ho] at hO
 refine hO.plain fun i y g1 g2 => ?_
 have l1 := (List.getElem?_eq_some_iff.1 g1).1
 have l2 := (List.getElem?_eq_some_iff.1 g2).1
 rw [qDm l1] at g1
 rw [qDm l2] at g2
 exact h1 i (by rw [Option.some.inj g1, Option.some.inj g2])
theorem step_run {L : List Rl} (hw : Wf L) {lv N : Nat} (ho : lv % 2 = 1) {X U Y O : List Nat} {u0 : Nat} (hi : Inv L lv (X ++ cyc U N ++ Y)) (hu0 : U.head? = some u0) (hd : ∃ y ∈ U, y ≠ u0) (hN : 3 * U.length + 3 ≤ N) (h : Sq L lv (X ++ cyc U N ++ Y) O) :
  ∃ r X' U' N' Y' Z, MidStep L lv X U N Y O r X' U' N' Y' Z ∧ r ≤ U.length ∧ Sq L lv (rot r U) U' ∧ N' / U'.length ≤ N / U.length ∧ (∀ y ∈ Z, y ∈ U) ∧
   r + 2 * U'.length ≤ 2 * U.length + 2 ∧ Z.length + 2 * U'.length ≤ 2 * U.length + 2 ∧ ((∀ x ∈ U, lvl L x ≠ lv - 1) → r = 0 ∧ Z = [] ∧ U' = U ∧ N' = N) := by
 obtain ⟨r, hr1, hr2, hr3, hf⟩ := zBn hw (.inl ⟨ho, rfl⟩) (X := X) hu0 hd
 obtain ⟨X', U', N', Y', Z, g1, g2, g3, g4, g5, g6, g7, g8⟩ := hf N Y O hN h
 refine ⟨r, X', U', N', Y', Z, g1, by omega, g2, g3, g7, g5, g6, fun hno => ?_⟩
 have h0 : 0 < U.length := by omega
 obtain ⟨q1, q2⟩ := zCk ho hi h0 (by omega) hno
 obtain ⟨k1, k2, k3⟩ := g8 q1
 have hz : Z.length = 0 := by
  rcases Nat.eq_zero_or_pos Z.length with e | e
  ·exact e
  exfalso
  obtain ⟨v, hv, e2⟩ := k3 (by omega)
  have e3 : v = at_ U (N - 1) := e2
  refine hno v (by rw [e3]; exact qWd h0 _) (qVa hi (by omega) hv e3)
 have hr0 : r = 0 := by
  rcases Nat.eq_zero_or_pos r with e | e
  ·exact e
  exfalso
  rcases hr2 with e1 | ⟨_, ⟨u, hu, e2⟩ | ⟨u, hu, e2⟩⟩
  ·omega
  ·have e3 : u = u0 := e2
   refine q1 (U.length - 1) ?_
   rw [at_last hu, show U.length - 1 + 1 = U.length + 0 by omega, qMm, qMn hu0, e3]
  have e3 : u = u0 := e2
  exact hno u0 (List.mem_of_mem_head? hu0) (qYp hi (by omega) hu0 hu e3)
 subst hr0
 rw [qXi] at g2
 have e := q2 _ g2
 have := g4 (by rw [e])
 exact ⟨rfl, List.length_eq_zero_iff.1 hz, e, by omega⟩
def ef (L : List Rl) (b : Nat) (U : List Nat) (N : Nat) : Nat := (if bt (key L (at_ U (U.length - 1))) b = 1 then 0 else 1) + (if bt (key L (at_ U N)) b = 0 then 0 else 1)
theorem ef_le (L : List Rl) (b : Nat) (U : List Nat) (N : Nat) : ef L b U N ≤ 2 := by unfold ef; split <;> split <;> omega
theorem qUh {L : List Rl} {c x : Nat} (h : side L c x = 0) : bt (key L x) (c / 2) = c % 2 := by
 unfold side at h
 split at h
 ·assumption
 omega
theorem qXn {L : List Rl} {c x : Nat} (h : side L c x = 1) : bt (key L x) (c / 2) = 1 - c % 2 := by
 unfold side at h
 have := qQa (key L x) (c / 2)
 split at h
 ·omega
 omega
theorem zCp {L : List Rl} (hw : Wf L) {lv N : Nat} (he : lv % 2 = 0) (hc : num lv ≠ 122) {X U Y O : List Nat} {u0 : Nat} (hu0 : U.head? = some u0) (h2 : 2 ≤ U.length) (hN : 3 * U.length + 3 ≤ N) (h : Sq L lv (X ++ cyc U N ++ Y) O) :
  ∃ r X' U' N' Y' Z, MidStep L lv X U N Y O r X' U' N' Y' Z ∧ r ≤ U.length ∧ Sq L lv (rot r U) U' ∧ N' / U'.length ≤ N / U.length ∧ (∀ y ∈ Z, y ∈ U) ∧ r + Z.length ≤ 2 ∧ U'.length ≤ U.length ∧ (U'.length = U.length → U' = rot r U) ∧
   (∀ b, num lv = 2 * b → U'.length = U.length → r + Z.length + ef L b U' N' ≤ 2) ∧ (∀ b, num lv = 2 * b + 1 → U'.length = U.length → r + Z.length ≤ ef L b U N) := by
 obtain ⟨X', U', N', Y', Z, g1, g2, g3, g4, w, hwU, hwe, hZ⟩ := mid_pair hw he hc hu0 h2 (by omega) h
 have hr1 := qVp L (num lv) u0
 obtain ⟨r, hr⟩ : ∃ r, r = side L (num lv) u0 := ⟨_, rfl⟩
 rw [← hr] at g1 g2 g4 hwe hr1
 have h0 : 0 < U.length := by omega
 have hw1 : w = at_ U (N - 1) := by
  rw [hwe]
  show at_ (rot r U) (N - r - 1) = _
  rw [qFe (by omega) h0]
  congr 1
  omega
 have hZl : Z.length ≤ 1 := by
  rw [hZ]
  split <;> simp
 obtain ⟨M, hM, _⟩ := g2.made
 rw [qAj] at hM
 have hsame : U'.length = U.length → U' = rot r U := fun e => g2.same (by rw [qAj]; exact e)
 refine ⟨r, X', U', N', Y', Z, g1, by omega, g2, g3, fun y hy => ?_, by omega, by omega, hsame, fun b hb hk => ?_, fun b hb hk => ?_⟩
 ·rw [hZ] at hy
  split at hy
  ·rw [List.mem_singleton.1 hy]; exact hwU
  simp at hy
 ·have e1 := hsame hk
  have e2 := g4 hk
  have hb2 : num lv / 2 = b ∧ num lv % 2 = 0 := by omega
  have p1 : r + (if bt (key L (at_ U' (U'.length - 1))) b = 1 then 0 else 1) ≤ 1 := by
   rcases Nat.lt_or_ge r 1 with q | q
   ·split <;> omega
   have q1 : r = 1 := by omega
   have : at_ U' (U'.length - 1) = u0 := by
    rw [hk, e1, q1, qFe (by omega) h0, show U.length - 1 + 1 = U.length + 0 by omega, qMm, qMn hu0]
   rw [this, if_pos]
   ·omega
   have := qXn (L := L) (c := num lv) (x := u0) (by omega)
   rw [hb2.1, hb2.2] at this
   exact this
  have p2 : Z.length + (if bt (key L (at_ U' N')) b = 0 then 0 else 1) ≤ 1 := by
   by_cases q : side L (num lv) w = 0
   ·rw [if_pos q] at hZ
    have ez : Z.length = 1 := by rw [hZ]; rfl
    have : at_ U' N' = w := by
     rw [e1, qFe (by omega) h0, hw1]
     congr 1
     omega
    rw [this, if_pos]
    ·omega
    have := qUh q
    rw [hb2.1, hb2.2] at this
    exact this
   rw [if_neg q] at hZ
   have ez : Z.length = 0 := by rw [hZ]; rfl
   split <;> omega
  unfold ef
  omega
 have hb2 : num lv / 2 = b ∧ num lv % 2 = 1 := by omega
 have hno : ¬ lv % 2 = 1 := by omega
 have hfit : ∀ x y, bt (key L x) b = 1 → bt (key L y) b = 0 → qAd (num lv) (key L x) (key L y) := fun x y q1 q2 => by
  unfold qAd
  rw [if_neg hc, hb2.1, hb2.2]
  exact ⟨q1, q2⟩
 have g2' := g2
 unfold Sq at g2'
 rw [if_neg hno] at g2'
 have hnf := g2'.nofit (by rw [qAj]; exact hk)
 have p1 : r ≤ (if bt (key L (at_ U (U.length - 1))) b = 1 then 0 else 1) := by
  split
  ·rename_i q1
   rcases Nat.lt_or_ge r 1 with q | q
   ·omega
   exfalso
   have q2 : r = 1 := by omega
   have q3 := qXn (L := L) (c := num lv) (x := u0) (by omega)
   rw [hb2.1, hb2.2] at q3
   refine hnf (U.length - 2) (at_ U (U.length - 1)) u0 ?_ ?_ (hfit _ _ q1 q3)
   ·rw [qDm (by rw [qAj]; omega), qFe (by omega) h0, q2, show U.length - 2 + 1 = U.length - 1 by omega]
   rw [qDm (by rw [qAj]; omega), qFe (by omega) h0, q2, show U.length - 2 + 1 + 1 = U.length + 0 by omega, qMm, qMn hu0]
  omega
 have p2 : Z.length ≤ (if bt (key L (at_ U N)) b = 0 then 0 else 1) := by
  split
  ·rename_i q1
   by_cases q : side L (num lv) w = 0
   ·exfalso
    have q3 := qUh q
    rw [hb2.1, hb2.2] at q3
    have hff := hfit _ _ q3 q1
    have hj : (N - r - 1) % U.length < U.length := Nat.mod_lt _ h0
    have ew : at_ (rot r U) ((N - r - 1) % U.length) = w := by
     have := at_mod (rot r U) (N - r - 1)
     rw [qAj] at this
     rw [this, qFe (by omega) h0, hw1]
     congr 1
     omega
    have en : at_ (rot r U) ((N - r - 1) % U.length + 1) = at_ U N := by
     have := qZm (rot r U) (N - r - 1)
     rw [qAj] at this
     rw [this, qFe (by omega) h0]
     congr 1
     omega
    rcases Nat.lt_or_ge ((N - r - 1) % U.length + 1) U.length with q4 | q4
    ·refine hnf ((N - r - 1) % U.length) w (at_ U N) ?_ ?_ hff
     ·rw [qDm (by rw [qAj]; omega), ew]
     rw [qDm (by rw [qAj]; omega), en]
    obtain ⟨f1, f2⟩ := qMz hc hff
    have e5 : (N - r - 1) % U.length + 1 = U.length + 0 := by omega
    rcases Nat.lt_or_ge r 1 with q5 | q5
    ·have q6 : r = 0 := by omega
     rw [e5, q6, qXi, qMm, qMn hu0] at en
     rw [← en] at f2
     omega
    have q6 : r = 1 := by omega
    rw [show (N - r - 1) % U.length = U.length - 1 by omega, qFe (by omega) h0, q6, show U.length - 1 + 1 = U.length + 0 by omega, qMm, qMn hu0] at ew
    rw [← ew] at f1
    omega
   rw [if_neg q] at hZ
   rw [hZ]
   exact Nat.le_refl _
  omega
 unfold ef
 omega
end
section
def lgp (p : Nat) : Nat := if p ≤ 1 then 0 else if p ≤ 2 then 1 else if p ≤ 4 then 2 else if p ≤ 7 then 3 else if p ≤ 11 then 4 else if p ≤ 17 then 5 else if p ≤ 26 then 6 else if p ≤ 40 then 7 else 8
theorem zBk : ∀ b, b < 61 → ∀ a, a < 61 → (a ≤ b → lgp a ≤ lgp b) ∧ (1 ≤ a → 3 * a ≤ 2 * b → lgp a + 1 ≤ lgp b) := by decide +kernel
theorem lgp_mono {a b : Nat} (h : a ≤ b) (hb : b ≤ 60) : lgp a ≤ lgp b := (zBk b (by omega) a (by omega)).1 h
theorem qXa {a b : Nat} (h1 : 1 ≤ a) (h : 3 * a ≤ 2 * b) (hb : b ≤ 60) : lgp a + 1 ≤ lgp b := (zBk b (by omega) a (by omega)).2 h1 h
theorem lgp_le (p : Nat) : lgp p ≤ 8 := by
 unfold lgp
 repeat' split
 all_goals omega
theorem qHz {a b : Nat} (h : a ≤ b) : Nat.log2 a ≤ Nat.log2 b := by
 rcases Nat.eq_zero_or_pos a with h1 | h1
 ·subst h1; simp
 exact (Nat.le_log2 (by omega)).2 (Nat.le_trans (Nat.log2_self_le (by omega)) h)
theorem log_half {a b : Nat} (hb : 2 ≤ b) (h : a ≤ b / 2) : Nat.log2 a + 1 ≤ Nat.log2 b := by
 have h1 := qHz h
 have h2 : Nat.log2 b = Nat.log2 (b / 2) + 1 := by
  rw [Nat.log2_def, if_pos hb]
 omega
def rstU (x : Nat) : Nat := 2 * (61 - (x + 2) / 4)
def frsU (L : List Rl) (lv : Nat) (U : List Nat) : Nat := if lv % 2 = 1 ∧ (U.any fun x => decide (lvl L x = lv - 1)) = true then 6 else 0
def efs (L : List Rl) (lv : Nat) (U : List Nat) (N : Nat) : Nat := if 2 ≤ (lv - 1) % 246 % 4 then ef L ((lv - 1) % 246 / 4) U N else 0
def potU (L : List Rl) (lv : Nat) (U : List Nat) (N p0 : Nat) : Nat := 128 * lgp p0 + 190 * Nat.log2 (N / U.length) + rstU ((lv - 1) % 246) + efs L lv U N + frsU L lv U + 9 * U.length + 183
theorem qQp (L : List Rl) (lv : Nat) (U : List Nat) : frsU L lv U ≤ 6 := by unfold frsU; split <;> omega
theorem qFu {L : List Rl} {lv : Nat} {U : List Nat} (h : lv % 2 = 0 ∨ ∀ x ∈ U, lvl L x ≠ lv - 1) : frsU L lv U = 0 := by
 unfold frsU
 rw [if_neg]
 rintro ⟨h1, h2⟩
 rcases h with h | h
 ·omega
 rw [List.any_eq_true] at h2
 obtain ⟨x, hx, h3⟩ := h2
 exact h x hx (of_decide_eq_true h3)
theorem zAz {L : List Rl} {lv : Nat} {U : List Nat} (ho : lv % 2 = 1) (h : frsU L lv U ≠ 6) : ∀ x ∈ U, lvl L x ≠ lv - 1 := fun x hx e => by
 unfold frsU at h
 rw [if_pos] at h
 ·exact h rfl
 exact ⟨ho, List.any_eq_true.2 ⟨x, hx, decide_eq_true e⟩⟩
theorem efs_le (L : List Rl) (lv : Nat) (U : List Nat) (N : Nat) : efs L lv U N ≤ 2 := by
 unfold efs
 split
 ·exact ef_le ..
 omega
structure MOk (L : List Rl) (lv : Nat) (U : List Nat) (p0 : Nat) : Prop where
 pos : 0 < U.length
 blk : hi L (246 * ((lv - 1) / 246)) U + U.length ≤ p0
 p60 : p0 ≤ 60
theorem qQj {U : List Nat} {N x : Nat} (hN : U.length ≤ N) (hx : x ∈ U) : x ∈ cyc U N := by
 obtain ⟨i, hi⟩ := List.getElem?_of_mem hx
 have hl := (List.getElem?_eq_some_iff.1 hi).1
 refine List.mem_of_getElem? (i := i) ?_
 rw [qDp (by omega), Nat.mod_eq_of_lt hl, List.getD_eq_getElem?_getD, hi]
 rfl
structure StepOk (L : List Rl) (lv : Nat) (X U : List Nat) (N p0 : Nat) (Y O : List Nat) (r : Nat) (X' U' : List Nat) (N' p' : Nat) (Y' Z V : List Nat) : Prop where
 mid : MidStep L lv X U N Y O r X' U' N' Y' Z
 zed : ∀ y ∈ Z, y ∈ U
 new : ∀ x ∈ U', x ∈ U ∨ x ∈ V
 ok : MOk L (lv + 1) U' p'
 pay : V.length + r + Z.length + potU L (lv + 1) U' N' p' ≤ potU L lv U N p0
theorem zBr {L : List Rl} {lv r : Nat} {U U' : List Nat} (h : Sq L lv (rot r U) U') : ∃ V : List Nat, V.length + U'.length ≤ U.length ∧ ∀ x ∈ U', x ∈ U ∨ x ∈ V := by
 obtain ⟨V, h1, h2⟩ := h.made
 rw [qAj] at h1
 exact ⟨V, h1, fun x hx => (h2 x hx).imp qKx id⟩
theorem qZp {L : List Rl} {lv k r : Nat} {U U' : List Nat} (h : Sq L lv (rot r U) U') : hi L k U' + U'.length ≤ hi L k U + U.length := by
 have := h.hi (k := k)
 rwa [hi_rot, qAj] at this
theorem num_x {lv : Nat} (he : lv % 2 = 0) (h1 : 1 ≤ lv) : num lv = (lv - 1) % 246 / 2 := by unfold num; omega
theorem go_run {L : List Rl} (hw : Wf L) {lv N p0 : Nat} (ho : lv % 2 = 1) {X U Y O : List Nat} {u0 : Nat} (hm : MOk L lv U p0) (hi : Inv L lv (X ++ cyc U N ++ Y)) (hu0 : U.head? = some u0) (hd : ∃ y ∈ U, y ≠ u0) (hN : 3 * U.length + 3 ≤ N) (h : Sq L lv (X ++ cyc U N ++ Y) O) :
  ∃ r X' U' N' p' Y' Z V, StepOk L lv X U N p0 Y O r X' U' N' p' Y' Z V := by
 obtain ⟨r, X', U', N', Y', Z, g1, g2, g3, g4, g5, g6, g7, g8⟩ := step_run hw ho hi hu0 hd hN h
 obtain ⟨V, hV, hnew⟩ := zBr g3
 refine ⟨r, X', U', N', p0, Y', Z, V, g1, g5, hnew, ⟨g1.many.1, ?_, hm.p60⟩, ?_⟩
 ·have := qZp (k := 246 * ((lv + 1 - 1) / 246)) g3
  have h2 := hm.blk
  rw [show (lv + 1 - 1) / 246 = (lv - 1) / 246 by omega] at this ⊢
  omega
 have l1 := qHz g4
 have f1 : frsU L (lv + 1) U' = 0 := qFu (.inl (by omega))
 have x1 : (lv + 1 - 1) % 246 = (lv - 1) % 246 + 1 := by omega
 have x2 : rstU ((lv + 1 - 1) % 246) = rstU ((lv - 1) % 246) := by unfold rstU; omega
 have e1 := efs_le L (lv + 1) U' N'
 by_cases hf : frsU L lv U = 6
 ·unfold potU
  rw [f1, x2, hf]
  omega
 obtain ⟨k1, k2, k3, k4⟩ := g8 (zAz ho hf)
 subst k1 k2 k3 k4
 have e2 : efs L (lv + 1) U' N' = efs L lv U' N' := by
  unfold efs
  rw [x1]
  by_cases q : 2 ≤ (lv - 1) % 246 % 4
  ·rw [if_pos q, if_pos (by omega), show ((lv - 1) % 246 + 1) / 4 = (lv - 1) % 246 / 4 by omega]
  rw [if_neg q, if_neg (by omega)]
 unfold potU
 rw [f1, x2, e2]
 simp only [List.length_nil]
 omega
theorem go_pair {L : List Rl} (hw : Wf L) {lv N p0 : Nat} (he : lv % 2 = 0) (h1 : 1 ≤ lv) (hx : (lv - 1) % 246 ≠ 245) {X U Y O : List Nat} {u0 : Nat} (hm : MOk L lv U p0) (hi : Inv L lv (X ++ cyc U N ++ Y)) (hu0 : U.head? = some u0) (h2 : 2 ≤ U.length) (hN : 3 * U.length + 3 ≤ N) (h : Sq L lv (X ++ cyc U N ++ Y) O) :
  ∃ r X' U' N' p' Y' Z V, StepOk L lv X U N p0 Y O r X' U' N' p' Y' Z V := by
 have hc := num_x he h1
 obtain ⟨r, X', U', N', Y', Z, g1, g2, g3, g4, g5, g6, g7, g8, g9, g10⟩ := zCp hw he (by omega) hu0 h2 hN h
 obtain ⟨V, hV, hnew⟩ := zBr g3
 refine ⟨r, X', U', N', p0, Y', Z, V, g1, g5, hnew, ⟨g1.many.1, ?_, hm.p60⟩, ?_⟩
 ·have := qZp (k := 246 * ((lv + 1 - 1) / 246)) g3
  have h2 := hm.blk
  rw [show (lv + 1 - 1) / 246 = (lv - 1) / 246 by omega] at this ⊢
  omega
 have l1 := qHz g4
 have f0 : frsU L lv U = 0 := qFu (.inl he)
 have f1 := qQp L (lv + 1) U'
 have f2 : U'.length = U.length → frsU L (lv + 1) U' = 0 := fun e => qFu (.inr fun x hx2 e2 => by
  rw [g8 e] at hx2
  have := (hi.ok x (by simp [qQj (show U.length ≤ N by omega) (qKx hx2)])).2.2.2
  omega)
 have x1 : (lv + 1 - 1) % 246 = (lv - 1) % 246 + 1 := by omega
 have ev := ef_le L ((lv - 1) % 246 / 4) U' N'
 have ev2 := ef_le L ((lv - 1) % 246 / 4) U N
 by_cases q : (lv - 1) % 246 % 4 = 1
 ·have e0 : efs L lv U N = 0 := by unfold efs; rw [if_neg (by omega)]
  have e1 : efs L (lv + 1) U' N' = ef L ((lv - 1) % 246 / 4) U' N' := by
   unfold efs
   rw [x1, if_pos (by omega), show ((lv - 1) % 246 + 1) / 4 = (lv - 1) % 246 / 4 by omega]
  have x2 : rstU ((lv + 1 - 1) % 246) + 2 = rstU ((lv - 1) % 246) := by unfold rstU; omega
  have k := g9 ((lv - 1) % 246 / 4) (by omega)
  unfold potU
  rw [f0, e0, e1]
  by_cases hl : U'.length = U.length
  ·have := k hl
   have := f2 hl
   omega
  omega
 have q3 : (lv - 1) % 246 % 4 = 3 := by omega
 have e0 : efs L lv U N = ef L ((lv - 1) % 246 / 4) U N := by unfold efs; rw [if_pos (by omega)]
 have e1 : efs L (lv + 1) U' N' = 0 := by
  unfold efs
  rw [x1, if_neg (by omega)]
 have x2 : rstU ((lv + 1 - 1) % 246) = rstU ((lv - 1) % 246) := by unfold rstU; omega
 have k := g10 ((lv - 1) % 246 / 4) (by omega)
 unfold potU
 rw [f0, e0, e1]
 by_cases hl : U'.length = U.length
 ·have := k hl
  have := f2 hl
  omega
 omega
end
section
theorem zBo {L : List Rl} {lv r N N' : Nat} {X U Y O X' U' Y' Z : List Nat} (g : MidStep L lv X U N Y O r X' U' N' Y' Z) {x : Nat} (hx : x ∈ U') : x ∈ O := by
 rw [g.out]
 simp [qQj (Nat.le_of_lt g.many.2) hx]
theorem go_tie {L : List Rl} (hw : Wf L) {lv N p0 : Nat} (h1 : 1 ≤ lv) (hx : (lv - 1) % 246 = 245) {X U Y O : List Nat} {u0 : Nat} (hm : MOk L lv U p0) (hi : Inv L lv (X ++ cyc U N ++ Y)) (hio : Inv L (lv + 1) O) (hu0 : U.head? = some u0) (hd : ∃ y ∈ U, key L y ≠ key L u0) (hN : 3 * U.length + 3 ≤ N) (h : Sq L lv (X ++ cyc U N ++ Y) O) :
  ∃ r X' U' N' p' Y' Z V, StepOk L lv X U N p0 Y O r X' U' N' p' Y' Z V := by
 have he : lv % 2 = 0 := by omega
 have hc : num lv = 122 := by rw [num_x he h1, hx]
 obtain ⟨r, hr1, hr2, hr3, hf⟩ := zBn hw (.inr ⟨he, hc, rfl⟩) (X := X) hu0 hd
 obtain ⟨X', U', N', Y', Z, g1, g3, g4, g5, g6, g7, g8, g9⟩ := hf N Y O hN h
 obtain ⟨V, hV, hnew⟩ := zBr g3
 have hup : ∀ x ∈ U', lvl L x ≤ (246 * ((lv + 1 - 1) / 246) : Nat) := fun x hx2 => by
  have := (hio.ok x (zBo g1 hx2)).2.2.2
  omega
 have hb := qZp (k := 246 * ((lv - 1) / 246)) g3
 have hm1 := hm.blk
 have hm2 := hm.p60
 have hh : U'.length ≤ 2 * Go.Proofs.YtlleicanafioaaaDoor.hi L (246 * ((lv - 1) / 246)) U' := by
  have e : 246 * ((lv - 1) / 246) + 247 = lv + 1 := by omega
  refine cyc_new hw (X := X') (N := N') (Y := Y') ?_ g1.many.1 g1.many.2
  rw [e, ← g1.out]
  exact hio
 have hp := qXa (a := U'.length) (b := p0) g1.many.1 (by omega) hm2
 refine ⟨r, X', U', N', U'.length, Y', Z, V, g1, g8, hnew, ⟨g1.many.1, ?_, by omega⟩, ?_⟩
 ·rw [qVb hup]
  omega
 have l1 := qHz g4
 have f0 : frsU L lv U = 0 := qFu (.inl he)
 have f1 := qQp L (lv + 1) U'
 have f2 : U'.length = U.length → frsU L (lv + 1) U' = 0 := fun e => qFu (.inr fun x hx2 e2 => by
  rw [g3.same (by rw [qAj]; exact e)] at hx2
  have := (hi.ok x (by simp [qQj (show U.length ≤ N by omega) (qKx hx2)])).2.2.2
  omega)
 have x1 : (lv + 1 - 1) % 246 = 0 := by omega
 have x2 : rstU 0 = 122 := rfl
 have x3 : rstU 245 = 0 := rfl
 have e0 : efs L lv U N = 0 := by unfold efs; rw [if_neg (by omega)]
 have e1 : efs L (lv + 1) U' N' = 0 := by unfold efs; rw [if_neg (by omega)]
 unfold potU
 rw [f0, e0, e1, x1, x2, hx, x3]
 by_cases hl : U'.length = U.length
 ·have := f2 hl
  omega
 omega
theorem qYq {L : List Rl} (hw : Wf L) {lv N p0 : Nat} (h1 : 1 ≤ lv) (hx : (lv - 1) % 246 = 245) {X U Y O : List Nat} {a : Nat} (hm : MOk L lv U p0) (hio : Inv L (lv + 1) O) (hk : ∀ y ∈ U, key L y = a) (hN : 3 * U.length + 3 ≤ N) (h : Sq L lv (X ++ cyc U N ++ Y) O) :
  ∃ r X' U' N' p' Y' Z V, StepOk L lv X U N p0 Y O r X' U' N' p' Y' Z V := by
 have he : lv % 2 = 0 := by omega
 have hc : num lv = 122 := by rw [num_x he h1, hx]
 have h0 := hm.pos
 obtain ⟨r, hr1, hf⟩ := mid_tie hw he hc (X := X) h0 hk
 obtain ⟨X', U', N', Y', Z, g1, g3, g4, g5, g6, g7, g8⟩ := hf N Y O hN h
 have hup : ∀ x ∈ U', lvl L x ≤ (246 * ((lv + 1 - 1) / 246) : Nat) := fun x hx2 => by
  have := (hio.ok x (zBo g1 hx2)).2.2.2
  omega
 have hm1 := hm.blk
 have hm2 := hm.p60
 have hpos := g1.many.1
 have htw : (tw (rot r U)).length = if U.length % 2 = 0 then U.length else 2 * U.length := by
  unfold tw
  rw [qAj]
  split
  ·rw [qAj]
  rw [List.length_append, qAj]; omega
 refine ⟨r, X', U', N', U'.length, Y', Z, U', g1, g5, fun x hx => .inr hx, ⟨hpos, ?_, ?_⟩, ?_⟩
 ·rw [qVb hup]
  omega
 ·split at htw <;> omega
 have f0 : frsU L lv U = 0 := qFu (.inl he)
 have f1 := qQp L (lv + 1) U'
 have x1 : (lv + 1 - 1) % 246 = 0 := by omega
 have x2 : rstU 0 = 122 := rfl
 have x3 : rstU 245 = 0 := rfl
 have e0 : efs L lv U N = 0 := by unfold efs; rw [if_neg (by omega)]
 have e1 : efs L (lv + 1) U' N' = 0 := by unfold efs; rw [if_neg (by omega)]
 unfold potU
 rw [f0, e0, e1, x1, x2, hx, x3]
 split at htw
 ·have hp := qXa (a := U'.length) (b := p0) hpos (by omega) hm2
  have l1 : N' / U'.length ≤ N / U.length := by
   have e : U.length = 2 * U'.length := by omega
   rw [e, ← Nat.div_div_eq_div_mul]
   exact Nat.div_le_div_right (by omega)
  have := qHz l1
  omega
 have e : U'.length = U.length := by omega
 have hp := lgp_mono (a := U'.length) (b := p0) (by omega) hm2
 have q1 : 2 ≤ N / U.length := (Nat.le_div_iff_mul_le h0).2 (by omega)
 have l1 : N' / U'.length ≤ N / U.length / 2 := by
  rw [e, Nat.div_div_eq_div_mul, Nat.mul_comm U.length 2, ← Nat.div_div_eq_div_mul]
  exact Nat.div_le_div_right (by omega)
 have := log_half q1 l1
 omega
theorem even_two {L : List Rl} {lv N : Nat} (he : lv % 2 = 0) {X U Y : List Nat} (hi : Inv L lv (X ++ cyc U N ++ Y)) (h0 : 0 < U.length) (hN : 2 ≤ N) : 2 ≤ U.length := by
 rcases Nat.lt_or_ge U.length 2 with h | h
 ·exfalso
  have h1 : U.length = 1 := by omega
  have e : at_ U 0 = at_ U 1 := by unfold at_; rw [h1]
  have g : ∀ j, j < N → (X ++ cyc U N ++ Y)[X.length + j]? = some (at_ U j) := fun j hj => by
   rw [List.append_assoc, List.getElem?_append_right (by omega), Nat.add_sub_cancel_left, List.getElem?_append_left (by rw [qAs]; exact hj), qDp hj]
   rfl
  have := (hi.same (X.length + 0) (at_ U 0) (g 0 (by omega)) (by rw [e]; exact g 1 (by omega))).1
  omega
 exact h
theorem go_any {L : List Rl} (hw : Wf L) {lv N p0 : Nat} (h1 : 1 ≤ lv) {X U Y O : List Nat} {u0 : Nat} (hm : MOk L lv U p0) (hi : Inv L lv (X ++ cyc U N ++ Y)) (hio : Inv L (lv + 1) O) (hu0 : U.head? = some u0) (hd : lv % 2 = 1 → ∃ y ∈ U, y ≠ u0) (hN : 3 * U.length + 3 ≤ N) (h : Sq L lv (X ++ cyc U N ++ Y) O) :
  ∃ r X' U' N' p' Y' Z V, StepOk L lv X U N p0 Y O r X' U' N' p' Y' Z V := by
 by_cases ho : lv % 2 = 1
 ·exact go_run hw ho hm hi hu0 (hd ho) hN h
 have h2 := even_two (by omega) hi hm.pos (by omega)
 by_cases hx : (lv - 1) % 246 = 245
 ·by_cases hs : ∃ y ∈ U, key L y ≠ key L u0
  ·exact go_tie hw h1 hx hm hi hio hu0 hs hN h
  exact qYq hw h1 hx (a := key L u0) hm hio (fun y hy => Classical.byContradiction fun hh => hs ⟨y, hy, hh⟩) hN h
 exact go_pair hw (by omega) h1 hx hm hi hu0 h2 hN h
end
end Go.Proofs.YtlleicanafioaaaDoor
