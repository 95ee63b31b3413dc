import Derived.Test.YtlleicanafioaaaDoorQ44
set_option linter.all false
set_option maxHeartbeats 1000000
namespace Go.Proofs.YtlleicanafioaaaDoor
open Go Go.RowKit Sl Eg
section
def cst : List Nat → Nat
 | [] => 0
 | x :: r => (if r.head? = some x ∧ r.tail.head? = some x then 0 else 1) + cst r
theorem cst_le : ∀ A : List Nat, cst A ≤ A.length
 | [] => Nat.le_refl _
 | x :: r => by
  have := cst_le r
  simp only [cst, List.length_cons]
  split <;> omega
theorem qOz : ∀ A B : List Nat, cst (A ++ B) ≤ cst A + cst B
 | [], B => by simp [cst]
 | x :: r, B => by
  have := qOz r B
  simp only [List.cons_append, cst]
  by_cases h : r.head? = some x ∧ r.tail.head? = some x
  ·have h2 : (r ++ B).head? = some x ∧ (r ++ B).tail.head? = some x := by
    cases r with
    | nil => simp at h
    | cons y r => cases r with
     | nil => simp at h
     | cons z r => simpa using h
   rw [if_pos h, if_pos h2]
   omega
  rw [if_neg h]
  split <;> omega
theorem qZy {a : Nat} : ∀ Q : List Nat, (∀ y ∈ Q, y = a) → cst Q ≤ 2
 | [], _ => by simp [cst]
 | [x], _ => by simp [cst]
 | [x, y], _ => by simp [cst]
 | x :: y :: z :: r, h => by
  have h1 := h x (by simp)
  have h2 := h y (by simp)
  have h3 := h z (by simp)
  have := qZy (y :: z :: r) (fun w hw => h w (List.mem_cons_of_mem _ hw))
  rw [cst, if_pos (by simp [h1, h2, h3])]
  omega
theorem qZx {x : Nat} {r : List Nat} (hr : r.head? ≠ some x) : ∀ t, min (t + 1) 2 + cst r ≤ cst (List.replicate (t + 1) x ++ r)
 | 0 => by
  show min 1 2 + cst r ≤ cst (x :: r)
  rw [cst, if_neg (fun h => hr h.1)]
  omega
 | 1 => by
  show min 2 2 + cst r ≤ (if (x :: r).head? = some x ∧ r.head? = some x then 0 else 1) + ((if r.head? = some x ∧ r.tail.head? = some x then 0 else 1) + cst r)
  rw [if_neg (fun h => hr h.2), if_neg (fun h => hr h.1)]
  omega
 | t + 2 => by
  have : min (t + 2) 2 + cst r ≤ cst (List.replicate (t + 2) x ++ r) := qZx hr (t + 1)
  rw [List.replicate_succ, List.cons_append, cst]
  omega
theorem Rg.cost {L : List Rl} {A O : List Nat} (h : Rg L A O) : ∃ V : List Nat, V.length + O.length ≤ cst A ∧ ∀ x ∈ O, x ∈ A ∨ x ∈ V := by
 induction h with
 | nil => exact ⟨[], Nat.le_refl _, fun x hx => by simp at hx⟩
 | @run x t id r o ht hid hne hr ih =>
  obtain ⟨V, h1, h2⟩ := ih
  obtain ⟨m, rfl⟩ : ∃ m, t = m + 1 := ⟨t - 1, by omega⟩
  have h3 := qZx hne m
  rcases hid with ⟨h4, rfl⟩ | ⟨h4, i, rfl, h5⟩
  ·refine ⟨V, by simp only [List.length_cons]; omega, fun z hz => ?_⟩
   rcases List.mem_cons.1 hz with rfl | hz
   ·exact .inl (by simp)
   rcases h2 z hz with h5 | h5
   ·exact .inl (List.mem_append_right _ h5)
   exact .inr h5
  refine ⟨(i + 1) :: V, by simp only [List.length_cons]; omega, fun z hz => ?_⟩
  rcases List.mem_cons.1 hz with rfl | hz
  ·exact .inr List.mem_cons_self
  rcases h2 z hz with h6 | h6
  ·exact .inl (List.mem_append_right _ h6)
  exact .inr (List.mem_cons_of_mem _ h6)
def cstF (lv : Nat) (A : List Nat) : Nat := if lv % 2 = 1 then cst A else A.length
theorem qIl (lv : Nat) (A : List Nat) : cstF lv A ≤ A.length := by
 unfold cstF
 split
 ·exact cst_le A
 exact Nat.le_refl _
theorem qEr (lv : Nat) (A B : List Nat) : cstF lv (A ++ B) ≤ cstF lv A + cstF lv B := by
 unfold cstF
 split
 ·exact qOz A B
 rw [List.length_append]; exact Nat.le_refl _
theorem Sq.cost {L : List Rl} {lv : Nat} {A O : List Nat} (h : Sq L lv A O) : ∃ V : List Nat, V.length + O.length ≤ cstF lv A ∧ ∀ x ∈ O, x ∈ A ∨ x ∈ V := by
 by_cases ho : lv % 2 = 1
 ·unfold Sq at h
  unfold cstF
  rw [if_pos ho] at h ⊢
  exact h.cost
 unfold cstF
 rw [if_neg ho]
 exact h.made
structure Mid where
 X : List Nat
 U : List Nat
 N : Nat
 p : Nat
def qGx : List Mid → List Nat → List Nat
 | [], Y => Y
 | m :: ms, Y => m.X ++ cyc m.U m.N ++ qGx ms Y
def potM (L : List Rl) (lv : Nat) : List Mid → List Nat → Nat
 | [], Y => Y.length
 | m :: ms, Y => m.X.length + potU L lv m.U m.N m.p + potM L lv ms Y
theorem qRt {L : List Rl} (hw : Wf L) {lv : Nat} (h1 : 1 ≤ lv) : ∀ (ms : List Mid) (W Y O : List Nat) (w : Nat), (∀ m ∈ ms, MOk L lv m.U m.p) → Inv L lv (W ++ qGx ms Y) → Inv L (lv + 1) O → Sq L lv (W ++ qGx ms Y) O → cstF lv W ≤ w →
  ∃ (ms' : List Mid) (Y' V : List Nat), O = qGx ms' Y' ∧ (∀ m ∈ ms', MOk L (lv + 1) m.U m.p) ∧ V.length + potM L (lv + 1) ms' Y' ≤ w + potM L lv ms Y ∧ ∀ x ∈ O, x ∈ W ++ qGx ms Y ∨ x ∈ V
 | [], W, Y, O, w, hm, hi, hio, h, hc => by
  obtain ⟨V, g1, g2⟩ := h.cost
  have g3 := qEr lv W Y
  have g4 := qIl lv Y
  refine ⟨[], O, V, rfl, fun m hm => by simp at hm, ?_, g2⟩
  simp only [qGx, potM] at *
  omega
 | ⟨X, U, N, p⟩ :: ms, W, Y, O, w, hm, hi, hio, h, hc => by
  have hm0 := hm _ List.mem_cons_self
  simp only at hm0
  have hms : ∀ m ∈ ms, MOk L lv m.U m.p := fun m h => hm m (List.mem_cons_of_mem _ h)
  have eL : W ++ qGx (⟨X, U, N, p⟩ :: ms) Y = (W ++ X ++ cyc U N) ++ qGx ms Y := by simp only [qGx, List.append_assoc]
  have hp := hm0.p60
  have hb := hm0.blk
  have hpot : 183 ≤ potU L lv U N p := by unfold potU; omega
  obtain ⟨u0, hu0⟩ : ∃ u, U.head? = some u := by
   cases U with
   | nil => have := hm0.pos; simp at this
   | cons y U => exact ⟨y, rfl⟩
  by_cases hdead : N < 3 * U.length + 3 ∨ (lv % 2 = 1 ∧ ¬ ∃ y ∈ U, y ≠ u0)
  ·have hcW : cstF lv (W ++ X ++ cyc U N) ≤ w + X.length + 183 := by
    have q1 := qEr lv (W ++ X) (cyc U N)
    have q2 := qEr lv W X
    have q3 := qIl lv X
    have q4 : cstF lv (cyc U N) ≤ 183 := by
     rcases hdead with hd | ⟨ho, hd⟩
     ·have := qIl lv (cyc U N)
      rw [qAs] at this
      omega
     unfold cstF
     rw [if_pos ho]
     have := qZy (a := u0) (cyc U N) (fun y hy => Classical.byContradiction fun hne => hd ⟨y, qIn hm0.pos hy, hne⟩)
     omega
    omega
   rw [eL] at hi h
   obtain ⟨ms', Y', V, g1, g2, g3, g4⟩ := qRt hw h1 ms _ Y O _ hms hi hio h hcW
   refine ⟨ms', Y', V, g1, g2, ?_, fun x hx => by rw [eL]; exact g4 x hx⟩
   simp only [potM]
   omega
  have hN : 3 * U.length + 3 ≤ N := Nat.le_of_not_lt fun hh => hdead (.inl hh)
  have hd : lv % 2 = 1 → ∃ y ∈ U, y ≠ u0 := fun ho => Classical.byContradiction fun hh => hdead (.inr ⟨ho, hh⟩)
  rw [eL] at hi h
  obtain ⟨r, X', U', N', p', Y1, Z, V, k⟩ := go_any hw h1 hm0 hi hio hu0 hd hN h
  obtain ⟨kout, kleft, kright, kcount, kmany, ⟨T, ksuf⟩⟩ := k.mid
  obtain ⟨V1, a1, a2⟩ := kleft.cost
  have hUN : ∀ x ∈ U, x ∈ cyc U N := fun x hx => qQj (by omega) hx
  have q1 := qEr lv (W ++ X) (cyc U r)
  have q2 := qEr lv W X
  have q3 := qIl lv X
  have q4 := qIl lv (cyc U r)
  rw [qAs] at q4
  have hiZ : Inv L lv (Z ++ qGx ms Y) := by
   have e : W ++ X ++ cyc U N ++ qGx ms Y = (W ++ X ++ T) ++ (Z ++ qGx ms Y) := by rw [ksuf]; simp only [List.append_assoc]
   rw [e] at hi
   exact hi.right
  have hio2 : Inv L (lv + 1) Y1 := by
   rw [kout] at hio
   exact hio.right
  obtain ⟨ms', Y', V2, g1, g2, g3, g4⟩ := qRt hw h1 ms Z Y Y1 Z.length hms hiZ hio2 kright (qIl lv Z)
  refine ⟨⟨X', U', N', p'⟩ :: ms', Y', V1 ++ V ++ V2, ?_, ?_, ?_, fun x hx => ?_⟩
  ·rw [kout, g1]
   rfl
  ·intro m hm
   rcases List.mem_cons.1 hm with rfl | hm
   ·exact k.ok
   exact g2 m hm
  ·have := k.pay
   simp only [potM, List.length_append]
   omega
  rw [eL]
  rw [kout] at hx
  rcases List.mem_append.1 hx with hx | hx
  ·rcases List.mem_append.1 hx with hx | hx
   ·rcases a2 x hx with h3 | h3
    ·rcases List.mem_append.1 h3 with h3 | h3
     ·exact .inl (by simp only [List.mem_append] at h3 ⊢; exact .inl (.inl h3))
     exact .inl (by
      have := hUN x (qIn hm0.pos h3)
      simp only [List.mem_append]; exact .inl (.inr this))
    exact .inr (by simp only [List.mem_append]; exact .inl (.inl h3))
   rcases k.new x (qIn kmany.1 hx) with h3 | h3
   ·exact .inl (by simp only [List.mem_append]; exact .inl (.inr (hUN x h3)))
   exact .inr (by simp only [List.mem_append]; exact .inl (.inr h3))
  rcases g4 x hx with h3 | h3
  ·rcases List.mem_append.1 h3 with h3 | h3
   ·exact .inl (by simp only [List.mem_append]; exact .inl (.inr (hUN x (k.zed x h3))))
   exact .inl (by simp only [List.mem_append]; exact .inr h3)
  exact .inr (by simp only [List.mem_append]; exact .inr h3)
theorem Rch.inv {L : List Rl} (hw : Wf L) {bs : List UInt8} {lv : Nat} {A O : List Nat} (h : Rch L bs (lv + 1) O) (h0 : 1 ≤ lv) (hA : Rch L bs lv A) : Sq L lv A O ∧ 2 ≤ A.length := by
 generalize e : lv + 1 = l at h
 cases h with
 | start h => omega
 | odd h1 h2 h3 h4 =>
  obtain rfl : lv = _ := Nat.succ.inj e
  rw [hA.fn hw h1]
  exact ⟨Stp.sq (.inl ⟨h2, h4⟩), h3⟩
 | even h1 h2 h3 h4 h5 =>
  obtain rfl : lv = _ := Nat.succ.inj e
  rw [hA.fn hw h1]
  exact ⟨Stp.sq (.inr ⟨h2, _, _, h5, rfl⟩), h3⟩
theorem qWh {L : List Rl} (hw : Wf L) {bs : List UInt8} : ∀ (n lv : Nat) (ms : List Mid) (Y : List Nat), 1 ≤ lv → (∀ m ∈ ms, MOk L lv m.U m.p) → Rch L bs lv (qGx ms Y) →
  ∃ V : List Nat, V.length ≤ potM L lv ms Y ∧ ∀ k, k ≤ n → ∀ R, Rch L bs (lv + k) R → ∀ x ∈ R, x ∈ qGx ms Y ∨ x ∈ V
 | 0, lv, ms, Y, h1, hm, h => ⟨[], Nat.zero_le _, fun k hk R hR x hx => by
  obtain rfl : k = 0 := by omega
  rw [hR.fn hw h] at hx
  exact .inl hx⟩
 | n + 1, lv, ms, Y, h1, hm, h => by
  by_cases hO : ∃ O, Rch L bs (lv + 1) O
  ·obtain ⟨O, hO⟩ := hO
   obtain ⟨ms', Y', V, g1, g2, g3, g4⟩ := qRt hw h1 ms [] Y O 0 hm (h.rows hw).1 (hO.rows hw).1 (hO.inv hw h1 h).1 (qIl lv [])
   subst g1
   obtain ⟨V2, k1, k2⟩ := qWh hw n (lv + 1) ms' Y' (by omega) g2 hO
   refine ⟨V ++ V2, by rw [List.length_append]; omega, fun k hk R hR x hx => ?_⟩
   cases k with
   | zero =>
    rw [hR.fn hw h] at hx
    exact .inl hx
   | succ k =>
    rcases k2 k (by omega) R (by rw [show lv + 1 + k = lv + (k + 1) by omega]; exact hR) x hx with h3 | h3
    ·rcases g4 x h3 with h4 | h4
     ·exact .inl h4
     exact .inr (List.mem_append_left _ h4)
    exact .inr (List.mem_append_right _ h3)
  refine ⟨[], Nat.zero_le _, fun k hk R hR x hx => ?_⟩
  cases k with
  | zero =>
   rw [hR.fn hw h] at hx
   exact .inl hx
  | succ k =>
   exfalso
   cases k with
   | zero => exact hO ⟨R, hR⟩
   | succ k =>
    obtain ⟨q, hq, _⟩ := hR.before (lv + 1) (by omega) (by omega)
    exact hO ⟨q, hq⟩
end
section
theorem qXb {L : List Rl} {U : List Nat} {T : List UInt8} (h : Lts L U T) : ∀ k, Lts L (reps k U) (List.replicate k T).flatten
 | 0 => .nil
 | k + 1 => by
  rw [qCi, List.replicate_succ, List.flatten_cons]
  exact h.append (qXb h k)
theorem qYk {U : List Nat} (h0 : 0 < U.length) (c : Nat) : cyc U (c * U.length) = reps c U := by
 have := qHp h0 c 0 (Nat.zero_le _)
 rwa [Nat.add_zero, List.take_zero, List.append_nil] at this
def catT : List (List UInt8 × Nat) → List UInt8
 | [] => []
 | q :: qs => (List.replicate q.2 q.1).flatten ++ catT qs
def bet (c : Nat) : Nat := 1935 + 190 * Nat.log2 c
def sumB : List (List UInt8 × Nat) → Nat
 | [] => 0
 | q :: qs => bet q.2 + sumB qs
def QOk (L : List Rl) (qs : List (List UInt8 × Nat)) : Prop := ∀ q ∈ qs, 1 ≤ q.1.length ∧ q.1.length ≤ 60 ∧ 1 ≤ q.2 ∧ ∃ U, Lts L U q.1
theorem qOg {L : List Rl} (hw : Wf L) : ∀ qs : List (List UInt8 × Nat), QOk L qs →
  ∃ (ms : List Mid) (V : List Nat), Lts L (qGx ms []) (catT qs) ∧ (∀ m ∈ ms, MOk L 1 m.U m.p) ∧ V.length + potM L 1 ms [] ≤ sumB qs ∧ ∀ x ∈ qGx ms [], x ∈ V
 | [], _ => ⟨[], [], .nil, fun m hm => by simp at hm, Nat.le_refl _, fun x hx => hx⟩
 | (T, c) :: qs, h => by
  obtain ⟨h1, h2, h3, U, hU⟩ := h _ List.mem_cons_self
  simp only at h1 h2 h3 hU
  obtain ⟨ms, V, g1, g2, g3, g4⟩ := qOg hw qs (fun q hq => h q (List.mem_cons_of_mem _ hq))
  have hl := hU.length
  have h0 : 0 < U.length := by omega
  have hlow : ∀ x ∈ U, lvl L x ≤ (0 : Nat) := fun x hx => by
   have := ((hU.inv hw).ok x hx).2.2.2
   omega
  refine ⟨⟨[], U, c * U.length, U.length⟩ :: ms, U ++ V, ?_, ?_, ?_, ?_⟩
  ·show Lts L ([] ++ cyc U (c * U.length) ++ qGx ms []) _
   rw [List.nil_append, qYk h0]
   exact (qXb hU c).append g1
  ·intro m hm
   rcases List.mem_cons.1 hm with rfl | hm
   ·refine ⟨h0, ?_, by show U.length ≤ 60; omega⟩
    show Go.Proofs.YtlleicanafioaaaDoor.hi L (246 * ((1 - 1) / 246)) U + U.length ≤ U.length
    rw [show 246 * ((1 - 1) / 246) = 0 from rfl, qVb hlow]
    omega
   exact g2 m hm
  ·have p1 := lgp_le U.length
   have p2 := qQp L 1 U
   have p3 : efs L 1 U (c * U.length) = 0 := by unfold efs; rw [if_neg (by decide)]
   have p4 : c * U.length / U.length = c := Nat.mul_div_cancel c h0
   have p5 : rstU ((1 - 1) % 246) = 122 := rfl
   show (U ++ V).length + (0 + potU L 1 U (c * U.length) U.length + potM L 1 ms []) ≤ bet c + sumB qs
   unfold potU bet
   rw [p3, p4, p5, List.length_append]
   omega
  intro x hx
  have hx : x ∈ [] ++ cyc U (c * U.length) ++ qGx ms [] := hx
  rw [List.nil_append] at hx
  rcases List.mem_append.1 hx with hx | hx
  ·exact List.mem_append_left _ (qIn h0 hx)
  exact List.mem_append_right _ (g4 x hx)
theorem cov_text {L : List Rl} (hw : Wf L) {qs : List (List UInt8 × Nat)} (h : QOk L qs) (n : Nat) : ∃ V : List Nat, V.length ≤ sumB qs ∧ ∀ lv R, lv ≤ n → Rch L (catT qs) lv R → ∀ x ∈ R, x ∈ V := by
 obtain ⟨ms, V, g1, g2, g3, g4⟩ := qOg hw qs h
 obtain ⟨V2, k1, k2⟩ := qWh hw n 1 ms [] (Nat.le_refl _) g2 (.start g1)
 refine ⟨V ++ V2, by rw [List.length_append]; omega, fun lv R hlv hR x hx => ?_⟩
 have := hR.pos
 rcases k2 (lv - 1) (by omega) R (by rw [show 1 + (lv - 1) = lv by omega]; exact hR) x hx with h3 | h3
 ·exact List.mem_append_left _ (g4 x h3)
 exact List.mem_append_right _ h3
end
section
theorem Rch.textR {L : List Rl} (hw : Wf L) {bs : List UInt8} {lv : Nat} {R : List Nat} (h : Rch L bs lv R) : rowT L R = bs := by
 induction h with
 | start h => exact h.text
 | odd _ _ _ h4 ih => rw [h4.text hw, qCm, ih]
 | even _ _ _ _ h5 ih => rw [h5.text hw, ih]
theorem zCi {L : List Rl} (hw : Wf L) {r : Rl} (h : r ∉ L → Wf (L ++ [r])) : ∃ (N : List Rl) (j : Nat), Wf (L ++ N) ∧ (L ++ N)[j]? = some r := by
 by_cases hr : r ∈ L
 ·obtain ⟨j, hj⟩ := List.getElem?_of_mem hr
  exact ⟨[], j, by rw [List.append_nil]; exact hw, by rw [List.append_nil]; exact hj⟩
 exact ⟨[r], L.length, h hr, by rw [List.getElem?_append_right (Nat.le_refl _), Nat.sub_self]; rfl⟩
theorem qNz {L : List Rl} (A B : List Nat) : (rowT L B).length ≤ (rowT L (A ++ B)).length := by rw [qCa, List.length_append]; omega
theorem pg_ex {c : Nat} : ∀ (n : Nat) (ids : List Nat) (L : List Rl), ids.length ≤ n → Wf L → (∀ x ∈ ids, 1 ≤ x ∧ x ≤ L.length) → (rowT L ids).length ≤ kK → ∃ N O, Wf (L ++ N) ∧ Pg (L ++ N) c ids O
 | n, [], L, _, hw, _, _ => ⟨[], [], by rw [List.append_nil]; exact hw, .nil⟩
 | n, [x], L, _, hw, _, _ => ⟨[], [x], by rw [List.append_nil]; exact hw, .one (fun y hy => by simp at hy) .nil⟩
 | 0, x :: y :: r, L, hn, _, _, _ => by simp at hn
 | n + 1, x :: y :: r, L, hn, hw, hx, hT => by
  simp only [List.length_cons] at hn
  by_cases hf : qAd c (key L x) (key L y)
  ·have h1 := hx x (by simp)
   have h2 := hx y (by simp)
   have hlen : len L x + len L y ≤ kK := Nat.le_trans (qRj (i := 0) (ids := x :: y :: r) rfl rfl) hT
   obtain ⟨N, j, hw2, hj⟩ := zCi hw (r := .pair x y) (fun hr => hw.pairU hr h1.1 h1.2 h2.1 h2.2 hlen)
   have hle : ∀ z ∈ r, z ≤ L.length := fun z hz => (hx z (by simp [hz])).2
   obtain ⟨N2, O, hw3, hp⟩ := pg_ex n r (L ++ N) (by omega) hw2 (fun z hz => by
    have := hx z (by simp [hz])
    rw [List.length_append]
    omega) (by
    rw [qMg N hle]
    exact Nat.le_trans (qNz [x, y] r) hT)
   refine ⟨N ++ N2, (j + 1) :: O, by rw [← List.append_assoc]; exact hw3, ?_⟩
   rw [← List.append_assoc]
   refine .two ?_ (qHf N2 hj) hp
   rw [List.append_assoc, qAi _ h1.2, qAi _ h2.2]
   exact hf
  obtain ⟨N, O, hw2, hp⟩ := pg_ex n (y :: r) L (by simp only [List.length_cons]; omega) hw (fun z hz => hx z (List.mem_cons_of_mem _ hz)) (Nat.le_trans (qNz [x] (y :: r)) hT)
  refine ⟨N, x :: O, hw2, .one (fun z hz => ?_) hp⟩
  obtain rfl : y = z := by simpa using hz
  rw [qAi _ (hx x (by simp)).2, qAi _ (hx y (by simp)).2]
  exact hf
theorem qWz : ∀ (r : List Nat) (x : Nat), ∃ t r', x :: r = List.replicate t x ++ r' ∧ 1 ≤ t ∧ r'.head? ≠ some x
 | [], x => ⟨1, [], rfl, Nat.le_refl _, by simp⟩
 | y :: r, x => by
  by_cases e : y = x
  ·subst e
   obtain ⟨t, r', h1, h2, h3⟩ := qWz r y
   exact ⟨t + 1, r', by rw [h1, List.replicate_succ]; rfl, by omega, h3⟩
  exact ⟨1, y :: r, rfl, Nat.le_refl _, by simpa using e⟩
theorem rg_ex : ∀ (n : Nat) (ids : List Nat) (L : List Rl), ids.length ≤ n → Wf L → (∀ x ∈ ids, 1 ≤ x ∧ x ≤ L.length) → (rowT L ids).length ≤ kK → ∃ N O, Wf (L ++ N) ∧ Rg (L ++ N) ids O
 | n, [], L, _, hw, _, _ => ⟨[], [], by rw [List.append_nil]; exact hw, .nil⟩
 | 0, x :: r, L, hn, _, _, _ => by simp at hn
 | n + 1, x :: r, L, hn, hw, hx, hT => by
  obtain ⟨t, r', h1, h2, h3⟩ := qWz r x
  have hx1 := hx x (by simp)
  have hl : t + r'.length = r.length + 1 := by
   have := congrArg List.length h1
   rw [List.length_cons, List.length_append, List.length_replicate] at this
   omega
  simp only [List.length_cons] at hn
  rw [h1] at hx hT ⊢
  have hrule : ∃ N id, Wf (L ++ N) ∧ RunId (L ++ N) x t id := by
   rcases Nat.lt_or_ge t 2 with h4 | h4
   ·exact ⟨[], x, by rw [List.append_nil]; exact hw, .inl ⟨by omega, rfl⟩⟩
   have hlen : len L x * t ≤ kK := Nat.le_trans (qRi (A := []) (B := r')) hT
   obtain ⟨N, j, hw2, hj⟩ := zCi hw (r := .power x t) (fun hr => hw.powerU hr hx1.1 hx1.2 h4 hlen)
   exact ⟨N, j + 1, hw2, .inr ⟨h4, j, rfl, hj⟩⟩
  obtain ⟨N, id, hw2, hid⟩ := hrule
  have hle : ∀ z ∈ r', z ≤ L.length := fun z hz => (hx z (List.mem_append_right _ hz)).2
  obtain ⟨N2, O, hw3, hp⟩ := rg_ex n r' (L ++ N) (by omega) hw2 (fun z hz => by
   have := hx z (List.mem_append_right _ hz)
   rw [List.length_append]
   omega) (by
   rw [qMg N hle]
   exact Nat.le_trans (qNz _ r') hT)
  refine ⟨N ++ N2, id :: O, by rw [← List.append_assoc]; exact hw3, ?_⟩
  rw [← List.append_assoc]
  exact .run h2 (hid.ext N2) h3 hp
theorem sq_ex {L : List Rl} (hw : Wf L) {lv : Nat} {ids : List Nat} (hx : ∀ x ∈ ids, 1 ≤ x ∧ x ≤ L.length) (hT : (rowT L ids).length ≤ kK) : ∃ N O, Wf (L ++ N) ∧ Sq (L ++ N) lv ids O := by
 unfold Sq
 by_cases ho : lv % 2 = 1
 ·obtain ⟨N, O, h1, h2⟩ := rg_ex _ ids L (Nat.le_refl _) hw hx hT
  exact ⟨N, O, h1, by rw [if_pos ho]; exact h2⟩
 obtain ⟨N, O, h1, h2⟩ := pg_ex (c := num lv) _ ids L (Nat.le_refl _) hw hx hT
 exact ⟨N, O, h1, by rw [if_neg ho]; exact h2⟩
theorem Sq.pos {L : List Rl} {lv : Nat} {ids O : List Nat} (h : Sq L lv ids O) (h0 : 0 < ids.length) : 0 < O.length := by
 rcases Nat.eq_zero_or_pos O.length with h1 | h1
 ·exfalso
  rw [List.length_eq_zero_iff.1 h1] at h
  cases ids with
  | nil => simp at h0
  | cons y ids =>
   unfold Sq at h
   split at h
   ·exact Rg.nonempty h rfl
   exact Pg.nonempty h rfl
 exact h1
theorem qWe {bs : List UInt8} (hb : bs.length ≤ kK) : ∀ (n : Nat) (L : List Rl) (lv : Nat) (R : List Nat), 25545 ≤ lv + n → Wf L → Rch L bs lv R → 0 < R.length → ∃ N lv' x, Wf (L ++ N) ∧ Rch (L ++ N) bs lv' [x]
 | n, L, lv, R, hn, hw, h, h0 => by
  rcases Nat.lt_or_ge R.length 2 with h1 | h1
  ·obtain ⟨x, rfl⟩ : ∃ x, R = [x] := by
    match R, h0, h1 with
    | [x], _, _ => exact ⟨x, rfl⟩
    | x :: y :: r, _, h1 => simp only [List.length_cons] at h1; omega
   exact ⟨[], lv, x, by rw [List.append_nil]; exact hw, by rw [List.append_nil]; exact h⟩
  have hlv := h.lv_le hw hb h1
  match n, hn with
  | 0, hn => omega
  | n + 1, hn =>
   have hi := (h.rows hw).1
   obtain ⟨N, O, hw2, hs⟩ := sq_ex hw (lv := lv) (ids := R) (fun x hx => ⟨(hi.ok x hx).1, (hi.ok x hx).2.1⟩) (by rw [h.textR hw]; exact hb)
   have h2 : Rch (L ++ N) bs (lv + 1) O := (h.ext N).next h1 (fun x hx => by
    have := (hi.ok x hx).2.1
    rw [List.length_append]
    omega) hs
   obtain ⟨N2, lv', x, k1, k2⟩ := qWe hb n (L ++ N) (lv + 1) O (by omega) hw2 h2 (hs.pos h0)
   exact ⟨N ++ N2, lv', x, by rw [← List.append_assoc]; exact k1, by rw [← List.append_assoc]; exact k2⟩
theorem qSm : ∀ (ws : List (List UInt8)) (L : List Rl), Wf L → (∀ w ∈ ws, 0 < w.length ∧ w.length ≤ kK ∧ ∃ ids, Lts L ids w) → ∃ N, Wf (L ++ N) ∧ ∀ w ∈ ws, ∃ lv x, Rch (L ++ N) w lv [x]
 | [], L, hw, _ => ⟨[], by rw [List.append_nil]; exact hw, fun w h => by simp at h⟩
 | w :: ws, L, hw, h => by
  obtain ⟨h1, h2, ids, h3⟩ := h w List.mem_cons_self
  obtain ⟨N, lv, x, k1, k2⟩ := qWe h2 25545 L 1 ids (by omega) hw (.start h3) (by rw [h3.length]; exact h1)
  obtain ⟨N2, q1, q2⟩ := qSm ws (L ++ N) k1 (fun v hv => by
   obtain ⟨g1, g2, ids, g3⟩ := h v (List.mem_cons_of_mem _ hv)
   exact ⟨g1, g2, ids, g3.ext N⟩)
  refine ⟨N ++ N2, by rw [← List.append_assoc]; exact q1, fun v hv => ?_⟩
  rw [← List.append_assoc]
  rcases List.mem_cons.1 hv with rfl | hv
  ·exact ⟨lv, x, k2.ext N2⟩
  exact q2 v hv
def InRow (L : List Rl) (bs : List UInt8) (x : Nat) : Prop := ∃ lv R, Rch L bs lv R ∧ 2 ≤ R.length ∧ ∀ N O, Wf (L ++ N) → Sq (L ++ N) lv R O → x ∈ O
theorem InRow.ext {L : List Rl} {bs : List UInt8} {x : Nat} (h : InRow L bs x) (M : List Rl) : InRow (L ++ M) bs x := by
 obtain ⟨lv, R, h1, h2, h3⟩ := h
 exact ⟨lv, R, h1.ext M, h2, fun N O hw hs => h3 (M ++ N) O (by rw [← List.append_assoc]; exact hw) (by rw [← List.append_assoc]; exact hs)⟩
theorem qTh {L : List Rl} (hw : Wf L) {bs : List UInt8} {l0 x lv : Nat} {R : List Nat} (h : Rch L bs l0 [x]) (hR : Rch L bs lv R) (h2 : 2 ≤ R.length) : ∃ O, Rch L bs (lv + 1) O ∧ Sq L lv R O := by
 have hp := hR.pos
 have hlt : lv < l0 := by
  apply Classical.byContradiction
  intro hge
  rcases Nat.lt_or_ge l0 lv with h3 | h3
  ·obtain ⟨q, hq, hq2⟩ := hR.before l0 h.pos h3
   rw [hq.fn hw h] at hq2
   simp at hq2
  obtain rfl : lv = l0 := by omega
  rw [hR.fn hw h] at h2
  simp at h2
 rcases Nat.lt_or_ge (lv + 1) l0 with h3 | h3
 ·obtain ⟨q, hq, _⟩ := h.before (lv + 1) (by omega) h3
  exact ⟨q, hq, (hq.inv hw hp hR).1⟩
 obtain rfl : l0 = lv + 1 := by omega
 exact ⟨_, h, (h.inv hw hp hR).1⟩
theorem qWg {L : List Rl} (hw : Wf L) : ∀ (ws : List (List (List UInt8 × Nat))), (∀ qs ∈ ws, QOk L qs ∧ (catT qs).length ≤ kK ∧ ∃ lv x, Rch L (catT qs) lv [x]) → ∃ V : List Nat, V.length ≤ (ws.map sumB).sum ∧ ∀ qs ∈ ws, ∀ lv R O, Rch L (catT qs) lv R → 2 ≤ R.length → Sq L lv R O → ∀ x ∈ O, x ∈ V
 | [], _ => ⟨[], Nat.zero_le _, fun qs h => by simp at h⟩
 | qs :: ws, h => by
  obtain ⟨h1, h2, l0, x0, h3⟩ := h qs List.mem_cons_self
  obtain ⟨V, v1, v2⟩ := cov_text hw h1 25545
  obtain ⟨V2, w1, w2⟩ := qWg hw ws (fun q hq => h q (List.mem_cons_of_mem _ hq))
  refine ⟨V ++ V2, by rw [List.length_append, List.map_cons, List.sum_cons]; omega, fun q hq lv R O hR hR2 hO x hx => ?_⟩
  rcases List.mem_cons.1 hq with rfl | hq
  ·have hlv := hR.lv_le hw h2 hR2
   obtain ⟨O', k1, k2⟩ := qTh hw h3 hR hR2
   rw [hO.fn hw k2] at hx
   exact List.mem_append_left _ (v2 (lv + 1) O' (by omega) k1 x hx)
  exact List.mem_append_right _ (w2 q hq lv R O hR hR2 hO x hx)
theorem zBs : ∀ {A B : List Nat}, A.Nodup → (∀ x ∈ A, x ∈ B) → A.length ≤ B.length
 | [], B, _, _ => Nat.zero_le _
 | a :: A, B, hn, h => by
  have ha := h a (by simp)
  have hn' := List.nodup_cons.1 hn
  have := zBs (A := A) (B := B.erase a) hn'.2 (fun x hx => by
   have hx' := h x (by simp [hx])
   have hne : x ≠ a := fun e => by subst e; exact hn'.1 hx
   exact (List.mem_erase_of_ne hne).2 hx')
  rw [List.length_erase_of_mem ha] at this
  have : 0 < B.length := List.length_pos_of_mem ha
  simp only [List.length_cons]
  omega
theorem qZw {L : List Rl} (hw : Wf L) (J : List Nat) (ws : List (List (List UInt8 × Nat))) (h : ∀ qs ∈ ws, QOk L qs ∧ 0 < (catT qs).length ∧ (catT qs).length ≤ kK) (hj : ∀ j, 1 ≤ j → j ≤ L.length → j ∈ J ∨ ∃ qs ∈ ws, InRow L (catT qs) j) : L.length ≤ J.length + (ws.map sumB).sum := by
 obtain ⟨N, hN, hch⟩ := qSm (ws.map catT) L hw (fun w hw2 => by
  obtain ⟨qs, hqs, rfl⟩ := List.mem_map.1 hw2
  obtain ⟨h1, h2, h3⟩ := h qs hqs
  obtain ⟨ms, V, g1, _⟩ := qOg hw qs h1
  exact ⟨h2, h3, _, g1⟩)
 obtain ⟨V, v1, v2⟩ := qWg hN ws (fun qs hqs => by
  obtain ⟨h1, h2, h3⟩ := h qs hqs
  refine ⟨fun q hq => ?_, h3, hch _ (List.mem_map_of_mem hqs)⟩
  obtain ⟨g1, g2, g3, U, g4⟩ := h1 q hq
  exact ⟨g1, g2, g3, U, g4.ext N⟩)
 have hall : ∀ j, 1 ≤ j → j ≤ L.length → j ∈ J ++ V := fun j j1 j2 => by
  rcases hj j j1 j2 with h0 | ⟨qs, hqs, lv, R, r1, r2, r3⟩
  ·exact List.mem_append_left _ h0
  refine List.mem_append_right _ ?_
  obtain ⟨l0, x0, hf⟩ := hch _ (List.mem_map_of_mem hqs)
  obtain ⟨O, k1, k2⟩ := qTh hN hf (r1.ext N) r2
  exact v2 qs hqs lv R O (r1.ext N) r2 k2 j (r3 N O hN k2)
 have hsub : ∀ x ∈ List.range' 1 L.length, x ∈ J ++ V := fun x hx => by
  rw [List.mem_range'] at hx
  obtain ⟨i, hi, rfl⟩ := hx
  exact hall _ (by omega) (by omega)
 have := zBs List.nodup_range' hsub
 rw [List.length_range', List.length_append] at this
 omega
end
section
theorem Pg.cutB {L : List Rl} (hw : Wf L) {c : Nat} {X X' : List Nat} (h : Pg L c X X') : ∀ {W O : List Nat}, Pg L c (X ++ W) O → (∀ u v, X.getLast? = some u → X'.getLast? = some u → W.head? = some v → ¬ qAd c (key L u) (key L v)) → ∃ O2, O = X' ++ O2 ∧ Pg L c W O2 := by
 induction h with
 | nil => exact fun hp _ => ⟨_, rfl, hp⟩
 | @one x r o hn hr ih =>
  intro W O hp hb
  rw [List.cons_append] at hp
  generalize hQ : r ++ W = Q at hp
  cases hp with
  | one h1 h2 =>
   subst hQ
   obtain ⟨O2, e, h3⟩ := ih h2 (fun u v a b d => hb u v (qCh x a) (qCh x b) d)
   exact ⟨O2, by rw [e]; rfl, h3⟩
  | @two _ y j r' o' hf hj hr' =>
   exfalso
   cases r with
   | nil =>
    cases hr
    rw [List.nil_append] at hQ
    exact hb x y rfl rfl (by rw [hQ]; rfl) hf
   | cons z r =>
    rw [List.cons_append, List.cons.injEq] at hQ
    exact hn z rfl (by rw [hQ.1]; exact hf)
 | @two x y j r o hf hj hr ih =>
  intro W O hp hb
  rw [List.cons_append, List.cons_append] at hp
  cases hp with
  | one h1 h2 => exact absurd hf (h1 y rfl)
  | @two _ _ j2 _ _ hf2 hj2 hr2 =>
   obtain ⟨O2, e, h3⟩ := ih hr2 (fun u v a b d => hb u v (qCh x (qCh y a)) (qCh _ b) d)
   exact ⟨O2, by rw [e, hw.nodup _ _ _ hj hj2]; rfl, h3⟩
theorem Sq.cutB {L : List Rl} (hw : Wf L) {lv : Nat} {X X' W O : List Nat} (h : Sq L lv X X') (hp : Sq L lv (X ++ W) O) (hb : Bdry L lv X X' W) : ∃ O2, O = X' ++ O2 ∧ Sq L lv W O2 := by
 unfold Bdry at hb
 unfold Sq at h hp ⊢
 split at h
 ·rename_i ho
  rw [if_pos ho] at hp
  simp only [if_pos ho]
  obtain ⟨O1, O2, e, h1, h2⟩ := hp.cut rfl (fun u v a b => by have := hb u v a b; rwa [if_pos ho] at this)
  exact ⟨O2, by rw [e, h1.fn hw h], h2⟩
 rename_i ho
 rw [if_neg ho] at hp
 simp only [if_neg ho]
 exact h.cutB hw hp (fun u v a b d => by have := hb u v a d; rw [if_neg ho] at this; exact this b)
def Nx (L : List Rl) (lv : Nat) (X : List Nat) (j : Nat) : Prop := ∀ N O, Wf (L ++ N) → Sq (L ++ N) lv X O → j ∈ O
theorem Nx.ext {L : List Rl} {lv : Nat} {X : List Nat} {j : Nat} (h : Nx L lv X j) (M : List Rl) : Nx (L ++ M) lv X j := fun N O hw hs => h (M ++ N) O (by rw [← List.append_assoc]; exact hw) (by rw [← List.append_assoc]; exact hs)
theorem nx_sq {L : List Rl} {lv : Nat} {X O : List Nat} (h : Sq L lv X O) (hx : ∀ x ∈ X, x ≤ L.length) {j : Nat} (hj : j ∈ O) : Nx L lv X j := fun N O' hw hs => by
 rw [hs.fn hw (h.ext N hx)]
 exact hj
theorem nx_pg {L : List Rl} {c lv : Nat} (he : lv % 2 = 0) (hc : num lv = c) {xs done rest out : List Nat} (e : xs = done ++ rest) (hpg : PgB L c done out rest.head?) (hx : ∀ x ∈ xs, x ≤ L.length) {j : Nat} (hj : j ∈ out) : Nx L lv xs j := fun N O hw hs => by
 subst e
 have h1 := hpg.ext N (fun x h => hx x (List.mem_append_left _ h)) (fun x h => hx x (List.mem_append_right _ (List.mem_of_mem_head? h)))
 unfold Sq at hs
 rw [if_neg (by omega), hc] at hs
 obtain ⟨O2, e, _⟩ := h1.1.cutB hw hs (fun u v a b d => h1.2 u v a b d)
 rw [e]
 exact List.mem_append_left _ hj
theorem nx_run {L : List Rl} {lv : Nat} (ho : lv % 2 = 1) {xs out : List Nat} {rs rs2 : List (Nat × Nat)} (e : flat (rs ++ rs2) = xs) (hp : ∀ g ∈ rs ++ rs2, 1 ≤ g.2) (ha : Adjx (rs ++ rs2)) (hr : Rns L rs out) {j : Nat} (hj : j ∈ out) : Nx L lv xs j := fun N O hw hs => by
 unfold Sq at hs
 rw [if_pos ho] at hs
 have h1 := hs.runs
 rw [← e, qOd _ hp ha] at h1
 obtain ⟨i, hi⟩ := List.getElem?_of_mem hj
 obtain ⟨x, t, g1, g2⟩ := hr.get i j hi
 have g3 : (rs ++ rs2)[i]? = some (x, t) := by rw [List.getElem?_append_left (List.getElem?_eq_some_iff.1 g1).1]; exact g1
 have hl := h1.length
 obtain ⟨id, hid⟩ : ∃ id, O[i]? = some id := ⟨_, List.getElem?_eq_getElem (by have := (List.getElem?_eq_some_iff.1 g3).1; omega)⟩
 obtain ⟨x', t', g4, g5⟩ := h1.get i id hid
 rw [g3] at g4
 cases g4
 rw [(g2.ext N).fn hw g5]
 exact List.mem_of_getElem? hid
def RmS (Es : List Ent) (most lv : Nat) (X : List Nat) : Prop := ∀ M : List Ent, Wf (rls (Es ++ M)) → (∀ j, Es.length < j → j ≤ (Es ++ M).length → Nx (rls (Es ++ M)) lv X j) → (Es ++ M).length < most
def RmT (Es : List Ent) (most : Nat) (bs : List UInt8) : Prop := ∀ M : List Ent, Wf (rls (Es ++ M)) → (∀ j, Es.length < j → j ≤ (Es ++ M).length → InRow (rls (Es ++ M)) bs j) → (Es ++ M).length < most
theorem qWv {L : List Rl} {lv : Nat} {R : List Nat} {bs : List UInt8} {j : Nat} (h : Rch L bs lv R) (h2 : 2 ≤ R.length) (hj : Nx L lv R j) : InRow L bs j := ⟨lv, R, h, h2, hj⟩
end
end Go.Proofs.YtlleicanafioaaaDoor
