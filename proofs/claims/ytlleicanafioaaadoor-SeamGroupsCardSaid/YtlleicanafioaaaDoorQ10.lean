import Derived.Test.YtlleicanafioaaaDoorQ09
import Derived.Laws.Shifts
set_option linter.all false
set_option maxHeartbeats 1000000
namespace Eg
theorem qIu {α : Type} {P : List α → Prop} (h0 : P []) (h1 : ∀ l x, P l → P (l ++ [x])) : ∀ l, P l := fun l => by
 have : ∀ r : List α, P r.reverse := by
  intro r
  induction r with
  | nil => exact h0
  | cons a r ih => rw [List.reverse_cons]; exact h1 _ _ ih
 simpa using this l.reverse
def qLl (rs : List (Nat × Nat)) (x : Nat) : List (Nat × Nat) := match rs.getLast? with
 | some (y, k) => if y = x then rs.dropLast ++ [(y, k + 1)] else rs ++ [(x, 1)]
 | none => [(x, 1)]
def kL (l : List Nat) : List (Nat × Nat) := l.foldl qLl []
theorem qCb (l : List Nat) (x : Nat) : kL (l ++ [x]) = qLl (kL l) x := by simp [kL]
theorem qKk (x : Nat) : qLl [] x = [(x, 1)] := rfl
theorem qCw (a : List (Nat × Nat)) (x k : Nat) : qLl (a ++ [(x, k)]) x = a ++ [(x, k + 1)] := by simp [qLl]
theorem qDn (a : List (Nat × Nat)) {x y k : Nat} (h : y ≠ x) : qLl (a ++ [(y, k)]) x = a ++ [(y, k)] ++ [(x, 1)] := by simp [qLl, h]
theorem qVo (l : List Nat) (x : Nat) : ∃ a k, kL (l ++ [x]) = a ++ [(x, k)] ∧ 1 ≤ k := by
 rw [qCb]
 rcases List.eq_nil_or_concat (kL l) with h | ⟨a, ⟨y, k⟩, h⟩
 ·exact ⟨[], 1, by rw [h]; rfl, Nat.le_refl _⟩
 rw [List.concat_eq_append] at h
 rw [h]
 by_cases hy : y = x
 ·subst hy; exact ⟨a, k + 1, qCw a y k, by omega⟩
 exact ⟨a ++ [(y, k)], 1, qDn a hy, Nat.le_refl _⟩
theorem qPy (rs : List (Nat × Nat)) (x : Nat) : (qLl rs x).length ≤ rs.length + 1 := by
 rcases List.eq_nil_or_concat rs with h | ⟨a, ⟨y, k⟩, h⟩
 ·subst h; simp [qKk]
 rw [List.concat_eq_append] at h
 subst h
 by_cases hy : y = x
 ·subst hy; rw [qCw]; simp
 rw [qDn a hy]; simp
theorem qGr : ∀ (l : List Nat), (kL l).length ≤ l.length := by
 refine qIu (by simp [kL]) (fun l x ih => ?_)
 rw [qCb]; have := qPy (kL l) x; simp; omega
def flat : List (Nat × Nat) → List Nat
 | [] => []
 | g :: r => List.replicate g.2 g.1 ++ flat r
theorem qBn (a b : List (Nat × Nat)) : flat (a ++ b) = flat a ++ flat b := by
 induction a with
 | nil => rfl
 | cons g a ih => simp [flat, ih]
theorem qCm (l : List Nat) : flat (kL l) = l := by
 refine qIu (P := fun l => flat (kL l) = l) rfl ?_ l
 intro l x ih
 rw [qCb]
 rcases List.eq_nil_or_concat (kL l) with h | ⟨a, ⟨y, k⟩, h⟩
 ·rw [h] at ih ⊢
  rw [← ih]
  rfl
 rw [List.concat_eq_append] at h
 rw [h] at ih ⊢
 by_cases hy : y = x
 ·subst hy
  rw [qCw, ← ih, qBn, qBn]
  simp [flat, List.replicate_succ']
 rw [qDn a hy, qBn, ih]
 simp [flat]
theorem qEm (l : List Nat) : ∀ g ∈ kL l, 1 ≤ g.2 ∧ g.2 ≤ l.length := by
 refine qIu (P := fun l => ∀ g ∈ kL l, 1 ≤ g.2 ∧ g.2 ≤ l.length) (by intro g h; simp [kL] at h) ?_ l
 intro l x ih
 rw [qCb]
 rcases List.eq_nil_or_concat (kL l) with h | ⟨a, ⟨y, k⟩, h⟩
 ·rw [h]; intro g hg; simp [qKk] at hg; subst hg; simp
 rw [List.concat_eq_append] at h
 rw [h] at ih ⊢
 have hk := ih (y, k) (by simp)
 intro g hg
 by_cases hy : y = x
 ·subst hy
  rw [qCw] at hg
  simp at hg
  rcases hg with hg | rfl
  ·have := ih g (by simp [hg]); simp; omega
  simp at hk ⊢; omega
 rw [qDn a hy] at hg
 simp at hg
 rcases hg with hg | rfl | rfl
 ·have := ih g (by simp [hg]); simp; omega
 ·simp at hk ⊢; omega
 simp
end Eg
namespace Go.Proofs.YtlleicanafioaaaDoor
open Go Go.RowKit Sl Eg
set_option maxRecDepth 10000
variable {E : Env}
def idC (l : List Nat) : List Value := l.map fun x => .int .i64 (x : Nat)
theorem qVc {l : List Nat} {i x : Nat} (h : l[i]? = some x) (k : Nat) (hk : k = i) : (idC l)[k]? = some (.int .i64 (x : Nat)) := by subst hk; simp [idC, h]
structure RnG where
 k : Nat
 rs : List (Nat × Nat)
 p : Option Addr
 c : Nat
theorem ct_Runs (hE : Seat E) {g c : Nat} {ids : List Nat} (hl : ids.length < 1048577) :
  Ct E 39 [.slice (some ⟨g, 0, none⟩) ids.length c] [sl (some ⟨g, 0, none⟩) c 28 1 ids.length (idC ids)]
   (fun v Q => ∃ p c', v = .slice p (kL ids).length c' ∧ Q = [sl p c' 97 2 (kL ids).length (gsC (kL ids)), sl (some ⟨g, 0, none⟩) c 28 1 ids.length (idC ids)]) := by
 refine zR (hE.fn Tryd.func39) rfl rfl rfl (fun R => ?_)
 simp only [qAo, uV, uW]
 refine qN (qL (uA rfl (qO (qM (qN (qL (uA rfl (qO (qM (qN (qN (qL (uM rfl (uB (uBl rfl) ?_))))))))))))))
 refine uM rfl (qO (qM (zN ?_)))
 refine qDb (fun x : RnG => [(0, .slice (some ⟨g, 0, none⟩) ids.length c), (3, .slice x.p x.rs.length x.c), (6, .slice (some ⟨g, 0, none⟩) ids.length c), (7, .int .i64 (ids.length : Nat)), (8, .int .i64 (x.k : Nat))]) (fun x => [sl x.p x.c 97 2 x.rs.length (gsC x.rs), sl (some ⟨g, 0, none⟩) c 28 1 ids.length (idC ids), R]) (fun x => ids.length - x.k) (fun x => x.k ≤ ids.length ∧ x.rs = kL (ids.take x.k)) ⟨0, [], none, 0⟩ ?_ ?_ ?_ ?_
 ·exact ⟨Nat.zero_le _, rfl⟩
 ·exact ⟨rfl, rfl, rfl, rfl, rfl, trivial⟩
 ·apply kH (qDq (t := 97) (sz := 2))
  exact uI
 rintro ⟨k, rs, p, c1⟩ ⟨hk, hrs⟩
 simp only at hk hrs ⊢
 refine qN (qL (uB (y_lt rfl rfl) ?_))
 refine qO (qM (qN ?_))
 refine zH rfl (fun hlt => ?_) (fun hlt => ?_)
 ·have hkn : k < ids.length := by omega
  obtain ⟨x, hx⟩ : ∃ x, ids[k]? = some x := ⟨_, List.getElem?_eq_getElem hkn⟩
  have e1 : ids.take (k + 1) = ids.take k ++ [x] := by rw [List.take_add_one, hx]; rfl
  have f0 := qVc hx ((k : Nat) : Int).toNat (by omega)
  have hrl := qGr (ids.take k)
  rw [← hrs, List.length_take] at hrl
  refine zF (qM (qN (zN (qN (qL (uM rfl (uB (uAj rfl rfl) ?_)))))))
  refine uL ?_
  refine uA rfl (uA rfl (qO (qM ?_)))
  refine qIe (fun x : RnG => [(0, .slice (some ⟨g, 0, none⟩) ids.length c), (3, .slice x.p x.rs.length x.c), (6, .slice (some ⟨g, 0, none⟩) ids.length c), (7, .int .i64 (ids.length : Nat)), (8, .int .i64 (k : Nat))]) (fun x => [sl x.p x.c 97 2 x.rs.length (gsC x.rs), sl (some ⟨g, 0, none⟩) c 28 1 ids.length (idC ids), R]) (fun y => ∃ a m, y.rs = a ++ [(x, m)] ∧ kL (ids.take (k + 1)) = a ++ [(x, m + 1)] ∧ a.length ≤ k ∧ m ≤ k) ?_ ?_
  ·refine qN (qL ?_)
   refine uM rfl (uB (y_eq rfl rfl) ?_)
   refine uM rfl ?_
   refine qAn 15 rfl (fun h0 => ?_) (fun h0 => ?_)
   ·obtain rfl : k = 0 := by omega
    obtain rfl : rs = [] := by rw [hrs]; rfl
    refine zW rfl rfl rfl rfl (zW rfl rfl rfl rfl (zW rfl rfl rfl rfl (zW rfl rfl rfl rfl (zW rfl rfl rfl rfl (zW rfl rfl rfl rfl (zW rfl rfl rfl rfl ?_))))))
    refine uB (zA rfl rfl) ?_
    refine qO (qM (zI rfl (qL (uM rfl (uM rfl (uB (qAl (hE.t rfl) rfl rfl) ?_))))))
    refine uU ?_
    refine qY (hE.t rfl) (hE.t rfl) rfl rfl rfl (fun b27 => ?_)
    refine uU ?_
    apply zX (hE.t rfl) (hE.t rfl) rfl rfl rfl
    ·exact uK
    ·exact uK
    ·rfl
    ·rfl
    ·omega
    ·omega
    ·(unfold maxLen; omega)
    intro g28 c28 n28 x28 hn28 hx28
    refine uA rfl (qO ?_)
    obtain rfl : n28 = [(x, 0)].length := hn28
    obtain rfl : x28 = gsC [(x, 0)] := hx28
    refine qBq (ι := RnG) ⟨0, [(x, 0)], some ⟨g28, 0, none⟩, c28⟩ ⟨[], 0, rfl, by rw [e1]; rfl, Nat.le_refl _, Nat.le_refl _⟩ ⟨rfl, rfl, rfl, rfl, rfl, trivial⟩ ?_
    exact uI
   obtain ⟨j, rfl⟩ : ∃ j, k = j + 1 := ⟨k - 1, by omega⟩
   obtain ⟨y, hy⟩ : ∃ y, ids[j]? = some y := ⟨_, List.getElem?_eq_getElem (by omega)⟩
   have f1 := qVc hy (((j + 1 : Nat) : Int) - 1).toNat (by omega)
   have e2 : ids.take (j + 1) = ids.take j ++ [y] := by rw [List.take_add_one, hy]; rfl
   obtain ⟨a, m, hlast, hm⟩ := qVo (ids.take j) y
   rw [← e2, ← hrs] at hlast
   have hmle := (qEm (ids.take (j + 1)) (y, m) (by rw [← hrs, hlast]; simp)).2
   simp only [List.length_take] at hmle
   subst hlast
   have hal : (a ++ [(y, m)]).length = a.length + 1 := by simp
   refine kT rfl rfl (uM rfl (kT rfl rfl (uM rfl (kT rfl rfl (uB (uAs rfl rfl) ?_)))))
   refine kT rfl rfl (uB (uAj rfl rfl) ?_)
   refine kT rfl rfl (uL ?_)
   refine kT rfl rfl (uM rfl (kT rfl rfl (uB (y_ne rfl rfl) ?_)))
   refine uB (zB rfl rfl) ?_
   refine qO (qM ?_)
   refine zH rfl (fun hne => ?_) (fun hne => ?_)
   ·refine qL ?_
    refine uM rfl (uM rfl (uB (qAl (hE.t rfl) rfl rfl) ?_))
    refine uU ?_
    refine qY (hE.t rfl) (hE.t rfl) rfl rfl rfl (fun b27 => ?_)
    refine uU ?_
    apply zX (hE.t rfl) (hE.t rfl) rfl rfl rfl
    ·exact uK
    ·exact uK
    ·rfl
    ·rfl
    ·omega
    ·omega
    ·(unfold maxLen; omega)
    intro g28 c28 n28 x28 hn28 hx28
    refine uA rfl (qO ?_)
    obtain rfl : n28 = (a ++ [(y, m)] ++ [(x, 0)]).length := by rw [hn28]; simp
    obtain rfl : x28 = gsC (a ++ [(y, m)] ++ [(x, 0)]) := by rw [hx28, qHw (a ++ [(y, m)])]; rfl
    refine qBq (ι := RnG) ⟨0, a ++ [(y, m)] ++ [(x, 0)], some ⟨g28, 0, none⟩, c28⟩ ⟨a ++ [(y, m)], 0, rfl, by rw [e1, qCb, ← hrs, qDn a (by omega)], by omega, Nat.zero_le _⟩ ⟨rfl, rfl, rfl, rfl, rfl, trivial⟩ ?_
    exact uI
   obtain rfl : y = x := by omega
   refine zF ?_
   refine qBq (ι := RnG) ⟨0, a ++ [(y, m)], p, c1⟩ ⟨a, m, rfl, by rw [e1, qCb, ← hrs, qCw], by omega, by omega⟩ ⟨rfl, rfl, rfl, rfl, rfl, trivial⟩ ?_
   exact uI
  clear hrl hrs rs p c1
  rintro ⟨_, rs, p, c1⟩ ⟨a, m, hr1, hr2, hak, hmk⟩
  simp only at hr1 ⊢
  subst hr1
  have hal : (a ++ [(x, m)]).length = a.length + 1 := by simp
  rw [hal]
  refine qFd (p := sl p c1 97 2 (a.length + 1) (gsC (a ++ [(x, m)]))) uK (fun _ h => qCc h (by omega)) ?_
  rintro ⟨g1, rfl⟩
  have hget : (a ++ [(x, m)])[a.length]? = some (x, m) := by simp
  have ea : 0 + (((a.length + 1 : Nat) : Int) - 1).toNat * 2 + 1 = a.length * 2 + 1 := by omega
  have f1 : (gsC (a ++ [(x, m)]))[0 + (((a.length + 1 : Nat) : Int) - 1).toNat * 2 + 1]? = some (.int .i64 (m : Nat)) := by rw [ea]; exact (qNf hget).2
  have hset : kC (gsC (a ++ [(x, m)])) (0 + (((a.length + 1 : Nat) : Int) - 1).toNat * 2 + 1) (zS (.int .i64 ((m : Int) + 1))) = gsC (a ++ [(x, m + 1)]) := by
   rw [ea, show (m : Int) + 1 = ((m + 1 : Nat) : Int) by omega]
   have := gsC_set hget (m + 1)
   simp only [kC, zS]
   rw [this]; simp
  refine qL (uM rfl (uM rfl (uB (uBl rfl) ?_)))
  refine uB (uAs rfl rfl) ?_
  refine uB (uAi rfl rfl) ?_
  refine uB (uBf rfl) ?_
  refine uL ?_
  refine uB (uAa rfl rfl) ?_
  refine uB (uAi rfl rfl) ?_
  refine uB (uBf rfl) ?_
  refine uU (uJ ?_)
  refine qO (zL (qM ?_))
  rw [hset]
  refine qL (uB (uAa rfl rfl) ?_)
  refine uM rfl (qO ?_)
  refine qCj 8 (.int .i64 ((k + 1 : Nat) : Int)) rfl (zZ (by omega)) ?_
  refine qCj 3 (.slice (some ⟨g1, 0, none⟩) (a ++ [(x, m + 1)]).length c1) rfl (by simp) ?_
  refine zV (ι := RnG) (j := ⟨k + 1, a ++ [(x, m + 1)], some ⟨g1, 0, none⟩, c1⟩) ?_ ?_ ?_ ?_
  ·exact ⟨by show k + 1 ≤ _; omega, hr2.symm⟩
  ·show ids.length - (k + 1) < ids.length - k; omega
  ·exact ⟨rfl, rfl, rfl, rfl, rfl, trivial⟩
  rw [show (a ++ [(x, m + 1)]).length = a.length + 1 by simp]
  exact uI
 refine kM (qU (qU (zK (qM (qN (qL ?_))))))
 refine uM rfl (uA rfl (qO (qM (kE ?_))))
 apply kF
 ·rfl
 ·(apply Rs.tmp rfl; exact Rs.nil)
 ·rw [List.take_of_length_le (by omega)] at hrs
  subst hrs
  exact ⟨p, c1, rfl, rfl⟩
 rw [List.take_of_length_le (by omega)] at hrs
 subst hrs
 exact uI
end Go.Proofs.YtlleicanafioaaaDoor
namespace Eg
def stF (ks : List Nat) : Nat → Nat × List (Nat × Nat)
 | 0 => (0, [])
 | k + 1 => if k + 1 < ks.length ∧ ks[k + 1]? = ks[k]? then stF ks k
   else (k + 1, if 1 < k + 1 - (stF ks k).1 then (stF ks k).2 ++ [((stF ks k).1, k + 1 - (stF ks k).1)] else (stF ks k).2)
def qBf (ks : List Nat) : List (Nat × Nat) := (stF ks ks.length).2
theorem qXo (ks : List Nat) : ∀ k, (stF ks k).1 ≤ k
 | 0 => Nat.le_refl _
 | k + 1 => by
  have := qXo ks k
  unfold stF; split
  ·omega
  exact Nat.le_refl _
theorem qLc (ks : List Nat) : ∀ k, (stF ks k).2.length ≤ k
 | 0 => Nat.le_refl _
 | k + 1 => by
  have := qLc ks k
  unfold stF; split
  ·omega
  simp only; split
  ·simp; omega
  omega
def Spans : List (Nat × Nat) → Nat → Nat → Prop
 | [], a, e => a ≤ e
 | (f, n) :: l, a, e => a ≤ f ∧ 2 ≤ n ∧ Spans l (f + n) e
theorem qPt : ∀ {l : List (Nat × Nat)} {a e : Nat} {f n : Nat}, Spans l a e → e ≤ f → 2 ≤ n → Spans (l ++ [(f, n)]) a (f + n)
 | [], a, e, f, n, h, h1, h2 => ⟨Nat.le_trans h h1, h2, Nat.le_refl _⟩
 | (f', n') :: l, a, e, f, n, ⟨h0, h3, h4⟩, h1, h2 => ⟨h0, h3, qPt h4 h1 h2⟩
theorem qLb : ∀ {l : List (Nat × Nat)} {a e e' : Nat}, Spans l a e → e ≤ e' → Spans l a e'
 | [], a, e, e', h, h1 => Nat.le_trans h h1
 | (f', n') :: l, a, e, e', ⟨h0, h3, h4⟩, h1 => ⟨h0, h3, qLb h4 h1⟩
theorem qUj (ks : List Nat) : ∀ k, Spans (stF ks k).2 0 (stF ks k).1
 | 0 => Nat.le_refl _
 | k + 1 => by
  have h := qUj ks k
  have hle := qXo ks k
  unfold stF; split
  ·exact h
  simp only; split
  ·rename_i h1
   have := qPt (f := (stF ks k).1) (n := k + 1 - (stF ks k).1) h (Nat.le_refl _) (by omega)
   rwa [show (stF ks k).1 + (k + 1 - (stF ks k).1) = k + 1 by omega] at this
  exact qLb h (by omega)
theorem qHj (ks : List Nat) : Spans (qBf ks) 0 ks.length := qLb (qUj ks _) (qXo ks _)
def qLv (f : Nat) : Nat → List Nat
 | 0 => []
 | j + 1 => qLv f j ++ [f + 2 * j]
def qBi : List (Nat × Nat) → List Nat
 | [] => []
 | (f, n) :: l => qLv f (n / 2) ++ qBi l
theorem qOk (a b : List (Nat × Nat)) : qBi (a ++ b) = qBi a ++ qBi b := by
 induction a with
 | nil => rfl
 | cons g a ih => obtain ⟨f, n⟩ := g; simp only [List.cons_append, qBi, ih, List.append_assoc]
def biF (ks : List Nat) (c : Nat) : Nat → List Nat
 | 0 => []
 | k + 1 => biF ks c k ++ if k + 1 < ks.length ∧ bt (ks[k]?.getD 0) (c / 2) = c % 2 ∧ bt (ks[k + 1]?.getD 0) (c / 2) ≠ c % 2 then [k] else []
def qBh (ks : List Nat) (c : Nat) : List Nat := if c = 122 then qBi (qBf ks) else biF ks c (ks.length - 1)
def Gaps : List Nat → Nat → Nat → Prop
 | [], a, e => a ≤ e
 | i :: l, a, e => a ≤ i ∧ i + 2 ≤ e ∧ Gaps l (i + 2) e
theorem qGk : ∀ {l m : List Nat} {a b e : Nat}, Gaps l a b → Gaps m b e → b ≤ e → Gaps (l ++ m) a e
 | [], [], a, b, e, h, h1, h2 => Nat.le_trans h h1
 | [], i :: m, a, b, e, h, ⟨h1, h2, h3⟩, _ => ⟨Nat.le_trans h h1, h2, h3⟩
 | i :: l, m, a, b, e, ⟨h0, h1, h2⟩, h3, h4 => ⟨h0, by omega, qGk h2 h3 h4⟩
theorem qNc : ∀ {l : List Nat} {a a' e e' : Nat}, Gaps l a e → a' ≤ a → e ≤ e' → Gaps l a' e'
 | [], a, a', e, e', h, h1, h2 => Nat.le_trans h1 (Nat.le_trans h h2)
 | i :: l, a, a', e, e', ⟨h0, h3, h4⟩, h1, h2 => ⟨Nat.le_trans h1 h0, Nat.le_trans h3 h2, qNc h4 (Nat.le_refl _) h2⟩
theorem qPi (f : Nat) : ∀ j, Gaps (qLv f j) f (f + 2 * j)
 | 0 => Nat.le_refl _
 | j + 1 => qGk (qPi f j) (m := [f + 2 * j]) ⟨Nat.le_refl _, by omega, show f + 2 * j + 2 ≤ f + 2 * (j + 1) by omega⟩ (by omega)
theorem qRs : ∀ {l : List (Nat × Nat)} {a e : Nat}, Spans l a e → a ≤ e
 | [], _, _, h => h
 | (f, n) :: l, a, e, ⟨h0, _, h⟩ => by have := qRs h; omega
theorem qXq : ∀ {l : List (Nat × Nat)} {a e : Nat}, Spans l a e → Gaps (qBi l) a e
 | [], a, e, h => h
 | (f, n) :: l, a, e, ⟨h0, h1, h2⟩ => by
  have h3 := qRs h2
  exact qGk (b := f + n) (qNc (qPi f (n / 2)) h0 (by omega)) (qXq h2) h3
theorem qNb : ∀ {l : List Nat} {a e : Nat}, Gaps l a e → a + 2 * l.length ≤ e
 | [], a, e, h => h
 | i :: l, a, e, ⟨h0, h1, h2⟩ => by have := qNb h2; simp; omega
theorem qZo (ks : List Nat) (c : Nat) : ∀ k, k ≤ ks.length - 1 → Gaps (biF ks c k) 0 (k + 1) ∧ (bt (ks[k]?.getD 0) (c / 2) = c % 2 → Gaps (biF ks c k) 0 k)
 | 0, _ => ⟨Nat.zero_le _, fun _ => Nat.le_refl _⟩
 | k + 1, hk => by
  obtain ⟨h1, h2⟩ := qZo ks c k (by omega)
  unfold biF
  split
  ·rename_i h
   have : Gaps (biF ks c k ++ [k]) 0 (k + 2) := qGk (h2 h.2.1) ⟨Nat.le_refl _, Nat.le_refl _, Nat.le_refl _⟩ (by omega)
   exact ⟨this, fun h3 => absurd h3 h.2.2⟩
  rw [List.append_nil]
  exact ⟨qNc h1 (Nat.le_refl _) (by omega), fun _ => h1⟩
theorem qLo (ks : List Nat) (c : Nat) : Gaps (qBh ks c) 0 ks.length := by
 unfold qBh; split
 ·exact qXq (qHj ks)
 by_cases h : ks.length = 0
 ·rw [h]; exact Nat.le_refl _
 have := (qZo ks c (ks.length - 1) (Nat.le_refl _)).1
 rwa [show ks.length - 1 + 1 = ks.length by omega] at this
theorem qOy (ks : List Nat) (c : Nat) : ∀ k, (biF ks c k).length ≤ k
 | 0 => Nat.le_refl _
 | k + 1 => by have := qOy ks c k; unfold biF; split <;> simp <;> omega
end Eg
namespace Go.Proofs.YtlleicanafioaaaDoor
open Go Go.RowKit Sl Eg
set_option maxRecDepth 10000
variable {E : Env}
def kyC (l : List Nat) : List Value := l.map fun x => .int .u64 (x : Nat)
theorem qQt {l : List Nat} {i x : Nat} (h : l[i]? = some x) (k : Nat) (hk : k = i) : (kyC l)[k]? = some (.int .u64 (x : Nat)) := by subst hk; simp [kyC, h]
structure StG where
 k : Nat
 f : Nat
 rs : List (Nat × Nat)
 p : Option Addr
 c : Nat
theorem qSs (hE : Seat E) {g c : Nat} {ks : List Nat} (hl : ks.length < 1048577) :
  Ct E 60 [.slice (some ⟨g, 0, none⟩) ks.length c] [sl (some ⟨g, 0, none⟩) c 42 1 ks.length (kyC ks)]
   (fun v Q => ∃ p c', v = .slice p (qBf ks).length c' ∧ Q = [sl p c' 133 2 (qBf ks).length (gsC (qBf ks)), sl (some ⟨g, 0, none⟩) c 42 1 ks.length (kyC ks)]) := by
 refine zR (hE.fn Tryd.func60) rfl rfl rfl (fun R => ?_)
 simp only [qAo, uV, uW]
 refine qN (qL (uA rfl (qO (qM (qN (qL (uA rfl (qO (qM (qN (qL (uA rfl ?_))))))))))))
 refine qO (qM (qN (qN (qL (uM rfl (uB (uBl rfl) ?_))))))
 refine uM rfl (qO (qM (zN ?_)))
 refine qDb (fun x : StG => [(0, .slice (some ⟨g, 0, none⟩) ks.length c), (3, .slice x.p x.rs.length x.c), (4, .int .i64 (x.f : Nat)), (7, .slice (some ⟨g, 0, none⟩) ks.length c), (8, .int .i64 (ks.length : Nat)), (9, .int .i64 (x.k : Nat))]) (fun x => [sl x.p x.c 133 2 x.rs.length (gsC x.rs), sl (some ⟨g, 0, none⟩) c 42 1 ks.length (kyC ks), R]) (fun x => ks.length - x.k) (fun x => x.k ≤ ks.length ∧ x.f = (stF ks x.k).1 ∧ x.rs = (stF ks x.k).2) ⟨0, 0, [], none, 0⟩ ?_ ?_ ?_ ?_
 ·exact ⟨Nat.zero_le _, rfl, rfl⟩
 ·exact ⟨rfl, rfl, rfl, rfl, rfl, rfl, trivial⟩
 ·apply kH (qDq (t := 133) (sz := 2))
  exact uI
 rintro ⟨k, f, rs, p, c1⟩ ⟨hk, hf, hrs⟩
 simp only at hk hf hrs ⊢
 refine qN (qL (uB (y_lt rfl rfl) ?_))
 refine qO (qM (qN ?_))
 refine zH rfl (fun hlt => ?_) (fun hlt => ?_)
 ·have hkn : k < ks.length := by omega
  obtain ⟨x, hx⟩ : ∃ x, ks[k]? = some x := ⟨_, List.getElem?_eq_getElem hkn⟩
  have f0 := qQt hx ((k : Nat) : Int).toNat (by omega)
  have hfk : f ≤ k := hf ▸ qXo ks k
  have hrl : rs.length ≤ k := hrs ▸ qLc ks k
  refine zF (qM (qN (zN (qN (qL (uM rfl (uA rfl ?_)))))))
  refine qO (qM (qN (qN (qCo (by kernel_rfl) ?_))))
  refine uM rfl (uB (uAa rfl rfl) ?_)
  refine uM rfl (uB (uBl rfl) ?_)
  refine uB (y_lt rfl rfl) ?_
  refine uM rfl ?_
  refine qAn 17 rfl (fun h0 => ?_) (fun h0 => ?_)
  ·obtain ⟨y, hy⟩ : ∃ y, ks[k + 1]? = some y := ⟨_, List.getElem?_eq_getElem (by omega)⟩
   have f1 := qQt hy (((k : Nat) : Int) + 1).toNat (by omega)
   refine kT rfl rfl (uM rfl (kT rfl rfl (uM rfl (kT rfl rfl (uB (uAa rfl rfl) ?_)))))
   refine kT rfl rfl (uB (uAj rfl rfl) ?_)
   refine kT rfl rfl (uL ?_)
   refine kT rfl rfl (uM rfl (kT rfl rfl (uM rfl (kT rfl rfl (uB (uAj rfl rfl) ?_)))))
   refine kT rfl rfl (uL ?_)
   refine kT rfl rfl (uB (y_eq rfl rfl) ?_)
   refine uB (zA rfl rfl) ?_
   refine qO (qM ?_)
   refine zH rfl (fun he => ?_) (fun he => ?_)
   ·obtain rfl : y = x := by omega
    have eS : stF ks (k + 1) = stF ks k := by rw [stF]; exact if_pos ⟨by omega, by rw [hx, hy]⟩
    refine kM (qU (zK (qM (qL (uB (uAa rfl rfl) ?_)))))
    refine uM rfl (qO ?_)
    refine qCj 9 (.int .i64 ((k + 1 : Nat) : Int)) rfl (zZ (by omega)) ?_
    refine zV (ι := StG) (j := ⟨k + 1, f, rs, p, c1⟩) ?_ ?_ ?_ ?_
    ·exact ⟨by show k + 1 ≤ _; omega, by rw [eS]; exact hf, by rw [eS]; exact hrs⟩
    ·show ks.length - (k + 1) < ks.length - k; omega
    ·exact ⟨rfl, rfl, rfl, rfl, rfl, rfl, trivial⟩
    exact uI
   have hno : ¬ (k + 1 < ks.length ∧ ks[k + 1]? = ks[k]?) := by rintro ⟨_, h⟩; rw [hx, hy] at h; apply he; injection h with h; rw [h]
   have eS : stF ks (k + 1) = (k + 1, if 1 < k + 1 - f then rs ++ [(f, k + 1 - f)] else rs) := by rw [stF, if_neg hno, ← hf, ← hrs]
   refine zF (qM (qN (qN (qL (uM rfl (uB (uAa rfl rfl) ?_))))))
   refine uM rfl (uB (uAs rfl rfl) ?_)
   refine uA rfl (qO (qM (qN (qL (uM rfl (uB (y_gt rfl rfl) ?_))))))
   refine qO (qM ?_)
   refine zH rfl (fun hgt => ?_) (fun hgt => ?_)
   ·rw [if_pos (by omega)] at eS
    refine qL (uM rfl (uM rfl (uM rfl (uB (qAl (hE.t rfl) rfl rfl) ?_))))
    refine uU ?_
    refine qY (hE.t rfl) (hE.t rfl) rfl rfl rfl (fun b39 => ?_)
    refine uU ?_
    apply zX (hE.t rfl) (hE.t rfl) rfl rfl rfl
    ·exact uK
    ·exact uK
    ·rfl
    ·rfl
    ·omega
    ·omega
    ·(unfold maxLen; omega)
    intro g40 c40 n40 x40 hn40 hx40
    refine uA rfl (qO (qM (qL (uM rfl (uB (uAa rfl rfl) ?_)))))
    refine uA rfl (qO (zL (qM (qL (uB (uAa rfl rfl) ?_)))))
    refine uM rfl (qO ?_)
    obtain rfl : n40 = (rs ++ [(f, k + 1 - f)]).length := by rw [hn40]; simp
    obtain rfl : x40 = gsC (rs ++ [(f, k + 1 - f)]) := by rw [hx40, qHw rs, show (k : Int) + 1 - f = ((k + 1 - f : Nat) : Int) by omega]; rfl
    refine qCj 9 (.int .i64 ((k + 1 : Nat) : Int)) rfl (zZ (by omega)) ?_
    refine qCj 4 (.int .i64 ((k + 1 : Nat) : Int)) rfl (zZ (by omega)) ?_
    refine zV (ι := StG) (j := ⟨k + 1, k + 1, rs ++ [(f, k + 1 - f)], some ⟨g40, 0, none⟩, c40⟩) ?_ ?_ ?_ ?_
    ·exact ⟨by show k + 1 ≤ _; omega, by rw [eS], by rw [eS]⟩
    ·show ks.length - (k + 1) < ks.length - k; omega
    ·exact ⟨rfl, rfl, rfl, rfl, rfl, rfl, trivial⟩
    exact uI
   rw [if_neg (by omega)] at eS
   refine zF (qM (qL (uM rfl (uB (uAa rfl rfl) ?_))))
   refine uA rfl (qO (zL (qM (qL (uB (uAa rfl rfl) ?_)))))
   refine uM rfl (qO ?_)
   refine qCj 9 (.int .i64 ((k + 1 : Nat) : Int)) rfl (zZ (by omega)) ?_
   refine qCj 4 (.int .i64 ((k + 1 : Nat) : Int)) rfl (zZ (by omega)) ?_
   refine zV (ι := StG) (j := ⟨k + 1, k + 1, rs, p, c1⟩) ?_ ?_ ?_ ?_
   ·exact ⟨by show k + 1 ≤ _; omega, by rw [eS], by rw [eS]⟩
   ·show ks.length - (k + 1) < ks.length - k; omega
   ·exact ⟨rfl, rfl, rfl, rfl, rfl, rfl, trivial⟩
   exact uI
  refine zW rfl rfl rfl rfl (zW rfl rfl rfl rfl (zW rfl rfl rfl rfl (zW rfl rfl rfl rfl (zW rfl rfl rfl rfl (zW rfl rfl rfl rfl (zW rfl rfl rfl rfl (zW rfl rfl rfl rfl ?_)))))))
  refine zW rfl rfl rfl rfl (zW rfl rfl rfl rfl ?_)
  refine uB (zB rfl rfl) ?_
  refine qO (qM (zG rfl ?_))
  have hno : ¬ (k + 1 < ks.length ∧ ks[k + 1]? = ks[k]?) := by rintro ⟨h, _⟩; apply h0; omega
  have eS : stF ks (k + 1) = (k + 1, if 1 < k + 1 - f then rs ++ [(f, k + 1 - f)] else rs) := by rw [stF, if_neg hno, ← hf, ← hrs]
  refine zF (qM (qN (qN (qL (uM rfl (uB (uAa rfl rfl) ?_))))))
  refine uM rfl (uB (uAs rfl rfl) ?_)
  refine uA rfl (qO (qM (qN (qL (uM rfl (uB (y_gt rfl rfl) ?_))))))
  refine qO (qM ?_)
  refine zH rfl (fun hgt => ?_) (fun hgt => ?_)
  ·rw [if_pos (by omega)] at eS
   refine qL (uM rfl (uM rfl (uM rfl (uB (qAl (hE.t rfl) rfl rfl) ?_))))
   refine uU ?_
   refine qY (hE.t rfl) (hE.t rfl) rfl rfl rfl (fun b39 => ?_)
   refine uU ?_
   apply zX (hE.t rfl) (hE.t rfl) rfl rfl rfl
   ·exact uK
   ·exact uK
   ·rfl
   ·rfl
   ·omega
   ·omega
   ·(unfold maxLen; omega)
   intro g40 c40 n40 x40 hn40 hx40
   refine uA rfl (qO (qM (qL (uM rfl (uB (uAa rfl rfl) ?_)))))
   refine uA rfl (qO (zL (qM (qL (uB (uAa rfl rfl) ?_)))))
   refine uM rfl (qO ?_)
   obtain rfl : n40 = (rs ++ [(f, k + 1 - f)]).length := by rw [hn40]; simp
   obtain rfl : x40 = gsC (rs ++ [(f, k + 1 - f)]) := by rw [hx40, qHw rs, show (k : Int) + 1 - f = ((k + 1 - f : Nat) : Int) by omega]; rfl
   refine qCj 9 (.int .i64 ((k + 1 : Nat) : Int)) rfl (zZ (by omega)) ?_
   refine qCj 4 (.int .i64 ((k + 1 : Nat) : Int)) rfl (zZ (by omega)) ?_
   refine zV (ι := StG) (j := ⟨k + 1, k + 1, rs ++ [(f, k + 1 - f)], some ⟨g40, 0, none⟩, c40⟩) ?_ ?_ ?_ ?_
   ·exact ⟨by show k + 1 ≤ _; omega, by rw [eS], by rw [eS]⟩
   ·show ks.length - (k + 1) < ks.length - k; omega
   ·exact ⟨rfl, rfl, rfl, rfl, rfl, rfl, trivial⟩
   exact uI
  rw [if_neg (by omega)] at eS
  refine zF (qM (qL (uM rfl (uB (uAa rfl rfl) ?_))))
  refine uA rfl (qO (zL (qM (qL (uB (uAa rfl rfl) ?_)))))
  refine uM rfl (qO ?_)
  refine qCj 9 (.int .i64 ((k + 1 : Nat) : Int)) rfl (zZ (by omega)) ?_
  refine qCj 4 (.int .i64 ((k + 1 : Nat) : Int)) rfl (zZ (by omega)) ?_
  refine zV (ι := StG) (j := ⟨k + 1, k + 1, rs, p, c1⟩) ?_ ?_ ?_ ?_
  ·exact ⟨by show k + 1 ≤ _; omega, by rw [eS], by rw [eS]⟩
  ·show ks.length - (k + 1) < ks.length - k; omega
  ·exact ⟨rfl, rfl, rfl, rfl, rfl, rfl, trivial⟩
  exact uI
 refine kM (qU (qU (zK (qM (qN (qL ?_))))))
 refine uM rfl (uA rfl (qO (qM (kE ?_))))
 apply kF
 ·rfl
 ·(apply Rs.tmp rfl; exact Rs.nil)
 ·obtain rfl : k = ks.length := by omega
  subst hrs
  exact ⟨p, c1, rfl, rfl⟩
 obtain rfl : k = ks.length := by omega
 subst hrs
 exact uI
end Go.Proofs.YtlleicanafioaaaDoor
namespace Sl
open Go Go.RowKit
variable {E : Env} {n : Nat} {L : Fr} {S : List HP} {ty : TypeId} {pos : String} {af : Array Edge} {d : Option Nat} {gd : Option (Nat × Bool)}
theorem y_shr {x y : Operand} {xt yt : TypeId} {i j : Nat} (hx : ev L x = some (.int .u64 (i : Nat))) (hy : ev L y = some (.int .i64 (j : Nat))) (hj : j ≤ 64) :
  Yl E n L S ⟨d, .binOp .shr xt x y yt, ty, pos, af, gd⟩ (.int .u64 ((i / 2 ^ j : Nat) : Int)) := fun a w g _ => by
 have e : (i : Int) / 2 ^ min ((j : Nat) : Int).toNat IntKind.u64.bits = ((i / 2 ^ j : Nat) : Int) := by
  rw [Int.toNat_natCast, show min j IntKind.u64.bits = j from Nat.min_eq_left hj, Int.natCast_ediv, Int.natCast_pow]; rfl
 have h := shift_shr_any .u64 .i64 (i : Int) ((j : Nat) : Int) (Int.natCast_nonneg j)
 rw [e] at h
 simp [execOp, eqGuard, binOp, g.ev hx, g.ev hy, h]
theorem qXw (i : Nat) : IntKind.u64.wrap ((BitVec.ofInt IntKind.u64.bits (i : Int) &&& BitVec.ofInt IntKind.u64.bits 1).toNat : Nat) = ((i % 2 : Nat) : Int) := by
 have h1 : (BitVec.ofInt IntKind.u64.bits (i : Int) &&& BitVec.ofInt IntKind.u64.bits 1).toNat = i % 2 := by
  show (BitVec.ofInt 64 (i : Int) &&& BitVec.ofInt 64 1).toNat = i % 2
  rw [BitVec.toNat_and, BitVec.ofInt_natCast, BitVec.toNat_ofNat, show (BitVec.ofInt 64 1).toNat = 1 from rfl, Nat.and_one_is_mod]
  omega
 rw [h1]
 simp [IntKind.wrap, IntKind.bits, IntKind.signed]
 omega
theorem qXv {x y : Operand} {xt yt : TypeId} {i : Nat} (hx : ev L x = some (.int .u64 (i : Nat))) (hy : ev L y = some (.int .u64 1)) :
  Yl E n L S ⟨d, .binOp .and xt x y yt, ty, pos, af, gd⟩ (.int .u64 ((i % 2 : Nat) : Int)) := fun a w g q => by
 have := y_and (xt := xt) (yt := yt) (ty := ty) (pos := pos) (af := af) (d := d) (gd := gd) (S := S) hx hy a w g q
 rw [qXw] at this
 exact this
theorem qKp {f : FuncId} {args : List Value} {v : Value} (h : ∀ w, Calls E.P f ⟨args⟩ w (fun e w' => e = .returned v ∧ w = w')) : Ct E f args [] (fun u Q => u = v ∧ Q = []) := fun R w s =>
 (h w).mono fun e w' ⟨h1, h2⟩ => ⟨v, [], h1, ⟨rfl, rfl⟩, h2 ▸ s⟩
end Sl
