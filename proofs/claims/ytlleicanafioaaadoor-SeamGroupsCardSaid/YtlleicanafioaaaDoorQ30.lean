import Derived.Test.YtlleicanafioaaaDoorQ17
set_option linter.all false
set_option maxHeartbeats 1000000
namespace Go.Proofs.YtlleicanafioaaaDoor
open Go Go.RowKit Sl Eg
section
def expF (L : List Rl) (l : Nat) : Nat → Nat → List Nat
 | 0, _ => []
 | f + 1, x => if x = 0 then [] else if lvl L x ≤ (l : Nat) then [x] else
  match L[x - 1]? with
  | some (.pair a b) => expF L l f a ++ expF L l f b
  | some (.power y k) => (List.replicate k (expF L l f y)).flatten
  | _ => [x]
def expd (L : List Rl) (l x : Nat) : List Nat := expF L l x x
theorem qTe (L : List Rl) (l f : Nat) : expF L l f 0 = [] := by cases f <;> simp [expF]
theorem qUw {L : List Rl} (hw : Wf L) {l : Nat} : ∀ x f, x ≤ f → expF L l f x = expF L l x x := by
 intro x
 induction x using Nat.strongRecOn with
 | _ x ih =>
  intro f hf
  cases x with
  | zero => rw [qTe, qTe]
  | succ x =>
   cases f with
   | zero => omega
   | succ f =>
    simp only [expF, Nat.add_sub_cancel]
    split
    ·rfl
    split
    ·rfl
    cases hr : L[x]? with
    | none => rfl
    | some r =>
     have hk := hw.ok x r hr
     cases r with
     | letter b => rfl
     | pair a b =>
      obtain ⟨h1, h2, h3, h4⟩ := hk
      simp only
      rw [ih a (by omega) f (by omega), ih a (by omega) x (by omega), ih b (by omega) f (by omega), ih b (by omega) x (by omega)]
     | power y k =>
      obtain ⟨h1, h2, h3⟩ := hk
      simp only
      rw [ih y (by omega) f (by omega), ih y (by omega) x (by omega)]
theorem qTf (L : List Rl) (l : Nat) : expd L l 0 = [] := rfl
theorem qBg {L : List Rl} {l x : Nat} (h1 : 1 ≤ x) (h : lvl L x ≤ (l : Nat)) : expd L l x = [x] := by
 obtain ⟨x, rfl⟩ : ∃ y, x = y + 1 := ⟨x - 1, by omega⟩
 unfold expd
 simp only [expF]
 rw [if_neg (by omega), if_pos h]
theorem qDf {L : List Rl} (hw : Wf L) {l i a b : Nat} (hi : L[i]? = some (.pair a b)) (h : (l : Int) < lvl L (i + 1)) : expd L l (i + 1) = expd L l a ++ expd L l b := by
 obtain ⟨h1, h2, h3, h4⟩ := hw.ok i _ hi
 unfold expd
 rw [expF, if_neg (by omega), if_neg (by omega), Nat.add_sub_cancel, hi]
 simp only
 rw [qUw hw a i (by omega), qUw hw b i (by omega)]
theorem qCk {L : List Rl} (hw : Wf L) {l i y k : Nat} (hi : L[i]? = some (.power y k)) (h : (l : Int) < lvl L (i + 1)) : expd L l (i + 1) = (List.replicate k (expd L l y)).flatten := by
 obtain ⟨h1, h2, h3⟩ := hw.ok i _ hi
 unfold expd
 rw [expF, if_neg (by omega), if_neg (by omega), Nat.add_sub_cancel, hi]
 simp only
 rw [qUw hw y i (by omega)]
def qAh (L : List Rl) (l : Nat) (ids : List Nat) : List Nat := ids.flatMap (expd L l)
theorem qAx (L : List Rl) (l : Nat) (a b : List Nat) : qAh L l (a ++ b) = qAh L l a ++ qAh L l b := by simp [qAh]
theorem qFq (L : List Rl) (l : Nat) : qAh L l [] = [] := rfl
theorem qBm (L : List Rl) (l x : Nat) : qAh L l [x] = expd L l x := by simp [qAh]
theorem zAt (L : List Rl) (l k : Nat) (a : List Nat) : qAh L l (List.replicate k a).flatten = (List.replicate k (qAh L l a)).flatten := by
 induction k with
 | zero => rfl
 | succ k ih => simp only [List.replicate_succ, List.flatten_cons, qAx, ih]
theorem qEu {L : List Rl} {l : Nat} {ids : List Nat} (h : ∀ x ∈ ids, 1 ≤ x ∧ lvl L x ≤ (l : Nat)) : qAh L l ids = ids := by
 induction ids with
 | nil => rfl
 | cons x ids ih =>
  have hx := h x (by simp)
  have e : qAh L l (x :: ids) = expd L l x ++ qAh L l ids := by simp [qAh]
  rw [e, qBg hx.1 hx.2, ih (fun y hy => h y (by simp [hy]))]
  rfl
theorem qFp {L : List Rl} (hw : Wf L) {l m : Nat} (hlm : l ≤ m) : ∀ x, x ≤ L.length → qAh L l (expd L m x) = expd L l x := by
 intro x
 induction x using Nat.strongRecOn with
 | _ x ih =>
  intro hx
  cases x with
  | zero => rfl
  | succ x =>
   by_cases h : lvl L (x + 1) ≤ (m : Nat)
   ·rw [qBg (by omega) h, qBm]
   have hr : L[x]? = some (L[x]'(by omega)) := List.getElem?_eq_getElem (by omega)
   generalize L[x]'(by omega) = r at hr
   have hk := hw.ok x r hr
   cases r with
   | letter b => have := (qCp hr).2; omega
   | pair a b =>
    obtain ⟨h1, h2, h3, h4⟩ := hk
    rw [qDf hw hr (by omega), qDf hw hr (by omega), qAx, ih a (by omega) (by omega), ih b (by omega) (by omega)]
   | power y k =>
    obtain ⟨h1, h2, h3⟩ := hk
    rw [qCk hw hr (by omega), qCk hw hr (by omega), zAt, ih y (by omega) (by omega)]
theorem qIo {L : List Rl} (hw : Wf L) {l m : Nat} (hlm : l ≤ m) {ids : List Nat} (h : ∀ x ∈ ids, x ≤ L.length) : qAh L l (qAh L m ids) = qAh L l ids := by
 induction ids with
 | nil => rfl
 | cons x ids ih =>
  have e : ∀ k, qAh L k (x :: ids) = expd L k x ++ qAh L k ids := fun k => by simp [qAh]
  rw [e m, e l, qAx, qFp hw hlm x (h x (by simp)), ih (fun y hy => h y (by simp [hy]))]
theorem expd_mem {L : List Rl} (hw : Wf L) {l : Nat} : ∀ x, x ≤ L.length → ∀ y ∈ expd L l x, 1 ≤ y ∧ y ≤ x ∧ lvl L y ≤ (l : Nat) := by
 intro x
 induction x using Nat.strongRecOn with
 | _ x ih =>
  intro hx y hy
  cases x with
  | zero => simp [qTf] at hy
  | succ x =>
   by_cases h : lvl L (x + 1) ≤ (l : Nat)
   ·rw [qBg (by omega) h] at hy
    simp at hy
    subst hy
    exact ⟨by omega, Nat.le_refl _, h⟩
   have hr : L[x]? = some (L[x]'(by omega)) := List.getElem?_eq_getElem (by omega)
   generalize L[x]'(by omega) = r at hr
   have hk := hw.ok x r hr
   cases r with
   | letter b => have := (qCp hr).2; omega
   | pair a b =>
    obtain ⟨h1, h2, h3, h4⟩ := hk
    rw [qDf hw hr (by omega)] at hy
    rcases List.mem_append.1 hy with h' | h'
    ·have := ih a (by omega) (by omega) y h'; omega
    have := ih b (by omega) (by omega) y h'; omega
   | power z k =>
    obtain ⟨h1, h2, h3⟩ := hk
    rw [qCk hw hr (by omega)] at hy
    obtain ⟨l', h4, h5⟩ := List.mem_flatten.1 hy
    rw [List.mem_replicate] at h4
    rw [h4.2] at h5
    have := ih z (by omega) (by omega) y h5
    omega
end
section
def Stp (L : List Rl) (lv : Nat) (ids out : List Nat) : Prop :=
 (lv % 2 = 1 ∧ Rns L (kL ids) out) ∨ (lv % 2 = 0 ∧ ∃ a o, Prs L ids (qBh (ids.map (key L)) (num lv)) a o ∧ out = o ++ ids.drop a)
theorem Stp.inv {L : List Rl} {lv : Nat} {ids out : List Nat} (h : Inv L lv ids) (h1 : 1 ≤ lv) (hs : Stp L lv ids out) : Inv L (lv + 1) out := by
 rcases hs with ⟨ho, hr⟩ | ⟨he, a, o, hp, rfl⟩
 ·exact hr.inv h ho
 exact hp.inv h he (by omega)
theorem zAu {L : List Rl} {l : Nat} {rs : List (Nat × Nat)} {out : List Nat} (h : Rns L rs out) (hx : ∀ g ∈ rs, ∀ id, RunId L g.1 g.2 id → expd L l id = List.replicate g.2 g.1) : qAh L l out = flat rs := by
 induction h with
 | nil => rfl
 | @snoc rs out x t id h1 h2 ih =>
  rw [qAx, qBm, ih (fun g hg => hx g (by simp [hg])), hx (x, t) (by simp) _ h2, qBn]
  simp [flat]
theorem qFg (k x : Nat) : (List.replicate k [x]).flatten = List.replicate k x := by
 induction k with
 | zero => rfl
 | succ k ih => simp only [List.replicate_succ, List.flatten_cons, ih]; rfl
theorem Stp.down {L : List Rl} {lv : Nat} {ids out : List Nat} (h : Inv L lv ids) (h1 : 1 ≤ lv) (hs : Stp L lv ids out) : qAh L (lv - 1) out = ids := by
 have low : ∀ x ∈ ids, expd L (lv - 1) x = [x] := fun x hx => by
  have := h.ok x hx
  exact qBg this.1 (by omega)
 rcases hs with ⟨ho, hr⟩ | ⟨he, a, o, hp, rfl⟩
 ·rw [zAu hr, qCm]
  intro g hg id hid
  obtain ⟨k, hk⟩ := List.getElem?_of_mem hg
  obtain ⟨x, t⟩ := g
  obtain ⟨A, B, e, ht, _⟩ := zCj hk
  have hxm : x ∈ ids := by
   rw [e]
   obtain ⟨t', rfl⟩ : ∃ t', t = t' + 1 := ⟨t - 1, by omega⟩
   simp [List.replicate_succ]
  rcases hid with ⟨h3, rfl⟩ | ⟨h3, i, rfl, hi⟩
  ·simp only at h3
   subst h3
   exact low _ hxm
  simp only at h3 hi
  have hlv := qRp h ho hk (.inr ⟨h3, i, rfl, hi⟩)
  rw [qCk h.wf hi (by omega), low x hxm, qFg]
 have key : ∀ {js a o}, Prs L ids js a o → (∀ i ∈ js, ∀ x y j, ids[i]? = some x → ids[i + 1]? = some y → L[j]? = some (.pair x y) → lvl L (j + 1) = lv) → qAh L (lv - 1) o = ids.take a := by
  intro js a o hp
  induction hp with
  | nil => intro _; rfl
  | snoc p1 p2 p3 p4 p5 ih =>
   intro hl
   rename_i js out at' i x y j
   have hxy := hl i (by simp) x y j p3 p4 p5
   have hxm := List.mem_of_getElem? p3
   have hym := List.mem_of_getElem? p4
   rw [qAx, qAx, ih (fun i hi => hl i (by simp [hi])), qBm, qDf h.wf p5 (by omega), low x hxm, low y hym]
   have em : qAh L (lv - 1) ((ids.drop at').take (i - at')) = (ids.drop at').take (i - at') := qEu fun z hz => by
    have hz' := h.ok z (List.mem_of_mem_drop (List.mem_of_mem_take hz))
    exact ⟨hz'.1, by omega⟩
   rw [em]
   have hil := (List.getElem?_eq_some_iff.1 p4).1
   have e1 : ids.take (i + 2) = ids.take i ++ [x, y] := by
    rw [List.take_add_one, List.take_add_one, p3, p4]
    simp
   have e2 : ids.take i = ids.take at' ++ (ids.drop at').take (i - at') := by
    conv => lhs; rw [← List.take_append_drop at' (ids.take i)]
    rw [List.take_take, Nat.min_eq_left p2, List.drop_take]
   rw [e1, e2]
   simp
 rw [qAx, key hp (fun i hi x y j hx hy hj => qXc h he (by omega) hi hx hy hj), qEu (fun z hz => by
  have := h.ok z (List.mem_of_mem_drop hz)
  exact ⟨this.1, by omega⟩), List.take_append_drop]
end
section
inductive Pg (L : List Rl) (c : Nat) : List Nat → List Nat → Prop where
 | nil : Pg L c [] []
 | one {x : Nat} {r o : List Nat} : (∀ y, r.head? = some y → ¬ qAd c (key L x) (key L y)) → Pg L c r o → Pg L c (x :: r) (x :: o)
 | two {x y j : Nat} {r o : List Nat} : qAd c (key L x) (key L y) → L[j]? = some (.pair x y) → Pg L c r o → Pg L c (x :: y :: r) ((j + 1) :: o)
inductive Rg (L : List Rl) : List Nat → List Nat → Prop where
 | nil : Rg L [] []
 | run {x t id : Nat} {r o : List Nat} : 1 ≤ t → RunId L x t id → r.head? ≠ some x → Rg L r o → Rg L (List.replicate t x ++ r) (id :: o)
inductive Prc (L : List Rl) (ids : List Nat) : Nat → List Nat → List Nat → Prop where
 | nil {a : Nat} : Prc L ids a [] (ids.drop a)
 | cons {a i x y j : Nat} {js out : List Nat} : a ≤ i → ids[i]? = some x → ids[i + 1]? = some y → L[j]? = some (.pair x y) → Prc L ids (i + 2) js out → Prc L ids a (i :: js) ((ids.drop a).take (i - a) ++ (j + 1) :: out)
theorem Prs.prc {L : List Rl} {ids js out : List Nat} {a : Nat} (h : Prs L ids js a out) : ∀ {js' out' : List Nat}, Prc L ids a js' out' → Prc L ids 0 (js ++ js') (out ++ out') := by
 induction h with
 | nil => intro js' out' h'; exact h'
 | snoc h h1 h2 h3 h4 ih =>
  intro js' out' h'
  have := ih (.cons h1 h2 h3 h4 h')
  simpa [List.append_assoc] using this
theorem Prc.prs {L : List Rl} {ids js out : List Nat} {a : Nat} (h : Prc L ids a js out) : ∀ {js0 o0 : List Nat}, Prs L ids js0 a o0 → ∃ b o, Prs L ids (js0 ++ js) b o ∧ o0 ++ out = o ++ ids.drop b := by
 induction h with
 | nil => intro js0 o0 h0; exact ⟨_, o0, by rw [List.append_nil]; exact h0, rfl⟩
 | cons h1 h2 h3 h4 _ ih =>
  intro js0 o0 h0
  obtain ⟨b, o, h5, h6⟩ := ih (.snoc h0 h1 h2 h3 h4)
  exact ⟨b, o, by simpa using h5, by rw [← h6]; simp⟩
theorem qQq : ∀ {l : List Nat} {a e : Nat}, Gaps l a e → ∀ i ∈ l, a ≤ i
 | [], _, _, _, i, hi => by simp at hi
 | j :: l, a, e, ⟨h0, h1, h2⟩, i, hi => by
  rcases List.mem_cons.1 hi with rfl | hi
  ·exact h0
  have := qQq h2 i hi; omega
structure Sel (L : List Rl) (c : Nat) (ids : List Nat) (k : Nat) (js : List Nat) : Prop where
 gaps : Gaps js k ids.length
 fit : ∀ i ∈ js, ∃ x y, ids[i]? = some x ∧ ids[i + 1]? = some y ∧ qAd c (key L x) (key L y)
 all : ∀ i x y, k ≤ i → ids[i]? = some x → ids[i + 1]? = some y → qAd c (key L x) (key L y) → i ∈ js ∨ ∃ j, i = j + 1 ∧ j ∈ js
theorem qUf (L : List Rl) (c : Nat) (ids : List Nat) : Sel L c ids 0 (qBh (ids.map (key L)) c) := by
 refine ⟨by have := qLo (ids.map (key L)) c; simpa using this, fun i hi => ?_, fun i x y _ hx hy hf => ?_⟩
 ·obtain ⟨kx, ky, h1, h2, h3⟩ := qTn hi
  rw [List.getElem?_map] at h1 h2
  cases e1 : ids[i]? with
  | none => rw [e1] at h1; simp at h1
  | some x =>
   cases e2 : ids[i + 1]? with
   | none => rw [e2] at h2; simp at h2
   | some y =>
    rw [e1] at h1
    rw [e2] at h2
    simp at h1 h2
    subst h1 h2
    exact ⟨x, y, rfl, rfl, h3⟩
 exact qPk (by rw [List.getElem?_map, hx]; rfl) (by rw [List.getElem?_map, hy]; rfl) hf
theorem Sel.split {L : List Rl} {c k : Nat} {ids js : List Nat} (h : Sel L c ids k js) (hk : k < ids.length) {x : Nat} (hx : ids[k]? = some x) :
  (∃ js' y, js = k :: js' ∧ Sel L c ids (k + 2) js' ∧ ids[k + 1]? = some y ∧ qAd c (key L x) (key L y)) ∨ (Sel L c ids (k + 1) js ∧ ∀ y, ids[k + 1]? = some y → ¬ qAd c (key L x) (key L y)) := by
 have hg := h.gaps
 cases js with
 | nil =>
  right
  refine ⟨⟨hk, fun i hi => by simp at hi, fun i x y h1 h2 h3 h4 => h.all i x y (by omega) h2 h3 h4⟩, fun y hy hf => ?_⟩
  rcases h.all k x y (Nat.le_refl _) hx hy hf with h1 | ⟨j, _, h1⟩ <;> simp at h1
 | cons i js' =>
  obtain ⟨g1, g2, g3⟩ := hg
  by_cases e : i = k
  ·subst e
   left
   obtain ⟨x', y, h1, h2, h3⟩ := h.fit i (by simp)
   rw [hx] at h1
   cases h1
   refine ⟨js', y, rfl, ⟨g3, fun j hj => h.fit j (by simp [hj]), fun j u v h4 h5 h6 h7 => ?_⟩, h2, h3⟩
   rcases h.all j u v (by omega) h5 h6 h7 with h8 | ⟨q, h8, h9⟩
   ·rcases List.mem_cons.1 h8 with h8 | h8
    ·omega
    exact .inl h8
   rcases List.mem_cons.1 h9 with h9 | h9
   ·omega
   exact .inr ⟨q, h8, h9⟩
  right
  have hg' : Gaps (i :: js') (k + 1) ids.length := ⟨by omega, g2, g3⟩
  refine ⟨⟨hg', h.fit, fun j u v h1 h2 h3 h4 => h.all j u v (by omega) h2 h3 h4⟩, fun y hy hf => ?_⟩
  rcases h.all k x y (Nat.le_refl _) hx hy hf with h1 | ⟨j, h0, h1⟩
  ·have := qQq hg' _ h1; omega
  have := qQq hg' _ h1; omega
theorem qJi {l : List Nat} {k x : Nat} (hx : l[k]? = some x) : l.drop k = x :: l.drop (k + 1) := by
 obtain ⟨h1, e1⟩ := List.getElem?_eq_some_iff.1 hx
 rw [List.drop_eq_getElem_cons h1, e1]
theorem Prc.pg {L : List Rl} {c : Nat} {ids : List Nat} : ∀ (m k : Nat) (js out : List Nat), ids.length - k ≤ m → k ≤ ids.length → Sel L c ids k js → Prc L ids k js out → Pg L c (ids.drop k) out
 | 0, k, js, out, hm, hk, hs, hp => by
  obtain rfl : k = ids.length := by omega
  rw [List.drop_of_length_le (Nat.le_refl _)]
  cases js with
  | nil => cases hp; rw [List.drop_of_length_le (Nat.le_refl _)]; exact .nil
  | cons i js => have := hs.gaps; have h1 := this.1; have h2 := this.2.1; omega
 | m + 1, k, js, out, hm, hk, hs, hp => by
  rcases Nat.lt_or_ge k ids.length with hlt | hge
  ·have hx : ids[k]? = some ids[k] := List.getElem?_eq_getElem hlt
   generalize ids[k] = x at hx
   rcases hs.split hlt hx with ⟨js', y, rfl, hs', hy, hf⟩ | ⟨hs', hn⟩
   ·have hyl := (List.getElem?_eq_some_iff.1 hy).1
    cases hp with
    | cons h1 h2 h3 h4 h5 =>
     rw [hx] at h2
     rw [hy] at h3
     cases h2
     cases h3
     rw [Nat.sub_self, List.take_zero, List.nil_append, qMd hx hy]
     exact .two hf h4 (Prc.pg m (k + 2) js' _ (by omega) (by omega) hs' h5)
   rw [qJi hx]
   have hn' : ∀ y, (ids.drop (k + 1)).head? = some y → ¬ qAd c (key L x) (key L y) := fun y hy => hn y (by rwa [List.head?_drop] at hy)
   cases hp with
   | nil => rw [qJi hx]; exact .one hn' (Prc.pg m (k + 1) [] _ (by omega) (by omega) hs' .nil)
   | cons h1 h2 h3 h4 h5 =>
    have hg := hs'.gaps.1
    rename_i i x' y' j js' out'
    rw [qJi hx, show i - k = (i - (k + 1)) + 1 by omega, List.take_succ_cons, List.cons_append]
    exact .one hn' (Prc.pg m (k + 1) _ _ (by omega) (by omega) hs' (.cons hg h2 h3 h4 h5))
  obtain rfl : k = ids.length := by omega
  rw [List.drop_of_length_le (Nat.le_refl _)]
  cases js with
  | nil => cases hp; rw [List.drop_of_length_le (Nat.le_refl _)]; exact .nil
  | cons i js => have := hs.gaps; have h1 := this.1; have h2 := this.2.1; omega
theorem Pg.prc {L : List Rl} {c : Nat} {ids : List Nat} : ∀ (m k : Nat) (js out : List Nat), ids.length - k ≤ m → k ≤ ids.length → Sel L c ids k js → Pg L c (ids.drop k) out → Prc L ids k js out
 | 0, k, js, out, hm, hk, hs, hp => by
  obtain rfl : k = ids.length := by omega
  cases js with
  | nil =>
   have e : ids.drop ids.length = [] := List.drop_of_length_le (Nat.le_refl _)
   rw [e] at hp
   cases hp
   have := Prc.nil (L := L) (ids := ids) (a := ids.length)
   rwa [e] at this
  | cons i js => have := hs.gaps; have h1 := this.1; have h2 := this.2.1; omega
 | m + 1, k, js, out, hm, hk, hs, hp => by
  rcases Nat.lt_or_ge k ids.length with hlt | hge
  ·have hx : ids[k]? = some ids[k] := List.getElem?_eq_getElem hlt
   generalize ids[k] = x at hx
   rcases hs.split hlt hx with ⟨js', y, rfl, hs', hy, hf⟩ | ⟨hs', hn⟩
   ·have hyl := (List.getElem?_eq_some_iff.1 hy).1
    rw [qMd hx hy] at hp
    cases hp with
    | one h1 h2 => exact absurd hf (h1 y rfl)
    | two h1 h2 h3 =>
     have := Prc.cons (a := k) (Nat.le_refl k) hx hy h2 (Pg.prc m (k + 2) js' _ (by omega) (by omega) hs' h3)
     rwa [Nat.sub_self, List.take_zero, List.nil_append] at this
   have e := qJi hx
   rw [e] at hp
   generalize hr : ids.drop (k + 1) = r at hp
   cases hp with
   | one h1 h2 =>
    subst hr
    have := Pg.prc m (k + 1) js _ (by omega) (by omega) hs' h2
    generalize hkk : k + 1 = k' at this
    cases this with
    | nil => subst hkk; rw [← e]; exact .nil
    | cons g1 g2 g3 g4 g5 =>
     subst hkk
     rename_i i x' y' j js' out'
     have := Prc.cons (a := k) (by omega) g2 g3 g4 g5
     rwa [e, show i - k = (i - (k + 1)) + 1 by omega, List.take_succ_cons, List.cons_append] at this
   | two h1 h2 h3 =>
    exfalso
    refine hn _ ?_ h1
    rw [← List.head?_drop, hr]; rfl
  obtain rfl : k = ids.length := by omega
  cases js with
  | nil =>
   have e : ids.drop ids.length = [] := List.drop_of_length_le (Nat.le_refl _)
   rw [e] at hp
   cases hp
   have := Prc.nil (L := L) (ids := ids) (a := ids.length)
   rwa [e] at this
  | cons i js => have := hs.gaps; have h1 := this.1; have h2 := this.2.1; omega
theorem pg_of {L : List Rl} {c a : Nat} {ids o : List Nat} (h : Prs L ids (qBh (ids.map (key L)) c) a o) : Pg L c ids (o ++ ids.drop a) := by
 have h1 := h.prc .nil
 rw [List.append_nil] at h1
 exact Prc.pg ids.length 0 _ _ (by omega) (Nat.zero_le _) (qUf L c ids) h1
theorem Pg.prs {L : List Rl} {c : Nat} {ids out : List Nat} (h : Pg L c ids out) : ∃ a o, Prs L ids (qBh (ids.map (key L)) c) a o ∧ out = o ++ ids.drop a := by
 have h1 := Pg.prc ids.length 0 _ out (by omega) (Nat.zero_le _) (qUf L c ids) h
 obtain ⟨b, o, h2, h3⟩ := h1.prs .nil
 exact ⟨b, o, h2, h3⟩
theorem Rns.cons {L : List Rl} {x t id : Nat} {rs : List (Nat × Nat)} {out : List Nat} (h : RunId L x t id) (hr : Rns L rs out) : Rns L ((x, t) :: rs) (id :: out) := by
 induction hr with
 | nil => exact .snoc (rs := []) (out := []) .nil h
 | snoc h1 h2 ih => exact .snoc ih h2
theorem Rns.uncons {L : List Rl} {g : Nat × Nat} {rs : List (Nat × Nat)} {out : List Nat} (h : Rns L (g :: rs) out) : ∃ id o, out = id :: o ∧ RunId L g.1 g.2 id ∧ Rns L rs o := by
 generalize e : g :: rs = q at h
 induction h generalizing rs with
 | nil => cases e
 | @snoc rs' out' x t id h1 h2 ih =>
  cases rs' with
  | nil =>
   cases e
   generalize e2 : ([] : List (Nat × Nat)) = z at h1
   cases h1 with
   | nil => exact ⟨id, [], rfl, h2, .nil⟩
   | snoc _ _ => simp at e2
  | cons g' rs'' =>
   simp only [List.cons_append, List.cons.injEq] at e
   obtain ⟨rfl, rfl⟩ := e
   obtain ⟨id', o, rfl, h3, h4⟩ := ih rfl
   exact ⟨id', o ++ [id], rfl, h3, .snoc h4 h2⟩
def Adjx (rs : List (Nat × Nat)) : Prop := ∀ (k x t y t' : Nat), rs[k]? = some (x, t) → rs[k + 1]? = some (y, t') → x ≠ y
theorem zAx {rs : List (Nat × Nat)} (hp : ∀ g ∈ rs, 1 ≤ g.2) {y : Nat} (h : (flat rs).head? = some y) : ∃ t, rs[0]? = some (y, t) := by
 cases rs with
 | nil => simp [flat] at h
 | cons g rs =>
  obtain ⟨x, t⟩ := g
  have := hp (x, t) (by simp)
  obtain ⟨m, rfl⟩ : ∃ m, t = m + 1 := ⟨t - 1, by simp only at this; omega⟩
  simp [flat, List.replicate_succ] at h
  subst h
  exact ⟨_, rfl⟩
theorem qNy {L : List Rl} : ∀ {rs : List (Nat × Nat)} {out : List Nat}, Rns L rs out → (∀ g ∈ rs, 1 ≤ g.2) → Adjx rs → Rg L (flat rs) out
 | [], out, h, hp, ha => by
  generalize e2 : ([] : List (Nat × Nat)) = z at h
  cases h with
  | nil => exact .nil
  | snoc _ _ => simp at e2
 | (x, t) :: rs, out, h, hp, ha => by
  obtain ⟨id, o, rfl, h1, h2⟩ := h.uncons
  have hp' : ∀ g ∈ rs, 1 ≤ g.2 := fun g hg => hp g (by simp [hg])
  rw [flat]
  refine .run (hp (x, t) (by simp)) h1 (fun hh => ?_) (qNy h2 hp' (fun k a b c d h3 h4 => ha (k + 1) a b c d h3 h4))
  obtain ⟨t', h3⟩ := zAx hp' hh
  exact ha 0 x t x t' rfl h3 rfl
theorem rg_of {L : List Rl} {ids out : List Nat} (h : Rns L (kL ids) out) : Rg L ids out := by
 have := qNy h (fun g hg => (qEm ids g hg).1) (fun k x t y t' h1 h2 => qXl ids k x t y t' h1 h2)
 rwa [qCm] at this
theorem qOe {l : List Nat} {a : List (Nat × Nat)} (h : kL l = a) {x : Nat} (hx : ∀ y t, a.getLast? = some (y, t) → y ≠ x) : ∀ t, kL (l ++ List.replicate (t + 1) x) = a ++ [(x, t + 1)]
 | 0 => by
  rw [show List.replicate (0 + 1) x = [x] from rfl, qCb, h]
  rcases List.eq_nil_or_concat a with rfl | ⟨b, ⟨y, k⟩, rfl⟩
  ·rfl
  rw [List.concat_eq_append] at hx ⊢
  exact qDn b (hx y k (by simp))
 | t + 1 => by
  rw [List.replicate_succ', ← List.append_assoc, qCb, qOe h hx t, qCw]
theorem qOd : ∀ (rs : List (Nat × Nat)), (∀ g ∈ rs, 1 ≤ g.2) → Adjx rs → kL (flat rs) = rs := fun rs => by
 refine qIu (P := fun rs => (∀ g ∈ rs, 1 ≤ g.2) → Adjx rs → kL (flat rs) = rs) (fun _ _ => rfl) ?_ rs
 intro rs g ih hp ha
 obtain ⟨x, t⟩ := g
 have hp' : ∀ g ∈ rs, 1 ≤ g.2 := fun g hg => hp g (by simp [hg])
 have ha' : Adjx rs := fun k a b c d h1 h2 => ha k a b c d (by rw [List.getElem?_append_left (List.getElem?_eq_some_iff.1 h1).1]; exact h1) (by rw [List.getElem?_append_left (List.getElem?_eq_some_iff.1 h2).1]; exact h2)
 have ht := hp (x, t) (by simp)
 obtain ⟨m, rfl⟩ : ∃ m, t = m + 1 := ⟨t - 1, by simp only at ht; omega⟩
 rw [qBn]
 have e : flat [(x, m + 1)] = List.replicate (m + 1) x := by simp [flat]
 rw [e]
 refine qOe (ih hp' ha') (fun y t hy => ?_) m
 rcases List.eq_nil_or_concat rs with rfl | ⟨b, ⟨y', k⟩, rfl⟩
 ·simp at hy
 rw [List.concat_eq_append] at hy ha
 simp at hy
 obtain ⟨rfl, rfl⟩ := hy
 exact ha b.length y' k x (m + 1) (by simp) (by simp)
theorem Rg.rns {L : List Rl} {ids out : List Nat} (h : Rg L ids out) : ∃ rs, flat rs = ids ∧ (∀ g ∈ rs, 1 ≤ g.2) ∧ Adjx rs ∧ Rns L rs out := by
 induction h with
 | nil => exact ⟨[], rfl, by simp, fun k x t y t' h => by simp at h, .nil⟩
 | @run x t id r o h1 h2 h3 h4 ih =>
  obtain ⟨rs, rfl, hp, ha, hr⟩ := ih
  refine ⟨(x, t) :: rs, rfl, fun g hg => ?_, fun k a b c d g1 g2 => ?_, .cons h2 hr⟩
  ·rcases List.mem_cons.1 hg with rfl | hg
   ·exact h1
   exact hp g hg
  cases k with
  | zero =>
   simp at g1 g2
   obtain ⟨rfl, rfl⟩ := g1
   intro e
   subst e
   apply h3
   cases rs with
   | nil => simp at g2
   | cons g rs =>
    simp at g2
    subst g2
    have := hp (x, d) (by simp)
    obtain ⟨m, rfl⟩ : ∃ m, d = m + 1 := ⟨d - 1, by simp only at this; omega⟩
    simp [flat, List.replicate_succ]
  | succ k => exact ha k a b c d (by simpa using g1) (by simpa using g2)
theorem Rg.runs {L : List Rl} {ids out : List Nat} (h : Rg L ids out) : Rns L (kL ids) out := by
 obtain ⟨rs, rfl, hp, ha, hr⟩ := h.rns
 rw [qOd rs hp ha]
 exact hr
def Sq (L : List Rl) (lv : Nat) (ids out : List Nat) : Prop := if lv % 2 = 1 then Rg L ids out else Pg L (num lv) ids out
theorem Sq.stp {L : List Rl} {lv : Nat} {ids out : List Nat} (h : Sq L lv ids out) : Stp L lv ids out := by
 unfold Sq at h
 split at h
 ·rename_i ho; exact .inl ⟨ho, h.runs⟩
 rename_i ho
 obtain ⟨a, o, h1, h2⟩ := h.prs
 exact .inr ⟨by omega, a, o, h1, h2⟩
theorem Stp.sq {L : List Rl} {lv : Nat} {ids out : List Nat} (h : Stp L lv ids out) : Sq L lv ids out := by
 unfold Sq
 rcases h with ⟨ho, hr⟩ | ⟨he, a, o, hp, rfl⟩
 ·rw [if_pos ho]; exact rg_of hr
 rw [if_neg (by omega)]; exact pg_of hp
end
section
theorem Pg.fn {L : List Rl} (hw : Wf L) {c : Nat} {ids o o' : List Nat} (h : Pg L c ids o) (h' : Pg L c ids o') : o = o' := by
 induction h generalizing o' with
 | nil => cases h'; rfl
 | one h1 h2 ih =>
  cases h' with
  | one g1 g2 => rw [ih g2]
  | two g1 g2 g3 => exact absurd g1 (h1 _ rfl)
 | two h1 h2 h3 ih =>
  cases h' with
  | one g1 g2 => exact absurd h1 (g1 _ rfl)
  | two g1 g2 g3 => rw [ih g3, hw.nodup _ _ _ h2 g2]
theorem Rg.fn {L : List Rl} (hw : Wf L) {ids o o' : List Nat} (h : Rg L ids o) (h' : Rg L ids o') : o = o' := h.runs.fn hw h'.runs
theorem Sq.fn {L : List Rl} (hw : Wf L) {lv : Nat} {ids o o' : List Nat} (h : Sq L lv ids o) (h' : Sq L lv ids o') : o = o' := by
 unfold Sq at h h'
 split at h
 ·rw [if_pos (by assumption)] at h'; exact h.fn hw h'
 rw [if_neg (by assumption)] at h'; exact h.fn hw h'
theorem Pg.ext {L : List Rl} (M : List Rl) {c : Nat} {ids o : List Nat} (h : Pg L c ids o) (hx : ∀ x ∈ ids, x ≤ L.length) : Pg (L ++ M) c ids o := by
 induction h with
 | nil => exact .nil
 | @one x r o h1 h2 ih =>
  refine .one (fun y hy => ?_) (ih fun z hz => hx z (by simp [hz]))
  rw [qAi M (hx x (by simp)), qAi M (hx y (by simp [List.mem_of_head? hy]))]
  exact h1 y hy
 | @two x y j r o h1 h2 h3 ih =>
  refine .two ?_ (qHf M h2) (ih fun z hz => hx z (by simp [hz]))
  rw [qAi M (hx x (by simp)), qAi M (hx y (by simp))]
  exact h1
theorem Rg.ext {L : List Rl} (M : List Rl) {ids o : List Nat} (h : Rg L ids o) : Rg (L ++ M) ids o := by
 induction h with
 | nil => exact .nil
 | run h1 h2 h3 h4 ih => exact .run h1 (h2.ext M) h3 ih
theorem Sq.ext {L : List Rl} (M : List Rl) {lv : Nat} {ids o : List Nat} (h : Sq L lv ids o) (hx : ∀ x ∈ ids, x ≤ L.length) : Sq (L ++ M) lv ids o := by
 unfold Sq at *
 split
 ·rw [if_pos (by assumption)] at h; exact h.ext M
 rw [if_neg (by assumption)] at h; exact h.ext M hx
theorem Sq.nil (L : List Rl) (lv : Nat) : Sq L lv [] [] := by
 unfold Sq; split
 ·exact .nil
 exact .nil
theorem Sq.one (L : List Rl) (lv x : Nat) : Sq L lv [x] [x] := by
 unfold Sq; split
 ·exact Rg.run (t := 1) (r := []) (Nat.le_refl _) (.inl ⟨rfl, rfl⟩) (by simp) .nil
 exact Pg.one (by simp) .nil
def Bdry (L : List Rl) (lv : Nat) (X X' Z : List Nat) : Prop := ∀ u v, X.getLast? = some u → Z.head? = some v → if lv % 2 = 1 then u ≠ v else (X'.getLast? = some u → ¬ qAd (num lv) (key L u) (key L v))
theorem qCh {α : Type} (a : α) {l : List α} {b : α} (h : l.getLast? = some b) : (a :: l).getLast? = some b := by
 cases l with
 | nil => simp at h
 | cons c l => rw [List.getLast?_cons_cons]; exact h
theorem Pg.nonempty {L : List Rl} {c : Nat} {x : Nat} {r o : List Nat} (h : Pg L c (x :: r) o) : o ≠ [] := by
 cases h <;> simp
theorem zBh {α : Type} (a : α) (l : List α) : (l = [] ∧ (a :: l).getLast? = some a) ∨ ∃ b, l.getLast? = some b ∧ (a :: l).getLast? = some b := by
 cases l with
 | nil => exact .inl ⟨rfl, rfl⟩
 | cons b l => exact .inr ⟨(b :: l).getLast (by simp), List.getLast?_eq_some_getLast _, by rw [List.getLast?_cons_cons]; exact List.getLast?_eq_some_getLast _⟩
theorem Pg.join {L : List Rl} {c : Nat} {X X' Z Z' : List Nat} (h : Pg L c X X') (hz : Pg L c Z Z') (hb : ∀ u v, X.getLast? = some u → X'.getLast? = some u → Z.head? = some v → ¬ qAd c (key L u) (key L v)) : Pg L c (X ++ Z) (X' ++ Z') := by
 induction h with
 | nil => exact hz
 | @one x r o h1 h2 ih =>
  refine .one (fun y hy => ?_) (ih fun u v e1 e2 e3 => hb u v (qCh x e1) (qCh x e2) e3)
  cases r with
  | nil => cases h2; exact hb x y rfl rfl hy
  | cons z r => exact h1 y (by simpa using hy)
 | @two x y j r o h1 h2 h3 ih =>
  exact .two h1 h2 (ih fun u v e1 e2 e3 => hb u v (qCh x (qCh y e1)) (qCh _ e2) e3)
theorem qXe {t x : Nat} (h : 1 ≤ t) (r : List Nat) (hr : r = []) : (List.replicate t x ++ r).getLast? = some x := by
 subst hr
 obtain ⟨m, rfl⟩ : ∃ m, t = m + 1 := ⟨t - 1, by omega⟩
 rw [List.append_nil, List.replicate_succ']
 simp
theorem Rg.join {L : List Rl} {X X' Z Z' : List Nat} (h : Rg L X X') (hz : Rg L Z Z') (hb : ∀ u v, X.getLast? = some u → Z.head? = some v → u ≠ v) : Rg L (X ++ Z) (X' ++ Z') := by
 induction h with
 | nil => exact hz
 | @run x t id r o h1 h2 h3 h4 ih =>
  rw [List.append_assoc, List.cons_append]
  refine .run h1 h2 (fun hh => ?_) (ih fun u v e1 e2 => hb u v ?_ e2)
  ·cases r with
   | nil => exact hb x x (qXe h1 _ rfl) hh rfl
   | cons z r => exact h3 (by simpa using hh)
  cases r with
  | nil => simp at e1
  | cons z r => rw [List.getLast?_append, e1]; rfl
theorem Sq.join {L : List Rl} {lv : Nat} {X X' Z Z' : List Nat} (h : Sq L lv X X') (hz : Sq L lv Z Z') (hb : Bdry L lv X X' Z) : Sq L lv (X ++ Z) (X' ++ Z') := by
 unfold Sq Bdry at *
 by_cases ho : lv % 2 = 1
 ·rw [if_pos ho] at *
  exact h.join hz (fun u v e1 e2 => by have := hb u v e1 e2; rwa [if_pos ho] at this)
 rw [if_neg ho] at *
 exact h.join hz (fun u v e1 e2 e3 => by have := hb u v e1 e3; rw [if_neg ho] at this; exact this e2)
theorem Pg.split {L : List Rl} (hw : Wf L) {c : Nat} : ∀ {A X' W' : List Nat}, Pg L c A (X' ++ W') → ∃ X W, A = X ++ W ∧ Pg L c X X' ∧ Pg L c W W' ∧ ∀ u v, X.getLast? = some u → X'.getLast? = some u → W.head? = some v → ¬ qAd c (key L u) (key L v)
 | A, [], W', h => ⟨[], A, rfl, .nil, h, fun u v e => by simp at e⟩
 | A, a :: X', W', h => by
  rw [List.cons_append] at h
  cases h with
  | @one x r o h1 h2 =>
   obtain ⟨X, W, rfl, g1, g2, g3⟩ := Pg.split hw h2
   refine ⟨a :: X, W, rfl, .one (fun y hy => h1 y (by rw [List.head?_append, hy]; rfl)) g1, g2, fun u v e1 e2 e3 => ?_⟩
   cases X with
   | nil =>
    cases g1
    simp at e1
    subst e1
    exact h1 v (by simpa using e3)
   | cons z X =>
    rcases zBh a X' with ⟨rfl, _⟩ | ⟨b, q1, q2⟩
    ·exact absurd rfl g1.nonempty
    rw [q2] at e2
    cases e2
    exact g3 _ v (by rwa [List.getLast?_cons_cons] at e1) q1 e3
  | @two x y j r o h1 h2 h3 =>
   obtain ⟨X, W, rfl, g1, g2, g3⟩ := Pg.split hw h3
   refine ⟨x :: y :: X, W, rfl, .two h1 h2 g1, g2, fun u v e1 e2 e3 => ?_⟩
   cases X with
   | nil =>
    cases g1
    simp at e1 e2
    have := hw.ok _ _ h2
    obtain ⟨_, _, _, h4⟩ := this
    omega
   | cons z X =>
    rcases zBh (j + 1) X' with ⟨rfl, _⟩ | ⟨b, q1, q2⟩
    ·exact absurd rfl g1.nonempty
    rw [q2] at e2
    cases e2
    exact g3 _ v (by rwa [List.getLast?_cons_cons, List.getLast?_cons_cons] at e1) q1 e3
theorem Rg.nonempty {L : List Rl} {x : Nat} {r o : List Nat} (h : Rg L (x :: r) o) : o ≠ [] := by
 generalize e : x :: r = z at h
 cases h with
 | nil => cases e
 | run _ _ _ _ => simp
theorem Rg.split {L : List Rl} : ∀ {A X' W' : List Nat}, Rg L A (X' ++ W') → ∃ X W, A = X ++ W ∧ Rg L X X' ∧ Rg L W W' ∧ ∀ u v, X.getLast? = some u → W.head? = some v → u ≠ v
 | A, [], W', h => ⟨[], A, rfl, .nil, h, fun u v e => by simp at e⟩
 | A, a :: X', W', h => by
  rw [List.cons_append] at h
  generalize e : a :: (X' ++ W') = z at h
  cases h with
  | nil => cases e
  | @run x t id r o h1 h2 h3 h4 =>
   cases e
   obtain ⟨X, W, rfl, g1, g2, g3⟩ := Rg.split h4
   refine ⟨List.replicate t x ++ X, W, by rw [List.append_assoc], .run h1 h2 (fun hh => h3 (by rw [List.head?_append, hh]; rfl)) g1, g2, fun u v e1 e3 => ?_⟩
   cases X with
   | nil =>
    rw [qXe h1 _ rfl] at e1
    cases e1
    intro e
    subst e
    exact h3 (by simpa using e3)
   | cons z X =>
    rw [List.getLast?_append, List.getLast?_eq_some_getLast (l := z :: X) (by simp)] at e1
    exact g3 u v (by rw [← e1, List.getLast?_eq_some_getLast (l := z :: X) (by simp)]; rfl) e3
theorem Sq.split {L : List Rl} (hw : Wf L) {lv : Nat} {A X' W' : List Nat} (h : Sq L lv A (X' ++ W')) : ∃ X W, A = X ++ W ∧ Sq L lv X X' ∧ Sq L lv W W' ∧ Bdry L lv X X' W := by
 unfold Sq Bdry at *
 by_cases ho : lv % 2 = 1
 ·simp only [if_pos ho] at *
  exact h.split
 simp only [if_neg ho] at *
 obtain ⟨X, W, h1, h2, h3, h4⟩ := h.split hw
 exact ⟨X, W, h1, h2, h3, fun u v e1 e2 e3 => h4 u v e1 e3 e2⟩
theorem Inv.left {L : List Rl} {lv : Nat} {a b : List Nat} (h : Inv L lv (a ++ b)) : Inv L lv a := by
 have hg : ∀ {i x : Nat}, a[i]? = some x → (a ++ b)[i]? = some x := fun hx => by rw [List.getElem?_append_left (List.getElem?_eq_some_iff.1 hx).1]; exact hx
 exact ⟨h.wf, fun x hx => h.ok x (by simp [hx]), fun i x h1 h2 => h.same i x (hg h1) (hg h2), fun i x y h1 h2 h3 => h.diff i x y (hg h1) (hg h2) h3⟩
theorem Inv.right {L : List Rl} {lv : Nat} {a b : List Nat} (h : Inv L lv (a ++ b)) : Inv L lv b := by
 have hg : ∀ {i x : Nat}, b[i]? = some x → (a ++ b)[a.length + i]? = some x := fun hx => by rw [List.getElem?_append_right (by omega), Nat.add_sub_cancel_left]; exact hx
 exact ⟨h.wf, fun x hx => h.ok x (by simp [hx]), fun i x h1 h2 => h.same (a.length + i) x (hg h1) (by have := hg h2; rwa [← Nat.add_assoc] at this), fun i x y h1 h2 h3 => h.diff (a.length + i) x y (hg h1) (by have := hg h2; rwa [← Nat.add_assoc] at this) h3⟩
theorem Sq.down {L : List Rl} {lv : Nat} {ids out : List Nat} (h : Sq L lv ids out) (hi : Inv L lv ids) (h1 : 1 ≤ lv) : qAh L (lv - 1) out = ids := h.stp.down hi h1
theorem Inv.one {L : List Rl} (hw : Wf L) {x lv : Nat} (h1 : 1 ≤ x) (h2 : x ≤ L.length) (h3 : 0 ≤ lvl L x) (h4 : lvl L x < lv) : Inv L lv [x] := by
 refine ⟨hw, fun y hy => ?_, fun i y e1 e2 => ?_, fun i y z e1 e2 => ?_⟩
 ·simp at hy; subst hy; exact ⟨h1, h2, h3, h4⟩
 ·simp at e2
 simp at e2
structure Sig (L : List Rl) (x : Nat) : Prop where
 pos : 1 ≤ x
 le : x ≤ L.length
 lv : 0 ≤ lvl L x
 inv : ∀ k, 1 ≤ k → Inv L k (expd L (k - 1) x)
 step : ∀ k, 1 ≤ k → Sq L k (expd L (k - 1) x) (expd L k x)
theorem Rch.rows {L : List Rl} (hw : Wf L) {bs : List UInt8} {lv : Nat} {ids : List Nat} (h : Rch L bs lv ids) : Inv L lv ids ∧ Lts L (qAh L 0 ids) bs ∧ ∀ k, 1 ≤ k → k < lv → Inv L k (qAh L (k - 1) ids) ∧ Sq L k (qAh L (k - 1) ids) (qAh L k ids) := by
 have step : ∀ {lv : Nat} {ids out : List Nat}, 1 ≤ lv → Stp L lv ids out → (Inv L lv ids ∧ Lts L (qAh L 0 ids) bs ∧ ∀ k, 1 ≤ k → k < lv → Inv L k (qAh L (k - 1) ids) ∧ Sq L k (qAh L (k - 1) ids) (qAh L k ids)) →
   Inv L (lv + 1) out ∧ Lts L (qAh L 0 out) bs ∧ ∀ k, 1 ≤ k → k < lv + 1 → Inv L k (qAh L (k - 1) out) ∧ Sq L k (qAh L (k - 1) out) (qAh L k out) := by
  intro lv ids out h1 hs ⟨hi, hl, hk⟩
  have hi' := hs.inv hi h1
  have hd := hs.down hi h1
  have hle : ∀ x ∈ out, x ≤ L.length := fun x hx => (hi'.ok x hx).2.1
  have tr : ∀ k, k < lv → qAh L k out = qAh L k ids := fun k hk => by rw [← hd, qIo hw (by omega) hle]
  refine ⟨hi', by rw [tr 0 (by omega)]; exact hl, fun k k1 k2 => ?_⟩
  rcases Nat.lt_or_ge k lv with hlt | hge
  ·rw [tr (k - 1) (by omega), tr k hlt]; exact hk k k1 hlt
  obtain rfl : k = lv := by omega
  rw [hd, qEu (ids := out) (fun x hx => by have := hi'.ok x hx; omega)]
  exact ⟨hi, hs.sq⟩
 induction h with
 | start h =>
  have hi := h.inv hw
  refine ⟨hi, ?_, fun k h1 h2 => by omega⟩
  rw [qEu (fun x hx => by have := hi.ok x hx; omega)]
  exact h
 | odd h h1 h2 h3 ih => exact step h.pos (.inl ⟨h1, h3⟩) ih
 | even h h1 h2 h3 h4 ih => exact step h.pos (.inr ⟨h1, _, _, h4, rfl⟩) ih
theorem Rch.sig {L : List Rl} (hw : Wf L) {bs : List UInt8} {lv x : Nat} (h : Rch L bs lv [x]) : Sig L x ∧ Lts L (expd L 0 x) bs := by
 obtain ⟨hi, hl, hk⟩ := h.rows hw
 rw [qBm] at hl
 have ho := hi.ok x (by simp)
 have low : ∀ k, lv - 1 ≤ k → expd L k x = [x] := fun k h => qBg ho.1 (by omega)
 refine ⟨⟨ho.1, ho.2.1, ho.2.2.1, fun k k1 => ?_, fun k k1 => ?_⟩, hl⟩
 ·rcases Nat.lt_or_ge k lv with hlt | hge
  ·have := (hk k k1 hlt).1; rwa [qBm] at this
  rw [low (k - 1) (by omega)]; exact .one hw ho.1 ho.2.1 ho.2.2.1 (by omega)
 rcases Nat.lt_or_ge k lv with hlt | hge
 ·have := (hk k k1 hlt).2; rwa [qBm, qBm] at this
 rw [low (k - 1) (by omega), low k (by omega)]; exact .one L k x
theorem Rch.next {L : List Rl} {bs : List UInt8} {lv : Nat} {ids out : List Nat} (h : Rch L bs lv ids) (h2 : 2 ≤ ids.length) (hle : ∀ x ∈ ids, x ≤ L.length) (hs : Sq L lv ids out) : Rch L bs (lv + 1) out := by
 rcases hs.stp with ⟨ho, hr⟩ | ⟨he, a, o, hp, rfl⟩
 ·exact .odd h ho h2 hr
 exact .even h he h2 hle hp
theorem Lts.append {L : List Rl} {a b : List Nat} {x y : List UInt8} (h : Lts L a x) (h' : Lts L b y) : Lts L (a ++ b) (x ++ y) := by
 induction h' with
 | nil => simpa using h
 | snoc _ h2 ih => rw [← List.append_assoc, ← List.append_assoc]; exact .snoc ih h2
end
section
theorem qWc {low x y : Nat} (hx : x < P61) (hy : y < P61) : after low x y ≤ low + 246 := by
 have hc : ∃ c, c ≤ 122 ∧ qAd c x y := by
  rcases qEb (c := 0) (by omega) hx hy with ⟨g1, _⟩ | ⟨k, g1, g2, g3, g4, g5⟩
  ·have := qJn hx hy; omega
  exact ⟨k, by omega, g4⟩
 obtain ⟨c, hc, hf⟩ := hc
 have h := (qHn (low := low) hx hy).2 (2 * (low / 2 + (c + 123 - low / 2 % 123) % 123 + 1)) (by omega) (by omega) (by
  have e : num (2 * (low / 2 + (c + 123 - low / 2 % 123) % 123 + 1)) = c := by unfold num; omega
  rw [e]; exact hf)
 omega
theorem qFf {L : List Rl} (hw : Wf L) {l : Nat} : ∀ x, 1 ≤ x → x ≤ L.length → 1 ≤ (expd L l x).length ∧ ((l : Int) < lvl L x → 2 ≤ (expd L l x).length) := by
 intro x
 induction x using Nat.strongRecOn with
 | _ x ih =>
  intro h1 hx
  obtain ⟨x, rfl⟩ : ∃ y, x = y + 1 := ⟨x - 1, by omega⟩
  by_cases h : lvl L (x + 1) ≤ (l : Nat)
  ·rw [qBg (by omega) h]
   exact ⟨Nat.le_refl _, fun h' => by omega⟩
  have hr : L[x]? = some (L[x]'(by omega)) := List.getElem?_eq_getElem (by omega)
  generalize L[x]'(by omega) = r at hr
  have hk := hw.ok x r hr
  have key : 2 ≤ (expd L l (x + 1)).length := by
   cases r with
   | letter b => have := (qCp hr).2; omega
   | pair a b =>
    obtain ⟨h1, h2, h3, h4⟩ := hk
    rw [qDf hw hr (by omega), List.length_append]
    have := (ih a (by omega) (by omega) (by omega)).1
    have := (ih b (by omega) (by omega) (by omega)).1
    omega
   | power y k =>
    obtain ⟨h1, h2, h3⟩ := hk
    rw [qCk hw hr (by omega)]
    have := (ih y (by omega) (by omega) (by omega)).1
    obtain ⟨m, rfl⟩ : ∃ m, k = m + 2 := ⟨k - 2, by omega⟩
    simp only [List.replicate_succ, List.flatten_cons, List.length_append]
    omega
  exact ⟨by omega, fun _ => key⟩
theorem qUg {L : List Rl} (hw : Wf L) {k : Nat} : ∀ (B : List Nat), (∀ y ∈ B, 1 ≤ y ∧ y ≤ L.length) → (∀ i y z, B[i]? = some y → B[i + 1]? = some z → ¬ (lvl L y ≤ (k : Nat) ∧ lvl L z ≤ (k : Nat))) →
  3 * B.length ≤ 2 * (qAh L k B).length + 1 ∧ ((∀ y, B.head? = some y → (k : Int) < lvl L y) → 3 * B.length ≤ 2 * (qAh L k B).length)
 | [], _, _ => by simp [qAh]
 | y :: B, hm, ha => by
  obtain ⟨i1, i2⟩ := qUg hw B (fun z hz => hm z (by simp [hz])) (fun i u v h1 h2 => ha (i + 1) u v (by simpa using h1) (by simpa using h2))
  have hy := hm y (by simp)
  obtain ⟨p1, p2⟩ := qFf hw (l := k) y hy.1 hy.2
  have e : (qAh L k (y :: B)).length = (expd L k y).length + (qAh L k B).length := by simp [qAh]
  rw [e, List.length_cons]
  by_cases hl : (k : Int) < lvl L y
  ·have := p2 hl
   exact ⟨by omega, fun _ => by omega⟩
  have h2 := i2 (fun z hz => by
   have := ha 0 y z rfl (by cases B with | nil => simp at hz | cons c B => simpa using hz)
   omega)
  exact ⟨by omega, fun hh => absurd (hh y rfl) hl⟩
theorem shrink {L : List Rl} (hw : Wf L) {k : Nat} {B : List Nat} (hi : Inv L (k + 249) B) : 3 * B.length ≤ 2 * (qAh L k B).length + 1 := by
 refine (qUg hw B (fun y hy => ⟨(hi.ok y hy).1, (hi.ok y hy).2.1⟩) (fun i y z h1 h2 h3 => ?_)).1
 by_cases e : y = z
 ·subst e
  have := (hi.same i y h1 h2).2
  omega
 have h4 := hi.diff i y z h1 h2 e
 have h5 := qWc (low := max (lvl L y).toNat (lvl L z).toNat) (qCg hw y) (qCg hw z)
 unfold aft at h4
 omega
def thd : Nat → Nat → Nat
 | 0, n => n
 | j + 1, n => (2 * thd j n + 1) / 3
theorem qRz {a b : Nat} (h : a ≤ b) : ∀ j, thd j a ≤ thd j b
 | 0 => h
 | j + 1 => by have := qRz h j; simp only [thd]; omega
theorem zCv : thd 103 kK = 1 := by decide +kernel
theorem qKz {L : List Rl} (hw : Wf L) {lv : Nat} {ids : List Nat} (hi : Inv L lv ids) (hk : ∀ k, 1 ≤ k → k < lv → Inv L k (qAh L (k - 1) ids)) : ∀ j, 248 * j < lv → (qAh L (248 * j) ids).length ≤ thd j (qAh L 0 ids).length
 | 0, _ => Nat.le_refl _
 | j + 1, h => by
  have ih := qKz hw hi hk j (by omega)
  have hle : ∀ x ∈ ids, x ≤ L.length := fun x hx => (hi.ok x hx).2.1
  have i2 : Inv L (248 * j + 249) (qAh L (248 * (j + 1)) ids) := by
   rcases Nat.lt_or_ge (248 * j + 249) lv with hlt | hge
   ·have := hk (248 * j + 249) (by omega) hlt
    rwa [show 248 * j + 249 - 1 = 248 * (j + 1) by omega] at this
   obtain rfl : lv = 248 * j + 249 := by omega
   rw [qEu (ids := ids) (fun x hx => by have := hi.ok x hx; omega)]
   exact hi
  have hs := shrink hw i2
  rw [qIo hw (by omega) hle] at hs
  simp only [thd]
  omega
theorem Lts.length {L : List Rl} {ids : List Nat} {bs : List UInt8} (h : Lts L ids bs) : ids.length = bs.length := by
 induction h with
 | nil => rfl
 | snoc _ _ ih => simp [ih]
theorem Rch.lv_le {L : List Rl} (hw : Wf L) {bs : List UInt8} (hb : bs.length ≤ kK) {lv : Nat} {ids : List Nat} (h : Rch L bs lv ids) (h2 : 2 ≤ ids.length) : lv ≤ 25544 := by
 obtain ⟨hi, hl, hk⟩ := h.rows hw
 apply Classical.byContradiction
 intro hgt
 have h1 := qKz hw hi (fun k a b => (hk k a b).1) 103 (by omega)
 have h3 := qRz (a := (qAh L 0 ids).length) (b := kK) (by rw [hl.length]; exact hb) 103
 rw [zCv] at h3
 have h4 : (qAh L (248 * 103) ids).length ≥ ids.length := by
  clear h1 h3
  have : ∀ (B : List Nat), (∀ y ∈ B, 1 ≤ y ∧ y ≤ L.length) → B.length ≤ (qAh L (248 * 103) B).length := by
   intro B
   induction B with
   | nil => intro _; simp
   | cons y B ih =>
    intro hm
    have := ih (fun z hz => hm z (by simp [hz]))
    have := (qFf hw (l := 248 * 103) y (hm y (by simp)).1 (hm y (by simp)).2).1
    have e : (qAh L (248 * 103) (y :: B)).length = (expd L (248 * 103) y).length + (qAh L (248 * 103) B).length := by simp [qAh]
    rw [e, List.length_cons]
    omega
  exact this ids (fun y hy => ⟨(hi.ok y hy).1, (hi.ok y hy).2.1⟩)
 omega
theorem Sig.lv_le {L : List Rl} (hw : Wf L) {x : Nat} (h : Sig L x) {bs : List UInt8} (hl : Lts L (expd L 0 x) bs) (hb : bs.length ≤ kK) : lvl L x ≤ 25544 := by
 apply Classical.byContradiction
 intro hgt
 have hI : Inv L 25545 (expd L 25544 x) := h.inv 25545 (by omega)
 have h1 := qKz (ids := expd L 25544 x) hw hI (fun k a b => by
  have := qFp hw (l := k - 1) (m := 25544) (by omega) x h.le
  rw [this]
  exact h.inv k a) 103 (by omega)
 rw [qFp hw (by omega) x h.le, qFp hw (by omega) x h.le] at h1
 have h3 := qRz (a := (expd L 0 x).length) (b := kK) (by rw [hl.length]; exact hb) 103
 rw [zCv] at h3
 have := (qFf hw (l := 248 * 103) x h.pos h.le).2 (by omega)
 omega
end
section
structure Fm where
 id : Nat
 hv : Nat
def qAp : Rl → Nat
 | .power _ k => k
 | _ => 2
def rlAt (L : List Rl) (x : Nat) : Rl := (L[x - 1]?).getD (.letter 0)
def cat (bh : Bool) (a b : List Nat) : List Nat := if bh then a ++ b else b ++ a
theorem qEp (bh : Bool) (a b c : List Nat) : cat bh (cat bh a b) c = cat bh a (cat bh b c) := by cases bh <;> simp [cat]
theorem qZq (bh : Bool) (a : List Nat) : cat bh a [] = a := by cases bh <;> simp [cat]
theorem qNo (bh : Bool) (a : List Nat) : cat bh [] a = a := by cases bh <;> simp [cat]
theorem zAr (L : List Rl) (l : Nat) (bh : Bool) (a b : List Nat) : qAh L l (cat bh a b) = cat bh (qAh L l a) (qAh L l b) := by cases bh <;> simp [cat, qAx]
def qBp (bh : Bool) (hv : Nat) : Rl → Nat
 | .pair a b => if (hv = 2 ∧ bh = false) ∨ (hv = 1 ∧ bh = true) then b else a
 | .power y _ => y
 | .letter _ => 0
def qGq (bh : Bool) (hv : Nat) : Rl → List Nat
 | .pair a b => if hv = 2 then [if bh then b else a] else []
 | .power y _ => List.replicate (hv - 1) y
 | .letter _ => []
def cutR (bh : Bool) (hv : Nat) : Rl → List Nat
 | .pair a b => if hv = 2 then [] else [if bh then a else b]
 | .power y k => List.replicate (k - hv) y
 | .letter _ => []
def qEe (L : List Rl) (bh : Bool) (l : Nat) (fs : List Fm) : List Nat := fs.foldl (fun acc f => cat bh (qAh L l (qGq bh f.hv (rlAt L f.id))) acc) []
def cutS (L : List Rl) (bh : Bool) (l : Nat) (fs : List Fm) : List Nat := fs.foldl (fun acc f => cat bh acc (qAh L l (cutR bh f.hv (rlAt L f.id)))) []
theorem qBk (L : List Rl) (bh : Bool) (l : Nat) (fs : List Fm) (f : Fm) : qEe L bh l (fs ++ [f]) = cat bh (qAh L l (qGq bh f.hv (rlAt L f.id))) (qEe L bh l fs) := by simp [qEe, List.foldl_append]
theorem zAn (L : List Rl) (bh : Bool) (l : Nat) (fs : List Fm) (f : Fm) : cutS L bh l (fs ++ [f]) = cat bh (cutS L bh l fs) (qAh L l (cutR bh f.hv (rlAt L f.id))) := by simp [cutS, List.foldl_append]
inductive Lk (L : List Rl) (bh : Bool) (root : Nat) : Nat → List Fm → Prop where
 | nil : Lk L bh root root []
 | snoc {x hv : Nat} {fs : List Fm} {r : Rl} : Lk L bh root x fs → 1 ≤ x → L[x - 1]? = some r → (∀ b, r ≠ .letter b) → 1 ≤ hv → hv ≤ qAp r → Lk L bh root (qBp bh hv r) (fs ++ [⟨x, hv⟩])
theorem qBo {L : List Rl} {x : Nat} {r : Rl} (h : L[x - 1]? = some r) : rlAt L x = r := by simp [rlAt, h]
theorem qEg {a b : List Fm} {f g : Fm} (h : a ++ [f] = b ++ [g]) : a = b ∧ f = g := by
 have := List.append_inj' h rfl
 simpa using this
theorem Lk.inv {L : List Rl} {bh : Bool} {root x : Nat} {fs : List Fm} {f : Fm} (h : Lk L bh root x (fs ++ [f])) : ∃ r, Lk L bh root f.id fs ∧ 1 ≤ f.id ∧ L[f.id - 1]? = some r ∧ (∀ b, r ≠ .letter b) ∧ 1 ≤ f.hv ∧ f.hv ≤ qAp r ∧ x = qBp bh f.hv r := by
 generalize e : fs ++ [f] = gs at h
 cases h with
 | nil => simp at e
 | snoc h1 h2 h3 h4 h5 h6 =>
  obtain ⟨rfl, rfl⟩ := qEg e
  exact ⟨_, h1, h2, h3, h4, h5, h6, rfl⟩
theorem Lk.nil_inv {L : List Rl} {bh : Bool} {root x : Nat} (h : Lk L bh root x []) : x = root := by
 generalize e : ([] : List Fm) = gs at h
 cases h with
 | nil => rfl
 | snoc _ _ _ _ _ _ => simp at e
theorem qJm {L : List Rl} (hw : Wf L) {bh : Bool} {x hv l : Nat} {r : Rl} (h1 : 1 ≤ x) (hr : L[x - 1]? = some r) (hn : ∀ b, r ≠ .letter b) (h2 : 1 ≤ hv) (h3 : hv ≤ qAp r) (hl : (l : Int) < lvl L x) :
  expd L l x = cat bh (qAh L l (cutR bh hv r)) (cat bh (expd L l (qBp bh hv r)) (qAh L l (qGq bh hv r))) := by
 obtain ⟨x, rfl⟩ : ∃ y, x = y + 1 := ⟨x - 1, by omega⟩
 rw [Nat.add_sub_cancel] at hr
 cases r with
 | letter b => exact absurd rfl (hn b)
 | pair a b =>
  rw [qDf hw hr hl]
  simp only [qAp] at h3
  rcases (show hv = 1 ∨ hv = 2 by omega) with rfl | rfl <;> cases bh <;> simp [cutR, qBp, qGq, cat, qBm, qFq]
 | power y k =>
  rw [qCk hw hr hl]
  simp only [qAp] at h3
  have e : ∀ m, qAh L l (List.replicate m y) = (List.replicate m (expd L l y)).flatten := fun m => by
   induction m with
   | zero => rfl
   | succ m ih =>
    rw [List.replicate_succ, List.replicate_succ, List.flatten_cons, ← ih]
    simp [qAh]
  have e2 : ∀ a b c : Nat, a + 1 + b = c → (List.replicate a (expd L l y)).flatten ++ (expd L l y ++ (List.replicate b (expd L l y)).flatten) = (List.replicate c (expd L l y)).flatten := fun a b c h => by
   subst h
   rw [Nat.add_assoc, ← List.replicate_append_replicate, List.flatten_append, Nat.add_comm 1 b, List.replicate_succ, List.flatten_cons]
  have e3 : ∀ a b c : Nat, a + 1 + b = c → ((List.replicate a (expd L l y)).flatten ++ expd L l y) ++ (List.replicate b (expd L l y)).flatten = (List.replicate c (expd L l y)).flatten := fun a b c h => by
   rw [List.append_assoc]; exact e2 a b c h
  simp only [cutR, qBp, qGq, e]
  cases bh
  ·simp only [cat, Bool.false_eq_true, if_false]
   exact (e3 (hv - 1) (k - hv) k (by omega)).symm
  simp only [cat, if_true]
  exact (e2 (k - hv) (hv - 1) k (by omega)).symm
theorem Lk.full {L : List Rl} (hw : Wf L) {bh : Bool} {root x l : Nat} {fs : List Fm} (h : Lk L bh root x fs) (hl : ∀ f ∈ fs, (l : Int) < lvl L f.id) : expd L l root = cat bh (cutS L bh l fs) (cat bh (expd L l x) (qEe L bh l fs)) := by
 induction h with
 | nil => simp [cutS, qEe, qNo, qZq]
 | @snoc x hv fs r h1 h2 h3 h4 h5 h6 ih =>
  rw [ih fun f hf => hl f (by simp [hf]), qJm hw (bh := bh) h2 h3 h4 h5 h6 (hl ⟨x, hv⟩ (by simp)), qBk, zAn, qBo h3]
  simp only [qEp]
theorem qQb {L : List Rl} (hw : Wf L) {bh : Bool} {x hv : Nat} {r : Rl} (h1 : 1 ≤ x) (hr : L[x - 1]? = some r) (hn : ∀ b, r ≠ .letter b) (hl : 0 ≤ lvl L x) : 1 ≤ qBp bh hv r ∧ qBp bh hv r < x ∧ 0 ≤ lvl L (qBp bh hv r) ∧ lvl L (qBp bh hv r) < lvl L x := by
 obtain ⟨x, rfl⟩ : ∃ y, x = y + 1 := ⟨x - 1, by omega⟩
 rw [Nat.add_sub_cancel] at hr
 have hk := hw.ok x r hr
 cases r with
 | letter b => exact absurd rfl (hn b)
 | pair a b =>
  have hp := (qFi hr hk).2
  obtain ⟨g1, g2, g3, g4⟩ := hk
  rw [hp] at hl ⊢
  split at hl
  ·rename_i hc
   have := qIy (low := max (lvl L a).toNat (lvl L b).toNat) (qCg hw a) (qCg hw b)
   rw [if_pos hc]
   by_cases hcc : (hv = 2 ∧ bh = false) ∨ (hv = 1 ∧ bh = true)
   ·have e : qBp bh hv (.pair a b) = b := if_pos hcc
    rw [e]
    exact ⟨by omega, by omega, by omega, by omega⟩
   have e : qBp bh hv (.pair a b) = a := if_neg hcc
   rw [e]
   exact ⟨by omega, by omega, by omega, by omega⟩
  omega
 | power y k =>
  have hp := (qEd hr hk).2
  obtain ⟨g1, g2, g3⟩ := hk
  rw [hp] at hl ⊢
  split at hl
  ·rename_i hc
   rw [if_pos hc]
   simp only [qBp]
   omega
  omega
theorem Lk.ok {L : List Rl} (hw : Wf L) {bh : Bool} {root x : Nat} {fs : List Fm} (hs : Sig L root) (h : Lk L bh root x fs) : 1 ≤ x ∧ x ≤ L.length ∧ 0 ≤ lvl L x ∧ ∀ f ∈ fs, 1 ≤ f.id ∧ f.id ≤ L.length ∧ lvl L x < lvl L f.id := by
 induction h with
 | nil => exact ⟨hs.pos, hs.le, hs.lv, by simp⟩
 | @snoc x hv fs r h1 h2 h3 h4 h5 h6 ih =>
  obtain ⟨i1, i2, i3, i4⟩ := ih
  obtain ⟨c1, c2, c3, c4⟩ := qQb (bh := bh) (hv := hv) hw h2 h3 h4 i3
  refine ⟨c1, by omega, c3, fun f hf => ?_⟩
  rcases List.mem_append.1 hf with hf | hf
  ·have := i4 f hf; exact ⟨this.1, this.2.1, by omega⟩
  obtain rfl := List.mem_singleton.1 hf; exact ⟨i1, i2, c4⟩
def seqE (L : List Rl) (bh : Bool) (l x : Nat) (fs : List Fm) : List Nat := cat bh (expd L l x) (qEe L bh l fs)
structure EO (L : List Rl) (bh : Bool) (l root x : Nat) (fs : List Fm) : Prop where
 lk : (x = 0 ∧ fs = []) ∨ (1 ≤ x ∧ Lk L bh root x fs ∧ lvl L x ≤ (l : Nat))
 hi : ∀ f ∈ fs, (l : Int) < lvl L f.id
theorem qCn (L : List Rl) (bh : Bool) (l : Nat) : seqE L bh l 0 [] = [] := by simp [seqE, qEe, qZq, qTf]
theorem EO.low {L : List Rl} {bh : Bool} {l root x : Nat} {fs : List Fm} (h : EO L bh l root x fs) (hx : x ≠ 0) : 1 ≤ x ∧ Lk L bh root x fs ∧ lvl L x ≤ (l : Nat) ∧ expd L l x = [x] := by
 rcases h.lk with ⟨h0, _⟩ | ⟨h1, h2, h3⟩
 ·exact absurd h0 hx
 exact ⟨h1, h2, h3, qBg h1 h3⟩
inductive Dn (L : List Rl) (bh : Bool) (l : Nat) (x : Nat) (fs : List Fm) : Nat → List Fm → Prop where
 | refl : Dn L bh l x fs x fs
 | step {y : Nat} {gs : List Fm} {r : Rl} : Dn L bh l x fs y gs → (l : Int) < lvl L y → L[y - 1]? = some r → Dn L bh l x fs (qBp bh (qAp r) r) (gs ++ [⟨y, qAp r⟩])
theorem qOn {L : List Rl} (hw : Wf L) {x : Nat} {r : Rl} (hr : L[x]? = some r) : 2 ≤ qAp r := by
 have := hw.ok x r hr
 cases r with
 | letter b => exact Nat.le_refl _
 | pair a b => exact Nat.le_refl _
 | power y k => exact this.2.2
theorem qPp {L : List Rl} {x : Nat} {r : Rl} (h1 : 1 ≤ x) (hr : L[x - 1]? = some r) (h : 0 < lvl L x) : ∀ b, r ≠ .letter b := by
 rintro b rfl
 obtain ⟨x, rfl⟩ : ∃ y, x = y + 1 := ⟨x - 1, by omega⟩
 rw [Nat.add_sub_cancel] at hr
 have := (qCp hr).2
 omega
theorem qTb (bh : Bool) (r : Rl) : cutR bh (qAp r) r = [] := by
 cases r <;> simp [cutR, qAp]
theorem Dn.ok {L : List Rl} (hw : Wf L) {bh : Bool} {l root x y : Nat} {fs gs : List Fm} (hs : Sig L root) (h : Dn L bh l x fs y gs) (hl : Lk L bh root x fs) (hh : ∀ f ∈ fs, (l : Int) < lvl L f.id) :
  Lk L bh root y gs ∧ (∀ f ∈ gs, (l : Int) < lvl L f.id) ∧ seqE L bh l x fs = seqE L bh l y gs ∧ ∃ ws, gs = fs ++ ws ∧ ∀ f ∈ ws, f.hv = qAp (rlAt L f.id) := by
 induction h with
 | refl => exact ⟨hl, hh, rfl, [], by simp, by simp⟩
 | @step y gs r h1 h2 h3 ih =>
  obtain ⟨i1, i2, i3, ws, i4, i5⟩ := ih
  have o := i1.ok hw hs
  have hn := qPp o.1 h3 (by omega)
  refine ⟨.snoc i1 o.1 h3 hn (by have := qOn hw h3; omega) (Nat.le_refl _), fun f hf => ?_, ?_, ws ++ [⟨y, qAp r⟩], by rw [i4, List.append_assoc], fun f hf => ?_⟩
  ·rcases List.mem_append.1 hf with hf | hf
   ·exact i2 f hf
   obtain rfl := List.mem_singleton.1 hf; exact h2
  ·rw [i3]
   unfold seqE
   rw [qJm hw (bh := bh) (hv := qAp r) o.1 h3 hn (by have := qOn hw h3; omega) (Nat.le_refl _) h2, qBk, qBo h3, qTb, qFq, qNo, qEp]
  rcases List.mem_append.1 hf with hf | hf
  ·exact i5 f hf
  obtain rfl := List.mem_singleton.1 hf
  simp only
  rw [qBo h3]
inductive Dp (L : List Rl) (bh : Bool) (l : Nat) : Nat → List Fm → Nat → List Fm → Prop where
 | nil {t : Nat} : Dp L bh l t [] 0 []
 | last {t x : Nat} {fs gs : List Fm} {f : Fm} : t < f.hv → Dn L bh l (qBp bh (f.hv - t) (rlAt L f.id)) (fs ++ [⟨f.id, f.hv - t⟩]) x gs → lvl L x ≤ (l : Nat) → Dp L bh l t (fs ++ [f]) x gs
 | pop {t x : Nat} {fs gs : List Fm} {f : Fm} : f.hv ≤ t → Dp L bh l 1 fs x gs → Dp L bh l t (fs ++ [f]) x gs
def Drp (L : List Rl) (t : Nat) (fs : List Fm) : Prop := 1 ≤ t ∧ (fs = [] → t = 1) ∧ ∀ gs f, fs = gs ++ [f] → t ≤ f.hv ∧ (t = 1 ∨ ∃ y k, rlAt L f.id = .power y k)
def BB (L : List Rl) (lv : Nat) (fs : List Fm) : Prop := ∀ f ∈ fs, lvl L f.id = (lv : Nat) → f.hv = qAp (rlAt L f.id)
theorem qZa {L : List Rl} (l : Nat) {bh : Bool} {r : Rl} {t hv : Nat} (h1 : 1 ≤ t) (h2 : t < hv) (h3 : hv ≤ qAp r) (hp : t = 1 ∨ ∃ y k, r = .power y k) (hn : ∀ b, r ≠ .letter b) :
  qAh L l (qGq bh hv r) = cat bh (qAh L l (List.replicate (t - 1) (qBp bh hv r))) (cat bh (expd L l (qBp bh (hv - t) r)) (qAh L l (qGq bh (hv - t) r))) := by
 cases r with
 | letter b => exact absurd rfl (hn b)
 | pair a b =>
  simp only [qAp] at h3
  obtain rfl : t = 1 := by rcases hp with h | ⟨y, k, h⟩; exact h; cases h
  obtain rfl : hv = 2 := by omega
  cases bh <;> simp [qGq, qBp, cat, qBm, qFq]
 | power y k =>
  simp only [qGq, qBp]
  have e : List.replicate (hv - 1) y = List.replicate (t - 1) y ++ ([y] ++ List.replicate (hv - t - 1) y) := by
   rw [show [y] = List.replicate 1 y from rfl, List.replicate_append_replicate, List.replicate_append_replicate]
   congr 1
   omega
  have e' : List.replicate (hv - 1) y = (List.replicate (hv - t - 1) y ++ [y]) ++ List.replicate (t - 1) y := by
   rw [show [y] = List.replicate 1 y from rfl, List.replicate_append_replicate, List.replicate_append_replicate]
   congr 1
   omega
  cases bh
  ·rw [e']; simp only [cat, Bool.false_eq_true, if_false, qAx, qBm]
  rw [e]; simp only [cat, if_true, qAx, qBm]
theorem Dp.rest {L : List Rl} (hw : Wf L) {bh : Bool} {l root t x' : Nat} {fs gs : List Fm} (hs : Sig L root) (h : Dp L bh l t fs x' gs) : ∀ {x : Nat}, Lk L bh root x fs → (∀ f ∈ fs, (l : Int) < lvl L f.id) → Drp L t fs → (∀ f g, fs = g ++ [f] → lvl L f.id = ((l + 1 : Nat) : Int) → t = f.hv) →
  EO L bh l root x' gs ∧ BB L (l + 1) gs ∧ qEe L bh l fs = cat bh (qAh L l (List.replicate (t - 1) x)) (seqE L bh l x' gs) := by
 induction h with
 | nil =>
  intro x hl hh hd hb
  obtain rfl := hd.2.1 rfl
  refine ⟨⟨.inl ⟨rfl, rfl⟩, by simp⟩, by simp [BB], ?_⟩
  rw [qCn]; simp [qEe, qAh, cat]
 | @last t x' fs gs f h1 h2 h3 =>
  intro x hl hh hd hb
  obtain ⟨r, l1, l2, l3, l4, l5, l6, rfl⟩ := hl.inv
  obtain ⟨d1, _, d2⟩ := hd
  obtain ⟨d3, d4⟩ := d2 fs f rfl
  rw [qBo l3] at h2 d4
  have hl' : Lk L bh root (qBp bh (f.hv - t) r) (fs ++ [⟨f.id, f.hv - t⟩]) := .snoc l1 l2 l3 l4 (by omega) (by omega)
  have hh' : ∀ g ∈ fs ++ [⟨f.id, f.hv - t⟩], (l : Int) < lvl L g.id := fun g hg => by
   rcases List.mem_append.1 hg with hg | hg
   ·exact hh g (by simp [hg])
   obtain rfl := List.mem_singleton.1 hg; exact hh f (by simp)
  obtain ⟨o1, o2, o3, ws, o4, o5⟩ := h2.ok hw hs hl' hh'
  have ok := o1.ok hw hs
  refine ⟨⟨.inr ⟨ok.1, o1, h3⟩, o2⟩, fun g hg hlv => ?_, ?_⟩
  ·rw [o4] at hg
   rcases List.mem_append.1 hg with hg | hg
   ·have hlf : lvl L f.id = ((l + 1 : Nat) : Int) → False := fun e => by have := hb f fs rfl e; omega
    rcases List.mem_append.1 hg with hg | hg
    ·have := (l1.ok hw hs).2.2.2 g hg
     have := hh f (by simp)
     omega
    obtain rfl := List.mem_singleton.1 hg; exact absurd hlv (fun e => hlf e)
   exact o5 g hg
  rw [qBk, qBo l3, qZa (L := L) l d1 h1 l6 d4 l4, qEp, ← o3]
  unfold seqE
  rw [qBk]
  simp only
  rw [qBo l3, qEp]
 | @pop t x' fs gs f h1 h2 ih =>
  intro x hl hh hd hb
  obtain ⟨r, l1, l2, l3, l4, l5, l6, rfl⟩ := hl.inv
  obtain ⟨d1, _, d2⟩ := hd
  obtain ⟨d3, d4⟩ := d2 fs f rfl
  rw [qBo l3] at d4
  obtain rfl : t = f.hv := by omega
  have ok := l1.ok hw hs
  have hlf := hh f (by simp)
  obtain ⟨i1, i2, i3⟩ := ih l1 (fun g hg => hh g (by simp [hg])) ⟨Nat.le_refl _, fun _ => rfl, fun g2 f2 e => ⟨by subst e; obtain ⟨_, _, _, _, _, q, _, _⟩ := l1.inv; exact q, .inl rfl⟩⟩ (fun f2 g2 e hlv => by
   subst e
   have := ok.2.2.2 f2 (by simp)
   omega)
  refine ⟨i1, i2, ?_⟩
  rw [qBk, qBo l3, i3]
  congr 1
  ·cases r with
   | letter b => exact absurd rfl (l4 b)
   | pair a b =>
    have e : f.hv = 1 := by rcases d4 with h | ⟨y, k, h⟩; exact h; cases h
    rw [e]; simp [qGq, qAh]
   | power y k => rfl
  simp [qAh, qNo]
theorem Dp.ok {L : List Rl} (hw : Wf L) {bh : Bool} {l root t x x' : Nat} {fs gs : List Fm} (hs : Sig L root) (h : Dp L bh l t fs x' gs) (he : EO L bh l root x fs) (hx : x ≠ 0) (hd : Drp L t fs) (hb : ∀ f g, fs = g ++ [f] → lvl L f.id = ((l + 1 : Nat) : Int) → t = f.hv) :
  EO L bh l root x' gs ∧ BB L (l + 1) gs ∧ seqE L bh l x fs = cat bh (List.replicate t x) (seqE L bh l x' gs) := by
 obtain ⟨h1, h2, h3, h4⟩ := he.low hx
 obtain ⟨r1, r2, r3⟩ := h.rest hw hs h2 he.hi hd hb
 refine ⟨r1, r2, ?_⟩
 have e : qAh L l (List.replicate (t - 1) x) = List.replicate (t - 1) x := qEu fun y hy => by
  rw [List.mem_replicate] at hy; rw [hy.2]; exact ⟨h1, h3⟩
 obtain ⟨m, rfl⟩ : ∃ m, t = m + 1 := ⟨t - 1, by have := hd.1; omega⟩
 conv => lhs; unfold seqE
 rw [h4, r3, e, ← qEp]
 congr 1
 rw [Nat.add_sub_cancel]
 cases bh
 ·simp [cat, List.replicate_succ']
 simp [cat, List.replicate_succ]
def upF (L : List Rl) (lv x : Nat) (fs : List Fm) : Nat × List Fm := match fs.getLast? with
 | some f => if lvl L f.id = (lv : Nat) ∧ qAp (rlAt L f.id) ≤ f.hv then (f.id, fs.dropLast) else (x, fs)
 | none => (x, fs)
theorem zDa (L : List Rl) (lv x : Nat) : upF L lv x [] = (x, []) := rfl
theorem qDx (L : List Rl) (lv x : Nat) (fs : List Fm) (f : Fm) : upF L lv x (fs ++ [f]) = if lvl L f.id = (lv : Nat) ∧ qAp (rlAt L f.id) ≤ f.hv then (f.id, fs) else (x, fs ++ [f]) := by simp [upF]
theorem qVl {L : List Rl} (hw : Wf L) {bh : Bool} {l m root x : Nat} {fs : List Fm} (hlm : l ≤ m) (hs : Sig L root) (h : Lk L bh root x fs) : qAh L l (qEe L bh m fs) = qEe L bh l fs := by
 induction h with
 | nil => rfl
 | @snoc x hv fs r h1 h2 h3 h4 h5 h6 ih =>
  rw [qBk, qBk, zAr, ih, qBo h3]
  congr 1
  refine qIo hw hlm fun y hy => ?_
  have hx := (h1.ok hw hs).2.1
  have hk := hw.ok _ r h3
  cases r with
  | letter b => simp [qGq] at hy
  | pair a b =>
   obtain ⟨g1, g2, g3, g4⟩ := hk
   simp only [qGq] at hy
   split at hy
   ·have := List.mem_singleton.1 hy
    split at this <;> omega
   simp at hy
  | power z k =>
   obtain ⟨g1, g2, g3⟩ := hk
   have := (List.mem_replicate.1 hy).2
   omega
theorem block {L : List Rl} (hw : Wf L) {bh : Bool} {l root z : Nat} {gs : List Fm} (hs : Sig L root) (h : Lk L bh root z gs) (hz : lvl L z ≤ ((l + 1 : Nat) : Int)) (hg : ∀ f ∈ gs, ((l + 1 : Nat) : Int) < lvl L f.id) :
  Sq L (l + 1) (qEe L bh l gs) (qEe L bh (l + 1) gs) ∧ Sq L (l + 1) (seqE L bh l z gs) (seqE L bh (l + 1) z gs) ∧ (bh = false → Bdry L (l + 1) (qEe L bh l gs) (qEe L bh (l + 1) gs) (expd L l z)) ∧ (bh = true → Bdry L (l + 1) (expd L l z) [z] (qEe L bh l gs)) := by
 have hf := h.full hw (l := l + 1) hg
 have ok := h.ok hw hs
 have ez : expd L (l + 1) z = [z] := qBg ok.1 hz
 have hst := hs.step (l + 1) (by omega)
 have hin := hs.inv (l + 1) (by omega)
 rw [Nat.add_sub_cancel] at hst hin
 have et := qVl (l := l) (m := l + 1) hw (by omega) hs h
 have ne : 1 ≤ (expd L l z).length := (qFf hw z ok.1 ok.2.1).1
 rw [hf] at hst
 unfold seqE
 rw [ez] at hst ⊢
 cases bh with
 | false =>
  simp only [cat, Bool.false_eq_true, if_false] at hst ⊢
  obtain ⟨P, C, e1, s1, s2, b1⟩ := hst.split hw
  rw [e1] at hin
  have d1 := s1.down hin.left (by omega)
  rw [Nat.add_sub_cancel, qAx, et, qBm] at d1
  subst d1
  obtain ⟨T, B, e2, s3, s4, b2⟩ := s1.split hw
  rw [e2] at hin
  have d2 := s3.down hin.left.left (by omega)
  rw [Nat.add_sub_cancel, et] at d2
  subst d2
  have e3 : B = expd L l z := (List.append_cancel_left e2).symm
  subst e3
  exact ⟨s3, s1, fun _ => b2, fun h => by cases h⟩
 | true =>
  simp only [cat, if_true] at hst ⊢
  obtain ⟨C, P, e1, s1, s2, b1⟩ := hst.split hw
  rw [e1] at hin
  have d1 := s2.down hin.right (by omega)
  rw [Nat.add_sub_cancel, qAx, et, qBm] at d1
  subst d1
  obtain ⟨B, T, e2, s3, s4, b2⟩ := s2.split hw
  rw [e2] at hin
  have d2 := s4.down hin.right.right (by omega)
  rw [Nat.add_sub_cancel, et] at d2
  subst d2
  have e3 : B = expd L l z := (List.append_cancel_right e2).symm
  subst e3
  exact ⟨s4, s2, fun h => (by cases h), fun _ => b2⟩
theorem EO.up {L : List Rl} (hw : Wf L) {bh : Bool} {l root x : Nat} {fs : List Fm} (hs : Sig L root) (he : EO L bh l root x fs) (hb : BB L (l + 1) fs) :
  EO L bh (l + 1) root (upF L (l + 1) x fs).1 (upF L (l + 1) x fs).2 ∧ Sq L (l + 1) (seqE L bh l x fs) (seqE L bh (l + 1) (upF L (l + 1) x fs).1 (upF L (l + 1) x fs).2) := by
 by_cases hx : x = 0
 ·rcases he.lk with ⟨rfl, rfl⟩ | ⟨h1, _⟩
  ·rw [zDa]
   simp only
   rw [qCn, qCn]
   exact ⟨⟨.inl ⟨rfl, rfl⟩, by simp⟩, .nil _ _⟩
  omega
 obtain ⟨h1, h2, h3, h4⟩ := he.low hx
 have key : ∀ z gs, Lk L bh root z gs → lvl L z ≤ ((l + 1 : Nat) : Int) → (∀ f ∈ gs, ((l + 1 : Nat) : Int) < lvl L f.id) → seqE L bh l x fs = seqE L bh l z gs → EO L bh (l + 1) root z gs ∧ Sq L (l + 1) (seqE L bh l x fs) (seqE L bh (l + 1) z gs) := fun z gs k1 k2 k3 k4 => by
  rw [k4]
  exact ⟨⟨.inr ⟨(k1.ok hw hs).1, k1, k2⟩, k3⟩, (block hw hs k1 k2 k3).2.1⟩
 rcases List.eq_nil_or_concat fs with rfl | ⟨gs, f, rfl⟩
 ·rw [zDa]
  exact key x [] h2 (by omega) (by simp) rfl
 rw [List.concat_eq_append] at *
 rw [qDx]
 obtain ⟨r, l1, l2, l3, l4, l5, l6, e⟩ := h2.inv
 have okf := l1.ok hw hs
 by_cases hlv : lvl L f.id = ((l + 1 : Nat) : Int)
 ·have hh := hb f (by simp) hlv
  rw [if_pos ⟨hlv, by omega⟩]
  refine key f.id gs l1 (by omega) (fun g hg => by have := okf.2.2.2 g hg; omega) ?_
  unfold seqE
  rw [qBo l3] at hh
  rw [qBk, qBo l3, ← qEp, qJm hw (bh := bh) l2 l3 l4 l5 l6 (by omega), ← e, hh, qTb, qFq, qNo]
 rw [if_neg (fun h => hlv h.1)]
 have hfl := he.hi f (by simp)
 refine key x (gs ++ [f]) h2 (by omega) (fun g hg => ?_) rfl
 rcases List.mem_append.1 hg with hg | hg
 ·have := okf.2.2.2 g hg; omega
 obtain rfl := List.mem_singleton.1 hg; omega
end
section
theorem qGo {L : List Rl} (hw : Wf L) {x a b : Nat} (h1 : 1 ≤ x) (hr : L[x - 1]? = some (.pair a b)) (hl : 0 ≤ lvl L x) : lvl L x % 2 = 0 ∧ a ≠ b ∧ lvl L a < lvl L x ∧ lvl L b < lvl L x ∧ ∀ lv : Nat, lvl L x = (lv : Nat) → qAd (num lv) (key L a) (key L b) := by
 obtain ⟨x, rfl⟩ : ∃ y, x = y + 1 := ⟨x - 1, by omega⟩
 rw [Nat.add_sub_cancel] at hr
 have hp := (qFi hr (hw.ok _ _ hr)).2
 rw [hp] at hl ⊢
 split at hl
 ·rename_i hc
  rw [if_pos hc]
  have h2 := qOx (max (lvl L a).toNat (lvl L b).toNat) (key L a) (key L b)
  have h3 := qIy (low := max (lvl L a).toNat (lvl L b).toNat) (qCg hw a) (qCg hw b)
  refine ⟨by omega, hc.1, by omega, by omega, fun lv e => ?_⟩
  have e' : after (max (lvl L a).toNat (lvl L b).toNat) (key L a) (key L b) = lv := by omega
  rw [← e']
  exact (qHn (qCg hw a) (qCg hw b)).1
 omega
theorem qJv {L : List Rl} (hw : Wf L) {x y k : Nat} (h1 : 1 ≤ x) (hr : L[x - 1]? = some (.power y k)) (hl : 0 ≤ lvl L x) : lvl L x % 2 = 1 ∧ lvl L x = lvl L y + 1 := by
 obtain ⟨x, rfl⟩ : ∃ y, x = y + 1 := ⟨x - 1, by omega⟩
 rw [Nat.add_sub_cancel] at hr
 have hp := (qEd hr (hw.ok _ _ hr)).2
 rw [hp] at hl ⊢
 split at hl
 ·rename_i hc
  rw [if_pos hc]
  omega
 omega
theorem BB_last {L : List Rl} (hw : Wf L) {bh : Bool} {root x lv : Nat} {fs : List Fm} (hs : Sig L root) (h : Lk L bh root x fs) (hh : ∀ f ∈ fs, (lv : Int) ≤ lvl L f.id) (hb : ∀ f g, fs = g ++ [f] → lvl L f.id = (lv : Nat) → f.hv = qAp (rlAt L f.id)) : BB L lv fs := by
 intro f hf hlv
 rcases List.eq_nil_or_concat fs with rfl | ⟨gs, g, rfl⟩
 ·simp at hf
 rw [List.concat_eq_append] at *
 rcases List.mem_append.1 hf with hf | hf
 ·obtain ⟨r, l1, _⟩ := h.inv
  have := (l1.ok hw hs).2.2.2 f hf
  have := hh g (by simp)
  omega
 obtain rfl := List.mem_singleton.1 hf
 exact hb f gs rfl hlv
theorem qXz {bh : Bool} {a b c : List Nat} (h : cat bh a b = cat bh a c) : b = c := by
 cases bh
 ·simpa [cat] using h
 simpa [cat] using h
def Par (L : List Rl) (lv : Nat) (fs : List Fm) : Option Fm → Prop
 | none => ∀ f g, fs = g ++ [f] → lvl L f.id ≠ (lv : Nat)
 | some f => (∃ g, fs = g ++ [f]) ∧ lvl L f.id = (lv : Nat)
def many (L : List Rl) : Option Fm → Nat
 | none => 1
 | some f => match rlAt L f.id with | .power _ _ => f.hv | _ => 1
theorem Par.none_hi {L : List Rl} (hw : Wf L) {bh : Bool} {root x l : Nat} {fs : List Fm} (hs : Sig L root) (h : Lk L bh root x fs) (hp : Par L (l + 1) fs none) (hh : ∀ f ∈ fs, (l : Int) < lvl L f.id) : ∀ f ∈ fs, ((l + 1 : Nat) : Int) < lvl L f.id := by
 intro f hf
 have h1 := hh f hf
 rcases List.eq_nil_or_concat fs with rfl | ⟨gs, g, rfl⟩
 ·simp at hf
 rw [List.concat_eq_append] at *
 have h2 := hp g gs rfl
 have h3 := hh g (by simp)
 rcases List.mem_append.1 hf with hf | hf
 ·obtain ⟨r, l1, _⟩ := h.inv
  have := (l1.ok hw hs).2.2.2 f hf
  omega
 obtain rfl := List.mem_singleton.1 hf; omega
structure Mvd (L : List Rl) (bh : Bool) (l root x t : Nat) (fs : List Fm) (o : Option Fm) (x' : Nat) (gs : List Fm) : Prop where
 eo : EO L bh l root x' gs
 bb : BB L (l + 1) gs
 seq : seqE L bh l x fs = cat bh (List.replicate t x) (seqE L bh l x' gs)
 left : bh = false → ∀ u, (seqE L bh l x' gs).getLast? = some u → if (l + 1) % 2 = 1 then u ≠ x else ((seqE L bh (l + 1) (upF L (l + 1) x' gs).1 (upF L (l + 1) x' gs).2).getLast? = some u → ¬ qAd (num (l + 1)) (key L u) (key L x))
 right : bh = true → (o = none ∨ (l + 1) % 2 = 1 ∨ num (l + 1) ≠ 122) → ∀ v, (seqE L bh l x' gs).head? = some v → if (l + 1) % 2 = 1 then x ≠ v else ¬ qAd (num (l + 1)) (key L x) (key L v)
theorem zBt {c x y z : Nat} (hc : c ≠ 122) (h : qAd c x y) : ¬ qAd c y z := by
 intro h'
 have h1 := (qHb hc).1 h
 have h2 := (qHb hc).1 h'
 exact h1.2 h2.1
theorem mvd {L : List Rl} (hw : Wf L) {bh : Bool} {l root x t x' : Nat} {fs gs : List Fm} {o : Option Fm} (hs : Sig L root) (he : EO L bh l root x fs) (hx : x ≠ 0) (ho : Par L (l + 1) fs o) (ht : t = many L o) (hov : (l + 1) % 2 = 0 → ∀ f, o = some f → f.hv = 1) (hd : Dp L bh l t fs x' gs) : Mvd L bh l root x t fs o x' gs := by
 obtain ⟨h1, h2, h3, h4⟩ := he.low hx
 -- the block
 have key : ∃ z gs0, Lk L bh root z gs0 ∧ lvl L z ≤ ((l + 1 : Nat) : Int) ∧ (∀ f ∈ gs0, ((l + 1 : Nat) : Int) < lvl L f.id) ∧ seqE L bh l x fs = cat bh (List.replicate t x) (qEe L bh l gs0) ∧ Drp L t fs ∧ (∀ f g, fs = g ++ [f] → lvl L f.id = ((l + 1 : Nat) : Int) → t = f.hv) ∧
   (bh = false → (expd L l z).head? = some x) ∧ (bh = true → (z = x ∨ (l + 1) % 2 = 1 ∧ (expd L l z).getLast? = some x) ∨ ((l + 1) % 2 = 0 ∧ o ≠ none ∧ ∃ a, qAd (num (l + 1)) (Eg.key L a) (Eg.key L x))) := by
  cases o with
  | none =>
   obtain rfl : t = 1 := ht
   refine ⟨x, fs, h2, by omega, ho.none_hi hw hs h2 he.hi, ?_, ⟨Nat.le_refl _, fun _ => rfl, fun g f e => ⟨by subst e; obtain ⟨_, _, _, _, _, q, _, _⟩ := h2.inv; exact q, .inl rfl⟩⟩, fun f g e hl => absurd hl (ho f g e), fun _ => by rw [h4]; rfl, fun _ => .inl (.inl rfl)⟩
   unfold seqE
   rw [h4]; rfl
  | some f =>
   obtain ⟨⟨g, rfl⟩, hlv⟩ := ho
   obtain ⟨r, l1, l2, l3, l4, l5, l6, ex⟩ := h2.inv
   have okf := l1.ok hw hs
   have hgi : ∀ f2 ∈ g, ((l + 1 : Nat) : Int) < lvl L f2.id := fun f2 hf2 => by have := okf.2.2.2 f2 hf2; omega
   unfold many at ht
   simp only at ht
   rw [qBo l3] at ht
   cases r with
   | letter b => exact absurd rfl (l4 b)
   | pair a b =>
    simp only at ht
    subst ht
    have hp := qGo hw l2 l3 (by omega)
    have hev : (l + 1) % 2 = 0 := by omega
    have hv1 := hov hev f rfl
    have exl := qJm hw (bh := bh) (hv := 1) (l := l) l2 l3 l4 (by omega) (by simp [qAp]) (by omega)
    refine ⟨f.id, g, l1, by omega, hgi, ?_, ⟨Nat.le_refl _, fun _ => rfl, fun g2 f2 e => ⟨by obtain ⟨_, rfl⟩ := qEg e; omega, .inl rfl⟩⟩, fun f2 g2 e _ => by obtain ⟨_, rfl⟩ := qEg e; omega, fun hbh => ?_, fun hbh => .inr ⟨hev, by simp, a, ?_⟩⟩
    ·unfold seqE
     rw [h4, qBk, qBo l3, hv1]
     simp [qGq, qFq, qNo]
    ·subst hbh
     rw [hv1] at ex
     rw [exl, ← ex, h4]
     simp [cutR, qGq, cat, qFq]
    subst hbh
    rw [hv1] at ex
    simp [qBp] at ex
    subst ex
    exact hp.2.2.2.2 (l + 1) hlv
   | power y k =>
    simp only at ht
    subst ht
    have hp := qJv hw l2 l3 (by omega)
    simp only [qBp] at ex
    subst ex
    simp only [qAp] at l6
    have er : ∀ m, qAh L l (List.replicate m x) = List.replicate m x := fun m => qEu fun y hy => by rw [List.mem_replicate] at hy; rw [hy.2]; exact ⟨h1, h3⟩
    have l2' : f.id = f.id - 1 + 1 := by omega
    have ef : expd L l f.id = List.replicate k x := by
     rw [l2', qCk hw l3 (by rw [← l2']; omega), h4, qFg]
    have hkk : 2 ≤ k := (hw.ok _ _ l3).2.2
    obtain ⟨k', rfl⟩ : ∃ k', k = k' + 1 := ⟨k - 1, by omega⟩
    refine ⟨f.id, g, l1, by omega, hgi, ?_, ⟨l5, fun e => by simp at e, fun g2 f2 e => ⟨by obtain ⟨_, rfl⟩ := qEg e; omega, .inr ?_⟩⟩, fun f2 g2 e _ => by obtain ⟨_, rfl⟩ := qEg e; rfl, fun hbh => ?_, fun hbh => .inl (.inr ⟨by omega, ?_⟩)⟩
    ·unfold seqE
     rw [h4, qBk, qBo l3]
     simp only [qGq]
     rw [er, ← qEp]
     congr 1
     obtain ⟨m, hm⟩ : ∃ m, f.hv = m + 1 := ⟨f.hv - 1, by omega⟩
     rw [hm, Nat.add_sub_cancel]
     cases bh
     ·simp [cat, List.replicate_succ']
     simp [cat, List.replicate_succ]
    ·obtain ⟨_, rfl⟩ := qEg e
     exact ⟨_, _, qBo l3⟩
    ·rw [ef, List.replicate_succ]; rfl
    rw [ef, List.replicate_succ']; simp
 obtain ⟨z, gs0, b1, b2, b3, b4, b5, b6, b7, b8⟩ := key
 obtain ⟨d1, d2, d3⟩ := hd.ok hw hs he hx b5 b6
 have eT : seqE L bh l x' gs = qEe L bh l gs0 := qXz (d3.symm.trans b4)
 obtain ⟨s1, s2, s3, s4⟩ := block hw hs b1 b2 b3
 have eT' : seqE L bh (l + 1) (upF L (l + 1) x' gs).1 (upF L (l + 1) x' gs).2 = qEe L bh (l + 1) gs0 := by
  have := (d1.up hw hs d2).2
  rw [eT] at this
  exact this.fn hw s1
 refine ⟨d1, d2, d3, fun hbh u hu => ?_, fun hbh hcase v hv => ?_⟩
 ·rw [eT] at hu
  rw [eT']
  exact s3 hbh u x hu (b7 hbh)
 rw [eT] at hv
 rcases b8 hbh with (rfl | ⟨ho1, hl⟩) | ⟨he1, hon, a, hf⟩
 ·rw [h4] at s4
  have := s4 hbh z v rfl hv
  split
  ·rwa [if_pos (by assumption)] at this
  rw [if_neg (by assumption)] at this
  exact this rfl
 ·have := s4 hbh x v hl hv
  rw [if_pos ho1] at this ⊢
  exact this
 rw [if_neg (by omega)]
 refine zBt ?_ hf
 rcases hcase with h | h | h
 ·exact absurd h hon
 ·omega
 exact h
end
section
structure It where
 id : Nat
 next : Nat
 times : Nat
def itF (it : It) : List Nat := (List.replicate it.times (if it.next = 0 then [it.id] else [it.id, it.next])).flatten
def qAa (its : List It) : List Nat := its.flatMap itF
theorem qJo : qAa [] = [] := rfl
theorem qAm (a b : List It) : qAa (a ++ b) = qAa a ++ qAa b := by simp [qAa]
theorem qBj (a : It) (b : List It) : qAa (a :: b) = itF a ++ qAa b := by simp [qAa]
theorem qBv (a : It) : qAa [a] = itF a := by simp [qAa]
theorem qNi (x t : Nat) : itF ⟨x, 0, t⟩ = List.replicate t x := by simp [itF, qFg]
def Sng (its : List It) : Prop := ∀ it ∈ its, it.next = 0 ∧ 1 ≤ it.times
theorem qDg {it : It} (h : it.next = 0) : itF it = List.replicate it.times it.id := by
 obtain ⟨x, n, t⟩ := it
 simp only at h
 subst h
 exact qNi x t
def qAz (list : List It) (x : It) : List It := match list.getLast? with
 | some y => if y.id = x.id then list.dropLast ++ [⟨y.id, y.next, y.times + x.times⟩] else list ++ [x]
 | none => list ++ [x]
theorem qFx (x : It) : qAz [] x = [x] := rfl
theorem qCy (l : List It) (y x : It) : qAz (l ++ [y]) x = if y.id = x.id then l ++ [⟨y.id, y.next, y.times + x.times⟩] else l ++ [y] ++ [x] := by simp [qAz]
theorem qAt {l : List It} {x : It} (h : Sng l) (hx : x.next = 0) : qAa (qAz l x) = qAa l ++ List.replicate x.times x.id := by
 rcases List.eq_nil_or_concat l with rfl | ⟨a, y, rfl⟩
 ·rw [qFx, qBv, qDg hx]; rfl
 rw [List.concat_eq_append] at *
 have hy := h y (by simp)
 rw [qCy]
 split
 ·rename_i e
  rw [qAm, qAm, qBv, qBv, qDg hy.1, qDg (it := ⟨y.id, y.next, y.times + x.times⟩) hy.1, List.append_assoc]
  simp only
  rw [← e, List.replicate_append_replicate]
 rw [qAm, qBv, qDg hx]
theorem qDj {l : List It} {x : It} (h : Sng l) (hx : x.next = 0 ∧ 1 ≤ x.times) : Sng (qAz l x) := by
 rcases List.eq_nil_or_concat l with rfl | ⟨a, y, rfl⟩
 ·rw [qFx]; intro it hit; simp at hit; subst hit; exact hx
 rw [List.concat_eq_append] at *
 have hy := h y (by simp)
 rw [qCy]
 split <;> intro it hit
 ·rcases List.mem_append.1 hit with hit | hit
  ·exact h it (by simp [hit])
  obtain rfl := List.mem_singleton.1 hit
  exact ⟨hy.1, by simp only; omega⟩
 rcases List.mem_append.1 hit with hit | hit
 ·exact h it hit
 obtain rfl := List.mem_singleton.1 hit; exact hx
theorem qTv (l : List It) (x : It) : (qAz l x).length ≤ l.length + 1 ∧ 1 ≤ (qAz l x).length := by
 rcases List.eq_nil_or_concat l with rfl | ⟨a, y, rfl⟩
 ·simp [qFx]
 rw [List.concat_eq_append, qCy]
 split <;> simp
def prI (its : List It) : List (Nat × Nat) := its.map fun it => (it.id, it.times)
theorem flat_prI {its : List It} (h : Sng its) : flat (prI its) = qAa its := by
 induction its with
 | nil => rfl
 | cons a l ih =>
  have e : flat (prI (a :: l)) = List.replicate a.times a.id ++ flat (prI l) := rfl
  rw [e, ih (fun it hit => h it (by simp [hit])), qBj, qDg (h a (by simp)).1]
theorem qWa {rs : List (Nat × Nat)} {g : Nat × Nat} (h : Adjx rs) (hg : ∀ y t, rs.getLast? = some (y, t) → y ≠ g.1) : Adjx (rs ++ [g]) := by
 intro k x t y t' h1 h2
 have hk := (List.getElem?_eq_some_iff.1 h2).1
 rw [List.length_append, List.length_singleton] at hk
 rcases Nat.lt_or_ge (k + 1) rs.length with hlt | hge
 ·rw [List.getElem?_append_left (by omega)] at h1
  rw [List.getElem?_append_left hlt] at h2
  exact h k x t y t' h1 h2
 have hr : k = rs.length - 1 := by omega
 rw [List.getElem?_append_left (by omega)] at h1
 rw [List.getElem?_append_right hge, show k + 1 - rs.length = 0 by omega] at h2
 simp at h2
 subst h2
 refine hg x t ?_
 rw [List.getLast?_eq_getElem?, ← hr]
 exact h1
theorem adj_left {a b : List (Nat × Nat)} (h : Adjx (a ++ b)) : Adjx a := fun k x t y t' h1 h2 =>
 h k x t y t' (by rw [List.getElem?_append_left (List.getElem?_eq_some_iff.1 h1).1]; exact h1) (by rw [List.getElem?_append_left (List.getElem?_eq_some_iff.1 h2).1]; exact h2)
theorem adj_last {a : List (Nat × Nat)} {y t t' : Nat} (h : Adjx (a ++ [(y, t)])) : Adjx (a ++ [(y, t')]) := by
 refine qWa (adj_left h) fun x s hx => ?_
 rcases List.eq_nil_or_concat a with rfl | ⟨b, z, rfl⟩
 ·simp at hx
 rw [List.concat_eq_append] at *
 simp at hx
 subst hx
 exact h b.length x s y t (by simp) (by simp)
theorem zCb {l : List It} {x : It} (h : Adjx (prI l)) : Adjx (prI (qAz l x)) := by
 rcases List.eq_nil_or_concat l with rfl | ⟨a, y, rfl⟩
 ·rw [qFx]; intro k x t y t' h1 h2; simp [prI] at h2
 rw [List.concat_eq_append] at *
 rw [qCy]
 split
 ·simp only [prI, List.map_append, List.map_cons, List.map_nil] at h ⊢
  exact adj_last h
 rename_i hne
 simp only [prI, List.map_append, List.map_cons, List.map_nil] at h ⊢
 refine qWa h fun z s hz => ?_
 simp at hz
 rw [← hz.1]
 exact hne
def PgB (L : List Rl) (c : Nat) (done out : List Nat) (nxt : Option Nat) : Prop := Pg L c done out ∧ ∀ u v, done.getLast? = some u → out.getLast? = some u → nxt = some v → ¬ qAd c (key L u) (key L v)
theorem PgB.start (L : List Rl) (c : Nat) (nxt : Option Nat) : PgB L c [] [] nxt := ⟨.nil, fun u v e => by simp at e⟩
theorem PgB.single {L : List Rl} {c x : Nat} {done out : List Nat} {nxt : Option Nat} (h : PgB L c done out (some x)) (hn : ∀ v, nxt = some v → ¬ qAd c (key L x) (key L v)) : PgB L c (done ++ [x]) (out ++ [x]) nxt := by
 refine ⟨h.1.join (.one (by simp) .nil) fun u v e1 e2 e3 => ?_, fun u v e1 e2 e3 => ?_⟩
 ·simp at e3; subst e3; exact h.2 u x e1 e2 rfl
 simp at e1; subst e1; exact hn v e3
theorem PgB.pair {L : List Rl} (hw : Wf L) {c x y j : Nat} {done out : List Nat} {nxt : Option Nat} (h : PgB L c done out (some x)) (hf : qAd c (key L x) (key L y)) (hj : L[j]? = some (.pair x y)) : PgB L c (done ++ [x, y]) (out ++ [j + 1]) nxt := by
 refine ⟨h.1.join (.two hf hj .nil) fun u v e1 e2 e3 => ?_, fun u v e1 e2 e3 => ?_⟩
 ·simp at e3; subst e3; exact h.2 u x e1 e2 rfl
 simp at e1 e2
 subst e1
 obtain ⟨_, _, _, h4⟩ := hw.ok _ _ hj
 omega
theorem PgB.pairs {L : List Rl} (hw : Wf L) {c x y j : Nat} {out : List Nat} {nxt : Option Nat} (hf : qAd c (key L x) (key L y)) (hj : L[j]? = some (.pair x y)) : ∀ (t : Nat) {done : List Nat}, PgB L c done out (some x) → PgB L c (done ++ (List.replicate (t + 1) [x, y]).flatten) (out ++ List.replicate (t + 1) (j + 1)) nxt
 | 0, done, h => by simpa using h.pair hw hf hj (nxt := nxt)
 | t + 1, done, h => by
  have := (PgB.pairs hw hf hj t h (nxt := some x)).pair hw hf hj (nxt := nxt)
  rw [List.replicate_succ' (n := t + 1), List.replicate_succ' (n := t + 1), List.flatten_append, ← List.append_assoc, ← List.append_assoc]
  simpa using this
theorem PgB.ext {L : List Rl} (M : List Rl) {c : Nat} {done out : List Nat} {nxt : Option Nat} (h : PgB L c done out nxt) (h1 : ∀ x ∈ done, x ≤ L.length) (h2 : ∀ x, nxt = some x → x ≤ L.length) : PgB (L ++ M) c done out nxt := by
 refine ⟨h.1.ext M h1, fun u v e1 e2 e3 => ?_⟩
 rw [qAi M (h1 u (List.mem_of_getLast? e1)), qAi M (h2 v e3)]
 exact h.2 u v e1 e2 e3
structure RL (L : List Rl) (l root x : Nat) (fs : List Fm) (Z : List Nat) : Prop where
 eo : EO L false l root x fs
 bb : BB L (l + 1) fs
 bd : Bdry L (l + 1) (seqE L false l x fs) (seqE L false (l + 1) (upF L (l + 1) x fs).1 (upF L (l + 1) x fs).2) Z
structure RR (L : List Rl) (l root x : Nat) (fs : List Fm) (M : List Nat) : Prop where
 eo : EO L true l root x fs
 bb : BB L (l + 1) fs
 bd : ∀ u v, M.getLast? = some u → (seqE L true l x fs).head? = some v → if (l + 1) % 2 = 1 then u ≠ v else ¬ qAd (num (l + 1)) (key L u) (key L v)
theorem EO.zero {L : List Rl} {bh : Bool} {l root : Nat} {fs : List Fm} (h : EO L bh l root 0 fs) : fs = [] := by
 rcases h.lk with ⟨_, h⟩ | ⟨h, _⟩
 ·exact h
 omega
theorem EO.last {L : List Rl} {l root x : Nat} {fs : List Fm} (h : EO L false l root x fs) (hx : x ≠ 0) : (seqE L false l x fs).getLast? = some x := by
 obtain ⟨_, _, _, h4⟩ := h.low hx
 unfold seqE
 rw [h4]
 simp [cat]
theorem EO.head {L : List Rl} {l root x : Nat} {fs : List Fm} (h : EO L true l root x fs) (hx : x ≠ 0) : (seqE L true l x fs).head? = some x := by
 obtain ⟨_, _, _, h4⟩ := h.low hx
 unfold seqE
 rw [h4]
 simp [cat]
theorem zCg {L : List Rl} {l root : Nat} {fs : List Fm} {Z : List Nat} (h : EO L false l root 0 fs) : RL L l root 0 fs Z := by
 obtain rfl := h.zero
 exact ⟨h, by simp [BB], fun u v e => by rw [qCn] at e; simp at e⟩
theorem qRn {L : List Rl} {l root : Nat} {fs : List Fm} {M : List Nat} (h : EO L true l root 0 fs) : RR L l root 0 fs M := by
 obtain rfl := h.zero
 exact ⟨h, by simp [BB], fun u v _ e => by rw [qCn] at e; simp at e⟩
theorem qTo {L : List Rl} (hw : Wf L) {bh : Bool} {l root x : Nat} {fs : List Fm} {o : Option Fm} (hs : Sig L root) (h : EO L bh l root x fs) (hx : x ≠ 0) (ho : Par L (l + 1) fs o) (hh : ∀ f, o = some f → f.hv = qAp (rlAt L f.id)) : BB L (l + 1) fs := by
 obtain ⟨_, h2, _, _⟩ := h.low hx
 refine BB_last hw hs h2 (fun f hf => by have := h.hi f hf; omega) fun f g e hlv => ?_
 cases o with
 | none => exact absurd hlv (ho f g e)
 | some f' =>
  obtain ⟨⟨g', e'⟩, _⟩ := ho
  rw [e'] at e
  obtain ⟨_, rfl⟩ := qEg e
  exact hh f' rfl
theorem rl_odd {L : List Rl} (hw : Wf L) {l root x : Nat} {fs : List Fm} {o : Option Fm} {Z : List Nat} (hs : Sig L root) (h : EO L false l root x fs) (hx : x ≠ 0) (ho : Par L (l + 1) fs o) (hh : ∀ f, o = some f → f.hv = qAp (rlAt L f.id)) (hodd : (l + 1) % 2 = 1) (hz : ∀ v, Z.head? = some v → x ≠ v) : RL L l root x fs Z := by
 refine ⟨h, qTo hw hs h hx ho hh, fun u v e1 e2 => ?_⟩
 rw [h.last hx] at e1
 cases e1
 rw [if_pos hodd]
 exact hz v e2
theorem rr_odd {L : List Rl} (hw : Wf L) {l root x : Nat} {fs : List Fm} {o : Option Fm} {M : List Nat} (hs : Sig L root) (h : EO L true l root x fs) (hx : x ≠ 0) (ho : Par L (l + 1) fs o) (hh : ∀ f, o = some f → f.hv = qAp (rlAt L f.id)) (hodd : (l + 1) % 2 = 1) (hm : ∀ u, M.getLast? = some u → u ≠ x) : RR L l root x fs M := by
 refine ⟨h, qTo hw hs h hx ho hh, fun u v e1 e2 => ?_⟩
 rw [h.head hx] at e2
 cases e2
 rw [if_pos hodd]
 exact hm u e1
theorem qFb {L : List Rl} (hw : Wf L) {bh : Bool} {l root x : Nat} {fs : List Fm} {f : Fm} (hs : Sig L root) (h : EO L bh l root x fs) (hx : x ≠ 0) (ho : Par L (l + 1) fs (some f)) (hev : (l + 1) % 2 = 0) : ∃ g a b, fs = g ++ [f] ∧ Lk L bh root f.id g ∧ 1 ≤ f.id ∧ L[f.id - 1]? = some (.pair a b) ∧ rlAt L f.id = .pair a b ∧ 1 ≤ f.hv ∧ f.hv ≤ 2 ∧ x = qBp bh f.hv (.pair a b) ∧ qAd (num (l + 1)) (key L a) (key L b) ∧ lvl L a ≤ (l : Nat) ∧ lvl L b ≤ (l : Nat) := by
 obtain ⟨_, h2, _, _⟩ := h.low hx
 obtain ⟨⟨g, rfl⟩, hlv⟩ := ho
 obtain ⟨r, l1, l2, l3, l4, l5, l6, ex⟩ := h2.inv
 have ok := l1.ok hw hs
 cases r with
 | letter b => exact absurd rfl (l4 b)
 | pair a b =>
  have hp := qGo hw l2 l3 ok.2.2.1
  exact ⟨g, a, b, rfl, l1, l2, l3, qBo l3, l5, l6, ex, hp.2.2.2.2 (l + 1) hlv, by omega, by omega⟩
 | power y k => have := (qJv hw l2 l3 ok.2.2.1).1; omega
theorem rl_two {L : List Rl} (hw : Wf L) {l root x : Nat} {fs : List Fm} {f : Fm} {Z : List Nat} (hs : Sig L root) (h : EO L false l root x fs) (hx : x ≠ 0) (ho : Par L (l + 1) fs (some f)) (hev : (l + 1) % 2 = 0) (h2 : f.hv = 2) : RL L l root x fs Z := by
 obtain ⟨g, a, b, rfl, l1, l2, l3, l4, l5, l6, ex, hf, _⟩ := qFb hw hs h hx ho hev
 have hb := qTo hw hs h hx ho (fun f' e => by cases e; rw [l4, h2]; rfl)
 refine ⟨h, hb, fun u v e1 e2 => ?_⟩
 rw [h.last hx] at e1
 cases e1
 rw [if_neg (by omega)]
 intro e3
 exfalso
 rw [qDx, if_pos ⟨ho.2, by rw [l4, h2]; exact Nat.le_refl _⟩] at e3
 have hu := (h.up hw hs hb).1
 rw [qDx, if_pos ⟨ho.2, by rw [l4, h2]; exact Nat.le_refl _⟩] at hu
 rw [hu.last (by simp only; omega)] at e3
 simp only [Option.some.injEq] at e3
 have := (h.low hx).2.2.1
 have := ho.2
 rw [e3] at this
 omega
theorem zCf {L : List Rl} (hw : Wf L) {l root x : Nat} {fs : List Fm} {Z : List Nat} (hs : Sig L root) (h : EO L false l root x fs) (hx : x ≠ 0) (ho : Par L (l + 1) fs none) (hev : (l + 1) % 2 = 0) (hz : ∀ v, Z.head? = some v → ¬ qAd (num (l + 1)) (key L x) (key L v)) : RL L l root x fs Z := by
 refine ⟨h, qTo hw hs h hx ho (fun f' e => by cases e), fun u v e1 e2 => ?_⟩
 rw [h.last hx] at e1
 cases e1
 rw [if_neg (by omega)]
 exact fun _ => hz v e2
theorem qRe {L : List Rl} {l root x t x' : Nat} {fs gs : List Fm} {o : Option Fm} {Z : List Nat} (h : Mvd L false l root x t fs o x' gs) (hz : Z.head? = some x) : RL L l root x' gs Z := by
 refine ⟨h.eo, h.bb, fun u v e1 e2 => ?_⟩
 rw [hz] at e2
 cases e2
 exact h.left rfl u e1
theorem qRl {L : List Rl} (hw : Wf L) {l root x : Nat} {fs : List Fm} {o : Option Fm} {M : List Nat} (hs : Sig L root) (h : EO L true l root x fs) (hx : x ≠ 0) (ho : Par L (l + 1) fs o) (hh : ∀ f, o = some f → f.hv = 2) (hev : (l + 1) % 2 = 0) (hm : ∀ u, M.getLast? = some u → ¬ qAd (num (l + 1)) (key L u) (key L x)) : RR L l root x fs M := by
 refine ⟨h, qTo hw hs h hx ho (fun f e => ?_), fun u v e1 e2 => ?_⟩
 ·subst e
  obtain ⟨g, a, b, e2, l1, l2, l3, l4, _⟩ := qFb hw hs h hx ho hev
  rw [l4, hh f rfl]; rfl
 rw [h.head hx] at e2
 cases e2
 rw [if_neg (by omega)]
 exact hm u e1
theorem rr_two {L : List Rl} (hw : Wf L) {l root x : Nat} {fs : List Fm} {f : Fm} {M : List Nat} (hs : Sig L root) (h : EO L true l root x fs) (hx : x ≠ 0) (ho : Par L (l + 1) fs (some f)) (hev : (l + 1) % 2 = 0) (h2 : f.hv = 2) (hn : num (l + 1) ≠ 122) : RR L l root x fs M := by
 obtain ⟨g, a, b, e, l1, l2, l3, l4, l5, l6, ex, hf, _⟩ := qFb hw hs h hx ho hev
 refine qRl hw hs h hx ho (fun f' e => by cases e; exact h2) hev fun u _ hu => ?_
 rw [h2] at ex
 simp [qBp] at ex
 subst ex
 exact zBt hn hu hf
theorem qRm {L : List Rl} {l root x t x' : Nat} {fs gs : List Fm} {o : Option Fm} {M : List Nat} (h : Mvd L true l root x t fs o x' gs) (hc : o = none ∨ (l + 1) % 2 = 1 ∨ num (l + 1) ≠ 122) (hm : M.getLast? = some x) : RR L l root x' gs M := by
 refine ⟨h.eo, h.bb, fun u v e1 e2 => ?_⟩
 rw [hm] at e1
 cases e1
 exact h.right rfl hc v e2
theorem zBq {L : List Rl} (hw : Wf L) {l root x x' : Nat} {fs gs : List Fm} {f : Fm} {a b t : Nat} (hs : Sig L root) (h : EO L true l root x (fs ++ [f])) (hx : x ≠ 0) (hlv : lvl L f.id = ((l + 1 : Nat) : Int)) (hev : (l + 1) % 2 = 0) (h2 : f.hv = 2) (hr : rlAt L f.id = .pair a b) (hd : Drp L t fs) (hp : Dp L true l t fs x' gs) :
  EO L true l root x' gs ∧ BB L (l + 1) gs ∧ seqE L true l x (fs ++ [f]) = (List.replicate t [a, b]).flatten ++ seqE L true l x' gs := by
 obtain ⟨g, a', b', e, l1, l2, l3, l4, l5, l6, ex, hf, la, lb⟩ := qFb hw hs h hx ⟨⟨fs, rfl⟩, hlv⟩ hev
 obtain ⟨rfl, _⟩ := qEg e
 rw [hr] at l4
 cases l4
 have ok := l1.ok hw hs
 have hk := hw.ok _ _ l3
 obtain ⟨k1, k2, k3, k4⟩ := hk
 obtain ⟨r1, r2, r3⟩ := hp.rest hw hs l1 (fun f' hf' => h.hi f' (by simp [hf'])) hd (fun f' g' e hl => by
  subst e
  have := ok.2.2.2 f' (by simp)
  omega)
 refine ⟨r1, r2, ?_⟩
 have el : expd L l f.id = [a, b] := by
  have l2' : f.id = f.id - 1 + 1 := by omega
  rw [l2', qDf hw l3 (by rw [← l2']; omega), qBg k1 la, qBg k3 lb]; rfl
 have e1 : seqE L true l x (fs ++ [f]) = [a, b] ++ qEe L true l fs := by
  obtain ⟨_, _, _, h4⟩ := h.low hx
  rw [h2] at ex
  simp [qBp] at ex
  subst ex
  unfold seqE
  rw [h4, qBk, hr, h2]
  simp [cat, qGq, qBm, qBg k3 lb]
 have e2 : ∀ m, qAh L l (List.replicate m f.id) = (List.replicate m [a, b]).flatten := fun m => by
  induction m with
  | zero => rfl
  | succ m ih =>
   rw [List.replicate_succ, List.replicate_succ, List.flatten_cons, ← ih]
   simp [qAh, el]
 obtain ⟨m, rfl⟩ : ∃ m, t = m + 1 := ⟨t - 1, by have := hd.1; omega⟩
 rw [e1, r3, e2, Nat.add_sub_cancel, List.replicate_succ, List.flatten_cons]
 simp [cat]
theorem qVt {L : List Rl} (hw : Wf L) {l rl rr xl xr : Nat} {fl fr : List Fm} {M M' : List Nat} (sl : Sig L rl) (sr : Sig L rr) (hl : RL L l rl xl fl (M ++ seqE L true l xr fr)) (hr : RR L l rr xr fr M) (hm : Sq L (l + 1) M M') :
  Sq L (l + 1) (seqE L false l xl fl ++ (M ++ seqE L true l xr fr)) (seqE L false (l + 1) (upF L (l + 1) xl fl).1 (upF L (l + 1) xl fl).2 ++ (M' ++ seqE L true (l + 1) (upF L (l + 1) xr fr).1 (upF L (l + 1) xr fr).2)) := by
 refine (hl.eo.up hw sl hl.bb).2.join (hm.join (hr.eo.up hw sr hr.bb).2 fun u v e1 e2 => ?_) hl.bd
 have := hr.bd u v e1 e2
 split
 ·rwa [if_pos (by assumption)] at this
 rw [if_neg (by assumption)] at this
 exact fun _ => this
end
end Go.Proofs.YtlleicanafioaaaDoor
