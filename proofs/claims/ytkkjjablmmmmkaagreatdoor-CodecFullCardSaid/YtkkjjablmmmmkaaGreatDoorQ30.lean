import Derived.Test.YtkkjjablmmmmkaaGreatDoorQ17
set_option linter.all false
namespace Go.Proofs.YtkkjjablmmmmkaaGreatDoor
open Go Go.RowKit Sl Eg
section
def expF (L : List Rl) (l : Nat) : Nat → Nat → List Nat
 | 0, _ => []
 | f + 1, x => if x = 0 then [] else if lvl L x ≤ (l : Nat) then [x] else
  match L[x - 1]? with
  | some (.pair a b) => expF L l f a ++ expF L l f b
  | some (.power y k) => (List.replicate k (expF L l f y)).flatten
  | _ => [x]
def expd (L : List Rl) (l x : Nat) : List Nat := expF L l x x
theorem qTz (L : List Rl) (l f : Nat) : expF L l f 0 = [] := by cases f <;> simp [expF]
theorem qWw {L : List Rl} (hw : Wf L) {l : Nat} : ∀ x f, x ≤ f → expF L l f x = expF L l x x := by
 intro x
 induction x using Nat.strongRecOn with
 | _ x ih =>
  intro f hf
  cases x with
  | zero => rw [qTz, qTz]
  | succ x =>
   cases f with
   | zero => omega
   | succ f =>
    simp only [expF, Nat.add_sub_cancel]
    split
    ·rfl
    split
    ·rfl
    cases hr : L[x]? with
    | none => rfl
    | some r =>
     have hk := hw.ok x r hr
     cases r with
     | letter b => rfl
     | pair a b =>
      obtain ⟨h1, h2, h3, h4⟩ := hk
      simp only
      rw [ih a (by omega) f (by omega), ih a (by omega) x (by omega), ih b (by omega) f (by omega), ih b (by omega) x (by omega)]
     | power y k =>
      obtain ⟨h1, h2, h3⟩ := hk
      simp only
      rw [ih y (by omega) f (by omega), ih y (by omega) x (by omega)]
theorem qCb {L : List Rl} {l x : Nat} (h1 : 1 ≤ x) (h : lvl L x ≤ (l : Nat)) : expd L l x = [x] := by
 obtain ⟨x, rfl⟩ : ∃ y, x = y + 1 := ⟨x - 1, by omega⟩
 unfold expd
 simp only [expF]
 rw [if_neg (by omega), if_pos h]
theorem qDd {L : List Rl} (hw : Wf L) {l i a b : Nat} (hi : L[i]? = some (.pair a b)) (h : (l : Int) < lvl L (i + 1)) : expd L l (i + 1) = expd L l a ++ expd L l b := by
 obtain ⟨h1, h2, h3, h4⟩ := hw.ok i _ hi
 unfold expd
 rw [expF, if_neg (by omega), if_neg (by omega), Nat.add_sub_cancel, hi]
 simp only
 rw [qWw hw a i (by omega), qWw hw b i (by omega)]
theorem qDf {L : List Rl} (hw : Wf L) {l i y k : Nat} (hi : L[i]? = some (.power y k)) (h : (l : Int) < lvl L (i + 1)) : expd L l (i + 1) = (List.replicate k (expd L l y)).flatten := by
 obtain ⟨h1, h2, h3⟩ := hw.ok i _ hi
 unfold expd
 rw [expF, if_neg (by omega), if_neg (by omega), Nat.add_sub_cancel, hi]
 simp only
 rw [qWw hw y i (by omega)]
def qBo (L : List Rl) (l : Nat) (ids : List Nat) : List Nat := ids.flatMap (expd L l)
theorem qCg (L : List Rl) (l : Nat) (a b : List Nat) : qBo L l (a ++ b) = qBo L l a ++ qBo L l b := by simp [qBo]
theorem qBf (L : List Rl) (l x : Nat) : qBo L l [x] = expd L l x := by simp [qBo]
theorem zEn (L : List Rl) (l k : Nat) (a : List Nat) : qBo L l (List.replicate k a).flatten = (List.replicate k (qBo L l a)).flatten := by
 induction k with
 | zero => rfl
 | succ k ih => simp only [List.replicate_succ, List.flatten_cons, qCg, ih]
theorem qHc {L : List Rl} {l : Nat} {ids : List Nat} (h : ∀ x ∈ ids, 1 ≤ x ∧ lvl L x ≤ (l : Nat)) : qBo L l ids = ids := by
 induction ids with
 | nil => rfl
 | cons x ids ih =>
  have hx := h x (by simp)
  have e : qBo L l (x :: ids) = expd L l x ++ qBo L l ids := by simp [qBo]
  rw [e, qCb hx.1 hx.2, ih (fun y hy => h y (by simp [hy]))]
  rfl
theorem qHt {L : List Rl} (hw : Wf L) {l m : Nat} (hlm : l ≤ m) : ∀ x, x ≤ L.length → qBo L l (expd L m x) = expd L l x := by
 intro x
 induction x using Nat.strongRecOn with
 | _ x ih =>
  intro hx
  cases x with
  | zero => rfl
  | succ x =>
   by_cases h : lvl L (x + 1) ≤ (m : Nat)
   ·rw [qCb (by omega) h, qBf]
   have hr : L[x]? = some (L[x]'(by omega)) := List.getElem?_eq_getElem (by omega)
   generalize L[x]'(by omega) = r at hr
   have hk := hw.ok x r hr
   cases r with
   | letter b => have := (qBq hr).2; omega
   | pair a b =>
    obtain ⟨h1, h2, h3, h4⟩ := hk
    rw [qDd hw hr (by omega), qDd hw hr (by omega), qCg, ih a (by omega) (by omega), ih b (by omega) (by omega)]
   | power y k =>
    obtain ⟨h1, h2, h3⟩ := hk
    rw [qDf hw hr (by omega), qDf hw hr (by omega), zEn, ih y (by omega) (by omega)]
theorem qDo {L : List Rl} (hw : Wf L) {l m : Nat} (hlm : l ≤ m) {ids : List Nat} (h : ∀ x ∈ ids, x ≤ L.length) : qBo L l (qBo L m ids) = qBo L l ids := by
 induction ids with
 | nil => rfl
 | cons x ids ih =>
  have e : ∀ k, qBo L k (x :: ids) = expd L k x ++ qBo L k ids := fun k => by simp [qBo]
  rw [e m, e l, qCg, qHt hw hlm x (h x (by simp)), ih (fun y hy => h y (by simp [hy]))]
end
section
def Stp (L : List Rl) (lv : Nat) (ids out : List Nat) : Prop :=
 (lv % 2 = 1 ∧ Rns L (kL ids) out) ∨ (lv % 2 = 0 ∧ ∃ a o, Prs L ids (qBx (ids.map (key L)) (num lv)) a o ∧ out = o ++ ids.drop a)
theorem Stp.inv {L : List Rl} {lv : Nat} {ids out : List Nat} (h : Inv L lv ids) (h1 : 1 ≤ lv) (hs : Stp L lv ids out) : Inv L (lv + 1) out := by
 rcases hs with ⟨ho, hr⟩ | ⟨he, a, o, hp, rfl⟩
 ·exact hr.inv h ho
 exact hp.inv h he (by omega)
theorem zEb {L : List Rl} {l : Nat} {rs : List (Nat × Nat)} {out : List Nat} (h : Rns L rs out) (hx : ∀ g ∈ rs, ∀ id, RunId L g.1 g.2 id → expd L l id = List.replicate g.2 g.1) : qBo L l out = flat rs := by
 induction h with
 | nil => rfl
 | @snoc rs out x t id h1 h2 ih =>
  rw [qCg, qBf, ih (fun g hg => hx g (by simp [hg])), hx (x, t) (by simp) _ h2, qBc]
  simp [flat]
theorem qTv (k x : Nat) : (List.replicate k [x]).flatten = List.replicate k x := by
 induction k with
 | zero => rfl
 | succ k ih => simp only [List.replicate_succ, List.flatten_cons, ih]; rfl
theorem Stp.down {L : List Rl} {lv : Nat} {ids out : List Nat} (h : Inv L lv ids) (h1 : 1 ≤ lv) (hs : Stp L lv ids out) : qBo L (lv - 1) out = ids := by
 have low : ∀ x ∈ ids, expd L (lv - 1) x = [x] := fun x hx => by
  have := h.ok x hx
  exact qCb this.1 (by omega)
 rcases hs with ⟨ho, hr⟩ | ⟨he, a, o, hp, rfl⟩
 ·rw [zEb hr, qCp]
  intro g hg id hid
  obtain ⟨k, hk⟩ := List.getElem?_of_mem hg
  obtain ⟨x, t⟩ := g
  obtain ⟨A, B, e, ht, _⟩ := zDe hk
  have hxm : x ∈ ids := by
   rw [e]
   obtain ⟨t', rfl⟩ : ∃ t', t = t' + 1 := ⟨t - 1, by omega⟩
   simp [List.replicate_succ]
  rcases hid with ⟨h3, rfl⟩ | ⟨h3, i, rfl, hi⟩
  ·simp only at h3
   subst h3
   exact low _ hxm
  simp only at h3 hi
  have hlv := qSp h ho hk (.inr ⟨h3, i, rfl, hi⟩)
  rw [qDf h.wf hi (by omega), low x hxm, qTv]
 have key : ∀ {js a o}, Prs L ids js a o → (∀ i ∈ js, ∀ x y j, ids[i]? = some x → ids[i + 1]? = some y → L[j]? = some (.pair x y) → lvl L (j + 1) = lv) → qBo L (lv - 1) o = ids.take a := by
  intro js a o hp
  induction hp with
  | nil => intro _; rfl
  | snoc p1 p2 p3 p4 p5 ih =>
   intro hl
   rename_i js out at' i x y j
   have hxy := hl i (by simp) x y j p3 p4 p5
   have hxm := List.mem_of_getElem? p3
   have hym := List.mem_of_getElem? p4
   rw [qCg, qCg, ih (fun i hi => hl i (by simp [hi])), qBf, qDd h.wf p5 (by omega), low x hxm, low y hym]
   have em : qBo L (lv - 1) ((ids.drop at').take (i - at')) = (ids.drop at').take (i - at') := qHc fun z hz => by
    have hz' := h.ok z (List.mem_of_mem_drop (List.mem_of_mem_take hz))
    exact ⟨hz'.1, by omega⟩
   rw [em]
   have hil := (List.getElem?_eq_some_iff.1 p4).1
   have e1 : ids.take (i + 2) = ids.take i ++ [x, y] := by
    rw [List.take_add_one, List.take_add_one, p3, p4]
    simp
   have e2 : ids.take i = ids.take at' ++ (ids.drop at').take (i - at') := by
    conv => lhs; rw [← List.take_append_drop at' (ids.take i)]
    rw [List.take_take, Nat.min_eq_left p2, List.drop_take]
   rw [e1, e2]
   simp
 rw [qCg, key hp (fun i hi x y j hx hy hj => qYs h he (by omega) hi hx hy hj), qHc (fun z hz => by
  have := h.ok z (List.mem_of_mem_drop hz)
  exact ⟨this.1, by omega⟩), List.take_append_drop]
end
section
inductive Pg (L : List Rl) (c : Nat) : List Nat → List Nat → Prop where
 | nil : Pg L c [] []
 | one {x : Nat} {r o : List Nat} : (∀ y, r.head? = some y → ¬ qAt c (key L x) (key L y)) → Pg L c r o → Pg L c (x :: r) (x :: o)
 | two {x y j : Nat} {r o : List Nat} : qAt c (key L x) (key L y) → L[j]? = some (.pair x y) → Pg L c r o → Pg L c (x :: y :: r) ((j + 1) :: o)
inductive Rg (L : List Rl) : List Nat → List Nat → Prop where
 | nil : Rg L [] []
 | run {x t id : Nat} {r o : List Nat} : 1 ≤ t → RunId L x t id → r.head? ≠ some x → Rg L r o → Rg L (List.replicate t x ++ r) (id :: o)
inductive Prc (L : List Rl) (ids : List Nat) : Nat → List Nat → List Nat → Prop where
 | nil {a : Nat} : Prc L ids a [] (ids.drop a)
 | cons {a i x y j : Nat} {js out : List Nat} : a ≤ i → ids[i]? = some x → ids[i + 1]? = some y → L[j]? = some (.pair x y) → Prc L ids (i + 2) js out → Prc L ids a (i :: js) ((ids.drop a).take (i - a) ++ (j + 1) :: out)
theorem Prs.prc {L : List Rl} {ids js out : List Nat} {a : Nat} (h : Prs L ids js a out) : ∀ {js' out' : List Nat}, Prc L ids a js' out' → Prc L ids 0 (js ++ js') (out ++ out') := by
 induction h with
 | nil => intro js' out' h'; exact h'
 | snoc h h1 h2 h3 h4 ih =>
  intro js' out' h'
  have := ih (.cons h1 h2 h3 h4 h')
  simpa [List.append_assoc] using this
theorem Prc.prs {L : List Rl} {ids js out : List Nat} {a : Nat} (h : Prc L ids a js out) : ∀ {js0 o0 : List Nat}, Prs L ids js0 a o0 → ∃ b o, Prs L ids (js0 ++ js) b o ∧ o0 ++ out = o ++ ids.drop b := by
 induction h with
 | nil => intro js0 o0 h0; exact ⟨_, o0, by rw [List.append_nil]; exact h0, rfl⟩
 | cons h1 h2 h3 h4 _ ih =>
  intro js0 o0 h0
  obtain ⟨b, o, h5, h6⟩ := ih (.snoc h0 h1 h2 h3 h4)
  exact ⟨b, o, by simpa using h5, by rw [← h6]; simp⟩
theorem qQw : ∀ {l : List Nat} {a e : Nat}, Gaps l a e → ∀ i ∈ l, a ≤ i
 | [], _, _, _, i, hi => by simp at hi
 | j :: l, a, e, ⟨h0, h1, h2⟩, i, hi => by
  rcases List.mem_cons.1 hi with rfl | hi
  ·exact h0
  have := qQw h2 i hi; omega
structure Sel (L : List Rl) (c : Nat) (ids : List Nat) (k : Nat) (js : List Nat) : Prop where
 gaps : Gaps js k ids.length
 fit : ∀ i ∈ js, ∃ x y, ids[i]? = some x ∧ ids[i + 1]? = some y ∧ qAt c (key L x) (key L y)
 all : ∀ i x y, k ≤ i → ids[i]? = some x → ids[i + 1]? = some y → qAt c (key L x) (key L y) → i ∈ js ∨ ∃ j, i = j + 1 ∧ j ∈ js
theorem qTt (L : List Rl) (c : Nat) (ids : List Nat) : Sel L c ids 0 (qBx (ids.map (key L)) c) := by
 refine ⟨by have := qLy (ids.map (key L)) c; simpa using this, fun i hi => ?_, fun i x y _ hx hy hf => ?_⟩
 ·obtain ⟨kx, ky, h1, h2, h3⟩ := qTg hi
  rw [List.getElem?_map] at h1 h2
  cases e1 : ids[i]? with
  | none => rw [e1] at h1; simp at h1
  | some x =>
   cases e2 : ids[i + 1]? with
   | none => rw [e2] at h2; simp at h2
   | some y =>
    rw [e1] at h1
    rw [e2] at h2
    simp at h1 h2
    subst h1 h2
    exact ⟨x, y, rfl, rfl, h3⟩
 exact qPn (by rw [List.getElem?_map, hx]; rfl) (by rw [List.getElem?_map, hy]; rfl) hf
theorem Sel.split {L : List Rl} {c k : Nat} {ids js : List Nat} (h : Sel L c ids k js) (hk : k < ids.length) {x : Nat} (hx : ids[k]? = some x) :
  (∃ js' y, js = k :: js' ∧ Sel L c ids (k + 2) js' ∧ ids[k + 1]? = some y ∧ qAt c (key L x) (key L y)) ∨ (Sel L c ids (k + 1) js ∧ ∀ y, ids[k + 1]? = some y → ¬ qAt c (key L x) (key L y)) := by
 have hg := h.gaps
 cases js with
 | nil =>
  right
  refine ⟨⟨hk, fun i hi => by simp at hi, fun i x y h1 h2 h3 h4 => h.all i x y (by omega) h2 h3 h4⟩, fun y hy hf => ?_⟩
  rcases h.all k x y (Nat.le_refl _) hx hy hf with h1 | ⟨j, _, h1⟩ <;> simp at h1
 | cons i js' =>
  obtain ⟨g1, g2, g3⟩ := hg
  by_cases e : i = k
  ·subst e
   left
   obtain ⟨x', y, h1, h2, h3⟩ := h.fit i (by simp)
   rw [hx] at h1
   cases h1
   refine ⟨js', y, rfl, ⟨g3, fun j hj => h.fit j (by simp [hj]), fun j u v h4 h5 h6 h7 => ?_⟩, h2, h3⟩
   rcases h.all j u v (by omega) h5 h6 h7 with h8 | ⟨q, h8, h9⟩
   ·rcases List.mem_cons.1 h8 with h8 | h8
    ·omega
    exact .inl h8
   rcases List.mem_cons.1 h9 with h9 | h9
   ·omega
   exact .inr ⟨q, h8, h9⟩
  right
  have hg' : Gaps (i :: js') (k + 1) ids.length := ⟨by omega, g2, g3⟩
  refine ⟨⟨hg', h.fit, fun j u v h1 h2 h3 h4 => h.all j u v (by omega) h2 h3 h4⟩, fun y hy hf => ?_⟩
  rcases h.all k x y (Nat.le_refl _) hx hy hf with h1 | ⟨j, h0, h1⟩
  ·have := qQw hg' _ h1; omega
  have := qQw hg' _ h1; omega
theorem qHa {l : List Nat} {k x : Nat} (hx : l[k]? = some x) : l.drop k = x :: l.drop (k + 1) := by
 obtain ⟨h1, e1⟩ := List.getElem?_eq_some_iff.1 hx
 rw [List.drop_eq_getElem_cons h1, e1]
theorem Prc.pg {L : List Rl} {c : Nat} {ids : List Nat} : ∀ (m k : Nat) (js out : List Nat), ids.length - k ≤ m → k ≤ ids.length → Sel L c ids k js → Prc L ids k js out → Pg L c (ids.drop k) out
 | 0, k, js, out, hm, hk, hs, hp => by
  obtain rfl : k = ids.length := by omega
  rw [List.drop_of_length_le (Nat.le_refl _)]
  cases js with
  | nil => cases hp; rw [List.drop_of_length_le (Nat.le_refl _)]; exact .nil
  | cons i js => have := hs.gaps; have h1 := this.1; have h2 := this.2.1; omega
 | m + 1, k, js, out, hm, hk, hs, hp => by
  rcases Nat.lt_or_ge k ids.length with hlt | hge
  ·have hx : ids[k]? = some ids[k] := List.getElem?_eq_getElem hlt
   generalize ids[k] = x at hx
   rcases hs.split hlt hx with ⟨js', y, rfl, hs', hy, hf⟩ | ⟨hs', hn⟩
   ·have hyl := (List.getElem?_eq_some_iff.1 hy).1
    cases hp with
    | cons h1 h2 h3 h4 h5 =>
     rw [hx] at h2
     rw [hy] at h3
     cases h2
     cases h3
     rw [Nat.sub_self, List.take_zero, List.nil_append, qJb hx hy]
     exact .two hf h4 (Prc.pg m (k + 2) js' _ (by omega) (by omega) hs' h5)
   rw [qHa hx]
   have hn' : ∀ y, (ids.drop (k + 1)).head? = some y → ¬ qAt c (key L x) (key L y) := fun y hy => hn y (by rwa [List.head?_drop] at hy)
   cases hp with
   | nil => rw [qHa hx]; exact .one hn' (Prc.pg m (k + 1) [] _ (by omega) (by omega) hs' .nil)
   | cons h1 h2 h3 h4 h5 =>
    have hg := hs'.gaps.1
    rename_i i x' y' j js' out'
    rw [qHa hx, show i - k = (i - (k + 1)) + 1 by omega, List.take_succ_cons, List.cons_append]
    exact .one hn' (Prc.pg m (k + 1) _ _ (by omega) (by omega) hs' (.cons hg h2 h3 h4 h5))
  obtain rfl : k = ids.length := by omega
  rw [List.drop_of_length_le (Nat.le_refl _)]
  cases js with
  | nil => cases hp; rw [List.drop_of_length_le (Nat.le_refl _)]; exact .nil
  | cons i js => have := hs.gaps; have h1 := this.1; have h2 := this.2.1; omega
theorem Pg.prc {L : List Rl} {c : Nat} {ids : List Nat} : ∀ (m k : Nat) (js out : List Nat), ids.length - k ≤ m → k ≤ ids.length → Sel L c ids k js → Pg L c (ids.drop k) out → Prc L ids k js out
 | 0, k, js, out, hm, hk, hs, hp => by
  obtain rfl : k = ids.length := by omega
  cases js with
  | nil =>
   have e : ids.drop ids.length = [] := List.drop_of_length_le (Nat.le_refl _)
   rw [e] at hp
   cases hp
   have := Prc.nil (L := L) (ids := ids) (a := ids.length)
   rwa [e] at this
  | cons i js => have := hs.gaps; have h1 := this.1; have h2 := this.2.1; omega
 | m + 1, k, js, out, hm, hk, hs, hp => by
  rcases Nat.lt_or_ge k ids.length with hlt | hge
  ·have hx : ids[k]? = some ids[k] := List.getElem?_eq_getElem hlt
   generalize ids[k] = x at hx
   rcases hs.split hlt hx with ⟨js', y, rfl, hs', hy, hf⟩ | ⟨hs', hn⟩
   ·have hyl := (List.getElem?_eq_some_iff.1 hy).1
    rw [qJb hx hy] at hp
    cases hp with
    | one h1 h2 => exact absurd hf (h1 y rfl)
    | two h1 h2 h3 =>
     have := Prc.cons (a := k) (Nat.le_refl k) hx hy h2 (Pg.prc m (k + 2) js' _ (by omega) (by omega) hs' h3)
     rwa [Nat.sub_self, List.take_zero, List.nil_append] at this
   have e := qHa hx
   rw [e] at hp
   generalize hr : ids.drop (k + 1) = r at hp
   cases hp with
   | one h1 h2 =>
    subst hr
    have := Pg.prc m (k + 1) js _ (by omega) (by omega) hs' h2
    generalize hkk : k + 1 = k' at this
    cases this with
    | nil => subst hkk; rw [← e]; exact .nil
    | cons g1 g2 g3 g4 g5 =>
     subst hkk
     rename_i i x' y' j js' out'
     have := Prc.cons (a := k) (by omega) g2 g3 g4 g5
     rwa [e, show i - k = (i - (k + 1)) + 1 by omega, List.take_succ_cons, List.cons_append] at this
   | two h1 h2 h3 =>
    exfalso
    refine hn _ ?_ h1
    rw [← List.head?_drop, hr]; rfl
  obtain rfl : k = ids.length := by omega
  cases js with
  | nil =>
   have e : ids.drop ids.length = [] := List.drop_of_length_le (Nat.le_refl _)
   rw [e] at hp
   cases hp
   have := Prc.nil (L := L) (ids := ids) (a := ids.length)
   rwa [e] at this
  | cons i js => have := hs.gaps; have h1 := this.1; have h2 := this.2.1; omega
theorem pg_of {L : List Rl} {c a : Nat} {ids o : List Nat} (h : Prs L ids (qBx (ids.map (key L)) c) a o) : Pg L c ids (o ++ ids.drop a) := by
 have h1 := h.prc .nil
 rw [List.append_nil] at h1
 exact Prc.pg ids.length 0 _ _ (by omega) (Nat.zero_le _) (qTt L c ids) h1
theorem Pg.prs {L : List Rl} {c : Nat} {ids out : List Nat} (h : Pg L c ids out) : ∃ a o, Prs L ids (qBx (ids.map (key L)) c) a o ∧ out = o ++ ids.drop a := by
 have h1 := Pg.prc ids.length 0 _ out (by omega) (Nat.zero_le _) (qTt L c ids) h
 obtain ⟨b, o, h2, h3⟩ := h1.prs .nil
 exact ⟨b, o, h2, h3⟩
theorem Rns.cons {L : List Rl} {x t id : Nat} {rs : List (Nat × Nat)} {out : List Nat} (h : RunId L x t id) (hr : Rns L rs out) : Rns L ((x, t) :: rs) (id :: out) := by
 induction hr with
 | nil => exact .snoc (rs := []) (out := []) .nil h
 | snoc h1 h2 ih => exact .snoc ih h2
theorem Rns.uncons {L : List Rl} {g : Nat × Nat} {rs : List (Nat × Nat)} {out : List Nat} (h : Rns L (g :: rs) out) : ∃ id o, out = id :: o ∧ RunId L g.1 g.2 id ∧ Rns L rs o := by
 generalize e : g :: rs = q at h
 induction h generalizing rs with
 | nil => cases e
 | @snoc rs' out' x t id h1 h2 ih =>
  cases rs' with
  | nil =>
   cases e
   generalize e2 : ([] : List (Nat × Nat)) = z at h1
   cases h1 with
   | nil => exact ⟨id, [], rfl, h2, .nil⟩
   | snoc _ _ => simp at e2
  | cons g' rs'' =>
   simp only [List.cons_append, List.cons.injEq] at e
   obtain ⟨rfl, rfl⟩ := e
   obtain ⟨id', o, rfl, h3, h4⟩ := ih rfl
   exact ⟨id', o ++ [id], rfl, h3, .snoc h4 h2⟩
def Adjx (rs : List (Nat × Nat)) : Prop := ∀ (k x t y t' : Nat), rs[k]? = some (x, t) → rs[k + 1]? = some (y, t') → x ≠ y
theorem zBs {rs : List (Nat × Nat)} (hp : ∀ g ∈ rs, 1 ≤ g.2) {y : Nat} (h : (flat rs).head? = some y) : ∃ t, rs[0]? = some (y, t) := by
 cases rs with
 | nil => simp [flat] at h
 | cons g rs =>
  obtain ⟨x, t⟩ := g
  have := hp (x, t) (by simp)
  obtain ⟨m, rfl⟩ : ∃ m, t = m + 1 := ⟨t - 1, by simp only at this; omega⟩
  simp [flat, List.replicate_succ] at h
  subst h
  exact ⟨_, rfl⟩
theorem qUf {L : List Rl} : ∀ {rs : List (Nat × Nat)} {out : List Nat}, Rns L rs out → (∀ g ∈ rs, 1 ≤ g.2) → Adjx rs → Rg L (flat rs) out
 | [], out, h, hp, ha => by
  generalize e2 : ([] : List (Nat × Nat)) = z at h
  cases h with
  | nil => exact .nil
  | snoc _ _ => simp at e2
 | (x, t) :: rs, out, h, hp, ha => by
  obtain ⟨id, o, rfl, h1, h2⟩ := h.uncons
  have hp' : ∀ g ∈ rs, 1 ≤ g.2 := fun g hg => hp g (by simp [hg])
  rw [flat]
  refine .run (hp (x, t) (by simp)) h1 (fun hh => ?_) (qUf h2 hp' (fun k a b c d h3 h4 => ha (k + 1) a b c d h3 h4))
  obtain ⟨t', h3⟩ := zBs hp' hh
  exact ha 0 x t x t' rfl h3 rfl
theorem rg_of {L : List Rl} {ids out : List Nat} (h : Rns L (kL ids) out) : Rg L ids out := by
 have := qUf h (fun g hg => (qCv ids g hg).1) (fun k x t y t' h1 h2 => qZe ids k x t y t' h1 h2)
 rwa [qCp] at this
theorem qOe {l : List Nat} {a : List (Nat × Nat)} (h : kL l = a) {x : Nat} (hx : ∀ y t, a.getLast? = some (y, t) → y ≠ x) : ∀ t, kL (l ++ List.replicate (t + 1) x) = a ++ [(x, t + 1)]
 | 0 => by
  rw [show List.replicate (0 + 1) x = [x] from rfl, qBi, h]
  rcases List.eq_nil_or_concat a with rfl | ⟨b, ⟨y, k⟩, rfl⟩
  ·rfl
  rw [List.concat_eq_append] at hx ⊢
  exact qCu b (hx y k (by simp))
 | t + 1 => by
  rw [List.replicate_succ', ← List.append_assoc, qBi, qOe h hx t, qCh]
theorem qVu : ∀ (rs : List (Nat × Nat)), (∀ g ∈ rs, 1 ≤ g.2) → Adjx rs → kL (flat rs) = rs := fun rs => by
 refine qLj (P := fun rs => (∀ g ∈ rs, 1 ≤ g.2) → Adjx rs → kL (flat rs) = rs) (fun _ _ => rfl) ?_ rs
 intro rs g ih hp ha
 obtain ⟨x, t⟩ := g
 have hp' : ∀ g ∈ rs, 1 ≤ g.2 := fun g hg => hp g (by simp [hg])
 have ha' : Adjx rs := fun k a b c d h1 h2 => ha k a b c d (by rw [List.getElem?_append_left (List.getElem?_eq_some_iff.1 h1).1]; exact h1) (by rw [List.getElem?_append_left (List.getElem?_eq_some_iff.1 h2).1]; exact h2)
 have ht := hp (x, t) (by simp)
 obtain ⟨m, rfl⟩ : ∃ m, t = m + 1 := ⟨t - 1, by simp only at ht; omega⟩
 rw [qBc]
 have e : flat [(x, m + 1)] = List.replicate (m + 1) x := by simp [flat]
 rw [e]
 refine qOe (ih hp' ha') (fun y t hy => ?_) m
 rcases List.eq_nil_or_concat rs with rfl | ⟨b, ⟨y', k⟩, rfl⟩
 ·simp at hy
 rw [List.concat_eq_append] at hy ha
 simp at hy
 obtain ⟨rfl, rfl⟩ := hy
 exact ha b.length y' k x (m + 1) (by simp) (by simp)
theorem Rg.rns {L : List Rl} {ids out : List Nat} (h : Rg L ids out) : ∃ rs, flat rs = ids ∧ (∀ g ∈ rs, 1 ≤ g.2) ∧ Adjx rs ∧ Rns L rs out := by
 induction h with
 | nil => exact ⟨[], rfl, by simp, fun k x t y t' h => by simp at h, .nil⟩
 | @run x t id r o h1 h2 h3 h4 ih =>
  obtain ⟨rs, rfl, hp, ha, hr⟩ := ih
  refine ⟨(x, t) :: rs, rfl, fun g hg => ?_, fun k a b c d g1 g2 => ?_, .cons h2 hr⟩
  ·rcases List.mem_cons.1 hg with rfl | hg
   ·exact h1
   exact hp g hg
  cases k with
  | zero =>
   simp at g1 g2
   obtain ⟨rfl, rfl⟩ := g1
   intro e
   subst e
   apply h3
   cases rs with
   | nil => simp at g2
   | cons g rs =>
    simp at g2
    subst g2
    have := hp (x, d) (by simp)
    obtain ⟨m, rfl⟩ : ∃ m, d = m + 1 := ⟨d - 1, by simp only at this; omega⟩
    simp [flat, List.replicate_succ]
  | succ k => exact ha k a b c d (by simpa using g1) (by simpa using g2)
theorem Rg.runs {L : List Rl} {ids out : List Nat} (h : Rg L ids out) : Rns L (kL ids) out := by
 obtain ⟨rs, rfl, hp, ha, hr⟩ := h.rns
 rw [qVu rs hp ha]
 exact hr
def Sq (L : List Rl) (lv : Nat) (ids out : List Nat) : Prop := if lv % 2 = 1 then Rg L ids out else Pg L (num lv) ids out
theorem Sq.stp {L : List Rl} {lv : Nat} {ids out : List Nat} (h : Sq L lv ids out) : Stp L lv ids out := by
 unfold Sq at h
 split at h
 ·rename_i ho; exact .inl ⟨ho, h.runs⟩
 rename_i ho
 obtain ⟨a, o, h1, h2⟩ := h.prs
 exact .inr ⟨by omega, a, o, h1, h2⟩
theorem Stp.sq {L : List Rl} {lv : Nat} {ids out : List Nat} (h : Stp L lv ids out) : Sq L lv ids out := by
 unfold Sq
 rcases h with ⟨ho, hr⟩ | ⟨he, a, o, hp, rfl⟩
 ·rw [if_pos ho]; exact rg_of hr
 rw [if_neg (by omega)]; exact pg_of hp
end
section
theorem Pg.fn {L : List Rl} (hw : Wf L) {c : Nat} {ids o o' : List Nat} (h : Pg L c ids o) (h' : Pg L c ids o') : o = o' := by
 induction h generalizing o' with
 | nil => cases h'; rfl
 | one h1 h2 ih =>
  cases h' with
  | one g1 g2 => rw [ih g2]
  | two g1 g2 g3 => exact absurd g1 (h1 _ rfl)
 | two h1 h2 h3 ih =>
  cases h' with
  | one g1 g2 => exact absurd h1 (g1 _ rfl)
  | two g1 g2 g3 => rw [ih g3, hw.nodup _ _ _ h2 g2]
theorem Rg.fn {L : List Rl} (hw : Wf L) {ids o o' : List Nat} (h : Rg L ids o) (h' : Rg L ids o') : o = o' := h.runs.fn hw h'.runs
theorem Sq.fn {L : List Rl} (hw : Wf L) {lv : Nat} {ids o o' : List Nat} (h : Sq L lv ids o) (h' : Sq L lv ids o') : o = o' := by
 unfold Sq at h h'
 split at h
 ·rw [if_pos (by assumption)] at h'; exact h.fn hw h'
 rw [if_neg (by assumption)] at h'; exact h.fn hw h'
theorem Sq.one (L : List Rl) (lv x : Nat) : Sq L lv [x] [x] := by
 unfold Sq; split
 ·exact Rg.run (t := 1) (r := []) (Nat.le_refl _) (.inl ⟨rfl, rfl⟩) (by simp) .nil
 exact Pg.one (by simp) .nil
def Bdry (L : List Rl) (lv : Nat) (X X' Z : List Nat) : Prop := ∀ u v, X.getLast? = some u → Z.head? = some v → if lv % 2 = 1 then u ≠ v else (X'.getLast? = some u → ¬ qAt (num lv) (key L u) (key L v))
theorem qJr {α : Type} (a : α) {l : List α} {b : α} (h : l.getLast? = some b) : (a :: l).getLast? = some b := by
 cases l with
 | nil => simp at h
 | cons c l => rw [List.getLast?_cons_cons]; exact h
theorem Pg.nonempty {L : List Rl} {c : Nat} {x : Nat} {r o : List Nat} (h : Pg L c (x :: r) o) : o ≠ [] := by
 cases h <;> simp
theorem qKy {α : Type} (a : α) (l : List α) : (l = [] ∧ (a :: l).getLast? = some a) ∨ ∃ b, l.getLast? = some b ∧ (a :: l).getLast? = some b := by
 cases l with
 | nil => exact .inl ⟨rfl, rfl⟩
 | cons b l => exact .inr ⟨(b :: l).getLast (by simp), List.getLast?_eq_some_getLast _, by rw [List.getLast?_cons_cons]; exact List.getLast?_eq_some_getLast _⟩
theorem rep_last {t x : Nat} (h : 1 ≤ t) (r : List Nat) (hr : r = []) : (List.replicate t x ++ r).getLast? = some x := by
 subst hr
 obtain ⟨m, rfl⟩ : ∃ m, t = m + 1 := ⟨t - 1, by omega⟩
 rw [List.append_nil, List.replicate_succ']
 simp
theorem Pg.split {L : List Rl} (hw : Wf L) {c : Nat} : ∀ {A X' W' : List Nat}, Pg L c A (X' ++ W') → ∃ X W, A = X ++ W ∧ Pg L c X X' ∧ Pg L c W W' ∧ ∀ u v, X.getLast? = some u → X'.getLast? = some u → W.head? = some v → ¬ qAt c (key L u) (key L v)
 | A, [], W', h => ⟨[], A, rfl, .nil, h, fun u v e => by simp at e⟩
 | A, a :: X', W', h => by
  rw [List.cons_append] at h
  cases h with
  | @one x r o h1 h2 =>
   obtain ⟨X, W, rfl, g1, g2, g3⟩ := Pg.split hw h2
   refine ⟨a :: X, W, rfl, .one (fun y hy => h1 y (by rw [List.head?_append, hy]; rfl)) g1, g2, fun u v e1 e2 e3 => ?_⟩
   cases X with
   | nil =>
    cases g1
    simp at e1
    subst e1
    exact h1 v (by simpa using e3)
   | cons z X =>
    rcases qKy a X' with ⟨rfl, _⟩ | ⟨b, q1, q2⟩
    ·exact absurd rfl g1.nonempty
    rw [q2] at e2
    cases e2
    exact g3 _ v (by rwa [List.getLast?_cons_cons] at e1) q1 e3
  | @two x y j r o h1 h2 h3 =>
   obtain ⟨X, W, rfl, g1, g2, g3⟩ := Pg.split hw h3
   refine ⟨x :: y :: X, W, rfl, .two h1 h2 g1, g2, fun u v e1 e2 e3 => ?_⟩
   cases X with
   | nil =>
    cases g1
    simp at e1 e2
    have := hw.ok _ _ h2
    obtain ⟨_, _, _, h4⟩ := this
    omega
   | cons z X =>
    rcases qKy (j + 1) X' with ⟨rfl, _⟩ | ⟨b, q1, q2⟩
    ·exact absurd rfl g1.nonempty
    rw [q2] at e2
    cases e2
    exact g3 _ v (by rwa [List.getLast?_cons_cons, List.getLast?_cons_cons] at e1) q1 e3
theorem Rg.nonempty {L : List Rl} {x : Nat} {r o : List Nat} (h : Rg L (x :: r) o) : o ≠ [] := by
 generalize e : x :: r = z at h
 cases h with
 | nil => cases e
 | run _ _ _ _ => simp
theorem Rg.split {L : List Rl} : ∀ {A X' W' : List Nat}, Rg L A (X' ++ W') → ∃ X W, A = X ++ W ∧ Rg L X X' ∧ Rg L W W' ∧ ∀ u v, X.getLast? = some u → W.head? = some v → u ≠ v
 | A, [], W', h => ⟨[], A, rfl, .nil, h, fun u v e => by simp at e⟩
 | A, a :: X', W', h => by
  rw [List.cons_append] at h
  generalize e : a :: (X' ++ W') = z at h
  cases h with
  | nil => cases e
  | @run x t id r o h1 h2 h3 h4 =>
   cases e
   obtain ⟨X, W, rfl, g1, g2, g3⟩ := Rg.split h4
   refine ⟨List.replicate t x ++ X, W, by rw [List.append_assoc], .run h1 h2 (fun hh => h3 (by rw [List.head?_append, hh]; rfl)) g1, g2, fun u v e1 e3 => ?_⟩
   cases X with
   | nil =>
    rw [rep_last h1 _ rfl] at e1
    cases e1
    intro e
    subst e
    exact h3 (by simpa using e3)
   | cons z X =>
    rw [List.getLast?_append, List.getLast?_eq_some_getLast (l := z :: X) (by simp)] at e1
    exact g3 u v (by rw [← e1, List.getLast?_eq_some_getLast (l := z :: X) (by simp)]; rfl) e3
theorem Sq.split {L : List Rl} (hw : Wf L) {lv : Nat} {A X' W' : List Nat} (h : Sq L lv A (X' ++ W')) : ∃ X W, A = X ++ W ∧ Sq L lv X X' ∧ Sq L lv W W' ∧ Bdry L lv X X' W := by
 unfold Sq Bdry at *
 by_cases ho : lv % 2 = 1
 ·simp only [if_pos ho] at *
  exact h.split
 simp only [if_neg ho] at *
 obtain ⟨X, W, h1, h2, h3, h4⟩ := h.split hw
 exact ⟨X, W, h1, h2, h3, fun u v e1 e2 e3 => h4 u v e1 e3 e2⟩
theorem Inv.left {L : List Rl} {lv : Nat} {a b : List Nat} (h : Inv L lv (a ++ b)) : Inv L lv a := by
 have hg : ∀ {i x : Nat}, a[i]? = some x → (a ++ b)[i]? = some x := fun hx => by rw [List.getElem?_append_left (List.getElem?_eq_some_iff.1 hx).1]; exact hx
 exact ⟨h.wf, fun x hx => h.ok x (by simp [hx]), fun i x h1 h2 => h.same i x (hg h1) (hg h2), fun i x y h1 h2 h3 => h.diff i x y (hg h1) (hg h2) h3⟩
theorem Inv.right {L : List Rl} {lv : Nat} {a b : List Nat} (h : Inv L lv (a ++ b)) : Inv L lv b := by
 have hg : ∀ {i x : Nat}, b[i]? = some x → (a ++ b)[a.length + i]? = some x := fun hx => by rw [List.getElem?_append_right (by omega), Nat.add_sub_cancel_left]; exact hx
 exact ⟨h.wf, fun x hx => h.ok x (by simp [hx]), fun i x h1 h2 => h.same (a.length + i) x (hg h1) (by have := hg h2; rwa [← Nat.add_assoc] at this), fun i x y h1 h2 h3 => h.diff (a.length + i) x y (hg h1) (by have := hg h2; rwa [← Nat.add_assoc] at this) h3⟩
theorem Sq.down {L : List Rl} {lv : Nat} {ids out : List Nat} (h : Sq L lv ids out) (hi : Inv L lv ids) (h1 : 1 ≤ lv) : qBo L (lv - 1) out = ids := h.stp.down hi h1
theorem Inv.one {L : List Rl} (hw : Wf L) {x lv : Nat} (h1 : 1 ≤ x) (h2 : x ≤ L.length) (h3 : 0 ≤ lvl L x) (h4 : lvl L x < lv) : Inv L lv [x] := by
 refine ⟨hw, fun y hy => ?_, fun i y e1 e2 => ?_, fun i y z e1 e2 => ?_⟩
 ·simp at hy; subst hy; exact ⟨h1, h2, h3, h4⟩
 ·simp at e2
 simp at e2
structure Sig (L : List Rl) (x : Nat) : Prop where
 pos : 1 ≤ x
 le : x ≤ L.length
 lv : 0 ≤ lvl L x
 inv : ∀ k, 1 ≤ k → Inv L k (expd L (k - 1) x)
 step : ∀ k, 1 ≤ k → Sq L k (expd L (k - 1) x) (expd L k x)
theorem Rch.rows {L : List Rl} (hw : Wf L) {bs : List UInt8} {lv : Nat} {ids : List Nat} (h : Rch L bs lv ids) : Inv L lv ids ∧ Lts L (qBo L 0 ids) bs ∧ ∀ k, 1 ≤ k → k < lv → Inv L k (qBo L (k - 1) ids) ∧ Sq L k (qBo L (k - 1) ids) (qBo L k ids) := by
 have step : ∀ {lv : Nat} {ids out : List Nat}, 1 ≤ lv → Stp L lv ids out → (Inv L lv ids ∧ Lts L (qBo L 0 ids) bs ∧ ∀ k, 1 ≤ k → k < lv → Inv L k (qBo L (k - 1) ids) ∧ Sq L k (qBo L (k - 1) ids) (qBo L k ids)) →
   Inv L (lv + 1) out ∧ Lts L (qBo L 0 out) bs ∧ ∀ k, 1 ≤ k → k < lv + 1 → Inv L k (qBo L (k - 1) out) ∧ Sq L k (qBo L (k - 1) out) (qBo L k out) := by
  intro lv ids out h1 hs ⟨hi, hl, hk⟩
  have hi' := hs.inv hi h1
  have hd := hs.down hi h1
  have hle : ∀ x ∈ out, x ≤ L.length := fun x hx => (hi'.ok x hx).2.1
  have tr : ∀ k, k < lv → qBo L k out = qBo L k ids := fun k hk => by rw [← hd, qDo hw (by omega) hle]
  refine ⟨hi', by rw [tr 0 (by omega)]; exact hl, fun k k1 k2 => ?_⟩
  rcases Nat.lt_or_ge k lv with hlt | hge
  ·rw [tr (k - 1) (by omega), tr k hlt]; exact hk k k1 hlt
  obtain rfl : k = lv := by omega
  rw [hd, qHc (ids := out) (fun x hx => by have := hi'.ok x hx; omega)]
  exact ⟨hi, hs.sq⟩
 induction h with
 | start h =>
  have hi := h.inv hw
  refine ⟨hi, ?_, fun k h1 h2 => by omega⟩
  rw [qHc (fun x hx => by have := hi.ok x hx; omega)]
  exact h
 | odd h h1 h2 h3 ih => exact step h.pos (.inl ⟨h1, h3⟩) ih
 | even h h1 h2 h3 h4 ih => exact step h.pos (.inr ⟨h1, _, _, h4, rfl⟩) ih
theorem Rch.sig {L : List Rl} (hw : Wf L) {bs : List UInt8} {lv x : Nat} (h : Rch L bs lv [x]) : Sig L x ∧ Lts L (expd L 0 x) bs := by
 obtain ⟨hi, hl, hk⟩ := h.rows hw
 rw [qBf] at hl
 have ho := hi.ok x (by simp)
 have low : ∀ k, lv - 1 ≤ k → expd L k x = [x] := fun k h => qCb ho.1 (by omega)
 refine ⟨⟨ho.1, ho.2.1, ho.2.2.1, fun k k1 => ?_, fun k k1 => ?_⟩, hl⟩
 ·rcases Nat.lt_or_ge k lv with hlt | hge
  ·have := (hk k k1 hlt).1; rwa [qBf] at this
  rw [low (k - 1) (by omega)]; exact .one hw ho.1 ho.2.1 ho.2.2.1 (by omega)
 rcases Nat.lt_or_ge k lv with hlt | hge
 ·have := (hk k k1 hlt).2; rwa [qBf, qBf] at this
 rw [low (k - 1) (by omega), low k (by omega)]; exact .one L k x
end
section
theorem qRl {low x y : Nat} (hx : x < P61) (hy : y < P61) : after low x y ≤ low + 246 := by
 have hc : ∃ c, c ≤ 122 ∧ qAt c x y := by
  rcases qEn (c := 0) (by omega) hx hy with ⟨g1, _⟩ | ⟨k, g1, g2, g3, g4, g5⟩
  ·have := qKb hx hy; omega
  exact ⟨k, by omega, g4⟩
 obtain ⟨c, hc, hf⟩ := hc
 have h := (qEw (low := low) hx hy).2 (2 * (low / 2 + (c + 123 - low / 2 % 123) % 123 + 1)) (by omega) (by omega) (by
  have e : num (2 * (low / 2 + (c + 123 - low / 2 % 123) % 123 + 1)) = c := by unfold num; omega
  rw [e]; exact hf)
 omega
theorem qJo {L : List Rl} (hw : Wf L) {l : Nat} : ∀ x, 1 ≤ x → x ≤ L.length → 1 ≤ (expd L l x).length ∧ ((l : Int) < lvl L x → 2 ≤ (expd L l x).length) := by
 intro x
 induction x using Nat.strongRecOn with
 | _ x ih =>
  intro h1 hx
  obtain ⟨x, rfl⟩ : ∃ y, x = y + 1 := ⟨x - 1, by omega⟩
  by_cases h : lvl L (x + 1) ≤ (l : Nat)
  ·rw [qCb (by omega) h]
   exact ⟨Nat.le_refl _, fun h' => by omega⟩
  have hr : L[x]? = some (L[x]'(by omega)) := List.getElem?_eq_getElem (by omega)
  generalize L[x]'(by omega) = r at hr
  have hk := hw.ok x r hr
  have key : 2 ≤ (expd L l (x + 1)).length := by
   cases r with
   | letter b => have := (qBq hr).2; omega
   | pair a b =>
    obtain ⟨h1, h2, h3, h4⟩ := hk
    rw [qDd hw hr (by omega), List.length_append]
    have := (ih a (by omega) (by omega) (by omega)).1
    have := (ih b (by omega) (by omega) (by omega)).1
    omega
   | power y k =>
    obtain ⟨h1, h2, h3⟩ := hk
    rw [qDf hw hr (by omega)]
    have := (ih y (by omega) (by omega) (by omega)).1
    obtain ⟨m, rfl⟩ : ∃ m, k = m + 2 := ⟨k - 2, by omega⟩
    simp only [List.replicate_succ, List.flatten_cons, List.length_append]
    omega
  exact ⟨by omega, fun _ => key⟩
theorem qTr {L : List Rl} (hw : Wf L) {k : Nat} : ∀ (B : List Nat), (∀ y ∈ B, 1 ≤ y ∧ y ≤ L.length) → (∀ i y z, B[i]? = some y → B[i + 1]? = some z → ¬ (lvl L y ≤ (k : Nat) ∧ lvl L z ≤ (k : Nat))) →
  3 * B.length ≤ 2 * (qBo L k B).length + 1 ∧ ((∀ y, B.head? = some y → (k : Int) < lvl L y) → 3 * B.length ≤ 2 * (qBo L k B).length)
 | [], _, _ => by simp [qBo]
 | y :: B, hm, ha => by
  obtain ⟨i1, i2⟩ := qTr hw B (fun z hz => hm z (by simp [hz])) (fun i u v h1 h2 => ha (i + 1) u v (by simpa using h1) (by simpa using h2))
  have hy := hm y (by simp)
  obtain ⟨p1, p2⟩ := qJo hw (l := k) y hy.1 hy.2
  have e : (qBo L k (y :: B)).length = (expd L k y).length + (qBo L k B).length := by simp [qBo]
  rw [e, List.length_cons]
  by_cases hl : (k : Int) < lvl L y
  ·have := p2 hl
   exact ⟨by omega, fun _ => by omega⟩
  have h2 := i2 (fun z hz => by
   have := ha 0 y z rfl (by cases B with | nil => simp at hz | cons c B => simpa using hz)
   omega)
  exact ⟨by omega, fun hh => absurd (hh y rfl) hl⟩
theorem shrink {L : List Rl} (hw : Wf L) {k : Nat} {B : List Nat} (hi : Inv L (k + 249) B) : 3 * B.length ≤ 2 * (qBo L k B).length + 1 := by
 refine (qTr hw B (fun y hy => ⟨(hi.ok y hy).1, (hi.ok y hy).2.1⟩) (fun i y z h1 h2 h3 => ?_)).1
 by_cases e : y = z
 ·subst e
  have := (hi.same i y h1 h2).2
  omega
 have h4 := hi.diff i y z h1 h2 e
 have h5 := qRl (low := max (lvl L y).toNat (lvl L z).toNat) (qCd hw y) (qCd hw z)
 unfold aft at h4
 omega
def thd : Nat → Nat → Nat
 | 0, n => n
 | j + 1, n => (2 * thd j n + 1) / 3
theorem qXu {a b : Nat} (h : a ≤ b) : ∀ j, thd j a ≤ thd j b
 | 0 => h
 | j + 1 => by have := qXu h j; simp only [thd]; omega
theorem thd_end : thd 103 kJ = 1 := by decide +kernel
theorem qPo {L : List Rl} (hw : Wf L) {lv : Nat} {ids : List Nat} (hi : Inv L lv ids) (hk : ∀ k, 1 ≤ k → k < lv → Inv L k (qBo L (k - 1) ids)) : ∀ j, 248 * j < lv → (qBo L (248 * j) ids).length ≤ thd j (qBo L 0 ids).length
 | 0, _ => Nat.le_refl _
 | j + 1, h => by
  have ih := qPo hw hi hk j (by omega)
  have hle : ∀ x ∈ ids, x ≤ L.length := fun x hx => (hi.ok x hx).2.1
  have i2 : Inv L (248 * j + 249) (qBo L (248 * (j + 1)) ids) := by
   rcases Nat.lt_or_ge (248 * j + 249) lv with hlt | hge
   ·have := hk (248 * j + 249) (by omega) hlt
    rwa [show 248 * j + 249 - 1 = 248 * (j + 1) by omega] at this
   obtain rfl : lv = 248 * j + 249 := by omega
   rw [qHc (ids := ids) (fun x hx => by have := hi.ok x hx; omega)]
   exact hi
  have hs := shrink hw i2
  rw [qDo hw (by omega) hle] at hs
  simp only [thd]
  omega
theorem Lts.length {L : List Rl} {ids : List Nat} {bs : List UInt8} (h : Lts L ids bs) : ids.length = bs.length := by
 induction h with
 | nil => rfl
 | snoc _ _ ih => simp [ih]
theorem Sig.lv_le {L : List Rl} (hw : Wf L) {x : Nat} (h : Sig L x) {bs : List UInt8} (hl : Lts L (expd L 0 x) bs) (hb : bs.length ≤ kJ) : lvl L x ≤ 25544 := by
 apply Classical.byContradiction
 intro hgt
 have hI : Inv L 25545 (expd L 25544 x) := h.inv 25545 (by omega)
 have h1 := qPo (ids := expd L 25544 x) hw hI (fun k a b => by
  have := qHt hw (l := k - 1) (m := 25544) (by omega) x h.le
  rw [this]
  exact h.inv k a) 103 (by omega)
 rw [qHt hw (by omega) x h.le, qHt hw (by omega) x h.le] at h1
 have h3 := qXu (a := (expd L 0 x).length) (b := kJ) (by rw [hl.length]; exact hb) 103
 rw [thd_end] at h3
 have := (qJo hw (l := 248 * 103) x h.pos h.le).2 (by omega)
 omega
end
section
structure Fm where
 id : Nat
 hv : Nat
def rlAt (L : List Rl) (x : Nat) : Rl := (L[x - 1]?).getD (.letter 0)
end
section
theorem qYq {L : List Rl} (hw : Wf L) {x a b : Nat} (h1 : 1 ≤ x) (hr : L[x - 1]? = some (.pair a b)) (hl : 0 ≤ lvl L x) : lvl L x % 2 = 0 ∧ a ≠ b ∧ lvl L a < lvl L x ∧ lvl L b < lvl L x ∧ ∀ lv : Nat, lvl L x = (lv : Nat) → qAt (num lv) (key L a) (key L b) := by
 obtain ⟨x, rfl⟩ : ∃ y, x = y + 1 := ⟨x - 1, by omega⟩
 rw [Nat.add_sub_cancel] at hr
 have hp := (qDh hr (hw.ok _ _ hr)).2
 rw [hp] at hl ⊢
 split at hl
 ·rename_i hc
  rw [if_pos hc]
  have h2 := qGb (max (lvl L a).toNat (lvl L b).toNat) (key L a) (key L b)
  have h3 := qJc (low := max (lvl L a).toNat (lvl L b).toNat) (qCd hw a) (qCd hw b)
  refine ⟨by omega, hc.1, by omega, by omega, fun lv e => ?_⟩
  have e' : after (max (lvl L a).toNat (lvl L b).toNat) (key L a) (key L b) = lv := by omega
  rw [← e']
  exact (qEw (qCd hw a) (qCd hw b)).1
 omega
theorem qUq {L : List Rl} (hw : Wf L) {x y k : Nat} (h1 : 1 ≤ x) (hr : L[x - 1]? = some (.power y k)) (hl : 0 ≤ lvl L x) : lvl L x % 2 = 1 ∧ lvl L x = lvl L y + 1 := by
 obtain ⟨x, rfl⟩ : ∃ y, x = y + 1 := ⟨x - 1, by omega⟩
 rw [Nat.add_sub_cancel] at hr
 have hp := (qCt hr (hw.ok _ _ hr)).2
 rw [hp] at hl ⊢
 split at hl
 ·rename_i hc
  rw [if_pos hc]
  omega
 omega
def Par (L : List Rl) (lv : Nat) (fs : List Fm) : Option Fm → Prop
 | none => ∀ f g, fs = g ++ [f] → lvl L f.id ≠ (lv : Nat)
 | some f => (∃ g, fs = g ++ [f]) ∧ lvl L f.id = (lv : Nat)
def many (L : List Rl) : Option Fm → Nat
 | none => 1
 | some f => match rlAt L f.id with | .power _ _ => f.hv | _ => 1
theorem not_two {c x y z : Nat} (hc : c ≠ 122) (h : qAt c x y) : ¬ qAt c y z := by
 intro h'
 have h1 := (qHh hc).1 h
 have h2 := (qHh hc).1 h'
 exact h1.2 h2.1
end
end Go.Proofs.YtkkjjablmmmmkaaGreatDoor
