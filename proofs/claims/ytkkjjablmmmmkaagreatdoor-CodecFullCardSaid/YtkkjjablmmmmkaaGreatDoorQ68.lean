import Derived.Test.YtkkjjablmmmmkaaGreatDoorQ67
set_option linter.all false
namespace Go.Proofs.YtkkjjablmmmmkaaGreatDoor
open Go Go.RowKit Sl Eg
section
def encG : Nat → List Rl → List UInt8
 | _, [] => []
 | k, r :: G => rulB (k + 1) r ++ encG (k + 1) G
def GOk (k : Nat) (G : List Rl) : Prop := ∀ (i : Nat) (r : Rl), G[i]? = some r → r.ok (k + i + 1)
theorem qIn : ∀ (A B : List Rl) (k : Nat), encG k (A ++ B) = encG k A ++ encG (k + A.length) B
 | [], B, k => rfl
 | r :: A, B, k => by
  simp only [List.cons_append, encG, List.append_assoc, qIn A B (k + 1), List.length_cons]
  rw [show k + 1 + A.length = k + (A.length + 1) by omega]
def encM (l : List (List UInt8 × Nat)) : List UInt8 := l.flatMap fun p => qAx p.1 ++ vput p.2
def encA (G : List Rl) (A : List (List UInt8 × Nat)) : List UInt8 := vput G.length ++ encG 0 G ++ vput A.length ++ encM A
def gram (L : List Rl) (ids : List Nat) : List Rl := ids.map fun x => qAz ids (L.getD (x - 1) (.letter 0))
theorem qFx {L : List Rl} {ids : List Nat} {i n : Nat} {r : Rl} (h : ids[i]? = some (n + 1)) (hr : L[n]? = some r) : (gram L ids)[i]? = some (qAz ids r) := by
 unfold gram
 rw [List.getElem?_map, h]
 simp only [Option.map_some, Nat.add_sub_cancel, List.getD_eq_getElem?_getD, hr, Option.getD_some]
theorem qUv {L : List Rl} {ids : List Nat} (hx : ∀ x ∈ ids, 1 ≤ x ∧ x ≤ L.length) : ∀ i, i ≤ ids.length → encR L ids i = encG 0 ((gram L ids).take i)
 | 0, _ => rfl
 | i + 1, hi => by
  obtain ⟨x, hxi⟩ : ∃ x, ids[i]? = some x := ⟨_, List.getElem?_eq_getElem (by omega)⟩
  have hxx := hx x (List.mem_of_getElem? hxi)
  obtain ⟨n, rfl⟩ : ∃ n, x = n + 1 := ⟨x - 1, by omega⟩
  obtain ⟨r, hr⟩ : ∃ r, L[n]? = some r := ⟨_, List.getElem?_eq_getElem (by omega)⟩
  have hg := qFx hxi hr
  rw [qIz hxi hr, qUv hx i (by omega), List.take_add_one, hg, qIn]
  have hl : ((gram L ids).take i).length = i := by rw [List.length_take]; unfold gram; rw [List.length_map]; omega
  rw [hl, Nat.zero_add]
  simp only [Option.toList_some, encG, List.append_nil]
theorem zBw {L : List Rl} {ids : List Nat} (hx : ∀ x ∈ ids, 1 ≤ x ∧ x ≤ L.length) (nm : List (List UInt8 × Nat)) : encB L ids nm = encA (gram L ids) (nm.map fun p => (p.1, numb ids p.2)) := by
 have hl : (gram L ids).length = ids.length := List.length_map _
 unfold encB encA
 rw [qUv hx _ (Nat.le_refl _), hl, List.take_of_length_le (by omega), List.length_map]
 congr 1
 unfold encN encM
 rw [List.flatMap_map]
 rfl
theorem qRt {L : List Rl} (hw : Wf L) {ids : List Nat} (hx : AccOk L ids) (ho : Odr L ids) : GOk 0 (gram L ids) := fun i r hr => by
 have hil : i < ids.length := by have := (List.getElem?_eq_some_iff.1 hr).1; unfold gram at this; rwa [List.length_map] at this
 obtain ⟨x, hxi⟩ : ∃ x, ids[i]? = some x := ⟨_, List.getElem?_eq_getElem hil⟩
 have hxx := hx.2 x (List.mem_of_getElem? hxi)
 obtain ⟨n, rfl⟩ : ∃ n, x = n + 1 := ⟨x - 1, by omega⟩
 obtain ⟨r0, hr0⟩ : ∃ r, L[n]? = some r := ⟨_, List.getElem?_eq_getElem (by omega)⟩
 rw [qFx hxi hr0] at hr
 cases hr
 have hsplit : ids = ids.take i ++ (n + 1) :: ids.drop (i + 1) := by
  have := List.take_append_drop i ids
  rw [qEu hxi] at this
  exact this.symm
 have htk : ids.take (i + 1) = ids.take i ++ [n + 1] := by rw [List.take_add_one, hxi]; rfl
 obtain ⟨g1, g2⟩ := qYc htk (hw.ok _ _ hr0) (ho _ _ _ _ hsplit hr0)
 have hl : (ids.take i).length = i := by rw [List.length_take]; omega
 have e := g2 (ids.drop (i + 1))
 rw [List.take_append_drop] at e
 rw [hl] at g1
 rw [e, Nat.zero_add]
 exact g1
theorem txt_gram {L : List Rl} (hw : Wf L) {ids : List Nat} (hx : AccOk L ids) (ho : Odr L ids) : ∀ (x : Nat), x = 0 ∨ x ∈ ids → txt (gram L ids) (numb ids x) = txt L x := by
 intro x
 induction x using Nat.strongRecOn with
 | ind x ih =>
  intro h
  rcases h with rfl | h
  ·have : numb ids 0 = 0 := qBm.2 fun h => by have := (hx.2 0 h).1; omega
   rw [this, qGt, qGt]
  have hat := qFh h
  have hne : numb ids x ≠ 0 := fun e => qBm.1 e h
  have hxx := hx.2 x h
  obtain ⟨n, rfl⟩ : ∃ n, x = n + 1 := ⟨x - 1, by omega⟩
  obtain ⟨r, hr⟩ : ∃ r, L[n]? = some r := ⟨_, List.getElem?_eq_getElem (by omega)⟩
  obtain ⟨i, hi⟩ : ∃ i, numb ids (n + 1) = i + 1 := ⟨numb ids (n + 1) - 1, by omega⟩
  rw [hi, Nat.add_sub_cancel] at hat
  have hg := qFx hat hr
  have hok := qRt hw hx ho i _ hg
  rw [Nat.zero_add] at hok
  have hlo := hw.ok _ _ hr
  have hkids : ∀ k ∈ kids r, k ∈ ids := ho.closed n r h hr
  have hkl := qCn hlo
  rw [hi]
  cases r with
  | letter b => rw [qBp hg, qBp hr]
  | pair a b =>
   rw [qCq hg hok, qCq hr hlo, ih a (hkl a (by simp [kids])).2 (.inr (hkids a (by simp [kids]))), ih b (hkl b (by simp [kids])).2 (.inr (hkids b (by simp [kids])))]
  | power a k =>
   rw [qCa hg hok, qCa hr hlo, ih a (hkl a (by simp [kids])).2 (.inr (hkids a (by simp [kids])))]
end
section
inductive Iso (L1 L2 : List Rl) : Nat → Nat → Prop where
 | letter {n m : Nat} {c : UInt8} : L1[n]? = some (.letter c) → L2[m]? = some (.letter c) → Iso L1 L2 (n + 1) (m + 1)
 | pair {n m a b a' b' : Nat} : L1[n]? = some (.pair a b) → L2[m]? = some (.pair a' b') → Iso L1 L2 a a' → Iso L1 L2 b b' → Iso L1 L2 (n + 1) (m + 1)
 | power {n m a a' k : Nat} : L1[n]? = some (.power a k) → L2[m]? = some (.power a' k) → Iso L1 L2 a a' → Iso L1 L2 (n + 1) (m + 1)
theorem Iso.symm {L1 L2 : List Rl} {x y : Nat} (h : Iso L1 L2 x y) : Iso L2 L1 y x := by
 induction h with
 | letter h1 h2 => exact .letter h2 h1
 | pair h1 h2 _ _ ih1 ih2 => exact .pair h2 h1 ih1 ih2
 | power h1 h2 _ ih => exact .power h2 h1 ih
theorem Iso.pos {L1 L2 : List Rl} {x y : Nat} (h : Iso L1 L2 x y) : 1 ≤ x ∧ 1 ≤ y := by cases h <;> exact ⟨Nat.succ_pos _, Nat.succ_pos _⟩
theorem Iso.fn {L1 L2 : List Rl} (hw : Wf L2) {x y z : Nat} (h : Iso L1 L2 x y) (h' : Iso L1 L2 x z) : y = z := by
 induction h generalizing z with
 | @letter n m c h1 h2 =>
  generalize e : n + 1 = x at h'
  cases h' with
  | letter g1 g2 =>
   obtain rfl := Nat.succ.inj e
   rw [h1] at g1
   cases g1
   rw [hw.nodup _ _ _ h2 g2]
  | pair g1 _ _ _ => obtain rfl := Nat.succ.inj e; rw [h1] at g1; cases g1
  | power g1 _ _ => obtain rfl := Nat.succ.inj e; rw [h1] at g1; cases g1
 | @pair n m a b a' b' h1 h2 _ _ ih1 ih2 =>
  generalize e : n + 1 = x at h'
  cases h' with
  | letter g1 _ => obtain rfl := Nat.succ.inj e; rw [h1] at g1; cases g1
  | pair g1 g2 ga gb =>
   obtain rfl := Nat.succ.inj e
   rw [h1] at g1
   cases g1
   obtain rfl := ih1 ga
   obtain rfl := ih2 gb
   rw [hw.nodup _ _ _ h2 g2]
  | power g1 _ _ => obtain rfl := Nat.succ.inj e; rw [h1] at g1; cases g1
 | @power n m a a' k h1 h2 _ ih =>
  generalize e : n + 1 = x at h'
  cases h' with
  | letter g1 _ => obtain rfl := Nat.succ.inj e; rw [h1] at g1; cases g1
  | pair g1 _ _ _ => obtain rfl := Nat.succ.inj e; rw [h1] at g1; cases g1
  | power g1 g2 ga =>
   obtain rfl := Nat.succ.inj e
   rw [h1] at g1
   cases g1
   obtain rfl := ih ga
   rw [hw.nodup _ _ _ h2 g2]
theorem Iso.fn' {L1 L2 : List Rl} (hw : Wf L1) {x y z : Nat} (h : Iso L1 L2 x y) (h' : Iso L1 L2 z y) : x = z := h.symm.fn hw h'.symm
theorem Iso.key {L1 L2 : List Rl} (h1 : Wf L1) (h2 : Wf L2) {x y : Nat} (h : Iso L1 L2 x y) : Eg.key L1 x = Eg.key L2 y := by
 induction h with
 | letter g1 g2 => rw [(qBq g1).1, (qBq g2).1]
 | pair g1 g2 _ _ ih1 ih2 => rw [(qDh g1 (h1.ok _ _ g1)).1, (qDh g2 (h2.ok _ _ g2)).1, ih1, ih2]
 | power g1 g2 _ ih => rw [(qCt g1 (h1.ok _ _ g1)).1, (qCt g2 (h2.ok _ _ g2)).1, ih]
def Rel (L1 L2 : List Rl) (A B : List Nat) : Prop := ∃ ps : List (Nat × Nat), A = ps.map (·.1) ∧ B = ps.map (·.2) ∧ ∀ p ∈ ps, Iso L1 L2 p.1 p.2
theorem Rel.nil (L1 L2 : List Rl) : Rel L1 L2 [] [] := ⟨[], rfl, rfl, by simp⟩
theorem Rel.one {L1 L2 : List Rl} {x y : Nat} (h : Iso L1 L2 x y) : Rel L1 L2 [x] [y] := ⟨[(x, y)], rfl, rfl, fun p hp => by rw [List.mem_singleton.1 hp]; exact h⟩
theorem Rel.app {L1 L2 : List Rl} {A B A' B' : List Nat} (h : Rel L1 L2 A B) (h' : Rel L1 L2 A' B') : Rel L1 L2 (A ++ A') (B ++ B') := by
 obtain ⟨ps, rfl, rfl, h1⟩ := h
 obtain ⟨qs, rfl, rfl, h2⟩ := h'
 refine ⟨ps ++ qs, by simp, by simp, fun p hp => ?_⟩
 rcases List.mem_append.1 hp with hp | hp
 ·exact h1 p hp
 exact h2 p hp
theorem Rel.length {L1 L2 : List Rl} {A B : List Nat} (h : Rel L1 L2 A B) : A.length = B.length := by
 obtain ⟨ps, rfl, rfl, _⟩ := h
 simp
theorem Rel.drop {L1 L2 : List Rl} {A B : List Nat} (h : Rel L1 L2 A B) (k : Nat) : Rel L1 L2 (A.drop k) (B.drop k) := by
 obtain ⟨ps, rfl, rfl, h1⟩ := h
 exact ⟨ps.drop k, by rw [List.map_drop], by rw [List.map_drop], fun p hp => h1 p (List.mem_of_mem_drop hp)⟩
theorem Rel.take {L1 L2 : List Rl} {A B : List Nat} (h : Rel L1 L2 A B) (k : Nat) : Rel L1 L2 (A.take k) (B.take k) := by
 obtain ⟨ps, rfl, rfl, h1⟩ := h
 exact ⟨ps.take k, by rw [List.map_take], by rw [List.map_take], fun p hp => h1 p (List.mem_of_mem_take hp)⟩
theorem Rel.get {L1 L2 : List Rl} {A B : List Nat} (h : Rel L1 L2 A B) {i x y : Nat} (hx : A[i]? = some x) (hy : B[i]? = some y) : Iso L1 L2 x y := by
 obtain ⟨ps, rfl, rfl, h1⟩ := h
 rw [List.getElem?_map] at hx hy
 cases e : ps[i]? with
 | none => rw [e] at hx; cases hx
 | some p =>
  rw [e] at hx hy
  cases hx
  cases hy
  exact h1 p (List.mem_of_getElem? e)
theorem Rel.keys {L1 L2 : List Rl} (h1 : Wf L1) (h2 : Wf L2) {A B : List Nat} (h : Rel L1 L2 A B) : A.map (Eg.key L1) = B.map (Eg.key L2) := by
 obtain ⟨ps, rfl, rfl, hp⟩ := h
 rw [List.map_map, List.map_map]
 exact List.map_congr_left fun p hp' => (hp p hp').key h1 h2
theorem Rel.mem {L1 L2 : List Rl} (h1 : Wf L1) (h2 : Wf L2) {A B : List Nat} (h : Rel L1 L2 A B) {x y : Nat} (hi : Iso L1 L2 x y) : x ∈ A ↔ y ∈ B := by
 obtain ⟨ps, rfl, rfl, hp⟩ := h
 constructor
 ·intro hx
  obtain ⟨p, hp1, rfl⟩ := List.mem_map.1 hx
  rw [hi.fn h2 (hp p hp1)]
  exact List.mem_map.2 ⟨p, hp1, rfl⟩
 intro hy
 obtain ⟨p, hp1, rfl⟩ := List.mem_map.1 hy
 rw [hi.fn' h1 (hp p hp1)]
 exact List.mem_map.2 ⟨p, hp1, rfl⟩
theorem Lts.rel {L1 L2 : List Rl} {A B : List Nat} {bs : List UInt8} (h : Lts L1 A bs) (h' : Lts L2 B bs) : Rel L1 L2 A B := by
 induction h generalizing B with
 | nil => rw [h'.nil_inv]; exact .nil _ _
 | snoc _ g1 ih =>
  generalize e : (_ ++ [_] : List UInt8) = c at h'
  cases h' with
  | nil => simp at e
  | snoc g2 g3 =>
   obtain ⟨rfl, rfl⟩ := qIc e
   exact (ih g2).app (.one (.letter g1 g3))
theorem runs_rel {L1 L2 : List Rl} (h1 : Wf L1) (h2 : Wf L2) {ps : List (Nat × Nat)} (hp : ∀ p ∈ ps, Iso L1 L2 p.1 p.2) : ∃ qs : List ((Nat × Nat) × Nat), kL (ps.map (·.1)) = qs.map (fun q => (q.1.1, q.2)) ∧ kL (ps.map (·.2)) = qs.map (fun q => (q.1.2, q.2)) ∧ ∀ q ∈ qs, Iso L1 L2 q.1.1 q.1.2 := by
 generalize hn : ps.length = n
 induction n generalizing ps with
 | zero => obtain rfl := List.eq_nil_of_length_eq_zero hn; exact ⟨[], rfl, rfl, by simp⟩
 | succ n ih =>
  rcases List.eq_nil_or_concat ps with rfl | ⟨ps, p, rfl⟩
  ·simp at hn
  rw [List.concat_eq_append] at hp hn ⊢
  obtain ⟨qs, e1, e2, hq⟩ := ih (ps := ps) (fun p' hp' => hp p' (by simp [hp'])) (by simpa using hn)
  have hpp := hp p (by simp)
  simp only [List.map_append, List.map_cons, List.map_nil]
  rw [qBi, qBi, e1, e2]
  rcases List.eq_nil_or_concat qs with rfl | ⟨qs, ⟨⟨y1, y2⟩, k⟩, rfl⟩
  ·exact ⟨[(p, 1)], by simp [qGh], by simp [qGh], fun q h => by rw [List.mem_singleton.1 h]; exact hpp⟩
  rw [List.concat_eq_append] at hq ⊢
  have hy := hq ((y1, y2), k) (by simp)
  simp only [List.map_append, List.map_cons, List.map_nil]
  by_cases e : y1 = p.1
  ·have e' : y2 = p.2 := by subst e; exact hy.fn h2 hpp
   rw [e, e', qCh, qCh]
   refine ⟨qs ++ [(p, k + 1)], by simp, by simp, fun q h => ?_⟩
   rcases List.mem_append.1 h with h | h
   ·exact hq q (by simp [h])
   rw [List.mem_singleton.1 h]; exact hpp
  have e' : ¬ y2 = p.2 := fun e' => e (by subst e'; exact hy.fn' h1 hpp)
  rw [qCu _ e, qCu _ e']
  refine ⟨qs ++ [((y1, y2), k)] ++ [(p, 1)], by simp, by simp, fun q h => ?_⟩
  rcases List.mem_append.1 h with h | h
  ·exact hq q h
  rw [List.mem_singleton.1 h]; exact hpp
theorem Rns.nil_inv {L : List Rl} {out : List Nat} (h : Rns L [] out) : out = [] := by
 generalize e : ([] : List (Nat × Nat)) = c at h
 cases h with
 | nil => rfl
 | snoc _ _ => simp at e
theorem Rns.snoc_inv {L : List Rl} {rs : List (Nat × Nat)} {x t : Nat} {out : List Nat} (h : Rns L (rs ++ [(x, t)]) out) : ∃ o id, out = o ++ [id] ∧ Rns L rs o ∧ RunId L x t id := by
 generalize e : rs ++ [(x, t)] = c at h
 cases h with
 | nil => simp at e
 | snoc g1 g2 =>
  obtain ⟨rfl, e2⟩ := qIc e
  cases e2
  exact ⟨_, _, rfl, g1, g2⟩
theorem Rns.rel {L1 L2 : List Rl} {qs : List ((Nat × Nat) × Nat)} (hq : ∀ q ∈ qs, Iso L1 L2 q.1.1 q.1.2) {o1 o2 : List Nat} (h : Rns L1 (qs.map fun q => (q.1.1, q.2)) o1) (h' : Rns L2 (qs.map fun q => (q.1.2, q.2)) o2) : Rel L1 L2 o1 o2 := by
 generalize hn : qs.length = n
 induction n generalizing qs o1 o2 with
 | zero =>
  obtain rfl := List.eq_nil_of_length_eq_zero hn
  rw [h.nil_inv, h'.nil_inv]
  exact .nil _ _
 | succ n ih =>
  rcases List.eq_nil_or_concat qs with rfl | ⟨qs, ⟨⟨x1, x2⟩, t⟩, rfl⟩
  ·simp at hn
  rw [List.concat_eq_append] at hq hn h h'
  simp only [List.map_append, List.map_cons, List.map_nil] at h h'
  obtain ⟨a, i, rfl, g1, g2⟩ := h.snoc_inv
  obtain ⟨b, j, rfl, k1, k2⟩ := h'.snoc_inv
  refine (ih (qs := qs) (fun q h => hq q (by simp [h])) g1 k1 (by simpa using hn)).app (.one ?_)
  have hx := hq ((x1, x2), t) (by simp)
  rcases g2 with ⟨e1, rfl⟩ | ⟨e1, i', rfl, hi⟩ <;> rcases k2 with ⟨e2, rfl⟩ | ⟨e2, j', rfl, hj⟩
  ·exact hx
  ·omega
  ·omega
  exact .power hi hj hx
theorem Prs.rel {L1 L2 : List Rl} {A B : List Nat} (hr : Rel L1 L2 A B) {js o1 o2 : List Nat} {a a' : Nat} (h : Prs L1 A js a o1) (h' : Prs L2 B js a' o2) : a = a' ∧ Rel L1 L2 o1 o2 := by
 induction h generalizing a' o2 with
 | nil =>
  generalize e : ([] : List Nat) = c at h'
  cases h' with
  | nil => exact ⟨rfl, .nil _ _⟩
  | snoc _ _ _ _ _ => simp at e
 | snoc h1 h2 h3 h4 h5 ih =>
  generalize e : (_ ++ [_] : List Nat) = c at h'
  cases h' with
  | nil => simp at e
  | snoc g1 g2 g3 g4 g5 =>
   obtain ⟨rfl, rfl⟩ := qIc e
   obtain ⟨rfl, hro⟩ := ih g1
   exact ⟨rfl, (hro.app ((hr.drop _).take _)).app (.one (.pair h5 g5 (hr.get h3 g3) (hr.get h4 g4)))⟩
theorem Rch.rel {L1 L2 : List Rl} (w1 : Wf L1) (w2 : Wf L2) {bs : List UInt8} {lv : Nat} {A B : List Nat} (h : Rch L1 bs lv A) (h' : Rch L2 bs lv B) : Rel L1 L2 A B := by
 induction h generalizing B with
 | start h =>
  generalize e : 1 = l at h'
  cases h' with
  | start g => exact h.rel g
  | odd g _ _ _ => have := g.pos; omega
  | even g _ _ _ _ => have := g.pos; omega
 | odd h h1 h2 h3 ih =>
  generalize e : _ + 1 = l at h'
  cases h' with
  | start g => have := h.pos; omega
  | odd g g1 g2 g3 =>
   obtain rfl := Nat.succ.inj e
   obtain ⟨ps, rfl, rfl, hp⟩ := ih g
   obtain ⟨qs, e1, e2, hq⟩ := runs_rel w1 w2 hp
   rw [e1] at h3
   rw [e2] at g3
   exact Rns.rel hq h3 g3
  | even g g1 _ _ _ => omega
 | even h h1 h2 h3 h4 ih =>
  generalize e : _ + 1 = l at h'
  cases h' with
  | start g => have := h.pos; omega
  | odd g g1 g2 g3 => omega
  | even g g1 g2 g3 g4 =>
   obtain rfl := Nat.succ.inj e
   have hr := ih g
   rw [hr.keys w1 w2] at h4
   obtain ⟨rfl, ho⟩ := Prs.rel hr h4 g4
   exact ho.app (hr.drop _)
theorem Sg.rel {L1 L2 : List Rl} (w1 : Wf L1) (w2 : Wf L2) {bs : List UInt8} {x y : Nat} (h : Sg L1 bs x) (h' : Sg L2 bs y) : (x = 0 ∧ y = 0) ∨ Iso L1 L2 x y := by
 rcases h with ⟨h1, h2⟩ | ⟨lv, h⟩ <;> rcases h' with ⟨g1, g2⟩ | ⟨lv', h'⟩
 ·exact .inl ⟨h2, g2⟩
 ·exact absurd h1 h'.nonempty
 ·exact absurd g1 h.nonempty
 right
 have key : lv = lv' := by
  rcases Nat.lt_trichotomy lv lv' with hl | hl | hl
  ·obtain ⟨r, hr, h2⟩ := h'.before lv h.pos hl
   have := (h.rel w1 w2 hr).length
   simp at this
   omega
  ·exact hl
  obtain ⟨r, hr, h2⟩ := h.before lv' h'.pos hl
  have := (hr.rel w1 w2 h').length
  simp at this
  omega
 subst key
 exact (h.rel w1 w2 h').get (i := 0) rfl rfl
theorem qTm {L1 L2 : List Rl} (w1 : Wf L1) (w2 : Wf L2) {x y : Nat} (h : Iso L1 L2 x y) : ∀ {A B : List Nat}, Rel L1 L2 A B → Rel L1 L2 (visit L1 x A) (visit L2 y B) := by
 induction h with
 | @letter n m c g1 g2 =>
  intro A B hr
  have hi : Iso L1 L2 (n + 1) (m + 1) := .letter g1 g2
  by_cases hm : n + 1 ∈ A
  ·rw [qCw hm, qCw ((hr.mem w1 w2 hi).1 hm)]; exact hr
  rw [qBg w1 g1 hm, qBg w2 g2 (fun h => hm ((hr.mem w1 w2 hi).2 h))]
  exact hr.app (.one hi)
 | @pair n m a b a' b' g1 g2 ha hb ih1 ih2 =>
  intro A B hr
  have hi : Iso L1 L2 (n + 1) (m + 1) := .pair g1 g2 ha hb
  by_cases hm : n + 1 ∈ A
  ·rw [qCw hm, qCw ((hr.mem w1 w2 hi).1 hm)]; exact hr
  rw [qBg w1 g1 hm, qBg w2 g2 (fun h => hm ((hr.mem w1 w2 hi).2 h))]
  exact (ih2 (ih1 hr)).app (.one hi)
 | @power n m a a' k g1 g2 ha ih =>
  intro A B hr
  have hi : Iso L1 L2 (n + 1) (m + 1) := .power g1 g2 ha
  by_cases hm : n + 1 ∈ A
  ·rw [qCw hm, qCw ((hr.mem w1 w2 hi).1 hm)]; exact hr
  rw [qBg w1 g1 hm, qBg w2 g2 (fun h => hm ((hr.mem w1 w2 hi).2 h))]
  exact (ih hr).app (.one hi)
theorem qPt {L1 L2 : List Rl} (w1 : Wf L1) (w2 : Wf L2) : ∀ {xs ys A B : List Nat}, xs.length = ys.length → (∀ (i x y : Nat), xs[i]? = some x → ys[i]? = some y → (x = 0 ∧ y = 0) ∨ Iso L1 L2 x y) → Rel L1 L2 A B → Rel L1 L2 (kK L1 xs A) (kK L2 ys B)
 | [], [], _, _, _, _, h => h
 | [], _ :: _, _, _, h, _, _ => by simp at h
 | _ :: _, [], _, _, h, _, _ => by simp at h
 | x :: xs, y :: ys, A, B, hl, hx, h => by
  rw [qBl, qBl]
  refine qPt w1 w2 (by simpa using hl) (fun i x' y' h1 h2 => hx (i + 1) x' y' (by simpa using h1) (by simpa using h2)) ?_
  rcases hx 0 x y rfl rfl with ⟨rfl, rfl⟩ | hi
  ·rw [qCm, qCm]; exact h
  exact qTm w1 w2 hi h
theorem qMj {L1 L2 : List Rl} (w1 : Wf L1) (w2 : Wf L2) {x y : Nat} (hi : Iso L1 L2 x y) : ∀ {ps : List (Nat × Nat)}, (∀ p ∈ ps, Iso L1 L2 p.1 p.2) → numb (ps.map (·.1)) x = numb (ps.map (·.2)) y
 | [], _ => rfl
 | p :: ps, hp => by
  have ih := qMj w1 w2 hi (ps := ps) fun q h => hp q (by simp [h])
  have hpp := hp p (by simp)
  simp only [List.map_cons, numb]
  rw [ih]
  by_cases e : p.1 = x
  ·have e' : p.2 = y := by subst e; exact hpp.fn w2 hi
   rw [if_pos e, if_pos e']
  have e' : ¬ p.2 = y := fun e' => e (by subst e'; exact hpp.fn' w1 hi)
  rw [if_neg e, if_neg e']
theorem gram_rel {L1 L2 : List Rl} (w1 : Wf L1) (w2 : Wf L2) {A B : List Nat} (h : Rel L1 L2 A B) : gram L1 A = gram L2 B := by
 obtain ⟨ps, rfl, rfl, hp⟩ := h
 unfold gram
 rw [List.map_map, List.map_map]
 refine List.map_congr_left fun p hp' => ?_
 have hi := hp p hp'
 obtain ⟨x, y⟩ := p
 simp only [Function.comp] at hi ⊢
 cases hi with
 | letter g1 g2 => simp [List.getD_eq_getElem?_getD, g1, g2, qAz]
 | pair g1 g2 ha hb => simp [List.getD_eq_getElem?_getD, g1, g2, qAz, qMj w1 w2 ha hp, qMj w1 w2 hb hp]
 | power g1 g2 ha => simp [List.getD_eq_getElem?_getD, g1, g2, qAz, qMj w1 w2 ha hp]
end
section
def imP (l : List Im) : List (List UInt8 × List UInt8) := l.map fun x => (x.name, x.bs)
structure EqL (L : List Rl) (l : List Im) (ids ys : List Nat) : Prop where
 wf : Wf L
 il : ids.length = l.length
 yl : ys.length = l.length
 tx : Txs L l ids
 sg : SigL L ids ys
variable {L L1 L2 : List Rl} {l l1 l2 : List Im} {ids ys ids1 ids2 y1 y2 : List Nat}
theorem EqL.bound (h : EqL L l ids ys) : ∀ y ∈ ys, y ≤ L.length := h.sg.bound (by rw [h.yl, h.il])
theorem EqL.acc (h : EqL L l ids ys) : AccOk L (kK L ys []) := AccOk.visits h.wf h.bound
theorem EqL.at (h : EqL L l ids ys) {i y : Nat} (hy : ys[i]? = some y) : ∃ x id, l[i]? = some x ∧ ids[i]? = some id ∧ SigOf L id y ∧ txt L id = x.bs := by
 have hi := (List.getElem?_eq_some_iff.1 hy).1
 have h1 := h.il
 have h2 := h.yl
 obtain ⟨x, hx⟩ : ∃ x, l[i]? = some x := ⟨_, List.getElem?_eq_getElem (by omega)⟩
 obtain ⟨id, hid⟩ : ∃ x, ids[i]? = some x := ⟨_, List.getElem?_eq_getElem (by omega)⟩
 exact ⟨x, id, hx, hid, h.sg i id y hid hy, (h.tx i x id hx hid).2⟩
theorem mkN_fst (h : ids.length = l.length) : (mkN l ids).map (·.1) = l.map (·.name) := by
 unfold mkN
 rw [List.map_map]
 have e : ((fun x : List UInt8 × Int => x.1) ∘ fun p : Im × Nat => (p.1.name, (p.2 : Int))) = (fun x : Im => x.name) ∘ Prod.fst := rfl
 rw [e, ← List.map_map, List.map_fst_zip (by omega)]
theorem EqL.enc (h : EqL L l ids ys) : encB L (kK L ys []) (nmY (mkN l ids) ys) = encA (gram L (kK L ys [])) ((l.map (·.name)).zip (ys.map (numb (kK L ys [])))) := by
 rw [zBw h.acc.2]
 congr 1
 unfold nmY
 rw [mkN_fst h.il, List.zip_map_right]
 rfl
end
section
set_option maxRecDepth 10000
variable {E : Env} {Es : List Ent} {pp tb s most m bm : Nat} {f : Int → Option Value}
structure EqG where
 i : Nat
 e : Bool
def EqOk (l r : List Im) (q : EqG) : Prop := q.i ≤ l.length ∧ (q.e = true ↔ l.length = r.length ∧ imP (l.take q.i) = imP (r.take q.i))
theorem EqOk.all {l r : List Im} {e : Bool} (h : EqOk l r ⟨l.length, e⟩) : e = decide (imP l = imP r) := by
 have h2 := h.2
 simp only at h2
 by_cases hh : imP l = imP r
 ·have hl : l.length = r.length := by have := congrArg List.length hh; simpa [imP] using this
  rw [decide_eq_true hh]
  refine h2.2 ⟨hl, ?_⟩
  rw [List.take_of_length_le (Nat.le_refl _), List.take_of_length_le (by omega)]
  exact hh
 rw [decide_eq_false hh]
 cases e with
 | false => rfl
 | true =>
  obtain ⟨hl, ht⟩ := h2.1 rfl
  rw [List.take_of_length_le (Nat.le_refl _), List.take_of_length_le (by omega)] at ht
  exact absurd ht hh
end
end Go.Proofs.YtkkjjablmmmmkaaGreatDoor
