import Derived.Test.YtddfnkijolfhbaaGreatQ62
set_option linter.all false
set_option maxHeartbeats 1000000
namespace Go.Proofs.YtddfnkijolfhbaaGreat
open Go Go.RowKit Sl Eg
section
def encG : Nat → List Rl → List UInt8
 | _, [] => []
 | k, r :: G => rulB (k + 1) r ++ encG (k + 1) G
def GOk (k : Nat) (G : List Rl) : Prop := ∀ (i : Nat) (r : Rl), G[i]? = some r → r.ok (k + i + 1)
theorem qIe : ∀ (A B : List Rl) (k : Nat), encG k (A ++ B) = encG k A ++ encG (k + A.length) B
 | [], B, k => rfl
 | r :: A, B, k => by
  simp only [List.cons_append, encG, List.append_assoc, qIe A B (k + 1), List.length_cons]
  rw [show k + 1 + A.length = k + (A.length + 1) by omega]
def encM (l : List (List UInt8 × Nat)) : List UInt8 := l.flatMap fun p => qAs p.1 ++ vput p.2
def gram (L : List Rl) (ids : List Nat) : List Rl := ids.map fun x => qCb ids (L.getD (x - 1) (.letter 0))
theorem qFz {L : List Rl} {ids : List Nat} {i n : Nat} {r : Rl} (h : ids[i]? = some (n + 1)) (hr : L[n]? = some r) : (gram L ids)[i]? = some (qCb ids r) := by
 unfold gram
 rw [List.getElem?_map, h]
 simp only [Option.map_some, Nat.add_sub_cancel, List.getD_eq_getElem?_getD, hr, Option.getD_some]
theorem zAh {L : List Rl} {ids : List Nat} (hx : ∀ x ∈ ids, 1 ≤ x ∧ x ≤ L.length) : ∀ i, i ≤ ids.length → encR L ids i = encG 0 ((gram L ids).take i)
 | 0, _ => rfl
 | i + 1, hi => by
  obtain ⟨x, hxi⟩ : ∃ x, ids[i]? = some x := ⟨_, List.getElem?_eq_getElem (by omega)⟩
  have hxx := hx x (List.mem_of_getElem? hxi)
  obtain ⟨n, rfl⟩ : ∃ n, x = n + 1 := ⟨x - 1, by omega⟩
  obtain ⟨r, hr⟩ : ∃ r, L[n]? = some r := ⟨_, List.getElem?_eq_getElem (by omega)⟩
  have hg := qFz hxi hr
  rw [zAi hxi hr, zAh hx i (by omega), List.take_add_one, hg, qIe]
  have hl : ((gram L ids).take i).length = i := by rw [List.length_take]; unfold gram; rw [List.length_map]; omega
  rw [hl, Nat.zero_add]
  simp only [Option.toList_some, encG, List.append_nil]
theorem zAo {L : List Rl} (hw : Wf L) {ids : List Nat} (hx : AccOk L ids) (ho : Odr L ids) : GOk 0 (gram L ids) := fun i r hr => by
 have hil : i < ids.length := by have := (List.getElem?_eq_some_iff.1 hr).1; unfold gram at this; rwa [List.length_map] at this
 obtain ⟨x, hxi⟩ : ∃ x, ids[i]? = some x := ⟨_, List.getElem?_eq_getElem hil⟩
 have hxx := hx.2 x (List.mem_of_getElem? hxi)
 obtain ⟨n, rfl⟩ : ∃ n, x = n + 1 := ⟨x - 1, by omega⟩
 obtain ⟨r0, hr0⟩ : ∃ r, L[n]? = some r := ⟨_, List.getElem?_eq_getElem (by omega)⟩
 rw [qFz hxi hr0] at hr
 cases hr
 have hsplit : ids = ids.take i ++ (n + 1) :: ids.drop (i + 1) := by
  have := List.take_append_drop i ids
  rw [qDy hxi] at this
  exact this.symm
 have htk : ids.take (i + 1) = ids.take i ++ [n + 1] := by rw [List.take_add_one, hxi]; rfl
 obtain ⟨g1, g2⟩ := qVw htk (hw.ok _ _ hr0) (ho _ _ _ _ hsplit hr0)
 have hl : (ids.take i).length = i := by rw [List.length_take]; omega
 have e := g2 (ids.drop (i + 1))
 rw [List.take_append_drop] at e
 rw [hl] at g1
 rw [e, Nat.zero_add]
 exact g1
theorem txt_gram {L : List Rl} (hw : Wf L) {ids : List Nat} (hx : AccOk L ids) (ho : Odr L ids) : ∀ (x : Nat), x = 0 ∨ x ∈ ids → txt (gram L ids) (numb ids x) = txt L x := by
 intro x
 induction x using Nat.strongRecOn with
 | ind x ih =>
  intro h
  rcases h with rfl | h
  ·have : numb ids 0 = 0 := qBl.2 fun h => by have := (hx.2 0 h).1; omega
   rw [this, qQt, qQt]
  have hat := qIh h
  have hne : numb ids x ≠ 0 := fun e => qBl.1 e h
  have hxx := hx.2 x h
  obtain ⟨n, rfl⟩ : ∃ n, x = n + 1 := ⟨x - 1, by omega⟩
  obtain ⟨r, hr⟩ : ∃ r, L[n]? = some r := ⟨_, List.getElem?_eq_getElem (by omega)⟩
  obtain ⟨i, hi⟩ : ∃ i, numb ids (n + 1) = i + 1 := ⟨numb ids (n + 1) - 1, by omega⟩
  rw [hi, Nat.add_sub_cancel] at hat
  have hg := qFz hat hr
  have hok := zAo hw hx ho i _ hg
  rw [Nat.zero_add] at hok
  have hlo := hw.ok _ _ hr
  have hkids : ∀ k ∈ kids r, k ∈ ids := ho.closed n r h hr
  have hkl := qGa hlo
  rw [hi]
  cases r with
  | letter b => rw [qCm hg, qCm hr]
  | pair a b =>
   rw [qEa hg hok, qEa hr hlo, ih a (hkl a (by simp [kids])).2 (.inr (hkids a (by simp [kids]))), ih b (hkl b (by simp [kids])).2 (.inr (hkids b (by simp [kids])))]
  | power a k =>
   rw [qDr hg hok, qDr hr hlo, ih a (hkl a (by simp [kids])).2 (.inr (hkids a (by simp [kids])))]
end
section
inductive Iso (L1 L2 : List Rl) : Nat → Nat → Prop where
 | letter {n m : Nat} {c : UInt8} : L1[n]? = some (.letter c) → L2[m]? = some (.letter c) → Iso L1 L2 (n + 1) (m + 1)
 | pair {n m a b a' b' : Nat} : L1[n]? = some (.pair a b) → L2[m]? = some (.pair a' b') → Iso L1 L2 a a' → Iso L1 L2 b b' → Iso L1 L2 (n + 1) (m + 1)
 | power {n m a a' k : Nat} : L1[n]? = some (.power a k) → L2[m]? = some (.power a' k) → Iso L1 L2 a a' → Iso L1 L2 (n + 1) (m + 1)
def Rel (L1 L2 : List Rl) (A B : List Nat) : Prop := ∃ ps : List (Nat × Nat), A = ps.map (·.1) ∧ B = ps.map (·.2) ∧ ∀ p ∈ ps, Iso L1 L2 p.1 p.2
theorem Rel.length {L1 L2 : List Rl} {A B : List Nat} (h : Rel L1 L2 A B) : A.length = B.length := by
 obtain ⟨ps, rfl, rfl, _⟩ := h
 simp
end
end Go.Proofs.YtddfnkijolfhbaaGreat
