import Derived.Test.YtddfnkijolfhbaaGreatQ68
set_option linter.all false
set_option maxHeartbeats 1000000
namespace Go.Proofs.YtddfnkijolfhbaaGreat
open Go Go.RowKit Sl Eg
theorem qQg {V : List Nat} {x y : Nat} (hx : x ∈ V) (h : numb V x = numb V y) : x = y := by
 have h1 := qIh hx
 have hy : y ∈ V := Classical.byContradiction fun hy => qBl.1 (h.trans (qBl.2 hy)) hx
 have h2 := qIh hy
 rw [h, h2] at h1
 exact (Option.some.inj h1).symm
theorem qLn {V : List Nat} {x : Nat} (h : x ∈ V) : 1 ≤ numb V x := by
 have : numb V x ≠ 0 := fun e => qBl.1 e h
 omega
structure Lis (L : List Rl) (V : List Nat) : Prop where
 wf : Wf L
 acc : AccOk L V
 ord : Odr L V
variable {L : List Rl} {V : List Nat}
theorem Lis.closed (h : Lis L V) : Closed L V := h.ord.closed
theorem Lis.mem (h : Lis L V) {x : Nat} (hx : x ∈ V) : ∃ n r, x = n + 1 ∧ L[n]? = some r ∧ ∀ k ∈ kids r, k ∈ V := by
 have hb := h.acc.2 x hx
 obtain ⟨n, rfl⟩ : ∃ n, x = n + 1 := ⟨x - 1, by omega⟩
 obtain ⟨r, hr⟩ : ∃ r, L[n]? = some r := ⟨_, List.getElem?_eq_getElem (by omega)⟩
 exact ⟨n, r, rfl, hr, h.closed n r hx hr⟩
theorem qDn : (gram L V).length = V.length := List.length_map _
theorem Lis.get (h : Lis L V) {n : Nat} {r : Rl} (hx : n + 1 ∈ V) (hr : L[n]? = some r) : ∃ i, numb V (n + 1) = i + 1 ∧ (gram L V)[i]? = some (qCb V r) := by
 have h1 := qLn hx
 refine ⟨numb V (n + 1) - 1, by omega, qFz (qIh hx) hr⟩
theorem Lis.zero (h : Lis L V) : 0 ∉ V := fun h0 => by have := (h.acc.2 0 h0).1; omega
theorem Lis.one (h : Lis L V) {i : Nat} {r : Rl} (hr : (gram L V)[i]? = some r) : ∃ n q, V[i]? = some (n + 1) ∧ L[n]? = some q ∧ r = qCb V q ∧ numb V (n + 1) = i + 1 := by
 have hil : i < V.length := by have := (List.getElem?_eq_some_iff.1 hr).1; rwa [qDn] at this
 obtain ⟨x, hxi⟩ : ∃ x, V[i]? = some x := ⟨_, List.getElem?_eq_getElem hil⟩
 have hm := List.mem_of_getElem? hxi
 obtain ⟨n, q, rfl, hq, _⟩ := h.mem hm
 rw [qFz hxi hq] at hr
 refine ⟨n, q, hxi, hq, (Option.some.inj hr).symm, ?_⟩
 have h1 := qIh hm
 have h2 := qLn hm
 have h3 := qIi V (n + 1)
 have : numb V (n + 1) - 1 = i := by
  have hnd := h.acc.1
  exact (List.getElem?_inj (by omega) hnd).1 (h1.trans hxi.symm)
 omega
theorem zBg {q q' : Rl} (h1 : ∀ k ∈ kids q, k ∈ V) (h2 : ∀ k ∈ kids q', k ∈ V) (h : qCb V q = qCb V q') : q = q' := by
 cases q <;> cases q' <;> simp only [qCb, Rl.letter.injEq, Rl.pair.injEq, Rl.power.injEq, reduceCtorEq] at h
 ·rw [h]
 ·rw [qQg (h1 _ (by simp [kids])) h.1, qQg (h1 _ (by simp [kids])) h.2]
 rw [qQg (h1 _ (by simp [kids])) h.1, h.2]
theorem Lis.gwf (h : Lis L V) : Wf (gram L V) := by
 have hok := zAo h.wf h.acc h.ord
 refine ⟨fun i r hr => by have := hok i r hr; rwa [Nat.zero_add] at this, fun i j r hi hj => ?_, fun i => ?_, by rw [qDn]; exact Nat.le_trans h.acc.len h.wf.room⟩
 ·obtain ⟨n, q, v1, q1, e1, m1⟩ := h.one hi
  obtain ⟨n', q', v2, q2, e2, m2⟩ := h.one hj
  have k1 := h.closed n q (List.mem_of_getElem? v1) q1
  have k2 := h.closed n' q' (List.mem_of_getElem? v2) q2
  obtain rfl := zBg k1 k2 (e1.symm.trans e2)
  obtain rfl := h.wf.nodup _ _ _ q1 q2
  omega
 rcases Nat.lt_or_ge (gram L V).length i with hi | hi
 ·rw [qUq hi]; exact Nat.zero_le _
 cases i with
 | zero => rw [len_zero]; exact Nat.zero_le _
 | succ i =>
  obtain ⟨r, hr⟩ : ∃ r, (gram L V)[i]? = some r := ⟨_, List.getElem?_eq_getElem (by omega)⟩
  obtain ⟨n, q, v1, q1, e1, m1⟩ := h.one hr
  have := txt_gram h.wf h.acc h.ord (n + 1) (.inr (List.mem_of_getElem? v1))
  rw [m1] at this
  unfold len
  rw [this]
  exact h.wf.short (n + 1)
theorem Lis.iso (h : Lis L V) : ∀ x, x ∈ V → Iso L (gram L V) x (numb V x) := by
 intro x
 induction x using Nat.strongRecOn with
 | ind x ih =>
  intro hx
  obtain ⟨n, r, rfl, hr, hk⟩ := h.mem hx
  obtain ⟨i, e, hg⟩ := h.get hx hr
  have hkl := qGa (h.wf.ok _ _ hr)
  rw [e]
  cases r with
  | letter b => exact .letter hr hg
  | pair a b => exact .pair hr hg (ih a (hkl a (by simp [kids])).2 (hk a (by simp [kids]))) (ih b (hkl b (by simp [kids])).2 (hk b (by simp [kids])))
  | power a t => exact .power hr hg (ih a (hkl a (by simp [kids])).2 (hk a (by simp [kids])))
end Go.Proofs.YtddfnkijolfhbaaGreat
