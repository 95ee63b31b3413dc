import Derived.Test.YtkkjjablmmmmkaaGreatDoorQ68
set_option linter.all false
namespace Go.Proofs.YtkkjjablmmmmkaaGreatDoor
open Go Go.RowKit Sl Eg
section
theorem Sig.part {L : List Rl} (hw : Wf L) {x a : Nat} (hs : Sig L x) (h1 : 1 ≤ a) (h2 : a ≤ L.length) (h3 : 0 ≤ lvl L a) (h4 : lvl L a < lvl L x) (P Q : Nat → List Nat)
  (he : ∀ k : Nat, (k : Int) < lvl L x → expd L k x = P k ++ (expd L k a ++ Q k)) (hp : ∀ k : Nat, 1 ≤ k → (k : Int) < lvl L x → qBo L (k - 1) (P k) = P (k - 1)) : Sig L a := by
 have key : ∀ k, 1 ≤ k → Inv L k (expd L (k - 1) a) ∧ Sq L k (expd L (k - 1) a) (expd L k a) := fun k hk => by
  rcases Int.lt_or_le (k : Int) (lvl L x) with hlt | hge
  ·have hi := hs.inv k hk
   have hq := hs.step k hk
   rw [he (k - 1) (by omega)] at hi hq
   rw [he k hlt] at hq
   obtain ⟨X, W, e1, s1, s2, _⟩ := hq.split hw
   have iX : Inv L k X := by rw [e1] at hi; exact hi.left
   have iW : Inv L k W := by rw [e1] at hi; exact hi.right
   have eX : X = P (k - 1) := by rw [← hp k hk hlt]; exact (s1.down iX hk).symm
   rw [eX] at e1
   have e2 := List.append_cancel_left e1
   obtain ⟨Y, Z, e3, s3, s4, _⟩ := s2.split hw
   rw [e3] at iW
   have eY : Y = expd L (k - 1) a := by
    have e4 := s3.down iW.left hk
    rw [← e4, ← qBf, qDo hw (by omega) (by simpa using h2), qBf]
   rw [← eY]
   exact ⟨iW.left, s3⟩
  rw [qCb h1 (by omega), qCb h1 (by omega)]
  exact ⟨.one hw h1 h2 h3 (by omega), .one L k a⟩
 exact ⟨h1, h2, h3, fun k hk => (key k hk).1, fun k hk => (key k hk).2⟩
def Nb (L : List Rl) (a b : Nat) : Prop := ∀ k : Nat, 1 ≤ k → (k : Int) ≤ max (lvl L a) (lvl L b) → Bdry L k (expd L (k - 1) a) (expd L k a) (expd L (k - 1) b) ∧ Inv L k (expd L (k - 1) a ++ expd L (k - 1) b)
theorem qYy {α : Type} {A B : List α} (h : A ≠ []) : (A ++ B).head? = A.head? := by
 cases A with
 | nil => exact absurd rfl h
 | cons a A => rfl
theorem nb_of {L : List Rl} (hw : Wf L) {x a b : Nat} (hs : Sig L x) (ha : 1 ≤ a ∧ a ≤ L.length) (hb : 1 ≤ b ∧ b ≤ L.length) (h4 : lvl L a < lvl L x) (h5 : lvl L b < lvl L x) (Q : Nat → List Nat) (he : ∀ k : Nat, (k : Int) < lvl L x → expd L k x = expd L k a ++ (expd L k b ++ Q k)) : Nb L a b := fun k hk hl => by
 have hlt : (k : Int) < lvl L x := by omega
 have hi := hs.inv k hk
 have hq := hs.step k hk
 rw [he (k - 1) (by omega)] at hi hq
 rw [he k hlt] at hq
 obtain ⟨X, W, e1, s1, s2, hbd⟩ := hq.split hw
 have hi' := hi
 rw [e1] at hi'
 have eX : X = expd L (k - 1) a := by
  rw [← s1.down hi'.left hk, ← qBf, qDo hw (by omega) (by simpa using ha.2), qBf]
 rw [eX] at e1
 have e2 := List.append_cancel_left e1
 have hne : expd L (k - 1) b ≠ [] := fun e => by have := (qJo hw (l := k - 1) b hb.1 hb.2).1; rw [e] at this; simp at this
 refine ⟨fun u v hu hv => hbd u v (by rw [eX]; exact hu) (by rw [← e2, qYy hne]; exact hv), ?_⟩
 rw [← List.append_assoc] at hi
 exact hi.left
theorem Sig.down2 {L : List Rl} (hw : Wf L) {n : Nat} {r : Rl} (hs : Sig L (n + 1)) (hr : L[n]? = some r) : (∀ x ∈ kids r, Sig L x ∧ lvl L x < lvl L (n + 1)) ∧ (∀ a b, r = .pair a b → Nb L a b) ∧ ∀ a t, r = .power a t → Nb L a a := by
 have hk := hw.ok n r hr
 have hn := (List.getElem?_eq_some_iff.1 hr).1
 have hl := hs.lv
 cases r with
 | letter b => exact ⟨fun x h => by simp [kids] at h, fun a b h => Rl.noConfusion h, fun a t h => Rl.noConfusion h⟩
 | pair a b =>
  obtain ⟨h1, h2, h3, h4⟩ := hk
  obtain ⟨g1, g2, g3, g4, _⟩ := qYq hw (x := n + 1) (by omega) hr hl
  have gp := (qDh hr (hw.ok _ _ hr)).2
  rw [gp] at hl
  split at hl
  ·rename_i hc
   have ea : Sig L a := hs.part hw h1 (by omega) hc.2.1 g3 (fun _ => []) (fun k => expd L k b) (fun k hk => by rw [qDd hw hr hk]; rfl) (fun k _ _ => rfl)
   have eb : Sig L b := hs.part hw h3 (by omega) hc.2.2 g4 (fun k => expd L k a) (fun _ => []) (fun k hk => by rw [qDd hw hr hk, List.append_nil]) (fun k hk hk2 => by rw [← qBf, qDo hw (by omega) (by simp; omega), qBf])
   refine ⟨fun x h => ?_, fun a' b' e => ?_, fun a t h => Rl.noConfusion h⟩
   ·simp [kids] at h
    rcases h with rfl | rfl
    ·exact ⟨ea, g3⟩
    exact ⟨eb, g4⟩
   cases e
   exact nb_of hw hs ⟨h1, by omega⟩ ⟨h3, by omega⟩ g3 g4 (fun _ => []) (fun k hk => by rw [qDd hw hr hk, List.append_nil])
  omega
 | power y t =>
  obtain ⟨h1, h2, h3⟩ := hk
  obtain ⟨g1, g2⟩ := qUq hw (x := n + 1) (by omega) hr hl
  have gp := (qCt hr (hw.ok _ _ hr)).2
  rw [gp] at hl
  split at hl
  ·rename_i hc
   obtain ⟨t, rfl⟩ : ∃ s, t = s + 2 := ⟨t - 2, by omega⟩
   have ee : ∀ k : Nat, (k : Int) < lvl L (n + 1) → expd L k (n + 1) = expd L k y ++ (expd L k y ++ (List.replicate t (expd L k y)).flatten) := fun k hk => by
    rw [qDf hw hr hk]
    simp only [List.replicate_succ, List.flatten_cons]
   have ea : Sig L y := hs.part hw h1 (by omega) hc.1 (by omega) (fun _ => []) (fun k => expd L k y ++ (List.replicate t (expd L k y)).flatten) (fun k hk => by rw [ee k hk]; rfl) (fun k _ _ => rfl)
   refine ⟨fun x h => ?_, fun a b h => Rl.noConfusion h, fun a' t' e => ?_⟩
   ·simp [kids] at h
    subst h
    exact ⟨ea, by omega⟩
   cases e
   exact nb_of hw hs ⟨h1, by omega⟩ ⟨h1, by omega⟩ (by omega) (by omega) _ ee
  omega
end
section
theorem Iso.lvl {L1 L2 : List Rl} (h1 : Wf L1) (h2 : Wf L2) {x y : Nat} (h : Iso L1 L2 x y) : Eg.lvl L1 x = Eg.lvl L2 y := by
 induction h with
 | letter g1 g2 => rw [(qBq g1).2, (qBq g2).2]
 | @pair n m a b a' b' g1 g2 ha hb ih1 ih2 =>
  have e : a = b ↔ a' = b' := ⟨fun e => by subst e; exact ha.fn h2 hb, fun e => by subst e; exact ha.fn' h1 hb⟩
  rw [(qDh g1 (h1.ok _ _ g1)).2, (qDh g2 (h2.ok _ _ g2)).2, ih1, ih2, ha.key h1 h2, hb.key h1 h2]
  simp only [ne_eq, e]
 | power g1 g2 _ ih => rw [(qCt g1 (h1.ok _ _ g1)).2, (qCt g2 (h2.ok _ _ g2)).2, ih]
theorem qKa {V : List Nat} {x y : Nat} (hx : x ∈ V) (h : numb V x = numb V y) : x = y := by
 have h1 := qFh hx
 have hy : y ∈ V := Classical.byContradiction fun hy => qBm.1 (h.trans (qBm.2 hy)) hx
 have h2 := qFh hy
 rw [h, h2] at h1
 exact (Option.some.inj h1).symm
theorem qEj {V : List Nat} {x : Nat} (h : x ∈ V) : 1 ≤ numb V x := by
 have : numb V x ≠ 0 := fun e => qBm.1 e h
 omega
structure Lis (L : List Rl) (V : List Nat) : Prop where
 wf : Wf L
 acc : AccOk L V
 ord : Odr L V
variable {L : List Rl} {V : List Nat}
theorem Lis.closed (h : Lis L V) : Closed L V := h.ord.closed
theorem Lis.mem (h : Lis L V) {x : Nat} (hx : x ∈ V) : ∃ n r, x = n + 1 ∧ L[n]? = some r ∧ ∀ k ∈ kids r, k ∈ V := by
 have hb := h.acc.2 x hx
 obtain ⟨n, rfl⟩ : ∃ n, x = n + 1 := ⟨x - 1, by omega⟩
 obtain ⟨r, hr⟩ : ∃ r, L[n]? = some r := ⟨_, List.getElem?_eq_getElem (by omega)⟩
 exact ⟨n, r, rfl, hr, h.closed n r hx hr⟩
theorem qDe : (gram L V).length = V.length := List.length_map _
theorem Lis.get (h : Lis L V) {n : Nat} {r : Rl} (hx : n + 1 ∈ V) (hr : L[n]? = some r) : ∃ i, numb V (n + 1) = i + 1 ∧ (gram L V)[i]? = some (qAz V r) := by
 have h1 := qEj hx
 refine ⟨numb V (n + 1) - 1, by omega, qFx (qFh hx) hr⟩
theorem Lis.zero (h : Lis L V) : 0 ∉ V := fun h0 => by have := (h.acc.2 0 h0).1; omega
theorem Lis.one (h : Lis L V) {i : Nat} {r : Rl} (hr : (gram L V)[i]? = some r) : ∃ n q, V[i]? = some (n + 1) ∧ L[n]? = some q ∧ r = qAz V q ∧ numb V (n + 1) = i + 1 := by
 have hil : i < V.length := by have := (List.getElem?_eq_some_iff.1 hr).1; rwa [qDe] at this
 obtain ⟨x, hxi⟩ : ∃ x, V[i]? = some x := ⟨_, List.getElem?_eq_getElem hil⟩
 have hm := List.mem_of_getElem? hxi
 obtain ⟨n, q, rfl, hq, _⟩ := h.mem hm
 rw [qFx hxi hq] at hr
 refine ⟨n, q, hxi, hq, (Option.some.inj hr).symm, ?_⟩
 have h1 := qFh hm
 have h2 := qEj hm
 have h3 := qEq V (n + 1)
 have : numb V (n + 1) - 1 = i := by
  have hnd := h.acc.1
  exact (List.getElem?_inj (by omega) hnd).1 (h1.trans hxi.symm)
 omega
theorem zEe {q q' : Rl} (h1 : ∀ k ∈ kids q, k ∈ V) (h2 : ∀ k ∈ kids q', k ∈ V) (h : qAz V q = qAz V q') : q = q' := by
 cases q <;> cases q' <;> simp only [qAz, Rl.letter.injEq, Rl.pair.injEq, Rl.power.injEq, reduceCtorEq] at h
 ·rw [h]
 ·rw [qKa (h1 _ (by simp [kids])) h.1, qKa (h1 _ (by simp [kids])) h.2]
 rw [qKa (h1 _ (by simp [kids])) h.1, h.2]
theorem Lis.gwf (h : Lis L V) : Wf (gram L V) := by
 have hok := qRt h.wf h.acc h.ord
 refine ⟨fun i r hr => by have := hok i r hr; rwa [Nat.zero_add] at this, fun i j r hi hj => ?_, fun i => ?_, by rw [qDe]; exact Nat.le_trans h.acc.len h.wf.room⟩
 ·obtain ⟨n, q, v1, q1, e1, m1⟩ := h.one hi
  obtain ⟨n', q', v2, q2, e2, m2⟩ := h.one hj
  have k1 := h.closed n q (List.mem_of_getElem? v1) q1
  have k2 := h.closed n' q' (List.mem_of_getElem? v2) q2
  obtain rfl := zEe k1 k2 (e1.symm.trans e2)
  obtain rfl := h.wf.nodup _ _ _ q1 q2
  omega
 rcases Nat.lt_or_ge (gram L V).length i with hi | hi
 ·rw [qSi hi]; exact Nat.zero_le _
 cases i with
 | zero => rw [len_zero]; exact Nat.zero_le _
 | succ i =>
  obtain ⟨r, hr⟩ : ∃ r, (gram L V)[i]? = some r := ⟨_, List.getElem?_eq_getElem (by omega)⟩
  obtain ⟨n, q, v1, q1, e1, m1⟩ := h.one hr
  have := txt_gram h.wf h.acc h.ord (n + 1) (.inr (List.mem_of_getElem? v1))
  rw [m1] at this
  unfold len
  rw [this]
  exact h.wf.short (n + 1)
theorem Lis.iso (h : Lis L V) : ∀ x, x ∈ V → Iso L (gram L V) x (numb V x) := by
 intro x
 induction x using Nat.strongRecOn with
 | ind x ih =>
  intro hx
  obtain ⟨n, r, rfl, hr, hk⟩ := h.mem hx
  obtain ⟨i, e, hg⟩ := h.get hx hr
  have hkl := qCn (h.wf.ok _ _ hr)
  rw [e]
  cases r with
  | letter b => exact .letter hr hg
  | pair a b => exact .pair hr hg (ih a (hkl a (by simp [kids])).2 (hk a (by simp [kids]))) (ih b (hkl b (by simp [kids])).2 (hk b (by simp [kids])))
  | power a t => exact .power hr hg (ih a (hkl a (by simp [kids])).2 (hk a (by simp [kids])))
theorem Lis.lv (h : Lis L V) {x : Nat} (hx : x ∈ V) : Eg.lvl (gram L V) (numb V x) = Eg.lvl L x := ((h.iso x hx).lvl h.wf h.gwf).symm
theorem Lis.ky (h : Lis L V) {x : Nat} (hx : x ∈ V) : Eg.key (gram L V) (numb V x) = Eg.key L x := ((h.iso x hx).key h.wf h.gwf).symm
theorem map_flat {α β : Type} (f : α → β) (t : Nat) (l : List α) : ((List.replicate t l).flatten).map f = (List.replicate t (l.map f)).flatten := by
 induction t with
 | zero => rfl
 | succ t ih => simp only [List.replicate_succ, List.flatten_cons, List.map_append, ih]
theorem mem_flat {α : Type} {t : Nat} {l : List α} {e : α} (h : e ∈ (List.replicate t l).flatten) : e ∈ l := by
 obtain ⟨m, h1, h2⟩ := List.mem_flatten.1 h
 rw [(List.mem_replicate.1 h1).2] at h2
 exact h2
theorem Lis.exps (h : Lis L V) (k : Nat) : ∀ x, x ∈ V → (∀ e ∈ expd L k x, e ∈ V) ∧ expd (gram L V) k (numb V x) = (expd L k x).map (numb V) := by
 intro x
 induction x using Nat.strongRecOn with
 | ind x ih =>
  intro hx
  obtain ⟨n, r, rfl, hr, hk⟩ := h.mem hx
  obtain ⟨i, e, hg⟩ := h.get hx hr
  have hkl := qCn (h.wf.ok _ _ hr)
  have hl := h.lv hx
  rw [e] at hl ⊢
  by_cases hlow : Eg.lvl L (n + 1) ≤ (k : Nat)
  ·rw [qCb (by omega) hlow, qCb (by omega) (by rw [hl]; exact hlow)]
   exact ⟨fun z hz => by rw [List.mem_singleton.1 hz]; exact hx, by simp [e]⟩
  have h1 : (k : Int) < Eg.lvl L (n + 1) := by omega
  have h2 : (k : Int) < Eg.lvl (gram L V) (i + 1) := by omega
  cases r with
  | letter b => have := (qBq hr).2; omega
  | pair a b =>
   obtain ⟨a1, a2⟩ := ih a (hkl a (by simp [kids])).2 (hk a (by simp [kids]))
   obtain ⟨b1, b2⟩ := ih b (hkl b (by simp [kids])).2 (hk b (by simp [kids]))
   rw [qDd h.wf hr h1, qDd h.gwf hg h2, a2, b2, List.map_append]
   exact ⟨fun z hz => (List.mem_append.1 hz).elim (a1 z) (b1 z), rfl⟩
  | power a t =>
   obtain ⟨a1, a2⟩ := ih a (hkl a (by simp [kids])).2 (hk a (by simp [kids]))
   rw [qDf h.wf hr h1, qDf h.gwf hg h2, a2, map_flat]
   exact ⟨fun z hz => a1 z (mem_flat hz), rfl⟩
theorem Lis.pg (h : Lis L V) {c : Nat} {X O : List Nat} (hp : Pg L c X O) : (∀ x ∈ X, x ∈ V) → (∀ x ∈ O, x ∈ V) → Pg (gram L V) c (X.map (numb V)) (O.map (numb V)) := by
 induction hp with
 | nil => intro _ _; exact .nil
 | @one x r o h1 h2 ih =>
  intro hx ho
  simp only [List.map_cons]
  refine .one (fun y hy => ?_) (ih (fun z hz => hx z (by simp [hz])) (fun z hz => ho z (by simp [hz])))
  cases r with
  | nil => simp at hy
  | cons y' r =>
   simp at hy
   subst hy
   rw [h.ky (hx x (by simp)), h.ky (hx y' (by simp))]
   exact h1 y' rfl
 | @two x y j r o h1 h2 h3 ih =>
  intro hx ho
  simp only [List.map_cons]
  obtain ⟨i, e, hg⟩ := h.get (ho (j + 1) (by simp)) h2
  rw [e]
  exact .two (by rw [h.ky (hx x (by simp)), h.ky (hx y (by simp))]; exact h1) hg (ih (fun z hz => hx z (by simp [hz])) (fun z hz => ho z (by simp [hz])))
theorem Lis.rg (h : Lis L V) {X O : List Nat} (hp : Rg L X O) : (∀ x ∈ X, x ∈ V) → (∀ x ∈ O, x ∈ V) → Rg (gram L V) (X.map (numb V)) (O.map (numb V)) := by
 induction hp with
 | nil => intro _ _; exact .nil
 | @run x t id r o h1 h2 h3 h4 ih =>
  intro hx ho
  obtain ⟨t, rfl⟩ : ∃ s, t = s + 1 := ⟨t - 1, by omega⟩
  have hxV := hx x (by simp [List.replicate_succ])
  simp only [List.map_cons, List.map_append, List.map_replicate]
  refine .run h1 ?_ (fun e => h3 ?_) (ih (fun z hz => hx z (by simp [hz])) (fun z hz => ho z (by simp [hz])))
  ·rcases h2 with ⟨e1, rfl⟩ | ⟨e1, i, rfl, hi⟩
   ·exact .inl ⟨e1, rfl⟩
   obtain ⟨i', e', hg⟩ := h.get (ho (i + 1) (by simp)) hi
   rw [e']
   exact .inr ⟨e1, i', rfl, hg⟩
  cases r with
  | nil => simp at e
  | cons y r =>
   simp at e ⊢
   exact (qKa (hx y (by simp)) e)
theorem qLm {i z : Nat} {X : List Nat} {f : Nat → Nat} (h : (X.map f)[i]? = some z) : ∃ x, X[i]? = some x ∧ z = f x := by
 rw [List.getElem?_map] at h
 cases e : X[i]? with
 | none => rw [e] at h; cases h
 | some x => rw [e] at h; exact ⟨x, rfl, (Option.some.inj h).symm⟩
theorem Lis.inv (h : Lis L V) {k : Nat} {X : List Nat} (hi : Inv L k X) (hx : ∀ x ∈ X, x ∈ V) : Inv (gram L V) k (X.map (numb V)) := by
 refine ⟨h.gwf, fun z hz => ?_, fun i z h1 h2 => ?_, fun i z w h1 h2 h3 => ?_⟩
 ·obtain ⟨x, hxx, rfl⟩ := List.mem_map.1 hz
  have := hi.ok x hxx
  rw [h.lv (hx x hxx)]
  exact ⟨qEj (hx x hxx), by rw [qDe]; exact qEq _ _, this.2.2.1, this.2.2.2⟩
 ·obtain ⟨x, e1, rfl⟩ := qLm h1
  obtain ⟨y, e2, e3⟩ := qLm h2
  obtain rfl := qKa (hx x (List.mem_of_getElem? e1)) e3
  rw [h.lv (hx x (List.mem_of_getElem? e1))]
  exact hi.same i x e1 e2
 obtain ⟨x, e1, rfl⟩ := qLm h1
 obtain ⟨y, e2, rfl⟩ := qLm h2
 have hx1 := hx x (List.mem_of_getElem? e1)
 have hy1 := hx y (List.mem_of_getElem? e2)
 have := hi.diff i x y e1 e2 (fun e => h3 (by rw [e]))
 unfold aft at this ⊢
 rw [h.lv hx1, h.lv hy1, h.ky hx1, h.ky hy1]
 exact this
theorem Lis.sig (h : Lis L V) {x : Nat} (hx : x ∈ V) (hs : Sig L x) : Sig (gram L V) (numb V x) := by
 refine ⟨qEj hx, by rw [qDe]; exact qEq _ _, by rw [h.lv hx]; exact hs.lv, fun k hk => ?_, fun k hk => ?_⟩
 ·rw [(h.exps (k - 1) x hx).2]
  exact h.inv (hs.inv k hk) (h.exps (k - 1) x hx).1
 rw [(h.exps (k - 1) x hx).2, (h.exps k x hx).2]
 have := hs.step k hk
 unfold Sq at this ⊢
 split
 ·rename_i ho; rw [if_pos ho] at this; exact h.rg this (h.exps (k - 1) x hx).1 (h.exps k x hx).1
 rename_i ho; rw [if_neg ho] at this; exact h.pg this (h.exps (k - 1) x hx).1 (h.exps k x hx).1
theorem qXc (hw : Wf L) {ys : List Nat} (hy : ∀ y ∈ ys, y ≤ L.length) (h : Lis L (kK L ys [])) : kK (gram L (kK L ys [])) (ys.map (numb (kK L ys []))) [] = (List.range (kK L ys []).length).map (· + 1) := by
 have hin : ∀ y ∈ ys, y = 0 ∨ y ∈ kK L ys [] := fun y hm => by
  rcases Nat.eq_zero_or_pos y with e | e
  ·exact .inl e
  exact .inr (((qFb hw ys []).2 (qKt L)).2 y hm e (hy y hm))
 have hr := qPt hw h.gwf (xs := ys) (ys := ys.map (numb (kK L ys []))) (by simp) (fun i x y h1 h2 => by
  obtain ⟨x', e1, rfl⟩ := qLm h2
  rw [h1] at e1
  cases e1
  rcases hin x (List.mem_of_getElem? h1) with rfl | hm
  ·exact .inl ⟨rfl, qBm.2 h.zero⟩
  exact .inr (h.iso x hm)) (Rel.nil _ _)
 have hl := hr.length
 apply List.ext_getElem?
 intro i
 rw [List.getElem?_map]
 rcases Nat.lt_or_ge i (kK L ys []).length with hi | hi
 ·obtain ⟨x, hx⟩ : ∃ x, (kK L ys [])[i]? = some x := ⟨_, List.getElem?_eq_getElem hi⟩
  obtain ⟨z, hz⟩ : ∃ z, (kK (gram L (kK L ys [])) (ys.map (numb (kK L ys []))) [])[i]? = some z := ⟨_, List.getElem?_eq_getElem (by omega)⟩
  have hm := List.mem_of_getElem? hx
  have e1 := (hr.get hx hz).fn h.gwf (h.iso x hm)
  have e2 : numb (kK L ys []) x - 1 = i := (List.getElem?_inj (by have := qEq (kK L ys []) x; have := qEj hm; omega) h.acc.1).1 ((qFh hm).trans hx.symm)
  have e3 := qEj hm
  rw [hz, List.getElem?_range hi, e1]
  simp only [Option.map_some]
  congr 1
  omega
 rw [List.getElem?_eq_none (by omega), List.getElem?_eq_none (by simpa using hi)]
 rfl
end
section
def nin (V A : List Nat) : List Nat := A.filter fun x => decide (x ∉ V)
theorem qGj (V A B : List Nat) : nin V (A ++ B) = nin V A ++ nin V B := List.filter_append ..
theorem qZx {V : List Nat} {x : Nat} (h : x ∈ V) : nin V [x] = [] := by simp [nin, h]
theorem qOn {V : List Nat} {x : Nat} (h : x ∉ V) : nin V [x] = [x] := by simp [nin, h]
theorem qSn {V A : List Nat} {x : Nat} : x ∈ nin V A ↔ x ∈ A ∧ x ∉ V := by simp [nin]
theorem zCm {L : List Rl} (hw : Wf L) {V : List Nat} (hc : Closed L V) : ∀ (n : Nat) (A : List Nat), A.Nodup → visit L n (V ++ nin V A) = V ++ nin V (visit L n A) := by
 intro n
 induction n using Nat.strongRecOn with
 | ind n ih =>
  intro A hA
  cases n with
  | zero => rw [qCm, qCm]
  | succ n =>
   cases e : L[n]? with
   | none =>
    have := List.getElem?_eq_none_iff.1 e
    rw [qHo this, qHo this]
   | some r =>
    by_cases hV : n + 1 ∈ V
    ·rw [qCw (List.mem_append_left _ hV)]
     obtain ⟨m1, ⟨m, hm⟩, m3⟩ := qJz hw (n + 1) A
     have hnd := m3 hA
     have hr := (qVc hw (n + 1) A).1
     rw [hm, qGj]
     have : nin V m = [] := by
      apply List.eq_nil_iff_forall_not_mem.2
      intro x hx
      obtain ⟨hx1, hx2⟩ := qSn.1 hx
      rcases hr x (by rw [hm]; exact List.mem_append_right _ hx1) with h | h
      ·rw [hm] at hnd
       exact (List.nodup_append.1 hnd).2.2 x h x hx1 rfl
      exact hx2 (h.inside hc hV)
     rw [this, List.append_nil]
    by_cases hA' : n + 1 ∈ A
    ·rw [qCw hA', qCw (List.mem_append_right _ (qSn.2 ⟨hA', hV⟩))]
    have hno : n + 1 ∉ V ++ nin V A := fun h => by
     rcases List.mem_append.1 h with h | h
     ·exact hV h
     exact hA' (qSn.1 h).1
    have key : ∀ (xs A : List Nat), (∀ x ∈ xs, x < n + 1) → A.Nodup → kK L xs (V ++ nin V A) = V ++ nin V (kK L xs A) := by
     intro xs
     induction xs with
     | nil => intro A _ _; rfl
     | cons x xs ihx =>
      intro A hx hA
      rw [qBl, qBl, ih x (hx x (by simp)) A hA]
      exact ihx _ (fun y hy => hx y (by simp [hy])) ((qJz hw x A).2.2 hA)
    rw [qBg hw e hno, qBg hw e hA', key (kids r) A (fun x hx => (qCn (hw.ok _ _ e) x hx).2) hA, qGj, qOn hV, List.append_assoc]
def Wk (F V W : List Nat) (k m : Nat) : Prop := F.take m = V ++ nin V (W.take k) ∧ m ≤ F.length
theorem Wk.next {F V W S : List Nat} {k m w : Nat} (h : Wk F V W k m) (hF : F = V ++ nin V W ++ S) (hW : W.Nodup) (hFn : F.Nodup) (hw : W[k]? = some w) :
  (w ∈ F.take m → Wk F V W (k + 1) m) ∧ (w ∉ F.take m → F[m]? = some w ∧ Wk F V W (k + 1) (m + 1)) := by
 obtain ⟨h1, h2⟩ := h
 have htk : W.take (k + 1) = W.take k ++ [w] := by rw [List.take_add_one, hw]; rfl
 have hsplit : W = W.take k ++ w :: W.drop (k + 1) := by
  have := List.take_append_drop k W
  rw [qEu hw] at this
  exact this.symm
 have hnk : w ∉ W.take k := fun hm => by
  rw [hsplit] at hW
  exact (List.nodup_append.1 hW).2.2 _ hm _ (by simp) rfl
 refine ⟨fun hin => ⟨?_, h2⟩, fun hout => ?_⟩
 ·have hV : w ∈ V := by
   rw [h1] at hin
   rcases List.mem_append.1 hin with h | h
   ·exact h
   exact absurd (qSn.1 h).1 hnk
  rw [htk, qGj, qZx hV, List.append_nil]
  exact h1
 have hV : w ∉ V := fun h => hout (by rw [h1]; exact List.mem_append_left _ h)
 have e : F = F.take m ++ (w :: (nin V (W.drop (k + 1)) ++ S)) := by
  have e2 : nin V W = nin V (W.take k) ++ (w :: nin V (W.drop (k + 1))) := by
   conv => lhs; rw [hsplit]
   rw [qGj]
   have : nin V (w :: W.drop (k + 1)) = w :: nin V (W.drop (k + 1)) := by simp [nin, hV]
   rw [this]
  rw [h1, hF, e2]
  simp only [List.append_assoc, List.cons_append]
 have hl : (F.take m).length = m := by rw [List.length_take]; omega
 have hget : F[m]? = some w := by
  rw [e, List.getElem?_append_right (by omega), hl, Nat.sub_self]
  rfl
 refine ⟨hget, ?_, by have := (List.getElem?_eq_some_iff.1 hget).1; omega⟩
 rw [List.take_add_one, hget, h1, htk, qGj, qOn hV, List.append_assoc]
 rfl
theorem qQk {F : List Nat} (hF : F.Nodup) {m w : Nat} (h : F[m]? = some w) : numb F w = m + 1 := by
 have hm := List.mem_of_getElem? h
 have h1 := qFh hm
 have h2 := qEj hm
 have h3 := qEq F w
 have : numb F w - 1 = m := (List.getElem?_inj (by omega) hF).1 (h1.trans h.symm)
 omega
def toL (F W : List Nat) (k : Nat) : List Nat := 0 :: (W.take k).map (numb F)
theorem qXd {L : List Rl} {F W : List Nat} {k n a : Nat} {r : Rl} (hW : W[k]? = some (n + 1)) (hr : L[n]? = some r) (ho : Odr L W) (ha : a ∈ kids r) : (toL F W k)[numb W a]? = some (numb F a) ∧ numb W a ≤ k := by
 have hsplit : W = W.take k ++ (n + 1) :: W.drop (k + 1) := by
  have := List.take_append_drop k W
  rw [qEu hW] at this
  exact this.symm
 have hk := ho _ _ _ _ hsplit hr a ha
 have e : numb W a = numb (W.take k) a := by
  have := qJy (m := W.drop k) hk
  rwa [List.take_append_drop] at this
 have h1 := qFh hk
 have h2 := qEj hk
 have h3 := qEq (W.take k) a
 rw [List.length_take] at h3
 obtain ⟨j, hj⟩ : ∃ j, numb (W.take k) a = j + 1 := ⟨numb (W.take k) a - 1, by omega⟩
 rw [hj, Nat.add_sub_cancel] at h1
 rw [e, hj]
 refine ⟨?_, by omega⟩
 unfold toL
 rw [List.getElem?_cons_succ, List.getElem?_map, h1]
 rfl
theorem qYf {F W : List Nat} {k w : Nat} (hw : W[k]? = some w) : toL F W (k + 1) = toL F W k ++ [numb F w] := by
 unfold toL
 rw [List.take_add_one, hw]
 simp
theorem toL_last {F W : List Nat} {y : Nat} {A : List Nat} (h : W = A ++ [y]) : (toL F W W.length)[W.length]? = some (numb F y) := by
 subst h
 unfold toL
 rw [List.take_length, List.length_append, List.length_singleton, List.getElem?_cons_succ, List.getElem?_map]
 simp
theorem zDo {L : List Rl} {F : List Nat} (h : Lis L F) {n : Nat} {r : Rl} (hn : n + 1 ∈ F) (hr : L[n]? = some r) : (gram L F)[numb F (n + 1) - 1]? = some (qAz F r) := qFx (qFh hn) hr
theorem zAn {L : List Rl} {F : List Nat} (h : Lis L F) {n m j : Nat} {r : Rl} (hn : n + 1 ∈ F) (hr : L[n]? = some r) (hm : m ≤ F.length) (hj : ((gram L F).take m)[j]? = some (qAz F r)) : j + 1 = numb F (n + 1) ∧ n + 1 ∈ F.take m := by
 have hjm : j < m := by have := (List.getElem?_eq_some_iff.1 hj).1; rw [List.length_take] at this; omega
 rw [List.getElem?_take, if_pos hjm] at hj
 have h1 := zDo h hn hr
 have h2 := h.gwf.nodup _ _ _ hj h1
 have h3 := qEj hn
 refine ⟨by omega, ?_⟩
 have h4 := qFh hn
 rw [← h2] at h4
 exact List.mem_of_getElem? (i := j) (by rw [List.getElem?_take, if_pos hjm]; exact h4)
theorem zEd {L : List Rl} {F : List Nat} (h : Lis L F) {n m : Nat} {r : Rl} (hn : n + 1 ∈ F) (hr : L[n]? = some r) (hm : m ≤ F.length) (hj : ∀ j, j < m → ((gram L F).take m)[j]? ≠ some (qAz F r)) : n + 1 ∉ F.take m := fun hin => by
 obtain ⟨j, hj'⟩ := List.getElem?_of_mem hin
 have hjm : j < m := by have := (List.getElem?_eq_some_iff.1 hj').1; rw [List.length_take] at this; omega
 rw [List.getElem?_take, if_pos hjm] at hj'
 refine hj j hjm ?_
 rw [List.getElem?_take, if_pos hjm]
 exact qFx hj' hr
theorem qWr {L : List Rl} (hw : Wf L) {ys : List Nat} (hb : ∀ y ∈ ys, y ≤ L.length) {i y : Nat} (hy : ys[i]? = some y) : ∃ S, kK L ys [] = visit L y (kK L (ys.take i) []) ++ S ∧ kK L (ys.take (i + 1)) [] = visit L y (kK L (ys.take i) []) := by
 have hi := (List.getElem?_eq_some_iff.1 hy).1
 have e1 : ys.take (i + 1) = ys.take i ++ [y] := by rw [List.take_add_one, hy]; rfl
 have e2 : kK L (ys.take (i + 1)) [] = visit L y (kK L (ys.take i) []) := by rw [e1, qGr]; rfl
 have e3 : kK L ys [] = kK L (ys.drop (i + 1)) (kK L (ys.take (i + 1)) []) := by rw [← qGr, List.take_append_drop]
 obtain ⟨S, hS⟩ := (qEy hw L.length (ys.drop (i + 1)) (kK L (ys.take (i + 1)) []) (fun x hx => hb x (List.mem_of_mem_drop hx))).2.1
 exact ⟨S, by rw [e3, hS, e2], e2⟩
end
end Go.Proofs.YtkkjjablmmmmkaaGreatDoor
