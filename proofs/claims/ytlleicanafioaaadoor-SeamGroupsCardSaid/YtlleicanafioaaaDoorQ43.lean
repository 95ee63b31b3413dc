import Derived.Test.YtlleicanafioaaaDoorQ30
set_option linter.all false
set_option maxHeartbeats 1000000
namespace Go.Proofs.YtlleicanafioaaaDoor
open Go Go.RowKit Sl Eg
section
def cyc (U : List Nat) (N : Nat) : List Nat := (List.range N).map fun i => U.getD (i % U.length) 0
theorem qAs (U : List Nat) (N : Nat) : (cyc U N).length = N := by simp [cyc]
theorem qDp {U : List Nat} {N i : Nat} (h : i < N) : (cyc U N)[i]? = some (U.getD (i % U.length) 0) := by simp [cyc, h]
theorem qQk {U : List Nat} {N i : Nat} (h : N ≤ i) : (cyc U N)[i]? = none := List.getElem?_eq_none (by rw [qAs]; exact h)
def rot (r : Nat) (U : List Nat) : List Nat := U.drop r ++ U.take r
theorem qAj {r : Nat} {U : List Nat} : (rot r U).length = U.length := by unfold rot; rw [List.length_append, List.length_drop, List.length_take]; omega
theorem qRg {r i : Nat} {U : List Nat} (hr : r ≤ U.length) (hi : i < U.length) : (rot r U)[i]? = U[(i + r) % U.length]? := by
 unfold rot
 rcases Nat.lt_or_ge i (U.length - r) with h | h
 ·rw [List.getElem?_append_left (by rw [List.length_drop]; exact h), List.getElem?_drop, Nat.mod_eq_of_lt (by omega), Nat.add_comm]
 rw [List.getElem?_append_right (by rw [List.length_drop]; exact h), List.length_drop, List.getElem?_take_of_lt (by omega)]
 congr 1
 rw [Nat.mod_eq_sub_mod (by omega), Nat.mod_eq_of_lt (by omega)]
 omega
theorem qGe {r N : Nat} {U : List Nat} (hr : r ≤ U.length) (hN : r ≤ N) (h0 : 0 < U.length) : cyc U N = U.take r ++ cyc (rot r U) (N - r) := by
 apply List.ext_getElem?
 intro i
 have hl : (U.take r).length = r := by rw [List.length_take]; omega
 rcases Nat.lt_or_ge i r with h | h
 ·rw [List.getElem?_append_left (by rw [hl]; exact h), qDp (by omega), List.getElem?_take_of_lt h, Nat.mod_eq_of_lt (by omega), List.getD_eq_getElem?_getD, List.getElem?_eq_getElem (by omega)]
  rfl
 rw [List.getElem?_append_right (by rw [hl]; exact h), hl]
 rcases Nat.lt_or_ge i N with h1 | h1
 ·rw [qDp h1, qDp (by omega), qAj]
  congr 1
  rw [List.getD_eq_getElem?_getD, List.getD_eq_getElem?_getD, qRg hr (Nat.mod_lt _ h0)]
  congr 2
  rw [Nat.add_mod, Nat.mod_mod, ← Nat.add_mod, Nat.sub_add_cancel h]
 rw [qQk h1, qQk (by omega)]
def reps (m : Nat) (U : List Nat) : List Nat := (List.replicate m U).flatten
theorem qCi (m : Nat) (U : List Nat) : reps (m + 1) U = U ++ reps m U := by simp [reps, List.replicate_succ]
theorem qJy (U : List Nat) : reps 0 U = [] := rfl
theorem qHp {U : List Nat} (h0 : 0 < U.length) : ∀ (m j : Nat), j ≤ U.length → cyc U (m * U.length + j) = reps m U ++ U.take j
 | 0, j, hj => by
  rw [Nat.zero_mul, Nat.zero_add, qJy, List.nil_append, qGe hj (Nat.le_refl _) h0, Nat.sub_self]
  exact List.append_nil _
 | m + 1, j, hj => by
  have e : (m + 1) * U.length + j = U.length + (m * U.length + j) := by rw [Nat.succ_mul]; omega
  have e2 : rot U.length U = U := by unfold rot; rw [List.drop_length, List.take_length]; rfl
  rw [qGe (r := U.length) (Nat.le_refl _) (by omega) h0, List.take_length, e2, e, Nat.add_sub_cancel_left, qHp h0 m j hj, qCi, List.append_assoc]
theorem zAo {U : List Nat} {N : Nat} : cyc (U ++ U) N = cyc U N := by
 rcases Nat.eq_zero_or_pos U.length with h0 | h0
 ·rw [List.length_eq_zero_iff.1 h0]
  rfl
 apply List.map_congr_left
 intro i hi
 rw [List.getD_eq_getElem?_getD, List.getD_eq_getElem?_getD, List.length_append]
 congr 1
 have hm := Nat.mod_lt i (show 0 < U.length + U.length by omega)
 have e : i % (U.length + U.length) % U.length = i % U.length := Nat.mod_mod_of_dvd i ⟨2, by omega⟩
 rcases Nat.lt_or_ge (i % (U.length + U.length)) U.length with h | h
 ·rw [List.getElem?_append_left h, show i % U.length = i % (U.length + U.length) by rw [← e]; exact Nat.mod_eq_of_lt h]
 have e4 : i % (U.length + U.length) % U.length = i % (U.length + U.length) - U.length := by
  rw [Nat.mod_eq_sub_mod h]
  exact Nat.mod_eq_of_lt (by omega)
 rw [List.getElem?_append_right h, show i % U.length = i % (U.length + U.length) - U.length by rw [← e]; exact e4]
def Cut (L : List Rl) (lv : Nat) (X W : List Nat) : Prop := ∀ u v, X.getLast? = some u → W.head? = some v → if lv % 2 = 1 then u ≠ v else ¬ qAd (num lv) (key L u) (key L v)
theorem Pg.cut {L : List Rl} {c : Nat} : ∀ {X W O : List Nat}, Pg L c (X ++ W) O → (∀ u v, X.getLast? = some u → W.head? = some v → ¬ qAd c (key L u) (key L v)) → ∃ O1 O2, O = O1 ++ O2 ∧ Pg L c X O1 ∧ Pg L c W O2
 | [], W, O, h, _ => ⟨[], O, rfl, .nil, h⟩
 | [x], W, O, h, hb => by
  cases h with
  | one hn hr => exact ⟨[x], _, rfl, .one (fun y hy => by simp at hy) .nil, hr⟩
  | two hf hj hr => exact absurd hf (hb x _ rfl rfl)
 | x :: y :: X, W, O, h, hb => by
  have hb' : ∀ u v, (y :: X).getLast? = some u → W.head? = some v → ¬ qAd c (key L u) (key L v) := fun u v hu => hb u v (qCh x hu)
  cases h with
  | one hn hr =>
   obtain ⟨O1, O2, e, h1, h2⟩ := Pg.cut (X := y :: X) hr hb'
   subst e
   exact ⟨x :: O1, O2, rfl, .one (fun z hz => hn z (by simpa using hz)) h1, h2⟩
  | two hf hj hr =>
   have hb2 : ∀ u v, X.getLast? = some u → W.head? = some v → ¬ qAd c (key L u) (key L v) := fun u v hu => hb' u v (qCh y hu)
   obtain ⟨O1, O2, e, h1, h2⟩ := Pg.cut (X := X) hr hb2
   subst e
   exact ⟨_ :: O1, O2, rfl, .two hf hj h1, h2⟩
theorem Rg.cut {L : List Rl} {A O : List Nat} (h : Rg L A O) : ∀ {X W : List Nat}, A = X ++ W → (∀ u v, X.getLast? = some u → W.head? = some v → u ≠ v) → ∃ O1 O2, O = O1 ++ O2 ∧ Rg L X O1 ∧ Rg L W O2 := by
 induction h with
 | nil =>
  intro X W e _
  obtain ⟨rfl, rfl⟩ := List.append_eq_nil_iff.1 e.symm
  exact ⟨[], [], rfl, .nil, .nil⟩
 | @run x t id r o ht hid hne hr ih =>
  intro X W e hb
  rcases List.append_eq_append_iff.1 e with ⟨Y, rfl, rfl⟩ | ⟨Y, e1, rfl⟩
  ·obtain ⟨O1, O2, rfl, h1, h2⟩ := ih rfl (fun u v hu hv => hb u v (by
    cases Y with
    | nil => simp at hu
    | cons y Y => rw [List.getLast?_append, hu]; rfl) hv)
   refine ⟨id :: O1, O2, rfl, .run ht hid ?_ h1, h2⟩
   cases Y with
   | nil => simp
   | cons y Y => simpa using hne
  cases Y with
  | nil =>
   rw [List.append_nil] at e1
   subst e1
   rw [List.nil_append]
   refine ⟨[id], o, rfl, ?_, hr⟩
   have := Rg.run (L := L) (r := []) (o := []) ht hid (by simp) .nil
   rwa [List.append_nil] at this
  | cons y Y =>
   rcases List.eq_nil_or_concat X with rfl | ⟨X', u, e0⟩
   ·rw [List.nil_append] at e1
    rw [← e1]
    exact ⟨[], id :: o, rfl, .nil, .run ht hid hne hr⟩
   exfalso
   rw [List.concat_eq_append] at e0
   subst e0
   have hm : ∀ z ∈ (X' ++ [u]) ++ y :: Y, z = x := fun z hz => by rw [← e1] at hz; exact List.eq_of_mem_replicate hz
   have h1 := hm u (by simp)
   have h2 := hm y (by simp)
   exact hb u y (by simp) rfl (by rw [h1, h2])
theorem Sq.cut {L : List Rl} {lv : Nat} {X W O : List Nat} (h : Sq L lv (X ++ W) O) (hb : Cut L lv X W) : ∃ O1 O2, O = O1 ++ O2 ∧ Sq L lv X O1 ∧ Sq L lv W O2 := by
 unfold Sq at h ⊢
 unfold Cut at hb
 split at h
 ·rename_i ho
  simp only [if_pos ho]
  exact h.cut rfl (fun u v hu hv => by have := hb u v hu hv; rwa [if_pos ho] at this)
 rename_i ho
 simp only [if_neg ho]
 exact h.cut (fun u v hu hv => by have := hb u v hu hv; rwa [if_neg ho] at this)
theorem Sq.made {L : List Rl} {lv : Nat} {X O : List Nat} (h : Sq L lv X O) : ∃ V : List Nat, V.length + O.length ≤ X.length ∧ ∀ x ∈ O, x ∈ X ∨ x ∈ V := by
 unfold Sq at h
 split at h
 ·induction h with
  | nil => exact ⟨[], Nat.le_refl _, fun x hx => by simp at hx⟩
  | @run x t id r o ht hid hne hr ih =>
   obtain ⟨V, h1, h2⟩ := ih
   rcases hid with ⟨rfl, rfl⟩ | ⟨h3, i, rfl, h4⟩
   ·refine ⟨V, by simp only [List.length_cons, List.length_append, List.length_replicate]; omega, fun z hz => ?_⟩
    rcases List.mem_cons.1 hz with rfl | hz
    ·exact .inl (by simp)
    rcases h2 z hz with h5 | h5
    ·exact .inl (List.mem_append_right _ h5)
    exact .inr h5
   refine ⟨(i + 1) :: V, by simp only [List.length_cons, List.length_append, List.length_replicate]; omega, fun z hz => ?_⟩
   rcases List.mem_cons.1 hz with rfl | hz
   ·exact .inr List.mem_cons_self
   rcases h2 z hz with h5 | h5
   ·exact .inl (List.mem_append_right _ h5)
   exact .inr (List.mem_cons_of_mem _ h5)
 induction h with
 | nil => exact ⟨[], Nat.le_refl _, fun x hx => by simp at hx⟩
 | @one x r o hn hr ih =>
  obtain ⟨V, h1, h2⟩ := ih
  refine ⟨V, by simp only [List.length_cons]; omega, fun z hz => ?_⟩
  rcases List.mem_cons.1 hz with rfl | hz
  ·exact .inl List.mem_cons_self
  rcases h2 z hz with h5 | h5
  ·exact .inl (List.mem_cons_of_mem _ h5)
  exact .inr h5
 | @two x y j r o hf hj hr ih =>
  obtain ⟨V, h1, h2⟩ := ih
  refine ⟨(j + 1) :: V, by simp only [List.length_cons]; omega, fun z hz => ?_⟩
  rcases List.mem_cons.1 hz with rfl | hz
  ·exact .inr List.mem_cons_self
  rcases h2 z hz with h5 | h5
  ·exact .inl (List.mem_cons_of_mem _ (List.mem_cons_of_mem _ h5))
  exact .inr (List.mem_cons_of_mem _ h5)
def hi (L : List Rl) (k : Nat) (X : List Nat) : Nat := X.countP fun x => decide ((k : Int) < lvl L x)
theorem qJq (L : List Rl) (k : Nat) (X Y : List Nat) : hi L k (X ++ Y) = hi L k X + hi L k Y := List.countP_append
theorem qQr (L : List Rl) (k x : Nat) (X : List Nat) : hi L k X ≤ hi L k (x :: X) ∧ hi L k (x :: X) ≤ hi L k X + 1 := by
 unfold hi
 rw [List.countP_cons]
 split <;> omega
theorem Sq.hi {L : List Rl} {lv k : Nat} {X O : List Nat} (h : Sq L lv X O) : Go.Proofs.YtlleicanafioaaaDoor.hi L k O + O.length ≤ Go.Proofs.YtlleicanafioaaaDoor.hi L k X + X.length := by
 unfold Sq at h
 split at h
 ·induction h with
  | nil => exact Nat.le_refl _
  | @run x t id r o ht hid hne hr ih =>
   rw [qJq]
   rcases hid with ⟨rfl, rfl⟩ | ⟨h3, i, rfl, h4⟩
   ·have e : List.replicate 1 id ++ r = id :: r := rfl
    rw [← qJq, e]
    unfold Go.Proofs.YtlleicanafioaaaDoor.hi at ih ⊢
    rw [List.countP_cons, List.countP_cons]
    simp only [List.length_cons]
    omega
   have := (qQr L k (i + 1) o).2
   simp only [List.length_cons, List.length_append, List.length_replicate]
   omega
 induction h with
 | nil => exact Nat.le_refl _
 | @one x r o hn hr ih =>
  unfold Go.Proofs.YtlleicanafioaaaDoor.hi at ih ⊢
  rw [List.countP_cons, List.countP_cons]
  simp only [List.length_cons]
  omega
 | @two x y j r o hf hj hr ih =>
  have h1 := (qQr L k (j + 1) o).2
  have h2 := (qQr L k y r).1
  have h3 := (qQr L k x (y :: r)).1
  simp only [List.length_cons]
  omega
theorem Sq.reps {L : List Rl} {lv : Nat} {V V' : List Nat} (h : Sq L lv V V') (hb : Bdry L lv V V' V) : ∀ m, Sq L lv (Go.Proofs.YtlleicanafioaaaDoor.reps m V) (Go.Proofs.YtlleicanafioaaaDoor.reps m V')
 | 0 => Sq.nil L lv
 | m + 1 => by
  rw [qCi, qCi]
  refine h.join (Sq.reps h hb m) ?_
  cases m with
  | zero => intro u v _ hv; simp [qJy] at hv
  | succ m =>
   intro u v hu hv
   refine hb u v hu ?_
   rw [qCi] at hv
   cases V with
   | nil => simp at hu
   | cons y V => simpa using hv
end
section
theorem qTw {V : List Nat} : ∀ m, (reps (m + 1) V).getLast? = V.getLast?
 | 0 => by rw [qCi, qJy, List.append_nil]
 | m + 1 => by
  rw [qCi, List.getLast?_append, qTw m]
  cases V.getLast? <;> rfl
theorem qWq {V : List Nat} {n N : Nat} (h : n ≤ N) : (cyc V N).take n = cyc V n := by
 unfold cyc
 rw [← List.map_take, List.take_range, Nat.min_eq_left h]
theorem qJg {V : List Nat} {n N : Nat} (h : n ≤ N) : cyc V N = cyc V n ++ (cyc V N).drop n := by
 rw [← qWq h, List.take_append_drop]
theorem qMb {V : List Nat} {n : Nat} (h : 0 < n) (h0 : 0 < V.length) : (cyc V n).head? = V.head? := by
 rw [List.head?_eq_getElem?, List.head?_eq_getElem?, qDp h, Nat.zero_mod, List.getD_eq_getElem?_getD, List.getElem?_eq_getElem h0]
 rfl
theorem qJf {V : List Nat} {n : Nat} (h : 0 < n) : (cyc V n).getLast? = some (V.getD ((n - 1) % V.length) 0) := by
 rw [List.getLast?_eq_getElem?, qAs, qDp (by omega)]
theorem Cut.bdry {L : List Rl} {lv : Nat} {X X' W : List Nat} (h : Cut L lv X W) : Bdry L lv X X' W := fun u v hu hv => by
 have := h u v hu hv
 split
 ·rename_i ho; rwa [if_pos ho] at this
 rename_i ho; rw [if_neg ho] at this; exact fun _ => this
theorem qWp {L : List Rl} (hw : Wf L) {lv n : Nat} {V O : List Nat} (h0 : 0 < V.length) (hn : V.length ≤ n) (hc : Cut L lv V V) (hj : Cut L lv (V.take (n % V.length)) (V.drop (n % V.length))) (h : Sq L lv (cyc V n) O) :
  ∃ V' N', Sq L lv V V' ∧ O = cyc V' N' ∧ N' ≤ n ∧ (V.length < n → V'.length < N') ∧ N' < (n / V.length + 1) * V'.length ∧ (V'.length = V.length → N' = n) := by
 have hjl := Nat.mod_lt n h0
 have e := qHp h0 (n / V.length) (n % V.length) (by omega)
 rw [show n / V.length * V.length + n % V.length = n by rw [Nat.mul_comm]; exact Nat.div_add_mod n V.length] at e
 obtain ⟨m, hm⟩ : ∃ m, n / V.length = m + 1 := ⟨n / V.length - 1, by have := Nat.div_pos hn h0; omega⟩
 have hnm : (m + 1) * V.length + n % V.length = n := by rw [← hm, Nat.mul_comm]; exact Nat.div_add_mod n V.length
 rw [hm] at e ⊢
 generalize n % V.length = j at *
 rw [e] at h
 have hhead : ∀ v, (reps m V ++ V.take j).head? = some v → V.head? = some v := fun v hv => by
  cases m with
  | zero =>
   rw [qJy, List.nil_append] at hv
   cases V with
   | nil => simp at h0
   | cons y V => cases j with
    | zero => simp at hv
    | succ j => simpa using hv
  | succ m =>
   rw [qCi] at hv
   cases V with
   | nil => simp at h0
   | cons y V => simpa using hv
 have h' := h
 rw [qCi, List.append_assoc] at h'
 obtain ⟨V', O', e1, s1, _⟩ := h'.cut fun u v hu hv => hc u v hu (hhead v hv)
 have s2 := s1
 rw [← List.take_append_drop j V] at s2
 obtain ⟨V1, V2, e2, s3, s5⟩ := s2.cut hj
 have s4 := (s1.reps hc.bdry (m + 1)).join s3 (fun u v hu hv => by
  rw [qTw] at hu
  refine hc.bdry (X' := reps (m + 1) V') u v hu ?_
  cases V with
  | nil => simp at h0
  | cons y V => cases j with
   | zero => simp at hv
   | succ j => simpa using hv)
 have e3 := h.fn hw s4
 obtain ⟨W1, l1, _⟩ := s1.made
 obtain ⟨W2, l2, _⟩ := s3.made
 have lt := List.length_take_le j V
 have e4 : V1 = V'.take V1.length := by rw [e2, List.take_left]
 have hV1 : V1.length ≤ V'.length := by rw [e2, List.length_append]; omega
 have hne : 0 < V'.length := by
  rcases Nat.eq_zero_or_pos V'.length with h1 | h1
  ·exfalso
   rw [List.length_eq_zero_iff.1 h1] at s1
   have := s1.join (Sq.nil L lv) (fun u v hu hv => by simp at hv)
   cases V with
   | nil => simp at h0
   | cons y V =>
    unfold Sq at s1
    split at s1
    ·exact Rg.nonempty s1 rfl
    exact Pg.nonempty s1 rfl
  exact h1
 obtain ⟨W3, l3, _⟩ := s5.made
 rw [List.length_drop] at l3
 have hlt : V1.length < V'.length := by
  rcases Nat.eq_zero_or_pos V2.length with h1 | h1
  ·exfalso
   rw [List.length_eq_zero_iff.1 h1] at s5
   generalize hd : V.drop j = D at s5
   cases D with
   | nil =>
    have := congrArg List.length hd
    rw [List.length_drop, List.length_nil] at this
    omega
   | cons y D =>
    unfold Sq at s5
    split at s5
    ·exact Rg.nonempty s5 rfl
    exact Pg.nonempty s5 rfl
  rw [e2, List.length_append]; omega
 refine ⟨V', (m + 1) * V'.length + V1.length, s1, ?_, ?_, fun hlt2 => ?_, ?_, fun hk => ?_⟩
 ·rw [e3, qHp hne (m + 1) V1.length hV1, ← e4]
 ·have := Nat.mul_le_mul_left (m + 1) (show V'.length ≤ V.length by omega)
  omega
 ·cases m with
  | zero =>
   rcases Nat.eq_zero_or_pos V1.length with h1 | h1
   ·exfalso
    rw [List.length_eq_zero_iff.1 h1] at s3
    generalize hd : V.take j = D at s3
    cases D with
    | nil =>
     have := congrArg List.length hd
     rw [List.length_take, List.length_nil] at this
     omega
    | cons y D =>
     unfold Sq at s3
     split at s3
     ·exact Rg.nonempty s3 rfl
     exact Pg.nonempty s3 rfl
   omega
  | succ m =>
   have := Nat.le_mul_of_pos_left V'.length (show 0 < m + 1 by omega)
   rw [Nat.succ_mul]
   omega
 ·rw [Nat.add_mul (m + 1) 1, Nat.one_mul]
  omega
 have h1 := congrArg List.length e2
 rw [List.length_append] at h1
 rw [hk]
 omega
end
section
def side (L : List Rl) (c : Nat) (x : Nat) : Nat := if bt (key L x) (c / 2) = c % 2 then 0 else 1
theorem qVp (L : List Rl) (c x : Nat) : side L c x ≤ 1 := by unfold side; split <;> omega
theorem qMz {L : List Rl} {c x y : Nat} (hc : c ≠ 122) (h : qAd c (key L x) (key L y)) : side L c x = 0 ∧ side L c y = 1 := by
 unfold qAd at h
 rw [if_neg hc] at h
 unfold side
 rw [if_pos h.1, if_neg (by omega)]
 exact ⟨rfl, rfl⟩
theorem qEv {X W : List Nat} {w u : Nat} (hw : W.getLast? = some w) (h : (X ++ W).getLast? = some u) : u = w := by
 rw [List.getLast?_append, hw] at h
 exact (Option.some.inj h).symm
structure MidStep (L : List Rl) (lv : Nat) (X U : List Nat) (N : Nat) (Y O : List Nat) (r : Nat) (X' U' : List Nat) (N' : Nat) (Y' Z : List Nat) : Prop where
 out : O = X' ++ cyc U' N' ++ Y'
 left : Sq L lv (X ++ cyc U r) X'
 right : Sq L lv (Z ++ Y) Y'
 count : N' + r + Z.length ≤ N
 many : 0 < U'.length ∧ U'.length < N'
 suf : ∃ T, cyc U N = T ++ Z
theorem qRh {r : Nat} {U : List Nat} (hr : r < U.length) : (rot r U).head? = U[r]? := by
 rw [List.head?_eq_getElem?, qRg (by omega) (by omega), Nat.zero_add, Nat.mod_eq_of_lt hr]
theorem qXh {r : Nat} {U : List Nat} (hr : 0 < r) (hu : r ≤ U.length) : (rot r U).getLast? = U[r - 1]? := by
 rw [List.getLast?_eq_getElem?, qAj, qRg hu (by omega)]
 congr 1
 rw [Nat.mod_eq_sub_mod (by omega), Nat.mod_eq_of_lt (by omega)]
 omega
theorem qPc {U : List Nat} {r : Nat} (hr : r ≤ U.length) (h0 : 0 < U.length) : cyc U r = U.take r := by
 rw [qGe hr (Nat.le_refl _) h0, Nat.sub_self]
 exact List.append_nil _
theorem quo_le {n N a b c : Nat} (hb : 0 < b) (h : n < (N / a + 1) * b) {M : Nat} (hN : N ≤ M) (hc : a = c) : n / b ≤ M / c := by
 subst hc
 have h1 : n / b < N / a + 1 := (Nat.div_lt_iff_lt_mul hb).2 h
 have h2 := Nat.div_le_div_right (c := a) hN
 omega
theorem mid_pair {L : List Rl} (hw : Wf L) {lv N : Nat} (he : lv % 2 = 0) (hc : num lv ≠ 122) {X U Y O : List Nat} {u0 : Nat} (hu0 : U.head? = some u0) (h2 : 2 ≤ U.length) (hN : U.length + 3 ≤ N) (h : Sq L lv (X ++ cyc U N ++ Y) O) :
  ∃ X' U' N' Y' Z, MidStep L lv X U N Y O (side L (num lv) u0) X' U' N' Y' Z ∧ Sq L lv (rot (side L (num lv) u0) U) U' ∧ N' / U'.length ≤ N / U.length ∧ (U'.length = U.length → N' + side L (num lv) u0 + Z.length = N) ∧ ∃ w, w ∈ U ∧ w = (rot (side L (num lv) u0) U).getD ((N - side L (num lv) u0 - 1) % (rot (side L (num lv) u0) U).length) 0 ∧ Z = (if side L (num lv) w = 0 then [w] else []) := by
 have hno : ¬ lv % 2 = 1 := by omega
 have h0 : 0 < U.length := by omega
 obtain ⟨r, hr⟩ : ∃ r, r = side L (num lv) u0 := ⟨_, rfl⟩
 have hr1 : r ≤ 1 := by rw [hr]; exact qVp L _ _
 rw [← hr]
 obtain ⟨V, hV⟩ : ∃ V, V = rot r U := ⟨_, rfl⟩
 have hVl : V.length = U.length := by rw [hV, qAj]
 obtain ⟨v0, hv0⟩ : ∃ v, V.head? = some v := by
  cases V with
  | nil => simp at hVl; omega
  | cons y V => exact ⟨y, rfl⟩
 have hvU : v0 ∈ U := by
  have h1 : v0 ∈ V := List.mem_of_mem_head? hv0
  rw [hV] at h1
  unfold rot at h1
  rcases List.mem_append.1 h1 with h1 | h1
  ·exact List.mem_of_mem_drop h1
  exact List.mem_of_mem_take h1
 rw [hV] at hv0
 rw [qRh (by omega)] at hv0
 -- nothing that may stand before the cycle's rest is paired with it
 have hfree : ∀ u, (r = 1 → u = u0) → ¬ qAd (num lv) (key L u) (key L v0) := fun u hu hf => by
  obtain ⟨f1, f2⟩ := qMz hc hf
  rcases Nat.lt_or_ge r 1 with h1 | h1
  ·obtain rfl : r = 0 := by omega
   rw [← List.head?_eq_getElem?, hu0] at hv0
   cases hv0
   omega
  obtain rfl : r = 1 := by omega
  rw [hu rfl] at f1
  omega
 have hv0' : V.head? = some v0 := by rw [hV, qRh (by omega), hv0]
 have hVlast : ∀ u, V.getLast? = some u → (r = 1 → u = u0) := fun u hu h1 => by
  rw [hV, qXh (by omega) (by omega), h1, Nat.sub_self, ← List.head?_eq_getElem?, hu0] at hu
  exact (Option.some.inj hu).symm
 have hVV : Cut L lv V V := fun u v hu hv => by
  rw [if_neg hno]
  rw [hv0'] at hv
  cases hv
  exact hfree u (hVlast u hu)
 have hfront := qGe (r := r) (N := N) (by omega) (by omega) h0
 rw [← hV] at hfront
 rw [qGe (r := r) (by omega) (by omega) h0, ← qPc (r := r) (by omega) h0, ← hV] at h
 obtain ⟨n1, hn1⟩ : ∃ n1, n1 = N - r := ⟨_, rfl⟩
 rw [← hn1] at h
 -- the last symbol of the cycle
 obtain ⟨w, hwd⟩ : ∃ w, w = V.getD ((n1 - 1) % V.length) 0 := ⟨_, rfl⟩
 have hwV : V[(n1 - 1) % V.length]? = some w := by
  rw [hwd, List.getD_eq_getElem?_getD, List.getElem?_eq_getElem (Nat.mod_lt _ (by omega))]
  rfl
 have hwU : w ∈ U := by
  have h1 := List.mem_of_getElem? hwV
  rw [hV] at h1
  unfold rot at h1
  rcases List.mem_append.1 h1 with h1 | h1
  ·exact List.mem_of_mem_drop h1
  exact List.mem_of_mem_take h1
 obtain ⟨z, hz⟩ : ∃ z, z = 1 - side L (num lv) w := ⟨_, rfl⟩
 have hsw := qVp L (num lv) w
 obtain ⟨Z, hZ⟩ : ∃ Z, Z = (if side L (num lv) w = 0 then [w] else [] : List Nat) := ⟨_, rfl⟩
 have hZl : Z.length = z := by
  rw [hZ, hz]
  split
  ·rename_i h1; rw [h1]; rfl
  rename_i h1; show 0 = _; omega
 have hcz : cyc V n1 = cyc V (n1 - z) ++ Z := by
  rw [qJg (n := n1 - z) (N := n1) (by omega)]
  congr 1
  rw [hZ]
  split
  ·rename_i h1
   have e : z = 1 := by omega
   apply List.ext_getElem?
   intro i
   rw [List.getElem?_drop, e]
   cases i with
   | zero => rw [Nat.add_zero, qDp (by omega), ← hwd]; rfl
   | succ i => rw [qQk (by omega)]; rfl
  rename_i h1
  have e : z = 0 := by omega
  rw [e, Nat.sub_zero, List.drop_of_length_le (by rw [qAs]; exact Nat.le_refl _)]
 rw [hcz] at h
 have e1 : X ++ (cyc U r ++ (cyc V (n1 - z) ++ Z)) ++ Y = (X ++ cyc U r) ++ (cyc V (n1 - z) ++ (Z ++ Y)) := by simp only [List.append_assoc]
 rw [e1] at h
 have hn0 : 0 < n1 - z := by omega
 obtain ⟨X', O1, e2, s1, h3⟩ := h.cut (fun u v hu hv => by
  rw [if_neg hno]
  have hv' : v = v0 := by
   have : (cyc V (n1 - z) ++ (Z ++ Y)).head? = some v0 := by
    rw [List.head?_append, qMb hn0 (by omega), hv0']
    rfl
   rw [this] at hv
   exact (Option.some.inj hv).symm
  rw [hv']
  refine hfree u (fun h1 => ?_)
  refine qEv (W := cyc U r) ?_ hu
  rw [qJf (by omega), h1, Nat.sub_self, Nat.zero_mod, List.getD_eq_getElem?_getD, ← List.head?_eq_getElem?, hu0]
  rfl)
 -- the end of the cycle
 have hend : ∀ u v, (cyc V (n1 - z)).getLast? = some u → (z = 1 → v = w) → ¬ qAd (num lv) (key L u) (key L v) := fun u v hu hv hf => by
  obtain ⟨f1, f2⟩ := qMz hc hf
  rcases Nat.lt_or_ge z 1 with h1 | h1
  ·have hz0 : z = 0 := by omega
   rw [hz0, Nat.sub_zero, qJf (by omega), ← hwd] at hu
   cases hu
   omega
  rw [hv (by omega)] at f2
  omega
 obtain ⟨O2, Y', e3, s2, s3⟩ := h3.cut (fun u v hu hv => by
  rw [if_neg hno]
  refine hend u v hu (fun h1 => ?_)
  have : Z = [w] := by rw [hZ, if_pos (by omega)]
  rw [this] at hv
  simpa using hv.symm)
 have hlastj : Cut L lv (V.take ((n1 - z) % V.length)) (V.drop ((n1 - z) % V.length)) := fun u v hu hv => by
  rw [if_neg hno]
  have hjl := Nat.mod_lt (n1 - z) (show 0 < V.length by omega)
  have hj0 : 0 < (n1 - z) % V.length := by
   rcases Nat.eq_zero_or_pos ((n1 - z) % V.length) with h1 | h1
   ·rw [h1, List.take_zero] at hu; simp at hu
   exact h1
  have hm1 : (n1 - z - 1) % V.length = (n1 - z) % V.length - 1 := by
   have h4 := Nat.div_add_mod (n1 - z) V.length
   have h5 : n1 - z - 1 = V.length * ((n1 - z) / V.length) + ((n1 - z) % V.length - 1) := by omega
   rw [h5, Nat.mul_add_mod, Nat.mod_eq_of_lt (by omega)]
  refine hend u v ?_ (fun h1 => ?_)
  ·rw [qJf hn0, hm1, List.getD_eq_getElem?_getD]
   rw [List.getLast?_eq_getElem?, List.length_take, Nat.min_eq_left (by omega), List.getElem?_take_of_lt (by omega)] at hu
   rw [hu]
   rfl
  rw [List.head?_drop, ← show (n1 - 1) % V.length = (n1 - z) % V.length by rw [h1], hwV] at hv
  exact (Option.some.inj hv).symm
 obtain ⟨V', N', s4, e4, l1, l0, l2, l3⟩ := qWp hw (by omega) (by omega) hVV hlastj s2
 have hne : 0 < V'.length := by
  rcases Nat.eq_zero_or_pos V'.length with h1 | h1
  ·exfalso
   rw [List.length_eq_zero_iff.1 h1] at s4
   cases V with
   | nil => simp at hVl; omega
   | cons y V =>
    unfold Sq at s4
    rw [if_neg hno] at s4
    exact Pg.nonempty s4 rfl
  exact h1
 refine ⟨X', V', N', Y', Z, ⟨?_, s1, s3, by omega, ⟨hne, l0 (by omega)⟩, ⟨_, by rw [hfront, ← hn1, hcz, ← List.append_assoc]⟩⟩, by rw [← hV]; exact s4, quo_le hne l2 (by omega) hVl, fun hk => ?_, w, hwU, by rw [hwd, hV, hn1], hZ⟩
 ·rw [e2, e3, e4, List.append_assoc]
 have := l3 (by omega)
 omega
end
section
def Kc : Type := Nat
def Cls (L : List Rl) (lv : Nat) (κ : Nat → Kc) : Prop := ∀ u v, κ u ≠ κ v → if lv % 2 = 1 then u ≠ v else ¬ qAd (num lv) (key L u) (key L v)
theorem cls_run (L : List Rl) {lv : Nat} (h : lv % 2 = 1) : Cls L lv (fun x => x) := fun u v hne => by rw [if_pos h]; exact hne
theorem cls_tie (L : List Rl) {lv : Nat} (h : lv % 2 = 0) (hc : num lv = 122) : Cls L lv (fun x => key L x) := fun u v hne => by
 rw [if_neg (by omega), hc]
 unfold qAd
 rw [if_pos rfl]
 exact hne
theorem lead {κ : Nat → Kc} {a : Nat} : ∀ {U : List Nat}, U.head? = some a → (∃ y ∈ U, κ y ≠ κ a) → ∃ t, 0 < t ∧ t < U.length ∧ (∀ y ∈ U.take t, κ y = κ a) ∧ ∀ y, U[t]? = some y → κ y ≠ κ a
 | [], h, _ => by simp at h
 | [x], h, ⟨y, hy, hne⟩ => by
  simp at h hy
  subst h hy
  exact absurd rfl hne
 | x :: x2 :: U, h, ⟨y, hy, hne⟩ => by
  simp at h
  subst h
  by_cases h2 : κ x2 = κ x
  ·have hy2 : y ∈ x2 :: U := by
    rcases List.mem_cons.1 hy with rfl | h3
    ·exact absurd rfl hne
    exact h3
   obtain ⟨t, t1, t2, t3, t4⟩ := lead (κ := κ) (a := x2) (U := x2 :: U) rfl ⟨y, hy2, by rw [h2]; exact hne⟩
   refine ⟨t + 1, by omega, by simp only [List.length_cons] at t2 ⊢; omega, fun z hz => ?_, fun z hz => ?_⟩
   ·rw [List.take_succ_cons] at hz
    rcases List.mem_cons.1 hz with rfl | hz
    ·rfl
    rw [t3 z hz, h2]
   rw [← h2]
   exact t4 z (by simpa using hz)
  refine ⟨1, by omega, by simp, fun z hz => ?_, fun z hz => ?_⟩
  ·simp at hz
   rw [hz]
  simp at hz
  subst hz
  exact h2
theorem trail {κ : Nat → Kc} {f : Nat → Nat} {n : Nat} : ∀ d, d < n → κ (f (n - 1 - d)) ≠ κ (f (n - 1)) → ∃ z, 0 < z ∧ z ≤ d ∧ (∀ i, i < z → κ (f (n - 1 - i)) = κ (f (n - 1))) ∧ κ (f (n - 1 - z)) ≠ κ (f (n - 1))
 | 0, _, h => absurd rfl (h)
 | d + 1, hd, h => by
  by_cases h2 : ∃ i, i ≤ d ∧ κ (f (n - 1 - i)) ≠ κ (f (n - 1))
  ·obtain ⟨i, h3, h4⟩ := h2
   have h5 : ∀ m, m ≤ d → κ (f (n - 1 - m)) ≠ κ (f (n - 1)) → ∃ z, 0 < z ∧ z ≤ d ∧ (∀ i, i < z → κ (f (n - 1 - i)) = κ (f (n - 1))) ∧ κ (f (n - 1 - z)) ≠ κ (f (n - 1)) := by
    intro m hm hne
    induction m using Nat.strongRecOn with
    | _ m ih =>
     by_cases h6 : ∃ i, i < m ∧ κ (f (n - 1 - i)) ≠ κ (f (n - 1))
     ·obtain ⟨i, h7, h8⟩ := h6
      exact ih i h7 (by omega) h8
     refine ⟨m, ?_, hm, fun i hi => Classical.byContradiction fun hh => h6 ⟨i, hi, hh⟩, hne⟩
     rcases Nat.eq_zero_or_pos m with rfl | h9
     ·exact absurd rfl (hne)
     exact h9
   obtain ⟨z, z1, z2, z3, z4⟩ := h5 i h3 h4
   exact ⟨z, z1, by omega, z3, z4⟩
  exact ⟨d + 1, by omega, Nat.le_refl _, fun i hi => Classical.byContradiction fun hh => h2 ⟨i, by omega, hh⟩, h⟩
theorem qFz {L : List Rl} {a : Nat} : ∀ (n : Nat) {W Q W2 O : List Nat}, W.length + Q.length ≤ n → Pg L 122 (W ++ (Q ++ W2)) O → (∀ y ∈ Q, key L y = a) → 2 * O.length + Q.length ≤ 2 * (W.length + Q.length + W2.length) + 2
 | 0, W, Q, W2, O, hn, h, _ => by
  obtain rfl : W = [] := List.length_eq_zero_iff.1 (by omega)
  obtain rfl : Q = [] := List.length_eq_zero_iff.1 (by omega)
  obtain ⟨V, h1, _⟩ := Sq.made (L := L) (lv := 246) (X := W2) (O := O) (by unfold Sq; rw [if_neg (by omega)]; exact h)
  simp only [List.length_nil]
  omega
 | n + 1, x :: W, Q, W2, O, hn, h, hq => by
  simp only [List.length_cons] at hn
  cases W with
  | nil =>
   match Q, hn, h, hq with
   | [], _, h, _ =>
    obtain ⟨V, h1, _⟩ := Sq.made (L := L) (lv := 246) (X := [x] ++ ([] ++ W2)) (O := O) (by unfold Sq; rw [if_neg (by omega)]; exact h)
    simp only [List.length_nil, List.length_cons, List.length_append] at h1 ⊢
    omega
   | q :: Q, hn, h, hq =>
    cases h with
    | one hx hr =>
     have := qFz n (W := []) (Q := q :: Q) (W2 := W2) (by simp only [List.length_nil, List.length_cons] at hn ⊢; omega) hr hq
     simp only [List.length_nil, List.length_cons] at this ⊢
     omega
    | two hf hj hr =>
     have := qFz n (W := []) (Q := Q) (W2 := W2) (by simp only [List.length_nil, List.length_cons] at hn ⊢; omega) hr (fun z hz => hq z (List.mem_cons_of_mem _ hz))
     simp only [List.length_nil, List.length_cons] at this ⊢
     omega
  | cons x2 W =>
   simp only [List.length_cons] at hn
   cases h with
   | one hx hr =>
    have := qFz n (W := x2 :: W) (by simp only [List.length_cons]; omega) hr hq
    simp only [List.length_cons] at this ⊢
    omega
   | two hf hj hr =>
    have := qFz n (W := W) (by omega) hr hq
    simp only [List.length_cons] at this ⊢
    omega
 | n + 1, [], Q, W2, O, hn, h, hq => by
  match Q, hn, h, hq with
  | [], _, h, _ =>
   obtain ⟨V, h1, _⟩ := Sq.made (L := L) (lv := 246) (X := W2) (O := O) (by unfold Sq; rw [if_neg (by omega)]; exact h)
   simp only [List.length_nil]
   omega
  | [q], _, h, _ =>
   obtain ⟨V, h1, _⟩ := Sq.made (L := L) (lv := 246) (X := [q] ++ W2) (O := O) (by unfold Sq; rw [if_neg (by omega)]; exact h)
   simp only [List.length_nil, List.length_cons, List.length_append] at h1 ⊢
   omega
  | q :: q2 :: Q, hn, h, hq =>
   cases h with
   | one hx hr =>
    exfalso
    refine hx q2 rfl ?_
    unfold qAd
    rw [if_pos rfl, hq q (by simp), hq q2 (by simp)]
   | two hf hj hr =>
    have := qFz n (W := []) (Q := Q) (W2 := W2) (by simp only [List.length_nil, List.length_cons] at hn ⊢; omega) hr (fun z hz => hq z (by simp [hz]))
    simp only [List.length_nil, List.length_cons] at this ⊢
    omega
end
section
theorem zCl {L : List Rl} {a : Nat} {A O : List Nat} (h : Rg L A O) : ∀ {W Q W2 : List Nat}, A = W ++ (Q ++ W2) → (∀ y ∈ Q, y = a) → O.length + Q.length ≤ A.length + 1 := by
 induction h with
 | nil =>
  intro W Q W2 e _
  have h1 := congrArg List.length e
  simp only [List.length_nil, List.length_append] at h1 ⊢
  omega
 | @run x t id r o ht hid hne hr ih =>
  intro W Q W2 e hq
  obtain ⟨V, hv, _⟩ := Sq.made (L := L) (lv := 1) (X := r) (O := o) (by unfold Sq; rw [if_pos (by omega)]; exact hr)
  rcases List.append_eq_append_iff.1 e with ⟨Y, rfl, e2⟩ | ⟨Y, e1, e2⟩
  ·have := ih e2 hq
   simp only [List.length_cons, List.length_append, List.length_replicate] at this ⊢
   omega
  have hYt : W.length + Y.length = t := by
   have := congrArg List.length e1
   simpa using this.symm
  rcases List.append_eq_append_iff.1 e2 with ⟨Y2, e3, e4⟩ | ⟨Y2, e3, e4⟩
  ·have h1 := congrArg List.length e3
   simp only [List.length_cons, List.length_append, List.length_replicate] at h1 ⊢
   omega
  cases Y2 with
  | nil =>
   have h1 := congrArg List.length e3
   simp only [List.length_cons, List.length_append, List.length_replicate, List.length_nil] at h1 ⊢
   omega
  | cons y Y2 =>
   cases Y with
   | nil =>
    rw [List.nil_append] at e2
    have := ih (W := []) (Q := Q) (W2 := W2) (by rw [List.nil_append]; exact e2.symm) hq
    simp only [List.length_cons, List.length_append, List.length_replicate] at this ⊢
    omega
   | cons y2 Y =>
    exfalso
    have h1 : y2 = x := List.eq_of_mem_replicate (n := t) (by rw [e1]; simp)
    have h2 := hq y2 (by rw [e3]; simp)
    have h3 := hq y (by rw [e3]; simp)
    refine hne ?_
    rw [e4, ← h1, h2, h3]
    rfl
theorem qSo {L : List Rl} {lv : Nat} {a : Kc} {κ : Nat → Kc} (hk : (lv % 2 = 1 ∧ κ = fun x => x) ∨ (lv % 2 = 0 ∧ num lv = 122 ∧ κ = fun x => key L x)) {W Q W2 O : List Nat} (h : Sq L lv (W ++ (Q ++ W2)) O) (hq : ∀ y ∈ Q, κ y = a) : 2 * O.length + Q.length ≤ 2 * (W.length + Q.length + W2.length) + 2 := by
 unfold Sq at h
 rcases hk with ⟨h1, rfl⟩ | ⟨h1, h2, rfl⟩
 ·rw [if_pos h1] at h
  have := zCl h rfl hq
  have h3 : O.length ≤ W.length + Q.length + W2.length := by
   obtain ⟨V, hv, _⟩ := Sq.made (L := L) (lv := lv) (X := W ++ (Q ++ W2)) (O := O) (by unfold Sq; rw [if_pos h1]; exact h)
   simp only [List.length_append] at hv
   omega
  simp only [List.length_append] at this
  omega
 rw [if_neg (by omega), h2] at h
 exact qFz _ (Nat.le_refl _) h hq
theorem qKx {r x : Nat} {U : List Nat} (h : x ∈ rot r U) : x ∈ U := by
 unfold rot at h
 rcases List.mem_append.1 h with h | h
 ·exact List.mem_of_mem_drop h
 exact List.mem_of_mem_take h
def at_ (V : List Nat) (i : Nat) : Nat := V.getD (i % V.length) 0
theorem qWd {V : List Nat} (h0 : 0 < V.length) (i : Nat) : at_ V i ∈ V := by
 unfold at_
 have hm := Nat.mod_lt i h0
 rw [List.getD_eq_getElem?_getD, List.getElem?_eq_getElem hm]
 exact List.getElem_mem hm
theorem qDm {V : List Nat} {i : Nat} (h : i < V.length) : V[i]? = some (at_ V i) := by
 unfold at_
 rw [Nat.mod_eq_of_lt h, List.getD_eq_getElem?_getD, List.getElem?_eq_getElem h]
 rfl
theorem one_copy {κ : Nat → Kc} {V : List Nat} {n z : Nat} {x : Kc} (h0 : 0 < V.length) (hcut : κ (at_ V (V.length - 1)) ≠ κ (at_ V 0)) (hz : ∀ i, n ≤ i → i < n + z → κ (at_ V i) = x) : n % V.length + z ≤ V.length := by
 rcases Nat.lt_or_ge V.length (n % V.length + z) with h | h
 ·exfalso
  have hm := Nat.mod_lt n h0
  have hd := Nat.div_add_mod n V.length
  have h1 := hz (n + (V.length - n % V.length) - 1) (by omega) (by omega)
  have h2 := hz (n + (V.length - n % V.length)) (by omega) (by omega)
  apply hcut
  have e1 : at_ V (n + (V.length - n % V.length) - 1) = at_ V (V.length - 1) := by
   unfold at_
   congr 1
   rw [show n + (V.length - n % V.length) - 1 = V.length * (n / V.length) + (V.length - 1) by omega, Nat.mul_add_mod]
  have e2 : at_ V (n + (V.length - n % V.length)) = at_ V 0 := by
   unfold at_
   congr 1
   rw [show n + (V.length - n % V.length) = V.length * (n / V.length + 1) by rw [Nat.mul_add]; omega, Nat.mul_mod_right, Nat.zero_mod]
  rw [← e1, ← e2, h1, h2]
 exact h
theorem factor {V : List Nat} {a z : Nat} (h : a + z ≤ V.length) : V = V.take a ++ ((V.drop a).take z ++ V.drop (a + z)) := by
 rw [← List.drop_drop, List.take_append_drop, List.take_append_drop]
theorem zBu {V : List Nat} {n : Nat} (h0 : 0 < V.length) (hn : V.length ≤ n) : ∃ q, V.length * (q + 1) ≤ n ∧ n < V.length * (q + 1) + V.length := by
 have h1 := Nat.div_add_mod n V.length
 have h2 := Nat.mod_lt n h0
 obtain ⟨q, hq⟩ : ∃ q, n / V.length = q + 1 := ⟨n / V.length - 1, by have := Nat.div_pos hn h0; omega⟩
 rw [hq] at h1
 exact ⟨q, by omega, by omega⟩
theorem qFe {r i : Nat} {U : List Nat} (hr : r ≤ U.length) (h0 : 0 < U.length) : at_ (rot r U) i = at_ U (i + r) := by
 unfold at_
 rw [qAj, List.getD_eq_getElem?_getD, List.getD_eq_getElem?_getD, qRg hr (Nat.mod_lt _ h0), Nat.mod_add_mod]
theorem zBn {L : List Rl} (hw : Wf L) {lv : Nat} {κ : Nat → Kc} (hk : (lv % 2 = 1 ∧ κ = fun x => x) ∨ (lv % 2 = 0 ∧ num lv = 122 ∧ κ = fun x => key L x)) {X U : List Nat} {u0 : Nat} (hu0 : U.head? = some u0) (hd : ∃ y ∈ U, κ y ≠ κ u0) :
  ∃ r, r < U.length ∧ (r = 0 ∨ ((∀ y ∈ U.take r, κ y = κ u0) ∧ ((∃ u, U.getLast? = some u ∧ κ u = κ u0) ∨ ∃ u, X.getLast? = some u ∧ κ u = κ u0))) ∧ (r = 0 → ∀ u, X.getLast? = some u → κ u ≠ κ u0) ∧
   ∀ (N : Nat) (Y O : List Nat), 3 * U.length + 3 ≤ N → Sq L lv (X ++ cyc U N ++ Y) O → ∃ X' U' N' Y' Z, MidStep L lv X U N Y O r X' U' N' Y' Z ∧ Sq L lv (rot r U) U' ∧ N' / U'.length ≤ N / U.length ∧ (U'.length = U.length → N' + r + Z.length = N) ∧
   r + 2 * U'.length ≤ 2 * U.length + 2 ∧ Z.length + 2 * U'.length ≤ 2 * U.length + 2 ∧ (∀ y ∈ Z, y ∈ U) ∧
   ((∀ i, κ (at_ U i) ≠ κ (at_ U (i + 1))) → r ≤ 1 ∧ Z.length ≤ 1 ∧ (Z.length = 1 → ∃ v, Y.head? = some v ∧ κ v = κ (at_ U (N - 1)))) := by
 have hcls : Cls L lv κ := by
  rcases hk with ⟨h1, rfl⟩ | ⟨h1, h2, rfl⟩
  ·exact cls_run L h1
  exact cls_tie L h1 h2
 obtain ⟨t, t1, t2, t3, t4⟩ := lead hu0 hd
 have h0 : 0 < U.length := by omega
 -- the rotation
 obtain ⟨r, hr0, hr⟩ : ∃ r, (r = 0 ∨ r = t) ∧ ((r = 0 ∧ (∀ u, U.getLast? = some u → κ u ≠ κ u0) ∧ ∀ u, X.getLast? = some u → κ u ≠ κ u0) ∨ (r = t ∧ ((∃ u, U.getLast? = some u ∧ κ u = κ u0) ∨ ∃ u, X.getLast? = some u ∧ κ u = κ u0))) := by
  by_cases h1 : (∃ u, U.getLast? = some u ∧ κ u = κ u0) ∨ ∃ u, X.getLast? = some u ∧ κ u = κ u0
  ·exact ⟨t, .inr rfl, .inr ⟨rfl, h1⟩⟩
  exact ⟨0, .inl rfl, .inl ⟨rfl, fun u hu he => h1 (.inl ⟨u, hu, he⟩), fun u hu he => h1 (.inr ⟨u, hu, he⟩)⟩⟩
 have hrU : r < U.length := by omega
 obtain ⟨V, hV⟩ : ∃ V, V = rot r U := ⟨_, rfl⟩
 have hVl : V.length = U.length := by rw [hV, qAj]
 obtain ⟨v0, hv0⟩ : ∃ v, U[r]? = some v := ⟨_, List.getElem?_eq_getElem hrU⟩
 have hVh : V.head? = some v0 := by rw [hV, qRh hrU, hv0]
 have hfree : ∀ u, (r = 0 → U.getLast? = some u ∨ X.getLast? = some u) → (0 < r → U[r - 1]? = some u) → κ u ≠ κ v0 := fun u h1 h2 => by
  rcases hr with ⟨e, g1, g2⟩ | ⟨e, _⟩
  ·rw [e, ← List.head?_eq_getElem?, hu0] at hv0
   cases hv0
   rcases h1 e with h3 | h3
   ·exact g1 u h3
   exact g2 u h3
  have h3 := h2 (by omega)
  have h4 := t3 u (by
   rw [e] at h3
   refine List.mem_of_getElem? (i := t - 1) ?_
   rw [List.getElem?_take_of_lt (by omega), h3])
  rw [e] at hv0
  have h5 := t4 v0 hv0
  rw [h4]
  exact fun h6 => h5 h6.symm
 have hVlast : ∀ u, V.getLast? = some u → κ u ≠ κ v0 := fun u hu => by
  refine hfree u (fun h1 => .inl ?_) (fun h1 => ?_)
  ·have e : rot 0 U = U := by unfold rot; simp
   rw [hV, h1, e] at hu
   exact hu
  rw [hV, qXh h1 (by omega)] at hu
  exact hu
 have hVV : Cut L lv V V := fun u v hu hv => by
  rw [hVh] at hv
  cases hv
  exact hcls u v0 (hVlast u hu)
 refine ⟨r, hrU, ?_, ?_, fun N Y O hN h => ?_⟩
 ·rcases hr with ⟨e, _⟩ | ⟨e, h1⟩
  ·exact .inl e
  exact .inr ⟨by rw [e]; exact t3, h1⟩
 ·intro h1
  rcases hr with ⟨_, _, g2⟩ | ⟨e, _⟩
  ·exact g2
  omega
 have hfront := qGe (r := r) (N := N) (by omega) (by omega) h0
 rw [← hV] at hfront
 rw [qGe (r := r) (by omega) (by omega) h0, ← qPc (r := r) (by omega) h0, ← hV] at h
 obtain ⟨n1, hn1⟩ : ∃ n1, n1 = N - r := ⟨_, rfl⟩
 rw [← hn1] at h
 have hcut0 : κ (at_ V (V.length - 1)) ≠ κ (at_ V 0) := by
  have e1 : at_ V 0 = v0 := by
   have := qDm (V := V) (i := 0) (by omega)
   rw [← List.head?_eq_getElem?, hVh] at this
   exact (Option.some.inj this).symm
  rw [e1]
  refine hVlast _ ?_
  rw [List.getLast?_eq_getElem?]
  exact qDm (by omega)
 -- the end of the cycle
 have hcl : ∀ n, 0 < n → (cyc V n).getLast? = some (at_ V (n - 1)) := fun n hn => qJf hn
 have hnz : ∃ z, z ≤ V.length ∧ (∀ i, i < z → κ (at_ V (n1 - 1 - i)) = κ (at_ V (n1 - 1))) ∧ κ (at_ V (n1 - z - 1)) ≠ κ (at_ V (n1 - z)) ∧ (z = 0 → ∀ v, Y.head? = some v → κ (at_ V (n1 - 1)) ≠ κ v) ∧ (0 < z → κ (at_ V (n1 - 1)) = κ (at_ V n1) ∨ ∃ v, Y.head? = some v ∧ κ v = κ (at_ V (n1 - 1))) := by
  by_cases h1 : κ (at_ V (n1 - 1)) = κ (at_ V n1) ∨ ∃ v, Y.head? = some v ∧ κ v = κ (at_ V (n1 - 1))
  ·obtain ⟨d, hd1, hd2⟩ : ∃ d, d ≤ V.length ∧ κ (at_ V (n1 - 1 - d)) ≠ κ (at_ V (n1 - 1)) := by
    refine Classical.byContradiction fun hh => hcut0 ?_
    have hall : ∀ d, d ≤ V.length → κ (at_ V (n1 - 1 - d)) = κ (at_ V (n1 - 1)) := fun d hd => Classical.byContradiction fun h2 => hh ⟨d, hd, h2⟩
    obtain ⟨q, q1, q2⟩ := zBu (V := V) (n := n1 - 1) (by omega) (by omega)
    have e0 : V.length * (q + 1) = V.length * q + V.length := Nat.mul_succ ..
    have e1 : at_ V (V.length - 1) = at_ V (V.length * (q + 1) - 1) := by
     unfold at_
     congr 1
     rw [show V.length * (q + 1) - 1 = V.length * q + (V.length - 1) by omega, Nat.mul_add_mod]
    have e2 : at_ V 0 = at_ V (V.length * (q + 1)) := by
     unfold at_
     rw [Nat.mul_mod_right, Nat.zero_mod]
    rw [e1, e2]
    have h3 := hall (n1 - 1 - (V.length * (q + 1) - 1)) (by omega)
    have h4 := hall (n1 - 1 - V.length * (q + 1)) (by omega)
    rw [show n1 - 1 - (n1 - 1 - (V.length * (q + 1) - 1)) = V.length * (q + 1) - 1 by omega] at h3
    rw [show n1 - 1 - (n1 - 1 - V.length * (q + 1)) = V.length * (q + 1) by omega] at h4
    rw [h3, h4]
   obtain ⟨z, z1, z2, z3, z4⟩ := trail (κ := κ) (f := at_ V) (n := n1) d (by omega) hd2
   refine ⟨z, by omega, z3, ?_, fun h2 => by omega, fun _ => h1⟩
   have e := z3 (z - 1) (by omega)
   rw [show n1 - 1 - (z - 1) = n1 - z by omega] at e
   rw [e, show n1 - z - 1 = n1 - 1 - z by omega]
   exact z4
  refine ⟨0, Nat.zero_le _, fun i hi => by omega, fun h2 => h1 (.inl h2), fun _ v hv h2 => h1 (.inr ⟨v, hv, h2.symm⟩), fun h2 => by omega⟩
 obtain ⟨z, z1, z2, z3, z4, z5⟩ := hnz
 obtain ⟨n, hn⟩ : ∃ n, n = n1 - z := ⟨_, rfl⟩
 rw [← hn] at z3
 have hn0 : V.length ≤ n := by omega
 obtain ⟨Z, hZ⟩ : ∃ Z, Z = (cyc V n1).drop n := ⟨_, rfl⟩
 have hZl : Z.length = z := by rw [hZ, List.length_drop, qAs]; omega
 have hZg : ∀ i, i < z → Z[i]? = some (at_ V (n + i)) := fun i hi => by
  rw [hZ, List.getElem?_drop, qDp (by omega)]
  rfl
 have hcz : cyc V n1 = cyc V n ++ Z := by rw [hZ]; exact qJg (by omega)
 rw [hcz] at h
 have e1 : X ++ (cyc U r ++ (cyc V n ++ Z)) ++ Y = (X ++ cyc U r) ++ (cyc V n ++ (Z ++ Y)) := by simp only [List.append_assoc]
 rw [e1] at h
 obtain ⟨X', O1, e2, s1, h3⟩ := h.cut (fun u v hu hv => by
  have hv' : v = v0 := by
   have : (cyc V n ++ (Z ++ Y)).head? = some v0 := by
    rw [List.head?_append, qMb (by omega) (by omega), hVh]
    rfl
   rw [this] at hv
   exact (Option.some.inj hv).symm
  rw [hv']
  refine hcls u v0 (hfree u (fun h1 => .inr ?_) (fun h1 => ?_))
  ·rw [h1] at hu
   have e : cyc U 0 = [] := rfl
   rw [e, List.append_nil] at hu
   exact hu
  rw [qDm (by omega)]
  congr 1
  refine (qEv (W := cyc U r) ?_ hu).symm
  exact qJf h1)
 obtain ⟨O2, Y', e3, s2, s3⟩ := h3.cut (fun u v hu hv => by
  rw [hcl n (by omega)] at hu
  cases hu
  refine hcls _ v ?_
  rcases Nat.eq_zero_or_pos z with h1 | h1
  ·rw [List.length_eq_zero_iff.1 (hZl.trans h1), List.nil_append] at hv
   have h2 := z4 h1 v hv
   rwa [show n1 - 1 = n - 1 by omega] at h2
  have h2 : (Z ++ Y).head? = some (at_ V n) := by
   rw [List.head?_append, List.head?_eq_getElem?, hZg 0 h1]
   rfl
  rw [h2] at hv
  cases hv
  exact z3)
 have hjl := Nat.mod_lt n (show 0 < V.length by omega)
 have hnd := Nat.div_add_mod n V.length
 have hlastj : Cut L lv (V.take (n % V.length)) (V.drop (n % V.length)) := fun u v hu hv => by
  have hj0 : 0 < n % V.length := by
   rcases Nat.eq_zero_or_pos (n % V.length) with h1 | h1
   ·rw [h1, List.take_zero] at hu; simp at hu
   exact h1
  have eu : u = at_ V (n - 1) := by
   rw [List.getLast?_eq_getElem?, List.length_take, Nat.min_eq_left (by omega), List.getElem?_take_of_lt (by omega), qDm (by omega)] at hu
   rw [← Option.some.inj hu]
   unfold at_
   congr 1
   rw [show n - 1 = V.length * (n / V.length) + (n % V.length - 1) by omega, Nat.mul_add_mod]
  have ev : v = at_ V n := by
   rw [List.head?_drop, qDm (by omega)] at hv
   rw [← Option.some.inj hv]
   unfold at_
   rw [Nat.mod_mod]
  rw [eu, ev]
  exact hcls _ _ z3
 obtain ⟨V', N', s4, e4, l1, l0, l2, l3⟩ := qWp hw (by omega) hn0 hVV hlastj s2
 obtain ⟨M, hM, _⟩ := s4.made
 have hne : 0 < V'.length := by
  rcases Nat.eq_zero_or_pos V'.length with h1 | h1
  ·exfalso
   rw [List.length_eq_zero_iff.1 h1] at s4
   cases V with
   | nil => simp at hVl; omega
   | cons y V =>
    unfold Sq at s4
    split at s4
    ·exact Rg.nonempty s4 rfl
    exact Pg.nonempty s4 rfl
  exact h1
 have hzc := one_copy (κ := κ) (V := V) (n := n) (z := z) (x := κ (at_ V (n1 - 1))) (by omega) hcut0 (fun i h1 h2 => by
  have := z2 (n1 - 1 - i) (by omega)
  rwa [show n1 - 1 - (n1 - 1 - i) = i by omega] at this)
 refine ⟨X', V', N', Y', Z, ⟨by rw [e2, e3, e4, List.append_assoc], s1, s3, by omega, ⟨hne, l0 (by omega)⟩, ⟨_, by rw [hfront, ← hn1, hcz, ← List.append_assoc]⟩⟩, by rw [← hV]; exact s4, quo_le hne l2 (by omega) hVl, fun hk => (by have := l3 (by omega); omega), ?_, ?_, ?_, ?_⟩
 ·rcases hr with ⟨e, _⟩ | ⟨e, _⟩
  ·omega
  have h4 := s4
  rw [hV, e] at h4
  unfold rot at h4
  rw [← List.append_nil (U.take t)] at h4
  have h5 := qSo hk h4 t3
  simp only [List.length_drop, List.length_take, List.length_nil] at h5
  omega
 ·have h4 := s4
  rw [factor (V := V) (a := n % V.length) (z := z) hzc] at h4
  have h5 := qSo hk h4 (a := κ (at_ V (n1 - 1))) (fun y hy => by
   obtain ⟨i, hi⟩ := List.getElem?_of_mem hy
   have hiz : i < z := by
    have := (List.getElem?_eq_some_iff.1 hi).1
    rw [List.length_take] at this
    omega
   rw [List.getElem?_take_of_lt hiz, List.getElem?_drop, qDm (by omega)] at hi
   rw [← Option.some.inj hi]
   have := z2 (n1 - 1 - (n + i)) (by omega)
   rw [show n1 - 1 - (n1 - 1 - (n + i)) = n + i by omega] at this
   rw [← this]
   unfold at_
   rw [show n + i = V.length * (n / V.length) + (n % V.length + i) by omega, Nat.mul_add_mod])
  simp only [List.length_drop, List.length_take] at h5
  omega
 ·intro y hy
  obtain ⟨i, hi⟩ := List.getElem?_of_mem hy
  have hiz : i < z := by
   have := (List.getElem?_eq_some_iff.1 hi).1
   omega
  rw [hZg i hiz] at hi
  rw [← Option.some.inj hi]
  have := qWd (V := V) (by omega) (n + i)
  rw [hV] at this ⊢
  exact qKx this
 intro hnn
 have hnv : ∀ i, κ (at_ V i) ≠ κ (at_ V (i + 1)) := fun i => by
  rw [hV, qFe (by omega) h0, qFe (by omega) h0, show i + 1 + r = i + r + 1 by omega]
  exact hnn _
 refine ⟨?_, ?_, fun hz1 => ?_⟩
 ·rcases Nat.lt_or_ge r 2 with h1 | h1
  ·omega
  exfalso
  refine hnn 0 ?_
  have g0 := t3 (at_ U 0) (by
   refine List.mem_of_getElem? (i := 0) ?_
   rw [List.getElem?_take_of_lt (by omega)]
   exact qDm (by omega))
  have g1 := t3 (at_ U 1) (by
   refine List.mem_of_getElem? (i := 1) ?_
   rw [List.getElem?_take_of_lt (by omega)]
   exact qDm (by omega))
  rw [g0, g1]
 ·rw [hZl]
  rcases Nat.lt_or_ge z 2 with h1 | h1
  ·omega
  exfalso
  refine hnv (n1 - 2) ?_
  have := z2 1 (by omega)
  rw [show n1 - 2 + 1 = n1 - 1 by omega, ← this]
  rfl
 have hz1' : z = 1 := by omega
 have ew : at_ V (n1 - 1) = at_ U (N - 1) := by
  rw [hV, qFe (by omega) h0, hn1]
  congr 1
  omega
 rw [← ew]
 rcases z5 (by omega) with h1 | h1
 ·exfalso
  refine hnv (n1 - 1) ?_
  rw [show n1 - 1 + 1 = n1 by omega]
  exact h1
 exact h1
end
section
theorem qSa (L : List Rl) (a : Nat) : ∀ (n : Nat) (X : List Nat), X.length ≤ n → ∃ r, r ≤ 1 ∧ ∀ W O : List Nat, (∀ w, W.head? = some w → key L w = a) → W ≠ [] → Pg L 122 (X ++ W) O → ∃ X' O2, O = X' ++ O2 ∧ Pg L 122 (X ++ W.take r) X' ∧ Pg L 122 (W.drop r) O2
 | 0, X, hn => by
  obtain rfl := List.length_eq_zero_iff.1 (Nat.le_zero.1 hn)
  exact ⟨0, by omega, fun W O _ _ h => ⟨[], O, rfl, by simpa using Pg.nil, by simpa using h⟩⟩
 | n + 1, [], _ => ⟨0, by omega, fun W O _ _ h => ⟨[], O, rfl, by simpa using Pg.nil, by simpa using h⟩⟩
 | n + 1, [x], _ => by
  by_cases hx : key L x = a
  ·refine ⟨1, by omega, fun W O hW hne h => ?_⟩
   cases W with
   | nil => exact absurd rfl hne
   | cons w W =>
    have hw := hW w rfl
    cases h with
    | one h1 hr =>
     exfalso
     refine h1 w rfl ?_
     unfold qAd
     rw [if_pos rfl, hx, hw]
    | two hf hj hr => exact ⟨_, _, (List.singleton_append).symm, .two hf hj .nil, hr⟩
  refine ⟨0, by omega, fun W O hW hne h => ?_⟩
  cases W with
  | nil => exact absurd rfl hne
  | cons w W =>
   have hw := hW w rfl
   cases h with
   | one h1 hr => exact ⟨[x], _, rfl, .one (fun y hy => by simp at hy) .nil, hr⟩
   | two hf hj hr =>
    exfalso
    unfold qAd at hf
    rw [if_pos rfl, hw] at hf
    exact hx hf
 | n + 1, x :: y :: X, hn => by
  simp only [List.length_cons] at hn
  by_cases hx : key L x = key L y
  ·obtain ⟨r, hr, hf⟩ := qSa L a n X (by omega)
   refine ⟨r, hr, fun W O hW hne h => ?_⟩
   cases h with
   | one h1 hr =>
    exfalso
    refine h1 y rfl ?_
    unfold qAd
    rw [if_pos rfl, hx]
   | two h1 hj hr =>
    obtain ⟨X', O2, e, h2, h3⟩ := hf W _ hW hne hr
    subst e
    exact ⟨_ :: X', O2, rfl, .two h1 hj h2, h3⟩
  obtain ⟨r, hr, hf⟩ := qSa L a n (y :: X) (by simp only [List.length_cons]; omega)
  refine ⟨r, hr, fun W O hW hne h => ?_⟩
  cases h with
  | one h1 hr =>
   obtain ⟨X', O2, e, h2, h3⟩ := hf W _ hW hne hr
   subst e
   exact ⟨x :: X', O2, rfl, .one (fun z hz => by
    have : z = y := by simpa using hz.symm
    subst this
    exact h1 z rfl) h2, h3⟩
  | two h1 hj hr =>
   exfalso
   unfold qAd at h1
   rw [if_pos rfl] at h1
   exact hx h1
theorem qKf {L : List Rl} (hw : Wf L) {a : Nat} : ∀ (n : Nat) {W Y O : List Nat}, W.length ≤ n → W.length % 2 = 0 → (∀ w ∈ W, key L w = a) → Pg L 122 (W ++ Y) O → ∃ O1 O2, O = O1 ++ O2 ∧ Pg L 122 W O1 ∧ Pg L 122 Y O2 ∧ 2 * O1.length = W.length ∧ ∀ y ∈ O1, key L y = mix 2 a a
 | 0, W, Y, O, hn, _, _, h => by
  obtain rfl := List.length_eq_zero_iff.1 (Nat.le_zero.1 hn)
  exact ⟨[], O, rfl, .nil, h, rfl, fun y hy => by simp at hy⟩
 | n + 1, [], Y, O, _, _, _, h => ⟨[], O, rfl, .nil, h, rfl, fun y hy => by simp at hy⟩
 | n + 1, [x], Y, O, _, he, _, _ => by simp at he
 | n + 1, x :: y :: W, Y, O, hn, he, hk, h => by
  simp only [List.length_cons] at hn he
  have hx := hk x (by simp)
  have hy := hk y (by simp)
  cases h with
  | one h1 hr =>
   exfalso
   refine h1 y rfl ?_
   unfold qAd
   rw [if_pos rfl, hx, hy]
  | @two _ _ j _ o h1 hj hr =>
   obtain ⟨O1, O2, e, h2, h3, h4, h5⟩ := qKf hw n (W := W) (by omega) (by omega) (fun w hw' => hk w (by simp [hw'])) hr
   subst e
   refine ⟨(j + 1) :: O1, O2, rfl, .two h1 hj h2, h3, by simp only [List.length_cons]; omega, fun z hz => ?_⟩
   rcases List.mem_cons.1 hz with rfl | hz
   ·rw [(qFi hj (hw.ok j _ hj)).1, hx, hy]
   exact h5 z hz
theorem qXg {L : List Rl} (hw : Wf L) {a : Nat} {V V' : List Nat} (he : V.length % 2 = 0) (hk : ∀ w ∈ V, key L w = a) (hV : Pg L 122 V V') : ∀ (m : Nat) {T O : List Nat}, Pg L 122 (reps m V ++ T) O → ∃ O2, O = reps m V' ++ O2 ∧ Pg L 122 T O2
 | 0, T, O, h => ⟨O, rfl, h⟩
 | m + 1, T, O, h => by
  rw [qCi, List.append_assoc] at h
  obtain ⟨O1, O2, e, h1, h2, _, _⟩ := qKf hw _ (Nat.le_refl _) he hk h
  have e1 := h1.fn hw hV
  obtain ⟨O3, e3, h3⟩ := qXg hw he hk hV m h2
  exact ⟨O3, by rw [e, e1, e3, qCi, List.append_assoc], h3⟩
theorem cyc_tie {L : List Rl} (hw : Wf L) {a n : Nat} {V O : List Nat} (h0 : 0 < V.length) (he : V.length % 2 = 0) (hk : ∀ w ∈ V, key L w = a) (hn : V.length ≤ n) (hn2 : n % 2 = 0) (h : Pg L 122 (cyc V n) O) :
  ∃ V', Pg L 122 V V' ∧ O = cyc V' (n / 2) ∧ 2 * V'.length = V.length ∧ ∀ y ∈ V', key L y = mix 2 a a := by
 have hjl := Nat.mod_lt n h0
 have hnd := Nat.div_add_mod n V.length
 have e := qHp h0 (n / V.length) (n % V.length) (by omega)
 rw [show n / V.length * V.length + n % V.length = n by rw [Nat.mul_comm]; exact hnd] at e
 obtain ⟨m, hm⟩ : ∃ m, n / V.length = m + 1 := ⟨n / V.length - 1, by have := Nat.div_pos hn h0; omega⟩
 rw [hm] at e hnd
 generalize n % V.length = j at *
 obtain ⟨q, hq⟩ : ∃ q, V.length = 2 * q := ⟨V.length / 2, by omega⟩
 have hev : V.length * (m + 1) = 2 * (q * (m + 1)) := by rw [hq, Nat.mul_assoc]
 rw [e] at h
 have h' := h
 rw [qCi, List.append_assoc] at h'
 obtain ⟨V', _, _, h1, _, l1, k1⟩ := qKf hw _ (Nat.le_refl _) he hk h'
 obtain ⟨O2, e2, h2⟩ := qXg hw he hk h1 (m + 1) h
 have h3 := h1
 rw [← List.take_append_drop j V] at h3
 have hjt : (V.take j).length = j := by rw [List.length_take]; omega
 obtain ⟨V1, V2, e3, h4, _, l4, _⟩ := qKf hw _ (Nat.le_refl _) (by rw [hjt]; omega) (fun w hw' => hk w (List.mem_of_mem_take hw')) h3
 have e5 := h2.fn hw h4
 refine ⟨V', h1, ?_, l1, k1⟩
 have e6 : V1 = V'.take V1.length := by rw [e3, List.take_left]
 have hV1 : V1.length ≤ V'.length := by rw [e3, List.length_append]; omega
 rw [e2, e5, show n / 2 = (m + 1) * V'.length + V1.length by
  rw [hjt] at l4
  have : (m + 1) * V'.length = q * (m + 1) := by rw [show V'.length = q by omega, Nat.mul_comm]
  omega, qHp (by omega) (m + 1) V1.length hV1, ← e6]
end
end Go.Proofs.YtlleicanafioaaaDoor
