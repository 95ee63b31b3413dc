/- Package seam: mergeRuns. -/
import Derived.Test.YtekhbjlplfbdkaaGreatDoorQ33
set_option linter.unusedVariables false
set_option linter.unusedSimpArgs false
namespace Go.Proofs.YtekhbjlplfbdkaaGreatDoor
open Go Go.RowKit Sl Eg
set_option maxRecDepth 10000
variable {E : Env} {Es : List Ent} {pp tb s most S : Nat}
theorem itsC_append (L : List Rl) (a b : List It) : itsC L (a ++ b) = itsC L a ++ itsC L b := by simp [itsC]
theorem drop_oneI {l : List It} {k : Nat} {x : It} (hx : l[k]? = some x) : l.drop k = x :: l.drop (k + 1) := by
  obtain ⟨h1, e1⟩ := List.getElem?_eq_some_iff.1 hx
  rw [List.drop_eq_getElem_cons h1, e1]
theorem items_at {L : List Rl} {its : List It} {k : Nat} {it : It} (h : its[k]? = some it) (o : Nat) (ho : o = k * 4) : (itsC L its)[o]? = some (.int .i64 (it.id : Nat)) ∧ (itsC L its)[o + 1]? = some (.int .i64 (it.next : Nat)) ∧ (itsC L its)[o + 2]? = some (.int .u64 (key L it.id : Nat)) ∧ (itsC L its)[o + 3]? = some (.int .i64 (it.times : Nat)) := by
  have hk := (List.getElem?_eq_some_iff.1 h).1
  have e : its = its.take k ++ it :: its.drop (k + 1) := by
    have := drop_oneI h
    rw [← this, List.take_append_drop]
  have hl : (itsC L (its.take k)).length = o := by rw [itsC_length, List.length_take, Nat.min_eq_left (by omega), ho]
  rw [e, itsC_append, itsC_cons]
  subst hl
  exact ⟨ap_0, ap_1, ap_2, ap_3⟩
theorem items_set {L : List Rl} {a b : List It} {y z : It} (o : Nat) (ho : o = a.length * 4) : setMany (itsC L (a ++ y :: b)) o [.int .i64 (z.id : Nat), .int .i64 (z.next : Nat), .int .u64 (key L z.id : Nat), .int .i64 (z.times : Nat)] = itsC L (a ++ z :: b) := by
  have hl := itsC_length L a
  rw [setMany_eq _ _ _ (by rw [itsC_append, itsC_cons]; simp; omega), itsC_append, itsC_append, itsC_cons, itsC_cons]
  subst ho
  rw [← hl]
  simp
def cmpI (its : List It) : List It := its.foldl pushI []
theorem cmpI_snoc (its : List It) (x : It) : cmpI (its ++ [x]) = pushI (cmpI its) x := by simp [cmpI, List.foldl_append]
theorem cmpI_ok : ∀ (its : List It), Sng its → Sng (cmpI its) ∧ flatI (cmpI its) = flatI its ∧ Adjx (prI (cmpI its)) ∧ (cmpI its).length ≤ its.length ∧ (its ≠ [] → cmpI its ≠ []) := fun its => by
  refine rev_ind (P := fun its => Sng its → Sng (cmpI its) ∧ flatI (cmpI its) = flatI its ∧ Adjx (prI (cmpI its)) ∧ (cmpI its).length ≤ its.length ∧ (its ≠ [] → cmpI its ≠ [])) (fun _ => ⟨fun it h => by simp [cmpI] at h, rfl, fun k x t y t' h => by simp [cmpI, prI] at h, Nat.le_refl _, fun h => absurd rfl h⟩) ?_ its
  intro l x ih h
  obtain ⟨i1, i2, i3, i4, _⟩ := ih fun it hit => h it (by simp [hit])
  have hx := h x (by simp)
  have hl := pushI_length (cmpI l) x
  rw [cmpI_snoc]
  refine ⟨pushI_sng i1 hx, ?_, pushI_adj i3, by rw [List.length_append, List.length_singleton]; omega, fun _ e => by rw [e] at hl; simp at hl⟩
  rw [pushI_flat i1 hx.1, i2, flatI_append, flatI_one, itF_sng hx.1]
def hvy (its : List It) : Nat := (its.map fun it => if 2 ≤ it.times then 1 else 0).sum
def pot (its : List It) : Nat := its.length + hvy its
theorem hvy_append (a b : List It) : hvy (a ++ b) = hvy a + hvy b := by simp [hvy]
theorem hvy_one (x : It) : hvy [x] = if 2 ≤ x.times then 1 else 0 := by simp [hvy]
theorem hvy_le : ∀ its : List It, hvy its ≤ its.length
  | [] => Nat.le_refl _
  | x :: l => by
    have ih := hvy_le l
    have e : hvy (x :: l) = hvy [x] + hvy l := hvy_append [x] l
    rw [e, hvy_one, List.length_cons]
    split <;> omega
theorem pot_append (a b : List It) : pot (a ++ b) = pot a + pot b := by unfold pot; rw [hvy_append, List.length_append]; omega
theorem pot_push (l : List It) (x : It) : pot (pushI l x) ≤ pot l + pot [x] := by
  rcases List.eq_nil_or_concat l with rfl | ⟨a, y, rfl⟩
  · rw [pushI_nil]; omega
  · rw [List.concat_eq_append, pushI_snoc]
    split
    · rw [pot_append, pot_append]
      have h1 : pot [(⟨y.id, y.next, y.times + x.times⟩ : It)] ≤ 2 := by
        unfold pot; rw [hvy_one]; simp only [List.length_singleton]; split <;> omega
      have h2 : 1 ≤ pot [y] := by unfold pot; simp
      have h3 : 1 ≤ pot [x] := by unfold pot; simp
      omega
    · rw [pot_append]; omega
theorem pot_cmp (its : List It) : pot (cmpI its) ≤ pot its := by
  refine rev_ind (P := fun its => pot (cmpI its) ≤ pot its) (Nat.le_refl _) ?_ its
  intro l x ih
  rw [cmpI_snoc, pot_append]
  have := pot_push (cmpI l) x
  omega
theorem pot_flat {its : List It} (h : Sng its) : pot its ≤ (flatI its).length := by
  induction its with
  | nil => exact Nat.le_refl _
  | cons x l ih =>
    have e : pot (x :: l) = pot [x] + pot l := pot_append [x] l
    have i1 := ih fun y hy => h y (by simp [hy])
    have hx := h x (by simp)
    rw [e, flatI_cons, itF_sng hx.1, List.length_append, List.length_replicate]
    have h1 : pot [x] ≤ x.times := by
      unfold pot
      rw [hvy_one, List.length_singleton]
      split <;> omega
    omega
def onesI (out : List Nat) : List It := out.map fun x => ⟨x, 0, 1⟩
theorem flatI_ones (out : List Nat) : flatI (onesI out) = out := by
  induction out with
  | nil => rfl
  | cons x o ih =>
    have e : onesI (x :: o) = ⟨x, 0, 1⟩ :: onesI o := rfl
    rw [e, flatI_ins, ih]
theorem times_le {its : List It} {n : Nat} (h : (flatI its).length ≤ n) : ∀ it ∈ its, it.times ≤ n := by
  induction its with
  | nil => simp
  | cons a l ih =>
    rw [flatI_cons, List.length_append] at h
    intro it hit
    rcases List.mem_cons.1 hit with rfl | hit
    · have hr : ∀ (l : List Nat), 1 ≤ l.length → ∀ t, t ≤ (List.replicate t l).flatten.length := fun l h1 t => by
        induction t with
        | zero => simp
        | succ t ih => rw [List.replicate_succ, List.flatten_cons, List.length_append]; omega
      have : it.times ≤ (itF it).length := by
        unfold itF
        refine hr _ ?_ _
        split <;> simp
      omega
    · exact ih (by omega) it hit
structure MrG where
  k : Nat
  p : Option Addr
  c : Nat
structure MsG where
  k : Nat
  M : List Ent
  out : List Nat
theorem ct_mergeRuns (hE : Seat E) (hB : Base E.w0) {cs : List Value} {its : List It} {p : Option Addr} {c : Nat} (h0 : cs[0]? = some (.pointer (some ⟨pp, 0, none⟩))) (h11 : cs[11]? = some (.slice p its.length c)) (hs : Sng its) (hlen : (flatI its).length ≤ 1000000000)
    (hids : ∀ x ∈ flatI its, 1 ≤ x ∧ x ≤ (rls Es).length) (hrun : ∀ A x t B, flatI its = A ++ List.replicate t x ++ B → len (rls Es) x * t ≤ maxLength) (hroom : Es.length + (flatI its).length ≤ most) :
    Ct E 125 [.pointer (some ⟨S, 0, none⟩)] [cells pp [.pointer (some ⟨s, 0, none⟩), .pointer (some ⟨tb, 0, none⟩)] 59, tabP tb s (rls Es), storeP s most Es, cells S cs 127, sl p c 172 4 its.length (itsC (rls Es) its)]
      (fun v Q => ∃ M out p' c', v = .tuple #[.slice p' out.length c', .nilIface] ∧ M.length + out.length ≤ (flatI its).length ∧ M.length + out.length ≤ pot its ∧ Rg (rls (Es ++ M)) (flatI its) out ∧ Q = [cells pp [.pointer (some ⟨s, 0, none⟩), .pointer (some ⟨tb, 0, none⟩)] 59, tabP tb s (rls (Es ++ M)), storeP s most (Es ++ M), cells S cs 127, sl p' c' 172 4 out.length (itsC (rls (Es ++ M)) (onesI out))]) := by
  have hil := its_len (its := its) fun it h => (hs it h).2
  have htl := times_le hlen
  obtain ⟨c1, c2, c3, c4, c5⟩ := cmpI_ok its hs
  refine fn_enter (hE.fn Tryz.func125) rfl rfl rfl (fun R => ?_)
  simp only [argsL, List.cons_append, List.nil_append]
  refine w_seq (wR ?_)
  refine lY (yA rfl) rfl ?_
  refine lY (yA rfl) rfl ?_
  refine l_nil (aT (w_seq (wR ?_)))
  refine lY (yA rfl) rfl ?_
  refine l_nil (aT (w_seq (w_seq (wR ?_))))
  refine lY (yM rfl) rfl ?_
  refine lY (y_nilCheck rfl) rfl ?_
  refine lY (yF rfl (hE.t rfl) rfl) rfl ?_
  apply lY
  · (apply y_load rfl (hE.t rfl) rfl; (repeat (first | rfl | assumption | constructor)); done)
  · rfl
  refine lY (y_len_slice rfl (hE.t rfl)) rfl ?_
  refine lY (yM rfl) rfl ?_
  refine l_nil (aT (w_block ?_))
  refine w_heap (ent_nil (t := 172) (sz := 4)) ?_
  skip
  refine w_loop (fun x : MrG => [(0, .pointer (some ⟨S, 0, none⟩)), (4, .slice x.p (cmpI (its.take x.k)).length x.c), (15, .slice p its.length c), (16, .int .i64 (its.length : Nat)), (17, .int .i64 (x.k : Nat))]) (fun x => [cells pp [.pointer (some ⟨s, 0, none⟩), .pointer (some ⟨tb, 0, none⟩)] 59, tabP tb s (rls Es), storeP s most Es, cells S cs 127, sl p c 172 4 its.length (itsC (rls Es) its), sl x.p x.c 172 4 (cmpI (its.take x.k)).length (itsC (rls Es) (cmpI (its.take x.k))), R]) (fun x => its.length - x.k) (fun x => x.k ≤ its.length) ⟨0, none, 0⟩ (Nat.zero_le _) ⟨rfl, rfl, rfl, rfl, rfl, trivial⟩ ?_ ?_
  · (apply ent; (repeat constructor); done)
  rintro ⟨k, p1, c1'⟩ hk
  simp only at hk ⊢
  skip
  refine w_seq (wR ?_)
  refine lY (y_lt rfl rfl) rfl ?_
  refine l_nil (aT (w_seq ?_))
  refine w_cond_d rfl (fun hlt => ?_) (fun hlt => ?_)
  · skip
    have hkn : k < its.length := by omega
    obtain ⟨it, hit⟩ : ∃ x, its[k]? = some x := ⟨_, List.getElem?_eq_getElem hkn⟩
    have hmem := List.mem_of_getElem? hit
    obtain ⟨f0, f1, f2, f3⟩ := items_at (L := rls Es) hit (0 + ((k : Nat) : Int).toNat * 4) (by omega)
    obtain ⟨q1, q2, q3, q4, q5⟩ := cmpI_ok (its.take k) fun i hi => hs i (List.mem_of_mem_take hi)
    have eT : its.take (k + 1) = its.take k ++ [it] := by rw [List.take_add_one, hit]; rfl
    have ec : cmpI (its.take (k + 1)) = pushI (cmpI (its.take k)) it := by rw [eT, cmpI_snoc]
    have hfl : (flatI (cmpI (its.take k))).length ≤ 1000000000 := by
      rw [q2]
      have : flatI its = flatI (its.take k) ++ flatI (its.drop k) := by rw [← flatI_append, List.take_append_drop]
      rw [this, List.length_append] at hlen
      omega
    have hpu := ct_pushI (x := it) (l := cmpI (its.take k)) (p := p1) (c := c1') (L := rls Es) hE (by have := List.length_take_le k its; omega) (fun y hy => by have h1 := times_le hfl y hy; have h2 := htl it hmem; omega)
    refine w_say (p := sl p c 172 4 its.length (itsC (rls Es) its)) (by ((repeat constructor); done)) (fun _ h => sl_form h (by omega)) ?_
    rintro ⟨g, rfl⟩
    refine w_skip (aT (w_seq (w_block (w_seq (wR ?_)))))
    refine lY (y_indexAddr rfl rfl (hE.t rfl) (by omega) (by omega)) rfl ?_
    apply lY
    · (apply y_load_agg rfl (hE.t rfl) rfl; (repeat (first | rfl | assumption | constructor)); done)
    · rfl
    apply lL (by kernel_rfl) rfl
    refine ld_alloc (hE.t rfl) (fun b6 => ?_)
    apply lL (by kernel_rfl) rfl
    (first | (apply ld_store rfl rfl (hE.t rfl) rfl; (focus ((repeat constructor); done)); (focus rfl); (focus (exact Nat.le_of_ble_eq_true rfl))) | (apply ld_store_sl rfl rfl (hE.t rfl) rfl; (focus ((repeat constructor); done)); (focus rfl); (focus (first | omega | (simp only [cellsL, length_setMany, List.length_cons, List.length_nil]; omega)))))
    refine l_nil (aT (wR ?_))
    refine lY (yM rfl) rfl ?_
    apply lY
    · (apply y_load_agg rfl (hE.t rfl) rfl; (repeat (first | rfl | assumption | constructor)); done)
    · rfl
    apply lL (by kernel_rfl) rfl
    apply ld_call (hpu) rfl (hE.f (by kernel_rfl))
    · ((repeat constructor); done)
    rintro _ _ ⟨p', c', rfl, rfl⟩
    rw [← ec]
    simp only [List.cons_append, List.nil_append]
    refine lY (yA rfl) rfl ?_
    refine l_nil (a_block (aT (wR ?_)))
    refine lY (y_add rfl rfl (by omega) (by omega)) rfl ?_
    refine lY (yM rfl) rfl ?_
    refine l_nil ?_
    refine wa_eq 17 (.int .i64 ((k + 1 : Nat) : Int)) rfl (int_eq (by omega)) ?_
    refine a_round (ι := MrG) (j := ⟨k + 1, p', c'⟩) (by show k + 1 ≤ its.length; omega) (by show its.length - (k + 1) < its.length - k; omega) ⟨rfl, rfl, rfl, rfl, rfl, trivial⟩ ?_
    (apply ent; (repeat constructor); done)
  skip
  obtain rfl : k = its.length := by omega
  rw [List.take_of_length_le (Nat.le_refl _)]
  obtain ⟨l, hl⟩ : ∃ l, l = cmpI its := ⟨_, rfl⟩
  rw [← hl] at c1 c2 c3 c4 c5 ⊢
  have hll : l.length ≤ 1000000000 := by omega
  have hflat := flat_prI c1
  have hprl : ∀ q, (prI (l.take q)).length ≤ q := fun q => by simp [prI]; omega
  have hlid : ∀ it ∈ l, 1 ≤ it.id ∧ it.id ≤ (rls Es).length := fun it hit => hids it.id (by rw [← c2]; exact it_mem hit (c1 it hit).2)
  refine w_exit (a_then_exit (a_then_exit (a_block_exit (aT (w_seq (w_seq (wR ?_)))))))
  refine lY (yM rfl) rfl ?_
  refine lY (y_len_slice rfl (hE.t rfl)) rfl ?_
  refine lY (yM rfl) rfl ?_
  refine l_nil (aT (w_block ?_))
  skip
  refine w_loop (fun x : MsG => [(0, .pointer (some ⟨S, 0, none⟩)), (4, .slice p1 l.length c1'), (25, .slice p1 l.length c1'), (26, .int .i64 (l.length : Nat)), (27, .int .i64 (x.k : Nat))]) (fun x => [cells pp [.pointer (some ⟨s, 0, none⟩), .pointer (some ⟨tb, 0, none⟩)] 59, tabP tb s (rls (Es ++ x.M)), storeP s most (Es ++ x.M), cells S cs 127, sl p1 c1' 172 4 l.length (itsC (rls (Es ++ x.M)) (onesI x.out ++ l.drop x.k)), R]) (fun x => l.length - x.k)
    (fun x => x.k ≤ l.length ∧ x.out.length = x.k ∧ x.M.length + x.k ≤ tsum (prI (l.take x.k)) ∧ Rns (rls (Es ++ x.M)) (prI (l.take x.k)) x.out ∧ x.M.length ≤ hvy (l.take x.k)) ⟨0, [], []⟩ ⟨Nat.zero_le _, rfl, Nat.le_refl _, .nil, Nat.zero_le _⟩ ⟨rfl, rfl, rfl, rfl, rfl, trivial⟩ ?_ ?_
  · rw [List.append_nil]
    (apply ent; (repeat constructor); done)
  rintro ⟨k, M, out⟩ ⟨hk, hok, hM, hrn, hhv⟩
  simp only at hk hok hM hrn hhv ⊢
  have hol : ∀ q, (onesI out ++ l.drop q).length = k + (l.length - q) := fun q => by simp [onesI, hok]
  skip
  refine w_seq (wR ?_)
  refine lY (y_lt rfl rfl) rfl ?_
  refine l_nil (aT (w_seq ?_))
  refine w_cond_d rfl (fun hlt2 => ?_) (fun hlt2 => ?_)
  · skip
    have hkn : k < l.length := by omega
    obtain ⟨it, hit⟩ : ∃ x, l[k]? = some x := ⟨_, List.getElem?_eq_getElem hkn⟩
    have hmem := List.mem_of_getElem? hit
    obtain ⟨hnx, htm⟩ := c1 it hmem
    obtain ⟨hi1, hi2⟩ := hlid it hmem
    have eT : l.take (k + 1) = l.take k ++ [it] := by rw [List.take_add_one, hit]; rfl
    have eP : prI (l.take (k + 1)) = prI (l.take k) ++ [(it.id, it.times)] := by rw [eT]; simp [prI]
    have eS : tsum (prI (l.take (k + 1))) = tsum (prI (l.take k)) + it.times := by rw [eP, tsum_append]; rfl
    have eD := drop_oneI hit
    have hat : (onesI out ++ l.drop k)[k]? = some it := by
      rw [List.getElem?_append_right (by simp [onesI, hok]), eD]
      simp [onesI, hok]
    obtain ⟨f0, f1, f2, f3⟩ := items_at (L := rls (Es ++ M)) hat (0 + ((k : Nat) : Int).toNat * 4) (by omega)
    refine w_say (p := sl p1 c1' 172 4 l.length (itsC (rls (Es ++ M)) (onesI out ++ l.drop k))) (by ((repeat constructor); done)) (fun _ h => sl_form h (by omega)) ?_
    rintro ⟨g, rfl⟩
    refine w_say (p := storeP s most (Es ++ M)) (by ((repeat constructor); done)) (fun _ h => storeP_says h) ?_
    rintro ⟨hwf, htx, -, -⟩
    refine w_skip (aT (w_seq (w_block (w_seq (wR ?_)))))
    refine lY (yM rfl) rfl ?_
    refine lY (y_indexAddr rfl rfl (hE.t rfl) (by omega) (by omega)) rfl ?_
    apply lY
    · (apply y_load_agg rfl (hE.t rfl) rfl; (repeat (first | rfl | assumption | constructor)); done)
    · rfl
    apply lL (by kernel_rfl) rfl
    refine ld_alloc (hE.t rfl) (fun b8 => ?_)
    refine lY (yA rfl) rfl ?_
    apply lL (by kernel_rfl) rfl
    (first | (apply ld_store rfl rfl (hE.t rfl) rfl; (focus ((repeat constructor); done)); (focus rfl); (focus (exact Nat.le_of_ble_eq_true rfl))) | (apply ld_store_sl rfl rfl (hE.t rfl) rfl; (focus ((repeat constructor); done)); (focus rfl); (focus (first | omega | (simp only [cellsL, length_setMany, List.length_cons, List.length_nil]; omega)))))
    refine l_nil (aT (w_seq (w_seq (wR ?_))))
    refine lY (yF rfl (hE.t rfl) rfl) rfl ?_
    apply lY
    · (apply y_load rfl (hE.t rfl) rfl; (repeat (first | rfl | assumption | constructor)); done)
    · rfl
    refine lY (y_eq rfl rfl) rfl ?_
    refine l_nil (aT ?_)
    refine w_cond_d rfl (fun h1 => ?_) (fun h1 => ?_)
    · skip
      have ht1 : it.times = 1 := by omega
      have eit : it = ⟨it.id, 0, 1⟩ := by
        obtain ⟨a, b, d⟩ := it
        simp only at hnx ht1
        subst hnx ht1
        rfl
      refine w_exit (a_then_exit (a_block_exit (aT (wR ?_))))
      refine lY (y_add rfl rfl (by omega) (by omega)) rfl ?_
      refine lY (yM rfl) rfl ?_
      refine l_nil ?_
      refine wa_eq 27 (.int .i64 ((k + 1 : Nat) : Int)) rfl (int_eq (by omega)) ?_
      refine a_round (ι := MsG) (j := ⟨k + 1, M, out ++ [it.id]⟩) ⟨hkn, by simp [hok], by show M.length + (k + 1) ≤ _; rw [eS]; omega, by show Rns _ (prI (l.take (k + 1))) _; rw [eP]; exact .snoc hrn (.inl ⟨ht1, rfl⟩), by show M.length ≤ hvy (l.take (k + 1)); rw [eT, hvy_append]; omega⟩ (by show l.length - (k + 1) < l.length - k; omega) ⟨rfl, rfl, rfl, rfl, rfl, trivial⟩ ?_
      have ecur : onesI (out ++ [it.id]) ++ l.drop (k + 1) = onesI out ++ l.drop k := by rw [eD]; conv => rhs; rw [eit]
                                                                                         simp [onesI]
      rw [ecur]
      (apply ent; (repeat constructor); done)
    · skip
      have ht2 : 2 ≤ it.times := by omega
      obtain ⟨i, hi⟩ : ∃ i, it.id = i + 1 := ⟨it.id - 1, by omega⟩
      have hil2 : i < Es.length := by rw [rls_length] at hi2; omega
      have hEi : (Es ++ M)[i]? = some Es[i] := by rw [List.getElem?_append_left (by omega), List.getElem?_eq_getElem (by omega)]
      have hfl : flatI its = flatI (l.take k) ++ List.replicate it.times it.id ++ flatI (l.drop (k + 1)) := by
        rw [← c2]
        conv => lhs; rw [← List.take_append_drop k l, eD, flatI_append, flatI_cons, itF_sng hnx]
        rw [List.append_assoc]
      have hln := hrun _ _ _ _ hfl
      have hlt3 : (Es[i]).t.length * it.times ≤ maxLength := by
        rw [htx i _ hEi, rls_append, txt_ext _ (by rw [rls_length]; omega), ← hi]
        exact hln
      have htk : tsum (prI (l.take (k + 1))) ≤ (flatI its).length := by
        rw [← c2, ← hflat, flat_length]
        have : prI l = prI (l.take (k + 1)) ++ prI (l.drop (k + 1)) := by
          unfold prI
          rw [← List.map_append, List.take_append_drop]
        rw [this, tsum_append]
        omega
      have hr : (Es ++ M).length < most := by simp; omega
      have hpw := ct_power (s := s) (most := most) hE hEi ht2 hlt3 hr
      rw [← hi] at hpw
      refine w_skip (aT ?_)
      refine w_seq ?_
      refine w_held ([cells pp [.pointer (some ⟨s, 0, none⟩), .pointer (some ⟨tb, 0, none⟩)] 59, cells S cs 127, cells b8 [.int .i64 (it.id : Nat), .int .i64 (it.next : Nat), .int .u64 (key (rls (Es ++ M)) it.id : Nat), .int .i64 (it.times : Nat)] 172]) ?_ ?_
      · (apply ent; (repeat constructor); done)
      apply d_take 0 rfl
      · exact yM rfl
      · with_reducible (repeat (first | exact cB | apply cT | apply cK))
      · kernel_rfl
      · rfl
      apply d_take 1 rfl
      · exact y_nilCheck rfl
      · with_reducible (repeat (first | exact cB | apply cT | apply cK))
      · kernel_rfl
      · rfl
      apply d_take 2 rfl
      · exact yF rfl (hE.t rfl) rfl
      · with_reducible (repeat (first | exact cB | apply cT | apply cK))
      · kernel_rfl
      · rfl
      apply d_take 3 rfl
      · (apply y_load rfl (hE.t rfl) rfl; (repeat (first | rfl | assumption | constructor)); done)
      · with_reducible (repeat (first | exact cB | apply cT | apply cK))
      · kernel_rfl
      · rfl
      apply d_take 5 rfl
      · exact yF rfl (hE.t rfl) rfl
      · with_reducible (repeat (first | exact cB | apply cT | apply cK))
      · kernel_rfl
      · rfl
      apply d_take 6 rfl
      · (apply y_load rfl (hE.t rfl) rfl; (repeat (first | rfl | assumption | constructor)); done)
      · with_reducible (repeat (first | exact cB | apply cT | apply cK))
      · kernel_rfl
      · rfl
      apply d_take 7 rfl
      · exact yF rfl (hE.t rfl) rfl
      · with_reducible (repeat (first | exact cB | apply cT | apply cK))
      · kernel_rfl
      · rfl
      apply d_take 8 rfl
      · (apply y_load rfl (hE.t rfl) rfl; (repeat (first | rfl | assumption | constructor)); done)
      · with_reducible (repeat (first | exact cB | apply cT | apply cK))
      · kernel_rfl
      · rfl
      apply d_loud 4 rfl (by kernel_rfl) rfl
      apply ld_call (ct_Store hE) rfl (hE.f (by kernel_rfl))
      · ((repeat constructor); done)
      rintro _ _ ⟨rfl, rfl⟩
      simp only [List.cons_append, List.nil_append]
      refine ⟨by (apply ent; (repeat constructor); done), ?_⟩
      apply d_loud 9 rfl (by kernel_rfl) rfl
      apply ld_call (hpw) rfl (hE.f (by kernel_rfl))
      · ((repeat constructor); done)
      rintro _ _ ⟨M2, id, rfl, hM2, hid, hrl, rfl⟩
      obtain ⟨j, rfl⟩ : ∃ j, id = j + 1 := ⟨id - 1, by omega⟩
      rw [Nat.add_sub_cancel] at hrl
      have hjl : j < (Es ++ M ++ M2).length := by have := (List.getElem?_eq_some_iff.1 hrl).1; rwa [rls_length] at this
      simp only [List.cons_append, List.nil_append]
      refine ⟨by (apply ent; (repeat constructor); done), ?_⟩
      apply d_take 10 rfl
      · exact yM rfl
      · with_reducible (repeat (first | exact cB | apply cT | apply cK))
      · kernel_rfl
      · rfl
      apply d_take 11 rfl
      · exact y_extract rfl rfl
      · with_reducible (repeat (first | exact cB | apply cT | apply cK))
      · kernel_rfl
      · rfl
      apply d_take 12 rfl
      · exact y_extract rfl rfl
      · with_reducible (repeat (first | exact cB | apply cT | apply cK))
      · kernel_rfl
      · rfl
      apply d_take 13 rfl
      · exact yA rfl
      · with_reducible (repeat (first | exact cB | apply cT | apply cK))
      · kernel_rfl
      · rfl
      apply d_take 14 rfl
      · exact yA rfl
      · with_reducible (repeat (first | exact cB | apply cT | apply cK))
      · kernel_rfl
      · rfl
      refine d_nil (by kernel_rfl) ?_
      refine aT ?_
      refine w_heap (ent_head (p := tabP tb s (rls (Es ++ M))) (p' := tabP tb s (rls (Es ++ M ++ M2))) (by ((repeat constructor); done)) (fun _ h => by rw [rls_append (Es ++ M)]; exact tabP_ext _ h)) ?_
      have hcur : ∀ x ∈ onesI out ++ l.drop k, x.id ≤ (rls (Es ++ M)).length := by
        intro x hx
        rcases List.mem_append.1 hx with h | h
        · obtain ⟨y, hy, rfl⟩ := List.mem_map.1 h
          refine hrn.le (fun q hq => ?_) y hy
          obtain ⟨z, hz, rfl⟩ := List.mem_map.1 hq
          have := (hlid z (List.mem_of_mem_take hz)).2
          rw [rls_append, List.length_append]
          simp only
          omega
        · have := (hlid x (List.mem_of_mem_drop h)).2
          rw [rls_append, List.length_append]
          omega
      have ecs : itsC (rls (Es ++ M)) (onesI out ++ l.drop k) = itsC (rls (Es ++ M ++ M2)) (onesI out ++ l.drop k) := by rw [rls_append (Es ++ M)]; exact (itsC_ext _ hcur).symm
      rw [ecs]
      rw [List.append_assoc] at hjl hrl ⊢
      refine w_seq (w_seq (wR ?_))
      refine lY (yM rfl) rfl ?_
      apply lY
      · (first | exact y_ok_ne rfl (hE.t rfl) | exact y_err_ne rfl (hE.t rfl))
      · rfl
      refine l_nil (aT ?_)
      refine w_cond_f rfl ?_
      refine w_skip (aT (w_seq (wR ?_)))
      refine lY (yM rfl) rfl ?_
      refine lY (y_nilCheck rfl) rfl ?_
      refine lY (yF rfl (hE.t rfl) rfl) rfl ?_
      apply lY
      · (apply y_load rfl (hE.t rfl) rfl; (repeat (first | rfl | assumption | constructor)); done)
      · rfl
      apply lL (by kernel_rfl) rfl
      apply ld_call (ct_Keys hE) rfl (hE.f (by kernel_rfl))
      · ((repeat constructor); done)
      rintro _ _ ⟨rfl, rfl⟩
      simp only [List.cons_append, List.nil_append]
      refine lY (yM rfl) rfl ?_
      apply lL (by kernel_rfl) rfl
      apply ld_call (ct_key hE hB hjl) rfl (hE.f (by kernel_rfl))
      · ((repeat constructor); done)
      rintro _ _ ⟨rfl, rfl⟩
      simp only [List.cons_append, List.nil_append]
      refine lY (yM rfl) rfl ?_
      refine lY (y_extract rfl rfl) rfl ?_
      refine lY (y_extract rfl rfl) rfl ?_
      refine lY (yA rfl) rfl ?_
      refine lY (yA rfl) rfl ?_
      refine l_nil (aT (w_seq (w_seq (wR ?_))))
      refine lY (yM rfl) rfl ?_
      apply lY
      · (first | exact y_ok_ne rfl (hE.t rfl) | exact y_err_ne rfl (hE.t rfl))
      · rfl
      refine l_nil (aT ?_)
      refine w_cond_f rfl ?_
      refine w_skip (aT (wR ?_))
      refine lY (yM rfl) rfl ?_
      refine lY (yM rfl) rfl ?_
      refine lY (yM rfl) rfl ?_
      refine lY (yM rfl) rfl ?_
      apply lY
      · (first | exact y_build (hE.t rfl) rfl rfl | exact y_buildA (hE.t rfl) rfl rfl)
      · rfl
      refine lY (y_indexAddr rfl rfl (hE.t rfl) (by omega) (by omega)) rfl ?_
      apply lL (by kernel_rfl) rfl
      (first | (apply ld_store rfl rfl (hE.t rfl) rfl; (focus ((repeat constructor); done)); (focus rfl); (focus (exact Nat.le_of_ble_eq_true rfl))) | (apply ld_store_sl rfl rfl (hE.t rfl) rfl; (focus ((repeat constructor); done)); (focus rfl); (focus (first | omega | (simp only [cellsL, length_setMany, List.length_cons, List.length_nil]; omega)))))
      refine l_nil (a_block (aT (wR ?_)))
      refine lY (y_add rfl rfl (by omega) (by omega)) rfl ?_
      refine lY (yM rfl) rfl ?_
      refine l_nil ?_
      have est : setMany (itsC (rls (Es ++ (M ++ M2))) (onesI out ++ l.drop k)) (0 + ((k : Nat) : Int).toNat * 4) (cellsL (.agg #[.int .i64 ((j + 1 : Nat) : Int), .int .i64 0, .int .u64 (key (rls (Es ++ (M ++ M2))) (j + 1) : Nat), .int .i64 1])) = itsC (rls (Es ++ (M ++ M2))) (onesI (out ++ [j + 1]) ++ l.drop (k + 1)) := by
        rw [eD]
        have := items_set (L := rls (Es ++ (M ++ M2))) (a := onesI out) (b := l.drop (k + 1)) (y := it) (z := ⟨j + 1, 0, 1⟩) (0 + ((k : Nat) : Int).toNat * 4) (by simp [onesI, hok])
        have e2 : onesI (out ++ [j + 1]) ++ l.drop (k + 1) = onesI out ++ (⟨j + 1, 0, 1⟩ : It) :: l.drop (k + 1) := by simp [onesI]
        rw [e2, ← this]
        rfl
      refine wa_eq 27 (.int .i64 ((k + 1 : Nat) : Int)) rfl (int_eq (by omega)) ?_
      refine a_round (ι := MsG) (j := ⟨k + 1, M ++ M2, out ++ [j + 1]⟩) ⟨hkn, by simp [hok], by show (M ++ M2).length + (k + 1) ≤ _; rw [eS, List.length_append]; omega, ?_, by show (M ++ M2).length ≤ hvy (l.take (k + 1)); rw [eT, hvy_append, hvy_one, if_pos ht2, List.length_append]; omega⟩ (by show l.length - (k + 1) < l.length - k; omega) ⟨rfl, rfl, rfl, rfl, rfl, trivial⟩ ?_
      · show Rns _ (prI (l.take (k + 1))) _
        rw [eP]
        refine .snoc ?_ (.inr ⟨ht2, j, rfl, hrl⟩)
        rw [← List.append_assoc, rls_append (Es ++ M)]
        exact hrn.ext _
      · rw [← est]
        (apply ent; (repeat constructor); done)
  · skip
    obtain rfl : k = l.length := by omega
    rw [List.take_of_length_le (Nat.le_refl _)] at hM hrn hhv
    have hpc := pot_cmp its
    rw [← hl] at hpc
    unfold pot at hpc
    have hRg := rg_of_rns hrn (fun q hq => by obtain ⟨z, hz, rfl⟩ := List.mem_map.1 hq; exact (c1 z hz).2) c3
    rw [hflat, c2] at hRg
    have htf : tsum (prI l) = (flatI its).length := by rw [← flat_length, hflat, c2]
    refine w_exit (a_then_exit (a_then_exit (a_block_exit (aT (w_seq (wR ?_))))))
    refine lY (yM rfl) rfl ?_
    refine lY (yA rfl) rfl ?_
    refine lY (yA rfl) rfl ?_
    refine l_nil (aT (w_ret ?_))
    apply a_ret
    · rfl
    · (apply Rs.tmp rfl; apply Rs.tmp rfl; exact Rs.nil)
    · exact ⟨M, out, p1, c1', by rw [hok]; rfl, by omega, by unfold pot; omega, hRg, rfl⟩
    · rw [List.drop_of_length_le (Nat.le_refl _), List.append_nil, hok]
      (apply ent; (repeat constructor); done)
end Go.Proofs.YtekhbjlplfbdkaaGreatDoor
namespace Go.Proofs.YtekhbjlplfbdkaaGreatDoor
open Go Go.RowKit Sl Eg
set_option maxRecDepth 10000
variable {E : Env} {Es : List Ent} {pp tb s most S : Nat}
theorem flatI_map {its : List It} (hs : Sng its) (h1 : ∀ it ∈ its, it.times = 1) : flatI its = its.map (·.id) := by
  induction its with
  | nil => rfl
  | cons a l ih =>
    rw [flatI_cons, ih (fun i hi => hs i (by simp [hi])) (fun i hi => h1 i (by simp [hi])), itF_sng (hs a (by simp)).1, h1 a (by simp)]
    rfl
structure MpG where
  k : Nat
  M : List Ent
  l : List It
  p : Option Addr
  c : Nat
theorem push_ids {L : List Rl} {l : List It} {x : It} (h : ∀ i ∈ l, i.id ≤ L.length) (hx : x.id ≤ L.length) : ∀ i ∈ pushI l x, i.id ≤ L.length := by
  rcases List.eq_nil_or_concat l with rfl | ⟨a, y, rfl⟩
  · rw [pushI_nil]; intro i hi; simp at hi; subst hi; exact hx
  · rw [List.concat_eq_append] at *
    have hy := h y (by simp)
    rw [pushI_snoc]
    split <;> intro i hi
    · rcases List.mem_append.1 hi with hi | hi
      · exact h i (by simp [hi])
      · obtain rfl := List.mem_singleton.1 hi; exact hy
    · rcases List.mem_append.1 hi with hi | hi
      · exact h i hi
      · obtain rfl := List.mem_singleton.1 hi; exact hx
structure MpI (Es : List Ent) (c : Nat) (xs : List Nat) (x : MpG) : Prop where
  le : x.k ≤ xs.length
  pg : PgB (rls (Es ++ x.M)) c (xs.take x.k) (flatI x.l) (xs[x.k]?)
  sng : Sng x.l
  room : x.M.length + (flatI x.l).length ≤ x.k
  ids : ∀ i ∈ x.l, i.id ≤ (rls (Es ++ x.M)).length
theorem ct_mergePairs (hE : Seat E) (hB : Base E.w0) {cs : List Value} {its : List It} {p : Option Addr} {c lv : Nat} (h0 : cs[0]? = some (.pointer (some ⟨pp, 0, none⟩))) (h11 : cs[11]? = some (.slice p its.length c)) (hs : Sng its) (h1 : ∀ it ∈ its, it.times = 1) (hlen : (flatI its).length ≤ 1000000000)
    (hids : ∀ x ∈ flatI its, 1 ≤ x ∧ x ≤ (rls Es).length) (hadj : ∀ A x y B, flatI its = A ++ [x, y] ++ B → len (rls Es) x + len (rls Es) y ≤ maxLength) (hroom : Es.length + (flatI its).length ≤ most) (h2l : 2 ≤ lv) (hev : lv % 2 = 0) (hll : lv < 1099511627776) :
    Ct E 127 [.pointer (some ⟨S, 0, none⟩), .int .i64 (lv : Nat)] [cells pp [.pointer (some ⟨s, 0, none⟩), .pointer (some ⟨tb, 0, none⟩)] 59, tabP tb s (rls Es), storeP s most Es, cells S cs 127, sl p c 172 4 its.length (itsC (rls Es) its)]
      (fun v Q => ∃ M l p' c', v = .tuple #[.slice p' l.length c', .nilIface] ∧ M.length + (flatI l).length ≤ (flatI its).length ∧ Pg (rls (Es ++ M)) (num lv) (flatI its) (flatI l) ∧ Sng l ∧ Q = [cells pp [.pointer (some ⟨s, 0, none⟩), .pointer (some ⟨tb, 0, none⟩)] 59, tabP tb s (rls (Es ++ M)), storeP s most (Es ++ M), cells S cs 127, sl p' c' 172 4 l.length (itsC (rls (Es ++ M)) l)]) := by
  have hfm := flatI_map hs h1
  obtain ⟨xs, hxs⟩ : ∃ xs, xs = its.map (·.id) := ⟨_, rfl⟩
  rw [← hxs] at hfm
  rw [hfm] at hlen hids hadj hroom ⊢
  have hxl : xs.length = its.length := by rw [hxs]; simp
  refine fn_enter (hE.fn Tryz.func127) rfl rfl rfl (fun R => ?_)
  simp only [argsL, List.cons_append, List.nil_append]
  refine w_seq (wR ?_)
  refine lY (yA rfl) rfl ?_
  refine lY (yA rfl) rfl ?_
  refine l_nil (aT (w_seq (wR ?_)))
  refine lY (yA rfl) rfl ?_
  refine l_nil (aT (w_seq (wR ?_)))
  refine lY (yA rfl) rfl ?_
  refine l_nil (aT (w_seq (w_seq (wR ?_))))
  refine lY (yA rfl) rfl ?_
  refine l_nil (aT (w_block ?_))
  refine w_heap (ent_nil (t := 172) (sz := 4)) ?_
  skip
  refine w_loop (fun x : MpG => [(0, .pointer (some ⟨S, 0, none⟩)), (1, .int .i64 (lv : Nat)), (6, .slice x.p x.l.length x.c), (7, .nilIface), (8, .int .i64 (x.k : Nat))]) (fun x => [cells pp [.pointer (some ⟨s, 0, none⟩), .pointer (some ⟨tb, 0, none⟩)] 59, tabP tb s (rls (Es ++ x.M)), storeP s most (Es ++ x.M), cells S cs 127, sl p c 172 4 its.length (itsC (rls Es) its), sl x.p x.c 172 4 x.l.length (itsC (rls (Es ++ x.M)) x.l), R]) (fun x => xs.length - x.k) (MpI Es (num lv) xs) ⟨0, [], [], none, 0⟩ ⟨Nat.zero_le _, PgB.start _ _ _, fun i hi => by simp at hi, Nat.le_refl _, fun i hi => by simp at hi⟩ ⟨rfl, rfl, rfl, rfl, rfl, trivial⟩ ?_ ?_
  · rw [List.append_nil]
    (apply ent; (repeat constructor); done)
  rintro ⟨k, M, l, p1, c1⟩ hI
  have hk := hI.le
  have hpg := hI.pg
  have hsn := hI.sng
  have hrm := hI.room
  have hid := hI.ids
  simp only at hk hpg hsn hrm hid ⊢
  have hll2 : l.length ≤ 1000000000 := by
    have := its_len (its := l) fun i hi => (hsn i hi).2
    omega
  have htl : ∀ y ∈ l, y.times ≤ 1000000000 := times_le (by omega)
  skip
  refine w_seq (w_seq (wR ?_))
  refine lY (yM rfl) rfl ?_
  refine lY (yM rfl) rfl ?_
  refine lY (y_nilCheck rfl) rfl ?_
  refine lY (yF rfl (hE.t rfl) rfl) rfl ?_
  apply lY
  · (apply y_load rfl (hE.t rfl) rfl; (repeat (first | rfl | assumption | constructor)); done)
  · rfl
  refine lY (y_len_slice rfl (hE.t rfl)) rfl ?_
  refine lY (y_lt rfl rfl) rfl ?_
  refine l_nil (aT ?_)
  refine w_cond_d rfl (fun hlt => ?_) (fun hlt => ?_)
  · skip
    have hkn : k < its.length := by omega
    obtain ⟨it, hit⟩ : ∃ x, its[k]? = some x := ⟨_, List.getElem?_eq_getElem hkn⟩
    have hxk : xs[k]? = some it.id := by rw [hxs]; simp [hit]
    have hmem := List.mem_of_getElem? hit
    obtain ⟨hnx, _⟩ := hs it hmem
    have htm := h1 it hmem
    have hir := hids it.id (List.mem_of_getElem? hxk)
    obtain ⟨f0, f1, f2, f3⟩ := items_at (L := rls Es) hit (0 + ((k : Nat) : Int).toNat * 4) (by omega)
    rw [hnx] at f1
    rw [htm] at f3
    have eT : xs.take (k + 1) = xs.take k ++ [it.id] := by rw [List.take_add_one, hxk]; rfl
    have hkx : key (rls (Es ++ M)) it.id = key (rls Es) it.id := by rw [rls_append]; exact key_ext _ hir.2
    have eit : it = ⟨it.id, 0, 1⟩ := by
      obtain ⟨a, b, d⟩ := it
      simp only at hnx htm
      subst hnx htm
      rfl
    refine w_say (p := sl p c 172 4 its.length (itsC (rls Es) its)) (by ((repeat constructor); done)) (fun _ h => sl_form h (by omega)) ?_
    rintro ⟨g, rfl⟩
    refine w_say (p := storeP s most (Es ++ M)) (by ((repeat constructor); done)) (fun _ h => storeP_says h) ?_
    rintro ⟨hwf, htx, -, -⟩
    rw [hxk] at hpg
    have hpu := ct_pushI (x := ⟨it.id, 0, 1⟩) (l := l) (p := p1) (c := c1) (L := rls (Es ++ M)) hE (by omega) (fun y hy => by have h1 := htl y hy; show y.times + 1 ≤ _; omega)
    simp only at hpu
    rw [hkx] at hpu
    have hpush : ∀ nx, (∀ v, nx = some v → ¬ fitsAt (num lv) (key (rls (Es ++ M)) it.id) (key (rls (Es ++ M)) v)) → PgB (rls (Es ++ M)) (num lv) (xs.take (k + 1)) (flatI (pushI l ⟨it.id, 0, 1⟩)) nx := fun nx hnx2 => by
      rw [eT, pushI_flat hsn rfl]
      exact hpg.single hnx2
    refine w_skip (aT (w_seq (w_block (w_seq (wR ?_)))))
    refine lY (yM rfl) rfl ?_
    refine lY (y_nilCheck rfl) rfl ?_
    refine lY (yF rfl (hE.t rfl) rfl) rfl ?_
    apply lY
    · (apply y_load rfl (hE.t rfl) rfl; (repeat (first | rfl | assumption | constructor)); done)
    · rfl
    refine lY (yM rfl) rfl ?_
    refine lY (y_indexAddr rfl rfl (hE.t rfl) (by omega) (by omega)) rfl ?_
    apply lY
    · (apply y_load_agg rfl (hE.t rfl) rfl; (repeat (first | rfl | assumption | constructor)); done)
    · rfl
    apply lL (by kernel_rfl) rfl
    refine ld_alloc (hE.t rfl) (fun b9 => ?_)
    apply lL (by kernel_rfl) rfl
    (first | (apply ld_store rfl rfl (hE.t rfl) rfl; (focus ((repeat constructor); done)); (focus rfl); (focus (exact Nat.le_of_ble_eq_true rfl))) | (apply ld_store_sl rfl rfl (hE.t rfl) rfl; (focus ((repeat constructor); done)); (focus rfl); (focus (first | omega | (simp only [cellsL, length_setMany, List.length_cons, List.length_nil]; omega)))))
    refine l_nil (aT ?_)
    refine w_seq (w_seq ?_)
    refine w_held ([cells S cs 127, sl (some ⟨g, 0, none⟩) c 172 4 its.length (itsC (rls Es) its), cells b9 [.int .i64 (it.id : Nat), .int .i64 ((0 : Nat) : Int), .int .u64 (key (rls Es) it.id : Nat), .int .i64 ((1 : Nat) : Int)] 172]) ?_ ?_
    · (apply ent; (repeat constructor); done)
    apply d_take 0 rfl
    · exact yM rfl
    · with_reducible (repeat (first | exact cB | apply cT | apply cK))
    · kernel_rfl
    · rfl
    apply d_take 1 rfl
    · exact y_add rfl rfl (by omega) (by omega)
    · with_reducible (repeat (first | exact cB | apply cT | apply cK))
    · kernel_rfl
    · rfl
    apply d_take 2 rfl
    · exact yM rfl
    · with_reducible (repeat (first | exact cB | apply cT | apply cK))
    · kernel_rfl
    · rfl
    apply d_take 3 rfl
    · exact y_nilCheck rfl
    · with_reducible (repeat (first | exact cB | apply cT | apply cK))
    · kernel_rfl
    · rfl
    apply d_take 4 rfl
    · exact yF rfl (hE.t rfl) rfl
    · with_reducible (repeat (first | exact cB | apply cT | apply cK))
    · kernel_rfl
    · rfl
    apply d_take 5 rfl
    · (apply y_load rfl (hE.t rfl) rfl; (repeat (first | rfl | assumption | constructor)); done)
    · with_reducible (repeat (first | exact cB | apply cT | apply cK))
    · kernel_rfl
    · rfl
    apply d_take 6 rfl
    · exact y_len_slice rfl (hE.t rfl)
    · with_reducible (repeat (first | exact cB | apply cT | apply cK))
    · kernel_rfl
    · rfl
    apply d_take 7 rfl
    · exact y_eq rfl rfl
    · with_reducible (repeat (first | exact cB | apply cT | apply cK))
    · kernel_rfl
    · rfl
    apply d_take 8 rfl
    · exact yM rfl
    · with_reducible (repeat (first | exact cB | apply cT | apply cK))
    · kernel_rfl
    · rfl
    refine d_split 34 rfl (fun h3 => ?_) (fun h3 => ?_)
    · skip
      have hlast : ∀ v, xs[k + 1]? = some v → ¬ fitsAt (num lv) (key (rls (Es ++ M)) it.id) (key (rls (Es ++ M)) v) := fun v hv => by
        rw [List.getElem?_eq_none (by omega)] at hv; cases hv
      refine d_off 9 rfl rfl rfl rfl (by with_reducible (repeat (first | exact cB | apply cT | apply cK))) (by kernel_rfl) rfl ?_
      refine d_off 10 rfl rfl rfl rfl (by with_reducible (repeat (first | exact cB | apply cT | apply cK))) (by kernel_rfl) rfl ?_
      refine d_off 11 rfl rfl rfl rfl (by with_reducible (repeat (first | exact cB | apply cT | apply cK))) (by kernel_rfl) rfl ?_
      refine d_off 12 rfl rfl rfl rfl (by with_reducible (repeat (first | exact cB | apply cT | apply cK))) (by kernel_rfl) rfl ?_
      refine d_off 13 rfl rfl rfl rfl (by with_reducible (repeat (first | exact cB | apply cT | apply cK))) (by kernel_rfl) rfl ?_
      refine d_off 14 rfl rfl rfl rfl (by with_reducible (repeat (first | exact cB | apply cT | apply cK))) (by kernel_rfl) rfl ?_
      refine d_off 15 rfl rfl rfl rfl (by with_reducible (repeat (first | exact cB | apply cT | apply cK))) (by kernel_rfl) rfl ?_
      refine d_off 16 rfl rfl rfl rfl (by with_reducible (repeat (first | exact cB | apply cT | apply cK))) (by kernel_rfl) rfl ?_
      refine d_off 17 rfl rfl rfl rfl (by with_reducible (repeat (first | exact cB | apply cT | apply cK))) (by kernel_rfl) rfl ?_
      refine d_off 18 rfl rfl rfl rfl (by with_reducible (repeat (first | exact cB | apply cT | apply cK))) (by kernel_rfl) rfl ?_
      refine d_off 19 rfl rfl rfl rfl (by with_reducible (repeat (first | exact cB | apply cT | apply cK))) (by kernel_rfl) rfl ?_
      refine d_off 20 rfl rfl rfl rfl (by with_reducible (repeat (first | exact cB | apply cT | apply cK))) (by kernel_rfl) rfl ?_
      refine d_off 21 rfl rfl rfl rfl (by with_reducible (repeat (first | exact cB | apply cT | apply cK))) (by kernel_rfl) rfl ?_
      refine d_off 22 rfl rfl rfl rfl (by with_reducible (repeat (first | exact cB | apply cT | apply cK))) (by kernel_rfl) rfl ?_
      apply d_take 23 rfl
      · (first | exact y_pick_t rfl rfl | exact y_pick_f rfl rfl)
      · with_reducible (repeat (first | exact cB | apply cT | apply cK))
      · kernel_rfl
      · rfl
      refine d_nil (by kernel_rfl) ?_
      refine aT ?_
      refine w_cond_t rfl ?_
      refine w_seq (wR ?_)
      refine lY (yM rfl) rfl ?_
      apply lY
      · (apply y_load_agg rfl (hE.t rfl) rfl; (repeat (first | rfl | assumption | constructor)); done)
      · rfl
      apply lL (by kernel_rfl) rfl
      apply ld_call (hpu) rfl (hE.f (by kernel_rfl))
      · ((repeat constructor); done)
      rintro _ _ ⟨p', c', rfl, rfl⟩
      simp only [List.cons_append, List.nil_append]
      refine lY (yA rfl) rfl ?_
      refine l_nil (aT (w_exit (a_then_exit (a_block_exit (aT (wR ?_))))))
      refine lY (yM rfl) rfl ?_
      refine lY (y_add rfl rfl (by omega) (by omega)) rfl ?_
      refine lY (yA rfl) rfl ?_
      refine l_nil ?_
      refine wa_eq 8 (.int .i64 ((k + 1 : Nat) : Int)) rfl (int_eq (by omega)) ?_
      refine a_round (ι := MpG) (j := ⟨k + 1, M, pushI l ⟨it.id, 0, 1⟩, p', c'⟩) ⟨by show k + 1 ≤ _; omega, hpush _ hlast, pushI_sng hsn ⟨rfl, Nat.le_refl _⟩, by show M.length + (flatI (pushI l ⟨it.id, 0, 1⟩)).length ≤ k + 1; rw [pushI_flat hsn rfl]; simp; omega, push_ids hid (by show it.id ≤ _; rw [rls_append, List.length_append]; omega)⟩ (by show xs.length - (k + 1) < xs.length - k; omega) ⟨rfl, rfl, rfl, rfl, rfl, trivial⟩ ?_
      (apply ent; (repeat constructor); done)
    · skip
      have hkn2 : k + 1 < its.length := by omega
      obtain ⟨y, hy⟩ : ∃ x, its[k + 1]? = some x := ⟨_, List.getElem?_eq_getElem hkn2⟩
      have hxk2 : xs[k + 1]? = some y.id := by rw [hxs]; simp [hy]
      have hyr := hids y.id (List.mem_of_getElem? hxk2)
      have hky : key (rls (Es ++ M)) y.id = key (rls Es) y.id := by rw [rls_append]; exact key_ext _ hyr.2
      obtain ⟨e0, e1, e2, e3⟩ := items_at (L := rls Es) hy (0 + (((k : Nat) : Int) + 1).toNat * 4) (by omega)
      apply d_on 9 rfl rfl rfl
      · exact yF rfl (hE.t rfl) rfl
      · with_reducible (repeat (first | exact cB | apply cT | apply cK))
      · kernel_rfl
      · rfl
      apply d_on 10 rfl rfl rfl
      · (apply y_load rfl (hE.t rfl) rfl; (repeat (first | rfl | assumption | constructor)); done)
      · with_reducible (repeat (first | exact cB | apply cT | apply cK))
      · kernel_rfl
      · rfl
      apply d_on 11 rfl rfl rfl
      · exact yM rfl
      · with_reducible (repeat (first | exact cB | apply cT | apply cK))
      · kernel_rfl
      · rfl
      apply d_on 12 rfl rfl rfl
      · exact y_nilCheck rfl
      · with_reducible (repeat (first | exact cB | apply cT | apply cK))
      · kernel_rfl
      · rfl
      apply d_on 13 rfl rfl rfl
      · exact yF rfl (hE.t rfl) rfl
      · with_reducible (repeat (first | exact cB | apply cT | apply cK))
      · kernel_rfl
      · rfl
      apply d_on 14 rfl rfl rfl
      · (apply y_load rfl (hE.t rfl) rfl; (repeat (first | rfl | assumption | constructor)); done)
      · with_reducible (repeat (first | exact cB | apply cT | apply cK))
      · kernel_rfl
      · rfl
      apply d_on 15 rfl rfl rfl
      · exact yM rfl
      · with_reducible (repeat (first | exact cB | apply cT | apply cK))
      · kernel_rfl
      · rfl
      apply d_on 16 rfl rfl rfl
      · exact y_add rfl rfl (by omega) (by omega)
      · with_reducible (repeat (first | exact cB | apply cT | apply cK))
      · kernel_rfl
      · rfl
      apply d_on 17 rfl rfl rfl
      · exact y_indexAddr rfl rfl (hE.t rfl) (by omega) (by omega)
      · with_reducible (repeat (first | exact cB | apply cT | apply cK))
      · kernel_rfl
      · rfl
      apply d_on 18 rfl rfl rfl
      · exact yF rfl (hE.t rfl) rfl
      · with_reducible (repeat (first | exact cB | apply cT | apply cK))
      · kernel_rfl
      · rfl
      apply d_on 19 rfl rfl rfl
      · (apply y_load rfl (hE.t rfl) rfl; (repeat (first | rfl | assumption | constructor)); done)
      · with_reducible (repeat (first | exact cB | apply cT | apply cK))
      · kernel_rfl
      · rfl
      apply d_on 20 rfl rfl rfl
      · exact yM rfl
      · with_reducible (repeat (first | exact cB | apply cT | apply cK))
      · kernel_rfl
      · rfl
      apply d_loud_on 21 rfl rfl rfl (by kernel_rfl) rfl
      apply ld_call (ct_fits hE h2l hev hll) rfl (hE.f (by kernel_rfl))
      · ((repeat constructor); done)
      rintro _ _ ⟨⟨d, rfl, hd⟩, rfl⟩
      simp only [List.cons_append, List.nil_append]
      refine ⟨by (apply ent; (repeat constructor); done), ?_⟩
      apply d_on 22 rfl rfl rfl
      · exact y_not rfl
      · with_reducible (repeat (first | exact cB | apply cT | apply cK))
      · kernel_rfl
      · rfl
      apply d_take 23 rfl
      · (first | exact y_pick_t rfl rfl | exact y_pick_f rfl rfl)
      · with_reducible (repeat (first | exact cB | apply cT | apply cK))
      · kernel_rfl
      · rfl
      refine d_nil (by kernel_rfl) ?_
      refine aT ?_
      skip
      cases d with
      | false =>
        have hnf : ∀ v, xs[k + 1]? = some v → ¬ fitsAt (num lv) (key (rls (Es ++ M)) it.id) (key (rls (Es ++ M)) v) := fun v hv hf => by
          rw [hxk2] at hv
          cases hv
          rw [hkx, hky] at hf
          exact absurd (hd.2 hf) (by simp)
        refine w_cond_t rfl ?_
        refine w_seq (wR ?_)
        refine lY (yM rfl) rfl ?_
        apply lY
        · (apply y_load_agg rfl (hE.t rfl) rfl; (repeat (first | rfl | assumption | constructor)); done)
        · rfl
        apply lL (by kernel_rfl) rfl
        apply ld_call (hpu) rfl (hE.f (by kernel_rfl))
        · ((repeat constructor); done)
        rintro _ _ ⟨p', c', rfl, rfl⟩
        simp only [List.cons_append, List.nil_append]
        refine lY (yA rfl) rfl ?_
        refine l_nil (aT (w_exit (a_then_exit (a_block_exit (aT (wR ?_))))))
        refine lY (yM rfl) rfl ?_
        refine lY (y_add rfl rfl (by omega) (by omega)) rfl ?_
        refine lY (yA rfl) rfl ?_
        refine l_nil ?_
        refine wa_eq 8 (.int .i64 ((k + 1 : Nat) : Int)) rfl (int_eq (by omega)) ?_
        refine a_round (ι := MpG) (j := ⟨k + 1, M, pushI l ⟨it.id, 0, 1⟩, p', c'⟩) ⟨by show k + 1 ≤ _; omega, hpush _ hnf, pushI_sng hsn ⟨rfl, Nat.le_refl _⟩, by show M.length + (flatI (pushI l ⟨it.id, 0, 1⟩)).length ≤ k + 1; rw [pushI_flat hsn rfl]; simp; omega, push_ids hid (by show it.id ≤ _; rw [rls_append, List.length_append]; omega)⟩ (by show xs.length - (k + 1) < xs.length - k; omega) ⟨rfl, rfl, rfl, rfl, rfl, trivial⟩ ?_
        (apply ent; (repeat constructor); done)
      | true =>
        have hft := hd.1 rfl
        rw [← hkx, ← hky] at hft
        have eT2 : xs.take (k + 2) = xs.take k ++ [it.id, y.id] := by rw [List.take_add_one, List.take_add_one, hxk, hxk2]; simp
        have hxd : xs = xs.take k ++ [it.id, y.id] ++ xs.drop (k + 2) := by rw [← eT2, List.take_append_drop]
        have hln := hadj _ _ _ _ hxd
        have hpp := ct_pushPair (Es := Es ++ M) (S := S) (cs := cs) (l := l) (x := it.id) (y := y.id) (t := 1) (p := p1) (c := c1) (pp := pp) (tb := tb) (s := s) (most := most) hE hB h0 (by omega) (fun i hi => by have := htl i hi; omega) hid ⟨hir.1, by rw [rls_append, List.length_append]; omega⟩ ⟨hyr.1, by rw [rls_append, List.length_append]; omega⟩ (by rw [rls_append, len_ext _ hir.2, len_ext _ hyr.2]; exact hln) (by simp; omega)
        skip
        refine w_cond_f rfl ?_
        refine w_skip (aT (w_seq (wR ?_)))
        refine lY (yM rfl) rfl ?_
        refine lY (y_add rfl rfl (by omega) (by omega)) rfl ?_
        refine lY (yA rfl) rfl ?_
        refine l_nil (aT ?_)
        refine w_seq ?_
        refine w_held ([cells S cs 127, sl (some ⟨g, 0, none⟩) c 172 4 its.length (itsC (rls Es) its), cells b9 [.int .i64 (it.id : Nat), .int .i64 ((0 : Nat) : Int), .int .u64 (key (rls Es) it.id : Nat), .int .i64 ((1 : Nat) : Int)] 172]) ?_ ?_
        · (apply ent; (repeat constructor); done)
        apply d_take 0 rfl
        · exact yM rfl
        · with_reducible (repeat (first | exact cB | apply cT | apply cK))
        · kernel_rfl
        · rfl
        apply d_take 1 rfl
        · exact yM rfl
        · with_reducible (repeat (first | exact cB | apply cT | apply cK))
        · kernel_rfl
        · rfl
        apply d_take 2 rfl
        · exact yF rfl (hE.t rfl) rfl
        · with_reducible (repeat (first | exact cB | apply cT | apply cK))
        · kernel_rfl
        · rfl
        apply d_take 3 rfl
        · (apply y_load rfl (hE.t rfl) rfl; (repeat (first | rfl | assumption | constructor)); done)
        · with_reducible (repeat (first | exact cB | apply cT | apply cK))
        · kernel_rfl
        · rfl
        apply d_take 4 rfl
        · exact yM rfl
        · with_reducible (repeat (first | exact cB | apply cT | apply cK))
        · kernel_rfl
        · rfl
        apply d_take 5 rfl
        · exact y_nilCheck rfl
        · with_reducible (repeat (first | exact cB | apply cT | apply cK))
        · kernel_rfl
        · rfl
        apply d_take 6 rfl
        · exact yF rfl (hE.t rfl) rfl
        · with_reducible (repeat (first | exact cB | apply cT | apply cK))
        · kernel_rfl
        · rfl
        apply d_take 7 rfl
        · (apply y_load rfl (hE.t rfl) rfl; (repeat (first | rfl | assumption | constructor)); done)
        · with_reducible (repeat (first | exact cB | apply cT | apply cK))
        · kernel_rfl
        · rfl
        apply d_take 8 rfl
        · exact yM rfl
        · with_reducible (repeat (first | exact cB | apply cT | apply cK))
        · kernel_rfl
        · rfl
        apply d_take 9 rfl
        · exact y_indexAddr rfl rfl (hE.t rfl) (by omega) (by omega)
        · with_reducible (repeat (first | exact cB | apply cT | apply cK))
        · kernel_rfl
        · rfl
        apply d_take 10 rfl
        · exact yF rfl (hE.t rfl) rfl
        · with_reducible (repeat (first | exact cB | apply cT | apply cK))
        · kernel_rfl
        · rfl
        apply d_take 11 rfl
        · (apply y_load rfl (hE.t rfl) rfl; (repeat (first | rfl | assumption | constructor)); done)
        · with_reducible (repeat (first | exact cB | apply cT | apply cK))
        · kernel_rfl
        · rfl
        apply d_loud 12 rfl (by kernel_rfl) rfl
        apply ld_call (hpp) rfl (hE.f (by kernel_rfl))
        · ((repeat constructor); done)
        rintro _ _ ⟨M2, j, p', c', rfl, hM2, hrl, rfl⟩
        rw [List.append_assoc] at hrl ⊢
        simp only [List.cons_append, List.nil_append]
        refine ⟨by (apply ent; (repeat constructor); done), ?_⟩
        apply d_take 13 rfl
        · exact yM rfl
        · with_reducible (repeat (first | exact cB | apply cT | apply cK))
        · kernel_rfl
        · rfl
        apply d_take 14 rfl
        · exact y_extract rfl rfl
        · with_reducible (repeat (first | exact cB | apply cT | apply cK))
        · kernel_rfl
        · rfl
        apply d_take 15 rfl
        · exact y_extract rfl rfl
        · with_reducible (repeat (first | exact cB | apply cT | apply cK))
        · kernel_rfl
        · rfl
        apply d_take 16 rfl
        · exact yA rfl
        · with_reducible (repeat (first | exact cB | apply cT | apply cK))
        · kernel_rfl
        · rfl
        apply d_take 17 rfl
        · exact yA rfl
        · with_reducible (repeat (first | exact cB | apply cT | apply cK))
        · kernel_rfl
        · rfl
        refine d_nil (by kernel_rfl) ?_
        refine aT (w_seq (wR ?_))
        refine lY (yM rfl) rfl ?_
        apply lY
        · (first | exact y_ok_ne rfl (hE.t rfl) | exact y_err_ne rfl (hE.t rfl))
        · rfl
        refine l_nil (aT ?_)
        refine w_cond_f rfl ?_
        refine w_skip (a_block (aT (wR ?_)))
        refine lY (yM rfl) rfl ?_
        refine lY (y_add rfl rfl (by omega) (by omega)) rfl ?_
        refine lY (yA rfl) rfl ?_
        refine l_nil ?_
        refine wa_say (p := storeP s most (Es ++ (M ++ M2))) (by ((repeat constructor); done)) (fun _ h => storeP_says h) ?_
        rintro ⟨hwf2, -, -, -⟩
        have eL : rls (Es ++ (M ++ M2)) = rls (Es ++ M) ++ rls M2 := by rw [← List.append_assoc, rls_append]
        have hxsl : ∀ x ∈ xs, x ≤ (rls (Es ++ M)).length := fun x hx => by
          have := hids x hx
          rw [rls_append, List.length_append]
          omega
        have hpg2 : PgB (rls (Es ++ (M ++ M2))) (num lv) (xs.take k) (flatI l) (some it.id) := by
          rw [eL]
          exact hpg.ext _ (fun x hx => hxsl x (List.mem_of_mem_take hx)) (fun x hx => by cases hx; exact hxsl _ (List.mem_of_getElem? hxk))
        have hft2 : fitsAt (num lv) (key (rls (Es ++ (M ++ M2))) it.id) (key (rls (Es ++ (M ++ M2))) y.id) := by
          rw [eL, key_ext _ (hxsl _ (List.mem_of_getElem? hxk)), key_ext _ (hxsl _ (List.mem_of_getElem? hxk2))]
          exact hft
        have hjl : j + 1 ≤ (rls (Es ++ (M ++ M2))).length := (List.getElem?_eq_some_iff.1 hrl).1
        refine wa_eq 8 (.int .i64 ((k + 2 : Nat) : Int)) rfl (int_eq (by omega)) ?_
        refine a_round (ι := MpG) (j := ⟨k + 2, M ++ M2, pushI l ⟨j + 1, 0, 1⟩, p', c'⟩) ⟨by show k + 2 ≤ _; omega, ?_, pushI_sng hsn ⟨rfl, Nat.le_refl _⟩, ?_, push_ids (fun i hi => by have := hid i hi; show i.id ≤ (rls (Es ++ (M ++ M2))).length; rw [eL, List.length_append]; omega) hjl⟩ (by show xs.length - (k + 2) < xs.length - k; omega) ⟨rfl, rfl, rfl, rfl, rfl, trivial⟩ ?_
        · show PgB (rls (Es ++ (M ++ M2))) (num lv) (xs.take (k + 2)) (flatI (pushI l ⟨j + 1, 0, 1⟩)) _
          rw [eT2, pushI_flat hsn rfl]
          exact hpg2.pair hwf2 hft2 hrl
        · show (M ++ M2).length + (flatI (pushI l ⟨j + 1, 0, 1⟩)).length ≤ k + 2
          rw [pushI_flat hsn rfl]
          simp
          omega
        · (apply ent; (repeat constructor); done)
  · skip
    obtain rfl : k = its.length := by omega
    refine w_exit (a_then_exit (a_then_exit (a_block_exit (aT (w_seq (wR ?_))))))
    refine lY (yM rfl) rfl ?_
    refine lY (yA rfl) rfl ?_
    refine lY (yA rfl) rfl ?_
    refine l_nil (aT (w_ret ?_))
    apply a_ret
    · rfl
    · (apply Rs.tmp rfl; apply Rs.tmp rfl; exact Rs.nil)
    · refine ⟨M, l, p1, c1, rfl, by omega, ?_, hsn, rfl⟩
      have := hpg.1
      rwa [List.take_of_length_le (by omega)] at this
    · (apply ent; (repeat constructor); done)
end Go.Proofs.YtekhbjlplfbdkaaGreatDoor
namespace Go.Proofs.YtekhbjlplfbdkaaGreatDoor
open Go Go.RowKit Sl Eg
set_option maxRecDepth 10000
variable {E : Env} {Es : List Ent} {pp tb s most S : Nat}
def oddl (o : Nat) : List Nat := if o = 0 then [] else [o]
theorem st_flat {o a b : Nat} (hb : b ≠ 0) : ∀ t, [o] ++ itF ⟨a, b, t + 1⟩ = [o, a] ++ (List.replicate t [b, a]).flatten ++ [b]
  | 0 => by simp [itF, hb]
  | t + 1 => by
    have ih := st_flat (o := b) (a := a) hb t
    have e : itF ⟨a, b, t + 1 + 1⟩ = [a] ++ ([b] ++ itF ⟨a, b, t + 1⟩) := by
      simp [itF, hb, List.replicate_succ]
    rw [e, ih, List.replicate_succ, List.flatten_cons]
    simp
structure MtG where
  k : Nat
  M : List Ent
  l : List It
  p : Option Addr
  c : Nat
  o : Nat
  ok : Nat
  ot : Nat
  done : List Nat
structure MtI (Es : List Ent) (its : List It) (x : MtG) : Prop where
  le : x.k ≤ its.length
  pg : PgB (rls (Es ++ x.M)) 122 x.done (flatI x.l) ((oddl x.o ++ flatI (its.drop x.k)).head?)
  row : x.done ++ oddl x.o = flatI (its.take x.k)
  sng : Sng x.l
  room : x.M.length + (flatI x.l).length ≤ x.done.length
  ids : ∀ i ∈ x.l, i.id ≤ (rls (Es ++ x.M)).length
  odd : x.o ≠ 0 → x.ok = key (rls Es) x.o ∧ x.ot = 1
theorem MtI.oid {Es : List Ent} {its : List It} {x : MtG} (h : MtI Es its x) (hids : ∀ y ∈ flatI its, 1 ≤ y ∧ y ≤ (rls Es).length) : x.o ≤ (rls Es).length := by
  by_cases h0 : x.o = 0
  · omega
  · have hm : x.o ∈ flatI (its.take x.k) := by rw [← h.row, oddl, if_neg h0]; simp
    refine (hids x.o ?_).2
    have : flatI its = flatI (its.take x.k) ++ flatI (its.drop x.k) := by rw [← flatI_append, List.take_append_drop]
    rw [this]
    exact List.mem_append_left _ hm
theorem ct_mergeStretches (hE : Seat E) (hB : Base E.w0) {cs : List Value} {its : List It} {p : Option Addr} {c : Nat} (h0 : cs[0]? = some (.pointer (some ⟨pp, 0, none⟩))) (h11 : cs[11]? = some (.slice p its.length c)) (hit0 : ItT (rls Es) its) (hlen : (flatI its).length ≤ 1000000000)
    (hids : ∀ x ∈ flatI its, 1 ≤ x ∧ x ≤ (rls Es).length) (hadj : ∀ A x y B, flatI its = A ++ [x, y] ++ B → len (rls Es) x + len (rls Es) y ≤ maxLength) (hroom : Es.length + (flatI its).length ≤ most) :
    Ct E 126 [.pointer (some ⟨S, 0, none⟩)] [cells pp [.pointer (some ⟨s, 0, none⟩), .pointer (some ⟨tb, 0, none⟩)] 59, tabP tb s (rls Es), storeP s most Es, cells S cs 127, sl p c 172 4 its.length (itsC (rls Es) its)]
      (fun v Q => ∃ M l p' c', v = .tuple #[.slice p' l.length c', .nilIface] ∧ M.length + (flatI l).length ≤ (flatI its).length ∧ Pg (rls (Es ++ M)) 122 (flatI its) (flatI l) ∧ Sng l ∧ Q = [cells pp [.pointer (some ⟨s, 0, none⟩), .pointer (some ⟨tb, 0, none⟩)] 59, tabP tb s (rls (Es ++ M)), storeP s most (Es ++ M), cells S cs 127, sl p' c' 172 4 l.length (itsC (rls (Es ++ M)) l)]) := by
  have hil := its_len (its := its) fun it h => (hit0 it h).1
  refine fn_enter (hE.fn Tryz.func126) rfl rfl rfl (fun R => ?_)
  simp only [argsL, List.cons_append, List.nil_append]
  refine w_seq (wR ?_)
  refine lY (yA rfl) rfl ?_
  refine lY (yA rfl) rfl ?_
  refine l_nil (aT (w_seq (wR ?_)))
  refine lY (yA rfl) rfl ?_
  refine l_nil (aT (w_seq (wR ?_)))
  apply lL (by kernel_rfl) rfl
  refine ld_alloc (hE.t rfl) (fun b5 => ?_)
  refine l_nil (aT (w_seq (wR ?_)))
  refine lY (yA rfl) rfl ?_
  refine l_nil (aT (w_seq (w_seq (wR ?_))))
  refine lY (yM rfl) rfl ?_
  refine lY (y_nilCheck rfl) rfl ?_
  refine lY (yF rfl (hE.t rfl) rfl) rfl ?_
  apply lY
  · (apply y_load rfl (hE.t rfl) rfl; (repeat (first | rfl | assumption | constructor)); done)
  · rfl
  refine lY (y_len_slice rfl (hE.t rfl)) rfl ?_
  refine lY (yM rfl) rfl ?_
  refine l_nil (aT (w_block ?_))
  refine w_heap (ent_nil (t := 172) (sz := 4)) ?_
  skip
  refine w_loop (fun x : MtG => [(0, .pointer (some ⟨S, 0, none⟩)), (4, .slice x.p x.l.length x.c), (5, .pointer (some ⟨b5, 0, none⟩)), (6, .nilIface), (12, .slice p its.length c), (13, .int .i64 (its.length : Nat)), (14, .int .i64 (x.k : Nat))]) (fun x => [cells pp [.pointer (some ⟨s, 0, none⟩), .pointer (some ⟨tb, 0, none⟩)] 59, tabP tb s (rls (Es ++ x.M)), storeP s most (Es ++ x.M), cells S cs 127, sl p c 172 4 its.length (itsC (rls Es) its), sl x.p x.c 172 4 x.l.length (itsC (rls (Es ++ x.M)) x.l), cells b5 [.int .i64 (x.o : Nat), .int .i64 0, .int .u64 (x.ok : Nat), .int .i64 (x.ot : Nat)] 172, R]) (fun x => its.length - x.k) (MtI Es its) ⟨0, [], [], none, 0, 0, 0, 0, []⟩ ⟨Nat.zero_le _, PgB.start _ _ _, rfl, fun i hi => by simp at hi, Nat.le_refl _, fun i hi => by simp at hi, fun h => absurd rfl h⟩ ⟨rfl, rfl, rfl, rfl, rfl, rfl, rfl, trivial⟩ ?_ ?_
  · rw [List.append_nil]
    (apply ent; (repeat constructor); done)
  rintro ⟨k, M, l, p1, c1, o, ok, ot, done⟩ hI
  have hoid := hI.oid hids
  have hk := hI.le
  have hpg := hI.pg
  have hrow := hI.row
  have hsn := hI.sng
  have hrm := hI.room
  have hid := hI.ids
  have hodd := hI.odd
  simp only at hoid hk hpg hrow hsn hrm hid hodd ⊢
  have hfd : flatI its = flatI (its.take k) ++ flatI (its.drop k) := by rw [← flatI_append, List.take_append_drop]
  have hdl : done.length ≤ (flatI its).length := by rw [hfd, ← hrow]; simp
  have hll2 : l.length ≤ 1000000000 := by
    have := its_len (its := l) fun i hi => (hsn i hi).2
    omega
  have htl : ∀ y ∈ l, y.times ≤ 1000000000 := times_le (by omega)
  have hpu : o ≠ 0 → Ct E 146 [.slice p1 l.length c1, .agg #[.int .i64 (o : Nat), .int .i64 0, .int .u64 (ok : Nat), .int .i64 (ot : Nat)]] [sl p1 c1 172 4 l.length (itsC (rls (Es ++ M)) l)] (fun v Q => ∃ p' c', v = .slice p' (pushI l ⟨o, 0, 1⟩).length c' ∧ Q = [sl p' c' 172 4 (pushI l ⟨o, 0, 1⟩).length (itsC (rls (Es ++ M)) (pushI l ⟨o, 0, 1⟩))]) := fun hz => by
    obtain ⟨rfl, rfl⟩ := hodd hz
    have := ct_pushI (x := ⟨o, 0, 1⟩) (l := l) (p := p1) (c := c1) (L := rls (Es ++ M)) hE (by omega) (fun y hy => by have h1 := htl y hy; show y.times + 1 ≤ _; omega)
    simp only at this
    rw [show key (rls (Es ++ M)) o = key (rls Es) o by rw [rls_append]; exact key_ext _ hoid] at this
    exact this
  skip
  refine w_seq (wR ?_)
  refine lY (y_lt rfl rfl) rfl ?_
  refine l_nil (aT (w_seq ?_))
  refine w_cond_d rfl (fun hlt => ?_) (fun hlt => ?_)
  · skip
    have hkn : k < its.length := by omega
    obtain ⟨it, hit⟩ : ∃ x, its[k]? = some x := ⟨_, List.getElem?_eq_getElem hkn⟩
    have hmem := List.mem_of_getElem? hit
    obtain ⟨i1, i2, i3⟩ := hit0 it hmem
    have eD := drop_oneI hit
    have eT : its.take (k + 1) = its.take k ++ [it] := by rw [List.take_add_one, hit]; rfl
    have hir := hids it.id (it_mem hmem i1)
    obtain ⟨f0, f1, f2, f3⟩ := items_at (L := rls Es) hit (0 + ((k : Nat) : Int).toNat * 4) (by omega)
    have hhd : (flatI (its.drop k)).head? = some it.id := by rw [eD, flatI_cons, List.head?_append, itF_head i1]; rfl
    refine w_say (p := sl p c 172 4 its.length (itsC (rls Es) its)) (by ((repeat constructor); done)) (fun _ h => sl_form h (by omega)) ?_
    rintro ⟨g, rfl⟩
    refine w_skip (aT (w_seq (w_block (w_seq (wR ?_)))))
    refine lY (y_indexAddr rfl rfl (hE.t rfl) (by omega) (by omega)) rfl ?_
    apply lY
    · (apply y_load_agg rfl (hE.t rfl) rfl; (repeat (first | rfl | assumption | constructor)); done)
    · rfl
    apply lL (by kernel_rfl) rfl
    refine ld_alloc (hE.t rfl) (fun b8 => ?_)
    apply lL (by kernel_rfl) rfl
    (first | (apply ld_store rfl rfl (hE.t rfl) rfl; (focus ((repeat constructor); done)); (focus rfl); (focus (exact Nat.le_of_ble_eq_true rfl))) | (apply ld_store_sl rfl rfl (hE.t rfl) rfl; (focus ((repeat constructor); done)); (focus rfl); (focus (first | omega | (simp only [cellsL, length_setMany, List.length_cons, List.length_nil]; omega)))))
    refine l_nil (aT ?_)
    refine w_cut (fun x : MtG => [(0, .pointer (some ⟨S, 0, none⟩)), (4, .slice x.p x.l.length x.c), (5, .pointer (some ⟨b5, 0, none⟩)), (6, .nilIface), (8, .pointer (some ⟨b8, 0, none⟩)), (12, .slice (some ⟨g, 0, none⟩) its.length c), (13, .int .i64 (its.length : Nat)), (14, .int .i64 (k : Nat))]) (fun x => [cells pp [.pointer (some ⟨s, 0, none⟩), .pointer (some ⟨tb, 0, none⟩)] 59, tabP tb s (rls (Es ++ M)), storeP s most (Es ++ M), cells S cs 127, sl (some ⟨g, 0, none⟩) c 172 4 its.length (itsC (rls Es) its), sl x.p x.c 172 4 x.l.length (itsC (rls (Es ++ M)) x.l), cells b5 [.int .i64 (x.o : Nat), .int .i64 0, .int .u64 (x.ok : Nat), .int .i64 (x.ot : Nat)] 172, cells b8 [.int .i64 (it.id : Nat), .int .i64 (it.next : Nat), .int .u64 (key (rls Es) it.id : Nat), .int .i64 (it.times : Nat)] 172, R]) (fun x => MtI Es its x ∧ x.k = k ∧ x.M = M ∧ (x.o ≠ 0 → key (rls Es) x.o = key (rls Es) it.id)) ?_ ?_
    · skip
      refine w_seq (wR ?_)
      refine lY (yF rfl (hE.t rfl) rfl) rfl ?_
      apply lY
      · (apply y_load rfl (hE.t rfl) rfl; (repeat (first | rfl | assumption | constructor)); done)
      · rfl
      refine lY (y_ne rfl rfl) rfl ?_
      refine lY (yM rfl) rfl ?_
      refine l_split 21 rfl (fun h1 => ?_) (fun h1 => ?_)
      · skip
        have hoz : o ≠ 0 := by omega
        obtain ⟨q1, q2⟩ := hodd hoz
        refine l_on rfl rfl ?_
        refine lY (yF rfl (hE.t rfl) rfl) rfl ?_
        refine l_on rfl rfl ?_
        apply lY
        · (apply y_load rfl (hE.t rfl) rfl; (repeat (first | rfl | assumption | constructor)); done)
        · rfl
        refine l_on rfl rfl ?_
        refine lY (yF rfl (hE.t rfl) rfl) rfl ?_
        refine l_on rfl rfl ?_
        apply lY
        · (apply y_load rfl (hE.t rfl) rfl; (repeat (first | rfl | assumption | constructor)); done)
        · rfl
        refine l_on rfl rfl ?_
        refine lY (y_ne rfl rfl) rfl ?_
        apply lY
        · (first | exact y_pick_t rfl rfl | exact y_pick_f rfl rfl)
        · rfl
        refine l_nil (aT ?_)
        refine w_cond_d rfl (fun h2 => ?_) (fun h2 => ?_)
        · skip
          refine w_seq (wR ?_)
          refine lY (yM rfl) rfl ?_
          apply lY
          · (apply y_load_agg rfl (hE.t rfl) rfl; (repeat (first | rfl | assumption | constructor)); done)
          · rfl
          apply lL (by kernel_rfl) rfl
          apply ld_call (hpu hoz) rfl (hE.f (by kernel_rfl))
          · ((repeat constructor); done)
          rintro _ _ ⟨p', c', rfl, rfl⟩
          simp only [List.cons_append, List.nil_append]
          refine lY (yA rfl) rfl ?_
          refine l_nil (aT (wR ?_))
          refine lY (yF rfl (hE.t rfl) rfl) rfl ?_
          apply lL (by kernel_rfl) rfl
          (first | (apply ld_store rfl rfl (hE.t rfl) rfl; (focus ((repeat constructor); done)); (focus rfl); (focus (exact Nat.le_of_ble_eq_true rfl))) | (apply ld_store_sl rfl rfl (hE.t rfl) rfl; (focus ((repeat constructor); done)); (focus rfl); (focus (first | omega | (simp only [cellsL, length_setMany, List.length_cons, List.length_nil]; omega)))))
          refine l_nil ?_
          have hol : oddl o = [o] := if_neg hoz
          rw [hol] at hpg hrow
          refine a_cut (ι := MtG) ⟨k, M, pushI l ⟨o, 0, 1⟩, p', c', 0, ok, ot, done ++ [o]⟩ ⟨⟨hk, ?_, ?_, pushI_sng hsn ⟨rfl, Nat.le_refl _⟩, ?_, push_ids hid (by show o ≤ _; rw [rls_append, List.length_append]; omega), fun h => absurd rfl h⟩, rfl, rfl, fun h => absurd rfl h⟩ ⟨rfl, rfl, rfl, rfl, rfl, rfl, rfl, rfl, trivial⟩ ?_
          · show PgB (rls (Es ++ M)) 122 (done ++ [o]) (flatI (pushI l ⟨o, 0, 1⟩)) ((oddl 0 ++ flatI (its.drop k)).head?)
            rw [pushI_flat hsn rfl]
            refine PgB.single hpg fun v hv hf => ?_
            have e0 : oddl 0 = [] := rfl
            rw [e0, List.nil_append, hhd] at hv
            cases hv
            rw [fits_tie rfl, rls_append, key_ext _ hoid, key_ext _ hir.2] at hf
            omega
          · show done ++ [o] ++ oddl 0 = _
            rw [← hrow]
            simp [oddl]
          · show M.length + (flatI (pushI l ⟨o, 0, 1⟩)).length ≤ (done ++ [o]).length
            rw [pushI_flat hsn rfl]
            simp
            omega
          · (apply ent; (repeat constructor); done)
        · skip
          refine w_skip ?_
          refine a_cut (ι := MtG) ⟨k, M, l, p1, c1, o, ok, ot, done⟩ ⟨hI, rfl, rfl, fun _ => by show key (rls Es) o = _; omega⟩ ⟨rfl, rfl, rfl, rfl, rfl, rfl, rfl, rfl, trivial⟩ ?_
          (apply ent; (repeat constructor); done)
      · skip
        refine l_off rfl rfl rfl rfl (l_off rfl rfl rfl rfl (l_off rfl rfl rfl rfl (l_off rfl rfl rfl rfl (l_off rfl rfl rfl rfl ?_))))
        apply lY
        · (first | exact y_pick_t rfl rfl | exact y_pick_f rfl rfl)
        · rfl
        refine l_nil (aT ?_)
        refine w_cond_f rfl ?_
        refine w_skip ?_
        refine a_cut (ι := MtG) ⟨k, M, l, p1, c1, o, ok, ot, done⟩ ⟨hI, rfl, rfl, fun h => by exfalso; simp only at h; omega⟩ ⟨rfl, rfl, rfl, rfl, rfl, rfl, rfl, rfl, trivial⟩ ?_
        (apply ent; (repeat constructor); done)
    clear hI hpg hrow hsn hrm hid hodd hdl hll2 htl hpu hoid
    rintro ⟨k', M', l, p1, c1, o, ok, ot, done⟩ ⟨hI, hk', hM', hkey⟩
    simp only at hk' hM' hkey
    replace hk' := hk'.symm
    replace hM' := hM'.symm
    subst hk'
    subst hM'
    have hoid := hI.oid hids
    have hpg := hI.pg
    have hrow := hI.row
    have hsn := hI.sng
    have hrm := hI.room
    have hid := hI.ids
    have hodd := hI.odd
    simp only at hoid hpg hrow hsn hrm hid hodd ⊢
    rw [eD, flatI_cons] at hfd
    have hitl : 1 ≤ (itF it).length := by
      have := itF_head i1
      cases e : itF it with
      | nil => rw [e] at this; simp at this
      | cons q qs => simp
    have hdl : done.length + 1 ≤ (flatI its).length := by rw [hfd, ← hrow]; simp; omega
    have hll2 : l.length ≤ 1000000000 := by
      have := its_len (its := l) fun i hi => (hsn i hi).2
      omega
    have htl : ∀ y ∈ l, y.times ≤ 1000000000 := times_le (by omega)
    have htt : it.times ≤ 1000000000 := times_le hlen it hmem
    have hrt : (flatI (its.take (k + 1))) = flatI (its.take k) ++ itF it := by rw [eT, flatI_append, flatI_one]
    have bnd : ∀ {x : Nat}, x ≤ (rls Es).length → x ≤ (rls (Es ++ M)).length := fun h => by rw [rls_append, List.length_append]; omega
    have hspl : it.next ≠ 0 → itF it = [it.id, it.next] ++ (List.replicate (it.times - 1) [it.id, it.next]).flatten := fun hn => by
      obtain ⟨m, hm⟩ : ∃ m, it.times = m + 1 := ⟨it.times - 1, by omega⟩
      unfold itF
      rw [if_neg hn, hm, Nat.add_sub_cancel, List.replicate_succ, List.flatten_cons]
    have hnid : it.next ≠ 0 → 1 ≤ it.next ∧ it.next ≤ (rls Es).length := fun hn => hids it.next (by
      rw [hfd, hspl hn]
      simp)
    rw [List.head?_append, hhd] at hpg
    skip
    refine w_seq (w_block (w_seq (wR ?_)))
    refine lY (yF rfl (hE.t rfl) rfl) rfl ?_
    apply lY
    · (apply y_load rfl (hE.t rfl) rfl; (repeat (first | rfl | assumption | constructor)); done)
    · rfl
    refine lY (y_eq rfl rfl) rfl ?_
    refine lY (yM rfl) rfl ?_
    refine l_split 71 rfl (fun h4 => ?_) (fun h4 => ?_)
    · skip
      obtain rfl : o = 0 := by omega
      have hpg0 : PgB (rls (Es ++ M)) 122 done (flatI l) (some it.id) := hpg
      have hrow0 : done = flatI (its.take k) := by rw [← hrow]; simp [oddl]
      refine l_on rfl rfl ?_
      refine lY (yF rfl (hE.t rfl) rfl) rfl ?_
      refine l_on rfl rfl ?_
      apply lY
      · (apply y_load rfl (hE.t rfl) rfl; (repeat (first | rfl | assumption | constructor)); done)
      · rfl
      refine l_on rfl rfl ?_
      refine lY (y_eq rfl rfl) rfl ?_
      apply lY
      · (first | exact y_pick_t rfl rfl | exact y_pick_f rfl rfl)
      · rfl
      refine lY (yA rfl) rfl ?_
      refine l_nil (aT ?_)
      refine w_cond_d rfl (fun h5 => ?_) (fun h5 => ?_)
      · skip
        have hnx : it.next = 0 := by omega
        have htm := i2 hnx
        refine wR ?_
        apply lY
        · (apply y_load_agg rfl (hE.t rfl) rfl; (repeat (first | rfl | assumption | constructor)); done)
        · rfl
        apply lL (by kernel_rfl) rfl
        (first | (apply ld_store rfl rfl (hE.t rfl) rfl; (focus ((repeat constructor); done)); (focus rfl); (focus (exact Nat.le_of_ble_eq_true rfl))) | (apply ld_store_sl rfl rfl (hE.t rfl) rfl; (focus ((repeat constructor); done)); (focus rfl); (focus (first | omega | (simp only [cellsL, length_setMany, List.length_cons, List.length_nil]; omega)))))
        refine l_nil (a_block (aT (w_seq (wR ?_))))
        refine lY (yM rfl) rfl ?_
        apply lY
        · (first | exact y_ok_ne rfl (hE.t rfl) | exact y_err_ne rfl (hE.t rfl))
        · rfl
        refine l_nil (aT ?_)
        refine w_cond_f rfl ?_
        refine w_skip (a_block (aT (wR ?_)))
        refine lY (y_add rfl rfl (by omega) (by omega)) rfl ?_
        refine lY (yM rfl) rfl ?_
        refine l_nil ?_
        refine wa_eq 14 (.int .i64 ((k + 1 : Nat) : Int)) rfl (int_eq (by omega)) ?_
        refine a_round (ι := MtG) (j := ⟨k + 1, M, l, p1, c1, it.id, key (rls Es) it.id, it.times, done⟩) ⟨hkn, ?_, ?_, hsn, hrm, hid, fun _ => ⟨rfl, htm⟩⟩ (by show its.length - (k + 1) < its.length - k; omega) ⟨rfl, rfl, rfl, rfl, rfl, rfl, rfl, trivial⟩ ?_
        · show PgB _ 122 done (flatI l) ((oddl it.id ++ flatI (its.drop (k + 1))).head?)
          rw [oddl, if_neg (by omega)]
          exact hpg0
        · show done ++ oddl it.id = _
          rw [hrt, ← hrow0, itF_sng hnx, htm, oddl, if_neg (by omega)]
          rfl
        · rw [hnx]
          (apply ent; (repeat constructor); done)
      · skip
        have hnx : it.next ≠ 0 := by omega
        obtain ⟨n1, n2⟩ := hnid hnx
        have hln := hadj (flatI (its.take k)) it.id it.next ((List.replicate (it.times - 1) [it.id, it.next]).flatten ++ flatI (its.drop (k + 1))) (by rw [hfd, hspl hnx]; simp)
        have hpp := ct_pushPair (Es := Es ++ M) (S := S) (cs := cs) (l := l) (x := it.id) (y := it.next) (t := it.times) (p := p1) (c := c1) (pp := pp) (tb := tb) (s := s) (most := most) hE hB h0 (by omega) (fun i hi => by have := htl i hi; omega) hid ⟨hir.1, bnd hir.2⟩ ⟨n1, bnd n2⟩ (by rw [rls_append, len_ext _ hir.2, len_ext _ n2]; exact hln) (by simp; omega)
        refine w_seq (wR ?_)
        refine lY (yF rfl (hE.t rfl) rfl) rfl ?_
        apply lY
        · (apply y_load rfl (hE.t rfl) rfl; (repeat (first | rfl | assumption | constructor)); done)
        · rfl
        refine lY (y_eq rfl rfl) rfl ?_
        refine lY (yA rfl) rfl ?_
        refine l_nil (aT ?_)
        refine w_cond_d rfl (fun h6 => ?_) (fun h6 => ?_)
        · skip
          refine wR ?_
          refine lY (yM rfl) rfl ?_
          refine lY (yM rfl) rfl ?_
          refine lY (yF rfl (hE.t rfl) rfl) rfl ?_
          apply lY
          · (apply y_load rfl (hE.t rfl) rfl; (repeat (first | rfl | assumption | constructor)); done)
          · rfl
          refine lY (yF rfl (hE.t rfl) rfl) rfl ?_
          apply lY
          · (apply y_load rfl (hE.t rfl) rfl; (repeat (first | rfl | assumption | constructor)); done)
          · rfl
          refine lY (yF rfl (hE.t rfl) rfl) rfl ?_
          apply lY
          · (apply y_load rfl (hE.t rfl) rfl; (repeat (first | rfl | assumption | constructor)); done)
          · rfl
          apply lL (by kernel_rfl) rfl
          apply ld_call (hpp) rfl (hE.f (by kernel_rfl))
          · ((repeat constructor); done)
          rintro _ _ ⟨M2, j, p', c', rfl, hM2, hrl, rfl⟩
          rw [List.append_assoc] at hrl ⊢
          simp only [List.cons_append, List.nil_append]
          refine lY (yM rfl) rfl ?_
          refine lY (y_extract rfl rfl) rfl ?_
          refine lY (y_extract rfl rfl) rfl ?_
          refine lY (yA rfl) rfl ?_
          refine lY (yA rfl) rfl ?_
          refine l_nil (a_block (aT (w_seq (wR ?_))))
          refine lY (yM rfl) rfl ?_
          apply lY
          · (first | exact y_ok_ne rfl (hE.t rfl) | exact y_err_ne rfl (hE.t rfl))
          · rfl
          refine l_nil (aT ?_)
          refine w_cond_f rfl ?_
          refine w_skip (a_block (aT (wR ?_)))
          refine lY (y_add rfl rfl (by omega) (by omega)) rfl ?_
          refine lY (yM rfl) rfl ?_
          refine l_nil ?_
          refine wa_say (p := storeP s most (Es ++ (M ++ M2))) (by ((repeat constructor); done)) (fun _ h => storeP_says h) ?_
          rintro ⟨hwf2, -, -, -⟩
          have eL : rls (Es ++ (M ++ M2)) = rls (Es ++ M) ++ rls M2 := by rw [← List.append_assoc, rls_append]
          have hpg2 : PgB (rls (Es ++ (M ++ M2))) 122 done (flatI l) (some it.id) := by
            rw [eL]
            refine hpg0.ext _ (fun x hx => bnd (hids x ?_).2) (fun x hx => by cases hx; exact bnd hir.2)
            rw [hfd, ← hrow0]
            simp [hx]
          have hf2 : fitsAt 122 (key (rls (Es ++ (M ++ M2))) it.id) (key (rls (Es ++ (M ++ M2))) it.next) := by
            rw [fits_tie rfl, eL, key_ext _ (bnd hir.2), key_ext _ (bnd n2), rls_append, key_ext _ hir.2, key_ext _ n2]
            exact (i3 hnx).symm
          obtain ⟨m, hm⟩ : ∃ m, it.times = m + 1 := ⟨it.times - 1, by omega⟩
          have hprs := PgB.pairs hwf2 hf2 hrl m hpg2 (nxt := (oddl 0 ++ flatI (its.drop (k + 1))).head?)
          rw [← hm] at hprs
          have eit : itF it = (List.replicate it.times [it.id, it.next]).flatten := by unfold itF; rw [if_neg hnx]
          have hjl : j + 1 ≤ (rls (Es ++ (M ++ M2))).length := (List.getElem?_eq_some_iff.1 hrl).1
          refine wa_eq 14 (.int .i64 ((k + 1 : Nat) : Int)) rfl (int_eq (by omega)) ?_
          refine a_round (ι := MtG) (j := ⟨k + 1, M ++ M2, pushI l ⟨j + 1, 0, it.times⟩, p', c', 0, ok, ot, done ++ itF it⟩) ⟨hkn, ?_, ?_, pushI_sng hsn ⟨rfl, i1⟩, ?_, push_ids (fun i hi => by have := hid i hi; show i.id ≤ (rls (Es ++ (M ++ M2))).length; rw [eL, List.length_append]; omega) hjl, fun h => absurd rfl h⟩ (by show its.length - (k + 1) < its.length - k; omega) ⟨rfl, rfl, rfl, rfl, rfl, rfl, rfl, trivial⟩ ?_
          · show PgB _ 122 (done ++ itF it) (flatI (pushI l ⟨j + 1, 0, it.times⟩)) _
            rw [pushI_flat hsn rfl, eit]
            exact hprs
          · show done ++ itF it ++ oddl 0 = _
            rw [hrt, hrow0]
            simp [oddl]
          · show (M ++ M2).length + (flatI (pushI l ⟨j + 1, 0, it.times⟩)).length ≤ (done ++ itF it).length
            rw [pushI_flat hsn rfl, eit]
            have hrl2 : ∀ t, (List.replicate t [it.id, it.next]).flatten.length = 2 * t := fun t => by
              induction t with
              | zero => rfl
              | succ t ih => rw [List.replicate_succ, List.flatten_cons, List.length_append, ih]; simp; omega
            simp only [List.length_append, List.length_replicate, hrl2]
            omega
          · (apply ent; (repeat constructor); done)
        · exfalso; omega
    · skip
      have hoz : o ≠ 0 := by omega
      obtain ⟨rfl, rfl⟩ := hodd hoz
      have hkk := hkey hoz
      have hol : oddl o = [o] := if_neg hoz
      rw [hol] at hpg hrow
      have hpg1 : PgB (rls (Es ++ M)) 122 done (flatI l) (some o) := hpg
      obtain ⟨tl, htl2⟩ : ∃ tl, itF it = it.id :: tl := by
        have := itF_head i1
        cases e : itF it with
        | nil => rw [e] at this; simp at this
        | cons q qs => rw [e] at this; simp at this; subst this; exact ⟨qs, rfl⟩
      have ho1 : 1 ≤ o := by omega
      have hln := hadj done o it.id (tl ++ flatI (its.drop (k + 1))) (by rw [hfd, ← hrow, htl2]; simp)
      have hpp := ct_pushPair (Es := Es ++ M) (S := S) (cs := cs) (l := l) (x := o) (y := it.id) (t := 1) (p := p1) (c := c1) (pp := pp) (tb := tb) (s := s) (most := most) hE hB h0 (by omega) (fun i hi => by have := htl i hi; omega) hid ⟨ho1, bnd hoid⟩ ⟨hir.1, bnd hir.2⟩ (by rw [rls_append, len_ext _ hir.2, len_ext _ hoid]; exact hln) (by simp; omega)
      refine l_off rfl rfl rfl rfl (l_off rfl rfl rfl rfl (l_off rfl rfl rfl rfl ?_))
      apply lY
      · (first | exact y_pick_t rfl rfl | exact y_pick_f rfl rfl)
      · rfl
      refine lY (yA rfl) rfl ?_
      refine l_nil (aT ?_)
      refine w_cond_f rfl ?_
      refine w_seq (wR ?_)
      refine lY (yF rfl (hE.t rfl) rfl) rfl ?_
      apply lY
      · (apply y_load rfl (hE.t rfl) rfl; (repeat (first | rfl | assumption | constructor)); done)
      · rfl
      refine lY (y_eq rfl rfl) rfl ?_
      refine lY (yA rfl) rfl ?_
      refine l_nil (aT ?_)
      refine w_cond_d rfl (fun h6 => ?_) (fun h6 => ?_)
      · exfalso; omega
      · skip
        refine w_seq (wR ?_)
        refine lY (yM rfl) rfl ?_
        refine lY (yM rfl) rfl ?_
        refine lY (yF rfl (hE.t rfl) rfl) rfl ?_
        apply lY
        · (apply y_load rfl (hE.t rfl) rfl; (repeat (first | rfl | assumption | constructor)); done)
        · rfl
        refine lY (yF rfl (hE.t rfl) rfl) rfl ?_
        apply lY
        · (apply y_load rfl (hE.t rfl) rfl; (repeat (first | rfl | assumption | constructor)); done)
        · rfl
        apply lL (by kernel_rfl) rfl
        apply ld_call (hpp) rfl (hE.f (by kernel_rfl))
        · ((repeat constructor); done)
        rintro _ _ ⟨M2, j, p', c', rfl, hM2, hrl, rfl⟩
        rw [List.append_assoc] at hrl ⊢
        simp only [List.cons_append, List.nil_append]
        have eL : rls (Es ++ (M ++ M2)) = rls (Es ++ M) ++ rls M2 := by rw [← List.append_assoc, rls_append]
        have hjl : j + 1 ≤ (rls (Es ++ (M ++ M2))).length := (List.getElem?_eq_some_iff.1 hrl).1
        have bnd2 : ∀ {x : Nat}, x ≤ (rls Es).length → x ≤ (rls (Es ++ (M ++ M2))).length := fun h => by rw [rls_append, List.length_append]; omega
        have hsn2 : Sng (pushI l ⟨j + 1, 0, 1⟩) := pushI_sng hsn ⟨rfl, Nat.le_refl _⟩
        have hid2 := push_ids (x := ⟨j + 1, 0, 1⟩) (fun i hi => by have := hid i hi; show i.id ≤ (rls (Es ++ (M ++ M2))).length; rw [eL, List.length_append]; omega) hjl
        have hft : ∀ {N : List Ent}, fitsAt 122 (key (rls (Es ++ N)) o) (key (rls (Es ++ N)) it.id) := fun {N} => by
          rw [fits_tie rfl, rls_append, key_ext _ hoid, key_ext _ hir.2]
          exact hkk
        have hdn : ∀ x ∈ done, x ≤ (rls Es).length := fun x hx => (hids x (by rw [hfd, ← hrow]; simp [hx])).2
        have hpgx : PgB (rls (Es ++ (M ++ M2))) 122 done (flatI l) (some o) := by
          rw [eL]
          exact hpg1.ext _ (fun x hx => bnd (hdn x hx)) (fun x hx => by cases hx; exact bnd hoid)
        have hl2 : (flatI (pushI l ⟨j + 1, 0, 1⟩)) = flatI l ++ [j + 1] := pushI_flat hsn rfl
        refine l_say (p := storeP s most (Es ++ (M ++ M2))) (by ((repeat constructor); done)) (fun _ h => storeP_says h) ?_
        rintro ⟨hwf2, -, -, -⟩
        have hpg2 : ∀ nx, PgB (rls (Es ++ (M ++ M2))) 122 (done ++ [o, it.id]) (flatI (pushI l ⟨j + 1, 0, 1⟩)) nx := fun nx => by
          rw [hl2]
          exact hpgx.pair hwf2 hft hrl
        refine lY (yM rfl) rfl ?_
        refine lY (y_extract rfl rfl) rfl ?_
        refine lY (y_extract rfl rfl) rfl ?_
        refine lY (yA rfl) rfl ?_
        refine lY (yA rfl) rfl ?_
        refine l_nil (aT (w_seq (w_seq (wR ?_))))
        refine lY (yM rfl) rfl ?_
        apply lY
        · (first | exact y_ok_eq rfl (hE.t rfl) | exact y_err_eq rfl (hE.t rfl))
        · rfl
        refine lY (yM rfl) rfl ?_
        skip
        refine l_on rfl rfl ?_
        refine lY (yF rfl (hE.t rfl) rfl) rfl ?_
        refine l_on rfl rfl ?_
        apply lY
        · (apply y_load rfl (hE.t rfl) rfl; (repeat (first | rfl | assumption | constructor)); done)
        · rfl
        refine l_on rfl rfl ?_
        refine lY (y_gt rfl rfl) rfl ?_
        apply lY
        · (first | exact y_pick_t rfl rfl | exact y_pick_f rfl rfl)
        · rfl
        refine l_nil (aT ?_)
        refine w_cond_d rfl (fun h7 => ?_) (fun h7 => ?_)
        · skip
          have hnx : it.next ≠ 0 := fun e => by have := i2 e; omega
          obtain ⟨n1, n2⟩ := hnid hnx
          obtain ⟨m, hm⟩ : ∃ m, it.times = m + 2 := ⟨it.times - 2, by omega⟩
          have hlt2 : (flatI (pushI l ⟨j + 1, 0, 1⟩)).length ≤ 1000000000 := by rw [hl2]; simp; omega
          have htl3 := times_le hlt2
          have hll3 := its_len (its := pushI l ⟨j + 1, 0, 1⟩) fun i hi => (hsn2 i hi).2
          have hitf : itF it = [it.id] ++ [it.next, it.id] ++ ([it.next] ++ (List.replicate m [it.id, it.next]).flatten) := by
            unfold itF
            rw [if_neg hnx, hm, List.replicate_succ, List.replicate_succ, List.flatten_cons, List.flatten_cons]
            simp
          have hln2 := hadj (done ++ [o] ++ [it.id]) it.next it.id ([it.next] ++ (List.replicate m [it.id, it.next]).flatten ++ flatI (its.drop (k + 1))) (by rw [hfd, ← hrow, hitf]; simp)
          have hpp2 := ct_pushPair (Es := Es ++ (M ++ M2)) (S := S) (cs := cs) (l := pushI l ⟨j + 1, 0, 1⟩) (x := it.next) (y := it.id) (t := it.times - 1) (p := p') (c := c') (pp := pp) (tb := tb) (s := s) (most := most) hE hB h0 (by omega) (fun i hi => by have := htl3 i hi; omega) hid2 ⟨n1, bnd2 n2⟩ ⟨hir.1, bnd2 hir.2⟩ (by rw [rls_append, len_ext _ hir.2, len_ext _ n2]; exact hln2) (by
            have : done.length + 2 + 2 ≤ (flatI its).length := by rw [hfd, ← hrow, hitf]; simp; omega
            simp
            omega)
          refine wR ?_
          refine lY (yM rfl) rfl ?_
          refine lY (yM rfl) rfl ?_
          refine lY (yF rfl (hE.t rfl) rfl) rfl ?_
          apply lY
          · (apply y_load rfl (hE.t rfl) rfl; (repeat (first | rfl | assumption | constructor)); done)
          · rfl
          refine lY (yF rfl (hE.t rfl) rfl) rfl ?_
          apply lY
          · (apply y_load rfl (hE.t rfl) rfl; (repeat (first | rfl | assumption | constructor)); done)
          · rfl
          refine lY (yF rfl (hE.t rfl) rfl) rfl ?_
          apply lY
          · (apply y_load rfl (hE.t rfl) rfl; (repeat (first | rfl | assumption | constructor)); done)
          · rfl
          refine lY (y_sub rfl rfl (by omega) (by omega)) rfl ?_
          refine l_eq 58 (.int .i64 ((it.times - 1 : Nat) : Int)) rfl (int_eq (by omega)) ?_
          apply lL (by kernel_rfl) rfl
          apply ld_call (hpp2) rfl (hE.f (by kernel_rfl))
          · ((repeat constructor); done)
          rintro _ _ ⟨M3, j2, p'', c'', rfl, hM3, hrl2, rfl⟩
          rw [List.append_assoc] at hrl2 ⊢
          simp only [List.cons_append, List.nil_append]
          refine lY (yM rfl) rfl ?_
          refine lY (y_extract rfl rfl) rfl ?_
          refine lY (y_extract rfl rfl) rfl ?_
          refine lY (yA rfl) rfl ?_
          refine lY (yA rfl) rfl ?_
          refine l_nil (aT (wR ?_))
          refine lY (yF rfl (hE.t rfl) rfl) rfl ?_
          apply lY
          · (apply y_load rfl (hE.t rfl) rfl; (repeat (first | rfl | assumption | constructor)); done)
          · rfl
          refine lY (yF rfl (hE.t rfl) rfl) rfl ?_
          apply lY
          · (apply y_load rfl (hE.t rfl) rfl; (repeat (first | rfl | assumption | constructor)); done)
          · rfl
          apply lY
          · (first | exact y_build (hE.t rfl) rfl rfl | exact y_buildA (hE.t rfl) rfl rfl)
          · rfl
          apply lL (by kernel_rfl) rfl
          (first | (apply ld_store rfl rfl (hE.t rfl) rfl; (focus ((repeat constructor); done)); (focus rfl); (focus (exact Nat.le_of_ble_eq_true rfl))) | (apply ld_store_sl rfl rfl (hE.t rfl) rfl; (focus ((repeat constructor); done)); (focus rfl); (focus (first | omega | (simp only [cellsL, length_setMany, List.length_cons, List.length_nil]; omega)))))
          refine l_nil (a_block (aT (w_seq (wR ?_))))
          refine lY (yM rfl) rfl ?_
          apply lY
          · (first | exact y_ok_ne rfl (hE.t rfl) | exact y_err_ne rfl (hE.t rfl))
          · rfl
          refine l_nil (aT ?_)
          refine w_cond_f rfl ?_
          refine w_skip (a_block (aT (wR ?_)))
          refine lY (y_add rfl rfl (by omega) (by omega)) rfl ?_
          refine lY (yM rfl) rfl ?_
          refine l_nil ?_
          refine wa_say (p := storeP s most (Es ++ ((M ++ M2) ++ M3))) (by ((repeat constructor); done)) (fun _ h => storeP_says h) ?_
          rintro ⟨hwf3, -, -, -⟩
          have eL3 : rls (Es ++ ((M ++ M2) ++ M3)) = rls (Es ++ (M ++ M2)) ++ rls M3 := by rw [← List.append_assoc, rls_append]
          have hpg3 : PgB (rls (Es ++ ((M ++ M2) ++ M3))) 122 (done ++ [o, it.id]) (flatI (pushI l ⟨j + 1, 0, 1⟩)) (some it.next) := by
            rw [eL3]
            refine (hpg2 (some it.next)).ext _ (fun x hx => ?_) (fun x hx => by cases hx; exact bnd2 n2)
            rcases List.mem_append.1 hx with h | h
            · exact bnd2 (hdn x h)
            · simp at h
              rcases h with rfl | rfl
              · exact bnd2 hoid
              · exact bnd2 hir.2
          have hf3 : fitsAt 122 (key (rls (Es ++ ((M ++ M2) ++ M3))) it.next) (key (rls (Es ++ ((M ++ M2) ++ M3))) it.id) := by
            rw [fits_tie rfl, rls_append, key_ext _ hir.2, key_ext _ n2]
            exact i3 hnx
          have hprs := PgB.pairs hwf3 hf3 hrl2 m hpg3 (nxt := (oddl it.next ++ flatI (its.drop (k + 1))).head?)
          have hj2 : j2 + 1 ≤ (rls (Es ++ ((M ++ M2) ++ M3))).length := (List.getElem?_eq_some_iff.1 hrl2).1
          have hm1 : it.times - 1 = m + 1 := by omega
          have est := st_flat (o := o) (a := it.id) hnx (m + 1)
          have eit : (⟨it.id, it.next, m + 1 + 1⟩ : It) = it := by
            obtain ⟨a, b, d⟩ := it
            simp only at hm
            rw [hm]
          rw [eit] at est
          refine wa_eq 14 (.int .i64 ((k + 1 : Nat) : Int)) rfl (int_eq (by omega)) ?_
          refine a_round (ι := MtG) (j := ⟨k + 1, (M ++ M2) ++ M3, pushI (pushI l ⟨j + 1, 0, 1⟩) ⟨j2 + 1, 0, it.times - 1⟩, p'', c'', it.next, key (rls Es) it.id, 1, done ++ [o, it.id] ++ (List.replicate (m + 1) [it.next, it.id]).flatten⟩) ⟨hkn, ?_, ?_, pushI_sng hsn2 ⟨rfl, by show 1 ≤ it.times - 1; omega⟩, ?_, push_ids (fun i hi => by have := hid2 i hi; show i.id ≤ (rls (Es ++ ((M ++ M2) ++ M3))).length; rw [eL3, List.length_append]; omega) hj2, fun _ => ⟨(i3 hnx).symm, rfl⟩⟩ (by show its.length - (k + 1) < its.length - k; omega) ⟨rfl, rfl, rfl, rfl, rfl, rfl, rfl, trivial⟩ ?_
          · show PgB _ 122 _ (flatI (pushI (pushI l ⟨j + 1, 0, 1⟩) ⟨j2 + 1, 0, it.times - 1⟩)) _
            rw [pushI_flat hsn2 rfl, hm1]
            exact hprs
          · show done ++ [o, it.id] ++ (List.replicate (m + 1) [it.next, it.id]).flatten ++ oddl it.next = _
            rw [hrt, ← hrow, oddl, if_neg hnx, List.append_assoc done [o], est]
            simp
          · show ((M ++ M2) ++ M3).length + (flatI (pushI (pushI l ⟨j + 1, 0, 1⟩) ⟨j2 + 1, 0, it.times - 1⟩)).length ≤ _
            have hrl4 : ∀ t, (List.replicate t [it.next, it.id]).flatten.length = 2 * t := fun t => by
              induction t with
              | zero => rfl
              | succ t ih => rw [List.replicate_succ, List.flatten_cons, List.length_append, ih]; simp; omega
            rw [pushI_flat hsn2 rfl, hl2, hm1]
            simp only [List.length_append, List.length_replicate, hrl4, List.length_cons, List.length_nil]
            omega
          · (apply ent; (repeat constructor); done)
        · skip
          have htm : it.times = 1 := by omega
          refine w_skip (aT (wR ?_))
          refine lY (yF rfl (hE.t rfl) rfl) rfl ?_
          apply lY
          · (apply y_load rfl (hE.t rfl) rfl; (repeat (first | rfl | assumption | constructor)); done)
          · rfl
          refine lY (yF rfl (hE.t rfl) rfl) rfl ?_
          apply lY
          · (apply y_load rfl (hE.t rfl) rfl; (repeat (first | rfl | assumption | constructor)); done)
          · rfl
          apply lY
          · (first | exact y_build (hE.t rfl) rfl rfl | exact y_buildA (hE.t rfl) rfl rfl)
          · rfl
          apply lL (by kernel_rfl) rfl
          (first | (apply ld_store rfl rfl (hE.t rfl) rfl; (focus ((repeat constructor); done)); (focus rfl); (focus (exact Nat.le_of_ble_eq_true rfl))) | (apply ld_store_sl rfl rfl (hE.t rfl) rfl; (focus ((repeat constructor); done)); (focus rfl); (focus (first | omega | (simp only [cellsL, length_setMany, List.length_cons, List.length_nil]; omega)))))
          refine l_nil (a_block (aT (w_seq (wR ?_))))
          refine lY (yM rfl) rfl ?_
          apply lY
          · (first | exact y_ok_ne rfl (hE.t rfl) | exact y_err_ne rfl (hE.t rfl))
          · rfl
          refine l_nil (aT ?_)
          refine w_cond_f rfl ?_
          refine w_skip (a_block (aT (wR ?_)))
          refine lY (y_add rfl rfl (by omega) (by omega)) rfl ?_
          refine lY (yM rfl) rfl ?_
          refine l_nil ?_
          refine wa_eq 14 (.int .i64 ((k + 1 : Nat) : Int)) rfl (int_eq (by omega)) ?_
          refine a_round (ι := MtG) (j := ⟨k + 1, M ++ M2, pushI l ⟨j + 1, 0, 1⟩, p', c', it.next, key (rls Es) it.id, 1, done ++ [o, it.id]⟩) ⟨hkn, hpg2 _, ?_, hsn2, ?_, hid2, fun h => ⟨(i3 h).symm, rfl⟩⟩ (by show its.length - (k + 1) < its.length - k; omega) ⟨rfl, rfl, rfl, rfl, rfl, rfl, rfl, trivial⟩ ?_
          · show done ++ [o, it.id] ++ oddl it.next = _
            rw [hrt, ← hrow, oddl]
            unfold itF
            rw [htm]
            split <;> simp
          · show (M ++ M2).length + (flatI (pushI l ⟨j + 1, 0, 1⟩)).length ≤ (done ++ [o, it.id]).length
            rw [hl2]
            simp
            omega
          · (apply ent; (repeat constructor); done)
  · skip
    obtain rfl : k = its.length := by omega
    rw [List.drop_of_length_le (Nat.le_refl _)] at hpg
    rw [List.take_of_length_le (Nat.le_refl _)] at hrow
    refine w_exit (a_then_exit (a_then_exit (a_block_exit (aT (w_seq (w_seq (wR ?_)))))))
    refine lY (yF rfl (hE.t rfl) rfl) rfl ?_
    apply lY
    · (apply y_load rfl (hE.t rfl) rfl; (repeat (first | rfl | assumption | constructor)); done)
    · rfl
    refine lY (y_ne rfl rfl) rfl ?_
    refine l_nil (aT ?_)
    refine w_cond_d rfl (fun h8 => ?_) (fun h8 => ?_)
    · skip
      have hoz : o ≠ 0 := by omega
      have hol : oddl o = [o] := if_neg hoz
      rw [hol] at hpg hrow
      refine wR ?_
      refine lY (yM rfl) rfl ?_
      apply lY
      · (apply y_load_agg rfl (hE.t rfl) rfl; (repeat (first | rfl | assumption | constructor)); done)
      · rfl
      apply lL (by kernel_rfl) rfl
      apply ld_call (hpu hoz) rfl (hE.f (by kernel_rfl))
      · ((repeat constructor); done)
      rintro _ _ ⟨p', c', rfl, rfl⟩
      simp only [List.cons_append, List.nil_append]
      refine lY (yA rfl) rfl ?_
      refine l_nil (aT (w_seq (wR ?_)))
      refine lY (yM rfl) rfl ?_
      refine lY (yA rfl) rfl ?_
      refine lY (yA rfl) rfl ?_
      refine l_nil (aT (w_ret ?_))
      apply a_ret
      · rfl
      · (apply Rs.tmp rfl; apply Rs.tmp rfl; exact Rs.nil)
      · refine ⟨M, pushI l ⟨o, 0, 1⟩, p', c', rfl, ?_, ?_, pushI_sng hsn ⟨rfl, Nat.le_refl _⟩, rfl⟩
        · rw [pushI_flat hsn rfl, ← hrow]
          simp
          omega
        · rw [pushI_flat hsn rfl, ← hrow]
          exact (PgB.single hpg (nxt := none) fun v hv => by cases hv).1
      · (apply ent; (repeat constructor); done)
    · skip
      obtain rfl : o = 0 := by omega
      have hrow0 : done = flatI its := by rw [← hrow]; simp [oddl]
      refine w_skip (aT (w_seq (wR ?_)))
      refine lY (yM rfl) rfl ?_
      refine lY (yA rfl) rfl ?_
      refine lY (yA rfl) rfl ?_
      refine l_nil (aT (w_ret ?_))
      apply a_ret
      · rfl
      · (apply Rs.tmp rfl; apply Rs.tmp rfl; exact Rs.nil)
      · exact ⟨M, l, p1, c1, rfl, by rw [← hrow0]; exact hrm, by rw [← hrow0]; exact hpg.1, hsn, rfl⟩
      · (apply ent; (repeat constructor); done)
end Go.Proofs.YtekhbjlplfbdkaaGreatDoor
