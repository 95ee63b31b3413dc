import Derived.Test.YtlleicanafioaaaDoorQ33
set_option linter.all false
set_option maxHeartbeats 1000000
namespace Go.Proofs.YtlleicanafioaaaDoor
open Go Go.RowKit Sl Eg
set_option maxRecDepth 10000
section
variable {E : Env} {Es : List Ent} {pp tb s most S : Nat}
theorem qGl (L : List Rl) (a b : List It) : itsC L (a ++ b) = itsC L a ++ itsC L b := by simp [itsC]
theorem qMu {l : List It} {k : Nat} {x : It} (hx : l[k]? = some x) : l.drop k = x :: l.drop (k + 1) := by
 obtain ⟨h1, e1⟩ := List.getElem?_eq_some_iff.1 hx
 rw [List.drop_eq_getElem_cons h1, e1]
theorem qJr {L : List Rl} {its : List It} {k : Nat} {it : It} (h : its[k]? = some it) (o : Nat) (ho : o = k * 4) : (itsC L its)[o]? = some (.int .i64 (it.id : Nat)) ∧ (itsC L its)[o + 1]? = some (.int .i64 (it.next : Nat)) ∧ (itsC L its)[o + 2]? = some (.int .u64 (key L it.id : Nat)) ∧ (itsC L its)[o + 3]? = some (.int .i64 (it.times : Nat)) := by
 have hk := (List.getElem?_eq_some_iff.1 h).1
 have e : its = its.take k ++ it :: its.drop (k + 1) := by
  have := qMu h
  rw [← this, List.take_append_drop]
 have hl : (itsC L (its.take k)).length = o := by rw [qGm, List.length_take, Nat.min_eq_left (by omega), ho]
 rw [e, qGl, qBe]
 subst hl
 exact ⟨ap_0, ap_1, ap_2, ap_3⟩
theorem zBd {L : List Rl} {a b : List It} {y z : It} (o : Nat) (ho : o = a.length * 4) : kC (itsC L (a ++ y :: b)) o [.int .i64 (z.id : Nat), .int .i64 (z.next : Nat), .int .u64 (key L z.id : Nat), .int .i64 (z.times : Nat)] = itsC L (a ++ z :: b) := by
 have hl := qGm L a
 rw [qCz _ _ _ (by rw [qGl, qBe]; simp; omega), qGl, qGl, qBe, qBe]
 subst ho
 rw [← hl]
 simp
def cmpI (its : List It) : List It := its.foldl qAz []
theorem qMo (its : List It) (x : It) : cmpI (its ++ [x]) = qAz (cmpI its) x := by simp [cmpI, List.foldl_append]
theorem qZv : ∀ (its : List It), Sng its → Sng (cmpI its) ∧ qAa (cmpI its) = qAa its ∧ Adjx (prI (cmpI its)) ∧ (cmpI its).length ≤ its.length ∧ (its ≠ [] → cmpI its ≠ []) := fun its => by
 refine qIu (P := fun its => Sng its → Sng (cmpI its) ∧ qAa (cmpI its) = qAa its ∧ Adjx (prI (cmpI its)) ∧ (cmpI its).length ≤ its.length ∧ (its ≠ [] → cmpI its ≠ [])) (fun _ => ⟨fun it h => by simp [cmpI] at h, rfl, fun k x t y t' h => by simp [cmpI, prI] at h, Nat.le_refl _, fun h => absurd rfl h⟩) ?_ its
 intro l x ih h
 obtain ⟨i1, i2, i3, i4, _⟩ := ih fun it hit => h it (by simp [hit])
 have hx := h x (by simp)
 have hl := qTv (cmpI l) x
 rw [qMo]
 refine ⟨qDj i1 hx, ?_, zCb i3, by rw [List.length_append, List.length_singleton]; omega, fun _ e => by rw [e] at hl; simp at hl⟩
 rw [qAt i1 hx.1, i2, qAm, qBv, qDg hx.1]
def hvy (its : List It) : Nat := (its.map fun it => if 2 ≤ it.times then 1 else 0).sum
def pot (its : List It) : Nat := its.length + hvy its
theorem qHx (a b : List It) : hvy (a ++ b) = hvy a + hvy b := by simp [hvy]
theorem qQs (x : It) : hvy [x] = if 2 ≤ x.times then 1 else 0 := by simp [hvy]
theorem zBb : ∀ its : List It, hvy its ≤ its.length
 | [] => Nat.le_refl _
 | x :: l => by
  have ih := zBb l
  have e : hvy (x :: l) = hvy [x] + hvy l := qHx [x] l
  rw [e, qQs, List.length_cons]
  split <;> omega
theorem qDs (a b : List It) : pot (a ++ b) = pot a + pot b := by unfold pot; rw [qHx, List.length_append]; omega
theorem pot_push (l : List It) (x : It) : pot (qAz l x) ≤ pot l + pot [x] := by
 rcases List.eq_nil_or_concat l with rfl | ⟨a, y, rfl⟩
 ·rw [qFx]; omega
 rw [List.concat_eq_append, qCy]
 split
 ·rw [qDs, qDs]
  have h1 : pot [(⟨y.id, y.next, y.times + x.times⟩ : It)] ≤ 2 := by
   unfold pot; rw [qQs]; simp only [List.length_singleton]; split <;> omega
  have h2 : 1 ≤ pot [y] := by unfold pot; simp
  have h3 : 1 ≤ pot [x] := by unfold pot; simp
  omega
 rw [qDs]; omega
theorem pot_cmp (its : List It) : pot (cmpI its) ≤ pot its := by
 refine qIu (P := fun its => pot (cmpI its) ≤ pot its) (Nat.le_refl _) ?_ its
 intro l x ih
 rw [qMo, qDs]
 have := pot_push (cmpI l) x
 omega
theorem qRb {its : List It} (h : Sng its) : pot its ≤ (qAa its).length := by
 induction its with
 | nil => exact Nat.le_refl _
 | cons x l ih =>
  have e : pot (x :: l) = pot [x] + pot l := qDs [x] l
  have i1 := ih fun y hy => h y (by simp [hy])
  have hx := h x (by simp)
  rw [e, qBj, qDg hx.1, List.length_append, List.length_replicate]
  have h1 : pot [x] ≤ x.times := by
   unfold pot
   rw [qQs, List.length_singleton]
   split <;> omega
  omega
def qCt (out : List Nat) : List It := out.map fun x => ⟨x, 0, 1⟩
theorem qHt (out : List Nat) : qAa (qCt out) = out := by
 induction out with
 | nil => rfl
 | cons x o ih =>
  have e : qCt (x :: o) = ⟨x, 0, 1⟩ :: qCt o := rfl
  rw [e, qHd, ih]
theorem qGv {its : List It} {n : Nat} (h : (qAa its).length ≤ n) : ∀ it ∈ its, it.times ≤ n := by
 induction its with
 | nil => simp
 | cons a l ih =>
  rw [qBj, List.length_append] at h
  intro it hit
  rcases List.mem_cons.1 hit with rfl | hit
  ·have hr : ∀ (l : List Nat), 1 ≤ l.length → ∀ t, t ≤ (List.replicate t l).flatten.length := fun l h1 t => by
    induction t with
    | zero => simp
    | succ t ih => rw [List.replicate_succ, List.flatten_cons, List.length_append]; omega
   have : it.times ≤ (itF it).length := by
    unfold itF
    refine hr _ ?_ _
    split <;> simp
   omega
  exact ih (by omega) it hit
structure MrG where
 k : Nat
 p : Option Addr
 c : Nat
structure MsG where
 k : Nat
 M : List Ent
 out : List Nat
theorem qSv (hE : Seat E) (hB : Base E.w0) {cs : List Value} {its : List It} {p : Option Addr} {c lv : Nat} (hodd : lv % 2 = 1) (h0 : cs[0]? = some (uPt pp)) (h11 : cs[11]? = some (.slice p its.length c)) (hs : Sng its) (hlen : (qAa its).length ≤ 800000000000)
  (hids : ∀ x ∈ qAa its, 1 ≤ x ∧ x ≤ (rls Es).length) (hrun : ∀ A x t B, qAa its = A ++ List.replicate t x ++ B → len (rls Es) x * t ≤ kK) (hroom : RmS Es most lv (qAa its)) :
  Ct E 88 [uPt S] [cells pp [uPt s, uPt tb] 57, tabP tb s (rls Es), zU s most Es, cells S cs 113, sl p c 149 4 its.length (itsC (rls Es) its)]
   (fun v Q => ∃ M out p' c', v = .tuple #[.slice p' out.length c', .nilIface] ∧ M.length + out.length ≤ (qAa its).length ∧ M.length + out.length ≤ pot its ∧ Rg (rls (Es ++ M)) (qAa its) out ∧ Fresh Es.length (Es ++ M).length out ∧ Q = [cells pp [uPt s, uPt tb] 57, tabP tb s (rls (Es ++ M)), zU s most (Es ++ M), cells S cs 113, sl p' c' 149 4 out.length (itsC (rls (Es ++ M)) (qCt out))]) := by
 have hil := qEw (its := its) fun it h => (hs it h).2
 have htl := qGv hlen
 obtain ⟨c1, c2, c3, c4, c5⟩ := qZv its hs
 refine zR (hE.fn Tryd.func88) rfl rfl rfl (fun R => ?_)
 simp only [qAo, uV, uW]
 refine qN (qL (uA rfl (uA rfl (qO (qM (qN (qL (uA rfl (qO (qM (qN (qN (qL (uM rfl ?_))))))))))))))
 refine uB (zD rfl) ?_
 refine uB (uBf rfl) ?_
 refine uL ?_
 refine uB (uBl rfl) ?_
 refine uM rfl (qO (qM (zN ?_)))
 refine qKh (qDq (t := 149) (sz := 4)) ?_
 refine qDb (fun x : MrG => [(0, uPt S), (4, .slice x.p (cmpI (its.take x.k)).length x.c), (15, .slice p its.length c), (16, .int .i64 (its.length : Nat)), (17, .int .i64 (x.k : Nat))]) (fun x => [cells pp [uPt s, uPt tb] 57, tabP tb s (rls Es), zU s most Es, cells S cs 113, sl p c 149 4 its.length (itsC (rls Es) its), sl x.p x.c 149 4 (cmpI (its.take x.k)).length (itsC (rls Es) (cmpI (its.take x.k))), R]) (fun x => its.length - x.k) (fun x => x.k ≤ its.length) ⟨0, none, 0⟩ (Nat.zero_le _) ⟨rfl, rfl, rfl, rfl, rfl, trivial⟩ ?_ ?_
 ·exact uI
 rintro ⟨k, p1, c1'⟩ hk
 simp only at hk ⊢
 refine qN (qL (uB (y_lt rfl rfl) ?_))
 refine qO (qM (qN ?_))
 refine zH rfl (fun hlt => ?_) (fun hlt => ?_)
 ·have hkn : k < its.length := by omega
  obtain ⟨it, hit⟩ : ∃ x, its[k]? = some x := ⟨_, List.getElem?_eq_getElem hkn⟩
  have hmem := List.mem_of_getElem? hit
  obtain ⟨f0, f1, f2, f3⟩ := qJr (L := rls Es) hit (0 + ((k : Nat) : Int).toNat * 4) (by omega)
  obtain ⟨q1, q2, q3, q4, q5⟩ := qZv (its.take k) fun i hi => hs i (List.mem_of_mem_take hi)
  have eT : its.take (k + 1) = its.take k ++ [it] := by rw [List.take_add_one, hit]; rfl
  have ec : cmpI (its.take (k + 1)) = qAz (cmpI (its.take k)) it := by rw [eT, qMo]
  have hfl : (qAa (cmpI (its.take k))).length ≤ 800000000000 := by
   rw [q2]
   have : qAa its = qAa (its.take k) ++ qAa (its.drop k) := by rw [← qAm, List.take_append_drop]
   rw [this, List.length_append] at hlen
   omega
  have hpu := qMa (x := it) (l := cmpI (its.take k)) (p := p1) (c := c1') (L := rls Es) hE (by have := List.length_take_le k its; omega) (fun y hy => by have h1 := qGv hfl y hy; have h2 := htl it hmem; omega)
  refine qFd (p := sl p c 149 4 its.length (itsC (rls Es) its)) uK (fun _ h => qCc h (by omega)) ?_
  rintro ⟨g, rfl⟩
  refine zF (qM (qN (zN (qN (qL (uB (uAi rfl rfl) ?_))))))
  refine uB (uG) ?_
  refine uU (kI (hE.t rfl) (fun b6 => ?_))
  refine uU (uS ?_)
  refine qO (qM (qL (uM rfl (uB (uG) ?_))))
  refine uX (hpu) rfl ?_
  rintro _ _ ⟨p', c', rfl, rfl⟩
  rw [← ec]
  simp only [uV, uW]
  refine uA rfl (qO (zL (qM (qL (uB (uAa rfl rfl) ?_)))))
  refine uM rfl (qO ?_)
  refine qCj 17 (.int .i64 ((k + 1 : Nat) : Int)) rfl (zZ (by omega)) ?_
  refine zV (ι := MrG) (j := ⟨k + 1, p', c'⟩) (by show k + 1 ≤ its.length; omega) (by show its.length - (k + 1) < its.length - k; omega) ⟨rfl, rfl, rfl, rfl, rfl, trivial⟩ ?_
  exact uI
 obtain rfl : k = its.length := by omega
 rw [List.take_of_length_le (Nat.le_refl _)]
 obtain ⟨l, hl⟩ : ∃ l, l = cmpI its := ⟨_, rfl⟩
 rw [← hl] at c1 c2 c3 c4 c5 ⊢
 have hll : l.length ≤ 800000000000 := by omega
 have hflat := flat_prI c1
 have hprl : ∀ q, (prI (l.take q)).length ≤ q := fun q => by simp [prI]; omega
 have hlid : ∀ it ∈ l, 1 ≤ it.id ∧ it.id ≤ (rls Es).length := fun it hit => hids it.id (by rw [← c2]; exact qWw hit (c1 it hit).2)
 refine kM (qU (qU (zK (qM (qN (qN (qL (uM rfl (uB (uBl rfl) ?_)))))))))
 refine uM rfl (qO (qM (zN ?_)))
 refine qDb (fun x : MsG => [(0, uPt S), (4, .slice p1 l.length c1'), (25, .slice p1 l.length c1'), (26, .int .i64 (l.length : Nat)), (27, .int .i64 (x.k : Nat))]) (fun x => [cells pp [uPt s, uPt tb] 57, tabP tb s (rls (Es ++ x.M)), zU s most (Es ++ x.M), cells S cs 113, sl p1 c1' 149 4 l.length (itsC (rls (Es ++ x.M)) (qCt x.out ++ l.drop x.k)), R]) (fun x => l.length - x.k)
  (fun x => x.k ≤ l.length ∧ x.out.length = x.k ∧ x.M.length + x.k ≤ tsum (prI (l.take x.k)) ∧ Rns (rls (Es ++ x.M)) (prI (l.take x.k)) x.out ∧ x.M.length ≤ hvy (l.take x.k) ∧ Fresh Es.length (Es ++ x.M).length x.out) ⟨0, [], []⟩ ⟨Nat.zero_le _, rfl, Nat.le_refl _, .nil, Nat.zero_le _, fun z h1 h2 => by simp at h2; omega⟩ ⟨rfl, rfl, rfl, rfl, rfl, trivial⟩ ?_ ?_
 ·rw [List.append_nil]
  exact uI
 rintro ⟨k, M, out⟩ ⟨hk, hok, hM, hrn, hhv, hfr⟩
 simp only at hk hok hM hrn hhv hfr ⊢
 have hol : ∀ q, (qCt out ++ l.drop q).length = k + (l.length - q) := fun q => by simp [qCt, hok]
 refine qN (qL (uB (y_lt rfl rfl) ?_))
 refine qO (qM (qN ?_))
 refine zH rfl (fun hlt2 => ?_) (fun hlt2 => ?_)
 ·have hkn : k < l.length := by omega
  obtain ⟨it, hit⟩ : ∃ x, l[k]? = some x := ⟨_, List.getElem?_eq_getElem hkn⟩
  have hmem := List.mem_of_getElem? hit
  obtain ⟨hnx, htm⟩ := c1 it hmem
  obtain ⟨hi1, hi2⟩ := hlid it hmem
  have eT : l.take (k + 1) = l.take k ++ [it] := by rw [List.take_add_one, hit]; rfl
  have eP : prI (l.take (k + 1)) = prI (l.take k) ++ [(it.id, it.times)] := by rw [eT]; simp [prI]
  have eS : tsum (prI (l.take (k + 1))) = tsum (prI (l.take k)) + it.times := by rw [eP, qIw]; rfl
  have eD := qMu hit
  have hat : (qCt out ++ l.drop k)[k]? = some it := by
   rw [List.getElem?_append_right (by simp [qCt, hok]), eD]
   simp [qCt, hok]
  obtain ⟨f0, f1, f2, f3⟩ := qJr (L := rls (Es ++ M)) hat (0 + ((k : Nat) : Int).toNat * 4) (by omega)
  refine qFd (p := sl p1 c1' 149 4 l.length (itsC (rls (Es ++ M)) (qCt out ++ l.drop k))) uK (fun _ h => qCc h (by omega)) ?_
  rintro ⟨g, rfl⟩
  refine qFd (p := zU s most (Es ++ M)) uK (fun _ h => qAb h) ?_
  rintro ⟨hwf, htx, -, -⟩
  refine zF (qM (qN (zN (qN (qL (uM rfl (uB (uAi rfl rfl) ?_)))))))
  refine uB (uG) ?_
  refine uU (kI (hE.t rfl) (fun b8 => ?_))
  refine uA rfl (uU (uS ?_))
  refine qO (qM (qN (qN (qL (uB (uBf rfl) ?_)))))
  refine uL ?_
  refine uB (y_eq rfl rfl) ?_
  refine qO (qM ?_)
  refine zH rfl (fun h1 => ?_) (fun h1 => ?_)
  ·have ht1 : it.times = 1 := by omega
   have eit : it = ⟨it.id, 0, 1⟩ := by
    obtain ⟨a, b, d⟩ := it
    simp only at hnx ht1
    subst hnx ht1
    rfl
   refine kM (qU (zK (qM (qL (uB (uAa rfl rfl) ?_)))))
   refine uM rfl (qO ?_)
   refine qCj 27 (.int .i64 ((k + 1 : Nat) : Int)) rfl (zZ (by omega)) ?_
   refine zV (ι := MsG) (j := ⟨k + 1, M, out ++ [it.id]⟩) ⟨hkn, by simp [hok], by show M.length + (k + 1) ≤ _; rw [eS]; omega, by show Rns _ (prI (l.take (k + 1))) _; rw [eP]; exact .snoc hrn (.inl ⟨ht1, rfl⟩), by show M.length ≤ hvy (l.take (k + 1)); rw [eT, qHx]; omega, fun z h1 h2 => List.mem_append_left _ (hfr z h1 h2)⟩ (by show l.length - (k + 1) < l.length - k; omega) ⟨rfl, rfl, rfl, rfl, rfl, trivial⟩ ?_
   have ecur : qCt (out ++ [it.id]) ++ l.drop (k + 1) = qCt out ++ l.drop k := by rw [eD]; conv => rhs; rw [eit]
                                                                                  simp [qCt]
   rw [ecur]
   exact uI
  have ht2 : 2 ≤ it.times := by omega
  obtain ⟨i, hi⟩ : ∃ i, it.id = i + 1 := ⟨it.id - 1, by omega⟩
  have hil2 : i < Es.length := by rw [zT] at hi2; omega
  have hEi : (Es ++ M)[i]? = some Es[i] := by rw [List.getElem?_append_left (by omega), List.getElem?_eq_getElem (by omega)]
  have hfl : qAa its = qAa (l.take k) ++ List.replicate it.times it.id ++ qAa (l.drop (k + 1)) := by
   rw [← c2]
   conv => lhs; rw [← List.take_append_drop k l, eD, qAm, qBj, qDg hnx]
   rw [List.append_assoc]
  have hln := hrun _ _ _ _ hfl
  have hlt3 : (Es[i]).t.length * it.times ≤ kK := by
   rw [htx i _ hEi, kJ, qFa _ (by rw [zT]; omega), ← hi]
   exact hln
  have htk : tsum (prI (l.take (k + 1))) ≤ (qAa its).length := by
   rw [← c2, ← hflat, qCx]
   have : prI l = prI (l.take (k + 1)) ++ prI (l.drop (k + 1)) := by
    unfold prI
    rw [← List.map_append, List.take_append_drop]
   rw [this, qIw]
   omega
  have ePr : prI (l.take k) ++ prI (l.drop k) = prI l := by
   unfold prI
   rw [← List.map_append, List.take_append_drop]
  have hr : (Es ++ M).length < most := hroom M hwf fun z z1 z2 => nx_run hodd (rs := prI (l.take k)) (rs2 := prI (l.drop k)) (by rw [ePr, hflat, c2]) (fun q hq => by rw [ePr] at hq; obtain ⟨y, hy, rfl⟩ := List.mem_map.1 hq; exact (c1 y hy).2) (by rw [ePr]; exact c3) hrn (hfr z z1 z2)
  have hpw := qSx (s := s) (most := most) hE hEi ht2 hlt3 hr
  rw [← hi] at hpw
  refine zF (qM (qN ?_))
  refine uH ([cells pp [uPt s, uPt tb] 57, cells S cs 113, cells b8 [.int .i64 (it.id : Nat), .int .i64 (it.next : Nat), .int .u64 (key (rls (Es ++ M)) it.id : Nat), .int .i64 (it.times : Nat)] 149]) ?_
  refine uD 0 rfl (qE rfl) ?_
  refine uD 1 rfl (zD rfl) ?_
  refine uD 2 rfl (uBf rfl) ?_
  refine uD 3 rfl (uY) ?_
  refine uD 5 rfl (uBf rfl) ?_
  refine uD 6 rfl (uY) ?_
  refine uD 7 rfl (uBf rfl) ?_
  refine uD 8 rfl (uY) ?_
  apply kP 4 rfl (by kernel_rfl) rfl
  refine uC (qBb hE) rfl ?_
  rintro _ _ ⟨rfl, rfl⟩
  simp only [uV, uW]
  refine uE ?_
  apply kP 9 rfl (by kernel_rfl) rfl
  refine uC (hpw) rfl ?_
  rintro _ _ ⟨M2, id, rfl, hid, hrl, hMx, rfl⟩
  have hM2 := qTm hMx
  obtain ⟨j, rfl⟩ : ∃ j, id = j + 1 := ⟨id - 1, by omega⟩
  rw [Nat.add_sub_cancel] at hrl
  have hjl : j < (Es ++ M ++ M2).length := by have := (List.getElem?_eq_some_iff.1 hrl).1; rwa [zT] at this
  simp only [uV, uW]
  refine uE ?_
  refine uD 10 rfl (qE rfl) ?_
  refine uD 11 rfl (qX rfl rfl) ?_
  refine uD 12 rfl (qX rfl rfl) ?_
  refine uD 13 rfl (qF rfl) ?_
  refine uD 14 rfl (qF rfl) ?_
  refine qGy (by kernel_rfl) ?_
  refine qM ?_
  refine qFd (p := zU s most (Es ++ M ++ M2)) uK (fun _ h => (qAb h).1) ?_
  intro hwf2
  rw [List.append_assoc] at hwf2
  refine qKh (kG (p := tabP tb s (rls (Es ++ M))) (p' := tabP tb s (rls (Es ++ M ++ M2))) uK (fun _ h => by rw [kJ (Es ++ M)]; exact qGu _ h)) ?_
  have hcur : ∀ x ∈ qCt out ++ l.drop k, x.id ≤ (rls (Es ++ M)).length := by
   intro x hx
   rcases List.mem_append.1 hx with h | h
   ·obtain ⟨y, hy, rfl⟩ := List.mem_map.1 h
    refine hrn.le (fun q hq => ?_) y hy
    obtain ⟨z, hz, rfl⟩ := List.mem_map.1 hq
    have := (hlid z (List.mem_of_mem_take hz)).2
    rw [kJ, List.length_append]
    simp only
    omega
   have := (hlid x (List.mem_of_mem_drop h)).2
   rw [kJ, List.length_append]
   omega
  have ecs : itsC (rls (Es ++ M)) (qCt out ++ l.drop k) = itsC (rls (Es ++ M ++ M2)) (qCt out ++ l.drop k) := by rw [kJ (Es ++ M)]; exact (qWx _ hcur).symm
  rw [ecs]
  rw [List.append_assoc] at hjl hrl ⊢
  refine qN (qN (qL (uM rfl (uB (qAk rfl (hE.t rfl)) ?_))))
  refine qO (qM (zG rfl (zF (qM (qN (qL (uM rfl (uB (zD rfl) ?_))))))))
  refine uB (uBf rfl) ?_
  refine uL ?_
  refine uX (qMq hE) rfl ?_
  rintro _ _ ⟨rfl, rfl⟩
  simp only [uV, uW]
  refine uM rfl (uX (qPa hE hB hjl) rfl ?_)
  rintro _ _ ⟨rfl, rfl⟩
  simp only [uV, uW]
  refine uM rfl (uB (qX rfl rfl) (uB (qX rfl rfl) (uA rfl (uA rfl (qO (qM (qN (qN (qL (uM rfl ?_))))))))))
  refine uB (qAk rfl (hE.t rfl)) ?_
  refine qO (qM (zG rfl (zF (qM (qL (uM rfl (uM rfl (uM rfl (uM rfl (uB (qAl (hE.t rfl) rfl rfl) ?_))))))))))
  refine uB (uAi rfl rfl) ?_
  refine uU (uJ ?_)
  refine qO (zL (qM (qL (uB (uAa rfl rfl) ?_))))
  refine uM rfl (qO ?_)
  have est : kC (itsC (rls (Es ++ (M ++ M2))) (qCt out ++ l.drop k)) (0 + ((k : Nat) : Int).toNat * 4) (zS (.agg #[.int .i64 ((j + 1 : Nat) : Int), .int .i64 0, .int .u64 (key (rls (Es ++ (M ++ M2))) (j + 1) : Nat), .int .i64 1])) = itsC (rls (Es ++ (M ++ M2))) (qCt (out ++ [j + 1]) ++ l.drop (k + 1)) := by
   rw [eD]
   have := zBd (L := rls (Es ++ (M ++ M2))) (a := qCt out) (b := l.drop (k + 1)) (y := it) (z := ⟨j + 1, 0, 1⟩) (0 + ((k : Nat) : Int).toNat * 4) (by simp [qCt, hok])
   have e2 : qCt (out ++ [j + 1]) ++ l.drop (k + 1) = qCt out ++ (⟨j + 1, 0, 1⟩ : It) :: l.drop (k + 1) := by simp [qCt]
   rw [e2, ← this]
   rfl
  refine qCj 27 (.int .i64 ((k + 1 : Nat) : Int)) rfl (zZ (by omega)) ?_
  refine zV (ι := MsG) (j := ⟨k + 1, M ++ M2, out ++ [j + 1]⟩) ⟨hkn, by simp [hok], by show (M ++ M2).length + (k + 1) ≤ _; rw [eS, List.length_append]; omega, ?_, by show (M ++ M2).length ≤ hvy (l.take (k + 1)); rw [eT, qHx, qQs, if_pos ht2, List.length_append]; omega, qFs hfr hwf2 hrl hMx⟩ (by show l.length - (k + 1) < l.length - k; omega) ⟨rfl, rfl, rfl, rfl, rfl, trivial⟩ ?_
  ·show Rns _ (prI (l.take (k + 1))) _
   rw [eP]
   refine .snoc ?_ (.inr ⟨ht2, j, rfl, hrl⟩)
   rw [← List.append_assoc, kJ (Es ++ M)]
   exact hrn.ext _
  rw [← est]
  exact uI
 obtain rfl : k = l.length := by omega
 rw [List.take_of_length_le (Nat.le_refl _)] at hM hrn hhv
 have hpc := pot_cmp its
 rw [← hl] at hpc
 unfold pot at hpc
 have hRg := qNy hrn (fun q hq => by obtain ⟨z, hz, rfl⟩ := List.mem_map.1 hq; exact (c1 z hz).2) c3
 rw [hflat, c2] at hRg
 have htf : tsum (prI l) = (qAa its).length := by rw [← qCx, hflat, c2]
 refine kM (qU (qU (zK (qM (qN (qL (uM rfl (uA rfl (uA rfl (qO (qM (kE ?_))))))))))))
 apply kF
 ·rfl
 ·(apply Rs.tmp rfl; apply Rs.tmp rfl; exact Rs.nil)
 ·exact ⟨M, out, p1, c1', by rw [hok]; rfl, by omega, by unfold pot; omega, hRg, hfr, rfl⟩
 rw [List.drop_of_length_le (Nat.le_refl _), List.append_nil, hok]
 exact uI
end
section
variable {E : Env} {Es : List Ent} {pp tb s most S : Nat}
theorem zAw {its : List It} (hs : Sng its) (h1 : ∀ it ∈ its, it.times = 1) : qAa its = its.map (·.id) := by
 induction its with
 | nil => rfl
 | cons a l ih =>
  rw [qBj, ih (fun i hi => hs i (by simp [hi])) (fun i hi => h1 i (by simp [hi])), qDg (hs a (by simp)).1, h1 a (by simp)]
  rfl
structure MpG where
 k : Nat
 M : List Ent
 l : List It
 p : Option Addr
 c : Nat
theorem qGp {L : List Rl} {l : List It} {x : It} (h : ∀ i ∈ l, i.id ≤ L.length) (hx : x.id ≤ L.length) : ∀ i ∈ qAz l x, i.id ≤ L.length := by
 rcases List.eq_nil_or_concat l with rfl | ⟨a, y, rfl⟩
 ·rw [qFx]; intro i hi; simp at hi; subst hi; exact hx
 rw [List.concat_eq_append] at *
 have hy := h y (by simp)
 rw [qCy]
 split <;> intro i hi
 ·rcases List.mem_append.1 hi with hi | hi
  ·exact h i (by simp [hi])
  obtain rfl := List.mem_singleton.1 hi; exact hy
 rcases List.mem_append.1 hi with hi | hi
 ·exact h i hi
 obtain rfl := List.mem_singleton.1 hi; exact hx
structure MpI (Es : List Ent) (c : Nat) (xs : List Nat) (x : MpG) : Prop where
 le : x.k ≤ xs.length
 pg : PgB (rls (Es ++ x.M)) c (xs.take x.k) (qAa x.l) (xs[x.k]?)
 sng : Sng x.l
 room : x.M.length + (qAa x.l).length ≤ x.k
 ids : ∀ i ∈ x.l, i.id ≤ (rls (Es ++ x.M)).length
 fresh : Fresh Es.length (Es ++ x.M).length (qAa x.l)
theorem qQh (hE : Seat E) (hB : Base E.w0) {cs : List Value} {its : List It} {p : Option Addr} {c lv : Nat} (h0 : cs[0]? = some (uPt pp)) (h11 : cs[11]? = some (.slice p its.length c)) (hs : Sng its) (h1 : ∀ it ∈ its, it.times = 1) (hlen : (qAa its).length ≤ 800000000000)
  (hids : ∀ x ∈ qAa its, 1 ≤ x ∧ x ≤ (rls Es).length) (hadj : ∀ A x y B, qAa its = A ++ [x, y] ++ B → len (rls Es) x + len (rls Es) y ≤ kK) (hroom : RmS Es most lv (qAa its)) (h2l : 2 ≤ lv) (hev : lv % 2 = 0) (hll : lv < 1099511627776) :
  Ct E 90 [uPt S, .int .i64 (lv : Nat)] [cells pp [uPt s, uPt tb] 57, tabP tb s (rls Es), zU s most Es, cells S cs 113, sl p c 149 4 its.length (itsC (rls Es) its)]
   (fun v Q => ∃ M l p' c', v = .tuple #[.slice p' l.length c', .nilIface] ∧ M.length + (qAa l).length ≤ (qAa its).length ∧ Pg (rls (Es ++ M)) (num lv) (qAa its) (qAa l) ∧ Sng l ∧ Fresh Es.length (Es ++ M).length (qAa l) ∧ Q = [cells pp [uPt s, uPt tb] 57, tabP tb s (rls (Es ++ M)), zU s most (Es ++ M), cells S cs 113, sl p' c' 149 4 l.length (itsC (rls (Es ++ M)) l)]) := by
 have hfm := zAw hs h1
 obtain ⟨xs, hxs⟩ : ∃ xs, xs = its.map (·.id) := ⟨_, rfl⟩
 rw [← hxs] at hfm
 rw [hfm] at hlen hids hadj hroom ⊢
 have hxl : xs.length = its.length := by rw [hxs]; simp
 refine zR (hE.fn Tryd.func90) rfl rfl rfl (fun R => ?_)
 simp only [qAo, uV, uW]
 refine qN (qL (uA rfl (uA rfl (qO (qM (qN (qL (uA rfl (qO (qM (qN (qL (uA rfl ?_)))))))))))))
 refine qO (qM (qN (qN (qL (uA rfl (qO (qM (zN ?_))))))))
 refine qKh (qDq (t := 149) (sz := 4)) ?_
 refine qDb (fun x : MpG => [(0, uPt S), (1, .int .i64 (lv : Nat)), (6, .slice x.p x.l.length x.c), (7, .nilIface), (8, .int .i64 (x.k : Nat))]) (fun x => [cells pp [uPt s, uPt tb] 57, tabP tb s (rls (Es ++ x.M)), zU s most (Es ++ x.M), cells S cs 113, sl p c 149 4 its.length (itsC (rls Es) its), sl x.p x.c 149 4 x.l.length (itsC (rls (Es ++ x.M)) x.l), R]) (fun x => xs.length - x.k) (MpI Es (num lv) xs) ⟨0, [], [], none, 0⟩ ⟨Nat.zero_le _, PgB.start _ _ _, fun i hi => by simp at hi, Nat.le_refl _, fun i hi => by simp at hi, fun z h1 h2 => by simp at h2; omega⟩ ⟨rfl, rfl, rfl, rfl, rfl, trivial⟩ ?_ ?_
 ·rw [List.append_nil]
  exact uI
 rintro ⟨k, M, l, p1, c1⟩ hI
 have hk := hI.le
 have hpg := hI.pg
 have hsn := hI.sng
 have hrm := hI.room
 have hid := hI.ids
 have hfr := hI.fresh
 simp only at hk hpg hsn hrm hid hfr ⊢
 have hll2 : l.length ≤ 800000000000 := by
  have := qEw (its := l) fun i hi => (hsn i hi).2
  omega
 have htl : ∀ y ∈ l, y.times ≤ 800000000000 := qGv (by omega)
 refine qN (qN (qL (uM rfl (uM rfl (uB (zD rfl) ?_)))))
 refine uB (uBf rfl) ?_
 refine uL ?_
 refine uB (uBl rfl) ?_
 refine uB (y_lt rfl rfl) ?_
 refine qO (qM ?_)
 refine zH rfl (fun hlt => ?_) (fun hlt => ?_)
 ·have hkn : k < its.length := by omega
  obtain ⟨it, hit⟩ : ∃ x, its[k]? = some x := ⟨_, List.getElem?_eq_getElem hkn⟩
  have hxk : xs[k]? = some it.id := by rw [hxs]; simp [hit]
  have hmem := List.mem_of_getElem? hit
  obtain ⟨hnx, _⟩ := hs it hmem
  have htm := h1 it hmem
  have hir := hids it.id (List.mem_of_getElem? hxk)
  obtain ⟨f0, f1, f2, f3⟩ := qJr (L := rls Es) hit (0 + ((k : Nat) : Int).toNat * 4) (by omega)
  rw [hnx] at f1
  rw [htm] at f3
  have eT : xs.take (k + 1) = xs.take k ++ [it.id] := by rw [List.take_add_one, hxk]; rfl
  have hkx : key (rls (Es ++ M)) it.id = key (rls Es) it.id := by rw [kJ]; exact qAi _ hir.2
  have eit : it = ⟨it.id, 0, 1⟩ := by
   obtain ⟨a, b, d⟩ := it
   simp only at hnx htm
   subst hnx htm
   rfl
  refine qFd (p := sl p c 149 4 its.length (itsC (rls Es) its)) uK (fun _ h => qCc h (by omega)) ?_
  rintro ⟨g, rfl⟩
  refine qFd (p := zU s most (Es ++ M)) uK (fun _ h => qAb h) ?_
  rintro ⟨hwf, htx, -, -⟩
  rw [hxk] at hpg
  have hpu := qMa (x := ⟨it.id, 0, 1⟩) (l := l) (p := p1) (c := c1) (L := rls (Es ++ M)) hE (by omega) (fun y hy => by have h1 := htl y hy; show y.times + 1 ≤ _; omega)
  simp only at hpu
  rw [hkx] at hpu
  have hpush : ∀ nx, (∀ v, nx = some v → ¬ qAd (num lv) (key (rls (Es ++ M)) it.id) (key (rls (Es ++ M)) v)) → PgB (rls (Es ++ M)) (num lv) (xs.take (k + 1)) (qAa (qAz l ⟨it.id, 0, 1⟩)) nx := fun nx hnx2 => by
   rw [eT, qAt hsn rfl]
   exact hpg.single hnx2
  refine zF (qM (qN (zN (qN (qL (uM rfl (uB (zD rfl) ?_)))))))
  refine uB (uBf rfl) ?_
  refine uL ?_
  refine uM rfl (uB (uAi rfl rfl) ?_)
  refine uB (uG) ?_
  refine uU (kI (hE.t rfl) (fun b9 => ?_))
  refine uU (uS ?_)
  refine qO (qM (qN (qN ?_)))
  refine uH ([cells S cs 113, sl (some ⟨g, 0, none⟩) c 149 4 its.length (itsC (rls Es) its), cells b9 [.int .i64 (it.id : Nat), .int .i64 ((0 : Nat) : Int), .int .u64 (key (rls Es) it.id : Nat), .int .i64 ((1 : Nat) : Int)] 149]) ?_
  refine uD 0 rfl (qE rfl) ?_
  refine uD 1 rfl (uAa rfl rfl) ?_
  refine uD 2 rfl (qE rfl) ?_
  refine uD 3 rfl (zD rfl) ?_
  refine uD 4 rfl (uBf rfl) ?_
  refine uD 5 rfl (uY) ?_
  refine uD 6 rfl (uBl rfl) ?_
  refine uD 7 rfl (y_eq rfl rfl) ?_
  refine uD 8 rfl (qE rfl) ?_
  refine d_split 34 rfl (fun h3 => ?_) (fun h3 => ?_)
  ·have hlast : ∀ v, xs[k + 1]? = some v → ¬ qAd (num lv) (key (rls (Es ++ M)) it.id) (key (rls (Es ++ M)) v) := fun v hv => by
    rw [List.getElem?_eq_none (by omega)] at hv; cases hv
   refine uR 9 rfl rfl rfl rfl ?_
   refine uR 10 rfl rfl rfl rfl ?_
   refine uR 11 rfl rfl rfl rfl ?_
   refine uR 12 rfl rfl rfl rfl ?_
   refine uR 13 rfl rfl rfl rfl ?_
   refine uR 14 rfl rfl rfl rfl ?_
   refine uR 15 rfl rfl rfl rfl ?_
   refine uR 16 rfl rfl rfl rfl ?_
   refine uR 17 rfl rfl rfl rfl ?_
   refine uR 18 rfl rfl rfl rfl ?_
   refine uR 19 rfl rfl rfl rfl ?_
   refine uR 20 rfl rfl rfl rfl ?_
   refine uR 21 rfl rfl rfl rfl ?_
   refine uR 22 rfl rfl rfl rfl ?_
   refine uD 23 rfl (zA rfl rfl) ?_
   refine qGy (by kernel_rfl) ?_
   refine qM (zI rfl (qN (qL (uM rfl (uB (uG) ?_)))))
   refine uX (hpu) rfl ?_
   rintro _ _ ⟨p', c', rfl, rfl⟩
   simp only [uV, uW]
   refine uA rfl (qO (qM (kM (qU (zK (qM (qL (uM rfl (uB (uAa rfl rfl) ?_)))))))))
   refine uA rfl (qO ?_)
   refine qCj 8 (.int .i64 ((k + 1 : Nat) : Int)) rfl (zZ (by omega)) ?_
   refine zV (ι := MpG) (j := ⟨k + 1, M, qAz l ⟨it.id, 0, 1⟩, p', c'⟩) ⟨by show k + 1 ≤ _; omega, hpush _ hlast, qDj hsn ⟨rfl, Nat.le_refl _⟩, by show M.length + (qAa (qAz l ⟨it.id, 0, 1⟩)).length ≤ k + 1; rw [qAt hsn rfl]; simp; omega, qGp hid (by show it.id ≤ _; rw [kJ, List.length_append]; omega), qHu hsn hfr⟩ (by show xs.length - (k + 1) < xs.length - k; omega) ⟨rfl, rfl, rfl, rfl, rfl, trivial⟩ ?_
   exact uI
  have hkn2 : k + 1 < its.length := by omega
  obtain ⟨y, hy⟩ : ∃ x, its[k + 1]? = some x := ⟨_, List.getElem?_eq_getElem hkn2⟩
  have hxk2 : xs[k + 1]? = some y.id := by rw [hxs]; simp [hy]
  have hyr := hids y.id (List.mem_of_getElem? hxk2)
  have hky : key (rls (Es ++ M)) y.id = key (rls Es) y.id := by rw [kJ]; exact qAi _ hyr.2
  obtain ⟨e0, e1, e2, e3⟩ := qJr (L := rls Es) hy (0 + (((k : Nat) : Int) + 1).toNat * 4) (by omega)
  refine uO 9 rfl rfl rfl (uBf rfl) ?_
  refine uO 10 rfl rfl rfl (uY) ?_
  refine uO 11 rfl rfl rfl (qE rfl) ?_
  refine uO 12 rfl rfl rfl (zD rfl) ?_
  refine uO 13 rfl rfl rfl (uBf rfl) ?_
  refine uO 14 rfl rfl rfl (uY) ?_
  refine uO 15 rfl rfl rfl (qE rfl) ?_
  refine uO 16 rfl rfl rfl (uAa rfl rfl) ?_
  refine uO 17 rfl rfl rfl (uAi rfl rfl) ?_
  refine uO 18 rfl rfl rfl (uBf rfl) ?_
  refine uO 19 rfl rfl rfl (uY) ?_
  refine uO 20 rfl rfl rfl (qE rfl) ?_
  apply qTc 21 rfl rfl rfl (by kernel_rfl) rfl
  refine uC (qUt hE h2l hev hll) rfl ?_
  rintro _ _ ⟨⟨d, rfl, hd⟩, rfl⟩
  simp only [uV, uW]
  refine uE ?_
  refine uO 22 rfl rfl rfl (qIf rfl) ?_
  refine uD 23 rfl (zB rfl rfl) ?_
  refine qGy (by kernel_rfl) ?_
  refine qM ?_
  cases d with
  | false =>
   have hnf : ∀ v, xs[k + 1]? = some v → ¬ qAd (num lv) (key (rls (Es ++ M)) it.id) (key (rls (Es ++ M)) v) := fun v hv hf => by
    rw [hxk2] at hv
    cases hv
    rw [hkx, hky] at hf
    exact absurd (hd.2 hf) (by simp)
   refine zI rfl (qN (qL (uM rfl (uB (uG) ?_))))
   refine uX (hpu) rfl ?_
   rintro _ _ ⟨p', c', rfl, rfl⟩
   simp only [uV, uW]
   refine uA rfl (qO (qM (kM (qU (zK (qM (qL (uM rfl (uB (uAa rfl rfl) ?_)))))))))
   refine uA rfl (qO ?_)
   refine qCj 8 (.int .i64 ((k + 1 : Nat) : Int)) rfl (zZ (by omega)) ?_
   refine zV (ι := MpG) (j := ⟨k + 1, M, qAz l ⟨it.id, 0, 1⟩, p', c'⟩) ⟨by show k + 1 ≤ _; omega, hpush _ hnf, qDj hsn ⟨rfl, Nat.le_refl _⟩, by show M.length + (qAa (qAz l ⟨it.id, 0, 1⟩)).length ≤ k + 1; rw [qAt hsn rfl]; simp; omega, qGp hid (by show it.id ≤ _; rw [kJ, List.length_append]; omega), qHu hsn hfr⟩ (by show xs.length - (k + 1) < xs.length - k; omega) ⟨rfl, rfl, rfl, rfl, rfl, trivial⟩ ?_
   exact uI
  | true =>
   have hft := hd.1 rfl
   rw [← hkx, ← hky] at hft
   have eT2 : xs.take (k + 2) = xs.take k ++ [it.id, y.id] := by rw [List.take_add_one, List.take_add_one, hxk, hxk2]; simp
   have hxd : xs = xs.take k ++ [it.id, y.id] ++ xs.drop (k + 2) := by rw [← eT2, List.take_append_drop]
   have hln := hadj _ _ _ _ hxd
   have hpp := qGc (Es := Es ++ M) (S := S) (cs := cs) (l := l) (x := it.id) (y := y.id) (t := 1) (p := p1) (c := c1) (pp := pp) (tb := tb) (s := s) (most := most) hE hB h0 (by omega) (fun i hi => by have := htl i hi; omega) hid ⟨hir.1, by rw [kJ, List.length_append]; omega⟩ ⟨hyr.1, by rw [kJ, List.length_append]; omega⟩ (by rw [kJ, qGn _ hir.2, qGn _ hyr.2]; exact hln) (hroom M hwf fun z z1 z2 => nx_pg hev rfl (rest := xs.drop k) (List.take_append_drop k xs).symm (by rw [List.head?_drop, hxk]; exact hpg) (fun x hx => by have := hids x hx; rw [kJ, List.length_append]; omega) (hfr z z1 z2))
   refine zG rfl (zF (qM (qN (qL (uM rfl (uB (uAa rfl rfl) ?_))))))
   refine uA rfl (qO (qM (qN ?_)))
   refine uH ([cells S cs 113, sl (some ⟨g, 0, none⟩) c 149 4 its.length (itsC (rls Es) its), cells b9 [.int .i64 (it.id : Nat), .int .i64 ((0 : Nat) : Int), .int .u64 (key (rls Es) it.id : Nat), .int .i64 ((1 : Nat) : Int)] 149]) ?_
   refine uD 0 rfl (qE rfl) ?_
   refine uD 1 rfl (qE rfl) ?_
   refine uD 2 rfl (uBf rfl) ?_
   refine uD 3 rfl (uY) ?_
   refine uD 4 rfl (qE rfl) ?_
   refine uD 5 rfl (zD rfl) ?_
   refine uD 6 rfl (uBf rfl) ?_
   refine uD 7 rfl (uY) ?_
   refine uD 8 rfl (qE rfl) ?_
   refine uD 9 rfl (uAi rfl rfl) ?_
   refine uD 10 rfl (uBf rfl) ?_
   refine uD 11 rfl (uY) ?_
   apply kP 12 rfl (by kernel_rfl) rfl
   refine uC (hpp) rfl ?_
   rintro _ _ ⟨M2, j, p', c', rfl, hMx, hrl, rfl⟩
   have hM2 := qTm hMx
   rw [List.append_assoc] at hrl ⊢
   simp only [uV, uW]
   refine uE ?_
   refine uD 13 rfl (qE rfl) ?_
   refine uD 14 rfl (qX rfl rfl) ?_
   refine uD 15 rfl (qX rfl rfl) ?_
   refine uD 16 rfl (qF rfl) ?_
   refine uD 17 rfl (qF rfl) ?_
   refine qGy (by kernel_rfl) ?_
   refine qM (qN (qL (uM rfl (uB (qAk rfl (hE.t rfl)) ?_))))
   refine qO (qM (zG rfl (zF (zL (qM (qL (uM rfl (uB (uAa rfl rfl) ?_))))))))
   refine uA rfl (qO ?_)
   refine qLs (p := zU s most (Es ++ (M ++ M2))) uK (fun _ h => qAb h) ?_
   rintro ⟨hwf2, -, -, -⟩
   have eL : rls (Es ++ (M ++ M2)) = rls (Es ++ M) ++ rls M2 := by rw [← List.append_assoc, kJ]
   have hxsl : ∀ x ∈ xs, x ≤ (rls (Es ++ M)).length := fun x hx => by
    have := hids x hx
    rw [kJ, List.length_append]
    omega
   have hpg2 : PgB (rls (Es ++ (M ++ M2))) (num lv) (xs.take k) (qAa l) (some it.id) := by
    rw [eL]
    exact hpg.ext _ (fun x hx => hxsl x (List.mem_of_mem_take hx)) (fun x hx => by cases hx; exact hxsl _ (List.mem_of_getElem? hxk))
   have hft2 : qAd (num lv) (key (rls (Es ++ (M ++ M2))) it.id) (key (rls (Es ++ (M ++ M2))) y.id) := by
    rw [eL, qAi _ (hxsl _ (List.mem_of_getElem? hxk)), qAi _ (hxsl _ (List.mem_of_getElem? hxk2))]
    exact hft
   have hjl : j + 1 ≤ (rls (Es ++ (M ++ M2))).length := (List.getElem?_eq_some_iff.1 hrl).1
   refine qCj 8 (.int .i64 ((k + 2 : Nat) : Int)) rfl (zZ (by omega)) ?_
   refine zV (ι := MpG) (j := ⟨k + 2, M ++ M2, qAz l ⟨j + 1, 0, 1⟩, p', c'⟩) ⟨by show k + 2 ≤ _; omega, ?_, qDj hsn ⟨rfl, Nat.le_refl _⟩, ?_, qGp (fun i hi => by have := hid i hi; show i.id ≤ (rls (Es ++ (M ++ M2))).length; rw [eL, List.length_append]; omega) hjl, qHv hsn (Nat.le_refl _) (qFs hfr hwf2 hrl hMx)⟩ (by show xs.length - (k + 2) < xs.length - k; omega) ⟨rfl, rfl, rfl, rfl, rfl, trivial⟩ ?_
   ·show PgB (rls (Es ++ (M ++ M2))) (num lv) (xs.take (k + 2)) (qAa (qAz l ⟨j + 1, 0, 1⟩)) _
    rw [eT2, qAt hsn rfl]
    exact hpg2.pair hwf2 hft2 hrl
   ·show (M ++ M2).length + (qAa (qAz l ⟨j + 1, 0, 1⟩)).length ≤ k + 2
    rw [qAt hsn rfl]
    simp
    omega
   exact uI
 obtain rfl : k = its.length := by omega
 refine kM (qU (qU (zK (qM (qN (qL (uM rfl (uA rfl (uA rfl (qO (qM (kE ?_))))))))))))
 apply kF
 ·rfl
 ·(apply Rs.tmp rfl; apply Rs.tmp rfl; exact Rs.nil)
 ·refine ⟨M, l, p1, c1, rfl, by omega, ?_, hsn, hfr, rfl⟩
  have := hpg.1
  rwa [List.take_of_length_le (by omega)] at this
 exact uI
end
section
variable {E : Env} {Es : List Ent} {pp tb s most S : Nat}
def oddl (o : Nat) : List Nat := if o = 0 then [] else [o]
theorem zCn {o a b : Nat} (hb : b ≠ 0) : ∀ t, [o] ++ itF ⟨a, b, t + 1⟩ = [o, a] ++ (List.replicate t [b, a]).flatten ++ [b]
 | 0 => by simp [itF, hb]
 | t + 1 => by
  have ih := zCn (o := b) (a := a) hb t
  have e : itF ⟨a, b, t + 1 + 1⟩ = [a] ++ ([b] ++ itF ⟨a, b, t + 1⟩) := by
   simp [itF, hb, List.replicate_succ]
  rw [e, ih, List.replicate_succ, List.flatten_cons]
  simp
structure MtG where
 k : Nat
 M : List Ent
 l : List It
 p : Option Addr
 c : Nat
 o : Nat
 ok : Nat
 ot : Nat
 done : List Nat
structure MtI (Es : List Ent) (its : List It) (x : MtG) : Prop where
 le : x.k ≤ its.length
 pg : PgB (rls (Es ++ x.M)) 122 x.done (qAa x.l) ((oddl x.o ++ qAa (its.drop x.k)).head?)
 row : x.done ++ oddl x.o = qAa (its.take x.k)
 sng : Sng x.l
 room : x.M.length + (qAa x.l).length ≤ x.done.length
 ids : ∀ i ∈ x.l, i.id ≤ (rls (Es ++ x.M)).length
 odd : x.o ≠ 0 → x.ok = key (rls Es) x.o ∧ x.ot = 1
 fresh : Fresh Es.length (Es ++ x.M).length (qAa x.l)
theorem MtI.oid {Es : List Ent} {its : List It} {x : MtG} (h : MtI Es its x) (hids : ∀ y ∈ qAa its, 1 ≤ y ∧ y ≤ (rls Es).length) : x.o ≤ (rls Es).length := by
 by_cases h0 : x.o = 0
 ·omega
 have hm : x.o ∈ qAa (its.take x.k) := by rw [← h.row, oddl, if_neg h0]; simp
 refine (hids x.o ?_).2
 have : qAa its = qAa (its.take x.k) ++ qAa (its.drop x.k) := by rw [← qAm, List.take_append_drop]
 rw [this]
 exact List.mem_append_left _ hm
theorem qKo (hE : Seat E) (hB : Base E.w0) {cs : List Value} {its : List It} {p : Option Addr} {c lv : Nat} (hev : lv % 2 = 0) (hnum : num lv = 122) (h0 : cs[0]? = some (uPt pp)) (h11 : cs[11]? = some (.slice p its.length c)) (hit0 : ItT (rls Es) its) (hlen : (qAa its).length ≤ 800000000000)
  (hids : ∀ x ∈ qAa its, 1 ≤ x ∧ x ≤ (rls Es).length) (hadj : ∀ A x y B, qAa its = A ++ [x, y] ++ B → len (rls Es) x + len (rls Es) y ≤ kK) (hroom : RmS Es most lv (qAa its)) :
  Ct E 89 [uPt S] [cells pp [uPt s, uPt tb] 57, tabP tb s (rls Es), zU s most Es, cells S cs 113, sl p c 149 4 its.length (itsC (rls Es) its)]
   (fun v Q => ∃ M l p' c', v = .tuple #[.slice p' l.length c', .nilIface] ∧ M.length + (qAa l).length ≤ (qAa its).length ∧ Pg (rls (Es ++ M)) 122 (qAa its) (qAa l) ∧ Sng l ∧ Fresh Es.length (Es ++ M).length (qAa l) ∧ Q = [cells pp [uPt s, uPt tb] 57, tabP tb s (rls (Es ++ M)), zU s most (Es ++ M), cells S cs 113, sl p' c' 149 4 l.length (itsC (rls (Es ++ M)) l)]) := by
 have hil := qEw (its := its) fun it h => (hit0 it h).1
 refine zR (hE.fn Tryd.func89) rfl rfl rfl (fun R => ?_)
 simp only [qAo, uV, uW]
 refine qN (qL (uA rfl (uA rfl (qO (qM (qN (qL (uA rfl (qO (qM (qN (qL ?_))))))))))))
 refine uU (kI (hE.t rfl) (fun b5 => ?_))
 refine qO (qM (qN (qL (uA rfl (qO (qM (qN (qN (qL (uM rfl (uB (zD rfl) ?_)))))))))))
 refine uB (uBf rfl) ?_
 refine uL ?_
 refine uB (uBl rfl) ?_
 refine uM rfl (qO (qM (zN ?_)))
 refine qKh (qDq (t := 149) (sz := 4)) ?_
 refine qDb (fun x : MtG => [(0, uPt S), (4, .slice x.p x.l.length x.c), (5, uPt b5), (6, .nilIface), (12, .slice p its.length c), (13, .int .i64 (its.length : Nat)), (14, .int .i64 (x.k : Nat))]) (fun x => [cells pp [uPt s, uPt tb] 57, tabP tb s (rls (Es ++ x.M)), zU s most (Es ++ x.M), cells S cs 113, sl p c 149 4 its.length (itsC (rls Es) its), sl x.p x.c 149 4 x.l.length (itsC (rls (Es ++ x.M)) x.l), cells b5 [.int .i64 (x.o : Nat), .int .i64 0, .int .u64 (x.ok : Nat), .int .i64 (x.ot : Nat)] 149, R]) (fun x => its.length - x.k) (MtI Es its) ⟨0, [], [], none, 0, 0, 0, 0, []⟩ ⟨Nat.zero_le _, PgB.start _ _ _, rfl, fun i hi => by simp at hi, Nat.le_refl _, fun i hi => by simp at hi, fun h => absurd rfl h, fun z h1 h2 => by simp at h2; omega⟩ ⟨rfl, rfl, rfl, rfl, rfl, rfl, rfl, trivial⟩ ?_ ?_
 ·rw [List.append_nil]
  exact uI
 rintro ⟨k, M, l, p1, c1, o, ok, ot, done⟩ hI
 have hoid := hI.oid hids
 have hk := hI.le
 have hpg := hI.pg
 have hrow := hI.row
 have hsn := hI.sng
 have hrm := hI.room
 have hid := hI.ids
 have hodd := hI.odd
 have hfr := hI.fresh
 simp only at hoid hk hpg hrow hsn hrm hid hodd hfr ⊢
 have hfd : qAa its = qAa (its.take k) ++ qAa (its.drop k) := by rw [← qAm, List.take_append_drop]
 have hdl : done.length ≤ (qAa its).length := by rw [hfd, ← hrow]; simp
 have hll2 : l.length ≤ 800000000000 := by
  have := qEw (its := l) fun i hi => (hsn i hi).2
  omega
 have htl : ∀ y ∈ l, y.times ≤ 800000000000 := qGv (by omega)
 have hpu : o ≠ 0 → Ct E 96 [.slice p1 l.length c1, .agg #[.int .i64 (o : Nat), .int .i64 0, .int .u64 (ok : Nat), .int .i64 (ot : Nat)]] [sl p1 c1 149 4 l.length (itsC (rls (Es ++ M)) l)] (fun v Q => ∃ p' c', v = .slice p' (qAz l ⟨o, 0, 1⟩).length c' ∧ Q = [sl p' c' 149 4 (qAz l ⟨o, 0, 1⟩).length (itsC (rls (Es ++ M)) (qAz l ⟨o, 0, 1⟩))]) := fun hz => by
  obtain ⟨rfl, rfl⟩ := hodd hz
  have := qMa (x := ⟨o, 0, 1⟩) (l := l) (p := p1) (c := c1) (L := rls (Es ++ M)) hE (by omega) (fun y hy => by have h1 := htl y hy; show y.times + 1 ≤ _; omega)
  simp only at this
  rw [show key (rls (Es ++ M)) o = key (rls Es) o by rw [kJ]; exact qAi _ hoid] at this
  exact this
 refine qN (qL (uB (y_lt rfl rfl) ?_))
 refine qO (qM (qN ?_))
 refine zH rfl (fun hlt => ?_) (fun hlt => ?_)
 ·have hkn : k < its.length := by omega
  obtain ⟨it, hit⟩ : ∃ x, its[k]? = some x := ⟨_, List.getElem?_eq_getElem hkn⟩
  have hmem := List.mem_of_getElem? hit
  obtain ⟨i1, i2, i3⟩ := hit0 it hmem
  have eD := qMu hit
  have eT : its.take (k + 1) = its.take k ++ [it] := by rw [List.take_add_one, hit]; rfl
  have hir := hids it.id (qWw hmem i1)
  obtain ⟨f0, f1, f2, f3⟩ := qJr (L := rls Es) hit (0 + ((k : Nat) : Int).toNat * 4) (by omega)
  have hhd : (qAa (its.drop k)).head? = some it.id := by rw [eD, qBj, List.head?_append, qHy i1]; rfl
  refine qFd (p := sl p c 149 4 its.length (itsC (rls Es) its)) uK (fun _ h => qCc h (by omega)) ?_
  rintro ⟨g, rfl⟩
  refine zF (qM (qN (zN (qN (qL (uB (uAi rfl rfl) ?_))))))
  refine uB (uG) ?_
  refine uU (kI (hE.t rfl) (fun b8 => ?_))
  refine uU (uS ?_)
  refine qO (qM ?_)
  refine qIe (fun x : MtG => [(0, uPt S), (4, .slice x.p x.l.length x.c), (5, uPt b5), (6, .nilIface), (8, uPt b8), (12, .slice (some ⟨g, 0, none⟩) its.length c), (13, .int .i64 (its.length : Nat)), (14, .int .i64 (k : Nat))]) (fun x => [cells pp [uPt s, uPt tb] 57, tabP tb s (rls (Es ++ M)), zU s most (Es ++ M), cells S cs 113, sl (some ⟨g, 0, none⟩) c 149 4 its.length (itsC (rls Es) its), sl x.p x.c 149 4 x.l.length (itsC (rls (Es ++ M)) x.l), cells b5 [.int .i64 (x.o : Nat), .int .i64 0, .int .u64 (x.ok : Nat), .int .i64 (x.ot : Nat)] 149, cells b8 [.int .i64 (it.id : Nat), .int .i64 (it.next : Nat), .int .u64 (key (rls Es) it.id : Nat), .int .i64 (it.times : Nat)] 149, R]) (fun x => MtI Es its x ∧ x.k = k ∧ x.M = M ∧ (x.o ≠ 0 → key (rls Es) x.o = key (rls Es) it.id)) ?_ ?_
  ·refine qN (qL ?_)
   refine uB (uBf rfl) ?_
   refine uL ?_
   refine uB (y_ne rfl rfl) ?_
   refine uM rfl ?_
   refine qAn 21 rfl (fun h1 => ?_) (fun h1 => ?_)
   ·have hoz : o ≠ 0 := by omega
    obtain ⟨q1, q2⟩ := hodd hoz
    refine kT rfl rfl (uB (uBf rfl) ?_)
    refine kT rfl rfl (uL ?_)
    refine kT rfl rfl (uB (uBf rfl) ?_)
    refine kT rfl rfl (uL ?_)
    refine kT rfl rfl (uB (y_ne rfl rfl) ?_)
    refine uB (zA rfl rfl) ?_
    refine qO (qM ?_)
    refine zH rfl (fun h2 => ?_) (fun h2 => ?_)
    ·refine qN (qL ?_)
     refine uM rfl (uB (uG) ?_)
     refine uX (hpu hoz) rfl ?_
     rintro _ _ ⟨p', c', rfl, rfl⟩
     simp only [uV, uW]
     refine uA rfl (qO (qM (qL (uB (uBf rfl) ?_))))
     refine uU (uS ?_)
     refine qO ?_
     have hol : oddl o = [o] := if_neg hoz
     rw [hol] at hpg hrow
     refine qBq (ι := MtG) ⟨k, M, qAz l ⟨o, 0, 1⟩, p', c', 0, ok, ot, done ++ [o]⟩ ⟨⟨hk, ?_, ?_, qDj hsn ⟨rfl, Nat.le_refl _⟩, ?_, qGp hid (by show o ≤ _; rw [kJ, List.length_append]; omega), fun h => absurd rfl h, qHu hsn hfr⟩, rfl, rfl, fun h => absurd rfl h⟩ ⟨rfl, rfl, rfl, rfl, rfl, rfl, rfl, rfl, trivial⟩ ?_
     ·show PgB (rls (Es ++ M)) 122 (done ++ [o]) (qAa (qAz l ⟨o, 0, 1⟩)) ((oddl 0 ++ qAa (its.drop k)).head?)
      rw [qAt hsn rfl]
      refine PgB.single hpg fun v hv hf => ?_
      have e0 : oddl 0 = [] := rfl
      rw [e0, List.nil_append, hhd] at hv
      cases hv
      rw [qGj rfl, kJ, qAi _ hoid, qAi _ hir.2] at hf
      omega
     ·show done ++ [o] ++ oddl 0 = _
      rw [← hrow]
      simp [oddl]
     ·show M.length + (qAa (qAz l ⟨o, 0, 1⟩)).length ≤ (done ++ [o]).length
      rw [qAt hsn rfl]
      simp
      omega
     exact uI
    refine zF ?_
    refine qBq (ι := MtG) ⟨k, M, l, p1, c1, o, ok, ot, done⟩ ⟨hI, rfl, rfl, fun _ => by show key (rls Es) o = _; omega⟩ ⟨rfl, rfl, rfl, rfl, rfl, rfl, rfl, rfl, trivial⟩ ?_
    exact uI
   refine zW rfl rfl rfl rfl (zW rfl rfl rfl rfl (zW rfl rfl rfl rfl (zW rfl rfl rfl rfl (zW rfl rfl rfl rfl ?_))))
   refine uB (zB rfl rfl) ?_
   refine qO (qM (zG rfl (zF ?_)))
   refine qBq (ι := MtG) ⟨k, M, l, p1, c1, o, ok, ot, done⟩ ⟨hI, rfl, rfl, fun h => by exfalso; simp only at h; omega⟩ ⟨rfl, rfl, rfl, rfl, rfl, rfl, rfl, rfl, trivial⟩ ?_
   exact uI
  clear hI hpg hrow hsn hrm hid hodd hfr hdl hll2 htl hpu hoid
  rintro ⟨k', M', l, p1, c1, o, ok, ot, done⟩ ⟨hI, hk', hM', hkey⟩
  simp only at hk' hM' hkey
  replace hk' := hk'.symm
  replace hM' := hM'.symm
  subst hk'
  subst hM'
  have hoid := hI.oid hids
  have hpg := hI.pg
  have hrow := hI.row
  have hsn := hI.sng
  have hrm := hI.room
  have hid := hI.ids
  have hodd := hI.odd
  have hfr := hI.fresh
  simp only at hoid hpg hrow hsn hrm hid hodd hfr ⊢
  rw [eD, qBj] at hfd
  have hitl : 1 ≤ (itF it).length := by
   have := qHy i1
   cases e : itF it with
   | nil => rw [e] at this; simp at this
   | cons q qs => simp
  have hdl : done.length + 1 ≤ (qAa its).length := by rw [hfd, ← hrow]; simp; omega
  have hll2 : l.length ≤ 800000000000 := by
   have := qEw (its := l) fun i hi => (hsn i hi).2
   omega
  have htl : ∀ y ∈ l, y.times ≤ 800000000000 := qGv (by omega)
  have htt : it.times ≤ 800000000000 := qGv hlen it hmem
  have hrt : (qAa (its.take (k + 1))) = qAa (its.take k) ++ itF it := by rw [eT, qAm, qBv]
  have bnd : ∀ {x : Nat}, x ≤ (rls Es).length → x ≤ (rls (Es ++ M)).length := fun h => by rw [kJ, List.length_append]; omega
  have hspl : it.next ≠ 0 → itF it = [it.id, it.next] ++ (List.replicate (it.times - 1) [it.id, it.next]).flatten := fun hn => by
   obtain ⟨m, hm⟩ : ∃ m, it.times = m + 1 := ⟨it.times - 1, by omega⟩
   unfold itF
   rw [if_neg hn, hm, Nat.add_sub_cancel, List.replicate_succ, List.flatten_cons]
  have hnid : it.next ≠ 0 → 1 ≤ it.next ∧ it.next ≤ (rls Es).length := fun hn => hids it.next (by
   rw [hfd, hspl hn]
   simp)
  have hefl : qAa its = done ++ (oddl o ++ qAa (its.drop k)) := by rw [← List.append_assoc, hrow, ← qAm, List.take_append_drop]
  have hpgk := hpg
  rw [List.head?_append, hhd] at hpg
  refine qFd (p := zU s most (Es ++ M)) uK (fun _ h => (qAb h).1) ?_
  intro hwf0
  have hrm0 : (Es ++ M).length < most := hroom M hwf0 fun z z1 z2 => nx_pg hev hnum (rest := oddl o ++ qAa (its.drop k)) hefl hpgk (fun x hx => bnd (hids x hx).2) (hfr z z1 z2)
  refine qN (zN (qN (qL (uB (uBf rfl) ?_))))
  refine uL ?_
  refine uB (y_eq rfl rfl) ?_
  refine uM rfl ?_
  refine qAn 71 rfl (fun h4 => ?_) (fun h4 => ?_)
  ·obtain rfl : o = 0 := by omega
   have hpg0 : PgB (rls (Es ++ M)) 122 done (qAa l) (some it.id) := hpg
   have hrow0 : done = qAa (its.take k) := by rw [← hrow]; simp [oddl]
   refine kT rfl rfl (uB (uBf rfl) ?_)
   refine kT rfl rfl (uL ?_)
   refine kT rfl rfl (uB (y_eq rfl rfl) ?_)
   refine uB (zA rfl rfl) ?_
   refine uA rfl (qO (qM ?_))
   refine zH rfl (fun h5 => ?_) (fun h5 => ?_)
   ·have hnx : it.next = 0 := by omega
    have htm := i2 hnx
    refine qL (uB (uG) ?_)
    refine uU (uS ?_)
    refine qO (zL (qM (qN (qL (uM rfl (uB (qAk rfl (hE.t rfl)) ?_))))))
    refine qO (qM (zG rfl (zF (zL (qM (qL (uB (uAa rfl rfl) ?_)))))))
    refine uM rfl (qO ?_)
    refine qCj 14 (.int .i64 ((k + 1 : Nat) : Int)) rfl (zZ (by omega)) ?_
    refine zV (ι := MtG) (j := ⟨k + 1, M, l, p1, c1, it.id, key (rls Es) it.id, it.times, done⟩) ⟨hkn, ?_, ?_, hsn, hrm, hid, fun _ => ⟨rfl, htm⟩, hfr⟩ (by show its.length - (k + 1) < its.length - k; omega) ⟨rfl, rfl, rfl, rfl, rfl, rfl, rfl, trivial⟩ ?_
    ·show PgB _ 122 done (qAa l) ((oddl it.id ++ qAa (its.drop (k + 1))).head?)
     rw [oddl, if_neg (by omega)]
     exact hpg0
    ·show done ++ oddl it.id = _
     rw [hrt, ← hrow0, qDg hnx, htm, oddl, if_neg (by omega)]
     rfl
    rw [hnx]
    exact uI
   have hnx : it.next ≠ 0 := by omega
   obtain ⟨n1, n2⟩ := hnid hnx
   have hln := hadj (qAa (its.take k)) it.id it.next ((List.replicate (it.times - 1) [it.id, it.next]).flatten ++ qAa (its.drop (k + 1))) (by rw [hfd, hspl hnx]; simp)
   have hpp := qGc (Es := Es ++ M) (S := S) (cs := cs) (l := l) (x := it.id) (y := it.next) (t := it.times) (p := p1) (c := c1) (pp := pp) (tb := tb) (s := s) (most := most) hE hB h0 (by omega) (fun i hi => by have := htl i hi; omega) hid ⟨hir.1, bnd hir.2⟩ ⟨n1, bnd n2⟩ (by rw [kJ, qGn _ hir.2, qGn _ n2]; exact hln) hrm0
   refine qN (qL (uB (uBf rfl) ?_))
   refine uL ?_
   refine uB (y_eq rfl rfl) ?_
   refine uA rfl (qO (qM ?_))
   refine zH rfl (fun h6 => ?_) (fun h6 => ?_)
   ·refine qL ?_
    refine uM rfl (uM rfl (uB (uBf rfl) ?_))
    refine uL ?_
    refine uB (uBf rfl) ?_
    refine uL ?_
    refine uB (uBf rfl) ?_
    refine uL ?_
    refine uX (hpp) rfl ?_
    rintro _ _ ⟨M2, j, p', c', rfl, hMx, hrl, rfl⟩
    have hM2 := qTm hMx
    rw [List.append_assoc] at hrl ⊢
    simp only [uV, uW]
    refine uM rfl (uB (qX rfl rfl) (uB (qX rfl rfl) (uA rfl (uA rfl (qO (zL (qM (qN (qL (uM rfl ?_))))))))))
    refine uB (qAk rfl (hE.t rfl)) ?_
    refine qO (qM (zG rfl (zF (zL (qM (qL (uB (uAa rfl rfl) ?_)))))))
    refine uM rfl (qO ?_)
    refine qLs (p := zU s most (Es ++ (M ++ M2))) uK (fun _ h => qAb h) ?_
    rintro ⟨hwf2, -, -, -⟩
    have eL : rls (Es ++ (M ++ M2)) = rls (Es ++ M) ++ rls M2 := by rw [← List.append_assoc, kJ]
    have hpg2 : PgB (rls (Es ++ (M ++ M2))) 122 done (qAa l) (some it.id) := by
     rw [eL]
     refine hpg0.ext _ (fun x hx => bnd (hids x ?_).2) (fun x hx => by cases hx; exact bnd hir.2)
     rw [hfd, ← hrow0]
     simp [hx]
    have hf2 : qAd 122 (key (rls (Es ++ (M ++ M2))) it.id) (key (rls (Es ++ (M ++ M2))) it.next) := by
     rw [qGj rfl, eL, qAi _ (bnd hir.2), qAi _ (bnd n2), kJ, qAi _ hir.2, qAi _ n2]
     exact (i3 hnx).symm
    obtain ⟨m, hm⟩ : ∃ m, it.times = m + 1 := ⟨it.times - 1, by omega⟩
    have hprs := PgB.pairs hwf2 hf2 hrl m hpg2 (nxt := (oddl 0 ++ qAa (its.drop (k + 1))).head?)
    rw [← hm] at hprs
    have eit : itF it = (List.replicate it.times [it.id, it.next]).flatten := by unfold itF; rw [if_neg hnx]
    have hjl : j + 1 ≤ (rls (Es ++ (M ++ M2))).length := (List.getElem?_eq_some_iff.1 hrl).1
    refine qCj 14 (.int .i64 ((k + 1 : Nat) : Int)) rfl (zZ (by omega)) ?_
    refine zV (ι := MtG) (j := ⟨k + 1, M ++ M2, qAz l ⟨j + 1, 0, it.times⟩, p', c', 0, ok, ot, done ++ itF it⟩) ⟨hkn, ?_, ?_, qDj hsn ⟨rfl, i1⟩, ?_, qGp (fun i hi => by have := hid i hi; show i.id ≤ (rls (Es ++ (M ++ M2))).length; rw [eL, List.length_append]; omega) hjl, fun h => absurd rfl h, qHv hsn i1 (qFs hfr hwf2 hrl hMx)⟩ (by show its.length - (k + 1) < its.length - k; omega) ⟨rfl, rfl, rfl, rfl, rfl, rfl, rfl, trivial⟩ ?_
    ·show PgB _ 122 (done ++ itF it) (qAa (qAz l ⟨j + 1, 0, it.times⟩)) _
     rw [qAt hsn rfl, eit]
     exact hprs
    ·show done ++ itF it ++ oddl 0 = _
     rw [hrt, hrow0]
     simp [oddl]
    ·show (M ++ M2).length + (qAa (qAz l ⟨j + 1, 0, it.times⟩)).length ≤ (done ++ itF it).length
     rw [qAt hsn rfl, eit]
     have hrl2 : ∀ t, (List.replicate t [it.id, it.next]).flatten.length = 2 * t := fun t => by
      induction t with
      | zero => rfl
      | succ t ih => rw [List.replicate_succ, List.flatten_cons, List.length_append, ih]; simp; omega
     simp only [List.length_append, List.length_replicate, hrl2]
     omega
    exact uI
   exfalso; omega
  have hoz : o ≠ 0 := by omega
  obtain ⟨rfl, rfl⟩ := hodd hoz
  have hkk := hkey hoz
  have hol : oddl o = [o] := if_neg hoz
  rw [hol] at hpg hrow
  have hpg1 : PgB (rls (Es ++ M)) 122 done (qAa l) (some o) := hpg
  obtain ⟨tl, htl2⟩ : ∃ tl, itF it = it.id :: tl := by
   have := qHy i1
   cases e : itF it with
   | nil => rw [e] at this; simp at this
   | cons q qs => rw [e] at this; simp at this; subst this; exact ⟨qs, rfl⟩
  have ho1 : 1 ≤ o := by omega
  have hln := hadj done o it.id (tl ++ qAa (its.drop (k + 1))) (by rw [hfd, ← hrow, htl2]; simp)
  have hpp := qGc (Es := Es ++ M) (S := S) (cs := cs) (l := l) (x := o) (y := it.id) (t := 1) (p := p1) (c := c1) (pp := pp) (tb := tb) (s := s) (most := most) hE hB h0 (by omega) (fun i hi => by have := htl i hi; omega) hid ⟨ho1, bnd hoid⟩ ⟨hir.1, bnd hir.2⟩ (by rw [kJ, qGn _ hir.2, qGn _ hoid]; exact hln) hrm0
  refine zW rfl rfl rfl rfl (zW rfl rfl rfl rfl (zW rfl rfl rfl rfl ?_))
  refine uB (zB rfl rfl) ?_
  refine uA rfl (qO (qM (zG rfl (qN (qL (uB (uBf rfl) ?_))))))
  refine uL ?_
  refine uB (y_eq rfl rfl) ?_
  refine uA rfl (qO (qM ?_))
  refine zH rfl (fun h6 => ?_) (fun h6 => ?_)
  ·exfalso; omega
  refine qN (qL ?_)
  refine uM rfl (uM rfl (uB (uBf rfl) ?_))
  refine uL ?_
  refine uB (uBf rfl) ?_
  refine uL ?_
  refine uX (hpp) rfl ?_
  rintro _ _ ⟨M2, j, p', c', rfl, hMx, hrl, rfl⟩
  have hM2 := qTm hMx
  rw [List.append_assoc] at hrl ⊢
  simp only [uV, uW]
  have eL : rls (Es ++ (M ++ M2)) = rls (Es ++ M) ++ rls M2 := by rw [← List.append_assoc, kJ]
  have hjl : j + 1 ≤ (rls (Es ++ (M ++ M2))).length := (List.getElem?_eq_some_iff.1 hrl).1
  have bnd2 : ∀ {x : Nat}, x ≤ (rls Es).length → x ≤ (rls (Es ++ (M ++ M2))).length := fun h => by rw [kJ, List.length_append]; omega
  have hsn2 : Sng (qAz l ⟨j + 1, 0, 1⟩) := qDj hsn ⟨rfl, Nat.le_refl _⟩
  have hid2 := qGp (x := ⟨j + 1, 0, 1⟩) (fun i hi => by have := hid i hi; show i.id ≤ (rls (Es ++ (M ++ M2))).length; rw [eL, List.length_append]; omega) hjl
  have hft : ∀ {N : List Ent}, qAd 122 (key (rls (Es ++ N)) o) (key (rls (Es ++ N)) it.id) := fun {N} => by
   rw [qGj rfl, kJ, qAi _ hoid, qAi _ hir.2]
   exact hkk
  have hdn : ∀ x ∈ done, x ≤ (rls Es).length := fun x hx => (hids x (by rw [hfd, ← hrow]; simp [hx])).2
  have hpgx : PgB (rls (Es ++ (M ++ M2))) 122 done (qAa l) (some o) := by
   rw [eL]
   exact hpg1.ext _ (fun x hx => bnd (hdn x hx)) (fun x hx => by cases hx; exact bnd hoid)
  have hl2 : (qAa (qAz l ⟨j + 1, 0, 1⟩)) = qAa l ++ [j + 1] := qAt hsn rfl
  refine qId (p := zU s most (Es ++ (M ++ M2))) uK (fun _ h => qAb h) ?_
  rintro ⟨hwf2, -, -, -⟩
  have hfr2 : Fresh Es.length (Es ++ (M ++ M2)).length (qAa (qAz l ⟨j + 1, 0, 1⟩)) := qHv hsn (Nat.le_refl _) (qFs hfr hwf2 hrl hMx)
  have hpg2 : ∀ nx, PgB (rls (Es ++ (M ++ M2))) 122 (done ++ [o, it.id]) (qAa (qAz l ⟨j + 1, 0, 1⟩)) nx := fun nx => by
   rw [hl2]
   exact hpgx.pair hwf2 hft hrl
  refine uM rfl (uB (qX rfl rfl) (uB (qX rfl rfl) (uA rfl (uA rfl (qO (qM (qN (qN (qL (uM rfl ?_))))))))))
  refine uB (qFc rfl (hE.t rfl)) ?_
  refine uM rfl (kT rfl rfl (uB (uBf rfl) ?_))
  refine kT rfl rfl (uL ?_)
  refine kT rfl rfl (uB (y_gt rfl rfl) ?_)
  refine uB (zA rfl rfl) ?_
  refine qO (qM ?_)
  refine zH rfl (fun h7 => ?_) (fun h7 => ?_)
  ·have hnx : it.next ≠ 0 := fun e => by have := i2 e; omega
   obtain ⟨n1, n2⟩ := hnid hnx
   obtain ⟨m, hm⟩ : ∃ m, it.times = m + 2 := ⟨it.times - 2, by omega⟩
   have hlt2 : (qAa (qAz l ⟨j + 1, 0, 1⟩)).length ≤ 800000000000 := by rw [hl2]; simp; omega
   have htl3 := qGv hlt2
   have hll3 := qEw (its := qAz l ⟨j + 1, 0, 1⟩) fun i hi => (hsn2 i hi).2
   have hitf : itF it = [it.id] ++ [it.next, it.id] ++ ([it.next] ++ (List.replicate m [it.id, it.next]).flatten) := by
    unfold itF
    rw [if_neg hnx, hm, List.replicate_succ, List.replicate_succ, List.flatten_cons, List.flatten_cons]
    simp
   have hln2 := hadj (done ++ [o] ++ [it.id]) it.next it.id ([it.next] ++ (List.replicate m [it.id, it.next]).flatten ++ qAa (its.drop (k + 1))) (by rw [hfd, ← hrow, hitf]; simp)
   have hpp2 := qGc (Es := Es ++ (M ++ M2)) (S := S) (cs := cs) (l := qAz l ⟨j + 1, 0, 1⟩) (x := it.next) (y := it.id) (t := it.times - 1) (p := p') (c := c') (pp := pp) (tb := tb) (s := s) (most := most) hE hB h0 (by omega) (fun i hi => by have := htl3 i hi; omega) hid2 ⟨n1, bnd2 n2⟩ ⟨hir.1, bnd2 hir.2⟩ (by rw [kJ, qGn _ hir.2, qGn _ n2]; exact hln2) (hroom (M ++ M2) hwf2 fun z z1 z2 => nx_pg hev hnum (done := done ++ [o, it.id]) (rest := tl ++ qAa (its.drop (k + 1))) (by rw [hfd, ← hrow, htl2]; simp) (hpg2 _) (fun x hx => bnd2 (hids x hx).2) (hfr2 z z1 z2))
   refine qL (uM rfl (uM rfl (uB (uBf rfl) ?_)))
   refine uL ?_
   refine uB (uBf rfl) ?_
   refine uL ?_
   refine uB (uBf rfl) ?_
   refine uL ?_
   refine uB (uAs rfl rfl) ?_
   refine l_eq 58 (.int .i64 ((it.times - 1 : Nat) : Int)) rfl (zZ (by omega)) ?_
   refine uX (hpp2) rfl ?_
   rintro _ _ ⟨M3, j2, p'', c'', rfl, hMx3, hrl2, rfl⟩
   have hM3 := qTm hMx3
   rw [List.append_assoc] at hrl2 ⊢
   simp only [uV, uW]
   refine uM rfl (uB (qX rfl rfl) (uB (qX rfl rfl) (uA rfl (uA rfl (qO (qM (qL (uB (uBf rfl) ?_))))))))
   refine uL ?_
   refine uB (uBf rfl) ?_
   refine uL ?_
   refine uB (qAl (hE.t rfl) rfl rfl) ?_
   refine uU (uS ?_)
   refine qO (zL (qM (qN (qL (uM rfl (uB (qAk rfl (hE.t rfl)) ?_))))))
   refine qO (qM (zG rfl (zF (zL (qM (qL (uB (uAa rfl rfl) ?_)))))))
   refine uM rfl (qO ?_)
   refine qLs (p := zU s most (Es ++ ((M ++ M2) ++ M3))) uK (fun _ h => qAb h) ?_
   rintro ⟨hwf3, -, -, -⟩
   have eL3 : rls (Es ++ ((M ++ M2) ++ M3)) = rls (Es ++ (M ++ M2)) ++ rls M3 := by rw [← List.append_assoc, kJ]
   have hpg3 : PgB (rls (Es ++ ((M ++ M2) ++ M3))) 122 (done ++ [o, it.id]) (qAa (qAz l ⟨j + 1, 0, 1⟩)) (some it.next) := by
    rw [eL3]
    refine (hpg2 (some it.next)).ext _ (fun x hx => ?_) (fun x hx => by cases hx; exact bnd2 n2)
    rcases List.mem_append.1 hx with h | h
    ·exact bnd2 (hdn x h)
    simp at h
    rcases h with rfl | rfl
    ·exact bnd2 hoid
    exact bnd2 hir.2
   have hf3 : qAd 122 (key (rls (Es ++ ((M ++ M2) ++ M3))) it.next) (key (rls (Es ++ ((M ++ M2) ++ M3))) it.id) := by
    rw [qGj rfl, kJ, qAi _ hir.2, qAi _ n2]
    exact i3 hnx
   have hprs := PgB.pairs hwf3 hf3 hrl2 m hpg3 (nxt := (oddl it.next ++ qAa (its.drop (k + 1))).head?)
   have hj2 : j2 + 1 ≤ (rls (Es ++ ((M ++ M2) ++ M3))).length := (List.getElem?_eq_some_iff.1 hrl2).1
   have hm1 : it.times - 1 = m + 1 := by omega
   have est := zCn (o := o) (a := it.id) hnx (m + 1)
   have eit : (⟨it.id, it.next, m + 1 + 1⟩ : It) = it := by
    obtain ⟨a, b, d⟩ := it
    simp only at hm
    rw [hm]
   rw [eit] at est
   refine qCj 14 (.int .i64 ((k + 1 : Nat) : Int)) rfl (zZ (by omega)) ?_
   refine zV (ι := MtG) (j := ⟨k + 1, (M ++ M2) ++ M3, qAz (qAz l ⟨j + 1, 0, 1⟩) ⟨j2 + 1, 0, it.times - 1⟩, p'', c'', it.next, key (rls Es) it.id, 1, done ++ [o, it.id] ++ (List.replicate (m + 1) [it.next, it.id]).flatten⟩) ⟨hkn, ?_, ?_, qDj hsn2 ⟨rfl, by show 1 ≤ it.times - 1; omega⟩, ?_, qGp (fun i hi => by have := hid2 i hi; show i.id ≤ (rls (Es ++ ((M ++ M2) ++ M3))).length; rw [eL3, List.length_append]; omega) hj2, fun _ => ⟨(i3 hnx).symm, rfl⟩, qHv hsn2 (by omega) (qFs hfr2 hwf3 hrl2 hMx3)⟩ (by show its.length - (k + 1) < its.length - k; omega) ⟨rfl, rfl, rfl, rfl, rfl, rfl, rfl, trivial⟩ ?_
   ·show PgB _ 122 _ (qAa (qAz (qAz l ⟨j + 1, 0, 1⟩) ⟨j2 + 1, 0, it.times - 1⟩)) _
    rw [qAt hsn2 rfl, hm1]
    exact hprs
   ·show done ++ [o, it.id] ++ (List.replicate (m + 1) [it.next, it.id]).flatten ++ oddl it.next = _
    rw [hrt, ← hrow, oddl, if_neg hnx, List.append_assoc done [o], est]
    simp
   ·show ((M ++ M2) ++ M3).length + (qAa (qAz (qAz l ⟨j + 1, 0, 1⟩) ⟨j2 + 1, 0, it.times - 1⟩)).length ≤ _
    have hrl4 : ∀ t, (List.replicate t [it.next, it.id]).flatten.length = 2 * t := fun t => by
     induction t with
     | zero => rfl
     | succ t ih => rw [List.replicate_succ, List.flatten_cons, List.length_append, ih]; simp; omega
    rw [qAt hsn2 rfl, hl2, hm1]
    simp only [List.length_append, List.length_replicate, hrl4, List.length_cons, List.length_nil]
    omega
   exact uI
  have htm : it.times = 1 := by omega
  refine zF (qM (qL (uB (uBf rfl) ?_)))
  refine uL ?_
  refine uB (uBf rfl) ?_
  refine uL ?_
  refine uB (qAl (hE.t rfl) rfl rfl) ?_
  refine uU (uS ?_)
  refine qO (zL (qM (qN (qL (uM rfl (uB (qAk rfl (hE.t rfl)) ?_))))))
  refine qO (qM (zG rfl (zF (zL (qM (qL (uB (uAa rfl rfl) ?_)))))))
  refine uM rfl (qO ?_)
  refine qCj 14 (.int .i64 ((k + 1 : Nat) : Int)) rfl (zZ (by omega)) ?_
  refine zV (ι := MtG) (j := ⟨k + 1, M ++ M2, qAz l ⟨j + 1, 0, 1⟩, p', c', it.next, key (rls Es) it.id, 1, done ++ [o, it.id]⟩) ⟨hkn, hpg2 _, ?_, hsn2, ?_, hid2, fun h => ⟨(i3 h).symm, rfl⟩, hfr2⟩ (by show its.length - (k + 1) < its.length - k; omega) ⟨rfl, rfl, rfl, rfl, rfl, rfl, rfl, trivial⟩ ?_
  ·show done ++ [o, it.id] ++ oddl it.next = _
   rw [hrt, ← hrow, oddl]
   unfold itF
   rw [htm]
   split <;> simp
  ·show (M ++ M2).length + (qAa (qAz l ⟨j + 1, 0, 1⟩)).length ≤ (done ++ [o, it.id]).length
   rw [hl2]
   simp
   omega
  exact uI
 obtain rfl : k = its.length := by omega
 rw [List.drop_of_length_le (Nat.le_refl _)] at hpg
 rw [List.take_of_length_le (Nat.le_refl _)] at hrow
 refine kM (qU (qU (zK (qM (qN (qN (qL (uB (uBf rfl) ?_))))))))
 refine uL ?_
 refine uB (y_ne rfl rfl) ?_
 refine qO (qM ?_)
 refine zH rfl (fun h8 => ?_) (fun h8 => ?_)
 ·have hoz : o ≠ 0 := by omega
  have hol : oddl o = [o] := if_neg hoz
  rw [hol] at hpg hrow
  refine qL (uM rfl (uB (uG) ?_))
  refine uX (hpu hoz) rfl ?_
  rintro _ _ ⟨p', c', rfl, rfl⟩
  simp only [uV, uW]
  refine uA rfl (qO (qM (qN (qL (uM rfl (uA rfl (uA rfl (qO (qM (kE ?_))))))))))
  apply kF
  ·rfl
  ·(apply Rs.tmp rfl; apply Rs.tmp rfl; exact Rs.nil)
  ·refine ⟨M, qAz l ⟨o, 0, 1⟩, p', c', rfl, ?_, ?_, qDj hsn ⟨rfl, Nat.le_refl _⟩, qHu hsn hfr, rfl⟩
   ·rw [qAt hsn rfl, ← hrow]
    simp
    omega
   rw [qAt hsn rfl, ← hrow]
   exact (PgB.single hpg (nxt := none) fun v hv => by cases hv).1
  exact uI
 obtain rfl : o = 0 := by omega
 have hrow0 : done = qAa its := by rw [← hrow]; simp [oddl]
 refine zF (qM (qN (qL (uM rfl (uA rfl (uA rfl (qO (qM (kE ?_)))))))))
 exact uZ rfl (.tmp rfl (.tmp rfl .nil)) ⟨M, l, p1, c1, rfl, by rw [← hrow0]; exact hrm, by rw [← hrow0]; exact hpg.1, hsn, hfr, rfl⟩
end
end Go.Proofs.YtlleicanafioaaaDoor
