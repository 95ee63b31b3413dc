import Derived.Test.YtddfnkijolfhbaaGreatQ61
set_option linter.all false
set_option maxHeartbeats 1000000
namespace Go.Proofs.YtddfnkijolfhbaaGreat
open Go Go.RowKit Sl Eg
set_option maxRecDepth 10000
section
variable {E : Env} {Es : List Ent} {pp tb s most : Nat}
def cpC (st : List (Nat × Nat)) : List Value := st.flatMap fun p => [.int .i64 (p.1 : Nat), .int .i64 (p.2 : Nat)]
theorem qFh (a b : List (Nat × Nat)) : cpC (a ++ b) = cpC a ++ cpC b := by simp [cpC]
theorem qHf : ∀ (st : List (Nat × Nat)), (cpC st).length = st.length * 2
 | [] => rfl
 | p :: st => by
  have := qHf st
  simp only [cpC, List.flatMap_cons, List.length_append, List.length_cons, List.length_nil] at this ⊢; omega
theorem qPl (st : List (Nat × Nat)) (x t : Nat) : cpC (st ++ [(x, t)]) = cpC st ++ .int .i64 (x : Nat) :: .int .i64 (t : Nat) :: [] := by simp [cpC]
theorem qYu {st : List (Nat × Nat)} {x t : Nat} : (cpC (st ++ [(x, t)]))[(cpC st).length]? = some (.int .i64 (x : Nat)) ∧ (cpC (st ++ [(x, t)]))[(cpC st).length + 1]? = some (.int .i64 (t : Nat)) := by
 rw [qPl]; exact ⟨ap_0, ap_1⟩
theorem cp_set {st : List (Nat × Nat)} {x t u : Nat} : zY (cpC (st ++ [(x, t)])) ((cpC st).length + 1) [.int .i64 (u : Nat)] = cpC (st ++ [(x, u)]) := by
 rw [qPl, qPl, sm_1]
theorem cp_ptr {st : List (Nat × Nat)} {g n : Nat} (h : n = st.length + 1) : (.pointer (some ⟨g, 0 + (((n : Nat) : Int) - 1).toNat * 2, none⟩) : Value) = .pointer (some ⟨g, (cpC st).length, none⟩) := by
 rw [qHf, show 0 + (((n : Nat) : Int) - 1).toNat * 2 = st.length * 2 by omega]
structure SplG where
 st : List (Nat × Nat)
 done : List UInt8
 p : Option Addr
 c : Nat
 g : Nat
 cc : Nat
theorem ct_spell (hE : Seat E) {bt g0 c0 x0 : Nat} {pre : List UInt8} (hx0 : 1 ≤ x0 ∧ x0 ≤ Es.length) (hl0 : pre.length + len (rls Es) x0 ≤ 65536) : Ct E 84 [uPt s, .int .i64 (x0 : Nat), uPt bt] [zS s most Es, cells bt [.slice (some ⟨g0, 0, none⟩) pre.length c0] 57, sl (some ⟨g0, 0, none⟩) c0 5 1 pre.length (byC pre)]
  (fun v Q => ∃ g c, v = .nilIface ∧ Q = [zS s most Es, cells bt [.slice (some ⟨g, 0, none⟩) (pre ++ txt (rls Es) x0).length c] 57, sl (some ⟨g, 0, none⟩) c 5 1 (pre ++ txt (rls Es) x0).length (byC (pre ++ txt (rls Es) x0))]) := by
 refine qBi (p := zS s most Es) uK (fun _ h => qBs h) (fun hsay => ?_)
 have hLl := zR Es
 have hlen0 : len (rls Es) x0 = (txt (rls Es) x0).length := rfl
 refine zP (hE.fn Tryz.func84) rfl rfl rfl (fun R => ?_)
 simp only [qAe, uV, uW]
 refine qL (qJ (uA rfl (qM (qK (qL (qJ (uM rfl (uB (qBc (hE.t rfl) rfl rfl) ?_))))))))
 refine uU ?_
 refine qW (hE.t rfl) (hE.t rfl) rfl rfl rfl (fun b14 => ?_)
 refine uA rfl (qM (qK (qL (zL ?_))))
 refine qAk (kE (p := cells b14 [.int .i64 (x0 : Nat), .int .i64 1] 208) (p' := sl (some ⟨b14, 0, none⟩) 1 208 2 1 (cpC [(x0, 1)])) uK (qAr rfl (by unfold maxLen; omega))) ?_
 refine qAj (fun q : SplG => [(0, uPt s), (2, uPt bt), (7, .slice q.p q.st.length q.c)]) (fun q => [zS s most Es, cells bt [.slice (some ⟨q.g, 0, none⟩) q.done.length q.cc] 57, sl (some ⟨q.g, 0, none⟩) q.cc 5 1 q.done.length (byC q.done), sl q.p q.c 208 2 q.st.length (cpC q.st), R]) (fun q => spM (rls Es) q.st) (fun q => q.done ++ spT (rls Es) q.st = pre ++ txt (rls Es) x0 ∧ SpOk (rls Es) q.st ∧ spM (rls Es) q.st ≤ 131072) ⟨[(x0, 1)], pre, some ⟨b14, 0, none⟩, 1, g0, c0⟩ ⟨by simp only [qQn], fun q hq => by
  obtain rfl := List.mem_singleton.1 hq
  exact ⟨hx0.1, by omega, Nat.le_refl _⟩, by simp only [qEz]; omega⟩ ⟨rfl, rfl, rfl, trivial⟩ uI ?_
 rintro ⟨st, done, p, c, g, cc⟩ ⟨htx, hok, hms⟩
 simp only at htx hok hms ⊢
 have hsl := hok.len hsay.1
 have htl := congrArg List.length htx
 simp only [List.length_append] at htl
 refine qL (qL (qJ (uM rfl (uB (uBl rfl) ?_))))
 refine uB (y_gt rfl rfl) ?_
 refine qM (qK ?_)
 refine zF rfl (fun h => ?_) (fun h => ?_)
 ·obtain ⟨ini, x, t, rfl⟩ : ∃ ini x t, st = ini ++ [(x, t + 1)] := by
   rcases List.eq_nil_or_concat st with rfl | ⟨ini, ⟨x, t⟩, rfl⟩
   ·simp at h
   rw [List.concat_eq_append] at hok
   have := (hok (x, t) (by simp)).2.2
   exact ⟨ini, x, t - 1, by rw [List.concat_eq_append, Nat.sub_add_cancel this]⟩
  have hil : (ini ++ [(x, t + 1)]).length = ini.length + 1 := by simp
  have hT := spT_pop (rls Es) ini x t
  have hM := spM_pop (rls Es) ini x t
  have hok' := hok.pop
  have hxx := hok (x, t + 1) (by simp)
  simp only at hxx
  obtain ⟨i, rfl⟩ : ∃ i, x = i + 1 := ⟨x - 1, by omega⟩
  have hent : Es[i]? = some (Es[i]'(by omega)) := List.getElem?_eq_getElem (by omega)
  generalize Es[i]'(by omega) = en at hent
  have hri : (rls Es)[i]? = some en.r := by simp [rls, hent]
  have hpl := qHf ini
  obtain ⟨f0, f1⟩ := qYu (st := ini) (x := i + 1) (t := t + 1)
  obtain ⟨f2, f3⟩ := qYu (st := ini) (x := i + 1) (t := t)
  refine qCw (p := sl p c 208 2 (ini ++ [(i + 1, t + 1)]).length (cpC (ini ++ [(i + 1, t + 1)]))) uK (fun _ h => And.intro (qAz h (by omega)) (qDt h).1) ?_
  rintro ⟨⟨g7, rfl⟩, hcap⟩
  have hlp := hsay.1.pos (i + 1) (by omega) (by omega)
  have htb : t + 1 ≤ 131072 := by
   have e := hms
   rw [qDw, qEz] at e
   have := Nat.mul_le_mul_left (t + 1) (show 1 ≤ 2 * len (rls Es) (i + 1) - 1 by omega)
   omega
  have hLe : en.r.ok (i + 1) := hsay.1.ok _ _ hri
  refine zC (qK (zL (qL (qJ (uM rfl (uM rfl (uB (uBl rfl) ?_)))))))
  refine uB (uAs rfl rfl) ?_
  refine uB (uAi rfl rfl) ?_
  refine l_eq 22 _ rfl (cp_ptr (st := ini) hil) ?_
  refine uA rfl (qM (qK (qL (qJ (uM rfl (uB (zB rfl) ?_))))))
  refine uB (uBf rfl) ?_
  refine uL ?_
  refine uA rfl (qM (qK (qL (qL (qJ (uM rfl (uB (zB rfl) ?_)))))))
  refine uB (uBf rfl) ?_
  refine uL ?_
  refine uB (uAs rfl rfl) ?_
  refine l_eq 31 (.int .i64 (t : Nat)) rfl (zX (by omega)) ?_
  refine uB (zB rfl) ?_
  refine uB (uBf rfl) ?_
  refine uU (uJ ?_)
  refine qM (qK ?_)
  simp only [zQ]
  rw [cp_set]
  refine qL (qJ (uM rfl (uB (zB rfl) ?_)))
  refine uB (uBf rfl) ?_
  refine uL ?_
  refine uB (y_eq rfl rfl) ?_
  refine qM (qK ?_)
  refine zF rfl (fun hz => ?_) (fun hz => ?_)
  ·obtain rfl : t = 0 := by omega
   have hpp : qTc ini (i + 1) 0 = ini := if_pos rfl
   rw [hpp] at hT hM hok'
   refine qJ (uM rfl (uM rfl (uB (uBl rfl) ?_)))
   refine uB (uAs rfl rfl) ?_
   refine uB (qDg ini.length rfl rfl (hE.t rfl) (by omega) (by omega)) ?_
   refine uA rfl (qM (qK ?_))
   refine qAk (kE (p := sl (some ⟨g7, 0, none⟩) c 208 2 (ini ++ [(i + 1, 0 + 1)]).length (cpC (ini ++ [(i + 1, 0)]))) (p' := sl (some ⟨g7, 0, none⟩) c 208 2 ini.length (cpC ini)) uK (qVz (by omega) (by rw [qFh, ← qHf]; simp) (by simp))) ?_
   refine qL (qJ (uM rfl (uM rfl (uX (qPt hE hent) rfl ?_))))
   rintro _ _ ⟨rfl, rfl⟩
   simp only [uV, uW]
   refine uM rfl (uB (qV rfl rfl) (uB (qV rfl rfl) (uU (kG (hE.t rfl) (fun b10 => ?_)))))
   refine uU (uS ?_)
   refine uA rfl (qM (qK (qL (qL (qJ (uM rfl (uB (qAf rfl (hE.t rfl)) ?_)))))))
   refine qM (qK (zD rfl ?_))
   generalize hre : en.r = r at hri
   cases r with
   | letter b =>
    have hxt : txt (rls Es) (i + 1) = [b] := qCm hri
    refine zC (qK (qL (qJ (uB (uBf rfl) ?_))))
    refine uL ?_
    refine qM (qK (zL (qL (qJ (uB (y_eq rfl rfl) ?_)))))
    refine uA rfl (qM (qK (zG rfl ?_)))
    refine uN 9 ([cells bt [.slice (some ⟨g, 0, none⟩) done.length cc] 57, cells b10 [.int .i64 (Rl.kind ((Rl.letter b)) : Nat), .int .u8 (Rl.byte ((Rl.letter b)) : Nat), .int .i64 (Rl.left ((Rl.letter b)) : Nat), .int .i64 (Rl.right ((Rl.letter b)) : Nat), .int .i64 (Rl.times ((Rl.letter b)) : Nat)] 115]) ?_
    refine uT 0 rfl (qC rfl) ?_
    refine uT 1 rfl (qC rfl) ?_
    refine uT 2 rfl (zB rfl) ?_
    refine uT 3 rfl (uY) ?_
    apply kK 4 rfl (by kernel_rfl)
    ·exact uBf rfl
    ·rfl
    apply kK 5 rfl (by kernel_rfl)
    ·(apply qO rfl (hE.t rfl) rfl; (repeat (first | rfl | assumption | constructor)); done)
    ·rfl
    apply qGp 6 rfl (by kernel_rfl) rfl
    refine qW (hE.t rfl) (hE.t rfl) rfl rfl rfl (fun b71 => ?_)
    refine uE ?_
    apply qGp 7 rfl (by kernel_rfl) rfl
    apply zV (hE.t rfl) (hE.t rfl) rfl rfl rfl
    ·exact uK
    ·exact uK
    ·rfl
    ·rfl
    ·omega
    ·omega
    ·(unfold maxLen; omega)
    intro g72 c72 n72 x72 hn72 hx72
    refine uE ?_
    apply kK 8 rfl (by kernel_rfl)
    ·exact zB rfl
    ·rfl
    apply qGg rfl (by kernel_rfl) (by kernel_rfl) rfl
    refine uS ?_
    refine zJ (zJ ?_)
    obtain rfl : x72 = byC (done ++ [b]) := by rw [hx72, qBf]; rfl
    have hdl : (done ++ [b]).length = done.length + 1 := by simp
    refine zT (ι := SplG) (j := ⟨ini, done ++ [b], some ⟨g7, 0, none⟩, c, g72, c72⟩) ⟨by simp only; rw [List.append_assoc, ← htx, hT, hxt], hok', by simp only; omega⟩ (by simp only; omega) ⟨rfl, rfl, rfl, trivial⟩ ?_
    simp only [hdl]
    subst hn72
    exact uI
   | pair a b =>
    obtain ⟨hm, ht⟩ := qWa hsay.1 hri (ini)
    have hpo := hsay.1.ok _ _ hri
    simp only [Rl.ok] at hpo
    have hok2 : SpOk (rls Es) (ini ++ [(b, 1), (a, 1)]) := hok'.push (fun q hq => by
     simp only [List.mem_cons, List.not_mem_nil, or_false] at hq
     rcases hq with rfl | rfl
     ·exact ⟨by simp only; omega, by simp only; omega, Nat.le_refl _⟩
     exact ⟨by simp only; omega, by simp only; omega, Nat.le_refl _⟩)
    refine zC (qK (qL (qJ (uB (uBf rfl) ?_))))
    refine uL ?_
    refine qM (qK (zL (qL (qJ (uB (y_eq rfl rfl) ?_)))))
    refine uA rfl (qM (qK (zD rfl (qL (qJ (uB (y_eq rfl rfl) ?_))))))
    refine uA rfl (qM (qK (zG rfl (qJ (uM rfl (uB (uBf rfl) ?_))))))
    refine uL ?_
    refine uB (qBc (hE.t rfl) rfl rfl) ?_
    refine uB (uBf rfl) ?_
    refine uL ?_
    refine uB (qBc (hE.t rfl) rfl rfl) ?_
    refine uU ?_
    refine qW (hE.t rfl) (hE.t rfl) rfl rfl rfl (fun b83 => ?_)
    refine uU ?_
    apply zV (hE.t rfl) (hE.t rfl) rfl rfl rfl
    ·exact uK
    ·exact uK
    ·rfl
    ·rfl
    ·omega
    ·omega
    ·(unfold maxLen; omega)
    intro g84 c84 n84 x84 hn84 hx84
    refine uA rfl (qM (zJ (zJ ?_)))
    obtain rfl : x84 = cpC (ini ++ [(b, 1), (a, 1)]) := by rw [hx84]; exact (qFh (ini) [(b, 1), (a, 1)]).symm
    have hdl : (ini ++ [(b, 1), (a, 1)]).length = (ini).length + 2 := by simp
    refine zT (ι := SplG) (j := ⟨ini ++ [(b, 1), (a, 1)], done, some ⟨g84, 0, none⟩, c84, g, cc⟩) ⟨by simp only; rw [← htx, hT, ht], hok2, by simp only; omega⟩ (by simp only; omega) ⟨rfl, rfl, by simp only [hdl]; rw [hn84]; rfl, trivial⟩ ?_
    simp only [hdl]
    subst hn84
    exact uI
   | power a k =>
    obtain ⟨hm, ht⟩ := qTb hsay.1 hri (ini)
    have hpo := hsay.1.ok _ _ hri
    simp only [Rl.ok] at hpo
    have hok2 : SpOk (rls Es) (ini ++ [(a, k)]) := hok'.push (fun q hq => by
     obtain rfl := List.mem_singleton.1 hq
     exact ⟨by simp only; omega, by simp only; omega, by simp only; omega⟩)
    refine zC (qK (qL (qJ (uB (uBf rfl) ?_))))
    refine uL ?_
    refine qM (qK (zL (qL (qJ (uB (y_eq rfl rfl) ?_)))))
    refine uA rfl (qM (qK (zD rfl (qL (qJ (uB (y_eq rfl rfl) ?_))))))
    refine uA rfl (qM (qK (zD rfl (qJ (uM rfl (uB (uBf rfl) ?_))))))
    refine uL ?_
    refine uB (uBf rfl) ?_
    refine uL ?_
    refine uB (qBc (hE.t rfl) rfl rfl) ?_
    refine uU ?_
    refine qW (hE.t rfl) (hE.t rfl) rfl rfl rfl (fun b61 => ?_)
    refine uU ?_
    apply zV (hE.t rfl) (hE.t rfl) rfl rfl rfl
    ·exact uK
    ·exact uK
    ·rfl
    ·rfl
    ·omega
    ·omega
    ·(unfold maxLen; omega)
    intro g62 c62 n62 x62 hn62 hx62
    refine uA rfl (qM (zJ (zJ ?_)))
    obtain rfl : x62 = cpC (ini ++ [(a, k)]) := by rw [hx62]; exact (qFh (ini) [(a, k)]).symm
    have hdl : (ini ++ [(a, k)]).length = (ini).length + 1 := by simp
    refine zT (ι := SplG) (j := ⟨ini ++ [(a, k)], done, some ⟨g62, 0, none⟩, c62, g, cc⟩) ⟨by simp only; rw [← htx, hT, ht], hok2, by simp only; omega⟩ (by simp only; omega) ⟨rfl, rfl, by simp only [hdl]; rw [hn62]; rfl, trivial⟩ ?_
    simp only [hdl]
    subst hn62
    exact uI
  obtain ⟨t, rfl⟩ : ∃ t', t = t' + 1 := ⟨t - 1, by omega⟩
  have hpp : qTc ini (i + 1) (t + 1) = ini ++ [(i + 1, t + 1)] := if_neg (by omega)
  rw [hpp] at hT hM hok'
  have hil2 : (ini ++ [(i + 1, t + 1)]).length = ini.length + 1 := by simp
  have hil3 : (ini ++ [(i + 1, t + 1 + 1)]).length = (ini ++ [(i + 1, t + 1)]).length := by simp
  rw [hil3]
  refine zC (qK (qL (qJ (uM rfl (uM rfl (uX (qPt hE hent) rfl ?_))))))
  rintro _ _ ⟨rfl, rfl⟩
  simp only [uV, uW]
  refine uM rfl (uB (qV rfl rfl) (uB (qV rfl rfl) (uU (kG (hE.t rfl) (fun b10 => ?_)))))
  refine uU (uS ?_)
  refine uA rfl (qM (qK (qL (qL (qJ (uM rfl (uB (qAf rfl (hE.t rfl)) ?_)))))))
  refine qM (qK (zD rfl ?_))
  generalize hre : en.r = r at hri
  cases r with
  | letter b =>
   have hxt : txt (rls Es) (i + 1) = [b] := qCm hri
   refine zC (qK (qL (qJ (uB (uBf rfl) ?_))))
   refine uL ?_
   refine qM (qK (zL (qL (qJ (uB (y_eq rfl rfl) ?_)))))
   refine uA rfl (qM (qK (zG rfl ?_)))
   refine uN 9 ([cells bt [.slice (some ⟨g, 0, none⟩) done.length cc] 57, cells b10 [.int .i64 (Rl.kind ((Rl.letter b)) : Nat), .int .u8 (Rl.byte ((Rl.letter b)) : Nat), .int .i64 (Rl.left ((Rl.letter b)) : Nat), .int .i64 (Rl.right ((Rl.letter b)) : Nat), .int .i64 (Rl.times ((Rl.letter b)) : Nat)] 115]) ?_
   refine uT 0 rfl (qC rfl) ?_
   refine uT 1 rfl (qC rfl) ?_
   refine uT 2 rfl (zB rfl) ?_
   refine uT 3 rfl (uY) ?_
   apply kK 4 rfl (by kernel_rfl)
   ·exact uBf rfl
   ·rfl
   apply kK 5 rfl (by kernel_rfl)
   ·(apply qO rfl (hE.t rfl) rfl; (repeat (first | rfl | assumption | constructor)); done)
   ·rfl
   apply qGp 6 rfl (by kernel_rfl) rfl
   refine qW (hE.t rfl) (hE.t rfl) rfl rfl rfl (fun b71 => ?_)
   refine uE ?_
   apply qGp 7 rfl (by kernel_rfl) rfl
   apply zV (hE.t rfl) (hE.t rfl) rfl rfl rfl
   ·exact uK
   ·exact uK
   ·rfl
   ·rfl
   ·omega
   ·omega
   ·(unfold maxLen; omega)
   intro g72 c72 n72 x72 hn72 hx72
   refine uE ?_
   apply kK 8 rfl (by kernel_rfl)
   ·exact zB rfl
   ·rfl
   apply qGg rfl (by kernel_rfl) (by kernel_rfl) rfl
   refine uS ?_
   refine zJ (zJ ?_)
   obtain rfl : x72 = byC (done ++ [b]) := by rw [hx72, qBf]; rfl
   have hdl : (done ++ [b]).length = done.length + 1 := by simp
   refine zT (ι := SplG) (j := ⟨ini ++ [(i + 1, t + 1)], done ++ [b], some ⟨g7, 0, none⟩, c, g72, c72⟩) ⟨by simp only; rw [List.append_assoc, ← htx, hT, hxt], hok', by simp only; omega⟩ (by simp only; omega) ⟨rfl, rfl, rfl, trivial⟩ ?_
   simp only [hdl]
   subst hn72
   exact uI
  | pair a b =>
   obtain ⟨hm, ht⟩ := qWa hsay.1 hri (ini ++ [(i + 1, t + 1)])
   have hpo := hsay.1.ok _ _ hri
   simp only [Rl.ok] at hpo
   have hok2 : SpOk (rls Es) (ini ++ [(i + 1, t + 1)] ++ [(b, 1), (a, 1)]) := hok'.push (fun q hq => by
    simp only [List.mem_cons, List.not_mem_nil, or_false] at hq
    rcases hq with rfl | rfl
    ·exact ⟨by simp only; omega, by simp only; omega, Nat.le_refl _⟩
    exact ⟨by simp only; omega, by simp only; omega, Nat.le_refl _⟩)
   refine zC (qK (qL (qJ (uB (uBf rfl) ?_))))
   refine uL ?_
   refine qM (qK (zL (qL (qJ (uB (y_eq rfl rfl) ?_)))))
   refine uA rfl (qM (qK (zD rfl (qL (qJ (uB (y_eq rfl rfl) ?_))))))
   refine uA rfl (qM (qK (zG rfl (qJ (uM rfl (uB (uBf rfl) ?_))))))
   refine uL ?_
   refine uB (qBc (hE.t rfl) rfl rfl) ?_
   refine uB (uBf rfl) ?_
   refine uL ?_
   refine uB (qBc (hE.t rfl) rfl rfl) ?_
   refine uU ?_
   refine qW (hE.t rfl) (hE.t rfl) rfl rfl rfl (fun b83 => ?_)
   refine uU ?_
   apply zV (hE.t rfl) (hE.t rfl) rfl rfl rfl
   ·exact uK
   ·exact uK
   ·rfl
   ·rfl
   ·omega
   ·omega
   ·(unfold maxLen; omega)
   intro g84 c84 n84 x84 hn84 hx84
   refine uA rfl (qM (zJ (zJ ?_)))
   obtain rfl : x84 = cpC (ini ++ [(i + 1, t + 1)] ++ [(b, 1), (a, 1)]) := by rw [hx84]; exact (qFh (ini ++ [(i + 1, t + 1)]) [(b, 1), (a, 1)]).symm
   have hdl : (ini ++ [(i + 1, t + 1)] ++ [(b, 1), (a, 1)]).length = (ini ++ [(i + 1, t + 1)]).length + 2 := by simp
   refine zT (ι := SplG) (j := ⟨ini ++ [(i + 1, t + 1)] ++ [(b, 1), (a, 1)], done, some ⟨g84, 0, none⟩, c84, g, cc⟩) ⟨by simp only; rw [← htx, hT, ht], hok2, by simp only; omega⟩ (by simp only; omega) ⟨rfl, rfl, by simp only [hdl]; rw [hn84]; rfl, trivial⟩ ?_
   simp only [hdl]
   subst hn84
   exact uI
  | power a k =>
   obtain ⟨hm, ht⟩ := qTb hsay.1 hri (ini ++ [(i + 1, t + 1)])
   have hpo := hsay.1.ok _ _ hri
   simp only [Rl.ok] at hpo
   have hok2 : SpOk (rls Es) (ini ++ [(i + 1, t + 1)] ++ [(a, k)]) := hok'.push (fun q hq => by
    obtain rfl := List.mem_singleton.1 hq
    exact ⟨by simp only; omega, by simp only; omega, by simp only; omega⟩)
   refine zC (qK (qL (qJ (uB (uBf rfl) ?_))))
   refine uL ?_
   refine qM (qK (zL (qL (qJ (uB (y_eq rfl rfl) ?_)))))
   refine uA rfl (qM (qK (zD rfl (qL (qJ (uB (y_eq rfl rfl) ?_))))))
   refine uA rfl (qM (qK (zD rfl (qJ (uM rfl (uB (uBf rfl) ?_))))))
   refine uL ?_
   refine uB (uBf rfl) ?_
   refine uL ?_
   refine uB (qBc (hE.t rfl) rfl rfl) ?_
   refine uU ?_
   refine qW (hE.t rfl) (hE.t rfl) rfl rfl rfl (fun b61 => ?_)
   refine uU ?_
   apply zV (hE.t rfl) (hE.t rfl) rfl rfl rfl
   ·exact uK
   ·exact uK
   ·rfl
   ·rfl
   ·omega
   ·omega
   ·(unfold maxLen; omega)
   intro g62 c62 n62 x62 hn62 hx62
   refine uA rfl (qM (zJ (zJ ?_)))
   obtain rfl : x62 = cpC (ini ++ [(i + 1, t + 1)] ++ [(a, k)]) := by rw [hx62]; exact (qFh (ini ++ [(i + 1, t + 1)]) [(a, k)]).symm
   have hdl : (ini ++ [(i + 1, t + 1)] ++ [(a, k)]).length = (ini ++ [(i + 1, t + 1)]).length + 1 := by simp
   refine zT (ι := SplG) (j := ⟨ini ++ [(i + 1, t + 1)] ++ [(a, k)], done, some ⟨g62, 0, none⟩, c62, g, cc⟩) ⟨by simp only; rw [← htx, hT, ht], hok2, by simp only; omega⟩ (by simp only; omega) ⟨rfl, rfl, by simp only [hdl]; rw [hn62]; rfl, trivial⟩ ?_
   simp only [hdl]
   subst hn62
   exact uI
 obtain rfl : st = [] := List.eq_nil_of_length_eq_zero (by omega)
 have hd : done = pre ++ txt (rls Es) x0 := by simpa [spT] using htx
 subst hd
 refine kJ (qQ (qQ (zI (qK (qL (qJ (uA rfl (qM (qK (kC ?_))))))))))
 exact uZ rfl (.tmp rfl .nil) ⟨g, cc, rfl, rfl⟩
end
section
variable {E : Env} {Es : List Ent} {pp tb s most : Nat}
theorem qUa (hE : Seat E) {n : Nat} (hn : n ≤ 1152921504606846976) : Ct E 88 [.int .i64 (n : Nat)] [] (fun v Q => v = .bool true ∧ Q = []) := by
 refine zP (hE.fn Tryz.func88) rfl rfl rfl (fun R => ?_)
 simp only [qAe, uV, uW]
 refine qL (qJ (uA rfl (qM (qK (qL (qJ (uM rfl (uB (y_ge rfl rfl) ?_))))))))
 refine uM rfl ?_
 refine qAl 5 rfl (fun h => ?_) (fun h => ?_)
 ·refine kQ rfl rfl ?_
  refine uM rfl (kQ rfl rfl (uB (y_le rfl rfl) ?_))
  refine uB (qY rfl rfl) ?_
  refine uA rfl (qM (qK (kC ?_)))
  exact uZ rfl (.tmp rfl .nil) ⟨congrArg Value.bool (decide_eq_true (by omega)), rfl⟩
 exfalso; omega
theorem qMh (hE : Seat E) {n : Nat} (hn : n ≤ 1152921504606846976) : Ct E 81 [.int .i64 0, .int .i64 (n : Nat), .int .i64 (n : Nat)] [] (fun v Q => v = .nilIface ∧ Q = []) := by
 refine zP (hE.fn Tryz.func81) rfl rfl rfl (fun R => ?_)
 simp only [qAe, uV, uW]
 refine qL (qJ (uA rfl (qM (qK (qL (qL (qJ (uM rfl (uX (qUa hE hn) rfl ?_)))))))))
 rintro _ _ ⟨rfl, rfl⟩
 simp only [uV, uW]
 refine uB (qBm rfl) ?_
 refine uM rfl (kQ rfl rfl (uM rfl (kQ rfl rfl (uB (y_lt rfl rfl) ?_))))
 refine uB (qZ rfl rfl) ?_
 refine uM rfl ?_
 refine qAl 14 rfl (fun h1 => ?_) (fun h1 => ?_)
 ·exfalso; omega
 refine kQ rfl rfl (uM rfl (kQ rfl rfl (uB (y_lt rfl rfl) ?_)))
 refine uB (qZ rfl rfl) ?_
 refine uM rfl ?_
 refine qAl 18 rfl (fun h2 => ?_) (fun h2 => ?_)
 ·exfalso; omega
 refine kQ rfl rfl (uM rfl (kQ rfl rfl (uM rfl (kQ rfl rfl (uB (y_gt rfl rfl) ?_)))))
 refine uB (qZ rfl rfl) ?_
 refine uM rfl ?_
 refine qAl 23 rfl (fun h3 => ?_) (fun h3 => ?_)
 ·exfalso; omega
 refine kQ rfl rfl (uM rfl (kQ rfl rfl (uM rfl (kQ rfl rfl (uM rfl (kQ rfl rfl (uB (uAs rfl rfl) ?_)))))))
 refine kQ rfl rfl (uB (y_gt rfl rfl) ?_)
 refine uB (qZ rfl rfl) ?_
 refine qM (qK ?_)
 refine zF rfl (fun h4 => ?_) (fun h4 => ?_)
 ·exfalso; omega
 refine zC (qK (qL (qJ (uA rfl (qM (qK (kC ?_)))))))
 exact uZ rfl (.tmp rfl .nil) ⟨rfl, rfl⟩
theorem ct_ext1 (hE : Seat E) {bt b4 g0 c0 x : Nat} (hx : 1 ≤ x ∧ x ≤ Es.length) (hl : len (rls Es) x ≤ 65536) : Ct E 83 [.int .i64 (x : Nat), .int .i64 1, uPt bt, uPt b4] [cells b4 [uPt s] 34, zS s most Es, cells bt [.slice (some ⟨g0, 0, none⟩) (([] : List UInt8)).length c0] 57, sl (some ⟨g0, 0, none⟩) c0 5 1 (([] : List UInt8)).length (byC (([] : List UInt8)))]
  (fun v Q => ∃ g c, v = .nilIface ∧ Q = [cells b4 [uPt s] 34, zS s most Es, cells bt [.slice (some ⟨g, 0, none⟩) (txt (rls Es) x).length c] 57, sl (some ⟨g, 0, none⟩) c 5 1 (txt (rls Es) x).length (byC (txt (rls Es) x))]) := by
 have h00 : ([] : List UInt8).length + len (rls Es) x ≤ 65536 := by rw [List.length_nil]; omega
 refine zP (hE.fn Tryz.func83) rfl rfl rfl (fun R => ?_)
 simp only [qAe, uV, uW]
 refine qL (qJ (uA rfl (qM (qK (qL (qJ (uL ?_)))))))
 refine uB (uBl rfl) ?_
 refine uA rfl (qM (qK (qL (qL (qJ (uL ?_))))))
 refine uM rfl (uX (ct_spell (pre := []) hE hx h00) rfl ?_)
 rintro _ _ ⟨g, c, rfl, rfl⟩
 simp only [uV, uW]
 refine qGh (p := sl (some ⟨g, 0, none⟩) c 5 1 ([] ++ txt (rls Es) x).length (byC ([] ++ txt (rls Es) x))) uK (fun _ h => qDt h) ?_
 rintro ⟨hcap, -⟩
 rw [List.nil_append] at hcap
 refine uA rfl (qM (qK (qL (qJ (uM rfl (uB (qAf rfl (hE.t rfl)) ?_))))))
 refine qM (qK (zD rfl (zC (qK (qL (qJ (uL ?_)))))))
 refine uM rfl (uB (qLb (l := 0) (h := (txt (rls Es) x).length) rfl (hE.t rfl) ⟨_, rfl⟩ rfl (Nat.zero_le _) (by omega)) ?_)
 refine uA rfl (qM (qK (qL (qL (qJ (uM rfl (uB (uAs rfl rfl) ?_)))))))
 refine uM rfl (qM (qK (zL ?_)))
 refine qAj (fun _ : Unit => [(22, .int .i64 (1 - 1)), (23, .int .i64 0)]) (fun _ => [cells b4 [uPt s] 34, zS s most Es, cells bt [.slice (some ⟨g, 0, none⟩) (txt (rls Es) x).length c] 57, sl (some ⟨g, 0, none⟩) c 5 1 (txt (rls Es) x).length (byC (txt (rls Es) x)), R]) (fun _ => 0) (fun _ => True) () trivial ⟨rfl, rfl, trivial⟩ uI ?_
 rintro _ _
 refine qL (qJ (uB (y_lt rfl rfl) ?_))
 refine qM (qK (qL ?_))
 refine zF rfl (fun h => ?_) (fun h => ?_)
 ·exfalso; omega
 refine kJ (qQ (qQ (zI (qK (qL (qJ (uA rfl (qM (qK (kC ?_))))))))))
 exact uZ rfl (.tmp rfl .nil) ⟨g, c, rfl, rfl⟩
theorem ct_parts (hE : Seat E) {bt b4 g0 c0 i : Nat} {en : Ent} (hent : Es[i]? = some en) (hl : len (rls Es) (i + 1) ≤ 65536) : Ct E 82 [uPt s, .int .i64 ((i + 1 : Nat) : Int), .int .i64 0, .int .i64 (len (rls Es) (i + 1) : Nat), .func (.func 83) #[] ⟨[uPt bt, uPt b4]⟩] [cells b4 [uPt s] 34, zS s most Es, cells bt [.slice (some ⟨g0, 0, none⟩) (([] : List UInt8)).length c0] 57, sl (some ⟨g0, 0, none⟩) c0 5 1 (([] : List UInt8)).length (byC (([] : List UInt8)))]
  (fun v Q => ∃ g c, v = .nilIface ∧ Q = [cells b4 [uPt s] 34, zS s most Es, cells bt [.slice (some ⟨g, 0, none⟩) (txt (rls Es) (i + 1)).length c] 57, sl (some ⟨g, 0, none⟩) c 5 1 (txt (rls Es) (i + 1)).length (byC (txt (rls Es) (i + 1)))]) := by
 refine qBi (p := zS s most Es) uK (fun _ h => qBs h) (fun hsay => ?_)
 have hil : i < Es.length := (List.getElem?_eq_some_iff.1 hent).1
 have htx := hsay.2.1 i en hent
 have hle : en.t.length = len (rls Es) (i + 1) := by rw [htx]; rfl
 have hlp := hsay.1.pos (i + 1) (by omega) (by rw [zR]; omega)
 have hxx : 1 ≤ i + 1 ∧ i + 1 ≤ Es.length := ⟨by omega, by omega⟩
 refine zP (hE.fn Tryz.func82) rfl rfl rfl (fun R => ?_)
 simp only [qAe, uV, uW]
 refine qL (qJ (uA rfl (qM (qK (qL (qJ (uM rfl (uM rfl (uM rfl (uB (qBc (hE.t rfl) rfl rfl) ?_))))))))))
 refine uU ?_
 refine qW (hE.t rfl) (hE.t rfl) rfl rfl rfl (fun b22 => ?_)
 refine uA rfl (qM (qK (qL (zL ?_))))
 refine qAk (kE (p := cells b22 [.int .i64 ((i + 1 : Nat) : Int), .int .i64 0, .int .i64 (len (rls Es) (i + 1) : Nat), .int .i64 1] 204) (p' := sl (some ⟨b22, 0, none⟩) 1 204 4 1 [.int .i64 ((i + 1 : Nat) : Int), .int .i64 0, .int .i64 (len (rls Es) (i + 1) : Nat), .int .i64 1]) uK (qAr rfl (by unfold maxLen; omega))) ?_
 refine qAj (fun q : Option (Nat × Nat) => [(0, uPt s), (4, .func (.func 83) #[] ⟨[uPt bt, uPt b4]⟩), (11, .slice (some ⟨b22, 0, none⟩) (if q.isSome then 0 else 1) 1)])
  (fun q => match q with
   | none => [cells b4 [uPt s] 34, zS s most Es, cells bt [.slice (some ⟨g0, 0, none⟩) (([] : List UInt8)).length c0] 57, sl (some ⟨g0, 0, none⟩) c0 5 1 (([] : List UInt8)).length (byC (([] : List UInt8))), sl (some ⟨b22, 0, none⟩) 1 204 4 1 [.int .i64 ((i + 1 : Nat) : Int), .int .i64 0, .int .i64 (len (rls Es) (i + 1) : Nat), .int .i64 1], R]
   | some q => [cells b4 [uPt s] 34, zS s most Es, cells bt [.slice (some ⟨q.1, 0, none⟩) (txt (rls Es) (i + 1)).length q.2] 57, sl (some ⟨q.1, 0, none⟩) q.2 5 1 (txt (rls Es) (i + 1)).length (byC (txt (rls Es) (i + 1))), R]) (fun q => if q.isSome then 0 else 1) (fun _ => True) none trivial ⟨rfl, rfl, rfl, trivial⟩ uI ?_
 rintro (_ | ⟨g, c⟩) _
 ·simp only [Option.isSome_none, if_false, Bool.false_eq_true]
  refine qL (qL (qJ (uM rfl (uB (uBl rfl) ?_))))
  refine uB (y_gt rfl rfl) ?_
  refine qM (qK ?_)
  refine zF rfl (fun h => ?_) (fun h => ?_)
  ·refine zC (qK (zL (qL (qJ ?_))))
   refine uM rfl (uM rfl (uB (uBl rfl) ?_))
   refine uB (uAs rfl rfl) ?_
   refine uB (uAi rfl rfl) ?_
   refine l_eq 30 (uPt b22) rfl rfl ?_
   refine uB (uG) ?_
   refine uU (kG (hE.t rfl) (fun b12 => ?_))
   refine uU (uS ?_)
   refine qM (qK (qL (qJ (uM rfl (uM rfl (uB (uBl rfl) ?_))))))
   refine uB (uAs rfl rfl) ?_
   refine uB (qDg 0 rfl rfl (hE.t rfl) (by omega) (by omega)) ?_
   refine uA rfl (qM (qK (qL (qL (qJ (uB (uBf rfl) ?_))))))
   refine uL ?_
   refine uB (y_eq rfl rfl) ?_
   refine uM rfl ?_
   refine qAl 40 rfl (fun h1 => ?_) (fun h1 => ?_)
   ·exfalso; omega
   refine kQ rfl rfl (uB (uBf rfl) ?_)
   refine kQ rfl rfl (uL ?_)
   refine kQ rfl rfl (uB (y_eq rfl rfl) ?_)
   refine uB (qZ rfl rfl) ?_
   refine qM (qK ?_)
   refine zF rfl (fun h2 => ?_) (fun h2 => ?_)
   ·exfalso; omega
   refine zC (qK (qL (qJ (uM rfl (uB (uBf rfl) ?_)))))
   refine uL ?_
   refine uX (qMm hE hent) rfl ?_
   rintro _ _ ⟨rfl, rfl⟩
   simp only [uV, uW]
   refine uM rfl (uB (qV rfl rfl) (uB (qV rfl rfl) (uU (kG (hE.t rfl) (fun b13 => ?_)))))
   refine uU (uS ?_)
   refine uA rfl (qM (qK (qL (qL (qJ (uM rfl (uB (qAf rfl (hE.t rfl)) ?_)))))))
   refine qM (qK (zD rfl (zC (qK (qL (qL (qJ (uB (uBf rfl) ?_))))))))
   refine uL ?_
   refine uB (uBf rfl) ?_
   refine uL ?_
   refine uB (y_eq rfl rfl) ?_
   refine qM (qK ?_)
   refine zF rfl (fun h3 => ?_) (fun h3 => ?_)
   ·refine qL (qL (qJ ?_))
    refine uM rfl (uB (uBf rfl) ?_)
    refine uL ?_
    refine uB (uBf rfl) ?_
    refine uL ?_
    refine uU ?_
    apply ld_callv (hx := rfl) (ha := rfl) (hf := hE.f (by kernel_rfl))
    ·exact ct_ext1 (s := s) (most := most) (g0 := g0) (c0 := c0) hE hxx hl
    ·exact uK
    rintro _ _ ⟨g, c, rfl, rfl⟩
    simp only [uV, uW]
    refine uA rfl (qM (qK (qL (qJ (uM rfl (uB (qAf rfl (hE.t rfl)) ?_))))))
    refine qM (qK (zD rfl (zC (qK (kJ (qQ (zI ?_)))))))
    refine zT (ι := Option (Nat × Nat)) (j := some (g, c)) trivial (by simp) ⟨rfl, rfl, rfl, trivial⟩ ?_
    exact uI
   exfalso; omega
  exfalso; omega
 simp only [Option.isSome_some, if_true]
 refine qL (qL (qJ (uM rfl (uB (uBl rfl) ?_))))
 refine uB (y_gt rfl rfl) ?_
 refine qM (qK ?_)
 refine zF rfl (fun h => ?_) (fun h => ?_)
 ·exfalso; omega
 refine kJ (qQ (qQ (zI (qK (qL (qJ (uA rfl (qM (qK (kC ?_))))))))))
 exact uZ rfl (.tmp rfl .nil) ⟨g, c, rfl, rfl⟩
theorem qWq (hE : Seat E) {i : Nat} {en : Ent} (hent : Es[i]? = some en) (hl : len (rls Es) (i + 1) ≤ 65536) : Ct E 47 [uPt s, .int .i64 ((i + 1 : Nat) : Int), .int .i64 0, .int .i64 (len (rls Es) (i + 1) : Nat)] [zS s most Es]
  (fun v Q => ∃ g c, v = .tuple #[.slice (some ⟨g, 0, none⟩) (txt (rls Es) (i + 1)).length c, .nilIface] ∧ Q = [zS s most Es, sl (some ⟨g, 0, none⟩) c 5 1 (txt (rls Es) (i + 1)).length (byC (txt (rls Es) (i + 1)))]) := by
 refine qBi (p := zS s most Es) uK (fun _ h => qBs h) (fun hsay => ?_)
 have htx := hsay.2.1 i en hent
 have hle : en.t.length = len (rls Es) (i + 1) := by rw [htx]; rfl
 have hln : len (rls Es) (i + 1) ≤ 1152921504606846976 := by omega
 refine zP (hE.fn Tryz.func47) rfl rfl rfl (fun R => ?_)
 simp only [qAe, uV, uW]
 refine qL (qJ (uU ?_))
 refine qBt rfl (fun b4 => ?_)
 refine uA rfl (uA rfl (qM (qK (qL (qJ (uL ?_))))))
 refine uM rfl (uX (qMm hE hent) rfl ?_)
 rintro _ _ ⟨rfl, rfl⟩
 simp only [uV, uW]
 refine uM rfl (uB (qV rfl rfl) (uB (qV rfl rfl) (uU (kG (hE.t rfl) (fun b10 => ?_)))))
 refine uU (uS ?_)
 refine uA rfl (qM (qK (qL (qL (qJ (uM rfl (uB (qAf rfl (hE.t rfl)) ?_)))))))
 refine qM (qK (zD rfl (zC (qK (qL (qL (qJ (uM rfl (uM rfl (uB (uBf rfl) ?_))))))))))
 refine uL ?_
 refine l_eq 26 (.int .i64 (len (rls Es) (i + 1) : Nat)) rfl (zX (by omega)) ?_
 refine uX (qMh hE hln) rfl ?_
 rintro _ _ ⟨rfl, rfl⟩
 simp only [uV, uW]
 refine uA rfl (qM (qK (qL (qJ (uM rfl (uB (qAf rfl (hE.t rfl)) ?_))))))
 refine qM (qK (zD rfl (zC (qK (qL (qL (qJ (uM rfl (uB (y_gt rfl rfl) ?_)))))))))
 refine qM (qK ?_)
 refine zF rfl (fun h => ?_) (fun h => ?_)
 ·exfalso; omega
 refine zC (qK (qL (qJ (uM rfl (uU ?_)))))
 refine qLk (hE.t rfl) (hE.t rfl) rfl rfl (by first | omega | exact Nat.le_of_ble_eq_true rfl) (by (unfold maxLen; first | omega | exact Nat.le_of_ble_eq_true rfl)) (fun b35 us35 hu35 => ?_)
 refine uU (kG (hE.t rfl) (fun b13 => ?_))
 refine uU (uS ?_)
 refine qM (qK ?_)
 refine qAk (kE (p := sl (some ⟨b35, 0, none⟩) (len (rls Es) (i + 1)) 5 1 (len (rls Es) (i + 1)) us35) (p' := sl (some ⟨b35, 0, none⟩) (len (rls Es) (i + 1)) 5 1 0 (byC [])) uK (qVz (Nat.zero_le _) rfl (by simp))) ?_
 refine qL (qJ (uL ?_))
 refine uM rfl (uM rfl (uM rfl (uB (qPi rfl) ?_)))
 refine uX (ct_parts (g0 := b35) (c0 := len (rls Es) (i + 1)) hE hent hl) rfl ?_
 rintro _ _ ⟨g, c, rfl, rfl⟩
 simp only [uV, uW]
 refine uA rfl (qM (qK (qL (qL (qJ (uM rfl (uB (qAf rfl (hE.t rfl)) ?_)))))))
 refine qM (qK (zD rfl (zC (qK (qL (qJ (uL ?_)))))))
 refine uA rfl (uA rfl (qM (qK (kC ?_))))
 exact uZ rfl (.tmp rfl (.tmp rfl .nil)) ⟨g, c, rfl, rfl⟩
end
section
variable {E : Env} {Es : List Ent} {pp tb s most m bm : Nat} {f : Int → Option Value}
def AccOk (L : List Rl) (acc : List Nat) : Prop := acc.Nodup ∧ ∀ y ∈ acc, 1 ≤ y ∧ y ≤ L.length
theorem AccOk.len {L : List Rl} {acc : List Nat} (h : AccOk L acc) : acc.length ≤ L.length := by
 have := qVu (B := (List.range L.length).map (· + 1)) h.1 (fun x hx => by
  have := h.2 x hx
  exact List.mem_map.2 ⟨x - 1, List.mem_range.2 (by omega), by omega⟩)
 simpa using this
end
section
variable {E : Env} {Es : List Ent} {pp tb s most m bm : Nat} {f : Int → Option Value}
theorem qLu (hE : Seat E) {g c : Nat} {bs : List UInt8} (hn : bs.length ≤ 1099511627776) : Ct E 79 [.slice (some ⟨g, 0, none⟩) bs.length c] [ro g (byC bs)] (fun v Q => ∃ g' c', v = .slice (some ⟨g', 0, none⟩) (qAs bs).length c' ∧ Q = [ro g (byC bs), sl (some ⟨g', 0, none⟩) c' 5 1 (qAs bs).length (byC (qAs bs))]) := by
 have h10 := qBr (n := bs.length) (by omega)
 have hp := qCq bs.length
 have hbl := qAg bs
 have hbb : (qAs bs).length = (vput bs.length).length + bs.length := List.length_append
 have hb1 : ((vput bs.length).length + (byC bs).length) * 1 ≤ 140737488355328 := by omega
 have hb2 : (vput bs.length).length + (byC bs).length ≤ maxLen := by unfold maxLen; omega
 refine zP (hE.fn Tryz.func79) rfl rfl rfl (fun R => ?_)
 simp only [qAe, uV, uW]
 refine qL (qJ (uA rfl (qM (qK (qL (qJ (uM rfl (uB (uBl rfl) ?_))))))))
 refine uB (uAc rfl) ?_
 refine uX (qFv (n := bs.length) hE (by omega)) rfl ?_
 rintro _ _ ⟨g2, c2, rfl, rfl⟩
 simp only [uV, uW]
 refine uM rfl (uU ?_)
 refine qBp (us := byC bs) (q := ro g (byC bs)) (hE.t rfl) (hE.t rfl) rfl rfl rfl hbl.symm (fun _ => ⟨g, 0, rfl, rd_ro⟩) uK uK (qBh bs) hb1 hb2 (fun p1 c1 m1 x1 hm1 hx1 => ?_)
 obtain rfl : m1 = (qAs bs).length := by omega
 obtain rfl : x1 = byC (qAs bs) := hx1.trans (qBf _ _).symm
 refine qGh (p := sl p1 c1 5 1 (qAs bs).length (byC (qAs bs))) uK (fun _ h => qAz h (by omega)) ?_
 rintro ⟨g', rfl⟩
 refine uA rfl (qM (qK (kC ?_)))
 exact uZ rfl (.tmp rfl .nil) ⟨g', c1, rfl, rfl⟩
theorem zAw {ids : List Nat} {k x : Nat} (h : ids[k]? = some x) (hn : ids.Nodup) : setF (nuF (ids.take k)) (x : Nat) (.int .i64 ((k + 1 : Nat) : Int)) = nuF (ids.take (k + 1)) := by
 have hk := (List.getElem?_eq_some_iff.1 h).1
 have e : (ids.take k).length = k := by simp; omega
 have htk : ids.take (k + 1) = ids.take k ++ [x] := by rw [List.take_add_one, h]; rfl
 have hx : x ∉ ids.take k := fun hm => by
  have : (ids.take k ++ [x]).Nodup := htk ▸ hn.sublist (List.take_sublist _ _)
  exact (List.nodup_append.1 this).2.2 x hm x (by simp) rfl
 have := nuF_set hx
 rw [e] at this
 rw [this, htk]
theorem qYb (I : List Nat) (r : Rl) : (qCb I r).kind = r.kind := by cases r <;> rfl
theorem qYa (I : List Nat) (r : Rl) : (qCb I r).byte = r.byte := by cases r <;> rfl
theorem qNi (I : List Nat) (r : Rl) : (qCb I r).times = r.times := by cases r <;> rfl
theorem qYc {I : List Nat} (h : 0 ∉ I) (r : Rl) : (qCb I r).left = numb I r.left := by cases r <;> first | rfl | exact (qBl.2 h).symm
theorem qUw {I : List Nat} (h : 0 ∉ I) (r : Rl) : (qCb I r).right = numb I r.right := by cases r <;> first | rfl | exact (qBl.2 h).symm
theorem qVw {I A : List Nat} {x n : Nat} {r : Rl} (hI : I = A ++ [x]) (ho : r.ok n) (hk : ∀ k ∈ kids r, k ∈ A) : (qCb I r).ok (A.length + 1) ∧ ∀ B, qCb (I ++ B) r = qCb I r := by
 subst hI
 have key : ∀ k ∈ A, 1 ≤ numb (A ++ [x]) k ∧ numb (A ++ [x]) k ≤ A.length := fun k hk => by
  rw [qGb hk]
  have := qIi A k
  have : numb A k ≠ 0 := fun e => qBl.1 e hk
  omega
 have app : ∀ B, ∀ k ∈ A, numb (A ++ [x] ++ B) k = numb (A ++ [x]) k := fun B k hk => qGb (by simp [hk])
 cases r with
 | letter b => exact ⟨trivial, fun _ => rfl⟩
 | pair a b =>
  have h1 := key a (hk a (by simp [kids]))
  have h2 := key b (hk b (by simp [kids]))
  refine ⟨⟨h1.1, by omega, h2.1, by omega⟩, fun B => ?_⟩
  simp only [qCb, app B a (hk a (by simp [kids])), app B b (hk b (by simp [kids]))]
 | power a k =>
  have h1 := key a (hk a (by simp [kids]))
  simp only [Rl.ok] at ho
  refine ⟨⟨h1.1, by omega, ho.2.2⟩, fun B => ?_⟩
  simp only [qCb, app B a (hk a (by simp [kids]))]
theorem qVx (i : Nat) (hi : i ≤ 1099511627776) (r : Rl) (ht : r.times ≤ 1152921504606846976) : 0 < (rulB i r).length ∧ (rulB i r).length ≤ 21 := by
 cases r with
 | letter b => simp [rulB]
 | pair a b =>
  have h1 := qBr (n := i - a) (by omega)
  have h2 := qBr (n := i - b) (by omega)
  simp only [rulB, List.length_cons, List.length_append]; omega
 | power a k =>
  simp only [Rl.times] at ht
  have h1 := qBr (n := i - a) (by omega)
  have h2 := qBr (n := k - 2) (by omega)
  simp only [rulB, List.length_cons, List.length_append]; omega
end
end Go.Proofs.YtddfnkijolfhbaaGreat
namespace Sl
open Go Go.RowKit
variable {E : Env} {n : Nat} {L : Fr} {S S' : List HP} {ty : TypeId} {pos : String} {af : Array Edge} {d : Option Nat} {gd : Option (Nat × Bool)}
theorem qIo {x : Operand} {src dst e : TypeId} {a : Option Addr} {bs : List UInt8} {c s by_ sz sz1 sz2 : Nat} {zs zs1 zs2 : List Value} {q : HP} (hx : ev L x = some (.slice a bs.length c)) (hs : E.tab src = some ⟨.slice e s by_, sz, zs⟩) (he : E.tab e = some ⟨.int .u8, sz1, zs1⟩) (hd : E.tab dst = some ⟨.string, sz2, zs2⟩)
  (hq : Rdb E.w0 a (bs.map fun b => Value.int .u8 (b.toNat : Nat)) q) (hm : Take q S S') : Yl E n L S ⟨d, .convert src dst x, ty, pos, af, gd⟩ (.string ⟨⟨bs⟩⟩) := fun A w g st => by
 obtain ⟨i', z, _, _, _, _, hk'⟩ := qBg hd
 simp only [TK.holds] at hk'
 have hu : E.P.underlying dst = some .string := by
  split at hk'
  ·assumption
  cases hk'
 obtain ⟨hsu, _⟩ := qBj hs
 have hr : (convert src dst (.slice a bs.length c)).run E.P w = .ok (.string ⟨⟨bs⟩⟩) w := by
  cases bs with
  | nil =>
   cases a with
   | none =>
    rw [run_convert_bytes_string w src dst e none _ c hsu (qFe he) hu]
    rfl
   | some a => exact run_convert_bytes_back w src dst e a c [] hsu (qFe he) hu (fun j hj => by simp at hj)
  | cons b bs =>
   obtain ⟨g', o, rfl, hq'⟩ := hq (by simp)
   refine run_convert_bytes_back w src dst e ⟨g', o, none⟩ c (b :: bs) hsu (qFe he) hu (fun j hj => ?_)
   rw [addr_add]
   exact qQi hq' (st.take hm) (i := j) (by rw [List.getElem?_map, List.getElem?_eq_getElem hj]; rfl)
 simp [execOp, g.ev hx, hr]
end Sl
namespace Go.Proofs.YtddfnkijolfhbaaGreat
open Go Go.RowKit Sl Eg
set_option maxRecDepth 10000
end Go.Proofs.YtddfnkijolfhbaaGreat
namespace Sl
open Go Go.RowKit
theorem rd_cellz {w0 : World} {g : Nat} {vs us : List Value} {t : TypeId} (h : ∀ (i : Nat) (v : Value), vs[i]? = some v → us[i]? = some v) : ∀ k, cells g us t k → RdAt w0 g 0 vs k := fun k hk i v hv => .inr ⟨⟨us⟩, t, (0, 0), hk, by rw [Nat.zero_add]; simpa using h i v hv⟩
end Sl
namespace Go.Proofs.YtddfnkijolfhbaaGreat
open Go Go.RowKit Sl Eg
set_option maxRecDepth 10000
section
end
section
variable {E : Env} {Es : List Ent} {pp tb s most m bm : Nat}
theorem qCv {w0 : World} {p : Option Addr} {c n : Nat} {t : TypeId} {vs : List Value} (hn : vs.length = n) (h : 0 < n → ∃ g, p = some ⟨g, 0, none⟩) : Rdb w0 p vs (sl p c t 1 n vs) := fun hne => by
 obtain ⟨g, rfl⟩ := h (by
  rcases Nat.eq_zero_or_pos n with e | e
  ·exact absurd (List.eq_nil_of_length_eq_zero (by omega)) hne
  exact e)
 exact ⟨g, 0, rfl, rd_slz (fun _ _ h => h)⟩
theorem qKp {bs : List UInt8} (h : bs ≠ []) : byC bs ≠ [] := fun e => h (by
 have := qAg bs
 rw [e] at this
 exact List.eq_nil_of_length_eq_zero this.symm)
end
end Go.Proofs.YtddfnkijolfhbaaGreat
