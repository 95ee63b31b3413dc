import Derived.Test.YtkkjjablmmmmkaaGreatDoorQ31
import Derived.Test.YtkkjjablmmmmkaaGreatDoorQ61
import Derived.Test.YtkkjjablmmmmkaaGreatDoorQSlq
set_option linter.all false
namespace Go.Proofs.YtkkjjablmmmmkaaGreatDoor
open Go Go.RowKit Sl Eg
set_option maxRecDepth 10000
section
variable {E : Env} {Es : List Ent} {pp tb s most : Nat}
def cpC (st : List (Nat × Nat)) : List Value := st.flatMap fun p => [.int .i64 (p.1 : Nat), .int .i64 (p.2 : Nat)]
theorem qGl (a b : List (Nat × Nat)) : cpC (a ++ b) = cpC a ++ cpC b := by simp [cpC]
theorem qHv : ∀ (st : List (Nat × Nat)), (cpC st).length = st.length * 2
 | [] => rfl
 | p :: st => by
  have := qHv st
  simp only [cpC, List.flatMap_cons, List.length_append, List.length_cons, List.length_nil] at this ⊢; omega
theorem qSc (st : List (Nat × Nat)) (x t : Nat) : cpC (st ++ [(x, t)]) = cpC st ++ .int .i64 (x : Nat) :: .int .i64 (t : Nat) :: [] := by simp [cpC]
theorem zEx {st : List (Nat × Nat)} {x t : Nat} : (cpC (st ++ [(x, t)]))[(cpC st).length]? = some (.int .i64 (x : Nat)) ∧ (cpC (st ++ [(x, t)]))[(cpC st).length + 1]? = some (.int .i64 (t : Nat)) := by
 rw [qSc]; exact ⟨ap_0, ap_1⟩
theorem cp_set {st : List (Nat × Nat)} {x t u : Nat} : zZ (cpC (st ++ [(x, t)])) ((cpC st).length + 1) [.int .i64 (u : Nat)] = cpC (st ++ [(x, u)]) := by
 rw [qSc, qSc, sm_1]
theorem cp_ptr {st : List (Nat × Nat)} {g n : Nat} (h : n = st.length + 1) : (.pointer (some ⟨g, 0 + (((n : Nat) : Int) - 1).toNat * 2, none⟩) : Value) = .pointer (some ⟨g, (cpC st).length, none⟩) := by
 rw [qHv, show 0 + (((n : Nat) : Int) - 1).toNat * 2 = st.length * 2 by omega]
structure SplG where
 st : List (Nat × Nat)
 done : List UInt8
 p : Option Addr
 c : Nat
 g : Nat
 cc : Nat
theorem ct_spell (hE : Seat E) {bt g0 c0 x0 : Nat} {pre : List UInt8} (hx0 : 1 ≤ x0 ∧ x0 ≤ Es.length) (hl0 : pre.length + len (rls Es) x0 ≤ 65536) : Ct E 135 [uPt s, .int .i64 (x0 : Nat), uPt bt] [zT s most Es, cells bt [.slice (some ⟨g0, 0, none⟩) pre.length c0] 25, sl (some ⟨g0, 0, none⟩) c0 5 1 pre.length (byC pre)]
  (fun v Q => ∃ g c, v = .nilIface ∧ Q = [zT s most Es, cells bt [.slice (some ⟨g, 0, none⟩) (pre ++ txt (rls Es) x0).length c] 25, sl (some ⟨g, 0, none⟩) c 5 1 (pre ++ txt (rls Es) x0).length (byC (pre ++ txt (rls Es) x0))]) := by
 refine qBt (p := zT s most Es) uK (fun _ h => qAj h) (fun hsay => ?_)
 have hLl := zS Es
 have hlen0 : len (rls Es) x0 = (txt (rls Es) x0).length := rfl
 refine zQ (hE.fn Tryz.func135) rfl rfl rfl (fun R => ?_)
 simp only [qAa, uV, uW]
 refine qK (qI (uA rfl (qL (qJ (qK (qI (uM rfl (uB (qAe (hE.t rfl) rfl rfl) ?_))))))))
 refine uU ?_
 refine qV (hE.t rfl) (hE.t rfl) rfl rfl rfl (fun b14 => ?_)
 refine uA rfl (qL (qJ (qK (zM ?_))))
 refine qBz (kF (p := cells b14 [.int .i64 (x0 : Nat), .int .i64 1] 253) (p' := sl (some ⟨b14, 0, none⟩) 1 253 2 1 (cpC [(x0, 1)])) uK (qAd rfl (by unfold maxLen; omega))) ?_
 refine qAc (fun q : SplG => [(0, uPt s), (2, uPt bt), (7, .slice q.p q.st.length q.c)]) (fun q => [zT s most Es, cells bt [.slice (some ⟨q.g, 0, none⟩) q.done.length q.cc] 25, sl (some ⟨q.g, 0, none⟩) q.cc 5 1 q.done.length (byC q.done), sl q.p q.c 253 2 q.st.length (cpC q.st), R]) (fun q => spM (rls Es) q.st) (fun q => q.done ++ spT (rls Es) q.st = pre ++ txt (rls Es) x0 ∧ SpOk (rls Es) q.st ∧ spM (rls Es) q.st ≤ 131072) ⟨[(x0, 1)], pre, some ⟨b14, 0, none⟩, 1, g0, c0⟩ ⟨by simp only [qRf], fun q hq => by
  obtain rfl := List.mem_singleton.1 hq
  exact ⟨hx0.1, by omega, Nat.le_refl _⟩, by simp only [qFu]; omega⟩ ⟨rfl, rfl, rfl, trivial⟩ uI ?_
 rintro ⟨st, done, p, c, g, cc⟩ ⟨htx, hok, hms⟩
 simp only at htx hok hms ⊢
 have hsl := hok.len hsay.1
 have htl := congrArg List.length htx
 simp only [List.length_append] at htl
 refine qK (qK (qI (uM rfl (uB (uBl rfl) ?_))))
 refine uB (y_gt rfl rfl) ?_
 refine qL (qJ ?_)
 refine zG rfl (fun h => ?_) (fun h => ?_)
 ·obtain ⟨ini, x, t, rfl⟩ : ∃ ini x t, st = ini ++ [(x, t + 1)] := by
   rcases List.eq_nil_or_concat st with rfl | ⟨ini, ⟨x, t⟩, rfl⟩
   ·simp at h
   rw [List.concat_eq_append] at hok
   have := (hok (x, t) (by simp)).2.2
   exact ⟨ini, x, t - 1, by rw [List.concat_eq_append, Nat.sub_add_cancel this]⟩
  have hil : (ini ++ [(x, t + 1)]).length = ini.length + 1 := by simp
  have hT := spT_pop (rls Es) ini x t
  have hM := spM_pop (rls Es) ini x t
  have hok' := hok.pop
  have hxx := hok (x, t + 1) (by simp)
  simp only at hxx
  obtain ⟨i, rfl⟩ : ∃ i, x = i + 1 := ⟨x - 1, by omega⟩
  have hent : Es[i]? = some (Es[i]'(by omega)) := List.getElem?_eq_getElem (by omega)
  generalize Es[i]'(by omega) = en at hent
  have hri : (rls Es)[i]? = some en.r := by simp [rls, hent]
  have hpl := qHv ini
  obtain ⟨f0, f1⟩ := zEx (st := ini) (x := i + 1) (t := t + 1)
  obtain ⟨f2, f3⟩ := zEx (st := ini) (x := i + 1) (t := t)
  refine qCy (p := sl p c 253 2 (ini ++ [(i + 1, t + 1)]).length (cpC (ini ++ [(i + 1, t + 1)]))) uK (fun _ h => And.intro (qAi h (by omega)) (qIi h).1) ?_
  rintro ⟨⟨g7, rfl⟩, hcap⟩
  have hlp := hsay.1.pos (i + 1) (by omega) (by omega)
  have htb : t + 1 ≤ 131072 := by
   have e := hms
   rw [qEg, qFu] at e
   have := Nat.mul_le_mul_left (t + 1) (show 1 ≤ 2 * len (rls Es) (i + 1) - 1 by omega)
   omega
  have hLe : en.r.ok (i + 1) := hsay.1.ok _ _ hri
  refine zD (qJ (zM (qK (qI (uM rfl (uM rfl (uB (uBl rfl) ?_)))))))
  refine uB (uAs rfl rfl) ?_
  refine uB (uAi rfl rfl) ?_
  refine l_eq 22 _ rfl (cp_ptr (st := ini) hil) ?_
  refine uA rfl (qL (qJ (qK (qI (uM rfl (uB (zB rfl) ?_))))))
  refine uB (uBf rfl) ?_
  refine uL ?_
  refine uA rfl (qL (qJ (qK (qK (qI (uM rfl (uB (zB rfl) ?_)))))))
  refine uB (uBf rfl) ?_
  refine uL ?_
  refine uB (uAs rfl rfl) ?_
  refine l_eq 31 (.int .i64 (t : Nat)) rfl (zY (by omega)) ?_
  refine uB (zB rfl) ?_
  refine uB (uBf rfl) ?_
  refine uU (uJ ?_)
  refine qL (qJ ?_)
  simp only [zR]
  rw [cp_set]
  refine qK (qI (uM rfl (uB (zB rfl) ?_)))
  refine uB (uBf rfl) ?_
  refine uL ?_
  refine uB (y_eq rfl rfl) ?_
  refine qL (qJ ?_)
  refine zG rfl (fun hz => ?_) (fun hz => ?_)
  ·obtain rfl : t = 0 := by omega
   have hpp : qUw ini (i + 1) 0 = ini := if_pos rfl
   rw [hpp] at hT hM hok'
   refine qI (uM rfl (uM rfl (uB (uBl rfl) ?_)))
   refine uB (uAs rfl rfl) ?_
   refine uB (qCf ini.length rfl rfl (hE.t rfl) (by omega) (by omega)) ?_
   refine uA rfl (qL (qJ ?_))
   refine qBz (kF (p := sl (some ⟨g7, 0, none⟩) c 253 2 (ini ++ [(i + 1, 0 + 1)]).length (cpC (ini ++ [(i + 1, 0)]))) (p' := sl (some ⟨g7, 0, none⟩) c 253 2 ini.length (cpC ini)) uK (qEt (by omega) (by rw [qGl, ← qHv]; simp) (by simp))) ?_
   refine qK (qI (uM rfl (uM rfl (uX (qNf hE hent) rfl ?_))))
   rintro _ _ ⟨rfl, rfl⟩
   simp only [uV, uW]
   refine uM rfl (uB (qU rfl rfl) (uB (qU rfl rfl) (uU (kH (hE.t rfl) (fun b10 => ?_)))))
   refine uU (uS ?_)
   refine uA rfl (qL (qJ (qK (qK (qI (uM rfl (uB (qAg rfl (hE.t rfl)) ?_)))))))
   refine qL (qJ (zF rfl ?_))
   generalize hre : en.r = r at hri
   cases r with
   | letter b =>
    have hxt : txt (rls Es) (i + 1) = [b] := qBp hri
    refine zD (qJ (qK (qI (uB (uBf rfl) ?_))))
    refine uL ?_
    refine qL (qJ (zM (qK (qI (uB (y_eq rfl rfl) ?_)))))
    refine uA rfl (qL (qJ (zH rfl ?_)))
    refine uN 9 ([cells bt [.slice (some ⟨g, 0, none⟩) done.length cc] 25, cells b10 [.int .i64 (Rl.kind ((Rl.letter b)) : Nat), .int .u8 (Rl.byte ((Rl.letter b)) : Nat), .int .i64 (Rl.left ((Rl.letter b)) : Nat), .int .i64 (Rl.right ((Rl.letter b)) : Nat), .int .i64 (Rl.times ((Rl.letter b)) : Nat)] 82]) ?_
    refine uT 0 rfl (qB rfl) ?_
    refine uT 1 rfl (qB rfl) ?_
    refine uT 2 rfl (zB rfl) ?_
    refine uT 3 rfl (uY) ?_
    apply kN 4 rfl (by kernel_rfl)
    ·exact uBf rfl
    ·rfl
    apply kN 5 rfl (by kernel_rfl)
    ·(apply qN rfl (hE.t rfl) rfl; (repeat (first | rfl | assumption | constructor)); done)
    ·rfl
    apply qAm 6 rfl (by kernel_rfl) rfl
    refine qV (hE.t rfl) (hE.t rfl) rfl rfl rfl (fun b71 => ?_)
    refine uE ?_
    apply qAm 7 rfl (by kernel_rfl) rfl
    apply zW (hE.t rfl) (hE.t rfl) rfl rfl rfl
    ·exact uK
    ·exact uK
    ·rfl
    ·rfl
    ·omega
    ·omega
    ·(unfold maxLen; omega)
    intro g72 c72 n72 x72 hn72 hx72
    refine uE ?_
    apply kN 8 rfl (by kernel_rfl)
    ·exact zB rfl
    ·rfl
    apply qDi rfl (by kernel_rfl) (by kernel_rfl) rfl
    refine uS ?_
    refine zK (zK ?_)
    obtain rfl : x72 = byC (done ++ [b]) := by rw [hx72, qAo]; rfl
    have hdl : (done ++ [b]).length = done.length + 1 := by simp
    refine zU (ι := SplG) (j := ⟨ini, done ++ [b], some ⟨g7, 0, none⟩, c, g72, c72⟩) ⟨by simp only; rw [List.append_assoc, ← htx, hT, hxt], hok', by simp only; omega⟩ (by simp only; omega) ⟨rfl, rfl, rfl, trivial⟩ ?_
    simp only [hdl]
    subst hn72
    exact uI
   | pair a b =>
    obtain ⟨hm, ht⟩ := qYx hsay.1 hri (ini)
    have hpo := hsay.1.ok _ _ hri
    simp only [Rl.ok] at hpo
    have hok2 : SpOk (rls Es) (ini ++ [(b, 1), (a, 1)]) := hok'.push (fun q hq => by
     simp only [List.mem_cons, List.not_mem_nil, or_false] at hq
     rcases hq with rfl | rfl
     ·exact ⟨by simp only; omega, by simp only; omega, Nat.le_refl _⟩
     exact ⟨by simp only; omega, by simp only; omega, Nat.le_refl _⟩)
    refine zD (qJ (qK (qI (uB (uBf rfl) ?_))))
    refine uL ?_
    refine qL (qJ (zM (qK (qI (uB (y_eq rfl rfl) ?_)))))
    refine uA rfl (qL (qJ (zF rfl (qK (qI (uB (y_eq rfl rfl) ?_))))))
    refine uA rfl (qL (qJ (zH rfl (qI (uM rfl (uB (uBf rfl) ?_))))))
    refine uL ?_
    refine uB (qAe (hE.t rfl) rfl rfl) ?_
    refine uB (uBf rfl) ?_
    refine uL ?_
    refine uB (qAe (hE.t rfl) rfl rfl) ?_
    refine uU ?_
    refine qV (hE.t rfl) (hE.t rfl) rfl rfl rfl (fun b83 => ?_)
    refine uU ?_
    apply zW (hE.t rfl) (hE.t rfl) rfl rfl rfl
    ·exact uK
    ·exact uK
    ·rfl
    ·rfl
    ·omega
    ·omega
    ·(unfold maxLen; omega)
    intro g84 c84 n84 x84 hn84 hx84
    refine uA rfl (qL (zK (zK ?_)))
    obtain rfl : x84 = cpC (ini ++ [(b, 1), (a, 1)]) := by rw [hx84]; exact (qGl (ini) [(b, 1), (a, 1)]).symm
    have hdl : (ini ++ [(b, 1), (a, 1)]).length = (ini).length + 2 := by simp
    refine zU (ι := SplG) (j := ⟨ini ++ [(b, 1), (a, 1)], done, some ⟨g84, 0, none⟩, c84, g, cc⟩) ⟨by simp only; rw [← htx, hT, ht], hok2, by simp only; omega⟩ (by simp only; omega) ⟨rfl, rfl, by simp only [hdl]; rw [hn84]; rfl, trivial⟩ ?_
    simp only [hdl]
    subst hn84
    exact uI
   | power a k =>
    obtain ⟨hm, ht⟩ := qUl hsay.1 hri (ini)
    have hpo := hsay.1.ok _ _ hri
    simp only [Rl.ok] at hpo
    have hok2 : SpOk (rls Es) (ini ++ [(a, k)]) := hok'.push (fun q hq => by
     obtain rfl := List.mem_singleton.1 hq
     exact ⟨by simp only; omega, by simp only; omega, by simp only; omega⟩)
    refine zD (qJ (qK (qI (uB (uBf rfl) ?_))))
    refine uL ?_
    refine qL (qJ (zM (qK (qI (uB (y_eq rfl rfl) ?_)))))
    refine uA rfl (qL (qJ (zF rfl (qK (qI (uB (y_eq rfl rfl) ?_))))))
    refine uA rfl (qL (qJ (zF rfl (qI (uM rfl (uB (uBf rfl) ?_))))))
    refine uL ?_
    refine uB (uBf rfl) ?_
    refine uL ?_
    refine uB (qAe (hE.t rfl) rfl rfl) ?_
    refine uU ?_
    refine qV (hE.t rfl) (hE.t rfl) rfl rfl rfl (fun b61 => ?_)
    refine uU ?_
    apply zW (hE.t rfl) (hE.t rfl) rfl rfl rfl
    ·exact uK
    ·exact uK
    ·rfl
    ·rfl
    ·omega
    ·omega
    ·(unfold maxLen; omega)
    intro g62 c62 n62 x62 hn62 hx62
    refine uA rfl (qL (zK (zK ?_)))
    obtain rfl : x62 = cpC (ini ++ [(a, k)]) := by rw [hx62]; exact (qGl (ini) [(a, k)]).symm
    have hdl : (ini ++ [(a, k)]).length = (ini).length + 1 := by simp
    refine zU (ι := SplG) (j := ⟨ini ++ [(a, k)], done, some ⟨g62, 0, none⟩, c62, g, cc⟩) ⟨by simp only; rw [← htx, hT, ht], hok2, by simp only; omega⟩ (by simp only; omega) ⟨rfl, rfl, by simp only [hdl]; rw [hn62]; rfl, trivial⟩ ?_
    simp only [hdl]
    subst hn62
    exact uI
  obtain ⟨t, rfl⟩ : ∃ t', t = t' + 1 := ⟨t - 1, by omega⟩
  have hpp : qUw ini (i + 1) (t + 1) = ini ++ [(i + 1, t + 1)] := if_neg (by omega)
  rw [hpp] at hT hM hok'
  have hil2 : (ini ++ [(i + 1, t + 1)]).length = ini.length + 1 := by simp
  have hil3 : (ini ++ [(i + 1, t + 1 + 1)]).length = (ini ++ [(i + 1, t + 1)]).length := by simp
  rw [hil3]
  refine zD (qJ (qK (qI (uM rfl (uM rfl (uX (qNf hE hent) rfl ?_))))))
  rintro _ _ ⟨rfl, rfl⟩
  simp only [uV, uW]
  refine uM rfl (uB (qU rfl rfl) (uB (qU rfl rfl) (uU (kH (hE.t rfl) (fun b10 => ?_)))))
  refine uU (uS ?_)
  refine uA rfl (qL (qJ (qK (qK (qI (uM rfl (uB (qAg rfl (hE.t rfl)) ?_)))))))
  refine qL (qJ (zF rfl ?_))
  generalize hre : en.r = r at hri
  cases r with
  | letter b =>
   have hxt : txt (rls Es) (i + 1) = [b] := qBp hri
   refine zD (qJ (qK (qI (uB (uBf rfl) ?_))))
   refine uL ?_
   refine qL (qJ (zM (qK (qI (uB (y_eq rfl rfl) ?_)))))
   refine uA rfl (qL (qJ (zH rfl ?_)))
   refine uN 9 ([cells bt [.slice (some ⟨g, 0, none⟩) done.length cc] 25, cells b10 [.int .i64 (Rl.kind ((Rl.letter b)) : Nat), .int .u8 (Rl.byte ((Rl.letter b)) : Nat), .int .i64 (Rl.left ((Rl.letter b)) : Nat), .int .i64 (Rl.right ((Rl.letter b)) : Nat), .int .i64 (Rl.times ((Rl.letter b)) : Nat)] 82]) ?_
   refine uT 0 rfl (qB rfl) ?_
   refine uT 1 rfl (qB rfl) ?_
   refine uT 2 rfl (zB rfl) ?_
   refine uT 3 rfl (uY) ?_
   apply kN 4 rfl (by kernel_rfl)
   ·exact uBf rfl
   ·rfl
   apply kN 5 rfl (by kernel_rfl)
   ·(apply qN rfl (hE.t rfl) rfl; (repeat (first | rfl | assumption | constructor)); done)
   ·rfl
   apply qAm 6 rfl (by kernel_rfl) rfl
   refine qV (hE.t rfl) (hE.t rfl) rfl rfl rfl (fun b71 => ?_)
   refine uE ?_
   apply qAm 7 rfl (by kernel_rfl) rfl
   apply zW (hE.t rfl) (hE.t rfl) rfl rfl rfl
   ·exact uK
   ·exact uK
   ·rfl
   ·rfl
   ·omega
   ·omega
   ·(unfold maxLen; omega)
   intro g72 c72 n72 x72 hn72 hx72
   refine uE ?_
   apply kN 8 rfl (by kernel_rfl)
   ·exact zB rfl
   ·rfl
   apply qDi rfl (by kernel_rfl) (by kernel_rfl) rfl
   refine uS ?_
   refine zK (zK ?_)
   obtain rfl : x72 = byC (done ++ [b]) := by rw [hx72, qAo]; rfl
   have hdl : (done ++ [b]).length = done.length + 1 := by simp
   refine zU (ι := SplG) (j := ⟨ini ++ [(i + 1, t + 1)], done ++ [b], some ⟨g7, 0, none⟩, c, g72, c72⟩) ⟨by simp only; rw [List.append_assoc, ← htx, hT, hxt], hok', by simp only; omega⟩ (by simp only; omega) ⟨rfl, rfl, rfl, trivial⟩ ?_
   simp only [hdl]
   subst hn72
   exact uI
  | pair a b =>
   obtain ⟨hm, ht⟩ := qYx hsay.1 hri (ini ++ [(i + 1, t + 1)])
   have hpo := hsay.1.ok _ _ hri
   simp only [Rl.ok] at hpo
   have hok2 : SpOk (rls Es) (ini ++ [(i + 1, t + 1)] ++ [(b, 1), (a, 1)]) := hok'.push (fun q hq => by
    simp only [List.mem_cons, List.not_mem_nil, or_false] at hq
    rcases hq with rfl | rfl
    ·exact ⟨by simp only; omega, by simp only; omega, Nat.le_refl _⟩
    exact ⟨by simp only; omega, by simp only; omega, Nat.le_refl _⟩)
   refine zD (qJ (qK (qI (uB (uBf rfl) ?_))))
   refine uL ?_
   refine qL (qJ (zM (qK (qI (uB (y_eq rfl rfl) ?_)))))
   refine uA rfl (qL (qJ (zF rfl (qK (qI (uB (y_eq rfl rfl) ?_))))))
   refine uA rfl (qL (qJ (zH rfl (qI (uM rfl (uB (uBf rfl) ?_))))))
   refine uL ?_
   refine uB (qAe (hE.t rfl) rfl rfl) ?_
   refine uB (uBf rfl) ?_
   refine uL ?_
   refine uB (qAe (hE.t rfl) rfl rfl) ?_
   refine uU ?_
   refine qV (hE.t rfl) (hE.t rfl) rfl rfl rfl (fun b83 => ?_)
   refine uU ?_
   apply zW (hE.t rfl) (hE.t rfl) rfl rfl rfl
   ·exact uK
   ·exact uK
   ·rfl
   ·rfl
   ·omega
   ·omega
   ·(unfold maxLen; omega)
   intro g84 c84 n84 x84 hn84 hx84
   refine uA rfl (qL (zK (zK ?_)))
   obtain rfl : x84 = cpC (ini ++ [(i + 1, t + 1)] ++ [(b, 1), (a, 1)]) := by rw [hx84]; exact (qGl (ini ++ [(i + 1, t + 1)]) [(b, 1), (a, 1)]).symm
   have hdl : (ini ++ [(i + 1, t + 1)] ++ [(b, 1), (a, 1)]).length = (ini ++ [(i + 1, t + 1)]).length + 2 := by simp
   refine zU (ι := SplG) (j := ⟨ini ++ [(i + 1, t + 1)] ++ [(b, 1), (a, 1)], done, some ⟨g84, 0, none⟩, c84, g, cc⟩) ⟨by simp only; rw [← htx, hT, ht], hok2, by simp only; omega⟩ (by simp only; omega) ⟨rfl, rfl, by simp only [hdl]; rw [hn84]; rfl, trivial⟩ ?_
   simp only [hdl]
   subst hn84
   exact uI
  | power a k =>
   obtain ⟨hm, ht⟩ := qUl hsay.1 hri (ini ++ [(i + 1, t + 1)])
   have hpo := hsay.1.ok _ _ hri
   simp only [Rl.ok] at hpo
   have hok2 : SpOk (rls Es) (ini ++ [(i + 1, t + 1)] ++ [(a, k)]) := hok'.push (fun q hq => by
    obtain rfl := List.mem_singleton.1 hq
    exact ⟨by simp only; omega, by simp only; omega, by simp only; omega⟩)
   refine zD (qJ (qK (qI (uB (uBf rfl) ?_))))
   refine uL ?_
   refine qL (qJ (zM (qK (qI (uB (y_eq rfl rfl) ?_)))))
   refine uA rfl (qL (qJ (zF rfl (qK (qI (uB (y_eq rfl rfl) ?_))))))
   refine uA rfl (qL (qJ (zF rfl (qI (uM rfl (uB (uBf rfl) ?_))))))
   refine uL ?_
   refine uB (uBf rfl) ?_
   refine uL ?_
   refine uB (qAe (hE.t rfl) rfl rfl) ?_
   refine uU ?_
   refine qV (hE.t rfl) (hE.t rfl) rfl rfl rfl (fun b61 => ?_)
   refine uU ?_
   apply zW (hE.t rfl) (hE.t rfl) rfl rfl rfl
   ·exact uK
   ·exact uK
   ·rfl
   ·rfl
   ·omega
   ·omega
   ·(unfold maxLen; omega)
   intro g62 c62 n62 x62 hn62 hx62
   refine uA rfl (qL (zK (zK ?_)))
   obtain rfl : x62 = cpC (ini ++ [(i + 1, t + 1)] ++ [(a, k)]) := by rw [hx62]; exact (qGl (ini ++ [(i + 1, t + 1)]) [(a, k)]).symm
   have hdl : (ini ++ [(i + 1, t + 1)] ++ [(a, k)]).length = (ini ++ [(i + 1, t + 1)]).length + 1 := by simp
   refine zU (ι := SplG) (j := ⟨ini ++ [(i + 1, t + 1)] ++ [(a, k)], done, some ⟨g62, 0, none⟩, c62, g, cc⟩) ⟨by simp only; rw [← htx, hT, ht], hok2, by simp only; omega⟩ (by simp only; omega) ⟨rfl, rfl, by simp only [hdl]; rw [hn62]; rfl, trivial⟩ ?_
   simp only [hdl]
   subst hn62
   exact uI
 obtain rfl : st = [] := List.eq_nil_of_length_eq_zero (by omega)
 have hd : done = pre ++ txt (rls Es) x0 := by simpa [spT] using htx
 subst hd
 refine kM (qP (qP (zJ (qJ (qK (qI (uA rfl (qL (qJ (kD ?_))))))))))
 exact uZ rfl (.tmp rfl .nil) ⟨g, cc, rfl, rfl⟩
end
section
variable {E : Env} {Es : List Ent} {pp tb s most : Nat}
theorem qWx (hE : Seat E) {n : Nat} (hn : n ≤ 1152921504606846976) : Ct E 99 [.int .i64 (n : Nat)] [] (fun v Q => v = .bool true ∧ Q = []) := by
 refine zQ (hE.fn Tryz.func99) rfl rfl rfl (fun R => ?_)
 simp only [qAa, uV, uW]
 refine qK (qI (uA rfl (qL (qJ (qK (qI (uM rfl (uB (y_ge rfl rfl) ?_))))))))
 refine uM rfl ?_
 refine qAf 5 rfl (fun h => ?_) (fun h => ?_)
 ·refine kU rfl rfl ?_
  refine uM rfl (kU rfl rfl (uB (y_le rfl rfl) ?_))
  refine uB (qX rfl rfl) ?_
  refine uA rfl (qL (qJ (kD ?_)))
  exact uZ rfl (.tmp rfl .nil) ⟨congrArg Value.bool (decide_eq_true (by omega)), rfl⟩
 exfalso; omega
theorem qWm (hE : Seat E) {n : Nat} (hn : n ≤ 1152921504606846976) : Ct E 132 [.int .i64 0, .int .i64 (n : Nat), .int .i64 (n : Nat)] [] (fun v Q => v = .nilIface ∧ Q = []) := by
 refine zQ (hE.fn Tryz.func132) rfl rfl rfl (fun R => ?_)
 simp only [qAa, uV, uW]
 refine qK (qI (uA rfl (qL (qJ (qK (qK (qI (uM rfl (uX (qWx hE hn) rfl ?_)))))))))
 rintro _ _ ⟨rfl, rfl⟩
 simp only [uV, uW]
 refine uB (qBn rfl) ?_
 refine uM rfl (kU rfl rfl (uM rfl (kU rfl rfl (uB (y_lt rfl rfl) ?_))))
 refine uB (qY rfl rfl) ?_
 refine uM rfl ?_
 refine qAf 14 rfl (fun h1 => ?_) (fun h1 => ?_)
 ·exfalso; omega
 refine kU rfl rfl (uM rfl (kU rfl rfl (uB (y_lt rfl rfl) ?_)))
 refine uB (qY rfl rfl) ?_
 refine uM rfl ?_
 refine qAf 18 rfl (fun h2 => ?_) (fun h2 => ?_)
 ·exfalso; omega
 refine kU rfl rfl (uM rfl (kU rfl rfl (uM rfl (kU rfl rfl (uB (y_gt rfl rfl) ?_)))))
 refine uB (qY rfl rfl) ?_
 refine uM rfl ?_
 refine qAf 23 rfl (fun h3 => ?_) (fun h3 => ?_)
 ·exfalso; omega
 refine kU rfl rfl (uM rfl (kU rfl rfl (uM rfl (kU rfl rfl (uM rfl (kU rfl rfl (uB (uAs rfl rfl) ?_)))))))
 refine kU rfl rfl (uB (y_gt rfl rfl) ?_)
 refine uB (qY rfl rfl) ?_
 refine qL (qJ ?_)
 refine zG rfl (fun h4 => ?_) (fun h4 => ?_)
 ·exfalso; omega
 refine zD (qJ (qK (qI (uA rfl (qL (qJ (kD ?_)))))))
 exact uZ rfl (.tmp rfl .nil) ⟨rfl, rfl⟩
theorem ct_ext1 (hE : Seat E) {bt b4 g0 c0 x : Nat} (hx : 1 ≤ x ∧ x ≤ Es.length) (hl : len (rls Es) x ≤ 65536) : Ct E 134 [.int .i64 (x : Nat), .int .i64 1, uPt bt, uPt b4] [cells b4 [uPt s] 67, zT s most Es, cells bt [.slice (some ⟨g0, 0, none⟩) (([] : List UInt8)).length c0] 25, sl (some ⟨g0, 0, none⟩) c0 5 1 (([] : List UInt8)).length (byC (([] : List UInt8)))]
  (fun v Q => ∃ g c, v = .nilIface ∧ Q = [cells b4 [uPt s] 67, zT s most Es, cells bt [.slice (some ⟨g, 0, none⟩) (txt (rls Es) x).length c] 25, sl (some ⟨g, 0, none⟩) c 5 1 (txt (rls Es) x).length (byC (txt (rls Es) x))]) := by
 have h00 : ([] : List UInt8).length + len (rls Es) x ≤ 65536 := by rw [List.length_nil]; omega
 refine zQ (hE.fn Tryz.func134) rfl rfl rfl (fun R => ?_)
 simp only [qAa, uV, uW]
 refine qK (qI (uA rfl (qL (qJ (qK (qI (uL ?_)))))))
 refine uB (uBl rfl) ?_
 refine uA rfl (qL (qJ (qK (qK (qI (uL ?_))))))
 refine uM rfl (uX (ct_spell (pre := []) hE hx h00) rfl ?_)
 rintro _ _ ⟨g, c, rfl, rfl⟩
 simp only [uV, uW]
 refine qOh (p := sl (some ⟨g, 0, none⟩) c 5 1 ([] ++ txt (rls Es) x).length (byC ([] ++ txt (rls Es) x))) uK (fun _ h => qIi h) ?_
 rintro ⟨hcap, -⟩
 rw [List.nil_append] at hcap
 refine uA rfl (qL (qJ (qK (qI (uM rfl (uB (qAg rfl (hE.t rfl)) ?_))))))
 refine qL (qJ (zF rfl (zD (qJ (qK (qI (uL ?_)))))))
 refine uM rfl (uB (qEl (l := 0) (h := (txt (rls Es) x).length) rfl (hE.t rfl) ⟨_, rfl⟩ rfl (Nat.zero_le _) (by omega)) ?_)
 refine uA rfl (qL (qJ (qK (qK (qI (uM rfl (uB (uAs rfl rfl) ?_)))))))
 refine uM rfl (qL (qJ (zM ?_)))
 refine qAc (fun _ : Unit => [(22, .int .i64 (1 - 1)), (23, .int .i64 0)]) (fun _ => [cells b4 [uPt s] 67, zT s most Es, cells bt [.slice (some ⟨g, 0, none⟩) (txt (rls Es) x).length c] 25, sl (some ⟨g, 0, none⟩) c 5 1 (txt (rls Es) x).length (byC (txt (rls Es) x)), R]) (fun _ => 0) (fun _ => True) () trivial ⟨rfl, rfl, trivial⟩ uI ?_
 rintro _ _
 refine qK (qI (uB (y_lt rfl rfl) ?_))
 refine qL (qJ (qK ?_))
 refine zG rfl (fun h => ?_) (fun h => ?_)
 ·exfalso; omega
 refine kM (qP (qP (zJ (qJ (qK (qI (uA rfl (qL (qJ (kD ?_))))))))))
 exact uZ rfl (.tmp rfl .nil) ⟨g, c, rfl, rfl⟩
theorem ct_parts (hE : Seat E) {bt b4 g0 c0 i : Nat} {en : Ent} (hent : Es[i]? = some en) (hl : len (rls Es) (i + 1) ≤ 65536) : Ct E 133 [uPt s, .int .i64 ((i + 1 : Nat) : Int), .int .i64 0, .int .i64 (len (rls Es) (i + 1) : Nat), .func (.func 134) #[] ⟨[uPt bt, uPt b4]⟩] [cells b4 [uPt s] 67, zT s most Es, cells bt [.slice (some ⟨g0, 0, none⟩) (([] : List UInt8)).length c0] 25, sl (some ⟨g0, 0, none⟩) c0 5 1 (([] : List UInt8)).length (byC (([] : List UInt8)))]
  (fun v Q => ∃ g c, v = .nilIface ∧ Q = [cells b4 [uPt s] 67, zT s most Es, cells bt [.slice (some ⟨g, 0, none⟩) (txt (rls Es) (i + 1)).length c] 25, sl (some ⟨g, 0, none⟩) c 5 1 (txt (rls Es) (i + 1)).length (byC (txt (rls Es) (i + 1)))]) := by
 refine qBt (p := zT s most Es) uK (fun _ h => qAj h) (fun hsay => ?_)
 have hil : i < Es.length := (List.getElem?_eq_some_iff.1 hent).1
 have htx := hsay.2.1 i en hent
 have hle : en.t.length = len (rls Es) (i + 1) := by rw [htx]; rfl
 have hlp := hsay.1.pos (i + 1) (by omega) (by rw [zS]; omega)
 have hxx : 1 ≤ i + 1 ∧ i + 1 ≤ Es.length := ⟨by omega, by omega⟩
 refine zQ (hE.fn Tryz.func133) rfl rfl rfl (fun R => ?_)
 simp only [qAa, uV, uW]
 refine qK (qI (uA rfl (qL (qJ (qK (qI (uM rfl (uM rfl (uM rfl (uB (qAe (hE.t rfl) rfl rfl) ?_))))))))))
 refine uU ?_
 refine qV (hE.t rfl) (hE.t rfl) rfl rfl rfl (fun b22 => ?_)
 refine uA rfl (qL (qJ (qK (zM ?_))))
 refine qBz (kF (p := cells b22 [.int .i64 ((i + 1 : Nat) : Int), .int .i64 0, .int .i64 (len (rls Es) (i + 1) : Nat), .int .i64 1] 249) (p' := sl (some ⟨b22, 0, none⟩) 1 249 4 1 [.int .i64 ((i + 1 : Nat) : Int), .int .i64 0, .int .i64 (len (rls Es) (i + 1) : Nat), .int .i64 1]) uK (qAd rfl (by unfold maxLen; omega))) ?_
 refine qAc (fun q : Option (Nat × Nat) => [(0, uPt s), (4, .func (.func 134) #[] ⟨[uPt bt, uPt b4]⟩), (11, .slice (some ⟨b22, 0, none⟩) (if q.isSome then 0 else 1) 1)])
  (fun q => match q with
   | none => [cells b4 [uPt s] 67, zT s most Es, cells bt [.slice (some ⟨g0, 0, none⟩) (([] : List UInt8)).length c0] 25, sl (some ⟨g0, 0, none⟩) c0 5 1 (([] : List UInt8)).length (byC (([] : List UInt8))), sl (some ⟨b22, 0, none⟩) 1 249 4 1 [.int .i64 ((i + 1 : Nat) : Int), .int .i64 0, .int .i64 (len (rls Es) (i + 1) : Nat), .int .i64 1], R]
   | some q => [cells b4 [uPt s] 67, zT s most Es, cells bt [.slice (some ⟨q.1, 0, none⟩) (txt (rls Es) (i + 1)).length q.2] 25, sl (some ⟨q.1, 0, none⟩) q.2 5 1 (txt (rls Es) (i + 1)).length (byC (txt (rls Es) (i + 1))), R]) (fun q => if q.isSome then 0 else 1) (fun _ => True) none trivial ⟨rfl, rfl, rfl, trivial⟩ uI ?_
 rintro (_ | ⟨g, c⟩) _
 ·simp only [Option.isSome_none, if_false, Bool.false_eq_true]
  refine qK (qK (qI (uM rfl (uB (uBl rfl) ?_))))
  refine uB (y_gt rfl rfl) ?_
  refine qL (qJ ?_)
  refine zG rfl (fun h => ?_) (fun h => ?_)
  ·refine zD (qJ (zM (qK (qI ?_))))
   refine uM rfl (uM rfl (uB (uBl rfl) ?_))
   refine uB (uAs rfl rfl) ?_
   refine uB (uAi rfl rfl) ?_
   refine l_eq 30 (uPt b22) rfl rfl ?_
   refine uB (uG) ?_
   refine uU (kH (hE.t rfl) (fun b12 => ?_))
   refine uU (uS ?_)
   refine qL (qJ (qK (qI (uM rfl (uM rfl (uB (uBl rfl) ?_))))))
   refine uB (uAs rfl rfl) ?_
   refine uB (qCf 0 rfl rfl (hE.t rfl) (by omega) (by omega)) ?_
   refine uA rfl (qL (qJ (qK (qK (qI (uB (uBf rfl) ?_))))))
   refine uL ?_
   refine uB (y_eq rfl rfl) ?_
   refine uM rfl ?_
   refine qAf 40 rfl (fun h1 => ?_) (fun h1 => ?_)
   ·exfalso; omega
   refine kU rfl rfl (uB (uBf rfl) ?_)
   refine kU rfl rfl (uL ?_)
   refine kU rfl rfl (uB (y_eq rfl rfl) ?_)
   refine uB (qY rfl rfl) ?_
   refine qL (qJ ?_)
   refine zG rfl (fun h2 => ?_) (fun h2 => ?_)
   ·exfalso; omega
   refine zD (qJ (qK (qI (uM rfl (uB (uBf rfl) ?_)))))
   refine uL ?_
   refine uX (qNp hE hent) rfl ?_
   rintro _ _ ⟨rfl, rfl⟩
   simp only [uV, uW]
   refine uM rfl (uB (qU rfl rfl) (uB (qU rfl rfl) (uU (kH (hE.t rfl) (fun b13 => ?_)))))
   refine uU (uS ?_)
   refine uA rfl (qL (qJ (qK (qK (qI (uM rfl (uB (qAg rfl (hE.t rfl)) ?_)))))))
   refine qL (qJ (zF rfl (zD (qJ (qK (qK (qI (uB (uBf rfl) ?_))))))))
   refine uL ?_
   refine uB (uBf rfl) ?_
   refine uL ?_
   refine uB (y_eq rfl rfl) ?_
   refine qL (qJ ?_)
   refine zG rfl (fun h3 => ?_) (fun h3 => ?_)
   ·refine qK (qK (qI ?_))
    refine uM rfl (uB (uBf rfl) ?_)
    refine uL ?_
    refine uB (uBf rfl) ?_
    refine uL ?_
    refine uU ?_
    apply ld_callv (hx := rfl) (ha := rfl) (hf := hE.f (by kernel_rfl))
    ·exact ct_ext1 (s := s) (most := most) (g0 := g0) (c0 := c0) hE hxx hl
    ·exact uK
    rintro _ _ ⟨g, c, rfl, rfl⟩
    simp only [uV, uW]
    refine uA rfl (qL (qJ (qK (qI (uM rfl (uB (qAg rfl (hE.t rfl)) ?_))))))
    refine qL (qJ (zF rfl (zD (qJ (kM (qP (zJ ?_)))))))
    refine zU (ι := Option (Nat × Nat)) (j := some (g, c)) trivial (by simp) ⟨rfl, rfl, rfl, trivial⟩ ?_
    exact uI
   exfalso; omega
  exfalso; omega
 simp only [Option.isSome_some, if_true]
 refine qK (qK (qI (uM rfl (uB (uBl rfl) ?_))))
 refine uB (y_gt rfl rfl) ?_
 refine qL (qJ ?_)
 refine zG rfl (fun h => ?_) (fun h => ?_)
 ·exfalso; omega
 refine kM (qP (qP (zJ (qJ (qK (qI (uA rfl (qL (qJ (kD ?_))))))))))
 exact uZ rfl (.tmp rfl .nil) ⟨g, c, rfl, rfl⟩
theorem qZu (hE : Seat E) {i : Nat} {en : Ent} (hent : Es[i]? = some en) (hl : len (rls Es) (i + 1) ≤ 65536) : Ct E 110 [uPt s, .int .i64 ((i + 1 : Nat) : Int), .int .i64 0, .int .i64 (len (rls Es) (i + 1) : Nat)] [zT s most Es]
  (fun v Q => ∃ g c, v = .tuple #[.slice (some ⟨g, 0, none⟩) (txt (rls Es) (i + 1)).length c, .nilIface] ∧ Q = [zT s most Es, sl (some ⟨g, 0, none⟩) c 5 1 (txt (rls Es) (i + 1)).length (byC (txt (rls Es) (i + 1)))]) := by
 refine qBt (p := zT s most Es) uK (fun _ h => qAj h) (fun hsay => ?_)
 have htx := hsay.2.1 i en hent
 have hle : en.t.length = len (rls Es) (i + 1) := by rw [htx]; rfl
 have hln : len (rls Es) (i + 1) ≤ 1152921504606846976 := by omega
 refine zQ (hE.fn Tryz.func110) rfl rfl rfl (fun R => ?_)
 simp only [qAa, uV, uW]
 refine qK (qI (uU ?_))
 refine qAs rfl (fun b4 => ?_)
 refine uA rfl (uA rfl (qL (qJ (qK (qI (uL ?_))))))
 refine uM rfl (uX (qNp hE hent) rfl ?_)
 rintro _ _ ⟨rfl, rfl⟩
 simp only [uV, uW]
 refine uM rfl (uB (qU rfl rfl) (uB (qU rfl rfl) (uU (kH (hE.t rfl) (fun b10 => ?_)))))
 refine uU (uS ?_)
 refine uA rfl (qL (qJ (qK (qK (qI (uM rfl (uB (qAg rfl (hE.t rfl)) ?_)))))))
 refine qL (qJ (zF rfl (zD (qJ (qK (qK (qI (uM rfl (uM rfl (uB (uBf rfl) ?_))))))))))
 refine uL ?_
 refine l_eq 26 (.int .i64 (len (rls Es) (i + 1) : Nat)) rfl (zY (by omega)) ?_
 refine uX (qWm hE hln) rfl ?_
 rintro _ _ ⟨rfl, rfl⟩
 simp only [uV, uW]
 refine uA rfl (qL (qJ (qK (qI (uM rfl (uB (qAg rfl (hE.t rfl)) ?_))))))
 refine qL (qJ (zF rfl (zD (qJ (qK (qK (qI (uM rfl (uB (y_gt rfl rfl) ?_)))))))))
 refine qL (qJ ?_)
 refine zG rfl (fun h => ?_) (fun h => ?_)
 ·exfalso; omega
 refine zD (qJ (qK (qI (uM rfl (uU ?_)))))
 refine qCo (hE.t rfl) (hE.t rfl) rfl rfl (by first | omega | exact Nat.le_of_ble_eq_true rfl) (by (unfold maxLen; first | omega | exact Nat.le_of_ble_eq_true rfl)) (fun b35 us35 hu35 => ?_)
 refine uU (kH (hE.t rfl) (fun b13 => ?_))
 refine uU (uS ?_)
 refine qL (qJ ?_)
 refine qBz (kF (p := sl (some ⟨b35, 0, none⟩) (len (rls Es) (i + 1)) 5 1 (len (rls Es) (i + 1)) us35) (p' := sl (some ⟨b35, 0, none⟩) (len (rls Es) (i + 1)) 5 1 0 (byC [])) uK (qEt (Nat.zero_le _) rfl (by simp))) ?_
 refine qK (qI (uL ?_))
 refine uM rfl (uM rfl (uM rfl (uB (qZo rfl) ?_)))
 refine uX (ct_parts (g0 := b35) (c0 := len (rls Es) (i + 1)) hE hent hl) rfl ?_
 rintro _ _ ⟨g, c, rfl, rfl⟩
 simp only [uV, uW]
 refine uA rfl (qL (qJ (qK (qK (qI (uM rfl (uB (qAg rfl (hE.t rfl)) ?_)))))))
 refine qL (qJ (zF rfl (zD (qJ (qK (qI (uL ?_)))))))
 refine uA rfl (uA rfl (qL (qJ (kD ?_))))
 exact uZ rfl (.tmp rfl (.tmp rfl .nil)) ⟨g, c, rfl, rfl⟩
end
section
variable {E : Env} {Es : List Ent} {pp tb s most m bm : Nat} {f : Int → Option Value}
theorem zCr (hE : Seat E) : Ct E 30 [uPt pp] [] (fun v Q => ∃ m bm, v = uPt m ∧ Q = [cells m [uPt pp, .map (some bm)] 103, mapF bm .i64 (fun _ => none)]) := by
 refine zQ (hE.fn Tryz.func30) rfl rfl rfl (fun R => ?_)
 simp only [qAa, uV, uW]
 refine qK (qI (uA rfl (qL (qJ (qK (qK (qI (uM rfl (uB (qBr rfl (hE.t rfl)) ?_)))))))))
 refine qL (qJ (zF rfl (zD (qJ (qK (qI (uM rfl (uU ?_))))))))
 refine qJp .i64 (fun b6 => ?_)
 refine uB (qAe (hE.t rfl) rfl rfl) ?_
 refine uU ?_
 refine qAs rfl (fun b8 => ?_)
 refine uA rfl (qL (qJ (kD ?_)))
 exact uZ rfl (.tmp rfl .nil) ⟨b8, b6, rfl, rfl⟩
theorem qDp (hE : Seat E) : Ct E 25 [uPt m] [cells m [uPt pp, .map (some bm)] 103] (fun v Q => v = uPt pp ∧ Q = [cells m [uPt pp, .map (some bm)] 103]) := by
 refine zQ (hE.fn Tryz.func25) rfl rfl rfl (fun R => ?_)
 simp only [qAa, uV, uW]
 refine qK (qI (uA rfl (qL (qJ (qK (qK (qI (uM rfl (uB (qBr rfl (hE.t rfl)) ?_)))))))))
 refine qL (qJ (zF rfl (zD (qJ (qK (qI (uM rfl (uB (zB rfl) ?_))))))))
 refine uB (uBf rfl) ?_
 refine uL ?_
 refine uA rfl (qL (qJ (kD ?_)))
 exact uZ rfl (.tmp rfl .nil) ⟨rfl, rfl⟩
theorem qVs (hE : Seat E) {x y : Nat} : Ct E 111 [uPt m, .int .i64 (x : Nat), .int .i64 (y : Nat), .nilIface] [cells m [uPt pp, .map (some bm)] 103, mapF bm .i64 f] (fun v Q => v = .nilIface ∧ Q = [cells m [uPt pp, .map (some bm)] 103, mapF bm .i64 (setF f (x : Nat) (.int .i64 (y : Nat)))]) := by
 refine zQ (hE.fn Tryz.func111) rfl rfl rfl (fun R => ?_)
 simp only [qAa, uV, uW]
 refine qK (qI (uA rfl (qL (qJ (qK (qK (qI (uM rfl (uB (qVx rfl (hE.t rfl)) ?_)))))))))
 refine qL (qJ (zH rfl (qI (uM rfl (uB (zB rfl) ?_)))))
 refine uB (uBf rfl) ?_
 refine uL ?_
 refine uM rfl (uM rfl (uU ?_))
 apply qDz (kt := 37) (et := 37) (by rw [hE.P]; kernel_rfl) (by rw [hE.P]; kernel_rfl) rfl rfl rfl
 ·exact uK
 refine qL (qJ (qK (qI (uM rfl (uA rfl (qL (qJ (kD ?_))))))))
 exact uZ rfl (.tmp rfl .nil) ⟨rfl, rfl⟩
theorem ct_learn (hE : Seat E) (hB : Base E.w0) {i : Nat} {en : Ent} (hent : Es[i]? = some en) (hl : len (rls Es) (i + 1) ≤ 256) (hroom : Es.length + 512 ≤ most) :
  Ct E 86 [uPt m, .int .i64 ((i + 1 : Nat) : Int)] [cells pp [uPt s, uPt tb] 106, tabP tb s (rls Es), zT s most Es, cells m [uPt pp, .map (some bm)] 103, mapF bm .i64 f]
   (fun v Q => ∃ M y, v = .tuple #[.int .i64 0, .nilIface] ∧ M.length ≤ 512 ∧ SigOf (rls (Es ++ M)) (i + 1) y ∧ Q = [cells pp [uPt s, uPt tb] 106, tabP tb s (rls (Es ++ M)), zT s most (Es ++ M), cells m [uPt pp, .map (some bm)] 103, mapF bm .i64 (setF f ((i + 1 : Nat) : Int) (.int .i64 (y : Nat)))]) := by
 refine qBt (p := zT s most Es) uK (fun _ h => qAj h) (fun hsay => ?_)
 have hil : i < Es.length := (List.getElem?_eq_some_iff.1 hent).1
 have htx := hsay.2.1 i en hent
 have hle : en.t.length = len (rls Es) (i + 1) := by rw [htx]; rfl
 have hlt : (txt (rls Es) (i + 1)).length = len (rls Es) (i + 1) := rfl
 have hl2 : len (rls Es) (i + 1) ≤ 65536 := by omega
 refine zQ (hE.fn Tryz.func86) rfl rfl rfl (fun R => ?_)
 simp only [qAa, uV, uW]
 refine qK (qI (uA rfl (uA rfl (qL (qJ (qK (qI (uM rfl (uB (zB rfl) ?_)))))))))
 refine uB (uBf rfl) ?_
 refine uL ?_
 refine uX (qGp hE) rfl ?_
 rintro _ _ ⟨rfl, rfl⟩
 simp only [uV, uW]
 refine uA rfl (qL (qJ (qK (qI (uM rfl (uM rfl (uX (qNp hE hent) rfl ?_)))))))
 rintro _ _ ⟨rfl, rfl⟩
 simp only [uV, uW]
 refine uM rfl (uB (qU rfl rfl) (uB (qU rfl rfl) (uU (kH (hE.t rfl) (fun b7 => ?_)))))
 refine uU (uS ?_)
 refine uA rfl (qL (qJ (qK (qK (qI (uM rfl (uB (qAg rfl (hE.t rfl)) ?_)))))))
 refine qL (qJ (zF rfl (zD (qJ (qK (qK (qI (uB (uBf rfl) ?_))))))))
 refine uL ?_
 refine uB (y_le rfl rfl) ?_
 refine qL (qJ ?_)
 refine zG rfl (fun h => ?_) (fun h => ?_)
 ·refine qK (qI ?_)
  refine uM rfl (uM rfl (uB (uBf rfl) ?_))
  refine uL ?_
  refine l_eq 40 (.int .i64 (len (rls Es) (i + 1) : Nat)) rfl (zY (by omega)) ?_
  refine uX (qZu hE hent hl2) rfl ?_
  rintro _ _ ⟨g, c, rfl, rfl⟩
  simp only [uV, uW]
  refine uM rfl (uB (qU rfl rfl) (uB (qU rfl rfl) (uA rfl (uA rfl (qL (qJ (qK (qK (qI (uM rfl ?_))))))))))
  refine uB (qAg rfl (hE.t rfl)) ?_
  refine qL (qJ (zF rfl (zD (qJ (qK (qI (uM rfl (uB (zB rfl) ?_))))))))
  refine uB (uBf rfl) ?_
  refine uL ?_
  refine uM rfl ?_
  refine uX (zDp (Es := Es) (s := s) (most := most) (tb := tb) (pp := pp) (q := sl (some ⟨g, 0, none⟩) c 5 1 (txt (rls Es) (i + 1)).length (byC (txt (rls Es) (i + 1)))) (bs := txt (rls Es) (i + 1)) hE hB (fun _ => ⟨g, 0, rfl, qUa (fun _ _ h => h)⟩) (by omega) (by omega)) rfl ?_
  rintro _ _ ⟨M, id, rfl, hM, htt, hgd, hor, rfl⟩
  simp only [uV, uW]
  refine uM rfl (uB (qU rfl rfl) (uB (qU rfl rfl) (uA rfl (uA rfl (qL (qJ (qK (qI (uM rfl (uM rfl (uM rfl (uM rfl ?_))))))))))))
  refine uX (qVs (f := f) (m := m) (pp := pp) (bm := bm) (x := i + 1) (y := id) hE) rfl ?_
  rintro _ _ ⟨rfl, rfl⟩
  simp only [uV, uW]
  refine uA rfl (uA rfl (qL (qJ (kD (qW ?_)))))
  have e : txt (rls (Es ++ M)) (i + 1) = txt (rls Es) (i + 1) := by rw [kI]; exact qDj _ (by rw [zS]; omega)
  exact uZ rfl (.tmp rfl (.tmp rfl .nil)) ⟨M, id, rfl, by omega, ⟨by rw [zS, List.length_append]; omega, by rw [htt, e], hgd, by rw [e]; exact hor⟩, rfl⟩
 exfalso; omega
structure OcG where
 ids : List Nat
 M : List Ent
 f : Int → Option Value
theorem ct_canOf (hE : Seat E) (hB : Base E.w0) {x : Nat} (hx : x ≤ Es.length) (hl : len (rls Es) x ≤ 256) (hroom : Es.length + 512 ≤ most) (hk : Kn (rls Es) f) :
  Ct E 53 [uPt m, .int .i64 (x : Nat)] [cells pp [uPt s, uPt tb] 106, tabP tb s (rls Es), zT s most Es, cells m [uPt pp, .map (some bm)] 103, mapF bm .i64 f]
   (fun v Q => ∃ M f' y, v = .tuple #[.int .i64 (y : Nat), .nilIface] ∧ M.length ≤ 512 ∧ Kn (rls (Es ++ M)) f' ∧ SigOf (rls (Es ++ M)) x y ∧ Q = [cells pp [uPt s, uPt tb] 106, tabP tb s (rls (Es ++ M)), zT s most (Es ++ M), cells m [uPt pp, .map (some bm)] 103, mapF bm .i64 f']) := by
 refine qBt (p := zT s most Es) uK (fun _ h => qAj h) (fun hsay => ?_)
 have hmr : qAw = 1048576 := rfl
 refine zQ (hE.fn Tryz.func53) rfl rfl rfl (fun R => ?_)
 simp only [qAa, uV, uW]
 refine qK (qI (uA rfl (uA rfl (qL (qJ (qK (qK (qI (uM rfl (uB (qBr rfl (hE.t rfl)) ?_))))))))))
 refine uM rfl (kU rfl rfl (uM rfl (kU rfl rfl (uB (zB rfl) ?_))))
 refine kU rfl rfl (uB (uBf rfl) ?_)
 refine kU rfl rfl (uL ?_)
 refine kU rfl rfl (uX (qGp hE) rfl ?_)
 rintro _ _ ⟨rfl, rfl⟩
 simp only [uV, uW]
 refine kU rfl rfl (uB (qBr rfl (hE.t rfl)) ?_)
 refine uB (qY rfl rfl) ?_
 refine qL (qJ (zF rfl (zD (qJ (qK (qK (qI (uM rfl (uB (y_lt rfl rfl) ?_)))))))))
 refine uM rfl ?_
 refine qAf 25 rfl (fun h1 => ?_) (fun h1 => ?_)
 ·exfalso; omega
 refine kU rfl rfl (uM rfl (kU rfl rfl (uM rfl (kU rfl rfl (uB (zB rfl) ?_)))))
 refine kU rfl rfl (uB (uBf rfl) ?_)
 refine kU rfl rfl (uL ?_)
 refine kU rfl rfl (uX (qGp hE) rfl ?_)
 rintro _ _ ⟨rfl, rfl⟩
 simp only [uV, uW]
 refine kU rfl rfl (uX (qYz hE) rfl ?_)
 rintro _ _ ⟨rfl, rfl⟩
 simp only [uV, uW]
 refine kU rfl rfl (uB (y_gt rfl rfl) ?_)
 refine uB (qY rfl rfl) ?_
 refine qL (qJ ?_)
 refine zG rfl (fun h2 => ?_) (fun h2 => ?_)
 ·exfalso; omega
 refine zD (qJ (qK (qK (qI (uM rfl (uB (y_eq rfl rfl) ?_))))))
 refine qL (qJ ?_)
 refine zG rfl (fun h3 => ?_) (fun h3 => ?_)
 ·obtain rfl : x = 0 := by omega
  refine qK (qI (uA rfl (uA rfl (qL (qJ (kD (qW ?_)))))))
  apply kE
  ·rfl
  ·(apply Rs.tmp rfl; apply Rs.tmp rfl; exact Rs.nil)
  ·exact ⟨[], f, 0, rfl, by simp, by rw [List.append_nil]; exact hk, SigOf.zero _, rfl⟩
  rw [List.append_nil]
  exact uI
 obtain ⟨i, rfl⟩ : ∃ i, x = i + 1 := ⟨x - 1, by omega⟩
 have f0 : (idC [i + 1])[0]? = some (.int .i64 ((i + 1 : Nat) : Int)) := rfl
 refine zD (qJ (qK (qI (uM rfl (uU ?_)))))
 refine qV (hE.t rfl) (hE.t rfl) rfl rfl rfl (fun b39 => ?_)
 refine uA rfl (qL (qJ (qK (zM ?_))))
 refine qBz (kF (p := cells b39 [.int .i64 ((i + 1 : Nat) : Int)] 37) (p' := sl (some ⟨b39, 0, none⟩) 1 37 1 1 (idC [i + 1])) uK (qAd rfl (by unfold maxLen; omega))) ?_
 refine qAc (fun q : OcG => [(0, uPt m), (1, .int .i64 ((i + 1 : Nat) : Int)), (6, .slice (some ⟨b39, 0, none⟩) q.ids.length 1)]) (fun q => [cells pp [uPt s, uPt tb] 106, tabP tb s (rls (Es ++ q.M)), zT s most (Es ++ q.M), cells m [uPt pp, .map (some bm)] 103, mapF bm .i64 q.f, sl (some ⟨b39, 0, none⟩) 1 37 1 q.ids.length (idC q.ids), R])
  (fun q => 2 * q.ids.length + if (q.f ((i + 1 : Nat) : Int)).isNone then 1 else 0) (fun q => (q.ids = [i + 1] ∨ q.ids = []) ∧ q.M.length ≤ 512 ∧ (q.f ((i + 1 : Nat) : Int) = none → q.M = []) ∧ Kn (rls (Es ++ q.M)) q.f ∧ (q.ids = [] → q.f ((i + 1 : Nat) : Int) ≠ none)) ⟨[i + 1], [], f⟩ ⟨.inl rfl, by simp, fun _ => rfl, by rw [List.append_nil]; exact hk, fun h => by cases h⟩ ⟨rfl, rfl, rfl, trivial⟩ ?_ ?_
 ·rw [List.append_nil]
  exact uI
 rintro ⟨ids, M, f'⟩ ⟨hids, hM, hnone, hkn, hend⟩
 simp only at hids hM hnone hkn hend ⊢
 have hi1 : [i + 1].length = 1 := rfl
 have hEM : (Es ++ M).length = Es.length + M.length := List.length_append
 rcases hids with rfl | rfl
 ·refine qK (qK (qI ?_))
  refine uM rfl (uB (uBl rfl) ?_)
  refine uB (y_gt rfl rfl) ?_
  refine qL (qJ ?_)
  refine zG rfl (fun h => ?_) (fun h => ?_)
  ·refine zD (qJ (zM (qK (qI ?_))))
   refine uM rfl (uM rfl (uB (uBl rfl) ?_))
   refine uB (uAs rfl rfl) ?_
   refine uB (uAj rfl rfl) ?_
   refine l_eq 47 (uPt b39) rfl rfl ?_
   obtain ⟨v, hfx⟩ | hfx : (∃ v, f' ((i + 1 : Nat) : Int) = some v) ∨ f' ((i + 1 : Nat) : Int) = none := by
    cases f' ((i + 1 : Nat) : Int) with
    | some v => exact .inl ⟨v, rfl⟩
    | none => exact .inr rfl
   ·apply qA
    ·(apply qN rfl (hE.t rfl) rfl; (repeat (first | rfl | assumption | constructor)); done)
    ·rfl
    refine uA rfl (qL (qJ (qK (qK (qI (uM rfl (uB (zB rfl) ?_)))))))
    refine uB (uBf rfl) ?_
    refine uL ?_
    refine uM rfl ?_
    refine uB (qGc (kt := 37) (et := 37) (z := .int .i64 0) (by rw [hE.P]; kernel_rfl) (by rw [hE.P]; kernel_rfl) (fun w => by rw [hE.P]; kernel_rfl) rfl rfl uK (by assumption)) ?_
    refine l_eq 55 (.tuple #[v, .bool true]) rfl rfl ?_
    refine uM rfl (uB (qU rfl rfl) (uB (qU rfl rfl) (uA rfl (uA rfl (qL (qJ (qK (qI (uM rfl (qL (qJ (zH rfl ?_))))))))))))
    refine qK (qI (uM rfl (uM rfl (uB (uBl rfl) ?_))))
    refine uB (uAs rfl rfl) ?_
    refine uB (qCf 0 rfl rfl (hE.t rfl) (by omega) (by omega)) ?_
    refine uA rfl (qL (qJ (kM (qP (zJ ?_)))))
    refine zU (ι := OcG) (j := ⟨[], M, f'⟩) ⟨.inr rfl, hM, hnone, hkn, fun _ => by show f' ((i + 1 : Nat) : Int) ≠ none; rw [hfx]; simp⟩ (by simp [hfx]) ⟨rfl, rfl, rfl, trivial⟩ ?_
    refine kG (kF (p := sl (some ⟨b39, 0, none⟩) 1 37 1 [i + 1].length (idC [i + 1])) (p' := sl (some ⟨b39, 0, none⟩) 1 37 1 0 (idC [])) uK (qEt (Nat.zero_le _) rfl (by simp))) ?_
    exact uI
   obtain rfl := hnone hfx
   rw [List.append_nil] at hkn ⊢
   have hent : Es[i]? = some (Es[i]'(by omega)) := List.getElem?_eq_getElem (by omega)
   generalize Es[i]'(by omega) = en at hent
   refine uL ?_
   refine uA rfl (qL (qJ (qK (qK (qI (uM rfl (uB (zB rfl) ?_)))))))
   refine uB (uBf rfl) ?_
   refine uL ?_
   refine uM rfl ?_
   refine uB (qGc (kt := 37) (et := 37) (z := .int .i64 0) (by rw [hE.P]; kernel_rfl) (by rw [hE.P]; kernel_rfl) (fun w => by rw [hE.P]; kernel_rfl) rfl rfl uK (by assumption)) ?_
   refine l_eq 55 (.tuple #[.int .i64 0, .bool false]) rfl rfl ?_
   refine uM rfl (uB (qU rfl rfl) (uB (qU rfl rfl) (uA rfl (uA rfl (qL (qJ (qK (qI (uM rfl (qL (qJ (zF rfl ?_))))))))))))
   refine zD (qJ (qK (qI (uM rfl (uM rfl (uX (ct_learn (f := f') (m := m) (pp := pp) (bm := bm) hE hB hent hl hroom) rfl ?_))))))
   rintro _ _ ⟨M, y, rfl, hM2, hsg, rfl⟩
   simp only [uV, uW]
   refine uM rfl (uB (qU rfl rfl) (uB (qU rfl rfl) (uA rfl (uA rfl (qL (qJ (qK (qK (qI (uM rfl ?_))))))))))
   refine uB (qAg rfl (hE.t rfl)) ?_
   refine qL (qJ (zF rfl (zD (qJ (qK (qI (uM rfl (uB (y_ne rfl rfl) ?_))))))))
   refine qL (qJ ?_)
   refine zG rfl (fun hz => ?_) (fun hz => ?_)
   ·exact absurd rfl hz
   refine zD (zK ?_)
   have hset : setF f' ((i + 1 : Nat) : Int) (.int .i64 (y : Nat)) ((i + 1 : Nat) : Int) = some (.int .i64 (y : Nat)) := if_pos rfl
   refine zU (ι := OcG) (j := ⟨[i + 1], M, setF f' ((i + 1 : Nat) : Int) (.int .i64 (y : Nat))⟩) ⟨.inl rfl, hM2, fun h => absurd (hset.symm.trans h) (by simp), by simp only [kI] at hsg ⊢; exact (hkn.ext _).set hsg, fun h => by cases h⟩ (by simp only [hset, hfx]; simp) ⟨rfl, rfl, rfl, trivial⟩ ?_
   exact uI
  exfalso; simp at h
 refine qK (qK (qI ?_))
 refine uM rfl (uB (uBl rfl) ?_)
 refine uB (y_gt rfl rfl) ?_
 refine qL (qJ ?_)
 refine zG rfl (fun h => ?_) (fun h => ?_)
 ·exfalso; simp at h
 obtain ⟨v, hfx⟩ : ∃ v, f' ((i + 1 : Nat) : Int) = some v := Option.ne_none_iff_exists'.1 (hend rfl)
 obtain ⟨y, rfl, hsg⟩ := hkn.at hfx
 refine kM (qP (qP (zJ (qJ (qK (qI (uM rfl (uB (zB rfl) ?_))))))))
 refine uB (uBf rfl) ?_
 refine uL ?_
 refine uM rfl ?_
 refine uB (qGc (kt := 37) (et := 37) (z := .int .i64 0) (by rw [hE.P]; kernel_rfl) (by rw [hE.P]; kernel_rfl) (fun w => by rw [hE.P]; kernel_rfl) rfl rfl uK (by assumption)) ?_
 refine uA rfl (uA rfl (qL (qJ (kD ?_))))
 exact uZ rfl (.tmp rfl (.tmp rfl .nil)) ⟨M, f', y, rfl, hM, hkn, hsg, rfl⟩
structure AlG where
 M : List Ent
 f : Int → Option Value
 ys : List Nat
 g : Nat
 c : Nat
def SigL (L : List Rl) (xs ys : List Nat) : Prop := ∀ (i x y : Nat), xs[i]? = some x → ys[i]? = some y → SigOf L x y
theorem SigL.ext {L : List Rl} (M : List Rl) {xs ys : List Nat} (h : SigL L xs ys) : SigL (L ++ M) xs ys := fun i x y h1 h2 => (h i x y h1 h2).ext M
theorem SigL.snoc {L : List Rl} {xs ys : List Nat} (h : SigL L xs ys) {x y : Nat} (hx : xs[ys.length]? = some x) (hs : SigOf L x y) : SigL L xs (ys ++ [y]) := fun i x' y' h1 h2 => by
 rcases Nat.lt_trichotomy i ys.length with e | e | e
 ·rw [List.getElem?_append_left e] at h2; exact h i x' y' h1 h2
 ·subst e
  rw [hx] at h1
  cases h1
  simp at h2
  subst h2
  exact hs
 have := (List.getElem?_eq_some_iff.1 h2).1
 simp at this
 omega
theorem ct_All (hE : Seat E) (hB : Base E.w0) {xs : List Nat} {p : Option Addr} {c : Nat} (hx : ∀ x ∈ xs, x ≤ Es.length ∧ len (rls Es) x ≤ 256) (hn : xs.length ≤ 1000) (hroom : Es.length + 512 * xs.length ≤ most) (hk : Kn (rls Es) f) :
  Ct E 60 [uPt m, .slice p xs.length c] [cells pp [uPt s, uPt tb] 106, tabP tb s (rls Es), zT s most Es, cells m [uPt pp, .map (some bm)] 103, mapF bm .i64 f, sl p c 37 1 xs.length (idC xs)]
   (fun v Q => ∃ M f' ys p' c', v = .tuple #[.slice p' xs.length c', .nilIface] ∧ M.length ≤ 512 * xs.length ∧ Kn (rls (Es ++ M)) f' ∧ ys.length = xs.length ∧ SigL (rls (Es ++ M)) xs ys ∧ Q = [cells pp [uPt s, uPt tb] 106, tabP tb s (rls (Es ++ M)), zT s most (Es ++ M), cells m [uPt pp, .map (some bm)] 103, mapF bm .i64 f', sl p c 37 1 xs.length (idC xs), sl p' c' 37 1 xs.length (idC ys)]) := by
 refine zQ (hE.fn Tryz.func60) rfl rfl rfl (fun R => ?_)
 simp only [qAa, uV, uW]
 refine qK (qI (uA rfl (uA rfl (qL (qJ (qK (qI (uM rfl (uB (uBl rfl) ?_)))))))))
 refine uU ?_
 refine qCo (hE.t rfl) (hE.t rfl) rfl rfl (by first | omega | exact Nat.le_of_ble_eq_true rfl) (by (unfold maxLen; first | omega | exact Nat.le_of_ble_eq_true rfl)) (fun b13 us13 hu13 => ?_)
 refine uA rfl (qL (qJ (qK (qK (qI (uM rfl (uB (uBl rfl) ?_)))))))
 refine uM rfl (qL (qJ (zM ?_)))
 refine qBz (kF (p := sl (some ⟨b13, 0, none⟩) xs.length 37 1 xs.length us13) (p' := sl (some ⟨b13, 0, none⟩) xs.length 37 1 0 (idC [])) uK (qEt (Nat.zero_le _) rfl (by simp))) ?_
 refine qAc (fun q : AlG => [(0, uPt m), (6, .slice (some ⟨q.g, 0, none⟩) q.ys.length q.c), (14, .slice p xs.length c), (15, .int .i64 (xs.length : Nat)), (16, .int .i64 (q.ys.length : Nat))]) (fun q => [cells pp [uPt s, uPt tb] 106, tabP tb s (rls (Es ++ q.M)), zT s most (Es ++ q.M), cells m [uPt pp, .map (some bm)] 103, mapF bm .i64 q.f, sl p c 37 1 xs.length (idC xs), sl (some ⟨q.g, 0, none⟩) q.c 37 1 q.ys.length (idC q.ys), R])
  (fun q => xs.length - q.ys.length) (fun q => q.ys.length ≤ xs.length ∧ q.M.length ≤ 512 * q.ys.length ∧ Kn (rls (Es ++ q.M)) q.f ∧ SigL (rls (Es ++ q.M)) xs q.ys) ⟨[], f, [], b13, xs.length⟩ ⟨Nat.zero_le _, by simp, by rw [List.append_nil]; exact hk, fun i x y _ h => by simp at h⟩ ⟨rfl, rfl, rfl, rfl, rfl, trivial⟩ ?_ ?_
 ·rw [List.append_nil]
  exact uI
 rintro ⟨M, f', ys, g, c2⟩ ⟨hle, hM, hkn, hsl⟩
 simp only at hle hM hkn hsl ⊢
 refine qK (qI (uB (y_lt rfl rfl) ?_))
 refine qL (qJ (qK ?_))
 refine zG rfl (fun h => ?_) (fun h => ?_)
 ·have hlt : ys.length < xs.length := by omega
  obtain ⟨x, hxi⟩ : ∃ x, xs[ys.length]? = some x := ⟨_, List.getElem?_eq_getElem hlt⟩
  have hxx := hx x (List.mem_of_getElem? hxi)
  have hx1 : x ≤ (Es ++ M).length := by simp; omega
  have hx2 : len (rls (Es ++ M)) x ≤ 256 := by
   unfold len
   rw [kI, qDj _ (by rw [zS]; omega)]
   exact hxx.2
  have hx3 : (Es ++ M).length + 512 ≤ most := by simp; omega
  refine qCy (p := sl p c 37 1 xs.length (idC xs)) uK (fun _ h => qAi h (by omega)) ?_
  rintro ⟨gx, rfl⟩
  have f0 := qAl hxi (0 + ((ys.length : Nat) : Int).toNat) (by omega)
  have f1 := qAl hxi (((ys.length : Nat) : Int).toNat) (by omega)
  refine zD (qJ (qK (zM (qK (qI (uB (uAj rfl rfl) ?_))))))
  refine uL ?_
  refine uA rfl (qL (qJ (qK (qI (uM rfl (uM rfl ?_))))))
  refine uX (ct_canOf (Es := Es ++ M) (f := f') (m := m) (pp := pp) (bm := bm) hE hB hx1 hx2 hx3 hkn) rfl ?_
  rintro _ _ ⟨M2, f2, y, rfl, hM2, hkn2, hsg, rfl⟩
  simp only [uV, uW]
  rw [List.append_assoc] at hkn2 hsg ⊢
  refine uM rfl (uB (qU rfl rfl) (uB (qU rfl rfl) (uA rfl (uA rfl (qL (qJ (qK (qK (qI (uM rfl ?_))))))))))
  refine uB (qAg rfl (hE.t rfl)) ?_
  refine qL (qJ (zF rfl (zD (qJ (qI (uM rfl (uM rfl (uU ?_))))))))
  refine qV (hE.t rfl) (hE.t rfl) rfl rfl rfl (fun b31 => ?_)
  refine uU ?_
  apply zW (hE.t rfl) (hE.t rfl) rfl rfl rfl
  ·exact uK
  ·exact uK
  ·rfl
  ·rfl
  ·omega
  ·omega
  ·(unfold maxLen; omega)
  intro g32 c32 n32 x32 hn32 hx32
  refine uA rfl (qL (zK (qJ (qI (uB (uAa rfl rfl) ?_)))))
  refine uM rfl (qL ?_)
  obtain rfl : x32 = idC (ys ++ [y]) := by rw [hx32, qBa]; rfl
  have hyl : (ys ++ [y]).length = ys.length + 1 := by simp
  subst hn32
  refine zU (ι := AlG) (j := ⟨M ++ M2, f2, ys ++ [y], g32, c32⟩) ⟨by simp only; omega, by simp only [List.length_append, List.length_singleton]; omega, hkn2, ?_⟩ (by simp only; omega) ⟨rfl, by simp only [hyl]; rfl, rfl, rfl, by simp only [hyl]; exact congrArg some (zY (by omega)), trivial⟩ ?_
  ·simp only
   refine SigL.snoc ?_ hxi hsg
   rw [← List.append_assoc, kI]
   exact hsl.ext _
  simp only [hyl]
  exact uI
 have he : ys.length = xs.length := by omega
 refine kM (qP (qP (zJ (qJ (qK (qI (uM rfl (uA rfl (uA rfl (qL (qJ (kD ?_))))))))))))
 apply kE
 ·rfl
 ·(apply Rs.tmp rfl; apply Rs.tmp rfl; exact Rs.nil)
 ·exact ⟨M, f', ys, some ⟨g, 0, none⟩, c2, by rw [he]; rfl, by omega, hkn, he, hsl, rfl⟩
 rw [he]
 exact uI
theorem ct_AllN (hE : Seat E) (hB : Base E.w0) {xs : List Nat} {n : Nat} (hxn : xs.length = n) {p : Option Addr} {c : Nat} (hx : ∀ x ∈ xs, x ≤ Es.length ∧ len (rls Es) x ≤ 256) (hn : n ≤ 1000) (hroom : Es.length + 512 * n ≤ most) (hk : Kn (rls Es) f) :
  Ct E 60 [uPt m, .slice p n c] [cells pp [uPt s, uPt tb] 106, tabP tb s (rls Es), zT s most Es, cells m [uPt pp, .map (some bm)] 103, mapF bm .i64 f, sl p c 37 1 n (idC xs)]
   (fun v Q => ∃ M f' ys p' c', v = .tuple #[.slice p' n c', .nilIface] ∧ M.length ≤ 512 * n ∧ Kn (rls (Es ++ M)) f' ∧ ys.length = n ∧ SigL (rls (Es ++ M)) xs ys ∧ Q = [cells pp [uPt s, uPt tb] 106, tabP tb s (rls (Es ++ M)), zT s most (Es ++ M), cells m [uPt pp, .map (some bm)] 103, mapF bm .i64 f', sl p c 37 1 n (idC xs), sl p' c' 37 1 n (idC ys)]) := by
 subst hxn
 exact ct_All hE hB hx hn hroom hk
end
end Go.Proofs.YtkkjjablmmmmkaaGreatDoor
