import Derived.Test.YtlleicanafioaaaDoorQ11
set_option linter.all false
set_option maxHeartbeats 1000000
namespace Go.Proofs.YtlleicanafioaaaDoor
open Go Go.RowKit Sl Eg
set_option maxRecDepth 10000
variable {E : Env} {Es : List Ent} {pp tb s most : Nat}
structure PrG where
 k : Nat
 M : List Ent
 out : List Nat
 xs : List Value
 ys : List Value
 a : Nat
theorem ct_pairs (hE : Seat E) (hB : Base E.w0) {g1 g2 c1 c2 l : Nat} {ids : List Nat} (hn : ids.length ≤ 65536) (h2 : 2 ≤ l) (he : l % 2 = 0) (hll : l < 1099511627776) (hids : ∀ x ∈ ids, 1 ≤ x ∧ x ≤ Es.length) (hlen : ∀ i x y, ids[i]? = some x → ids[i + 1]? = some y → (txt (rls Es) x).length + (txt (rls Es) y).length ≤ kK) (hroom : Es.length + ids.length ≤ most) :
  Ct E 19 [uPt pp, .agg #[.slice (some ⟨g1, 0, none⟩) ids.length c1, .slice (some ⟨g2, 0, none⟩) ids.length c2], .int .i64 (l : Nat)] [cells pp [uPt s, uPt tb] 57, tabP tb s (rls Es), zU s most Es, sl (some ⟨g1, 0, none⟩) c1 28 1 ids.length (idC ids), sl (some ⟨g2, 0, none⟩) c2 42 1 ids.length (kyC (ids.map (key (rls Es))))]
   (fun v Q => ∃ M out a, v = .tuple #[.agg #[.slice (some ⟨g1, 0, none⟩) (out ++ ids.drop a).length c1, .slice (some ⟨g2, 0, none⟩) (out ++ ids.drop a).length c2], .nilIface] ∧ M.length + (out ++ ids.drop a).length ≤ ids.length ∧ Prs (rls (Es ++ M)) ids (qBh (ids.map (key (rls Es))) (lnum l)) a out ∧ Fresh Es.length (Es ++ M).length out ∧
    Q = [cells pp [uPt s, uPt tb] 57, tabP tb s (rls (Es ++ M)), zU s most (Es ++ M), sl (some ⟨g1, 0, none⟩) c1 28 1 (out ++ ids.drop a).length (idC (out ++ ids.drop a)), sl (some ⟨g2, 0, none⟩) c2 42 1 (out ++ ids.drop a).length (kyC ((out ++ ids.drop a).map (key (rls (Es ++ M)))))]) := by
 have hg := qLo (ids.map (key (rls Es))) (lnum l)
 have hpl := qNb hg
 have hkl : (ids.map (key (rls Es))).length = ids.length := by simp
 have hcp := ct_Pairs (E := E) (g := g2) (c := c2) (l := l) (ks := ids.map (key (rls Es))) hE (by omega) h2 he hll
 generalize qBh (ids.map (key (rls Es))) (lnum l) = js at *
 rw [hkl] at hcp hg hpl
 refine qAy (p := sl (some ⟨g1, 0, none⟩) c1 28 1 ids.length (idC ids)) uK (fun _ h => qKa h) ?_
 rintro ⟨hc1, -, -⟩
 refine qAy (p := sl (some ⟨g2, 0, none⟩) c2 42 1 ids.length (kyC (ids.map (key (rls Es))))) uK (fun _ h => qKa h) ?_
 rintro ⟨hc2, -, -⟩
 refine zR (hE.fn Tryd.func19) rfl rfl rfl (fun R => ?_)
 simp only [qAo, uV, uW]
 refine qN (qL (uU ?_))
 refine qIh rfl (fun b4 => ?_)
 refine uU (kI (hE.t rfl) (fun b6 => ?_))
 refine uA rfl (qO (qM (qN ?_)))
 refine uN 8 ([cells b4 [.slice (some ⟨g1, 0, none⟩) ids.length c1, .slice (some ⟨g2, 0, none⟩) ids.length c2] 61]) ?_
 refine uT 0 rfl (uBf rfl) ?_
 refine uT 1 rfl (uY) ?_
 refine uT 2 rfl (qBs 0 rfl rfl (hE.t rfl) rfl (Nat.zero_le _)) ?_
 refine uT 3 rfl (uBf rfl) ?_
 refine uT 4 rfl (uY) ?_
 refine uT 5 rfl (qBs 0 rfl rfl (hE.t rfl) rfl (Nat.zero_le _)) ?_
 refine uT 6 rfl (qAl (hE.t rfl) rfl rfl) ?_
 apply qAg 7 rfl (by kernel_rfl) rfl
 refine kI (hE.t rfl) (fun b8 => ?_)
 refine uE ?_
 apply qBt rfl (by kernel_rfl) (by kernel_rfl) rfl
 refine uS ?_
 refine qM (qN (qL (uA rfl (qO (qM (qN (qN (qL (uB (uBf rfl) ?_)))))))))
 refine uL ?_
 refine uM rfl (uX (hcp) rfl ?_)
 rintro _ _ ⟨rp, rc, rfl, rfl⟩
 simp only [uV, uW]
 refine uB (uBl rfl) ?_
 refine uM rfl (qO (qM (zN ?_)))
 refine qDb (fun x : PrG => [(0, uPt pp), (4, uPt b4), (6, uPt b6), (8, uPt b8), (9, .int .i64 (x.a : Nat)), (25, .slice rp js.length rc), (26, .int .i64 (js.length : Nat)), (27, .int .i64 (x.k : Nat))]) (fun x => [cells pp [uPt s, uPt tb] 57, tabP tb s (rls (Es ++ x.M)), zU s most (Es ++ x.M), cells b8 [.slice (some ⟨g1, 0, none⟩) x.out.length c1, .slice (some ⟨g2, 0, none⟩) x.out.length c2] 61, sl (some ⟨g1, 0, none⟩) c1 28 1 ids.length x.xs, sl (some ⟨g2, 0, none⟩) c2 42 1 ids.length x.ys, cells b4 [.slice (some ⟨g1, 0, none⟩) ids.length c1, .slice (some ⟨g2, 0, none⟩) ids.length c2] 61, cells b6 [.slice none 0 0, .slice none 0 0] 61, sl rp rc 3 1 js.length (idC js), R]) (fun x => js.length - x.k)
  (fun x => x.k ≤ js.length ∧ x.M.length ≤ x.k ∧ Prs (rls (Es ++ x.M)) ids (js.take x.k) x.a x.out ∧ Over (rls (Es ++ x.M)) x.out ids x.xs x.ys ∧ Gaps (js.drop x.k) x.a ids.length ∧ Fresh Es.length (Es ++ x.M).length x.out) ⟨0, [], [], idC ids, kyC (ids.map (key (rls Es))), 0⟩ ?_ ?_ ?_ ?_
 ·refine ⟨Nat.zero_le _, Nat.le_refl _, .nil, ?_, hg, ?_⟩
  ·show Over (rls (Es ++ [])) _ _ _ _
   rw [List.append_nil]; exact Over.start _ _
  show Fresh _ (Es ++ []).length _
  rw [List.append_nil]; exact qFt _ _
 ·exact ⟨rfl, rfl, rfl, rfl, rfl, rfl, rfl, rfl, trivial⟩
 ·rw [List.append_nil]
  exact uI
 rintro ⟨k, M, out, xs, ys, a⟩ ⟨hk, hM, hpr, hov, hgp, hfr⟩
 simp only at hk hM hpr hov hgp hfr ⊢
 have hle1 : ∀ y ∈ ids, y ≤ (rls (Es ++ M)).length := fun y hy => by have := (hids y hy).2; rw [zT]; simp; omega
 have hle2 := hpr.le hle1
 obtain ⟨hoa, han⟩ := hpr.length
 rw [List.length_take, Nat.min_eq_left hk] at hoa
 refine qN (qL (uB (y_lt rfl rfl) ?_))
 refine qO (qM (qN ?_))
 refine zH rfl (fun hlt => ?_) (fun hlt => ?_)
 ·have hkn : k < js.length := by omega
  obtain ⟨i, hi⟩ : ∃ x, js[k]? = some x := ⟨_, List.getElem?_eq_getElem hkn⟩
  have eD : js.drop k = i :: js.drop (k + 1) := by
   rw [List.drop_eq_getElem_cons hkn]; congr 1
   have := List.getElem?_eq_getElem hkn; rw [hi] at this; simpa using this.symm
  have eT : js.take (k + 1) = js.take k ++ [i] := by rw [List.take_add_one, hi]; rfl
  rw [eD] at hgp
  obtain ⟨hai, hin, hgp2⟩ := hgp
  refine qFd (p := sl rp rc 3 1 js.length (idC js)) uK (fun _ h => qCc h (by omega)) ?_
  rintro ⟨g3, rfl⟩
  have f0 := qVc hi ((k : Nat) : Int).toNat (by omega)
  have hov1 := hov.seg (a := a) (i := i) (by omega) hai (by omega)
  have px : qBu ((xs.drop a).take (i - a)) = true := by rw [qGz hov.ox (by omega), idC, ← List.map_drop, ← List.map_take]; exact qTr _
  have py : qBu ((ys.drop a).take (i - a)) = true := by rw [qGz hov.oy (by omega), kyC, ← List.map_drop, ← List.map_take]; exact qTs _
  refine zF (qM (qN (zN (qN (qL (uB (uAj rfl rfl) ?_))))))
  refine uL ?_
  refine uA rfl (qO (qM (qN ?_)))
  refine uN 9 ([cells b8 [.slice (some ⟨g1, 0, none⟩) out.length c1, .slice (some ⟨g2, 0, none⟩) out.length c2] 61, cells b4 [.slice (some ⟨g1, 0, none⟩) ids.length c1, .slice (some ⟨g2, 0, none⟩) ids.length c2] 61]) ?_
  refine uT 0 rfl (uBf rfl) ?_
  refine uT 1 rfl (uY) ?_
  refine uT 2 rfl (uBf rfl) ?_
  refine uT 3 rfl (uY) ?_
  refine uT 4 rfl (qE rfl) ?_
  apply kN 5 rfl (by kernel_rfl)
  ·exact qE rfl
  ·rfl
  apply kN 6 rfl (by kernel_rfl)
  ·exact qBd rfl (hE.t rfl) ⟨_, rfl⟩ ⟨_, rfl⟩ (by omega) (by omega)
  ·rfl
  apply qAg 7 rfl (by kernel_rfl) rfl
  refine qDv (us := (xs.drop a).take (i - a)) (lo := a) (N := ids.length) (hE.t rfl) (hE.t rfl) rfl rfl (qMh hc1 hai (by omega)) uK (by simp) px (by omega) (by omega) ?_
  refine uE ?_
  apply kN 8 rfl (by kernel_rfl)
  ·exact uBf rfl
  ·rfl
  apply qBt rfl (by kernel_rfl) (by kernel_rfl) rfl
  refine uS ?_
  refine qM (qN ?_)
  refine uN 9 ([cells b8 [.slice (some ⟨g1, 0, none⟩) (out.length + (i - a)) c1, .slice (some ⟨g2, 0, none⟩) out.length c2] 61, cells b4 [.slice (some ⟨g1, 0, none⟩) ids.length c1, .slice (some ⟨g2, 0, none⟩) ids.length c2] 61]) ?_
  refine uT 0 rfl (uBf rfl) ?_
  refine uT 1 rfl (uY) ?_
  refine uT 2 rfl (uBf rfl) ?_
  refine uT 3 rfl (uY) ?_
  refine uT 4 rfl (qE rfl) ?_
  apply kN 5 rfl (by kernel_rfl)
  ·exact qE rfl
  ·rfl
  apply kN 6 rfl (by kernel_rfl)
  ·exact qBd rfl (hE.t rfl) ⟨_, rfl⟩ ⟨_, rfl⟩ (by omega) (by omega)
  ·rfl
  apply qAg 7 rfl (by kernel_rfl) rfl
  refine qDv (us := (ys.drop a).take (i - a)) (lo := a) (N := ids.length) (hE.t rfl) (hE.t rfl) rfl rfl (qMh hc2 hai (by omega)) uK (by simp) py (by omega) (by omega) ?_
  refine uE ?_
  apply kN 8 rfl (by kernel_rfl)
  ·exact uBf rfl
  ·rfl
  apply qBt rfl (by kernel_rfl) (by kernel_rfl) rfl
  refine uS ?_
  refine qM ?_
  simp only [Nat.mul_one]
  have hl1 : (out ++ (ids.drop a).take (i - a)).length = out.length + (i - a) := by simp; omega
  have hpr1 : ∀ x ∈ out ++ (ids.drop a).take (i - a), x ≤ (rls (Es ++ M)).length := fun x hx => by
   rcases List.mem_append.1 hx with h | h
   ·exact hle2 x h
   exact hle1 x (List.mem_of_mem_drop (List.mem_of_mem_take h))
  rw [← hl1]
  obtain ⟨x, hx⟩ : ∃ x, ids[i]? = some x := ⟨_, List.getElem?_eq_getElem (by omega)⟩
  obtain ⟨y, hy⟩ : ∃ y, ids[i + 1]? = some y := ⟨_, List.getElem?_eq_getElem (by omega)⟩
  have hlxy := hlen i x y hx hy
  obtain ⟨hx1, hx2⟩ := hids x (List.mem_of_getElem? hx)
  obtain ⟨hy1, hy2⟩ := hids y (List.mem_of_getElem? hy)
  obtain ⟨ix, rfl⟩ : ∃ i, x = i + 1 := ⟨x - 1, by omega⟩
  obtain ⟨iy, rfl⟩ : ∃ i, y = i + 1 := ⟨y - 1, by omega⟩
  have f1 := hov1.id (k := ((i : Nat) : Int).toNat) (x := ix + 1) (by rw [hl1]; omega) (by rw [Int.toNat_natCast]; exact hx)
  have f2 := hov1.id (k := (((i : Nat) : Int) + 1).toNat) (x := iy + 1) (by rw [hl1]; omega) (by rw [show (((i : Nat) : Int) + 1).toNat = i + 1 by omega]; exact hy)
  refine qFd (p := zU s most (Es ++ M)) uK (fun _ h => qAb h) ?_
  rintro ⟨hwf, htx, -, -⟩
  have hEx : (Es ++ M)[ix]? = some Es[ix] := by rw [List.getElem?_append_left (by omega), List.getElem?_eq_getElem (by omega)]
  have hEy : (Es ++ M)[iy]? = some Es[iy] := by rw [List.getElem?_append_left (by omega), List.getElem?_eq_getElem (by omega)]
  have hlt2 : (Es[ix]).t.length + (Es[iy]).t.length ≤ kK := by rw [htx ix _ hEx, htx iy _ hEy, kJ, qFa _ (by rw [zT]; omega), qFa _ (by rw [zT]; omega)]; exact hlxy
  have hr : (Es ++ M).length < most := by simp; omega
  generalize hxs : kC xs out.length ((xs.drop a).take (i - a)) = xs1 at *
  generalize hys : kC ys out.length ((ys.drop a).take (i - a)) = ys1 at *
  generalize ho1 : out ++ (ids.drop a).take (i - a) = out1 at *
  refine qN ?_
  refine uH ([cells pp [uPt s, uPt tb] 57, cells b4 [.slice (some ⟨g1, 0, none⟩) ids.length c1, .slice (some ⟨g2, 0, none⟩) ids.length c2] 61, sl (some ⟨g1, 0, none⟩) c1 28 1 ids.length xs1]) ?_
  refine uD 0 rfl (qE rfl) ?_
  refine uD 1 rfl (zD rfl) ?_
  refine uD 2 rfl (uBf rfl) ?_
  refine uD 3 rfl (uY) ?_
  refine uD 4 rfl (uBf rfl) ?_
  refine uD 5 rfl (uY) ?_
  refine uD 6 rfl (qE rfl) ?_
  refine uD 7 rfl (uAj rfl rfl) ?_
  refine uD 8 rfl (uY) ?_
  refine uD 9 rfl (uBf rfl) ?_
  refine uD 10 rfl (uY) ?_
  refine uD 11 rfl (qE rfl) ?_
  refine uD 12 rfl (uAa rfl rfl) ?_
  refine uD 13 rfl (uAj rfl rfl) ?_
  refine uD 14 rfl (uY) ?_
  apply kP 15 rfl (by kernel_rfl) rfl
  refine uC (qWl hE hEx hEy hlt2 hr) rfl ?_
  rintro _ _ ⟨M2, id, rfl, hid, hrl, hMx, rfl⟩
  have hM2 : M2.length ≤ 1 := by rcases hMx with rfl | ⟨x, rfl, _⟩ <;> simp
  obtain ⟨j, rfl⟩ : ∃ j, id = j + 1 := ⟨id - 1, by omega⟩
  rw [Nat.add_sub_cancel] at hrl
  have hjl : j < (Es ++ M ++ M2).length := by have := (List.getElem?_eq_some_iff.1 hrl).1; rwa [zT] at this
  have hov2 : Over (rls (Es ++ M ++ M2)) out1 ids xs1 ys1 := by rw [kJ (Es ++ M)]; exact hov1.ext _ hpr1 hle1
  have hpr2 : Prs (rls (Es ++ M ++ M2)) ids (js.take (k + 1)) (i + 2) (out1 ++ [j + 1]) := by
   rw [eT, ← ho1]
   exact .snoc (by rw [kJ (Es ++ M)]; exact hpr.ext _) hai hx hy hrl
  simp only [uV, uW]
  refine uE ?_
  refine uD 16 rfl (qE rfl) ?_
  refine uD 17 rfl (qX rfl rfl) ?_
  refine uD 18 rfl (qX rfl rfl) ?_
  refine uD 19 rfl (qF rfl) ?_
  refine uD 20 rfl (qF rfl) ?_
  refine qGy (by kernel_rfl) ?_
  refine qM ?_
  refine qFd (p := zU s most (Es ++ M ++ M2)) uK (fun _ h => (qAb h).1) ?_
  intro hwf2
  have hfr2 : Fresh Es.length (Es ++ M ++ M2).length (out1 ++ [j + 1]) := Fresh.more (fun x h1 h3 => by rw [← ho1]; exact List.mem_append_left _ (hfr x h1 h3)) (qJp hwf2 hrl hMx)
  clear hwf2
  refine qKh (kG (p := tabP tb s (rls (Es ++ M))) (p' := tabP tb s (rls (Es ++ M ++ M2))) uK (fun _ h => by rw [kJ (Es ++ M)]; exact qGu _ h)) ?_
  rw [List.append_assoc] at hjl hrl hov2 hpr2 hfr2 ⊢
  have hmn : out1.length < ids.length := by omega
  refine qN (qN (qL (uM rfl (uB (qAk rfl (hE.t rfl)) ?_))))
  refine qO (qM (zG rfl (zF (qM (qN (qN (qL (uM rfl (uM rfl (uX (ct_add hE hB hjl hmn) rfl ?_))))))))))
  rintro _ _ ⟨rfl, rfl⟩
  simp only [uV, uW]
  refine uA rfl (qO (qM (qN (qL (uM rfl (uB (qAk rfl (hE.t rfl)) ?_))))))
  refine qO (qM (zG rfl (zF (qM (qL (uM rfl (uB (uAa rfl rfl) ?_)))))))
  refine uA rfl (qO (zL (qM (qL (uB (uAa rfl rfl) ?_)))))
  refine uM rfl (qO ?_)
  refine qCj 27 (.int .i64 ((k + 1 : Nat) : Int)) rfl (zZ (by omega)) ?_
  refine qCj 9 (.int .i64 ((i + 2 : Nat) : Int)) rfl (zZ (by omega)) ?_
  refine zV (ι := PrG) (j := ⟨k + 1, M ++ M2, out1 ++ [j + 1], _, _, i + 2⟩) ⟨hkn, by simp; omega, hpr2, hov2.snoc hmn _, hgp2, hfr2⟩ ?_ ?_ ?_
  ·show js.length - (k + 1) < js.length - k; omega
  ·exact ⟨rfl, rfl, rfl, rfl, rfl, rfl, rfl, rfl, trivial⟩
  rw [show (out1 ++ [j + 1]).length = out1.length + 1 by simp]
  exact uI
 obtain rfl : k = js.length := by omega
 rw [List.take_of_length_le (Nat.le_refl _)] at hpr
 have hov1 := hov.seg (a := a) (i := ids.length) (by omega) han (Nat.le_refl _)
 have px : qBu ((xs.drop a).take (ids.length - a)) = true := by rw [qGz hov.ox (by omega), idC, ← List.map_drop, ← List.map_take]; exact qTr _
 have py : qBu ((ys.drop a).take (ids.length - a)) = true := by rw [qGz hov.oy (by omega), kyC, ← List.map_drop, ← List.map_take]; exact qTs _
 refine kM (qU (qU (zK (qM (qN ?_)))))
 refine uN 8 ([cells b8 [.slice (some ⟨g1, 0, none⟩) out.length c1, .slice (some ⟨g2, 0, none⟩) out.length c2] 61, cells b4 [.slice (some ⟨g1, 0, none⟩) ids.length c1, .slice (some ⟨g2, 0, none⟩) ids.length c2] 61]) ?_
 refine uT 0 rfl (uBf rfl) ?_
 refine uT 1 rfl (uY) ?_
 refine uT 2 rfl (uBf rfl) ?_
 refine uT 3 rfl (uY) ?_
 apply kN 4 rfl (by kernel_rfl)
 ·exact qE rfl
 ·rfl
 apply kN 5 rfl (by kernel_rfl)
 ·exact qBd rfl (hE.t rfl) ⟨_, rfl⟩ rfl (by omega) (by omega)
 ·rfl
 apply qAg 6 rfl (by kernel_rfl) rfl
 refine qDv (us := (xs.drop a).take (ids.length - a)) (lo := a) (N := ids.length) (hE.t rfl) (hE.t rfl) rfl rfl (qMh hc1 han (Nat.le_refl _)) uK (by simp) px (by omega) (by omega) ?_
 refine uE ?_
 apply kN 7 rfl (by kernel_rfl)
 ·exact uBf rfl
 ·rfl
 apply qBt rfl (by kernel_rfl) (by kernel_rfl) rfl
 refine uS ?_
 refine qM (qN ?_)
 refine uN 8 ([cells b8 [.slice (some ⟨g1, 0, none⟩) (out.length + (ids.length - a)) c1, .slice (some ⟨g2, 0, none⟩) out.length c2] 61, cells b4 [.slice (some ⟨g1, 0, none⟩) ids.length c1, .slice (some ⟨g2, 0, none⟩) ids.length c2] 61]) ?_
 refine uT 0 rfl (uBf rfl) ?_
 refine uT 1 rfl (uY) ?_
 refine uT 2 rfl (uBf rfl) ?_
 refine uT 3 rfl (uY) ?_
 apply kN 4 rfl (by kernel_rfl)
 ·exact qE rfl
 ·rfl
 apply kN 5 rfl (by kernel_rfl)
 ·exact qBd rfl (hE.t rfl) ⟨_, rfl⟩ rfl (by omega) (by omega)
 ·rfl
 apply qAg 6 rfl (by kernel_rfl) rfl
 refine qDv (us := (ys.drop a).take (ids.length - a)) (lo := a) (N := ids.length) (hE.t rfl) (hE.t rfl) rfl rfl (qMh hc2 han (Nat.le_refl _)) uK (by simp) py (by omega) (by omega) ?_
 refine uE ?_
 apply kN 7 rfl (by kernel_rfl)
 ·exact uBf rfl
 ·rfl
 apply qBt rfl (by kernel_rfl) (by kernel_rfl) rfl
 refine uS ?_
 refine qM ?_
 simp only [Nat.mul_one]
 have hseg : (ids.drop a).take (ids.length - a) = ids.drop a := List.take_of_length_le (by simp)
 have hl1 : (out ++ ids.drop a).length = out.length + (ids.length - a) := by simp
 rw [hseg] at hov1
 rw [← hl1]
 generalize hxs : kC xs out.length ((xs.drop a).take (ids.length - a)) = xs1 at *
 generalize hys : kC ys out.length ((ys.drop a).take (ids.length - a)) = ys1 at *
 refine qN (qL (uB (uG) ?_))
 refine uU (uS ?_)
 refine uA rfl (qO (qM (kE ?_)))
 apply kF
 ·rfl
 ·((apply Rs.cell rfl (hE.t rfl) rfl; (focus ((repeat (first | rfl | assumption | constructor)); done))); apply Rs.tmp rfl; exact Rs.nil)
 ·exact ⟨M, out, a, rfl, by omega, hpr, hfr, rfl⟩
 refine kH (kG (p := sl (some ⟨g1, 0, none⟩) c1 28 1 ids.length xs1) (p' := sl (some ⟨g1, 0, none⟩) c1 28 1 (out ++ ids.drop a).length (idC (out ++ ids.drop a))) uK (qIj hov1.le (by rw [Nat.mul_one]; exact hov1.hx) (by simp))) ?_
 refine kH (kG (p := sl (some ⟨g2, 0, none⟩) c2 42 1 ids.length ys1) (p' := sl (some ⟨g2, 0, none⟩) c2 42 1 (out ++ ids.drop a).length (kyC ((out ++ ids.drop a).map (key (rls (Es ++ M)))))) uK (qIj hov1.le (by rw [Nat.mul_one]; exact hov1.hy) (by simp))) ?_
 exact uI
end Go.Proofs.YtlleicanafioaaaDoor
namespace Eg
def num (l : Nat) : Nat := (l / 2 - 1) % 123
theorem num_le (l : Nat) : num l ≤ 122 := by unfold num; omega
theorem qHn {low x y : Nat} (hx : x < P61) (hy : y < P61) : qAd (num (after low x y)) x y ∧ ∀ l, low < l → l % 2 = 0 → qAd (num l) x y → after low x y ≤ l := by
 have hc : low / 2 % 123 ≤ 122 := by omega
 have hm : low / 2 = 123 * (low / 2 / 123) + low / 2 % 123 := by omega
 unfold after
 rcases qEb hc hx hy with ⟨h1, h2⟩ | ⟨k, h1, h2, h3, h4, h5⟩
 ·rw [h1, if_neg (by omega)]
  rcases qEb (c := 0) (by omega) hx hy with ⟨g1, _⟩ | ⟨k, g1, g2, g3, g4, g5⟩
  ·have := qJn hx hy; omega
  rw [g1]; simp only [Int.toNat_natCast]
  refine ⟨?_, fun l hl he hf => ?_⟩
  ·have e : num (2 * (low / 2 + 1 + k + 123 - low / 2 % 123)) = k := by unfold num; omega
   rw [e]; exact g4
  by_cases hlt : l / 2 - 1 < 123 * (low / 2 / 123) + 123
  ·exfalso
   have e : num l = l / 2 - 1 - 123 * (low / 2 / 123) := by unfold num; omega
   exact h2 (num l) (by omega) (num_le l) hf
  apply Classical.byContradiction
  intro hgt
  have e : num l = l / 2 - 1 - 123 * (low / 2 / 123) - 123 := by unfold num; omega
  exact g5 (num l) (by omega) (by omega) hf
 rw [h1, if_pos (by omega)]; simp only [Int.toNat_natCast]
 refine ⟨?_, fun l hl he hf => ?_⟩
 ·have e : num (2 * (low / 2 + 1 + k - low / 2 % 123)) = k := by unfold num; omega
  rw [e]; exact h4
 apply Classical.byContradiction
 intro hgt
 have e : num l = l / 2 - 1 - 123 * (low / 2 / 123) := by unfold num; omega
 exact h5 (num l) (by omega) (by omega) hf
theorem qVh {ks : List Nat} {c i : Nat} : ∀ {k : Nat}, i ∈ biF ks c k ↔ i < k ∧ i + 1 < ks.length ∧ bt (ks[i]?.getD 0) (c / 2) = c % 2 ∧ bt (ks[i + 1]?.getD 0) (c / 2) ≠ c % 2
 | 0 => by simp [biF]
 | k + 1 => by
  rw [biF, List.mem_append, qVh]
  split
  ·rename_i h
   rw [List.mem_singleton]
   constructor
   ·rintro (⟨h1, h2⟩ | rfl)
    ·exact ⟨by omega, h2⟩
    exact ⟨by omega, h⟩
   rintro ⟨h1, h2⟩
   by_cases e : i = k
   ·exact .inr e
   exact .inl ⟨by omega, h2⟩
  rename_i h
  constructor
  ·rintro (⟨h1, h2⟩ | h1)
   ·exact ⟨by omega, h2⟩
   cases h1
  rintro ⟨h1, h2⟩
  by_cases e : i = k
  ·subst e; exact absurd h2 h
  exact .inl ⟨by omega, h2⟩
theorem qHb {c x y : Nat} (hc : c ≠ 122) : qAd c x y ↔ bt x (c / 2) = c % 2 ∧ bt y (c / 2) ≠ c % 2 := by
 unfold qAd
 rw [if_neg hc]
 have := qQa y (c / 2)
 constructor
 ·rintro ⟨h1, h2⟩; exact ⟨h1, by omega⟩
 rintro ⟨h1, h2⟩; exact ⟨h1, by omega⟩
theorem qJw {f i : Nat} : ∀ {j : Nat}, i ∈ qLv f j ↔ ∃ m, m < j ∧ i = f + 2 * m
 | 0 => by simp [qLv]
 | j + 1 => by
  rw [qLv, List.mem_append, qJw, List.mem_singleton]
  constructor
  ·rintro (⟨m, h1, h2⟩ | h)
   ·exact ⟨m, by omega, h2⟩
   exact ⟨j, by omega, h⟩
  rintro ⟨m, h1, h2⟩
  by_cases e : m = j
  ·exact .inr (by rw [h2, e])
  exact .inl ⟨m, by omega, h2⟩
theorem qQy {i : Nat} : ∀ {l : List (Nat × Nat)}, i ∈ qBi l ↔ ∃ g ∈ l, i ∈ qLv g.1 (g.2 / 2)
 | [] => by simp [qBi]
 | (f, n) :: l => by rw [qBi, List.mem_append, qQy]; simp
structure StOk (ks : List Nat) (k : Nat) (s : Nat × List (Nat × Nat)) : Prop where
 le : s.1 ≤ k
 opn : ∀ i, s.1 ≤ i → i < k → i + 1 < ks.length ∧ ks[i + 1]? = ks[i]?
 shut : ∀ g ∈ s.2, ∀ i, g.1 ≤ i → i + 1 < g.1 + g.2 → i + 1 < ks.length ∧ ks[i + 1]? = ks[i]?
 all : ∀ i, i < s.1 → i + 1 < ks.length → ks[i + 1]? = ks[i]? → ∃ g ∈ s.2, g.1 ≤ i ∧ i + 1 < g.1 + g.2
theorem qXp (ks : List Nat) : ∀ k, StOk ks k (stF ks k)
 | 0 => ⟨Nat.le_refl _, fun i h1 h2 => by omega, fun g hg => by simp [stF] at hg, fun i h => by simp [stF] at h⟩
 | k + 1 => by
  have h := qXp ks k
  have hle := h.le
  unfold stF
  split
  ·rename_i hc
   refine ⟨by omega, fun i h1 h2 => ?_, h.shut, h.all⟩
   by_cases e : i = k
   ·subst e; exact hc
   exact h.opn i h1 (by omega)
  rename_i hc
  refine ⟨Nat.le_refl _, fun i h1 h2 => by simp only at h1; omega, ?_, ?_⟩
  ·intro g hg i h1 h2
   simp only at hg
   split at hg
   ·rcases List.mem_append.1 hg with hg | hg
    ·exact h.shut g hg i h1 h2
    obtain rfl := List.mem_singleton.1 hg
    simp only at h1 h2
    exact h.opn i h1 (by omega)
   exact h.shut g hg i h1 h2
  intro i h1 h2 h3
  simp only at h1 ⊢
  by_cases hi : i < (stF ks k).1
  ·obtain ⟨g, hg, h4⟩ := h.all i hi h2 h3
   refine ⟨g, ?_, h4⟩
   split
   ·exact List.mem_append_left _ hg
   exact hg
  by_cases e : i = k
  ·subst e; exact absurd ⟨h2, h3⟩ hc
  rw [if_pos (by omega)]
  exact ⟨_, List.mem_append_right _ (List.mem_singleton.2 rfl), by simp only; omega, by simp only; omega⟩
theorem qOu {ks : List Nat} {g : Nat × Nat} (h : g ∈ qBf ks) {i : Nat} (h1 : g.1 ≤ i) (h2 : i + 1 < g.1 + g.2) : i + 1 < ks.length ∧ ks[i + 1]? = ks[i]? := (qXp ks _).shut g h i h1 h2
theorem stF_end (ks : List Nat) : (stF ks ks.length).1 = ks.length := by
 have h := qXp ks ks.length
 have := h.le
 apply Classical.byContradiction
 intro hne
 have := (h.opn (ks.length - 1) (by omega) (by omega)).1
 omega
theorem qRv {ks : List Nat} {i : Nat} (h1 : i + 1 < ks.length) (h2 : ks[i + 1]? = ks[i]?) : ∃ g ∈ qBf ks, g.1 ≤ i ∧ i + 1 < g.1 + g.2 :=
 (qXp ks ks.length).all i (by rw [stF_end]; omega) h1 h2
theorem qTn {ks : List Nat} {c i : Nat} (h : i ∈ qBh ks c) : ∃ x y, ks[i]? = some x ∧ ks[i + 1]? = some y ∧ qAd c x y := by
 unfold qBh at h
 split at h
 ·rename_i hc
  obtain ⟨g, hg, h2⟩ := qQy.1 h
  obtain ⟨m, h3, h4⟩ := qJw.1 h2
  obtain ⟨h5, h6⟩ := qOu hg (i := i) (by omega) (by omega)
  have e := List.getElem?_eq_getElem h5
  refine ⟨_, _, by rw [← h6]; exact e, e, ?_⟩
  unfold qAd; rw [if_pos hc]
 rename_i hc
 obtain ⟨h1, h2, h3⟩ := qVh.1 h
 have e1 := List.getElem?_eq_getElem (l := ks) (i := i) (by omega)
 have e2 := List.getElem?_eq_getElem h2
 rw [e1, e2] at h3
 exact ⟨_, _, e1, e2, (qHb hc).2 h3⟩
theorem qPk {ks : List Nat} {c i x y : Nat} (hx : ks[i]? = some x) (hy : ks[i + 1]? = some y) (h : qAd c x y) : i ∈ qBh ks c ∨ ∃ j, i = j + 1 ∧ j ∈ qBh ks c := by
 have hl := (List.getElem?_eq_some_iff.1 hy).1
 unfold qBh
 split
 ·rename_i hc
  unfold qAd at h; rw [if_pos hc] at h
  obtain ⟨g, hg, h1, h2⟩ := qRv hl (by rw [hx, hy, h])
  rcases Nat.mod_two_eq_zero_or_one (i - g.1) with hm | hm
  ·left
   exact qQy.2 ⟨g, hg, qJw.2 ⟨(i - g.1) / 2, by omega, by omega⟩⟩
  right
  exact ⟨i - 1, by omega, qQy.2 ⟨g, hg, qJw.2 ⟨(i - g.1) / 2, by omega, by omega⟩⟩⟩
 rename_i hc
 left
 refine qVh.2 ⟨by omega, hl, ?_⟩
 rw [hx, hy]
 exact (qHb hc).1 h
end Eg
namespace Go.Proofs.YtlleicanafioaaaDoor
section
open Go Sl Eg
def rowT (L : List Rl) (ids : List Nat) : List UInt8 := (ids.map (txt L)).flatten
theorem qCa (L : List Rl) (a b : List Nat) : rowT L (a ++ b) = rowT L a ++ rowT L b := by simp [rowT]
theorem qFn (L : List Rl) (x : Nat) : rowT L [x] = txt L x := by simp [rowT]
theorem qXj (L : List Rl) (x t : Nat) : rowT L (List.replicate t x) = (List.replicate t (txt L x)).flatten := by simp [rowT]
theorem qMg {L : List Rl} (M : List Rl) {ids : List Nat} (h : ∀ x ∈ ids, x ≤ L.length) : rowT (L ++ M) ids = rowT L ids := by
 unfold rowT
 rw [List.map_congr_left (fun x hx => qFa M (h x hx))]
theorem Lts.text {L : List Rl} {ids : List Nat} {bs : List UInt8} (h : Lts L ids bs) : rowT L ids = bs := by
 induction h with
 | nil => rfl
 | snoc _ h2 ih => rw [qCa, ih, qFn, qIa h2]
theorem Rns.text {L : List Rl} (hw : Wf L) {rs : List (Nat × Nat)} {out : List Nat} (h : Rns L rs out) : rowT L out = rowT L (flat rs) := by
 induction h with
 | nil => rfl
 | snoc _ h2 ih =>
  rw [qCa, ih, qFn, qBn, qCa]
  congr 1
  simp only [flat, List.append_nil]
  rw [qXj]
  rcases h2 with ⟨rfl, rfl⟩ | ⟨_, i, rfl, h3⟩
  ·simp
  exact qGa h3 (hw.ok _ _ h3)
theorem qMd {α : Type} {l : List α} {i : Nat} {x y : α} (hx : l[i]? = some x) (hy : l[i + 1]? = some y) : l.drop i = x :: y :: l.drop (i + 2) := by
 obtain ⟨h1, e1⟩ := List.getElem?_eq_some_iff.1 hx
 obtain ⟨h2, e2⟩ := List.getElem?_eq_some_iff.1 hy
 rw [List.drop_eq_getElem_cons h1, List.drop_eq_getElem_cons h2, e1, e2]
theorem Prs.text {L : List Rl} (hw : Wf L) {ids js out : List Nat} {a : Nat} (h : Prs L ids js a out) : rowT L (out ++ ids.drop a) = rowT L ids := by
 induction h with
 | nil => simp
 | @snoc js out a i x y j _ h1 h2 h3 h4 ih =>
  rw [← ih]
  have e : ids.drop a = (ids.drop a).take (i - a) ++ (x :: y :: ids.drop (i + 2)) := by
   rw [← qMd h2 h3]
   have := List.take_append_drop (i - a) (ids.drop a)
   rw [List.drop_drop, show a + (i - a) = i by omega] at this
   exact this.symm
  conv => rhs; rw [e]
  simp only [qCa, List.append_assoc]
  congr 2
  rw [qFn, qIb h4 (hw.ok _ _ h4)]
  show _ = rowT L ([x] ++ ([y] ++ ids.drop (i + 2)))
  simp only [qCa, qFn, List.append_assoc]
end
section
open Go Sl Eg
def aft (L : List Rl) (x y : Nat) : Nat := after (max (lvl L x).toNat (lvl L y).toNat) (key L x) (key L y)
structure Inv (L : List Rl) (lv : Nat) (ids : List Nat) : Prop where
 wf : Wf L
 ok : ∀ x ∈ ids, 1 ≤ x ∧ x ≤ L.length ∧ 0 ≤ lvl L x ∧ lvl L x < lv
 same : ∀ i x, ids[i]? = some x → ids[i + 1]? = some x → lv % 2 = 1 ∧ lvl L x = lv - 1
 diff : ∀ i x y, ids[i]? = some x → ids[i + 1]? = some y → x ≠ y → lv ≤ aft L x y
theorem aft_gt {L : List Rl} (hw : Wf L) {x y : Nat} : (lvl L x).toNat < aft L x y ∧ (lvl L y).toNat < aft L x y := by
 have := qIy (low := max (lvl L x).toNat (lvl L y).toNat) (qCg hw x) (qCg hw y)
 unfold aft
 omega
theorem qWb {L : List Rl} (hw : Wf L) {x y lv : Nat} (h : lvl L x = lv ∨ lvl L y = lv) : lv + 1 ≤ aft L x y := by
 have := aft_gt hw (x := x) (y := y)
 omega
theorem Inv.ext {L : List Rl} (M : List Rl) {lv : Nat} {ids : List Nat} (h : Inv L lv ids) (hw : Wf (L ++ M)) : Inv (L ++ M) lv ids := by
 have hm : ∀ {i x : Nat}, ids[i]? = some x → x ≤ L.length := fun hx => (h.ok _ (List.mem_of_getElem? hx)).2.1
 refine ⟨hw, fun x hx => ?_, fun i x h1 h2 => ?_, fun i x y h1 h2 h3 => ?_⟩
 ·obtain ⟨h1, h2, h3⟩ := h.ok x hx
  rw [qCs M h2]
  exact ⟨h1, by simp; omega, h3⟩
 ·rw [qCs M (hm h1)]; exact h.same i x h1 h2
 unfold aft
 rw [qCs M (hm h1), qCs M (hm h2), qAi M (hm h1), qAi M (hm h2)]
 exact h.diff i x y h1 h2 h3
theorem Lts.inv {L : List Rl} (hw : Wf L) {ids : List Nat} {bs : List UInt8} (h : Lts L ids bs) : Inv L 1 ids := by
 have h0 : ∀ x ∈ ids, 1 ≤ x ∧ x ≤ L.length ∧ lvl L x = 0 := by
  induction h with
  | nil => simp
  | snoc _ h2 ih =>
   intro x hx
   rcases List.mem_append.1 hx with h | h
   ·exact ih x h
   obtain rfl : x = _ := List.mem_singleton.1 h
   have := (List.getElem?_eq_some_iff.1 h2).1
   exact ⟨by omega, by omega, (qCp h2).2⟩
 refine ⟨hw, fun x hx => ?_, fun i x h1 h2 => ?_, fun i x y h1 h2 h3 => ?_⟩
 ·obtain ⟨h1, h2, h3⟩ := h0 x hx; omega
 ·obtain ⟨_, _, h3⟩ := h0 x (List.mem_of_getElem? h1); omega
 have := aft_gt hw (x := x) (y := y); omega
theorem Rns.get {L : List Rl} {rs : List (Nat × Nat)} {out : List Nat} (h : Rns L rs out) : ∀ (k id : Nat), out[k]? = some id → ∃ x t, rs[k]? = some (x, t) ∧ RunId L x t id := by
 induction h with
 | nil => intro k id h; simp at h
 | @snoc rs out x t id h1 h2 ih =>
  intro k id' hk
  have hl := h1.length
  rcases Nat.lt_or_ge k out.length with hlt | hge
  ·rw [List.getElem?_append_left hlt] at hk
   obtain ⟨x', t', h3, h4⟩ := ih k id' hk
   exact ⟨x', t', by rw [List.getElem?_append_left (by omega)]; exact h3, h4⟩
  rw [List.getElem?_append_right hge] at hk
  have hz : k - out.length = 0 := by
   have := (List.getElem?_eq_some_iff.1 hk).1; simp at this; omega
  rw [hz] at hk
  obtain rfl : id = id' := by simpa using hk
  refine ⟨x, t, ?_, h2⟩
  rw [List.getElem?_append_right (by omega), show k - rs.length = 0 by omega]; rfl
theorem qXl (l : List Nat) : ∀ (k x t y t' : Nat), (kL l)[k]? = some (x, t) → (kL l)[k + 1]? = some (y, t') → x ≠ y := by
 refine qIu (P := fun l => ∀ (k x t y t' : Nat), (kL l)[k]? = some (x, t) → (kL l)[k + 1]? = some (y, t') → x ≠ y) ?_ ?_ l
 ·intro k x t y t' h; simp [kL] at h
 intro l z ih k x t y t' h1 h2
 rw [qCb] at h1 h2
 rcases List.eq_nil_or_concat (kL l) with e | ⟨a, ⟨u, n⟩, e⟩
 ·rw [e, qKk] at h2; simp at h2
 rw [List.concat_eq_append] at e
 by_cases huz : u = z
 ·subst huz
  rw [e, qCw] at h1 h2
  have hk : k + 1 < (a ++ [(u, n + 1)]).length := (List.getElem?_eq_some_iff.1 h2).1
  simp at hk
  rw [List.getElem?_append_left (by omega)] at h1
  rcases Nat.lt_or_ge (k + 1) a.length with hlt | hge
  ·rw [List.getElem?_append_left hlt] at h2
   exact ih k x t y t' (by rw [e, List.getElem?_append_left (by omega)]; exact h1) (by rw [e, List.getElem?_append_left hlt]; exact h2)
  rw [List.getElem?_append_right hge, show k + 1 - a.length = 0 by omega] at h2
  obtain ⟨rfl, rfl⟩ : u = y ∧ n + 1 = t' := by simpa using h2
  exact ih k x t u n (by rw [e, List.getElem?_append_left (by omega)]; exact h1) (by rw [e, List.getElem?_append_right hge, show k + 1 - a.length = 0 by omega]; rfl)
 rw [e, qDn a huz] at h1 h2
 rcases Nat.lt_or_ge (k + 1) (a ++ [(u, n)]).length with hlt | hge
 ·rw [List.getElem?_append_left hlt] at h2
  rw [List.getElem?_append_left (by omega)] at h1
  exact ih k x t y t' (by rw [e]; exact h1) (by rw [e]; exact h2)
 have hk : k + 1 < (a ++ [(u, n)] ++ [(z, 1)]).length := (List.getElem?_eq_some_iff.1 h2).1
 simp at hk hge
 obtain rfl : k = a.length := by omega
 rw [List.getElem?_append_right (by simp), show a.length + 1 - (a ++ [(u, n)]).length = 0 by simp] at h2
 rw [List.getElem?_append_left (by simp), List.getElem?_append_right (by omega), Nat.sub_self] at h1
 obtain ⟨rfl, rfl⟩ : u = x ∧ n = t := by simpa using h1
 obtain ⟨rfl, rfl⟩ : z = y ∧ 1 = t' := by simpa using h2
 exact huz
theorem zCj {ids : List Nat} {k x t : Nat} (h : (kL ids)[k]? = some (x, t)) : ∃ A B, ids = A ++ List.replicate t x ++ B ∧ 1 ≤ t ∧ (∀ y t', (kL ids)[k + 1]? = some (y, t') → ∃ B', B = y :: B') := by
 have ht := (qEm ids _ (List.mem_of_getElem? h)).1
 refine ⟨flat ((kL ids).take k), flat ((kL ids).drop (k + 1)), ?_, ht, fun y t' hy => ?_⟩
 ·have e : kL ids = (kL ids).take (k + 1) ++ (kL ids).drop (k + 1) := (List.take_append_drop _ _).symm
  conv => lhs; rw [← qCm ids, e, qBn, List.take_add_one, h, qBn]
  simp [flat]
 have hp := (qEm ids _ (List.mem_of_getElem? hy)).1
 simp only at hp
 obtain ⟨h1, h2⟩ := List.getElem?_eq_some_iff.1 hy
 rw [List.drop_eq_getElem_cons h1, h2, flat]
 obtain ⟨m, rfl⟩ : ∃ m, t' = m + 1 := ⟨t' - 1, by omega⟩
 exact ⟨_, by simp [List.replicate_succ]; rfl⟩
end
section
open Go Sl Eg
theorem qRp {L : List Rl} {lv : Nat} {ids : List Nat} (h : Inv L lv ids) (hodd : lv % 2 = 1) {k x t id : Nat} (hr : (kL ids)[k]? = some (x, t)) (hi : RunId L x t id) :
  x ∈ ids ∧ ((t = 1 ∧ id = x) ∨ (lvl L id = lv ∧ ∃ i, id = i + 1 ∧ L[i]? = some (.power x t))) := by
 obtain ⟨A, B, e, ht, -⟩ := zCj hr
 have hm : x ∈ ids := by rw [e]; exact List.mem_append_left _ (List.mem_append_right _ (List.mem_replicate.2 ⟨by omega, rfl⟩))
 refine ⟨hm, ?_⟩
 rcases hi with h1 | ⟨h2, i, rfl, h3⟩
 ·exact .inl h1
 right
 obtain ⟨m, rfl⟩ : ∃ m, t = m + 2 := ⟨t - 2, by omega⟩
 have e1 : ids[A.length]? = some x := by rw [e, List.append_assoc, List.getElem?_append_right (Nat.le_refl _), Nat.sub_self]; simp [List.replicate_succ]
 have e2 : ids[A.length + 1]? = some x := by rw [e, List.append_assoc, List.getElem?_append_right (by omega), show A.length + 1 - A.length = 1 by omega]; simp [List.replicate_succ]
 have hs := (h.same _ _ e1 e2).2
 have hx := h.ok x hm
 refine ⟨?_, i, rfl, h3⟩
 rw [(qEd h3 (h.wf.ok _ _ h3)).2, if_pos ⟨hx.2.2.1, by omega⟩]
 omega
theorem Rns.inv {L : List Rl} {lv : Nat} {ids out : List Nat} (h : Inv L lv ids) (hodd : lv % 2 = 1) (hr : Rns L (kL ids) out) : Inv L (lv + 1) out := by
 have hne : ∀ i x y, out[i]? = some x → out[i + 1]? = some y → x ≠ y ∧ lv + 1 ≤ aft L x y := by
  intro k u v hu hv
  obtain ⟨x, t, r1, i1⟩ := hr.get k u hu
  obtain ⟨y, t', r2, i2⟩ := hr.get (k + 1) v hv
  have hxy := qXl ids k x t y t' r1 r2
  obtain ⟨mx, cx⟩ := qRp h hodd r1 i1
  obtain ⟨my, cy⟩ := qRp h hodd r2 i2
  have ox := h.ok x mx
  have oy := h.ok y my
  rcases cx with ⟨rfl, rfl⟩ | ⟨lx, i, rfl, px⟩
  ·rcases cy with ⟨rfl, rfl⟩ | ⟨ly, j, rfl, py⟩
   ·refine ⟨hxy, ?_⟩
    obtain ⟨A, B, e, _, hB⟩ := zCj r1
    obtain ⟨B', rfl⟩ := hB _ _ r2
    have e1 : ids[A.length]? = some u := by rw [e, List.append_assoc, List.getElem?_append_right (Nat.le_refl _), Nat.sub_self]; simp
    have e2 : ids[A.length + 1]? = some v := by rw [e, List.append_assoc, List.getElem?_append_right (by omega), show A.length + 1 - A.length = 1 by omega]; simp
    have hd := h.diff _ _ _ e1 e2 hxy
    have hev : aft L u v % 2 = 0 := qOx _ _ _
    omega
   exact ⟨fun e => by rw [e] at ox; omega, qWb h.wf (.inr ly)⟩
  rcases cy with ⟨rfl, rfl⟩ | ⟨ly, j, rfl, py⟩
  ·exact ⟨fun e => by rw [← e] at oy; omega, qWb h.wf (.inl lx)⟩
  refine ⟨fun e => ?_, qWb h.wf (.inl lx)⟩
  obtain rfl : i = j := by omega
  rw [px] at py
  injection py with py
  injection py with p1 p2
  exact hxy p1
 refine ⟨h.wf, fun u hu => ?_, fun i x h1 h2 => absurd rfl (hne i x x h1 h2).1, fun i x y h1 h2 _ => (hne i x y h1 h2).2⟩
 obtain ⟨k, hk⟩ := List.getElem?_of_mem hu
 obtain ⟨x, t, r1, i1⟩ := hr.get k u hk
 obtain ⟨mx, cx⟩ := qRp h hodd r1 i1
 have ox := h.ok x mx
 rcases cx with ⟨_, rfl⟩ | ⟨lx, i, rfl, px⟩
 ·omega
 have := (List.getElem?_eq_some_iff.1 px).1
 omega
theorem qXc {L : List Rl} {lv : Nat} {ids : List Nat} (h : Inv L lv ids) (hev : lv % 2 = 0) (h2 : 2 ≤ lv) {i j x y : Nat} (hi : i ∈ qBh (ids.map (key L)) (num lv)) (hx : ids[i]? = some x) (hy : ids[i + 1]? = some y) (hj : L[j]? = some (.pair x y)) : lvl L (j + 1) = lv := by
 obtain ⟨kx, ky, e1, e2, hf⟩ := qTn hi
 rw [List.getElem?_map, hx] at e1
 rw [List.getElem?_map, hy] at e2
 obtain rfl : key L x = kx := by simpa using e1
 obtain rfl : key L y = ky := by simpa using e2
 have hne : x ≠ y := fun e => by subst e; have := (h.same i x hx hy).1; omega
 have ox := h.ok x (List.mem_of_getElem? hx)
 have oy := h.ok y (List.mem_of_getElem? hy)
 have h1 := h.diff i x y hx hy hne
 have h3 := (qHn (low := max (lvl L x).toNat (lvl L y).toNat) (qCg h.wf x) (qCg h.wf y)).2 lv (by omega) hev hf
 rw [(qFi hj (h.wf.ok _ _ hj)).2, if_pos ⟨hne, ox.2.2.1, oy.2.2.1⟩]
 unfold aft at h1
 omega
structure POk (L : List Rl) (lv : Nat) (ids js : List Nat) (a : Nat) (out : List Nat) : Prop where
 le : ∀ j ∈ js, j + 2 ≤ a
 last : ∀ u, out[out.length - 1]? = some u → lvl L u = lv
 adj : ∀ p u v, out[p]? = some u → out[p + 1]? = some v → lvl L u = lv ∨ lvl L v = lv ∨ ∃ i, i + 1 < a ∧ ids[i]? = some u ∧ ids[i + 1]? = some v ∧ i ∉ js ∧ ∀ j ∈ js, j + 1 ≠ i
 mem : ∀ u ∈ out, u ∈ ids ∨ (lvl L u = lv ∧ 1 ≤ u ∧ u ≤ L.length)
theorem Prs.pok {L : List Rl} {lv : Nat} {ids js out : List Nat} {a : Nat} (h : Prs L ids js a out) (hp : ∀ i ∈ js, ∀ x y j, ids[i]? = some x → ids[i + 1]? = some y → L[j]? = some (.pair x y) → lvl L (j + 1) = lv) : POk L lv ids js a out := by
 induction h with
 | nil => exact ⟨by simp, by simp, by simp, by simp⟩
 | @snoc js out a i x y j h0 h1 h2 h3 h4 ih =>
  have ih := ih (fun i hi => hp i (List.mem_append_left _ hi))
  have hnew := hp i (List.mem_append_right _ (List.mem_singleton.2 rfl)) x y j h2 h3 h4
  have hil := (List.getElem?_eq_some_iff.1 h3).1
  have hsl : ((ids.drop a).take (i - a)).length = i - a := by simp; omega
  have hsg : ∀ q, q < i - a → ((ids.drop a).take (i - a))[q]? = ids[a + q]? := fun q hq => by rw [List.getElem?_take, if_pos hq, List.getElem?_drop]
  have hjl := (List.getElem?_eq_some_iff.1 h4).1
  generalize (ids.drop a).take (i - a) = sg at *
  refine ⟨?_, ?_, ?_, ?_⟩
  ·intro j' hj'
   rcases List.mem_append.1 hj' with h | h
   ·have := ih.le j' h; omega
   have := List.mem_singleton.1 h; omega
  ·intro u hu
   rw [show (out ++ sg ++ [j + 1]).length - 1 = (out ++ sg).length by simp, List.getElem?_append_right (Nat.le_refl _), Nat.sub_self] at hu
   obtain rfl : j + 1 = u := by simpa using hu
   exact hnew
  ·intro p u v hu hv
   have hpl : p + 1 < (out ++ sg ++ [j + 1]).length := (List.getElem?_eq_some_iff.1 hv).1
   simp at hpl
   by_cases c1 : p + 1 = out.length + sg.length
   ·rw [List.getElem?_append_right (by simp; omega), show p + 1 - (out ++ sg).length = 0 by simp; omega] at hv
    obtain rfl : j + 1 = v := by simpa using hv
    exact .inr (.inl hnew)
   rw [List.getElem?_append_left (by simp; omega)] at hu hv
   by_cases c2 : p + 1 < out.length
   ·rw [List.getElem?_append_left (by omega)] at hu hv
    rcases ih.adj p u v hu hv with h | h | ⟨i0, g1, g2, g3, g4, g5⟩
    ·exact .inl h
    ·exact .inr (.inl h)
    refine .inr (.inr ⟨i0, by omega, g2, g3, fun hm => ?_, fun j' hj' => ?_⟩)
    ·rcases List.mem_append.1 hm with h | h
     ·exact g4 h
     have := List.mem_singleton.1 h; omega
    rcases List.mem_append.1 hj' with h | h
    ·exact g5 j' h
    have := List.mem_singleton.1 h; omega
   by_cases c3 : p + 1 = out.length
   ·rw [List.getElem?_append_left (by omega)] at hu
    exact .inl (ih.last u (by rw [show out.length - 1 = p by omega]; exact hu))
   rw [List.getElem?_append_right (by omega), hsg _ (by omega)] at hu hv
   refine .inr (.inr ⟨a + (p - out.length), by omega, hu, by rw [← hv]; congr 1; omega, fun hm => ?_, fun j' hj' => ?_⟩)
   ·rcases List.mem_append.1 hm with h | h
    ·have := ih.le _ h; omega
    have := List.mem_singleton.1 h; omega
   rcases List.mem_append.1 hj' with h | h
   ·have := ih.le _ h; omega
   have := List.mem_singleton.1 h; omega
  intro u hu
  rcases List.mem_append.1 hu with h | h
  ·rcases List.mem_append.1 h with h | h
   ·exact ih.mem u h
   obtain ⟨q, hq⟩ := List.getElem?_of_mem h
   have := (List.getElem?_eq_some_iff.1 hq).1
   rw [hsg q (by omega)] at hq
   exact .inl (List.mem_of_getElem? hq)
  have := List.mem_singleton.1 h
  subst this
  exact .inr ⟨hnew, by omega, by omega⟩
end
section
open Go Sl Eg
theorem Prs.inv {L : List Rl} {lv : Nat} {ids out : List Nat} {a : Nat} (h : Inv L lv ids) (hev : lv % 2 = 0) (h2 : 2 ≤ lv) (hp : Prs L ids (qBh (ids.map (key L)) (num lv)) a out) : Inv L (lv + 1) (out ++ ids.drop a) := by
 have hk := hp.pok (lv := lv) (fun i hi x y j hx hy hj => qXc h hev h2 hi hx hy hj)
 have hfit : ∀ i, (∃ x y, ids[i]? = some x ∧ ids[i + 1]? = some y ∧ qAd (num lv) (key L x) (key L y)) → i ∈ qBh (ids.map (key L)) (num lv) ∨ ∃ j, i = j + 1 ∧ j ∈ qBh (ids.map (key L)) (num lv) := by
  rintro i ⟨x, y, hx, hy, hf⟩
  exact qPk (by rw [List.getElem?_map, hx]; rfl) (by rw [List.getElem?_map, hy]; rfl) hf
 generalize qBh (ids.map (key L)) (num lv) = js at *
 have hadj : ∀ p u v, (out ++ ids.drop a)[p]? = some u → (out ++ ids.drop a)[p + 1]? = some v → (lvl L u = lv ∨ lvl L v = lv) ∨ (u ≠ v ∧ lv + 1 ≤ aft L u v) := by
  intro p u v hu hv
  have main : (lvl L u = lv ∨ lvl L v = lv) ∨ ∃ i, ids[i]? = some u ∧ ids[i + 1]? = some v ∧ i ∉ js ∧ ∀ j ∈ js, j + 1 ≠ i := by
   by_cases c2 : p + 1 < out.length
   ·rw [List.getElem?_append_left (by omega)] at hu hv
    rcases hk.adj p u v hu hv with h | h | ⟨i, _, h⟩
    ·exact .inl (.inl h)
    ·exact .inl (.inr h)
    exact .inr ⟨i, h⟩
   by_cases c3 : p + 1 = out.length
   ·rw [List.getElem?_append_left (by omega)] at hu
    exact .inl (.inl (hk.last u (by rw [show out.length - 1 = p by omega]; exact hu)))
   rw [List.getElem?_append_right (by omega), List.getElem?_drop] at hu hv
   refine .inr ⟨a + (p - out.length), hu, by rw [← hv]; congr 1; omega, fun hm => ?_, fun j hj => ?_⟩
   ·have := hk.le _ hm; omega
   have := hk.le _ hj; omega
  rcases main with h1 | ⟨i, g1, g2, g3, g4⟩
  ·exact .inl h1
  right
  have hne : u ≠ v := fun e => by subst e; have := (h.same i u g1 g2).1; omega
  refine ⟨hne, ?_⟩
  have hd := h.diff i u v g1 g2 hne
  have hs := (qHn (low := max (lvl L u).toNat (lvl L v).toNat) (qCg h.wf u) (qCg h.wf v)).1
  apply Classical.byContradiction
  intro hlt
  have e : aft L u v = lv := by omega
  unfold aft at e
  rw [e] at hs
  rcases hfit i ⟨u, v, g1, g2, hs⟩ with h | ⟨j, rfl, hj⟩
  ·exact g3 h
  exact g4 j hj rfl
 refine ⟨h.wf, fun u hu => ?_, fun p u hu hv => ?_, fun p u v hu hv hne => ?_⟩
 ·rcases List.mem_append.1 hu with h1 | h1
  ·rcases hk.mem u h1 with h3 | h3
   ·have := h.ok u h3; omega
   omega
  have := h.ok u (List.mem_of_mem_drop h1); omega
 ·rcases hadj p u u hu hv with h1 | h1
  ·omega
  exact absurd rfl h1.1
 rcases hadj p u v hu hv with h1 | h1
 ·exact qWb h.wf h1
 exact h1.2
def d0 (L : List Rl) : List Nat → Nat
 | x :: y :: _ => aft L x y
 | _ => 0
def meas (L : List Rl) (lv : Nat) (ids : List Nat) : Nat := 1000 * ids.length + (d0 L ids - lv)
theorem zBl {L : List Rl} {lv : Nat} {ids : List Nat} (h : Inv L lv ids) : meas L lv ids ≤ 1000 * ids.length + 500 := by
 unfold meas
 match ids, h with
 | [], h => simp [d0]
 | [x], h => simp [d0]
 | x :: y :: l, h =>
  have ox := h.ok x (by simp)
  have oy := h.ok y (by simp)
  have := qIy (low := max (lvl L x).toNat (lvl L y).toNat) (qCg h.wf x) (qCg h.wf y)
  simp only [d0, aft]; omega
theorem zBm {L : List Rl} {lv : Nat} {ids out : List Nat} (h : Inv L lv ids) (h' : Inv L (lv + 1) out) (hl : 2 ≤ ids.length) (ho : out.length < ids.length ∨ out = ids) : meas L (lv + 1) out < meas L lv ids := by
 rcases ho with hlt | rfl
 ·have := zBl h'
  unfold meas at *; omega
 match out, hl, h, h' with
 | x :: y :: l, _, h, h' =>
  have hne : x ≠ y := fun e => by
   subst e
   have h1 := (h.same 0 x rfl rfl).1
   have h2 := (h'.same 0 x rfl rfl).1
   omega
  have := h'.diff 0 x y rfl rfl hne
  unfold meas; simp only [d0]; omega
theorem meas_ext {L : List Rl} (M : List Rl) {lv : Nat} {ids : List Nat} (h : ∀ x ∈ ids, x ≤ L.length) : meas (L ++ M) lv ids = meas L lv ids := by
 unfold meas
 match ids, h with
 | [], h => rfl
 | [x], h => rfl
 | x :: y :: l, h =>
  have hx := h x (by simp)
  have hy := h y (by simp)
  simp only [d0, aft]
  rw [qCs M hx, qCs M hy, qAi M hx, qAi M hy]
theorem Prs.shorter {L : List Rl} {ids js out : List Nat} {a : Nat} (h : Prs L ids js a out) : (out ++ ids.drop a).length < ids.length ∨ out ++ ids.drop a = ids := by
 have hl := h.length
 match js, h, hl with
 | [], h, hl =>
  right
  have e1 : out = [] ∧ a = 0 := by
   generalize hj : ([] : List Nat) = js at h
   cases h with
   | nil => exact ⟨rfl, rfl⟩
   | snoc _ _ _ _ _ => simp at hj
  rw [e1.1, e1.2]; rfl
 | j :: js, h, hl =>
  left
  simp at hl ⊢
  omega
theorem zAy {rs : List (Nat × Nat)} (h : ∀ g ∈ rs, 1 ≤ g.2) (hl : tsum rs = rs.length) : ∀ g ∈ rs, g.2 = 1 := by
 induction rs with
 | nil => simp
 | cons x rs ih =>
  obtain ⟨y, t⟩ := x
  have h1 := zCx (a := rs) (fun g hg => h g (List.mem_cons_of_mem _ hg))
  have h2 := h (y, t) List.mem_cons_self
  simp only [tsum, List.length_cons] at hl h2
  intro g hg
  rcases List.mem_cons.1 hg with rfl | hg
  ·simp only; omega
  exact ih (fun g hg => h g (List.mem_cons_of_mem _ hg)) (by omega) g hg
theorem Rns.ones {L : List Rl} {rs : List (Nat × Nat)} {out : List Nat} (h : Rns L rs out) (h1 : ∀ g ∈ rs, g.2 = 1) : out = flat rs := by
 induction h with
 | nil => rfl
 | @snoc rs out x t id _ h2 ih =>
  have ht := h1 (x, t) (List.mem_append_right _ (List.mem_singleton.2 rfl))
  simp only at ht
  subst ht
  rw [qBn, ih (fun g hg => h1 g (List.mem_append_left _ hg))]
  rcases h2 with ⟨_, rfl⟩ | ⟨h3, _⟩
  ·rfl
  omega
theorem Rns.shorter {L : List Rl} {ids out : List Nat} (h : Rns L (kL ids) out) : out.length < ids.length ∨ out = ids := by
 have h1 := h.length
 have h2 := qGr ids
 have h3 : tsum (kL ids) = ids.length := by rw [← qCx, qCm]
 rcases Nat.lt_or_ge out.length ids.length with hlt | hge
 ·exact .inl hlt
 right
 rw [h.ones (zAy (fun g hg => (qEm ids g hg).1) (by omega)), qCm]
end
section
open Go Go.RowKit Sl Eg
set_option maxRecDepth 10000
variable {E : Env} {Es : List Ent} {pp tb s most : Nat}
inductive Rch (L : List Rl) (bs : List UInt8) : Nat → List Nat → Prop where
 | start {ids : List Nat} : Lts L ids bs → Rch L bs 1 ids
 | odd {lv : Nat} {ids out : List Nat} : Rch L bs lv ids → lv % 2 = 1 → 2 ≤ ids.length → Rns L (kL ids) out → Rch L bs (lv + 1) out
 | even {lv a : Nat} {ids out : List Nat} : Rch L bs lv ids → lv % 2 = 0 → 2 ≤ ids.length → (∀ x ∈ ids, x ≤ L.length) → Prs L ids (qBh (ids.map (key L)) (num lv)) a out → Rch L bs (lv + 1) (out ++ ids.drop a)
theorem Rch.ext {L : List Rl} (M : List Rl) {bs : List UInt8} {lv : Nat} {ids : List Nat} (h : Rch L bs lv ids) : Rch (L ++ M) bs lv ids := by
 induction h with
 | start h => exact .start (h.ext M)
 | odd _ h1 h2 h3 ih => exact .odd ih h1 h2 (h3.ext M)
 | even _ h1 h2 h4 h3 ih => exact .even ih h1 h2 (fun x hx => by have := h4 x hx; simp; omega) (by rw [qJt M h4]; exact h3.ext M)
theorem qRi {L : List Rl} {A B : List Nat} {x t : Nat} : (txt L x).length * t ≤ (rowT L (A ++ List.replicate t x ++ B)).length := by
 rw [qCa, qCa, qXj]
 simp [Nat.mul_comm]
 omega
theorem qRj {L : List Rl} {ids : List Nat} {i x y : Nat} (hx : ids[i]? = some x) (hy : ids[i + 1]? = some y) : (txt L x).length + (txt L y).length ≤ (rowT L ids).length := by
 have e : ids = ids.take i ++ ([x] ++ ([y] ++ ids.drop (i + 2))) := by
  have := List.take_append_drop i ids
  rw [qMd hx hy] at this
  exact this.symm
 rw [e]
 simp only [qCa, qFn, List.length_append]
 omega
structure OfG where
 lv : Nat
 M : List Ent
 ids : List Nat
structure OfI (Es : List Ent) (bs : List UInt8) (x : OfG) : Prop where
 pos : 1 ≤ x.ids.length ∧ 1 ≤ x.lv
 le : x.ids.length ≤ bs.length
 room : x.M.length + x.ids.length ≤ 2 * bs.length
 inv : Inv (rls (Es ++ x.M)) x.lv x.ids
 text : rowT (rls (Es ++ x.M)) x.ids = bs
 rch : Rch (rls (Es ++ x.M)) bs x.lv x.ids
 end_ : x.lv + meas (rls (Es ++ x.M)) x.lv x.ids ≤ 1000 * bs.length + 501
theorem OfI.out_pos {L : List Rl} {bs : List UInt8} {out : List Nat} (h : rowT L out = bs) (hb : 1 ≤ bs.length) : 1 ≤ out.length := by
 cases out with
 | nil => rw [← h] at hb; simp [rowT] at hb
 | cons _ _ => simp
theorem OfI.step {bs : List UInt8} {x : OfG} (h : OfI Es bs x) {M2 : List Ent} {out : List Nat} (h2 : 2 ≤ x.ids.length) (hw : Wf (rls (Es ++ (x.M ++ M2)))) (hl : M2.length + out.length ≤ x.ids.length)
  (hs : (x.lv % 2 = 1 ∧ Rns (rls (Es ++ (x.M ++ M2))) (kL x.ids) out) ∨ (x.lv % 2 = 0 ∧ ∃ o a, out = o ++ x.ids.drop a ∧ Prs (rls (Es ++ (x.M ++ M2))) x.ids (qBh (x.ids.map (key (rls (Es ++ x.M)))) (num x.lv)) a o)) :
  OfI Es bs ⟨x.lv + 1, x.M ++ M2, out⟩ ∧ meas (rls (Es ++ (x.M ++ M2))) (x.lv + 1) out < meas (rls (Es ++ x.M)) x.lv x.ids := by
 have eL : rls (Es ++ (x.M ++ M2)) = rls (Es ++ x.M) ++ rls M2 := by rw [← List.append_assoc, kJ]
 have hle : ∀ y ∈ x.ids, y ≤ (rls (Es ++ x.M)).length := fun y hy => (h.inv.ok y hy).2.1
 have hle2 : ∀ y ∈ x.ids, y ≤ (rls (Es ++ (x.M ++ M2))).length := fun y hy => by have := hle y hy; rw [eL]; simp; omega
 have i1 : Inv (rls (Es ++ (x.M ++ M2))) x.lv x.ids := by rw [eL] at hw ⊢; exact h.inv.ext _ hw
 have t1 : rowT (rls (Es ++ (x.M ++ M2))) x.ids = bs := by rw [eL, qMg _ hle]; exact h.text
 have r1 : Rch (rls (Es ++ (x.M ++ M2))) bs x.lv x.ids := by rw [eL]; exact h.rch.ext _
 have m1 : meas (rls (Es ++ (x.M ++ M2))) x.lv x.ids = meas (rls (Es ++ x.M)) x.lv x.ids := by rw [eL]; exact meas_ext _ hle
 have k1 : x.ids.map (key (rls (Es ++ (x.M ++ M2)))) = x.ids.map (key (rls (Es ++ x.M))) := by rw [eL]; exact qJt _ hle
 have main : Inv (rls (Es ++ (x.M ++ M2))) (x.lv + 1) out ∧ rowT (rls (Es ++ (x.M ++ M2))) out = bs ∧ Rch (rls (Es ++ (x.M ++ M2))) bs (x.lv + 1) out ∧ (out.length < x.ids.length ∨ out = x.ids) := by
  have hpos := h.pos
  rcases hs with ⟨ho, hr⟩ | ⟨he, o, a, rfl, hp⟩
  ·exact ⟨hr.inv i1 ho, by rw [hr.text hw, qCm]; exact t1, .odd r1 ho h2 hr, hr.shorter⟩
  rw [← k1] at hp
  exact ⟨hp.inv i1 he (by omega), by rw [hp.text hw]; exact t1, .even r1 he h2 hle2 hp, hp.shorter⟩
 obtain ⟨a1, a2, a3, a4⟩ := main
 have hm := zBm i1 a1 h2 a4
 rw [m1] at hm
 have h3 := h.end_
 have h4 := h.room
 have h5 := h.le
 have h6 := h.pos
 refine ⟨⟨⟨OfI.out_pos a2 (by omega), by show 1 ≤ x.lv + 1; omega⟩, by show out.length ≤ _; omega, by show (x.M ++ M2).length + out.length ≤ _; simp; omega, a1, a2, a3, ?_⟩, hm⟩
 show x.lv + 1 + meas (rls (Es ++ (x.M ++ M2))) (x.lv + 1) out ≤ _
 omega
theorem ct_OfQ (hE : Seat E) (hB : Base E.w0) {a : Option Addr} {c : Nat} {bs : List UInt8} {q : HP} (hq : bs ≠ [] → ∃ g o, a = some ⟨g, o, none⟩ ∧ ∀ k, q k → RdAt E.w0 g o (byC bs) k) (hn : bs.length ≤ 65536) (hroom : Es.length + 2 * bs.length ≤ most) :
  Ct E 7 [uPt pp, .slice a bs.length c] [cells pp [uPt s, uPt tb] 57, tabP tb s (rls Es), zU s most Es, q]
   (fun v Q => ∃ M id, v = .tuple #[.int .i64 (id : Nat), .nilIface] ∧ M.length ≤ 2 * bs.length ∧ txt (rls (Es ++ M)) id = bs ∧ good (rls (Es ++ M)) id ∧ ((bs = [] ∧ id = 0) ∨ ∃ lv, Rch (rls (Es ++ M)) bs lv [id]) ∧
    Q = [cells pp [uPt s, uPt tb] 57, tabP tb s (rls (Es ++ M)), zU s most (Es ++ M), q]) := by
 refine zR (hE.fn Tryd.func7) rfl rfl rfl (fun R => ?_)
 simp only [qAo, uV, uW]
 refine qN (qL (uA rfl (uA rfl (qO (qM (qN (qN (qL (uM rfl (uB (qBa rfl (hE.t rfl)) ?_))))))))))
 refine uM rfl (kT rfl rfl (uM rfl (kT rfl rfl (uB (zD rfl) ?_))))
 refine kT rfl rfl (uB (uBf rfl) ?_)
 refine kT rfl rfl (uL ?_)
 refine kT rfl rfl (uB (qBa rfl (hE.t rfl)) ?_)
 refine uB (zB rfl rfl) ?_
 refine qO (qM (zG rfl (zF (qM (qN (qN (qL (uM rfl (uB (uBl rfl) ?_)))))))))
 refine uB (y_gt rfl rfl) ?_
 refine qO (qM ?_)
 refine zH rfl (fun h0 => ?_) (fun h0 => ?_)
 ·exfalso; omega
 refine zF (qM (qN (qN (qL (uM rfl (uB (uBl rfl) ?_))))))
 refine uB (y_eq rfl rfl) ?_
 refine qO (qM ?_)
 refine zH rfl (fun h1 => ?_) (fun h1 => ?_)
 ·obtain rfl : bs = [] := List.eq_nil_of_length_eq_zero (by omega)
  refine qN (qL (uA rfl (uA rfl (qO (qM (kE (qZ ?_)))))))
  apply kF
  ·rfl
  ·(apply Rs.tmp rfl; apply Rs.tmp rfl; exact Rs.nil)
  ·exact ⟨[], 0, rfl, Nat.le_refl _, rfl, ⟨Nat.zero_le _, Int.le_refl _⟩, .inl ⟨rfl, rfl⟩, rfl⟩
  rw [List.append_nil]
  exact uI
 have hb1 : 1 ≤ bs.length := by omega
 obtain ⟨g, o, rfl, hqq⟩ := hq (by rintro rfl; simp at hb1)
 have hr0 : Es.length + bs.length ≤ most := by omega
 refine zF (qM (qN (qL (uM rfl (uM rfl (uX (qYf hE hB hqq hn hr0) rfl ?_))))))
 rintro _ _ ⟨M, ids, xs, ys, g1, g2, rfl, hM, hlts, hrow, -, rfl⟩
 have hil := hlts.le.1
 have ex : xs = idC ids := by have := hrow.hx; rwa [List.take_of_length_le (by have := hrow.xl; omega)] at this
 have ey : ys = kyC (ids.map (key (rls (Es ++ M)))) := by have := hrow.hy; rwa [List.take_of_length_le (by have := hrow.yl; omega)] at this
 subst ex ey
 simp only [uV, uW]
 refine uM rfl (uB (qX rfl rfl) (uB (qX rfl rfl) (uU (kI (hE.t rfl) (fun b6 => ?_)))))
 refine uU (uS ?_)
 refine uA rfl (qO (qM (qN (qN (qL (uM rfl (uB (qAk rfl (hE.t rfl)) ?_)))))))
 refine qO (qM (zG rfl (zF (qM (qN (qN (qL (uA rfl (qO (qM (zN ?_)))))))))))
 refine qFd (p := zU s most (Es ++ M)) uK (fun _ h => qAb h) ?_
 rintro ⟨hwf0, -, -, -⟩
 refine qDb (fun x : OfG => [(0, uPt pp), (6, uPt b6), (8, .int .i64 (x.lv : Nat))]) (fun x => [cells pp [uPt s, uPt tb] 57, tabP tb s (rls (Es ++ x.M)), zU s most (Es ++ x.M), cells b6 [.slice (some ⟨g1, 0, none⟩) x.ids.length bs.length, .slice (some ⟨g2, 0, none⟩) x.ids.length bs.length] 61, sl (some ⟨g1, 0, none⟩) bs.length 28 1 x.ids.length (idC x.ids), sl (some ⟨g2, 0, none⟩) bs.length 42 1 x.ids.length (kyC (x.ids.map (key (rls (Es ++ x.M))))), q, R]) (fun x => meas (rls (Es ++ x.M)) x.lv x.ids) (OfI Es bs) ⟨1, M, ids⟩ ?_ ?_ ?_ ?_
 ·have hi := hlts.inv hwf0
  have hm := zBl hi
  exact ⟨⟨by show 1 ≤ ids.length; omega, Nat.le_refl _⟩, by show ids.length ≤ _; omega, by show M.length + ids.length ≤ _; omega, hi, hlts.text, .start hlts, by show 1 + meas (rls (Es ++ M)) 1 ids ≤ _; omega⟩
 ·exact ⟨rfl, rfl, rfl, trivial⟩
 ·refine kH (kG (p := sl (some ⟨g1, 0, none⟩) bs.length 28 1 bs.length (idC ids)) (p' := sl (some ⟨g1, 0, none⟩) bs.length 28 1 ids.length (idC ids)) uK (fun _ h => by rw [hil]; exact h)) ?_
  refine kH (kG (p := sl (some ⟨g2, 0, none⟩) bs.length 42 1 bs.length (kyC (ids.map (key (rls (Es ++ M)))))) (p' := sl (some ⟨g2, 0, none⟩) bs.length 42 1 ids.length (kyC (ids.map (key (rls (Es ++ M)))))) uK (fun _ h => by rw [hil]; exact h)) ?_
  exact uI
 clear hlts hrow hwf0 hM hil
 rintro ⟨lv, M', ids'⟩ hI
 clear ids M
 have hpos := hI.pos
 have hle := hI.le
 have hrm := hI.room
 have hinv := hI.inv
 have htx := hI.text
 have hrc := hI.rch
 have hend := hI.end_
 simp only at hpos hle hrm hinv htx hrc hend ⊢
 refine qN (qN (qL (uB (uBf rfl) ?_)))
 refine uL ?_
 refine uB (uBl rfl) ?_
 refine uB (y_gt rfl rfl) ?_
 refine qO (qM ?_)
 refine zH rfl (fun hlt => ?_) (fun hlt => ?_)
 ·have h2 : 2 ≤ ids'.length := by omega
  have hids : ∀ x ∈ ids', 1 ≤ x ∧ x ≤ (Es ++ M').length := fun x hx => by have := hinv.ok x hx; rw [zT] at this; omega
  have hlv : lv < 1099511627776 := by omega
  have hr1 : (Es ++ M').length + ids'.length ≤ most := by simp; omega
  have hmx : kK = 1152921504606846976 := rfl
  have hln1 : ∀ A x t B, ids' = A ++ List.replicate t x ++ B → (txt (rls (Es ++ M')) x).length * t ≤ kK := fun A x t B e => by
   have := qRi (L := rls (Es ++ M')) (A := A) (B := B) (x := x) (t := t)
   rw [← e, htx] at this; omega
  have hln2 : ∀ i x y, ids'[i]? = some x → ids'[i + 1]? = some y → (txt (rls (Es ++ M')) x).length + (txt (rls (Es ++ M')) y).length ≤ kK := fun i x y hx hy => by
   have := qRj (L := rls (Es ++ M')) hx hy
   rw [htx] at this; omega
  have hin : ids'.length ≤ 65536 := by omega
  refine zF (qM (qN (zN (qN (qN (qL (uM rfl (uB (qVy rfl rfl (by omega) (by omega)) ?_))))))))
  refine uB (y_eq rfl rfl) ?_
  refine qO (qM ?_)
  refine zH rfl (fun hodd => ?_) (fun hodd => ?_)
  ·refine qL ?_
   refine uM rfl (uB (uG) ?_)
   refine uX (ct_runs hE hB hin hids hln1 hr1) rfl ?_
   rintro _ _ ⟨M2, out, rfl, hM2, hrn, -, rfl⟩
   simp only [uV, uW]
   rw [List.append_assoc] at hrn ⊢
   refine uM rfl (uB (qX rfl rfl) (uB (qX rfl rfl) (uU (uS ?_))))
   refine uA rfl (qO (qM (qN (qL (uM rfl (uB (qAk rfl (hE.t rfl)) ?_))))))
   refine qO (qM (zG rfl (zF (zL (qM (qL (uM rfl (uB (uAa rfl rfl) ?_))))))))
   refine uA rfl (qO ?_)
   refine qLs (p := zU s most (Es ++ (M' ++ M2))) uK (fun _ h => qAb h) ?_
   rintro ⟨hwf, -, -, -⟩
   obtain ⟨hI2, hm2⟩ := hI.step (M2 := M2) (out := out) h2 hwf hM2 (.inl ⟨(by show lv % 2 = 1; omega), hrn⟩)
   refine qCj 8 (.int .i64 ((lv + 1 : Nat) : Int)) rfl (zZ (by omega)) ?_
   refine zV (ι := OfG) (j := ⟨lv + 1, M' ++ M2, out⟩) hI2 hm2 ⟨rfl, rfl, rfl, trivial⟩ ?_
   exact uI
  have hev : lv % 2 = 0 := by omega
  have h2l : 2 ≤ lv := by omega
  refine qL (uM rfl (uB (uG) ?_))
  refine uM rfl (uX (ct_pairs hE hB hin h2l hev hlv hids hln2 hr1) rfl ?_)
  rintro _ _ ⟨M2, out, a, rfl, hM2, hrn, -, rfl⟩
  simp only [uV, uW]
  rw [List.append_assoc] at hrn ⊢
  refine uM rfl (uB (qX rfl rfl) (uB (qX rfl rfl) (uU (uS ?_))))
  refine uA rfl (qO (qM (qN (qL (uM rfl (uB (qAk rfl (hE.t rfl)) ?_))))))
  refine qO (qM (zG rfl (zF (zL (qM (qL (uM rfl (uB (uAa rfl rfl) ?_))))))))
  refine uA rfl (qO ?_)
  refine qLs (p := zU s most (Es ++ (M' ++ M2))) uK (fun _ h => qAb h) ?_
  rintro ⟨hwf, -, -, -⟩
  obtain ⟨hI2, hm2⟩ := hI.step (M2 := M2) (out := out ++ ids'.drop a) h2 hwf hM2 (.inr ⟨hev, out, a, rfl, hrn⟩)
  refine qCj 8 (.int .i64 ((lv + 1 : Nat) : Int)) rfl (zZ (by omega)) ?_
  refine zV (ι := OfG) (j := ⟨lv + 1, M' ++ M2, out ++ ids'.drop a⟩) hI2 hm2 ⟨rfl, rfl, rfl, trivial⟩ ?_
  exact uI
 obtain ⟨id, rfl⟩ : ∃ id, ids' = [id] := List.length_eq_one_iff.1 (by omega)
 have f0 : (idC [id])[0]? = some (.int .i64 (id : Nat)) := rfl
 have hok := hinv.ok id (by simp)
 refine kM (qU (qU (zK (qM (qN (qL (uB (uBf rfl) ?_)))))))
 refine uL ?_
 refine uB (uAj rfl rfl) ?_
 refine uL ?_
 refine uA rfl (uA rfl (qO (qM (kE ?_))))
 exact uZ rfl (.tmp rfl (.tmp rfl .nil)) ⟨M', id, rfl, by omega, by rw [← htx, qFn], ⟨hok.2.1, hok.2.2.1⟩, .inr ⟨lv, hrc⟩, rfl⟩
theorem qZz (hE : Seat E) (hB : Base E.w0) {g c : Nat} {bs : List UInt8} (hn : bs.length ≤ 65536) (hroom : Es.length + 2 * bs.length ≤ most) :
  Ct E 7 [uPt pp, .slice (some ⟨g, 0, none⟩) bs.length c] [cells pp [uPt s, uPt tb] 57, tabP tb s (rls Es), zU s most Es, ro g (byC bs)]
   (fun v Q => ∃ M id, v = .tuple #[.int .i64 (id : Nat), .nilIface] ∧ M.length ≤ 2 * bs.length ∧ txt (rls (Es ++ M)) id = bs ∧ good (rls (Es ++ M)) id ∧ ((bs = [] ∧ id = 0) ∨ ∃ lv, Rch (rls (Es ++ M)) bs lv [id]) ∧
    Q = [cells pp [uPt s, uPt tb] 57, tabP tb s (rls (Es ++ M)), zU s most (Es ++ M), ro g (byC bs)]) := ct_OfQ hE hB (fun _ => ⟨g, 0, rfl, rd_ro⟩) hn hroom
end
end Go.Proofs.YtlleicanafioaaaDoor
