import Derived.Test.YtkkjjablmmmmkaaGreatDoorQ10
import Derived.Laws.MakeOwn
set_option linter.all false
namespace Go.Proofs.YtkkjjablmmmmkaaGreatDoor
open Go Go.RowKit Sl Eg
set_option maxRecDepth 10000
variable {E : Env}
def lnum (l : Nat) : Nat := (l / 2 - 1) % 123
theorem lnum_lt (l : Nat) : lnum l < 123 := Nat.mod_lt _ (by omega)
theorem qIs (hE : Seat E) {l : Nat} (h2 : 2 ≤ l) (he : l % 2 = 0) (hl : l < 1099511627776) (hc : lnum l = 122) : Ct E 107 [.int .i64 (l : Nat)] []
  (fun v Q => v = .tuple ⟨[.int .i64 0, .int .u64 0, .bool true]⟩ ∧ Q = []) := by
 apply qUr
 intro w
 rw [hE.P]
 refine (qPe l w h2 he hl).mono ?_
 rintro e w' ⟨h1, h3⟩
 refine ⟨?_, h3⟩
 rw [h1]
 unfold lnum at hc
 rw [if_pos hc]
theorem qQv (hE : Seat E) {l : Nat} (h2 : 2 ≤ l) (he : l % 2 = 0) (hl : l < 1099511627776) (hc : ¬ lnum l = 122) : Ct E 107 [.int .i64 (l : Nat)] []
  (fun v Q => v = .tuple ⟨[.int .i64 ((lnum l / 2 : Nat) : Int), .int .u64 ((lnum l % 2 : Nat) : Int), .bool false]⟩ ∧ Q = []) := by
 apply qUr
 intro w
 rw [hE.P]
 refine (qPe l w h2 he hl).mono ?_
 rintro e w' ⟨h1, h3⟩
 refine ⟨?_, h3⟩
 rw [h1]
 unfold lnum at hc
 rw [if_neg hc]
 rfl
structure PaG where
 k : Nat
 l : List Nat
 p : Option Addr
 c : Nat
theorem qSr (hE : Seat E) {g c l : Nat} {ks : List Nat} (hl : ks.length < 1048577) (h2 : 2 ≤ l) (he : l % 2 = 0) (hll : l < 1099511627776) (hc : ¬ lnum l = 122) :
  Ct E 85 [.slice (some ⟨g, 0, none⟩) ks.length c, .int .i64 (l : Nat)] [sl (some ⟨g, 0, none⟩) c 80 1 ks.length (kyC ks)]
   (fun v Q => ∃ p c', v = .slice p (biF ks (lnum l) (ks.length - 1)).length c' ∧ Q = [sl p c' 3 1 (biF ks (lnum l) (ks.length - 1)).length (idC (biF ks (lnum l) (ks.length - 1))), sl (some ⟨g, 0, none⟩) c 80 1 ks.length (kyC ks)]) := by
 have hn := lnum_lt l
 refine zO (hE.fn Tryz.func85) rfl rfl rfl (fun R => ?_)
 simp only [qAc, uV, uW]
 refine qK (qI (uA rfl (qL (qJ (qK (qK (qI (uM rfl (uB (y_lt rfl rfl) ?_)))))))))
 refine uM rfl ?_
 refine qAi 15 rfl (fun h0 => ?_) (fun h0 => ?_)
 ·exfalso; omega
 refine kS rfl rfl (uM rfl (kS rfl rfl (uB (zAz rfl rfl (by omega) (by omega)) ?_)))
 refine kS rfl rfl (uB (y_ne rfl rfl) ?_)
 refine uB (qY rfl rfl) ?_
 refine qL (qJ ?_)
 refine zD rfl (fun h1 => ?_) (fun h1 => ?_)
 ·exfalso; omega
 refine zB (qJ (qK (qI (uA rfl (qL (qJ (qK (qI (uM rfl (uX (qQv hE h2 he hll hc) rfl ?_))))))))))
 rintro _ _ ⟨rfl, rfl⟩
 simp only [uV, uW]
 refine uM rfl (uB (qU rfl rfl) (uB (qU rfl rfl) (uB (qU rfl rfl) (uA rfl (uA rfl (uA rfl (qL (qJ (qK (qK (qI ?_)))))))))))
 refine uM rfl (qL (qJ (zC rfl ?_)))
 clear hc
 generalize lnum l = cc at *
 refine zB (qJ (qK (qK (qI (uA rfl (qL (qJ (zK ?_))))))))
 refine qAe (fun x : PaG => [(0, .slice (some ⟨g, 0, none⟩) ks.length c), (5, .slice x.p x.l.length x.c), (6, .int .i64 ((cc / 2 : Nat) : Int)), (7, .int .u64 ((cc % 2 : Nat) : Int)), (12, .int .i64 (x.k : Nat))]) (fun x => [sl x.p x.c 3 1 x.l.length (idC x.l), sl (some ⟨g, 0, none⟩) c 80 1 ks.length (kyC ks), R]) (fun x => ks.length - x.k) (fun x => x.k ≤ ks.length - 1 ∧ x.l = biF ks cc x.k) ⟨0, [], none, 0⟩ ?_ ?_ ?_ ?_
 ·exact ⟨Nat.zero_le _, rfl⟩
 ·exact ⟨rfl, rfl, rfl, rfl, rfl, trivial⟩
 ·apply kE (qCw (t := 3) (sz := 1))
  exact uI
 rintro ⟨k, rs, p, c1⟩ ⟨hk, hrs⟩
 simp only at hk hrs ⊢
 refine qK (qK (qI (uM rfl (uB (uAa rfl rfl) ?_))))
 refine uM rfl (uB (uBl rfl) ?_)
 refine uB (y_lt rfl rfl) ?_
 refine qL (qJ ?_)
 refine zD rfl (fun hlt => ?_) (fun hlt => ?_)
 ·have hkn : k + 1 < ks.length := by omega
  obtain ⟨x, hx⟩ : ∃ x, ks[k]? = some x := ⟨_, List.getElem?_eq_getElem (by omega)⟩
  obtain ⟨y, hy⟩ : ∃ y, ks[k + 1]? = some y := ⟨_, List.getElem?_eq_getElem (by omega)⟩
  have f0 := qQc hx ((k : Nat) : Int).toNat (by omega)
  have f1 := qQc hy (((k : Nat) : Int) + 1).toNat (by omega)
  have hrl : rs.length ≤ k := hrs ▸ qPl ks cc k
  have eB : biF ks cc (k + 1) = rs ++ if bt x (cc / 2) = cc % 2 ∧ bt y (cc / 2) ≠ cc % 2 then [k] else [] := by
   rw [biF, ← hrs, hx, hy]
   by_cases h : bt x (cc / 2) = cc % 2 ∧ bt y (cc / 2) ≠ cc % 2
   ·rw [if_pos h, if_pos ⟨hkn, h⟩]
   rw [if_neg h, if_neg (fun q => h q.2)]
  refine zB (qJ (qK (zK (qK (qI (uM rfl (uM rfl (uB (uAj rfl rfl) ?_))))))))
  refine uL ?_
  refine uM rfl (uB (y_shr rfl rfl (by omega)) ?_)
  refine uB (y_and1 rfl rfl) ?_
  refine uM rfl (uB (y_eq rfl rfl) ?_)
  refine uM rfl ?_
  refine qAi 66 rfl (fun h5 => ?_) (fun h5 => ?_)
  ·have h5' : bt x (cc / 2) = cc % 2 := by unfold bt; omega
   refine kS rfl rfl (uM rfl (kS rfl rfl (uM rfl (kS rfl rfl (uB (uAa rfl rfl) ?_)))))
   refine kS rfl rfl (uB (uAj rfl rfl) ?_)
   refine kS rfl rfl (uL ?_)
   refine kS rfl rfl (uM rfl (kS rfl rfl (uB (y_shr rfl rfl (by omega)) ?_)))
   refine kS rfl rfl (uB (y_and1 rfl rfl) ?_)
   refine kS rfl rfl (uM rfl (kS rfl rfl (uB (y_ne rfl rfl) ?_)))
   refine uB (qX rfl rfl) ?_
   refine qL (qJ ?_)
   refine zD rfl (fun h6 => ?_) (fun h6 => ?_)
   ·have h6' : bt y (cc / 2) ≠ cc % 2 := by unfold bt; omega
    rw [if_pos ⟨h5', h6'⟩] at eB
    refine qI (uM rfl (uM rfl (uU ?_)))
    refine qV (hE.t rfl) (hE.t rfl) rfl rfl rfl (fun b80 => ?_)
    refine uU ?_
    apply zU (hE.t rfl) (hE.t rfl) rfl rfl rfl
    ·exact uK
    ·exact uK
    ·rfl
    ·rfl
    ·omega
    ·omega
    ·(unfold maxLen; omega)
    intro g81 c81 n81 x81 hn81 hx81
    refine uA rfl (qL (zI (qJ (qI (uM rfl (uB (uAa rfl rfl) ?_))))))
    refine uA rfl (qL ?_)
    obtain rfl : n81 = (rs ++ [k]).length := by rw [hn81]; simp
    obtain rfl : x81 = idC (rs ++ [k]) := by rw [hx81]; unfold idC; rw [List.map_append]; rfl
    refine qFb 12 (.int .i64 ((k + 1 : Nat) : Int)) rfl (zW (by omega)) ?_
    refine zS (ι := PaG) (j := ⟨k + 1, rs ++ [k], some ⟨g81, 0, none⟩, c81⟩) ?_ ?_ ?_ ?_
    ·exact ⟨by show k + 1 ≤ _; omega, eB.symm⟩
    ·show ks.length - (k + 1) < ks.length - k; omega
    ·exact ⟨rfl, rfl, rfl, rfl, rfl, trivial⟩
    exact uI
   have h6' : ¬ bt y (cc / 2) ≠ cc % 2 := by unfold bt; omega
   rw [if_neg (fun q => h6' q.2), List.append_nil] at eB
   refine zB (zI (qJ (qI (uM rfl (uB (uAa rfl rfl) ?_)))))
   refine uA rfl (qL ?_)
   refine qFb 12 (.int .i64 ((k + 1 : Nat) : Int)) rfl (zW (by omega)) ?_
   refine zS (ι := PaG) (j := ⟨k + 1, rs, p, c1⟩) ?_ ?_ ?_ ?_
   ·exact ⟨by show k + 1 ≤ _; omega, eB.symm⟩
   ·show ks.length - (k + 1) < ks.length - k; omega
   ·exact ⟨rfl, rfl, rfl, rfl, rfl, trivial⟩
   exact uI
  have h5' : ¬ bt x (cc / 2) = cc % 2 := by unfold bt; omega
  rw [if_neg (fun q => h5' q.1), List.append_nil] at eB
  refine zT rfl rfl rfl rfl (zT rfl rfl rfl rfl (zT rfl rfl rfl rfl (zT rfl rfl rfl rfl (zT rfl rfl rfl rfl (zT rfl rfl rfl rfl (zT rfl rfl rfl rfl (zT rfl rfl rfl rfl ?_)))))))
  refine zT rfl rfl rfl rfl (zT rfl rfl rfl rfl ?_)
  refine uB (qY rfl rfl) ?_
  refine qL (qJ (zC rfl (zB (zI (qJ (qI (uM rfl (uB (uAa rfl rfl) ?_))))))))
  refine uA rfl (qL ?_)
  refine qFb 12 (.int .i64 ((k + 1 : Nat) : Int)) rfl (zW (by omega)) ?_
  refine zS (ι := PaG) (j := ⟨k + 1, rs, p, c1⟩) ?_ ?_ ?_ ?_
  ·exact ⟨by show k + 1 ≤ _; omega, eB.symm⟩
  ·show ks.length - (k + 1) < ks.length - k; omega
  ·exact ⟨rfl, rfl, rfl, rfl, rfl, trivial⟩
  exact uI
 refine kK (qP (qP (zH (qJ (qK (qI ?_))))))
 refine uM rfl (uA rfl (qL (qJ (zZ ?_))))
 obtain rfl : k = ks.length - 1 := by omega
 subst hrs
 exact uZ rfl (.tmp rfl .nil) ⟨p, c1, rfl, rfl⟩
theorem tie_take {st : List (Nat × Nat)} {m f q : Nat} (h : st[m]? = some (f, q)) : qBm (st.take (m + 1)) = qBm (st.take m) ++ qLb f (q / 2) := by
 rw [List.take_add_one, h, Option.toList_some, qNe]; simp [qBm]
theorem qNa (f : Nat) : ∀ j, (qLb f j).length = j
 | 0 => rfl
 | j + 1 => by simp [qLb, qNa f j]
theorem qTq : ∀ {st : List (Nat × Nat)} {m f q a e : Nat}, Spans st a e → st[m]? = some (f, q) → f + q ≤ e ∧ a + 2 * (qBm (st.take m)).length ≤ f
 | [], m, f, q, a, e, _, h => by simp at h
 | (f', n') :: st, 0, f, q, a, e, ⟨h0, h1, h2⟩, h => by
  obtain ⟨rfl, rfl⟩ : f' = f ∧ n' = q := by simpa using h
  have := qQh h2
  exact ⟨this, h0⟩
 | (f', n') :: st, m + 1, f, q, a, e, ⟨h0, h1, h2⟩, h => by
  obtain ⟨h3, h4⟩ := qTq h2 (m := m) (by simpa using h)
  refine ⟨h3, ?_⟩
  simp only [List.take_succ_cons, qBm, List.length_append, qNa]
  omega
theorem qTp (hE : Seat E) {g c l : Nat} {ks : List Nat} (hl : ks.length < 1048577) (h2 : 2 ≤ l) (he : l % 2 = 0) (hll : l < 1099511627776) (hc : lnum l = 122) :
  Ct E 85 [.slice (some ⟨g, 0, none⟩) ks.length c, .int .i64 (l : Nat)] [sl (some ⟨g, 0, none⟩) c 80 1 ks.length (kyC ks)]
   (fun v Q => ∃ p c', v = .slice p (qBm (qBk ks)).length c' ∧ Q = [sl p c' 3 1 (qBm (qBk ks)).length (idC (qBm (qBk ks))), sl (some ⟨g, 0, none⟩) c 80 1 ks.length (kyC ks)]) := by
 have hsp := qGr ks
 have hsl : (qBk ks).length ≤ ks.length := qKi ks _
 refine zO (hE.fn Tryz.func85) rfl rfl rfl (fun R => ?_)
 simp only [qAc, uV, uW]
 refine qK (qI (uA rfl (qL (qJ (qK (qK (qI (uM rfl (uB (y_lt rfl rfl) ?_)))))))))
 refine uM rfl ?_
 refine qAi 15 rfl (fun h0 => ?_) (fun h0 => ?_)
 ·exfalso; omega
 refine kS rfl rfl (uM rfl (kS rfl rfl (uB (zAz rfl rfl (by omega) (by omega)) ?_)))
 refine kS rfl rfl (uB (y_ne rfl rfl) ?_)
 refine uB (qY rfl rfl) ?_
 refine qL (qJ ?_)
 refine zD rfl (fun h1 => ?_) (fun h1 => ?_)
 ·exfalso; omega
 refine zB (qJ (qK (qI (uA rfl (qL (qJ (qK (qI (uM rfl (uX (qIs hE h2 he hll hc) rfl ?_))))))))))
 rintro _ _ ⟨rfl, rfl⟩
 simp only [uV, uW]
 refine uM rfl (uB (qU rfl rfl) (uB (qU rfl rfl) (uB (qU rfl rfl) (uA rfl (uA rfl (uA rfl (qL (qJ (qK (qK (qI ?_)))))))))))
 refine uM rfl (qL (qJ (zF rfl ?_)))
 clear hc
 refine qK (qK (qI (uM rfl (uX (qTu hE hl) rfl ?_))))
 rintro _ _ ⟨sp, sc, rfl, rfl⟩
 simp only [uV, uW]
 generalize qBk ks = st at *
 refine uB (uBl rfl) ?_
 refine uM rfl (qL (qJ (zK ?_)))
 refine qAe (fun x : PaG => [(5, .slice x.p x.l.length x.c), (28, .slice sp st.length sc), (29, .int .i64 (st.length : Nat)), (30, .int .i64 (x.k : Nat))]) (fun x => [sl x.p x.c 3 1 x.l.length (idC x.l), sl sp sc 208 2 st.length (gsC st), sl (some ⟨g, 0, none⟩) c 80 1 ks.length (kyC ks), R]) (fun x => st.length - x.k) (fun x => x.k ≤ st.length ∧ x.l = qBm (st.take x.k)) ⟨0, [], none, 0⟩ ?_ ?_ ?_ ?_
 ·exact ⟨Nat.zero_le _, rfl⟩
 ·exact ⟨rfl, rfl, rfl, rfl, trivial⟩
 ·apply kE (qCw (t := 3) (sz := 1))
  exact uI
 rintro ⟨m, rs, p, c1⟩ ⟨hk, hrs⟩
 simp only at hk hrs ⊢
 refine qK (qI (uB (y_lt rfl rfl) ?_))
 refine qL (qJ (qK ?_))
 refine zD rfl (fun hlt => ?_) (fun hlt => ?_)
 ·have hmn : m < st.length := by omega
  obtain ⟨⟨f, q⟩, hx⟩ : ∃ x, st[m]? = some x := ⟨_, List.getElem?_eq_getElem hmn⟩
  have eT := tie_take hx
  obtain ⟨hfq, hrl⟩ := qTq hsp hx
  rw [← hrs] at eT hrl
  refine qDj (p := sl sp sc 208 2 st.length (gsC st)) uK (fun _ h => qAn h (by omega)) ?_
  rintro ⟨g1, rfl⟩
  have f0 : (gsC st)[0 + ((m : Nat) : Int).toNat * 2]? = some (.int .i64 (f : Nat)) := by rw [show 0 + ((m : Nat) : Int).toNat * 2 = m * 2 by omega]; exact (qMx hx).1
  have f1 : (gsC st)[0 + ((m : Nat) : Int).toNat * 2 + 1]? = some (.int .i64 (q : Nat)) := by rw [show 0 + ((m : Nat) : Int).toNat * 2 + 1 = m * 2 + 1 by omega]; exact (qMx hx).2
  refine zB (qJ (qK (zK (qK (qI (uB (uAi rfl rfl) ?_))))))
  refine uB (uG) ?_
  refine uU (kF (hE.t rfl) (fun b10 => ?_))
  refine uU (uS ?_)
  refine qL (qJ (qK (qI (uA rfl (qL (qJ (zK ?_)))))))
  refine qAe (fun x : PaG => [(5, .slice x.p x.l.length x.c), (10, uPt b10), (11, .int .i64 ((2 * x.k : Nat) : Int)), (28, .slice (some ⟨g1, 0, none⟩) st.length sc), (29, .int .i64 (st.length : Nat)), (30, .int .i64 (m : Nat))]) (fun x => [cells b10 [.int .i64 (f : Nat), .int .i64 (q : Nat)] 208, sl x.p x.c 3 1 x.l.length (idC x.l), sl (some ⟨g1, 0, none⟩) sc 208 2 st.length (gsC st), sl (some ⟨g, 0, none⟩) c 80 1 ks.length (kyC ks), R]) (fun x => q - x.k) (fun x => x.k ≤ q / 2 ∧ x.l = rs ++ qLb f x.k) ⟨0, rs, p, c1⟩ ?_ ?_ ?_ ?_
  ·exact ⟨Nat.zero_le _, (List.append_nil rs).symm⟩
  ·exact ⟨rfl, rfl, rfl, rfl, rfl, rfl, trivial⟩
  ·exact uI
  clear hrs
  rintro ⟨j, ls, p', c2⟩ ⟨hj, hls⟩
  simp only at hj hls ⊢
  have hll : ls.length = rs.length + j := by rw [hls, List.length_append, qNa]
  refine qK (qK (qI (uM rfl (uB (uAa rfl rfl) ?_))))
  refine uB (uBf rfl) ?_
  refine uL ?_
  refine uB (y_lt rfl rfl) ?_
  refine qL (qJ ?_)
  refine zD rfl (fun hin => ?_) (fun hin => ?_)
  ·refine zB (qJ (qK (zK (qI ?_))))
   refine uM rfl (uB (uBf rfl) ?_)
   refine uL ?_
   refine uM rfl (uB (uAa rfl rfl) ?_)
   refine uU ?_
   refine qV (hE.t rfl) (hE.t rfl) rfl rfl rfl (fun b46 => ?_)
   refine uU ?_
   apply zU (hE.t rfl) (hE.t rfl) rfl rfl rfl
   ·exact uK
   ·exact uK
   ·rfl
   ·rfl
   ·omega
   ·omega
   ·(unfold maxLen; omega)
   intro g47 c47 n47 x47 hn47 hx47
   refine uA rfl (qL (zI (qJ (qI (uM rfl (uB (uAa rfl rfl) ?_))))))
   refine uA rfl (qL ?_)
   obtain rfl : n47 = (ls ++ [f + 2 * j]).length := by rw [hn47]; simp
   obtain rfl : x47 = idC (ls ++ [f + 2 * j]) := by rw [hx47]; unfold idC; rw [List.map_append]; rfl
   refine qFb 11 (.int .i64 ((2 * (j + 1) : Nat) : Int)) rfl (zW (by omega)) ?_
   refine zS (ι := PaG) (j := ⟨j + 1, ls ++ [f + 2 * j], some ⟨g47, 0, none⟩, c47⟩) ?_ ?_ ?_ ?_
   ·exact ⟨by show j + 1 ≤ _; omega, by show _ = rs ++ (qLb f j ++ [f + 2 * j]); rw [hls, List.append_assoc]⟩
   ·show q - (j + 1) < q - j; omega
   ·exact ⟨rfl, rfl, rfl, rfl, rfl, rfl, trivial⟩
   exact uI
  obtain rfl : j = q / 2 := by omega
  refine kK (qP (qP (zH (zI (qJ (qI (uB (uAa rfl rfl) ?_)))))))
  refine uM rfl (qL ?_)
  refine qFb 30 (.int .i64 ((m + 1 : Nat) : Int)) rfl (zW (by omega)) ?_
  refine zS (ι := PaG) (j := ⟨m + 1, ls, p', c2⟩) ?_ ?_ ?_ ?_
  ·exact ⟨by show m + 1 ≤ _; omega, by rw [hls]; exact eT.symm⟩
  ·show st.length - (m + 1) < st.length - m; omega
  ·exact ⟨rfl, rfl, rfl, rfl, trivial⟩
  exact uI
 refine kK (qP (qP (zH (qJ (qK (qI ?_))))))
 refine uM rfl (uA rfl (qL (qJ (zZ (qW ?_)))))
 rw [List.take_of_length_le (by omega)] at hrs
 subst hrs
 exact uZ rfl (.tmp rfl .nil) ⟨p, c1, rfl, rfl⟩
theorem ct_Pairs (hE : Seat E) {g c l : Nat} {ks : List Nat} (hl : ks.length < 1048577) (h2 : 2 ≤ l) (he : l % 2 = 0) (hll : l < 1099511627776) :
  Ct E 85 [.slice (some ⟨g, 0, none⟩) ks.length c, .int .i64 (l : Nat)] [sl (some ⟨g, 0, none⟩) c 80 1 ks.length (kyC ks)]
   (fun v Q => ∃ p c', v = .slice p (qBn ks (lnum l)).length c' ∧ Q = [sl p c' 3 1 (qBn ks (lnum l)).length (idC (qBn ks (lnum l))), sl (some ⟨g, 0, none⟩) c 80 1 ks.length (kyC ks)]) := by
 unfold qBn
 split
 ·exact qTp hE hl h2 he hll (by assumption)
 exact qSr hE hl h2 he hll (by assumption)
end Go.Proofs.YtkkjjablmmmmkaaGreatDoor
namespace Sl
open Go Go.RowKit
variable {E : Env} {n : Nat} {L : Fr} {S H H' : List HP} {ty : TypeId} {pos : String} {af : Array Edge} {d : Option Nat} {gd : Option (Nat × Bool)} {K : Value → List HP → Prop} {Q : Exit → Act → World → Prop}
theorem runInA {t e : TypeId} {i : TypeInfo} (ht : E.P.underlying t = some (.slice e)) (hi : E.P.info? e = some i) {b c m k cc N : Nat} {q : Addr} {xs us : List Value} {w : World} (ty : TypeId)
  (s : Sat E.w0 w (sl (some ⟨b, 0, none⟩) c e i.size N xs :: H)) (hu : us.length = k * i.size) (hq : ∀ j u, us[j]? = some u → w.cell? (q.add j) = some u) (hp : qCk us = true) (hN : m + k ≤ N) :
  ∃ w', (Builtin.append_ #[t, t] ty #[.slice (some ⟨b, 0, none⟩) m c, .slice (some q) k cc]).run E.P w = .ok (.slice (some ⟨b, 0, none⟩) (m + k) c) w' ∧ Sat E.w0 w' (sl (some ⟨b, 0, none⟩) c e i.size N (zX xs (m * i.size) us) :: H) := by
 have hxl : xs.length = N * i.size := by obtain ⟨h1, h2, _, _, hh, _⟩ := s.hp; exact hh.1
 obtain ⟨cur, s1, h1, h2, h3, h4⟩ := s.slice
 have hme : N * i.size ≤ cur.size := by rw [h3]; exact Nat.mul_le_mul_right _ h1
 have hmk : m * i.size + k * i.size ≤ N * i.size := by rw [← Nat.add_mul]; exact Nat.mul_le_mul_right _ hN
 obtain ⟨w', hr, hs⟩ := qGt (E := E) cur (m * i.size) us w s1 hp (by omega)
 have hfc := run_firstCells_some (P := E.P) w i.size k q k cc us hu hq
 have hroom : m + k ≤ c := by omega
 refine ⟨w', ?_, hs.imp fun k' hk' => qBd (fun k'' hk'' => ?_) hk'⟩
 ·simp [Builtin.append_, run_underlying ht, Go.sizeOf, typeInfo, hi, Builtin.lenOf, hroom, hfc, Addr.add_lit, hr]
 refine ⟨by rw [qM, hxl], .inr ⟨b, _, rfl, hk'', h1, h2, by simpa [qM] using h3, ?_⟩⟩
 rw [qFf _ _ _ _ (by omega), h4]
theorem qFh {x y : Operand} {t e : TypeId} {c m k cc N b g es by_ sz sz' : Nat} {xs us zs zs' : List Value} {kk : TK} {H'' : List HP} {bt : TypeId} (ht : E.tab t = some ⟨.slice e es by_, sz, zs⟩) (he : E.tab e = some ⟨kk, sz', zs'⟩)
  (hx : ev L x = some (.slice (some ⟨b, 0, none⟩) m c)) (hy : ev L y = some (.slice (some ⟨g, 0, none⟩) k cc)) (hm : Take (cells g us bt) H H') (hm2 : Take (sl (some ⟨b, 0, none⟩) c e es N xs) H' H'') (hp : qCk us = true) (hl : us.length = k * es) (hN : m + k ≤ N)
  (hk : K (.slice (some ⟨b, 0, none⟩) (m + k) c) (sl (some ⟨b, 0, none⟩) c e es N (zX xs (m * es) us) :: H'')) : Ld E n L H ⟨d, .call { callee := .builtin .append, args := #[x, y], argTypes := #[t, t] }, ty, pos, af, gd⟩ K := fun Q next a w G hn => by
 obtain ⟨hu, j, hj, hs, hby⟩ := qAt ht
 obtain ⟨i, z, hi, hi2, hiz, hzc, _⟩ := qAr he
 obtain rfl : i = j := by rw [hi] at hj; simpa using hj
 subst hs
 have s1 := G.hp.take hm
 have s2 : Sat E.w0 w (sl (some ⟨b, 0, none⟩) c e i.size N xs :: cells g us bt :: H'') := (s1.imp fun _ h => qCt (qBc (fun _ => hm2.out) h))
 have hnews : ∀ j u, us[j]? = some u → w.cell? ((⟨g, 0, none⟩ : Addr).add j) = some u := fun j u hu => by rw [addr_add, Nat.zero_add]; exact s1.cell j hu
 obtain ⟨w', hr, ho⟩ := runInA hu hi ty (m := m) (cc := cc) s2 hl hnews hp hN
 have hrun : (execOp a.eval ⟨d, .call { callee := .builtin .append, args := #[x, y], argTypes := #[t, t] }, ty, pos, af, gd⟩).run E.P w = .ok (.value (.slice (some ⟨b, 0, none⟩) (m + k) c)) w' := by
  simp [execOp, resolve, invoke, builtin, G.f.ev hx, G.f.ev hy, hr]
 unfold Oper.wp
 rw [hrun, Oper.upon_value]
 exact hn _ _ _ hk (ho.imp fun _ => qBc fun _ => qJw)
theorem qEa {x y : Operand} {t e : TypeId} {c m k cc lo N b es by_ sz sz' : Nat} {q : Addr} {xs us zs zs' : List Value} {kk : TK} (ht : E.tab t = some ⟨.slice e es by_, sz, zs⟩) (he : E.tab e = some ⟨kk, sz', zs'⟩)
  (hx : ev L x = some (.slice (some ⟨b, 0, none⟩) m c)) (hy : ev L y = some (.slice (some q) k cc)) (hq : k = 0 ∨ q = ⟨b, lo * es, none⟩) (hm2 : Take (sl (some ⟨b, 0, none⟩) c e es N xs) H H') (hus : us = (xs.drop (lo * es)).take (k * es)) (hp : qCk us = true) (hlo : lo + k ≤ N) (hN : m + k ≤ N)
  (hk : K (.slice (some ⟨b, 0, none⟩) (m + k) c) (sl (some ⟨b, 0, none⟩) c e es N (zX xs (m * es) us) :: H')) : Ld E n L H ⟨d, .call { callee := .builtin .append, args := #[x, y], argTypes := #[t, t] }, ty, pos, af, gd⟩ K := fun Q next a w G hn => by
 obtain ⟨hu, j, hj, hs, hby⟩ := qAt ht
 obtain ⟨i, z, hi, hi2, hiz, hzc, _⟩ := qAr he
 obtain rfl : i = j := by rw [hi] at hj; simpa using hj
 subst hs
 have s1 := G.hp.take hm2
 have hxl : xs.length = N * i.size := by obtain ⟨h1, h2, _, _, hh, _⟩ := s1.hp; exact hh.1
 have hmk : lo * i.size + k * i.size ≤ N * i.size := by rw [← Nat.add_mul]; exact Nat.mul_le_mul_right _ hlo
 have hl : us.length = k * i.size := by rw [hus, List.length_take, List.length_drop]; omega
 have hnews : ∀ j u, us[j]? = some u → w.cell? (q.add j) = some u := fun j u hu => by
  rcases hq with rfl | rfl
  ·rw [Nat.zero_mul] at hl; rw [List.eq_nil_of_length_eq_zero hl] at hu; simp at hu
  rw [addr_add]
  refine (HasC.slice ?_).cell s1
  rw [hus, List.getElem?_take] at hu
  split at hu
  ·rw [List.getElem?_drop] at hu; exact hu
  cases hu
 obtain ⟨w', hr, ho⟩ := runInA hu hi ty (m := m) (cc := cc) s1 hl hnews hp hN
 have hrun : (execOp a.eval ⟨d, .call { callee := .builtin .append, args := #[x, y], argTypes := #[t, t] }, ty, pos, af, gd⟩).run E.P w = .ok (.value (.slice (some ⟨b, 0, none⟩) (m + k) c)) w' := by
  simp [execOp, resolve, invoke, builtin, G.f.ev hx, G.f.ev hy, hr]
 unfold Oper.wp
 rw [hrun, Oper.upon_value]
 exact hn _ _ _ hk ho
theorem qCi {x y : Operand} {t e : TypeId} {c es by_ sz sz' : Nat} {zs zs' : List Value} {kk : TK} (ht : E.tab t = some ⟨.slice e es by_, sz, zs⟩) (he : E.tab e = some ⟨kk, sz', zs'⟩)
  (hx : ev L x = some (.int .i64 0)) (hy : ev L y = some (.int .i64 (c : Nat))) (hb : by_ * c ≤ 281474976710656) (hc : c ≤ maxLen)
  (hk : ∀ b us, us.length = c * es → K (.slice (some ⟨b, 0, none⟩) 0 c) (sl (some ⟨b, 0, none⟩) c e es c us :: H)) : Ld E n L H ⟨d, .makeSlice t x y, ty, pos, af, gd⟩ K := fun Q next a w G hn => by
 obtain ⟨hu, j, hj, hs, hby⟩ := qAt ht
 obtain ⟨i, z, hi, hi2, hiz, hzc, _⟩ := qAr he
 obtain rfl : i = j := by rw [hi] at hj; simpa using hj
 subst hs hby
 have h63 : (c : Int) ≤ 9223372036854775807 := by have h := hc; simp [maxLen] at h; omega
 have hr := run_make (P := E.P) w t e i z hu hi hiz .i64 .i64 0 (c : Int) (Int.le_refl _) (Int.natCast_nonneg c) (by rw [← Int.natCast_mul]; omega) h63
 have hrun : (execOp a.eval ⟨d, .makeSlice t x y, ty, pos, af, gd⟩).run E.P w = .ok (.value (.slice (some ⟨w.heap.size, 0, none⟩) 0 c)) (w.alloc (.cells (madeCells z.cells (c * i.size)) e)) := by
  simp [execOp, G.f.ev hx, G.f.ev hy, hr]
 unfold Oper.wp
 rw [hrun, Oper.upon_value]
 have hz := size_madeCells z.cells (c * i.size)
 generalize madeCells z.cells (c * i.size) = M at *
 refine hn _ _ _ (hk _ M.toList (by simpa using hz)) ?_
 have := G.hp.new (.cells M e)
 exact this.imp fun _ => qBd fun _ h => qAf (by simpa using hz) hc _ h
end Sl
namespace Go.Proofs.YtkkjjablmmmmkaaGreatDoor
open Go Go.RowKit Sl Eg
set_option maxRecDepth 10000
variable {E : Env} {Es : List Ent} {pp tb s most : Nat}
theorem ct_add (hE : Seat E) (hB : Base E.w0) {i r g1 g2 c1 c2 m N : Nat} {xs ys : List Value} (hi : i < Es.length) (hm : m < N) :
  Ct E 83 [uPt pp, uPt r, .int .i64 ((i + 1 : Nat) : Int)] [cells pp [uPt s, uPt tb] 106, tabP tb s (rls Es), zR s most Es, cells r [.slice (some ⟨g1, 0, none⟩) m c1, .slice (some ⟨g2, 0, none⟩) m c2] 109, sl (some ⟨g1, 0, none⟩) c1 37 1 N xs, sl (some ⟨g2, 0, none⟩) c2 80 1 N ys]
   (fun v Q => v = .nilIface ∧ Q = [cells pp [uPt s, uPt tb] 106, tabP tb s (rls Es), zR s most Es, cells r [.slice (some ⟨g1, 0, none⟩) (m + 1) c1, .slice (some ⟨g2, 0, none⟩) (m + 1) c2] 109, sl (some ⟨g1, 0, none⟩) c1 37 1 N (xs.set m (.int .i64 ((i + 1 : Nat) : Int))), sl (some ⟨g2, 0, none⟩) c2 80 1 N (ys.set m (.int .u64 (key (rls Es) (i + 1) : Nat)))]) := by
 refine zO (hE.fn Tryz.func83) rfl rfl rfl (fun R => ?_)
 simp only [qAc, uV, uW]
 refine qK (qI (uA rfl (qL (qJ (qK (qI (uM rfl (uB (zA rfl) ?_))))))))
 refine uB (uBf rfl) ?_
 refine uL ?_
 refine uM rfl (uX (zBf hE hB hi) rfl ?_)
 rintro _ _ ⟨rfl, rfl⟩
 simp only [uV, uW]
 refine uM rfl (uB (qU rfl rfl) (uB (qU rfl rfl) (uA rfl (uA rfl (qL (qJ (qK (qK (qI (uM rfl ?_))))))))))
 refine uB (qAd rfl (hE.t rfl)) ?_
 refine qL (qJ (zC rfl (zB (qJ (qK (qI (uM rfl (uM rfl (uB (zA rfl) ?_)))))))))
 refine uB (uBf rfl) ?_
 refine uL ?_
 refine uM rfl (uU ?_)
 refine qV (hE.t rfl) (hE.t rfl) rfl rfl rfl (fun b27 => ?_)
 refine uU ?_
 apply qFh (hE.t rfl) (hE.t rfl) rfl rfl
 ·exact uK
 ·exact uK
 ·rfl
 ·rfl
 ·omega
 refine uB (zA rfl) ?_
 refine uB (uBf rfl) ?_
 refine uU (uS ?_)
 refine qL (qJ (qK (qI (uM rfl (uM rfl (uB (zA rfl) ?_))))))
 refine uB (uBf rfl) ?_
 refine uL ?_
 refine uM rfl (uU ?_)
 refine qV (hE.t rfl) (hE.t rfl) rfl rfl rfl (fun b37 => ?_)
 refine uU ?_
 apply qFh (hE.t rfl) (hE.t rfl) rfl rfl
 ·exact uK
 ·exact uK
 ·rfl
 ·rfl
 ·omega
 refine uB (zA rfl) ?_
 refine uB (uBf rfl) ?_
 refine uU (uS ?_)
 refine qL (qJ (qK (qI (uA rfl (qL (qJ (zZ ?_)))))))
 rw [Nat.mul_one]
 exact uZ rfl (.tmp rfl .nil) ⟨rfl, rfl⟩
end Go.Proofs.YtkkjjablmmmmkaaGreatDoor
namespace Sl
open Go Go.RowKit
variable {E : Env} {n : Nat} {L : Fr} {S S' H H' : List HP} {ty : TypeId} {pos : String} {af : Array Edge} {d : Option Nat} {gd : Option (Nat × Bool)} {K : Value → List HP → Prop} {Q : Exit → Act → World → Prop}
def ro (g : Nat) (vs : List Value) : HP := fun h => ∃ cur t z, h g = some (.cells cur t z) ∧ ∀ (i : Nat) (v : Value), vs[i]? = some v → cur[i]? = some v
def RdAt (w0 : World) (g o : Nat) (vs : List Value) (h : PH) : Prop := ∀ (i : Nat) (v : Value), vs[i]? = some v → w0.cell? ⟨g, o + i, none⟩ = some v ∨ ∃ cur t z, h g = some (.cells cur t z) ∧ cur[o + i]? = some v
theorem qNn {w0 w : World} {g o : Nat} {vs : List Value} {q : HP} (hq : ∀ k, q k → RdAt w0 g o vs k) (s : Sat w0 w (q :: H)) {i : Nat} {v : Value} (hv : vs[i]? = some v) : w.cell? ⟨g, o + i, none⟩ = some v := by
 obtain ⟨h1, h2, dj, e, hc, hr⟩ := s.hp
 rcases hq _ hc i v hv with h | ⟨cur, t, z, hg, hh⟩
 ·exact s.old_cell h
 have s' : Sat w0 w (pt g (.cells cur t z) :: H) := ⟨s.os, s.tape, s.output, s.size, s.old, h1, h2, dj, e, hg, hr⟩
 simp [World.cell?, (s'.ptr).1, hh]
theorem zJ {x : Operand} {t : TypeId} {g o p i : Nat} {k : TK} {sz : Nat} {zs vs : List Value} {v : Value} {q : HP} (h : ev L x = some (.pointer (some ⟨g, p, none⟩))) (ht : E.tab t = some ⟨k, sz, zs⟩) (hk : k.agg = false)
  (hq : ∀ k, q k → RdAt E.w0 g o vs k) (hm : Take q S S') (hv : vs[i]? = some v) (hp : p = o + i) : Yl E n L S ⟨d, .load t x, ty, pos, af, gd⟩ v := fun a w g s => by
 subst hp
 have hc := qNn hq (s.take hm) hv
 simp [execOp, Instr.loadAt, Instr.sureAddr, loadVar, g.ev h, qEy ht, hk, load, Sem.run, hc]
theorem rd_ro {w0 : World} {g : Nat} {vs : List Value} : ∀ k, ro g vs k → RdAt w0 g 0 vs k := fun k ⟨cur, t, z, h, hh⟩ i v hv => .inr ⟨cur, t, z, h, by rw [Nat.zero_add]; exact hh i v hv⟩
def old : HP := fun _ => True
theorem ent_old : ∀ k, qAa H k → qAa (old :: H) k := fun k h => ⟨fun _ => none, k, fun _ => .inl rfl, by funext b; simp [join], trivial, h⟩
theorem rd_old {w0 : World} {g o : Nat} {vs : List Value} (h : ∀ (i : Nat) (v : Value), vs[i]? = some v → w0.cell? ⟨g, o + i, none⟩ = some v) : ∀ k, old k → RdAt w0 g o vs k := fun _ _ i v hv => .inl (h i v hv)
theorem qTw {ops : List Oper} {m : Nat} {S : List HP} {fuel : Nat} {listed : Array Bool} (i j l : Nat) {d d' d'' : Option Nat} {op op' op'' : Op} {ty ty' ty'' : TypeId} {pos pos' pos'' : String} {af af' af'' : Array Edge} (hi : ops[i]? = some ⟨d, op, ty, pos, af, none⟩) (hj : ops[j]? = some ⟨d', op', ty', pos', af', none⟩) (hl : ops[l]? = some ⟨d'', op'', ty'', pos'', af'', none⟩)
  (hr : Region.ready .any ops.toArray listed = [i, j, l]) (hd : inB n d = true) (hd' : inB n d' = true) (hd'' : inB n d'' = true)
  (h : Ld E n L H ⟨d, op, ty, pos, af, none⟩ (fun v H' => (∀ k, qAa H' k → qAa S k) ∧ WPM E ops m S Q fuel (listed.setIfInBounds i true) n (putL d v L) H')) (h' : Ld E n L H ⟨d', op', ty', pos', af', none⟩ (fun v H' => (∀ k, qAa H' k → qAa S k) ∧ WPM E ops m S Q fuel (listed.setIfInBounds j true) n (putL d' v L) H'))
  (h'' : Ld E n L H ⟨d'', op'', ty'', pos'', af'', none⟩ (fun v H' => (∀ k, qAa H' k → qAa S k) ∧ WPM E ops m S Q fuel (listed.setIfInBounds l true) n (putL d'' v L) H')) : WPM E ops m S Q (fuel + 1) listed n L H := fun _ a w g =>
 ⟨fun h0 => (by rw [hr] at h0; cases h0), fun x hx => by
  have hx' : x = i ∨ x = j ∨ x = l := by rw [hr] at hx; simpa using hx
  rcases hx' with rfl | rfl | rfl
  ·unfold wpOp
   simp only [qAg hi, Region.wanted, if_true]
   exact .inl (h _ _ a w g (fun v H' w' hk hs => ⟨fun _ => hs.imp hk.1, hk.2 hk.1 _ _ ⟨g.f.put d v hd, hs⟩⟩))
  ·unfold wpOp
   simp only [qAg hj, Region.wanted, if_true]
   exact .inl (h' _ _ a w g (fun v H' w' hk hs => ⟨fun _ => hs.imp hk.1, hk.2 hk.1 _ _ ⟨g.f.put d' v hd', hs⟩⟩))
  unfold wpOp
  simp only [qAg hl, Region.wanted, if_true]
  exact .inl (h'' _ _ a w g (fun v H' w' hk hs => ⟨fun _ => hs.imp hk.1, hk.2 hk.1 _ _ ⟨g.f.put d'' v hd'', hs⟩⟩))⟩
end Sl
namespace Go.Proofs.YtkkjjablmmmmkaaGreatDoor
open Go Go.RowKit Sl Eg
set_option maxRecDepth 10000
section
variable {E : Env} {Es : List Ent} {pp tb s most : Nat}
def byC (l : List UInt8) : List Value := l.map fun b => .int .u8 (b.toNat : Nat)
theorem byC_get {l : List UInt8} {i : Nat} {x : UInt8} (h : l[i]? = some x) (k : Nat) (hk : k = i) : (byC l)[k]? = some (.int .u8 (x.toNat : Nat)) := by subst hk; simp [byC, h]
inductive Lts (L : List Rl) : List Nat → List UInt8 → Prop where
 | nil : Lts L [] []
 | snoc {ids : List Nat} {bs : List UInt8} {i : Nat} {b : UInt8} : Lts L ids bs → L[i]? = some (.letter b) → Lts L (ids ++ [i + 1]) (bs ++ [b])
theorem Lts.ext {L : List Rl} (M : List Rl) {ids : List Nat} {bs : List UInt8} (h : Lts L ids bs) : Lts (L ++ M) ids bs := by
 induction h with
 | nil => exact .nil
 | snoc _ h2 ih => exact .snoc ih (by rw [List.getElem?_append_left (List.getElem?_eq_some_iff.1 h2).1]; exact h2)
theorem Lts.le {L : List Rl} {ids : List Nat} {bs : List UInt8} (h : Lts L ids bs) : ids.length = bs.length ∧ ∀ x ∈ ids, 1 ≤ x ∧ x ≤ L.length := by
 induction h with
 | nil => simp
 | snoc _ h2 ih =>
  have := (List.getElem?_eq_some_iff.1 h2).1
  refine ⟨by simp [ih.1], fun x hx => ?_⟩
  rcases List.mem_append.1 hx with h | h
  ·exact ih.2 x h
  obtain rfl : x = _ := List.mem_singleton.1 h
  omega
structure Row (L : List Rl) (ids : List Nat) (N : Nat) (xs ys : List Value) : Prop where
 hx : xs.take ids.length = idC ids
 hy : ys.take ids.length = kyC (ids.map (key L))
 le : ids.length ≤ N
 xl : xs.length = N
 yl : ys.length = N
theorem take_set {α : Type} {xs : List α} {m : Nat} {l : List α} {x : α} (h : xs.take m = l) (hm : m < xs.length) : (xs.set m x).take (m + 1) = l ++ [x] := by
 rw [List.take_add_one, List.take_set_of_le (Nat.le_refl m), h]; simp [hm]
theorem qIl {L : List Rl} (M : List Rl) {ids : List Nat} (h : ∀ x ∈ ids, x ≤ L.length) : ids.map (key (L ++ M)) = ids.map (key L) := by
 apply List.map_congr_left
 intro x hx
 exact qKn M (h x hx)
theorem Row.ext {L : List Rl} (M : List Rl) {ids : List Nat} {N : Nat} {xs ys : List Value} (h : Row L ids N xs ys) (hi : ∀ x ∈ ids, x ≤ L.length) : Row (L ++ M) ids N xs ys :=
 ⟨h.hx, by rw [qIl M hi]; exact h.hy, h.le, h.xl, h.yl⟩
theorem Row.snoc {L : List Rl} {ids : List Nat} {N : Nat} {xs ys : List Value} (h : Row L ids N xs ys) (hN : ids.length < N) (x : Nat) :
  Row L (ids ++ [x]) N (xs.set ids.length (.int .i64 (x : Nat))) (ys.set ids.length (.int .u64 (key L x : Nat))) := by
 refine ⟨?_, ?_, by simp; omega, by simp [h.xl], by simp [h.yl]⟩
 ·rw [List.length_append, List.length_singleton, take_set h.hx (by rw [h.xl]; exact hN)]; simp [idC]
 rw [List.length_append, List.length_singleton, take_set h.hy (by rw [h.yl]; exact hN)]; simp [kyC]
structure LeG where
 M : List Ent
 ids : List Nat
 xs : List Value
 ys : List Value
 b6 : Nat
 g1 : Nat
 g2 : Nat
theorem qXs (hE : Seat E) (hB : Base E.w0) {g o c : Nat} {bs : List UInt8} {q : HP} (hq : ∀ k, q k → RdAt E.w0 g o (byC bs) k) (hn : bs.length ≤ 65536) (hroom : Es.length + bs.length ≤ most) :
  Ct E 50 [uPt pp, .slice (some ⟨g, o, none⟩) bs.length c] [cells pp [uPt s, uPt tb] 106, tabP tb s (rls Es), zR s most Es, q]
   (fun v Q => ∃ M ids xs ys g1 g2, v = .tuple #[.agg #[.slice (some ⟨g1, 0, none⟩) ids.length bs.length, .slice (some ⟨g2, 0, none⟩) ids.length bs.length], .nilIface] ∧ M.length ≤ bs.length ∧ Lts (rls (Es ++ M)) ids bs ∧ Row (rls (Es ++ M)) ids bs.length xs ys ∧
    Q = [cells pp [uPt s, uPt tb] 106, tabP tb s (rls (Es ++ M)), zR s most (Es ++ M), sl (some ⟨g1, 0, none⟩) bs.length 37 1 bs.length xs, sl (some ⟨g2, 0, none⟩) bs.length 80 1 bs.length ys, q]) := by
 refine zO (hE.fn Tryz.func50) rfl rfl rfl (fun R => ?_)
 simp only [qAc, uV, uW]
 refine qK (qI (uU (kF (hE.t rfl) (fun b4 => ?_))))
 refine uA rfl (qL (qJ ?_))
 refine qEm (fun x : LeG => [(0, uPt pp), (1, .slice (some ⟨g, o, none⟩) bs.length c), (4, uPt b4), (6, .pointer (some ⟨x.b6, 0, none⟩))]) (fun x => [cells pp [uPt s, uPt tb] 106, tabP tb s (rls Es), zR s most Es, cells x.b6 [.slice (some ⟨x.g1, 0, none⟩) 0 bs.length, .slice (some ⟨x.g2, 0, none⟩) 0 bs.length] 109, cells b4 [.slice none 0 0, .slice none 0 0] 109, sl (some ⟨x.g1, 0, none⟩) bs.length 37 1 bs.length x.xs, sl (some ⟨x.g2, 0, none⟩) bs.length 80 1 bs.length x.ys, q, R]) (fun x => x.xs.length = bs.length ∧ x.ys.length = bs.length) ?_ ?_
 ·refine qQk 8 ([]) ?_ ?_
  ·exact uI
  refine uT 0 rfl (qB rfl) ?_
  refine uT 1 rfl (uBl rfl) ?_
  refine uT 3 rfl (qB rfl) ?_
  refine uT 4 rfl (uBl rfl) ?_
  apply qTw 2 5 7 rfl rfl rfl (by kernel_rfl) rfl rfl rfl
  ·refine qCi (hE.t rfl) (hE.t rfl) rfl rfl (by first | omega | exact Nat.le_of_ble_eq_true rfl) (by (unfold maxLen; first | omega | exact Nat.le_of_ble_eq_true rfl)) (fun b14 us14 hu14 => ?_)
   refine uE ?_
   apply qLa 5 7 rfl rfl (by kernel_rfl) rfl rfl
   ·refine qCi (hE.t rfl) (hE.t rfl) rfl rfl (by first | omega | exact Nat.le_of_ble_eq_true rfl) (by (unfold maxLen; first | omega | exact Nat.le_of_ble_eq_true rfl)) (fun b17 us17 hu17 => ?_)
    refine uE ?_
    refine uT 6 rfl (qAh (hE.t rfl) rfl rfl) ?_
    apply qAm 7 rfl (by kernel_rfl) rfl
    refine kF (hE.t rfl) (fun b6 => ?_)
    refine uE ?_
    apply qDt rfl (by kernel_rfl) (by kernel_rfl) rfl
    refine uS ?_
    refine qAp (⟨[], [], us14, us17, b6, b14, b17⟩ : LeG) ⟨by simpa using hu14, by simpa using hu17⟩ ⟨rfl, rfl, rfl, rfl, trivial⟩ ?_
    exact uI
   refine kF (hE.t rfl) (fun b6 => ?_)
   refine uE ?_
   apply qAm 5 rfl (by kernel_rfl) rfl
   refine qCi (hE.t rfl) (hE.t rfl) rfl rfl (by first | omega | exact Nat.le_of_ble_eq_true rfl) (by (unfold maxLen; first | omega | exact Nat.le_of_ble_eq_true rfl)) (fun b17 us17 hu17 => ?_)
   refine uE ?_
   apply kL 6 rfl (by kernel_rfl)
   ·exact qAh (hE.t rfl) rfl rfl
   ·rfl
   apply qDt rfl (by kernel_rfl) (by kernel_rfl) rfl
   refine uS ?_
   refine qAp (⟨[], [], us14, us17, b6, b14, b17⟩ : LeG) ⟨by simpa using hu14, by simpa using hu17⟩ ⟨rfl, rfl, rfl, rfl, trivial⟩ ?_
   exact uI
  ·refine qCi (hE.t rfl) (hE.t rfl) rfl rfl (by first | omega | exact Nat.le_of_ble_eq_true rfl) (by (unfold maxLen; first | omega | exact Nat.le_of_ble_eq_true rfl)) (fun b17 us17 hu17 => ?_)
   refine uE ?_
   apply qLa 2 7 rfl rfl (by kernel_rfl) rfl rfl
   ·refine qCi (hE.t rfl) (hE.t rfl) rfl rfl (by first | omega | exact Nat.le_of_ble_eq_true rfl) (by (unfold maxLen; first | omega | exact Nat.le_of_ble_eq_true rfl)) (fun b14 us14 hu14 => ?_)
    refine uE ?_
    refine uT 6 rfl (qAh (hE.t rfl) rfl rfl) ?_
    apply qAm 7 rfl (by kernel_rfl) rfl
    refine kF (hE.t rfl) (fun b6 => ?_)
    refine uE ?_
    apply qDt rfl (by kernel_rfl) (by kernel_rfl) rfl
    refine uS ?_
    refine qAp (⟨[], [], us14, us17, b6, b14, b17⟩ : LeG) ⟨by simpa using hu14, by simpa using hu17⟩ ⟨rfl, rfl, rfl, rfl, trivial⟩ ?_
    exact uI
   refine kF (hE.t rfl) (fun b6 => ?_)
   refine uE ?_
   apply qAm 2 rfl (by kernel_rfl) rfl
   refine qCi (hE.t rfl) (hE.t rfl) rfl rfl (by first | omega | exact Nat.le_of_ble_eq_true rfl) (by (unfold maxLen; first | omega | exact Nat.le_of_ble_eq_true rfl)) (fun b14 us14 hu14 => ?_)
   refine uE ?_
   apply kL 6 rfl (by kernel_rfl)
   ·exact qAh (hE.t rfl) rfl rfl
   ·rfl
   apply qDt rfl (by kernel_rfl) (by kernel_rfl) rfl
   refine uS ?_
   refine qAp (⟨[], [], us14, us17, b6, b14, b17⟩ : LeG) ⟨by simpa using hu14, by simpa using hu17⟩ ⟨rfl, rfl, rfl, rfl, trivial⟩ ?_
   exact uI
  refine kF (hE.t rfl) (fun b6 => ?_)
  refine uE ?_
  apply qLa 2 5 rfl rfl (by kernel_rfl) rfl rfl
  ·refine qCi (hE.t rfl) (hE.t rfl) rfl rfl (by first | omega | exact Nat.le_of_ble_eq_true rfl) (by (unfold maxLen; first | omega | exact Nat.le_of_ble_eq_true rfl)) (fun b14 us14 hu14 => ?_)
   refine uE ?_
   apply qAm 5 rfl (by kernel_rfl) rfl
   refine qCi (hE.t rfl) (hE.t rfl) rfl rfl (by first | omega | exact Nat.le_of_ble_eq_true rfl) (by (unfold maxLen; first | omega | exact Nat.le_of_ble_eq_true rfl)) (fun b17 us17 hu17 => ?_)
   refine uE ?_
   apply kL 6 rfl (by kernel_rfl)
   ·exact qAh (hE.t rfl) rfl rfl
   ·rfl
   apply qDt rfl (by kernel_rfl) (by kernel_rfl) rfl
   refine uS ?_
   refine qAp (⟨[], [], us14, us17, b6, b14, b17⟩ : LeG) ⟨by simpa using hu14, by simpa using hu17⟩ ⟨rfl, rfl, rfl, rfl, trivial⟩ ?_
   exact uI
  refine qCi (hE.t rfl) (hE.t rfl) rfl rfl (by first | omega | exact Nat.le_of_ble_eq_true rfl) (by (unfold maxLen; first | omega | exact Nat.le_of_ble_eq_true rfl)) (fun b17 us17 hu17 => ?_)
  refine uE ?_
  apply qAm 2 rfl (by kernel_rfl) rfl
  refine qCi (hE.t rfl) (hE.t rfl) rfl rfl (by first | omega | exact Nat.le_of_ble_eq_true rfl) (by (unfold maxLen; first | omega | exact Nat.le_of_ble_eq_true rfl)) (fun b14 us14 hu14 => ?_)
  refine uE ?_
  apply kL 6 rfl (by kernel_rfl)
  ·exact qAh (hE.t rfl) rfl rfl
  ·rfl
  apply qDt rfl (by kernel_rfl) (by kernel_rfl) rfl
  refine uS ?_
  refine qAp (⟨[], [], us14, us17, b6, b14, b17⟩ : LeG) ⟨by simpa using hu14, by simpa using hu17⟩ ⟨rfl, rfl, rfl, rfl, trivial⟩ ?_
  exact uI
 rintro ⟨_, _, us1, us2, b6, g1, g2⟩ ⟨hu1, hu2⟩
 simp only at hu1 hu2 ⊢
 refine qK (qK (qI (uM rfl (uB (uBl rfl) ?_))))
 refine uM rfl (qL (qJ (zK ?_)))
 refine qAe (fun x : LeG => [(0, uPt pp), (4, uPt b4), (6, uPt b6), (19, .slice (some ⟨g, o, none⟩) bs.length c), (20, .int .i64 (bs.length : Nat)), (21, .int .i64 (x.ids.length : Nat))]) (fun x => [cells pp [uPt s, uPt tb] 106, tabP tb s (rls (Es ++ x.M)), zR s most (Es ++ x.M), cells b6 [.slice (some ⟨g1, 0, none⟩) x.ids.length bs.length, .slice (some ⟨g2, 0, none⟩) x.ids.length bs.length] 109, cells b4 [.slice none 0 0, .slice none 0 0] 109, sl (some ⟨g1, 0, none⟩) bs.length 37 1 bs.length x.xs, sl (some ⟨g2, 0, none⟩) bs.length 80 1 bs.length x.ys, q, R]) (fun x => bs.length - x.ids.length)
  (fun x => x.M.length ≤ x.ids.length ∧ x.ids.length ≤ bs.length ∧ Lts (rls (Es ++ x.M)) x.ids (bs.take x.ids.length) ∧ Row (rls (Es ++ x.M)) x.ids bs.length x.xs x.ys) ⟨[], [], us1, us2, b6, g1, g2⟩ ?_ ?_ ?_ ?_
 ·exact ⟨Nat.le_refl _, Nat.zero_le _, .nil, ⟨rfl, rfl, Nat.zero_le _, hu1, hu2⟩⟩
 ·exact ⟨rfl, rfl, rfl, rfl, rfl, rfl, trivial⟩
 ·rw [List.append_nil]
  exact uI
 rintro ⟨M, ids, xs, ys, _, _, _⟩ ⟨hM, hle, hlts, hrow⟩
 simp only at hM hle hlts hrow ⊢
 refine qK (qI (uB (y_lt rfl rfl) ?_))
 refine qL (qJ (qK ?_))
 refine zD rfl (fun hlt => ?_) (fun hlt => ?_)
 ·have hk : ids.length < bs.length := by omega
  obtain ⟨b, hb⟩ : ∃ b, bs[ids.length]? = some b := ⟨_, List.getElem?_eq_getElem hk⟩
  have f0 := byC_get hb ids.length rfl
  have eb : bs.take (ids.length + 1) = bs.take ids.length ++ [b] := by rw [List.take_add_one, hb]; rfl
  have hr : (Es ++ M).length < most := by simp; omega
  refine zB (qJ (qK (zK (qK (qI (uB (uAi rfl rfl) ?_))))))
  apply qA
  ·(apply zJ rfl (hE.t rfl) rfl (by assumption); (focus ((repeat constructor); done)); (first | ((focus exact f0); (focus omega)) | ((focus exact f1); (focus omega)) | ((focus assumption); (focus omega))))
  ·rfl
  refine uA rfl (qL (qJ (qK (qI (uM rfl (uB (zA rfl) ?_))))))
  refine uB (uBf rfl) ?_
  refine uL ?_
  refine uM rfl (uX (qGx hE b hr) rfl ?_)
  rintro _ _ ⟨M2, id, rfl, hM2, hid, hrl, rfl⟩
  obtain ⟨i, rfl⟩ : ∃ i, id = i + 1 := ⟨id - 1, by omega⟩
  rw [Nat.add_sub_cancel] at hrl
  have hil : i < (Es ++ M ++ M2).length := by have := (List.getElem?_eq_some_iff.1 hrl).1; rwa [zQ] at this
  have hlts2 : Lts (rls (Es ++ M ++ M2)) (ids ++ [i + 1]) (bs.take (ids.length + 1)) := by rw [eb]; exact .snoc (by rw [kG (Es ++ M)]; exact hlts.ext _) hrl
  have hrow2 : Row (rls (Es ++ M ++ M2)) ids bs.length xs ys := by rw [kG (Es ++ M)]; exact hrow.ext _ (fun x hx => (hlts.le.2 x hx).2)
  simp only [uV, uW]
  refine qKu (kD (p := tabP tb s (rls (Es ++ M))) (p' := tabP tb s (rls (Es ++ M ++ M2))) uK (fun _ h => by rw [kG (Es ++ M)]; exact qGl _ h)) ?_
  rw [List.append_assoc] at hil hlts2 hrow2 ⊢
  refine uM rfl (uB (qU rfl rfl) (uB (qU rfl rfl) (uA rfl (uA rfl (qL (qJ (qK (qK (qI (uM rfl ?_))))))))))
  refine uB (qAd rfl (hE.t rfl)) ?_
  refine qL (qJ (zC rfl (zB (qJ (qK (qI (uM rfl (uM rfl (uX (ct_add hE hB hil hk) rfl ?_)))))))))
  rintro _ _ ⟨rfl, rfl⟩
  simp only [uV, uW]
  refine uA rfl (qL (qJ (qK (qI (uM rfl (uB (qAd rfl (hE.t rfl)) ?_))))))
  refine qL (qJ (zC rfl (zB (zI (qJ (qI (uB (uAa rfl rfl) ?_)))))))
  refine uM rfl (qL ?_)
  refine qFb 21 (.int .i64 ((ids ++ [i + 1]).length : Nat)) rfl (zW (by simp)) ?_
  refine zS (ι := LeG) (j := ⟨M ++ M2, ids ++ [i + 1], _, _, b6, g1, g2⟩) ⟨?_, ?_, ?_, hrow2.snoc hk _⟩ ?_ ?_ ?_
  ·simp; omega
  ·simp; omega
  ·show Lts _ _ (bs.take (ids ++ [i + 1]).length)
   rw [show (ids ++ [i + 1]).length = ids.length + 1 by simp]; exact hlts2
  ·show bs.length - (ids ++ [i + 1]).length < bs.length - ids.length
   simp; omega
  ·exact ⟨rfl, rfl, rfl, rfl, rfl, rfl, trivial⟩
  rw [show (ids ++ [i + 1]).length = ids.length + 1 by simp]
  exact uI
 have hk : ids.length = bs.length := by omega
 rw [List.take_of_length_le (by omega)] at hlts
 refine kK (qP (qP (zH (qJ (qK (qI (uB (uG) ?_)))))))
 refine uU (uS ?_)
 refine uA rfl (qL (qJ (zZ ?_)))
 apply kC
 ·rfl
 ·((apply Rs.cell rfl (hE.t rfl) rfl; (focus ((repeat (first | rfl | assumption | constructor)); done))); apply Rs.tmp rfl; exact Rs.nil)
 ·exact ⟨M, ids, xs, ys, g1, g2, rfl, by omega, hlts, hrow, rfl⟩
 exact uI
end
section
variable {E : Env} {Es : List Ent} {pp tb s most : Nat}
def RunId (L : List Rl) (x t id : Nat) : Prop := (t = 1 ∧ id = x) ∨ (2 ≤ t ∧ ∃ i, id = i + 1 ∧ L[i]? = some (.power x t))
inductive Rns (L : List Rl) : List (Nat × Nat) → List Nat → Prop where
 | nil : Rns L [] []
 | snoc {rs : List (Nat × Nat)} {out : List Nat} {x t id : Nat} : Rns L rs out → RunId L x t id → Rns L (rs ++ [(x, t)]) (out ++ [id])
theorem zBh {L : List Rl} (M : List Rl) {i : Nat} {r : Rl} (h : L[i]? = some r) : (L ++ M)[i]? = some r := by rw [List.getElem?_append_left (List.getElem?_eq_some_iff.1 h).1]; exact h
theorem RunId.ext {L : List Rl} (M : List Rl) {x t id : Nat} (h : RunId L x t id) : RunId (L ++ M) x t id := by
 rcases h with h | ⟨h1, i, h2, h3⟩
 ·exact .inl h
 exact .inr ⟨h1, i, h2, zBh M h3⟩
theorem Rns.ext {L : List Rl} (M : List Rl) {rs : List (Nat × Nat)} {out : List Nat} (h : Rns L rs out) : Rns (L ++ M) rs out := by
 induction h with
 | nil => exact .nil
 | snoc _ h2 ih => exact .snoc ih (h2.ext M)
theorem Rns.length {L : List Rl} {rs : List (Nat × Nat)} {out : List Nat} (h : Rns L rs out) : out.length = rs.length := by
 induction h with
 | nil => rfl
 | snoc _ _ ih => simp [ih]
theorem Rns.le {L : List Rl} {rs : List (Nat × Nat)} {out : List Nat} (h : Rns L rs out) (hx : ∀ g ∈ rs, g.1 ≤ L.length) : ∀ x ∈ out, x ≤ L.length := by
 induction h with
 | nil => simp
 | snoc _ h2 ih =>
  intro x hx'
  rcases List.mem_append.1 hx' with h | h
  ·exact ih (fun g hg => hx g (List.mem_append_left _ hg)) x h
  obtain rfl : x = _ := List.mem_singleton.1 h
  rcases h2 with ⟨_, rfl⟩ | ⟨_, i, rfl, h3⟩
  ·exact hx _ (List.mem_append_right _ (List.mem_singleton.2 rfl))
  exact (List.getElem?_eq_some_iff.1 h3).1
structure Over (L : List Rl) (out ids : List Nat) (xs ys : List Value) : Prop where
 hx : xs.take out.length = idC out
 hy : ys.take out.length = kyC (out.map (key L))
 ox : xs.drop out.length = (idC ids).drop out.length
 oy : ys.drop out.length = (kyC (ids.map (key L))).drop out.length
 le : out.length ≤ ids.length
 xl : xs.length = ids.length
 yl : ys.length = ids.length
theorem Over.start (L : List Rl) (ids : List Nat) : Over L [] ids (idC ids) (kyC (ids.map (key L))) := ⟨rfl, rfl, rfl, rfl, Nat.zero_le _, by simp [idC], by simp [kyC]⟩
theorem Over.ext {L : List Rl} (M : List Rl) {out ids : List Nat} {xs ys : List Value} (h : Over L out ids xs ys) (h1 : ∀ x ∈ out, x ≤ L.length) (h2 : ∀ x ∈ ids, x ≤ L.length) : Over (L ++ M) out ids xs ys :=
 ⟨h.hx, by rw [qIl M h1]; exact h.hy, h.ox, by rw [qIl M h2]; exact h.oy, h.le, h.xl, h.yl⟩
theorem qWk {α : Type} {xs ys : List α} {m : Nat} {x : α} (h : xs.drop m = ys.drop m) : (xs.set m x).drop (m + 1) = ys.drop (m + 1) := by
 rw [List.drop_set_of_lt (Nat.lt_succ_self m), ← List.drop_drop (i := 1) (j := m), h, List.drop_drop]
theorem Over.snoc {L : List Rl} {out ids : List Nat} {xs ys : List Value} (h : Over L out ids xs ys) (hN : out.length < ids.length) (x : Nat) :
  Over L (out ++ [x]) ids (xs.set out.length (.int .i64 (x : Nat))) (ys.set out.length (.int .u64 (key L x : Nat))) := by
 have e : (out ++ [x]).length = out.length + 1 := by simp
 refine ⟨?_, ?_, ?_, ?_, by rw [e]; omega, by simp [h.xl], by simp [h.yl]⟩
 ·rw [e, take_set h.hx (by rw [h.xl]; exact hN)]; simp [idC]
 ·rw [e, take_set h.hy (by rw [h.yl]; exact hN)]; simp [kyC]
 ·rw [e]; exact qWk h.ox
 rw [e]; exact qWk h.oy
theorem qNj {α : Type} {xs ys : List α} {m k : Nat} (h : xs.drop m = ys.drop m) (hk : m ≤ k) : xs[k]? = ys[k]? := by
 have := congrArg (fun l => l[k - m]?) h
 simp only [List.getElem?_drop] at this
 rwa [show m + (k - m) = k by omega] at this
theorem Over.key {L : List Rl} {out ids : List Nat} {xs ys : List Value} (h : Over L out ids xs ys) {k x : Nat} (hk : out.length ≤ k) (hx : ids[k]? = some x) : ys[k]? = some (.int .u64 (Eg.key L x : Nat)) := by
 rw [qNj h.oy hk]; simp [kyC, hx]
theorem Over.id {L : List Rl} {out ids : List Nat} {xs ys : List Value} (h : Over L out ids xs ys) {k x : Nat} (hk : out.length ≤ k) (hx : ids[k]? = some x) : xs[k]? = some (.int .i64 (x : Nat)) := by
 rw [qNj h.ox hk]; simp [idC, hx]
def tsum : List (Nat × Nat) → Nat
 | [] => 0
 | (_, t) :: l => t + tsum l
theorem qUe (a b : List (Nat × Nat)) : tsum (a ++ b) = tsum a + tsum b := by
 induction a with
 | nil => simp [tsum]
 | cons g a ih => obtain ⟨x, t⟩ := g; simp only [List.cons_append, tsum, ih]; omega
theorem qEz (a : List (Nat × Nat)) : (flat a).length = tsum a := by
 induction a with
 | nil => rfl
 | cons g a ih => obtain ⟨x, t⟩ := g; simp [flat, tsum, ih]
theorem zBk {a : List (Nat × Nat)} (h : ∀ g ∈ a, 1 ≤ g.2) : a.length ≤ tsum a := by
 induction a with
 | nil => exact Nat.le_refl _
 | cons g a ih =>
  have := ih (fun g hg => h g (List.mem_cons_of_mem _ hg))
  have := h g List.mem_cons_self
  obtain ⟨x, t⟩ := g
  simp only [tsum, List.length_cons] at *; omega
theorem flat_mem {a : List (Nat × Nat)} {g : Nat × Nat} (h : g ∈ a) (h1 : 1 ≤ g.2) : g.1 ∈ flat a := by
 induction a with
 | nil => simp at h
 | cons x a ih =>
  rw [flat]
  rcases List.mem_cons.1 h with rfl | h
  ·exact List.mem_append_left _ (List.mem_replicate.2 ⟨by omega, rfl⟩)
  exact List.mem_append_right _ (ih h)
structure RuG where
 k : Nat
 M : List Ent
 out : List Nat
 xs : List Value
 ys : List Value
 id : Nat
theorem ct_runs (hE : Seat E) (hB : Base E.w0) {g1 g2 c1 c2 : Nat} {ids : List Nat} (hn : ids.length ≤ 65536) (hids : ∀ x ∈ ids, 1 ≤ x ∧ x ≤ Es.length) (hlen : ∀ A x t B, ids = A ++ List.replicate t x ++ B → (txt (rls Es) x).length * t ≤ kH) (hroom : Es.length + ids.length ≤ most) :
  Ct E 51 [uPt pp, .agg #[.slice (some ⟨g1, 0, none⟩) ids.length c1, .slice (some ⟨g2, 0, none⟩) ids.length c2]] [cells pp [uPt s, uPt tb] 106, tabP tb s (rls Es), zR s most Es, sl (some ⟨g1, 0, none⟩) c1 37 1 ids.length (idC ids), sl (some ⟨g2, 0, none⟩) c2 80 1 ids.length (kyC (ids.map (key (rls Es))))]
   (fun v Q => ∃ M out, v = .tuple #[.agg #[.slice (some ⟨g1, 0, none⟩) out.length c1, .slice (some ⟨g2, 0, none⟩) out.length c2], .nilIface] ∧ M.length + out.length ≤ ids.length ∧ Rns (rls (Es ++ M)) (kJ ids) out ∧
    Q = [cells pp [uPt s, uPt tb] 106, tabP tb s (rls (Es ++ M)), zR s most (Es ++ M), sl (some ⟨g1, 0, none⟩) c1 37 1 out.length (idC out), sl (some ⟨g2, 0, none⟩) c2 80 1 out.length (kyC (out.map (key (rls (Es ++ M)))))]) := by
 refine zO (hE.fn Tryz.func51) rfl rfl rfl (fun R => ?_)
 simp only [qAc, uV, uW]
 refine qK (qI (uU ?_))
 refine qAs rfl (fun b3 => ?_)
 refine uU (kF (hE.t rfl) (fun b4 => ?_))
 refine uA rfl (qL (qJ (qK ?_)))
 refine uN 8 ([cells b3 [.slice (some ⟨g1, 0, none⟩) ids.length c1, .slice (some ⟨g2, 0, none⟩) ids.length c2] 109]) ?_
 refine uT 0 rfl (uBf rfl) ?_
 refine uT 1 rfl (uY) ?_
 refine uT 2 rfl (qBq 0 rfl rfl (hE.t rfl) rfl (Nat.zero_le _)) ?_
 refine uT 3 rfl (uBf rfl) ?_
 refine uT 4 rfl (uY) ?_
 refine uT 5 rfl (qBq 0 rfl rfl (hE.t rfl) rfl (Nat.zero_le _)) ?_
 refine uT 6 rfl (qAh (hE.t rfl) rfl rfl) ?_
 apply qAm 7 rfl (by kernel_rfl) rfl
 refine kF (hE.t rfl) (fun b6 => ?_)
 refine uE ?_
 apply qDt rfl (by kernel_rfl) (by kernel_rfl) rfl
 refine uS ?_
 refine qJ (qK (qI (uA rfl (qL (qJ (qK (qK (qI (uB (uBf rfl) ?_)))))))))
 refine uL ?_
 refine uX (ct_Runs hE (by omega)) rfl ?_
 rintro _ _ ⟨rp, rc, rfl, rfl⟩
 simp only [uV, uW]
 have hfl := qDd ids
 have hpos := qEq ids
 have hrl := qGg ids
 generalize kJ ids = rs at *
 refine uB (uBl rfl) ?_
 refine uM rfl (qL (qJ (zK ?_)))
 refine qAe (fun x : RuG => [(0, uPt pp), (3, uPt b3), (4, uPt b4), (6, uPt b6), (7, .int .i64 (tsum (rs.take x.k) : Nat)), (22, .slice rp rs.length rc), (23, .int .i64 (rs.length : Nat)), (24, .int .i64 (x.k : Nat))]) (fun x => [cells pp [uPt s, uPt tb] 106, tabP tb s (rls (Es ++ x.M)), zR s most (Es ++ x.M), cells b6 [.slice (some ⟨g1, 0, none⟩) x.k c1, .slice (some ⟨g2, 0, none⟩) x.k c2] 109, sl (some ⟨g1, 0, none⟩) c1 37 1 ids.length x.xs, sl (some ⟨g2, 0, none⟩) c2 80 1 ids.length x.ys, cells b3 [.slice (some ⟨g1, 0, none⟩) ids.length c1, .slice (some ⟨g2, 0, none⟩) ids.length c2] 109, cells b4 [.slice none 0 0, .slice none 0 0] 109, sl rp rc 170 2 rs.length (gsC rs), R]) (fun x => rs.length - x.k)
  (fun x => x.k ≤ rs.length ∧ x.out.length = x.k ∧ x.M.length + x.k ≤ tsum (rs.take x.k) ∧ Rns (rls (Es ++ x.M)) (rs.take x.k) x.out ∧ Over (rls (Es ++ x.M)) x.out ids x.xs x.ys) ⟨0, [], [], idC ids, kyC (ids.map (key (rls Es))), 0⟩ ?_ ?_ ?_ ?_
 ·refine ⟨Nat.zero_le _, rfl, Nat.le_refl _, .nil, ?_⟩
  show Over (rls (Es ++ [])) _ _ _ _
  rw [List.append_nil]; exact Over.start _ _
 ·exact ⟨rfl, rfl, rfl, rfl, rfl, rfl, rfl, rfl, trivial⟩
 ·rw [List.append_nil]
  exact uI
 rintro ⟨k, M, out, xs, ys, _⟩ ⟨hk, hok, hM, hrn, hov⟩
 simp only at hk hok hM hrn hov ⊢
 refine qK (qI (uB (y_lt rfl rfl) ?_))
 refine qL (qJ (qK ?_))
 refine zD rfl (fun hlt => ?_) (fun hlt => ?_)
 ·have hkn : k < rs.length := by omega
  obtain ⟨⟨x, t⟩, hx⟩ : ∃ x, rs[k]? = some x := ⟨_, List.getElem?_eq_getElem hkn⟩
  have eT : rs.take (k + 1) = rs.take k ++ [(x, t)] := by rw [List.take_add_one, hx]; rfl
  have eS : tsum (rs.take (k + 1)) = tsum (rs.take k) + t := by rw [eT, qUe]; rfl
  have hmem : (x, t) ∈ rs := List.mem_of_getElem? hx
  obtain ⟨ht1, htn⟩ := hpos _ hmem
  simp only at ht1 htn
  have hids' : ids = flat (rs.take k) ++ List.replicate t x ++ flat (rs.drop (k + 1)) := by
   have e : rs = rs.take (k + 1) ++ rs.drop (k + 1) := (List.take_append_drop _ _).symm
   rw [← hfl]
   conv => lhs; rw [e, qBt, eT, qBt]
   simp [flat]
  have hsum : tsum (rs.take k) + t ≤ ids.length := by rw [hids']; simp [qEz]
  have hat : ids[tsum (rs.take k)]? = some x := by
   rw [hids', List.append_assoc, List.getElem?_append_right (by rw [qEz]; exact Nat.le_refl _), qEz, Nat.sub_self, List.getElem?_append_left (by simp; omega), List.getElem?_replicate, if_pos (by omega)]
  have hkt : k ≤ tsum (rs.take k) := by
   have := zBk (a := rs.take k) (fun g hg => (hpos g (List.mem_of_mem_take hg)).1)
   rw [List.length_take] at this; omega
  obtain ⟨hx1, hx2⟩ := hids x (List.mem_of_getElem? hat)
  obtain ⟨i, rfl⟩ : ∃ i, x = i + 1 := ⟨x - 1, by omega⟩
  have hlx := hlen _ _ _ _ hids'
  refine qDj (p := sl rp rc 170 2 rs.length (gsC rs)) uK (fun _ h => qAn h (by omega)) ?_
  rintro ⟨g3, rfl⟩
  refine qDj (p := zR s most (Es ++ M)) uK (fun _ h => qAb h) ?_
  rintro ⟨hwf, htx, -, -⟩
  have f0 : (gsC rs)[0 + ((k : Nat) : Int).toNat * 2]? = some (.int .i64 ((i + 1 : Nat) : Int)) := by rw [show 0 + ((k : Nat) : Int).toNat * 2 = k * 2 by omega]; exact (qMx hx).1
  have f1 : (gsC rs)[0 + ((k : Nat) : Int).toNat * 2 + 1]? = some (.int .i64 (t : Nat)) := by rw [show 0 + ((k : Nat) : Int).toNat * 2 + 1 = k * 2 + 1 by omega]; exact (qMx hx).2
  have f2 : ys[((tsum (rs.take k) : Nat) : Int).toNat]? = some (.int .u64 (key (rls (Es ++ M)) (i + 1) : Nat)) := hov.key (by omega) (by rw [Int.toNat_natCast]; exact hat)
  refine zB (qJ (qK (zK (qK (qI (uB (uAi rfl rfl) ?_))))))
  refine uB (uG) ?_
  refine uU (kF (hE.t rfl) (fun b9 => ?_))
  refine uU (uS ?_)
  refine qL (qJ (qK (qBj (by kernel_rfl) ?_)))
  refine uB (uBf rfl) ?_
  refine uL ?_
  refine uB (uBf rfl) ?_
  refine uL ?_
  refine uM rfl (uB (uAj rfl rfl) ?_)
  refine uL ?_
  refine uA rfl (uA rfl (qL (qJ ?_)))
  refine qEm (fun y : RuG => [(0, uPt pp), (3, uPt b3), (4, uPt b4), (6, uPt b6), (7, .int .i64 (tsum (rs.take k) : Nat)), (9, uPt b9), (10, .int .i64 (y.id : Nat)), (11, .int .u64 (key (rls (Es ++ y.M)) y.id : Nat)), (22, .slice (some ⟨g3, 0, none⟩) rs.length rc), (23, .int .i64 (rs.length : Nat)), (24, .int .i64 (k : Nat))]) (fun y => [cells pp [uPt s, uPt tb] 106, tabP tb s (rls (Es ++ y.M)), zR s most (Es ++ y.M), cells b9 [.int .i64 ((i + 1 : Nat) : Int), .int .i64 (t : Nat)] 170, cells b6 [.slice (some ⟨g1, 0, none⟩) k c1, .slice (some ⟨g2, 0, none⟩) k c2] 109, sl (some ⟨g1, 0, none⟩) c1 37 1 ids.length xs, sl (some ⟨g2, 0, none⟩) c2 80 1 ids.length ys, cells b3 [.slice (some ⟨g1, 0, none⟩) ids.length c1, .slice (some ⟨g2, 0, none⟩) ids.length c2] 109, cells b4 [.slice none 0 0, .slice none 0 0] 109, sl (some ⟨g3, 0, none⟩) rc 170 2 rs.length (gsC rs), R]) (fun y => y.M.length + k + 1 ≤ tsum (rs.take k) + t ∧ RunId (rls (Es ++ y.M)) (i + 1) t y.id ∧ ∃ M2, y.M = M ++ M2) ?_ ?_
  ·refine qK (qI ?_)
   refine uB (uBf rfl) ?_
   refine uL ?_
   refine uB (y_gt rfl rfl) ?_
   refine qL (qJ ?_)
   refine zD rfl (fun hgt => ?_) (fun hgt => ?_)
   ·have hEi : (Es ++ M)[i]? = some Es[i] := by rw [List.getElem?_append_left (by omega), List.getElem?_eq_getElem (by omega)]
    have hlt2 : (Es[i]).t.length * t ≤ kH := by rw [htx i _ hEi, kG, qAz _ (by rw [zQ]; omega)]; exact hlx
    have hr : (Es ++ M).length < most := by simp; omega
    have ht2 : 2 ≤ t := by omega
    refine qK (qI (uA rfl (qL (qJ (qK (qK ?_))))))
    refine uH ([cells pp [uPt s, uPt tb] 106, cells b9 [.int .i64 ((i + 1 : Nat) : Int), .int .i64 (t : Nat)] 170]) ?_
    refine uD 0 rfl (qB rfl) ?_
    refine uD 1 rfl (zA rfl) ?_
    refine uD 2 rfl (uBf rfl) ?_
    refine uD 3 rfl (uY) ?_
    refine uD 4 rfl (qB rfl) ?_
    refine uD 5 rfl (uBf rfl) ?_
    refine uD 6 rfl (uY) ?_
    apply kM 7 rfl (by kernel_rfl) rfl
    refine uC (qPx hE hEi ht2 hlt2 hr) rfl ?_
    rintro _ _ ⟨M2, id, rfl, hM2, hid, hrl, rfl⟩
    obtain ⟨j, rfl⟩ : ∃ j, id = j + 1 := ⟨id - 1, by omega⟩
    rw [Nat.add_sub_cancel] at hrl
    have hjl : j < (Es ++ M ++ M2).length := by have := (List.getElem?_eq_some_iff.1 hrl).1; rwa [zQ] at this
    simp only [uV, uW]
    refine uE ?_
    refine uD 8 rfl (qB rfl) ?_
    refine uD 9 rfl (qU rfl rfl) ?_
    refine uD 10 rfl (qU rfl rfl) ?_
    refine uD 11 rfl (qC rfl) ?_
    refine uD 12 rfl (qC rfl) ?_
    refine qDr (by kernel_rfl) ?_
    refine qJ ?_
    refine qCv (kD (p := tabP tb s (rls (Es ++ M))) (p' := tabP tb s (rls (Es ++ M ++ M2))) uK (fun _ h => by rw [kG (Es ++ M)]; exact qGl _ h)) ?_
    rw [List.append_assoc] at hjl hrl ⊢
    refine qK (qI (uM rfl (uB (qAd rfl (hE.t rfl)) ?_)))
    refine qL (qJ (zC rfl (zB (qJ (qK (qI (uM rfl (uB (zA rfl) ?_))))))))
    refine uB (uBf rfl) ?_
    refine uL ?_
    refine uM rfl (uX (zBf hE hB hjl) rfl ?_)
    rintro _ _ ⟨rfl, rfl⟩
    simp only [uV, uW]
    refine uM rfl (uB (qU rfl rfl) (uB (qU rfl rfl) (uA rfl (uA rfl (qL (qJ (qK (qI (uM rfl (uB (qAd rfl (hE.t rfl)) ?_))))))))))
    refine qL (qJ (zC rfl (zB ?_)))
    refine qAp (ι := RuG) ⟨0, M ++ M2, [], [], [], j + 1⟩ ⟨by simp; omega, .inr ⟨ht2, j, rfl, hrl⟩, M2, rfl⟩ ⟨rfl, rfl, rfl, rfl, rfl, rfl, rfl, rfl, rfl, rfl, rfl, trivial⟩ ?_
    exact uI
   refine zB ?_
   refine qAp (ι := RuG) ⟨0, M, [], [], [], i + 1⟩ ⟨by show M.length + k + 1 ≤ _; omega, .inl ⟨by omega, rfl⟩, [], (List.append_nil M).symm⟩ ⟨rfl, rfl, rfl, rfl, rfl, rfl, rfl, rfl, rfl, rfl, rfl, trivial⟩ ?_
   exact uI
  rintro ⟨_, M', _, _, _, id⟩ ⟨hM', hrid, M2, hM2⟩
  simp only at hM' hrid hM2 ⊢
  subst hM2
  have hle1 : ∀ y ∈ ids, y ≤ (rls (Es ++ M)).length := fun y hy => by have := (hids y hy).2; rw [zQ]; simp; omega
  have hle2 : ∀ y ∈ out, y ≤ (rls (Es ++ M)).length := hrn.le (fun g hg => by
   have hg' : g.1 ∈ ids := by rw [← hfl]; exact flat_mem (List.mem_of_mem_take hg) (hpos g (List.mem_of_mem_take hg)).1
   exact hle1 _ hg')
  have hov2 : Over (rls (Es ++ (M ++ M2))) out ids xs ys := by rw [← List.append_assoc, kG (Es ++ M)]; exact hov.ext _ hle2 hle1
  have hrn2 : Rns (rls (Es ++ (M ++ M2))) (rs.take (k + 1)) (out ++ [id]) := by rw [eT]; exact .snoc (by rw [← List.append_assoc, kG (Es ++ M)]; exact hrn.ext _) hrid
  have hki : k < ids.length := by omega
  subst hok
  refine qK (qI (uB (uBf rfl) ?_))
  refine uL ?_
  refine uM rfl (uU ?_)
  refine qV (hE.t rfl) (hE.t rfl) rfl rfl rfl (fun b69 => ?_)
  refine uU ?_
  apply qFh (hE.t rfl) (hE.t rfl) rfl rfl
  ·exact uK
  ·exact uK
  ·rfl
  ·rfl
  ·omega
  refine uB (uBf rfl) ?_
  refine uU (uS ?_)
  refine qL (qJ (qK (qI (uB (uBf rfl) ?_))))
  refine uL ?_
  refine uM rfl (uU ?_)
  refine qV (hE.t rfl) (hE.t rfl) rfl rfl rfl (fun b75 => ?_)
  refine uU ?_
  apply qFh (hE.t rfl) (hE.t rfl) rfl rfl
  ·exact uK
  ·exact uK
  ·rfl
  ·rfl
  ·omega
  refine uB (uBf rfl) ?_
  refine uU (uS ?_)
  refine qL (qJ (qI (uM rfl (uB (uBf rfl) ?_))))
  refine uL ?_
  refine uB (uAa rfl rfl) ?_
  refine uA rfl (qL (zI (qJ (qI (uB (uAa rfl rfl) ?_)))))
  refine uM rfl (qL ?_)
  simp only [Nat.mul_one, zX]
  refine qFb 24 (.int .i64 ((out.length + 1 : Nat) : Int)) rfl (zW (by omega)) ?_
  refine qFb 7 (.int .i64 (tsum (rs.take (out.length + 1)) : Nat)) rfl (zW (by omega)) ?_
  refine zS (ι := RuG) (j := ⟨out.length + 1, M ++ M2, out ++ [id], _, _, 0⟩) ⟨hkn, by simp, by show (M ++ M2).length + (out.length + 1) ≤ tsum (rs.take (out.length + 1)); rw [eS]; omega, hrn2, hov2.snoc hki _⟩ ?_ ?_ ?_
  ·show rs.length - (out.length + 1) < rs.length - out.length; omega
  ·exact ⟨rfl, rfl, rfl, rfl, rfl, rfl, rfl, rfl, trivial⟩
  exact uI
 obtain rfl : k = rs.length := by omega
 rw [List.take_of_length_le (Nat.le_refl _)] at hrn hM
 have hts : tsum rs = ids.length := by rw [← qEz, hfl]
 rw [← hok] at hM
 refine kK (qP (qP (zH (qJ (qK (qI (uB (uG) ?_)))))))
 refine uU (uS ?_)
 refine uA rfl (qL (qJ (zZ ?_)))
 apply kC
 ·rfl
 ·((apply Rs.cell rfl (hE.t rfl) rfl; (focus ((repeat (first | rfl | assumption | constructor)); done))); apply Rs.tmp rfl; exact Rs.nil)
 ·exact ⟨M, out, by rw [hok]; rfl, by omega, hrn, rfl⟩
 refine kE (kD (p := sl (some ⟨g1, 0, none⟩) c1 37 1 ids.length xs) (p' := sl (some ⟨g1, 0, none⟩) c1 37 1 out.length (idC out)) uK (qEj hov.le (by rw [Nat.mul_one]; exact hov.hx) (by simp))) ?_
 refine kE (kD (p := sl (some ⟨g2, 0, none⟩) c2 80 1 ids.length ys) (p' := sl (some ⟨g2, 0, none⟩) c2 80 1 out.length (kyC (out.map (key (rls (Es ++ M)))))) uK (qEj hov.le (by rw [Nat.mul_one]; exact hov.hy) (by simp))) ?_
 exact uI
end
section
inductive Prs (L : List Rl) (ids : List Nat) : List Nat → Nat → List Nat → Prop where
 | nil : Prs L ids [] 0 []
 | snoc {js out : List Nat} {at' i x y j : Nat} : Prs L ids js at' out → at' ≤ i → ids[i]? = some x → ids[i + 1]? = some y → L[j]? = some (.pair x y) → Prs L ids (js ++ [i]) (i + 2) (out ++ (ids.drop at').take (i - at') ++ [j + 1])
theorem Prs.ext {L : List Rl} (M : List Rl) {ids js out : List Nat} {a : Nat} (h : Prs L ids js a out) : Prs (L ++ M) ids js a out := by
 induction h with
 | nil => exact .nil
 | snoc _ h1 h2 h3 h4 ih => exact .snoc ih h1 h2 h3 (zBh M h4)
theorem Prs.length {L : List Rl} {ids js out : List Nat} {a : Nat} (h : Prs L ids js a out) : out.length + js.length = a ∧ a ≤ ids.length := by
 induction h with
 | nil => simp
 | snoc _ h1 h2 h3 h4 ih =>
  have := (List.getElem?_eq_some_iff.1 h3).1
  simp; omega
theorem Prs.le {L : List Rl} {ids js out : List Nat} {a : Nat} (h : Prs L ids js a out) (hx : ∀ x ∈ ids, x ≤ L.length) : ∀ x ∈ out, x ≤ L.length := by
 induction h with
 | nil => simp
 | snoc _ h1 h2 h3 h4 ih =>
  intro x hx'
  rcases List.mem_append.1 hx' with h | h
  ·rcases List.mem_append.1 h with h | h
   ·exact ih x h
   exact hx x (List.mem_of_mem_drop (List.mem_of_mem_take h))
  obtain rfl : x = _ := List.mem_singleton.1 h
  exact (List.getElem?_eq_some_iff.1 h4).1
theorem qFy : ∀ (us xs : List Value) (m : Nat), m + us.length ≤ xs.length → zX xs m us = xs.take m ++ us ++ xs.drop (m + us.length)
 | [], xs, m, _ => by simp [zX]
 | u :: us, xs, m, h => by
  rw [zX, qFy us _ _ (by simp at h ⊢; omega)]
  have hm : m < xs.length := by simp at h; omega
  rw [take_set rfl hm, List.drop_set_of_lt (by omega), List.length_cons, show m + 1 + us.length = m + (us.length + 1) by omega]
  simp
theorem qFu (a b : List Nat) : idC (a ++ b) = idC a ++ idC b := by simp [idC]
theorem qXn (a b : List Nat) : kyC (a ++ b) = kyC a ++ kyC b := by simp [kyC]
theorem qHf {α : Type} {xs ys : List α} {m a : Nat} (h : xs.drop m = ys.drop m) (hm : m ≤ a) : xs.drop a = ys.drop a := by
 have := congrArg (List.drop (a - m)) h
 simpa [List.drop_drop, show m + (a - m) = a by omega] using this
theorem zBq {f : List Nat → List Value} (hf : ∀ l, f l = l.map (fun x => (f [x]).headD default)) {ids : List Nat} {xs : List Value} {m a i : Nat} (ox : xs.drop m = (f ids).drop m) (hm : m ≤ a) : (xs.drop a).take (i - a) = f ((ids.drop a).take (i - a)) := by
 rw [qHf ox hm, hf ids, hf, ← List.map_drop, ← List.map_take]
theorem qSq {out seg : List Value} {xs : List Value} (hx : xs.take out.length = out) (hl : out.length + seg.length ≤ xs.length) : (zX xs out.length seg).take (out.length + seg.length) = out ++ seg := by
 rw [qFy _ _ _ hl, hx, List.take_append_of_le_length (by simp), List.take_of_length_le (by simp)]
theorem qTf {m : Nat} {seg xs : List Value} (hl : m + seg.length ≤ xs.length) : (zX xs m seg).drop (m + seg.length) = xs.drop (m + seg.length) := by
 rw [qFy _ _ _ hl, List.drop_append_of_le_length (by simp; omega), List.drop_of_length_le (by simp; omega), List.nil_append]
theorem Over.seg {L : List Rl} {out ids : List Nat} {xs ys : List Value} (h : Over L out ids xs ys) {a i : Nat} (ha : out.length ≤ a) (hi : a ≤ i) (hn : i ≤ ids.length) :
  Over L (out ++ (ids.drop a).take (i - a)) ids (zX xs out.length ((xs.drop a).take (i - a))) (zX ys out.length ((ys.drop a).take (i - a))) := by
 have hxl := h.xl
 have hyl := h.yl
 have s1 : (xs.drop a).take (i - a) = idC ((ids.drop a).take (i - a)) := zBq (f := idC) (fun l => rfl) h.ox ha
 have s2 : (ys.drop a).take (i - a) = kyC (((ids.drop a).take (i - a)).map (Eg.key L)) := by
  rw [qHf h.oy ha]; simp [kyC, List.map_drop, List.map_take]
 have l0 : ((ids.drop a).take (i - a)).length = i - a := by simp; omega
 rw [s1, s2]
 generalize (ids.drop a).take (i - a) = sg at *
 have l1 : (idC sg).length = sg.length := by simp [idC]
 have l2 : (kyC (sg.map (Eg.key L))).length = sg.length := by simp [kyC]
 have e : (out ++ sg).length = out.length + sg.length := List.length_append
 have o1 : (idC out).length = out.length := by simp [idC]
 have o2 : (kyC (out.map (Eg.key L))).length = out.length := by simp [kyC]
 refine ⟨?_, ?_, ?_, ?_, by omega, by rw [qM, h.xl], by rw [qM, h.yl]⟩
 ·have := qSq (out := idC out) (seg := idC sg) (xs := xs) (by rw [o1]; exact h.hx) (by omega)
  rw [o1, l1] at this; rw [e, this, qFu]
 ·have := qSq (out := kyC (out.map (Eg.key L))) (seg := kyC (sg.map (Eg.key L))) (xs := ys) (by rw [o2]; exact h.hy) (by omega)
  rw [o2, l2] at this; rw [e, this, List.map_append, qXn]
 ·have := qTf (m := out.length) (seg := idC sg) (xs := xs) (by omega)
  rw [l1] at this; rw [e, this]; exact qHf h.ox (by omega)
 have := qTf (m := out.length) (seg := kyC (sg.map (Eg.key L))) (xs := ys) (by omega)
 rw [l2] at this; rw [e, this]; exact qHf h.oy (by omega)
theorem qLi {g c a i n : Nat} (hc : n ≤ c) (ha : a ≤ i) (hi : i ≤ n) : i - a = 0 ∨ (if c = a then (⟨g, 0, none⟩ : Addr) else Addr.add ⟨g, 0, none⟩ (a * 1)) = ⟨g, a * 1, none⟩ := by
 by_cases h : c = a
 ·left; omega
 right; rw [if_neg h, addr_add]
theorem qTb (l : List Nat) : qCk (idC l) = true := by
 induction l with
 | nil => rfl
 | cons x l ih => exact ih
theorem qSb (l : List Nat) : qCk (kyC l) = true := by
 induction l with
 | nil => rfl
 | cons x l ih => exact ih
end
end Go.Proofs.YtkkjjablmmmmkaaGreatDoor
namespace Sl
open Go Go.RowKit
variable {E : Env} {n : Nat} {L : Fr} {S : List HP} {ty : TypeId} {pos : String} {af : Array Edge} {d : Option Nat} {gd : Option (Nat × Bool)}
theorem qDe {x : Operand} {t e : TypeId} {q : Addr} {len cap : Nat} {s b sz : Nat} {zs : List Value} {lo hi : Option Operand} {l h : Nat} (hx : ev L x = some (.slice (some q) len cap)) (ht : E.tab t = some ⟨.slice e s b, sz, zs⟩)
  (hlo : match lo with | none => l = 0 | some y => ∃ k, ev L y = some (.int k (l : Nat))) (hhi : match hi with | none => h = len | some y => ∃ k, ev L y = some (.int k (h : Nat))) (h1 : l ≤ h) (h2 : h ≤ cap) :
  Yl E n L S ⟨d, .slice t x lo hi none, ty, pos, af, gd⟩ (.slice (some (if cap = l then q else q.add (l * s))) (h - l) (cap - l)) := fun a w g hs => by
 have := qFp (S := S) (d := d) (ty := ty) (pos := pos) (af := af) (gd := gd) (lo := lo) (hi := hi) (l := l) (h := h) hx ht hlo hhi h1 h2 a w g hs
 rw [this]
 split <;> rfl
end Sl
