import Derived.Test.YtlleicanafioaaaDoorQ04
set_option linter.all false
set_option maxHeartbeats 1000000
namespace Go.Proofs.YtlleicanafioaaaDoor
open Go Go.RowKit Sl Eg
set_option maxRecDepth 10000
variable {E : Env} {Es : List Ent} {tb s most : Nat}
theorem qOb {L : List Rl} {K : List Bool} {j : Nat} {b : Bool} (h : K[j]? = some b) (x : Nat) (hx : x = j * 3 + 2) : (qBr L K 0)[x]? = some (.bool b) := by
 subst hx
 rw [qOa h 2 (by omega)]
 cases b <;> rfl
theorem qMy {K : List Bool} (h : 0 < K.length) (h0 : K[0]? ≠ some true) : K[0]? = some false := by
 have h1 : K[0]? = some K[0] := List.getElem?_eq_getElem h
 rw [h1] at h0 ⊢
 cases h2 : K[0] with
 | false => rfl
 | true => rw [h2] at h0; exact absurd rfl h0
theorem ids_get (T : List Nat) (x k : Nat) (hk : k = T.length) : ((T ++ [x]).map fun y => Value.int .i64 (y : Nat))[k]? = some (.int .i64 (x : Nat)) := by
 subst hk; simp
structure RowG where
 T : List Nat
 K : List Bool
 p : Option Addr
 c : Nat
structure RowOk (i N : Nat) (T : List Nat) (K : List Bool) : Prop where
 klen : K.length = N
 k0 : K[0]? = some false
 dec : T.Pairwise (· > ·)
 unk : ∀ x ∈ T, K[x]? = some false ∧ 1 ≤ x ∧ x ≤ i + 1
 top : (T = [] ∧ K[i + 1]? = some true) ∨ T.head? = some (i + 1)

theorem qRk {L : List Rl} (K : List Bool) (j : Nat) (h : j < K.length) (x : Nat) (hx : x = j * 3) : kC (qBr L K 0) x (zS (.agg #[.int .u64 (key L j : Nat), .int .i64 (lvl L j), .bool true])) = qBr L (K.set j true) 0 := by
 subst hx
 rw [qUc h 0, Nat.zero_add]
 rfl
theorem left_le {r : Rl} {m : Nat} (h : r.ok (m + 1)) : r.left ≤ m ∧ r.right ≤ m := by
 cases r with
 | letter b => exact ⟨Nat.zero_le _, Nat.zero_le _⟩
 | pair l r => obtain ⟨_, _, _, _⟩ := h; exact ⟨by simp only [Rl.left]; omega, by simp only [Rl.right]; omega⟩
 | power x k => obtain ⟨_, _, _⟩ := h; exact ⟨by simp only [Rl.left]; omega, Nat.zero_le _⟩
theorem qKy {i N x y : Nat} {T : List Nat} {K : List Bool} (h : RowOk i N (T ++ [x]) K) (hy : K[y]? = some false) (hy1 : 1 ≤ y) (hyx : y < x) : RowOk i N (T ++ [x] ++ [y]) K := by
 have hx := h.unk x (by simp)
 refine ⟨h.klen, h.k0, ?_, ?_, ?_⟩
 ·rw [List.pairwise_append]
  refine ⟨h.dec, by simp, fun a ha b hb => ?_⟩
  obtain rfl : b = y := by simpa using hb
  rcases List.mem_append.1 ha with ha' | ha'
  ·have := (List.pairwise_append.1 h.dec).2.2 a ha' x (by simp)
   omega
  obtain rfl : a = x := by simpa using ha'
  exact hyx
 ·intro z hz
  rcases List.mem_append.1 hz with hz' | hz'
  ·exact h.unk z hz'
  obtain rfl : z = y := by simpa using hz'
  exact ⟨hy, hy1, by omega⟩
 right
 rcases h.top with ⟨h0, _⟩ | h0
 ·simp at h0
 cases T with
 | nil => simpa using h0
 | cons a T => simpa using h0
theorem qJz {i N x : Nat} {T : List Nat} {K : List Bool} (h : RowOk i N (T ++ [x]) K) : RowOk i N T (K.set x true) := by
 have hx := h.unk x (by simp)
 have hxl : x < K.length := (List.getElem?_eq_some_iff.1 hx.1).1
 refine ⟨by rw [List.length_set]; exact h.klen, by rw [List.getElem?_set_ne (by omega)]; exact h.k0, (List.pairwise_append.1 h.dec).1, ?_, ?_⟩
 ·intro z hz
  have hzx := (List.pairwise_append.1 h.dec).2.2 z hz x (by simp)
  have := h.unk z (by simp [hz])
  refine ⟨?_, this.2⟩
  rw [List.getElem?_set_ne (by omega)]; exact this.1
 rcases h.top with ⟨h0, _⟩ | h0
 ·simp at h0
 cases T with
 | nil =>
  obtain rfl : x = i + 1 := by simpa using h0
  exact .inl ⟨rfl, by simp [hxl]⟩
 | cons a T => exact .inr (by simpa using h0)
theorem ct_row (hE : Seat E) (hB : Base E.w0) {i : Nat} (hi : i < Es.length) :
  Ct E 58 [uPt tb, .int .i64 ((i + 1 : Nat) : Int)] [tabP tb s (rls Es), zU s most Es]
   (fun v Q => v = .tuple #[.agg #[.int .u64 (key (rls Es) (i + 1) : Nat), .int .i64 (lvl (rls Es) (i + 1)), .bool true], .nilIface] ∧ Q = [tabP tb s (rls Es), zU s most Es]) := by
 refine qAy (p := zU s most Es) uK (fun _ h => qAb h) (fun hsay => ?_)
 obtain ⟨hwf, htx, hmost, hfit⟩ := hsay
 have hlmx : (rls Es).length ≤ qAw := by rw [zT]; exact Nat.le_trans hfit hmost
 have hlen := hlmx
 rw [zT] at hlen
 unfold qAw at hlen
 refine qQi (ι := { x : List Bool × Option Addr × Nat // x.1.length ≤ (rls Es).length + 1 ∧ x.1[0]? ≠ some true }) (ps := fun x => [cells tb [uPt s, .slice x.1.2.1 x.1.1.length x.1.2.2] 122, sl x.1.2.1 x.1.2.2 125 3 x.1.1.length (qBr (rls Es) x.1.1 0)])
  (fun k ⟨K, p, c, h1, h2, h3⟩ => ⟨⟨(K, p, c), h1, h2⟩, h3⟩) ?_
 rintro ⟨⟨K, p, c⟩, hK, hK0⟩
 simp only at hK hK0 ⊢
 rw [zT] at hK
 refine zR (hE.fn Tryd.func58) rfl rfl rfl (fun R => ?_)
 simp only [qAo, uV, uW]
 refine qN (qL (uU (kI (hE.t rfl) (fun b4 => ?_))))
 refine uA rfl (qO (qM (qN (qN (qL (uM rfl (uB (qBa rfl (hE.t rfl)) ?_)))))))
 refine uM rfl (kT rfl rfl (uM rfl (kT rfl rfl (uB (zD rfl) ?_))))
 refine kT rfl rfl (uB (uBf rfl) ?_)
 refine kT rfl rfl (uL ?_)
 refine kT rfl rfl (uB (qBa rfl (hE.t rfl)) ?_)
 refine uB (zB rfl rfl) ?_
 refine qO (qM (zG rfl (zF (qM (qN (qN (qL (uM rfl (uB (y_lt rfl rfl) ?_)))))))))
 refine uM rfl ?_
 refine qAn 23 rfl (fun hs => ?_) (fun hs => ?_)
 ·exact absurd hs (by omega)
 refine kT rfl rfl (uM rfl (kT rfl rfl (uM rfl (kT rfl rfl (uB (zD rfl) ?_)))))
 refine kT rfl rfl (uB (uBf rfl) ?_)
 refine kT rfl rfl (uL ?_)
 refine kT rfl rfl (uX (qSu hE) rfl ?_)
 rintro _ _ ⟨rfl, rfl⟩
 simp only [uV, uW]
 refine kT rfl rfl (uB (y_gt rfl rfl) ?_)
 refine uB (zB rfl rfl) ?_
 refine qO (qM ?_)
 refine zH rfl (fun hs2 => ?_) (fun hs2 => ?_)
 ·exact absurd hs2 (by omega)
 refine zF (qM ?_)
 refine qIe (fun x : List Bool × Nat × Nat => [(0, uPt tb), (1, .int .i64 ((i + 1 : Nat) : Int)), (4, uPt b4), (5, .nilIface)]) (fun x => [cells tb [uPt s, .slice (some ⟨x.2.1, 0, none⟩) x.1.length x.2.2] 122, sl (some ⟨x.2.1, 0, none⟩) x.2.2 125 3 x.1.length (qBr (rls Es) x.1 0), cells b4 [.int .u64 0, .int .i64 0, .bool false] 125, zU s most Es, R]) (fun x => x.1.length ≤ Es.length + 1 ∧ i + 1 < x.1.length ∧ x.1[0]? = some false) ?_ ?_
 ·refine qN (qL ?_)
  refine uM rfl (uM rfl (uB (zD rfl) ?_))
  refine uB (uBf rfl) ?_
  refine uL ?_
  refine uB (uBl rfl) ?_
  refine uB (y_ge rfl rfl) ?_
  refine qO (qM ?_)
  refine zH rfl (fun hg => ?_) (fun hg => ?_)
  ·refine qLi 16 ([cells tb [uPt s, .slice p K.length c] 122]) ?_ ?_
   ·exact uI
   refine uT 0 rfl (qE rfl) ?_
   refine uT 1 rfl (qE rfl) ?_
   refine uT 2 rfl (zD rfl) ?_
   refine uT 3 rfl (uBf rfl) ?_
   refine uT 4 rfl (uY) ?_
   refine uT 5 rfl (qE rfl) ?_
   refine uT 6 rfl (uAa rfl rfl) ?_
   apply kN 7 rfl (by kernel_rfl)
   ·exact qE rfl
   ·rfl
   apply kN 8 rfl (by kernel_rfl)
   ·exact zD rfl
   ·rfl
   apply kN 9 rfl (by kernel_rfl)
   ·exact uBf rfl
   ·rfl
   apply kN 10 rfl (by kernel_rfl)
   ·(apply qQ rfl (hE.t rfl) rfl; (repeat (first | rfl | assumption | constructor)); done)
   ·rfl
   apply kN 11 rfl (by kernel_rfl)
   ·exact uBl rfl
   ·rfl
   apply kN 12 rfl (by kernel_rfl)
   ·exact uAs rfl rfl
   ·rfl
   apply qAg 13 rfl (by kernel_rfl) rfl
   obtain ⟨k, hk⟩ : ∃ k, k = i + 2 - K.length := ⟨_, rfl⟩
   apply qNj (k := k) (hE.t rfl) (hE.t rfl) (hE.t rfl) rfl rfl rfl
   ·omega
   ·exact uK
   ·omega
   ·omega
   ·unfold maxLen; omega
   intro g54 c54 us hus
   have hz := hus (.agg #[.int .u64 0, .int .i64 0, .bool false]) rfl
   simp only [Value.cells] at hz
   rw [← qVn (rls Es) k K.length] at hz
   have hz2 : qBr (rls Es) K 0 ++ us = qBr (rls Es) (K ++ List.replicate k false) 0 := by rw [hz, qTz, Nat.zero_add]
   have hz3 : K.length + k = (K ++ List.replicate k false).length := by simp
   rw [hz2, hz3]
   clear hz hz2 hus
   have hk0 : (K ++ List.replicate k false)[0]? = some false := by
    have hpos : 0 < (K ++ List.replicate k false).length := by simp; omega
    exact qMy hpos (by cases K with | nil => cases k <;> simp [List.replicate_succ] | cons b K => simpa using hK0)
   refine uE ?_
   apply kN 14 rfl (by kernel_rfl)
   ·exact zD rfl
   ·rfl
   apply kN 15 rfl (by kernel_rfl)
   ·exact uBf rfl
   ·rfl
   apply qBt rfl (by kernel_rfl) (by kernel_rfl) rfl
   refine uS ?_
   refine qBq (K ++ List.replicate k false, g54, c54) ⟨by simp; omega, by simp; omega, hk0⟩ ⟨rfl, rfl, rfl, rfl, trivial⟩ ?_
   exact uI
  refine zF ?_
  refine qLs (p := sl p c 125 3 K.length (qBr (rls Es) K 0)) uK (fun _ h => qCc h (by omega)) ?_
  rintro ⟨g, rfl⟩
  have hk0 : K[0]? = some false := qMy (by omega) hK0
  refine qBq (K, g, c) ⟨hK, by show i + 1 < K.length; omega, hk0⟩ ⟨rfl, rfl, rfl, rfl, trivial⟩ ?_
  exact uI
 clear hK hK0 p c K
 rintro ⟨K, g, c⟩ ⟨hK, hiK, hk0⟩
 simp only at hK hiK hk0 ⊢
 obtain ⟨N, hN⟩ : ∃ N, N = K.length := ⟨_, rfl⟩
 rw [← hN] at hK hiK ⊢
 refine qN (qL (uA rfl (qO (qM ?_))))
 refine qIe (fun x : RowG => [(0, uPt tb), (1, .int .i64 ((i + 1 : Nat) : Int)), (4, uPt b4), (5, .nilIface), (6, .slice x.p x.T.length x.c)]) (fun x => [cells tb [uPt s, .slice (some ⟨g, 0, none⟩) N c] 122, sl (some ⟨g, 0, none⟩) c 125 3 N (qBr (rls Es) x.K 0), sl x.p x.c 28 1 x.T.length (x.T.map fun y => .int .i64 (y : Nat)), cells b4 [.int .u64 0, .int .i64 0, .bool false] 125, zU s most Es, R]) (fun x => RowOk i N x.T x.K) ?_ ?_
 ·have hget : K[i + 1]? = some (K[i + 1]'(by omega)) := List.getElem?_eq_getElem _
  generalize K[i + 1]'(by omega) = b at hget
  have hkn := qOb (L := rls Es) hget (0 + (((i + 1 : Nat) : Int)).toNat * 3 + 2) (by omega)
  cases b with
  | true =>
   refine qN (qL (uM rfl (uB (zD rfl) ?_)))
   refine uB (uBf rfl) ?_
   refine uL ?_
   refine uM rfl (uB (uAi rfl rfl) ?_)
   refine uB (uBf rfl) ?_
   refine uL ?_
   refine uB (qIf rfl) ?_
   refine qO (qM (zG rfl (zF ?_)))
   refine qBq ⟨[], K, none, 0⟩ ⟨hN.symm, hk0, by simp, by simp, .inl ⟨rfl, hget⟩⟩ ⟨rfl, rfl, rfl, rfl, rfl, trivial⟩ (kH (qDq (t := 28) (sz := 1)) ?_)
   exact uI
  | false =>
   refine qN (qL (uM rfl (uB (zD rfl) ?_)))
   refine uB (uBf rfl) ?_
   refine uL ?_
   refine uM rfl (uB (uAi rfl rfl) ?_)
   refine uB (uBf rfl) ?_
   refine uL ?_
   refine uB (qIf rfl) ?_
   refine qO (qM (zI rfl ?_))
   refine qKh (qDq (t := 28) (sz := 1)) ?_
   refine qL (uM rfl (uM rfl (uU ?_)))
   refine qY (hE.t rfl) (hE.t rfl) rfl rfl rfl (fun b68 => ?_)
   refine uU ?_
   apply zX (hE.t rfl) (hE.t rfl) rfl rfl rfl
   ·exact uK
   ·exact uK
   ·rfl
   ·rfl
   ·omega
   ·omega
   ·(unfold maxLen; omega)
   intro g69 c69 n69 x69 hn69 hx69
   refine uA rfl (qO ?_)
   obtain rfl : n69 = [i + 1].length := hn69
   obtain rfl : x69 = [i + 1].map (fun y => Value.int .i64 (y : Nat)) := hx69
   refine qBq ⟨[i + 1], K, _, _⟩ ⟨hN.symm, hk0, by simp, fun x hx => ?_, .inr rfl⟩ ⟨rfl, rfl, rfl, rfl, rfl, trivial⟩ ?_
   ·obtain rfl : x = i + 1 := by simpa using hx
    exact ⟨hget, by omega, by omega⟩
   exact uI
 rintro ⟨T0, K0, p0, c0⟩ hok0
 simp only at hok0 ⊢
 refine qN (zN ?_)
 refine qDb (fun x : RowG => [(0, uPt tb), (1, .int .i64 ((i + 1 : Nat) : Int)), (4, uPt b4), (5, .nilIface), (6, .slice x.p x.T.length x.c)]) (fun x => [cells tb [uPt s, .slice (some ⟨g, 0, none⟩) N c] 122, sl (some ⟨g, 0, none⟩) c 125 3 N (qBr (rls Es) x.K 0), sl x.p x.c 28 1 x.T.length (x.T.map fun y => .int .i64 (y : Nat)), cells b4 [.int .u64 0, .int .i64 0, .bool false] 125, zU s most Es, R]) (fun x => cntF x.K * (N + 1) + x.T.getLast?.getD 0) (fun x => RowOk i N x.T x.K) ⟨T0, K0, p0, c0⟩ hok0 ?_ (fun _ h => h) ?_
 ·exact ⟨rfl, rfl, rfl, rfl, rfl, trivial⟩
 clear hok0 T0 K0 p0 c0
 rintro ⟨T, K1, p1, c1⟩ hok
 simp only at hok ⊢
 have hkl := hok.klen
 rcases List.eq_nil_or_concat T with rfl | ⟨T', x, rfl⟩
 ·have hk1 : K1[i + 1]? = some true := by
   rcases hok.top with ⟨_, h⟩ | h
   ·exact h
   simp at h
  have f0 : (qBr (rls Es) K1 0)[0 + (((i + 1 : Nat) : Int)).toNat * 3]? = some (.int .u64 (key (rls Es) (i + 1) : Nat)) := by
   rw [show 0 + (((i + 1 : Nat) : Int)).toNat * 3 = (i + 1) * 3 + 0 by omega, qOa hk1 0 (by omega)]; rfl
  have f1 : (qBr (rls Es) K1 0)[0 + (((i + 1 : Nat) : Int)).toNat * 3 + 1]? = some (.int .i64 (lvl (rls Es) (i + 1))) := by
   rw [show 0 + (((i + 1 : Nat) : Int)).toNat * 3 + 1 = (i + 1) * 3 + 1 by omega, qOa hk1 1 (by omega)]; rfl
  have f2 : (qBr (rls Es) K1 0)[0 + (((i + 1 : Nat) : Int)).toNat * 3 + 1 + 1]? = some (.bool true) := by
   rw [show 0 + (((i + 1 : Nat) : Int)).toNat * 3 + 1 + 1 = (i + 1) * 3 + 2 by omega, qOa hk1 2 (by omega)]; rfl
  refine qN (qN (qL (uM rfl (uB (uBl rfl) ?_))))
  refine uB (y_gt rfl rfl) ?_
  refine qO (qM (zG rfl (kM (qU (qU (zK (qM (qN (qL (uM rfl (uB (zD rfl) ?_)))))))))))
  refine uB (uBf rfl) ?_
  refine uL ?_
  refine uM rfl (uB (uAi rfl rfl) ?_)
  refine uB (uG) ?_
  refine uU (uS ?_)
  refine uA rfl (qO (qM (kE ?_)))
  apply kF
  ·rfl
  ·((apply Rs.cell rfl (hE.t rfl) rfl; (focus ((repeat (first | rfl | assumption | constructor)); done))); apply Rs.tmp rfl; exact Rs.nil)
  ·exact ⟨rfl, rfl⟩
  apply kH
  ·apply qPv (K := K1) (L := rls Es)
   ·exact uK
   ·exact hkl
   ·rw [zT]; exact hK
   rw [hok.k0]; simp
  exact uI
 rw [List.concat_eq_append] at hok ⊢
 have hux := hok.unk x (by simp)
 have hxl : x < K1.length := (List.getElem?_eq_some_iff.1 hux.1).1
 obtain ⟨m, rfl⟩ : ∃ m, x = m + 1 := ⟨x - 1, by omega⟩
 have hm : m < Es.length := by omega
 have hent : Es[m]? = some (Es[m]'hm) := List.getElem?_eq_getElem hm
 generalize Es[m]'hm = en at hent
 have hT20 : T'.length + 1 ≤ 1048577 := by
  have := qYl (n := i + 1) hok.dec (fun x hx => (hok.unk x hx).2)
  simp at this
  omega
 have hlT : (T' ++ [m + 1]).length = T'.length + 1 := by simp
 rw [hlT]
 have hKl : K1.length ≤ (rls Es).length + 1 := by rw [hkl, zT]; exact hK
 have hr := qVm hent
 have hrok := hwf.ok m en.r hr
 have ht := ids_get T' (m + 1) (((T'.length + 1 : Nat) : Int) - 1).toNat (by omega)
 refine qFd (p := sl p1 c1 28 1 (T'.length + 1) ((T' ++ [m + 1]).map fun y => Value.int .i64 (y : Nat))) uK (fun _ h => And.intro (qCc h (by omega)) (qKa h).1) ?_
 rintro ⟨⟨gT, rfl⟩, hcap⟩
 refine qN (qN (qL (uM rfl (uB (uBl rfl) ?_))))
 refine uB (y_gt rfl rfl) ?_
 refine qO (qM ?_)
 refine zH rfl (fun ho => ?_) (fun ho => ?_)
 ·refine zF (qM (zN (qN (qL ?_))))
  refine uM rfl (uM rfl (uB (uBl rfl) ?_))
  refine uB (uAs rfl rfl) ?_
  refine uB (uAj rfl rfl) ?_
  refine uL ?_
  refine uA rfl (qO (qM (qN (qL (uM rfl (uB (zD rfl) ?_))))))
  refine uB (uBf rfl) ?_
  refine uL ?_
  refine uM rfl (uX (qMr hE hent) rfl ?_)
  rintro _ _ ⟨rfl, rfl⟩
  simp only [uV, uW]
  refine uM rfl (uB (qX rfl rfl) (uB (qX rfl rfl) (uU (kI (hE.t rfl) (fun b8 => ?_)))))
  refine uU (uS ?_)
  refine uA rfl (qO (qM (qN (qN (qL (uM rfl (uB (qAk rfl (hE.t rfl)) ?_)))))))
  refine qO (qM (zG rfl ?_))
  have hb := left_le hrok
  obtain ⟨bl, hbl⟩ : ∃ b, K1[en.r.left]? = some b := ⟨_, List.getElem?_eq_getElem (by omega)⟩
  obtain ⟨br, hbr⟩ : ∃ b, K1[en.r.right]? = some b := ⟨_, List.getElem?_eq_getElem (by omega)⟩
  have kl := qOb (L := rls Es) hbl (0 + ((en.r.left : Nat) : Int).toNat * 3 + 2) (by omega)
  have kr := qOb (L := rls Es) hbr (0 + ((en.r.right : Nat) : Int).toNat * 3 + 2) (by omega)
  refine zF (qM (zN (qN (qCo (by kernel_rfl) ?_))))
  refine uB (uBf rfl) ?_
  refine uL ?_
  refine uB (y_ne rfl rfl) ?_
  refine uM rfl ?_
  refine qAn 110 rfl (fun hl => ?_) (fun hl => ?_)
  ·cases bl with
   | false =>
    refine kT rfl rfl (uM rfl (kT rfl rfl (uB (zD rfl) ?_)))
    refine kT rfl rfl (uB (uBf rfl) ?_)
    refine kT rfl rfl (uL ?_)
    refine kT rfl rfl (uB (uBf rfl) ?_)
    refine kT rfl rfl (uL ?_)
    refine kT rfl rfl (uB (uAi rfl rfl) ?_)
    refine kT rfl rfl (uB (uBf rfl) ?_)
    refine kT rfl rfl (uL ?_)
    refine kT rfl rfl (uB (qIf rfl) ?_)
    refine uB (zA rfl rfl) ?_
    refine uA rfl (qO (qM (zI rfl (qL (uM rfl (uB (uBf rfl) ?_))))))
    refine uL ?_
    refine uU ?_
    refine qY (hE.t rfl) (hE.t rfl) rfl rfl rfl (fun b125 => ?_)
    refine uU ?_
    apply zX (hE.t rfl) (hE.t rfl) rfl rfl rfl
    ·exact uK
    ·exact uK
    ·rfl
    ·rfl
    ·omega
    ·omega
    ·(unfold maxLen; omega)
    intro g126 c126 n126 x126 hn126 hx126
    refine uA rfl (qO (zL (zL ?_)))
    obtain rfl : n126 = (T' ++ [m + 1] ++ [en.r.left]).length := by rw [hn126]; simp
    obtain rfl : x126 = (T' ++ [m + 1] ++ [en.r.left]).map (fun y => Value.int .i64 (y : Nat)) := by rw [hx126]; simp [kC, zS]
    refine zV (ι := RowG) (j := ⟨T' ++ [m + 1] ++ [en.r.left], K1, some ⟨g126, 0, none⟩, c126⟩) ?_ ?_ ?_ ?_
    ·exact qKy hok hbl (by omega) (by omega)
    ·simp; omega
    ·exact ⟨rfl, rfl, rfl, rfl, rfl, trivial⟩
    exact uI
   | true =>
    refine kT rfl rfl (uM rfl (kT rfl rfl (uB (zD rfl) ?_)))
    refine kT rfl rfl (uB (uBf rfl) ?_)
    refine kT rfl rfl (uL ?_)
    refine kT rfl rfl (uB (uBf rfl) ?_)
    refine kT rfl rfl (uL ?_)
    refine kT rfl rfl (uB (uAi rfl rfl) ?_)
    refine kT rfl rfl (uB (uBf rfl) ?_)
    refine kT rfl rfl (uL ?_)
    refine kT rfl rfl (uB (qIf rfl) ?_)
    refine uB (zA rfl rfl) ?_
    refine uA rfl (qO (qM (zG rfl ?_)))
    have hlk : en.r.left = 0 ∨ K1[en.r.left]? = some true := .inr hbl
    refine qN (qCo (by kernel_rfl) ?_)
    refine uB (uBf rfl) ?_
    refine uL ?_
    refine uB (y_ne rfl rfl) ?_
    refine uM rfl ?_
    refine qAn 131 rfl (fun hr2 => ?_) (fun hr2 => ?_)
    ·cases br with
     | false =>
      refine kT rfl rfl (uM rfl (kT rfl rfl (uB (zD rfl) ?_)))
      refine kT rfl rfl (uB (uBf rfl) ?_)
      refine kT rfl rfl (uL ?_)
      refine kT rfl rfl (uB (uBf rfl) ?_)
      refine kT rfl rfl (uL ?_)
      refine kT rfl rfl (uB (uAi rfl rfl) ?_)
      refine kT rfl rfl (uB (uBf rfl) ?_)
      refine kT rfl rfl (uL ?_)
      refine kT rfl rfl (uB (qIf rfl) ?_)
      refine uB (zA rfl rfl) ?_
      refine uA rfl (qO (qM (zI rfl (qL (uM rfl (uB (uBf rfl) ?_))))))
      refine uL ?_
      refine uU ?_
      refine qY (hE.t rfl) (hE.t rfl) rfl rfl rfl (fun b146 => ?_)
      refine uU ?_
      apply zX (hE.t rfl) (hE.t rfl) rfl rfl rfl
      ·exact uK
      ·exact uK
      ·rfl
      ·rfl
      ·omega
      ·omega
      ·(unfold maxLen; omega)
      intro g147 c147 n147 x147 hn147 hx147
      refine uA rfl (qO (zL (zL ?_)))
      obtain rfl : n147 = (T' ++ [m + 1] ++ [en.r.right]).length := by rw [hn147]; simp
      obtain rfl : x147 = (T' ++ [m + 1] ++ [en.r.right]).map (fun y => Value.int .i64 (y : Nat)) := by rw [hx147]; simp [kC, zS]
      refine zV (ι := RowG) (j := ⟨T' ++ [m + 1] ++ [en.r.right], K1, some ⟨g147, 0, none⟩, c147⟩) ?_ ?_ ?_ ?_
      ·exact qKy hok hbr (by omega) (by omega)
      ·simp; omega
      ·exact ⟨rfl, rfl, rfl, rfl, rfl, trivial⟩
      exact uI
     | true =>
      refine kT rfl rfl (uM rfl (kT rfl rfl (uB (zD rfl) ?_)))
      refine kT rfl rfl (uB (uBf rfl) ?_)
      refine kT rfl rfl (uL ?_)
      refine kT rfl rfl (uB (uBf rfl) ?_)
      refine kT rfl rfl (uL ?_)
      refine kT rfl rfl (uB (uAi rfl rfl) ?_)
      refine kT rfl rfl (uB (uBf rfl) ?_)
      refine kT rfl rfl (uL ?_)
      refine kT rfl rfl (uB (qIf rfl) ?_)
      refine uB (zA rfl rfl) ?_
      refine uA rfl (qO (qM (zG rfl ?_)))
      have hrk : en.r.right = 0 ∨ K1[en.r.right]? = some true := .inr hbr
      refine qN ?_
      refine uH ([cells tb [uPt s, .slice (some ⟨g, 0, none⟩) N c] 122, cells b8 (kC [.int .i64 0, .int .u8 0, .int .i64 0, .int .i64 0, .int .i64 0] 0 (zS (.agg #[.int .i64 (Rl.kind (en.r) : Nat), .int .u8 (Rl.byte (en.r) : Nat), .int .i64 (Rl.left (en.r) : Nat), .int .i64 (Rl.right (en.r) : Nat), .int .i64 (Rl.times (en.r) : Nat)]))) 72]) ?_
      refine uD 0 rfl (qE rfl) ?_
      refine uD 1 rfl (zD rfl) ?_
      refine uD 2 rfl (uBf rfl) ?_
      refine uD 3 rfl (uY) ?_
      refine uD 4 rfl (qE rfl) ?_
      refine uD 5 rfl (qE rfl) ?_
      refine uD 6 rfl (uG) ?_
      apply kP 7 rfl (by kernel_rfl) rfl
      refine uC (qGb hE hB hwf hkl hr hok.k0 hlk hrk hKl hlmx) rfl ?_
      rintro _ _ ⟨rfl, rfl⟩
      simp only [uV, uW]
      refine uE ?_
      refine uD 8 rfl (uAi rfl rfl) ?_
      apply kP 9 rfl (by kernel_rfl) rfl
      refine uJ ?_
      refine uE ?_
      refine qGy (by kernel_rfl) ?_
      refine qM (qL (uM rfl (uM rfl (uB (uBl rfl) ?_))))
      refine uB (uAs rfl rfl) ?_
      refine uB (qBs T'.length rfl rfl (hE.t rfl) (by omega) (by omega)) ?_
      refine uA rfl (qO (zL (zL ?_)))
      refine zV (ι := RowG) (j := ⟨T', K1.set (m + 1) true, some ⟨gT, 0, none⟩, c1⟩) ?_ ?_ ?_ ?_
      ·exact qJz hok
      ·have hcnt := qLz hux.1
       have hlast : T'.getLast?.getD 0 ≤ N := by
        cases hl9 : T'.getLast? with
        | none => simp
        | some y =>
         have := (hok.unk y (by simp [List.mem_of_getLast? hl9])).2.2
         simp; omega
       simp only
       rw [← hcnt, Nat.add_mul]
       simp
       omega
      ·exact ⟨rfl, rfl, rfl, rfl, rfl, trivial⟩
      rw [qRk K1 (m + 1) hxl (0 + ((m + 1 : Nat) : Int).toNat * 3) (by omega)]
      apply kH
      ·apply kG (p := sl (some ⟨gT, 0, none⟩) c1 28 1 (T'.length + 1) ((T' ++ [m + 1]).map fun y => Value.int .i64 (y : Nat))) (p' := sl (some ⟨gT, 0, none⟩) c1 28 1 T'.length (T'.map fun y => Value.int .i64 (y : Nat)))
       ·exact uK
       exact qIj (by omega) (by simp) (by simp)
      exact uI
    refine zW rfl rfl rfl rfl (zW rfl rfl rfl rfl (zW rfl rfl rfl rfl (zW rfl rfl rfl rfl (zW rfl rfl rfl rfl (zW rfl rfl rfl rfl (zW rfl rfl rfl rfl (zW rfl rfl rfl rfl ?_)))))))
    refine zW rfl rfl rfl rfl (zW rfl rfl rfl rfl ?_)
    refine uB (zB rfl rfl) ?_
    refine uA rfl (qO (qM (zG rfl ?_)))
    have hrk : en.r.right = 0 ∨ K1[en.r.right]? = some true := .inl (by omega)
    refine qN ?_
    refine uH ([cells tb [uPt s, .slice (some ⟨g, 0, none⟩) N c] 122, cells b8 (kC [.int .i64 0, .int .u8 0, .int .i64 0, .int .i64 0, .int .i64 0] 0 (zS (.agg #[.int .i64 (Rl.kind (en.r) : Nat), .int .u8 (Rl.byte (en.r) : Nat), .int .i64 (Rl.left (en.r) : Nat), .int .i64 (Rl.right (en.r) : Nat), .int .i64 (Rl.times (en.r) : Nat)]))) 72]) ?_
    refine uD 0 rfl (qE rfl) ?_
    refine uD 1 rfl (zD rfl) ?_
    refine uD 2 rfl (uBf rfl) ?_
    refine uD 3 rfl (uY) ?_
    refine uD 4 rfl (qE rfl) ?_
    refine uD 5 rfl (qE rfl) ?_
    refine uD 6 rfl (uG) ?_
    apply kP 7 rfl (by kernel_rfl) rfl
    refine uC (qGb hE hB hwf hkl hr hok.k0 hlk hrk hKl hlmx) rfl ?_
    rintro _ _ ⟨rfl, rfl⟩
    simp only [uV, uW]
    refine uE ?_
    refine uD 8 rfl (uAi rfl rfl) ?_
    apply kP 9 rfl (by kernel_rfl) rfl
    refine uJ ?_
    refine uE ?_
    refine qGy (by kernel_rfl) ?_
    refine qM (qL (uM rfl (uM rfl (uB (uBl rfl) ?_))))
    refine uB (uAs rfl rfl) ?_
    refine uB (qBs T'.length rfl rfl (hE.t rfl) (by omega) (by omega)) ?_
    refine uA rfl (qO (zL (zL ?_)))
    refine zV (ι := RowG) (j := ⟨T', K1.set (m + 1) true, some ⟨gT, 0, none⟩, c1⟩) ?_ ?_ ?_ ?_
    ·exact qJz hok
    ·have hcnt := qLz hux.1
     have hlast : T'.getLast?.getD 0 ≤ N := by
      cases hl9 : T'.getLast? with
      | none => simp
      | some y =>
       have := (hok.unk y (by simp [List.mem_of_getLast? hl9])).2.2
       simp; omega
     simp only
     rw [← hcnt, Nat.add_mul]
     simp
     omega
    ·exact ⟨rfl, rfl, rfl, rfl, rfl, trivial⟩
    rw [qRk K1 (m + 1) hxl (0 + ((m + 1 : Nat) : Int).toNat * 3) (by omega)]
    apply kH
    ·apply kG (p := sl (some ⟨gT, 0, none⟩) c1 28 1 (T'.length + 1) ((T' ++ [m + 1]).map fun y => Value.int .i64 (y : Nat))) (p' := sl (some ⟨gT, 0, none⟩) c1 28 1 T'.length (T'.map fun y => Value.int .i64 (y : Nat)))
     ·exact uK
     exact qIj (by omega) (by simp) (by simp)
    exact uI
  refine zW rfl rfl rfl rfl (zW rfl rfl rfl rfl (zW rfl rfl rfl rfl (zW rfl rfl rfl rfl (zW rfl rfl rfl rfl (zW rfl rfl rfl rfl (zW rfl rfl rfl rfl (zW rfl rfl rfl rfl ?_)))))))
  refine zW rfl rfl rfl rfl (zW rfl rfl rfl rfl ?_)
  refine uB (zB rfl rfl) ?_
  refine uA rfl (qO (qM (zG rfl ?_)))
  have hlk : en.r.left = 0 ∨ K1[en.r.left]? = some true := .inl (by omega)
  refine qN (qCo (by kernel_rfl) ?_)
  refine uB (uBf rfl) ?_
  refine uL ?_
  refine uB (y_ne rfl rfl) ?_
  refine uM rfl ?_
  refine qAn 131 rfl (fun hr2 => ?_) (fun hr2 => ?_)
  ·cases br with
   | false =>
    refine kT rfl rfl (uM rfl (kT rfl rfl (uB (zD rfl) ?_)))
    refine kT rfl rfl (uB (uBf rfl) ?_)
    refine kT rfl rfl (uL ?_)
    refine kT rfl rfl (uB (uBf rfl) ?_)
    refine kT rfl rfl (uL ?_)
    refine kT rfl rfl (uB (uAi rfl rfl) ?_)
    refine kT rfl rfl (uB (uBf rfl) ?_)
    refine kT rfl rfl (uL ?_)
    refine kT rfl rfl (uB (qIf rfl) ?_)
    refine uB (zA rfl rfl) ?_
    refine uA rfl (qO (qM (zI rfl (qL (uM rfl (uB (uBf rfl) ?_))))))
    refine uL ?_
    refine uU ?_
    refine qY (hE.t rfl) (hE.t rfl) rfl rfl rfl (fun b146 => ?_)
    refine uU ?_
    apply zX (hE.t rfl) (hE.t rfl) rfl rfl rfl
    ·exact uK
    ·exact uK
    ·rfl
    ·rfl
    ·omega
    ·omega
    ·(unfold maxLen; omega)
    intro g147 c147 n147 x147 hn147 hx147
    refine uA rfl (qO (zL (zL ?_)))
    obtain rfl : n147 = (T' ++ [m + 1] ++ [en.r.right]).length := by rw [hn147]; simp
    obtain rfl : x147 = (T' ++ [m + 1] ++ [en.r.right]).map (fun y => Value.int .i64 (y : Nat)) := by rw [hx147]; simp [kC, zS]
    refine zV (ι := RowG) (j := ⟨T' ++ [m + 1] ++ [en.r.right], K1, some ⟨g147, 0, none⟩, c147⟩) ?_ ?_ ?_ ?_
    ·exact qKy hok hbr (by omega) (by omega)
    ·simp; omega
    ·exact ⟨rfl, rfl, rfl, rfl, rfl, trivial⟩
    exact uI
   | true =>
    refine kT rfl rfl (uM rfl (kT rfl rfl (uB (zD rfl) ?_)))
    refine kT rfl rfl (uB (uBf rfl) ?_)
    refine kT rfl rfl (uL ?_)
    refine kT rfl rfl (uB (uBf rfl) ?_)
    refine kT rfl rfl (uL ?_)
    refine kT rfl rfl (uB (uAi rfl rfl) ?_)
    refine kT rfl rfl (uB (uBf rfl) ?_)
    refine kT rfl rfl (uL ?_)
    refine kT rfl rfl (uB (qIf rfl) ?_)
    refine uB (zA rfl rfl) ?_
    refine uA rfl (qO (qM (zG rfl ?_)))
    have hrk : en.r.right = 0 ∨ K1[en.r.right]? = some true := .inr hbr
    refine qN ?_
    refine uH ([cells tb [uPt s, .slice (some ⟨g, 0, none⟩) N c] 122, cells b8 (kC [.int .i64 0, .int .u8 0, .int .i64 0, .int .i64 0, .int .i64 0] 0 (zS (.agg #[.int .i64 (Rl.kind (en.r) : Nat), .int .u8 (Rl.byte (en.r) : Nat), .int .i64 (Rl.left (en.r) : Nat), .int .i64 (Rl.right (en.r) : Nat), .int .i64 (Rl.times (en.r) : Nat)]))) 72]) ?_
    refine uD 0 rfl (qE rfl) ?_
    refine uD 1 rfl (zD rfl) ?_
    refine uD 2 rfl (uBf rfl) ?_
    refine uD 3 rfl (uY) ?_
    refine uD 4 rfl (qE rfl) ?_
    refine uD 5 rfl (qE rfl) ?_
    refine uD 6 rfl (uG) ?_
    apply kP 7 rfl (by kernel_rfl) rfl
    refine uC (qGb hE hB hwf hkl hr hok.k0 hlk hrk hKl hlmx) rfl ?_
    rintro _ _ ⟨rfl, rfl⟩
    simp only [uV, uW]
    refine uE ?_
    refine uD 8 rfl (uAi rfl rfl) ?_
    apply kP 9 rfl (by kernel_rfl) rfl
    refine uJ ?_
    refine uE ?_
    refine qGy (by kernel_rfl) ?_
    refine qM (qL (uM rfl (uM rfl (uB (uBl rfl) ?_))))
    refine uB (uAs rfl rfl) ?_
    refine uB (qBs T'.length rfl rfl (hE.t rfl) (by omega) (by omega)) ?_
    refine uA rfl (qO (zL (zL ?_)))
    refine zV (ι := RowG) (j := ⟨T', K1.set (m + 1) true, some ⟨gT, 0, none⟩, c1⟩) ?_ ?_ ?_ ?_
    ·exact qJz hok
    ·have hcnt := qLz hux.1
     have hlast : T'.getLast?.getD 0 ≤ N := by
      cases hl9 : T'.getLast? with
      | none => simp
      | some y =>
       have := (hok.unk y (by simp [List.mem_of_getLast? hl9])).2.2
       simp; omega
     simp only
     rw [← hcnt, Nat.add_mul]
     simp
     omega
    ·exact ⟨rfl, rfl, rfl, rfl, rfl, trivial⟩
    rw [qRk K1 (m + 1) hxl (0 + ((m + 1 : Nat) : Int).toNat * 3) (by omega)]
    apply kH
    ·apply kG (p := sl (some ⟨gT, 0, none⟩) c1 28 1 (T'.length + 1) ((T' ++ [m + 1]).map fun y => Value.int .i64 (y : Nat))) (p' := sl (some ⟨gT, 0, none⟩) c1 28 1 T'.length (T'.map fun y => Value.int .i64 (y : Nat)))
     ·exact uK
     exact qIj (by omega) (by simp) (by simp)
    exact uI
  refine zW rfl rfl rfl rfl (zW rfl rfl rfl rfl (zW rfl rfl rfl rfl (zW rfl rfl rfl rfl (zW rfl rfl rfl rfl (zW rfl rfl rfl rfl (zW rfl rfl rfl rfl (zW rfl rfl rfl rfl ?_)))))))
  refine zW rfl rfl rfl rfl (zW rfl rfl rfl rfl ?_)
  refine uB (zB rfl rfl) ?_
  refine uA rfl (qO (qM (zG rfl ?_)))
  have hrk : en.r.right = 0 ∨ K1[en.r.right]? = some true := .inl (by omega)
  refine qN ?_
  refine uH ([cells tb [uPt s, .slice (some ⟨g, 0, none⟩) N c] 122, cells b8 (kC [.int .i64 0, .int .u8 0, .int .i64 0, .int .i64 0, .int .i64 0] 0 (zS (.agg #[.int .i64 (Rl.kind (en.r) : Nat), .int .u8 (Rl.byte (en.r) : Nat), .int .i64 (Rl.left (en.r) : Nat), .int .i64 (Rl.right (en.r) : Nat), .int .i64 (Rl.times (en.r) : Nat)]))) 72]) ?_
  refine uD 0 rfl (qE rfl) ?_
  refine uD 1 rfl (zD rfl) ?_
  refine uD 2 rfl (uBf rfl) ?_
  refine uD 3 rfl (uY) ?_
  refine uD 4 rfl (qE rfl) ?_
  refine uD 5 rfl (qE rfl) ?_
  refine uD 6 rfl (uG) ?_
  apply kP 7 rfl (by kernel_rfl) rfl
  refine uC (qGb hE hB hwf hkl hr hok.k0 hlk hrk hKl hlmx) rfl ?_
  rintro _ _ ⟨rfl, rfl⟩
  simp only [uV, uW]
  refine uE ?_
  refine uD 8 rfl (uAi rfl rfl) ?_
  apply kP 9 rfl (by kernel_rfl) rfl
  refine uJ ?_
  refine uE ?_
  refine qGy (by kernel_rfl) ?_
  refine qM (qL (uM rfl (uM rfl (uB (uBl rfl) ?_))))
  refine uB (uAs rfl rfl) ?_
  refine uB (qBs T'.length rfl rfl (hE.t rfl) (by omega) (by omega)) ?_
  refine uA rfl (qO (zL (zL ?_)))
  refine zV (ι := RowG) (j := ⟨T', K1.set (m + 1) true, some ⟨gT, 0, none⟩, c1⟩) ?_ ?_ ?_ ?_
  ·exact qJz hok
  ·have hcnt := qLz hux.1
   have hlast : T'.getLast?.getD 0 ≤ N := by
    cases hl9 : T'.getLast? with
    | none => simp
    | some y =>
     have := (hok.unk y (by simp [List.mem_of_getLast? hl9])).2.2
     simp; omega
   simp only
   rw [← hcnt, Nat.add_mul]
   simp
   omega
  ·exact ⟨rfl, rfl, rfl, rfl, rfl, trivial⟩
  rw [qRk K1 (m + 1) hxl (0 + ((m + 1 : Nat) : Int).toNat * 3) (by omega)]
  apply kH
  ·apply kG (p := sl (some ⟨gT, 0, none⟩) c1 28 1 (T'.length + 1) ((T' ++ [m + 1]).map fun y => Value.int .i64 (y : Nat))) (p' := sl (some ⟨gT, 0, none⟩) c1 28 1 T'.length (T'.map fun y => Value.int .i64 (y : Nat)))
   ·exact uK
   exact qIj (by omega) (by simp) (by simp)
  exact uI
 exact absurd ho (by omega)
end Go.Proofs.YtlleicanafioaaaDoor
