import Derived.Test.YtkkjjablmmmmkaaGreatDoorQ20
import Derived.Test.YtkkjjablmmmmkaaGreatDoorQ62
set_option linter.all false
namespace Go.Proofs.YtkkjjablmmmmkaaGreatDoor
open Go Go.RowKit Sl Eg
set_option maxRecDepth 10000
section
variable {E : Env} {Es : List Ent} {pp tb s most m bm : Nat} {f : Int → Option Value}
def Names (l : List (List UInt8 × Int)) : Prop := ∀ p ∈ l, ValidN p.1
def InR (n : Nat) (l : List (List UInt8 × Int)) : Prop := ∀ p ∈ l, 0 ≤ p.2 ∧ p.2 ≤ (n : Nat)
def SgE (n : Nat) (l : List (List UInt8 × Int)) (e : Int) : Prop := (e = 13 ∧ ¬ Names l) ∨ (e = 4 ∧ Names l ∧ ¬ Ordered l l.length) ∨ (e = 1 ∧ Names l ∧ Ordered l l.length ∧ ¬ InR n l)
def SgO (n : Nat) (l : List (List UInt8 × Int)) : Prop := Names l ∧ Ordered l l.length ∧ InR n l
def rawN (l : List (List UInt8 × Int)) : List Nat := l.map fun p => p.2.toNat
theorem zAp {xs : List Nat} {us : List Value} {k x : Nat} (hx : xs[k]? = some x) (hu : k < us.length) : zZ (idC (xs.take k) ++ us.drop k) k [.int .i64 (x : Nat)] = idC (xs.take (k + 1)) ++ us.drop (k + 1) := by
 have hk := (List.getElem?_eq_some_iff.1 hx).1
 have e1 : us.drop k = us[k] :: us.drop (k + 1) := List.drop_eq_getElem_cons hu
 have e2 : (idC (xs.take k)).length = k := by simp [idC]; omega
 have e3 : xs.take (k + 1) = xs.take k ++ [x] := by rw [List.take_add_one, hx]; rfl
 have := sm_0 (pre := idC (xs.take k)) (x0 := us[k]) (r := us.drop (k + 1)) (v := .int .i64 (x : Nat))
 rw [e2] at this
 rw [e1, this, e3, qBa]
 simp [idC]
theorem qXi {l : List (List UInt8 × Int)} (h : 0 < l.length) : nlC l ≠ [] := fun e => by
 have := qKs l
 rw [e] at this
 simp at this
 omega
theorem qQy (hE : Seat E) (hB : Base E.w0) {l : List (List UInt8 × Int)} {a : Option Addr} {c : Nat} {q : HP} (hq : Rdb E.w0 a (nlC l) q) (hn : l.length ≤ 1000)
  (hl : ∀ p ∈ l, 0 ≤ p.2 → p.2 ≤ Es.length → len (rls Es) p.2.toNat ≤ 256) (hroom : Es.length + 512 * l.length ≤ most) (hk : Kn (rls Es) f) :
  Ct E 33 [uPt m, .slice a l.length c] [cells pp [uPt s, uPt tb] 106, tabP tb s (rls Es), zT s most Es, cells m [uPt pp, .map (some bm)] 103, mapF bm .i64 f, q]
   (fun v Q => (∃ e, SgE Es.length l e ∧ v = .tuple #[.pointer none, .slice none 0 0, .iface 36 (.int .i64 e)] ∧ Q = [cells pp [uPt s, uPt tb] 106, tabP tb s (rls Es), zT s most Es, cells m [uPt pp, .map (some bm)] 103, mapF bm .i64 f, q]) ∨
    ∃ M f' ys p' c', SgO Es.length l ∧ v = .tuple #[uPt s, .slice p' l.length c', .nilIface] ∧ M.length ≤ 512 * l.length ∧ Kn (rls (Es ++ M)) f' ∧ ys.length = l.length ∧ SigL (rls (Es ++ M)) (rawN l) ys ∧ Q = [cells pp [uPt s, uPt tb] 106, tabP tb s (rls (Es ++ M)), zT s most (Es ++ M), cells m [uPt pp, .map (some bm)] 103, mapF bm .i64 f', q, sl p' c' 37 1 l.length (idC ys)]) := by
 refine zQ (hE.fn Tryz.func33) rfl rfl rfl (fun R => ?_)
 simp only [qAa, uV, uW]
 refine qK (qI (uA rfl (uA rfl (uA rfl (qL (qJ (qK (qI (uM rfl (uX (qDp (m := m) (pp := pp) (bm := bm) hE) rfl ?_))))))))))
 rintro _ _ ⟨rfl, rfl⟩
 simp only [uV, uW]
 refine uX (qGp hE) rfl ?_
 rintro _ _ ⟨rfl, rfl⟩
 simp only [uV, uW]
 refine uA rfl (qL (qJ (qK (qK (qI (uM rfl (uB (qBr rfl (hE.t rfl)) ?_)))))))
 refine qL (qJ (zF rfl (zD (qJ (qK (qK (qI (uM rfl (uB (uBl rfl) ?_)))))))))
 refine uM rfl (qL (qJ (zM ?_)))
 refine qAc (fun k : Nat => [(0, uPt m), (1, .slice a l.length c), (7, uPt s), (22, .slice a l.length c), (23, .int .i64 (l.length : Nat)), (24, .int .i64 (k : Nat))]) (fun k => [cells pp [uPt s, uPt tb] 106, tabP tb s (rls Es), zT s most Es, cells m [uPt pp, .map (some bm)] 103, mapF bm .i64 f, q, R]) (fun k => l.length - k) (fun k => k ≤ l.length ∧ ∀ j p, j < k → l[j]? = some p → ValidN p.1) 0 ⟨Nat.zero_le _, fun j p h => by omega⟩ ⟨rfl, rfl, rfl, rfl, rfl, rfl, trivial⟩ uI ?_
 rintro k ⟨hk1, hall⟩
 refine qK (qI (uB (y_lt rfl rfl) ?_))
 refine qL (qJ (qK ?_))
 refine zG rfl (fun h => ?_) (fun h => ?_)
 ·have hkl : k < l.length := by omega
  obtain ⟨p, hp⟩ : ∃ p, l[k]? = some p := ⟨_, List.getElem?_eq_getElem hkl⟩
  have hpm := List.mem_of_getElem? hp
  obtain ⟨g, o, rfl, hq'⟩ := hq (qXi (by omega))
  have fm := qVl hp
  refine zD (qJ (qK (zM (qK (qI (uB (uAi rfl rfl) ?_))))))
  apply qA
  ·(apply kT rfl (hE.t rfl) rfl (by assumption); (focus ((repeat constructor); done)); (focus exact fm); (focus rfl); (focus omega))
  ·rfl
  refine uU (kH (hE.t rfl) (fun b9 => ?_))
  refine uU (uS ?_)
  refine qL (qJ (qK (qI (uB (uBf rfl) ?_))))
  refine uL ?_
  refine uX (qLx (bs := p.1) hE) rfl ?_
  rintro _ _ ⟨rfl, rfl⟩
  simp only [uV, uW]
  refine uB (qBn rfl) ?_
  refine qL (qJ ?_)
  refine qCr rfl (fun hv => ?_) (fun hv => ?_)
  ·refine qK (qI ?_)
   refine uB (qSb rfl (hE.t rfl) rfl) ?_
   refine uA rfl (uA rfl (uA rfl (qL (qJ (kD (zP (qW (qW (zP (qW ?_))))))))))
   exact uZ rfl (.tmp rfl (.tmp rfl (.tmp rfl .nil))) (.inl ⟨13, .inl ⟨rfl, fun hN => hv (hN p hpm)⟩, rfl, rfl⟩)
  refine zD (zK (qJ (qI ?_)))
  refine uB (uAa rfl rfl) ?_
  refine uM rfl (qL ?_)
  refine zU (ι := Nat) (j := k + 1) ⟨by omega, fun j p' hj hjp => ?_⟩ (by omega) ⟨rfl, rfl, rfl, rfl, rfl, congrArg some (zY (by omega)), trivial⟩ uI
  rcases Nat.lt_or_ge j k with h' | h'
  ·exact hall j p' h' hjp
  obtain rfl : j = k := by omega
  rw [hp] at hjp
  cases hjp
  exact hv
 have hNames : Names l := fun p hp => by
  obtain ⟨j, hj⟩ := List.getElem?_of_mem hp
  exact hall j p (by have := (List.getElem?_eq_some_iff.1 hj).1; omega) hj
 clear hall
 refine kM (qP (qP (zJ (qJ (qK (qK (qI (uM rfl (uB (uBl rfl) ?_)))))))))
 refine uM rfl (qL (qJ (zM ?_)))
 refine qAc (fun k : Nat => [(0, uPt m), (1, .slice a l.length c), (7, uPt s), (35, .int .i64 (l.length : Nat)), (36, .int .i64 (k : Nat))]) (fun k => [cells pp [uPt s, uPt tb] 106, tabP tb s (rls Es), zT s most Es, cells m [uPt pp, .map (some bm)] 103, mapF bm .i64 f, q, R]) (fun k => l.length - k) (fun k => k ≤ l.length ∧ Ordered l k) 0 ⟨Nat.zero_le _, fun j p q h => by omega⟩ ⟨rfl, rfl, rfl, rfl, rfl, trivial⟩ uI ?_
 rintro k ⟨hk1, hord⟩
 refine qK (qI (uB (y_lt rfl rfl) ?_))
 refine qL (qJ (qK ?_))
 refine zG rfl (fun h => ?_) (fun h => ?_)
 ·have hkl : k < l.length := by omega
  obtain ⟨p, hp⟩ : ∃ p, l[k]? = some p := ⟨_, List.getElem?_eq_getElem hkl⟩
  obtain ⟨g, o, rfl, hq'⟩ := hq (qXi (by omega))
  have f0 := (qUk hp).1
  refine zD (qJ (qK (zM (qK (qI (uM rfl (uA rfl ?_)))))))
  refine qL (qJ (qK (qBu (by kernel_rfl) ?_)))
  refine uM rfl (uB (y_gt rfl rfl) ?_)
  refine uM rfl ?_
  refine qAf 41 rfl (fun h0 => ?_) (fun h0 => ?_)
  ·obtain ⟨k, rfl⟩ : ∃ k', k = k' + 1 := ⟨k - 1, by omega⟩
   obtain ⟨p0, hp0⟩ : ∃ p, l[k]? = some p := ⟨_, List.getElem?_eq_getElem (by omega)⟩
   have f1 := (qUk hp0).1
   refine kU rfl rfl (uM rfl (kU rfl rfl (uM rfl (kU rfl rfl (uB (uAi rfl rfl) ?_)))))
   refine kU rfl rfl (uB (uBf rfl) ?_)
   refine kU rfl rfl ?_
   apply qA
   ·(apply zL rfl (hE.t rfl) rfl (by assumption); (focus ((repeat constructor); done)); (first | ((focus exact f0); (focus omega)) | ((focus exact f1); (focus omega)) | ((focus assumption); (focus omega))))
   ·rfl
   refine kU rfl rfl (uM rfl (kU rfl rfl (uM rfl (kU rfl rfl (uB (uAs rfl rfl) ?_)))))
   refine kU rfl rfl (uB (uAi rfl rfl) ?_)
   refine kU rfl rfl (uB (uBf rfl) ?_)
   refine kU rfl rfl ?_
   apply qA
   ·(apply zL rfl (hE.t rfl) rfl (by assumption); (focus ((repeat constructor); done)); (first | ((focus exact f0); (focus omega)) | ((focus exact f1); (focus omega)) | ((focus assumption); (focus omega))))
   ·rfl
   refine kU rfl rfl (uB (qYn rfl rfl) ?_)
   refine uB (qX rfl rfl) ?_
   refine qL (qJ ?_)
   refine w_eq 54 (.bool (!Op.bytesLess p0.1 p.1)) rfl (congrArg Value.bool qWy) ?_
   refine qIg rfl (fun hv => ?_) (fun hv => ?_)
   ·refine qK (qI ?_)
    refine uB (qSb rfl (hE.t rfl) rfl) ?_
    refine uA rfl (uA rfl (uA rfl (qL (qJ (kD (zP (qW (qW (zP (qW ?_))))))))))
    apply kE
    ·rfl
    ·(apply Rs.tmp rfl; apply Rs.tmp rfl; apply Rs.tmp rfl; exact Rs.nil)
    ·refine .inl ⟨4, .inr (.inl ⟨rfl, hNames, fun hN => ?_⟩), rfl, rfl⟩
     have := hN k p0 p (by omega) hp0 hp
     rw [this] at hv
     cases hv
    exact uI
   refine zD (zK (qJ (qI ?_)))
   refine uB (uAa rfl rfl) ?_
   refine uM rfl (qL ?_)
   refine zU (ι := Nat) (j := k + 1 + 1) ⟨by omega, fun j x y hj hx hy => ?_⟩ (by omega) ⟨rfl, rfl, rfl, rfl, congrArg some (zY (by omega)), trivial⟩ uI
   rcases Nat.lt_or_ge (j + 1) (k + 1) with h' | h'
   ·exact hord j x y h' hx hy
   obtain rfl : j = k := by omega
   rw [hp0] at hx
   rw [hp] at hy
   cases hx
   cases hy
   simpa using hv
  obtain rfl : k = 0 := by omega
  refine zV rfl rfl rfl rfl (zV rfl rfl rfl rfl (zV rfl rfl rfl rfl (zV rfl rfl rfl rfl (zV rfl rfl rfl rfl (zV rfl rfl rfl rfl (zV rfl rfl rfl rfl (zV rfl rfl rfl rfl ?_)))))))
  refine zV rfl rfl rfl rfl (zV rfl rfl rfl rfl (zV rfl rfl rfl rfl (zV rfl rfl rfl rfl ?_)))
  refine uB (qY rfl rfl) ?_
  refine qL (qJ (zF rfl (zD (zK (qJ (qI (uB (uAa rfl rfl) ?_)))))))
  refine uM rfl (qL ?_)
  refine zU (ι := Nat) (j := 1) ⟨by omega, fun j x y hj hx hy => by omega⟩ (by omega) ⟨rfl, rfl, rfl, rfl, congrArg some (zY (by omega)), trivial⟩ uI
 obtain rfl : k = l.length := by omega
 refine kM (qP (qP (zJ (qJ (qK (qI (uM rfl (uB (uBl rfl) ?_))))))))
 refine uU ?_
 refine ld_makeN (hE.t rfl) (hE.t rfl) rfl (by omega) (by (unfold maxLen; omega)) (fun b59 us59 hu59 => ?_)
 refine uA rfl (qL (qJ (qK (qK (qI (uM rfl (uB (uBl rfl) ?_)))))))
 refine uM rfl (qL (qJ (zM ?_)))
 have hrl : (rawN l).length = l.length := List.length_map _
 refine qAc (fun k : Nat => [(0, uPt m), (7, uPt s), (11, .slice (some ⟨b59, 0, none⟩) l.length l.length), (60, .slice a l.length c), (61, .int .i64 (l.length : Nat)), (62, .int .i64 (k : Nat))]) (fun k => [cells pp [uPt s, uPt tb] 106, tabP tb s (rls Es), zT s most Es, cells m [uPt pp, .map (some bm)] 103, mapF bm .i64 f, q, sl (some ⟨b59, 0, none⟩) l.length 37 1 l.length (idC ((rawN l).take k) ++ us59.drop k), R]) (fun k => l.length - k) (fun k => k ≤ l.length ∧ ∀ j p, j < k → l[j]? = some p → 0 ≤ p.2 ∧ p.2 ≤ (Es.length : Nat)) 0 ⟨Nat.zero_le _, fun j p h => by omega⟩ ⟨rfl, rfl, rfl, rfl, rfl, rfl, trivial⟩ uI ?_
 rintro k ⟨hk1, hall⟩
 refine qK (qI (uB (y_lt rfl rfl) ?_))
 refine qL (qJ (qK ?_))
 refine zG rfl (fun h => ?_) (fun h => ?_)
 ·have hkl : k < l.length := by omega
  obtain ⟨p, hp⟩ : ∃ p, l[k]? = some p := ⟨_, List.getElem?_eq_getElem hkl⟩
  have hpm := List.mem_of_getElem? hp
  obtain ⟨g, o, rfl, hq'⟩ := hq (qXi (by omega))
  have fm := qVl hp
  refine zD (qJ (qK (zM (qK (qI (uM rfl (uB (uAi rfl rfl) ?_)))))))
  apply qA
  ·(apply kT rfl (hE.t rfl) rfl (by assumption); (focus ((repeat constructor); done)); (focus exact fm); (focus rfl); (focus omega))
  ·rfl
  refine uU (kH (hE.t rfl) (fun b13 => ?_))
  refine uA rfl (uU (uS ?_))
  refine qL (qJ (qK (qK ?_)))
  refine uH ([cells b13 [.string ⟨⟨p.1⟩⟩, .int .i64 p.2] 39]) ?_
  refine uD 0 rfl (uBf rfl) ?_
  refine uD 1 rfl (uY) ?_
  refine uD 2 rfl (y_lt rfl rfl) ?_
  refine uD 3 rfl (qB rfl) ?_
  refine qNh 70 rfl (fun h1 => ?_) (fun h1 => ?_)
  ·refine d_off 4 rfl rfl rfl rfl (by with_reducible (repeat (first | exact qE | apply qF | apply qG))) (by kernel_rfl) rfl ?_
   refine uR 5 rfl rfl rfl rfl ?_
   refine uR 6 rfl rfl rfl rfl ?_
   refine uR 7 rfl rfl rfl rfl ?_
   refine uR 8 rfl rfl rfl rfl ?_
   refine uD 9 rfl (qX rfl rfl) ?_
   refine qCz (by kernel_rfl) ?_
   refine qJ (zH rfl (qK (qI (uB (qSb rfl (hE.t rfl) rfl) ?_))))
   refine uA rfl (uA rfl (uA rfl (qL (qJ (kD (qW (zP (qW (qW (zP (qW ?_)))))))))))
   exact uZ rfl (.tmp rfl (.tmp rfl (.tmp rfl .nil))) (.inl ⟨1, .inr (.inr ⟨rfl, hNames, hord, fun hI => by have := (hI p hpm).1; omega⟩), rfl, rfl⟩)
  apply d_on 4 rfl rfl rfl
  ·exact uBf rfl
  ·with_reducible (repeat (first | exact qE | apply qF | apply qG))
  ·kernel_rfl
  ·rfl
  refine uO 5 rfl rfl rfl (uY) ?_
  refine uO 6 rfl rfl rfl (qB rfl) ?_
  apply zBp 7 rfl rfl rfl (by kernel_rfl) rfl
  refine uC (qYz hE) rfl ?_
  rintro _ _ ⟨rfl, rfl⟩
  simp only [uV, uW]
  refine uE ?_
  refine uO 8 rfl rfl rfl (y_gt rfl rfl) ?_
  refine uD 9 rfl (qY rfl rfl) ?_
  refine qCz (by kernel_rfl) ?_
  refine qJ ?_
  refine zG rfl (fun h2 => ?_) (fun h2 => ?_)
  ·refine qK (qI ?_)
   refine uB (qSb rfl (hE.t rfl) rfl) ?_
   refine uA rfl (uA rfl (uA rfl (qL (qJ (kD (qW (zP (qW (qW (zP (qW ?_)))))))))))
   exact uZ rfl (.tmp rfl (.tmp rfl (.tmp rfl .nil))) (.inl ⟨1, .inr (.inr ⟨rfl, hNames, hord, fun hI => by have := (hI p hpm).2; omega⟩), rfl, rfl⟩)
  refine zD (qJ (qI ?_))
  refine uM rfl (uM rfl (uB (uBf rfl) ?_))
  refine uL ?_
  refine l_eq 81 (.int .i64 (p.2.toNat : Nat)) rfl (zY (by omega)) ?_
  refine uB (uAj rfl rfl) ?_
  refine l_eq 82 (.pointer (some ⟨b59, k, none⟩)) rfl (by simp) ?_
  refine uU (uJ ?_)
  refine qL (zK (qJ ?_))
  have hrk : (rawN l)[k]? = some p.2.toNat := by unfold rawN; rw [List.getElem?_map, hp]; rfl
  simp only [zR]
  rw [zAp hrk (by omega)]
  refine qI (uB (uAa rfl rfl) ?_)
  refine uM rfl (qL ?_)
  refine zU (ι := Nat) (j := k + 1) ⟨by omega, fun j p' hj hjp => ?_⟩ (by omega) ⟨rfl, rfl, rfl, rfl, rfl, congrArg some (zY (by omega)), trivial⟩ uI
  rcases Nat.lt_or_ge j k with h' | h'
  ·exact hall j p' h' hjp
  obtain rfl : j = k := by omega
  rw [hp] at hjp
  cases hjp
  exact ⟨by omega, by omega⟩
 obtain rfl : k = l.length := by omega
 have hIn : InR Es.length l := fun p hp => by
  obtain ⟨j, hj⟩ := List.getElem?_of_mem hp
  exact hall j p (List.getElem?_eq_some_iff.1 hj).1 hj
 have hxs : ∀ x ∈ rawN l, x ≤ Es.length ∧ len (rls Es) x ≤ 256 := fun x hx => by
  obtain ⟨p, hp, rfl⟩ := List.mem_map.1 hx
  have := hIn p hp
  exact ⟨by omega, hl p hp this.1 this.2⟩
 have hv : idC ((rawN l).take l.length) ++ us59.drop l.length = idC (rawN l) := by
  rw [List.take_of_length_le (by omega), List.drop_eq_nil_of_le (by omega), List.append_nil]
 rw [hv]
 refine kM (qP (qP (zJ (qJ (qK (qI (uM rfl (uM rfl ?_))))))))
 refine uX (ct_AllN (s := s) (tb := tb) (most := most) (f := f) (m := m) (pp := pp) (bm := bm) hE hB hrl hxs hn hroom hk) rfl ?_
 rintro _ _ ⟨M, f', ys, p', c', rfl, hM, hkn, hyl, hsl, rfl⟩
 simp only [uV, uW]
 refine uM rfl (uB (qU rfl rfl) (uB (qU rfl rfl) (uA rfl (uA rfl (qL (qJ (qK (qK (qI (uM rfl ?_))))))))))
 refine uB (qAg rfl (hE.t rfl)) ?_
 refine qL (qJ (zF rfl (zD (qJ (qK (qI (uM rfl (uM rfl (uA rfl (uA rfl (uA rfl (qL (qJ (kD ?_))))))))))))))
 exact uZ rfl (.tmp rfl (.tmp rfl (.tmp rfl .nil))) (.inr ⟨M, f', ys, p', c', ⟨hNames, hord, hIn⟩, rfl, hM, hkn, hyl, hsl, rfl⟩)
end
section
variable {E : Env} {Es : List Ent} {pp tb s most m bm : Nat} {f : Int → Option Value}
theorem st_last {st : List (Nat × Bool)} {x : Nat} {b : Bool} : (stC ((x, b) :: st))[(stC st).length]? = some (.int .i64 (x : Nat)) ∧ (stC ((x, b) :: st))[(stC st).length + 1]? = some (.bool b) := ⟨ap_0, ap_1⟩
theorem st_ptr {st : List (Nat × Bool)} {g n : Nat} (h : n = st.length + 1) : (.pointer (some ⟨g, 0 + (((n : Nat) : Int) - 1).toNat * 2, none⟩) : Value) = .pointer (some ⟨g, (stC st).length, none⟩) := by
 rw [qKz, show 0 + (((n : Nat) : Int) - 1).toNat * 2 = st.length * 2 by omega]
def AccOk (L : List Rl) (acc : List Nat) : Prop := acc.Nodup ∧ ∀ y ∈ acc, 1 ≤ y ∧ y ≤ L.length
theorem AccOk.len {L : List Rl} {acc : List Nat} (h : AccOk L acc) : acc.length ≤ L.length := by
 have := qXm (B := (List.range L.length).map (· + 1)) h.1 (fun x hx => by
  have := h.2 x hx
  exact List.mem_map.2 ⟨x - 1, List.mem_range.2 (by omega), by omega⟩)
 simpa using this
theorem AccOk.visits {L : List Rl} (hw : Wf L) {xs : List Nat} (hx : ∀ x ∈ xs, x ≤ L.length) : AccOk L (kK L xs []) := by
 have := qEy hw L.length xs [] hx
 refine ⟨this.2.2 (by simp), fun y hy => ?_⟩
 rcases this.1 y hy with h | h
 ·simp at h
 exact ⟨h.1, h.2.2⟩
theorem AccOk.snoc {L : List Rl} {acc : List Nat} (h : AccOk L acc) {x : Nat} (hx : x ≤ L.length) (hn : ¬ (x = 0 ∨ x ∈ acc)) : AccOk L (acc ++ [x]) := by
 refine ⟨List.nodup_append.2 ⟨h.1, by simp, fun a ha b hb => ?_⟩, fun y hy => ?_⟩
 ·simp at hb
  subst hb
  rintro rfl
  exact hn (.inr ha)
 rcases List.mem_append.1 hy with hy | hy
 ·exact h.2 y hy
 simp at hy
 subst hy
 exact ⟨Nat.pos_of_ne_zero fun e => hn (.inl e), hx⟩
structure LoG where
 k : Nat
 acc : List Nat
 p : Option Addr
 c : Nat
 ps : Option Addr
 cs : Nat
structure LiG where
 st : List (Nat × Bool)
 acc : List Nat
 p : Option Addr
 c : Nat
 ps : Option Addr
 cs : Nat
structure LkG where
 j : Nat
 ps : Option Addr
 cs : Nat
theorem qPp (hE : Seat E) {xs : List Nat} {n : Nat} (hxn : xs.length = n) {a : Option Addr} {ca : Nat} (hx : ∀ x ∈ xs, x ≤ Es.length ∧ len (rls Es) x ≤ 256) (hn : n ≤ 1000) :
  Ct E 34 [uPt s, .slice a n ca] [zT s most Es, sl a ca 37 1 n (idC xs)]
   (fun v Q => ∃ p c, v = .slice p (kK (rls Es) xs []).length c ∧ Q = [zT s most Es, sl a ca 37 1 n (idC xs), sl p c 37 1 (kK (rls Es) xs []).length (idC (kK (rls Es) xs []))]) := by
 refine qBt (p := zT s most Es) uK (fun _ h => qAj h) (fun hsay => ?_)
 have hmr : qAw = 1048576 := rfl
 have hLl := zS Es
 have hx1 : ∀ x ∈ xs, x ≤ (rls Es).length := fun x h => by have := (hx x h).1; omega
 refine zQ (hE.fn Tryz.func34) rfl rfl rfl (fun R => ?_)
 simp only [qAa, uV, uW]
 refine qK (qI (uA rfl (qL (qJ (qK (qI (uA rfl (qL (qJ (qK (qI (uA rfl (qL (qJ (qK (qI ?_))))))))))))))))
 refine uU ?_
 refine qJp .i64 (fun b15 => ?_)
 refine uU ?_
 apply qVd (kt := 37) (et := 4) (by rw [hE.P]; kernel_rfl) (by rw [hE.P]; kernel_rfl) rfl rfl rfl
 ·exact uK
 refine uM rfl (uA rfl (qL (qJ (qK (qK (qI (uM rfl (uB (uBl rfl) ?_))))))))
 refine uM rfl (qL (qJ (zM ?_)))
 rw [lsF_nil]
 refine qAc (fun q : LoG => [(0, uPt s), (5, .slice q.p (q.acc).length q.c), (6, .slice q.ps (([] : List (Nat × Bool))).length q.cs), (7, .map (some b15)), (17, .slice a n ca), (18, .int .i64 (n : Nat)), (19, .int .i64 (q.k : Nat))]) (fun q => [zT s most Es, sl a ca 37 1 n (idC xs), mapF b15 .i64 (lsF q.acc), sl q.p q.c 37 1 (q.acc).length (idC (q.acc)), sl q.ps q.cs 130 2 (([] : List (Nat × Bool))).length (stC (([] : List (Nat × Bool)))), R]) (fun q => n - q.k) (fun q => q.k ≤ n ∧ q.acc = kK (rls Es) (xs.take q.k) []) ⟨0, [], none, 0, none, 0⟩ ⟨Nat.zero_le _, rfl⟩ ⟨rfl, rfl, rfl, rfl, rfl, rfl, rfl, trivial⟩ ?_ ?_
 ·apply kG (qBw (t := 37) (sz := 1))
  apply kG (qBw (t := 130) (sz := 2))
  exact uI
 rintro ⟨k, acc, p, c, ps, cs⟩ ⟨hk, hacc⟩
 simp only at hk hacc ⊢
 have hnl : ([] : List (Nat × Bool)).length = 0 := rfl
 refine qK (qI (uB (y_lt rfl rfl) ?_))
 refine qL (qJ (qK ?_))
 refine zG rfl (fun h => ?_) (fun h => ?_)
 ·have hlt : k < xs.length := by omega
  obtain ⟨x, hxi⟩ : ∃ x, xs[k]? = some x := ⟨_, List.getElem?_eq_getElem hlt⟩
  have hxx := hx x (List.mem_of_getElem? hxi)
  have hwm := zBn hsay.1 (show x ≤ (rls Es).length by omega) hxx.2
  have htk : xs.take (k + 1) = xs.take k ++ [x] := by rw [List.take_add_one, hxi]; rfl
  have hvs : kK (rls Es) (xs.take (k + 1)) [] = visit (rls Es) x acc := by rw [htk, qGr, hacc]; rfl
  have hao : AccOk (rls Es) acc := by rw [hacc]; exact AccOk.visits hsay.1 (fun y hy => hx1 y (List.mem_of_mem_take hy))
  refine qCy (p := sl a ca 37 1 n (idC xs)) uK (fun _ h => qAi h (by omega)) ?_
  rintro ⟨gx, rfl⟩
  have f0 := qAl hxi (0 + ((k : Nat) : Int).toNat) (by omega)
  have f1 := qAl hxi (((k : Nat) : Int).toNat) (by omega)
  refine zD (qJ (qK (zM (qK (qI (uB (uAj rfl rfl) ?_))))))
  refine uL ?_
  refine uA rfl (qL (qJ (qK (qI (uM rfl (uM rfl (uB (qAe (hE.t rfl) rfl rfl) ?_)))))))
  refine uU ?_
  refine qV (hE.t rfl) (hE.t rfl) rfl rfl rfl (fun b26 => ?_)
  refine uU ?_
  apply zW (hE.t rfl) (hE.t rfl) rfl rfl rfl
  ·exact uK
  ·exact uK
  ·rfl
  ·rfl
  ·omega
  ·omega
  ·(unfold maxLen; omega)
  intro g27 c27 n27 x27 hn27 hx27
  refine uA rfl (qL (qJ (zM ?_)))
  obtain rfl : x27 = stC [(x, false)] := by rw [hx27]; rfl
  subst hn27
  refine qAc (fun q : LiG => [(0, uPt s), (5, .slice q.p (q.acc).length q.c), (6, .slice q.ps (q.st).length q.cs), (7, .map (some b15)), (17, .slice (some ⟨gx, 0, none⟩) n ca), (18, .int .i64 (n : Nat)), (19, .int .i64 (k : Nat))]) (fun q => [zT s most Es, sl (some ⟨gx, 0, none⟩) ca 37 1 n (idC xs), mapF b15 .i64 (lsF q.acc), sl q.p q.c 37 1 (q.acc).length (idC (q.acc)), sl q.ps q.cs 130 2 (q.st).length (stC (q.st)), R]) (fun q => qHe (rls Es) q.st) (fun q => runS (rls Es) q.st q.acc = kK (rls Es) (xs.take (k + 1)) [] ∧ StOk (rls Es) q.st ∧ qHe (rls Es) q.st ≤ 1025 ∧ AccOk (rls Es) q.acc) ⟨[(x, false)], acc, p, c, some ⟨g27, 0, none⟩, c27⟩ ⟨hvs.symm, fun q hq => by
   obtain rfl := List.mem_singleton.1 hq
   exact ⟨by simp only; omega, fun h => by cases h⟩, by simp only [qHe]; omega, hao⟩ ⟨rfl, rfl, rfl, rfl, rfl, rfl, rfl, trivial⟩ uI ?_
  clear hao hvs hacc
  rintro ⟨st, acc, p, c, ps, cs⟩ ⟨hrun, hst, hwk, hao⟩
  simp only at hrun hst hwk hao ⊢
  have hal := hao.len
  have hsl := qMx (rls Es) st
  refine qK (qK (qI (uM rfl (uB (uBl rfl) ?_))))
  refine uB (y_gt rfl rfl) ?_
  refine qL (qJ ?_)
  refine zG rfl (fun h2 => ?_) (fun h2 => ?_)
  ·obtain ⟨y, b, st, rfl⟩ : ∃ y b st', st = (y, b) :: st' := by
    cases st with
    | nil => simp at h2
    | cons q st => exact ⟨q.1, q.2, st, rfl⟩
   have hyy := hst (y, b) (by simp)
   simp only at hyy
   have hstl : ((y, b) :: st).length = st.length + 1 := rfl
   have hws := zAu (rls Es) y b st
   obtain ⟨f2, f3⟩ := st_last (st := st) (x := y) (b := b)
   refine qCy (p := sl ps cs 130 2 ((y, b) :: st).length (stC ((y, b) :: st))) uK (fun _ h => And.intro (qAi h (by omega)) (qIi h).1) ?_
   rintro ⟨⟨gs, rfl⟩, hcap⟩
   refine zD (qJ (zM (qK (qI (uM rfl (uM rfl (uB (uBl rfl) ?_)))))))
   refine uB (uAs rfl rfl) ?_
   refine uB (uAi rfl rfl) ?_
   refine l_eq 35 _ rfl (st_ptr (st := st) hstl) ?_
   refine uB (uG) ?_
   refine uU (kH (hE.t rfl) (fun b10 => ?_))
   refine uU (uS ?_)
   refine qL (qJ (qK (qI (uM rfl (uM rfl (uB (uBl rfl) ?_))))))
   refine uB (uAs rfl rfl) ?_
   refine uB (qCf st.length rfl rfl (hE.t rfl) (by omega) (by omega)) ?_
   refine uA rfl (qL (qJ ?_))
   refine qBz (kF (p := sl (some ⟨gs, 0, none⟩) cs 130 2 ((y, b) :: st).length (stC ((y, b) :: st))) (p' := sl (some ⟨gs, 0, none⟩) cs 130 2 st.length (stC st)) uK (qEt (by omega) (by rw [← qKz]; simp [stC]) (by simp))) ?_
   by_cases hin : y = 0 ∨ y ∈ acc
   ·have hf := lsF_in hin
    refine qK (qK (qI (uM rfl (uB (uBf rfl) ?_))))
    refine uL ?_
    refine uB (qGc (kt := 37) (et := 4) (z := .bool false) (by rw [hE.P]; kernel_rfl) (by rw [hE.P]; kernel_rfl) (fun w => by rw [hE.P]; kernel_rfl) rfl rfl uK (by assumption)) ?_
    refine qL (qJ ?_)
    refine w_eq 45 (.bool true) rfl rfl ?_
    refine zH rfl (kM (qP (zJ ?_)))
    refine zU (ι := LiG) (j := ⟨st, acc, p, c, some ⟨gs, 0, none⟩, cs⟩) ⟨by rw [← zCy hst hin]; exact hrun, hst.tail, by simp only; omega, hao⟩ hws ⟨rfl, rfl, rfl, rfl, rfl, rfl, rfl, trivial⟩ ?_
    exact uI
   have hf := lsF_out hin
   refine qK (qK (qI (uM rfl (uB (uBf rfl) ?_))))
   refine uL ?_
   refine uB (qGc (kt := 37) (et := 4) (z := .bool false) (by rw [hE.P]; kernel_rfl) (by rw [hE.P]; kernel_rfl) (fun w => by rw [hE.P]; kernel_rfl) rfl rfl uK (by assumption)) ?_
   refine qL (qJ ?_)
   refine w_eq 45 (.bool false) rfl rfl ?_
   refine zF rfl (zD (qJ (qK (qK (qI (uB (uBf rfl) ?_))))))
   refine uL ?_
   refine qL (qJ ?_)
   refine qIg rfl (fun hb => ?_) (fun hb => ?_)
   ·subst hb
    refine qK (qI (uM rfl (uB (uBf rfl) ?_)))
    refine uL ?_
    refine uU ?_
    apply qDz (kt := 37) (et := 4) (by rw [hE.P]; kernel_rfl) (by rw [hE.P]; kernel_rfl) rfl rfl rfl
    ·exact uK
    refine qL (qJ ?_)
    rw [lsF_set]
    refine qK (qI (uM rfl (uB (uBf rfl) ?_)))
    refine uL ?_
    refine uU ?_
    refine qV (hE.t rfl) (hE.t rfl) rfl rfl rfl (fun b54 => ?_)
    refine uU ?_
    apply zW (hE.t rfl) (hE.t rfl) rfl rfl rfl
    ·exact uK
    ·exact uK
    ·rfl
    ·rfl
    ·omega
    ·omega
    ·(unfold maxLen; omega)
    intro g55 c55 n55 x55 hn55 hx55
    refine uA rfl (qL (qJ (kM (qP (zJ ?_)))))
    obtain rfl : x55 = idC (acc ++ [y]) := by rw [hx55, qBa]; rfl
    have hal2 : (acc ++ [y]).length = acc.length + 1 := by simp
    subst hn55
    refine zU (ι := LiG) (j := ⟨st, acc ++ [y], some ⟨g55, 0, none⟩, c55, some ⟨gs, 0, none⟩, cs⟩) ⟨by rw [← zCu hin]; exact hrun, hst.tail, by simp only; omega, hao.snoc (by omega) hin⟩ hws ⟨rfl, by simp only [hal2]; rfl, rfl, rfl, rfl, rfl, rfl, trivial⟩ ?_
    simp only [hal2]
    exact uI
   subst hb
   obtain ⟨i, rfl⟩ : ∃ i, y = i + 1 := ⟨y - 1, by have : y ≠ 0 := fun e => hin (.inl e); omega⟩
   have hent : Es[i]? = some (Es[i]'(by omega)) := List.getElem?_eq_getElem (by omega)
   generalize Es[i]'(by omega) = en at hent
   have hri := qSk hent
   have hkk := qXj en.r
   have hwr := zBm hsay.1 hri st
   have hrr := zEp hsay.1 hri (fun h => hin (.inr h)) st
   have hso := zDb hsay.1 hri hst.tail
   refine zD (qJ (qK (qI (uM rfl (uB (uBf rfl) ?_)))))
   refine uL ?_
   refine uB (qAe (hE.t rfl) rfl rfl) ?_
   refine uU ?_
   refine qV (hE.t rfl) (hE.t rfl) rfl rfl rfl (fun b60 => ?_)
   refine uU ?_
   apply zW (hE.t rfl) (hE.t rfl) rfl rfl rfl
   ·exact uK
   ·exact uK
   ·rfl
   ·rfl
   ·omega
   ·omega
   ·(unfold maxLen; omega)
   intro g61 c61 n61 x61 hn61 hx61
   refine uA rfl (qL (qJ (qK (qI (uM rfl (uB (uBf rfl) ?_))))))
   refine uL ?_
   obtain rfl : x61 = stC ((i + 1, true) :: st) := by rw [hx61]; rfl
   subst hn61
   refine uX (qNf hE hent) rfl ?_
   rintro _ _ ⟨rfl, rfl⟩
   simp only [uV, uW]
   refine uM rfl (uB (qU rfl rfl) (uB (qU rfl rfl) (uU (kH (hE.t rfl) (fun b11 => ?_)))))
   refine uU (uS ?_)
   refine uA rfl (qL (qJ (qK (qI (uB (uG) ?_)))))
   refine uX (qSe hE en.r) rfl ?_
   rintro _ _ ⟨pk, ck, rfl, rfl⟩
   simp only [uV, uW]
   refine uA rfl (qL (qJ (qK (qI (uM rfl (uB (uBl rfl) ?_))))))
   refine uB (uAs rfl rfl) ?_
   refine uA rfl (qL (qJ (zM ?_)))
   refine qAc (fun q : LkG => [(0, uPt s), (5, .slice p acc.length c), (6, .slice q.ps (((kids en.r).drop q.j).map (·, false) ++ (i + 1, true) :: st).length q.cs), (7, .map (some b15)), (13, .slice pk (kids en.r).length ck), (14, .int .i64 ((q.j : Nat) - 1 : Int)), (17, .slice (some ⟨gx, 0, none⟩) n ca), (18, .int .i64 (n : Nat)), (19, .int .i64 (k : Nat))])
    (fun q => [zT s most Es, sl (some ⟨gx, 0, none⟩) ca 37 1 n (idC xs), mapF b15 .i64 (lsF acc), sl p c 37 1 acc.length (idC acc), sl q.ps q.cs 130 2 (((kids en.r).drop q.j).map (·, false) ++ (i + 1, true) :: st).length (stC (((kids en.r).drop q.j).map (·, false) ++ (i + 1, true) :: st)), sl pk ck 37 1 (kids en.r).length (idC (kids en.r)), R]) (fun q => q.j) (fun q => q.j ≤ (kids en.r).length) ⟨(kids en.r).length, some ⟨g61, 0, none⟩, c61⟩ (Nat.le_refl _) ⟨rfl, rfl, by simp only [List.drop_length]; rfl, rfl, rfl, rfl, rfl, rfl, rfl, trivial⟩ ?_ ?_
   ·simp only [List.drop_length, List.map_nil, List.nil_append, List.length_cons]
    exact uI
   rintro ⟨j, ps, cs⟩ hj
   simp only at hj ⊢
   have hjl : (((kids en.r).drop j).map (·, false) ++ (i + 1, true) :: st).length = (kids en.r).length - j + 1 + st.length := by simp; omega
   refine qK (qK (qI (uM rfl (uB (y_ge rfl rfl) ?_))))
   refine qL (qJ ?_)
   refine zG rfl (fun h4 => ?_) (fun h4 => ?_)
   ·obtain ⟨j, rfl⟩ : ∃ j', j = j' + 1 := ⟨j - 1, by omega⟩
    obtain ⟨z, hz⟩ : ∃ z, (kids en.r)[j]? = some z := ⟨_, List.getElem?_eq_getElem (by omega)⟩
    have f4 := qAl hz j rfl
    refine qCy (p := sl pk ck 37 1 (kids en.r).length (idC (kids en.r))) uK (fun _ h => qAi h (by omega)) ?_
    rintro ⟨gk, rfl⟩
    refine zD (qJ (qK (zM (qI (uM rfl (uM rfl (uM rfl (uB (uAj rfl rfl) ?_))))))))
    refine l_eq 81 (.pointer (some ⟨gk, j, none⟩)) rfl (by congr 3; omega) ?_
    refine uL ?_
    refine uB (qAe (hE.t rfl) rfl rfl) ?_
    refine uU ?_
    refine qV (hE.t rfl) (hE.t rfl) rfl rfl rfl (fun b84 => ?_)
    refine uU ?_
    apply zW (hE.t rfl) (hE.t rfl) rfl rfl rfl
    ·exact uK
    ·exact uK
    ·rfl
    ·rfl
    ·omega
    ·omega
    ·(unfold maxLen; omega)
    intro g85 c85 n85 x85 hn85 hx85
    refine uA rfl (qL (zK (qJ (qI (uM rfl (uB (uAs rfl rfl) ?_))))))
    refine uA rfl (qL ?_)
    have hdr : ((kids en.r).drop j).map (·, false) = (z, false) :: ((kids en.r).drop (j + 1)).map (·, false) := by rw [qEu hz]; rfl
    obtain rfl : x85 = stC (((kids en.r).drop j).map (·, false) ++ (i + 1, true) :: st) := by rw [hx85, hdr]; rfl
    have hjl2 : (((kids en.r).drop j).map (·, false) ++ (i + 1, true) :: st).length = (((kids en.r).drop (j + 1)).map (·, false) ++ (i + 1, true) :: st).length + 1 := by rw [hdr]; rfl
    subst hn85
    refine zU (ι := LkG) (j := ⟨j, some ⟨g85, 0, none⟩, c85⟩) (by simp only; omega) (by simp only; omega) ⟨rfl, rfl, by simp only [hjl2]; rfl, rfl, rfl, congrArg some (zY (by simp only; omega)), rfl, rfl, rfl, trivial⟩ ?_
    simp only [hjl2]
    exact uI
   obtain rfl : j = 0 := by omega
   refine kM (qP (qP (zJ (zK ?_))))
   refine zU (ι := LiG) (j := ⟨stOpen en.r (i + 1) st, acc, p, c, ps, cs⟩) ⟨by rw [← hrun, hrr]; rfl, hso, Nat.le_trans (Nat.le_of_lt hwr) hwk, hao⟩ hwr ⟨rfl, rfl, rfl, rfl, rfl, rfl, rfl, trivial⟩ ?_
   exact uI
  obtain rfl : st = [] := List.eq_nil_of_length_eq_zero (by omega)
  refine kM (qP (qP (zJ (zK (qJ (qI (uB (uAa rfl rfl) ?_)))))))
  refine uM rfl (qL ?_)
  refine zU (ι := LoG) (j := ⟨k + 1, acc, p, c, ps, cs⟩) ⟨by simp only; omega, hrun⟩ (by simp only; omega) ⟨rfl, rfl, rfl, rfl, rfl, rfl, congrArg some (zY (by simp only; omega)), trivial⟩ ?_
  exact uI
 obtain rfl : k = n := by omega
 have hall : xs.take k = xs := List.take_of_length_le (by omega)
 rw [hall] at hacc
 subst hacc
 refine kM (qP (qP (zJ (qJ (qK (qI (uM rfl (uA rfl (qL (qJ (kD ?_)))))))))))
 exact uZ rfl (.tmp rfl .nil) ⟨p, c, rfl, rfl⟩
end
end Go.Proofs.YtkkjjablmmmmkaaGreatDoor
