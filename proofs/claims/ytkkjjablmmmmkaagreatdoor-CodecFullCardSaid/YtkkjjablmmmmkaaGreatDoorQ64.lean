import Derived.Test.YtkkjjablmmmmkaaGreatDoorQ63
set_option linter.all false
namespace Go.Proofs.YtkkjjablmmmmkaaGreatDoor
open Go Go.RowKit Sl Eg
set_option maxRecDepth 10000
section
variable {E : Env} {Es : List Ent} {pp tb s most m bm : Nat} {f : Int → Option Value}
theorem qWi (hE : Seat E) {g c : Nat} {bs : List UInt8} (hn : bs.length ≤ 1099511627776) : Ct E 38 [.slice (some ⟨g, 0, none⟩) bs.length c] [ro g (byC bs)] (fun v Q => ∃ g' c', v = .slice (some ⟨g', 0, none⟩) (qAx bs).length c' ∧ Q = [ro g (byC bs), sl (some ⟨g', 0, none⟩) c' 5 1 (qAx bs).length (byC (qAx bs))]) := by
 have h10 := qAk (n := bs.length) (by omega)
 have hp := qCc bs.length
 have hbl := qMy bs
 have hbb : (qAx bs).length = (vput bs.length).length + bs.length := List.length_append
 have hb1 : ((vput bs.length).length + (byC bs).length) * 1 ≤ 140737488355328 := by omega
 have hb2 : (vput bs.length).length + (byC bs).length ≤ maxLen := by unfold maxLen; omega
 refine zQ (hE.fn Tryz.func38) rfl rfl rfl (fun R => ?_)
 simp only [qAa, uV, uW]
 refine qK (qI (uA rfl (qL (qJ (qK (qI (uM rfl (uB (uBl rfl) ?_))))))))
 refine uB (uAc rfl) ?_
 refine uX (qHm (n := bs.length) hE (by omega)) rfl ?_
 rintro _ _ ⟨g2, c2, rfl, rfl⟩
 simp only [uV, uW]
 refine uM rfl (uU ?_)
 refine qJq (us := byC bs) (q := ro g (byC bs)) (hE.t rfl) (hE.t rfl) rfl rfl rfl hbl.symm (fun _ => ⟨g, 0, rfl, rd_ro⟩) uK uK (qBd bs) hb1 hb2 (fun p1 c1 m1 x1 hm1 hx1 => ?_)
 obtain rfl : m1 = (qAx bs).length := by omega
 obtain rfl : x1 = byC (qAx bs) := hx1.trans (qAo _ _).symm
 refine qOh (p := sl p1 c1 5 1 (qAx bs).length (byC (qAx bs))) uK (fun _ h => qAi h (by omega)) ?_
 rintro ⟨g', rfl⟩
 refine uA rfl (qL (qJ (kD ?_)))
 exact uZ rfl (.tmp rfl .nil) ⟨g', c1, rfl, rfl⟩
theorem ys_ok {M : List Ent} {l : List (List UInt8 × Int)} {ys : List Nat} (hl : ∀ p ∈ l, 0 ≤ p.2 → p.2 ≤ (Es.length : Nat) → Eg.len (rls Es) p.2.toNat ≤ 256) (hI : InR Es.length l) (hyl : ys.length = l.length) (hs : SigL (rls (Es ++ M)) (rawN l) ys) : ∀ y ∈ ys, y ≤ (Es ++ M).length ∧ Eg.len (rls (Es ++ M)) y ≤ 256 := fun y hy => by
 obtain ⟨i, hi⟩ := List.getElem?_of_mem hy
 have hil := (List.getElem?_eq_some_iff.1 hi).1
 obtain ⟨p, hp⟩ : ∃ p, l[i]? = some p := ⟨_, List.getElem?_eq_getElem (by omega)⟩
 have hpm := List.mem_of_getElem? hp
 have hx : (rawN l)[i]? = some p.2.toNat := by unfold rawN; rw [List.getElem?_map, hp]; rfl
 have h := hs i _ y hx hi
 have hIp := hI p hpm
 refine ⟨by have := h.2.2.1.1; rwa [zS] at this, ?_⟩
 unfold Eg.len
 rw [h.2.1, kI, qDj _ (by rw [zS]; omega)]
 exact hl p hpm hIp.1 hIp.2
theorem nuF_at {ids : List Nat} {k x : Nat} (h : ids[k]? = some x) (hn : ids.Nodup) : setF (nuF (ids.take k)) (x : Nat) (.int .i64 ((k + 1 : Nat) : Int)) = nuF (ids.take (k + 1)) := by
 have hk := (List.getElem?_eq_some_iff.1 h).1
 have e : (ids.take k).length = k := by simp; omega
 have htk : ids.take (k + 1) = ids.take k ++ [x] := by rw [List.take_add_one, h]; rfl
 have hx : x ∉ ids.take k := fun hm => by
  have : (ids.take k ++ [x]).Nodup := htk ▸ hn.sublist (List.take_sublist _ _)
  exact (List.nodup_append.1 this).2.2 x hm x (by simp) rfl
 have := nuF_set hx
 rw [e] at this
 rw [this, htk]
theorem qIf (I : List Nat) (r : Rl) : (qAz I r).kind = r.kind := by cases r <;> rfl
theorem qHy (I : List Nat) (r : Rl) : (qAz I r).byte = r.byte := by cases r <;> rfl
theorem qEe (I : List Nat) (r : Rl) : (qAz I r).times = r.times := by cases r <;> rfl
theorem qPr {I : List Nat} (h : 0 ∉ I) (r : Rl) : (qAz I r).left = numb I r.left := by cases r <;> first | rfl | exact (qBm.2 h).symm
theorem qNq {I : List Nat} (h : 0 ∉ I) (r : Rl) : (qAz I r).right = numb I r.right := by cases r <;> first | rfl | exact (qBm.2 h).symm
theorem qYc {I A : List Nat} {x n : Nat} {r : Rl} (hI : I = A ++ [x]) (ho : r.ok n) (hk : ∀ k ∈ kids r, k ∈ A) : (qAz I r).ok (A.length + 1) ∧ ∀ B, qAz (I ++ B) r = qAz I r := by
 subst hI
 have key : ∀ k ∈ A, 1 ≤ numb (A ++ [x]) k ∧ numb (A ++ [x]) k ≤ A.length := fun k hk => by
  rw [qJy hk]
  have := qEq A k
  have : numb A k ≠ 0 := fun e => qBm.1 e hk
  omega
 have app : ∀ B, ∀ k ∈ A, numb (A ++ [x] ++ B) k = numb (A ++ [x]) k := fun B k hk => qJy (by simp [hk])
 cases r with
 | letter b => exact ⟨trivial, fun _ => rfl⟩
 | pair a b =>
  have h1 := key a (hk a (by simp [kids]))
  have h2 := key b (hk b (by simp [kids]))
  refine ⟨⟨h1.1, by omega, h2.1, by omega⟩, fun B => ?_⟩
  simp only [qAz, app B a (hk a (by simp [kids])), app B b (hk b (by simp [kids]))]
 | power a k =>
  have h1 := key a (hk a (by simp [kids]))
  simp only [Rl.ok] at ho
  refine ⟨⟨h1.1, by omega, ho.2.2⟩, fun B => ?_⟩
  simp only [qAz, app B a (hk a (by simp [kids]))]
theorem qJg (i : Nat) (hi : i ≤ 1099511627776) (r : Rl) (ht : r.times ≤ 1152921504606846976) : 0 < (rulB i r).length ∧ (rulB i r).length ≤ 21 := by
 cases r with
 | letter b => simp [rulB]
 | pair a b =>
  have h1 := qAk (n := i - a) (by omega)
  have h2 := qAk (n := i - b) (by omega)
  simp only [rulB, List.length_cons, List.length_append]; omega
 | power a k =>
  simp only [Rl.times] at ht
  have h1 := qAk (n := i - a) (by omega)
  have h2 := qAk (n := k - 2) (by omega)
  simp only [rulB, List.length_cons, List.length_append]; omega
def nmY (l : List (List UInt8 × Int)) (ys : List Nat) : List (List UInt8 × Nat) := (l.map (·.1)).zip ys
theorem zCs (ids : List Nat) (A : List (List UInt8 × Nat)) (p : List UInt8 × Nat) : encN ids (A ++ [p]) = encN ids A ++ qAx p.1 ++ vput (numb ids p.2) := by simp [encN, qAx]
theorem nmY_take {l : List (List UInt8 × Int)} {ys : List Nat} {k y : Nat} {p : List UInt8 × Int} (hp : l[k]? = some p) (hy : ys[k]? = some y) : (nmY l ys).take (k + 1) = (nmY l ys).take k ++ [(p.1, y)] := by
 have : (nmY l ys)[k]? = some (p.1, y) := by
  unfold nmY
  rw [List.getElem?_zip_eq_some]
  exact ⟨by rw [List.getElem?_map, hp]; rfl, hy⟩
 rw [List.take_add_one, this]
 rfl
end
section
variable {E : Env} {Es : List Ent} {pp tb s most m bm : Nat} {f : Int → Option Value}
structure EnG where
 k : Nat
 done : List UInt8
 g : Nat
 c : Nat
theorem zCf (hE : Seat E) (hB : Base E.w0) {l : List (List UInt8 × Int)} {a : Option Addr} {ca : Nat} {q : HP} (hq : Rdb E.w0 a (nlC l) q) (hn : l.length ≤ 1000)
  (hl : ∀ p ∈ l, 0 ≤ p.2 → p.2 ≤ Es.length → Eg.len (rls Es) p.2.toNat ≤ 256) (hroom : Es.length + 512 * l.length ≤ most) (hk : Kn (rls Es) f) :
  Ct E 14 [uPt m, .slice a l.length ca] [cells pp [uPt s, uPt tb] 106, tabP tb s (rls Es), zT s most Es, cells m [uPt pp, .map (some bm)] 103, mapF bm .i64 f, q]
   (fun v Q => (∃ e, SgE Es.length l e ∧ v = .tuple #[.slice none 0 0, .iface 36 (.int .i64 e)] ∧ Q = [cells pp [uPt s, uPt tb] 106, tabP tb s (rls Es), zT s most Es, cells m [uPt pp, .map (some bm)] 103, mapF bm .i64 f, q]) ∨
    ∃ M f' ys g c B, SgO Es.length l ∧ v = .tuple #[.slice (some ⟨g, 0, none⟩) B.length c, .nilIface] ∧ B = encB (rls (Es ++ M)) (kK (rls (Es ++ M)) ys []) (nmY l ys) ∧ M.length ≤ 512 * l.length ∧ Kn (rls (Es ++ M)) f' ∧ ys.length = l.length ∧ SigL (rls (Es ++ M)) (rawN l) ys ∧ Q = [cells pp [uPt s, uPt tb] 106, tabP tb s (rls (Es ++ M)), zT s most (Es ++ M), cells m [uPt pp, .map (some bm)] 103, mapF bm .i64 f', q, sl (some ⟨g, 0, none⟩) c 5 1 B.length (byC B)]) := by
 refine zQ (hE.fn Tryz.func14) rfl rfl rfl (fun R => ?_)
 simp only [qAa, uV, uW]
 refine qK (qI (uA rfl (uA rfl (qL (qJ (qK (qI (uM rfl (uM rfl ?_)))))))))
 refine uX (qQy (s := s) (tb := tb) (most := most) (f := f) (m := m) (pp := pp) (bm := bm) hE hB hq hn hl hroom hk) rfl ?_
 rintro _ _ (⟨e, he, rfl, rfl⟩ | ⟨M, f', ys, p', c', ho, rfl, hM, hkn, hyl, hsl, rfl⟩)
 ·simp only [uV, uW]
  refine uM rfl (uB (qU rfl rfl) (uB (qU rfl rfl) (uB (qU rfl rfl) (uA rfl (uA rfl (uA rfl (qL (qJ (qK (qK (qI ?_)))))))))))
  refine uM rfl (uB (qSg rfl (hE.t rfl)) ?_)
  refine qL (qJ (zH rfl (qK (qI (uM rfl (uA rfl (uA rfl (qL (qJ (kD (qW ?_)))))))))))
  exact uZ rfl (.tmp rfl (.tmp rfl .nil)) (.inl ⟨e, he, rfl, rfl⟩)
 have hyo := ys_ok hl ho.2.2 hyl hsl
 simp only [uV, uW]
 refine uM rfl (uB (qU rfl rfl) (uB (qU rfl rfl) (uB (qU rfl rfl) (uA rfl (uA rfl (uA rfl (qL (qJ (qK (qK (qI ?_)))))))))))
 refine uM rfl (uB (qAg rfl (hE.t rfl)) ?_)
 refine qL (qJ (zF rfl (zD (qJ (qK (qI (uM rfl (uM rfl ?_))))))))
 refine uX (qPp (s := s) (most := most) (Es := Es ++ M) hE hyl hyo hn) rfl ?_
 rintro _ _ ⟨pl, cl, rfl, rfl⟩
 simp only [uV, uW]
 refine qOh (p := zT s most (Es ++ M)) uK (fun _ h => qAj h) (fun hsay => ?_)
 have hmr : qAw = 1048576 := rfl
 have hLl := zS (Es ++ M)
 have hao : AccOk (rls (Es ++ M)) (kK (rls (Es ++ M)) ys []) := AccOk.visits hsay.1 (fun y hy => by have := (hyo y hy).1; omega)
 have hord := qLe hsay.1 ys [] (qRx _)
 obtain ⟨ids, hids⟩ : ∃ ids, ids = kK (rls (Es ++ M)) ys [] := ⟨_, rfl⟩
 rw [← hids] at hao hord ⊢
 have hal := hao.len
 have h0i : 0 ∉ ids := fun h => by have := (hao.2 0 h).1; omega
 refine uA rfl (qL (qJ (qK (qI (uM rfl (uB (uBl rfl) ?_))))))
 refine uU ?_
 refine qLl .i64 (kt := 37) (et := 3) (by rw [hE.P]; kernel_rfl) rfl (fun b35 => ?_)
 refine uA rfl (qL (qJ ?_))
 rw [zEr]
 refine qK (qI (uM rfl (uB (uBl rfl) ?_)))
 refine uB (uAc rfl) ?_
 refine uX (qHm (n := ids.length) hE (by omega)) rfl ?_
 rintro _ _ ⟨g0, c0, rfl, rfl⟩
 simp only [uV, uW]
 have hv10 := qAk (n := ids.length) (by omega)
 refine uA rfl (qL (qJ (qK (qK (qI (uM rfl (uB (uBl rfl) ?_)))))))
 refine uM rfl (qL (qJ (zM ?_)))
 refine qAc (fun x : EnG => [(1, .slice a l.length ca), (6, uPt s), (7, .slice p' l.length c'), (10, .map (some b35)), (11, .slice (some ⟨x.g, 0, none⟩) x.done.length x.c), (40, .slice pl ids.length cl), (41, .int .i64 (ids.length : Nat)), (42, .int .i64 (x.k : Nat))])
  (fun x => [zT s most (Es ++ M), cells pp [uPt s, uPt tb] 106, tabP tb s (rls (Es ++ M)), cells m [uPt pp, .map (some bm)] 103, mapF bm .i64 f', q, sl p' c' 37 1 l.length (idC ys), mapF b35 .i64 (nuF (ids.take x.k)), sl (some ⟨x.g, 0, none⟩) x.c 5 1 x.done.length (byC x.done), sl pl cl 37 1 ids.length (idC ids), R]) (fun x => ids.length - x.k)
  (fun x => x.k ≤ ids.length ∧ x.done = vput ids.length ++ encR (rls (Es ++ M)) ids x.k ∧ x.done.length ≤ 10 + 21 * x.k) ⟨0, vput ids.length, g0, c0⟩ ⟨Nat.zero_le _, by simp [encR], by simp only; omega⟩ ⟨rfl, rfl, rfl, rfl, rfl, rfl, rfl, rfl, trivial⟩ uI ?_
 rintro ⟨k, done, g, c⟩ ⟨hk1, hdone, hdl⟩
 simp only at hk1 hdone hdl ⊢
 refine qK (qI (uB (y_lt rfl rfl) ?_))
 refine qL (qJ (qK ?_))
 refine zG rfl (fun h => ?_) (fun h => ?_)
 ·have hkl : k < ids.length := by omega
  obtain ⟨x, hx⟩ : ∃ x, ids[k]? = some x := ⟨_, List.getElem?_eq_getElem hkl⟩
  have hxx := hao.2 x (List.mem_of_getElem? hx)
  obtain ⟨i, rfl⟩ : ∃ i, x = i + 1 := ⟨x - 1, by omega⟩
  have hent : (Es ++ M)[i]? = some ((Es ++ M)[i]'(by omega)) := List.getElem?_eq_getElem (by omega)
  generalize (Es ++ M)[i]'(by omega) = en at hent
  have hri := qSk hent
  have hsplit : ids = ids.take k ++ (i + 1) :: ids.drop (k + 1) := by
   have := List.take_append_drop k ids
   rw [qEu hx] at this
   exact this.symm
  have hkids := hord _ _ _ _ hsplit hri
  have htk : ids.take (k + 1) = ids.take k ++ [i + 1] := by rw [List.take_add_one, hx]; rfl
  have htl : (ids.take k).length = k := by simp; omega
  obtain ⟨hro, hrn⟩ := qYc htk (hsay.1.ok _ _ hri) hkids
  rw [htl] at hro
  have hrn2 : qAz ids en.r = qAz (ids.take (k + 1)) en.r := by
   have := hrn (ids.drop (k + 1))
   rwa [List.take_append_drop] at this
  have h0t : 0 ∉ ids.take (k + 1) := fun h => h0i (List.mem_of_mem_take h)
  have hrt : (qAz (ids.take (k + 1)) en.r).times ≤ 1152921504606846976 := by
   rw [qEe]
   have hsh := hsay.1.short (i + 1)
   have hmx : kJ = 1152921504606846976 := rfl
   have hok := hsay.1.ok _ _ hri
   generalize en.r = r at hri hok ⊢
   cases r with
   | letter b => simp [Rl.times]
   | pair a b => simp [Rl.times]
   | power x t =>
    have e := qDl hri hok
    simp only [Rl.ok] at hok
    have h1 := hsay.1.pos x hok.1 (by omega)
    have h2 : t * 1 ≤ t * Eg.len (rls (Es ++ M)) x := Nat.mul_le_mul_left _ h1
    simp only [Rl.times]
    have e2 : Eg.len (rls (Es ++ M)) (i + 1) = (txt (rls (Es ++ M)) (i + 1)).length := rfl
    have e3 : t * Eg.len (rls (Es ++ M)) x = Eg.len (rls (Es ++ M)) (i + 1) := by rw [e]
    omega
  have hrl := qJg (k + 1) (by omega) (qAz (ids.take (k + 1)) en.r) hrt
  refine qCy (p := sl pl cl 37 1 ids.length (idC ids)) uK (fun _ h => qAi h (by omega)) ?_
  rintro ⟨gx, rfl⟩
  have f0 := qAl hx (0 + ((k : Nat) : Int).toNat) (by omega)
  have f1 := qAl hx (((k : Nat) : Int).toNat) (by omega)
  refine zD (qJ (qK (zM (qK (qI (uM rfl (uB (uAj rfl rfl) ?_)))))))
  refine uL ?_
  refine uA rfl (uA rfl (qL (qJ (qK (qI (uM rfl (uM rfl (uM rfl (uB (uAa rfl rfl) ?_)))))))))
  refine l_eq 50 (.int .i64 ((k + 1 : Nat) : Int)) rfl (zY (by omega)) ?_
  refine uU ?_
  apply qDz (kt := 37) (et := 3) (by rw [hE.P]; kernel_rfl) (by rw [hE.P]; kernel_rfl) rfl rfl rfl
  ·exact uK
  refine qL (qJ ?_)
  rw [nuF_at hx hao.1]
  refine qK (qI (uM rfl (uM rfl (uX (qNf hE hent) rfl ?_))))
  rintro _ _ ⟨rfl, rfl⟩
  simp only [uV, uW]
  have hf1 : nuF (ids.take (k + 1)) ((en.r.left : Nat) : Int) = nuF (ids.take (k + 1)) ((en.r.left : Nat) : Int) := rfl
  have hf2 : nuF (ids.take (k + 1)) ((en.r.right : Nat) : Int) = nuF (ids.take (k + 1)) ((en.r.right : Nat) : Int) := rfl
  refine uM rfl (uB (qU rfl rfl) (uB (qU rfl rfl) (uU (kH (hE.t rfl) (fun b14 => ?_)))))
  refine uU (uS ?_)
  refine uA rfl (qL (qJ (qK (qI (uM rfl (uB (uBf rfl) ?_))))))
  refine uL ?_
  refine uB (qGc (kt := 37) (et := 3) (z := .int .i64 0) (by rw [hE.P]; kernel_rfl) (by rw [hE.P]; kernel_rfl) (fun w => by rw [hE.P]; kernel_rfl) rfl rfl uK (by assumption)) ?_
  refine l_eq 60 (.int .i64 (numb (ids.take (k + 1)) en.r.left : Nat)) rfl (qQq _ _) ?_
  refine uB (uBf rfl) ?_
  refine uU (uS ?_)
  refine qL (qJ (qK (qI (uM rfl (uB (uBf rfl) ?_)))))
  refine uL ?_
  refine uB (qGc (kt := 37) (et := 3) (z := .int .i64 0) (by rw [hE.P]; kernel_rfl) (by rw [hE.P]; kernel_rfl) (fun w => by rw [hE.P]; kernel_rfl) rfl rfl uK (by assumption)) ?_
  refine l_eq 65 (.int .i64 (numb (ids.take (k + 1)) en.r.right : Nat)) rfl (qQq _ _) ?_
  refine uB (uBf rfl) ?_
  refine uU (uS ?_)
  refine qL (qJ ?_)
  refine qBz (kF (p := cells b14 [.int .i64 (en.r.kind : Nat), .int .u8 (en.r.byte : Nat), .int .i64 (numb (ids.take (k + 1)) en.r.left : Nat), .int .i64 (numb (ids.take (k + 1)) en.r.right : Nat), .int .i64 (en.r.times : Nat)] 82) (p' := cells b14 [.int .i64 (Rl.kind ((qAz (ids.take (k + 1)) en.r)) : Nat), .int .u8 (Rl.byte ((qAz (ids.take (k + 1)) en.r)) : Nat), .int .i64 (Rl.left ((qAz (ids.take (k + 1)) en.r)) : Nat), .int .i64 (Rl.right ((qAz (ids.take (k + 1)) en.r)) : Nat), .int .i64 (Rl.times ((qAz (ids.take (k + 1)) en.r)) : Nat)] 82) uK (fun _ h => by rw [qIf, qHy, qPr h0t, qNq h0t, qEe]; exact h)) ?_
  refine qK (qI (uB (uG) ?_))
  refine uM rfl (uB (uAa rfl rfl) ?_)
  refine l_eq 70 (.int .i64 ((k + 1 : Nat) : Int)) rfl (zY (by omega)) ?_
  refine uX (ct_rPut (r := qAz (ids.take (k + 1)) en.r) (n := k + 1) hE hro (by omega) (by omega) hrt) rfl ?_
  rintro _ _ ⟨gr, cr, rfl, rfl⟩
  simp only [uV, uW]
  refine uM rfl (uB (qU rfl rfl) (uB (qU rfl rfl) (uA rfl (uA rfl (qL (qJ (qI (uM rfl (uM rfl (uU ?_))))))))))
  apply qAp (hE.t rfl) (hE.t rfl) rfl rfl rfl
  ·exact uK
  ·exact uK
  ·exact qBd _
  ·exact hrl.1
  ·omega
  ·unfold maxLen; omega
  intro g1 c1 m' x' hm' hx'
  obtain rfl : m' = (done ++ rulB (k + 1) (qAz (ids.take (k + 1)) en.r)).length := hm'.trans List.length_append.symm
  obtain rfl : x' = byC (done ++ rulB (k + 1) (qAz (ids.take (k + 1)) en.r)) := hx'.trans (qAo _ _).symm
  clear hm' hx'
  refine uA rfl (qL (zK (qJ (qI (uB (uAa rfl rfl) ?_)))))
  refine uM rfl (qL ?_)
  refine zU (ι := EnG) (j := ⟨k + 1, done ++ rulB (k + 1) (qAz (ids.take (k + 1)) en.r), g1, c1⟩) ⟨by simp only; omega, by simp only; rw [qIz hx hri, ← List.append_assoc, ← hdone, hrn2], by simp only [List.length_append]; omega⟩ (by simp only; omega) ⟨rfl, rfl, rfl, rfl, rfl, rfl, rfl, congrArg some (zY (by simp only; omega)), trivial⟩ ?_
  exact uI
 obtain rfl : k = ids.length := by omega
 rw [List.take_length]
 clear h hk1
 have hv2 := qAk (n := l.length) (by omega)
 refine kM (qP (qP (zJ (qJ (qK (qI (uM rfl (uM rfl (uB (uBl rfl) ?_)))))))))
 refine uB (uAc rfl) ?_
 refine uX (qHm (n := l.length) hE (by omega)) rfl ?_
 rintro _ _ ⟨g2, c2, rfl, rfl⟩
 simp only [uV, uW]
 refine uU ?_
 apply qAp (hE.t rfl) (hE.t rfl) rfl rfl rfl
 ·exact uK
 ·exact uK
 ·exact qBd _
 ·exact (qCc _)
 ·omega
 ·unfold maxLen; omega
 intro g3 c3 m' x' hm' hx'
 obtain rfl : m' = (done ++ vput l.length).length := hm'.trans List.length_append.symm
 obtain rfl : x' = byC (done ++ vput l.length) := hx'.trans (qAo _ _).symm
 clear hm' hx'
 have hd3 : (done ++ vput l.length).length = done.length + (vput l.length).length := List.length_append
 refine uA rfl (qL (qJ (qK (qK (qI (uM rfl (uB (uBl rfl) ?_)))))))
 refine uM rfl (qL (qJ (zM ?_)))
 refine qAc (fun x : EnG => [(7, .slice p' l.length c'), (10, .map (some b35)), (11, .slice (some ⟨x.g, 0, none⟩) x.done.length x.c), (84, .slice a l.length ca), (85, .int .i64 (l.length : Nat)), (86, .int .i64 (x.k : Nat))])
  (fun x => [zT s most (Es ++ M), cells pp [uPt s, uPt tb] 106, tabP tb s (rls (Es ++ M)), cells m [uPt pp, .map (some bm)] 103, mapF bm .i64 f', q, sl p' c' 37 1 l.length (idC ys), mapF b35 .i64 (nuF ids), sl (some ⟨x.g, 0, none⟩) x.c 5 1 x.done.length (byC x.done), R]) (fun x => l.length - x.k)
  (fun x => x.k ≤ l.length ∧ x.done = done ++ vput l.length ++ encN ids ((nmY l ys).take x.k) ∧ x.done.length ≤ 10 + 21 * ids.length + 10 + 52 * x.k) ⟨0, done ++ vput l.length, g3, c3⟩ ⟨Nat.zero_le _, by simp [encN], by simp only; omega⟩ ⟨rfl, rfl, rfl, rfl, rfl, rfl, trivial⟩ uI ?_
 rintro ⟨k, dn, g, c⟩ ⟨hk1, hdn, hdl2⟩
 simp only at hk1 hdn hdl2 ⊢
 refine qK (qI (uB (y_lt rfl rfl) ?_))
 refine qL (qJ (qK ?_))
 refine zG rfl (fun h => ?_) (fun h => ?_)
 ·have hkl : k < l.length := by omega
  obtain ⟨p, hp⟩ : ∃ p, l[k]? = some p := ⟨_, List.getElem?_eq_getElem hkl⟩
  obtain ⟨y, hy⟩ : ∃ y, ys[k]? = some y := ⟨_, List.getElem?_eq_getElem (by omega)⟩
  have hpl := (ho.1 p (List.mem_of_getElem? hp)).2.1
  obtain ⟨go, o, rfl, hq'⟩ := hq (qXi (by omega))
  have fm := qVl hp
  have hnb := qEq ids y
  have hv1 := qAk (n := p.1.length) (by omega)
  have hv3 := qAk (n := numb ids y) (by omega)
  have hbl : (qAx p.1).length = (vput p.1.length).length + p.1.length := List.length_append
  have hbp : 0 < (qAx p.1).length := by have := qCc p.1.length; omega
  refine qCy (p := sl p' c' 37 1 l.length (idC ys)) uK (fun _ h => qAi h (by omega)) ?_
  rintro ⟨gy, rfl⟩
  have f0 := qAl hy (0 + ((k : Nat) : Int).toNat) (by omega)
  have f1 := qAl hy (((k : Nat) : Int).toNat) (by omega)
  have hf1 : nuF ids ((y : Nat) : Int) = nuF ids ((y : Nat) : Int) := rfl
  refine zD (qJ (qK (zM (qK (qI (uM rfl (uB (uAi rfl rfl) ?_)))))))
  apply qA
  ·(apply kT rfl (hE.t rfl) rfl (by assumption); (focus ((repeat constructor); done)); (focus exact fm); (focus rfl); (focus omega))
  ·rfl
  refine uU (kH (hE.t rfl) (fun b19 => ?_))
  refine uA rfl (uU (uS ?_))
  refine qL (qJ (qK (qI (uM rfl (uB (uBf rfl) ?_)))))
  refine uL ?_
  refine uU ?_
  refine qYi rfl (hE.t rfl) (hE.t rfl) (hE.t rfl) (fun gb cb => ?_)
  refine uX (qWi (g := gb) (c := cb) (bs := p.1) hE (by omega)) rfl ?_
  rintro _ _ ⟨g4, c4, rfl, rfl⟩
  simp only [uV, uW]
  refine uU ?_
  apply qAp (hE.t rfl) (hE.t rfl) rfl rfl rfl
  ·exact uK
  ·exact uK
  ·exact qBd _
  ·exact hbp
  ·omega
  ·unfold maxLen; omega
  intro g5 c5 m' x' hm' hx'
  obtain rfl : m' = (dn ++ qAx p.1).length := hm'.trans List.length_append.symm
  obtain rfl : x' = byC (dn ++ qAx p.1) := hx'.trans (qAo _ _).symm
  clear hm' hx'
  have hd5 : (dn ++ qAx p.1).length = dn.length + (qAx p.1).length := List.length_append
  refine uA rfl (qL (qJ (qI (uM rfl (uM rfl (uM rfl (uM rfl (uB (uAj rfl rfl) ?_))))))))
  refine uL ?_
  refine uB (qGc (kt := 37) (et := 3) (z := .int .i64 0) (by rw [hE.P]; kernel_rfl) (by rw [hE.P]; kernel_rfl) (fun w => by rw [hE.P]; kernel_rfl) rfl rfl uK (by assumption)) ?_
  refine l_eq 103 (.int .i64 (numb ids y : Nat)) rfl (qQq _ _) ?_
  refine uB (uAc rfl) ?_
  refine uX (qHm (n := numb ids y) hE (by omega)) rfl ?_
  rintro _ _ ⟨g6, c6, rfl, rfl⟩
  simp only [uV, uW]
  refine uU ?_
  apply qAp (hE.t rfl) (hE.t rfl) rfl rfl rfl
  ·exact uK
  ·exact uK
  ·exact qBd _
  ·exact (qCc _)
  ·omega
  ·unfold maxLen; omega
  intro g7 c7 m' x' hm' hx'
  obtain rfl : m' = (dn ++ qAx p.1 ++ vput (numb ids y)).length := hm'.trans List.length_append.symm
  obtain rfl : x' = byC (dn ++ qAx p.1 ++ vput (numb ids y)) := hx'.trans (qAo _ _).symm
  clear hm' hx'
  have hd7 : (dn ++ qAx p.1 ++ vput (numb ids y)).length = (dn ++ qAx p.1).length + (vput (numb ids y)).length := List.length_append
  refine uA rfl (qL (zK (qJ (qI (uB (uAa rfl rfl) ?_)))))
  refine uM rfl (qL ?_)
  refine zU (ι := EnG) (j := ⟨k + 1, dn ++ qAx p.1 ++ vput (numb ids y), g7, c7⟩) ⟨by simp only; omega, by simp only; rw [nmY_take hp hy, zCs, hdn]; simp only [List.append_assoc], by simp only; omega⟩ (by simp only; omega) ⟨rfl, rfl, rfl, rfl, rfl, congrArg some (zY (by simp only; omega)), trivial⟩ ?_
  exact uI
 obtain rfl : k = l.length := by omega
 have hnl : (nmY l ys).take l.length = nmY l ys := List.take_of_length_le (by unfold nmY; simp; omega)
 have hB : dn = encB (rls (Es ++ M)) ids (nmY l ys) := by
  have hnn : (nmY l ys).length = l.length := by unfold nmY; simp; omega
  rw [hdn, hnl, hdone, encB, hnn]
 refine kM (qP (qP (zJ (qJ (qK (qI (uM rfl (uA rfl (uA rfl (qL (qJ (kD ?_))))))))))))
 exact uZ rfl (.tmp rfl (.tmp rfl .nil)) (.inr ⟨M, f', ys, g, c, dn, ho, rfl, by rw [hB, hids], hM, hkn, hyl, hsl, rfl⟩)
end
end Go.Proofs.YtkkjjablmmmmkaaGreatDoor
