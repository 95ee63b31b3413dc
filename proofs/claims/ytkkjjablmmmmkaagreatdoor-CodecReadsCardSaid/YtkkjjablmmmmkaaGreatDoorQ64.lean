/- Package codec: Rules; varint.PutBytes; plain lemmas for Encode. -/
import Derived.Test.YtkkjjablmmmmkaaGreatDoorQ02
import Derived.Test.YtkkjjablmmmmkaaGreatDoorQ13
import Derived.Test.YtkkjjablmmmmkaaGreatDoorQ63
set_option linter.unusedVariables false
set_option linter.unusedSimpArgs false
namespace Go.Proofs.YtkkjjablmmmmkaaGreatDoor
section
open Go Go.RowKit Sl Eg
set_option maxRecDepth 10000
variable {E : Env} {Es : List Ent} {pp tb s most m bm : Nat} {f : Int → Option Value}
theorem qVo (hE : Seat E) {g c : Nat} {bs : List UInt8} (hn : bs.length ≤ 1099511627776) : Ct E 38 [.slice (some ⟨g, 0, none⟩) bs.length c] [ro g (byC bs)] (fun v Q => ∃ g' c', v = .slice (some ⟨g', 0, none⟩) (qAu bs).length c' ∧ Q = [ro g (byC bs), sl (some ⟨g', 0, none⟩) c' 5 1 (qAu bs).length (byC (qAu bs))]) := by
 have h10 := qAi (n := bs.length) (by omega)
 have hp := qCa bs.length
 have hbl := qLo bs
 have hbb : (qAu bs).length = (vput bs.length).length + bs.length := List.length_append
 have hb1 : ((vput bs.length).length + (byC bs).length) * 1 ≤ 140737488355328 := by omega
 have hb2 : (vput bs.length).length + (byC bs).length ≤ maxLen := by unfold maxLen; omega
 refine zN (hE.fn Tryz.func38) rfl rfl rfl (fun R => ?_)
 simp only [qAe, List.cons_append, List.nil_append]
 refine qK (qI (uA rfl (qL (qJ (qK (qI (uM rfl (qA (qQ rfl (hE.t rfl)) rfl ?_))))))))
 refine qA (kK rfl (hE.t rfl) (hE.t rfl) (by first | exact kL (by omega) (by omega) | exact kM (by omega) (by omega))) rfl ?_
 refine uU (uC (qHd (n := bs.length) hE (by omega)) rfl ?_)
 rintro _ _ ⟨g2, c2, rfl, rfl⟩
 simp only [List.cons_append, List.nil_append]
 refine uM rfl (uU ?_)
 refine qDw (us := byC bs) (q := ro g (byC bs)) (hE.t rfl) (hE.t rfl) rfl rfl rfl hbl.symm (fun _ => ⟨g, 0, rfl, rd_ro⟩) (by ((repeat constructor); done)) (by ((repeat constructor); done)) (qBa bs) hb1 hb2 (fun p1 c1 m1 x1 hm1 hx1 => ?_)
 obtain rfl : m1 = (qAu bs).length := by omega
 obtain rfl : x1 = byC (qAu bs) := hx1.trans (qAt _ _).symm
 refine qOl (p := sl p1 c1 5 1 (qAu bs).length (byC (qAu bs))) (by ((repeat constructor); done)) (fun _ h => qAk h (by omega)) ?_
 rintro ⟨g', rfl⟩
 refine uA rfl (qL (qJ (zY ?_)))
 apply zZ
 ·rfl
 ·(apply Rs.tmp rfl; exact Rs.nil)
 ·exact ⟨g', c1, rfl, rfl⟩
 ·(apply ent; (repeat constructor); done)
theorem ys_ok {M : List Ent} {l : List (List UInt8 × Int)} {ys : List Nat} (hl : ∀ p ∈ l, 0 ≤ p.2 → p.2 ≤ (Es.length : Nat) → Eg.len (rls Es) p.2.toNat ≤ 256) (hI : InR Es.length l) (hyl : ys.length = l.length) (hs : SigL (rls (Es ++ M)) (rawN l) ys) : ∀ y ∈ ys, y ≤ (Es ++ M).length ∧ Eg.len (rls (Es ++ M)) y ≤ 256 := fun y hy => by
 obtain ⟨i, hi⟩ := List.getElem?_of_mem hy
 have hil := (List.getElem?_eq_some_iff.1 hi).1
 obtain ⟨p, hp⟩ : ∃ p, l[i]? = some p := ⟨_, List.getElem?_eq_getElem (by omega)⟩
 have hpm := List.mem_of_getElem? hp
 have hx : (rawN l)[i]? = some p.2.toNat := by unfold rawN; rw [List.getElem?_map, hp]; rfl
 have h := hs i _ y hx hi
 have hIp := hI p hpm
 refine ⟨by have := h.2.2.1.1; rwa [zP] at this, ?_⟩
 unfold Eg.len
 rw [h.2.1, kD, qCp _ (by rw [zP]; omega)]
 exact hl p hpm hIp.1 hIp.2
theorem nuF_at {ids : List Nat} {k x : Nat} (h : ids[k]? = some x) (hn : ids.Nodup) : setF (nuF (ids.take k)) (x : Nat) (.int .i64 ((k + 1 : Nat) : Int)) = nuF (ids.take (k + 1)) := by
 have hk := (List.getElem?_eq_some_iff.1 h).1
 have e : (ids.take k).length = k := by simp; omega
 have htk : ids.take (k + 1) = ids.take k ++ [x] := by rw [List.take_add_one, h]; rfl
 have hx : x ∉ ids.take k := fun hm => by
  have : (ids.take k ++ [x]).Nodup := htk ▸ hn.sublist (List.take_sublist _ _)
  exact (List.nodup_append.1 this).2.2 x hm x (by simp) rfl
 have := nuF_set hx
 rw [e] at this
 rw [this, htk]
theorem qLj (I : List Nat) (r : Rl) : (qBg I r).kind = r.kind := by cases r <;> rfl
theorem qKp (I : List Nat) (r : Rl) : (qBg I r).byte = r.byte := by cases r <;> rfl
theorem qFg (I : List Nat) (r : Rl) : (qBg I r).times = r.times := by cases r <;> rfl
theorem qYr {I : List Nat} (h : 0 ∉ I) (r : Rl) : (qBg I r).left = numb I r.left := by cases r <;> first | rfl | exact (qBi.2 h).symm
theorem qUn {I : List Nat} (h : 0 ∉ I) (r : Rl) : (qBg I r).right = numb I r.right := by cases r <;> first | rfl | exact (qBi.2 h).symm
theorem qWq {I A : List Nat} {x n : Nat} {r : Rl} (hI : I = A ++ [x]) (ho : r.ok n) (hk : ∀ k ∈ kids r, k ∈ A) : (qBg I r).ok (A.length + 1) ∧ ∀ B, qBg (I ++ B) r = qBg I r := by
 subst hI
 have key : ∀ k ∈ A, 1 ≤ numb (A ++ [x]) k ∧ numb (A ++ [x]) k ≤ A.length := fun k hk => by
  rw [qKe hk]
  have := qEs A k
  have : numb A k ≠ 0 := fun e => qBi.1 e hk
  omega
 have app : ∀ B, ∀ k ∈ A, numb (A ++ [x] ++ B) k = numb (A ++ [x]) k := fun B k hk => qKe (by simp [hk])
 cases r with
 | letter b => exact ⟨trivial, fun _ => rfl⟩
 | pair a b =>
  have h1 := key a (hk a (by simp [kids]))
  have h2 := key b (hk b (by simp [kids]))
  refine ⟨⟨h1.1, by omega, h2.1, by omega⟩, fun B => ?_⟩
  simp only [qBg, app B a (hk a (by simp [kids])), app B b (hk b (by simp [kids]))]
 | power a k =>
  have h1 := key a (hk a (by simp [kids]))
  simp only [Rl.ok] at ho
  refine ⟨⟨h1.1, by omega, ho.2.2⟩, fun B => ?_⟩
  simp only [qBg, app B a (hk a (by simp [kids]))]
theorem qJh (i : Nat) (hi : i ≤ 1099511627776) (r : Rl) (ht : r.times ≤ 1152921504606846976) : 0 < (rulB i r).length ∧ (rulB i r).length ≤ 21 := by
 cases r with
 | letter b => simp [rulB]
 | pair a b =>
  have h1 := qAi (n := i - a) (by omega)
  have h2 := qAi (n := i - b) (by omega)
  simp only [rulB, List.length_cons, List.length_append]; omega
 | power a k =>
  simp only [Rl.times] at ht
  have h1 := qAi (n := i - a) (by omega)
  have h2 := qAi (n := k - 2) (by omega)
  simp only [rulB, List.length_cons, List.length_append]; omega
def nmY (l : List (List UInt8 × Int)) (ys : List Nat) : List (List UInt8 × Nat) := (l.map (·.1)).zip ys
theorem zCx (ids : List Nat) (A : List (List UInt8 × Nat)) (p : List UInt8 × Nat) : encN ids (A ++ [p]) = encN ids A ++ qAu p.1 ++ vput (numb ids p.2) := by simp [encN, qAu]
theorem nmY_take {l : List (List UInt8 × Int)} {ys : List Nat} {k y : Nat} {p : List UInt8 × Int} (hp : l[k]? = some p) (hy : ys[k]? = some y) : (nmY l ys).take (k + 1) = (nmY l ys).take k ++ [(p.1, y)] := by
 have : (nmY l ys)[k]? = some (p.1, y) := by
  unfold nmY
  rw [List.getElem?_zip_eq_some]
  exact ⟨by rw [List.getElem?_map, hp]; rfl, hy⟩
 rw [List.take_add_one, this]
 rfl
end
section
open Go Go.RowKit Sl Eg
set_option maxRecDepth 10000
variable {E : Env} {Es : List Ent} {pp tb s most m bm : Nat} {f : Int → Option Value}
structure EnG where
 k : Nat
 done : List UInt8
 g : Nat
 c : Nat
theorem zBp (hE : Seat E) (hB : Base E.w0) {l : List (List UInt8 × Int)} {a : Option Addr} {ca : Nat} {q : HP} (hq : Rdb E.w0 a (nlC l) q) (hn : l.length ≤ 1000)
  (hl : ∀ p ∈ l, 0 ≤ p.2 → p.2 ≤ Es.length → Eg.len (rls Es) p.2.toNat ≤ 256) (hroom : Es.length + 512 * l.length ≤ most) (hk : Kn (rls Es) f) :
  Ct E 14 [.pointer (some ⟨m, 0, none⟩), .slice a l.length ca] [cells pp [.pointer (some ⟨s, 0, none⟩), .pointer (some ⟨tb, 0, none⟩)] 106, tabP tb s (rls Es), zQ s most Es, cells m [.pointer (some ⟨pp, 0, none⟩), .map (some bm)] 103, mapF bm .i64 f, q]
   (fun v Q => (∃ e, SgE Es.length l e ∧ v = .tuple #[.slice none 0 0, .iface 36 (.int .i64 e)] ∧ Q = [cells pp [.pointer (some ⟨s, 0, none⟩), .pointer (some ⟨tb, 0, none⟩)] 106, tabP tb s (rls Es), zQ s most Es, cells m [.pointer (some ⟨pp, 0, none⟩), .map (some bm)] 103, mapF bm .i64 f, q]) ∨
    ∃ M f' ys g c B, SgO Es.length l ∧ v = .tuple #[.slice (some ⟨g, 0, none⟩) B.length c, .nilIface] ∧ B = encB (rls (Es ++ M)) (kF (rls (Es ++ M)) ys []) (nmY l ys) ∧ M.length ≤ 512 * l.length ∧ Kn (rls (Es ++ M)) f' ∧ ys.length = l.length ∧ SigL (rls (Es ++ M)) (rawN l) ys ∧ Q = [cells pp [.pointer (some ⟨s, 0, none⟩), .pointer (some ⟨tb, 0, none⟩)] 106, tabP tb s (rls (Es ++ M)), zQ s most (Es ++ M), cells m [.pointer (some ⟨pp, 0, none⟩), .map (some bm)] 103, mapF bm .i64 f', q, sl (some ⟨g, 0, none⟩) c 5 1 B.length (byC B)]) := by
 refine zN (hE.fn Tryz.func14) rfl rfl rfl (fun R => ?_)
 simp only [qAe, List.cons_append, List.nil_append]
 refine qK (qI (uA rfl (uA rfl (qL (qJ (qK (qI (uM rfl (uM rfl ?_)))))))))
 refine uU (uC (qQs (s := s) (tb := tb) (most := most) (f := f) (m := m) (pp := pp) (bm := bm) hE hB hq hn hl hroom hk) rfl ?_)
 rintro _ _ (⟨e, he, rfl, rfl⟩ | ⟨M, f', ys, p', c', ho, rfl, hM, hkn, hyl, hsl, rfl⟩)
 ·simp only [List.cons_append, List.nil_append]
  refine uM rfl (qA (qS rfl rfl) rfl (qA (qS rfl rfl) rfl (qA (qS rfl rfl) rfl (uA rfl (uA rfl (uA rfl ?_))))))
  refine qL (qJ (qK (qK (qI (uM rfl (qA (y_err_ne rfl (hE.t rfl)) rfl ?_))))))
  refine qL (qJ (zE rfl (qK (qI (uM rfl (uA rfl (uA rfl (qL (qJ (zY (qU ?_)))))))))))
  apply zZ
  ·rfl
  ·(apply Rs.tmp rfl; apply Rs.tmp rfl; exact Rs.nil)
  ·exact .inl ⟨e, he, rfl, rfl⟩
  ·(apply ent; (repeat constructor); done)
 ·have hyo := ys_ok hl ho.2.2 hyl hsl
  simp only [List.cons_append, List.nil_append]
  refine uM rfl (qA (qS rfl rfl) rfl (qA (qS rfl rfl) rfl (qA (qS rfl rfl) rfl (uA rfl (uA rfl (uA rfl ?_))))))
  refine qL (qJ (qK (qK (qI (uM rfl (qA (qAg rfl (hE.t rfl)) rfl ?_))))))
  refine qL (qJ (zC rfl (zB (qJ (qK (qI (uM rfl (uM rfl ?_))))))))
  refine uU (uC (qPe (s := s) (most := most) (Es := Es ++ M) hE hyl hyo hn) rfl ?_)
  rintro _ _ ⟨pl, cl, rfl, rfl⟩
  simp only [List.cons_append, List.nil_append]
  refine qOl (p := zQ s most (Es ++ M)) (by ((repeat constructor); done)) (fun _ h => qAn h) (fun hsay => ?_)
  have hmr : qAx = 1048576 := rfl
  have hLl := zP (Es ++ M)
  have hao : AccOk (rls (Es ++ M)) (kF (rls (Es ++ M)) ys []) := AccOk.visits hsay.1 (fun y hy => by have := (hyo y hy).1; omega)
  have hord := qId hsay.1 ys [] (qOf _)
  obtain ⟨ids, hids⟩ : ∃ ids, ids = kF (rls (Es ++ M)) ys [] := ⟨_, rfl⟩
  rw [← hids] at hao hord ⊢
  have hal := hao.len
  have h0i : 0 ∉ ids := fun h => by have := (hao.2 0 h).1; omega
  refine uA rfl (qL (qJ (qK (qI (uM rfl (qA (qQ rfl (hE.t rfl)) rfl ?_))))))
  refine uU ?_
  refine qZt .i64 (kt := 37) (et := 3) (by rw [hE.P]; kernel_rfl) rfl (fun b35 => ?_)
  refine uA rfl (qL (qJ ?_))
  rw [nuF_nil]
  refine qK (qI (uM rfl (qA (qQ rfl (hE.t rfl)) rfl ?_)))
  refine qA (kK rfl (hE.t rfl) (hE.t rfl) (by first | exact kL (by omega) (by omega) | exact kM (by omega) (by omega))) rfl ?_
  refine uU (uC (qHd (n := ids.length) hE (by omega)) rfl ?_)
  rintro _ _ ⟨g0, c0, rfl, rfl⟩
  simp only [List.cons_append, List.nil_append]
  have hv10 := qAi (n := ids.length) (by omega)
  refine uA rfl (qL (qJ (qK (qK (qI (uM rfl (qA (qQ rfl (hE.t rfl)) rfl ?_)))))))
  refine uM rfl (qL (qJ (zJ ?_)))
  refine qAl (fun x : EnG => [(1, .slice a l.length ca), (6, .pointer (some ⟨s, 0, none⟩)), (7, .slice p' l.length c'), (10, .map (some b35)), (11, .slice (some ⟨x.g, 0, none⟩) x.done.length x.c), (40, .slice pl ids.length cl), (41, .int .i64 (ids.length : Nat)), (42, .int .i64 (x.k : Nat))])
   (fun x => [zQ s most (Es ++ M), cells pp [.pointer (some ⟨s, 0, none⟩), .pointer (some ⟨tb, 0, none⟩)] 106, tabP tb s (rls (Es ++ M)), cells m [.pointer (some ⟨pp, 0, none⟩), .map (some bm)] 103, mapF bm .i64 f', q, sl p' c' 37 1 l.length (idC ys), mapF b35 .i64 (nuF (ids.take x.k)), sl (some ⟨x.g, 0, none⟩) x.c 5 1 x.done.length (byC x.done), sl pl cl 37 1 ids.length (idC ids), R]) (fun x => ids.length - x.k)
   (fun x => x.k ≤ ids.length ∧ x.done = vput ids.length ++ encR (rls (Es ++ M)) ids x.k ∧ x.done.length ≤ 10 + 21 * x.k) ⟨0, vput ids.length, g0, c0⟩ ⟨Nat.zero_le _, by simp [encR], by simp only; omega⟩ ⟨rfl, rfl, rfl, rfl, rfl, rfl, rfl, rfl, trivial⟩ (by (apply ent; (repeat constructor); done)) ?_
  rintro ⟨k, done, g, c⟩ ⟨hk1, hdone, hdl⟩
  simp only at hk1 hdone hdl ⊢
  refine qK (qI (qA (y_lt rfl rfl) rfl ?_))
  refine qL (qJ (qK ?_))
  refine zD rfl (fun h => ?_) (fun h => ?_)
  ·have hkl : k < ids.length := by omega
   obtain ⟨x, hx⟩ : ∃ x, ids[k]? = some x := ⟨_, List.getElem?_eq_getElem hkl⟩
   have hxx := hao.2 x (List.mem_of_getElem? hx)
   obtain ⟨i, rfl⟩ : ∃ i, x = i + 1 := ⟨x - 1, by omega⟩
   have hent : (Es ++ M)[i]? = some ((Es ++ M)[i]'(by omega)) := List.getElem?_eq_getElem (by omega)
   generalize (Es ++ M)[i]'(by omega) = en at hent
   have hri := qRo hent
   have hsplit : ids = ids.take k ++ (i + 1) :: ids.drop (k + 1) := by
    have := List.take_append_drop k ids
    rw [qFu hx] at this
    exact this.symm
   have hkids := hord _ _ _ _ hsplit hri
   have htk : ids.take (k + 1) = ids.take k ++ [i + 1] := by rw [List.take_add_one, hx]; rfl
   have htl : (ids.take k).length = k := by simp; omega
   obtain ⟨hro, hrn⟩ := qWq htk (hsay.1.ok _ _ hri) hkids
   rw [htl] at hro
   have hrn2 : qBg ids en.r = qBg (ids.take (k + 1)) en.r := by
    have := hrn (ids.drop (k + 1))
    rwa [List.take_append_drop] at this
   have h0t : 0 ∉ ids.take (k + 1) := fun h => h0i (List.mem_of_mem_take h)
   have hrt : (qBg (ids.take (k + 1)) en.r).times ≤ 1152921504606846976 := by
    rw [qFg]
    have hsh := hsay.1.short (i + 1)
    have hmx : kE = 1152921504606846976 := rfl
    have hok := hsay.1.ok _ _ hri
    generalize en.r = r at hri hok ⊢
    cases r with
    | letter b => simp [Rl.times]
    | pair a b => simp [Rl.times]
    | power x t =>
     have e := qEo hri hok
     simp only [Rl.ok] at hok
     have h1 := hsay.1.pos x hok.1 (by omega)
     have h2 : t * 1 ≤ t * Eg.len (rls (Es ++ M)) x := Nat.mul_le_mul_left _ h1
     simp only [Rl.times]
     have e2 : Eg.len (rls (Es ++ M)) (i + 1) = (txt (rls (Es ++ M)) (i + 1)).length := rfl
     have e3 : t * Eg.len (rls (Es ++ M)) x = Eg.len (rls (Es ++ M)) (i + 1) := by rw [e]
     omega
   have hrl := qJh (k + 1) (by omega) (qBg (ids.take (k + 1)) en.r) hrt
   refine qDg (p := sl pl cl 37 1 ids.length (idC ids)) (by ((repeat constructor); done)) (fun _ h => qAk h (by omega)) ?_
   rintro ⟨gx, rfl⟩
   have f0 := qAp hx (0 + ((k : Nat) : Int).toNat) (by omega)
   have f1 := qAp hx (((k : Nat) : Int).toNat) (by omega)
   refine zB (qJ (qK (zJ (qK (qI (uM rfl (qA (zL rfl rfl (hE.t rfl) (by omega) (by omega)) rfl ?_)))))))
   refine uL (hE.t rfl) ?_
   refine uA rfl (uA rfl (qL (qJ (qK (qI (uM rfl (uM rfl (uM rfl (qA (qAd rfl rfl (by omega) (by omega)) rfl ?_)))))))))
   refine l_eq 50 (.int .i64 ((k + 1 : Nat) : Int)) rfl (zV (by omega)) ?_
   refine uU ?_
   apply qFi (kt := 37) (et := 3) (by rw [hE.P]; kernel_rfl) (by rw [hE.P]; kernel_rfl) rfl rfl rfl
   ·((repeat constructor); done)
   refine qL (qJ ?_)
   rw [nuF_at hx hao.1]
   refine qK (qI (uM rfl (uM rfl (uU (uC (qHe hE hent) rfl ?_)))))
   rintro _ _ ⟨rfl, rfl⟩
   simp only [List.cons_append, List.nil_append]
   have hf1 : nuF (ids.take (k + 1)) ((en.r.left : Nat) : Int) = nuF (ids.take (k + 1)) ((en.r.left : Nat) : Int) := rfl
   have hf2 : nuF (ids.take (k + 1)) ((en.r.right : Nat) : Int) = nuF (ids.take (k + 1)) ((en.r.right : Nat) : Int) := rfl
   refine uM rfl (qA (qS rfl rfl) rfl (qA (qS rfl rfl) rfl (uU (kC (hE.t rfl) (fun b14 => ?_)))))
   refine uU (uS (hE.t rfl) ?_)
   refine uA rfl (qL (qJ (qK (qI (uM rfl (uF (hE.t rfl) ?_))))))
   refine uL (hE.t rfl) ?_
   refine qA (qIl (kt := 37) (et := 3) (z := .int .i64 0) (by rw [hE.P]; kernel_rfl) (by rw [hE.P]; kernel_rfl) (fun w => by rw [hE.P]; kernel_rfl) rfl rfl (by ((repeat constructor); done)) (by assumption)) rfl ?_
   refine l_eq 60 (.int .i64 (numb (ids.take (k + 1)) en.r.left : Nat)) rfl (qVt _ _) ?_
   refine uF (hE.t rfl) ?_
   refine uU (uS (hE.t rfl) ?_)
   refine qL (qJ (qK (qI (uM rfl (uF (hE.t rfl) ?_)))))
   refine uL (hE.t rfl) ?_
   refine qA (qIl (kt := 37) (et := 3) (z := .int .i64 0) (by rw [hE.P]; kernel_rfl) (by rw [hE.P]; kernel_rfl) (fun w => by rw [hE.P]; kernel_rfl) rfl rfl (by ((repeat constructor); done)) (by assumption)) rfl ?_
   refine l_eq 65 (.int .i64 (numb (ids.take (k + 1)) en.r.right : Nat)) rfl (qVt _ _) ?_
   refine uF (hE.t rfl) ?_
   refine uU (uS (hE.t rfl) ?_)
   refine qL (qJ ?_)
   refine qCi (kA (p := cells b14 [.int .i64 (en.r.kind : Nat), .int .u8 (en.r.byte : Nat), .int .i64 (numb (ids.take (k + 1)) en.r.left : Nat), .int .i64 (numb (ids.take (k + 1)) en.r.right : Nat), .int .i64 (en.r.times : Nat)] 82) (p' := cells b14 [.int .i64 (Rl.kind ((qBg (ids.take (k + 1)) en.r)) : Nat), .int .u8 (Rl.byte ((qBg (ids.take (k + 1)) en.r)) : Nat), .int .i64 (Rl.left ((qBg (ids.take (k + 1)) en.r)) : Nat), .int .i64 (Rl.right ((qBg (ids.take (k + 1)) en.r)) : Nat), .int .i64 (Rl.times ((qBg (ids.take (k + 1)) en.r)) : Nat)] 82) (by ((repeat constructor); done)) (fun _ h => by rw [qLj, qKp, qYr h0t, qUn h0t, qFg]; exact h)) ?_
   refine qK (qI ?_)
   apply qA
   ·(apply zU rfl (hE.t rfl) rfl; (repeat (first | rfl | assumption | constructor)); done)
   ·rfl
   refine uM rfl (qA (qAd rfl rfl (by omega) (by omega)) rfl ?_)
   refine l_eq 70 (.int .i64 ((k + 1 : Nat) : Int)) rfl (zV (by omega)) ?_
   refine uU (uC (ct_rPut (r := qBg (ids.take (k + 1)) en.r) (n := k + 1) hE hro (by omega) (by omega) hrt) rfl ?_)
   rintro _ _ ⟨gr, cr, rfl, rfl⟩
   simp only [List.cons_append, List.nil_append]
   refine uM rfl (qA (qS rfl rfl) rfl (qA (qS rfl rfl) rfl (uA rfl (uA rfl (qL (qJ (qI (uM rfl (uM rfl (uU ?_))))))))))
   apply qAo (hE.t rfl) (hE.t rfl) rfl rfl rfl
   ·((repeat constructor); done)
   ·((repeat constructor); done)
   ·exact qBa _
   ·exact hrl.1
   ·omega
   ·unfold maxLen; omega
   intro g1 c1 m' x' hm' hx'
   obtain rfl : m' = (done ++ rulB (k + 1) (qBg (ids.take (k + 1)) en.r)).length := hm'.trans List.length_append.symm
   obtain rfl : x' = byC (done ++ rulB (k + 1) (qBg (ids.take (k + 1)) en.r)) := hx'.trans (qAt _ _).symm
   clear hm' hx'
   refine uA rfl (qL (zH (qJ (qI (qA (qAd rfl rfl (by omega) (by omega)) rfl ?_)))))
   refine uM rfl (qL ?_)
   refine zR (ι := EnG) (j := ⟨k + 1, done ++ rulB (k + 1) (qBg (ids.take (k + 1)) en.r), g1, c1⟩) ⟨by simp only; omega, by simp only; rw [qJb hx hri, ← List.append_assoc, ← hdone, hrn2], by simp only [List.length_append]; omega⟩ (by simp only; omega) ⟨rfl, rfl, rfl, rfl, rfl, rfl, rfl, congrArg some (zV (by simp only; omega)), trivial⟩ ?_
   (apply ent; (repeat constructor); done)
  ·obtain rfl : k = ids.length := by omega
   rw [List.take_length]
   clear h hk1
   have hv2 := qAi (n := l.length) (by omega)
   refine kH (qP (qP (zG (qJ (qK (qI (uM rfl (uM rfl (qA (qQ rfl (hE.t rfl)) rfl ?_)))))))))
   refine qA (kK rfl (hE.t rfl) (hE.t rfl) (by first | exact kL (by omega) (by omega) | exact kM (by omega) (by omega))) rfl ?_
   refine uU (uC (qHd (n := l.length) hE (by omega)) rfl ?_)
   rintro _ _ ⟨g2, c2, rfl, rfl⟩
   simp only [List.cons_append, List.nil_append]
   refine uU ?_
   apply qAo (hE.t rfl) (hE.t rfl) rfl rfl rfl
   ·((repeat constructor); done)
   ·((repeat constructor); done)
   ·exact qBa _
   ·exact (qCa _)
   ·omega
   ·unfold maxLen; omega
   intro g3 c3 m' x' hm' hx'
   obtain rfl : m' = (done ++ vput l.length).length := hm'.trans List.length_append.symm
   obtain rfl : x' = byC (done ++ vput l.length) := hx'.trans (qAt _ _).symm
   clear hm' hx'
   have hd3 : (done ++ vput l.length).length = done.length + (vput l.length).length := List.length_append
   refine uA rfl (qL (qJ (qK (qK (qI (uM rfl (qA (qQ rfl (hE.t rfl)) rfl ?_)))))))
   refine uM rfl (qL (qJ (zJ ?_)))
   refine qAl (fun x : EnG => [(7, .slice p' l.length c'), (10, .map (some b35)), (11, .slice (some ⟨x.g, 0, none⟩) x.done.length x.c), (84, .slice a l.length ca), (85, .int .i64 (l.length : Nat)), (86, .int .i64 (x.k : Nat))])
    (fun x => [zQ s most (Es ++ M), cells pp [.pointer (some ⟨s, 0, none⟩), .pointer (some ⟨tb, 0, none⟩)] 106, tabP tb s (rls (Es ++ M)), cells m [.pointer (some ⟨pp, 0, none⟩), .map (some bm)] 103, mapF bm .i64 f', q, sl p' c' 37 1 l.length (idC ys), mapF b35 .i64 (nuF ids), sl (some ⟨x.g, 0, none⟩) x.c 5 1 x.done.length (byC x.done), R]) (fun x => l.length - x.k)
    (fun x => x.k ≤ l.length ∧ x.done = done ++ vput l.length ++ encN ids ((nmY l ys).take x.k) ∧ x.done.length ≤ 10 + 21 * ids.length + 10 + 52 * x.k) ⟨0, done ++ vput l.length, g3, c3⟩ ⟨Nat.zero_le _, by simp [encN], by simp only; omega⟩ ⟨rfl, rfl, rfl, rfl, rfl, rfl, trivial⟩ (by (apply ent; (repeat constructor); done)) ?_
   rintro ⟨k, dn, g, c⟩ ⟨hk1, hdn, hdl2⟩
   simp only at hk1 hdn hdl2 ⊢
   refine qK (qI (qA (y_lt rfl rfl) rfl ?_))
   refine qL (qJ (qK ?_))
   refine zD rfl (fun h => ?_) (fun h => ?_)
   ·have hkl : k < l.length := by omega
    obtain ⟨p, hp⟩ : ∃ p, l[k]? = some p := ⟨_, List.getElem?_eq_getElem hkl⟩
    obtain ⟨y, hy⟩ : ∃ y, ys[k]? = some y := ⟨_, List.getElem?_eq_getElem (by omega)⟩
    have hpl := (ho.1 p (List.mem_of_getElem? hp)).2.1
    obtain ⟨go, o, rfl, hq'⟩ := hq (qYc (by omega))
    have fm := qVw hp
    have hnb := qEs ids y
    have hv1 := qAi (n := p.1.length) (by omega)
    have hv3 := qAi (n := numb ids y) (by omega)
    have hbl : (qAu p.1).length = (vput p.1.length).length + p.1.length := List.length_append
    have hbp : 0 < (qAu p.1).length := by have := qCa p.1.length; omega
    refine qDg (p := sl p' c' 37 1 l.length (idC ys)) (by ((repeat constructor); done)) (fun _ h => qAk h (by omega)) ?_
    rintro ⟨gy, rfl⟩
    have f0 := qAp hy (0 + ((k : Nat) : Int).toNat) (by omega)
    have f1 := qAp hy (((k : Nat) : Int).toNat) (by omega)
    have hf1 : nuF ids ((y : Nat) : Int) = nuF ids ((y : Nat) : Int) := rfl
    refine zB (qJ (qK (zJ (qK (qI (uM rfl (qA (qO rfl rfl (hE.t rfl) (by omega) (by omega)) rfl ?_)))))))
    apply qA
    ·(apply kN rfl (hE.t rfl) rfl (by assumption); (focus ((repeat constructor); done)); (focus exact fm); (focus rfl); (focus omega))
    ·rfl
    refine uU (kC (hE.t rfl) (fun b19 => ?_))
    refine uA rfl (uU (uS (hE.t rfl) ?_))
    refine qL (qJ (qK (qI (uM rfl (uF (hE.t rfl) ?_)))))
    refine uL (hE.t rfl) ?_
    refine uU ?_
    refine qWs rfl (hE.t rfl) (hE.t rfl) (hE.t rfl) (fun gb cb => ?_)
    refine uU (uC (qVo (g := gb) (c := cb) (bs := p.1) hE (by omega)) rfl ?_)
    rintro _ _ ⟨g4, c4, rfl, rfl⟩
    simp only [List.cons_append, List.nil_append]
    refine uU ?_
    apply qAo (hE.t rfl) (hE.t rfl) rfl rfl rfl
    ·((repeat constructor); done)
    ·((repeat constructor); done)
    ·exact qBa _
    ·exact hbp
    ·omega
    ·unfold maxLen; omega
    intro g5 c5 m' x' hm' hx'
    obtain rfl : m' = (dn ++ qAu p.1).length := hm'.trans List.length_append.symm
    obtain rfl : x' = byC (dn ++ qAu p.1) := hx'.trans (qAt _ _).symm
    clear hm' hx'
    have hd5 : (dn ++ qAu p.1).length = dn.length + (qAu p.1).length := List.length_append
    refine uA rfl (qL (qJ (qI (uM rfl (uM rfl (uM rfl (uM rfl (qA (zL rfl rfl (hE.t rfl) (by omega) (by omega)) rfl ?_))))))))
    refine uL (hE.t rfl) ?_
    refine qA (qIl (kt := 37) (et := 3) (z := .int .i64 0) (by rw [hE.P]; kernel_rfl) (by rw [hE.P]; kernel_rfl) (fun w => by rw [hE.P]; kernel_rfl) rfl rfl (by ((repeat constructor); done)) (by assumption)) rfl ?_
    refine l_eq 103 (.int .i64 (numb ids y : Nat)) rfl (qVt _ _) ?_
    refine qA (kK rfl (hE.t rfl) (hE.t rfl) (by first | exact kL (by omega) (by omega) | exact kM (by omega) (by omega))) rfl ?_
    refine uU (uC (qHd (n := numb ids y) hE (by omega)) rfl ?_)
    rintro _ _ ⟨g6, c6, rfl, rfl⟩
    simp only [List.cons_append, List.nil_append]
    refine uU ?_
    apply qAo (hE.t rfl) (hE.t rfl) rfl rfl rfl
    ·((repeat constructor); done)
    ·((repeat constructor); done)
    ·exact qBa _
    ·exact (qCa _)
    ·omega
    ·unfold maxLen; omega
    intro g7 c7 m' x' hm' hx'
    obtain rfl : m' = (dn ++ qAu p.1 ++ vput (numb ids y)).length := hm'.trans List.length_append.symm
    obtain rfl : x' = byC (dn ++ qAu p.1 ++ vput (numb ids y)) := hx'.trans (qAt _ _).symm
    clear hm' hx'
    have hd7 : (dn ++ qAu p.1 ++ vput (numb ids y)).length = (dn ++ qAu p.1).length + (vput (numb ids y)).length := List.length_append
    refine uA rfl (qL (zH (qJ (qI (qA (qAd rfl rfl (by omega) (by omega)) rfl ?_)))))
    refine uM rfl (qL ?_)
    refine zR (ι := EnG) (j := ⟨k + 1, dn ++ qAu p.1 ++ vput (numb ids y), g7, c7⟩) ⟨by simp only; omega, by simp only; rw [nmY_take hp hy, zCx, hdn]; simp only [List.append_assoc], by simp only; omega⟩ (by simp only; omega) ⟨rfl, rfl, rfl, rfl, rfl, congrArg some (zV (by simp only; omega)), trivial⟩ ?_
    (apply ent; (repeat constructor); done)
   ·obtain rfl : k = l.length := by omega
    have hnl : (nmY l ys).take l.length = nmY l ys := List.take_of_length_le (by unfold nmY; simp; omega)
    have hB : dn = encB (rls (Es ++ M)) ids (nmY l ys) := by
     have hnn : (nmY l ys).length = l.length := by unfold nmY; simp; omega
     rw [hdn, hnl, hdone, encB, hnn]
    refine kH (qP (qP (zG (qJ (qK (qI (uM rfl (uA rfl (uA rfl (qL (qJ (zY ?_))))))))))))
    apply zZ
    ·rfl
    ·(apply Rs.tmp rfl; apply Rs.tmp rfl; exact Rs.nil)
    ·exact .inr ⟨M, f', ys, g, c, dn, ho, rfl, by rw [hB, hids], hM, hkn, hyl, hsl, rfl⟩
    ·(apply ent; (repeat constructor); done)
end
end Go.Proofs.YtkkjjablmmmmkaaGreatDoor
