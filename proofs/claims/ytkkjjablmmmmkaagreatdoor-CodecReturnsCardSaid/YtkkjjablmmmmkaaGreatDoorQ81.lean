import Derived.Test.YtkkjjablmmmmkaaGreatDoorQ80
set_option linter.all false
namespace Go.Proofs.YtkkjjablmmmmkaaGreatDoor
open Go Go.RowKit Sl Eg
set_option maxRecDepth 10000
section
variable {E : Env} {Es : List Ent} {pp tb s most m bm : Nat} {f : Int → Option Value}
theorem SigOf.sg {L : List Rl} {x y : Nat} (h : SigOf L x y) : Sg L (txt L x) y := h.2.2.2
theorem qYd (hE : Seat E) (hB : Base E.w0) {x y : Nat} (hx : x ≤ Es.length) (hy : y ≤ Es.length) (hl : len (rls Es) x ≤ 256) (ht : txt (rls Es) x = txt (rls Es) y) (hroom : Es.length + 1024 ≤ most) (hk : Kn (rls Es) f) :
  Ct E 27 [uPt m, .int .i64 (x : Nat), .int .i64 (y : Nat)] [cells pp [uPt s, uPt tb] 106, tabP tb s (rls Es), zR s most Es, cells m [uPt pp, .map (some bm)] 103, mapF bm .i64 f]
   (fun v Q => ∃ M f', v = .tuple #[.bool true, .nilIface] ∧ M.length ≤ 1024 ∧ Kn (rls (Es ++ M)) f' ∧ Q = [cells pp [uPt s, uPt tb] 106, tabP tb s (rls (Es ++ M)), zR s most (Es ++ M), cells m [uPt pp, .map (some bm)] 103, mapF bm .i64 f']) := by
 have hl2 : len (rls Es) y ≤ 256 := by unfold len at hl ⊢; rw [← ht]; exact hl
 have hLl := zQ Es
 refine zO (hE.fn Tryz.func27) rfl rfl rfl (fun R => ?_)
 simp only [qAc, uV, uW]
 refine qK (qI (uA rfl (uA rfl (qL (qJ (qK (qI (uM rfl (uM rfl ?_)))))))))
 refine uX (qRj (Es := Es) (s := s) (tb := tb) (most := most) (f := f) (m := m) (pp := pp) (bm := bm) (x := x) hE hB hx hl (by omega) hk) rfl ?_
 rintro _ _ ⟨M1, f1, y1, rfl, hM1, hk1, hs1, rfl⟩
 have h1 : rls (Es ++ M1) = rls Es ++ rls M1 := kG _ _
 have hE1 : (Es ++ M1).length = Es.length + M1.length := List.length_append
 have hly : len (rls (Es ++ M1)) y ≤ 256 := by rw [h1, qVj _ (by omega)]; exact hl2
 simp only [uV, uW]
 refine uM rfl (uB (qU rfl rfl) (uB (qU rfl rfl) (uA rfl (uA rfl (qL (qJ (qK (qK (qI (uM rfl ?_))))))))))
 refine uB (qAd rfl (hE.t rfl)) ?_
 refine qL (qJ (zC rfl (zB (qJ (qK (qI (uM rfl (uM rfl ?_))))))))
 refine uX (qRj (Es := Es ++ M1) (s := s) (tb := tb) (most := most) (f := f1) (m := m) (pp := pp) (bm := bm) (x := y) hE hB (by omega) hly (by omega) hk1) rfl ?_
 rintro _ _ ⟨M2, f2, y2, rfl, hM2, hk2, hs2, rfl⟩
 have h2 : rls (Es ++ M1 ++ M2) = rls (Es ++ M1) ++ rls M2 := kG _ _
 simp only [uV, uW]
 refine qHx (p := zR s most (Es ++ M1 ++ M2)) uK (fun _ h => (qAb h).1) (fun hw => ?_)
 have hyy : y1 = y2 := by
  have a1 := (hs1.ext (rls M2)).sg
  have a2 := hs2.sg
  rw [← h2] at a1
  have e1 : txt (rls (Es ++ M1 ++ M2)) x = txt (rls Es) x := by rw [h2, qAz _ (by rw [zQ]; omega), h1, qAz _ (by omega)]
  have e2 : txt (rls (Es ++ M1 ++ M2)) y = txt (rls Es) y := by rw [h2, qAz _ (by rw [zQ]; omega), h1, qAz _ (by omega)]
  rw [e1, ht] at a1
  rw [e2] at a2
  exact a1.fn hw a2
 rw [List.append_assoc] at hk2 ⊢
 refine uM rfl (uB (qU rfl rfl) (uB (qU rfl rfl) (uA rfl (uA rfl (qL (qJ (qK (qK (qI (uM rfl ?_))))))))))
 refine uB (qAd rfl (hE.t rfl)) ?_
 refine qL (qJ (zC rfl (zB (qJ (qK (qI (uM rfl (uM rfl (uB (y_eq rfl rfl) ?_)))))))))
 refine uA rfl (uA rfl (qL (qJ (zZ ?_))))
 exact uZ rfl (.tmp rfl (.tmp rfl .nil)) ⟨M1 ++ M2, f2, congrArg (fun b => Value.tuple #[.bool b, .nilIface]) (decide_eq_true (by rw [hyy])), by rw [List.length_append]; omega, hk2, rfl⟩
variable {L : List Rl} {l : List Im} {ys : List Nat}
def dcs (L : List Rl) (ys Z : List Nat) : List Nat := ys.map fun y => Z.getD (numb (kI L ys []) y) 0
theorem qYu (hy : ys.length = l.length) (Z : List Nat) (A : List (List UInt8 × Nat)) (hA : A = nmA l (ys.map (numb (kI L ys [])))) : nmI (nmK Z A l.length) = mkN l (dcs L ys Z) := by
 have hAl : A.length = l.length := by rw [hA]; exact qPa (by rw [List.length_map]; exact hy)
 rw [← hAl, nmK_all]
 apply List.ext_getElem?
 intro i
 unfold nmI
 rw [List.getElem?_map, List.getElem?_map]
 rcases Nat.lt_or_ge i l.length with h | h
 ·obtain ⟨x, hx⟩ : ∃ x, l[i]? = some x := ⟨_, List.getElem?_eq_getElem h⟩
  obtain ⟨y, hyi⟩ : ∃ y, ys[i]? = some y := ⟨_, List.getElem?_eq_getElem (by omega)⟩
  have h1 : A[i]? = some (x.name, numb (kI L ys []) y) := by rw [hA]; exact nmA_at hx (by rw [List.getElem?_map, hyi]; rfl)
  rw [h1, qSc (ids := dcs L ys Z) (id := Z.getD (numb (kI L ys []) y) 0) hx (by unfold dcs; rw [List.getElem?_map, hyi]; rfl)]
  rfl
 rw [List.getElem?_eq_none (by omega), List.getElem?_eq_none (by rw [qHt (by unfold dcs; rw [List.length_map]; exact hy)]; exact h)]
 rfl
theorem qZx (hy : ys.length = l.length) (Z : List Nat) : (dcs L ys Z).length = l.length := by unfold dcs; rw [List.length_map]; exact hy
theorem qZl (h : RsL L l ys) (ht : ∀ (i : Nat) (x : Im) (y : Nat), l[i]? = some x → ys[i]? = some y → txt L y = x.bs) {L2 : List Rl} (hw2 : Wf L2) {Z : List Nat} (hD : DcI (gram L (kI L ys [])) L2 (gram L (kI L ys [])).length Z) : Txs L2 l (dcs L ys Z) := fun i x id hx hi => by
 unfold dcs at hi
 rw [List.getElem?_map] at hi
 obtain ⟨y, hy, rfl⟩ := Option.map_eq_some_iff.1 hi
 have hle : numb (kI L ys []) y ≤ (gram L (kI L ys [])).length := by rw [qEk]; exact qFo _ _
 obtain ⟨z, hz, hzz⟩ := hD.get hle
 rw [List.getD_eq_getElem?_getD, hz, Option.getD_some]
 rcases hzz with ⟨h0, rfl⟩ | hiso
 ·have : y = 0 := by
   rcases h.here (List.mem_of_getElem? hy) with e | e
   ·exact e
   have := qFi e; omega
  subst this
  exact ⟨Nat.zero_le _, by rw [qDz, ← ht i x 0 hx hy, qDz]⟩
 have hin : y ∈ kI L ys [] := by
  rcases h.here (List.mem_of_getElem? hy) with e | e
  ·subst e
   have h1 := qBb.2 h.lis.zero
   have := hiso.pos
   omega
  exact e
 refine ⟨hiso.le.2, ?_⟩
 rw [← hiso.txt h.lis.gwf hw2, ← (h.lis.iso y hin).txt h.wf h.lis.gwf]
 exact ht i x y hx hy
end
section
variable {E : Env}
structure RetG where
 k : Nat
 N : List Ent
 f : Int → Option Value
theorem qLg (hE : Seat E) (hB : Base E.w0) {l : List Im} {a : Option Addr} {ca k : Nat} (hk : k < 256) (hq : Rdb E.w0 a (imC l) old) (hok : ∀ x ∈ l, Rdb E.w0 x.a (byC x.bs) old) (hn : l.length ≤ maxLen) :
  Ct E 9 [.slice a l.length ca, .int .u8 (k : Nat)] [old] (fun v Q => v = .bool true ∧ Q = [old]) := by
 have hmr : 1048576 ≤ qBe := Nat.le_refl _
 refine zO (hE.fn Tryz.func9) rfl rfl rfl (fun R => ?_)
 simp only [qAc, uV, uW]
 refine qK (qI (uA rfl (qL (qJ (qK (qK (qI (uM rfl (uX (ct_good hE hq hn) rfl ?_)))))))))
 rintro _ _ ⟨b1, rfl, hb1, rfl⟩
 simp only [uV, uW]
 refine uB (qBg rfl) ?_
 refine qL (qJ ?_)
 refine qIt rfl (fun g1 => ?_) (fun g1 => ?_)
 ·refine qK (qI ?_)
  refine uA rfl (qL (qJ (zZ (qW ?_))))
  exact uZ rfl (.tmp rfl .nil) ⟨rfl, rfl⟩
 have hg : GoodI l := hb1.1 (by simpa using g1)
 have hl6 := hg.2.2
 refine zB (qJ (qK (qI (uX (qUv (most := 1048576) hE hmr) rfl ?_))))
 rintro _ _ ⟨m, bm, pp, s, tb, rfl, rfl⟩
 simp only [uV, uW]
 refine uX (qUv (most := 1048576) hE hmr) rfl ?_
 rintro _ _ ⟨m2, bm2, pp2, s2, tb2, rfl, rfl⟩
 simp only [uV, uW]
 refine uA rfl (uA rfl (qL (qJ (qK (qI (uM rfl (uM rfl (uM rfl (uB (uAc rfl) ?_)))))))))
 have hr0 : ([] : List Ent).length + 120 * l.length ≤ 1048576 := by rw [List.length_nil]; omega
 refine uX (ct_put (Es := []) (s := s) (tb := tb) (pp := pp) (most := 1048576) (m := m) (bm := bm) (w := k) hE hB hq hok (fun x hx => (hg.1 x hx).2) hl6 (by omega) hr0) rfl ?_
 rintro _ _ ⟨M, ids, p, c, rfl, hM, hil, htx, rfl⟩
 have htx1 : Txs (rls M) l ids := htx
 clear htx
 simp only [uV, uW]
 obtain ⟨n1, o1⟩ := qSf (ids := ids) hg
 have hln1 := qHt hil
 have hT1 : TxOk M (mkN l ids) := qWu hg htx1
 rw [← hln1] at o1
 refine qHx (p := sl p c 39 2 l.length (nlC (mkN l ids))) uK (fun _ h => fun hpos => qAn h hpos) (fun hp1 => ?_)
 have hqa : Rdb E.w0 p (nlC (mkN l ids)) (sl p c 39 2 l.length (nlC (mkN l ids))) := fun hne => by
  obtain ⟨g, rfl⟩ := hp1 (by
   rcases Nat.eq_zero_or_pos l.length with e | e
   ·exact absurd (List.eq_nil_of_length_eq_zero (by rw [qGa, hln1]; omega)) hne
   exact e)
  exact ⟨g, 0, rfl, qKy (fun _ _ h => h)⟩
 have hr1 : M.length + 512 * l.length ≤ 1048576 := by omega
 refine uM rfl (uB (qU rfl rfl) (uB (qU rfl rfl) (uA rfl (uA rfl (qL (qJ (qK (qI (uM rfl (uM rfl ?_))))))))))
 refine uX (qOf (Es := M) (s := s) (tb := tb) (pp := pp) (most := 1048576) (m := m) (bm := bm) (f := fun _ => none) (c := c) hE hB hln1 hqa (by omega) n1 o1 hT1 hr1 (Kn.nil _)) rfl ?_
 rintro _ _ ⟨M1, f1, y1, g1, c1, B1, rfl, hB1, hM1, hk1, hy1, hs1, rfl⟩
 simp only [uV, uW]
 refine qHx (p := zR s 1048576 (M ++ M1)) uK (fun _ h => qAb h) (fun hw1 => ?_)
 have hE1 : (M ++ M1).length = M.length + M1.length := List.length_append
 rw [qZi hil] at hs1
 have q1 : EqL (rls (M ++ M1)) l ids y1 := ⟨hw1.1, hil, hy1, by rw [kG]; exact htx1.ext _, hs1⟩
 have hrs := q1.rsl
 have htx : ∀ (i : Nat) (x : Im) (y : Nat), l[i]? = some x → y1[i]? = some y → txt (rls (M ++ M1)) y = x.bs := fun i x y hx hy => by
  obtain ⟨x', id, h1, h2, h3, h4⟩ := q1.at hy
  rw [hx] at h1
  cases h1
  rw [h3.2.1, h4]
 have hlis := hrs.lis
 have hgl : (gram (rls (M ++ M1)) (kI (rls (M ++ M1)) y1 [])).length = (kI (rls (M ++ M1)) y1 []).length := qEk
 have hvl := hlis.acc.len
 rw [zQ] at hvl
 have hG4 : (gram (rls (M ++ M1)) (kI (rls (M ++ M1)) y1 [])).length ≤ 100000 := by omega
 have hyl : (y1.map (numb (kI (rls (M ++ M1)) y1 []))).length = l.length := by rw [List.length_map]; exact hrs.yl
 have hAl := qPa (l := l) hyl
 have hAs := nmA_snd (l := l) hyl
 have hgv := qUq hrs.wf hrs.bound hlis
 have hnam := hrs.names htx hg
 have hord := nmA_ord (ns := y1.map (numb (kI (rls (M ++ M1)) y1 []))) hg
 have hlen : ∀ x ∈ l, x.bs.length ≤ 60 := fun x hx => (hg.1 x hx).2
 have hrule := fun j h1 h2 => hrs.rule hlen (j := j) h1 h2
 have hB2 : B1 = encA (gram (rls (M ++ M1)) (kI (rls (M ++ M1)) y1 [])) (nmA l (y1.map (numb (kI (rls (M ++ M1)) y1 [])))) := by
  rw [hB1, q1.enc]
  rfl
 rw [← hAs, ← hgl] at hgv
 have hti := hlis.times
 have hgok := qUs hlis.wf hlis.acc hlis.ord
 have hBl : B1.length ≤ 1099511627776 := by
  have h1 := qVu (gram (rls (M ++ M1)) (kI (rls (M ++ M1)) y1 [])) 0 hti (by omega)
  have h2 := qWo (nmA l (y1.map (numb (kI (rls (M ++ M1)) y1 [])))) (fun p hp => by
   have := (hnam p hp).1
   have := this.1.2.1
   omega)
  have h3 := qAq (n := (gram (rls (M ++ M1)) (kI (rls (M ++ M1)) y1 [])).length) (by omega)
  have h4 := qAq (n := (nmA l (y1.map (numb (kI (rls (M ++ M1)) y1 [])))).length) (by omega)
  rw [hB2]
  simp only [encA, List.length_append]
  omega
 have hnames := fun Z => qYu (L := rls (M ++ M1)) (l := l) hrs.yl Z _ rfl
 have hr7 : ([] : List Ent).length + (gram (rls (M ++ M1)) (kI (rls (M ++ M1)) y1 [])).length ≤ 1048576 := by rw [List.length_nil]; omega
 generalize hAg : nmA l (y1.map (numb (kI (rls (M ++ M1)) y1 []))) = A at *
 refine uM rfl (uB (qU rfl rfl) (uB (qU rfl rfl) (uA rfl (uA rfl (qL (qJ (qK (qI (uM rfl (uU ?_))))))))))
 refine qFn (hE.t rfl) (fun b43 => ?_)
 refine uM rfl (uU ?_)
 apply qAk (hE.t rfl) (hE.t rfl) rfl rfl rfl
 ·exact uK
 ·exact uK
 ·exact qBz _
 ·omega
 ·unfold maxLen; omega
 intro pt1 ct1 mz xz hmz hxz
 obtain rfl : mz = B1.length := by omega
 obtain rfl : xz = byC B1 := hxz
 refine qHx (p := sl pt1 ct1 5 1 B1.length (byC B1)) uK (fun _ h => And.intro (fun hpos => qAn h hpos) (qGn h).1) ?_
 rintro ⟨hpt, hcp1⟩
 have hqs1 : Rdb E.w0 pt1 (byC B1) (sl pt1 ct1 5 1 B1.length (byC B1)) := qVn (qGf B1) hpt
 clear hpt
 refine uX (qSs (Es := M ++ M1) (s := s) (most := 1048576) (tb := tb) (pp := pp) (m := m) (bm := bm) (A := A) hE hB hlis.gwf hgok hG4 hti (fun p hp => (hnam p hp).1) hord (by omega) (fun p hp => ⟨(hnam p hp).1.2, (hnam p hp).2⟩) (fun j h1 h2 => (hrule j h1 h2).2) (fun j h1 h2 => (hrule j h1 h2).1) hgv hB2 hqs1 hcp1 hBl (by omega)) rfl ?_
 rintro _ _ ⟨M2, Z1, pl1, cl1, rfl, hM2, hD1, rfl⟩
 rw [hAl, hnames]
 simp only [uV, uW]
 refine qHx (p := zR s 1048576 (M ++ M1 ++ M2)) uK (fun _ h => (qAb h).1) (fun hw2 => ?_)
 have tx1 := qZl hrs htx hw2 hD1
 have len1 := qZx (L := rls (M ++ M1)) hrs.yl Z1
 generalize dcs (rls (M ++ M1)) y1 Z1 = hs at *
 refine uM rfl (uB (qU rfl rfl) (uB (qU rfl rfl) (uA rfl (uA rfl (qL (qJ (qK (qI (uM rfl (uU ?_))))))))))
 refine qFn (hE.t rfl) (fun b51 => ?_)
 refine uM rfl (uU ?_)
 apply qAk (hE.t rfl) (hE.t rfl) rfl rfl rfl
 ·exact uK
 ·exact uK
 ·exact qBz _
 ·omega
 ·unfold maxLen; omega
 intro pt2 ct2 mz xz hmz hxz
 obtain rfl : mz = B1.length := by omega
 obtain rfl : xz = byC B1 := hxz
 refine qHx (p := sl pt2 ct2 5 1 B1.length (byC B1)) uK (fun _ h => And.intro (fun hpos => qAn h hpos) (qGn h).1) ?_
 rintro ⟨hpt, hcp2⟩
 have hqs2 : Rdb E.w0 pt2 (byC B1) (sl pt2 ct2 5 1 B1.length (byC B1)) := qVn (qGf B1) hpt
 clear hpt
 refine uX (qSs (Es := []) (s := s2) (most := 1048576) (tb := tb2) (pp := pp2) (m := m2) (bm := bm2) (A := A) hE hB hlis.gwf hgok hG4 hti (fun p hp => (hnam p hp).1) hord (by omega) (fun p hp => ⟨(hnam p hp).1.2, (hnam p hp).2⟩) (fun j h1 h2 => (hrule j h1 h2).2) (fun j h1 h2 => (hrule j h1 h2).1) hgv hB2 hqs2 hcp2 hBl hr7) rfl ?_
 rintro _ _ ⟨M3, Z2, pl2, cl2, rfl, hM3, hD2, rfl⟩
 rw [hAl, hnames]
 simp only [uV, uW]
 refine qHx (p := zR s2 1048576 ([] ++ M3)) uK (fun _ h => (qAb h).1) (fun hw3 => ?_)
 have tx2 := qZl hrs htx hw3 hD2
 have len2 := qZx (L := rls (M ++ M1)) hrs.yl Z2
 generalize dcs (rls (M ++ M1)) y1 Z2 = ts at *
 rw [List.nil_append] at *
 refine uM rfl (uB (qU rfl rfl) (uB (qU rfl rfl) (uA rfl (uA rfl (qL (qJ (qK (qK (qI (uM rfl (uB (qBg rfl) ?_)))))))))))
 refine uM rfl (kS rfl rfl (uX (ct_awake hE hB) rfl ?_))
 rintro _ _ ⟨rfl, rfl⟩
 simp only [uV, uW]
 refine kS rfl rfl (uB (qBg rfl) ?_)
 refine uB (qY rfl rfl) ?_
 refine uM rfl (kS rfl rfl (uM rfl (kS rfl rfl (uB (qAd rfl (hE.t rfl)) ?_))))
 refine uB (qY rfl rfl) ?_
 refine uM rfl (kS rfl rfl (uM rfl (kS rfl rfl (uB (qAd rfl (hE.t rfl)) ?_))))
 refine uB (qY rfl rfl) ?_
 refine uM rfl (kS rfl rfl (uM rfl (kS rfl rfl (uB (qAd rfl (hE.t rfl)) ?_))))
 refine uB (qY rfl rfl) ?_
 refine uM rfl (kS rfl rfl (uM rfl (kS rfl rfl (uB (uBl rfl) ?_))))
 refine kS rfl rfl (uM rfl (kS rfl rfl (uB (uBl rfl) ?_)))
 refine kS rfl rfl (uB (y_ne rfl rfl) ?_)
 refine uB (qY rfl rfl) ?_
 refine uM rfl ?_
 refine l_eq 82 (.bool false) rfl (by simp) ?_
 refine kS rfl rfl (uM rfl (kS rfl rfl (uB (uBl rfl) ?_)))
 refine kS rfl rfl (uM rfl (kS rfl rfl (uB (uBl rfl) ?_)))
 refine kS rfl rfl (uB (y_ne rfl rfl) ?_)
 refine uB (qY rfl rfl) ?_
 refine qL (qJ ?_)
 refine zD rfl (fun g2 => ?_) (fun g2 => ?_)
 ·exact absurd rfl g2
 have tx3 : Txs (rls (M ++ M1 ++ M2)) l ids := by rw [kG (M ++ M1), kG M]; exact (htx1.ext _).ext _
 have hk2 : Kn (rls (M ++ M1 ++ M2)) f1 := by rw [kG (M ++ M1)]; exact hk1.ext _
 have hE2 : (M ++ M1 ++ M2).length = (M ++ M1).length + M2.length := List.length_append
 generalize M ++ M1 ++ M2 = W at *
 refine zB (qJ (qK (qK (qI (uA rfl (qL (qJ (zK ?_))))))))
 refine qAe (fun x : RetG => [(0, .slice a l.length ca), (5, uPt m), (6, uPt m2), (7, .slice p l.length c), (9, .slice (some ⟨g1, 0, none⟩) B1.length c1), (11, .slice pl1 l.length cl1), (13, .slice pl2 l.length cl2), (15, .int .i64 (x.k : Nat))]) (fun x => [cells pp [uPt s, uPt tb] 106, tabP tb s (rls (W ++ x.N)), zR s 1048576 (W ++ x.N), cells m [uPt pp, .map (some bm)] 103, mapF bm .i64 x.f, cells pp2 [uPt s2, uPt tb2] 106, tabP tb2 s2 (rls M3), zR s2 1048576 M3, cells m2 [uPt pp2, .map (some bm2)] 103, mapF bm2 .i64 (fun _ => none), old, sl p c 39 2 l.length (nlC (mkN l ids)), sl pl1 cl1 39 2 l.length (nlC (mkN l hs)), sl pl2 cl2 39 2 l.length (nlC (mkN l ts)), sl (some ⟨g1, 0, none⟩) c1 5 1 B1.length (byC B1), R]) (fun x => l.length - x.k) (fun x => x.k ≤ l.length ∧ x.N.length ≤ 1024 * x.k ∧ Kn (rls (W ++ x.N)) x.f) ⟨0, [], f1⟩ ⟨Nat.zero_le _, Nat.zero_le _, by simp only [List.append_nil]; exact hk2⟩ ⟨rfl, rfl, rfl, rfl, rfl, rfl, rfl, rfl, trivial⟩ (by simp only [List.append_nil]; (apply ent; (repeat constructor); done)) ?_
 refine fun y => ?_
 obtain ⟨k, N, f⟩ := y
 rintro ⟨hk, hN, hkn⟩
 simp only at hk hN hkn ⊢
 refine qDj (p := sl pl1 cl1 39 2 l.length (nlC (mkN l hs))) uK (fun _ h => fun hpos => qAn h hpos) ?_
 intro hf1
 refine qDj (p := sl pl2 cl2 39 2 l.length (nlC (mkN l ts))) uK (fun _ h => fun hpos => qAn h hpos) ?_
 intro hf2
 refine qDj (p := zR s 1048576 (W ++ N)) uK (fun _ h => (qAb h).1) ?_
 intro hwN
 refine qK (qK (qI (uM rfl (uM rfl (uB (uBl rfl) ?_)))))
 refine uB (y_lt rfl rfl) ?_
 refine qL (qJ ?_)
 refine zD rfl (fun g3 => ?_) (fun g3 => ?_)
 ·have hkl : k < l.length := by omega
  obtain ⟨x, hx⟩ : ∃ x, l[k]? = some x := ⟨_, List.getElem?_eq_getElem hkl⟩
  have hxm := List.mem_of_getElem? hx
  have hxl := hlen x hxm
  obtain ⟨z, hz⟩ : ∃ z, hs[k]? = some z := ⟨_, List.getElem?_eq_getElem (by omega)⟩
  obtain ⟨u, hu⟩ : ∃ u, ts[k]? = some u := ⟨_, List.getElem?_eq_getElem (by omega)⟩
  obtain ⟨id, hid⟩ : ∃ id, ids[k]? = some id := ⟨_, List.getElem?_eq_getElem (by omega)⟩
  obtain ⟨zl, zt⟩ := tx1 k x z hx hz
  obtain ⟨ul, ut⟩ := tx2 k x u hx hu
  obtain ⟨il, it⟩ := tx3 k x id hx hid
  obtain ⟨g, o, rfl, hq'⟩ := hq (zBl (by omega))
  obtain ⟨ga, rfl⟩ := hp1 (by omega)
  obtain ⟨gb, rfl⟩ := hf1 (by omega)
  obtain ⟨gc, rfl⟩ := hf2 (by omega)
  rw [zQ] at zl ul il
  have hWN : (W ++ N).length = W.length + N.length := List.length_append
  have er : rls (W ++ N) = rls W ++ rls N := kG _ _
  have zt2 : txt (rls (W ++ N)) z = x.bs := by rw [er, qAz _ (by rw [zQ]; exact zl)]; exact zt
  have it2 : txt (rls (W ++ N)) id = x.bs := by rw [er, qAz _ (by rw [zQ]; exact il)]; exact it
  have hul : len (rls M3) u = x.bs.length := by unfold len; rw [ut]
  have hzl : len (rls (W ++ N)) z ≤ 256 := by unfold len; rw [zt2]; omega
  obtain ⟨f3, f4⟩ := qQj (qSc hx hz) (0 + ((k : Nat) : Int).toNat * 2) (by omega)
  obtain ⟨f5, f6⟩ := qQj (qSc hx hid) (0 + ((k : Nat) : Int).toNat * 2) (by omega)
  obtain ⟨f7, f8⟩ := qQj (qSc hx hu) (0 + ((k : Nat) : Int).toNat * 2) (by omega)
  have f0 := (qIh hx).1
  have f2 := (qIh hx).2
  refine zB (qJ (qK (zK (qK ?_))))
  refine uH ([sl (some ⟨gb, 0, none⟩) cl1 39 2 l.length (nlC (mkN l hs)), sl (some ⟨ga, 0, none⟩) c 39 2 l.length (nlC (mkN l ids))]) ?_
  refine uD 0 rfl (qB rfl) ?_
  refine uD 1 rfl (qB rfl) ?_
  refine uD 2 rfl (qB rfl) ?_
  refine uD 3 rfl (uAi rfl rfl) ?_
  refine uD 4 rfl (uBf rfl) ?_
  refine uD 5 rfl (uY) ?_
  refine uD 6 rfl (qB rfl) ?_
  refine uD 7 rfl (qB rfl) ?_
  refine uD 8 rfl (uAi rfl rfl) ?_
  refine uD 9 rfl (uBf rfl) ?_
  refine uD 10 rfl (uY) ?_
  apply kM 11 rfl (by kernel_rfl) rfl
  refine uC (qYd (Es := W ++ N) (s := s) (tb := tb) (most := 1048576) (f := f) (m := m) (pp := pp) (bm := bm) hE hB (by omega) (by omega) hzl (zt2.trans it2.symm) (by omega) hkn) rfl ?_
  rintro _ _ ⟨N1, f9, rfl, hN1, hkn1, rfl⟩
  rw [List.append_assoc] at hkn1 ⊢
  simp only [uV, uW]
  refine uE ?_
  refine uD 12 rfl (qB rfl) ?_
  refine uD 13 rfl (qU rfl rfl) ?_
  refine uD 14 rfl (qU rfl rfl) ?_
  refine uD 15 rfl (qC rfl) ?_
  refine uD 16 rfl (qC rfl) ?_
  refine qDr (by kernel_rfl) ?_
  refine qJ (qK ?_)
  refine uH ([sl (some ⟨gc, 0, none⟩) cl2 39 2 l.length (nlC (mkN l ts))]) ?_
  refine uD 0 rfl (qB rfl) ?_
  refine uD 3 rfl (qB rfl) ?_
  refine uD 4 rfl (qB rfl) ?_
  refine uD 5 rfl (uAi rfl rfl) ?_
  refine uD 6 rfl (uBf rfl) ?_
  refine uD 7 rfl (uY) ?_
  apply kM 1 rfl (by kernel_rfl) rfl
  refine uC (qCc (m := m2) (pp := pp2) (bm := bm2) hE) rfl ?_
  rintro _ _ ⟨rfl, rfl⟩
  simp only [uV, uW]
  refine uE ?_
  apply kM 2 rfl (by kernel_rfl) rfl
  refine uC (qFd (pp := pp2) (s := s2) (tb := tb2) hE) rfl ?_
  rintro _ _ ⟨rfl, rfl⟩
  simp only [uV, uW]
  refine uE ?_
  apply kM 8 rfl (by kernel_rfl) rfl
  refine uC (qYa (Es := M3) (s := s2) (most := 1048576) (id := u) hE ul (by omega) (by omega)) rfl ?_
  rintro _ _ ⟨p3, c3, rfl, rfl⟩
  rw [hul, ut]
  simp only [uV, uW]
  refine uE ?_
  refine uD 9 rfl (qB rfl) ?_
  refine uD 10 rfl (qU rfl rfl) ?_
  refine uD 11 rfl (qU rfl rfl) ?_
  refine uD 12 rfl (qC rfl) ?_
  refine uD 13 rfl (qC rfl) ?_
  refine qDr (by kernel_rfl) ?_
  refine qJ ?_
  refine qDj (p := sl p3 c3 5 1 x.bs.length (byC x.bs)) uK (fun _ h => fun hpos => qAn h hpos) ?_
  intro hp3
  have hq3 : Rdb E.w0 p3 (byC x.bs) (sl p3 c3 5 1 x.bs.length (byC x.bs)) := qVn (qGf x.bs) hp3
  refine qK ?_
  refine uH ([sl (some ⟨gb, 0, none⟩) cl1 39 2 l.length (nlC (mkN l hs)), sl (some ⟨gc, 0, none⟩) cl2 39 2 l.length (nlC (mkN l ts)), old]) ?_
  refine uD 0 rfl (qB rfl) ?_
  refine uD 1 rfl (qAd rfl (hE.t rfl)) ?_
  refine uD 2 rfl (qB rfl) ?_
  refine uO 3 rfl rfl rfl (qB rfl) ?_
  refine uO 4 rfl rfl rfl (qBg rfl) ?_
  refine uD 5 rfl (qY rfl rfl) ?_
  refine uD 6 rfl (qB rfl) ?_
  refine uO 7 rfl rfl rfl (qB rfl) ?_
  refine uO 8 rfl rfl rfl (qBg rfl) ?_
  refine uD 9 rfl (qY rfl rfl) ?_
  refine uD 10 rfl (qB rfl) ?_
  refine uO 11 rfl rfl rfl (qB rfl) ?_
  refine uO 12 rfl rfl rfl (qB rfl) ?_
  refine uO 13 rfl rfl rfl (qB rfl) ?_
  refine uO 14 rfl rfl rfl (uAi rfl rfl) ?_
  refine uO 15 rfl rfl rfl (uBf rfl) ?_
  apply d_on 16 rfl rfl rfl
  ·(apply zJ rfl (hE.t rfl) rfl (by assumption); (focus ((repeat constructor); done)); (first | ((focus exact f0); (focus omega)) | ((focus exact f1); (focus omega)) | ((focus assumption); (focus omega))))
  ·with_reducible (repeat (first | exact qE | apply qF | apply qG))
  ·kernel_rfl
  ·rfl
  apply qRm 17 rfl rfl rfl (by kernel_rfl) rfl
  refine uC (qQr (c := c3) (d := x.c) hE hq3 (hok x hxm)) rfl ?_
  rintro _ _ ⟨rfl, rfl⟩
  rw [decide_eq_true (show x.bs = x.bs from rfl)]
  simp only [uV, uW]
  refine uE ?_
  refine uO 18 rfl rfl rfl (qBg rfl) ?_
  refine uD 19 rfl (qY rfl rfl) ?_
  refine uD 20 rfl (qB rfl) ?_
  refine uO 21 rfl rfl rfl (qB rfl) ?_
  refine uO 22 rfl rfl rfl (qB rfl) ?_
  refine uO 23 rfl rfl rfl (uAi rfl rfl) ?_
  refine uO 24 rfl rfl rfl (uBf rfl) ?_
  refine uO 25 rfl rfl rfl (uY) ?_
  refine uO 26 rfl rfl rfl (qB rfl) ?_
  refine uO 27 rfl rfl rfl (qB rfl) ?_
  refine uO 28 rfl rfl rfl (uAi rfl rfl) ?_
  refine uO 29 rfl rfl rfl (uBf rfl) ?_
  apply d_on 30 rfl rfl rfl
  ·(apply zJ rfl (hE.t rfl) rfl (by assumption); (focus ((repeat constructor); done)); (first | ((focus exact f0); (focus omega)) | ((focus exact f1); (focus omega)) | ((focus assumption); (focus omega))))
  ·with_reducible (repeat (first | exact qE | apply qF | apply qG))
  ·kernel_rfl
  ·rfl
  refine uO 31 rfl rfl rfl (qXb rfl rfl) ?_
  refine uD 32 rfl (qY rfl rfl) ?_
  refine uD 33 rfl (qB rfl) ?_
  refine d_eq 155 (.bool false) rfl (by simp) ?_
  refine uO 34 rfl rfl rfl (qB rfl) ?_
  refine uO 35 rfl rfl rfl (qB rfl) ?_
  refine uO 36 rfl rfl rfl (uAi rfl rfl) ?_
  refine uO 37 rfl rfl rfl (uBf rfl) ?_
  refine uO 38 rfl rfl rfl (uY) ?_
  refine uO 39 rfl rfl rfl (qB rfl) ?_
  refine uO 40 rfl rfl rfl (qB rfl) ?_
  refine uO 41 rfl rfl rfl (uAi rfl rfl) ?_
  refine uO 42 rfl rfl rfl (uBf rfl) ?_
  apply d_on 43 rfl rfl rfl
  ·(apply zJ rfl (hE.t rfl) rfl (by assumption); (focus ((repeat constructor); done)); (first | ((focus exact f0); (focus omega)) | ((focus exact f1); (focus omega)) | ((focus assumption); (focus omega))))
  ·with_reducible (repeat (first | exact qE | apply qF | apply qG))
  ·kernel_rfl
  ·rfl
  refine uO 44 rfl rfl rfl (qXb rfl rfl) ?_
  refine uD 45 rfl (qY rfl rfl) ?_
  refine qDr (by kernel_rfl) ?_
  refine qJ ?_
  refine zD rfl (fun g4 => ?_) (fun g4 => ?_)
  ·exact absurd rfl g4
  refine zB (zI (qJ (qI (uM rfl (uB (uAa rfl rfl) ?_)))))
  refine uA rfl (qL ?_)
  refine zS (ι := RetG) (j := ⟨k + 1, N ++ N1, f9⟩) ⟨by simp only; omega, by simp only [List.length_append]; omega, hkn1⟩ (by simp only; omega) ⟨rfl, rfl, rfl, rfl, rfl, rfl, rfl, congrArg some (zW (by simp only; omega)), trivial⟩ uI
 obtain ⟨n2, o2⟩ := qSf (ids := ts) hg
 have hln2 := qHt len2
 have hT2 : TxOk M3 (mkN l ts) := qWu hg tx2
 rw [← hln2] at o2
 have hqb : Rdb E.w0 pl2 (nlC (mkN l ts)) (sl pl2 cl2 39 2 l.length (nlC (mkN l ts))) := fun hne => by
  obtain ⟨g, rfl⟩ := hf2 (by
   rcases Nat.eq_zero_or_pos l.length with e | e
   ·exact absurd (List.eq_nil_of_length_eq_zero (by rw [qGa, hln2]; omega)) hne
   exact e)
  exact ⟨g, 0, rfl, qKy (fun _ _ h => h)⟩
 refine kK (qP (qP (zH (qJ (qK (qI (uM rfl (uM rfl ?_))))))))
 refine uX (qOf (Es := M3) (s := s2) (tb := tb2) (pp := pp2) (most := 1048576) (m := m2) (bm := bm2) (f := fun _ => none) (c := cl2) hE hB hln2 hqb (by omega) n2 o2 hT2 (by omega) (Kn.nil _)) rfl ?_
 rintro _ _ ⟨M4, f2, y2, g2, c2, B2, rfl, hB3, hM4, hk4, hy2, hs2, rfl⟩
 simp only [uV, uW]
 refine qHx (p := zR s2 1048576 (M3 ++ M4)) uK (fun _ h => qAb h) (fun hw4 => ?_)
 rw [qZi len2] at hs2
 have q2 : EqL (rls (M3 ++ M4)) l ts y2 := ⟨hw4.1, len2, hy2, by rw [kG]; exact tx2.ext _, hs2⟩
 have hBB : B2 = B1 := by rw [hB3, hB1, q1.same q2 rfl]
 have hra : Rdb E.w0 (some ⟨g2, 0, none⟩) (byC B2) (sl (some ⟨g2, 0, none⟩) c2 5 1 B2.length (byC B2)) := fun _ => ⟨g2, 0, rfl, qKy (fun _ _ h => h)⟩
 have hrb : Rdb E.w0 (some ⟨g1, 0, none⟩) (byC B1) (sl (some ⟨g1, 0, none⟩) c1 5 1 B1.length (byC B1)) := fun _ => ⟨g1, 0, rfl, qKy (fun _ _ h => h)⟩
 refine uM rfl (uB (qU rfl rfl) (uB (qU rfl rfl) (uA rfl (uA rfl (qL (qJ (qK (qI (uM rfl (uB (qMp rfl (hE.t rfl)) ?_))))))))))
 refine uM rfl (kS rfl rfl (uM rfl (kS rfl rfl (uM rfl (kS rfl rfl (uX (qQr (c := c2) (d := c1) hE hra hrb) rfl ?_))))))
 rintro _ _ ⟨rfl, rfl⟩
 simp only [uV, uW]
 refine uB (qX rfl rfl) ?_
 refine uA rfl (qL (qJ (zZ ?_)))
 exact uZ rfl (.tmp rfl .nil) ⟨congrArg Value.bool (decide_eq_true hBB), rfl⟩
end
section
theorem qNo {E : Env} (hE : Seat E) (hB : Base E.w0) {l : List Im} {a : Option Addr} {ca k : Nat} (hk : k < 256) (hq : Rdb E.w0 a (imC l) old) (hok : ∀ x ∈ l, Rdb E.w0 x.a (byC x.bs) old) (hn : l.length ≤ maxLen) :
  Ct E 9 [.slice a l.length ca, .int .u8 (k : Nat)] [] (fun v Q => v = .bool true ∧ Q = []) := zBy (qLg hE hB hk hq hok hn)
end
end Go.Proofs.YtkkjjablmmmmkaaGreatDoor
