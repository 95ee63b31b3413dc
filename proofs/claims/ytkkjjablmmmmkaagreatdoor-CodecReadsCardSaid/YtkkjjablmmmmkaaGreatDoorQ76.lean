/- The law CodecReads. -/
import Derived.Test.YtkkjjablmmmmkaaGreatDoorQ02
import Derived.Test.YtkkjjablmmmmkaaGreatDoorQ67
import Derived.Test.YtkkjjablmmmmkaaGreatDoorQ75
set_option linter.unusedVariables false
set_option linter.unusedSimpArgs false
namespace Go.Proofs.YtkkjjablmmmmkaaGreatDoor
section
open Go Go.RowKit Sl Eg
set_option maxRecDepth 10000
variable {E : Env}
structure ReaG where
 k : Nat
 M : List Ent
theorem qOs (hE : Seat E) (hB : Base E.w0) {l : List Im} {a : Option Addr} {ca : Nat} {oa : Option Addr} {ob : List UInt8} {oc : Nat} (hq : Rdb E.w0 a (imC l) old) (hok : ∀ x ∈ l, Rdb E.w0 x.a (byC x.bs) old) (hn : l.length ≤ maxLen) (hro : Rdb E.w0 oa (byC ob) old) :
  Ct E 7 [.slice a l.length ca, .slice oa ob.length oc] [old] (fun v Q => v = .bool true ∧ Q = [old]) := by
 have hmr : 1048576 ≤ qAx := Nat.le_refl _
 refine zN (hE.fn Tryz.func7) rfl rfl rfl (fun R => ?_)
 simp only [qAe, List.cons_append, List.nil_append]
 refine qK (qI (uA rfl (qL (qJ (qK (qK (qI (uM rfl (uU (uC (ct_good hE hq hn) rfl ?_))))))))))
 rintro _ _ ⟨b1, rfl, hb1, rfl⟩
 simp only [List.cons_append, List.nil_append]
 refine qA (qEp rfl) rfl ?_
 refine uM rfl ?_
 cases b1 with
 | false =>
  refine zS rfl rfl rfl rfl (zS rfl rfl rfl rfl (zS rfl rfl rfl rfl ?_))
  refine qA (qV rfl rfl) rfl ?_
  refine qL (qJ (zE rfl (qK (qI (uA rfl (qL (qJ (zY (qU ?_)))))))))
  apply zZ
  ·rfl
  ·(apply Rs.tmp rfl; exact Rs.nil)
  ·exact ⟨rfl, rfl⟩
  ·(apply ent; (repeat constructor); done)
 | true =>
  have hg : GoodI l := hb1.1 rfl
  have hl6 := hg.2.2
  refine kO rfl rfl (uM rfl (kO rfl rfl (qA (qQ rfl (hE.t rfl)) rfl ?_)))
  refine kO rfl rfl (qA (y_gt rfl rfl) rfl ?_)
  refine qA (qW rfl rfl) rfl ?_
  refine qL (qJ ?_)
  refine zD rfl (fun g1 => ?_) (fun g1 => ?_)
  ·refine qK (qI ?_)
   refine uA rfl (qL (qJ (zY (qU ?_))))
   apply zZ
   ·rfl
   ·(apply Rs.tmp rfl; exact Rs.nil)
   ·exact ⟨rfl, rfl⟩
   ·(apply ent; (repeat constructor); done)
  have hob : ob.length ≤ 200 := by omega
  have hr0 : ([] : List Ent).length + 2 * ob.length ≤ 1048576 := by rw [List.length_nil]; omega
  refine zB (qJ (qK (qI (uU (uC (zBg (most := 1048576) hE hmr) rfl ?_)))))
  rintro _ _ ⟨m, bm, pp, s, tb, rfl, rfl⟩
  simp only [List.cons_append, List.nil_append]
  refine uA rfl (qL (qJ (qK (qK (qI (uU (uC (ct_awake hE hB) rfl ?_)))))))
  rintro _ _ ⟨rfl, rfl⟩
  simp only [List.cons_append, List.nil_append]
  refine qA (qEp rfl) rfl ?_
  refine uM rfl (kO rfl rfl (uM rfl (kO rfl rfl (qA (qCc rfl (hE.t rfl)) rfl ?_))))
  refine qA (qW rfl rfl) rfl ?_
  refine qL (qJ (zC rfl (zB (qJ (qK (qK (qI (uM rfl (uU (uC (qCy hE) rfl ?_))))))))))
  rintro _ _ ⟨rfl, rfl⟩
  simp only [List.cons_append, List.nil_append]
  have hbl := qLo ob
  have hb2 : (0 + (byC ob).length) * 1 ≤ 140737488355328 := by omega
  have hb3 : 0 + (byC ob).length ≤ maxLen := by unfold maxLen; omega
  refine uU ?_
  refine qFy (hE.t rfl) (fun b31 => ?_)
  refine uM rfl (uU ?_)
  refine qDw (us := byC ob) (q := old) (hE.t rfl) (hE.t rfl) rfl rfl rfl hbl.symm hro (by ((repeat constructor); done)) (by ((repeat constructor); done)) (qBa _) hb2 hb3 (fun pt ct m1 x1 hm1 hx1 => ?_)
  obtain rfl : m1 = ob.length := by omega
  obtain rfl : x1 = byC ob := hx1
  refine qOl (p := sl pt ct 5 1 ob.length (byC ob)) (by ((repeat constructor); done)) (fun _ h => And.intro (fun hpos => qAk h hpos) (qGx h).1) ?_
  rintro ⟨hpt, hcap⟩
  have hqs : Rdb E.w0 pt (byC ob) (sl pt ct 5 1 ob.length (byC ob)) := zDl hbl hpt
  refine uU (uC (qPt (Es := []) (s := s) (most := 1048576) (tb := tb) (pp := pp) (a := pt) (c := ct) (q := sl pt ct 5 1 ob.length (byC ob)) (bs := ob) hE hB (fun hne => hqs (qIn hne)) (by omega) hr0) rfl ?_)
  rintro _ _ ⟨N0, id0, rfl, hN0, -, -, -, rfl⟩
  obtain ⟨Es, hEs⟩ : ∃ Es, Es = [] ++ N0 := ⟨_, rfl⟩
  rw [← hEs]
  have hEl : Es.length ≤ 400 := by rw [hEs, List.nil_append]; omega
  clear hEs
  simp only [List.cons_append, List.nil_append]
  refine uM rfl (qA (qS rfl rfl) rfl (qA (qS rfl rfl) rfl (uA rfl (uA rfl (qL (qJ (qK (qI (uM rfl ?_)))))))))
  refine qA (qAg rfl (hE.t rfl)) rfl ?_
  refine qL (qJ (zC rfl (zB (qJ (qK (qI (uM rfl (uM rfl ?_))))))))
  have hlen : ∀ x ∈ l, x.bs.length ≤ 60 := fun x hx => (hg.1 x hx).2
  have hnm : ∀ x ∈ l, x.name.length ≤ 1000 := fun x hx => by have := (hg.1 x hx).1.2.1; omega
  have hr1 : Es.length + 120 * l.length ≤ 1048576 := by omega
  refine l_know (φ := ∃ (L : List Rl) (ys : List Nat), RsL L l ys ∧ (∀ (i : Nat) (x : Im) (y : Nat), l[i]? = some x → ys[i]? = some y → txt L y = x.bs) ∧ L.length ≤ Es.length + 120 * l.length) (fun w hs => ?_) ?_
  ·apply ghostS (Es := Es) (s := s) (most := 1048576) (tb := tb) (pp := pp) hE hB hok hlen hr1 hs
   ((repeat constructor); done)
  rintro ⟨L, ys, hrs, htx, hLl⟩
  have hlis := hrs.lis
  have hgl : (gram L (kF L ys [])).length = (kF L ys []).length := qEa
  have hvl := hlis.acc.len
  have hG4 : (gram L (kF L ys [])).length ≤ 100000 := by omega
  have hyl : (ys.map (numb (kF L ys []))).length = l.length := by rw [List.length_map]; exact hrs.yl
  have hAl := qZl (l := l) hyl
  have hAs := nmA_snd (l := l) hyl
  have hgv := qVv hrs.wf hrs.bound hlis
  have hnam := hrs.names htx hg
  have hord := nmA_ord (ns := ys.map (numb (kF L ys []))) hg
  have hrule := fun j h1 h2 => hrs.rule hlen (j := j) h1 h2
  refine uU (uC (qSp hE hrs hq hok hlen hnm hl6 hG4) rfl ?_)
  rintro _ _ ⟨g2, c2, B2, rfl, hBB, rfl⟩
  simp only [List.cons_append, List.nil_append]
  rw [← hAs, ← hgl] at hgv
  have hti := hlis.times
  have hgok := qKk hlis.wf hlis.acc hlis.ord
  have hBl : B2.length ≤ 1099511627776 := by
   have h1 := qXp (gram L (kF L ys [])) 0 hti (by omega)
   have h2 := qXz (nmA l (ys.map (numb (kF L ys [])))) (fun p hp => by
    have := (hnam p hp).1
    have := this.1.2.1
    omega)
   have h3 := qAi (n := (gram L (kF L ys [])).length) (by omega)
   have h4 := qAi (n := (nmA l (ys.map (numb (kF L ys [])))).length) (by omega)
   rw [hBB]
   simp only [encA, List.length_append]
   omega
  generalize hAg : nmA l (ys.map (numb (kF L ys []))) = A at *
  refine qOl (p := sl (some ⟨g2, 0, none⟩) c2 5 1 B2.length (byC B2)) (by ((repeat constructor); done)) (fun _ h => (qGx h).1) (fun hc2 => ?_)
  have hr2 : Rdb E.w0 (some ⟨g2, 0, none⟩) (byC B2) (sl (some ⟨g2, 0, none⟩) c2 5 1 B2.length (byC B2)) := fun _ => ⟨g2, 0, rfl, qSm (fun _ _ h => h)⟩
  refine uU (uC (zDe (Es := Es) (s := s) (most := 1048576) (tb := tb) (pp := pp) (m := m) (bm := bm) (A := A) hE hB hlis.gwf hgok hG4 hti (fun p hp => (hnam p hp).1) hord (by omega) (fun p hp => ⟨(hnam p hp).1.2, (hnam p hp).2⟩) (fun j h1 h2 => (hrule j h1 h2).2) (fun j h1 h2 => (hrule j h1 h2).1) hgv hBB hr2 hc2 hBl (by omega)) rfl ?_)
  rintro _ _ ⟨M2, Z, pl, cl, rfl, hM2, hD, rfl⟩
  rw [hAl]
  simp only [List.cons_append, List.nil_append]
  refine qOl (p := zQ s 1048576 (Es ++ M2)) (by ((repeat constructor); done)) (fun _ h => (qAn h).1) (fun hw2 => ?_)
  refine uM rfl (qA (qS rfl rfl) rfl (qA (qS rfl rfl) rfl (uA rfl (uA rfl (qL (qJ (qK (qK (qI (uM rfl ?_))))))))))
  refine qA (qAg rfl (hE.t rfl)) rfl ?_
  refine uM rfl (kO rfl rfl (uM rfl (kO rfl rfl (qA (qQ rfl (hE.t rfl)) rfl ?_))))
  refine kO rfl rfl (uM rfl (kO rfl rfl (qA (qQ rfl (hE.t rfl)) rfl ?_)))
  refine kO rfl rfl (qA (y_ne rfl rfl) rfl ?_)
  refine qA (qW rfl rfl) rfl ?_
  refine qL (qJ ?_)
  refine zD rfl (fun g2 => ?_) (fun g2 => ?_)
  ·exfalso; omega
  refine zB (qJ (qK (qK (qI (uA rfl (qL (qJ (zJ ?_))))))))
  refine qAl (fun x : ReaG => [(0, .slice a l.length ca), (5, .pointer (some ⟨m, 0, none⟩)), (8, .slice pl l.length cl), (10, .int .i64 (x.k : Nat))]) (fun x => [cells pp [.pointer (some ⟨s, 0, none⟩), .pointer (some ⟨tb, 0, none⟩)] 106, tabP tb s (rls (Es ++ M2 ++ x.M)), zQ s 1048576 (Es ++ M2 ++ x.M), cells m [.pointer (some ⟨pp, 0, none⟩), .map (some bm)] 103, old, sl pl cl 39 2 l.length (nlC (nmI (nmK Z A l.length))), R]) (fun x => l.length - x.k) (fun x => x.k ≤ l.length ∧ x.M.length ≤ 120 * x.k) ⟨0, []⟩ ⟨Nat.zero_le _, Nat.zero_le _⟩ ⟨rfl, rfl, rfl, rfl, trivial⟩ (by simp only [List.append_nil]; (apply ent; (repeat constructor); done)) ?_
  refine fun y => ?_
  obtain ⟨k, M⟩ := y
  rintro ⟨hk, hM⟩
  simp only at hk hM ⊢
  refine qDg (p := sl pl cl 39 2 l.length (nlC (nmI (nmK Z A l.length)))) (by ((repeat constructor); done)) (fun _ h => fun hpos => qAk h hpos) ?_
  intro hpl
  refine qK (qK (qI (uM rfl (uM rfl (qA (qQ rfl (hE.t rfl)) rfl ?_)))))
  refine qA (y_lt rfl rfl) rfl ?_
  refine qL (qJ ?_)
  refine zD rfl (fun g3 => ?_) (fun g3 => ?_)
  ·have hkl : k < l.length := by omega
   obtain ⟨x, hx⟩ : ∃ x, l[k]? = some x := ⟨_, List.getElem?_eq_getElem hkl⟩
   have hxm := List.mem_of_getElem? hx
   have hxl := hlen x hxm
   have hbx := qLo x.bs
   have hyl2 := hrs.yl
   obtain ⟨y, hy⟩ : ∃ y, ys[k]? = some y := ⟨_, List.getElem?_eq_getElem (by omega)⟩
   obtain ⟨g, o, rfl, hq'⟩ := hq (qXb (by omega))
   obtain ⟨gl, rfl⟩ := hpl (by omega)
   have hb5 : (0 + (byC x.bs).length) * 1 ≤ 140737488355328 := by omega
   have hb6 : 0 + (byC x.bs).length ≤ maxLen := by unfold maxLen; omega
   have hr5 : (Es ++ M2 ++ M).length + 2 * x.bs.length ≤ 1048576 := by simp only [List.length_append]; omega
   have f0 := (qJj hx).1
   have f2 := (qJj hx).2
   refine zB (qJ (qK (zJ ?_)))
   refine qJv (fun z : List Ent × Nat => [(0, .slice (some ⟨g, o, none⟩) l.length ca), (5, .pointer (some ⟨m, 0, none⟩)), (8, .slice (some ⟨gl, 0, none⟩) l.length cl), (10, .int .i64 (k : Nat)), (11, .int .i64 (z.2 : Nat)), (12, .nilIface)]) (fun z => [cells pp [.pointer (some ⟨s, 0, none⟩), .pointer (some ⟨tb, 0, none⟩)] 106, tabP tb s (rls (Es ++ M2 ++ (M ++ z.1))), zQ s 1048576 (Es ++ M2 ++ (M ++ z.1)), cells m [.pointer (some ⟨pp, 0, none⟩), .map (some bm)] 103, old, sl (some ⟨gl, 0, none⟩) cl 39 2 l.length (nlC (nmI (nmK Z A l.length))), R]) (fun z => z.1.length ≤ 120 ∧ Sg (rls (Es ++ M2 ++ (M ++ z.1))) x.bs z.2) ?_ ?_
   ·refine qHr 14 ([old]) ?_ ?_
    ·(apply ent; (repeat constructor); done)
    refine uT 0 rfl (qB rfl) ?_
    refine uT 3 rfl (qB rfl) ?_
    refine uT 4 rfl (qB rfl) ?_
    refine uT 5 rfl (qO rfl rfl (hE.t rfl) (by omega) (by omega)) ?_
    refine uT 6 rfl (qD rfl (hE.t rfl) rfl) ?_
    apply zX 7 rfl
    ·(apply zI rfl (hE.t rfl) rfl (by assumption); (focus ((repeat constructor); done)); (first | ((focus exact f0); (focus omega)) | ((focus exact f1); (focus omega)) | ((focus assumption); (focus omega))))
    ·with_reducible (repeat (first | exact qE | apply qF | apply qG))
    ·kernel_rfl
    ·rfl
    apply qIh 1 2 rfl rfl (by kernel_rfl) rfl rfl
    ·apply qY (qCy hE) rfl (hE.f (by kernel_rfl))
     ·((repeat constructor); done)
     rintro _ _ ⟨rfl, rfl⟩
     simp only [List.cons_append, List.nil_append]
     refine uE ?_
     apply qAf 2 rfl (by kernel_rfl) rfl
     refine qFy (hE.t rfl) (fun b64 => ?_)
     refine uE ?_
     apply qAf 8 rfl (by kernel_rfl) rfl
     refine qDw (us := byC x.bs) (q := old) (hE.t rfl) (hE.t rfl) rfl rfl rfl hbx.symm (hok x hxm) (by ((repeat constructor); done)) (by ((repeat constructor); done)) (qBa _) hb5 hb6 (fun pt ct m1 x1 hm1 hx1 => ?_)
     obtain rfl : m1 = x.bs.length := by omega
     obtain rfl : x1 = byC x.bs := hx1
     refine uE ?_
     apply qAf 9 rfl (by kernel_rfl) rfl
     refine ld_say (p := sl pt ct 5 1 x.bs.length (byC x.bs)) (by ((repeat constructor); done)) (fun _ h => fun hpos => qAk h hpos) (fun hpt => ?_)
     have hqs : Rdb E.w0 pt (byC x.bs) (sl pt ct 5 1 x.bs.length (byC x.bs)) := zDl hbx hpt
     refine uC (qPt (Es := Es ++ M2 ++ M) (s := s) (most := 1048576) (tb := tb) (pp := pp) (a := pt) (c := ct) (q := sl pt ct 5 1 x.bs.length (byC x.bs)) (bs := x.bs) hE hB (fun hne => hqs (qIn hne)) (by omega) hr5) rfl ?_
     rintro _ _ ⟨N, id, rfl, hN, htt, -, hch, rfl⟩
     rw [List.append_assoc (Es ++ M2)] at htt hch ⊢
     simp only [List.cons_append, List.nil_append]
     refine uE ?_
     apply kI 10 rfl (by kernel_rfl)
     ·exact qB rfl
     ·rfl
     refine uT 11 rfl (qS rfl rfl) ?_
     refine uT 12 rfl (qS rfl rfl) ?_
     apply kI 13 rfl (by kernel_rfl)
     ·exact qC rfl
     ·rfl
     apply kI 14 rfl (by kernel_rfl)
     ·exact qC rfl
     ·rfl
     refine qHh (by kernel_rfl) ?_
     refine qBr (ι := List Ent × Nat) (N, id) ⟨by simp only; omega, hch⟩ ⟨rfl, rfl, rfl, rfl, rfl, rfl, trivial⟩ ?_
     (apply ent; (repeat constructor); done)
    ·refine qFy (hE.t rfl) (fun b64 => ?_)
     refine uE ?_
     apply qAf 1 rfl (by kernel_rfl) rfl
     refine uC (qCy hE) rfl ?_
     rintro _ _ ⟨rfl, rfl⟩
     simp only [List.cons_append, List.nil_append]
     refine uE ?_
     apply qAf 8 rfl (by kernel_rfl) rfl
     refine qDw (us := byC x.bs) (q := old) (hE.t rfl) (hE.t rfl) rfl rfl rfl hbx.symm (hok x hxm) (by ((repeat constructor); done)) (by ((repeat constructor); done)) (qBa _) hb5 hb6 (fun pt ct m1 x1 hm1 hx1 => ?_)
     obtain rfl : m1 = x.bs.length := by omega
     obtain rfl : x1 = byC x.bs := hx1
     refine uE ?_
     apply qAf 9 rfl (by kernel_rfl) rfl
     refine ld_say (p := sl pt ct 5 1 x.bs.length (byC x.bs)) (by ((repeat constructor); done)) (fun _ h => fun hpos => qAk h hpos) (fun hpt => ?_)
     have hqs : Rdb E.w0 pt (byC x.bs) (sl pt ct 5 1 x.bs.length (byC x.bs)) := zDl hbx hpt
     refine uC (qPt (Es := Es ++ M2 ++ M) (s := s) (most := 1048576) (tb := tb) (pp := pp) (a := pt) (c := ct) (q := sl pt ct 5 1 x.bs.length (byC x.bs)) (bs := x.bs) hE hB (fun hne => hqs (qIn hne)) (by omega) hr5) rfl ?_
     rintro _ _ ⟨N, id, rfl, hN, htt, -, hch, rfl⟩
     rw [List.append_assoc (Es ++ M2)] at htt hch ⊢
     simp only [List.cons_append, List.nil_append]
     refine uE ?_
     apply kI 10 rfl (by kernel_rfl)
     ·exact qB rfl
     ·rfl
     refine uT 11 rfl (qS rfl rfl) ?_
     refine uT 12 rfl (qS rfl rfl) ?_
     apply kI 13 rfl (by kernel_rfl)
     ·exact qC rfl
     ·rfl
     apply kI 14 rfl (by kernel_rfl)
     ·exact qC rfl
     ·rfl
     refine qHh (by kernel_rfl) ?_
     refine qBr (ι := List Ent × Nat) (N, id) ⟨by simp only; omega, hch⟩ ⟨rfl, rfl, rfl, rfl, rfl, rfl, trivial⟩ ?_
     (apply ent; (repeat constructor); done)
   rintro ⟨N, id⟩ ⟨hN, hch⟩
   simp only at hN hch ⊢
   refine qDg (p := zQ s 1048576 (Es ++ M2 ++ (M ++ N))) (by ((repeat constructor); done)) (fun _ h => (qAn h).1) ?_
   intro hwN
   refine qDg (p := sl (some ⟨gl, 0, none⟩) cl 39 2 l.length (nlC (nmI (nmK Z A l.length)))) (by ((repeat constructor); done)) (fun _ h => (qGx h).2.2) ?_
   intro hNl
   have er : rls (Es ++ M2 ++ (M ++ N)) = rls (Es ++ M2) ++ rls (M ++ N) := kD _ _
   rw [er] at hch hwN
   have hyn : (ys.map (numb (kF L ys [])))[k]? = some (numb (kF L ys []) y) := by rw [List.getElem?_map, hy]; rfl
   have hAk : A[k]? = some (x.name, numb (kF L ys []) y) := by rw [← hAg]; exact nmA_at hx hyn
   have hzi := dec_id hrs hw2 hD hx hy (rls (M ++ N)) hwN hch
   have hnk : (nmK Z A l.length)[k]? = some (x.name, id) := by
    rw [← hAl, nmK_all, List.getElem?_map, hAk]
    simp only [Option.map_some, List.getD_eq_getElem?_getD, hzi]
    rfl
   obtain ⟨f5, f6⟩ := zCm hnk (0 + ((k : Nat) : Int).toNat * 2) (by omega)
   refine qK ?_
   refine uH ([sl (some ⟨gl, 0, none⟩) cl 39 2 l.length (nlC (nmI (nmK Z A l.length))), old]) ?_
   refine uD 0 rfl (qB rfl) ?_
   refine uD 1 rfl (qAg rfl (hE.t rfl)) ?_
   refine uD 2 rfl (qB rfl) ?_
   apply d_on 3 rfl rfl rfl
   ·exact qB rfl
   ·with_reducible (repeat (first | exact qE | apply qF | apply qG))
   ·kernel_rfl
   ·rfl
   apply d_on 4 rfl rfl rfl
   ·exact qB rfl
   ·with_reducible (repeat (first | exact qE | apply qF | apply qG))
   ·kernel_rfl
   ·rfl
   apply d_on 5 rfl rfl rfl
   ·exact qO rfl rfl (hE.t rfl) (by omega) (by omega)
   ·with_reducible (repeat (first | exact qE | apply qF | apply qG))
   ·kernel_rfl
   ·rfl
   apply d_on 6 rfl rfl rfl
   ·exact qD rfl (hE.t rfl) rfl
   ·with_reducible (repeat (first | exact qE | apply qF | apply qG))
   ·kernel_rfl
   ·rfl
   apply d_on 7 rfl rfl rfl
   ·(apply qN rfl (hE.t rfl) rfl; (repeat (first | rfl | assumption | constructor)); done)
   ·with_reducible (repeat (first | exact qE | apply qF | apply qG))
   ·kernel_rfl
   ·rfl
   apply d_on 8 rfl rfl rfl
   ·exact qB rfl
   ·with_reducible (repeat (first | exact qE | apply qF | apply qG))
   ·kernel_rfl
   ·rfl
   apply d_on 9 rfl rfl rfl
   ·exact qB rfl
   ·with_reducible (repeat (first | exact qE | apply qF | apply qG))
   ·kernel_rfl
   ·rfl
   apply d_on 10 rfl rfl rfl
   ·exact qO rfl rfl (hE.t rfl) (by omega) (by omega)
   ·with_reducible (repeat (first | exact qE | apply qF | apply qG))
   ·kernel_rfl
   ·rfl
   apply d_on 11 rfl rfl rfl
   ·exact qD rfl (hE.t rfl) rfl
   ·with_reducible (repeat (first | exact qE | apply qF | apply qG))
   ·kernel_rfl
   ·rfl
   apply d_on 12 rfl rfl rfl
   ·(apply zI rfl (hE.t rfl) rfl (by assumption); (focus ((repeat constructor); done)); (first | ((focus exact f0); (focus omega)) | ((focus exact f1); (focus omega)) | ((focus assumption); (focus omega))))
   ·with_reducible (repeat (first | exact qE | apply qF | apply qG))
   ·kernel_rfl
   ·rfl
   apply d_on 13 rfl rfl rfl
   ·exact y_ne_str rfl rfl
   ·with_reducible (repeat (first | exact qE | apply qF | apply qG))
   ·kernel_rfl
   ·rfl
   refine uD 14 rfl (qW rfl rfl) ?_
   refine uD 15 rfl (qB rfl) ?_
   refine d_eq 89 (.bool false) rfl (by simp) ?_
   apply d_on 16 rfl rfl rfl
   ·exact qB rfl
   ·with_reducible (repeat (first | exact qE | apply qF | apply qG))
   ·kernel_rfl
   ·rfl
   apply d_on 17 rfl rfl rfl
   ·exact qB rfl
   ·with_reducible (repeat (first | exact qE | apply qF | apply qG))
   ·kernel_rfl
   ·rfl
   apply d_on 18 rfl rfl rfl
   ·exact qO rfl rfl (hE.t rfl) (by omega) (by omega)
   ·with_reducible (repeat (first | exact qE | apply qF | apply qG))
   ·kernel_rfl
   ·rfl
   apply d_on 19 rfl rfl rfl
   ·exact qD rfl (hE.t rfl) rfl
   ·with_reducible (repeat (first | exact qE | apply qF | apply qG))
   ·kernel_rfl
   ·rfl
   apply d_on 20 rfl rfl rfl
   ·(apply qN rfl (hE.t rfl) rfl; (repeat (first | rfl | assumption | constructor)); done)
   ·with_reducible (repeat (first | exact qE | apply qF | apply qG))
   ·kernel_rfl
   ·rfl
   apply d_on 21 rfl rfl rfl
   ·exact qB rfl
   ·with_reducible (repeat (first | exact qE | apply qF | apply qG))
   ·kernel_rfl
   ·rfl
   apply d_on 22 rfl rfl rfl
   ·exact y_ne rfl rfl
   ·with_reducible (repeat (first | exact qE | apply qF | apply qG))
   ·kernel_rfl
   ·rfl
   refine uD 23 rfl (qW rfl rfl) ?_
   refine qDm (by kernel_rfl) ?_
   refine qJ ?_
   refine zD rfl (fun g4 => ?_) (fun g4 => ?_)
   ·exact absurd rfl g4
   refine zB (zH (qJ (qI (uM rfl (qA (qAd rfl rfl (by omega) (by omega)) rfl ?_)))))
   refine uA rfl (qL ?_)
   refine zR (ι := ReaG) (j := ⟨k + 1, M ++ N⟩) ⟨by simp only; omega, by simp only [List.length_append]; omega⟩ (by simp only; omega) ⟨rfl, rfl, rfl, congrArg some (zV (by simp only; omega)), trivial⟩ (by (apply ent; (repeat constructor); done))
  refine kH (qP (qP (zG (qJ (qK (qI (uA rfl (qL (qJ (zY ?_))))))))))
  apply zZ
  ·rfl
  ·(apply Rs.tmp rfl; exact Rs.nil)
  ·exact ⟨rfl, rfl⟩
  ·(apply ent; (repeat constructor); done)
end
section
open Go Go.RowKit Sl Eg
theorem qQc {E : Env} (hE : Seat E) (hB : Base E.w0) {l : List Im} {a : Option Addr} {ca : Nat} {oa : Option Addr} {ob : List UInt8} {oc : Nat} (hq : Rdb E.w0 a (imC l) old) (hok : ∀ x ∈ l, Rdb E.w0 x.a (byC x.bs) old) (hn : l.length ≤ maxLen) (hro : Rdb E.w0 oa (byC ob) old) :
  Ct E 7 [.slice a l.length ca, .slice oa ob.length oc] [] (fun v Q => v = .bool true ∧ Q = []) := zDs (qOs hE hB hq hok hn hro)
end
end Go.Proofs.YtkkjjablmmmmkaaGreatDoor
