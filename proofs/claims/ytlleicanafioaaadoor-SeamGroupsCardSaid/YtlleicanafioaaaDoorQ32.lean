import Derived.Test.YtlleicanafioaaaDoorQ05
import Derived.Test.YtlleicanafioaaaDoorQ31
import Derived.Laws.Small
import Derived.Lib.Overlaps
set_option linter.all false
set_option maxHeartbeats 1000000
namespace Sl
open Go Go.RowKit
variable {E : Env} {n : Nat} {L : Fr} {S : List HP} {ty : TypeId} {pos : String} {af : Array Edge} {d : Option Nat} {gd : Option (Nat × Bool)}
theorem y_sub_u {x y : Operand} {xt yt : TypeId} {i j : Int} (hx : ev L x = some (.int .u64 i)) (hy : ev L y = some (.int .u64 j)) (h0 : 0 ≤ i - j) (h1 : i - j ≤ 18446744073709551615) :
  Yl E n L S ⟨d, .binOp .sub xt x y yt, ty, pos, af, gd⟩ (.int .u64 (i - j)) := fun a w g _ => by
 have e : IntKind.u64.wrap (i - j) = i - j := by rw [IntKind.wrap_u64]; omega
 simp [execOp, eqGuard, binOp, Op.intArith, g.ev hx, g.ev hy, e]
end Sl
namespace Go.Proofs.YtlleicanafioaaaDoor
open Go Go.RowKit Sl Eg
set_option maxRecDepth 10000
variable {E : Env} {Es : List Ent} {pp tb s most : Nat}
theorem zAl (hE : Seat E) {i : Nat} (hi : i < Es.length) : Ct E 23 [uPt pp, .int .i64 ((i + 1 : Nat) : Int)] [cells pp [uPt s, uPt tb] 57, tabP tb s (rls Es), zU s most Es] (fun v Q => v = .int .i64 (len (rls Es) (i + 1) : Nat) ∧ Q = [cells pp [uPt s, uPt tb] 57, tabP tb s (rls Es), zU s most Es]) := by
 refine qAy (p := zU s most Es) uK (fun _ h => qAb h) (fun hsay => ?_)
 have hent : Es[i]? = some (Es[i]'hi) := List.getElem?_eq_getElem hi
 generalize Es[i]'hi = en at hent
 have htx := hsay.2.1 i en hent
 refine zR (hE.fn Tryd.func23) rfl rfl rfl (fun R => ?_)
 simp only [qAo, uV, uW]
 refine qN (qL (uA rfl (qO (qM (qN (qL (uM rfl (uX (qBb hE) rfl ?_))))))))
 rintro _ _ ⟨rfl, rfl⟩
 simp only [uV, uW]
 refine uM rfl (uX (qSz hE hent) rfl ?_)
 rintro _ _ ⟨rfl, rfl⟩
 simp only [uV, uW]
 refine uM rfl (uB (qX rfl rfl) (uB (qX rfl rfl) (uU (kI (hE.t rfl) (fun b5 => ?_)))))
 refine uU (uS ?_)
 refine uA rfl (qO (qM (qN (qL (uB (uBf rfl) ?_)))))
 refine uL ?_
 refine uA rfl (qO (qM (kE ?_)))
 exact uZ rfl (.tmp rfl .nil) ⟨by rw [len, ← htx]; rfl, rfl⟩
theorem zAk (hE : Seat E) : Ct E 23 [uPt pp, .int .i64 ((0 : Nat) : Int)] [cells pp [uPt s, uPt tb] 57, tabP tb s (rls Es), zU s most Es] (fun v Q => v = .int .i64 ((0 : Nat) : Int) ∧ Q = [cells pp [uPt s, uPt tb] 57, tabP tb s (rls Es), zU s most Es]) := by
 refine zR (hE.fn Tryd.func23) rfl rfl rfl (fun R => ?_)
 simp only [qAo, uV, uW]
 refine qN (qL (uA rfl (qO (qM (qN (qL (uM rfl (uX (qBb hE) rfl ?_))))))))
 rintro _ _ ⟨rfl, rfl⟩
 simp only [uV, uW]
 refine uM rfl (uX (qPb hE) rfl ?_)
 rintro _ _ ⟨rfl, rfl⟩
 simp only [uV, uW]
 refine uM rfl (uB (qX rfl rfl) (uB (qX rfl rfl) (uU (kI (hE.t rfl) (fun b5 => ?_)))))
 refine uU (uS ?_)
 refine uA rfl (qO (qM (qN (qL (uB (uBf rfl) ?_)))))
 refine uL ?_
 refine uA rfl (qO (qM (kE ?_)))
 exact uZ rfl (.tmp rfl .nil) ⟨rfl, rfl⟩
theorem qEi (hE : Seat E) {i : Nat} (hi : i ≤ (rls Es).length) : Ct E 23 [uPt pp, .int .i64 (i : Nat)] [cells pp [uPt s, uPt tb] 57, tabP tb s (rls Es), zU s most Es] (fun v Q => v = .int .i64 (len (rls Es) i : Nat) ∧ Q = [cells pp [uPt s, uPt tb] 57, tabP tb s (rls Es), zU s most Es]) := by
 cases i with
 | zero => exact zAk hE
 | succ i => exact zAl hE (by rw [zT] at hi; omega)
theorem qSw (hE : Seat E) {l : Nat} (h2 : 2 ≤ l) (he : l % 2 = 0) (hl : l < 1099511627776) : Ct E 67 [.int .i64 (l : Nat)] []
  (fun v Q => (∃ a b d, v = .tuple #[.int .i64 a, .int .u64 b, .bool d] ∧ (d = true ↔ num l = 122)) ∧ Q = []) := by
 by_cases hc : lnum l = 122
 ·refine zR (hE.fn Tryd.func67) rfl rfl rfl (fun R => ?_)
  simp only [qAo, uV, uW]
  refine qN (qL (uA rfl (uA rfl (uA rfl (qO (qM (qN (qL (uM rfl (uX (qJd hE h2 he hl hc) rfl ?_))))))))))
  rintro _ _ ⟨rfl, rfl⟩
  simp only [uV, uW]
  refine uB (qX rfl rfl) (uB (qX rfl rfl) (uB (qX rfl rfl) (uA rfl (uA rfl (uA rfl (qO (qM (kE ?_))))))))
  exact uZ rfl (.tmp rfl (.tmp rfl (.tmp rfl .nil))) ⟨⟨_, _, true, rfl, fun _ => hc, fun _ => rfl⟩, rfl⟩
 refine zR (hE.fn Tryd.func67) rfl rfl rfl (fun R => ?_)
 simp only [qAo, uV, uW]
 refine qN (qL (uA rfl (uA rfl (uA rfl (qO (qM (qN (qL (uM rfl (uX (qJc hE h2 he hl hc) rfl ?_))))))))))
 rintro _ _ ⟨rfl, rfl⟩
 simp only [uV, uW]
 refine uB (qX rfl rfl) (uB (qX rfl rfl) (uB (qX rfl rfl) (uA rfl (uA rfl (uA rfl (qO (qM (kE ?_))))))))
 exact uZ rfl (.tmp rfl (.tmp rfl (.tmp rfl .nil))) ⟨⟨_, _, false, rfl, fun h => (by cases h), fun h => absurd h hc⟩, rfl⟩
theorem qYh (hE : Seat E) {l : Nat} (h2 : 2 ≤ l) (he : l % 2 = 0) (hl : l < 1099511627776) : Ct E 81 [.int .i64 (l : Nat)] [] (fun v Q => v = .tuple ⟨[.int .i64 (num l : Nat), .bool true]⟩ ∧ Q = []) := by
 apply qKp
 intro w
 rw [hE.P]
 exact qNq l w h2 he hl
theorem ct_Fits (hE : Seat E) {l x y : Nat} (h2 : 2 ≤ l) (he : l % 2 = 0) (hl : l < 1099511627776) : Ct E 95 [.int .u64 (x : Nat), .int .u64 (y : Nat), .int .i64 (l : Nat)] []
  (fun v Q => (∃ d : Bool, v = .bool d ∧ (d = true ↔ qAd (num l) x y)) ∧ Q = []) := by
 have hn := num_le l
 refine zR (hE.fn Tryd.func95) rfl rfl rfl (fun R => ?_)
 simp only [qAo, uV, uW]
 refine qN (qL (uA rfl (qO (qM (qN (qL (uM rfl (uX (qYh hE h2 he hl) rfl ?_))))))))
 rintro _ _ ⟨rfl, rfl⟩
 simp only [uV, uW]
 refine uM rfl (uB (qX rfl rfl) (uB (qX rfl rfl) (uA rfl (uA rfl (qO (qM (qN (qN (qL (uM rfl (uB (qIf rfl) ?_)))))))))))
 refine qO (qM (zG rfl (zF (qM (qN (qN (qL (uM rfl (uB (y_eq rfl rfl) ?_)))))))))
 refine qO (qM ?_)
 refine zH rfl (fun hc => ?_) (fun hc => ?_)
 ·have hc' : num l = 122 := by omega
  refine qN (qL (uM rfl (uM rfl (uB (y_eq rfl rfl) ?_))))
  refine uA rfl (qO (qM (kE (qZ ?_))))
  apply kF
  ·rfl
  ·(apply Rs.tmp rfl; exact Rs.nil)
  ·refine ⟨⟨_, rfl, ?_⟩, rfl⟩
   rw [decide_eq_true_eq, hc', qAd, if_pos rfl]
   omega
  exact uI
 have hc' : num l ≠ 122 := by omega
 have e1 : ((num l : Nat) : Int) / 2 = ((num l / 2 : Nat) : Int) := by omega
 have e2 : ((num l : Nat) : Int) % 2 = ((num l % 2 : Nat) : Int) := by omega
 have hfb := qHb (c := num l) (x := x) (y := y) hc'
 have hbl := qQa y (num l / 2)
 unfold bt at hfb hbl
 refine zF (qM (qN (qL (uM rfl (uB (y_quo rfl rfl (by omega) (by omega) (by omega)) ?_)))))
 refine uM rfl (uB (qVy rfl rfl (by omega) (by omega)) ?_)
 refine uB (uAc rfl) ?_
 refine uA rfl (uA rfl (qO (qM ?_)))
 refine w_eq 9 (.int .i64 ((num l / 2 : Nat) : Int)) rfl (zZ e1) ?_
 refine w_eq 10 (.int .u64 ((num l % 2 : Nat) : Int)) rfl (zZ e2) ?_
 refine qN (qL (uM rfl (uM rfl (uB (y_shr rfl rfl (by omega)) ?_))))
 refine uB (qXv rfl rfl) ?_
 refine uM rfl (uB (y_eq rfl rfl) ?_)
 refine uM rfl ?_
 refine qAn 34 rfl (fun h1 => ?_) (fun h1 => ?_)
 ·refine kT rfl rfl ?_
  refine uM rfl (kT rfl rfl (uM rfl (kT rfl rfl (uB (y_shr rfl rfl (by omega)) ?_))))
  refine kT rfl rfl (uB (qXv rfl rfl) ?_)
  refine kT rfl rfl (uM rfl (kT rfl rfl (uB (y_sub_u rfl rfl (by omega) (by omega)) ?_)))
  refine kT rfl rfl (uB (y_eq rfl rfl) ?_)
  refine uB (zA rfl rfl) ?_
  refine uA rfl (qO (qM (kE ?_)))
  apply kF
  ·rfl
  ·(apply Rs.tmp rfl; exact Rs.nil)
  ·refine ⟨⟨_, rfl, ?_⟩, rfl⟩
   rw [decide_eq_true_eq, hfb]
   omega
  exact uI
 refine zW rfl rfl rfl rfl (zW rfl rfl rfl rfl (zW rfl rfl rfl rfl (zW rfl rfl rfl rfl (zW rfl rfl rfl rfl (zW rfl rfl rfl rfl (zW rfl rfl rfl rfl ?_))))))
 refine uB (zB rfl rfl) ?_
 refine uA rfl (qO (qM (kE ?_)))
 apply kF
 ·rfl
 ·(apply Rs.tmp rfl; exact Rs.nil)
 ·refine ⟨⟨false, rfl, ?_⟩, rfl⟩
  rw [hfb]
  simp only [Bool.false_eq_true, false_iff]
  omega
 exact uI
theorem qUt (hE : Seat E) {l x y : Nat} (h2 : 2 ≤ l) (he : l % 2 = 0) (hl : l < 1099511627776) : Ct E 87 [.int .u64 (x : Nat), .int .u64 (y : Nat), .int .i64 (l : Nat)] []
  (fun v Q => (∃ d : Bool, v = .bool d ∧ (d = true ↔ qAd (num l) x y)) ∧ Q = []) := by
 refine zR (hE.fn Tryd.func87) rfl rfl rfl (fun R => ?_)
 simp only [qAo, uV, uW]
 refine qN (qL (uA rfl (qO (qM (qN (qL (uM rfl (uM rfl (uM rfl (uX (ct_Fits hE h2 he hl) rfl ?_))))))))))
 rintro _ _ ⟨⟨d, rfl, hd⟩, rfl⟩
 simp only [uV, uW]
 refine uA rfl (qO (qM (kE ?_)))
 exact uZ rfl (.tmp rfl .nil) ⟨⟨d, rfl, hd⟩, rfl⟩
def cutO (L : List Rl) : Option Fm → Bool
 | none => false
 | some f => decide (f.hv < qAp (rlAt L f.id))
theorem ct_run (hE : Seat E) {b c x k l root : Nat} {pre suf : List Value} {bt : TypeId} {p : Option Addr} {bh : Bool} {fs : List Fm} (hw : Wf (rls Es)) (hL : (rls Es).length ≤ 1048576) (hs : Sig (rls Es) root) (he : EO (rls Es) bh l root x fs) (hx : x ≠ 0) (hodd : (l + 1) % 2 = 1) :
  Ct E 83 [.pointer (some ⟨b, pre.length, none⟩), .int .i64 ((l + 1 : Nat) : Int)] [cells b (pre ++ uPt pp :: .bool bh :: .slice p fs.length c :: .int .i64 (x : Nat) :: .int .u64 (k : Nat) :: suf) bt, sl p c 137 8 fs.length (qAc (rls Es) fs)]
   (fun v Q => (∃ o, Par (rls Es) (l + 1) fs o ∧ v = .tuple #[.int .i64 (many (rls Es) o : Nat), .bool (cutO (rls Es) o)]) ∧ Q = [cells b (pre ++ uPt pp :: .bool bh :: .slice p fs.length c :: .int .i64 (x : Nat) :: .int .u64 (k : Nat) :: suf) bt, sl p c 137 8 fs.length (qAc (rls Es) fs)]) := by
 have hfl := he.pl hw hL hs
 obtain ⟨_, h2, _, _⟩ := he.low hx
 refine zR (hE.fn Tryd.func83) rfl rfl rfl (fun R => ?_)
 simp only [qAo, uV, uW]
 refine qN (qL (uA rfl (uA rfl (qO (qM (qN (qL (uM rfl (uM rfl (uX (qEs hE hfl) rfl ?_))))))))))
 rintro v _ ⟨⟨o, ho, hv⟩, rfl⟩
 simp only [uV, uW]
 cases o with
 | none =>
  obtain rfl : v = .pointer none := hv
  refine uA rfl (qO (qM (qN (qN (qL (uM rfl (uB (qDy rfl (hE.t rfl)) ?_)))))))
  refine qO (qM (zI rfl (qN (qL (uA rfl (uA rfl (qO (qM (kE (qZ ?_))))))))))
  exact uZ rfl (.tmp rfl (.tmp rfl .nil)) ⟨⟨none, ho, rfl⟩, rfl⟩
 | some f =>
  obtain ⟨gs, g, rfl, rfl, rfl⟩ := hv
  obtain ⟨r, l1, l2, l3, l4, l5, l6, ex⟩ := h2.inv
  have er := qBo l3
  obtain ⟨y, n, rfl⟩ : ∃ y n, r = .power y n := by
   have hl := ho.2
   have okf := l1.ok hw hs
   cases r with
   | letter b => exact absurd rfl (l4 b)
   | pair a b => have := (qGo hw l2 l3 okf.2.2.1).1; omega
   | power y n => exact ⟨y, n, rfl⟩
  have em : many (rls Es) (some f) = f.hv := by simp [many, er]
  have ec : cutO (rls Es) (some f) = decide (f.hv < n) := by simp [cutO, er, qAp]
  rw [List.length_append, List.length_singleton] at *
  rw [qCq]
  refine uA rfl (qO (qM (qN (qN (qL (uM rfl (uB (qBa rfl (hE.t rfl)) ?_)))))))
  refine qO (qM (zG rfl ?_))
  refine zF (qM (qN (qCo (by kernel_rfl) ?_)))
  refine uM rfl (uB (zD rfl) ?_)
  refine uB (uBf rfl) ?_
  apply qD
  ·(apply qQ rfl (hE.t rfl) rfl; (repeat (first | rfl | assumption | exact ap_0 | exact ap_1 | exact ap_2 | exact ap_3 | exact ap_4 | exact ap_5 | exact ap_6 | exact ap_7 | constructor)); done)
  ·rfl
  refine uM rfl (uB (zD rfl) ?_)
  refine uB (uBf rfl) ?_
  apply qD
  ·(apply qQ rfl (hE.t rfl) rfl; (repeat (first | rfl | assumption | exact ap_0 | exact ap_1 | exact ap_2 | exact ap_3 | exact ap_4 | exact ap_5 | exact ap_6 | exact ap_7 | constructor)); done)
  ·rfl
  refine uM rfl (uB (zD rfl) ?_)
  refine uB (uBf rfl) ?_
  refine uB (uBf rfl) ?_
  apply qD
  ·(apply qQ rfl (hE.t rfl) rfl; (repeat (first | rfl | assumption | exact ap_0 | exact ap_1 | exact ap_2 | exact ap_3 | exact ap_4 | exact ap_5 | exact ap_6 | exact ap_7 | constructor)); done)
  ·rfl
  refine uB (y_lt rfl rfl) ?_
  refine uA rfl (uA rfl (qO (qM (kE ?_))))
  apply kF
  ·rfl
  ·(apply Rs.tmp rfl; apply Rs.tmp rfl; exact Rs.nil)
  ·refine ⟨⟨some f, ho, ?_⟩, rfl⟩
   rw [em, ec, er]
   have e : decide (f.hv < n) = decide (((f.hv : Nat) : Int) < (((Rl.power y n).times : Nat) : Int)) := by simp [Rl.times]
   rw [e]
   rfl
  exact uI
theorem qJe (hE : Seat E) (hB : Base E.w0) {x : Nat} {bh : Bool} (hs : Sig (rls Es) x) :
  Ct E 48 [uPt pp, .int .i64 (x : Nat), .int .i64 (len (rls Es) x : Nat), .bool bh] [cells pp [uPt s, uPt tb] 57, tabP tb s (rls Es), zU s most Es]
   (fun v Q => ∃ y gs p c, v = .agg #[uPt pp, .bool bh, .slice p gs.length c, .int .i64 (y : Nat), .int .u64 (key (rls Es) y : Nat)] ∧ Dn (rls Es) bh 0 x [] y gs ∧ lvl (rls Es) y ≤ ((0 : Nat) : Int) ∧ Q = [cells pp [uPt s, uPt tb] 57, tabP tb s (rls Es), zU s most Es, sl p c 137 8 gs.length (qAc (rls Es) gs)]) := by
 refine qAy (p := zU s most Es) uK (fun _ h => qAb h) (fun hsay => ?_)
 have hlp := qVf hsay.1 x hs.pos hs.le
 have hll : 0 ≤ 1099511627776 := by omega
 have hdn := fun b9 k => zAe (pp := pp) (s := s) (tb := tb) (most := most) (b := b9) (c := 0) (k := k) (pre := []) (suf := []) (bt := 109) (bh := bh) (p := none) (fs := []) hE hB hs .nil hll
 simp only [List.nil_append, List.length_nil, zBx] at hdn
 refine zR (hE.fn Tryd.func48) rfl rfl rfl (fun R => ?_)
 simp only [qAo, uV, uW]
 refine qN (qL (uU (kI (hE.t rfl) (fun b8 => ?_))))
 refine qO (qM (qN (qL (uM rfl (uM rfl (uB (qAl (hE.t rfl) rfl rfl) ?_))))))
 refine uU (kI (hE.t rfl) (fun b9 => ?_))
 refine uU ?_
 (apply zO rfl rfl (hE.t rfl) rfl; (focus ((repeat constructor); done)); (focus rfl); (focus (first | exact Nat.le_of_ble_eq_true rfl | (simp only [zS, List.length_append, List.length_cons, List.length_nil]; omega))))
 try simp only [zS, sm_0, sm_1, sm_2, sm_3, sm_4, sm_5, sm_6, sm_7]
 refine qO (qM (qN (qN (qL (uM rfl (uB (y_eq rfl rfl) ?_))))))
 refine qO (qM ?_)
 refine zH rfl (fun h0 => ?_) (fun h0 => ?_)
 ·exfalso; omega
 refine zF (qM (qN (qN (qL (uM rfl (uB (uBf rfl) ?_))))))
 refine uU ?_
 (apply zO rfl rfl (hE.t rfl) rfl; (focus ((repeat constructor); done)); (focus rfl); (focus (first | exact Nat.le_of_ble_eq_true rfl | (simp only [zS, List.length_append, List.length_cons, List.length_nil]; omega))))
 try simp only [zS, sm_0, sm_1, sm_2, sm_3, sm_4, sm_5, sm_6, sm_7]
 refine qO (qM (zN ?_))
 refine qKi 1 ?_
 refine qFm ?_
 refine qN (qN (qL (uM rfl (uM rfl (uB (uBf rfl) ?_)))))
 apply qD
 ·(apply qQ rfl (hE.t rfl) rfl; (repeat (first | rfl | assumption | exact ap_0 | exact ap_1 | exact ap_2 | exact ap_3 | exact ap_4 | exact ap_5 | exact ap_6 | exact ap_7 | constructor)); done)
 ·rfl
 refine uX (qEi hE hs.le) rfl ?_
 rintro _ _ ⟨rfl, rfl⟩
 simp only [uV, uW]
 refine uB (y_lt rfl rfl) ?_
 refine qO (qM ?_)
 refine zH rfl (fun h1 => ?_) (fun h1 => ?_)
 ·exfalso; omega
 refine kM (qU (qU (zK (qM (qN (qL ?_))))))
 refine zBf (qDq (t := 137) (sz := 8)) ?_
 refine uX (hdn b9 0) rfl ?_
 rintro _ _ ⟨y, gs, p, c, rfl, q1, q2, rfl⟩
 simp only [List.nil_append, List.cons_append]
 refine qO (qM (qN (qL ?_)))
 apply qD
 ·(apply zY rfl (hE.t rfl) rfl; (repeat (first | rfl | assumption | exact ap_0 | exact ap_1 | exact ap_2 | exact ap_3 | exact ap_4 | exact ap_5 | exact ap_6 | exact ap_7 | constructor)); done)
 ·rfl
 refine uU ?_
 (apply zO rfl rfl (hE.t rfl) rfl; (focus ((repeat constructor); done)); (focus rfl); (focus (first | exact Nat.le_of_ble_eq_true rfl | (simp only [zS, List.length_append, List.length_cons, List.length_nil]; omega))))
 try simp only [zS, sm_0, sm_1, sm_2, sm_3, sm_4, sm_5, sm_6, sm_7]
 refine qO (qM (kE ?_))
 apply kF
 ·rfl
 ·((apply Rs.cell rfl (hE.t rfl) rfl; (focus ((repeat (first | rfl | assumption | exact ap_0 | exact ap_1 | exact ap_2 | exact ap_3 | exact ap_4 | exact ap_5 | exact ap_6 | exact ap_7 | constructor)); done))); exact Rs.nil)
 ·exact ⟨y, gs, p, c, rfl, q1, q2, rfl⟩
 exact uI
end Go.Proofs.YtlleicanafioaaaDoor
namespace Sl
section
open Go Go.RowKit
variable {E : Env} {n : Nat} {L : Fr} {S H H' : List HP} {ty : TypeId} {pos : String} {af : Array Edge} {d : Option Nat} {gd : Option (Nat × Bool)} {K : Value → List HP → Prop} {Q : Exit → Act → World → Prop}
theorem qRo {t e : TypeId} {i : TypeInfo} (ht : E.P.underlying t = some (.slice e)) (hi : E.P.info? e = some i) {b c o dl dc k cc N m : Nat} {q : Addr} {xs us : List Value} {w : World} (ty : TypeId)
  (s : Sat E.w0 w (sl (some ⟨b, 0, none⟩) c e i.size N xs :: H)) (hm : m = Nat.min k dl) (hu : us.length = m * i.size) (hq : ∀ j u, us[j]? = some u → w.cell? (q.add j) = some u) (hp : qBu us = true) (hN : o + m * i.size ≤ N * i.size) :
  ∃ w', (Builtin.copy_ #[t, t] ty #[.slice (some ⟨b, o, none⟩) dl dc, .slice (some q) k cc]).run E.P w = .ok (.int .i64 (m : Nat)) w' ∧ Sat E.w0 w' (sl (some ⟨b, 0, none⟩) c e i.size N (kC xs o us) :: H) := by
 have hxl : xs.length = N * i.size := by obtain ⟨h1, h2, _, _, hh, _⟩ := s.hp; exact hh.1
 obtain ⟨cur, s1, h1, h2, h3, h4⟩ := s.slice
 have hme : N * i.size ≤ cur.size := by rw [h3]; exact Nat.mul_le_mul_right _ h1
 obtain ⟨w', hr, hs⟩ := qHi (E := E) cur o us w s1 hp (by omega)
 have hfc := run_firstCells_some (P := E.P) w i.size m q k cc us hu hq
 refine ⟨w', ?_, hs.imp fun k' hk' => qCr (fun k'' hk'' => ?_) hk'⟩
 ·subst hm
  simp [Builtin.copy_, run_underlying ht, Go.sizeOf, typeInfo, hi, Builtin.lenOf, hfc, hr, goInt]
 refine ⟨by rw [qP, hxl], .inr ⟨b, _, rfl, hk'', h1, h2, by simpa [qP] using h3, ?_⟩⟩
 rw [qFo _ _ _ _ (by omega), h4]
theorem zBi {x y : Operand} {t e : TypeId} {b o c dl dc k cc N m g es by_ sz sz' : Nat} {xs us zs zs' : List Value} {kk : TK} {H'' : List HP} {bt : TypeId} (ht : E.tab t = some ⟨.slice e es by_, sz, zs⟩) (he : E.tab e = some ⟨kk, sz', zs'⟩)
  (hx : ev L x = some (.slice (some ⟨b, o, none⟩) dl dc)) (hy : ev L y = some (.slice (some ⟨g, 0, none⟩) k cc)) (hm : Take (cells g us bt) H H') (hm2 : Take (sl (some ⟨b, 0, none⟩) c e es N xs) H' H'') (hp : qBu us = true) (hl : us.length = m * es) (hmm : m = Nat.min k dl) (hN : o + m * es ≤ N * es)
  (hk : K (.int .i64 (m : Nat)) (cells g us bt :: sl (some ⟨b, 0, none⟩) c e es N (kC xs o us) :: H'')) : Ld E n L H ⟨d, .call { callee := .builtin .copy, args := #[x, y], argTypes := #[t, t] }, ty, pos, af, gd⟩ K := fun Q next a w G hn => by
 obtain ⟨hu, j, hj, hs, hby⟩ := qBc ht
 obtain ⟨i, z, hi, hi2, hiz, hzc, _⟩ := qAv he
 obtain rfl : i = j := by rw [hi] at hj; simpa using hj
 subst hs
 have s1 := G.hp.take hm
 have s2 : Sat E.w0 w (sl (some ⟨b, 0, none⟩) c e i.size N xs :: cells g us bt :: H'') := (s1.imp fun _ h => qDa (qBl (fun _ => hm2.out) h))
 have hnews : ∀ j u, us[j]? = some u → w.cell? ((⟨g, 0, none⟩ : Addr).add j) = some u := fun j u hu => by rw [qCl, Nat.zero_add]; exact s1.cell j hu
 obtain ⟨w', hr, ho⟩ := qRo hu hi ty (dc := dc) (cc := cc) s2 hmm hl hnews hp hN
 have hrun : (execOp a.eval ⟨d, .call { callee := .builtin .copy, args := #[x, y], argTypes := #[t, t] }, ty, pos, af, gd⟩).run E.P w = .ok (.value (.int .i64 (m : Nat))) w' := by
  simp [execOp, resolve, invoke, builtin, G.f.ev hx, G.f.ev hy, hr]
 unfold Oper.wp
 rw [hrun, Oper.upon_value]
 exact hn _ _ _ hk (ho.imp fun _ h => qDa h)
theorem qTj {x y : Operand} {t e : TypeId} {b o q c dl dc k cc N m es by_ sz sz' : Nat} {xs us zs zs' : List Value} {kk : TK} (ht : E.tab t = some ⟨.slice e es by_, sz, zs⟩) (he : E.tab e = some ⟨kk, sz', zs'⟩)
  (hx : ev L x = some (.slice (some ⟨b, o, none⟩) dl dc)) (hy : ev L y = some (.slice (some ⟨b, q, none⟩) k cc)) (hm2 : Take (sl (some ⟨b, 0, none⟩) c e es N xs) H H') (hus : us = (xs.drop q).take (m * es)) (hp : qBu us = true) (hmm : m = Nat.min k dl) (hN : o + m * es ≤ N * es) (hM : q + m * es ≤ N * es)
  (hk : K (.int .i64 (m : Nat)) (sl (some ⟨b, 0, none⟩) c e es N (kC xs o us) :: H')) : Ld E n L H ⟨d, .call { callee := .builtin .copy, args := #[x, y], argTypes := #[t, t] }, ty, pos, af, gd⟩ K := fun Q next a w G hn => by
 obtain ⟨hu, j, hj, hs, hby⟩ := qBc ht
 obtain ⟨i, z, hi, hi2, hiz, hzc, _⟩ := qAv he
 obtain rfl : i = j := by rw [hi] at hj; simpa using hj
 subst hs
 have s1 := G.hp.take hm2
 have hxl : xs.length = N * i.size := by obtain ⟨h1, h2, _, _, hh, _⟩ := s1.hp; exact hh.1
 have hl : us.length = m * i.size := by rw [hus, List.length_take, List.length_drop]; omega
 have hnews : ∀ j u, us[j]? = some u → w.cell? ((⟨b, q, none⟩ : Addr).add j) = some u := fun j u hu => by
  rw [qCl]
  refine (HasC.slice ?_).cell s1
  rw [hus, List.getElem?_take] at hu
  split at hu
  ·rw [List.getElem?_drop] at hu; exact hu
  cases hu
 obtain ⟨w', hr, ho⟩ := qRo hu hi ty (dc := dc) (cc := cc) s1 hmm hl hnews hp hN
 have hrun : (execOp a.eval ⟨d, .call { callee := .builtin .copy, args := #[x, y], argTypes := #[t, t] }, ty, pos, af, gd⟩).run E.P w = .ok (.value (.int .i64 (m : Nat))) w' := by
  simp [execOp, resolve, invoke, builtin, G.f.ev hx, G.f.ev hy, hr]
 unfold Oper.wp
 rw [hrun, Oper.upon_value]
 exact hn _ _ _ hk ho
theorem qYv {x y : Operand} {t e : TypeId} {b o c dl dc k cc N m g c2 N2 es by_ sz sz' : Nat} {xs ys us zs zs' : List Value} {kk : TK} {H'' : List HP} (ht : E.tab t = some ⟨.slice e es by_, sz, zs⟩) (he : E.tab e = some ⟨kk, sz', zs'⟩)
  (hx : ev L x = some (.slice (some ⟨b, o, none⟩) dl dc)) (hy : ev L y = some (.slice (some ⟨g, 0, none⟩) k cc)) (hm : Take (sl (some ⟨g, 0, none⟩) c2 e es N2 ys) H H') (hm2 : Take (sl (some ⟨b, 0, none⟩) c e es N xs) H' H'') (hus : us = ys.take (m * es)) (hM : m ≤ N2) (hp : qBu us = true) (hmm : m = Nat.min k dl) (hN : o + m * es ≤ N * es)
  (hk : K (.int .i64 (m : Nat)) (sl (some ⟨g, 0, none⟩) c2 e es N2 ys :: sl (some ⟨b, 0, none⟩) c e es N (kC xs o us) :: H'')) : Ld E n L H ⟨d, .call { callee := .builtin .copy, args := #[x, y], argTypes := #[t, t] }, ty, pos, af, gd⟩ K := fun Q next a w G hn => by
 obtain ⟨hu, j, hj, hs, hby⟩ := qBc ht
 obtain ⟨i, z, hi, hi2, hiz, hzc, _⟩ := qAv he
 obtain rfl : i = j := by rw [hi] at hj; simpa using hj
 subst hs
 have s1 := G.hp.take hm
 have hyl : ys.length = N2 * i.size := by obtain ⟨h1, h2, _, _, hh, _⟩ := s1.hp; exact hh.1
 have hme : m * i.size ≤ N2 * i.size := Nat.mul_le_mul_right _ hM
 have hl : us.length = m * i.size := by rw [hus, List.length_take]; omega
 have s2 : Sat E.w0 w (sl (some ⟨b, 0, none⟩) c e i.size N xs :: sl (some ⟨g, 0, none⟩) c2 e i.size N2 ys :: H'') := (s1.imp fun _ h => qDa (qBl (fun _ => hm2.out) h))
 have hnews : ∀ j u, us[j]? = some u → w.cell? ((⟨g, 0, none⟩ : Addr).add j) = some u := fun j u hu => by
  rw [qCl, Nat.zero_add]
  refine (HasC.slice ?_).cell s1
  rw [hus, List.getElem?_take] at hu
  split at hu
  ·exact hu
  cases hu
 obtain ⟨w', hr, ho⟩ := qRo hu hi ty (dc := dc) (cc := cc) s2 hmm hl hnews hp hN
 have hrun : (execOp a.eval ⟨d, .call { callee := .builtin .copy, args := #[x, y], argTypes := #[t, t] }, ty, pos, af, gd⟩).run E.P w = .ok (.value (.int .i64 (m : Nat))) w' := by
  simp [execOp, resolve, invoke, builtin, G.f.ev hx, G.f.ev hy, hr]
 unfold Oper.wp
 rw [hrun, Oper.upon_value]
 exact hn _ _ _ hk (ho.imp fun _ h => qDa h)
theorem qIr {x y : Operand} {t tn e : TypeId} {p : Option Addr} {c k es by_ sz sz' szn : Nat} {zs zs' zsn : List Value} {kk : TK} {kn : IntKind} {i : Int} (ht : E.tab t = some ⟨.slice e es by_, sz, zs⟩) (he : E.tab e = some ⟨kk, sz', zs'⟩) (htn : E.tab tn = some ⟨.int kn, szn, zsn⟩) (hz : (Nat.beq zs'.length es && Nat.blt 0 es) = true)
  (hx : ev L x = some (.slice p 0 c)) (hy : ev L y = some (.int .i64 i)) (hi : i = (k : Nat)) (hc : c < k) (hb : k * by_ ≤ 140737488355328) (hb2 : k ≤ maxLen)
  (hk : ∀ g' c' us, us.length = k * es → K (.slice (some ⟨g', 0, none⟩) k c') (sl (some ⟨g', 0, none⟩) c' e es k us :: H)) : Ld E n L H ⟨d, .call { callee := .builtin .append, args := #[x, y], argTypes := #[t, tn] }, ty, pos, af, gd⟩ K := fun Q next a w G hn => by
 obtain ⟨hu, j, hj, hs, hby⟩ := qBc ht
 obtain ⟨i', z, hi', hi2, hiz, hzc, _⟩ := qAv he
 obtain rfl : i' = j := by rw [hi'] at hj; simpa using hj
 simp only [Bool.and_eq_true] at hz
 have z1 := Nat.eq_of_beq_eq_true hz.1
 have z2 : 0 < es := by simpa [Nat.blt_eq] using hz.2
 subst hi hs hby
 have hzs : z.cells.size = i'.size := by rw [← Array.length_toList, hzc]; exact z1
 have hold : (Builtin.firstCells i'.size 0 (.slice p 0 c)).run E.P w.drew = .ok ([] : List Value).toArray w.drew := by
  cases p with
  | none => simp [Builtin.firstCells]
  | some q => exact run_firstCells_some (P := E.P) w.drew i'.size 0 q 0 c [] (by simp) (fun j u h => by simp at h)
 have hkb : k * i'.bytes ≤ 281474976710656 := by omega
 have hsm : ((0 + k : Nat) : Int) ≤ 9223372036854775807 := by simp only [maxLen] at hb2; omega
 have hr := Lib.run_append_grow_zeros (P := E.P) w t tn ty e i' z .i64 kn hu (qLh htn) hi' hiz p 0 c [] hold k (by omega) (by omega) (by omega) hsm hkb (growslice_fits (by omega) (by rw [Nat.zero_add]; exact hb))
 have hge := grownCap_ge w (0 + k) c e
 have hcm : grownCap w (0 + k) c e ≤ maxLen := grownCap_le_maxLen w (0 + k) c e (by rw [Nat.zero_add]; exact hb2)
 rw [Nat.zero_add] at hr hge hcm
 have hrun : (execOp a.eval ⟨d, .call { callee := .builtin .append, args := #[x, y], argTypes := #[t, tn] }, ty, pos, af, gd⟩).run E.P w = .ok (.value (.slice (some ⟨w.heap.size, 0, none⟩) k (grownCap w k c e))) (w.drew.alloc (.cells (([] : List Value).toArray ++ Builtin.zeroCells z.cells k ++ Builtin.zeroCells z.cells (grownCap w k c e - k)) e)) := by
  simp [execOp, resolve, invoke, builtin, G.f.ev hx, G.f.ev hy, hr]
 have hzl : (Builtin.zeroCells z.cells k).toList.length = k * i'.size := by simp [size_zeroCells, hzs]
 unfold Oper.wp
 rw [hrun, Oper.upon_value]
 refine hn _ _ _ (hk w.heap.size (grownCap w k c e) (Builtin.zeroCells z.cells k).toList hzl) ((G.hp.drew.new _).imp fun k' hk' => qCr (fun k'' hk'' => ?_) hk')
 refine ⟨hzl, .inr ⟨_, _, rfl, hk'', hge, hcm, ?_, ?_⟩⟩
 ·simp only [Array.size_append, List.size_toArray, List.length_nil, size_zeroCells, hzs, Nat.zero_add, ← Nat.add_mul]
  congr 1
  omega
 simp only [Array.toList_append, List.nil_append]
 rw [← hzl]
 exact List.take_left
theorem qVe {x y : Operand} {f : FuncId} {fn : Func} {t tR e : TypeId} {b o c la ca lb cb N g go es by_ sz sz' : Nat} {xs us zs zs' : List Value} {kk : TK} {H'' : List HP} {bt : TypeId} {ts : Array TypeId} (ht : E.tab t = some ⟨.slice e es by_, sz, zs⟩) (he : E.tab e = some ⟨kk, sz', zs'⟩)
  (hf : E.P.funcs[f]? = some fn) (hname : (fn.name == "runtime.NumGoroutine") = false) (hb : fn.body.isNone = true) (hnx : Extern.findNext fn = none) (hex : Extern.find fn = some (Extern.SlicesOverlaps.overlaps #[t, t] #[tR]))
  (hx : ev L x = some (.slice (some ⟨g, go, none⟩) la ca)) (hy : ev L y = some (.slice (some ⟨b, o, none⟩) lb cb)) (hm : Take (cells g us bt) H H') (hm2 : Take (sl (some ⟨b, 0, none⟩) c e es N xs) H' H'') (hN : 0 < N * es) (hne : g ≠ b)
  (hk : K (.bool false) H) : Ld E n L H ⟨d, .call { callee := .value (.func f), args := #[x, y], argTypes := ts }, ty, pos, af, gd⟩ K := fun Q next a w G hn => by
 obtain ⟨hu, j, hj, hs, hby⟩ := qBc ht
 obtain ⟨i, z, hi, hi2, hiz, hzc, _⟩ := qAv he
 obtain rfl : i = j := by rw [hi] at hj; simpa using hj
 subst hs
 have s1 := G.hp.take hm
 have s2 : Sat E.w0 w (sl (some ⟨b, 0, none⟩) c e i.size N xs :: cells g us bt :: H'') := (s1.imp fun _ h => qDa (qBl (fun _ => hm2.out) h))
 obtain ⟨cur, s3, h1, h2, h3, h4⟩ := s2.slice
 have hc : 0 < c * i.size := Nat.lt_of_lt_of_le hN (Nat.mul_le_mul_right _ h1)
 have e1 := s1.ptr.1
 have e2 := s3.ptr.1
 have hov := Lib.run_overlaps_apart (P := E.P) w t tR e hu i.size (fun w => by rw [qKe he w, ← hi2]) ⟨g, go, none⟩ ⟨b, o, none⟩ la ca lb cb hne bt e us.length cur.size (by simp [World.shape?, e1]) (by simp [World.shape?, e2]) (by omega) (by simp [World.frozen?, e1]) (by simp [World.frozen?, e1])
 have hrun : (execOp a.eval ⟨d, .call { callee := .value (.func f), args := #[x, y], argTypes := ts }, ty, pos, af, gd⟩).run E.P w = .ok (.value (.bool false)) w := by
  have h5 : a.eval (.func f) = .func (.func f) #[] #[] := rfl
  simp [execOp, resolve, Deferred.ofValue, invoke, h5, G.f.ev hx, G.f.ev hy, run_callFunc_extern hf hname hb hnx hex, hov]
 unfold Oper.wp
 rw [hrun, Oper.upon_value]
 exact hn _ _ _ hk G.hp
end
section
open Go Go.RowKit
variable {E : Env} {n : Nat} {L : Fr} {S H H' : List HP} {ty : TypeId} {pos : String} {af : Array Edge} {d : Option Nat} {gd : Option (Nat × Bool)}
theorem qVx {x : Operand} {t e : TypeId} {p : Option Addr} {len cap : Nat} {s b sz : Nat} {zs : List Value} (hx : ev L x = some (.slice p len cap)) (ht : E.tab t = some ⟨.slice e s b, sz, zs⟩) :
  Yl E n L S ⟨d, .call { callee := .builtin .cap, args := #[x], argTypes := #[t] }, ty, pos, af, gd⟩ (.int .i64 (cap : Nat)) := fun a w g _ => by
 obtain ⟨hu, _⟩ := qBc ht
 simp [execOp, resolve, invoke, builtin, Builtin.cap_, underlying, program, Sem.run, hu, g.ev hx, goInt]
theorem zCo {p : HP} {h : PH} (x : p h) : qAe [p] h := ⟨h, fun _ => none, fun _ => .inr rfl, by funext k; simp [join], x, trivial⟩
theorem sl_more {b c sz m : Nat} {xs : List Value} {t : TypeId} {k : PH} (h : sl (some ⟨b, 0, none⟩) c t sz m xs k) (hm : m + 1 ≤ c) : ∃ us : List Value, us.length = sz ∧ sl (some ⟨b, 0, none⟩) c t sz (m + 1) (xs ++ us) k := by
 obtain ⟨hl, h1 | ⟨g, cur, h1, h2, h3, h4, h5, h6⟩⟩ := h
 ·cases h1.1
 have hs : (m + 1) * sz ≤ cur.size := by rw [h5]; exact Nat.mul_le_mul_right _ hm
 have e : (m + 1) * sz = m * sz + sz := by rw [Nat.add_mul, Nat.one_mul]
 have hcl : cur.toList.length = cur.size := Array.length_toList
 have hul : ((cur.toList.drop (m * sz)).take sz).length = sz := by rw [List.length_take, List.length_drop]; omega
 refine ⟨(cur.toList.drop (m * sz)).take sz, hul, by rw [List.length_append, hl, hul, e], .inr ⟨g, cur, h1, h2, hm, h4, h5, ?_⟩⟩
 rw [e, List.take_add, h6]
end
end Sl
namespace Go.Proofs.YtlleicanafioaaaDoor
open Go Go.RowKit Sl Eg
set_option maxRecDepth 10000
variable {E : Env} {Es : List Ent} {pp tb s most : Nat}
theorem qIq {b k c l n m : Nat} (h : ¬ c = l) : (.slice (some (if c = l then (⟨b, 0, none⟩ : Addr) else Addr.add ⟨b, 0, none⟩ (l * k))) n m : Value) = .slice (some ⟨b, l * k, none⟩) n m := by
 rw [if_neg h, qCl]
theorem ins_eq {zs xs v : List Value} {n : Nat} (hz : zs.length = (n + 1) * 4) (hx : xs.length = n * 4) (hv : v.length = 4) : kC (kC zs 0 v) 4 xs = v ++ xs := by
 rw [qCz v zs 0 (by omega), List.take_zero, List.nil_append, Nat.zero_add, hv, qCz xs _ 4 (by simp; omega)]
 rw [List.take_append_of_le_length (by omega), List.take_of_length_le (by omega), List.drop_of_length_le (l := v ++ List.drop 4 zs) (by simp; omega), List.append_nil]
theorem ins_eq2 {zs xs v : List Value} {n : Nat} (hz : zs.length = (n + 1) * 4) (hx : xs.length = n * 4) (hv : v.length = 4) : kC (kC zs 4 xs) 0 v = v ++ xs := by
 rw [qCz xs zs 4 (by omega), qCz v _ 0 (by simp; omega), List.take_zero, List.nil_append, Nat.zero_add, hv, List.drop_of_length_le (l := zs) (by omega), List.append_nil]
 rw [List.drop_append_of_le_length (by simp; omega), List.drop_of_length_le (by simp; omega)]
 rfl
def InsPost (xs : List Value) (n : Nat) (a1 a2 a3 a4 : Int) (v : Value) (Q : List HP) : Prop := ∃ g' c', v = .slice (some ⟨g', 0, none⟩) (n + 1) c' ∧ Q = [sl (some ⟨g', 0, none⟩) c' 149 4 (n + 1) ([.int .i64 a1, .int .i64 a2, .int .u64 a3, .int .i64 a4] ++ xs)]
theorem qYa (hE : Seat E) {p : Option Addr} {c g cc : Nat} {a1 a2 a3 a4 : Int} : Ct E 84 [.slice p 0 c, .int .i64 0, .slice (some ⟨g, 0, none⟩) 1 cc] [sl p c 149 4 0 [], cells g [.int .i64 a1, .int .i64 a2, .int .u64 a3, .int .i64 a4] 149] (InsPost [] 0 a1 a2 a3 a4) := by
 refine zR (hE.fn Tryd.func84) rfl rfl rfl (fun R => ?_)
 simp only [qAo, uV, uW]
 refine qN (qL (uA rfl (qO (qM (qN (qL (uM rfl (uM rfl ?_))))))))
 refine uB (qSk (l := 0) rfl (hE.t rfl) ⟨_, rfl⟩ rfl (by omega) (by omega)) ?_
 refine qO (qM (qN (qL (uM rfl (uB (uBl rfl) ?_)))))
 refine uA rfl (qO (qM (qN (qN (qL (uM rfl (uB (y_eq rfl rfl) ?_)))))))
 refine qO (qM (zG rfl (zF (qM (qN (qL (uM rfl (uB (uBl rfl) ?_))))))))
 refine uA rfl (qO (qM (qN (qN (qL (uM rfl (uM rfl (uB (y_eq rfl rfl) ?_))))))))
 refine qO (qM (zI rfl (qN (qL (uM rfl (uM rfl (uU ?_)))))))
 apply zX (hE.t rfl) (hE.t rfl) rfl rfl rfl
 ·exact uK
 ·exact uK
 ·rfl
 ·rfl
 ·omega
 ·omega
 ·(unfold maxLen; omega)
 intro g' c' m' x' hm hx
 obtain rfl : m' = 0 + 1 := hm
 subst hx
 refine uA rfl (qO (qM (kE (qZ ?_))))
 exact uZ rfl (.tmp rfl .nil) ⟨g', c', rfl, rfl⟩
theorem qYb (hE : Seat E) {b c n g cc : Nat} {a1 a2 a3 a4 : Int} {xs : List Value} (hn : n ≤ 1099511627776) (hn1 : 1 ≤ n) (hpx : qBu xs = true) (hgb : g ≠ b) : Ct E 84 [.slice (some ⟨b, 0, none⟩) n c, .int .i64 0, .slice (some ⟨g, 0, none⟩) 1 cc] [sl (some ⟨b, 0, none⟩) c 149 4 n xs, cells g [.int .i64 a1, .int .i64 a2, .int .u64 a3, .int .i64 a4] 149] (InsPost xs n a1 a2 a3 a4) := by
 refine qAy (p := sl (some ⟨b, 0, none⟩) c 149 4 n xs) uK (fun _ h => qKa h) ?_
 rintro ⟨hcap, hcm, hxl⟩
 unfold maxLen at hcm
 refine zR (hE.fn Tryd.func84) rfl rfl rfl (fun R => ?_)
 simp only [qAo, uV, uW]
 refine qN (qL (uA rfl (qO (qM (qN (qL (uM rfl (uM rfl ?_))))))))
 refine uB (qSk (l := 0) rfl (hE.t rfl) ⟨_, rfl⟩ rfl (by omega) (by omega)) ?_
 refine qO (qM (qN (qL (uM rfl (uB (uBl rfl) ?_)))))
 refine uA rfl (qO (qM (qN (qN (qL (uM rfl (uB (y_eq rfl rfl) ?_)))))))
 refine qO (qM (zG rfl (zF (qM (qN (qL (uM rfl (uB (uBl rfl) ?_))))))))
 refine uA rfl (qO (qM (qN (qN (qL (uM rfl (uM rfl (uB (y_eq rfl rfl) ?_))))))))
 refine qO (qM ?_)
 refine zH rfl (fun h0 => ?_) (fun h0 => ?_)
 ·exfalso; omega
 refine zF (qM (qN (qN (qL (uM rfl (uM rfl (uB (uAa rfl rfl) ?_)))))))
 refine uM rfl (uB (qVx rfl (hE.t rfl)) ?_)
 refine uB (y_gt rfl rfl) ?_
 refine qO (qM ?_)
 refine zH rfl (fun hg => ?_) (fun hg => ?_)
 ·have hb2 : n + 1 ≤ maxLen := by unfold maxLen; omega
  have hm1 : 1 = Nat.min 1 (n + 1) := by show 1 = min 1 (n + 1); omega
  have hm2 : n = Nat.min n (n + 1 - 1) := by show n = min n (n + 1 - 1); omega
  have hxt : xs = xs.take (n * 4) := (List.take_of_length_le (by omega)).symm
  refine qN (qL (uM rfl (uM rfl (uB (qBs 0 rfl rfl (hE.t rfl) rfl (Nat.zero_le _)) ?_))))
  refine uM rfl (uM rfl (uB (uAa rfl rfl) ?_))
  refine uM rfl (uB (uAs rfl rfl) ?_)
  refine uU ?_
  refine qIr (k := n + 1) (hE.t rfl) (hE.t rfl) (hE.t rfl) rfl rfl rfl (by omega) (by omega) (by omega) hb2 (fun g' c' zs hzl => ?_)
  refine qId (p := sl (some ⟨g', 0, none⟩) c' 149 4 (n + 1) zs) uK (fun _ h => qKa h) ?_
  rintro ⟨hc', -, -⟩
  refine uA rfl (qO (qM (qN (qL (uM rfl (uM rfl (uB (qBd (l := 0) rfl (hE.t rfl) ⟨_, rfl⟩ rfl (by omega) (by omega)) ?_)))))))
  refine l_eq 43 (.slice (some ⟨g', 0, none⟩) (n + 1) c') rfl (by rw [qIq (by omega)]; rfl) ?_
  refine uM rfl (uU ?_)
  refine zBi (m := 1) (hE.t rfl) (hE.t rfl) rfl rfl uK uK rfl rfl hm1 (by omega) ?_
  refine qO (qM (qN (qCo (by kernel_rfl) ?_)))
  refine uM rfl (uM rfl (uM rfl (uB (uAa rfl rfl) ?_)))
  refine uB (qBd (l := 1) rfl (hE.t rfl) ⟨_, rfl⟩ rfl (by omega) (by omega)) ?_
  refine l_eq 50 (.slice (some ⟨g', 4, none⟩) (n + 1 - 1) (c' - 1)) rfl (by rw [qIq (by omega)]) ?_
  refine uM rfl (uM rfl (uB (qBd (l := 0) rfl (hE.t rfl) ⟨_, rfl⟩ rfl (by omega) (by omega)) ?_))
  refine l_eq 53 (.slice (some ⟨b, 0, none⟩) n c) rfl (by rw [qIq (by omega)]; rfl) ?_
  refine uU ?_
  refine qYv (m := n) (us := xs) (hE.t rfl) (hE.t rfl) rfl rfl uK uK hxt (Nat.le_refl _) hpx hm2 (by omega) ?_
  refine qO (qM (qN (qL (uM rfl (uA rfl (qO (qM (kE (qZ ?_)))))))))
  exact uZ rfl (.tmp rfl .nil) ⟨g', c', rfl, by rw [← ins_eq (zs := zs) (v := [.int .i64 a1, .int .i64 a2, .int .u64 a3, .int .i64 a4]) hzl hxl rfl]⟩
 have hm1 : 1 = Nat.min 1 (n + 1) := by show 1 = min 1 (n + 1); omega
 have hm2 : n = Nat.min (n + 1) (n + 1 - 1) := by show n = min (n + 1) (n + 1 - 1); omega
 refine w_open (ps := fun us => [sl (some ⟨b, 0, none⟩) c 149 4 (n + 1) (xs ++ us)]) uK (fun k h => by obtain ⟨us, _, q⟩ := sl_more h (by omega); exact ⟨us, zCo q⟩) (fun us => ?_)
 simp only [uV, uW]
 refine qFd (p := sl (some ⟨b, 0, none⟩) c 149 4 (n + 1) (xs ++ us)) uK (fun _ h => qKa h) ?_
 rintro ⟨-, -, hzl⟩
 have hxt : xs = ((xs ++ us).drop 0).take (n * 4) := by rw [List.drop_zero, List.take_append_of_le_length (by omega), List.take_of_length_le (by omega)]
 refine zF (qM (qN (qL (uM rfl (uM rfl (uM rfl (uB (uAa rfl rfl) ?_)))))))
 refine uB (qBs (n + 1) rfl rfl (hE.t rfl) (by omega) (by omega)) ?_
 refine uA rfl (qO (qM (qN (qN (qL (uM rfl (uM rfl (uM rfl (uM rfl (uB (uAa rfl rfl) ?_))))))))))
 refine uB (qBd (l := 1) rfl (hE.t rfl) ⟨_, rfl⟩ rfl (by omega) (by omega)) ?_
 refine l_eq 66 (.slice (some ⟨b, 4, none⟩) (n + 1 - 1) (c - 1)) rfl (by rw [qIq (by omega)]) ?_
 refine uU ?_
 refine qVe (t := 111) (tR := 4) (hE.t rfl) (hE.t rfl) (hE.fn Tryd.func93) (by kernel_rfl) (by kernel_rfl) (by kernel_rfl) (by kernel_rfl) rfl rfl uK uK (by omega) hgb ?_
 refine uB (qIf rfl) ?_
 refine qO (qM (zI rfl ?_))
 refine qN (qCo (by kernel_rfl) ?_)
 refine uM rfl (uM rfl (uM rfl (uB (uAa rfl rfl) ?_)))
 refine uB (qBd (l := 1) rfl (hE.t rfl) ⟨_, rfl⟩ rfl (by omega) (by omega)) ?_
 refine l_eq 73 (.slice (some ⟨b, 4, none⟩) (n + 1 - 1) (c - 1)) rfl (by rw [qIq (by omega)]) ?_
 refine uM rfl (uM rfl (uB (qBd (l := 0) rfl (hE.t rfl) ⟨_, rfl⟩ rfl (by omega) (by omega)) ?_))
 refine l_eq 76 (.slice (some ⟨b, 0, none⟩) (n + 1) c) rfl (by rw [qIq (by omega)]; rfl) ?_
 refine uU ?_
 refine qTj (m := n) (us := xs) (hE.t rfl) (hE.t rfl) rfl rfl uK hxt hpx hm2 (by omega) (by omega) ?_
 refine qO (qM (qN (qL (uM rfl (uM rfl (uB (qBd (l := 0) rfl (hE.t rfl) ⟨_, rfl⟩ rfl (by omega) (by omega)) ?_))))))
 refine l_eq 80 (.slice (some ⟨b, 0, none⟩) (n + 1) c) rfl (by rw [qIq (by omega)]; rfl) ?_
 refine uM rfl (uU ?_)
 refine zBi (m := 1) (hE.t rfl) (hE.t rfl) rfl rfl uK uK rfl rfl hm1 (by omega) ?_
 refine qO (qM (qN (qL (uM rfl (uA rfl (qO (qM (kE (qZ ?_)))))))))
 exact uZ rfl (.tmp rfl .nil) ⟨b, c, rfl, by rw [← ins_eq2 (zs := xs ++ us) (v := [.int .i64 a1, .int .i64 a2, .int .u64 a3, .int .i64 a4]) hzl hxl rfl]⟩
end Go.Proofs.YtlleicanafioaaaDoor
namespace Sl
open Go Go.RowKit
theorem sl_apart {w0 w : World} {g b c sz n : Nat} {us xs : List Value} {t t2 : TypeId} {H : List HP} (s : Sat w0 w (sl (some ⟨b, 0, none⟩) c t2 sz n xs :: cells g us t :: H)) : g ≠ b := by
 intro e
 subst e
 obtain ⟨h1, h2, d, e, hp, hr⟩ := s.hp
 obtain ⟨h3, h4, d2, e2, hq, _⟩ := hr
 obtain ⟨_, h0 | ⟨g', cur, h0, hb, _⟩⟩ := hp
 ·cases h0.1
 cases h0
 have hc : h3 g = some _ := hq
 have h5 : h2 g = none := by
  rcases d g with h | h
  ·rw [hb] at h; cases h
  exact h
 rw [e2] at h5
 unfold join at h5
 rw [hc] at h5
 simp at h5
end Sl
namespace Go.Proofs.YtlleicanafioaaaDoor
open Go Go.RowKit Sl Eg
set_option maxRecDepth 10000
section
variable {E : Env} {Es : List Ent} {pp tb s most S : Nat}
structure Sd where
 x : Nat
 fs : List Fm
 p : Option Addr
 c : Nat
structure Md where
 its : List It
 p : Option Addr
 c : Nat
def itC (L : List Rl) (it : It) : List Value := [.int .i64 (it.id : Nat), .int .i64 (it.next : Nat), .int .u64 (key L it.id : Nat), .int .i64 (it.times : Nat)]
def itsC (L : List Rl) (its : List It) : List Value := its.flatMap (itC L)
theorem qBe (L : List Rl) (it : It) (its : List It) : itsC L (it :: its) = .int .i64 (it.id : Nat) :: .int .i64 (it.next : Nat) :: .int .u64 (key L it.id : Nat) :: .int .i64 (it.times : Nat) :: itsC L its := by simp [itsC, itC]
theorem qBw (L : List Rl) (its : List It) (it : It) : itsC L (its ++ [it]) = itsC L its ++ .int .i64 (it.id : Nat) :: .int .i64 (it.next : Nat) :: .int .u64 (key L it.id : Nat) :: .int .i64 (it.times : Nat) :: [] := by simp [itsC, itC]
theorem qGm (L : List Rl) (its : List It) : (itsC L its).length = its.length * 4 := by
 induction its with
 | nil => rfl
 | cons it its ih => rw [qBe, List.length_cons, List.length_cons, List.length_cons, List.length_cons, ih, List.length_cons]; omega
theorem qPl (L : List Rl) (its : List It) : qBu (itsC L its) = true := by
 induction its with
 | nil => rfl
 | cons it its ih => rw [qBe]; exact ih
theorem qWx {L : List Rl} (M : List Rl) {its : List It} (h : ∀ it ∈ its, it.id ≤ L.length) : itsC (L ++ M) its = itsC L its := by
 induction its with
 | nil => rfl
 | cons it its ih => rw [qBe, qBe, ih fun i hi => h i (by simp [hi]), qAi M (h it (by simp))]
theorem qEx {L : List Rl} {its : List It} {g n : Nat} (h : n = its.length + 1) : (.pointer (some ⟨g, 0 + (((n : Nat) : Int) - 1).toNat * 4, none⟩) : Value) = .pointer (some ⟨g, (itsC L its).length, none⟩) := by
 rw [qGm, show 0 + (((n : Nat) : Int) - 1).toNat * 4 = its.length * 4 by omega]
theorem qJb (hE : Seat E) {p : Option Addr} {c n g cc : Nat} {a1 a2 a3 a4 : Int} {xs : List Value} (hn : n ≤ 1099511627776) (hpx : qBu xs = true) : Ct E 84 [.slice p n c, .int .i64 0, .slice (some ⟨g, 0, none⟩) 1 cc] [sl p c 149 4 n xs, cells g [.int .i64 a1, .int .i64 a2, .int .u64 a3, .int .i64 a4] 149] (InsPost xs n a1 a2 a3 a4) := by
 refine qAy (p := sl p c 149 4 n xs) uK (fun _ h => qKa h) ?_
 rintro ⟨-, -, hxl⟩
 rcases Nat.eq_zero_or_pos n with rfl | h1
 ·obtain rfl : xs = [] := List.eq_nil_of_length_eq_zero (by omega)
  exact qYa hE
 refine qAy (p := sl p c 149 4 n xs) uK (fun _ h => qCc h h1) ?_
 rintro ⟨b, rfl⟩
 intro R w hs
 exact qYb hE hn h1 hpx (sl_apart hs) R w hs
def fstS (B : Sd) (M : Md) : Nat := match M.its with | [] => B.x | it :: _ => it.id
def lstS (A : Sd) (M : Md) : Nat := match M.its.getLast? with | none => A.x | some it => it.id
theorem qWj (hE : Seat E) {A B : Sd} {M : Md} : Ct E 82 [uPt S] [cells S [uPt pp, uPt pp, .bool false, .slice A.p A.fs.length A.c, .int .i64 (A.x : Nat), .int .u64 (key (rls Es) A.x : Nat), uPt pp, .bool true, .slice B.p B.fs.length B.c, .int .i64 (B.x : Nat), .int .u64 (key (rls Es) B.x : Nat), .slice M.p M.its.length M.c] 113, sl M.p M.c 149 4 M.its.length (itsC (rls Es) M.its)] (fun v Q => v = .tuple #[.int .i64 (fstS B M : Nat), .int .u64 (key (rls Es) (fstS B M) : Nat)] ∧ Q = [cells S [uPt pp, uPt pp, .bool false, .slice A.p A.fs.length A.c, .int .i64 (A.x : Nat), .int .u64 (key (rls Es) A.x : Nat), uPt pp, .bool true, .slice B.p B.fs.length B.c, .int .i64 (B.x : Nat), .int .u64 (key (rls Es) B.x : Nat), .slice M.p M.its.length M.c] 113, sl M.p M.c 149 4 M.its.length (itsC (rls Es) M.its)]) := by
 obtain ⟨its, p, c⟩ := M
 cases its with
 | nil =>
  refine zR (hE.fn Tryd.func82) rfl rfl rfl (fun R => ?_)
  simp only [qAo, uV, uW]
  refine qN (qL (uA rfl (uA rfl (qO (qM (qN (qN (qL (uM rfl (uB (zD rfl) ?_))))))))))
  refine uB (uBf rfl) ?_
  refine uL ?_
  refine uB (uBl rfl) ?_
  refine uB (y_gt rfl rfl) ?_
  refine qO (qM ?_)
  refine zH rfl (fun h => ?_) (fun h => ?_)
  ·exfalso; simp at h
  refine zF (qM (qN (qCo (by kernel_rfl) ?_)))
  refine uM rfl (uB (zD rfl) ?_)
  refine uB (uBf rfl) ?_
  refine uB (uBf rfl) ?_
  refine uL ?_
  refine uM rfl (uB (zD rfl) ?_)
  refine uB (uBf rfl) ?_
  refine uB (uBf rfl) ?_
  refine uL ?_
  refine uA rfl (uA rfl (qO (qM (kE ?_))))
  exact uZ rfl (.tmp rfl (.tmp rfl .nil)) ⟨rfl, rfl⟩
 | cons it its =>
  simp only
  refine qAy (p := sl (⟨it :: its, p, c⟩ : Md).p (⟨it :: its, p, c⟩ : Md).c 149 4 (⟨it :: its, p, c⟩ : Md).its.length (itsC (rls Es) (⟨it :: its, p, c⟩ : Md).its)) uK (fun _ h => qCc h (by simp)) ?_
  rintro ⟨g, rfl⟩
  rw [qBe]
  refine zR (hE.fn Tryd.func82) rfl rfl rfl (fun R => ?_)
  simp only [qAo, uV, uW]
  refine qN (qL (uA rfl (uA rfl (qO (qM (qN (qN (qL (uM rfl (uB (zD rfl) ?_))))))))))
  refine uB (uBf rfl) ?_
  refine uL ?_
  refine uB (uBl rfl) ?_
  refine uB (y_gt rfl rfl) ?_
  refine qO (qM ?_)
  refine zH rfl (fun h => ?_) (fun h => ?_)
  ·have hl : (1 : Int) ≤ ((it :: its).length : Nat) := by simp only [List.length_cons]; omega
   refine qN (qCo (by kernel_rfl) ?_)
   refine uM rfl (uB (zD rfl) ?_)
   refine uB (uBf rfl) ?_
   refine uL ?_
   refine uB (uAi rfl rfl) ?_
   refine uB (uBf rfl) ?_
   refine uL ?_
   refine uM rfl (uB (zD rfl) ?_)
   refine uB (uBf rfl) ?_
   refine uL ?_
   refine uB (uAi rfl rfl) ?_
   refine uB (uBf rfl) ?_
   refine uL ?_
   refine uA rfl (uA rfl (qO (qM (kE (qZ ?_)))))
   exact uZ rfl (.tmp rfl (.tmp rfl .nil)) ⟨rfl, rfl⟩
  exfalso; apply h; simp only [List.length_cons]; omega
theorem zAg (hE : Seat E) {A B : Sd} {M : Md} (hl : M.its.length ≤ 1099511627776) : Ct E 86 [uPt S] [cells S [uPt pp, uPt pp, .bool false, .slice A.p A.fs.length A.c, .int .i64 (A.x : Nat), .int .u64 (key (rls Es) A.x : Nat), uPt pp, .bool true, .slice B.p B.fs.length B.c, .int .i64 (B.x : Nat), .int .u64 (key (rls Es) B.x : Nat), .slice M.p M.its.length M.c] 113, sl M.p M.c 149 4 M.its.length (itsC (rls Es) M.its)] (fun v Q => v = .tuple #[.int .i64 (lstS A M : Nat), .int .u64 (key (rls Es) (lstS A M) : Nat)] ∧ Q = [cells S [uPt pp, uPt pp, .bool false, .slice A.p A.fs.length A.c, .int .i64 (A.x : Nat), .int .u64 (key (rls Es) A.x : Nat), uPt pp, .bool true, .slice B.p B.fs.length B.c, .int .i64 (B.x : Nat), .int .u64 (key (rls Es) B.x : Nat), .slice M.p M.its.length M.c] 113, sl M.p M.c 149 4 M.its.length (itsC (rls Es) M.its)]) := by
 obtain ⟨its, p, c⟩ := M
 rcases List.eq_nil_or_concat its with rfl | ⟨is, it, rfl⟩
 ·refine zR (hE.fn Tryd.func86) rfl rfl rfl (fun R => ?_)
  simp only [qAo, uV, uW]
  refine qN (qL (uA rfl (uA rfl (qO (qM (qN (qN (qL (uM rfl (uB (zD rfl) ?_))))))))))
  refine uB (uBf rfl) ?_
  refine uL ?_
  refine uB (uBl rfl) ?_
  refine uA rfl (qO (qM (qN (qL (uM rfl (uB (y_gt rfl rfl) ?_))))))
  refine qO (qM ?_)
  refine zH rfl (fun h => ?_) (fun h => ?_)
  ·exfalso; simp at h
  refine zF (qM (qN (qCo (by kernel_rfl) ?_)))
  refine uM rfl (uB (zD rfl) ?_)
  refine uB (uBf rfl) ?_
  refine uB (uBf rfl) ?_
  refine uL ?_
  refine uM rfl (uB (zD rfl) ?_)
  refine uB (uBf rfl) ?_
  refine uB (uBf rfl) ?_
  refine uL ?_
  refine uA rfl (uA rfl (qO (qM (kE ?_))))
  exact uZ rfl (.tmp rfl (.tmp rfl .nil)) ⟨rfl, rfl⟩
 rw [List.concat_eq_append] at *
 have hil : (is ++ [it]).length = is.length + 1 := by simp
 have hl' : is.length + 1 ≤ 1099511627776 := by have := hl; simp only at this; omega
 have el : lstS A ⟨is ++ [it], p, c⟩ = it.id := by simp [lstS]
 rw [el]
 simp only
 rw [hil] at *
 refine qAy (p := sl p c 149 4 (is.length + 1) (itsC (rls Es) (is ++ [it]))) uK (fun _ h => qCc h (by omega)) ?_
 rintro ⟨g, rfl⟩
 rw [qBw]
 refine zR (hE.fn Tryd.func86) rfl rfl rfl (fun R => ?_)
 simp only [qAo, uV, uW]
 refine qN (qL (uA rfl (uA rfl (qO (qM (qN (qN (qL (uM rfl (uB (zD rfl) ?_))))))))))
 refine uB (uBf rfl) ?_
 apply qD
 ·(apply qQ rfl (hE.t rfl) rfl; (repeat (first | rfl | assumption | exact ap_0 | exact ap_1 | exact ap_2 | exact ap_3 | exact ap_4 | exact ap_5 | exact ap_6 | exact ap_7 | constructor)); done)
 ·rfl
 refine uB (uBl rfl) ?_
 refine uA rfl (qO (qM (qN (qL (uM rfl (uB (y_gt rfl rfl) ?_))))))
 refine qO (qM ?_)
 refine zH rfl (fun h => ?_) (fun h => ?_)
 ·refine qN (qCo (by kernel_rfl) ?_)
  refine uM rfl (uB (zD rfl) ?_)
  refine uB (uBf rfl) ?_
  apply qD
  ·(apply qQ rfl (hE.t rfl) rfl; (repeat (first | rfl | assumption | exact ap_0 | exact ap_1 | exact ap_2 | exact ap_3 | exact ap_4 | exact ap_5 | exact ap_6 | exact ap_7 | constructor)); done)
  ·rfl
  refine uM rfl (uB (uAs rfl rfl) ?_)
  refine uB (uAi rfl rfl) ?_
  refine l_eq 18 _ rfl (qEx (L := rls Es) rfl) ?_
  refine uB (uBf rfl) ?_
  apply qD
  ·(apply qQ rfl (hE.t rfl) rfl; (repeat (first | rfl | assumption | exact ap_0 | exact ap_1 | exact ap_2 | exact ap_3 | exact ap_4 | exact ap_5 | exact ap_6 | exact ap_7 | constructor)); done)
  ·rfl
  refine uM rfl (uB (zD rfl) ?_)
  refine uB (uBf rfl) ?_
  apply qD
  ·(apply qQ rfl (hE.t rfl) rfl; (repeat (first | rfl | assumption | exact ap_0 | exact ap_1 | exact ap_2 | exact ap_3 | exact ap_4 | exact ap_5 | exact ap_6 | exact ap_7 | constructor)); done)
  ·rfl
  refine uM rfl (uB (uAs rfl rfl) ?_)
  refine uB (uAi rfl rfl) ?_
  refine l_eq 27 _ rfl (qEx (L := rls Es) rfl) ?_
  refine uB (uBf rfl) ?_
  apply qD
  ·(apply qQ rfl (hE.t rfl) rfl; (repeat (first | rfl | assumption | exact ap_0 | exact ap_1 | exact ap_2 | exact ap_3 | exact ap_4 | exact ap_5 | exact ap_6 | exact ap_7 | constructor)); done)
  ·rfl
  refine uA rfl (uA rfl (qO (qM (kE (qZ ?_)))))
  exact uZ rfl (.tmp rfl (.tmp rfl .nil)) ⟨rfl, rfl⟩
 exfalso; omega
end
section
variable {E : Env} {Es : List Ent} {pp tb s most S : Nat}
theorem qWw {its : List It} {it : It} (h : it ∈ its) (ht : 1 ≤ it.times) : it.id ∈ qAa its := by
 refine List.mem_flatMap.2 ⟨it, h, ?_⟩
 obtain ⟨m, hm⟩ : ∃ m, it.times = m + 1 := ⟨it.times - 1, by omega⟩
 unfold itF
 rw [hm, List.replicate_succ, List.flatten_cons]
 split <;> simp
theorem qHy {it : It} (ht : 1 ≤ it.times) : (itF it).head? = some it.id := by
 obtain ⟨m, hm⟩ : ∃ m, it.times = m + 1 := ⟨it.times - 1, by omega⟩
 unfold itF
 rw [hm, List.replicate_succ, List.flatten_cons]
 split <;> simp
theorem qWt {L : List Rl} {l rr : Nat} {B : Sd} {M : Md} (he : EO L true l rr B.x B.fs) (ht : ∀ it ∈ M.its, 1 ≤ it.times) (hR : ∀ x ∈ qAa M.its, 1 ≤ x ∧ x ≤ L.length) :
  (fstS B M = 0 → qAa M.its ++ seqE L true l B.x B.fs = []) ∧ (fstS B M ≠ 0 → (qAa M.its ++ seqE L true l B.x B.fs).head? = some (fstS B M)) := by
 obtain ⟨its, p, c⟩ := M
 obtain ⟨x, fs, q, d⟩ := B
 simp only at *
 cases its with
 | nil =>
  simp only [fstS, qJo, List.nil_append]
  refine ⟨fun h => ?_, fun h => he.head h⟩
  subst h
  rw [he.zero, qCn]
 | cons it its =>
  have h1 := ht it (by simp)
  have h2 := (hR it.id (qWw (by simp) h1)).1
  simp only [fstS]
  refine ⟨fun h => by omega, fun _ => ?_⟩
  rw [qBj, List.append_assoc, List.head?_append, qHy h1]
  rfl
theorem qQv {L : List Rl} {l rl : Nat} {A : Sd} {M : Md} (hs : Sng M.its) : ∀ u, (qAa M.its).getLast? = some u → lstS A M = u := by
 obtain ⟨its, p, c⟩ := M
 simp only at *
 intro u hu
 rcases List.eq_nil_or_concat its with rfl | ⟨is, it, rfl⟩
 ·simp [qAa] at hu
 rw [List.concat_eq_append] at *
 have h1 := hs it (by simp)
 rw [qAm, qBv, qDg h1.1] at hu
 obtain ⟨m, hm⟩ : ∃ m, it.times = m + 1 := ⟨it.times - 1, by omega⟩
 rw [hm, List.replicate_succ'] at hu
 simp at hu
 simp [lstS, hu]
theorem qNs {L : List Rl} {gs : List Fm} {f : Fm} : (qAc L (gs ++ [f]))[(qAc L gs).length + 7]? = some (.int .i64 (f.hv : Nat)) := by rw [qCq]; exact ap_7
theorem qHa {L : List Rl} {bh : Bool} {root x : Nat} {fs : List Fm} (h : Lk L bh root x fs) : Drp L 1 fs := ⟨Nat.le_refl _, fun _ => rfl, fun g f e => ⟨by subst e; obtain ⟨_, _, _, _, _, q, _, _⟩ := h.inv; exact q, .inl rfl⟩⟩
theorem qNn {L : List Rl} {f : Fm} {a b : Nat} (h : rlAt L f.id = .pair a b) : many L (some f) = 1 := by simp [many, h]
theorem qHd (x : Nat) (its : List It) : qAa (⟨x, 0, 1⟩ :: its) = x :: qAa its := by rw [qBj, qNi]; rfl
theorem qHc (x : Nat) (its : List It) : qAa (its ++ [⟨x, 0, 1⟩]) = qAa its ++ [x] := by rw [qAm, qBv, qNi]; rfl
theorem qQf (hE : Seat E) (hB : Base E.w0) {l rl rr : Nat} {A B : Sd} {M : Md} (hs : Sig (rls Es) rl) (eA : EO (rls Es) false l rl A.x A.fs) (eB : EO (rls Es) true l rr B.x B.fs) (hM : ∀ it ∈ M.its, 1 ≤ it.times) (hR : ∀ x ∈ qAa M.its, 1 ≤ x ∧ x ≤ (rls Es).length) (hml : M.its.length ≤ 1099511627776) (hev : (l + 1) % 2 = 0) (hll : l + 1 < 1099511627776) :
  Ct E 68 [uPt S, .int .i64 ((l + 1 : Nat) : Int)] [cells pp [uPt s, uPt tb] 57, tabP tb s (rls Es), zU s most Es, cells S [uPt pp, uPt pp, .bool false, .slice A.p A.fs.length A.c, .int .i64 (A.x : Nat), .int .u64 (key (rls Es) A.x : Nat), uPt pp, .bool true, .slice B.p B.fs.length B.c, .int .i64 (B.x : Nat), .int .u64 (key (rls Es) B.x : Nat), .slice M.p M.its.length M.c] 113, sl A.p A.c 137 8 A.fs.length (qAc (rls Es) A.fs), sl B.p B.c 137 8 B.fs.length (qAc (rls Es) B.fs), sl M.p M.c 149 4 M.its.length (itsC (rls Es) M.its)]
   (fun v Q => ∃ (A' : Sd) (M' : Md), v = .tuple #[] ∧ RL (rls Es) l rl A'.x A'.fs (qAa M'.its ++ seqE (rls Es) true l B.x B.fs) ∧ seqE (rls Es) false l A'.x A'.fs ++ qAa M'.its = seqE (rls Es) false l A.x A.fs ++ qAa M.its ∧ (M' = M ∧ A' = A ∨ M'.its = ⟨A.x, 0, 1⟩ :: M.its ∧ A.x ≠ 0) ∧ Q = [cells pp [uPt s, uPt tb] 57, tabP tb s (rls Es), zU s most Es, cells S [uPt pp, uPt pp, .bool false, .slice A'.p A'.fs.length A'.c, .int .i64 (A'.x : Nat), .int .u64 (key (rls Es) A'.x : Nat), uPt pp, .bool true, .slice B.p B.fs.length B.c, .int .i64 (B.x : Nat), .int .u64 (key (rls Es) B.x : Nat), .slice M'.p M'.its.length M'.c] 113, sl A'.p A'.c 137 8 A'.fs.length (qAc (rls Es) A'.fs), sl B.p B.c 137 8 B.fs.length (qAc (rls Es) B.fs), sl M'.p M'.c 149 4 M'.its.length (itsC (rls Es) M'.its)]) := by
 refine qAy (p := zU s most Es) uK (fun _ h => qAb h) (fun hsay => ?_)
 have hw := hsay.1
 have hL : (rls Es).length ≤ 1048576 := by have := hsay.2.2; rw [zT]; unfold qAw at this; omega
 have hfl := eA.pl hw hL hs
 obtain ⟨hf0, hf1⟩ := qWt eB hM hR
 have hpl := qPl (rls Es) M.its
 have hl1 : l ≤ 1099511627776 := by omega
 have same : RL (rls Es) l rl A.x A.fs (qAa M.its ++ seqE (rls Es) true l B.x B.fs) → ∃ (A' : Sd) (M' : Md), Value.tuple #[] = .tuple #[] ∧ RL (rls Es) l rl A'.x A'.fs (qAa M'.its ++ seqE (rls Es) true l B.x B.fs) ∧ seqE (rls Es) false l A'.x A'.fs ++ qAa M'.its = seqE (rls Es) false l A.x A.fs ++ qAa M.its ∧ (M' = M ∧ A' = A ∨ M'.its = ⟨A.x, 0, 1⟩ :: M.its ∧ A.x ≠ 0) ∧ [cells pp [uPt s, uPt tb] 57, tabP tb s (rls Es), zU s most Es, cells S [uPt pp, uPt pp, .bool false, .slice A.p A.fs.length A.c, .int .i64 (A.x : Nat), .int .u64 (key (rls Es) A.x : Nat), uPt pp, .bool true, .slice B.p B.fs.length B.c, .int .i64 (B.x : Nat), .int .u64 (key (rls Es) B.x : Nat), .slice M.p M.its.length M.c] 113, sl A.p A.c 137 8 A.fs.length (qAc (rls Es) A.fs), sl B.p B.c 137 8 B.fs.length (qAc (rls Es) B.fs), sl M.p M.c 149 4 M.its.length (itsC (rls Es) M.its)] = [cells pp [uPt s, uPt tb] 57, tabP tb s (rls Es), zU s most Es, cells S [uPt pp, uPt pp, .bool false, .slice A'.p A'.fs.length A'.c, .int .i64 (A'.x : Nat), .int .u64 (key (rls Es) A'.x : Nat), uPt pp, .bool true, .slice B.p B.fs.length B.c, .int .i64 (B.x : Nat), .int .u64 (key (rls Es) B.x : Nat), .slice M'.p M'.its.length M'.c] 113, sl A'.p A'.c 137 8 A'.fs.length (qAc (rls Es) A'.fs), sl B.p B.c 137 8 B.fs.length (qAc (rls Es) B.fs), sl M'.p M'.c 149 4 M'.its.length (itsC (rls Es) M'.its)] := fun h => ⟨A, M, rfl, h, rfl, .inl ⟨rfl, rfl⟩, rfl⟩
 refine zR (hE.fn Tryd.func68) rfl rfl rfl (fun R => ?_)
 simp only [qAo, uV, uW]
 refine qN (qN (qL (uM rfl (uB (zD rfl) ?_))))
 refine uB (uBf rfl) ?_
 refine uB (uBf rfl) ?_
 refine uL ?_
 refine uB (y_eq rfl rfl) ?_
 refine qO (qM ?_)
 refine zH rfl (fun h0 => ?_) (fun h0 => ?_)
 ·have hx0 : A.x = 0 := by omega
  refine kE (qZ ?_)
  apply kF
  ·rfl
  ·(exact Rs.nil)
  ·refine same ?_
   have := zCg (L := rls Es) (l := l) (root := rl) (fs := A.fs) (Z := qAa M.its ++ seqE (rls Es) true l B.x B.fs) (by rw [← hx0]; exact eA)
   rwa [← hx0] at this
  exact uI
 have hx : A.x ≠ 0 := by omega
 obtain ⟨k1, k2, k3, k4⟩ := eA.low hx
 refine zF (qM (qN (qN (qL (uM rfl (uB (zD rfl) ?_))))))
 refine uB (uBf rfl) ?_
 refine uM rfl ?_
 refine uX (qEs hE (b := S) (pre := [uPt pp]) (suf := [uPt pp, .bool true, .slice B.p B.fs.length B.c, .int .i64 (B.x : Nat), .int .u64 (key (rls Es) B.x : Nat), .slice M.p M.its.length M.c]) (fs := A.fs) hfl) rfl ?_
 rintro v _ ⟨⟨o, ho, hv⟩, rfl⟩
 simp only [uV, uW]
 refine uA rfl (qO (qM ?_))
 cases o with
 | none =>
  obtain rfl : v = .pointer none := hv
  refine qN (qL (uM rfl (uB (qSi rfl (hE.t rfl)) ?_)))
  refine uM rfl ?_
  refine zW rfl rfl rfl rfl (zW rfl rfl rfl rfl (zW rfl rfl rfl rfl (zW rfl rfl rfl rfl (zW rfl rfl rfl rfl ?_))))
  refine uB (zB rfl rfl) ?_
  refine qO (qM (zG rfl (qN (qL (uM rfl (uB (qDy rfl (hE.t rfl)) ?_))))))
  refine qO (qM (zI rfl (qN (qL (uM rfl (uX (qWj hE) rfl ?_))))))
  rintro _ _ ⟨rfl, rfl⟩
  simp only [uV, uW]
  have hmt : 1 = many (rls Es) none := rfl
  have hov : (l + 1) % 2 = 0 → ∀ f : Fm, none = some f → f.hv = 1 := fun _ f e => by cases e
  refine uM rfl (uB (qX rfl rfl) (uB (qX rfl rfl) (uA rfl (uA rfl (qO (qM (qN (qL (uM rfl (uB (y_eq rfl rfl) ?_))))))))))
  refine uM rfl ?_
  refine qAn 36 rfl (fun h3 => ?_) (fun h3 => ?_)
  ·refine zW rfl rfl rfl rfl (zW rfl rfl rfl rfl (zW rfl rfl rfl rfl (zW rfl rfl rfl rfl (zW rfl rfl rfl rfl (zW rfl rfl rfl rfl (zW rfl rfl rfl rfl (zW rfl rfl rfl rfl ?_)))))))
   refine zW rfl rfl rfl rfl ?_
   refine uB (zA rfl rfl) ?_
   refine qO (qM (zI rfl (kE (qZ ?_))))
   apply kF
   ·rfl
   ·(exact Rs.nil)
   ·refine same (zCf hw hs eA hx ho hev fun v hv => ?_)
    rw [hf0 (by omega)] at hv
    cases hv
   exact uI
  have hh := hf1 (by omega)
  refine kT rfl rfl (uM rfl (kT rfl rfl (uB (zD rfl) ?_)))
  refine kT rfl rfl (uB (uBf rfl) ?_)
  refine kT rfl rfl (uB (uBf rfl) ?_)
  refine kT rfl rfl (uL ?_)
  refine kT rfl rfl (uM rfl (kT rfl rfl (uM rfl (kT rfl rfl (uX (qUt hE (by omega) hev hll) rfl ?_)))))
  rintro _ _ ⟨⟨d, rfl, hd⟩, rfl⟩
  simp only [uV, uW]
  refine kT rfl rfl (uB (qIf rfl) ?_)
  refine uB (zB rfl rfl) ?_
  refine qO (qM ?_)
  cases d with
  | false =>
   refine zI rfl (kE (qZ ?_))
   apply kF
   ·rfl
   ·(exact Rs.nil)
   ·refine same (zCf hw hs eA hx ho hev fun v hv hf => ?_)
    rw [hh] at hv
    cases hv
    exact absurd (hd.2 hf) (by simp)
   exact uI
  | true =>
   refine zG rfl (zF (qM (qN ?_)))
   refine uN 20 ([cells S [uPt pp, uPt pp, .bool false, .slice A.p A.fs.length A.c, .int .i64 (A.x : Nat), .int .u64 (key (rls Es) A.x : Nat), uPt pp, .bool true, .slice B.p B.fs.length B.c, .int .i64 (B.x : Nat), .int .u64 (key (rls Es) B.x : Nat), .slice M.p M.its.length M.c] 113]) ?_
   refine uT 0 rfl (qE rfl) ?_
   refine uT 1 rfl (qE rfl) ?_
   refine uT 2 rfl (zD rfl) ?_
   refine uT 3 rfl (uBf rfl) ?_
   refine uT 4 rfl (uY) ?_
   refine uT 5 rfl (qE rfl) ?_
   refine uT 6 rfl (zD rfl) ?_
   refine uT 7 rfl (uBf rfl) ?_
   refine uT 8 rfl (uBf rfl) ?_
   refine uT 9 rfl (uY) ?_
   apply kN 10 rfl (by kernel_rfl)
   ·exact qE rfl
   ·rfl
   apply kN 11 rfl (by kernel_rfl)
   ·exact zD rfl
   ·rfl
   apply kN 12 rfl (by kernel_rfl)
   ·exact uBf rfl
   ·rfl
   apply kN 13 rfl (by kernel_rfl)
   ·exact uBf rfl
   ·rfl
   apply kN 14 rfl (by kernel_rfl)
   ·(apply qQ rfl (hE.t rfl) rfl; (repeat (first | rfl | assumption | constructor)); done)
   ·rfl
   apply kN 15 rfl (by kernel_rfl)
   ·exact qAl (hE.t rfl) rfl rfl
   ·rfl
   apply qAg 16 rfl (by kernel_rfl) rfl
   refine qY (hE.t rfl) (hE.t rfl) rfl rfl rfl (fun b63 => ?_)
   refine uE ?_
   apply qAg 17 rfl (by kernel_rfl) rfl
   refine uC (qJb hE hml hpl (a1 := (A.x : Nat)) (a2 := 0) (a3 := (key (rls Es) A.x : Nat)) (a4 := 1)) rfl ?_
   rintro _ _ ⟨g', c', rfl, rfl⟩
   simp only [uV, uW]
   have ei : (.int .i64 (A.x : Nat) :: .int .i64 0 :: .int .u64 (key (rls Es) A.x : Nat) :: .int .i64 1 :: itsC (rls Es) M.its : List Value) = itsC (rls Es) (⟨A.x, 0, 1⟩ :: M.its) := by rw [qBe]; rfl
   rw [ei]
   refine uE ?_
   apply kN 18 rfl (by kernel_rfl)
   ·exact zD rfl
   ·rfl
   apply kN 19 rfl (by kernel_rfl)
   ·exact uBf rfl
   ·rfl
   apply qBt rfl (by kernel_rfl) (by kernel_rfl) rfl
   refine uS ?_
   refine qM (qL (uM rfl (uB (zD rfl) ?_)))
   refine uB (uBf rfl) ?_
   refine uM rfl (uB (uAs rfl rfl) ?_)
   refine l_eq 71 (.int .i64 (l : Nat)) rfl (zZ (by omega)) ?_
   have hdr := qDd (pp := pp) (tb := tb) (s := s) (most := most) hE hB (b := S) (bt := 113) (p := A.p) (c := A.c) (k := key (rls Es) A.x) (pre := [uPt pp]) (suf := [uPt pp, .bool true, .slice B.p B.fs.length B.c, .int .i64 (B.x : Nat), .int .u64 (key (rls Es) B.x : Nat), .slice (⟨⟨A.x, 0, 1⟩ :: M.its, some ⟨g', 0, none⟩, c'⟩ : Md).p (⟨⟨A.x, 0, 1⟩ :: M.its, some ⟨g', 0, none⟩, c'⟩ : Md).its.length (⟨⟨A.x, 0, 1⟩ :: M.its, some ⟨g', 0, none⟩, c'⟩ : Md).c]) hs k2 (qHa k2) hl1
   refine uX (hdr) rfl ?_
   rintro _ _ ⟨x', gs', p', c'', rfl, q1, rfl⟩
   simp only [uV, uW]
   refine qO ?_
   have hmv := mvd hw hs eA hx ho hmt hov q1
   apply qLt
   ·rfl
   ·(exact Rs.nil)
   ·refine ⟨⟨x', gs', p', c''⟩, ⟨⟨A.x, 0, 1⟩ :: M.its, some ⟨g', 0, none⟩, c'⟩, rfl, qRe hmv (by rw [qHd]; rfl), ?_, .inr ⟨rfl, hx⟩, rfl⟩
    rw [hmv.seq, qHd]
    simp [cat]
   exact uI
 | some f =>
  obtain ⟨gs, g, hfs, hp, rfl⟩ := hv
  have f7 : (qAc (rls Es) A.fs)[(qAc (rls Es) gs).length + 7]? = some (.int .i64 (f.hv : Nat)) := by rw [hfs]; exact qNs
  rw [hp]
  refine qN (qL (uM rfl (uB (qSj rfl (hE.t rfl)) ?_)))
  refine uM rfl (kT rfl rfl (uM rfl (kT rfl rfl (uB (zD rfl) ?_))))
  refine kT rfl rfl (uB (uBf rfl) ?_)
  refine kT rfl rfl (uL ?_)
  refine kT rfl rfl (uB (y_eq rfl rfl) ?_)
  refine uB (zA rfl rfl) ?_
  refine qO (qM ?_)
  refine zH rfl (fun h2 => ?_) (fun h2 => ?_)
  ·refine kE (qZ ?_)
   apply kF
   ·rfl
   ·(exact Rs.nil)
   ·exact same (rl_two hw hs eA hx ho hev (by omega))
   rw [hp]
   exact uI
  refine qN (qL ?_)
  refine uM rfl (uB (qBa rfl (hE.t rfl)) ?_)
  refine qO (qM (zG rfl (zF (qM ?_))))
  rw [← hp]
  obtain ⟨_, a, b, _, _, _, _, l4, l5, l6, _⟩ := qFb hw hs eA hx ho hev
  have hmt := (qNn l4).symm
  have hov : (l + 1) % 2 = 0 → ∀ f' : Fm, some f = some f' → f'.hv = 1 := fun _ f' e => by cases e; omega
  refine qN ?_
  refine uN 20 ([cells S [uPt pp, uPt pp, .bool false, .slice A.p A.fs.length A.c, .int .i64 (A.x : Nat), .int .u64 (key (rls Es) A.x : Nat), uPt pp, .bool true, .slice B.p B.fs.length B.c, .int .i64 (B.x : Nat), .int .u64 (key (rls Es) B.x : Nat), .slice M.p M.its.length M.c] 113]) ?_
  refine uT 0 rfl (qE rfl) ?_
  refine uT 1 rfl (qE rfl) ?_
  refine uT 2 rfl (zD rfl) ?_
  refine uT 3 rfl (uBf rfl) ?_
  refine uT 4 rfl (uY) ?_
  refine uT 5 rfl (qE rfl) ?_
  refine uT 6 rfl (zD rfl) ?_
  refine uT 7 rfl (uBf rfl) ?_
  refine uT 8 rfl (uBf rfl) ?_
  refine uT 9 rfl (uY) ?_
  apply kN 10 rfl (by kernel_rfl)
  ·exact qE rfl
  ·rfl
  apply kN 11 rfl (by kernel_rfl)
  ·exact zD rfl
  ·rfl
  apply kN 12 rfl (by kernel_rfl)
  ·exact uBf rfl
  ·rfl
  apply kN 13 rfl (by kernel_rfl)
  ·exact uBf rfl
  ·rfl
  apply kN 14 rfl (by kernel_rfl)
  ·(apply qQ rfl (hE.t rfl) rfl; (repeat (first | rfl | assumption | constructor)); done)
  ·rfl
  apply kN 15 rfl (by kernel_rfl)
  ·exact qAl (hE.t rfl) rfl rfl
  ·rfl
  apply qAg 16 rfl (by kernel_rfl) rfl
  refine qY (hE.t rfl) (hE.t rfl) rfl rfl rfl (fun b63 => ?_)
  refine uE ?_
  apply qAg 17 rfl (by kernel_rfl) rfl
  refine uC (qJb hE hml hpl (a1 := (A.x : Nat)) (a2 := 0) (a3 := (key (rls Es) A.x : Nat)) (a4 := 1)) rfl ?_
  rintro _ _ ⟨g', c', rfl, rfl⟩
  simp only [uV, uW]
  have ei : (.int .i64 (A.x : Nat) :: .int .i64 0 :: .int .u64 (key (rls Es) A.x : Nat) :: .int .i64 1 :: itsC (rls Es) M.its : List Value) = itsC (rls Es) (⟨A.x, 0, 1⟩ :: M.its) := by rw [qBe]; rfl
  rw [ei]
  refine uE ?_
  apply kN 18 rfl (by kernel_rfl)
  ·exact zD rfl
  ·rfl
  apply kN 19 rfl (by kernel_rfl)
  ·exact uBf rfl
  ·rfl
  apply qBt rfl (by kernel_rfl) (by kernel_rfl) rfl
  refine uS ?_
  refine qM (qL (uM rfl (uB (zD rfl) ?_)))
  refine uB (uBf rfl) ?_
  refine uM rfl (uB (uAs rfl rfl) ?_)
  refine l_eq 71 (.int .i64 (l : Nat)) rfl (zZ (by omega)) ?_
  have hdr := qDd (pp := pp) (tb := tb) (s := s) (most := most) hE hB (b := S) (bt := 113) (p := A.p) (c := A.c) (k := key (rls Es) A.x) (pre := [uPt pp]) (suf := [uPt pp, .bool true, .slice B.p B.fs.length B.c, .int .i64 (B.x : Nat), .int .u64 (key (rls Es) B.x : Nat), .slice (⟨⟨A.x, 0, 1⟩ :: M.its, some ⟨g', 0, none⟩, c'⟩ : Md).p (⟨⟨A.x, 0, 1⟩ :: M.its, some ⟨g', 0, none⟩, c'⟩ : Md).its.length (⟨⟨A.x, 0, 1⟩ :: M.its, some ⟨g', 0, none⟩, c'⟩ : Md).c]) hs k2 (qHa k2) hl1
  refine uX (hdr) rfl ?_
  rintro _ _ ⟨x', gs', p', c'', rfl, q1, rfl⟩
  simp only [uV, uW]
  refine qO ?_
  have hmv := mvd hw hs eA hx ho hmt hov q1
  apply qLt
  ·rfl
  ·(exact Rs.nil)
  ·refine ⟨⟨x', gs', p', c''⟩, ⟨⟨A.x, 0, 1⟩ :: M.its, some ⟨g', 0, none⟩, c'⟩, rfl, qRe hmv (by rw [qHd]; rfl), ?_, .inr ⟨rfl, hx⟩, rfl⟩
   rw [hmv.seq, qHd]
   simp [cat]
  exact uI
end
section
variable {E : Env} {Es : List Ent} {pp tb s most S : Nat}
theorem mem_last {l : List Nat} {u : Nat} (h : l.getLast? = some u) : u ∈ l := List.mem_of_getLast? h
theorem qMe (its : List It) (x : Nat) : (qAa (its ++ [⟨x, 0, 1⟩])).getLast? = some x := by rw [qHc]; simp
theorem qOr (hE : Seat E) (hB : Base E.w0) {l rr : Nat} {A B : Sd} {M : Md} (hs : Sig (rls Es) rr) (eB : EO (rls Es) true l rr B.x B.fs) (hM : Sng M.its) (hR : ∀ x ∈ qAa M.its, 1 ≤ x ∧ x ≤ (rls Es).length) (hml : M.its.length ≤ 1099511627776) (hev : (l + 1) % 2 = 0) (hll : l + 1 < 1099511627776) (hn : num (l + 1) ≠ 122) :
  Ct E 70 [uPt S, .int .i64 ((l + 1 : Nat) : Int)] [cells pp [uPt s, uPt tb] 57, tabP tb s (rls Es), zU s most Es, cells S [uPt pp, uPt pp, .bool false, .slice A.p A.fs.length A.c, .int .i64 (A.x : Nat), .int .u64 (key (rls Es) A.x : Nat), uPt pp, .bool true, .slice B.p B.fs.length B.c, .int .i64 (B.x : Nat), .int .u64 (key (rls Es) B.x : Nat), .slice M.p M.its.length M.c] 113, sl A.p A.c 137 8 A.fs.length (qAc (rls Es) A.fs), sl B.p B.c 137 8 B.fs.length (qAc (rls Es) B.fs), sl M.p M.c 149 4 M.its.length (itsC (rls Es) M.its)]
   (fun v Q => ∃ (B' : Sd) (M' : Md), v = .tuple #[] ∧ RR (rls Es) l rr B'.x B'.fs (qAa M'.its) ∧ qAa M'.its ++ seqE (rls Es) true l B'.x B'.fs = qAa M.its ++ seqE (rls Es) true l B.x B.fs ∧ (M' = M ∧ B' = B ∨ M'.its = M.its ++ [⟨B.x, 0, 1⟩] ∧ B.x ≠ 0) ∧ Q = [cells pp [uPt s, uPt tb] 57, tabP tb s (rls Es), zU s most Es, cells S [uPt pp, uPt pp, .bool false, .slice A.p A.fs.length A.c, .int .i64 (A.x : Nat), .int .u64 (key (rls Es) A.x : Nat), uPt pp, .bool true, .slice B'.p B'.fs.length B'.c, .int .i64 (B'.x : Nat), .int .u64 (key (rls Es) B'.x : Nat), .slice M'.p M'.its.length M'.c] 113, sl A.p A.c 137 8 A.fs.length (qAc (rls Es) A.fs), sl B'.p B'.c 137 8 B'.fs.length (qAc (rls Es) B'.fs), sl M'.p M'.c 149 4 M'.its.length (itsC (rls Es) M'.its)]) := by
 refine qAy (p := zU s most Es) uK (fun _ h => qAb h) (fun hsay => ?_)
 have hw := hsay.1
 have hL : (rls Es).length ≤ 1048576 := by have := hsay.2.2; rw [zT]; unfold qAw at this; omega
 have hfl := eB.pl hw hL hs
 have hl1 : l ≤ 1099511627776 := by omega
 have hlst := qQv (L := rls Es) (l := l) (rl := rr) (A := A) hM
 have same : RR (rls Es) l rr B.x B.fs (qAa M.its) → ∃ (B' : Sd) (M' : Md), Value.tuple #[] = .tuple #[] ∧ RR (rls Es) l rr B'.x B'.fs (qAa M'.its) ∧ qAa M'.its ++ seqE (rls Es) true l B'.x B'.fs = qAa M.its ++ seqE (rls Es) true l B.x B.fs ∧ (M' = M ∧ B' = B ∨ M'.its = M.its ++ [⟨B.x, 0, 1⟩] ∧ B.x ≠ 0) ∧ [cells pp [uPt s, uPt tb] 57, tabP tb s (rls Es), zU s most Es, cells S [uPt pp, uPt pp, .bool false, .slice A.p A.fs.length A.c, .int .i64 (A.x : Nat), .int .u64 (key (rls Es) A.x : Nat), uPt pp, .bool true, .slice B.p B.fs.length B.c, .int .i64 (B.x : Nat), .int .u64 (key (rls Es) B.x : Nat), .slice M.p M.its.length M.c] 113, sl A.p A.c 137 8 A.fs.length (qAc (rls Es) A.fs), sl B.p B.c 137 8 B.fs.length (qAc (rls Es) B.fs), sl M.p M.c 149 4 M.its.length (itsC (rls Es) M.its)] = [cells pp [uPt s, uPt tb] 57, tabP tb s (rls Es), zU s most Es, cells S [uPt pp, uPt pp, .bool false, .slice A.p A.fs.length A.c, .int .i64 (A.x : Nat), .int .u64 (key (rls Es) A.x : Nat), uPt pp, .bool true, .slice B'.p B'.fs.length B'.c, .int .i64 (B'.x : Nat), .int .u64 (key (rls Es) B'.x : Nat), .slice M'.p M'.its.length M'.c] 113, sl A.p A.c 137 8 A.fs.length (qAc (rls Es) A.fs), sl B'.p B'.c 137 8 B'.fs.length (qAc (rls Es) B'.fs), sl M'.p M'.c 149 4 M'.its.length (itsC (rls Es) M'.its)] := fun h => ⟨B, M, rfl, h, rfl, .inl ⟨rfl, rfl⟩, rfl⟩
 refine zR (hE.fn Tryd.func70) rfl rfl rfl (fun R => ?_)
 simp only [qAo, uV, uW]
 refine qN (qN (qL (uM rfl (uB (zD rfl) ?_))))
 refine uB (uBf rfl) ?_
 refine uB (uBf rfl) ?_
 refine uL ?_
 refine uB (y_eq rfl rfl) ?_
 refine qO (qM ?_)
 refine zH rfl (fun h0 => ?_) (fun h0 => ?_)
 ·have hx0 : B.x = 0 := by omega
  refine kE (qZ ?_)
  apply kF
  ·rfl
  ·(exact Rs.nil)
  ·refine same ?_
   have := qRn (L := rls Es) (l := l) (root := rr) (fs := B.fs) (M := qAa M.its) (by rw [← hx0]; exact eB)
   rwa [← hx0] at this
  exact uI
 have hx : B.x ≠ 0 := by omega
 obtain ⟨k1, k2, k3, k4⟩ := eB.low hx
 refine zF (qM (qN (qN (qL (uM rfl (uB (zD rfl) ?_))))))
 refine uB (uBf rfl) ?_
 refine uM rfl ?_
 refine uX (qEs hE (b := S) (pre := [uPt pp, uPt pp, .bool false, .slice A.p A.fs.length A.c, .int .i64 (A.x : Nat), .int .u64 (key (rls Es) A.x : Nat)]) (suf := [.slice M.p M.its.length M.c]) (fs := B.fs) hfl) rfl ?_
 rintro v _ ⟨⟨o, ho, hv⟩, rfl⟩
 simp only [uV, uW]
 refine uA rfl (qO (qM ?_))
 cases o with
 | none =>
  obtain rfl : v = .pointer none := hv
  refine qN (qL (uM rfl (uB (qSi rfl (hE.t rfl)) ?_)))
  refine uM rfl ?_
  refine zW rfl rfl rfl rfl (zW rfl rfl rfl rfl (zW rfl rfl rfl rfl (zW rfl rfl rfl rfl (zW rfl rfl rfl rfl ?_))))
  refine uB (zB rfl rfl) ?_
  refine qO (qM (zG rfl (qN (qL (uM rfl (uB (qDy rfl (hE.t rfl)) ?_))))))
  refine qO (qM (zI rfl (qN (qL (uM rfl (uX (zAg hE hml) rfl ?_))))))
  rintro _ _ ⟨rfl, rfl⟩
  simp only [uV, uW]
  have hmt : 1 = many (rls Es) none := rfl
  have hov : (l + 1) % 2 = 0 → ∀ f : Fm, none = some f → f.hv = 1 := fun _ f e => by cases e
  refine uM rfl (uB (qX rfl rfl) (uB (qX rfl rfl) (uA rfl (uA rfl (qO (qM (qN (qL (uM rfl (uB (y_eq rfl rfl) ?_))))))))))
  refine uM rfl ?_
  refine qAn 36 rfl (fun h3 => ?_) (fun h3 => ?_)
  ·refine zW rfl rfl rfl rfl (zW rfl rfl rfl rfl (zW rfl rfl rfl rfl (zW rfl rfl rfl rfl (zW rfl rfl rfl rfl (zW rfl rfl rfl rfl (zW rfl rfl rfl rfl (zW rfl rfl rfl rfl ?_)))))))
   refine zW rfl rfl rfl rfl ?_
   refine uB (zA rfl rfl) ?_
   refine qO (qM (zI rfl (kE (qZ ?_))))
   apply kF
   ·rfl
   ·(exact Rs.nil)
   ·refine same (qRl hw hs eB hx ho (fun f e => by cases e) hev fun u hu => ?_)
    have h1 := hlst u hu
    have h2 := (hR u (mem_last hu)).1
    omega
   exact uI
  refine kT rfl rfl ?_
  refine uM rfl (kT rfl rfl (uM rfl (kT rfl rfl (uB (zD rfl) ?_))))
  refine kT rfl rfl (uB (uBf rfl) ?_)
  refine kT rfl rfl (uB (uBf rfl) ?_)
  refine kT rfl rfl (uL ?_)
  refine kT rfl rfl (uM rfl (kT rfl rfl (uX (qUt hE (by omega) hev hll) rfl ?_)))
  rintro _ _ ⟨⟨d, rfl, hd⟩, rfl⟩
  simp only [uV, uW]
  refine kT rfl rfl (uB (qIf rfl) ?_)
  refine uB (zB rfl rfl) ?_
  refine qO (qM ?_)
  cases d with
  | false =>
   refine zI rfl (kE (qZ ?_))
   apply kF
   ·rfl
   ·(exact Rs.nil)
   ·refine same (qRl hw hs eB hx ho (fun f e => by cases e) hev fun u hu hf => ?_)
    rw [← hlst u hu] at hf
    exact absurd (hd.2 hf) (by simp)
   exact uI
  | true =>
   refine zG rfl (zF (qM (qN ?_)))
   refine uN 20 ([cells S [uPt pp, uPt pp, .bool false, .slice A.p A.fs.length A.c, .int .i64 (A.x : Nat), .int .u64 (key (rls Es) A.x : Nat), uPt pp, .bool true, .slice B.p B.fs.length B.c, .int .i64 (B.x : Nat), .int .u64 (key (rls Es) B.x : Nat), .slice M.p M.its.length M.c] 113]) ?_
   refine uT 0 rfl (qE rfl) ?_
   refine uT 1 rfl (qE rfl) ?_
   refine uT 2 rfl (zD rfl) ?_
   refine uT 3 rfl (uBf rfl) ?_
   refine uT 4 rfl (uY) ?_
   refine uT 5 rfl (qE rfl) ?_
   refine uT 6 rfl (zD rfl) ?_
   refine uT 7 rfl (uBf rfl) ?_
   refine uT 8 rfl (uBf rfl) ?_
   refine uT 9 rfl (uY) ?_
   apply kN 10 rfl (by kernel_rfl)
   ·exact qE rfl
   ·rfl
   apply kN 11 rfl (by kernel_rfl)
   ·exact zD rfl
   ·rfl
   apply kN 12 rfl (by kernel_rfl)
   ·exact uBf rfl
   ·rfl
   apply kN 13 rfl (by kernel_rfl)
   ·exact uBf rfl
   ·rfl
   apply kN 14 rfl (by kernel_rfl)
   ·(apply qQ rfl (hE.t rfl) rfl; (repeat (first | rfl | assumption | constructor)); done)
   ·rfl
   apply kN 15 rfl (by kernel_rfl)
   ·exact qAl (hE.t rfl) rfl rfl
   ·rfl
   apply qAg 16 rfl (by kernel_rfl) rfl
   refine qY (hE.t rfl) (hE.t rfl) rfl rfl rfl (fun b63 => ?_)
   refine uE ?_
   apply qAg 17 rfl (by kernel_rfl) rfl
   apply zX (hE.t rfl) (hE.t rfl) rfl rfl rfl
   ·exact uK
   ·exact uK
   ·rfl
   ·rfl
   ·omega
   ·omega
   ·(unfold maxLen; omega)
   intro g64 c64 n64 x64 hn64 hx64
   refine uE ?_
   apply kN 18 rfl (by kernel_rfl)
   ·exact zD rfl
   ·rfl
   apply kN 19 rfl (by kernel_rfl)
   ·exact uBf rfl
   ·rfl
   apply qBt rfl (by kernel_rfl) (by kernel_rfl) rfl
   refine uS ?_
   refine qM ?_
   obtain rfl : x64 = itsC (rls Es) (M.its ++ [⟨B.x, 0, 1⟩]) := by rw [hx64, qBw]; rfl
   subst hn64
   refine qL (uM rfl (uB (zD rfl) ?_))
   refine uB (uBf rfl) ?_
   refine uM rfl (uB (uAs rfl rfl) ?_)
   refine l_eq 71 (.int .i64 (l : Nat)) rfl (zZ (by omega)) ?_
   have hdr := qDd (pp := pp) (tb := tb) (s := s) (most := most) hE hB (b := S) (bt := 113) (p := B.p) (c := B.c) (k := key (rls Es) B.x) (pre := [uPt pp, uPt pp, .bool false, .slice A.p A.fs.length A.c, .int .i64 (A.x : Nat), .int .u64 (key (rls Es) A.x : Nat)]) (suf := [.slice (⟨M.its ++ [⟨B.x, 0, 1⟩], some ⟨g64, 0, none⟩, c64⟩ : Md).p (⟨M.its ++ [⟨B.x, 0, 1⟩], some ⟨g64, 0, none⟩, c64⟩ : Md).its.length (⟨M.its ++ [⟨B.x, 0, 1⟩], some ⟨g64, 0, none⟩, c64⟩ : Md).c]) hs k2 (qHa k2) hl1
   simp only [List.length_append, List.length_singleton] at hdr
   refine uX (hdr) rfl ?_
   rintro _ _ ⟨x', gs', p', c'', rfl, q1, rfl⟩
   simp only [uV, uW]
   refine qO ?_
   have hmv := mvd hw hs eB hx ho hmt hov q1
   apply qLt
   ·rfl
   ·(exact Rs.nil)
   ·refine ⟨⟨x', gs', p', c''⟩, ⟨M.its ++ [⟨B.x, 0, 1⟩], some ⟨g64, 0, none⟩, c64⟩, rfl, qRm hmv (.inr (.inr hn)) (qMe _ _), ?_, .inr ⟨rfl, hx⟩, rfl⟩
    rw [hmv.seq, qHc]
    simp [cat]
   simp only [List.length_append, List.length_singleton]
   exact uI
 | some f =>
  obtain ⟨gs, g, hfs, hp, rfl⟩ := hv
  have f7 : (qAc (rls Es) B.fs)[(qAc (rls Es) gs).length + 7]? = some (.int .i64 (f.hv : Nat)) := by rw [hfs]; exact qNs
  rw [hp]
  refine qN (qL (uM rfl (uB (qSj rfl (hE.t rfl)) ?_)))
  refine uM rfl (kT rfl rfl (uM rfl (kT rfl rfl (uB (zD rfl) ?_))))
  refine kT rfl rfl (uB (uBf rfl) ?_)
  refine kT rfl rfl (uL ?_)
  refine kT rfl rfl (uB (y_eq rfl rfl) ?_)
  refine uB (zA rfl rfl) ?_
  refine qO (qM ?_)
  refine zH rfl (fun h2 => ?_) (fun h2 => ?_)
  ·refine kE (qZ ?_)
   apply kF
   ·rfl
   ·(exact Rs.nil)
   ·exact same (rr_two hw hs eB hx ho hev (by omega) hn)
   rw [hp]
   exact uI
  refine qN (qL ?_)
  refine uM rfl (uB (qBa rfl (hE.t rfl)) ?_)
  refine qO (qM (zG rfl (zF (qM ?_))))
  rw [← hp]
  obtain ⟨_, a, b, _, _, _, _, l4, l5, l6, _⟩ := qFb hw hs eB hx ho hev
  have hmt := (qNn l4).symm
  have hov : (l + 1) % 2 = 0 → ∀ f' : Fm, some f = some f' → f'.hv = 1 := fun _ f' e => by cases e; omega
  refine qN ?_
  refine uN 20 ([cells S [uPt pp, uPt pp, .bool false, .slice A.p A.fs.length A.c, .int .i64 (A.x : Nat), .int .u64 (key (rls Es) A.x : Nat), uPt pp, .bool true, .slice B.p B.fs.length B.c, .int .i64 (B.x : Nat), .int .u64 (key (rls Es) B.x : Nat), .slice M.p M.its.length M.c] 113]) ?_
  refine uT 0 rfl (qE rfl) ?_
  refine uT 1 rfl (qE rfl) ?_
  refine uT 2 rfl (zD rfl) ?_
  refine uT 3 rfl (uBf rfl) ?_
  refine uT 4 rfl (uY) ?_
  refine uT 5 rfl (qE rfl) ?_
  refine uT 6 rfl (zD rfl) ?_
  refine uT 7 rfl (uBf rfl) ?_
  refine uT 8 rfl (uBf rfl) ?_
  refine uT 9 rfl (uY) ?_
  apply kN 10 rfl (by kernel_rfl)
  ·exact qE rfl
  ·rfl
  apply kN 11 rfl (by kernel_rfl)
  ·exact zD rfl
  ·rfl
  apply kN 12 rfl (by kernel_rfl)
  ·exact uBf rfl
  ·rfl
  apply kN 13 rfl (by kernel_rfl)
  ·exact uBf rfl
  ·rfl
  apply kN 14 rfl (by kernel_rfl)
  ·(apply qQ rfl (hE.t rfl) rfl; (repeat (first | rfl | assumption | constructor)); done)
  ·rfl
  apply kN 15 rfl (by kernel_rfl)
  ·exact qAl (hE.t rfl) rfl rfl
  ·rfl
  apply qAg 16 rfl (by kernel_rfl) rfl
  refine qY (hE.t rfl) (hE.t rfl) rfl rfl rfl (fun b63 => ?_)
  refine uE ?_
  apply qAg 17 rfl (by kernel_rfl) rfl
  apply zX (hE.t rfl) (hE.t rfl) rfl rfl rfl
  ·exact uK
  ·exact uK
  ·rfl
  ·rfl
  ·omega
  ·omega
  ·(unfold maxLen; omega)
  intro g64 c64 n64 x64 hn64 hx64
  refine uE ?_
  apply kN 18 rfl (by kernel_rfl)
  ·exact zD rfl
  ·rfl
  apply kN 19 rfl (by kernel_rfl)
  ·exact uBf rfl
  ·rfl
  apply qBt rfl (by kernel_rfl) (by kernel_rfl) rfl
  refine uS ?_
  refine qM ?_
  obtain rfl : x64 = itsC (rls Es) (M.its ++ [⟨B.x, 0, 1⟩]) := by rw [hx64, qBw]; rfl
  subst hn64
  refine qL (uM rfl (uB (zD rfl) ?_))
  refine uB (uBf rfl) ?_
  refine uM rfl (uB (uAs rfl rfl) ?_)
  refine l_eq 71 (.int .i64 (l : Nat)) rfl (zZ (by omega)) ?_
  have hdr := qDd (pp := pp) (tb := tb) (s := s) (most := most) hE hB (b := S) (bt := 113) (p := B.p) (c := B.c) (k := key (rls Es) B.x) (pre := [uPt pp, uPt pp, .bool false, .slice A.p A.fs.length A.c, .int .i64 (A.x : Nat), .int .u64 (key (rls Es) A.x : Nat)]) (suf := [.slice (⟨M.its ++ [⟨B.x, 0, 1⟩], some ⟨g64, 0, none⟩, c64⟩ : Md).p (⟨M.its ++ [⟨B.x, 0, 1⟩], some ⟨g64, 0, none⟩, c64⟩ : Md).its.length (⟨M.its ++ [⟨B.x, 0, 1⟩], some ⟨g64, 0, none⟩, c64⟩ : Md).c]) hs k2 (qHa k2) hl1
  simp only [List.length_append, List.length_singleton] at hdr
  refine uX (hdr) rfl ?_
  rintro _ _ ⟨x', gs', p', c'', rfl, q1, rfl⟩
  simp only [uV, uW]
  refine qO ?_
  have hmv := mvd hw hs eB hx ho hmt hov q1
  apply qLt
  ·rfl
  ·(exact Rs.nil)
  ·refine ⟨⟨x', gs', p', c''⟩, ⟨M.its ++ [⟨B.x, 0, 1⟩], some ⟨g64, 0, none⟩, c64⟩, rfl, qRm hmv (.inr (.inr hn)) (qMe _ _), ?_, .inr ⟨rfl, hx⟩, rfl⟩
   rw [hmv.seq, qHc]
   simp [cat]
  simp only [List.length_append, List.length_singleton]
  exact uI
end
end Go.Proofs.YtlleicanafioaaaDoor
