/- Package seam: the end: whole, child, open. -/
import Derived.Test.YtkkjjablmmmmkaaGreatDoorQ02
import Derived.Test.YtkkjjablmmmmkaaGreatDoorQ07
import Derived.Test.YtkkjjablmmmmkaaGreatDoorQ09
import Derived.Test.YtkkjjablmmmmkaaGreatDoorQ13
import Derived.Test.YtkkjjablmmmmkaaGreatDoorQ30
set_option linter.unusedVariables false
set_option linter.unusedSimpArgs false
namespace Sl
open Go Go.RowKit
section
variable {α : Type} {pre r : List α} {x0 x1 x2 x3 x4 x5 x6 x7 : α}
theorem ap_0 : (pre ++ x0 :: r)[pre.length]? = some x0 := by simp
theorem ap_1 : (pre ++ x0 :: x1 :: r)[pre.length + 1]? = some x1 := by simp
theorem ap_2 : (pre ++ x0 :: x1 :: x2 :: r)[pre.length + 2]? = some x2 := by simp
theorem ap_3 : (pre ++ x0 :: x1 :: x2 :: x3 :: r)[pre.length + 3]? = some x3 := by simp
theorem ap_4 : (pre ++ x0 :: x1 :: x2 :: x3 :: x4 :: r)[pre.length + 4]? = some x4 := by simp
theorem ap_5 : (pre ++ x0 :: x1 :: x2 :: x3 :: x4 :: x5 :: r)[pre.length + 5]? = some x5 := by simp
theorem ap_6 : (pre ++ x0 :: x1 :: x2 :: x3 :: x4 :: x5 :: x6 :: r)[pre.length + 6]? = some x6 := by simp
theorem ap_7 : (pre ++ x0 :: x1 :: x2 :: x3 :: x4 :: x5 :: x6 :: x7 :: r)[pre.length + 7]? = some x7 := by simp
end
section
variable {pre r : List Value} {x0 x1 x2 x3 x4 x5 x6 x7 v : Value}
theorem sm_0 : zW (pre ++ x0 :: r) pre.length [v] = pre ++ v :: r := by simp [zW]
theorem sm_1 : zW (pre ++ x0 :: x1 :: r) (pre.length + 1) [v] = pre ++ x0 :: v :: r := by simp [zW]
theorem sm_2 : zW (pre ++ x0 :: x1 :: x2 :: r) (pre.length + 2) [v] = pre ++ x0 :: x1 :: v :: r := by simp [zW]
theorem sm_3 : zW (pre ++ x0 :: x1 :: x2 :: x3 :: r) (pre.length + 3) [v] = pre ++ x0 :: x1 :: x2 :: v :: r := by simp [zW]
theorem sm_4 : zW (pre ++ x0 :: x1 :: x2 :: x3 :: x4 :: r) (pre.length + 4) [v] = pre ++ x0 :: x1 :: x2 :: x3 :: v :: r := by simp [zW]
theorem sm_5 : zW (pre ++ x0 :: x1 :: x2 :: x3 :: x4 :: x5 :: r) (pre.length + 5) [v] = pre ++ x0 :: x1 :: x2 :: x3 :: x4 :: v :: r := by simp [zW]
theorem sm_6 : zW (pre ++ x0 :: x1 :: x2 :: x3 :: x4 :: x5 :: x6 :: r) (pre.length + 6) [v] = pre ++ x0 :: x1 :: x2 :: x3 :: x4 :: x5 :: v :: r := by simp [zW]
theorem sm_7 : zW (pre ++ x0 :: x1 :: x2 :: x3 :: x4 :: x5 :: x6 :: x7 :: r) (pre.length + 7) [v] = pre ++ x0 :: x1 :: x2 :: x3 :: x4 :: x5 :: x6 :: v :: r := by simp [zW]
end
section
variable {E : Env} {n : Nat} {L : Fr} {S l : List HP} {o : Oper} {v : Value} {ι : Type} {f : ι → HP}
def Ex (f : ι → HP) : HP := fun h => ∃ i, f i h
theorem qXm (i : ι) (h : ∀ k, qAa l k → qAa (f i :: S) k) : ∀ k, qAa l k → qAa (Ex f :: S) k := fun k x => qBk (fun _ y => ⟨i, y⟩) (h k x)
theorem qWi (h : ∀ i, Yl E n L (f i :: S) o v) : Yl E n L (Ex f :: S) o v := fun a w g s => by
 obtain ⟨h1, h2, d, e, ⟨i, hp⟩, hq⟩ := s.hp
 exact h i a w g ⟨s.os, s.tape, s.output, s.size, s.old, ⟨h1, h2, d, e, hp, hq⟩⟩
end
end Sl
namespace Go.Proofs.YtkkjjablmmmmkaaGreatDoor
section
open Go Go.RowKit Sl Eg
set_option maxRecDepth 10000
variable {E : Env} {Es : List Ent} {pp tb s most : Nat}
theorem qYg {L : List Rl} (M : List Rl) {x : Nat} (h1 : 1 ≤ x) (h : x ≤ L.length) : rlAt (L ++ M) x = rlAt L x := by
 unfold rlAt
 rw [List.getElem?_append_left (by omega)]
theorem ct_whole (hE : Seat E) {r : Rl} : Ct E 182 [.agg #[.int .i64 (Rl.kind (r) : Nat), .int .u8 (Rl.byte (r) : Nat), .int .i64 (Rl.left (r) : Nat), .int .i64 (Rl.right (r) : Nat), .int .i64 (Rl.times (r) : Nat)]] [] (fun v Q => v = .int .i64 (qDk r : Nat) ∧ Q = []) := by
 refine zN (hE.fn Tryz.func182) rfl rfl rfl (fun R => ?_)
 simp only [qAe, List.cons_append, List.nil_append]
 refine qK (qI (uU ?_))
 refine qAw rfl (fun b1 => ?_)
 refine uA rfl (qL (qJ (qK (qK (qI (uF (hE.t rfl) ?_))))))
 refine uL (hE.t rfl) ?_
 refine qA (y_eq rfl rfl) rfl ?_
 refine qL (qJ ?_)
 refine zD rfl (fun h => ?_) (fun h => ?_)
 ·obtain ⟨y, k, rfl⟩ : ∃ y k, r = .power y k := by
   cases r with
   | letter b => simp [Rl.kind] at h
   | pair a b => simp [Rl.kind] at h
   | power y k => exact ⟨y, k, rfl⟩
  refine qK (qI (uF (hE.t rfl) ?_))
  refine uL (hE.t rfl) ?_
  refine uA rfl (qL (qJ (zY (qU ?_))))
  apply zZ
  ·rfl
  ·(apply Rs.tmp rfl; exact Rs.nil)
  ·exact ⟨rfl, rfl⟩
  ·(apply ent; (repeat constructor); done)
 ·have hw : qDk r = 2 := by
   cases r with
   | letter b => rfl
   | pair a b => rfl
   | power y k => simp [Rl.kind] at h
  rw [hw]
  refine zB (qJ (qK (qI (uA rfl (qL (qJ (zY ?_)))))))
  apply zZ
  ·rfl
  ·(apply Rs.tmp rfl; exact Rs.nil)
  ·exact ⟨rfl, rfl⟩
  ·(apply ent; (repeat constructor); done)
def fmV (L : List Rl) (f : Fm) : Value := .agg #[.int .i64 (f.id : Nat), .int .i64 (Rl.kind (rlAt L f.id) : Nat), .int .u8 (Rl.byte (rlAt L f.id) : Nat), .int .i64 (Rl.left (rlAt L f.id) : Nat), .int .i64 (Rl.right (rlAt L f.id) : Nat), .int .i64 (Rl.times (rlAt L f.id) : Nat), .int .i64 (lvl L f.id), .int .i64 (f.hv : Nat)]
theorem zCj (hE : Seat E) (hB : Base E.w0) {b n c x k : Nat} {pre suf : List Value} {bt : TypeId} {p : Option Addr} {bh : Bool} (hx : 1 ≤ x) (hg : good (rls Es) x) :
  Ct E 172 [.pointer (some ⟨b, pre.length, none⟩)] [cells pp [.pointer (some ⟨s, 0, none⟩), .pointer (some ⟨tb, 0, none⟩)] 106, tabP tb s (rls Es), zQ s most Es, cells b (pre ++ .pointer (some ⟨pp, 0, none⟩) :: .bool bh :: .slice p n c :: .int .i64 (x : Nat) :: .int .u64 (k : Nat) :: suf) bt] (fun v Q => v = fmV (rls Es) ⟨x, qDk (rlAt (rls Es) x)⟩ ∧ Q = [cells pp [.pointer (some ⟨s, 0, none⟩), .pointer (some ⟨tb, 0, none⟩)] 106, tabP tb s (rls Es), zQ s most Es, cells b (pre ++ .pointer (some ⟨pp, 0, none⟩) :: .bool bh :: .slice p n c :: .int .i64 (x : Nat) :: .int .u64 (k : Nat) :: suf) bt]) := by
 obtain ⟨i, rfl⟩ : ∃ i, x = i + 1 := ⟨x - 1, by omega⟩
 have hi : i < Es.length := by have := hg.1; rw [zP] at this; omega
 obtain ⟨en, hent⟩ : ∃ e, Es[i]? = some e := ⟨_, List.getElem?_eq_getElem hi⟩
 have hr : rlAt (rls Es) (i + 1) = en.r := by simp [rlAt, qRo hent]
 refine zN (hE.fn Tryz.func172) rfl rfl rfl (fun R => ?_)
 simp only [qAe, List.cons_append, List.nil_append]
 refine qK (qI (uU (kC (hE.t rfl) (fun b2 => ?_))))
 refine qL (qJ ?_)
 refine qJv (fun q : Nat => [(0, .pointer (some ⟨b, pre.length, none⟩)), (2, .pointer (some ⟨b2, 0, none⟩)), (3, .pointer (some ⟨q, 0, none⟩)), (4, .nilIface)]) (fun q => [cells pp [.pointer (some ⟨s, 0, none⟩), .pointer (some ⟨tb, 0, none⟩)] 106, tabP tb s (rls Es), zQ s most Es, cells b (pre ++ .pointer (some ⟨pp, 0, none⟩) :: .bool bh :: .slice p n c :: .int .i64 ((i + 1) : Nat) :: .int .u64 (k : Nat) :: suf) bt, cells b2 [.int .i64 0, .int .i64 0, .int .u8 0, .int .i64 0, .int .i64 0, .int .i64 0, .int .i64 0, .int .i64 0] 278, cells q [.int .i64 (Rl.kind (en.r) : Nat), .int .u8 (Rl.byte (en.r) : Nat), .int .i64 (Rl.left (en.r) : Nat), .int .i64 (Rl.right (en.r) : Nat), .int .i64 (Rl.times (en.r) : Nat)] 82, R]) (fun _ => True) ?_ ?_
 ·refine qHr 15 ([cells pp [.pointer (some ⟨s, 0, none⟩), .pointer (some ⟨tb, 0, none⟩)] 106, cells b (pre ++ .pointer (some ⟨pp, 0, none⟩) :: .bool bh :: .slice p n c :: .int .i64 ((i + 1) : Nat) :: .int .u64 (k : Nat) :: suf) bt]) ?_ ?_
  ·(apply ent; (repeat constructor); done)
  refine uT 0 rfl (qB rfl) ?_
  refine uT 1 rfl (qZ rfl) ?_
  refine uT 2 rfl (qD rfl (hE.t rfl) rfl) ?_
  apply zX 3 rfl
  ·(apply qN rfl (hE.t rfl) rfl; (repeat (first | rfl | assumption | exact ap_0 | exact ap_1 | exact ap_2 | exact ap_3 | exact ap_4 | exact ap_5 | exact ap_6 | exact ap_7 | constructor)); done)
  ·with_reducible (repeat (first | exact qE | apply qF | apply qG))
  ·kernel_rfl
  ·rfl
  refine uT 5 rfl (qB rfl) ?_
  refine uT 6 rfl (qZ rfl) ?_
  refine uT 7 rfl (qD rfl (hE.t rfl) rfl) ?_
  apply zX 8 rfl
  ·(apply qN rfl (hE.t rfl) rfl; (repeat (first | rfl | assumption | exact ap_0 | exact ap_1 | exact ap_2 | exact ap_3 | exact ap_4 | exact ap_5 | exact ap_6 | exact ap_7 | constructor)); done)
  ·with_reducible (repeat (first | exact qE | apply qF | apply qG))
  ·kernel_rfl
  ·rfl
  apply qIh 4 13 rfl rfl (by kernel_rfl) rfl rfl
  ·apply qY (qGq hE) rfl (hE.f (by kernel_rfl))
   ·((repeat constructor); done)
   rintro _ _ ⟨rfl, rfl⟩
   simp only [List.cons_append, List.nil_append]
   refine uE ?_
   apply qIh 9 13 rfl rfl (by kernel_rfl) rfl rfl
   ·apply qY (qHe hE hent) rfl (hE.f (by kernel_rfl))
    ·((repeat constructor); done)
    rintro _ _ ⟨rfl, rfl⟩
    simp only [List.cons_append, List.nil_append]
    refine uE ?_
    refine uT 10 rfl (qB rfl) ?_
    refine uT 11 rfl (qS rfl rfl) ?_
    refine uT 12 rfl (qS rfl rfl) ?_
    apply qAf 13 rfl (by kernel_rfl) rfl
    refine kC (hE.t rfl) (fun b3 => ?_)
    refine uE ?_
    apply qAf 14 rfl (by kernel_rfl) rfl
    (apply zK rfl rfl (hE.t rfl) rfl; (focus ((repeat constructor); done)); (focus rfl); (focus (first | exact Nat.le_of_ble_eq_true rfl | (simp only [zO, List.length_append, List.length_cons, List.length_nil]; omega))))
    try simp only [zO, sm_0, sm_1, sm_2, sm_3, sm_4, sm_5, sm_6, sm_7]
    refine uE ?_
    apply kI 15 rfl (by kernel_rfl)
    ·exact qC rfl
    ·rfl
    refine qHh (by kernel_rfl) ?_
    refine qBr (ι := Nat) b3 trivial ⟨rfl, rfl, rfl, rfl, trivial⟩ ?_
    (apply ent; (repeat constructor); done)
   ·refine kC (hE.t rfl) (fun b3 => ?_)
    refine uE ?_
    apply qAf 9 rfl (by kernel_rfl) rfl
    refine uC (qHe hE hent) rfl ?_
    rintro _ _ ⟨rfl, rfl⟩
    simp only [List.cons_append, List.nil_append]
    refine uE ?_
    apply kI 10 rfl (by kernel_rfl)
    ·exact qB rfl
    ·rfl
    refine uT 11 rfl (qS rfl rfl) ?_
    refine uT 12 rfl (qS rfl rfl) ?_
    apply qAf 14 rfl (by kernel_rfl) rfl
    (apply zK rfl rfl (hE.t rfl) rfl; (focus ((repeat constructor); done)); (focus rfl); (focus (first | exact Nat.le_of_ble_eq_true rfl | (simp only [zO, List.length_append, List.length_cons, List.length_nil]; omega))))
    try simp only [zO, sm_0, sm_1, sm_2, sm_3, sm_4, sm_5, sm_6, sm_7]
    refine uE ?_
    apply kI 15 rfl (by kernel_rfl)
    ·exact qC rfl
    ·rfl
    refine qHh (by kernel_rfl) ?_
    refine qBr (ι := Nat) b3 trivial ⟨rfl, rfl, rfl, rfl, trivial⟩ ?_
    (apply ent; (repeat constructor); done)
  ·refine kC (hE.t rfl) (fun b3 => ?_)
   refine uE ?_
   apply qAf 4 rfl (by kernel_rfl) rfl
   refine uC (qGq hE) rfl ?_
   rintro _ _ ⟨rfl, rfl⟩
   simp only [List.cons_append, List.nil_append]
   refine uE ?_
   apply qAf 9 rfl (by kernel_rfl) rfl
   refine uC (qHe hE hent) rfl ?_
   rintro _ _ ⟨rfl, rfl⟩
   simp only [List.cons_append, List.nil_append]
   refine uE ?_
   apply kI 10 rfl (by kernel_rfl)
   ·exact qB rfl
   ·rfl
   refine uT 11 rfl (qS rfl rfl) ?_
   refine uT 12 rfl (qS rfl rfl) ?_
   apply qAf 14 rfl (by kernel_rfl) rfl
   (apply zK rfl rfl (hE.t rfl) rfl; (focus ((repeat constructor); done)); (focus rfl); (focus (first | exact Nat.le_of_ble_eq_true rfl | (simp only [zO, List.length_append, List.length_cons, List.length_nil]; omega))))
   try simp only [zO, sm_0, sm_1, sm_2, sm_3, sm_4, sm_5, sm_6, sm_7]
   refine uE ?_
   apply kI 15 rfl (by kernel_rfl)
   ·exact qC rfl
   ·rfl
   refine qHh (by kernel_rfl) ?_
   refine qBr (ι := Nat) b3 trivial ⟨rfl, rfl, rfl, rfl, trivial⟩ ?_
   (apply ent; (repeat constructor); done)
 rintro b3 -
 refine qK ?_
 refine uH ([cells pp [.pointer (some ⟨s, 0, none⟩), .pointer (some ⟨tb, 0, none⟩)] 106, cells b (pre ++ .pointer (some ⟨pp, 0, none⟩) :: .bool bh :: .slice p n c :: .int .i64 ((i + 1) : Nat) :: .int .u64 (k : Nat) :: suf) bt]) ?_
 refine uD 0 rfl (qB rfl) ?_
 refine uD 1 rfl (qZ rfl) ?_
 refine uD 2 rfl (qD rfl (hE.t rfl) rfl) ?_
 apply zF 3 rfl
 ·(apply qN rfl (hE.t rfl) rfl; (repeat (first | rfl | assumption | exact ap_0 | exact ap_1 | exact ap_2 | exact ap_3 | exact ap_4 | exact ap_5 | exact ap_6 | exact ap_7 | constructor)); done)
 ·with_reducible (repeat (first | exact qE | apply qF | apply qG))
 ·kernel_rfl
 ·rfl
 refine uD 5 rfl (qB rfl) ?_
 refine uD 6 rfl (qZ rfl) ?_
 refine uD 7 rfl (qD rfl (hE.t rfl) rfl) ?_
 apply zF 8 rfl
 ·(apply qN rfl (hE.t rfl) rfl; (repeat (first | rfl | assumption | exact ap_0 | exact ap_1 | exact ap_2 | exact ap_3 | exact ap_4 | exact ap_5 | exact ap_6 | exact ap_7 | constructor)); done)
 ·with_reducible (repeat (first | exact qE | apply qF | apply qG))
 ·kernel_rfl
 ·rfl
 apply kJ 4 rfl (by kernel_rfl) rfl
 refine uC (ct_Keys hE) rfl ?_
 rintro _ _ ⟨rfl, rfl⟩
 simp only [List.cons_append, List.nil_append]
 refine uE ?_
 apply kJ 9 rfl (by kernel_rfl) rfl
 refine uC (qXi hE hB hi hg.2) rfl ?_
 rintro _ _ ⟨rfl, rfl⟩
 simp only [List.cons_append, List.nil_append]
 refine uE ?_
 refine uD 10 rfl (qB rfl) ?_
 refine uD 11 rfl (qS rfl rfl) ?_
 refine uD 12 rfl (qS rfl rfl) ?_
 refine uD 13 rfl (qC rfl) ?_
 refine uD 14 rfl (qC rfl) ?_
 refine qDm (by kernel_rfl) ?_
 refine qJ (qK ?_)
 refine uH ([cells b3 [.int .i64 (Rl.kind (en.r) : Nat), .int .u8 (Rl.byte (en.r) : Nat), .int .i64 (Rl.left (en.r) : Nat), .int .i64 (Rl.right (en.r) : Nat), .int .i64 (Rl.times (en.r) : Nat)] 82, cells b (pre ++ .pointer (some ⟨pp, 0, none⟩) :: .bool bh :: .slice p n c :: .int .i64 ((i + 1) : Nat) :: .int .u64 (k : Nat) :: suf) bt]) ?_
 refine uD 0 rfl (qB rfl) ?_
 refine uD 1 rfl (qZ rfl) ?_
 refine uD 2 rfl (qD rfl (hE.t rfl) rfl) ?_
 apply zF 3 rfl
 ·(apply qN rfl (hE.t rfl) rfl; (repeat (first | rfl | assumption | exact ap_0 | exact ap_1 | exact ap_2 | exact ap_3 | exact ap_4 | exact ap_5 | exact ap_6 | exact ap_7 | constructor)); done)
 ·with_reducible (repeat (first | exact qE | apply qF | apply qG))
 ·kernel_rfl
 ·rfl
 apply zF 4 rfl
 ·(apply zU rfl (hE.t rfl) rfl; (repeat (first | rfl | assumption | exact ap_0 | exact ap_1 | exact ap_2 | exact ap_3 | exact ap_4 | exact ap_5 | exact ap_6 | exact ap_7 | constructor)); done)
 ·with_reducible (repeat (first | exact qE | apply qF | apply qG))
 ·kernel_rfl
 ·rfl
 refine uD 5 rfl (qB rfl) ?_
 apply zF 6 rfl
 ·(apply zU rfl (hE.t rfl) rfl; (repeat (first | rfl | assumption | exact ap_0 | exact ap_1 | exact ap_2 | exact ap_3 | exact ap_4 | exact ap_5 | exact ap_6 | exact ap_7 | constructor)); done)
 ·with_reducible (repeat (first | exact qE | apply qF | apply qG))
 ·kernel_rfl
 ·rfl
 apply kJ 7 rfl (by kernel_rfl) rfl
 refine uC (ct_whole hE) rfl ?_
 rintro _ _ ⟨rfl, rfl⟩
 simp only [List.cons_append, List.nil_append]
 refine uE ?_
 refine uD 8 rfl (qAb (hE.t rfl) rfl rfl) ?_
 apply kJ 9 rfl (by kernel_rfl) rfl
 (apply zK rfl rfl (hE.t rfl) rfl; (focus ((repeat constructor); done)); (focus rfl); (focus (first | exact Nat.le_of_ble_eq_true rfl | (simp only [zO, List.length_append, List.length_cons, List.length_nil]; omega))))
 try simp only [zO, sm_0, sm_1, sm_2, sm_3, sm_4, sm_5, sm_6, sm_7]
 refine uE ?_
 refine qDm (by kernel_rfl) ?_
 refine qJ (zY ?_)
 apply zZ
 ·rfl
 ·((apply Rs.cell rfl (hE.t rfl) rfl; (focus ((repeat (first | rfl | assumption | exact ap_0 | exact ap_1 | exact ap_2 | exact ap_3 | exact ap_4 | exact ap_5 | exact ap_6 | exact ap_7 | constructor)); done))); exact Rs.nil)
 ·exact ⟨by rw [fmV, hr]; rfl, rfl⟩
 ·(apply ent; (repeat constructor); done)
end
section
open Go Go.RowKit Sl Eg
set_option maxRecDepth 10000
variable {E : Env} {Es : List Ent} {pp tb s most : Nat}
theorem Lk.short {L : List Rl} (hw : Wf L) {bh : Bool} {root x : Nat} {fs : List Fm} (hs : Sig L root) (h : Lk L bh root x fs) : x + fs.length ≤ root := by
 induction h with
 | nil => simp
 | @snoc x hv fs r h1 h2 h3 h4 h5 h6 ih =>
  have := (qYi (bh := bh) (hv := hv) hw h2 h3 h4 (h1.ok hw hs).2.2.1).2.1
  simp only [List.length_append, List.length_singleton]
  omega
theorem Lk.short' {L : List Rl} (hw : Wf L) {bh : Bool} {root x : Nat} {fs : List Fm} (hs : Sig L root) (h : Lk L bh root x fs) (hL : L.length ≤ 1048576) : fs.length ≤ 1048576 := by
 have := h.short hw hs
 have := hs.le
 omega
end
section
open Go Go.RowKit Sl Eg
set_option maxRecDepth 10000
variable {E : Env} {Es : List Ent} {pp tb s most : Nat}
theorem EO.pl {L : List Rl} (hw : Wf L) (hL : L.length ≤ 1048576) {bh : Bool} {l root x : Nat} {fs : List Fm} (hs : Sig L root) (h : EO L bh l root x fs) : fs.length ≤ 1048576 := by
 rcases h.lk with ⟨_, rfl⟩ | ⟨_, h2, _⟩
 ·simp
 ·exact h2.short' hw hs hL
end
end Go.Proofs.YtkkjjablmmmmkaaGreatDoor
