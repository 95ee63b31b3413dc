import Derived.Test.YtlleicanafioaaaDoorQ13
import Derived.Test.YtlleicanafioaaaDoorQ30
set_option linter.all false
set_option maxHeartbeats 1000000
namespace Sl
open Go Go.RowKit
section
variable {α : Type} {pre r : List α} {x0 x1 x2 x3 x4 x5 x6 x7 : α}
theorem ap_0 : (pre ++ x0 :: r)[pre.length]? = some x0 := by simp
theorem ap_1 : (pre ++ x0 :: x1 :: r)[pre.length + 1]? = some x1 := by simp
theorem ap_2 : (pre ++ x0 :: x1 :: x2 :: r)[pre.length + 2]? = some x2 := by simp
theorem ap_3 : (pre ++ x0 :: x1 :: x2 :: x3 :: r)[pre.length + 3]? = some x3 := by simp
theorem ap_4 : (pre ++ x0 :: x1 :: x2 :: x3 :: x4 :: r)[pre.length + 4]? = some x4 := by simp
theorem ap_5 : (pre ++ x0 :: x1 :: x2 :: x3 :: x4 :: x5 :: r)[pre.length + 5]? = some x5 := by simp
theorem ap_6 : (pre ++ x0 :: x1 :: x2 :: x3 :: x4 :: x5 :: x6 :: r)[pre.length + 6]? = some x6 := by simp
theorem ap_7 : (pre ++ x0 :: x1 :: x2 :: x3 :: x4 :: x5 :: x6 :: x7 :: r)[pre.length + 7]? = some x7 := by simp
end
section
variable {pre r : List Value} {x0 x1 x2 x3 x4 x5 x6 x7 v : Value}
theorem sm_0 : kC (pre ++ x0 :: r) pre.length [v] = pre ++ v :: r := by simp [kC]
theorem sm_1 : kC (pre ++ x0 :: x1 :: r) (pre.length + 1) [v] = pre ++ x0 :: v :: r := by simp [kC]
theorem sm_2 : kC (pre ++ x0 :: x1 :: x2 :: r) (pre.length + 2) [v] = pre ++ x0 :: x1 :: v :: r := by simp [kC]
theorem sm_3 : kC (pre ++ x0 :: x1 :: x2 :: x3 :: r) (pre.length + 3) [v] = pre ++ x0 :: x1 :: x2 :: v :: r := by simp [kC]
theorem sm_4 : kC (pre ++ x0 :: x1 :: x2 :: x3 :: x4 :: r) (pre.length + 4) [v] = pre ++ x0 :: x1 :: x2 :: x3 :: v :: r := by simp [kC]
theorem sm_5 : kC (pre ++ x0 :: x1 :: x2 :: x3 :: x4 :: x5 :: r) (pre.length + 5) [v] = pre ++ x0 :: x1 :: x2 :: x3 :: x4 :: v :: r := by simp [kC]
theorem sm_6 : kC (pre ++ x0 :: x1 :: x2 :: x3 :: x4 :: x5 :: x6 :: r) (pre.length + 6) [v] = pre ++ x0 :: x1 :: x2 :: x3 :: x4 :: x5 :: v :: r := by simp [kC]
theorem sm_7 : kC (pre ++ x0 :: x1 :: x2 :: x3 :: x4 :: x5 :: x6 :: x7 :: r) (pre.length + 7) [v] = pre ++ x0 :: x1 :: x2 :: x3 :: x4 :: x5 :: x6 :: v :: r := by simp [kC]
end
section
variable {E : Env} {n : Nat} {L : Fr} {S l : List HP} {o : Oper} {v : Value} {ι : Type} {f : ι → HP}
def Ex (f : ι → HP) : HP := fun h => ∃ i, f i h
theorem qLm (i : ι) (h : ∀ k, qAe l k → qAe (f i :: S) k) : ∀ k, qAe l k → qAe (Ex f :: S) k := fun k x => qCr (fun _ y => ⟨i, y⟩) (h k x)
theorem qDl (h : ∀ i, Yl E n L (f i :: S) o v) : Yl E n L (Ex f :: S) o v := fun a w g s => by
 obtain ⟨h1, h2, d, e, ⟨i, hp⟩, hq⟩ := s.hp
 exact h i a w g ⟨s.os, s.tape, s.output, s.size, s.old, ⟨h1, h2, d, e, hp, hq⟩⟩
end
end Sl
namespace Go.Proofs.YtlleicanafioaaaDoor
open Go Go.RowKit Sl Eg
set_option maxRecDepth 10000
section
variable {E : Env} {Es : List Ent} {pp tb s most : Nat}
def fmC (L : List Rl) (f : Fm) : List Value := [.int .i64 (f.id : Nat), .int .i64 (Rl.kind (rlAt L f.id) : Nat), .int .u8 (Rl.byte (rlAt L f.id) : Nat), .int .i64 (Rl.left (rlAt L f.id) : Nat), .int .i64 (Rl.right (rlAt L f.id) : Nat), .int .i64 (Rl.times (rlAt L f.id) : Nat), .int .i64 (lvl L f.id), .int .i64 (f.hv : Nat)]
def qAc (L : List Rl) (fs : List Fm) : List Value := fs.flatMap (fmC L)
theorem zBx (L : List Rl) : qAc L [] = [] := rfl
theorem qCq (L : List Rl) (fs : List Fm) (f : Fm) : qAc L (fs ++ [f]) = qAc L fs ++ .int .i64 (f.id : Nat) :: .int .i64 (Rl.kind (rlAt L f.id) : Nat) :: .int .u8 (Rl.byte (rlAt L f.id) : Nat) :: .int .i64 (Rl.left (rlAt L f.id) : Nat) :: .int .i64 (Rl.right (rlAt L f.id) : Nat) :: .int .i64 (Rl.times (rlAt L f.id) : Nat) :: .int .i64 (lvl L f.id) :: .int .i64 (f.hv : Nat) :: [] := by
 simp [qAc, fmC]
theorem qFl (L : List Rl) (fs : List Fm) : (qAc L fs).length = fs.length * 8 := by
 induction fs with
 | nil => rfl
 | cons f fs ih =>
  have e : (qAc L (f :: fs)).length = 8 + (qAc L fs).length := by simp [qAc, fmC]; omega
  rw [e, ih, List.length_cons]; omega
theorem qRd {L : List Rl} (M : List Rl) {x : Nat} (h1 : 1 ≤ x) (h : x ≤ L.length) : rlAt (L ++ M) x = rlAt L x := by
 unfold rlAt
 rw [List.getElem?_append_left (by omega)]
theorem qTp {L : List Rl} (M : List Rl) {fs : List Fm} (h : ∀ f ∈ fs, 1 ≤ f.id ∧ f.id ≤ L.length) : qAc (L ++ M) fs = qAc L fs := by
 induction fs with
 | nil => rfl
 | cons f fs ih =>
  have e : ∀ K, qAc K (f :: fs) = fmC K f ++ qAc K fs := fun K => by simp [qAc]
  rw [e, e, ih fun g hg => h g (by simp [hg])]
  have hf := h f (by simp)
  unfold fmC
  rw [qRd M hf.1 hf.2, qCs M hf.2]
theorem qWn (hE : Seat E) {r : Rl} : Ct E 72 [.agg #[.int .i64 (Rl.kind (r) : Nat), .int .u8 (Rl.byte (r) : Nat), .int .i64 (Rl.left (r) : Nat), .int .i64 (Rl.right (r) : Nat), .int .i64 (Rl.times (r) : Nat)]] [] (fun v Q => v = .int .i64 (qAp r : Nat) ∧ Q = []) := by
 refine zR (hE.fn Tryd.func72) rfl rfl rfl (fun R => ?_)
 simp only [qAo, uV, uW]
 refine qN (qL (uU ?_))
 refine qIh rfl (fun b1 => ?_)
 refine uA rfl (qO (qM (qN (qN (qL (uB (uBf rfl) ?_))))))
 refine uL ?_
 refine uB (y_eq rfl rfl) ?_
 refine qO (qM ?_)
 refine zH rfl (fun h => ?_) (fun h => ?_)
 ·obtain ⟨y, k, rfl⟩ : ∃ y k, r = .power y k := by
   cases r with
   | letter b => simp [Rl.kind] at h
   | pair a b => simp [Rl.kind] at h
   | power y k => exact ⟨y, k, rfl⟩
  refine qN (qL (uB (uBf rfl) ?_))
  refine uL ?_
  refine uA rfl (qO (qM (kE (qZ ?_))))
  exact uZ rfl (.tmp rfl .nil) ⟨rfl, rfl⟩
 have hw : qAp r = 2 := by
  cases r with
  | letter b => rfl
  | pair a b => rfl
  | power y k => simp [Rl.kind] at h
 rw [hw]
 refine zF (qM (qN (qL (uA rfl (qO (qM (kE ?_)))))))
 exact uZ rfl (.tmp rfl .nil) ⟨rfl, rfl⟩
theorem qWi (hE : Seat E) {r : Rl} {x hv : Nat} {l : Int} {bh : Bool} (hn : ∀ b, r ≠ .letter b) : Ct E 64 [.agg #[.int .i64 (x : Nat), .int .i64 (Rl.kind (r) : Nat), .int .u8 (Rl.byte (r) : Nat), .int .i64 (Rl.left (r) : Nat), .int .i64 (Rl.right (r) : Nat), .int .i64 (Rl.times (r) : Nat), .int .i64 l, .int .i64 (hv : Nat)], .bool bh] [] (fun v Q => v = .int .i64 (qBp bh hv r : Nat) ∧ Q = []) := by
 cases r with
 | letter b => exact absurd rfl (hn b)
 | power y k =>
  refine zR (hE.fn Tryd.func64) rfl rfl rfl (fun R => ?_)
  simp only [qAo, uV, uW]
  refine qN (qL (uU ?_))
  refine qIh rfl (fun b2 => ?_)
  refine uA rfl (qO (qM (qN (qN (qL (uB (uBf rfl) ?_))))))
  refine uB (uBf rfl) ?_
  refine uL ?_
  refine uB (y_eq rfl rfl) ?_
  refine uM rfl ?_
  refine l_eq 8 (.bool false) rfl (by simp [Rl.kind]) ?_
  refine zW rfl rfl rfl rfl (zW rfl rfl rfl rfl (zW rfl rfl rfl rfl ?_))
  refine uB (zB rfl rfl) ?_
  refine uM rfl ?_
  refine zW rfl rfl rfl rfl (zW rfl rfl rfl rfl ?_)
  refine uB (zB rfl rfl) ?_
  refine qO (qM (zG rfl (zF (qM (qN (qN (qL (uB (uBf rfl) ?_))))))))
  refine uB (uBf rfl) ?_
  refine uL ?_
  refine uB (y_eq rfl rfl) ?_
  refine uM rfl ?_
  refine l_eq 24 (.bool false) rfl (by simp [Rl.kind]) ?_
  refine zW rfl rfl rfl rfl (zW rfl rfl rfl rfl (zW rfl rfl rfl rfl ?_))
  refine uB (zB rfl rfl) ?_
  refine uM rfl ?_
  refine zW rfl rfl rfl rfl ?_
  refine uB (zB rfl rfl) ?_
  refine qO (qM (zG rfl (zF (qM (qN (qL (uB (uBf rfl) ?_)))))))
  refine uB (uBf rfl) ?_
  refine uL ?_
  refine uA rfl (qO (qM (kE ?_)))
  exact uZ rfl (.tmp rfl .nil) ⟨rfl, rfl⟩
 | pair a b =>
  refine zR (hE.fn Tryd.func64) rfl rfl rfl (fun R => ?_)
  simp only [qAo, uV, uW]
  refine qN (qL (uU ?_))
  refine qIh rfl (fun b2 => ?_)
  refine uA rfl (qO (qM (qN (qN (qL (uB (uBf rfl) ?_))))))
  refine uB (uBf rfl) ?_
  refine uL ?_
  refine uB (y_eq rfl rfl) ?_
  refine uM rfl ?_
  refine l_eq 8 (.bool true) rfl (by simp [Rl.kind]) ?_
  refine kT rfl rfl (uB (uBf rfl) ?_)
  refine kT rfl rfl (uL ?_)
  refine kT rfl rfl (uB (y_eq rfl rfl) ?_)
  refine uB (zA rfl rfl) ?_
  refine uM rfl ?_
  refine qAn 14 rfl (fun h2 => ?_) (fun h2 => ?_)
  ·obtain rfl : hv = 2 := by omega
   refine kT rfl rfl (uM rfl (kT rfl rfl (uB (qIf rfl) ?_)))
   refine uB (zA rfl rfl) ?_
   refine qO (qM ?_)
   cases bh with
   | false =>
    refine zI rfl (qN (qL (uB (uBf rfl) ?_)))
    refine uB (uBf rfl) ?_
    refine uL ?_
    refine uA rfl (qO (qM (kE (qZ ?_))))
    exact uZ rfl (.tmp rfl .nil) ⟨rfl, rfl⟩
   | true =>
    refine zG rfl (zF (qM (qN (qN (qL (uB (uBf rfl) ?_))))))
    refine uB (uBf rfl) ?_
    refine uL ?_
    refine uB (y_eq rfl rfl) ?_
    refine uM rfl ?_
    refine l_eq 24 (.bool true) rfl (by simp [Rl.kind]) ?_
    refine kT rfl rfl (uB (uBf rfl) ?_)
    refine kT rfl rfl (uL ?_)
    refine kT rfl rfl (uB (y_eq rfl rfl) ?_)
    refine uB (zA rfl rfl) ?_
    refine uM rfl ?_
    refine l_eq 30 (.bool false) rfl (by simp) ?_
    refine zW rfl rfl rfl rfl ?_
    refine uB (zB rfl rfl) ?_
    refine qO (qM (zG rfl (zF (qM (qN (qL (uB (uBf rfl) ?_)))))))
    refine uB (uBf rfl) ?_
    refine uL ?_
    refine uA rfl (qO (qM (kE ?_)))
    exact uZ rfl (.tmp rfl .nil) ⟨rfl, rfl⟩
  refine zW rfl rfl rfl rfl (zW rfl rfl rfl rfl ?_)
  refine uB (zB rfl rfl) ?_
  refine qO (qM (zG rfl (zF (qM (qN (qN (qL (uB (uBf rfl) ?_))))))))
  refine uB (uBf rfl) ?_
  refine uL ?_
  refine uB (y_eq rfl rfl) ?_
  refine uM rfl ?_
  refine l_eq 24 (.bool true) rfl (by simp [Rl.kind]) ?_
  refine kT rfl rfl (uB (uBf rfl) ?_)
  refine kT rfl rfl (uL ?_)
  refine kT rfl rfl (uB (y_eq rfl rfl) ?_)
  refine uB (zA rfl rfl) ?_
  refine uM rfl ?_
  refine qAn 30 rfl (fun h1 => ?_) (fun h1 => ?_)
  ·obtain rfl : hv = 1 := by omega
   refine kT rfl rfl (uM rfl (uB (zA rfl rfl) ?_))
   refine qO (qM ?_)
   cases bh with
   | true =>
    refine zI rfl (qN (qL (uB (uBf rfl) ?_)))
    refine uB (uBf rfl) ?_
    refine uL ?_
    refine uA rfl (qO (qM (kE (qZ ?_))))
    exact uZ rfl (.tmp rfl .nil) ⟨rfl, rfl⟩
   | false =>
    refine zG rfl (zF (qM (qN (qL (uB (uBf rfl) ?_)))))
    refine uB (uBf rfl) ?_
    refine uL ?_
    refine uA rfl (qO (qM (kE ?_)))
    exact uZ rfl (.tmp rfl .nil) ⟨rfl, rfl⟩
  have e : qBp bh hv (.pair a b) = a := by show (if (hv = 2 ∧ bh = false) ∨ (hv = 1 ∧ bh = true) then b else a) = a; exact if_neg (by omega)
  rw [e]
  refine zW rfl rfl rfl rfl ?_
  refine uB (zB rfl rfl) ?_
  refine qO (qM (zG rfl (zF (qM (qN (qL (uB (uBf rfl) ?_)))))))
  refine uB (uBf rfl) ?_
  refine uL ?_
  refine uA rfl (qO (qM (kE ?_)))
  exact uZ rfl (.tmp rfl .nil) ⟨rfl, rfl⟩
def fmV (L : List Rl) (f : Fm) : Value := .agg #[.int .i64 (f.id : Nat), .int .i64 (Rl.kind (rlAt L f.id) : Nat), .int .u8 (Rl.byte (rlAt L f.id) : Nat), .int .i64 (Rl.left (rlAt L f.id) : Nat), .int .i64 (Rl.right (rlAt L f.id) : Nat), .int .i64 (Rl.times (rlAt L f.id) : Nat), .int .i64 (lvl L f.id), .int .i64 (f.hv : Nat)]
theorem qQi (hE : Seat E) (hB : Base E.w0) {b n c x k : Nat} {pre suf : List Value} {bt : TypeId} {p : Option Addr} {bh : Bool} (hx : 1 ≤ x) (hg : good (rls Es) x) :
  Ct E 62 [.pointer (some ⟨b, pre.length, none⟩)] [cells pp [uPt s, uPt tb] 57, tabP tb s (rls Es), zU s most Es, cells b (pre ++ uPt pp :: .bool bh :: .slice p n c :: .int .i64 (x : Nat) :: .int .u64 (k : Nat) :: suf) bt] (fun v Q => v = fmV (rls Es) ⟨x, qAp (rlAt (rls Es) x)⟩ ∧ Q = [cells pp [uPt s, uPt tb] 57, tabP tb s (rls Es), zU s most Es, cells b (pre ++ uPt pp :: .bool bh :: .slice p n c :: .int .i64 (x : Nat) :: .int .u64 (k : Nat) :: suf) bt]) := by
 obtain ⟨i, rfl⟩ : ∃ i, x = i + 1 := ⟨x - 1, by omega⟩
 have hi : i < Es.length := by have := hg.1; rw [zT] at this; omega
 obtain ⟨en, hent⟩ : ∃ e, Es[i]? = some e := ⟨_, List.getElem?_eq_getElem hi⟩
 have hr : rlAt (rls Es) (i + 1) = en.r := by simp [rlAt, qVm hent]
 refine zR (hE.fn Tryd.func62) rfl rfl rfl (fun R => ?_)
 simp only [qAo, uV, uW]
 refine qN (qL (uU (kI (hE.t rfl) (fun b2 => ?_))))
 refine qO (qM ?_)
 refine qIe (fun q : Nat => [(0, .pointer (some ⟨b, pre.length, none⟩)), (2, uPt b2), (3, uPt q), (4, .nilIface)]) (fun q => [cells pp [uPt s, uPt tb] 57, tabP tb s (rls Es), zU s most Es, cells b (pre ++ uPt pp :: .bool bh :: .slice p n c :: .int .i64 ((i + 1) : Nat) :: .int .u64 (k : Nat) :: suf) bt, cells b2 [.int .i64 0, .int .i64 0, .int .u8 0, .int .i64 0, .int .i64 0, .int .i64 0, .int .i64 0, .int .i64 0] 137, cells q [.int .i64 (Rl.kind (en.r) : Nat), .int .u8 (Rl.byte (en.r) : Nat), .int .i64 (Rl.left (en.r) : Nat), .int .i64 (Rl.right (en.r) : Nat), .int .i64 (Rl.times (en.r) : Nat)] 72, R]) (fun _ => True) ?_ ?_
 ·refine qLi 15 ([cells pp [uPt s, uPt tb] 57, cells b (pre ++ uPt pp :: .bool bh :: .slice p n c :: .int .i64 ((i + 1) : Nat) :: .int .u64 (k : Nat) :: suf) bt]) ?_ ?_
  ·exact uI
  refine uT 0 rfl (qE rfl) ?_
  refine uT 1 rfl (zD rfl) ?_
  refine uT 2 rfl (uBf rfl) ?_
  apply kD 3 rfl
  ·(apply qQ rfl (hE.t rfl) rfl; (repeat (first | rfl | assumption | exact ap_0 | exact ap_1 | exact ap_2 | exact ap_3 | exact ap_4 | exact ap_5 | exact ap_6 | exact ap_7 | constructor)); done)
  ·with_reducible (repeat (first | exact qH | apply qI | apply qJ))
  ·kernel_rfl
  ·rfl
  refine uT 5 rfl (qE rfl) ?_
  refine uT 6 rfl (zD rfl) ?_
  refine uT 7 rfl (uBf rfl) ?_
  apply kD 8 rfl
  ·(apply qQ rfl (hE.t rfl) rfl; (repeat (first | rfl | assumption | exact ap_0 | exact ap_1 | exact ap_2 | exact ap_3 | exact ap_4 | exact ap_5 | exact ap_6 | exact ap_7 | constructor)); done)
  ·with_reducible (repeat (first | exact qH | apply qI | apply qJ))
  ·kernel_rfl
  ·rfl
  apply qQx 4 13 rfl rfl (by kernel_rfl) rfl rfl
  ·apply zC (qBb hE) rfl (hE.f (by kernel_rfl))
   ·exact uK
   rintro _ _ ⟨rfl, rfl⟩
   simp only [uV, uW]
   refine uE ?_
   apply qQx 9 13 rfl rfl (by kernel_rfl) rfl rfl
   ·apply zC (qMr hE hent) rfl (hE.f (by kernel_rfl))
    ·exact uK
    rintro _ _ ⟨rfl, rfl⟩
    simp only [uV, uW]
    refine uE ?_
    refine uT 10 rfl (qE rfl) ?_
    refine uT 11 rfl (qX rfl rfl) ?_
    refine uT 12 rfl (qX rfl rfl) ?_
    apply qAg 13 rfl (by kernel_rfl) rfl
    refine kI (hE.t rfl) (fun b3 => ?_)
    refine uE ?_
    apply qAg 14 rfl (by kernel_rfl) rfl
    (apply zO rfl rfl (hE.t rfl) rfl; (focus ((repeat constructor); done)); (focus rfl); (focus (first | exact Nat.le_of_ble_eq_true rfl | (simp only [zS, List.length_append, List.length_cons, List.length_nil]; omega))))
    try simp only [zS, sm_0, sm_1, sm_2, sm_3, sm_4, sm_5, sm_6, sm_7]
    refine uE ?_
    apply kN 15 rfl (by kernel_rfl)
    ·exact qF rfl
    ·rfl
    refine qQw (by kernel_rfl) ?_
    refine qBq (ι := Nat) b3 trivial ⟨rfl, rfl, rfl, rfl, trivial⟩ ?_
    exact uI
   refine kI (hE.t rfl) (fun b3 => ?_)
   refine uE ?_
   apply qAg 9 rfl (by kernel_rfl) rfl
   refine uC (qMr hE hent) rfl ?_
   rintro _ _ ⟨rfl, rfl⟩
   simp only [uV, uW]
   refine uE ?_
   apply kN 10 rfl (by kernel_rfl)
   ·exact qE rfl
   ·rfl
   refine uT 11 rfl (qX rfl rfl) ?_
   refine uT 12 rfl (qX rfl rfl) ?_
   apply qAg 14 rfl (by kernel_rfl) rfl
   (apply zO rfl rfl (hE.t rfl) rfl; (focus ((repeat constructor); done)); (focus rfl); (focus (first | exact Nat.le_of_ble_eq_true rfl | (simp only [zS, List.length_append, List.length_cons, List.length_nil]; omega))))
   try simp only [zS, sm_0, sm_1, sm_2, sm_3, sm_4, sm_5, sm_6, sm_7]
   refine uE ?_
   apply kN 15 rfl (by kernel_rfl)
   ·exact qF rfl
   ·rfl
   refine qQw (by kernel_rfl) ?_
   refine qBq (ι := Nat) b3 trivial ⟨rfl, rfl, rfl, rfl, trivial⟩ ?_
   exact uI
  refine kI (hE.t rfl) (fun b3 => ?_)
  refine uE ?_
  apply qAg 4 rfl (by kernel_rfl) rfl
  refine uC (qBb hE) rfl ?_
  rintro _ _ ⟨rfl, rfl⟩
  simp only [uV, uW]
  refine uE ?_
  apply qAg 9 rfl (by kernel_rfl) rfl
  refine uC (qMr hE hent) rfl ?_
  rintro _ _ ⟨rfl, rfl⟩
  simp only [uV, uW]
  refine uE ?_
  apply kN 10 rfl (by kernel_rfl)
  ·exact qE rfl
  ·rfl
  refine uT 11 rfl (qX rfl rfl) ?_
  refine uT 12 rfl (qX rfl rfl) ?_
  apply qAg 14 rfl (by kernel_rfl) rfl
  (apply zO rfl rfl (hE.t rfl) rfl; (focus ((repeat constructor); done)); (focus rfl); (focus (first | exact Nat.le_of_ble_eq_true rfl | (simp only [zS, List.length_append, List.length_cons, List.length_nil]; omega))))
  try simp only [zS, sm_0, sm_1, sm_2, sm_3, sm_4, sm_5, sm_6, sm_7]
  refine uE ?_
  apply kN 15 rfl (by kernel_rfl)
  ·exact qF rfl
  ·rfl
  refine qQw (by kernel_rfl) ?_
  refine qBq (ι := Nat) b3 trivial ⟨rfl, rfl, rfl, rfl, trivial⟩ ?_
  exact uI
 rintro b3 -
 refine qN ?_
 refine uH ([cells pp [uPt s, uPt tb] 57, cells b (pre ++ uPt pp :: .bool bh :: .slice p n c :: .int .i64 ((i + 1) : Nat) :: .int .u64 (k : Nat) :: suf) bt]) ?_
 refine uD 0 rfl (qE rfl) ?_
 refine uD 1 rfl (zD rfl) ?_
 refine uD 2 rfl (uBf rfl) ?_
 apply zJ 3 rfl
 ·(apply qQ rfl (hE.t rfl) rfl; (repeat (first | rfl | assumption | exact ap_0 | exact ap_1 | exact ap_2 | exact ap_3 | exact ap_4 | exact ap_5 | exact ap_6 | exact ap_7 | constructor)); done)
 ·with_reducible (repeat (first | exact qH | apply qI | apply qJ))
 ·kernel_rfl
 ·rfl
 refine uD 5 rfl (qE rfl) ?_
 refine uD 6 rfl (zD rfl) ?_
 refine uD 7 rfl (uBf rfl) ?_
 apply zJ 8 rfl
 ·(apply qQ rfl (hE.t rfl) rfl; (repeat (first | rfl | assumption | exact ap_0 | exact ap_1 | exact ap_2 | exact ap_3 | exact ap_4 | exact ap_5 | exact ap_6 | exact ap_7 | constructor)); done)
 ·with_reducible (repeat (first | exact qH | apply qI | apply qJ))
 ·kernel_rfl
 ·rfl
 apply kP 4 rfl (by kernel_rfl) rfl
 refine uC (qMq hE) rfl ?_
 rintro _ _ ⟨rfl, rfl⟩
 simp only [uV, uW]
 refine uE ?_
 apply kP 9 rfl (by kernel_rfl) rfl
 refine uC (qWk hE hB hi hg.2) rfl ?_
 rintro _ _ ⟨rfl, rfl⟩
 simp only [uV, uW]
 refine uE ?_
 refine uD 10 rfl (qE rfl) ?_
 refine uD 11 rfl (qX rfl rfl) ?_
 refine uD 12 rfl (qX rfl rfl) ?_
 refine uD 13 rfl (qF rfl) ?_
 refine uD 14 rfl (qF rfl) ?_
 refine qGy (by kernel_rfl) ?_
 refine qM (qN ?_)
 refine uH ([cells b3 [.int .i64 (Rl.kind (en.r) : Nat), .int .u8 (Rl.byte (en.r) : Nat), .int .i64 (Rl.left (en.r) : Nat), .int .i64 (Rl.right (en.r) : Nat), .int .i64 (Rl.times (en.r) : Nat)] 72, cells b (pre ++ uPt pp :: .bool bh :: .slice p n c :: .int .i64 ((i + 1) : Nat) :: .int .u64 (k : Nat) :: suf) bt]) ?_
 refine uD 0 rfl (qE rfl) ?_
 refine uD 1 rfl (zD rfl) ?_
 refine uD 2 rfl (uBf rfl) ?_
 apply zJ 3 rfl
 ·(apply qQ rfl (hE.t rfl) rfl; (repeat (first | rfl | assumption | exact ap_0 | exact ap_1 | exact ap_2 | exact ap_3 | exact ap_4 | exact ap_5 | exact ap_6 | exact ap_7 | constructor)); done)
 ·with_reducible (repeat (first | exact qH | apply qI | apply qJ))
 ·kernel_rfl
 ·rfl
 apply zJ 4 rfl
 ·(apply zY rfl (hE.t rfl) rfl; (repeat (first | rfl | assumption | exact ap_0 | exact ap_1 | exact ap_2 | exact ap_3 | exact ap_4 | exact ap_5 | exact ap_6 | exact ap_7 | constructor)); done)
 ·with_reducible (repeat (first | exact qH | apply qI | apply qJ))
 ·kernel_rfl
 ·rfl
 refine uD 5 rfl (qE rfl) ?_
 apply zJ 6 rfl
 ·(apply zY rfl (hE.t rfl) rfl; (repeat (first | rfl | assumption | exact ap_0 | exact ap_1 | exact ap_2 | exact ap_3 | exact ap_4 | exact ap_5 | exact ap_6 | exact ap_7 | constructor)); done)
 ·with_reducible (repeat (first | exact qH | apply qI | apply qJ))
 ·kernel_rfl
 ·rfl
 apply kP 7 rfl (by kernel_rfl) rfl
 refine uC (qWn hE) rfl ?_
 rintro _ _ ⟨rfl, rfl⟩
 simp only [uV, uW]
 refine uE ?_
 refine uD 8 rfl (qAl (hE.t rfl) rfl rfl) ?_
 apply kP 9 rfl (by kernel_rfl) rfl
 (apply zO rfl rfl (hE.t rfl) rfl; (focus ((repeat constructor); done)); (focus rfl); (focus (first | exact Nat.le_of_ble_eq_true rfl | (simp only [zS, List.length_append, List.length_cons, List.length_nil]; omega))))
 try simp only [zS, sm_0, sm_1, sm_2, sm_3, sm_4, sm_5, sm_6, sm_7]
 refine uE ?_
 refine qGy (by kernel_rfl) ?_
 refine qM (kE ?_)
 apply kF
 ·rfl
 ·((apply Rs.cell rfl (hE.t rfl) rfl; (focus ((repeat (first | rfl | assumption | exact ap_0 | exact ap_1 | exact ap_2 | exact ap_3 | exact ap_4 | exact ap_5 | exact ap_6 | exact ap_7 | constructor)); done))); exact Rs.nil)
 ·exact ⟨by rw [fmV, hr]; rfl, rfl⟩
 exact uI
end
section
variable {E : Env} {Es : List Ent} {pp tb s most : Nat}
theorem Lk.short {L : List Rl} (hw : Wf L) {bh : Bool} {root x : Nat} {fs : List Fm} (hs : Sig L root) (h : Lk L bh root x fs) : x + fs.length ≤ root := by
 induction h with
 | nil => simp
 | @snoc x hv fs r h1 h2 h3 h4 h5 h6 ih =>
  have := (qQb (bh := bh) (hv := hv) hw h2 h3 h4 (h1.ok hw hs).2.2.1).2.1
  simp only [List.length_append, List.length_singleton]
  omega
theorem Lk.short' {L : List Rl} (hw : Wf L) {bh : Bool} {root x : Nat} {fs : List Fm} (hs : Sig L root) (h : Lk L bh root x fs) (hL : L.length ≤ 1048576) : fs.length ≤ 1048576 := by
 have := h.short hw hs
 have := hs.le
 omega
def DnPost (pp s tb most : Nat) (Es : List Ent) (b : Nat) (pre suf : List Value) (bt : TypeId) (bh : Bool) (l x : Nat) (fs : List Fm) (v : Value) (Q : List HP) : Prop := ∃ x' gs p' c', v = .tuple #[] ∧ Dn (rls Es) bh l x fs x' gs ∧ lvl (rls Es) x' ≤ (l : Nat) ∧ Q = [cells pp [uPt s, uPt tb] 57, tabP tb s (rls Es), zU s most Es, cells b (pre ++ uPt pp :: .bool bh :: .slice p' gs.length c' :: .int .i64 (x' : Nat) :: .int .u64 ((key (rls Es) x') : Nat) :: suf) bt, sl p' c' 137 8 gs.length (qAc (rls Es) gs)]
structure DnG where
 x : Nat
 gs : List Fm
 p : Option Addr
 c : Nat
 b4 : Nat
theorem zAe (hE : Seat E) (hB : Base E.w0) {b c x k l root : Nat} {pre suf : List Value} {bt : TypeId} {p : Option Addr} {bh : Bool} {fs : List Fm} (hs : Sig (rls Es) root) (hk : Lk (rls Es) bh root x fs) (hll : l ≤ 1099511627776) :
  Ct E 65 [.pointer (some ⟨b, pre.length, none⟩), .int .i64 (l : Nat)] [cells pp [uPt s, uPt tb] 57, tabP tb s (rls Es), zU s most Es, cells b (pre ++ uPt pp :: .bool bh :: .slice p fs.length c :: .int .i64 (x : Nat) :: .int .u64 (k : Nat) :: suf) bt, sl p c 137 8 fs.length (qAc (rls Es) fs)] (DnPost pp s tb most Es b pre suf bt bh l x fs) := by
 refine qAy (p := zU s most Es) uK (fun _ h => qAb h) (fun hsay => ?_)
 have hw := hsay.1
 have hL : (rls Es).length ≤ 1048576 := by have := hsay.2.2; rw [zT]; unfold qAw at this; omega
 have hok := hk.ok hw hs
 refine zR (hE.fn Tryd.func65) rfl rfl rfl (fun R => ?_)
 simp only [qAo, uV, uW]
 refine qN (qN (qL (uM rfl (uX (qQi hE hB hok.1 ⟨hok.2.1, hok.2.2.1⟩) rfl ?_))))
 rintro _ _ ⟨rfl, rfl⟩
 simp only [List.cons_append, List.nil_append, fmV]
 refine uU (kI (hE.t rfl) (fun b4 => ?_))
 refine uU ?_
 (apply zO rfl rfl (hE.t rfl) rfl; (focus ((repeat constructor); done)); (focus rfl); (focus (first | exact Nat.le_of_ble_eq_true rfl | (simp only [zS, List.length_append, List.length_cons, List.length_nil]; omega))))
 try simp only [zS, sm_0, sm_1, sm_2, sm_3, sm_4, sm_5, sm_6, sm_7]
 refine qO (qM (zN ?_))
 refine qDb (fun x : DnG => [(0, .pointer (some ⟨b, pre.length, none⟩)), (1, .int .i64 (l : Nat)), (4, .pointer (some ⟨x.b4, 0, none⟩))]) (fun y => [cells pp [uPt s, uPt tb] 57, tabP tb s (rls Es), zU s most Es, cells b (pre ++ uPt pp :: .bool bh :: .slice y.p y.gs.length y.c :: .int .i64 (y.x : Nat) :: .int .u64 (k : Nat) :: suf) bt, sl y.p y.c 137 8 y.gs.length (qAc (rls Es) y.gs), cells y.b4 [.int .i64 (y.x : Nat), .int .i64 (Rl.kind (rlAt (rls Es) y.x) : Nat), .int .u8 (Rl.byte (rlAt (rls Es) y.x) : Nat), .int .i64 (Rl.left (rlAt (rls Es) y.x) : Nat), .int .i64 (Rl.right (rlAt (rls Es) y.x) : Nat), .int .i64 (Rl.times (rlAt (rls Es) y.x) : Nat), .int .i64 (lvl (rls Es) y.x), .int .i64 (qAp (rlAt (rls Es) y.x) : Nat)] 137, R]) (fun y => y.x) (fun y => Lk (rls Es) bh root y.x y.gs ∧ Dn (rls Es) bh l x fs y.x y.gs) ⟨x, fs, p, c, b4⟩ ?_ ?_ ?_ ?_
 ·exact ⟨hk, .refl⟩
 ·exact ⟨rfl, rfl, rfl, trivial⟩
 ·exact uI
 rintro ⟨y, gs, p1, c1, b4⟩ ⟨h1, h2⟩
 simp only at h1 h2 ⊢
 have ok := h1.ok hw hs
 have hgl := h1.short' hw hs hL
 refine qN (qN (qL (uB (uBf rfl) ?_)))
 apply qD
 ·(apply qQ rfl (hE.t rfl) rfl; (repeat (first | rfl | assumption | exact ap_0 | exact ap_1 | exact ap_2 | exact ap_3 | exact ap_4 | exact ap_5 | exact ap_6 | exact ap_7 | constructor)); done)
 ·rfl
 refine uM rfl (uB (y_gt rfl rfl) ?_)
 refine qO (qM ?_)
 refine zH rfl (fun hlt => ?_) (fun hlt => ?_)
 ·have hr : (rls Es)[y - 1]? = some (rlAt (rls Es) y) := by
   have e := List.getElem?_eq_getElem (l := rls Es) (i := y - 1) (by omega)
   rw [e]; simp [rlAt, e]
  have hn := qPp ok.1 hr (by omega)
  have hst := Dn.step h2 (by omega) hr
  have hlk : Lk (rls Es) bh root (qBp bh (qAp (rlAt (rls Es) y)) (rlAt (rls Es) y)) (gs ++ [⟨y, qAp (rlAt (rls Es) y)⟩]) := .snoc h1 ok.1 hr hn (by have := qOn hw hr; omega) (Nat.le_refl _)
  have hck := (qQb (bh := bh) (hv := qAp (rlAt (rls Es) y)) hw ok.1 hr hn ok.2.2.1).2.1
  have hcg := hlk.ok hw hs
  have hsn := qCq (rls Es) gs ⟨y, qAp (rlAt (rls Es) y)⟩
  simp only at hsn
  refine zF (qM (qN (zN (qN ?_))))
  refine uN 10 ([cells b (pre ++ uPt pp :: .bool bh :: .slice p1 gs.length c1 :: .int .i64 (y : Nat) :: .int .u64 (k : Nat) :: suf) bt, cells b4 [.int .i64 (y : Nat), .int .i64 (Rl.kind (rlAt (rls Es) y) : Nat), .int .u8 (Rl.byte (rlAt (rls Es) y) : Nat), .int .i64 (Rl.left (rlAt (rls Es) y) : Nat), .int .i64 (Rl.right (rlAt (rls Es) y) : Nat), .int .i64 (Rl.times (rlAt (rls Es) y) : Nat), .int .i64 (lvl (rls Es) y), .int .i64 (qAp (rlAt (rls Es) y) : Nat)] 137]) ?_
  refine uT 0 rfl (qE rfl) ?_
  refine uT 1 rfl (qE rfl) ?_
  refine uT 2 rfl (zD rfl) ?_
  refine uT 3 rfl (uBf rfl) ?_
  apply kD 4 rfl
  ·(apply qQ rfl (hE.t rfl) rfl; (repeat (first | rfl | assumption | exact ap_0 | exact ap_1 | exact ap_2 | exact ap_3 | exact ap_4 | exact ap_5 | exact ap_6 | exact ap_7 | constructor)); done)
  ·with_reducible (repeat (first | exact qH | apply qI | apply qJ))
  ·kernel_rfl
  ·rfl
  apply kN 5 rfl (by kernel_rfl)
  ·(apply zY rfl (hE.t rfl) rfl; (repeat (first | rfl | assumption | exact ap_0 | exact ap_1 | exact ap_2 | exact ap_3 | exact ap_4 | exact ap_5 | exact ap_6 | exact ap_7 | constructor)); done)
  ·rfl
  apply qAg 6 rfl (by kernel_rfl) rfl
  refine qY (hE.t rfl) (hE.t rfl) rfl rfl rfl (fun b19 => ?_)
  refine uE ?_
  apply qAg 7 rfl (by kernel_rfl) rfl
  apply zX (hE.t rfl) (hE.t rfl) rfl rfl rfl
  ·exact uK
  ·exact uK
  ·rfl
  ·rfl
  ·omega
  ·omega
  ·(unfold maxLen; omega)
  intro g20 c20 n20 x20 hn20 hx20
  refine uE ?_
  apply kN 8 rfl (by kernel_rfl)
  ·exact zD rfl
  ·rfl
  apply kN 9 rfl (by kernel_rfl)
  ·exact uBf rfl
  ·rfl
  apply qBt rfl (by kernel_rfl) (by kernel_rfl) rfl
  (apply zO rfl rfl (hE.t rfl) rfl; (focus ((repeat constructor); done)); (focus rfl); (focus (first | exact Nat.le_of_ble_eq_true rfl | (simp only [zS, List.length_append, List.length_cons, List.length_nil]; omega))))
  try simp only [zS, sm_0, sm_1, sm_2, sm_3, sm_4, sm_5, sm_6, sm_7]
  refine qM ?_
  obtain rfl : x20 = qAc (rls Es) (gs ++ [⟨y, qAp (rlAt (rls Es) y)⟩]) := by rw [hx20, hsn]; rfl
  subst hn20
  refine uN 9 ([cells b (pre ++ uPt pp :: .bool bh :: .slice (some ⟨g20, 0, none⟩) (gs.length + 1) c20 :: .int .i64 (y : Nat) :: .int .u64 (k : Nat) :: suf) bt, cells b4 [.int .i64 (y : Nat), .int .i64 (Rl.kind (rlAt (rls Es) y) : Nat), .int .u8 (Rl.byte (rlAt (rls Es) y) : Nat), .int .i64 (Rl.left (rlAt (rls Es) y) : Nat), .int .i64 (Rl.right (rlAt (rls Es) y) : Nat), .int .i64 (Rl.times (rlAt (rls Es) y) : Nat), .int .i64 (lvl (rls Es) y), .int .i64 (qAp (rlAt (rls Es) y) : Nat)] 137]) ?_
  refine uT 0 rfl (qE rfl) ?_
  apply kD 1 rfl
  ·(apply zY rfl (hE.t rfl) rfl; (repeat (first | rfl | assumption | exact ap_0 | exact ap_1 | exact ap_2 | exact ap_3 | exact ap_4 | exact ap_5 | exact ap_6 | exact ap_7 | constructor)); done)
  ·with_reducible (repeat (first | exact qH | apply qI | apply qJ))
  ·kernel_rfl
  ·rfl
  apply kN 2 rfl (by kernel_rfl)
  ·exact qE rfl
  ·rfl
  apply kN 3 rfl (by kernel_rfl)
  ·exact zD rfl
  ·rfl
  apply kN 4 rfl (by kernel_rfl)
  ·exact uBf rfl
  ·rfl
  apply kN 5 rfl (by kernel_rfl)
  ·(apply qQ rfl (hE.t rfl) rfl; (repeat (first | rfl | assumption | exact ap_0 | exact ap_1 | exact ap_2 | exact ap_3 | exact ap_4 | exact ap_5 | exact ap_6 | exact ap_7 | constructor)); done)
  ·rfl
  apply qAg 6 rfl (by kernel_rfl) rfl
  refine uC (qWi hE hn) rfl ?_
  rintro _ _ ⟨rfl, rfl⟩
  simp only [uV, uW]
  refine uE ?_
  apply kN 7 rfl (by kernel_rfl)
  ·exact zD rfl
  ·rfl
  apply kN 8 rfl (by kernel_rfl)
  ·exact uBf rfl
  ·rfl
  apply qBt rfl (by kernel_rfl) (by kernel_rfl) rfl
  (apply zO rfl rfl (hE.t rfl) rfl; (focus ((repeat constructor); done)); (focus rfl); (focus (first | exact Nat.le_of_ble_eq_true rfl | (simp only [zS, List.length_append, List.length_cons, List.length_nil]; omega))))
  try simp only [zS, sm_0, sm_1, sm_2, sm_3, sm_4, sm_5, sm_6, sm_7]
  refine zL (qM (qN (qN (qL ?_))))
  apply qD
  ·(apply zY rfl (hE.t rfl) rfl; (repeat (first | rfl | assumption | exact ap_0 | exact ap_1 | exact ap_2 | exact ap_3 | exact ap_4 | exact ap_5 | exact ap_6 | exact ap_7 | constructor)); done)
  ·rfl
  refine qO (qM (qL (uU (kI (hE.t rfl) (fun b4 => ?_)))))
  refine uU ?_
  (apply zO rfl rfl (hE.t rfl) rfl; (focus ((repeat constructor); done)); (focus rfl); (focus (first | exact Nat.le_of_ble_eq_true rfl | (simp only [zS, List.length_append, List.length_cons, List.length_nil]; omega))))
  try simp only [zS, sm_0, sm_1, sm_2, sm_3, sm_4, sm_5, sm_6, sm_7]
  refine qO (qM (qL (uM rfl (uX (qQi hE hB hcg.1 ⟨hcg.2.1, hcg.2.2.1⟩) rfl ?_))))
  rintro _ _ ⟨rfl, rfl⟩
  simp only [List.cons_append, List.nil_append, fmV]
  refine uU ?_
  (apply zO rfl rfl (hE.t rfl) rfl; (focus ((repeat constructor); done)); (focus rfl); (focus (first | exact Nat.le_of_ble_eq_true rfl | (simp only [zS, List.length_append, List.length_cons, List.length_nil]; omega))))
  try simp only [zS, sm_0, sm_1, sm_2, sm_3, sm_4, sm_5, sm_6, sm_7]
  refine qO ?_
  refine zV (ι := DnG) (j := ⟨qBp bh (qAp (rlAt (rls Es) y)) (rlAt (rls Es) y), gs ++ [⟨y, qAp (rlAt (rls Es) y)⟩], some ⟨g20, 0, none⟩, c20, b4⟩) ⟨hlk, hst⟩ hck ⟨rfl, rfl, rfl, trivial⟩ ?_
  rw [List.length_append, List.length_singleton]
  exact uI
 obtain ⟨i, rfl⟩ : ∃ i, y = i + 1 := ⟨y - 1, by omega⟩
 have hi : i < Es.length := by have := ok.2.1; rw [zT] at this; omega
 refine kM (qU (qU (zK (qM ?_))))
 refine zDb (Ex (fun k => cells b (pre ++ uPt pp :: .bool bh :: .slice p1 gs.length c1 :: .int .i64 ((i + 1) : Nat) :: .int .u64 (k : Nat) :: suf) bt) :: [cells pp [uPt s, uPt tb] 57]) ?_ ?_
 ·(apply qLm; apply ent; (repeat constructor); done)
 apply zJ 0 rfl
 ·(apply qDl; intro kx; exact qE rfl)
 ·with_reducible (repeat (first | exact qH | apply qI | apply qJ))
 ·kernel_rfl
 ·rfl
 apply zJ 1 rfl
 ·(apply qDl; intro kx; exact qE rfl)
 ·with_reducible (repeat (first | exact qH | apply qI | apply qJ))
 ·kernel_rfl
 ·rfl
 apply zJ 2 rfl
 ·(apply qDl; intro kx; exact zD rfl)
 ·with_reducible (repeat (first | exact qH | apply qI | apply qJ))
 ·kernel_rfl
 ·rfl
 apply zJ 3 rfl
 ·(apply qDl; intro kx; exact uBf rfl)
 ·with_reducible (repeat (first | exact qH | apply qI | apply qJ))
 ·kernel_rfl
 ·rfl
 apply zJ 4 rfl
 ·(apply qDl; intro kx; (apply qQ rfl (hE.t rfl) rfl; (repeat (first | rfl | assumption | exact ap_0 | exact ap_1 | exact ap_2 | exact ap_3 | exact ap_4 | exact ap_5 | exact ap_6 | exact ap_7 | constructor)); done))
 ·with_reducible (repeat (first | exact qH | apply qI | apply qJ))
 ·kernel_rfl
 ·rfl
 apply zJ 6 rfl
 ·(apply qDl; intro kx; exact qE rfl)
 ·with_reducible (repeat (first | exact qH | apply qI | apply qJ))
 ·kernel_rfl
 ·rfl
 apply zJ 7 rfl
 ·(apply qDl; intro kx; exact zD rfl)
 ·with_reducible (repeat (first | exact qH | apply qI | apply qJ))
 ·kernel_rfl
 ·rfl
 apply zJ 8 rfl
 ·(apply qDl; intro kx; exact uBf rfl)
 ·with_reducible (repeat (first | exact qH | apply qI | apply qJ))
 ·kernel_rfl
 ·rfl
 apply zJ 9 rfl
 ·(apply qDl; intro kx; (apply qQ rfl (hE.t rfl) rfl; (repeat (first | rfl | assumption | exact ap_0 | exact ap_1 | exact ap_2 | exact ap_3 | exact ap_4 | exact ap_5 | exact ap_6 | exact ap_7 | constructor)); done))
 ·with_reducible (repeat (first | exact qH | apply qI | apply qJ))
 ·kernel_rfl
 ·rfl
 apply kP 5 rfl (by kernel_rfl) rfl
 refine uC (qMq hE) rfl ?_
 rintro _ _ ⟨rfl, rfl⟩
 simp only [uV, uW]
 refine ⟨by (apply qLm; apply ent; (repeat constructor); done), ?_⟩
 apply kP 10 rfl (by kernel_rfl) rfl
 refine uC (qPa hE hB hi) rfl ?_
 rintro _ _ ⟨rfl, rfl⟩
 simp only [uV, uW]
 refine ⟨by (apply qLm; apply ent; (repeat constructor); done), ?_⟩
 apply zJ 11 rfl
 ·(apply qDl; intro kx; exact qE rfl)
 ·with_reducible (repeat (first | exact qH | apply qI | apply qJ))
 ·kernel_rfl
 ·rfl
 apply zJ 12 rfl
 ·(apply qDl; intro kx; exact qX rfl rfl)
 ·with_reducible (repeat (first | exact qH | apply qI | apply qJ))
 ·kernel_rfl
 ·rfl
 apply zJ 13 rfl
 ·(apply qDl; intro kx; exact qX rfl rfl)
 ·with_reducible (repeat (first | exact qH | apply qI | apply qJ))
 ·kernel_rfl
 ·rfl
 apply zJ 14 rfl
 ·(apply qDl; intro kx; exact zD rfl)
 ·with_reducible (repeat (first | exact qH | apply qI | apply qJ))
 ·kernel_rfl
 ·rfl
 apply zJ 15 rfl
 ·(apply qDl; intro kx; exact uBf rfl)
 ·with_reducible (repeat (first | exact qH | apply qI | apply qJ))
 ·kernel_rfl
 ·rfl
 apply kP 16 rfl (by kernel_rfl) rfl
 (apply zO rfl rfl (hE.t rfl) rfl; (focus ((repeat constructor); done)); (focus rfl); (focus (first | exact Nat.le_of_ble_eq_true rfl | (simp only [zS, List.length_append, List.length_cons, List.length_nil]; omega))))
 try simp only [zS, sm_0, sm_1, sm_2, sm_3, sm_4, sm_5, sm_6, sm_7]
 refine ⟨by (apply qLm; apply ent; (repeat constructor); done), ?_⟩
 refine qGy (by kernel_rfl) ?_
 exact uZe rfl .nil ⟨i + 1, gs, p1, c1, rfl, h2, by omega, rfl⟩
end
section
variable {E : Env} {Es : List Ent} {pp tb s most : Nat}
theorem qRc {L : List Rl} {gs : List Fm} {g : Nat} : (.pointer (some ⟨g, 0 + (((gs.length + 1 : Nat) : Int) - 1).toNat * 8, none⟩) : Value) = .pointer (some ⟨g, (qAc L gs).length, none⟩) := by
 rw [qFl, show 0 + (((gs.length + 1 : Nat) : Int) - 1).toNat * 8 = gs.length * 8 by omega]
theorem qYi (hE : Seat E) {b c x k lv : Nat} {pre suf : List Value} {bt : TypeId} {p : Option Addr} {bh : Bool} {q : HP} :
  Ct E 71 [.pointer (some ⟨b, pre.length, none⟩), .int .i64 (lv : Nat)] [cells b (pre ++ uPt pp :: .bool bh :: .slice p 0 c :: .int .i64 (x : Nat) :: .int .u64 (k : Nat) :: suf) bt, q] (fun v Q => v = .pointer none ∧ Q = [cells b (pre ++ uPt pp :: .bool bh :: .slice p 0 c :: .int .i64 (x : Nat) :: .int .u64 (k : Nat) :: suf) bt, q]) := by
 refine zR (hE.fn Tryd.func71) rfl rfl rfl (fun R => ?_)
 simp only [qAo, uV, uW]
 refine qN (qL (uA rfl (qO (qM (qN (qN (qL (uM rfl (uB (zD rfl) ?_)))))))))
 refine uB (uBf rfl) ?_
 apply qD
 ·(apply qQ rfl (hE.t rfl) rfl; (repeat (first | rfl | assumption | exact ap_0 | exact ap_1 | exact ap_2 | exact ap_3 | exact ap_4 | exact ap_5 | exact ap_6 | exact ap_7 | constructor)); done)
 ·rfl
 refine uB (uBl rfl) ?_
 refine uA rfl (qO (qM (qN (qL (uM rfl (uB (y_gt rfl rfl) ?_))))))
 refine uM rfl ?_
 refine l_eq 13 (.bool false) rfl (by simp) ?_
 refine zW rfl rfl rfl rfl (zW rfl rfl rfl rfl (zW rfl rfl rfl rfl (zW rfl rfl rfl rfl (zW rfl rfl rfl rfl (zW rfl rfl rfl rfl (zW rfl rfl rfl rfl (zW rfl rfl rfl rfl ?_)))))))
 refine zW rfl rfl rfl rfl (zW rfl rfl rfl rfl (zW rfl rfl rfl rfl ?_))
 refine uB (zB rfl rfl) ?_
 refine qO (qM (zG rfl (zF (qM (qN (qL (uA rfl (qO (qM (kE ?_))))))))))
 exact uZ rfl (.tmp rfl .nil) ⟨rfl, rfl⟩
theorem qYj (hE : Seat E) {b c x k lv g hv : Nat} {pre suf : List Value} {bt : TypeId} {bh : Bool} {gs : List Fm} {f : Fm} (hgl : gs.length ≤ 1048576) :
  Ct E 71 [.pointer (some ⟨b, pre.length, none⟩), .int .i64 (lv : Nat)] [cells b (pre ++ uPt pp :: .bool bh :: .slice (some ⟨g, 0, none⟩) (gs.length + 1) c :: .int .i64 (x : Nat) :: .int .u64 (k : Nat) :: suf) bt, sl (some ⟨g, 0, none⟩) c 137 8 (gs.length + 1) (qAc (rls Es) gs ++ .int .i64 (f.id : Nat) :: .int .i64 (Rl.kind (rlAt (rls Es) f.id) : Nat) :: .int .u8 (Rl.byte (rlAt (rls Es) f.id) : Nat) :: .int .i64 (Rl.left (rlAt (rls Es) f.id) : Nat) :: .int .i64 (Rl.right (rlAt (rls Es) f.id) : Nat) :: .int .i64 (Rl.times (rlAt (rls Es) f.id) : Nat) :: .int .i64 (lvl (rls Es) f.id) :: .int .i64 (hv : Nat) :: [])]
   (fun v Q => v = (if lvl (rls Es) f.id = (lv : Nat) then .pointer (some ⟨g, (qAc (rls Es) gs).length, none⟩) else .pointer none) ∧ Q = [cells b (pre ++ uPt pp :: .bool bh :: .slice (some ⟨g, 0, none⟩) (gs.length + 1) c :: .int .i64 (x : Nat) :: .int .u64 (k : Nat) :: suf) bt, sl (some ⟨g, 0, none⟩) c 137 8 (gs.length + 1) (qAc (rls Es) gs ++ .int .i64 (f.id : Nat) :: .int .i64 (Rl.kind (rlAt (rls Es) f.id) : Nat) :: .int .u8 (Rl.byte (rlAt (rls Es) f.id) : Nat) :: .int .i64 (Rl.left (rlAt (rls Es) f.id) : Nat) :: .int .i64 (Rl.right (rlAt (rls Es) f.id) : Nat) :: .int .i64 (Rl.times (rlAt (rls Es) f.id) : Nat) :: .int .i64 (lvl (rls Es) f.id) :: .int .i64 (hv : Nat) :: [])]) := by
 refine zR (hE.fn Tryd.func71) rfl rfl rfl (fun R => ?_)
 simp only [qAo, uV, uW]
 refine qN (qL (uA rfl (qO (qM (qN (qN (qL (uM rfl (uB (zD rfl) ?_)))))))))
 refine uB (uBf rfl) ?_
 apply qD
 ·(apply qQ rfl (hE.t rfl) rfl; (repeat (first | rfl | assumption | exact ap_0 | exact ap_1 | exact ap_2 | exact ap_3 | exact ap_4 | exact ap_5 | exact ap_6 | exact ap_7 | constructor)); done)
 ·rfl
 refine uB (uBl rfl) ?_
 refine uA rfl (qO (qM (qN (qL (uM rfl (uB (y_gt rfl rfl) ?_))))))
 refine uM rfl ?_
 refine l_eq 13 (.bool true) rfl (by simp) ?_
 refine kT rfl rfl (uM rfl (kT rfl rfl (uB (zD rfl) ?_)))
 refine kT rfl rfl (uB (uBf rfl) ?_)
 refine kT rfl rfl ?_
 apply qD
 ·(apply qQ rfl (hE.t rfl) rfl; (repeat (first | rfl | assumption | exact ap_0 | exact ap_1 | exact ap_2 | exact ap_3 | exact ap_4 | exact ap_5 | exact ap_6 | exact ap_7 | constructor)); done)
 ·rfl
 refine kT rfl rfl (uM rfl (kT rfl rfl (uB (uAs rfl rfl) ?_)))
 refine kT rfl rfl (uB (uAi rfl rfl) ?_)
 refine l_eq 20 _ rfl (qRc (L := rls Es)) ?_
 refine kT rfl rfl (uB (uBf rfl) ?_)
 refine kT rfl rfl ?_
 apply qD
 ·(apply qQ rfl (hE.t rfl) rfl; (repeat (first | rfl | assumption | exact ap_0 | exact ap_1 | exact ap_2 | exact ap_3 | exact ap_4 | exact ap_5 | exact ap_6 | exact ap_7 | constructor)); done)
 ·rfl
 refine kT rfl rfl (uM rfl (kT rfl rfl (uB (y_eq rfl rfl) ?_)))
 refine uB (zA rfl rfl) ?_
 refine qO (qM ?_)
 refine zH rfl (fun h => ?_) (fun h => ?_)
 ·skip
  refine qN (qL (uM rfl (uB (zD rfl) ?_)))
  refine uB (uBf rfl) ?_
  apply qD
  ·(apply qQ rfl (hE.t rfl) rfl; (repeat (first | rfl | assumption | exact ap_0 | exact ap_1 | exact ap_2 | exact ap_3 | exact ap_4 | exact ap_5 | exact ap_6 | exact ap_7 | constructor)); done)
  ·rfl
  refine uM rfl (uB (uAs rfl rfl) ?_)
  refine uB (uAi rfl rfl) ?_
  refine l_eq 32 _ rfl (qRc (L := rls Es)) ?_
  refine uA rfl (qO (qM (kE (qZ ?_))))
  exact uZ rfl (.tmp rfl .nil) ⟨by rw [if_pos h]; rfl, rfl⟩
 refine zF (qM (qN (qL ?_)))
 refine uA rfl (qO (qM (kE ?_)))
 exact uZ rfl (.tmp rfl .nil) ⟨by rw [if_neg h]; rfl, rfl⟩
def ParV (L : List Rl) (p : Option Addr) (fs : List Fm) (o : Option Fm) (v : Value) : Prop := match o with
 | none => v = .pointer none
 | some f => ∃ gs g, fs = gs ++ [f] ∧ p = some ⟨g, 0, none⟩ ∧ v = .pointer (some ⟨g, (qAc L gs).length, none⟩)
theorem qEs (hE : Seat E) {b c x k lv : Nat} {pre suf : List Value} {bt : TypeId} {p : Option Addr} {bh : Bool} {fs : List Fm} (hfl : fs.length ≤ 1048576) :
  Ct E 71 [.pointer (some ⟨b, pre.length, none⟩), .int .i64 (lv : Nat)] [cells b (pre ++ uPt pp :: .bool bh :: .slice p fs.length c :: .int .i64 (x : Nat) :: .int .u64 (k : Nat) :: suf) bt, sl p c 137 8 fs.length (qAc (rls Es) fs)]
   (fun v Q => (∃ o, Par (rls Es) lv fs o ∧ ParV (rls Es) p fs o v) ∧ Q = [cells b (pre ++ uPt pp :: .bool bh :: .slice p fs.length c :: .int .i64 (x : Nat) :: .int .u64 (k : Nat) :: suf) bt, sl p c 137 8 fs.length (qAc (rls Es) fs)]) := by
 rcases List.eq_nil_or_concat fs with rfl | ⟨gs, f, rfl⟩
 ·intro R w hs
  exact (qYi hE (q := sl p c 137 8 0 (qAc (rls Es) [])) R w hs).mono fun e w' ⟨v, Q, h1, ⟨h2, h3⟩, h4⟩ => ⟨v, Q, h1, ⟨⟨none, fun f g e => by simp at e, h2⟩, h3⟩, h4⟩
 rw [List.concat_eq_append] at *
 rw [List.length_append, List.length_singleton] at *
 refine qAy (p := sl p c 137 8 (gs.length + 1) (qAc (rls Es) (gs ++ [f]))) uK (fun _ h => qCc h (by omega)) ?_
 rintro ⟨g, rfl⟩
 rw [qCq]
 intro R w hs
 exact (qYj (hv := f.hv) hE (by omega) R w hs).mono fun e w' ⟨v, Q, h1, ⟨h2, h3⟩, h4⟩ => ⟨v, Q, h1, ⟨by
  by_cases hl : lvl (rls Es) f.id = (lv : Nat)
  ·rw [if_pos hl] at h2
   exact ⟨some f, ⟨⟨gs, rfl⟩, hl⟩, gs, g, rfl, rfl, h2⟩
  rw [if_neg hl] at h2
  exact ⟨none, fun f' g' e => by obtain ⟨_, rfl⟩ := qEg e; exact hl, h2⟩, h3⟩, h4⟩
theorem qXt {L : List Rl} (hw : Wf L) {x : Nat} {r : Rl} (h1 : 1 ≤ x) (hr : L[x - 1]? = some r) : qAp r ≤ 1152921504606846976 := by
 obtain ⟨x, rfl⟩ : ∃ y, x = y + 1 := ⟨x - 1, by omega⟩
 rw [Nat.add_sub_cancel] at hr
 have hk := hw.ok x r hr
 cases r with
 | letter b => simp [qAp]
 | pair a b => simp [qAp]
 | power y k =>
  have hl := qNk hr hk
  have hs := hw.short (x + 1)
  have hx := (List.getElem?_eq_some_iff.1 hr).1
  obtain ⟨k1, k2, k3⟩ := hk
  have hp := qVf hw y k1 (by omega)
  unfold kK at hs
  rw [hl] at hs
  have : k * 1 ≤ k * len L y := Nat.mul_le_mul_left k hp
  simp only [qAp]
  omega
theorem EO.pl {L : List Rl} (hw : Wf L) (hL : L.length ≤ 1048576) {bh : Bool} {l root x : Nat} {fs : List Fm} (hs : Sig L root) (h : EO L bh l root x fs) : fs.length ≤ 1048576 := by
 rcases h.lk with ⟨_, rfl⟩ | ⟨_, h2, _⟩
 ·simp
 exact h2.short' hw hs hL
theorem zAm (hE : Seat E) (hB : Base E.w0) {b c x l lv root : Nat} {pre suf : List Value} {bt : TypeId} {p : Option Addr} {bh : Bool} {fs : List Fm} (hs : Sig (rls Es) root) (he : EO (rls Es) bh l root x fs) :
  Ct E 50 [.pointer (some ⟨b, pre.length, none⟩), .int .i64 (lv : Nat)] [cells pp [uPt s, uPt tb] 57, tabP tb s (rls Es), zU s most Es, cells b (pre ++ uPt pp :: .bool bh :: .slice p fs.length c :: .int .i64 (x : Nat) :: .int .u64 ((key (rls Es) x) : Nat) :: suf) bt, sl p c 137 8 fs.length (qAc (rls Es) fs)]
   (fun v Q => v = .tuple #[] ∧ Q = [cells pp [uPt s, uPt tb] 57, tabP tb s (rls Es), zU s most Es, cells b (pre ++ uPt pp :: .bool bh :: .slice p (upF (rls Es) lv x fs).2.length c :: .int .i64 ((upF (rls Es) lv x fs).1 : Nat) :: .int .u64 ((key (rls Es) (upF (rls Es) lv x fs).1) : Nat) :: suf) bt, sl p c 137 8 (upF (rls Es) lv x fs).2.length (qAc (rls Es) (upF (rls Es) lv x fs).2)]) := by
 refine qAy (p := zU s most Es) uK (fun _ h => qAb h) (fun hsay => ?_)
 have hw := hsay.1
 have hL : (rls Es).length ≤ 1048576 := by have := hsay.2.2; rw [zT]; unfold qAw at this; omega
 have hfl := he.pl hw hL hs
 refine qAy (p := sl p c 137 8 fs.length (qAc (rls Es) fs)) uK (fun _ h => qKa h) ?_
 rintro ⟨hcap, -, -⟩
 refine zR (hE.fn Tryd.func50) rfl rfl rfl (fun R => ?_)
 simp only [qAo, uV, uW]
 refine qN (qL (uM rfl (uM rfl (uX (qEs hE hfl) rfl ?_))))
 rintro v _ ⟨⟨o, ho, hv⟩, rfl⟩
 simp only [uV, uW]
 refine uA rfl (qO (qM ?_))
 cases o with
 | none =>
  obtain rfl : v = .pointer none := hv
  have e : upF (rls Es) lv x fs = (x, fs) := by
   rcases List.eq_nil_or_concat fs with rfl | ⟨gs, f, rfl⟩
   ·rfl
   rw [List.concat_eq_append] at *
   rw [qDx, if_neg (fun h => ho f gs rfl h.1)]
  rw [e]
  refine qN (qN ?_)
  refine uH ([]) ?_
  refine uD 0 rfl (qE rfl) ?_
  refine uD 1 rfl (qDy rfl (hE.t rfl)) ?_
  refine uD 2 rfl (qE rfl) ?_
  refine uR 3 rfl rfl rfl rfl ?_
  refine uR 4 rfl rfl rfl rfl ?_
  refine uR 5 rfl rfl rfl rfl ?_
  refine uR 6 rfl rfl rfl rfl ?_
  refine uR 7 rfl rfl rfl rfl ?_
  refine uR 8 rfl rfl rfl rfl ?_
  refine uR 9 rfl rfl rfl rfl ?_
  refine uR 10 rfl rfl rfl rfl ?_
  refine uR 11 rfl rfl rfl rfl ?_
  refine uR 12 rfl rfl rfl rfl ?_
  refine uD 13 rfl (zA rfl rfl) ?_
  refine qGy (by kernel_rfl) ?_
  refine qM (zI rfl (kE (qZ ?_)))
  exact uZ rfl .nil ⟨rfl, rfl⟩
 | some f =>
  obtain ⟨gs, g, rfl, rfl, rfl⟩ := hv
  have hx : x ≠ 0 := fun h0 => by subst h0; have := he.zero; simp at this
  obtain ⟨h1, h2, h3, h4⟩ := he.low hx
  obtain ⟨r, l1, l2, l3, l4, l5, l6, ex⟩ := h2.inv
  have okf := l1.ok hw hs
  have hwl := qXt hw l2 l3
  have er := qBo l3
  rw [List.length_append, List.length_singleton] at *
  rw [qCq]
  refine qN (qN ?_)
  refine uH ([sl (some ⟨g, 0, none⟩) c 137 8 (gs.length + 1) (qAc (rls Es) gs ++ .int .i64 (f.id : Nat) :: .int .i64 (Rl.kind (rlAt (rls Es) f.id) : Nat) :: .int .u8 (Rl.byte (rlAt (rls Es) f.id) : Nat) :: .int .i64 (Rl.left (rlAt (rls Es) f.id) : Nat) :: .int .i64 (Rl.right (rlAt (rls Es) f.id) : Nat) :: .int .i64 (Rl.times (rlAt (rls Es) f.id) : Nat) :: .int .i64 (lvl (rls Es) f.id) :: .int .i64 (f.hv : Nat) :: [])]) ?_
  refine uD 0 rfl (qE rfl) ?_
  refine uD 1 rfl (qBa rfl (hE.t rfl)) ?_
  refine uD 2 rfl (qE rfl) ?_
  refine uO 3 rfl rfl rfl (qE rfl) ?_
  refine uO 4 rfl rfl rfl (zD rfl) ?_
  refine uO 5 rfl rfl rfl (uBf rfl) ?_
  apply d_on 6 rfl rfl rfl
  ·(apply qQ rfl (hE.t rfl) rfl; (repeat (first | rfl | assumption | exact ap_0 | exact ap_1 | exact ap_2 | exact ap_3 | exact ap_4 | exact ap_5 | exact ap_6 | exact ap_7 | constructor)); done)
  ·with_reducible (repeat (first | exact qH | apply qI | apply qJ))
  ·kernel_rfl
  ·rfl
  refine uO 7 rfl rfl rfl (qE rfl) ?_
  refine uO 8 rfl rfl rfl (zD rfl) ?_
  refine uO 9 rfl rfl rfl (uBf rfl) ?_
  apply d_on 10 rfl rfl rfl
  ·(apply zY rfl (hE.t rfl) rfl; (repeat (first | rfl | assumption | exact ap_0 | exact ap_1 | exact ap_2 | exact ap_3 | exact ap_4 | exact ap_5 | exact ap_6 | exact ap_7 | constructor)); done)
  ·with_reducible (repeat (first | exact qH | apply qI | apply qJ))
  ·kernel_rfl
  ·rfl
  apply qTc 11 rfl rfl rfl (by kernel_rfl) rfl
  refine uC (qWn hE) rfl ?_
  rintro _ _ ⟨rfl, rfl⟩
  simp only [uV, uW]
  refine uE ?_
  refine uO 12 rfl rfl rfl (y_lt rfl rfl) ?_
  refine uD 13 rfl (zB rfl rfl) ?_
  refine qGy (by kernel_rfl) ?_
  refine qM ?_
  refine zH rfl (fun hlt => ?_) (fun hlt => ?_)
  ·have e : upF (rls Es) lv x (gs ++ [f]) = (x, gs ++ [f]) := by rw [qDx, if_neg (fun h => by omega)]
   rw [e]
   simp only [List.length_append, List.length_singleton]
   rw [qCq]
   refine kE (qZ ?_)
   exact uZ rfl .nil ⟨rfl, rfl⟩
  have e : upF (rls Es) lv x (gs ++ [f]) = (f.id, gs) := by rw [qDx, if_pos ⟨ho.2, by omega⟩]
  rw [e]
  obtain ⟨i, hi⟩ : ∃ i, f.id = i + 1 := ⟨f.id - 1, by omega⟩
  have hil : i < Es.length := by have := okf.2.1; rw [zT] at this; omega
  have hkc := qPa (s := s) (tb := tb) (most := most) hE hB hil
  rw [← hi] at hkc
  refine zF (qM (qN (qL (uM rfl (uM rfl (uB (zD rfl) ?_))))))
  refine uB (uBf rfl) ?_
  apply qD
  ·(apply qQ rfl (hE.t rfl) rfl; (repeat (first | rfl | assumption | exact ap_0 | exact ap_1 | exact ap_2 | exact ap_3 | exact ap_4 | exact ap_5 | exact ap_6 | exact ap_7 | constructor)); done)
  ·rfl
  refine uB (zD rfl) ?_
  refine uB (uBf rfl) ?_
  refine uU ?_
  (apply zO rfl rfl (hE.t rfl) rfl; (focus ((repeat constructor); done)); (focus rfl); (focus (first | exact Nat.le_of_ble_eq_true rfl | (simp only [zS, List.length_append, List.length_cons, List.length_nil]; omega))))
  try simp only [zS, sm_0, sm_1, sm_2, sm_3, sm_4, sm_5, sm_6, sm_7]
  refine qO (qM (qN ?_))
  refine zDb (Ex (fun k => cells b (pre ++ uPt pp :: .bool bh :: .slice (some ⟨g, 0, none⟩) (gs.length + 1) c :: .int .i64 (f.id : Nat) :: .int .u64 (k : Nat) :: suf) bt) :: [cells pp [uPt s, uPt tb] 57]) ?_ ?_
  ·(apply qLm; apply ent; (repeat constructor); done)
  apply zJ 0 rfl
  ·(apply qDl; intro kx; exact qE rfl)
  ·with_reducible (repeat (first | exact qH | apply qI | apply qJ))
  ·kernel_rfl
  ·rfl
  apply zJ 1 rfl
  ·(apply qDl; intro kx; exact qE rfl)
  ·with_reducible (repeat (first | exact qH | apply qI | apply qJ))
  ·kernel_rfl
  ·rfl
  apply zJ 2 rfl
  ·(apply qDl; intro kx; exact zD rfl)
  ·with_reducible (repeat (first | exact qH | apply qI | apply qJ))
  ·kernel_rfl
  ·rfl
  apply zJ 3 rfl
  ·(apply qDl; intro kx; exact uBf rfl)
  ·with_reducible (repeat (first | exact qH | apply qI | apply qJ))
  ·kernel_rfl
  ·rfl
  apply zJ 4 rfl
  ·(apply qDl; intro kx; (apply qQ rfl (hE.t rfl) rfl; (repeat (first | rfl | assumption | exact ap_0 | exact ap_1 | exact ap_2 | exact ap_3 | exact ap_4 | exact ap_5 | exact ap_6 | exact ap_7 | constructor)); done))
  ·with_reducible (repeat (first | exact qH | apply qI | apply qJ))
  ·kernel_rfl
  ·rfl
  apply zJ 6 rfl
  ·(apply qDl; intro kx; exact qE rfl)
  ·with_reducible (repeat (first | exact qH | apply qI | apply qJ))
  ·kernel_rfl
  ·rfl
  apply zJ 7 rfl
  ·(apply qDl; intro kx; exact zD rfl)
  ·with_reducible (repeat (first | exact qH | apply qI | apply qJ))
  ·kernel_rfl
  ·rfl
  apply zJ 8 rfl
  ·(apply qDl; intro kx; exact uBf rfl)
  ·with_reducible (repeat (first | exact qH | apply qI | apply qJ))
  ·kernel_rfl
  ·rfl
  apply zJ 9 rfl
  ·(apply qDl; intro kx; (apply qQ rfl (hE.t rfl) rfl; (repeat (first | rfl | assumption | exact ap_0 | exact ap_1 | exact ap_2 | exact ap_3 | exact ap_4 | exact ap_5 | exact ap_6 | exact ap_7 | constructor)); done))
  ·with_reducible (repeat (first | exact qH | apply qI | apply qJ))
  ·kernel_rfl
  ·rfl
  apply kP 5 rfl (by kernel_rfl) rfl
  refine uC (qMq hE) rfl ?_
  rintro _ _ ⟨rfl, rfl⟩
  simp only [uV, uW]
  refine ⟨by (apply qLm; apply ent; (repeat constructor); done), ?_⟩
  apply kP 10 rfl (by kernel_rfl) rfl
  refine uC (hkc) rfl ?_
  rintro _ _ ⟨rfl, rfl⟩
  simp only [uV, uW]
  refine ⟨by (apply qLm; apply ent; (repeat constructor); done), ?_⟩
  apply zJ 11 rfl
  ·(apply qDl; intro kx; exact qE rfl)
  ·with_reducible (repeat (first | exact qH | apply qI | apply qJ))
  ·kernel_rfl
  ·rfl
  apply zJ 12 rfl
  ·(apply qDl; intro kx; exact qX rfl rfl)
  ·with_reducible (repeat (first | exact qH | apply qI | apply qJ))
  ·kernel_rfl
  ·rfl
  apply zJ 13 rfl
  ·(apply qDl; intro kx; exact qX rfl rfl)
  ·with_reducible (repeat (first | exact qH | apply qI | apply qJ))
  ·kernel_rfl
  ·rfl
  apply zJ 14 rfl
  ·(apply qDl; intro kx; exact zD rfl)
  ·with_reducible (repeat (first | exact qH | apply qI | apply qJ))
  ·kernel_rfl
  ·rfl
  apply zJ 15 rfl
  ·(apply qDl; intro kx; exact uBf rfl)
  ·with_reducible (repeat (first | exact qH | apply qI | apply qJ))
  ·kernel_rfl
  ·rfl
  apply kP 16 rfl (by kernel_rfl) rfl
  (apply zO rfl rfl (hE.t rfl) rfl; (focus ((repeat constructor); done)); (focus rfl); (focus (first | exact Nat.le_of_ble_eq_true rfl | (simp only [zS, List.length_append, List.length_cons, List.length_nil]; omega))))
  try simp only [zS, sm_0, sm_1, sm_2, sm_3, sm_4, sm_5, sm_6, sm_7]
  refine ⟨by (apply qLm; apply ent; (repeat constructor); done), ?_⟩
  refine qGy (by kernel_rfl) ?_
  refine qM ?_
  refine qCo (by kernel_rfl) ?_
  refine uM rfl (uM rfl (uB (zD rfl) ?_))
  refine uB (uBf rfl) ?_
  apply qD
  ·(apply qQ rfl (hE.t rfl) rfl; (repeat (first | rfl | assumption | exact ap_0 | exact ap_1 | exact ap_2 | exact ap_3 | exact ap_4 | exact ap_5 | exact ap_6 | exact ap_7 | constructor)); done)
  ·rfl
  refine uM rfl (uB (zD rfl) ?_)
  refine uB (uBf rfl) ?_
  apply qD
  ·(apply qQ rfl (hE.t rfl) rfl; (repeat (first | rfl | assumption | exact ap_0 | exact ap_1 | exact ap_2 | exact ap_3 | exact ap_4 | exact ap_5 | exact ap_6 | exact ap_7 | constructor)); done)
  ·rfl
  refine uB (uBl rfl) ?_
  refine uB (uAs rfl rfl) ?_
  refine l_eq 55 (.int .i64 (gs.length : Nat)) rfl (zZ (by omega)) ?_
  refine uB (qBs _ rfl rfl (hE.t rfl) rfl (by omega)) ?_
  refine uB (zD rfl) ?_
  refine uB (uBf rfl) ?_
  refine uU ?_
  (apply zO rfl rfl (hE.t rfl) rfl; (focus ((repeat constructor); done)); (focus rfl); (focus (first | exact Nat.le_of_ble_eq_true rfl | (simp only [zS, List.length_append, List.length_cons, List.length_nil]; omega))))
  try simp only [zS, sm_0, sm_1, sm_2, sm_3, sm_4, sm_5, sm_6, sm_7]
  refine qO ?_
  apply qLt
  ·rfl
  ·(exact Rs.nil)
  ·exact ⟨rfl, rfl⟩
  refine kH (kG (p := sl (some ⟨g, 0, none⟩) c 137 8 (gs.length + 1) (qAc (rls Es) gs ++ .int .i64 (f.id : Nat) :: .int .i64 (Rl.kind (rlAt (rls Es) f.id) : Nat) :: .int .u8 (Rl.byte (rlAt (rls Es) f.id) : Nat) :: .int .i64 (Rl.left (rlAt (rls Es) f.id) : Nat) :: .int .i64 (Rl.right (rlAt (rls Es) f.id) : Nat) :: .int .i64 (Rl.times (rlAt (rls Es) f.id) : Nat) :: .int .i64 (lvl (rls Es) f.id) :: .int .i64 (f.hv : Nat) :: [])) (p' := sl (some ⟨g, 0, none⟩) c 137 8 gs.length (qAc (rls Es) gs)) uK (qIj (by omega) (by rw [← qFl (rls Es) gs, List.take_left']; rfl) (by simp))) ?_
  exact uI
end
section
variable {E : Env} {Es : List Ent} {pp tb s most : Nat}
def DpPost (pp s tb most : Nat) (Es : List Ent) (b : Nat) (pre suf : List Value) (bt : TypeId) (bh : Bool) (l t : Nat) (fs : List Fm) (v : Value) (Q : List HP) : Prop := ∃ x' gs p' c', v = .tuple #[] ∧ Dp (rls Es) bh l t fs x' gs ∧ Q = [cells pp [uPt s, uPt tb] 57, tabP tb s (rls Es), zU s most Es, cells b (pre ++ uPt pp :: .bool bh :: .slice p' gs.length c' :: .int .i64 (x' : Nat) :: .int .u64 ((key (rls Es) x') : Nat) :: suf) bt, sl p' c' 137 8 gs.length (qAc (rls Es) gs)]
structure DpG where
 y : Nat
 t : Nat
 gs : List Fm
theorem qDd (hE : Seat E) (hB : Base E.w0) {b c x k l t root : Nat} {pre suf : List Value} {bt : TypeId} {p : Option Addr} {bh : Bool} {fs : List Fm} (hs : Sig (rls Es) root) (hk : Lk (rls Es) bh root x fs) (hd : Drp (rls Es) t fs) (hll : l ≤ 1099511627776) :
  Ct E 85 [.pointer (some ⟨b, pre.length, none⟩), .int .i64 (t : Nat), .int .i64 (l : Nat)] [cells pp [uPt s, uPt tb] 57, tabP tb s (rls Es), zU s most Es, cells b (pre ++ uPt pp :: .bool bh :: .slice p fs.length c :: .int .i64 (x : Nat) :: .int .u64 (k : Nat) :: suf) bt, sl p c 137 8 fs.length (qAc (rls Es) fs)] (DpPost pp s tb most Es b pre suf bt bh l t fs) := by
 refine qAy (p := zU s most Es) uK (fun _ h => qAb h) (fun hsay => ?_)
 have hw := hsay.1
 have hL : (rls Es).length ≤ 1048576 := by have := hsay.2.2; rw [zT]; unfold qAw at this; omega
 refine qAy (p := sl p c 137 8 fs.length (qAc (rls Es) fs)) uK (fun _ h => qKa h) ?_
 rintro ⟨hcap, -, -⟩
 refine zR (hE.fn Tryd.func85) rfl rfl rfl (fun R => ?_)
 simp only [qAo, uV, uW]
 refine qN (qL (uM rfl (uM rfl (uB (zD rfl) ?_))))
 refine uB (uBf rfl) ?_
 refine uU ?_
 (apply zO rfl rfl (hE.t rfl) rfl; (focus ((repeat constructor); done)); (focus rfl); (focus (first | exact Nat.le_of_ble_eq_true rfl | (simp only [zS, List.length_append, List.length_cons, List.length_nil]; omega))))
 try simp only [zS, sm_0, sm_1, sm_2, sm_3, sm_4, sm_5, sm_6, sm_7]
 refine uB (zD rfl) ?_
 refine uB (uBf rfl) ?_
 refine uU ?_
 (apply zO rfl rfl (hE.t rfl) rfl; (focus ((repeat constructor); done)); (focus rfl); (focus (first | exact Nat.le_of_ble_eq_true rfl | (simp only [zS, List.length_append, List.length_cons, List.length_nil]; omega))))
 try simp only [zS, sm_0, sm_1, sm_2, sm_3, sm_4, sm_5, sm_6, sm_7]
 refine qO (qM (qN (qL (uM rfl (uB (zD rfl) ?_)))))
 refine uB (uBf rfl) ?_
 apply qD
 ·(apply qQ rfl (hE.t rfl) rfl; (repeat (first | rfl | assumption | exact ap_0 | exact ap_1 | exact ap_2 | exact ap_3 | exact ap_4 | exact ap_5 | exact ap_6 | exact ap_7 | constructor)); done)
 ·rfl
 refine uB (uBl rfl) ?_
 refine uA rfl (qO (qM (zN ?_)))
 refine qDb (fun y : DpG => [(0, .pointer (some ⟨b, pre.length, none⟩)), (1, .int .i64 (y.t : Nat)), (2, .int .i64 (l : Nat)), (6, .int .i64 (y.gs.length : Nat))]) (fun y => [cells pp [uPt s, uPt tb] 57, tabP tb s (rls Es), zU s most Es, cells b (pre ++ uPt pp :: .bool bh :: .slice p y.gs.length c :: .int .i64 (0 : Nat) :: .int .u64 (0 : Nat) :: suf) bt, sl p c 137 8 y.gs.length (qAc (rls Es) y.gs), R]) (fun y => y.gs.length) (fun y => Lk (rls Es) bh root y.y y.gs ∧ Drp (rls Es) y.t y.gs ∧ y.gs.length ≤ c ∧ ∀ x' gs, Dp (rls Es) bh l y.t y.gs x' gs → Dp (rls Es) bh l t fs x' gs) ⟨x, t, fs⟩ ?_ ?_ ?_ ?_
 ·exact ⟨hk, hd, hcap, fun _ _ h => h⟩
 ·exact ⟨rfl, rfl, rfl, rfl, trivial⟩
 ·exact uI
 rintro ⟨y, t', gs⟩ ⟨h1, h2, h3, h4⟩
 simp only at h1 h2 h3 h4 ⊢
 have hgl := h1.short' hw hs hL
 rcases List.eq_nil_or_concat gs with rfl | ⟨gs, f, rfl⟩
 ·refine qN (qN (qL ?_))
  refine uM rfl (uB (y_gt rfl rfl) ?_)
  refine qO (qM ?_)
  refine zH rfl (fun h => ?_) (fun h => ?_)
  ·exfalso; simp at h
  refine kM (qU (qU (zK ?_)))
  exact uZe rfl .nil ⟨0, [], p, c, rfl, h4 0 [] .nil, rfl⟩
 rw [List.concat_eq_append] at *
 obtain ⟨r, l1, l2, l3, l4, l5, l6, ex⟩ := h1.inv
 have hwl := qXt hw l2 l3
 have er := qBo l3
 have hnl : ∀ b, rlAt (rls Es) f.id ≠ .letter b := by rw [er]; exact l4
 have hpl := qFl (rls Es) gs
 obtain ⟨d1, _, d2⟩ := h2
 obtain ⟨d3, d4⟩ := d2 gs f rfl
 rw [List.length_append, List.length_singleton] at *
 rw [qCq]
 have hgc : gs.length ≤ c := by omega
 refine qFd (p := sl p c 137 8 (gs.length + 1) (qAc (rls Es) gs ++ .int .i64 (f.id : Nat) :: .int .i64 (Rl.kind (rlAt (rls Es) f.id) : Nat) :: .int .u8 (Rl.byte (rlAt (rls Es) f.id) : Nat) :: .int .i64 (Rl.left (rlAt (rls Es) f.id) : Nat) :: .int .i64 (Rl.right (rlAt (rls Es) f.id) : Nat) :: .int .i64 (Rl.times (rlAt (rls Es) f.id) : Nat) :: .int .i64 (lvl (rls Es) f.id) :: .int .i64 (f.hv : Nat) :: [])) uK (fun _ h => qCc h (by omega)) ?_
 rintro ⟨g, rfl⟩
 refine qN (qN (qL (uM rfl (uB (y_gt rfl rfl) ?_))))
 refine qO (qM ?_)
 refine zH rfl (fun h => ?_) (fun h => ?_)
 ·refine zF (qM (qN (zN (qN (qL ?_)))))
  refine uM rfl (uB (zD rfl) ?_)
  refine uB (uBf rfl) ?_
  apply qD
  ·(apply qQ rfl (hE.t rfl) rfl; (repeat (first | rfl | assumption | exact ap_0 | exact ap_1 | exact ap_2 | exact ap_3 | exact ap_4 | exact ap_5 | exact ap_6 | exact ap_7 | constructor)); done)
  ·rfl
  refine uM rfl (uB (uAs rfl rfl) ?_)
  refine uB (uAi rfl rfl) ?_
  refine l_eq 32 _ rfl (qRc (L := rls Es)) ?_
  refine uA rfl (qO (qM (qN (qL (uM rfl (uB (zD rfl) ?_))))))
  refine uB (uBf rfl) ?_
  apply qD
  ·(apply qQ rfl (hE.t rfl) rfl; (repeat (first | rfl | assumption | exact ap_0 | exact ap_1 | exact ap_2 | exact ap_3 | exact ap_4 | exact ap_5 | exact ap_6 | exact ap_7 | constructor)); done)
  ·rfl
  refine uM rfl (uB (uAs rfl rfl) ?_)
  refine l_eq 38 (.int .i64 ((f.hv - t' : Nat) : Int)) rfl (zZ (by omega)) ?_
  refine uB (zD rfl) ?_
  refine uB (uBf rfl) ?_
  refine uU (uJ ?_)
  try simp only [zS, sm_0, sm_1, sm_2, sm_3, sm_4, sm_5, sm_6, sm_7]
  refine qO (qM (qN (qN (qL (uM rfl (uB (zD rfl) ?_))))))
  refine uB (uBf rfl) ?_
  apply qD
  ·(apply qQ rfl (hE.t rfl) rfl; (repeat (first | rfl | assumption | exact ap_0 | exact ap_1 | exact ap_2 | exact ap_3 | exact ap_4 | exact ap_5 | exact ap_6 | exact ap_7 | constructor)); done)
  ·rfl
  refine uB (y_gt rfl rfl) ?_
  refine qO (qM ?_)
  refine zH rfl (fun h5 => ?_) (fun h5 => ?_)
  ·have hlt : t' < f.hv := by omega
   have hlk : Lk (rls Es) bh root (qBp bh (f.hv - t') r) (gs ++ [⟨f.id, f.hv - t'⟩]) := .snoc l1 l2 l3 l4 (by omega) (by omega)
   have hdn := zAe (pp := pp) (s := s) (tb := tb) (most := most) (b := b) (c := c) (k := 0) (pre := pre) (suf := suf) (bt := bt) (p := some ⟨g, 0, none⟩) hE hB hs hlk hll
   rw [List.length_append, List.length_singleton, qCq] at hdn
   simp only at hdn
   refine qN ?_
   refine uN 11 ([cells b (pre ++ uPt pp :: .bool bh :: .slice (some ⟨g, 0, none⟩) (gs.length + 1) c :: .int .i64 (0 : Nat) :: .int .u64 (0 : Nat) :: suf) bt, sl (some ⟨g, 0, none⟩) c 137 8 (gs.length + 1) (qAc (rls Es) gs ++ .int .i64 (f.id : Nat) :: .int .i64 (Rl.kind (rlAt (rls Es) f.id) : Nat) :: .int .u8 (Rl.byte (rlAt (rls Es) f.id) : Nat) :: .int .i64 (Rl.left (rlAt (rls Es) f.id) : Nat) :: .int .i64 (Rl.right (rlAt (rls Es) f.id) : Nat) :: .int .i64 (Rl.times (rlAt (rls Es) f.id) : Nat) :: .int .i64 (lvl (rls Es) f.id) :: .int .i64 ((f.hv - t') : Nat) :: [])]) ?_
   refine uT 0 rfl (qE rfl) ?_
   refine uT 1 rfl (qE rfl) ?_
   refine uT 2 rfl (zD rfl) ?_
   apply kD 3 rfl
   ·(apply zY rfl (hE.t rfl) rfl; (repeat (first | rfl | assumption | exact ap_0 | exact ap_1 | exact ap_2 | exact ap_3 | exact ap_4 | exact ap_5 | exact ap_6 | exact ap_7 | constructor)); done)
   ·with_reducible (repeat (first | exact qH | apply qI | apply qJ))
   ·kernel_rfl
   ·rfl
   apply kN 4 rfl (by kernel_rfl)
   ·exact qE rfl
   ·rfl
   apply kN 5 rfl (by kernel_rfl)
   ·exact zD rfl
   ·rfl
   apply kN 6 rfl (by kernel_rfl)
   ·exact uBf rfl
   ·rfl
   apply kN 7 rfl (by kernel_rfl)
   ·(apply qQ rfl (hE.t rfl) rfl; (repeat (first | rfl | assumption | exact ap_0 | exact ap_1 | exact ap_2 | exact ap_3 | exact ap_4 | exact ap_5 | exact ap_6 | exact ap_7 | constructor)); done)
   ·rfl
   apply qAg 8 rfl (by kernel_rfl) rfl
   refine uC (qWi (r := rlAt (rls Es) f.id) hE hnl) rfl ?_
   rw [er]
   rintro _ _ ⟨rfl, rfl⟩
   simp only [uV, uW]
   refine uE ?_
   apply kN 9 rfl (by kernel_rfl)
   ·exact zD rfl
   ·rfl
   apply kN 10 rfl (by kernel_rfl)
   ·exact uBf rfl
   ·rfl
   apply qBt rfl (by kernel_rfl) (by kernel_rfl) rfl
   (apply zO rfl rfl (hE.t rfl) rfl; (focus ((repeat constructor); done)); (focus rfl); (focus (first | exact Nat.le_of_ble_eq_true rfl | (simp only [zS, List.length_append, List.length_cons, List.length_nil]; omega))))
   try simp only [zS, sm_0, sm_1, sm_2, sm_3, sm_4, sm_5, sm_6, sm_7]
   refine qM ?_
   rw [← er] at hdn ⊢
   refine qN (qL (uM rfl (uM rfl (uX (hdn) rfl ?_))))
   rintro _ _ ⟨x', gs', p', c', rfl, q1, q2, rfl⟩
   simp only [uV, uW]
   refine qO (qM (kE (qZ (zQ (qZ (qZ (zQ ?_)))))))
   exact uZ rfl .nil ⟨x', gs', p', c', rfl, h4 x' gs' (.last hlt q1 q2), rfl⟩
  refine zF (qM ?_)
  refine qN (qL (uM rfl (uM rfl (uB (zD rfl) ?_))))
  refine uB (uBf rfl) ?_
  apply qD
  ·(apply qQ rfl (hE.t rfl) rfl; (repeat (first | rfl | assumption | exact ap_0 | exact ap_1 | exact ap_2 | exact ap_3 | exact ap_4 | exact ap_5 | exact ap_6 | exact ap_7 | constructor)); done)
  ·rfl
  refine uM rfl (uB (uAs rfl rfl) ?_)
  refine l_eq 66 (.int .i64 (gs.length : Nat)) rfl (zZ (by omega)) ?_
  refine uB (qBs _ rfl rfl (hE.t rfl) rfl (by omega)) ?_
  refine uB (zD rfl) ?_
  refine uB (uBf rfl) ?_
  refine uU ?_
  (apply zO rfl rfl (hE.t rfl) rfl; (focus ((repeat constructor); done)); (focus rfl); (focus (first | exact Nat.le_of_ble_eq_true rfl | (simp only [zS, List.length_append, List.length_cons, List.length_nil]; omega))))
  try simp only [zS, sm_0, sm_1, sm_2, sm_3, sm_4, sm_5, sm_6, sm_7]
  refine qO (qM (qL (uA rfl (qO (zL (qM (qL (uM rfl (uB (zD rfl) ?_)))))))))
  refine uB (uBf rfl) ?_
  apply qD
  ·(apply qQ rfl (hE.t rfl) rfl; (repeat (first | rfl | assumption | exact ap_0 | exact ap_1 | exact ap_2 | exact ap_3 | exact ap_4 | exact ap_5 | exact ap_6 | exact ap_7 | constructor)); done)
  ·rfl
  refine uB (uBl rfl) ?_
  refine uA rfl (qO ?_)
  have okf := l1.ok hw hs
  refine zV (ι := DpG) (j := ⟨f.id, 1, gs⟩) ⟨l1, ⟨Nat.le_refl _, fun _ => rfl, fun g2 f2 e => ⟨by subst e; obtain ⟨_, _, _, _, _, q, _, _⟩ := l1.inv; exact q, .inl rfl⟩⟩, hgc, fun x' gs' h => h4 x' gs' (.pop (by omega) h)⟩ (by show gs.length < gs.length + 1; omega) ⟨rfl, rfl, rfl, rfl, trivial⟩ ?_
  refine kH (kG (p := sl (some ⟨g, 0, none⟩) c 137 8 (gs.length + 1) (qAc (rls Es) gs ++ .int .i64 (f.id : Nat) :: .int .i64 (Rl.kind (rlAt (rls Es) f.id) : Nat) :: .int .u8 (Rl.byte (rlAt (rls Es) f.id) : Nat) :: .int .i64 (Rl.left (rlAt (rls Es) f.id) : Nat) :: .int .i64 (Rl.right (rlAt (rls Es) f.id) : Nat) :: .int .i64 (Rl.times (rlAt (rls Es) f.id) : Nat) :: .int .i64 (lvl (rls Es) f.id) :: .int .i64 ((f.hv - t') : Nat) :: [])) (p' := sl (some ⟨g, 0, none⟩) c 137 8 gs.length (qAc (rls Es) gs)) uK (qIj (by omega) (by rw [← qFl (rls Es) gs, List.take_left']; rfl) (by simp))) ?_
  exact uI
 exfalso; omega
end
end Go.Proofs.YtlleicanafioaaaDoor
