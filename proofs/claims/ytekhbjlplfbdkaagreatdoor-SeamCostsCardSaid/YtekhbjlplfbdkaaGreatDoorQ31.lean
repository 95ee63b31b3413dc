/- Package seam: the end: whole, child, open. -/
import Derived.Test.YtekhbjlplfbdkaaGreatDoorQ07
import Derived.Test.YtekhbjlplfbdkaaGreatDoorQ09
import Derived.Test.YtekhbjlplfbdkaaGreatDoorQ13
import Derived.Test.YtekhbjlplfbdkaaGreatDoorQ30
set_option linter.unusedVariables false
set_option linter.unusedSimpArgs false
namespace Sl
open Go Go.RowKit
section
variable {α : Type} {pre r : List α} {x0 x1 x2 x3 x4 x5 x6 x7 : α}
theorem ap_0 : (pre ++ x0 :: r)[pre.length]? = some x0 := by simp
theorem ap_1 : (pre ++ x0 :: x1 :: r)[pre.length + 1]? = some x1 := by simp
theorem ap_2 : (pre ++ x0 :: x1 :: x2 :: r)[pre.length + 2]? = some x2 := by simp
theorem ap_3 : (pre ++ x0 :: x1 :: x2 :: x3 :: r)[pre.length + 3]? = some x3 := by simp
theorem ap_4 : (pre ++ x0 :: x1 :: x2 :: x3 :: x4 :: r)[pre.length + 4]? = some x4 := by simp
theorem ap_5 : (pre ++ x0 :: x1 :: x2 :: x3 :: x4 :: x5 :: r)[pre.length + 5]? = some x5 := by simp
theorem ap_6 : (pre ++ x0 :: x1 :: x2 :: x3 :: x4 :: x5 :: x6 :: r)[pre.length + 6]? = some x6 := by simp
theorem ap_7 : (pre ++ x0 :: x1 :: x2 :: x3 :: x4 :: x5 :: x6 :: x7 :: r)[pre.length + 7]? = some x7 := by simp
end
section
variable {pre r : List Value} {x0 x1 x2 x3 x4 x5 x6 x7 v : Value}
theorem sm_0 : setMany (pre ++ x0 :: r) pre.length [v] = pre ++ v :: r := by simp [setMany]
theorem sm_1 : setMany (pre ++ x0 :: x1 :: r) (pre.length + 1) [v] = pre ++ x0 :: v :: r := by simp [setMany]
theorem sm_2 : setMany (pre ++ x0 :: x1 :: x2 :: r) (pre.length + 2) [v] = pre ++ x0 :: x1 :: v :: r := by simp [setMany]
theorem sm_3 : setMany (pre ++ x0 :: x1 :: x2 :: x3 :: r) (pre.length + 3) [v] = pre ++ x0 :: x1 :: x2 :: v :: r := by simp [setMany]
theorem sm_4 : setMany (pre ++ x0 :: x1 :: x2 :: x3 :: x4 :: r) (pre.length + 4) [v] = pre ++ x0 :: x1 :: x2 :: x3 :: v :: r := by simp [setMany]
theorem sm_5 : setMany (pre ++ x0 :: x1 :: x2 :: x3 :: x4 :: x5 :: r) (pre.length + 5) [v] = pre ++ x0 :: x1 :: x2 :: x3 :: x4 :: v :: r := by simp [setMany]
theorem sm_6 : setMany (pre ++ x0 :: x1 :: x2 :: x3 :: x4 :: x5 :: x6 :: r) (pre.length + 6) [v] = pre ++ x0 :: x1 :: x2 :: x3 :: x4 :: x5 :: v :: r := by simp [setMany]
theorem sm_7 : setMany (pre ++ x0 :: x1 :: x2 :: x3 :: x4 :: x5 :: x6 :: x7 :: r) (pre.length + 7) [v] = pre ++ x0 :: x1 :: x2 :: x3 :: x4 :: x5 :: x6 :: v :: r := by simp [setMany]
end
section
variable {E : Env} {n : Nat} {L : Fr} {S l : List HP} {o : Oper} {v : Value} {ι : Type} {f : ι → HP}
def Ex (f : ι → HP) : HP := fun h => ∃ i, f i h
theorem ent_ex (i : ι) (h : ∀ k, stars l k → stars (f i :: S) k) : ∀ k, stars l k → stars (Ex f :: S) k := fun k x => stars_head (fun _ y => ⟨i, y⟩) (h k x)
theorem yl_ex (h : ∀ i, Yl E n L (f i :: S) o v) : Yl E n L (Ex f :: S) o v := fun a w g s => by
  obtain ⟨h1, h2, d, e, ⟨i, hp⟩, hq⟩ := s.hp
  exact h i a w g ⟨s.os, s.tape, s.output, s.size, s.old, ⟨h1, h2, d, e, hp, hq⟩⟩
end
end Sl
namespace Go.Proofs.YtekhbjlplfbdkaaGreatDoor
open Go Go.RowKit Sl Eg
set_option maxRecDepth 10000
variable {E : Env} {Es : List Ent} {pp tb s most : Nat}
def fmC (L : List Rl) (f : Fm) : List Value := [.int .i64 (f.id : Nat), .int .i64 (Rl.kind (rlAt L f.id) : Nat), .int .u8 (Rl.byte (rlAt L f.id) : Nat), .int .i64 (Rl.left (rlAt L f.id) : Nat), .int .i64 (Rl.right (rlAt L f.id) : Nat), .int .i64 (Rl.times (rlAt L f.id) : Nat), .int .i64 (lvl L f.id), .int .i64 (f.hv : Nat)]
def pathC (L : List Rl) (fs : List Fm) : List Value := fs.flatMap (fmC L)
theorem pathC_nil (L : List Rl) : pathC L [] = [] := rfl
theorem pathC_snoc (L : List Rl) (fs : List Fm) (f : Fm) : pathC L (fs ++ [f]) = pathC L fs ++ .int .i64 (f.id : Nat) :: .int .i64 (Rl.kind (rlAt L f.id) : Nat) :: .int .u8 (Rl.byte (rlAt L f.id) : Nat) :: .int .i64 (Rl.left (rlAt L f.id) : Nat) :: .int .i64 (Rl.right (rlAt L f.id) : Nat) :: .int .i64 (Rl.times (rlAt L f.id) : Nat) :: .int .i64 (lvl L f.id) :: .int .i64 (f.hv : Nat) :: [] := by
  simp [pathC, fmC]
theorem pathC_length (L : List Rl) (fs : List Fm) : (pathC L fs).length = fs.length * 8 := by
  induction fs with
  | nil => rfl
  | cons f fs ih =>
    have e : (pathC L (f :: fs)).length = 8 + (pathC L fs).length := by simp [pathC, fmC]; omega
    rw [e, ih, List.length_cons]; omega
theorem rlAt_ext {L : List Rl} (M : List Rl) {x : Nat} (h1 : 1 ≤ x) (h : x ≤ L.length) : rlAt (L ++ M) x = rlAt L x := by
  unfold rlAt
  rw [List.getElem?_append_left (by omega)]
theorem pathC_ext {L : List Rl} (M : List Rl) {fs : List Fm} (h : ∀ f ∈ fs, 1 ≤ f.id ∧ f.id ≤ L.length) : pathC (L ++ M) fs = pathC L fs := by
  induction fs with
  | nil => rfl
  | cons f fs ih =>
    have e : ∀ K, pathC K (f :: fs) = fmC K f ++ pathC K fs := fun K => by simp [pathC]
    rw [e, e, ih fun g hg => h g (by simp [hg])]
    have hf := h f (by simp)
    unfold fmC
    rw [rlAt_ext M hf.1 hf.2, lvl_ext M hf.2]
theorem ct_whole (hE : Seat E) {r : Rl} : Ct E 92 [.agg #[.int .i64 (Rl.kind (r) : Nat), .int .u8 (Rl.byte (r) : Nat), .int .i64 (Rl.left (r) : Nat), .int .i64 (Rl.right (r) : Nat), .int .i64 (Rl.times (r) : Nat)]] [] (fun v Q => v = .int .i64 (wholeR r : Nat) ∧ Q = []) := by
  refine fn_enter (hE.fn Tryz.func92) rfl rfl rfl (fun R => ?_)
  simp only [argsL, List.cons_append, List.nil_append]
  refine w_seq (wR ?_)
  apply lL (by kernel_rfl) rfl
  refine ld_box rfl (fun b1 => ?_)
  refine lY (yA rfl) rfl ?_
  refine l_nil (aT (w_seq (w_seq (wR ?_))))
  refine lY (yF rfl (hE.t rfl) rfl) rfl ?_
  apply lY
  · (apply y_load rfl (hE.t rfl) rfl; (repeat (first | rfl | assumption | constructor)); done)
  · rfl
  refine lY (y_eq rfl rfl) rfl ?_
  refine l_nil (aT ?_)
  refine w_cond_d rfl (fun h => ?_) (fun h => ?_)
  · skip
    obtain ⟨y, k, rfl⟩ : ∃ y k, r = .power y k := by
      cases r with
      | letter b => simp [Rl.kind] at h
      | pair a b => simp [Rl.kind] at h
      | power y k => exact ⟨y, k, rfl⟩
    refine w_seq (wR ?_)
    refine lY (yF rfl (hE.t rfl) rfl) rfl ?_
    apply lY
    · (apply y_load rfl (hE.t rfl) rfl; (repeat (first | rfl | assumption | constructor)); done)
    · rfl
    refine lY (yA rfl) rfl ?_
    refine l_nil (aT (w_ret (a_then_ret ?_)))
    apply a_ret
    · rfl
    · (apply Rs.tmp rfl; exact Rs.nil)
    · exact ⟨rfl, rfl⟩
    · (apply ent; (repeat constructor); done)
  · skip
    have hw : wholeR r = 2 := by
      cases r with
      | letter b => rfl
      | pair a b => rfl
      | power y k => simp [Rl.kind] at h
    rw [hw]
    refine w_skip (aT (w_seq (wR ?_)))
    refine lY (yA rfl) rfl ?_
    refine l_nil (aT (w_ret ?_))
    apply a_ret
    · rfl
    · (apply Rs.tmp rfl; exact Rs.nil)
    · exact ⟨rfl, rfl⟩
    · (apply ent; (repeat constructor); done)
theorem ct_child (hE : Seat E) {r : Rl} {x hv : Nat} {l : Int} {bh : Bool} (hn : ∀ b, r ≠ .letter b) : Ct E 84 [.agg #[.int .i64 (x : Nat), .int .i64 (Rl.kind (r) : Nat), .int .u8 (Rl.byte (r) : Nat), .int .i64 (Rl.left (r) : Nat), .int .i64 (Rl.right (r) : Nat), .int .i64 (Rl.times (r) : Nat), .int .i64 l, .int .i64 (hv : Nat)], .bool bh] [] (fun v Q => v = .int .i64 (childR bh hv r : Nat) ∧ Q = []) := by
  cases r with
  | letter b => exact absurd rfl (hn b)
  | power y k =>
    refine fn_enter (hE.fn Tryz.func84) rfl rfl rfl (fun R => ?_)
    simp only [argsL, List.cons_append, List.nil_append]
    refine w_seq (wR ?_)
    apply lL (by kernel_rfl) rfl
    refine ld_box rfl (fun b2 => ?_)
    refine lY (yA rfl) rfl ?_
    refine l_nil (aT (w_seq (w_seq (wR ?_))))
    refine lY (yF rfl (hE.t rfl) rfl) rfl ?_
    refine lY (yF rfl (hE.t rfl) rfl) rfl ?_
    apply lY
    · (apply y_load rfl (hE.t rfl) rfl; (repeat (first | rfl | assumption | constructor)); done)
    · rfl
    refine lY (y_eq rfl rfl) rfl ?_
    refine lY (yM rfl) rfl ?_
    refine l_eq 8 (.bool false) rfl (by simp [Rl.kind]) ?_
    skip
    skip
    refine l_off rfl rfl rfl rfl (l_off rfl rfl rfl rfl (l_off rfl rfl rfl rfl ?_))
    apply lY
    · (first | exact y_pick_t rfl rfl | exact y_pick_f rfl rfl)
    · rfl
    refine lY (yM rfl) rfl ?_
    skip
    refine l_off rfl rfl rfl rfl (l_off rfl rfl rfl rfl ?_)
    apply lY
    · (first | exact y_pick_t rfl rfl | exact y_pick_f rfl rfl)
    · rfl
    refine l_nil (aT ?_)
    refine w_cond_f rfl ?_
    refine w_skip (aT (w_seq (w_seq (wR ?_))))
    refine lY (yF rfl (hE.t rfl) rfl) rfl ?_
    refine lY (yF rfl (hE.t rfl) rfl) rfl ?_
    apply lY
    · (apply y_load rfl (hE.t rfl) rfl; (repeat (first | rfl | assumption | constructor)); done)
    · rfl
    refine lY (y_eq rfl rfl) rfl ?_
    refine lY (yM rfl) rfl ?_
    refine l_eq 24 (.bool false) rfl (by simp [Rl.kind]) ?_
    skip
    skip
    refine l_off rfl rfl rfl rfl (l_off rfl rfl rfl rfl (l_off rfl rfl rfl rfl ?_))
    apply lY
    · (first | exact y_pick_t rfl rfl | exact y_pick_f rfl rfl)
    · rfl
    refine lY (yM rfl) rfl ?_
    skip
    refine l_off rfl rfl rfl rfl ?_
    apply lY
    · (first | exact y_pick_t rfl rfl | exact y_pick_f rfl rfl)
    · rfl
    refine l_nil (aT ?_)
    refine w_cond_f rfl ?_
    refine w_skip (aT (w_seq (wR ?_)))
    refine lY (yF rfl (hE.t rfl) rfl) rfl ?_
    refine lY (yF rfl (hE.t rfl) rfl) rfl ?_
    apply lY
    · (apply y_load rfl (hE.t rfl) rfl; (repeat (first | rfl | assumption | constructor)); done)
    · rfl
    refine lY (yA rfl) rfl ?_
    refine l_nil (aT (w_ret ?_))
    apply a_ret
    · rfl
    · (apply Rs.tmp rfl; exact Rs.nil)
    · exact ⟨rfl, rfl⟩
    · (apply ent; (repeat constructor); done)
  | pair a b =>
    refine fn_enter (hE.fn Tryz.func84) rfl rfl rfl (fun R => ?_)
    simp only [argsL, List.cons_append, List.nil_append]
    refine w_seq (wR ?_)
    apply lL (by kernel_rfl) rfl
    refine ld_box rfl (fun b2 => ?_)
    refine lY (yA rfl) rfl ?_
    refine l_nil (aT (w_seq (w_seq (wR ?_))))
    refine lY (yF rfl (hE.t rfl) rfl) rfl ?_
    refine lY (yF rfl (hE.t rfl) rfl) rfl ?_
    apply lY
    · (apply y_load rfl (hE.t rfl) rfl; (repeat (first | rfl | assumption | constructor)); done)
    · rfl
    refine lY (y_eq rfl rfl) rfl ?_
    refine lY (yM rfl) rfl ?_
    refine l_eq 8 (.bool true) rfl (by simp [Rl.kind]) ?_
    skip
    skip
    refine l_on rfl rfl ?_
    refine lY (yF rfl (hE.t rfl) rfl) rfl ?_
    refine l_on rfl rfl ?_
    apply lY
    · (apply y_load rfl (hE.t rfl) rfl; (repeat (first | rfl | assumption | constructor)); done)
    · rfl
    refine l_on rfl rfl ?_
    refine lY (y_eq rfl rfl) rfl ?_
    apply lY
    · (first | exact y_pick_t rfl rfl | exact y_pick_f rfl rfl)
    · rfl
    refine lY (yM rfl) rfl ?_
    refine l_split 14 rfl (fun h2 => ?_) (fun h2 => ?_)
    · skip
      obtain rfl : hv = 2 := by omega
      refine l_on rfl rfl ?_
      refine lY (yM rfl) rfl ?_
      refine l_on rfl rfl ?_
      refine lY (y_not rfl) rfl ?_
      apply lY
      · (first | exact y_pick_t rfl rfl | exact y_pick_f rfl rfl)
      · rfl
      refine l_nil (aT ?_)
      skip
      cases bh with
      | false =>
        refine w_cond_t rfl ?_
        refine w_seq (wR ?_)
        refine lY (yF rfl (hE.t rfl) rfl) rfl ?_
        refine lY (yF rfl (hE.t rfl) rfl) rfl ?_
        apply lY
        · (apply y_load rfl (hE.t rfl) rfl; (repeat (first | rfl | assumption | constructor)); done)
        · rfl
        refine lY (yA rfl) rfl ?_
        refine l_nil (aT (w_ret (a_then_ret ?_)))
        apply a_ret
        · rfl
        · (apply Rs.tmp rfl; exact Rs.nil)
        · exact ⟨rfl, rfl⟩
        · (apply ent; (repeat constructor); done)
      | true =>
        skip
        refine w_cond_f rfl ?_
        refine w_skip (aT (w_seq (w_seq (wR ?_))))
        refine lY (yF rfl (hE.t rfl) rfl) rfl ?_
        refine lY (yF rfl (hE.t rfl) rfl) rfl ?_
        apply lY
        · (apply y_load rfl (hE.t rfl) rfl; (repeat (first | rfl | assumption | constructor)); done)
        · rfl
        refine lY (y_eq rfl rfl) rfl ?_
        refine lY (yM rfl) rfl ?_
        refine l_eq 24 (.bool true) rfl (by simp [Rl.kind]) ?_
        skip
        skip
        refine l_on rfl rfl ?_
        refine lY (yF rfl (hE.t rfl) rfl) rfl ?_
        refine l_on rfl rfl ?_
        apply lY
        · (apply y_load rfl (hE.t rfl) rfl; (repeat (first | rfl | assumption | constructor)); done)
        · rfl
        refine l_on rfl rfl ?_
        refine lY (y_eq rfl rfl) rfl ?_
        apply lY
        · (first | exact y_pick_t rfl rfl | exact y_pick_f rfl rfl)
        · rfl
        refine lY (yM rfl) rfl ?_
        refine l_eq 30 (.bool false) rfl (by simp) ?_
        skip
        skip
        refine l_off rfl rfl rfl rfl ?_
        apply lY
        · (first | exact y_pick_t rfl rfl | exact y_pick_f rfl rfl)
        · rfl
        refine l_nil (aT ?_)
        refine w_cond_f rfl ?_
        refine w_skip (aT (w_seq (wR ?_)))
        refine lY (yF rfl (hE.t rfl) rfl) rfl ?_
        refine lY (yF rfl (hE.t rfl) rfl) rfl ?_
        apply lY
        · (apply y_load rfl (hE.t rfl) rfl; (repeat (first | rfl | assumption | constructor)); done)
        · rfl
        refine lY (yA rfl) rfl ?_
        refine l_nil (aT (w_ret ?_))
        apply a_ret
        · rfl
        · (apply Rs.tmp rfl; exact Rs.nil)
        · exact ⟨rfl, rfl⟩
        · (apply ent; (repeat constructor); done)
    · skip
      refine l_off rfl rfl rfl rfl (l_off rfl rfl rfl rfl ?_)
      apply lY
      · (first | exact y_pick_t rfl rfl | exact y_pick_f rfl rfl)
      · rfl
      refine l_nil (aT ?_)
      refine w_cond_f rfl ?_
      refine w_skip (aT (w_seq (w_seq (wR ?_))))
      refine lY (yF rfl (hE.t rfl) rfl) rfl ?_
      refine lY (yF rfl (hE.t rfl) rfl) rfl ?_
      apply lY
      · (apply y_load rfl (hE.t rfl) rfl; (repeat (first | rfl | assumption | constructor)); done)
      · rfl
      refine lY (y_eq rfl rfl) rfl ?_
      refine lY (yM rfl) rfl ?_
      refine l_eq 24 (.bool true) rfl (by simp [Rl.kind]) ?_
      skip
      skip
      refine l_on rfl rfl ?_
      refine lY (yF rfl (hE.t rfl) rfl) rfl ?_
      refine l_on rfl rfl ?_
      apply lY
      · (apply y_load rfl (hE.t rfl) rfl; (repeat (first | rfl | assumption | constructor)); done)
      · rfl
      refine l_on rfl rfl ?_
      refine lY (y_eq rfl rfl) rfl ?_
      apply lY
      · (first | exact y_pick_t rfl rfl | exact y_pick_f rfl rfl)
      · rfl
      refine lY (yM rfl) rfl ?_
      refine l_split 30 rfl (fun h1 => ?_) (fun h1 => ?_)
      · skip
        obtain rfl : hv = 1 := by omega
        refine l_on rfl rfl ?_
        refine lY (yM rfl) rfl ?_
        apply lY
        · (first | exact y_pick_t rfl rfl | exact y_pick_f rfl rfl)
        · rfl
        refine l_nil (aT ?_)
        skip
        cases bh with
        | true =>
          refine w_cond_t rfl ?_
          refine w_seq (wR ?_)
          refine lY (yF rfl (hE.t rfl) rfl) rfl ?_
          refine lY (yF rfl (hE.t rfl) rfl) rfl ?_
          apply lY
          · (apply y_load rfl (hE.t rfl) rfl; (repeat (first | rfl | assumption | constructor)); done)
          · rfl
          refine lY (yA rfl) rfl ?_
          refine l_nil (aT (w_ret (a_then_ret ?_)))
          apply a_ret
          · rfl
          · (apply Rs.tmp rfl; exact Rs.nil)
          · exact ⟨rfl, rfl⟩
          · (apply ent; (repeat constructor); done)
        | false =>
          skip
          refine w_cond_f rfl ?_
          refine w_skip (aT (w_seq (wR ?_)))
          refine lY (yF rfl (hE.t rfl) rfl) rfl ?_
          refine lY (yF rfl (hE.t rfl) rfl) rfl ?_
          apply lY
          · (apply y_load rfl (hE.t rfl) rfl; (repeat (first | rfl | assumption | constructor)); done)
          · rfl
          refine lY (yA rfl) rfl ?_
          refine l_nil (aT (w_ret ?_))
          apply a_ret
          · rfl
          · (apply Rs.tmp rfl; exact Rs.nil)
          · exact ⟨rfl, rfl⟩
          · (apply ent; (repeat constructor); done)
      · skip
        have e : childR bh hv (.pair a b) = a := by show (if (hv = 2 ∧ bh = false) ∨ (hv = 1 ∧ bh = true) then b else a) = a; exact if_neg (by omega)
        rw [e]
        refine l_off rfl rfl rfl rfl ?_
        apply lY
        · (first | exact y_pick_t rfl rfl | exact y_pick_f rfl rfl)
        · rfl
        refine l_nil (aT ?_)
        refine w_cond_f rfl ?_
        refine w_skip (aT (w_seq (wR ?_)))
        refine lY (yF rfl (hE.t rfl) rfl) rfl ?_
        refine lY (yF rfl (hE.t rfl) rfl) rfl ?_
        apply lY
        · (apply y_load rfl (hE.t rfl) rfl; (repeat (first | rfl | assumption | constructor)); done)
        · rfl
        refine lY (yA rfl) rfl ?_
        refine l_nil (aT (w_ret ?_))
        apply a_ret
        · rfl
        · (apply Rs.tmp rfl; exact Rs.nil)
        · exact ⟨rfl, rfl⟩
        · (apply ent; (repeat constructor); done)
def fmV (L : List Rl) (f : Fm) : Value := .agg #[.int .i64 (f.id : Nat), .int .i64 (Rl.kind (rlAt L f.id) : Nat), .int .u8 (Rl.byte (rlAt L f.id) : Nat), .int .i64 (Rl.left (rlAt L f.id) : Nat), .int .i64 (Rl.right (rlAt L f.id) : Nat), .int .i64 (Rl.times (rlAt L f.id) : Nat), .int .i64 (lvl L f.id), .int .i64 (f.hv : Nat)]
theorem ct_open (hE : Seat E) (hB : Base E.w0) {b n c x k : Nat} {pre suf : List Value} {bt : TypeId} {p : Option Addr} {bh : Bool} (hx : 1 ≤ x) (hg : good (rls Es) x) :
    Ct E 82 [.pointer (some ⟨b, pre.length, none⟩)] [cells pp [.pointer (some ⟨s, 0, none⟩), .pointer (some ⟨tb, 0, none⟩)] 59, tabP tb s (rls Es), storeP s most Es, cells b (pre ++ .pointer (some ⟨pp, 0, none⟩) :: .bool bh :: .slice p n c :: .int .i64 (x : Nat) :: .int .u64 (k : Nat) :: suf) bt] (fun v Q => v = fmV (rls Es) ⟨x, wholeR (rlAt (rls Es) x)⟩ ∧ Q = [cells pp [.pointer (some ⟨s, 0, none⟩), .pointer (some ⟨tb, 0, none⟩)] 59, tabP tb s (rls Es), storeP s most Es, cells b (pre ++ .pointer (some ⟨pp, 0, none⟩) :: .bool bh :: .slice p n c :: .int .i64 (x : Nat) :: .int .u64 (k : Nat) :: suf) bt]) := by
  obtain ⟨i, rfl⟩ : ∃ i, x = i + 1 := ⟨x - 1, by omega⟩
  have hi : i < Es.length := by have := hg.1; rw [rls_length] at this; omega
  obtain ⟨en, hent⟩ : ∃ e, Es[i]? = some e := ⟨_, List.getElem?_eq_getElem hi⟩
  have hr : rlAt (rls Es) (i + 1) = en.r := by simp [rlAt, rls_get hent]
  refine fn_enter (hE.fn Tryz.func82) rfl rfl rfl (fun R => ?_)
  simp only [argsL, List.cons_append, List.nil_append]
  skip
  refine w_seq (wR ?_)
  apply lL (by kernel_rfl) rfl
  refine ld_alloc (hE.t rfl) (fun b2 => ?_)
  refine l_nil (aT ?_)
  refine w_cut (fun q : Nat => [(0, .pointer (some ⟨b, pre.length, none⟩)), (2, .pointer (some ⟨b2, 0, none⟩)), (3, .pointer (some ⟨q, 0, none⟩)), (4, .nilIface)]) (fun q => [cells pp [.pointer (some ⟨s, 0, none⟩), .pointer (some ⟨tb, 0, none⟩)] 59, tabP tb s (rls Es), storeP s most Es, cells b (pre ++ .pointer (some ⟨pp, 0, none⟩) :: .bool bh :: .slice p n c :: .int .i64 ((i + 1) : Nat) :: .int .u64 (k : Nat) :: suf) bt, cells b2 [.int .i64 0, .int .i64 0, .int .u8 0, .int .i64 0, .int .i64 0, .int .i64 0, .int .i64 0, .int .i64 0] 160, cells q [.int .i64 (Rl.kind (en.r) : Nat), .int .u8 (Rl.byte (en.r) : Nat), .int .i64 (Rl.left (en.r) : Nat), .int .i64 (Rl.right (en.r) : Nat), .int .i64 (Rl.times (en.r) : Nat)] 73, R]) (fun _ => True) ?_ ?_
  · skip
    refine w_until 15 ([cells pp [.pointer (some ⟨s, 0, none⟩), .pointer (some ⟨tb, 0, none⟩)] 59, cells b (pre ++ .pointer (some ⟨pp, 0, none⟩) :: .bool bh :: .slice p n c :: .int .i64 ((i + 1) : Nat) :: .int .u64 (k : Nat) :: suf) bt]) ?_ ?_
    · (apply ent; (repeat constructor); done)
    apply m_take 0 rfl
    · exact yM rfl
    · with_reducible (repeat (first | exact cB | apply cT | apply cK))
    · kernel_rfl
    · rfl
    apply m_take 1 rfl
    · exact y_nilCheck rfl
    · with_reducible (repeat (first | exact cB | apply cT | apply cK))
    · kernel_rfl
    · rfl
    apply m_take 2 rfl
    · exact yF rfl (hE.t rfl) rfl
    · with_reducible (repeat (first | exact cB | apply cT | apply cK))
    · kernel_rfl
    · rfl
    apply m_take 3 rfl
    · (apply y_load rfl (hE.t rfl) rfl; (repeat (first | rfl | assumption | exact ap_0 | exact ap_1 | exact ap_2 | exact ap_3 | exact ap_4 | exact ap_5 | exact ap_6 | exact ap_7 | constructor)); done)
    · with_reducible (repeat (first | exact cB | apply cT | apply cK))
    · kernel_rfl
    · rfl
    apply m_take 5 rfl
    · exact yM rfl
    · with_reducible (repeat (first | exact cB | apply cT | apply cK))
    · kernel_rfl
    · rfl
    apply m_take 6 rfl
    · exact y_nilCheck rfl
    · with_reducible (repeat (first | exact cB | apply cT | apply cK))
    · kernel_rfl
    · rfl
    apply m_take 7 rfl
    · exact yF rfl (hE.t rfl) rfl
    · with_reducible (repeat (first | exact cB | apply cT | apply cK))
    · kernel_rfl
    · rfl
    apply m_take 8 rfl
    · (apply y_load rfl (hE.t rfl) rfl; (repeat (first | rfl | assumption | exact ap_0 | exact ap_1 | exact ap_2 | exact ap_3 | exact ap_4 | exact ap_5 | exact ap_6 | exact ap_7 | constructor)); done)
    · with_reducible (repeat (first | exact cB | apply cT | apply cK))
    · kernel_rfl
    · rfl
    apply m_two 4 13 rfl rfl (by kernel_rfl) rfl rfl
    · skip
      apply ld_call (ct_Store hE) rfl (hE.f (by kernel_rfl))
      · ((repeat constructor); done)
      rintro _ _ ⟨rfl, rfl⟩
      simp only [List.cons_append, List.nil_append]
      refine ⟨by (apply ent; (repeat constructor); done), ?_⟩
      apply m_two 9 13 rfl rfl (by kernel_rfl) rfl rfl
      · skip
        apply ld_call (ct_rule hE hent) rfl (hE.f (by kernel_rfl))
        · ((repeat constructor); done)
        rintro _ _ ⟨rfl, rfl⟩
        simp only [List.cons_append, List.nil_append]
        refine ⟨by (apply ent; (repeat constructor); done), ?_⟩
        apply m_take 10 rfl
        · exact yM rfl
        · with_reducible (repeat (first | exact cB | apply cT | apply cK))
        · kernel_rfl
        · rfl
        apply m_take 11 rfl
        · exact y_extract rfl rfl
        · with_reducible (repeat (first | exact cB | apply cT | apply cK))
        · kernel_rfl
        · rfl
        apply m_take 12 rfl
        · exact y_extract rfl rfl
        · with_reducible (repeat (first | exact cB | apply cT | apply cK))
        · kernel_rfl
        · rfl
        apply m_loud 13 rfl (by kernel_rfl) rfl
        refine ld_alloc (hE.t rfl) (fun b3 => ?_)
        refine ⟨by (apply ent; (repeat constructor); done), ?_⟩
        apply m_loud 14 rfl (by kernel_rfl) rfl
        (first | (apply ld_store rfl rfl (hE.t rfl) rfl; (focus ((repeat constructor); done)); (focus rfl); (focus (first | exact Nat.le_of_ble_eq_true rfl | (simp only [cellsL, List.length_append, List.length_cons, List.length_nil]; omega)))) | (apply ld_store_sl rfl rfl (hE.t rfl) rfl; (focus ((repeat constructor); done)); (focus rfl); (focus (first | omega | (simp only [cellsL, length_setMany, List.length_cons, List.length_nil]; omega)))))
        try simp only [cellsL, sm_0, sm_1, sm_2, sm_3, sm_4, sm_5, sm_6, sm_7]
        refine ⟨by (apply ent; (repeat constructor); done), ?_⟩
        apply m_one 15 rfl (by kernel_rfl)
        · exact yA rfl
        · rfl
        refine m_nil (by kernel_rfl) ?_
        refine a_cut (ι := Nat) b3 trivial ⟨rfl, rfl, rfl, rfl, trivial⟩ ?_
        (apply ent; (repeat constructor); done)
      · refine ld_alloc (hE.t rfl) (fun b3 => ?_)
        refine ⟨by (apply ent; (repeat constructor); done), ?_⟩
        apply m_loud 9 rfl (by kernel_rfl) rfl
        apply ld_call (ct_rule hE hent) rfl (hE.f (by kernel_rfl))
        · ((repeat constructor); done)
        rintro _ _ ⟨rfl, rfl⟩
        simp only [List.cons_append, List.nil_append]
        refine ⟨by (apply ent; (repeat constructor); done), ?_⟩
        apply m_one 10 rfl (by kernel_rfl)
        · exact yM rfl
        · rfl
        apply m_take 11 rfl
        · exact y_extract rfl rfl
        · with_reducible (repeat (first | exact cB | apply cT | apply cK))
        · kernel_rfl
        · rfl
        apply m_take 12 rfl
        · exact y_extract rfl rfl
        · with_reducible (repeat (first | exact cB | apply cT | apply cK))
        · kernel_rfl
        · rfl
        apply m_loud 14 rfl (by kernel_rfl) rfl
        (first | (apply ld_store rfl rfl (hE.t rfl) rfl; (focus ((repeat constructor); done)); (focus rfl); (focus (first | exact Nat.le_of_ble_eq_true rfl | (simp only [cellsL, List.length_append, List.length_cons, List.length_nil]; omega)))) | (apply ld_store_sl rfl rfl (hE.t rfl) rfl; (focus ((repeat constructor); done)); (focus rfl); (focus (first | omega | (simp only [cellsL, length_setMany, List.length_cons, List.length_nil]; omega)))))
        try simp only [cellsL, sm_0, sm_1, sm_2, sm_3, sm_4, sm_5, sm_6, sm_7]
        refine ⟨by (apply ent; (repeat constructor); done), ?_⟩
        apply m_one 15 rfl (by kernel_rfl)
        · exact yA rfl
        · rfl
        refine m_nil (by kernel_rfl) ?_
        refine a_cut (ι := Nat) b3 trivial ⟨rfl, rfl, rfl, rfl, trivial⟩ ?_
        (apply ent; (repeat constructor); done)
    · refine ld_alloc (hE.t rfl) (fun b3 => ?_)
      refine ⟨by (apply ent; (repeat constructor); done), ?_⟩
      apply m_loud 4 rfl (by kernel_rfl) rfl
      apply ld_call (ct_Store hE) rfl (hE.f (by kernel_rfl))
      · ((repeat constructor); done)
      rintro _ _ ⟨rfl, rfl⟩
      simp only [List.cons_append, List.nil_append]
      refine ⟨by (apply ent; (repeat constructor); done), ?_⟩
      apply m_loud 9 rfl (by kernel_rfl) rfl
      apply ld_call (ct_rule hE hent) rfl (hE.f (by kernel_rfl))
      · ((repeat constructor); done)
      rintro _ _ ⟨rfl, rfl⟩
      simp only [List.cons_append, List.nil_append]
      refine ⟨by (apply ent; (repeat constructor); done), ?_⟩
      apply m_one 10 rfl (by kernel_rfl)
      · exact yM rfl
      · rfl
      apply m_take 11 rfl
      · exact y_extract rfl rfl
      · with_reducible (repeat (first | exact cB | apply cT | apply cK))
      · kernel_rfl
      · rfl
      apply m_take 12 rfl
      · exact y_extract rfl rfl
      · with_reducible (repeat (first | exact cB | apply cT | apply cK))
      · kernel_rfl
      · rfl
      apply m_loud 14 rfl (by kernel_rfl) rfl
      (first | (apply ld_store rfl rfl (hE.t rfl) rfl; (focus ((repeat constructor); done)); (focus rfl); (focus (first | exact Nat.le_of_ble_eq_true rfl | (simp only [cellsL, List.length_append, List.length_cons, List.length_nil]; omega)))) | (apply ld_store_sl rfl rfl (hE.t rfl) rfl; (focus ((repeat constructor); done)); (focus rfl); (focus (first | omega | (simp only [cellsL, length_setMany, List.length_cons, List.length_nil]; omega)))))
      try simp only [cellsL, sm_0, sm_1, sm_2, sm_3, sm_4, sm_5, sm_6, sm_7]
      refine ⟨by (apply ent; (repeat constructor); done), ?_⟩
      apply m_one 15 rfl (by kernel_rfl)
      · exact yA rfl
      · rfl
      refine m_nil (by kernel_rfl) ?_
      refine a_cut (ι := Nat) b3 trivial ⟨rfl, rfl, rfl, rfl, trivial⟩ ?_
      (apply ent; (repeat constructor); done)
  rintro b3 -
  skip
  refine w_seq ?_
  refine w_held ([cells pp [.pointer (some ⟨s, 0, none⟩), .pointer (some ⟨tb, 0, none⟩)] 59, cells b (pre ++ .pointer (some ⟨pp, 0, none⟩) :: .bool bh :: .slice p n c :: .int .i64 ((i + 1) : Nat) :: .int .u64 (k : Nat) :: suf) bt]) ?_ ?_
  · (apply ent; (repeat constructor); done)
  apply d_take 0 rfl
  · exact yM rfl
  · with_reducible (repeat (first | exact cB | apply cT | apply cK))
  · kernel_rfl
  · rfl
  apply d_take 1 rfl
  · exact y_nilCheck rfl
  · with_reducible (repeat (first | exact cB | apply cT | apply cK))
  · kernel_rfl
  · rfl
  apply d_take 2 rfl
  · exact yF rfl (hE.t rfl) rfl
  · with_reducible (repeat (first | exact cB | apply cT | apply cK))
  · kernel_rfl
  · rfl
  apply d_take 3 rfl
  · (apply y_load rfl (hE.t rfl) rfl; (repeat (first | rfl | assumption | exact ap_0 | exact ap_1 | exact ap_2 | exact ap_3 | exact ap_4 | exact ap_5 | exact ap_6 | exact ap_7 | constructor)); done)
  · with_reducible (repeat (first | exact cB | apply cT | apply cK))
  · kernel_rfl
  · rfl
  apply d_take 5 rfl
  · exact yM rfl
  · with_reducible (repeat (first | exact cB | apply cT | apply cK))
  · kernel_rfl
  · rfl
  apply d_take 6 rfl
  · exact y_nilCheck rfl
  · with_reducible (repeat (first | exact cB | apply cT | apply cK))
  · kernel_rfl
  · rfl
  apply d_take 7 rfl
  · exact yF rfl (hE.t rfl) rfl
  · with_reducible (repeat (first | exact cB | apply cT | apply cK))
  · kernel_rfl
  · rfl
  apply d_take 8 rfl
  · (apply y_load rfl (hE.t rfl) rfl; (repeat (first | rfl | assumption | exact ap_0 | exact ap_1 | exact ap_2 | exact ap_3 | exact ap_4 | exact ap_5 | exact ap_6 | exact ap_7 | constructor)); done)
  · with_reducible (repeat (first | exact cB | apply cT | apply cK))
  · kernel_rfl
  · rfl
  apply d_loud 4 rfl (by kernel_rfl) rfl
  apply ld_call (ct_Keys hE) rfl (hE.f (by kernel_rfl))
  · ((repeat constructor); done)
  rintro _ _ ⟨rfl, rfl⟩
  simp only [List.cons_append, List.nil_append]
  refine ⟨by (apply ent; (repeat constructor); done), ?_⟩
  apply d_loud 9 rfl (by kernel_rfl) rfl
  apply ld_call (ct_level hE hB hi hg.2) rfl (hE.f (by kernel_rfl))
  · ((repeat constructor); done)
  rintro _ _ ⟨rfl, rfl⟩
  simp only [List.cons_append, List.nil_append]
  refine ⟨by (apply ent; (repeat constructor); done), ?_⟩
  apply d_take 10 rfl
  · exact yM rfl
  · with_reducible (repeat (first | exact cB | apply cT | apply cK))
  · kernel_rfl
  · rfl
  apply d_take 11 rfl
  · exact y_extract rfl rfl
  · with_reducible (repeat (first | exact cB | apply cT | apply cK))
  · kernel_rfl
  · rfl
  apply d_take 12 rfl
  · exact y_extract rfl rfl
  · with_reducible (repeat (first | exact cB | apply cT | apply cK))
  · kernel_rfl
  · rfl
  apply d_take 13 rfl
  · exact yA rfl
  · with_reducible (repeat (first | exact cB | apply cT | apply cK))
  · kernel_rfl
  · rfl
  apply d_take 14 rfl
  · exact yA rfl
  · with_reducible (repeat (first | exact cB | apply cT | apply cK))
  · kernel_rfl
  · rfl
  refine d_nil (by kernel_rfl) ?_
  refine aT ?_
  refine w_seq ?_
  refine w_held ([cells b3 [.int .i64 (Rl.kind (en.r) : Nat), .int .u8 (Rl.byte (en.r) : Nat), .int .i64 (Rl.left (en.r) : Nat), .int .i64 (Rl.right (en.r) : Nat), .int .i64 (Rl.times (en.r) : Nat)] 73, cells b (pre ++ .pointer (some ⟨pp, 0, none⟩) :: .bool bh :: .slice p n c :: .int .i64 ((i + 1) : Nat) :: .int .u64 (k : Nat) :: suf) bt]) ?_ ?_
  · (apply ent; (repeat constructor); done)
  apply d_take 0 rfl
  · exact yM rfl
  · with_reducible (repeat (first | exact cB | apply cT | apply cK))
  · kernel_rfl
  · rfl
  apply d_take 1 rfl
  · exact y_nilCheck rfl
  · with_reducible (repeat (first | exact cB | apply cT | apply cK))
  · kernel_rfl
  · rfl
  apply d_take 2 rfl
  · exact yF rfl (hE.t rfl) rfl
  · with_reducible (repeat (first | exact cB | apply cT | apply cK))
  · kernel_rfl
  · rfl
  apply d_take 3 rfl
  · (apply y_load rfl (hE.t rfl) rfl; (repeat (first | rfl | assumption | exact ap_0 | exact ap_1 | exact ap_2 | exact ap_3 | exact ap_4 | exact ap_5 | exact ap_6 | exact ap_7 | constructor)); done)
  · with_reducible (repeat (first | exact cB | apply cT | apply cK))
  · kernel_rfl
  · rfl
  apply d_take 4 rfl
  · (apply y_load_agg rfl (hE.t rfl) rfl; (repeat (first | rfl | assumption | exact ap_0 | exact ap_1 | exact ap_2 | exact ap_3 | exact ap_4 | exact ap_5 | exact ap_6 | exact ap_7 | constructor)); done)
  · with_reducible (repeat (first | exact cB | apply cT | apply cK))
  · kernel_rfl
  · rfl
  apply d_take 5 rfl
  · exact yM rfl
  · with_reducible (repeat (first | exact cB | apply cT | apply cK))
  · kernel_rfl
  · rfl
  apply d_take 6 rfl
  · (apply y_load_agg rfl (hE.t rfl) rfl; (repeat (first | rfl | assumption | exact ap_0 | exact ap_1 | exact ap_2 | exact ap_3 | exact ap_4 | exact ap_5 | exact ap_6 | exact ap_7 | constructor)); done)
  · with_reducible (repeat (first | exact cB | apply cT | apply cK))
  · kernel_rfl
  · rfl
  apply d_loud 7 rfl (by kernel_rfl) rfl
  apply ld_call (ct_whole hE) rfl (hE.f (by kernel_rfl))
  · ((repeat constructor); done)
  rintro _ _ ⟨rfl, rfl⟩
  simp only [List.cons_append, List.nil_append]
  refine ⟨by (apply ent; (repeat constructor); done), ?_⟩
  apply d_take 8 rfl
  · (first | exact y_build (hE.t rfl) rfl rfl | exact y_buildA (hE.t rfl) rfl rfl)
  · with_reducible (repeat (first | exact cB | apply cT | apply cK))
  · kernel_rfl
  · rfl
  apply d_loud 9 rfl (by kernel_rfl) rfl
  (first | (apply ld_store rfl rfl (hE.t rfl) rfl; (focus ((repeat constructor); done)); (focus rfl); (focus (first | exact Nat.le_of_ble_eq_true rfl | (simp only [cellsL, List.length_append, List.length_cons, List.length_nil]; omega)))) | (apply ld_store_sl rfl rfl (hE.t rfl) rfl; (focus ((repeat constructor); done)); (focus rfl); (focus (first | omega | (simp only [cellsL, length_setMany, List.length_cons, List.length_nil]; omega)))))
  try simp only [cellsL, sm_0, sm_1, sm_2, sm_3, sm_4, sm_5, sm_6, sm_7]
  refine ⟨by (apply ent; (repeat constructor); done), ?_⟩
  refine d_nil (by kernel_rfl) ?_
  refine aT (w_ret ?_)
  apply a_ret
  · rfl
  · ((apply Rs.cell rfl (hE.t rfl) rfl; (focus ((repeat (first | rfl | assumption | exact ap_0 | exact ap_1 | exact ap_2 | exact ap_3 | exact ap_4 | exact ap_5 | exact ap_6 | exact ap_7 | constructor)); done))); exact Rs.nil)
  · exact ⟨by rw [fmV, hr]; rfl, rfl⟩
  · (apply ent; (repeat constructor); done)
end Go.Proofs.YtekhbjlplfbdkaaGreatDoor
namespace Go.Proofs.YtekhbjlplfbdkaaGreatDoor
open Go Go.RowKit Sl Eg
set_option maxRecDepth 10000
variable {E : Env} {Es : List Ent} {pp tb s most : Nat}
theorem Lk.short {L : List Rl} (hw : Wf L) {bh : Bool} {root x : Nat} {fs : List Fm} (hs : Sig L root) (h : Lk L bh root x fs) : x + fs.length ≤ root := by
  induction h with
  | nil => simp
  | @snoc x hv fs r h1 h2 h3 h4 h5 h6 ih =>
    have := (child_ok (bh := bh) (hv := hv) hw h2 h3 h4 (h1.ok hw hs).2.2.1).2.1
    simp only [List.length_append, List.length_singleton]
    omega
theorem Lk.short' {L : List Rl} (hw : Wf L) {bh : Bool} {root x : Nat} {fs : List Fm} (hs : Sig L root) (h : Lk L bh root x fs) (hL : L.length ≤ 1048576) : fs.length ≤ 1048576 := by
  have := h.short hw hs
  have := hs.le
  omega
def DnPost (pp s tb most : Nat) (Es : List Ent) (b : Nat) (pre suf : List Value) (bt : TypeId) (bh : Bool) (l x : Nat) (fs : List Fm) (v : Value) (Q : List HP) : Prop := ∃ x' gs p' c', v = .tuple #[] ∧ Dn (rls Es) bh l x fs x' gs ∧ lvl (rls Es) x' ≤ (l : Nat) ∧ Q = [cells pp [.pointer (some ⟨s, 0, none⟩), .pointer (some ⟨tb, 0, none⟩)] 59, tabP tb s (rls Es), storeP s most Es, cells b (pre ++ .pointer (some ⟨pp, 0, none⟩) :: .bool bh :: .slice p' gs.length c' :: .int .i64 (x' : Nat) :: .int .u64 ((key (rls Es) x') : Nat) :: suf) bt, sl p' c' 160 8 gs.length (pathC (rls Es) gs)]
structure DnG where
  x : Nat
  gs : List Fm
  p : Option Addr
  c : Nat
  b4 : Nat
theorem ct_down (hE : Seat E) (hB : Base E.w0) {b c x k l root : Nat} {pre suf : List Value} {bt : TypeId} {p : Option Addr} {bh : Bool} {fs : List Fm} (hs : Sig (rls Es) root) (hk : Lk (rls Es) bh root x fs) (hll : l ≤ 1099511627776) :
    Ct E 85 [.pointer (some ⟨b, pre.length, none⟩), .int .i64 (l : Nat)] [cells pp [.pointer (some ⟨s, 0, none⟩), .pointer (some ⟨tb, 0, none⟩)] 59, tabP tb s (rls Es), storeP s most Es, cells b (pre ++ .pointer (some ⟨pp, 0, none⟩) :: .bool bh :: .slice p fs.length c :: .int .i64 (x : Nat) :: .int .u64 (k : Nat) :: suf) bt, sl p c 160 8 fs.length (pathC (rls Es) fs)] (DnPost pp s tb most Es b pre suf bt bh l x fs) := by
  refine ct_fact (p := storeP s most Es) (by ((repeat constructor); done)) (fun _ h => storeP_says h) (fun hsay => ?_)
  have hw := hsay.1
  have hL : (rls Es).length ≤ 1048576 := by have := hsay.2.2; rw [rls_length]; unfold maxRules at this; omega
  have hok := hk.ok hw hs
  refine fn_enter (hE.fn Tryz.func85) rfl rfl rfl (fun R => ?_)
  simp only [argsL, List.cons_append, List.nil_append]
  skip
  refine w_seq (w_seq (wR ?_))
  refine lY (yM rfl) rfl ?_
  apply lL (by kernel_rfl) rfl
  apply ld_call (ct_open hE hB hok.1 ⟨hok.2.1, hok.2.2.1⟩) rfl (hE.f (by kernel_rfl))
  · ((repeat constructor); done)
  rintro _ _ ⟨rfl, rfl⟩
  simp only [List.cons_append, List.nil_append, fmV]
  apply lL (by kernel_rfl) rfl
  refine ld_alloc (hE.t rfl) (fun b4 => ?_)
  apply lL (by kernel_rfl) rfl
  (first | (apply ld_store rfl rfl (hE.t rfl) rfl; (focus ((repeat constructor); done)); (focus rfl); (focus (first | exact Nat.le_of_ble_eq_true rfl | (simp only [cellsL, List.length_append, List.length_cons, List.length_nil]; omega)))) | (apply ld_store_sl rfl rfl (hE.t rfl) rfl; (focus ((repeat constructor); done)); (focus rfl); (focus (first | omega | (simp only [cellsL, length_setMany, List.length_cons, List.length_nil]; omega)))))
  try simp only [cellsL, sm_0, sm_1, sm_2, sm_3, sm_4, sm_5, sm_6, sm_7]
  refine l_nil (aT (w_block ?_))
  skip
  refine w_loop (fun x : DnG => [(0, .pointer (some ⟨b, pre.length, none⟩)), (1, .int .i64 (l : Nat)), (4, .pointer (some ⟨x.b4, 0, none⟩))]) (fun y => [cells pp [.pointer (some ⟨s, 0, none⟩), .pointer (some ⟨tb, 0, none⟩)] 59, tabP tb s (rls Es), storeP s most Es, cells b (pre ++ .pointer (some ⟨pp, 0, none⟩) :: .bool bh :: .slice y.p y.gs.length y.c :: .int .i64 (y.x : Nat) :: .int .u64 (k : Nat) :: suf) bt, sl y.p y.c 160 8 y.gs.length (pathC (rls Es) y.gs), cells y.b4 [.int .i64 (y.x : Nat), .int .i64 (Rl.kind (rlAt (rls Es) y.x) : Nat), .int .u8 (Rl.byte (rlAt (rls Es) y.x) : Nat), .int .i64 (Rl.left (rlAt (rls Es) y.x) : Nat), .int .i64 (Rl.right (rlAt (rls Es) y.x) : Nat), .int .i64 (Rl.times (rlAt (rls Es) y.x) : Nat), .int .i64 (lvl (rls Es) y.x), .int .i64 (wholeR (rlAt (rls Es) y.x) : Nat)] 160, R]) (fun y => y.x) (fun y => Lk (rls Es) bh root y.x y.gs ∧ Dn (rls Es) bh l x fs y.x y.gs) ⟨x, fs, p, c, b4⟩ ?_ ?_ ?_ ?_
  · exact ⟨hk, .refl⟩
  · exact ⟨rfl, rfl, rfl, trivial⟩
  · (apply ent; (repeat constructor); done)
  rintro ⟨y, gs, p1, c1, b4⟩ ⟨h1, h2⟩
  simp only at h1 h2 ⊢
  have ok := h1.ok hw hs
  have hgl := h1.short' hw hs hL
  skip
  refine w_seq (w_seq (wR ?_))
  refine lY (yF rfl (hE.t rfl) rfl) rfl ?_
  apply lY
  · (apply y_load rfl (hE.t rfl) rfl; (repeat (first | rfl | assumption | exact ap_0 | exact ap_1 | exact ap_2 | exact ap_3 | exact ap_4 | exact ap_5 | exact ap_6 | exact ap_7 | constructor)); done)
  · rfl
  refine lY (yM rfl) rfl ?_
  refine lY (y_gt rfl rfl) rfl ?_
  refine l_nil (aT ?_)
  refine w_cond_d rfl (fun hlt => ?_) (fun hlt => ?_)
  · skip
    have hr : (rls Es)[y - 1]? = some (rlAt (rls Es) y) := by
      have e := List.getElem?_eq_getElem (l := rls Es) (i := y - 1) (by omega)
      rw [e]; simp [rlAt, e]
    have hn := not_letter ok.1 hr (by omega)
    have hst := Dn.step h2 (by omega) hr
    have hlk : Lk (rls Es) bh root (childR bh (wholeR (rlAt (rls Es) y)) (rlAt (rls Es) y)) (gs ++ [⟨y, wholeR (rlAt (rls Es) y)⟩]) := .snoc h1 ok.1 hr hn (by have := whole_pos hw hr; omega) (Nat.le_refl _)
    have hck := (child_ok (bh := bh) (hv := wholeR (rlAt (rls Es) y)) hw ok.1 hr hn ok.2.2.1).2.1
    have hcg := hlk.ok hw hs
    have hsn := pathC_snoc (rls Es) gs ⟨y, wholeR (rlAt (rls Es) y)⟩
    simp only at hsn
    refine w_skip (aT ?_)
    refine w_seq (w_block (w_seq ?_))
    refine w_until 10 ([cells b (pre ++ .pointer (some ⟨pp, 0, none⟩) :: .bool bh :: .slice p1 gs.length c1 :: .int .i64 (y : Nat) :: .int .u64 (k : Nat) :: suf) bt, cells b4 [.int .i64 (y : Nat), .int .i64 (Rl.kind (rlAt (rls Es) y) : Nat), .int .u8 (Rl.byte (rlAt (rls Es) y) : Nat), .int .i64 (Rl.left (rlAt (rls Es) y) : Nat), .int .i64 (Rl.right (rlAt (rls Es) y) : Nat), .int .i64 (Rl.times (rlAt (rls Es) y) : Nat), .int .i64 (lvl (rls Es) y), .int .i64 (wholeR (rlAt (rls Es) y) : Nat)] 160]) ?_ ?_
    · (apply ent; (repeat constructor); done)
    apply m_take 0 rfl
    · exact yM rfl
    · with_reducible (repeat (first | exact cB | apply cT | apply cK))
    · kernel_rfl
    · rfl
    apply m_take 1 rfl
    · exact yM rfl
    · with_reducible (repeat (first | exact cB | apply cT | apply cK))
    · kernel_rfl
    · rfl
    apply m_take 2 rfl
    · exact y_nilCheck rfl
    · with_reducible (repeat (first | exact cB | apply cT | apply cK))
    · kernel_rfl
    · rfl
    apply m_take 3 rfl
    · exact yF rfl (hE.t rfl) rfl
    · with_reducible (repeat (first | exact cB | apply cT | apply cK))
    · kernel_rfl
    · rfl
    apply m_take 4 rfl
    · (apply y_load rfl (hE.t rfl) rfl; (repeat (first | rfl | assumption | exact ap_0 | exact ap_1 | exact ap_2 | exact ap_3 | exact ap_4 | exact ap_5 | exact ap_6 | exact ap_7 | constructor)); done)
    · with_reducible (repeat (first | exact cB | apply cT | apply cK))
    · kernel_rfl
    · rfl
    apply m_one 5 rfl (by kernel_rfl)
    · (apply y_load_agg rfl (hE.t rfl) rfl; (repeat (first | rfl | assumption | exact ap_0 | exact ap_1 | exact ap_2 | exact ap_3 | exact ap_4 | exact ap_5 | exact ap_6 | exact ap_7 | constructor)); done)
    · rfl
    apply m_loud 6 rfl (by kernel_rfl) rfl
    refine ld_buildSlice (hE.t rfl) (hE.t rfl) rfl rfl rfl (fun b19 => ?_)
    refine ⟨by (apply ent; (repeat constructor); done), ?_⟩
    apply m_loud 7 rfl (by kernel_rfl) rfl
    apply ld_append (hE.t rfl) (hE.t rfl) rfl rfl rfl
    · ((repeat constructor); done)
    · ((repeat constructor); done)
    · rfl
    · rfl
    · omega
    · omega
    · (unfold maxLen; omega)
    intro g20 c20 n20 x20 hn20 hx20
    refine ⟨by (apply ent; (repeat constructor); done), ?_⟩
    apply m_one 8 rfl (by kernel_rfl)
    · exact y_nilCheck rfl
    · rfl
    apply m_one 9 rfl (by kernel_rfl)
    · exact yF rfl (hE.t rfl) rfl
    · rfl
    apply m_last rfl (by kernel_rfl) (by kernel_rfl) rfl
    (first | (apply ld_store rfl rfl (hE.t rfl) rfl; (focus ((repeat constructor); done)); (focus rfl); (focus (first | exact Nat.le_of_ble_eq_true rfl | (simp only [cellsL, List.length_append, List.length_cons, List.length_nil]; omega)))) | (apply ld_store_sl rfl rfl (hE.t rfl) rfl; (focus ((repeat constructor); done)); (focus rfl); (focus (first | omega | (simp only [cellsL, length_setMany, List.length_cons, List.length_nil]; omega)))))
    try simp only [cellsL, sm_0, sm_1, sm_2, sm_3, sm_4, sm_5, sm_6, sm_7]
    refine aT ?_
    obtain rfl : x20 = pathC (rls Es) (gs ++ [⟨y, wholeR (rlAt (rls Es) y)⟩]) := by rw [hx20, hsn]; rfl
    subst hn20
    refine w_until 9 ([cells b (pre ++ .pointer (some ⟨pp, 0, none⟩) :: .bool bh :: .slice (some ⟨g20, 0, none⟩) (gs.length + 1) c20 :: .int .i64 (y : Nat) :: .int .u64 (k : Nat) :: suf) bt, cells b4 [.int .i64 (y : Nat), .int .i64 (Rl.kind (rlAt (rls Es) y) : Nat), .int .u8 (Rl.byte (rlAt (rls Es) y) : Nat), .int .i64 (Rl.left (rlAt (rls Es) y) : Nat), .int .i64 (Rl.right (rlAt (rls Es) y) : Nat), .int .i64 (Rl.times (rlAt (rls Es) y) : Nat), .int .i64 (lvl (rls Es) y), .int .i64 (wholeR (rlAt (rls Es) y) : Nat)] 160]) ?_ ?_
    · (apply ent; (repeat constructor); done)
    apply m_take 0 rfl
    · exact yM rfl
    · with_reducible (repeat (first | exact cB | apply cT | apply cK))
    · kernel_rfl
    · rfl
    apply m_take 1 rfl
    · (apply y_load_agg rfl (hE.t rfl) rfl; (repeat (first | rfl | assumption | exact ap_0 | exact ap_1 | exact ap_2 | exact ap_3 | exact ap_4 | exact ap_5 | exact ap_6 | exact ap_7 | constructor)); done)
    · with_reducible (repeat (first | exact cB | apply cT | apply cK))
    · kernel_rfl
    · rfl
    apply m_one 2 rfl (by kernel_rfl)
    · exact yM rfl
    · rfl
    apply m_one 3 rfl (by kernel_rfl)
    · exact y_nilCheck rfl
    · rfl
    apply m_one 4 rfl (by kernel_rfl)
    · exact yF rfl (hE.t rfl) rfl
    · rfl
    apply m_one 5 rfl (by kernel_rfl)
    · (apply y_load rfl (hE.t rfl) rfl; (repeat (first | rfl | assumption | exact ap_0 | exact ap_1 | exact ap_2 | exact ap_3 | exact ap_4 | exact ap_5 | exact ap_6 | exact ap_7 | constructor)); done)
    · rfl
    apply m_loud 6 rfl (by kernel_rfl) rfl
    apply ld_call (ct_child hE hn) rfl (hE.f (by kernel_rfl))
    · ((repeat constructor); done)
    rintro _ _ ⟨rfl, rfl⟩
    simp only [List.cons_append, List.nil_append]
    refine ⟨by (apply ent; (repeat constructor); done), ?_⟩
    apply m_one 7 rfl (by kernel_rfl)
    · exact y_nilCheck rfl
    · rfl
    apply m_one 8 rfl (by kernel_rfl)
    · exact yF rfl (hE.t rfl) rfl
    · rfl
    apply m_last rfl (by kernel_rfl) (by kernel_rfl) rfl
    (first | (apply ld_store rfl rfl (hE.t rfl) rfl; (focus ((repeat constructor); done)); (focus rfl); (focus (first | exact Nat.le_of_ble_eq_true rfl | (simp only [cellsL, List.length_append, List.length_cons, List.length_nil]; omega)))) | (apply ld_store_sl rfl rfl (hE.t rfl) rfl; (focus ((repeat constructor); done)); (focus rfl); (focus (first | omega | (simp only [cellsL, length_setMany, List.length_cons, List.length_nil]; omega)))))
    try simp only [cellsL, sm_0, sm_1, sm_2, sm_3, sm_4, sm_5, sm_6, sm_7]
    refine a_block (aT ?_)
    refine w_seq (w_seq (wR ?_))
    apply lY
    · (apply y_load_agg rfl (hE.t rfl) rfl; (repeat (first | rfl | assumption | exact ap_0 | exact ap_1 | exact ap_2 | exact ap_3 | exact ap_4 | exact ap_5 | exact ap_6 | exact ap_7 | constructor)); done)
    · rfl
    refine l_nil (aT ?_)
    refine wR ?_
    apply lL (by kernel_rfl) rfl
    refine ld_alloc (hE.t rfl) (fun b4 => ?_)
    apply lL (by kernel_rfl) rfl
    (first | (apply ld_store rfl rfl (hE.t rfl) rfl; (focus ((repeat constructor); done)); (focus rfl); (focus (first | exact Nat.le_of_ble_eq_true rfl | (simp only [cellsL, List.length_append, List.length_cons, List.length_nil]; omega)))) | (apply ld_store_sl rfl rfl (hE.t rfl) rfl; (focus ((repeat constructor); done)); (focus rfl); (focus (first | omega | (simp only [cellsL, length_setMany, List.length_cons, List.length_nil]; omega)))))
    try simp only [cellsL, sm_0, sm_1, sm_2, sm_3, sm_4, sm_5, sm_6, sm_7]
    refine l_nil (aT ?_)
    refine wR ?_
    refine lY (yM rfl) rfl ?_
    apply lL (by kernel_rfl) rfl
    apply ld_call (ct_open hE hB hcg.1 ⟨hcg.2.1, hcg.2.2.1⟩) rfl (hE.f (by kernel_rfl))
    · ((repeat constructor); done)
    rintro _ _ ⟨rfl, rfl⟩
    simp only [List.cons_append, List.nil_append, fmV]
    apply lL (by kernel_rfl) rfl
    (first | (apply ld_store rfl rfl (hE.t rfl) rfl; (focus ((repeat constructor); done)); (focus rfl); (focus (first | exact Nat.le_of_ble_eq_true rfl | (simp only [cellsL, List.length_append, List.length_cons, List.length_nil]; omega)))) | (apply ld_store_sl rfl rfl (hE.t rfl) rfl; (focus ((repeat constructor); done)); (focus rfl); (focus (first | omega | (simp only [cellsL, length_setMany, List.length_cons, List.length_nil]; omega)))))
    try simp only [cellsL, sm_0, sm_1, sm_2, sm_3, sm_4, sm_5, sm_6, sm_7]
    refine l_nil ?_
    refine a_round (ι := DnG) (j := ⟨childR bh (wholeR (rlAt (rls Es) y)) (rlAt (rls Es) y), gs ++ [⟨y, wholeR (rlAt (rls Es) y)⟩], some ⟨g20, 0, none⟩, c20, b4⟩) ⟨hlk, hst⟩ hck ⟨rfl, rfl, rfl, trivial⟩ ?_
    rw [List.length_append, List.length_singleton]
    (apply ent; (repeat constructor); done)
  · skip
    obtain ⟨i, rfl⟩ : ∃ i, y = i + 1 := ⟨y - 1, by omega⟩
    have hi : i < Es.length := by have := ok.2.1; rw [rls_length] at this; omega
    refine w_exit (a_then_exit (a_then_exit (a_block_exit (aT ?_))))
    refine w_held (Ex (fun k => cells b (pre ++ .pointer (some ⟨pp, 0, none⟩) :: .bool bh :: .slice p1 gs.length c1 :: .int .i64 ((i + 1) : Nat) :: .int .u64 (k : Nat) :: suf) bt) :: [cells pp [.pointer (some ⟨s, 0, none⟩), .pointer (some ⟨tb, 0, none⟩)] 59]) ?_ ?_
    · (apply ent_ex; apply ent; (repeat constructor); done)
    apply d_take 0 rfl
    · (apply yl_ex; intro kx; exact yM rfl)
    · with_reducible (repeat (first | exact cB | apply cT | apply cK))
    · kernel_rfl
    · rfl
    apply d_take 1 rfl
    · (apply yl_ex; intro kx; exact yM rfl)
    · with_reducible (repeat (first | exact cB | apply cT | apply cK))
    · kernel_rfl
    · rfl
    apply d_take 2 rfl
    · (apply yl_ex; intro kx; exact y_nilCheck rfl)
    · with_reducible (repeat (first | exact cB | apply cT | apply cK))
    · kernel_rfl
    · rfl
    apply d_take 3 rfl
    · (apply yl_ex; intro kx; exact yF rfl (hE.t rfl) rfl)
    · with_reducible (repeat (first | exact cB | apply cT | apply cK))
    · kernel_rfl
    · rfl
    apply d_take 4 rfl
    · (apply yl_ex; intro kx; (apply y_load rfl (hE.t rfl) rfl; (repeat (first | rfl | assumption | exact ap_0 | exact ap_1 | exact ap_2 | exact ap_3 | exact ap_4 | exact ap_5 | exact ap_6 | exact ap_7 | constructor)); done))
    · with_reducible (repeat (first | exact cB | apply cT | apply cK))
    · kernel_rfl
    · rfl
    apply d_take 6 rfl
    · (apply yl_ex; intro kx; exact yM rfl)
    · with_reducible (repeat (first | exact cB | apply cT | apply cK))
    · kernel_rfl
    · rfl
    apply d_take 7 rfl
    · (apply yl_ex; intro kx; exact y_nilCheck rfl)
    · with_reducible (repeat (first | exact cB | apply cT | apply cK))
    · kernel_rfl
    · rfl
    apply d_take 8 rfl
    · (apply yl_ex; intro kx; exact yF rfl (hE.t rfl) rfl)
    · with_reducible (repeat (first | exact cB | apply cT | apply cK))
    · kernel_rfl
    · rfl
    apply d_take 9 rfl
    · (apply yl_ex; intro kx; (apply y_load rfl (hE.t rfl) rfl; (repeat (first | rfl | assumption | exact ap_0 | exact ap_1 | exact ap_2 | exact ap_3 | exact ap_4 | exact ap_5 | exact ap_6 | exact ap_7 | constructor)); done))
    · with_reducible (repeat (first | exact cB | apply cT | apply cK))
    · kernel_rfl
    · rfl
    apply d_loud 5 rfl (by kernel_rfl) rfl
    apply ld_call (ct_Keys hE) rfl (hE.f (by kernel_rfl))
    · ((repeat constructor); done)
    rintro _ _ ⟨rfl, rfl⟩
    simp only [List.cons_append, List.nil_append]
    refine ⟨by (apply ent_ex; apply ent; (repeat constructor); done), ?_⟩
    apply d_loud 10 rfl (by kernel_rfl) rfl
    apply ld_call (ct_key hE hB hi) rfl (hE.f (by kernel_rfl))
    · ((repeat constructor); done)
    rintro _ _ ⟨rfl, rfl⟩
    simp only [List.cons_append, List.nil_append]
    refine ⟨by (apply ent_ex; apply ent; (repeat constructor); done), ?_⟩
    apply d_take 11 rfl
    · (apply yl_ex; intro kx; exact yM rfl)
    · with_reducible (repeat (first | exact cB | apply cT | apply cK))
    · kernel_rfl
    · rfl
    apply d_take 12 rfl
    · (apply yl_ex; intro kx; exact y_extract rfl rfl)
    · with_reducible (repeat (first | exact cB | apply cT | apply cK))
    · kernel_rfl
    · rfl
    apply d_take 13 rfl
    · (apply yl_ex; intro kx; exact y_extract rfl rfl)
    · with_reducible (repeat (first | exact cB | apply cT | apply cK))
    · kernel_rfl
    · rfl
    apply d_take 14 rfl
    · (apply yl_ex; intro kx; exact y_nilCheck rfl)
    · with_reducible (repeat (first | exact cB | apply cT | apply cK))
    · kernel_rfl
    · rfl
    apply d_take 15 rfl
    · (apply yl_ex; intro kx; exact yF rfl (hE.t rfl) rfl)
    · with_reducible (repeat (first | exact cB | apply cT | apply cK))
    · kernel_rfl
    · rfl
    apply d_loud 16 rfl (by kernel_rfl) rfl
    (first | (apply ld_store rfl rfl (hE.t rfl) rfl; (focus ((repeat constructor); done)); (focus rfl); (focus (first | exact Nat.le_of_ble_eq_true rfl | (simp only [cellsL, List.length_append, List.length_cons, List.length_nil]; omega)))) | (apply ld_store_sl rfl rfl (hE.t rfl) rfl; (focus ((repeat constructor); done)); (focus rfl); (focus (first | omega | (simp only [cellsL, length_setMany, List.length_cons, List.length_nil]; omega)))))
    try simp only [cellsL, sm_0, sm_1, sm_2, sm_3, sm_4, sm_5, sm_6, sm_7]
    refine ⟨by (apply ent_ex; apply ent; (repeat constructor); done), ?_⟩
    refine d_nil (by kernel_rfl) ?_
    apply a_end
    · rfl
    · (exact Rs.nil)
    · exact ⟨i + 1, gs, p1, c1, rfl, h2, by omega, rfl⟩
    · (apply ent; (repeat constructor); done)
end Go.Proofs.YtekhbjlplfbdkaaGreatDoor
namespace Go.Proofs.YtekhbjlplfbdkaaGreatDoor
open Go Go.RowKit Sl Eg
set_option maxRecDepth 10000
variable {E : Env} {Es : List Ent} {pp tb s most : Nat}
theorem ptr_last {L : List Rl} {gs : List Fm} {g : Nat} : (.pointer (some ⟨g, 0 + (((gs.length + 1 : Nat) : Int) - 1).toNat * 8, none⟩) : Value) = .pointer (some ⟨g, (pathC L gs).length, none⟩) := by
  rw [pathC_length, show 0 + (((gs.length + 1 : Nat) : Int) - 1).toNat * 8 = gs.length * 8 by omega]
theorem ct_parent0 (hE : Seat E) {b c x k lv : Nat} {pre suf : List Value} {bt : TypeId} {p : Option Addr} {bh : Bool} {q : HP} :
    Ct E 91 [.pointer (some ⟨b, pre.length, none⟩), .int .i64 (lv : Nat)] [cells b (pre ++ .pointer (some ⟨pp, 0, none⟩) :: .bool bh :: .slice p 0 c :: .int .i64 (x : Nat) :: .int .u64 (k : Nat) :: suf) bt, q] (fun v Q => v = .pointer none ∧ Q = [cells b (pre ++ .pointer (some ⟨pp, 0, none⟩) :: .bool bh :: .slice p 0 c :: .int .i64 (x : Nat) :: .int .u64 (k : Nat) :: suf) bt, q]) := by
  refine fn_enter (hE.fn Tryz.func91) rfl rfl rfl (fun R => ?_)
  simp only [argsL, List.cons_append, List.nil_append]
  skip
  refine w_seq (wR ?_)
  refine lY (yA rfl) rfl ?_
  refine l_nil (aT (w_seq (w_seq (wR ?_))))
  refine lY (yM rfl) rfl ?_
  refine lY (y_nilCheck rfl) rfl ?_
  refine lY (yF rfl (hE.t rfl) rfl) rfl ?_
  apply lY
  · (apply y_load rfl (hE.t rfl) rfl; (repeat (first | rfl | assumption | exact ap_0 | exact ap_1 | exact ap_2 | exact ap_3 | exact ap_4 | exact ap_5 | exact ap_6 | exact ap_7 | constructor)); done)
  · rfl
  refine lY (y_len_slice rfl (hE.t rfl)) rfl ?_
  refine lY (yA rfl) rfl ?_
  refine l_nil (aT (w_seq (wR ?_)))
  refine lY (yM rfl) rfl ?_
  refine lY (y_gt rfl rfl) rfl ?_
  refine lY (yM rfl) rfl ?_
  refine l_eq 13 (.bool false) rfl (by simp) ?_
  skip
  skip
  refine l_off rfl rfl rfl rfl (l_off rfl rfl rfl rfl (l_off rfl rfl rfl rfl (l_off rfl rfl rfl rfl (l_off rfl rfl rfl rfl (l_off rfl rfl rfl rfl (l_off rfl rfl rfl rfl (l_off rfl rfl rfl rfl ?_)))))))
  refine l_off rfl rfl rfl rfl (l_off rfl rfl rfl rfl (l_off rfl rfl rfl rfl ?_))
  apply lY
  · (first | exact y_pick_t rfl rfl | exact y_pick_f rfl rfl)
  · rfl
  refine l_nil (aT ?_)
  refine w_cond_f rfl ?_
  refine w_skip (aT (w_seq (wR ?_)))
  refine lY (yA rfl) rfl ?_
  refine l_nil (aT (w_ret ?_))
  apply a_ret
  · rfl
  · (apply Rs.tmp rfl; exact Rs.nil)
  · exact ⟨rfl, rfl⟩
  · (apply ent; (repeat constructor); done)
theorem ct_parent1 (hE : Seat E) {b c x k lv g hv : Nat} {pre suf : List Value} {bt : TypeId} {bh : Bool} {gs : List Fm} {f : Fm} (hgl : gs.length ≤ 1048576) :
    Ct E 91 [.pointer (some ⟨b, pre.length, none⟩), .int .i64 (lv : Nat)] [cells b (pre ++ .pointer (some ⟨pp, 0, none⟩) :: .bool bh :: .slice (some ⟨g, 0, none⟩) (gs.length + 1) c :: .int .i64 (x : Nat) :: .int .u64 (k : Nat) :: suf) bt, sl (some ⟨g, 0, none⟩) c 160 8 (gs.length + 1) (pathC (rls Es) gs ++ .int .i64 (f.id : Nat) :: .int .i64 (Rl.kind (rlAt (rls Es) f.id) : Nat) :: .int .u8 (Rl.byte (rlAt (rls Es) f.id) : Nat) :: .int .i64 (Rl.left (rlAt (rls Es) f.id) : Nat) :: .int .i64 (Rl.right (rlAt (rls Es) f.id) : Nat) :: .int .i64 (Rl.times (rlAt (rls Es) f.id) : Nat) :: .int .i64 (lvl (rls Es) f.id) :: .int .i64 (hv : Nat) :: [])]
      (fun v Q => v = (if lvl (rls Es) f.id = (lv : Nat) then .pointer (some ⟨g, (pathC (rls Es) gs).length, none⟩) else .pointer none) ∧ Q = [cells b (pre ++ .pointer (some ⟨pp, 0, none⟩) :: .bool bh :: .slice (some ⟨g, 0, none⟩) (gs.length + 1) c :: .int .i64 (x : Nat) :: .int .u64 (k : Nat) :: suf) bt, sl (some ⟨g, 0, none⟩) c 160 8 (gs.length + 1) (pathC (rls Es) gs ++ .int .i64 (f.id : Nat) :: .int .i64 (Rl.kind (rlAt (rls Es) f.id) : Nat) :: .int .u8 (Rl.byte (rlAt (rls Es) f.id) : Nat) :: .int .i64 (Rl.left (rlAt (rls Es) f.id) : Nat) :: .int .i64 (Rl.right (rlAt (rls Es) f.id) : Nat) :: .int .i64 (Rl.times (rlAt (rls Es) f.id) : Nat) :: .int .i64 (lvl (rls Es) f.id) :: .int .i64 (hv : Nat) :: [])]) := by
  refine fn_enter (hE.fn Tryz.func91) rfl rfl rfl (fun R => ?_)
  simp only [argsL, List.cons_append, List.nil_append]
  skip
  refine w_seq (wR ?_)
  refine lY (yA rfl) rfl ?_
  refine l_nil (aT (w_seq (w_seq (wR ?_))))
  refine lY (yM rfl) rfl ?_
  refine lY (y_nilCheck rfl) rfl ?_
  refine lY (yF rfl (hE.t rfl) rfl) rfl ?_
  apply lY
  · (apply y_load rfl (hE.t rfl) rfl; (repeat (first | rfl | assumption | exact ap_0 | exact ap_1 | exact ap_2 | exact ap_3 | exact ap_4 | exact ap_5 | exact ap_6 | exact ap_7 | constructor)); done)
  · rfl
  refine lY (y_len_slice rfl (hE.t rfl)) rfl ?_
  refine lY (yA rfl) rfl ?_
  refine l_nil (aT (w_seq (wR ?_)))
  refine lY (yM rfl) rfl ?_
  refine lY (y_gt rfl rfl) rfl ?_
  refine lY (yM rfl) rfl ?_
  refine l_eq 13 (.bool true) rfl (by simp) ?_
  skip
  skip
  refine l_on rfl rfl ?_
  refine lY (yM rfl) rfl ?_
  refine l_on rfl rfl ?_
  refine lY (y_nilCheck rfl) rfl ?_
  refine l_on rfl rfl ?_
  refine lY (yF rfl (hE.t rfl) rfl) rfl ?_
  refine l_on rfl rfl ?_
  apply lY
  · (apply y_load rfl (hE.t rfl) rfl; (repeat (first | rfl | assumption | exact ap_0 | exact ap_1 | exact ap_2 | exact ap_3 | exact ap_4 | exact ap_5 | exact ap_6 | exact ap_7 | constructor)); done)
  · rfl
  refine l_on rfl rfl ?_
  refine lY (yM rfl) rfl ?_
  refine l_on rfl rfl ?_
  refine lY (y_sub rfl rfl (by omega) (by omega)) rfl ?_
  refine l_on rfl rfl ?_
  refine lY (y_indexAddr rfl rfl (hE.t rfl) (by omega) (by omega)) rfl ?_
  refine l_eq 20 _ rfl (ptr_last (L := rls Es)) ?_
  refine l_on rfl rfl ?_
  refine lY (yF rfl (hE.t rfl) rfl) rfl ?_
  refine l_on rfl rfl ?_
  apply lY
  · (apply y_load rfl (hE.t rfl) rfl; (repeat (first | rfl | assumption | exact ap_0 | exact ap_1 | exact ap_2 | exact ap_3 | exact ap_4 | exact ap_5 | exact ap_6 | exact ap_7 | constructor)); done)
  · rfl
  refine l_on rfl rfl ?_
  refine lY (yM rfl) rfl ?_
  refine l_on rfl rfl ?_
  refine lY (y_eq rfl rfl) rfl ?_
  apply lY
  · (first | exact y_pick_t rfl rfl | exact y_pick_f rfl rfl)
  · rfl
  refine l_nil (aT ?_)
  refine w_cond_d rfl (fun h => ?_) (fun h => ?_)
  · skip
    skip
    refine w_seq (wR ?_)
    refine lY (yM rfl) rfl ?_
    refine lY (y_nilCheck rfl) rfl ?_
    refine lY (yF rfl (hE.t rfl) rfl) rfl ?_
    apply lY
    · (apply y_load rfl (hE.t rfl) rfl; (repeat (first | rfl | assumption | exact ap_0 | exact ap_1 | exact ap_2 | exact ap_3 | exact ap_4 | exact ap_5 | exact ap_6 | exact ap_7 | constructor)); done)
    · rfl
    refine lY (yM rfl) rfl ?_
    refine lY (y_sub rfl rfl (by omega) (by omega)) rfl ?_
    refine lY (y_indexAddr rfl rfl (hE.t rfl) (by omega) (by omega)) rfl ?_
    refine l_eq 32 _ rfl (ptr_last (L := rls Es)) ?_
    refine lY (yA rfl) rfl ?_
    refine l_nil (aT (w_ret (a_then_ret ?_)))
    apply a_ret
    · rfl
    · (apply Rs.tmp rfl; exact Rs.nil)
    · exact ⟨by rw [if_pos h]; rfl, rfl⟩
    · (apply ent; (repeat constructor); done)
  · skip
    refine w_skip (aT (w_seq (wR ?_)))
    refine lY (yA rfl) rfl ?_
    refine l_nil (aT (w_ret ?_))
    apply a_ret
    · rfl
    · (apply Rs.tmp rfl; exact Rs.nil)
    · exact ⟨by rw [if_neg h]; rfl, rfl⟩
    · (apply ent; (repeat constructor); done)
def ParV (L : List Rl) (p : Option Addr) (fs : List Fm) (o : Option Fm) (v : Value) : Prop := match o with
  | none => v = .pointer none
  | some f => ∃ gs g, fs = gs ++ [f] ∧ p = some ⟨g, 0, none⟩ ∧ v = .pointer (some ⟨g, (pathC L gs).length, none⟩)
theorem ct_parent (hE : Seat E) {b c x k lv : Nat} {pre suf : List Value} {bt : TypeId} {p : Option Addr} {bh : Bool} {fs : List Fm} (hfl : fs.length ≤ 1048576) :
    Ct E 91 [.pointer (some ⟨b, pre.length, none⟩), .int .i64 (lv : Nat)] [cells b (pre ++ .pointer (some ⟨pp, 0, none⟩) :: .bool bh :: .slice p fs.length c :: .int .i64 (x : Nat) :: .int .u64 (k : Nat) :: suf) bt, sl p c 160 8 fs.length (pathC (rls Es) fs)]
      (fun v Q => (∃ o, Par (rls Es) lv fs o ∧ ParV (rls Es) p fs o v) ∧ Q = [cells b (pre ++ .pointer (some ⟨pp, 0, none⟩) :: .bool bh :: .slice p fs.length c :: .int .i64 (x : Nat) :: .int .u64 (k : Nat) :: suf) bt, sl p c 160 8 fs.length (pathC (rls Es) fs)]) := by
  rcases List.eq_nil_or_concat fs with rfl | ⟨gs, f, rfl⟩
  · intro R w hs
    exact (ct_parent0 hE (q := sl p c 160 8 0 (pathC (rls Es) [])) R w hs).mono fun e w' ⟨v, Q, h1, ⟨h2, h3⟩, h4⟩ => ⟨v, Q, h1, ⟨⟨none, fun f g e => by simp at e, h2⟩, h3⟩, h4⟩
  · rw [List.concat_eq_append] at *
    rw [List.length_append, List.length_singleton] at *
    refine ct_fact (p := sl p c 160 8 (gs.length + 1) (pathC (rls Es) (gs ++ [f]))) (by ((repeat constructor); done)) (fun _ h => sl_form h (by omega)) ?_
    rintro ⟨g, rfl⟩
    rw [pathC_snoc]
    intro R w hs
    exact (ct_parent1 (hv := f.hv) hE (by omega) R w hs).mono fun e w' ⟨v, Q, h1, ⟨h2, h3⟩, h4⟩ => ⟨v, Q, h1, ⟨by
      by_cases hl : lvl (rls Es) f.id = (lv : Nat)
      · rw [if_pos hl] at h2
        exact ⟨some f, ⟨⟨gs, rfl⟩, hl⟩, gs, g, rfl, rfl, h2⟩
      · rw [if_neg hl] at h2
        exact ⟨none, fun f' g' e => by obtain ⟨_, rfl⟩ := fm_snoc e; exact hl, h2⟩, h3⟩, h4⟩
theorem whole_le {L : List Rl} (hw : Wf L) {x : Nat} {r : Rl} (h1 : 1 ≤ x) (hr : L[x - 1]? = some r) : wholeR r ≤ 1152921504606846976 := by
  obtain ⟨x, rfl⟩ : ∃ y, x = y + 1 := ⟨x - 1, by omega⟩
  rw [Nat.add_sub_cancel] at hr
  have hk := hw.ok x r hr
  cases r with
  | letter b => simp [wholeR]
  | pair a b => simp [wholeR]
  | power y k =>
    have hl := len_power hr hk
    have hs := hw.short (x + 1)
    have hx := (List.getElem?_eq_some_iff.1 hr).1
    obtain ⟨k1, k2, k3⟩ := hk
    have hp := len_pos hw y k1 (by omega)
    unfold maxLength at hs
    rw [hl] at hs
    have : k * 1 ≤ k * len L y := Nat.mul_le_mul_left k hp
    simp only [wholeR]
    omega
theorem EO.pl {L : List Rl} (hw : Wf L) (hL : L.length ≤ 1048576) {bh : Bool} {l root x : Nat} {fs : List Fm} (hs : Sig L root) (h : EO L bh l root x fs) : fs.length ≤ 1048576 := by
  rcases h.lk with ⟨_, rfl⟩ | ⟨_, h2, _⟩
  · simp
  · exact h2.short' hw hs hL
theorem ct_up (hE : Seat E) (hB : Base E.w0) {b c x l lv root : Nat} {pre suf : List Value} {bt : TypeId} {p : Option Addr} {bh : Bool} {fs : List Fm} (hs : Sig (rls Es) root) (he : EO (rls Es) bh l root x fs) :
    Ct E 60 [.pointer (some ⟨b, pre.length, none⟩), .int .i64 (lv : Nat)] [cells pp [.pointer (some ⟨s, 0, none⟩), .pointer (some ⟨tb, 0, none⟩)] 59, tabP tb s (rls Es), storeP s most Es, cells b (pre ++ .pointer (some ⟨pp, 0, none⟩) :: .bool bh :: .slice p fs.length c :: .int .i64 (x : Nat) :: .int .u64 ((key (rls Es) x) : Nat) :: suf) bt, sl p c 160 8 fs.length (pathC (rls Es) fs)]
      (fun v Q => v = .tuple #[] ∧ Q = [cells pp [.pointer (some ⟨s, 0, none⟩), .pointer (some ⟨tb, 0, none⟩)] 59, tabP tb s (rls Es), storeP s most Es, cells b (pre ++ .pointer (some ⟨pp, 0, none⟩) :: .bool bh :: .slice p (upF (rls Es) lv x fs).2.length c :: .int .i64 ((upF (rls Es) lv x fs).1 : Nat) :: .int .u64 ((key (rls Es) (upF (rls Es) lv x fs).1) : Nat) :: suf) bt, sl p c 160 8 (upF (rls Es) lv x fs).2.length (pathC (rls Es) (upF (rls Es) lv x fs).2)]) := by
  refine ct_fact (p := storeP s most Es) (by ((repeat constructor); done)) (fun _ h => storeP_says h) (fun hsay => ?_)
  have hw := hsay.1
  have hL : (rls Es).length ≤ 1048576 := by have := hsay.2.2; rw [rls_length]; unfold maxRules at this; omega
  have hfl := he.pl hw hL hs
  refine ct_fact (p := sl p c 160 8 fs.length (pathC (rls Es) fs)) (by ((repeat constructor); done)) (fun _ h => sl_cap h) ?_
  rintro ⟨hcap, -, -⟩
  refine fn_enter (hE.fn Tryz.func60) rfl rfl rfl (fun R => ?_)
  simp only [argsL, List.cons_append, List.nil_append]
  skip
  refine w_seq (wR ?_)
  refine lY (yM rfl) rfl ?_
  refine lY (yM rfl) rfl ?_
  apply lL (by kernel_rfl) rfl
  apply ld_call (ct_parent hE hfl) rfl (hE.f (by kernel_rfl))
  · ((repeat constructor); done)
  rintro v _ ⟨⟨o, ho, hv⟩, rfl⟩
  simp only [List.cons_append, List.nil_append]
  refine lY (yA rfl) rfl ?_
  refine l_nil (aT ?_)
  cases o with
  | none =>
    obtain rfl : v = .pointer none := hv
    have e : upF (rls Es) lv x fs = (x, fs) := by
      rcases List.eq_nil_or_concat fs with rfl | ⟨gs, f, rfl⟩
      · rfl
      · rw [List.concat_eq_append] at *
        rw [upF_snoc, if_neg (fun h => ho f gs rfl h.1)]
    rw [e]
    skip
    refine w_seq (w_seq ?_)
    refine w_held ([]) ?_ ?_
    · (apply ent; (repeat constructor); done)
    apply d_take 0 rfl
    · exact yM rfl
    · with_reducible (repeat (first | exact cB | apply cT | apply cK))
    · kernel_rfl
    · rfl
    apply d_take 1 rfl
    · (first | exact y_eq_ptr rfl (hE.t rfl) | exact y_eq_nil rfl (hE.t rfl))
    · with_reducible (repeat (first | exact cB | apply cT | apply cK))
    · kernel_rfl
    · rfl
    apply d_take 2 rfl
    · exact yM rfl
    · with_reducible (repeat (first | exact cB | apply cT | apply cK))
    · kernel_rfl
    · rfl
    skip
    refine d_off 3 rfl rfl rfl rfl (by with_reducible (repeat (first | exact cB | apply cT | apply cK))) (by kernel_rfl) rfl ?_
    refine d_off 4 rfl rfl rfl rfl (by with_reducible (repeat (first | exact cB | apply cT | apply cK))) (by kernel_rfl) rfl ?_
    refine d_off 5 rfl rfl rfl rfl (by with_reducible (repeat (first | exact cB | apply cT | apply cK))) (by kernel_rfl) rfl ?_
    refine d_off 6 rfl rfl rfl rfl (by with_reducible (repeat (first | exact cB | apply cT | apply cK))) (by kernel_rfl) rfl ?_
    refine d_off 7 rfl rfl rfl rfl (by with_reducible (repeat (first | exact cB | apply cT | apply cK))) (by kernel_rfl) rfl ?_
    refine d_off 8 rfl rfl rfl rfl (by with_reducible (repeat (first | exact cB | apply cT | apply cK))) (by kernel_rfl) rfl ?_
    refine d_off 9 rfl rfl rfl rfl (by with_reducible (repeat (first | exact cB | apply cT | apply cK))) (by kernel_rfl) rfl ?_
    refine d_off 10 rfl rfl rfl rfl (by with_reducible (repeat (first | exact cB | apply cT | apply cK))) (by kernel_rfl) rfl ?_
    refine d_off 11 rfl rfl rfl rfl (by with_reducible (repeat (first | exact cB | apply cT | apply cK))) (by kernel_rfl) rfl ?_
    refine d_off 12 rfl rfl rfl rfl (by with_reducible (repeat (first | exact cB | apply cT | apply cK))) (by kernel_rfl) rfl ?_
    apply d_take 13 rfl
    · (first | exact y_pick_t rfl rfl | exact y_pick_f rfl rfl)
    · with_reducible (repeat (first | exact cB | apply cT | apply cK))
    · kernel_rfl
    · rfl
    refine d_nil (by kernel_rfl) ?_
    refine aT ?_
    refine w_cond_t rfl ?_
    refine w_ret (a_then_ret ?_)
    apply a_ret
    · rfl
    · (exact Rs.nil)
    · exact ⟨rfl, rfl⟩
    · (apply ent; (repeat constructor); done)
  | some f =>
    obtain ⟨gs, g, rfl, rfl, rfl⟩ := hv
    have hx : x ≠ 0 := fun h0 => by subst h0; have := he.zero; simp at this
    obtain ⟨h1, h2, h3, h4⟩ := he.low hx
    obtain ⟨r, l1, l2, l3, l4, l5, l6, ex⟩ := h2.inv
    have okf := l1.ok hw hs
    have hwl := whole_le hw l2 l3
    have er := rlAt_eq l3
    rw [List.length_append, List.length_singleton] at *
    rw [pathC_snoc]
    skip
    refine w_seq (w_seq ?_)
    refine w_held ([sl (some ⟨g, 0, none⟩) c 160 8 (gs.length + 1) (pathC (rls Es) gs ++ .int .i64 (f.id : Nat) :: .int .i64 (Rl.kind (rlAt (rls Es) f.id) : Nat) :: .int .u8 (Rl.byte (rlAt (rls Es) f.id) : Nat) :: .int .i64 (Rl.left (rlAt (rls Es) f.id) : Nat) :: .int .i64 (Rl.right (rlAt (rls Es) f.id) : Nat) :: .int .i64 (Rl.times (rlAt (rls Es) f.id) : Nat) :: .int .i64 (lvl (rls Es) f.id) :: .int .i64 (f.hv : Nat) :: [])]) ?_ ?_
    · (apply ent; (repeat constructor); done)
    apply d_take 0 rfl
    · exact yM rfl
    · with_reducible (repeat (first | exact cB | apply cT | apply cK))
    · kernel_rfl
    · rfl
    apply d_take 1 rfl
    · (first | exact y_eq_ptr rfl (hE.t rfl) | exact y_eq_nil rfl (hE.t rfl))
    · with_reducible (repeat (first | exact cB | apply cT | apply cK))
    · kernel_rfl
    · rfl
    apply d_take 2 rfl
    · exact yM rfl
    · with_reducible (repeat (first | exact cB | apply cT | apply cK))
    · kernel_rfl
    · rfl
    skip
    apply d_on 3 rfl rfl rfl
    · exact yM rfl
    · with_reducible (repeat (first | exact cB | apply cT | apply cK))
    · kernel_rfl
    · rfl
    apply d_on 4 rfl rfl rfl
    · exact y_nilCheck rfl
    · with_reducible (repeat (first | exact cB | apply cT | apply cK))
    · kernel_rfl
    · rfl
    apply d_on 5 rfl rfl rfl
    · exact yF rfl (hE.t rfl) rfl
    · with_reducible (repeat (first | exact cB | apply cT | apply cK))
    · kernel_rfl
    · rfl
    apply d_on 6 rfl rfl rfl
    · (apply y_load rfl (hE.t rfl) rfl; (repeat (first | rfl | assumption | exact ap_0 | exact ap_1 | exact ap_2 | exact ap_3 | exact ap_4 | exact ap_5 | exact ap_6 | exact ap_7 | constructor)); done)
    · with_reducible (repeat (first | exact cB | apply cT | apply cK))
    · kernel_rfl
    · rfl
    apply d_on 7 rfl rfl rfl
    · exact yM rfl
    · with_reducible (repeat (first | exact cB | apply cT | apply cK))
    · kernel_rfl
    · rfl
    apply d_on 8 rfl rfl rfl
    · exact y_nilCheck rfl
    · with_reducible (repeat (first | exact cB | apply cT | apply cK))
    · kernel_rfl
    · rfl
    apply d_on 9 rfl rfl rfl
    · exact yF rfl (hE.t rfl) rfl
    · with_reducible (repeat (first | exact cB | apply cT | apply cK))
    · kernel_rfl
    · rfl
    apply d_on 10 rfl rfl rfl
    · (apply y_load_agg rfl (hE.t rfl) rfl; (repeat (first | rfl | assumption | exact ap_0 | exact ap_1 | exact ap_2 | exact ap_3 | exact ap_4 | exact ap_5 | exact ap_6 | exact ap_7 | constructor)); done)
    · with_reducible (repeat (first | exact cB | apply cT | apply cK))
    · kernel_rfl
    · rfl
    apply d_loud_on 11 rfl rfl rfl (by kernel_rfl) rfl
    apply ld_call (ct_whole hE) rfl (hE.f (by kernel_rfl))
    · ((repeat constructor); done)
    rintro _ _ ⟨rfl, rfl⟩
    simp only [List.cons_append, List.nil_append]
    refine ⟨by (apply ent; (repeat constructor); done), ?_⟩
    apply d_on 12 rfl rfl rfl
    · exact y_lt rfl rfl
    · with_reducible (repeat (first | exact cB | apply cT | apply cK))
    · kernel_rfl
    · rfl
    apply d_take 13 rfl
    · (first | exact y_pick_t rfl rfl | exact y_pick_f rfl rfl)
    · with_reducible (repeat (first | exact cB | apply cT | apply cK))
    · kernel_rfl
    · rfl
    refine d_nil (by kernel_rfl) ?_
    refine aT ?_
    refine w_cond_d rfl (fun hlt => ?_) (fun hlt => ?_)
    · skip
      have e : upF (rls Es) lv x (gs ++ [f]) = (x, gs ++ [f]) := by rw [upF_snoc, if_neg (fun h => by omega)]
      rw [e]
      simp only [List.length_append, List.length_singleton]
      rw [pathC_snoc]
      refine w_ret (a_then_ret ?_)
      apply a_ret
      · rfl
      · (exact Rs.nil)
      · exact ⟨rfl, rfl⟩
      · (apply ent; (repeat constructor); done)
    · skip
      have e : upF (rls Es) lv x (gs ++ [f]) = (f.id, gs) := by rw [upF_snoc, if_pos ⟨ho.2, by omega⟩]
      rw [e]
      obtain ⟨i, hi⟩ : ∃ i, f.id = i + 1 := ⟨f.id - 1, by omega⟩
      have hil : i < Es.length := by have := okf.2.1; rw [rls_length] at this; omega
      have hkc := ct_key (s := s) (tb := tb) (most := most) hE hB hil
      rw [← hi] at hkc
      refine w_skip (aT (w_seq (wR ?_)))
      refine lY (yM rfl) rfl ?_
      refine lY (yM rfl) rfl ?_
      refine lY (y_nilCheck rfl) rfl ?_
      refine lY (yF rfl (hE.t rfl) rfl) rfl ?_
      apply lY
      · (apply y_load rfl (hE.t rfl) rfl; (repeat (first | rfl | assumption | exact ap_0 | exact ap_1 | exact ap_2 | exact ap_3 | exact ap_4 | exact ap_5 | exact ap_6 | exact ap_7 | constructor)); done)
      · rfl
      refine lY (y_nilCheck rfl) rfl ?_
      refine lY (yF rfl (hE.t rfl) rfl) rfl ?_
      apply lL (by kernel_rfl) rfl
      (first | (apply ld_store rfl rfl (hE.t rfl) rfl; (focus ((repeat constructor); done)); (focus rfl); (focus (first | exact Nat.le_of_ble_eq_true rfl | (simp only [cellsL, List.length_append, List.length_cons, List.length_nil]; omega)))) | (apply ld_store_sl rfl rfl (hE.t rfl) rfl; (focus ((repeat constructor); done)); (focus rfl); (focus (first | omega | (simp only [cellsL, length_setMany, List.length_cons, List.length_nil]; omega)))))
      try simp only [cellsL, sm_0, sm_1, sm_2, sm_3, sm_4, sm_5, sm_6, sm_7]
      refine l_nil (aT ?_)
      refine w_seq ?_
      refine w_held (Ex (fun k => cells b (pre ++ .pointer (some ⟨pp, 0, none⟩) :: .bool bh :: .slice (some ⟨g, 0, none⟩) (gs.length + 1) c :: .int .i64 (f.id : Nat) :: .int .u64 (k : Nat) :: suf) bt) :: [cells pp [.pointer (some ⟨s, 0, none⟩), .pointer (some ⟨tb, 0, none⟩)] 59]) ?_ ?_
      · (apply ent_ex; apply ent; (repeat constructor); done)
      apply d_take 0 rfl
      · (apply yl_ex; intro kx; exact yM rfl)
      · with_reducible (repeat (first | exact cB | apply cT | apply cK))
      · kernel_rfl
      · rfl
      apply d_take 1 rfl
      · (apply yl_ex; intro kx; exact yM rfl)
      · with_reducible (repeat (first | exact cB | apply cT | apply cK))
      · kernel_rfl
      · rfl
      apply d_take 2 rfl
      · (apply yl_ex; intro kx; exact y_nilCheck rfl)
      · with_reducible (repeat (first | exact cB | apply cT | apply cK))
      · kernel_rfl
      · rfl
      apply d_take 3 rfl
      · (apply yl_ex; intro kx; exact yF rfl (hE.t rfl) rfl)
      · with_reducible (repeat (first | exact cB | apply cT | apply cK))
      · kernel_rfl
      · rfl
      apply d_take 4 rfl
      · (apply yl_ex; intro kx; (apply y_load rfl (hE.t rfl) rfl; (repeat (first | rfl | assumption | exact ap_0 | exact ap_1 | exact ap_2 | exact ap_3 | exact ap_4 | exact ap_5 | exact ap_6 | exact ap_7 | constructor)); done))
      · with_reducible (repeat (first | exact cB | apply cT | apply cK))
      · kernel_rfl
      · rfl
      apply d_take 6 rfl
      · (apply yl_ex; intro kx; exact yM rfl)
      · with_reducible (repeat (first | exact cB | apply cT | apply cK))
      · kernel_rfl
      · rfl
      apply d_take 7 rfl
      · (apply yl_ex; intro kx; exact y_nilCheck rfl)
      · with_reducible (repeat (first | exact cB | apply cT | apply cK))
      · kernel_rfl
      · rfl
      apply d_take 8 rfl
      · (apply yl_ex; intro kx; exact yF rfl (hE.t rfl) rfl)
      · with_reducible (repeat (first | exact cB | apply cT | apply cK))
      · kernel_rfl
      · rfl
      apply d_take 9 rfl
      · (apply yl_ex; intro kx; (apply y_load rfl (hE.t rfl) rfl; (repeat (first | rfl | assumption | exact ap_0 | exact ap_1 | exact ap_2 | exact ap_3 | exact ap_4 | exact ap_5 | exact ap_6 | exact ap_7 | constructor)); done))
      · with_reducible (repeat (first | exact cB | apply cT | apply cK))
      · kernel_rfl
      · rfl
      apply d_loud 5 rfl (by kernel_rfl) rfl
      apply ld_call (ct_Keys hE) rfl (hE.f (by kernel_rfl))
      · ((repeat constructor); done)
      rintro _ _ ⟨rfl, rfl⟩
      simp only [List.cons_append, List.nil_append]
      refine ⟨by (apply ent_ex; apply ent; (repeat constructor); done), ?_⟩
      apply d_loud 10 rfl (by kernel_rfl) rfl
      apply ld_call (hkc) rfl (hE.f (by kernel_rfl))
      · ((repeat constructor); done)
      rintro _ _ ⟨rfl, rfl⟩
      simp only [List.cons_append, List.nil_append]
      refine ⟨by (apply ent_ex; apply ent; (repeat constructor); done), ?_⟩
      apply d_take 11 rfl
      · (apply yl_ex; intro kx; exact yM rfl)
      · with_reducible (repeat (first | exact cB | apply cT | apply cK))
      · kernel_rfl
      · rfl
      apply d_take 12 rfl
      · (apply yl_ex; intro kx; exact y_extract rfl rfl)
      · with_reducible (repeat (first | exact cB | apply cT | apply cK))
      · kernel_rfl
      · rfl
      apply d_take 13 rfl
      · (apply yl_ex; intro kx; exact y_extract rfl rfl)
      · with_reducible (repeat (first | exact cB | apply cT | apply cK))
      · kernel_rfl
      · rfl
      apply d_take 14 rfl
      · (apply yl_ex; intro kx; exact y_nilCheck rfl)
      · with_reducible (repeat (first | exact cB | apply cT | apply cK))
      · kernel_rfl
      · rfl
      apply d_take 15 rfl
      · (apply yl_ex; intro kx; exact yF rfl (hE.t rfl) rfl)
      · with_reducible (repeat (first | exact cB | apply cT | apply cK))
      · kernel_rfl
      · rfl
      apply d_loud 16 rfl (by kernel_rfl) rfl
      (first | (apply ld_store rfl rfl (hE.t rfl) rfl; (focus ((repeat constructor); done)); (focus rfl); (focus (first | exact Nat.le_of_ble_eq_true rfl | (simp only [cellsL, List.length_append, List.length_cons, List.length_nil]; omega)))) | (apply ld_store_sl rfl rfl (hE.t rfl) rfl; (focus ((repeat constructor); done)); (focus rfl); (focus (first | omega | (simp only [cellsL, length_setMany, List.length_cons, List.length_nil]; omega)))))
      try simp only [cellsL, sm_0, sm_1, sm_2, sm_3, sm_4, sm_5, sm_6, sm_7]
      refine ⟨by (apply ent_ex; apply ent; (repeat constructor); done), ?_⟩
      refine d_nil (by kernel_rfl) ?_
      refine aT ?_
      refine w_draws (by kernel_rfl) ?_
      refine lY (yM rfl) rfl ?_
      refine lY (yM rfl) rfl ?_
      refine lY (y_nilCheck rfl) rfl ?_
      refine lY (yF rfl (hE.t rfl) rfl) rfl ?_
      apply lY
      · (apply y_load rfl (hE.t rfl) rfl; (repeat (first | rfl | assumption | exact ap_0 | exact ap_1 | exact ap_2 | exact ap_3 | exact ap_4 | exact ap_5 | exact ap_6 | exact ap_7 | constructor)); done)
      · rfl
      refine lY (yM rfl) rfl ?_
      refine lY (y_nilCheck rfl) rfl ?_
      refine lY (yF rfl (hE.t rfl) rfl) rfl ?_
      apply lY
      · (apply y_load rfl (hE.t rfl) rfl; (repeat (first | rfl | assumption | exact ap_0 | exact ap_1 | exact ap_2 | exact ap_3 | exact ap_4 | exact ap_5 | exact ap_6 | exact ap_7 | constructor)); done)
      · rfl
      refine lY (y_len_slice rfl (hE.t rfl)) rfl ?_
      refine lY (y_sub rfl rfl (by omega) (by omega)) rfl ?_
      refine l_eq 55 (.int .i64 (gs.length : Nat)) rfl (int_eq (by omega)) ?_
      skip
      refine lY (y_slice_hi _ rfl rfl (hE.t rfl) rfl (by omega)) rfl ?_
      refine lY (y_nilCheck rfl) rfl ?_
      refine lY (yF rfl (hE.t rfl) rfl) rfl ?_
      apply lL (by kernel_rfl) rfl
      (first | (apply ld_store rfl rfl (hE.t rfl) rfl; (focus ((repeat constructor); done)); (focus rfl); (focus (first | exact Nat.le_of_ble_eq_true rfl | (simp only [cellsL, List.length_append, List.length_cons, List.length_nil]; omega)))) | (apply ld_store_sl rfl rfl (hE.t rfl) rfl; (focus ((repeat constructor); done)); (focus rfl); (focus (first | omega | (simp only [cellsL, length_setMany, List.length_cons, List.length_nil]; omega)))))
      try simp only [cellsL, sm_0, sm_1, sm_2, sm_3, sm_4, sm_5, sm_6, sm_7]
      refine l_nil ?_
      apply a_end
      · rfl
      · (exact Rs.nil)
      · exact ⟨rfl, rfl⟩
      · refine ent_trans (ent_head (p := sl (some ⟨g, 0, none⟩) c 160 8 (gs.length + 1) (pathC (rls Es) gs ++ .int .i64 (f.id : Nat) :: .int .i64 (Rl.kind (rlAt (rls Es) f.id) : Nat) :: .int .u8 (Rl.byte (rlAt (rls Es) f.id) : Nat) :: .int .i64 (Rl.left (rlAt (rls Es) f.id) : Nat) :: .int .i64 (Rl.right (rlAt (rls Es) f.id) : Nat) :: .int .i64 (Rl.times (rlAt (rls Es) f.id) : Nat) :: .int .i64 (lvl (rls Es) f.id) :: .int .i64 (f.hv : Nat) :: [])) (p' := sl (some ⟨g, 0, none⟩) c 160 8 gs.length (pathC (rls Es) gs)) (by ((repeat constructor); done)) (sl_cut (by omega) (by rw [← pathC_length (rls Es) gs, List.take_left']; rfl) (by simp))) ?_
        (apply ent; (repeat constructor); done)
end Go.Proofs.YtekhbjlplfbdkaaGreatDoor
namespace Go.Proofs.YtekhbjlplfbdkaaGreatDoor
open Go Go.RowKit Sl Eg
set_option maxRecDepth 10000
variable {E : Env} {Es : List Ent} {pp tb s most : Nat}
def DpPost (pp s tb most : Nat) (Es : List Ent) (b : Nat) (pre suf : List Value) (bt : TypeId) (bh : Bool) (l t : Nat) (fs : List Fm) (v : Value) (Q : List HP) : Prop := ∃ x' gs p' c', v = .tuple #[] ∧ Dp (rls Es) bh l t fs x' gs ∧ Q = [cells pp [.pointer (some ⟨s, 0, none⟩), .pointer (some ⟨tb, 0, none⟩)] 59, tabP tb s (rls Es), storeP s most Es, cells b (pre ++ .pointer (some ⟨pp, 0, none⟩) :: .bool bh :: .slice p' gs.length c' :: .int .i64 (x' : Nat) :: .int .u64 ((key (rls Es) x') : Nat) :: suf) bt, sl p' c' 160 8 gs.length (pathC (rls Es) gs)]
structure DpG where
  y : Nat
  t : Nat
  gs : List Fm
theorem ct_drop_ (hE : Seat E) (hB : Base E.w0) {b c x k l t root : Nat} {pre suf : List Value} {bt : TypeId} {p : Option Addr} {bh : Bool} {fs : List Fm} (hs : Sig (rls Es) root) (hk : Lk (rls Es) bh root x fs) (hd : Drp (rls Es) t fs) (hll : l ≤ 1099511627776) :
    Ct E 122 [.pointer (some ⟨b, pre.length, none⟩), .int .i64 (t : Nat), .int .i64 (l : Nat)] [cells pp [.pointer (some ⟨s, 0, none⟩), .pointer (some ⟨tb, 0, none⟩)] 59, tabP tb s (rls Es), storeP s most Es, cells b (pre ++ .pointer (some ⟨pp, 0, none⟩) :: .bool bh :: .slice p fs.length c :: .int .i64 (x : Nat) :: .int .u64 (k : Nat) :: suf) bt, sl p c 160 8 fs.length (pathC (rls Es) fs)] (DpPost pp s tb most Es b pre suf bt bh l t fs) := by
  refine ct_fact (p := storeP s most Es) (by ((repeat constructor); done)) (fun _ h => storeP_says h) (fun hsay => ?_)
  have hw := hsay.1
  have hL : (rls Es).length ≤ 1048576 := by have := hsay.2.2; rw [rls_length]; unfold maxRules at this; omega
  refine ct_fact (p := sl p c 160 8 fs.length (pathC (rls Es) fs)) (by ((repeat constructor); done)) (fun _ h => sl_cap h) ?_
  rintro ⟨hcap, -, -⟩
  refine fn_enter (hE.fn Tryz.func122) rfl rfl rfl (fun R => ?_)
  simp only [argsL, List.cons_append, List.nil_append]
  skip
  refine w_seq (wR ?_)
  refine lY (yM rfl) rfl ?_
  refine lY (yM rfl) rfl ?_
  refine lY (y_nilCheck rfl) rfl ?_
  refine lY (yF rfl (hE.t rfl) rfl) rfl ?_
  apply lL (by kernel_rfl) rfl
  (first | (apply ld_store rfl rfl (hE.t rfl) rfl; (focus ((repeat constructor); done)); (focus rfl); (focus (first | exact Nat.le_of_ble_eq_true rfl | (simp only [cellsL, List.length_append, List.length_cons, List.length_nil]; omega)))) | (apply ld_store_sl rfl rfl (hE.t rfl) rfl; (focus ((repeat constructor); done)); (focus rfl); (focus (first | omega | (simp only [cellsL, length_setMany, List.length_cons, List.length_nil]; omega)))))
  try simp only [cellsL, sm_0, sm_1, sm_2, sm_3, sm_4, sm_5, sm_6, sm_7]
  refine lY (y_nilCheck rfl) rfl ?_
  refine lY (yF rfl (hE.t rfl) rfl) rfl ?_
  apply lL (by kernel_rfl) rfl
  (first | (apply ld_store rfl rfl (hE.t rfl) rfl; (focus ((repeat constructor); done)); (focus rfl); (focus (first | exact Nat.le_of_ble_eq_true rfl | (simp only [cellsL, List.length_append, List.length_cons, List.length_nil]; omega)))) | (apply ld_store_sl rfl rfl (hE.t rfl) rfl; (focus ((repeat constructor); done)); (focus rfl); (focus (first | omega | (simp only [cellsL, length_setMany, List.length_cons, List.length_nil]; omega)))))
  try simp only [cellsL, sm_0, sm_1, sm_2, sm_3, sm_4, sm_5, sm_6, sm_7]
  refine l_nil (aT (w_seq (wR ?_)))
  refine lY (yM rfl) rfl ?_
  refine lY (y_nilCheck rfl) rfl ?_
  refine lY (yF rfl (hE.t rfl) rfl) rfl ?_
  apply lY
  · (apply y_load rfl (hE.t rfl) rfl; (repeat (first | rfl | assumption | exact ap_0 | exact ap_1 | exact ap_2 | exact ap_3 | exact ap_4 | exact ap_5 | exact ap_6 | exact ap_7 | constructor)); done)
  · rfl
  refine lY (y_len_slice rfl (hE.t rfl)) rfl ?_
  refine lY (yA rfl) rfl ?_
  refine l_nil (aT (w_block ?_))
  skip
  refine w_loop (fun y : DpG => [(0, .pointer (some ⟨b, pre.length, none⟩)), (1, .int .i64 (y.t : Nat)), (2, .int .i64 (l : Nat)), (6, .int .i64 (y.gs.length : Nat))]) (fun y => [cells pp [.pointer (some ⟨s, 0, none⟩), .pointer (some ⟨tb, 0, none⟩)] 59, tabP tb s (rls Es), storeP s most Es, cells b (pre ++ .pointer (some ⟨pp, 0, none⟩) :: .bool bh :: .slice p y.gs.length c :: .int .i64 (0 : Nat) :: .int .u64 (0 : Nat) :: suf) bt, sl p c 160 8 y.gs.length (pathC (rls Es) y.gs), R]) (fun y => y.gs.length) (fun y => Lk (rls Es) bh root y.y y.gs ∧ Drp (rls Es) y.t y.gs ∧ y.gs.length ≤ c ∧ ∀ x' gs, Dp (rls Es) bh l y.t y.gs x' gs → Dp (rls Es) bh l t fs x' gs) ⟨x, t, fs⟩ ?_ ?_ ?_ ?_
  · exact ⟨hk, hd, hcap, fun _ _ h => h⟩
  · exact ⟨rfl, rfl, rfl, rfl, trivial⟩
  · (apply ent; (repeat constructor); done)
  rintro ⟨y, t', gs⟩ ⟨h1, h2, h3, h4⟩
  simp only at h1 h2 h3 h4 ⊢
  have hgl := h1.short' hw hs hL
  rcases List.eq_nil_or_concat gs with rfl | ⟨gs, f, rfl⟩
  · skip
    refine w_seq (w_seq (wR ?_))
    refine lY (yM rfl) rfl ?_
    refine lY (y_gt rfl rfl) rfl ?_
    refine l_nil (aT ?_)
    refine w_cond_d rfl (fun h => ?_) (fun h => ?_)
    · exfalso; simp at h
    · skip
      refine w_exit (a_then_exit (a_then_exit (a_block_exit ?_)))
      apply a_end
      · rfl
      · (exact Rs.nil)
      · exact ⟨0, [], p, c, rfl, h4 0 [] .nil, rfl⟩
      · (apply ent; (repeat constructor); done)
  rw [List.concat_eq_append] at *
  obtain ⟨r, l1, l2, l3, l4, l5, l6, ex⟩ := h1.inv
  have hwl := whole_le hw l2 l3
  have er := rlAt_eq l3
  have hnl : ∀ b, rlAt (rls Es) f.id ≠ .letter b := by rw [er]; exact l4
  have hpl := pathC_length (rls Es) gs
  obtain ⟨d1, _, d2⟩ := h2
  obtain ⟨d3, d4⟩ := d2 gs f rfl
  rw [List.length_append, List.length_singleton] at *
  rw [pathC_snoc]
  have hgc : gs.length ≤ c := by omega
  refine w_say (p := sl p c 160 8 (gs.length + 1) (pathC (rls Es) gs ++ .int .i64 (f.id : Nat) :: .int .i64 (Rl.kind (rlAt (rls Es) f.id) : Nat) :: .int .u8 (Rl.byte (rlAt (rls Es) f.id) : Nat) :: .int .i64 (Rl.left (rlAt (rls Es) f.id) : Nat) :: .int .i64 (Rl.right (rlAt (rls Es) f.id) : Nat) :: .int .i64 (Rl.times (rlAt (rls Es) f.id) : Nat) :: .int .i64 (lvl (rls Es) f.id) :: .int .i64 (f.hv : Nat) :: [])) (by ((repeat constructor); done)) (fun _ h => sl_form h (by omega)) ?_
  rintro ⟨g, rfl⟩
  skip
  refine w_seq (w_seq (wR ?_))
  refine lY (yM rfl) rfl ?_
  refine lY (y_gt rfl rfl) rfl ?_
  refine l_nil (aT ?_)
  refine w_cond_d rfl (fun h => ?_) (fun h => ?_)
  · skip
    refine w_skip (aT (w_seq (w_block (w_seq (wR ?_)))))
    refine lY (yM rfl) rfl ?_
    refine lY (y_nilCheck rfl) rfl ?_
    refine lY (yF rfl (hE.t rfl) rfl) rfl ?_
    apply lY
    · (apply y_load rfl (hE.t rfl) rfl; (repeat (first | rfl | assumption | exact ap_0 | exact ap_1 | exact ap_2 | exact ap_3 | exact ap_4 | exact ap_5 | exact ap_6 | exact ap_7 | constructor)); done)
    · rfl
    refine lY (yM rfl) rfl ?_
    refine lY (y_sub rfl rfl (by omega) (by omega)) rfl ?_
    refine lY (y_indexAddr rfl rfl (hE.t rfl) (by omega) (by omega)) rfl ?_
    refine l_eq 32 _ rfl (ptr_last (L := rls Es)) ?_
    refine lY (yA rfl) rfl ?_
    refine l_nil (aT ?_)
    refine w_seq (wR ?_)
    refine lY (yM rfl) rfl ?_
    refine lY (y_nilCheck rfl) rfl ?_
    refine lY (yF rfl (hE.t rfl) rfl) rfl ?_
    apply lY
    · (apply y_load rfl (hE.t rfl) rfl; (repeat (first | rfl | assumption | exact ap_0 | exact ap_1 | exact ap_2 | exact ap_3 | exact ap_4 | exact ap_5 | exact ap_6 | exact ap_7 | constructor)); done)
    · rfl
    refine lY (yM rfl) rfl ?_
    refine lY (y_sub rfl rfl (by omega) (by omega)) rfl ?_
    refine l_eq 38 (.int .i64 ((f.hv - t' : Nat) : Int)) rfl (int_eq (by omega)) ?_
    refine lY (y_nilCheck rfl) rfl ?_
    refine lY (yF rfl (hE.t rfl) rfl) rfl ?_
    apply lL (by kernel_rfl) rfl
    (first | (apply ld_store rfl rfl (hE.t rfl) rfl; (focus ((repeat constructor); done)); (focus rfl); (focus (first | exact Nat.le_of_ble_eq_true rfl | (simp only [cellsL, List.length_append, List.length_cons, List.length_nil]; omega)))) | (apply ld_store_sl rfl rfl (hE.t rfl) rfl; (focus ((repeat constructor); done)); (focus rfl); (focus (first | omega | (simp only [cellsL, length_setMany, List.length_cons, List.length_nil]; omega)))))
    try simp only [cellsL, sm_0, sm_1, sm_2, sm_3, sm_4, sm_5, sm_6, sm_7]
    refine l_nil (aT ?_)
    refine w_seq (w_seq (wR ?_))
    refine lY (yM rfl) rfl ?_
    refine lY (y_nilCheck rfl) rfl ?_
    refine lY (yF rfl (hE.t rfl) rfl) rfl ?_
    apply lY
    · (apply y_load rfl (hE.t rfl) rfl; (repeat (first | rfl | assumption | exact ap_0 | exact ap_1 | exact ap_2 | exact ap_3 | exact ap_4 | exact ap_5 | exact ap_6 | exact ap_7 | constructor)); done)
    · rfl
    refine lY (y_gt rfl rfl) rfl ?_
    refine l_nil (aT ?_)
    refine w_cond_d rfl (fun h5 => ?_) (fun h5 => ?_)
    · skip
      have hlt : t' < f.hv := by omega
      have hlk : Lk (rls Es) bh root (childR bh (f.hv - t') r) (gs ++ [⟨f.id, f.hv - t'⟩]) := .snoc l1 l2 l3 l4 (by omega) (by omega)
      have hdn := ct_down (pp := pp) (s := s) (tb := tb) (most := most) (b := b) (c := c) (k := 0) (pre := pre) (suf := suf) (bt := bt) (p := some ⟨g, 0, none⟩) hE hB hs hlk hll
      rw [List.length_append, List.length_singleton, pathC_snoc] at hdn
      simp only at hdn
      skip
      refine w_seq ?_
      refine w_until 11 ([cells b (pre ++ .pointer (some ⟨pp, 0, none⟩) :: .bool bh :: .slice (some ⟨g, 0, none⟩) (gs.length + 1) c :: .int .i64 (0 : Nat) :: .int .u64 (0 : Nat) :: suf) bt, sl (some ⟨g, 0, none⟩) c 160 8 (gs.length + 1) (pathC (rls Es) gs ++ .int .i64 (f.id : Nat) :: .int .i64 (Rl.kind (rlAt (rls Es) f.id) : Nat) :: .int .u8 (Rl.byte (rlAt (rls Es) f.id) : Nat) :: .int .i64 (Rl.left (rlAt (rls Es) f.id) : Nat) :: .int .i64 (Rl.right (rlAt (rls Es) f.id) : Nat) :: .int .i64 (Rl.times (rlAt (rls Es) f.id) : Nat) :: .int .i64 (lvl (rls Es) f.id) :: .int .i64 ((f.hv - t') : Nat) :: [])]) ?_ ?_
      · (apply ent; (repeat constructor); done)
      apply m_take 0 rfl
      · exact yM rfl
      · with_reducible (repeat (first | exact cB | apply cT | apply cK))
      · kernel_rfl
      · rfl
      apply m_take 1 rfl
      · exact yM rfl
      · with_reducible (repeat (first | exact cB | apply cT | apply cK))
      · kernel_rfl
      · rfl
      apply m_take 2 rfl
      · exact y_nilCheck rfl
      · with_reducible (repeat (first | exact cB | apply cT | apply cK))
      · kernel_rfl
      · rfl
      apply m_take 3 rfl
      · (apply y_load_agg rfl (hE.t rfl) rfl; (repeat (first | rfl | assumption | exact ap_0 | exact ap_1 | exact ap_2 | exact ap_3 | exact ap_4 | exact ap_5 | exact ap_6 | exact ap_7 | constructor)); done)
      · with_reducible (repeat (first | exact cB | apply cT | apply cK))
      · kernel_rfl
      · rfl
      apply m_one 4 rfl (by kernel_rfl)
      · exact yM rfl
      · rfl
      apply m_one 5 rfl (by kernel_rfl)
      · exact y_nilCheck rfl
      · rfl
      apply m_one 6 rfl (by kernel_rfl)
      · exact yF rfl (hE.t rfl) rfl
      · rfl
      apply m_one 7 rfl (by kernel_rfl)
      · (apply y_load rfl (hE.t rfl) rfl; (repeat (first | rfl | assumption | exact ap_0 | exact ap_1 | exact ap_2 | exact ap_3 | exact ap_4 | exact ap_5 | exact ap_6 | exact ap_7 | constructor)); done)
      · rfl
      apply m_loud 8 rfl (by kernel_rfl) rfl
      apply ld_call (ct_child (r := rlAt (rls Es) f.id) hE hnl) rfl (hE.f (by kernel_rfl))
      · ((repeat constructor); done)
      rw [er]
      rintro _ _ ⟨rfl, rfl⟩
      simp only [List.cons_append, List.nil_append]
      refine ⟨by (apply ent; (repeat constructor); done), ?_⟩
      apply m_one 9 rfl (by kernel_rfl)
      · exact y_nilCheck rfl
      · rfl
      apply m_one 10 rfl (by kernel_rfl)
      · exact yF rfl (hE.t rfl) rfl
      · rfl
      apply m_last rfl (by kernel_rfl) (by kernel_rfl) rfl
      (first | (apply ld_store rfl rfl (hE.t rfl) rfl; (focus ((repeat constructor); done)); (focus rfl); (focus (first | exact Nat.le_of_ble_eq_true rfl | (simp only [cellsL, List.length_append, List.length_cons, List.length_nil]; omega)))) | (apply ld_store_sl rfl rfl (hE.t rfl) rfl; (focus ((repeat constructor); done)); (focus rfl); (focus (first | omega | (simp only [cellsL, length_setMany, List.length_cons, List.length_nil]; omega)))))
      try simp only [cellsL, sm_0, sm_1, sm_2, sm_3, sm_4, sm_5, sm_6, sm_7]
      refine aT ?_
      rw [← er] at hdn ⊢
      refine w_seq (wR ?_)
      refine lY (yM rfl) rfl ?_
      refine lY (yM rfl) rfl ?_
      apply lL (by kernel_rfl) rfl
      apply ld_call (hdn) rfl (hE.f (by kernel_rfl))
      · ((repeat constructor); done)
      rintro _ _ ⟨x', gs', p', c', rfl, q1, q2, rfl⟩
      simp only [List.cons_append, List.nil_append]
      refine l_nil (aT (w_ret (a_then_ret (a_block_ret (a_then_ret (a_then_ret (a_block_ret ?_)))))))
      apply a_ret
      · rfl
      · (exact Rs.nil)
      · exact ⟨x', gs', p', c', rfl, h4 x' gs' (.last hlt q1 q2), rfl⟩
      · (apply ent; (repeat constructor); done)
    · skip
      refine w_skip (aT ?_)
      refine w_seq (wR ?_)
      refine lY (yM rfl) rfl ?_
      refine lY (yM rfl) rfl ?_
      refine lY (y_nilCheck rfl) rfl ?_
      refine lY (yF rfl (hE.t rfl) rfl) rfl ?_
      apply lY
      · (apply y_load rfl (hE.t rfl) rfl; (repeat (first | rfl | assumption | exact ap_0 | exact ap_1 | exact ap_2 | exact ap_3 | exact ap_4 | exact ap_5 | exact ap_6 | exact ap_7 | constructor)); done)
      · rfl
      refine lY (yM rfl) rfl ?_
      refine lY (y_sub rfl rfl (by omega) (by omega)) rfl ?_
      refine l_eq 66 (.int .i64 (gs.length : Nat)) rfl (int_eq (by omega)) ?_
      skip
      refine lY (y_slice_hi _ rfl rfl (hE.t rfl) rfl (by omega)) rfl ?_
      refine lY (y_nilCheck rfl) rfl ?_
      refine lY (yF rfl (hE.t rfl) rfl) rfl ?_
      apply lL (by kernel_rfl) rfl
      (first | (apply ld_store rfl rfl (hE.t rfl) rfl; (focus ((repeat constructor); done)); (focus rfl); (focus (first | exact Nat.le_of_ble_eq_true rfl | (simp only [cellsL, List.length_append, List.length_cons, List.length_nil]; omega)))) | (apply ld_store_sl rfl rfl (hE.t rfl) rfl; (focus ((repeat constructor); done)); (focus rfl); (focus (first | omega | (simp only [cellsL, length_setMany, List.length_cons, List.length_nil]; omega)))))
      try simp only [cellsL, sm_0, sm_1, sm_2, sm_3, sm_4, sm_5, sm_6, sm_7]
      refine l_nil (aT (wR ?_))
      refine lY (yA rfl) rfl ?_
      refine l_nil (a_block (aT (wR ?_)))
      refine lY (yM rfl) rfl ?_
      refine lY (y_nilCheck rfl) rfl ?_
      refine lY (yF rfl (hE.t rfl) rfl) rfl ?_
      apply lY
      · (apply y_load rfl (hE.t rfl) rfl; (repeat (first | rfl | assumption | exact ap_0 | exact ap_1 | exact ap_2 | exact ap_3 | exact ap_4 | exact ap_5 | exact ap_6 | exact ap_7 | constructor)); done)
      · rfl
      refine lY (y_len_slice rfl (hE.t rfl)) rfl ?_
      refine lY (yA rfl) rfl ?_
      refine l_nil ?_
      have okf := l1.ok hw hs
      refine a_round (ι := DpG) (j := ⟨f.id, 1, gs⟩) ⟨l1, ⟨Nat.le_refl _, fun _ => rfl, fun g2 f2 e => ⟨by subst e; obtain ⟨_, _, _, _, _, q, _, _⟩ := l1.inv; exact q, .inl rfl⟩⟩, hgc, fun x' gs' h => h4 x' gs' (.pop (by omega) h)⟩ (by show gs.length < gs.length + 1; omega) ⟨rfl, rfl, rfl, rfl, trivial⟩ ?_
      refine ent_trans (ent_head (p := sl (some ⟨g, 0, none⟩) c 160 8 (gs.length + 1) (pathC (rls Es) gs ++ .int .i64 (f.id : Nat) :: .int .i64 (Rl.kind (rlAt (rls Es) f.id) : Nat) :: .int .u8 (Rl.byte (rlAt (rls Es) f.id) : Nat) :: .int .i64 (Rl.left (rlAt (rls Es) f.id) : Nat) :: .int .i64 (Rl.right (rlAt (rls Es) f.id) : Nat) :: .int .i64 (Rl.times (rlAt (rls Es) f.id) : Nat) :: .int .i64 (lvl (rls Es) f.id) :: .int .i64 ((f.hv - t') : Nat) :: [])) (p' := sl (some ⟨g, 0, none⟩) c 160 8 gs.length (pathC (rls Es) gs)) (by ((repeat constructor); done)) (sl_cut (by omega) (by rw [← pathC_length (rls Es) gs, List.take_left']; rfl) (by simp))) ?_
      (apply ent; (repeat constructor); done)
  · exfalso; omega
end Go.Proofs.YtekhbjlplfbdkaaGreatDoor
