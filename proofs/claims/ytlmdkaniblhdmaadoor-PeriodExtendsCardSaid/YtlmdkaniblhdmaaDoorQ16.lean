/- Package period: Extend; the reference; evergreenlaw28.PeriodExtends. -/
import Derived.Test.YtlmdkaniblhdmaaDoorQ15
import Derived.Laws.StructEq
set_option linter.unusedVariables false
set_option linter.unusedSimpArgs false
namespace Go.Proofs.YtlmdkaniblhdmaaDoor
open Go Go.RowKit Sl Eg
set_option maxRecDepth 10000
variable {E : Env} {Es : List Ent} {pp tb s most : Nat}
theorem ct_Valid (hE : Seat E) {n : Int} : Ct E 123 [.int .i64 n] [] (fun v Q => v = .bool (decide (0 ≤ n ∧ n ≤ 1152921504606846976)) ∧ Q = []) := by
  refine fn_enter (hE.fn Tryd.func123) rfl rfl rfl (fun R => ?_)
  simp only [argsL, List.cons_append, List.nil_append]
  refine w_seq ?_
  refine w_region ?_
  apply l_yield
  · exact y_assign rfl
  · rfl
  refine l_nil ?_
  refine a_then ?_
  refine w_seq ?_
  refine w_region ?_
  apply l_yield
  · exact y_move rfl
  · rfl
  apply l_yield
  · exact y_ge rfl rfl
  · rfl
  apply l_yield
  · exact y_move rfl
  · rfl
  refine l_split 5 rfl (fun h1 => ?_) (fun h1 => ?_)
  · skip
    refine l_on rfl rfl ?_
    apply l_yield
    · exact y_move rfl
    · rfl
    refine l_on rfl rfl ?_
    apply l_yield
    · exact y_le rfl rfl
    · rfl
    apply l_yield
    · (first | exact y_pick_t rfl rfl | exact y_pick_f rfl rfl)
    · rfl
    apply l_yield
    · exact y_assign rfl
    · rfl
    refine l_nil ?_
    refine a_then ?_
    refine w_ret ?_
    apply a_ret
    · rfl
    · (repeat (first | exact Rs.nil | apply Rs.tmp rfl | (apply Rs.cell rfl (hE.t rfl) rfl; (focus ((repeat (first | exact HasCs.nil | (apply HasCs.cons; (focus ((repeat (first | exact HasC.here rfl | exact HasC.slice rfl | (apply HasC.here; assumption) | (apply HasC.slice; assumption) | apply HasC.there)); done))))); done))) | (apply Rs.cell1 rfl (hE.t rfl) rfl; (focus ((repeat (first | exact HasC.here rfl | exact HasC.slice rfl | (apply HasC.here; assumption) | (apply HasC.slice; assumption) | apply HasC.there)); done)))))
    · exact ⟨by simp [one, h1], rfl⟩
    · (apply ent; (repeat (first | exact Sub.nil | exact Take.here | apply Take.there | apply Sub.cons)); done)
  · skip
    refine l_off rfl rfl rfl rfl ?_
    refine l_off rfl rfl rfl rfl ?_
    apply l_yield
    · (first | exact y_pick_t rfl rfl | exact y_pick_f rfl rfl)
    · rfl
    apply l_yield
    · exact y_assign rfl
    · rfl
    refine l_nil ?_
    refine a_then ?_
    refine w_ret ?_
    apply a_ret
    · rfl
    · (repeat (first | exact Rs.nil | apply Rs.tmp rfl | (apply Rs.cell rfl (hE.t rfl) rfl; (focus ((repeat (first | exact HasCs.nil | (apply HasCs.cons; (focus ((repeat (first | exact HasC.here rfl | exact HasC.slice rfl | (apply HasC.here; assumption) | (apply HasC.slice; assumption) | apply HasC.there)); done))))); done))) | (apply Rs.cell1 rfl (hE.t rfl) rfl; (focus ((repeat (first | exact HasC.here rfl | exact HasC.slice rfl | (apply HasC.here; assumption) | (apply HasC.slice; assumption) | apply HasC.there)); done)))))
    · exact ⟨by simp only [one]; congr 1; exact (decide_eq_false (by omega)).symm, rfl⟩
    · (apply ent; (repeat (first | exact Sub.nil | exact Take.here | apply Take.there | apply Sub.cons)); done)
/-- Does the range lie within? -/
def inR_ (l : Nat) (p n : Int) : Prop := 0 ≤ p ∧ 0 ≤ n ∧ p + n ≤ (l : Nat)
instance (l : Nat) (p n : Int) : Decidable (inR_ l p n) := inferInstanceAs (Decidable (_ ∧ _))
theorem ct_Range (hE : Seat E) {l : Nat} {p n : Int} (hl : l ≤ 1152921504606846976) : Ct E 82 [.int .i64 p, .int .i64 n, .int .i64 (l : Nat)] [] (fun v Q => v = (if inR_ l p n then .nilIface else .iface 38 (.int .i64 1)) ∧ Q = []) := by
  refine fn_enter (hE.fn Tryd.func82) rfl rfl rfl (fun R => ?_)
  simp only [argsL, List.cons_append, List.nil_append]
  refine w_seq ?_
  refine w_region ?_
  apply l_yield
  · exact y_assign rfl
  · rfl
  refine l_nil ?_
  refine a_then ?_
  refine w_seq ?_
  refine w_seq ?_
  refine w_region ?_
  apply l_yield
  · exact y_move rfl
  · rfl
  apply l_loud (by kernel_rfl) rfl
  apply ld_call (ct_Valid hE) rfl (hE.f (by kernel_rfl))
  · ((repeat (first | exact Sub.nil | exact Take.here | apply Take.there | apply Sub.cons)); done)
  rintro _ _ ⟨rfl, rfl⟩
  simp only [List.cons_append, List.nil_append]
  rw [decide_eq_true (show (0 : Int) ≤ (l : Nat) ∧ ((l : Nat) : Int) ≤ 1152921504606846976 by omega)]
  apply l_yield
  · exact y_not rfl
  · rfl
  apply l_yield
  · exact y_move rfl
  · rfl
  skip
  refine l_on rfl rfl ?_
  apply l_yield
  · exact y_move rfl
  · rfl
  refine l_on rfl rfl ?_
  apply l_yield
  · exact y_lt rfl rfl
  · rfl
  apply l_yield
  · (first | exact y_pick_t rfl rfl | exact y_pick_f rfl rfl)
  · rfl
  apply l_yield
  · exact y_move rfl
  · rfl
  refine l_split 14 rfl (fun h1 => ?_) (fun h1 => ?_)
  · skip
    refine l_off rfl rfl rfl rfl ?_
    refine l_off rfl rfl rfl rfl ?_
    apply l_yield
    · (first | exact y_pick_t rfl rfl | exact y_pick_f rfl rfl)
    · rfl
    apply l_yield
    · exact y_move rfl
    · rfl
    skip
    refine l_off rfl rfl rfl rfl ?_
    refine l_off rfl rfl rfl rfl ?_
    refine l_off rfl rfl rfl rfl ?_
    apply l_yield
    · (first | exact y_pick_t rfl rfl | exact y_pick_f rfl rfl)
    · rfl
    apply l_yield
    · exact y_move rfl
    · rfl
    skip
    refine l_off rfl rfl rfl rfl ?_
    refine l_off rfl rfl rfl rfl ?_
    refine l_off rfl rfl rfl rfl ?_
    refine l_off rfl rfl rfl rfl ?_
    refine l_off rfl rfl rfl rfl ?_
    apply l_yield
    · (first | exact y_pick_t rfl rfl | exact y_pick_f rfl rfl)
    · rfl
    refine l_nil ?_
    refine a_then ?_
    refine w_cond_t rfl ?_
    refine w_seq ?_
    refine w_region ?_
    apply l_yield
    · exact y_iface rfl (hE.t rfl) rfl
    · rfl
    apply l_yield
    · exact y_assign rfl
    · rfl
    refine l_nil ?_
    refine a_then ?_
    refine w_ret ?_
    refine a_then_ret ?_
    apply a_ret
    · rfl
    · (repeat (first | exact Rs.nil | apply Rs.tmp rfl | (apply Rs.cell rfl (hE.t rfl) rfl; (focus ((repeat (first | exact HasCs.nil | (apply HasCs.cons; (focus ((repeat (first | exact HasC.here rfl | exact HasC.slice rfl | (apply HasC.here; assumption) | (apply HasC.slice; assumption) | apply HasC.there)); done))))); done))) | (apply Rs.cell1 rfl (hE.t rfl) rfl; (focus ((repeat (first | exact HasC.here rfl | exact HasC.slice rfl | (apply HasC.here; assumption) | (apply HasC.slice; assumption) | apply HasC.there)); done)))))
    · refine ⟨?_, rfl⟩
      rw [if_neg (by unfold inR_; omega)]
      rfl
    · (apply ent; (repeat (first | exact Sub.nil | exact Take.here | apply Take.there | apply Sub.cons)); done)
  skip
  refine l_on rfl rfl ?_
  apply l_yield
  · exact y_move rfl
  · rfl
  refine l_on rfl rfl ?_
  apply l_yield
  · exact y_lt rfl rfl
  · rfl
  apply l_yield
  · (first | exact y_pick_t rfl rfl | exact y_pick_f rfl rfl)
  · rfl
  apply l_yield
  · exact y_move rfl
  · rfl
  refine l_split 18 rfl (fun h2 => ?_) (fun h2 => ?_)
  · skip
    refine l_off rfl rfl rfl rfl ?_
    refine l_off rfl rfl rfl rfl ?_
    refine l_off rfl rfl rfl rfl ?_
    apply l_yield
    · (first | exact y_pick_t rfl rfl | exact y_pick_f rfl rfl)
    · rfl
    apply l_yield
    · exact y_move rfl
    · rfl
    skip
    refine l_off rfl rfl rfl rfl ?_
    refine l_off rfl rfl rfl rfl ?_
    refine l_off rfl rfl rfl rfl ?_
    refine l_off rfl rfl rfl rfl ?_
    refine l_off rfl rfl rfl rfl ?_
    apply l_yield
    · (first | exact y_pick_t rfl rfl | exact y_pick_f rfl rfl)
    · rfl
    refine l_nil ?_
    refine a_then ?_
    refine w_cond_t rfl ?_
    refine w_seq ?_
    refine w_region ?_
    apply l_yield
    · exact y_iface rfl (hE.t rfl) rfl
    · rfl
    apply l_yield
    · exact y_assign rfl
    · rfl
    refine l_nil ?_
    refine a_then ?_
    refine w_ret ?_
    refine a_then_ret ?_
    apply a_ret
    · rfl
    · (repeat (first | exact Rs.nil | apply Rs.tmp rfl | (apply Rs.cell rfl (hE.t rfl) rfl; (focus ((repeat (first | exact HasCs.nil | (apply HasCs.cons; (focus ((repeat (first | exact HasC.here rfl | exact HasC.slice rfl | (apply HasC.here; assumption) | (apply HasC.slice; assumption) | apply HasC.there)); done))))); done))) | (apply Rs.cell1 rfl (hE.t rfl) rfl; (focus ((repeat (first | exact HasC.here rfl | exact HasC.slice rfl | (apply HasC.here; assumption) | (apply HasC.slice; assumption) | apply HasC.there)); done)))))
    · refine ⟨?_, rfl⟩
      rw [if_neg (by unfold inR_; omega)]
      rfl
    · (apply ent; (repeat (first | exact Sub.nil | exact Take.here | apply Take.there | apply Sub.cons)); done)
  skip
  refine l_on rfl rfl ?_
  apply l_yield
  · exact y_move rfl
  · rfl
  refine l_on rfl rfl ?_
  apply l_yield
  · exact y_move rfl
  · rfl
  refine l_on rfl rfl ?_
  apply l_yield
  · exact y_gt rfl rfl
  · rfl
  apply l_yield
  · (first | exact y_pick_t rfl rfl | exact y_pick_f rfl rfl)
  · rfl
  apply l_yield
  · exact y_move rfl
  · rfl
  refine l_split 23 rfl (fun h3 => ?_) (fun h3 => ?_)
  · skip
    refine l_off rfl rfl rfl rfl ?_
    refine l_off rfl rfl rfl rfl ?_
    refine l_off rfl rfl rfl rfl ?_
    refine l_off rfl rfl rfl rfl ?_
    refine l_off rfl rfl rfl rfl ?_
    apply l_yield
    · (first | exact y_pick_t rfl rfl | exact y_pick_f rfl rfl)
    · rfl
    refine l_nil ?_
    refine a_then ?_
    refine w_cond_t rfl ?_
    refine w_seq ?_
    refine w_region ?_
    apply l_yield
    · exact y_iface rfl (hE.t rfl) rfl
    · rfl
    apply l_yield
    · exact y_assign rfl
    · rfl
    refine l_nil ?_
    refine a_then ?_
    refine w_ret ?_
    refine a_then_ret ?_
    apply a_ret
    · rfl
    · (repeat (first | exact Rs.nil | apply Rs.tmp rfl | (apply Rs.cell rfl (hE.t rfl) rfl; (focus ((repeat (first | exact HasCs.nil | (apply HasCs.cons; (focus ((repeat (first | exact HasC.here rfl | exact HasC.slice rfl | (apply HasC.here; assumption) | (apply HasC.slice; assumption) | apply HasC.there)); done))))); done))) | (apply Rs.cell1 rfl (hE.t rfl) rfl; (focus ((repeat (first | exact HasC.here rfl | exact HasC.slice rfl | (apply HasC.here; assumption) | (apply HasC.slice; assumption) | apply HasC.there)); done)))))
    · refine ⟨?_, rfl⟩
      rw [if_neg (by unfold inR_; omega)]
      rfl
    · (apply ent; (repeat (first | exact Sub.nil | exact Take.here | apply Take.there | apply Sub.cons)); done)
  skip
  refine l_on rfl rfl ?_
  apply l_yield
  · exact y_move rfl
  · rfl
  refine l_on rfl rfl ?_
  apply l_yield
  · exact y_move rfl
  · rfl
  refine l_on rfl rfl ?_
  apply l_yield
  · exact y_move rfl
  · rfl
  refine l_on rfl rfl ?_
  apply l_yield
  · exact y_sub rfl rfl (by omega) (by omega)
  · rfl
  refine l_on rfl rfl ?_
  apply l_yield
  · exact y_gt rfl rfl
  · rfl
  apply l_yield
  · (first | exact y_pick_t rfl rfl | exact y_pick_f rfl rfl)
  · rfl
  refine l_nil ?_
  refine a_then ?_
  refine w_cond_d rfl (fun h4 => ?_) (fun h4 => ?_)
  · skip
    refine w_seq ?_
    refine w_region ?_
    apply l_yield
    · exact y_iface rfl (hE.t rfl) rfl
    · rfl
    apply l_yield
    · exact y_assign rfl
    · rfl
    refine l_nil ?_
    refine a_then ?_
    refine w_ret ?_
    refine a_then_ret ?_
    apply a_ret
    · rfl
    · (repeat (first | exact Rs.nil | apply Rs.tmp rfl | (apply Rs.cell rfl (hE.t rfl) rfl; (focus ((repeat (first | exact HasCs.nil | (apply HasCs.cons; (focus ((repeat (first | exact HasC.here rfl | exact HasC.slice rfl | (apply HasC.here; assumption) | (apply HasC.slice; assumption) | apply HasC.there)); done))))); done))) | (apply Rs.cell1 rfl (hE.t rfl) rfl; (focus ((repeat (first | exact HasC.here rfl | exact HasC.slice rfl | (apply HasC.here; assumption) | (apply HasC.slice; assumption) | apply HasC.there)); done)))))
    · refine ⟨?_, rfl⟩
      rw [if_neg (by unfold inR_; omega)]
      rfl
    · (apply ent; (repeat (first | exact Sub.nil | exact Take.here | apply Take.there | apply Sub.cons)); done)
  skip
  refine w_skip ?_
  refine a_then ?_
  refine w_seq ?_
  refine w_region ?_
  apply l_yield
  · exact y_assign rfl
  · rfl
  refine l_nil ?_
  refine a_then ?_
  refine w_ret ?_
  apply a_ret
  · rfl
  · (repeat (first | exact Rs.nil | apply Rs.tmp rfl | (apply Rs.cell rfl (hE.t rfl) rfl; (focus ((repeat (first | exact HasCs.nil | (apply HasCs.cons; (focus ((repeat (first | exact HasC.here rfl | exact HasC.slice rfl | (apply HasC.here; assumption) | (apply HasC.slice; assumption) | apply HasC.there)); done))))); done))) | (apply Rs.cell1 rfl (hE.t rfl) rfl; (focus ((repeat (first | exact HasC.here rfl | exact HasC.slice rfl | (apply HasC.here; assumption) | (apply HasC.slice; assumption) | apply HasC.there)); done)))))
  · refine ⟨?_, rfl⟩
    rw [if_pos (by unfold inR_; omega)]
    rfl
  · (apply ent; (repeat (first | exact Sub.nil | exact Take.here | apply Take.there | apply Sub.cons)); done)
/-- Extend: the range and the error's number. -/
def extR (T : List UInt8) (p n d : Int) : (Nat × Nat) × Nat := if d < 1 ∨ ¬ inR_ T.length p n ∨ n < d then ((0, 0), 1) else if Eg.aft T p.toNat d.toNat < n.toNat - d.toNat then ((0, 0), 5) else ((p.toNat - bef T p.toNat d.toNat, bef T p.toNat d.toNat + d.toNat + Eg.aft T p.toNat d.toNat), 0)
theorem extR_no {T : List UInt8} {p n d : Int} (h : d < 1 ∨ ¬ inR_ T.length p n ∨ n < d) : extR T p n d = ((0, 0), 1) := if_pos h
theorem extR_none {T : List UInt8} {p n d : Nat} (h1 : 1 ≤ d) (h2 : p + n ≤ T.length) (h3 : d ≤ n) (h4 : Eg.aft T p d < n - d) : extR T (p : Nat) (n : Nat) (d : Nat) = ((0, 0), 5) := by
  unfold extR
  rw [if_neg (by unfold inR_; omega)]
  simp only [Int.toNat_natCast]
  rw [if_pos h4]
theorem extR_some {T : List UInt8} {p n d : Nat} (h1 : 1 ≤ d) (h2 : p + n ≤ T.length) (h3 : d ≤ n) (h4 : ¬ Eg.aft T p d < n - d) : extR T (p : Nat) (n : Nat) (d : Nat) = ((p - bef T p d, bef T p d + d + Eg.aft T p d), 0) := by
  unfold extR
  rw [if_neg (by unfold inR_; omega)]
  simp only [Int.toNat_natCast]
  rw [if_neg h4]
theorem ct_Extend (hE : Seat E) (hB : Base E.w0) {i : Nat} {p n d : Int} (hi : good (rls Es) i) (hs : len (rls Es) i < 4194304) : Ct E 38 [.pointer (some ⟨pp, 0, none⟩), .int .i64 (i : Nat), .int .i64 p, .int .i64 n, .int .i64 d] [cells pp [.pointer (some ⟨s, 0, none⟩), .pointer (some ⟨tb, 0, none⟩)] 108, tabP tb s (rls Es), storeP s most Es]
    (fun v Q => v = .tuple #[.agg #[.int .i64 ((extR (txt (rls Es) i) p n d).1.1 : Nat), .int .i64 ((extR (txt (rls Es) i) p n d).1.2 : Nat)], errV (extR (txt (rls Es) i) p n d).2] ∧ Q = [cells pp [.pointer (some ⟨s, 0, none⟩), .pointer (some ⟨tb, 0, none⟩)] 108, tabP tb s (rls Es), storeP s most Es]) := by
  have hl : len (rls Es) i = (txt (rls Es) i).length := rfl
  refine fn_enter (hE.fn Tryd.func38) rfl rfl rfl (fun R => ?_)
  simp only [argsL, List.cons_append, List.nil_append]
  refine w_seq ?_
  refine w_region ?_
  apply l_loud (by kernel_rfl) rfl
  refine ld_alloc (hE.t rfl) (fun b10 => ?_)
  apply l_yield
  · exact y_assign rfl
  · rfl
  refine l_nil ?_
  refine a_then ?_
  refine w_seq ?_
  refine w_region ?_
  apply l_yield
  · exact y_move rfl
  · rfl
  apply l_yield
  · exact y_move rfl
  · rfl
  apply l_loud (by kernel_rfl) rfl
  apply ld_call (ct_pcheck hE hB hi) rfl (hE.f (by kernel_rfl))
  · ((repeat (first | exact Sub.nil | exact Take.here | apply Take.there | apply Sub.cons)); done)
  rintro _ _ ⟨rfl, rfl⟩
  simp only [List.cons_append, List.nil_append]
  apply l_yield
  · exact y_move rfl
  · rfl
  apply l_yield
  · exact y_extract rfl rfl
  · rfl
  apply l_yield
  · exact y_extract rfl rfl
  · rfl
  apply l_yield
  · exact y_assign rfl
  · rfl
  apply l_yield
  · exact y_assign rfl
  · rfl
  refine l_nil ?_
  refine a_then ?_
  refine w_seq ?_
  refine w_seq ?_
  refine w_region ?_
  apply l_yield
  · exact y_move rfl
  · rfl
  apply l_yield
  · (first | exact y_ok_ne rfl (hE.t rfl) | exact y_err_ne rfl (hE.t rfl))
  · rfl
  refine l_nil ?_
  refine a_then ?_
  refine w_cond_f rfl ?_
  refine w_skip ?_
  refine a_then ?_
  refine w_seq ?_
  refine w_seq ?_
  refine w_region ?_
  apply l_yield
  · exact y_move rfl
  · rfl
  apply l_yield
  · exact y_lt rfl rfl
  · rfl
  apply l_yield
  · exact y_move rfl
  · rfl
  refine l_split 28 rfl (fun h1 => ?_) (fun h1 => ?_)
  · skip
    refine l_off rfl rfl rfl rfl ?_
    refine l_off rfl rfl rfl rfl ?_
    refine l_off rfl rfl rfl rfl ?_
    refine l_off rfl rfl rfl rfl ?_
    refine l_off rfl rfl rfl rfl ?_
    apply l_yield
    · (first | exact y_pick_t rfl rfl | exact y_pick_f rfl rfl)
    · rfl
    apply l_yield
    · exact y_move rfl
    · rfl
    skip
    refine l_off rfl rfl rfl rfl ?_
    refine l_off rfl rfl rfl rfl ?_
    refine l_off rfl rfl rfl rfl ?_
    apply l_yield
    · (first | exact y_pick_t rfl rfl | exact y_pick_f rfl rfl)
    · rfl
    refine l_nil ?_
    refine a_then ?_
    refine w_cond_t rfl ?_
    refine w_seq ?_
    refine w_region ?_
    apply l_yield
    · (first | exact y_build (hE.t rfl) rfl rfl | exact y_buildA (hE.t rfl) rfl rfl)
    · rfl
    apply l_yield
    · exact y_iface rfl (hE.t rfl) rfl
    · rfl
    apply l_loud (by kernel_rfl) rfl
    (first | (apply ld_store rfl rfl (hE.t rfl) rfl; (focus ((repeat (first | exact Take.here | apply Take.there)); done)); (focus rfl); (focus (exact Nat.le_of_ble_eq_true rfl))) | (apply ld_store_sl rfl rfl (hE.t rfl) rfl; (focus ((repeat (first | exact Take.here | apply Take.there)); done)); (focus rfl); (focus (first | omega | (simp only [cellsL, List.length_cons, List.length_nil]; omega)))))
    apply l_yield
    · exact y_assign rfl
    · rfl
    refine l_nil ?_
    refine a_then ?_
    refine w_ret ?_
    refine a_then_ret ?_
    apply a_ret
    · rfl
    · (repeat (first | exact Rs.nil | apply Rs.tmp rfl | (apply Rs.cell rfl (hE.t rfl) rfl; (focus ((repeat (first | exact HasCs.nil | (apply HasCs.cons; (focus ((repeat (first | exact HasC.here rfl | exact HasC.slice rfl | (apply HasC.here; assumption) | (apply HasC.slice; assumption) | apply HasC.there)); done))))); done))) | (apply Rs.cell1 rfl (hE.t rfl) rfl; (focus ((repeat (first | exact HasC.here rfl | exact HasC.slice rfl | (apply HasC.here; assumption) | (apply HasC.slice; assumption) | apply HasC.there)); done)))))
    · refine ⟨?_, rfl⟩
      rw [extR_no (by first | omega | (right; left; assumption))]
      rfl
    · (apply ent; (repeat (first | exact Sub.nil | exact Take.here | apply Take.there | apply Sub.cons)); done)
  skip
  refine l_on rfl rfl ?_
  apply l_yield
  · exact y_move rfl
  · rfl
  refine l_on rfl rfl ?_
  apply l_yield
  · exact y_move rfl
  · rfl
  refine l_on rfl rfl ?_
  apply l_yield
  · exact y_move rfl
  · rfl
  refine l_on rfl rfl ?_
  apply l_loud (by kernel_rfl) rfl
  apply ld_call (ct_Range (l := len (rls Es) i) hE (by omega)) rfl (hE.f (by kernel_rfl))
  · ((repeat (first | exact Sub.nil | exact Take.here | apply Take.there | apply Sub.cons)); done)
  rintro _ _ ⟨rfl, rfl⟩
  simp only [List.cons_append, List.nil_append]
  skip
  by_cases h2 : inR_ (len (rls Es) i) p n
  · rw [if_pos h2]
    refine l_on rfl rfl ?_
    apply l_yield
    · (first | exact y_ok_ne rfl (hE.t rfl) | exact y_err_ne rfl (hE.t rfl))
    · rfl
    apply l_yield
    · (first | exact y_pick_t rfl rfl | exact y_pick_f rfl rfl)
    · rfl
    apply l_yield
    · exact y_move rfl
    · rfl
    skip
    refine l_on rfl rfl ?_
    apply l_yield
    · exact y_move rfl
    · rfl
    refine l_on rfl rfl ?_
    apply l_yield
    · exact y_move rfl
    · rfl
    refine l_on rfl rfl ?_
    apply l_yield
    · exact y_lt rfl rfl
    · rfl
    apply l_yield
    · (first | exact y_pick_t rfl rfl | exact y_pick_f rfl rfl)
    · rfl
    refine l_nil ?_
    refine a_then ?_
    refine w_cond_d rfl (fun h3 => ?_) (fun h3 => ?_)
    · skip
      refine w_seq ?_
      refine w_region ?_
      apply l_yield
      · (first | exact y_build (hE.t rfl) rfl rfl | exact y_buildA (hE.t rfl) rfl rfl)
      · rfl
      apply l_yield
      · exact y_iface rfl (hE.t rfl) rfl
      · rfl
      apply l_loud (by kernel_rfl) rfl
      (first | (apply ld_store rfl rfl (hE.t rfl) rfl; (focus ((repeat (first | exact Take.here | apply Take.there)); done)); (focus rfl); (focus (exact Nat.le_of_ble_eq_true rfl))) | (apply ld_store_sl rfl rfl (hE.t rfl) rfl; (focus ((repeat (first | exact Take.here | apply Take.there)); done)); (focus rfl); (focus (first | omega | (simp only [cellsL, List.length_cons, List.length_nil]; omega)))))
      apply l_yield
      · exact y_assign rfl
      · rfl
      refine l_nil ?_
      refine a_then ?_
      refine w_ret ?_
      refine a_then_ret ?_
      apply a_ret
      · rfl
      · (repeat (first | exact Rs.nil | apply Rs.tmp rfl | (apply Rs.cell rfl (hE.t rfl) rfl; (focus ((repeat (first | exact HasCs.nil | (apply HasCs.cons; (focus ((repeat (first | exact HasC.here rfl | exact HasC.slice rfl | (apply HasC.here; assumption) | (apply HasC.slice; assumption) | apply HasC.there)); done))))); done))) | (apply Rs.cell1 rfl (hE.t rfl) rfl; (focus ((repeat (first | exact HasC.here rfl | exact HasC.slice rfl | (apply HasC.here; assumption) | (apply HasC.slice; assumption) | apply HasC.there)); done)))))
      · refine ⟨?_, rfl⟩
        rw [extR_no (by first | omega | (right; left; assumption))]
        rfl
      · (apply ent; (repeat (first | exact Sub.nil | exact Take.here | apply Take.there | apply Sub.cons)); done)
    skip
    have h2' := h2
    unfold inR_ at h2'
    obtain ⟨q, rfl⟩ := Int.eq_ofNat_of_zero_le h2'.1
    obtain ⟨m, rfl⟩ := Int.eq_ofNat_of_zero_le h2'.2.1
    obtain ⟨k, rfl⟩ := Int.eq_ofNat_of_zero_le (show 0 ≤ d by omega)
    have x1 : 1 ≤ k := by omega
    have x2 : q + m ≤ (txt (rls Es) i).length := by omega
    have x3 : k ≤ m := by omega
    have hal := aft_le (T := txt (rls Es) i) (p := q) (d := k)
    have hbl := bef_le (T := txt (rls Es) i) (p := q) (d := k) (by omega)
    refine w_skip ?_
    refine a_then ?_
    refine w_seq ?_
    refine w_region ?_
    apply l_yield
    · exact y_move rfl
    · rfl
    apply l_yield
    · exact y_move rfl
    · rfl
    apply l_yield
    · exact y_move rfl
    · rfl
    apply l_yield
    · exact y_move rfl
    · rfl
    apply l_yield
    · exact y_move rfl
    · rfl
    apply l_yield
    · exact y_move rfl
    · rfl
    apply l_yield
    · exact y_add rfl rfl (by omega) (by omega)
    · rfl
    refine l_eq 49 (.int .i64 ((q + k : Nat) : Int)) rfl (int_eq (by omega)) ?_
    apply l_loud (by kernel_rfl) rfl
    apply ld_call (ct_CommonAt (x := q) (y := q + k) hE hB hi hi (by omega) (by omega)) rfl (hE.f (by kernel_rfl))
    · ((repeat (first | exact Sub.nil | exact Take.here | apply Take.there | apply Sub.cons)); done)
    rintro _ _ ⟨c, rfl, -, e1, rfl⟩
    obtain rfl : c = Eg.aft (txt (rls Es) i) q k := by rw [e1 (by simp only [List.length_drop, tx_length]; omega), tx_f]; rfl
    simp only [List.cons_append, List.nil_append]
    apply l_yield
    · exact y_move rfl
    · rfl
    apply l_yield
    · exact y_extract rfl rfl
    · rfl
    apply l_yield
    · exact y_extract rfl rfl
    · rfl
    apply l_yield
    · exact y_assign rfl
    · rfl
    apply l_yield
    · exact y_assign rfl
    · rfl
    refine l_nil ?_
    refine a_then ?_
    refine w_seq ?_
    refine w_seq ?_
    refine w_region ?_
    apply l_yield
    · exact y_move rfl
    · rfl
    apply l_yield
    · (first | exact y_ok_ne rfl (hE.t rfl) | exact y_err_ne rfl (hE.t rfl))
    · rfl
    refine l_nil ?_
    refine a_then ?_
    refine w_cond_f rfl ?_
    refine w_skip ?_
    refine a_then ?_
    refine w_seq ?_
    refine w_seq ?_
    refine w_region ?_
    apply l_yield
    · exact y_move rfl
    · rfl
    apply l_yield
    · exact y_move rfl
    · rfl
    apply l_yield
    · exact y_move rfl
    · rfl
    apply l_yield
    · exact y_sub rfl rfl (by omega) (by omega)
    · rfl
    apply l_yield
    · exact y_lt rfl rfl
    · rfl
    refine l_nil ?_
    refine a_then ?_
    refine w_cond_d rfl (fun h4 => ?_) (fun h4 => ?_)
    · skip
      refine w_seq ?_
      refine w_region ?_
      apply l_yield
      · (first | exact y_build (hE.t rfl) rfl rfl | exact y_buildA (hE.t rfl) rfl rfl)
      · rfl
      apply l_yield
      · exact y_iface rfl (hE.t rfl) rfl
      · rfl
      apply l_loud (by kernel_rfl) rfl
      (first | (apply ld_store rfl rfl (hE.t rfl) rfl; (focus ((repeat (first | exact Take.here | apply Take.there)); done)); (focus rfl); (focus (exact Nat.le_of_ble_eq_true rfl))) | (apply ld_store_sl rfl rfl (hE.t rfl) rfl; (focus ((repeat (first | exact Take.here | apply Take.there)); done)); (focus rfl); (focus (first | omega | (simp only [cellsL, List.length_cons, List.length_nil]; omega)))))
      apply l_yield
      · exact y_assign rfl
      · rfl
      refine l_nil ?_
      refine a_then ?_
      refine w_ret ?_
      refine a_then_ret ?_
      apply a_ret
      · rfl
      · (repeat (first | exact Rs.nil | apply Rs.tmp rfl | (apply Rs.cell rfl (hE.t rfl) rfl; (focus ((repeat (first | exact HasCs.nil | (apply HasCs.cons; (focus ((repeat (first | exact HasC.here rfl | exact HasC.slice rfl | (apply HasC.here; assumption) | (apply HasC.slice; assumption) | apply HasC.there)); done))))); done))) | (apply Rs.cell1 rfl (hE.t rfl) rfl; (focus ((repeat (first | exact HasC.here rfl | exact HasC.slice rfl | (apply HasC.here; assumption) | (apply HasC.slice; assumption) | apply HasC.there)); done)))))
      · refine ⟨?_, rfl⟩
        rw [extR_none x1 x2 x3 (by omega)]
        rfl
      · (apply ent; (repeat (first | exact Sub.nil | exact Take.here | apply Take.there | apply Sub.cons)); done)
    skip
    refine w_skip ?_
    refine a_then ?_
    refine w_seq ?_
    refine w_region ?_
    apply l_yield
    · exact y_move rfl
    · rfl
    apply l_yield
    · exact y_move rfl
    · rfl
    apply l_yield
    · exact y_move rfl
    · rfl
    apply l_yield
    · exact y_move rfl
    · rfl
    apply l_yield
    · exact y_move rfl
    · rfl
    apply l_yield
    · exact y_move rfl
    · rfl
    apply l_yield
    · exact y_add rfl rfl (by omega) (by omega)
    · rfl
    refine l_eq 71 (.int .i64 ((q + k : Nat) : Int)) rfl (int_eq (by omega)) ?_
    apply l_loud (by kernel_rfl) rfl
    apply ld_call (ct_CommonBefore (x := q) (y := q + k) hE hB hi hi (by omega) (by omega)) rfl (hE.f (by kernel_rfl))
    · ((repeat (first | exact Sub.nil | exact Take.here | apply Take.there | apply Sub.cons)); done)
    rintro _ _ ⟨c, rfl, -, e2, rfl⟩
    obtain rfl : c = bef (txt (rls Es) i) q k := by
      rw [e2 (by simp only [List.length_drop, tx_length]; omega)]
      have et : tx (rls Es) true i = (txt (rls Es) i).reverse := rfl
      unfold bef
      rw [et, hl, ← List.reverse_take, ← List.reverse_take]
    simp only [List.cons_append, List.nil_append]
    apply l_yield
    · exact y_move rfl
    · rfl
    apply l_yield
    · exact y_extract rfl rfl
    · rfl
    apply l_yield
    · exact y_extract rfl rfl
    · rfl
    apply l_yield
    · exact y_assign rfl
    · rfl
    apply l_yield
    · exact y_assign rfl
    · rfl
    refine l_nil ?_
    refine a_then ?_
    refine w_seq ?_
    refine w_seq ?_
    refine w_region ?_
    apply l_yield
    · exact y_move rfl
    · rfl
    apply l_yield
    · (first | exact y_ok_ne rfl (hE.t rfl) | exact y_err_ne rfl (hE.t rfl))
    · rfl
    refine l_nil ?_
    refine a_then ?_
    refine w_cond_f rfl ?_
    refine w_skip ?_
    refine a_then ?_
    refine w_seq ?_
    refine w_region ?_
    apply l_yield
    · exact y_move rfl
    · rfl
    apply l_yield
    · exact y_move rfl
    · rfl
    apply l_yield
    · exact y_sub rfl rfl (by omega) (by omega)
    · rfl
    apply l_yield
    · exact y_move rfl
    · rfl
    apply l_yield
    · exact y_move rfl
    · rfl
    apply l_yield
    · exact y_add rfl rfl (by omega) (by omega)
    · rfl
    apply l_yield
    · exact y_move rfl
    · rfl
    apply l_yield
    · exact y_add rfl rfl (by omega) (by omega)
    · rfl
    apply l_yield
    · (first | exact y_build (hE.t rfl) rfl rfl | exact y_buildA (hE.t rfl) rfl rfl)
    · rfl
    apply l_loud (by kernel_rfl) rfl
    (first | (apply ld_store rfl rfl (hE.t rfl) rfl; (focus ((repeat (first | exact Take.here | apply Take.there)); done)); (focus rfl); (focus (exact Nat.le_of_ble_eq_true rfl))) | (apply ld_store_sl rfl rfl (hE.t rfl) rfl; (focus ((repeat (first | exact Take.here | apply Take.there)); done)); (focus rfl); (focus (first | omega | (simp only [cellsL, List.length_cons, List.length_nil]; omega)))))
    apply l_yield
    · exact y_assign rfl
    · rfl
    refine l_nil ?_
    refine a_then ?_
    refine w_ret ?_
    apply a_ret
    · rfl
    · (repeat (first | exact Rs.nil | apply Rs.tmp rfl | (apply Rs.cell rfl (hE.t rfl) rfl; (focus ((repeat (first | exact HasCs.nil | (apply HasCs.cons; (focus ((repeat (first | exact HasC.here rfl | exact HasC.slice rfl | (apply HasC.here; assumption) | (apply HasC.slice; assumption) | apply HasC.there)); done))))); done))) | (apply Rs.cell1 rfl (hE.t rfl) rfl; (focus ((repeat (first | exact HasC.here rfl | exact HasC.slice rfl | (apply HasC.here; assumption) | (apply HasC.slice; assumption) | apply HasC.there)); done)))))
    · refine ⟨?_, rfl⟩
      rw [extR_some x1 x2 x3 (by omega)]
      rw [show ((q - bef (txt (rls Es) i) q k : Nat) : Int) = (q : Int) - (bef (txt (rls Es) i) q k : Nat) by omega]
      simp only [one, Int.natCast_add]
      rfl
    · (apply ent; (repeat (first | exact Sub.nil | exact Take.here | apply Take.there | apply Sub.cons)); done)
  · skip
    rw [if_neg h2]
    refine l_on rfl rfl ?_
    apply l_yield
    · (first | exact y_ok_ne rfl (hE.t rfl) | exact y_err_ne rfl (hE.t rfl))
    · rfl
    apply l_yield
    · (first | exact y_pick_t rfl rfl | exact y_pick_f rfl rfl)
    · rfl
    apply l_yield
    · exact y_move rfl
    · rfl
    skip
    refine l_off rfl rfl rfl rfl ?_
    refine l_off rfl rfl rfl rfl ?_
    refine l_off rfl rfl rfl rfl ?_
    apply l_yield
    · (first | exact y_pick_t rfl rfl | exact y_pick_f rfl rfl)
    · rfl
    refine l_nil ?_
    refine a_then ?_
    refine w_cond_t rfl ?_
    refine w_seq ?_
    refine w_region ?_
    apply l_yield
    · (first | exact y_build (hE.t rfl) rfl rfl | exact y_buildA (hE.t rfl) rfl rfl)
    · rfl
    apply l_yield
    · exact y_iface rfl (hE.t rfl) rfl
    · rfl
    apply l_loud (by kernel_rfl) rfl
    (first | (apply ld_store rfl rfl (hE.t rfl) rfl; (focus ((repeat (first | exact Take.here | apply Take.there)); done)); (focus rfl); (focus (exact Nat.le_of_ble_eq_true rfl))) | (apply ld_store_sl rfl rfl (hE.t rfl) rfl; (focus ((repeat (first | exact Take.here | apply Take.there)); done)); (focus rfl); (focus (first | omega | (simp only [cellsL, List.length_cons, List.length_nil]; omega)))))
    apply l_yield
    · exact y_assign rfl
    · rfl
    refine l_nil ?_
    refine a_then ?_
    refine w_ret ?_
    refine a_then_ret ?_
    apply a_ret
    · rfl
    · (repeat (first | exact Rs.nil | apply Rs.tmp rfl | (apply Rs.cell rfl (hE.t rfl) rfl; (focus ((repeat (first | exact HasCs.nil | (apply HasCs.cons; (focus ((repeat (first | exact HasC.here rfl | exact HasC.slice rfl | (apply HasC.here; assumption) | (apply HasC.slice; assumption) | apply HasC.there)); done))))); done))) | (apply Rs.cell1 rfl (hE.t rfl) rfl; (focus ((repeat (first | exact HasC.here rfl | exact HasC.slice rfl | (apply HasC.here; assumption) | (apply HasC.slice; assumption) | apply HasC.there)); done)))))
    · refine ⟨?_, rfl⟩
      rw [extR_no (by first | omega | (right; left; assumption))]
      rfl
    · (apply ent; (repeat (first | exact Sub.nil | exact Take.here | apply Take.there | apply Sub.cons)); done)
end Go.Proofs.YtlmdkaniblhdmaaDoor
/- evergreenref28.Extend; evergreenlaw28.PeriodExtends. -/
namespace Go.Proofs.YtlmdkaniblhdmaaDoor
open Go Go.RowKit Sl Eg
set_option maxRecDepth 10000
variable {E : Env} {Es : List Ent} {pp tb s most : Nat}
theorem ct_inside (hE : Seat E) {a : List UInt8} {p n : Int} (ha : a.length ≤ 1152921504606846976) : Ct E 83 [.string ⟨⟨a⟩⟩, .int .i64 p, .int .i64 n] [] (fun v Q => v = .bool (decide (inR_ a.length p n)) ∧ Q = []) := by
  have sa := size_mk a
  refine fn_enter (hE.fn Tryd.func83) rfl rfl rfl (fun R => ?_)
  simp only [argsL, List.cons_append, List.nil_append]
  refine w_seq ?_
  refine w_region ?_
  apply l_yield
  · exact y_assign rfl
  · rfl
  refine l_nil ?_
  refine a_then ?_
  refine w_seq ?_
  refine w_region ?_
  apply l_yield
  · exact y_move rfl
  · rfl
  apply l_yield
  · exact y_ge rfl rfl
  · rfl
  apply l_yield
  · exact y_move rfl
  · rfl
  refine l_split 9 rfl (fun h1 => ?_) (fun h1 => ?_)
  · skip
    refine l_on rfl rfl ?_
    apply l_yield
    · exact y_move rfl
    · rfl
    refine l_on rfl rfl ?_
    apply l_yield
    · exact y_ge rfl rfl
    · rfl
    apply l_yield
    · (first | exact y_pick_t rfl rfl | exact y_pick_f rfl rfl)
    · rfl
    apply l_yield
    · exact y_move rfl
    · rfl
    refine l_split 13 rfl (fun h2 => ?_) (fun h2 => ?_)
    · skip
      refine l_on rfl rfl ?_
      apply l_yield
      · exact y_move rfl
      · rfl
      refine l_on rfl rfl ?_
      apply l_yield
      · exact y_move rfl
      · rfl
      refine l_on rfl rfl ?_
      apply l_yield
      · exact y_len_str rfl (hE.t rfl)
      · rfl
      refine l_on rfl rfl ?_
      apply l_yield
      · exact y_le rfl rfl
      · rfl
      apply l_yield
      · (first | exact y_pick_t rfl rfl | exact y_pick_f rfl rfl)
      · rfl
      apply l_yield
      · exact y_move rfl
      · rfl
      refine l_split 19 rfl (fun h3 => ?_) (fun h3 => ?_)
      · skip
        refine l_on rfl rfl ?_
        apply l_yield
        · exact y_move rfl
        · rfl
        refine l_on rfl rfl ?_
        apply l_yield
        · exact y_move rfl
        · rfl
        refine l_on rfl rfl ?_
        apply l_yield
        · exact y_len_str rfl (hE.t rfl)
        · rfl
        refine l_on rfl rfl ?_
        apply l_yield
        · exact y_move rfl
        · rfl
        refine l_on rfl rfl ?_
        apply l_yield
        · exact y_sub rfl rfl (by omega) (by omega)
        · rfl
        refine l_on rfl rfl ?_
        apply l_yield
        · exact y_le rfl rfl
        · rfl
        apply l_yield
        · (first | exact y_pick_t rfl rfl | exact y_pick_f rfl rfl)
        · rfl
        apply l_yield
        · exact y_assign rfl
        · rfl
        refine l_nil ?_
        refine a_then ?_
        refine w_ret ?_
        apply a_ret
        · rfl
        · (repeat (first | exact Rs.nil | apply Rs.tmp rfl | (apply Rs.cell rfl (hE.t rfl) rfl; (focus ((repeat (first | exact HasCs.nil | (apply HasCs.cons; (focus ((repeat (first | exact HasC.here rfl | exact HasC.slice rfl | (apply HasC.here; assumption) | (apply HasC.slice; assumption) | apply HasC.there)); done))))); done))) | (apply Rs.cell1 rfl (hE.t rfl) rfl; (focus ((repeat (first | exact HasC.here rfl | exact HasC.slice rfl | (apply HasC.here; assumption) | (apply HasC.slice; assumption) | apply HasC.there)); done)))))
        · refine ⟨?_, rfl⟩
          simp only [one]
          congr 1
          exact decide_eq_decide.2 (by unfold inR_; omega)
        · (apply ent; (repeat (first | exact Sub.nil | exact Take.here | apply Take.there | apply Sub.cons)); done)
      · skip
        refine l_off rfl rfl rfl rfl ?_
        refine l_off rfl rfl rfl rfl ?_
        refine l_off rfl rfl rfl rfl ?_
        refine l_off rfl rfl rfl rfl ?_
        refine l_off rfl rfl rfl rfl ?_
        refine l_off rfl rfl rfl rfl ?_
        apply l_yield
        · (first | exact y_pick_t rfl rfl | exact y_pick_f rfl rfl)
        · rfl
        apply l_yield
        · exact y_assign rfl
        · rfl
        refine l_nil ?_
        refine a_then ?_
        refine w_ret ?_
        apply a_ret
        · rfl
        · (repeat (first | exact Rs.nil | apply Rs.tmp rfl | (apply Rs.cell rfl (hE.t rfl) rfl; (focus ((repeat (first | exact HasCs.nil | (apply HasCs.cons; (focus ((repeat (first | exact HasC.here rfl | exact HasC.slice rfl | (apply HasC.here; assumption) | (apply HasC.slice; assumption) | apply HasC.there)); done))))); done))) | (apply Rs.cell1 rfl (hE.t rfl) rfl; (focus ((repeat (first | exact HasC.here rfl | exact HasC.slice rfl | (apply HasC.here; assumption) | (apply HasC.slice; assumption) | apply HasC.there)); done)))))
        · refine ⟨?_, rfl⟩
          rw [decide_eq_false (by unfold inR_; omega)]
          rfl
        · (apply ent; (repeat (first | exact Sub.nil | exact Take.here | apply Take.there | apply Sub.cons)); done)
    · skip
      refine l_off rfl rfl rfl rfl ?_
      refine l_off rfl rfl rfl rfl ?_
      refine l_off rfl rfl rfl rfl ?_
      refine l_off rfl rfl rfl rfl ?_
      apply l_yield
      · (first | exact y_pick_t rfl rfl | exact y_pick_f rfl rfl)
      · rfl
      apply l_yield
      · exact y_move rfl
      · rfl
      skip
      refine l_off rfl rfl rfl rfl ?_
      refine l_off rfl rfl rfl rfl ?_
      refine l_off rfl rfl rfl rfl ?_
      refine l_off rfl rfl rfl rfl ?_
      refine l_off rfl rfl rfl rfl ?_
      refine l_off rfl rfl rfl rfl ?_
      apply l_yield
      · (first | exact y_pick_t rfl rfl | exact y_pick_f rfl rfl)
      · rfl
      apply l_yield
      · exact y_assign rfl
      · rfl
      refine l_nil ?_
      refine a_then ?_
      refine w_ret ?_
      apply a_ret
      · rfl
      · (repeat (first | exact Rs.nil | apply Rs.tmp rfl | (apply Rs.cell rfl (hE.t rfl) rfl; (focus ((repeat (first | exact HasCs.nil | (apply HasCs.cons; (focus ((repeat (first | exact HasC.here rfl | exact HasC.slice rfl | (apply HasC.here; assumption) | (apply HasC.slice; assumption) | apply HasC.there)); done))))); done))) | (apply Rs.cell1 rfl (hE.t rfl) rfl; (focus ((repeat (first | exact HasC.here rfl | exact HasC.slice rfl | (apply HasC.here; assumption) | (apply HasC.slice; assumption) | apply HasC.there)); done)))))
      · refine ⟨?_, rfl⟩
        rw [decide_eq_false (by unfold inR_; omega)]
        rfl
      · (apply ent; (repeat (first | exact Sub.nil | exact Take.here | apply Take.there | apply Sub.cons)); done)
  · skip
    refine l_off rfl rfl rfl rfl ?_
    refine l_off rfl rfl rfl rfl ?_
    apply l_yield
    · (first | exact y_pick_t rfl rfl | exact y_pick_f rfl rfl)
    · rfl
    apply l_yield
    · exact y_move rfl
    · rfl
    skip
    refine l_off rfl rfl rfl rfl ?_
    refine l_off rfl rfl rfl rfl ?_
    refine l_off rfl rfl rfl rfl ?_
    refine l_off rfl rfl rfl rfl ?_
    apply l_yield
    · (first | exact y_pick_t rfl rfl | exact y_pick_f rfl rfl)
    · rfl
    apply l_yield
    · exact y_move rfl
    · rfl
    skip
    refine l_off rfl rfl rfl rfl ?_
    refine l_off rfl rfl rfl rfl ?_
    refine l_off rfl rfl rfl rfl ?_
    refine l_off rfl rfl rfl rfl ?_
    refine l_off rfl rfl rfl rfl ?_
    refine l_off rfl rfl rfl rfl ?_
    apply l_yield
    · (first | exact y_pick_t rfl rfl | exact y_pick_f rfl rfl)
    · rfl
    apply l_yield
    · exact y_assign rfl
    · rfl
    refine l_nil ?_
    refine a_then ?_
    refine w_ret ?_
    apply a_ret
    · rfl
    · (repeat (first | exact Rs.nil | apply Rs.tmp rfl | (apply Rs.cell rfl (hE.t rfl) rfl; (focus ((repeat (first | exact HasCs.nil | (apply HasCs.cons; (focus ((repeat (first | exact HasC.here rfl | exact HasC.slice rfl | (apply HasC.here; assumption) | (apply HasC.slice; assumption) | apply HasC.there)); done))))); done))) | (apply Rs.cell1 rfl (hE.t rfl) rfl; (focus ((repeat (first | exact HasC.here rfl | exact HasC.slice rfl | (apply HasC.here; assumption) | (apply HasC.slice; assumption) | apply HasC.there)); done)))))
    · refine ⟨?_, rfl⟩
      rw [decide_eq_false (by unfold inR_; omega)]
      rfl
    · (apply ent; (repeat (first | exact Sub.nil | exact Take.here | apply Take.there | apply Sub.cons)); done)
theorem ct_refExtend (hE : Seat E) {a : List UInt8} {p n d : Int} (ha : a.length ≤ 1152921504606846976) : Ct E 39 [.string ⟨⟨a⟩⟩, .int .i64 p, .int .i64 n, .int .i64 d] []
    (fun v Q => v = .tuple #[.agg #[.int .i64 ((extR a p n d).1.1 : Nat), .int .i64 ((extR a p n d).1.2 : Nat)], .int .i64 ((extR a p n d).2 : Nat)] ∧ Q = []) := by
  have sa := size_mk a
  refine fn_enter (hE.fn Tryd.func39) rfl rfl rfl (fun R => ?_)
  simp only [argsL, List.cons_append, List.nil_append]
  refine w_seq ?_
  refine w_region ?_
  apply l_loud (by kernel_rfl) rfl
  refine ld_alloc (hE.t rfl) (fun b8 => ?_)
  apply l_yield
  · exact y_assign rfl
  · rfl
  refine l_nil ?_
  refine a_then ?_
  refine w_seq ?_
  refine w_seq ?_
  refine w_region ?_
  apply l_yield
  · exact y_move rfl
  · rfl
  apply l_yield
  · exact y_lt rfl rfl
  · rfl
  apply l_yield
  · exact y_move rfl
  · rfl
  refine l_split 15 rfl (fun h1 => ?_) (fun h1 => ?_)
  · skip
    refine l_off rfl rfl rfl rfl ?_
    refine l_off rfl rfl rfl rfl ?_
    refine l_off rfl rfl rfl rfl ?_
    refine l_off rfl rfl rfl rfl ?_
    refine l_off rfl rfl rfl rfl ?_
    apply l_yield
    · (first | exact y_pick_t rfl rfl | exact y_pick_f rfl rfl)
    · rfl
    apply l_yield
    · exact y_move rfl
    · rfl
    skip
    refine l_off rfl rfl rfl rfl ?_
    refine l_off rfl rfl rfl rfl ?_
    refine l_off rfl rfl rfl rfl ?_
    apply l_yield
    · (first | exact y_pick_t rfl rfl | exact y_pick_f rfl rfl)
    · rfl
    refine l_nil ?_
    refine a_then ?_
    refine w_cond_t rfl ?_
    refine w_seq ?_
    refine w_region ?_
    apply l_yield
    · (first | exact y_build (hE.t rfl) rfl rfl | exact y_buildA (hE.t rfl) rfl rfl)
    · rfl
    apply l_loud (by kernel_rfl) rfl
    (first | (apply ld_store rfl rfl (hE.t rfl) rfl; (focus ((repeat (first | exact Take.here | apply Take.there)); done)); (focus rfl); (focus (exact Nat.le_of_ble_eq_true rfl))) | (apply ld_store_sl rfl rfl (hE.t rfl) rfl; (focus ((repeat (first | exact Take.here | apply Take.there)); done)); (focus rfl); (focus (first | omega | (simp only [cellsL, List.length_cons, List.length_nil]; omega)))))
    apply l_yield
    · exact y_assign rfl
    · rfl
    refine l_nil ?_
    refine a_then ?_
    refine w_ret ?_
    refine a_then_ret ?_
    apply a_ret
    · rfl
    · (repeat (first | exact Rs.nil | apply Rs.tmp rfl | (apply Rs.cell rfl (hE.t rfl) rfl; (focus ((repeat (first | exact HasCs.nil | (apply HasCs.cons; (focus ((repeat (first | exact HasC.here rfl | exact HasC.slice rfl | (apply HasC.here; assumption) | (apply HasC.slice; assumption) | apply HasC.there)); done))))); done))) | (apply Rs.cell1 rfl (hE.t rfl) rfl; (focus ((repeat (first | exact HasC.here rfl | exact HasC.slice rfl | (apply HasC.here; assumption) | (apply HasC.slice; assumption) | apply HasC.there)); done)))))
    · refine ⟨?_, rfl⟩
      rw [extR_no (by first | omega | (right; left; assumption))]
      rfl
    · (apply ent; (repeat (first | exact Sub.nil | exact Take.here | apply Take.there | apply Sub.cons)); done)
  skip
  refine l_on rfl rfl ?_
  apply l_yield
  · exact y_move rfl
  · rfl
  refine l_on rfl rfl ?_
  apply l_yield
  · exact y_move rfl
  · rfl
  refine l_on rfl rfl ?_
  apply l_yield
  · exact y_move rfl
  · rfl
  refine l_on rfl rfl ?_
  apply l_loud (by kernel_rfl) rfl
  apply ld_call (ct_inside hE ha) rfl (hE.f (by kernel_rfl))
  · ((repeat (first | exact Sub.nil | exact Take.here | apply Take.there | apply Sub.cons)); done)
  rintro _ _ ⟨rfl, rfl⟩
  simp only [List.cons_append, List.nil_append]
  skip
  by_cases h2 : inR_ a.length p n
  · rw [decide_eq_true h2]
    refine l_on rfl rfl ?_
    apply l_yield
    · exact y_not rfl
    · rfl
    apply l_yield
    · (first | exact y_pick_t rfl rfl | exact y_pick_f rfl rfl)
    · rfl
    apply l_yield
    · exact y_move rfl
    · rfl
    skip
    refine l_on rfl rfl ?_
    apply l_yield
    · exact y_move rfl
    · rfl
    refine l_on rfl rfl ?_
    apply l_yield
    · exact y_move rfl
    · rfl
    refine l_on rfl rfl ?_
    apply l_yield
    · exact y_lt rfl rfl
    · rfl
    apply l_yield
    · (first | exact y_pick_t rfl rfl | exact y_pick_f rfl rfl)
    · rfl
    refine l_nil ?_
    refine a_then ?_
    refine w_cond_d rfl (fun h3 => ?_) (fun h3 => ?_)
    · skip
      refine w_seq ?_
      refine w_region ?_
      apply l_yield
      · (first | exact y_build (hE.t rfl) rfl rfl | exact y_buildA (hE.t rfl) rfl rfl)
      · rfl
      apply l_loud (by kernel_rfl) rfl
      (first | (apply ld_store rfl rfl (hE.t rfl) rfl; (focus ((repeat (first | exact Take.here | apply Take.there)); done)); (focus rfl); (focus (exact Nat.le_of_ble_eq_true rfl))) | (apply ld_store_sl rfl rfl (hE.t rfl) rfl; (focus ((repeat (first | exact Take.here | apply Take.there)); done)); (focus rfl); (focus (first | omega | (simp only [cellsL, List.length_cons, List.length_nil]; omega)))))
      apply l_yield
      · exact y_assign rfl
      · rfl
      refine l_nil ?_
      refine a_then ?_
      refine w_ret ?_
      refine a_then_ret ?_
      apply a_ret
      · rfl
      · (repeat (first | exact Rs.nil | apply Rs.tmp rfl | (apply Rs.cell rfl (hE.t rfl) rfl; (focus ((repeat (first | exact HasCs.nil | (apply HasCs.cons; (focus ((repeat (first | exact HasC.here rfl | exact HasC.slice rfl | (apply HasC.here; assumption) | (apply HasC.slice; assumption) | apply HasC.there)); done))))); done))) | (apply Rs.cell1 rfl (hE.t rfl) rfl; (focus ((repeat (first | exact HasC.here rfl | exact HasC.slice rfl | (apply HasC.here; assumption) | (apply HasC.slice; assumption) | apply HasC.there)); done)))))
      · refine ⟨?_, rfl⟩
        rw [extR_no (by first | omega | (right; left; assumption))]
        rfl
      · (apply ent; (repeat (first | exact Sub.nil | exact Take.here | apply Take.there | apply Sub.cons)); done)
    skip
    have h2' := h2
    unfold inR_ at h2'
    obtain ⟨q, rfl⟩ := Int.eq_ofNat_of_zero_le h2'.1
    obtain ⟨m, rfl⟩ := Int.eq_ofNat_of_zero_le h2'.2.1
    obtain ⟨k, rfl⟩ := Int.eq_ofNat_of_zero_le (show 0 ≤ d by omega)
    have x1 : 1 ≤ k := by omega
    have x2 : q + m ≤ a.length := by omega
    have x3 : k ≤ m := by omega
    have hal := aft_le (T := a) (p := q) (d := k)
    have hbl := bef_le (T := a) (p := q) (d := k) (by omega)
    skip
    refine w_skip ?_
    refine a_then ?_
    refine w_seq ?_
    refine w_seq ?_
    refine w_region ?_
    apply l_yield
    · exact y_move rfl
    · rfl
    apply l_yield
    · exact y_move rfl
    · rfl
    apply l_yield
    · exact y_move rfl
    · rfl
    apply l_yield
    · exact y_move rfl
    · rfl
    apply l_yield
    · exact y_add rfl rfl (by omega) (by omega)
    · rfl
    apply l_yield
    · exact y_slice_str (l := q) (h := q + m) rfl (hE.t rfl) ⟨_, rfl⟩ ⟨.i64, congrArg (fun v => some (Value.int IntKind.i64 v)) (by omega)⟩ (by omega) (by omega)
    · rfl
    rw [extract_mk a _ _ (by omega)]
    apply l_yield
    · exact y_move rfl
    · rfl
    have sg : ∀ x y, (a.take y).drop x = seg a x y := fun _ _ => rfl
    rw [sg]
    have hs1 : (seg a q (q + m)).length ≤ 1152921504606846976 := by rw [seg_length x2]; omega
    apply l_loud (by kernel_rfl) rfl
    apply ld_call (ct_refHas hE x1 hs1) rfl (hE.f (by kernel_rfl))
    · ((repeat (first | exact Sub.nil | exact Take.here | apply Take.there | apply Sub.cons)); done)
    rintro _ _ ⟨rfl, rfl⟩
    simp only [List.cons_append, List.nil_append]
    have hper : Per (seg a q (q + m)) k ↔ ¬ Eg.aft a q k < m - k := by rw [per_range (Nat.le_refl _) (by omega) x2]; omega
    apply l_yield
    · exact y_not rfl
    · rfl
    refine l_nil ?_
    refine a_then ?_
    refine w_cond_nd rfl (fun h4 => ?_) (fun h4 => ?_)
    · skip
      refine w_seq ?_
      refine w_region ?_
      apply l_yield
      · (first | exact y_build (hE.t rfl) rfl rfl | exact y_buildA (hE.t rfl) rfl rfl)
      · rfl
      apply l_loud (by kernel_rfl) rfl
      (first | (apply ld_store rfl rfl (hE.t rfl) rfl; (focus ((repeat (first | exact Take.here | apply Take.there)); done)); (focus rfl); (focus (exact Nat.le_of_ble_eq_true rfl))) | (apply ld_store_sl rfl rfl (hE.t rfl) rfl; (focus ((repeat (first | exact Take.here | apply Take.there)); done)); (focus rfl); (focus (first | omega | (simp only [cellsL, List.length_cons, List.length_nil]; omega)))))
      apply l_yield
      · exact y_assign rfl
      · rfl
      refine l_nil ?_
      refine a_then ?_
      refine w_ret ?_
      refine a_then_ret ?_
      apply a_ret
      · rfl
      · (repeat (first | exact Rs.nil | apply Rs.tmp rfl | (apply Rs.cell rfl (hE.t rfl) rfl; (focus ((repeat (first | exact HasCs.nil | (apply HasCs.cons; (focus ((repeat (first | exact HasC.here rfl | exact HasC.slice rfl | (apply HasC.here; assumption) | (apply HasC.slice; assumption) | apply HasC.there)); done))))); done))) | (apply Rs.cell1 rfl (hE.t rfl) rfl; (focus ((repeat (first | exact HasC.here rfl | exact HasC.slice rfl | (apply HasC.here; assumption) | (apply HasC.slice; assumption) | apply HasC.there)); done)))))
      · refine ⟨?_, rfl⟩
        rw [extR_none x1 x2 x3 (Decidable.not_not.1 (fun h => h4 (hper.2 h)))]
        rfl
      · (apply ent; (repeat (first | exact Sub.nil | exact Take.here | apply Take.there | apply Sub.cons)); done)
    skip
    have h5 : ¬ Eg.aft a q k < m - k := hper.1 h4
    generalize ea : q - bef a q k = a0 at *
    generalize eb : q + k + Eg.aft a q k = b0 at *
    refine w_skip ?_
    refine a_then ?_
    refine w_seq ?_
    refine w_region ?_
    apply l_yield
    · exact y_move rfl
    · rfl
    apply l_yield
    · exact y_move rfl
    · rfl
    apply l_yield
    · (first | exact y_build (hE.t rfl) rfl rfl | exact y_buildA (hE.t rfl) rfl rfl)
    · rfl
    apply l_loud (by kernel_rfl) rfl
    refine ld_alloc (hE.t rfl) (fun b10 => ?_)
    apply l_loud (by kernel_rfl) rfl
    (first | (apply ld_store rfl rfl (hE.t rfl) rfl; (focus ((repeat (first | exact Take.here | apply Take.there)); done)); (focus rfl); (focus (exact Nat.le_of_ble_eq_true rfl))) | (apply ld_store_sl rfl rfl (hE.t rfl) rfl; (focus ((repeat (first | exact Take.here | apply Take.there)); done)); (focus rfl); (focus (first | omega | (simp only [cellsL, List.length_cons, List.length_nil]; omega)))))
    refine l_nil ?_
    refine a_then ?_
    refine w_seq ?_
    refine w_seq ?_
    refine w_region ?_
    apply l_yield
    · exact y_assign rfl
    · rfl
    refine l_nil ?_
    refine a_then ?_
    refine w_block ?_
    skip
    refine w_loop (fun x : Nat => [(0, .string ⟨⟨a⟩⟩), (1, .int .i64 (q : Nat)), (2, .int .i64 (m : Nat)), (3, .int .i64 (k : Nat)), (8, .pointer (some ⟨b8, 0, none⟩)), (10, .pointer (some ⟨b10, 0, none⟩)), (11, .int .i64 (x : Nat))]) (fun x => [cells b10 [.int .i64 ((bst q m a0 b0 x (q + m)).1 : Nat), .int .i64 ((bst q m a0 b0 x (q + m)).2 : Nat)] 73, cells b8 [.int .i64 0, .int .i64 0] 73, R]) (fun x => q + 1 - x) (fun x => x ≤ q + 1) 0 ?_ ?_ ?_ ?_
    · exact Nat.zero_le _
    · exact ⟨rfl, rfl, rfl, rfl, rfl, rfl, rfl, trivial⟩
    · rw [bst_lo (p := q) (n := m) (a0 := a0) (b0 := b0) (a := 0) (b := q + m) (by omega)]
      (apply ent; (repeat (first | exact Sub.nil | exact Take.here | apply Take.there | apply Sub.cons)); done)
    intro x hx
    skip
    refine w_seq ?_
    refine w_seq ?_
    refine w_region ?_
    apply l_yield
    · exact y_move rfl
    · rfl
    apply l_yield
    · exact y_move rfl
    · rfl
    apply l_yield
    · exact y_le rfl rfl
    · rfl
    refine l_nil ?_
    refine a_then ?_
    refine w_cond_d rfl (fun h6 => ?_) (fun h6 => ?_)
    · skip
      have hxq : x ≤ q := by omega
      refine w_skip ?_
      refine a_then ?_
      refine w_seq ?_
      refine w_block ?_
      refine w_seq ?_
      refine w_region ?_
      apply l_yield
      · exact y_move rfl
      · rfl
      apply l_yield
      · exact y_move rfl
      · rfl
      apply l_yield
      · exact y_add rfl rfl (by omega) (by omega)
      · rfl
      apply l_yield
      · exact y_assign rfl
      · rfl
      refine l_nil ?_
      refine a_then ?_
      refine w_block ?_
      skip
      refine w_loop (fun y : Nat => [(0, .string ⟨⟨a⟩⟩), (1, .int .i64 (q : Nat)), (2, .int .i64 (m : Nat)), (3, .int .i64 (k : Nat)), (8, .pointer (some ⟨b8, 0, none⟩)), (10, .pointer (some ⟨b10, 0, none⟩)), (11, .int .i64 (x : Nat)), (12, .int .i64 (y : Nat))]) (fun y => [cells b10 [.int .i64 ((bst q m a0 b0 x y).1 : Nat), .int .i64 ((bst q m a0 b0 x y).2 : Nat)] 73, cells b8 [.int .i64 0, .int .i64 0] 73, R]) (fun y => a.length + 1 - y) (fun y => q + m ≤ y ∧ y ≤ a.length + 1) (q + m) ?_ ?_ ?_ ?_
      · exact ⟨Nat.le_refl _, by omega⟩
      · refine ⟨rfl, rfl, rfl, rfl, rfl, rfl, rfl, ?_, trivial⟩
        exact congrArg some (int_eq (by omega))
      · (apply ent; (repeat (first | exact Sub.nil | exact Take.here | apply Take.there | apply Sub.cons)); done)
      rintro y ⟨hy1, hy2⟩
      skip
      refine w_seq ?_
      refine w_seq ?_
      refine w_region ?_
      apply l_yield
      · exact y_move rfl
      · rfl
      apply l_yield
      · exact y_move rfl
      · rfl
      apply l_yield
      · exact y_len_str rfl (hE.t rfl)
      · rfl
      apply l_yield
      · exact y_le rfl rfl
      · rfl
      refine l_nil ?_
      refine a_then ?_
      refine w_cond_d rfl (fun h7 => ?_) (fun h7 => ?_)
      · skip
        have hya : y ≤ a.length := by omega
        have hstep := bst_step (p := q) (n := m) (a0 := a0) (b0 := b0) (a := x) (b := y) (by omega) (by omega) hxq hy1 (by omega)
        have hper2 : Per (seg a x y) k ↔ a0 ≤ x ∧ y ≤ b0 := by rw [per_range hxq (by omega) hya, ea, eb]
        refine w_skip ?_
        refine a_then ?_
        refine w_seq ?_
        refine w_block ?_
        refine w_seq ?_
        refine w_region ?_
        apply l_yield
        · exact y_move rfl
        · rfl
        apply l_yield
        · exact y_move rfl
        · rfl
        apply l_yield
        · exact y_sub rfl rfl (by omega) (by omega)
        · rfl
        apply l_yield
        · exact y_fieldAddr rfl (hE.t rfl) rfl
        · rfl
        apply l_yield
        · (first | (apply y_load rfl (hE.t rfl) rfl; (repeat (first | exact HasC.here rfl | exact HasC.slice rfl | (apply HasC.here; assumption) | (apply HasC.slice; assumption) | apply HasC.there)); done) | exact y_load_old rfl (hE.t rfl) rfl (by assumption) | (apply y_load_ro rfl (hE.t rfl) rfl; (focus ((repeat (first | exact Take.here | apply Take.there)); done)); (focus assumption)) | (apply y_load_q rfl (hE.t rfl) rfl (by assumption); (focus ((repeat (first | exact Take.here | apply Take.there)); done)); (focus assumption); (focus omega)))
        · rfl
        apply l_yield
        · exact y_gt rfl rfl
        · rfl
        apply l_yield
        · exact y_move rfl
        · rfl
        refine l_split 61 rfl (fun h8 => ?_) (fun h8 => ?_)
        · skip
          refine l_on rfl rfl ?_
          apply l_yield
          · exact y_move rfl
          · rfl
          refine l_on rfl rfl ?_
          apply l_yield
          · exact y_move rfl
          · rfl
          refine l_on rfl rfl ?_
          apply l_yield
          · exact y_move rfl
          · rfl
          refine l_on rfl rfl ?_
          apply l_yield
          · exact y_slice_str (l := x) (h := y) rfl (hE.t rfl) ⟨_, rfl⟩ ⟨_, rfl⟩ (by omega) (by omega)
          · rfl
          rw [extract_mk a _ _ hya]
          refine l_on rfl rfl ?_
          apply l_yield
          · exact y_move rfl
          · rfl
          refine l_on rfl rfl ?_
          rw [sg]
          have hs2 : (seg a x y).length ≤ 1152921504606846976 := by rw [seg_length hya]; omega
          apply l_loud (by kernel_rfl) rfl
          apply ld_call (ct_refHas hE x1 hs2) rfl (hE.f (by kernel_rfl))
          · ((repeat (first | exact Sub.nil | exact Take.here | apply Take.there | apply Sub.cons)); done)
          rintro _ _ ⟨rfl, rfl⟩
          simp only [List.cons_append, List.nil_append]
          apply l_yield
          · (first | exact y_pick_t rfl rfl | exact y_pick_f rfl rfl)
          · rfl
          refine l_nil ?_
          refine a_then ?_
          refine w_cond_d rfl (fun h9 => ?_) (fun h9 => ?_)
          · skip
            rw [if_pos ⟨by omega, hper2.1 h9⟩] at hstep
            refine w_region ?_
            apply l_yield
            · exact y_move rfl
            · rfl
            apply l_yield
            · exact y_move rfl
            · rfl
            apply l_yield
            · exact y_move rfl
            · rfl
            apply l_yield
            · exact y_sub rfl rfl (by omega) (by omega)
            · rfl
            apply l_yield
            · (first | exact y_build (hE.t rfl) rfl rfl | exact y_buildA (hE.t rfl) rfl rfl)
            · rfl
            apply l_loud (by kernel_rfl) rfl
            (first | (apply ld_store rfl rfl (hE.t rfl) rfl; (focus ((repeat (first | exact Take.here | apply Take.there)); done)); (focus rfl); (focus (exact Nat.le_of_ble_eq_true rfl))) | (apply ld_store_sl rfl rfl (hE.t rfl) rfl; (focus ((repeat (first | exact Take.here | apply Take.there)); done)); (focus rfl); (focus (first | omega | (simp only [cellsL, List.length_cons, List.length_nil]; omega)))))
            refine l_nil ?_
            refine a_block ?_
            refine a_then ?_
            refine w_region ?_
            apply l_yield
            · exact y_move rfl
            · rfl
            apply l_yield
            · exact y_add rfl rfl (by omega) (by omega)
            · rfl
            apply l_yield
            · exact y_assign rfl
            · rfl
            refine l_nil ?_
            refine wa_eq 12 (.int .i64 ((y + 1 : Nat) : Int)) rfl (int_eq (by omega)) ?_
            refine a_round (y + 1) ⟨by omega, by omega⟩ (by omega) ⟨rfl, rfl, rfl, rfl, rfl, rfl, rfl, rfl, trivial⟩ ?_
            rw [hstep, show ((y - x : Nat) : Int) = (y : Int) - (x : Int) by omega]
            (apply ent; (repeat (first | exact Sub.nil | exact Take.here | apply Take.there | apply Sub.cons)); done)
          · skip
            rw [if_neg (fun h => h9 (hper2.2 h.2))] at hstep
            refine w_skip ?_
            refine a_block ?_
            refine a_then ?_
            refine w_region ?_
            apply l_yield
            · exact y_move rfl
            · rfl
            apply l_yield
            · exact y_add rfl rfl (by omega) (by omega)
            · rfl
            apply l_yield
            · exact y_assign rfl
            · rfl
            refine l_nil ?_
            refine wa_eq 12 (.int .i64 ((y + 1 : Nat) : Int)) rfl (int_eq (by omega)) ?_
            refine a_round (y + 1) ⟨by omega, by omega⟩ (by omega) ⟨rfl, rfl, rfl, rfl, rfl, rfl, rfl, rfl, trivial⟩ ?_
            rw [hstep]
            (apply ent; (repeat (first | exact Sub.nil | exact Take.here | apply Take.there | apply Sub.cons)); done)
        · skip
          rw [if_neg (fun h => h8 (by omega))] at hstep
          refine l_off rfl rfl rfl rfl ?_
          refine l_off rfl rfl rfl rfl ?_
          refine l_off rfl rfl rfl rfl ?_
          refine l_off rfl rfl rfl rfl ?_
          refine l_off rfl rfl rfl rfl ?_
          refine l_off rfl rfl rfl rfl ?_
          apply l_yield
          · (first | exact y_pick_t rfl rfl | exact y_pick_f rfl rfl)
          · rfl
          refine l_nil ?_
          refine a_then ?_
          refine w_cond_f rfl ?_
          refine w_skip ?_
          refine a_block ?_
          refine a_then ?_
          refine w_region ?_
          apply l_yield
          · exact y_move rfl
          · rfl
          apply l_yield
          · exact y_add rfl rfl (by omega) (by omega)
          · rfl
          apply l_yield
          · exact y_assign rfl
          · rfl
          refine l_nil ?_
          refine wa_eq 12 (.int .i64 ((y + 1 : Nat) : Int)) rfl (int_eq (by omega)) ?_
          refine a_round (y + 1) ⟨by omega, by omega⟩ (by omega) ⟨rfl, rfl, rfl, rfl, rfl, rfl, rfl, rfl, trivial⟩ ?_
          rw [hstep]
          (apply ent; (repeat (first | exact Sub.nil | exact Take.here | apply Take.there | apply Sub.cons)); done)
      · skip
        obtain rfl : y = a.length + 1 := by omega
        have hnext := bst_next (p := q) (n := m) (a0 := a0) (b0 := b0) (a := x) (l := a.length) (by omega) (by omega)
        refine w_exit ?_
        refine a_then_exit ?_
        refine a_then_exit ?_
        refine a_block_exit ?_
        refine a_block ?_
        refine a_then ?_
        refine w_region ?_
        apply l_yield
        · exact y_move rfl
        · rfl
        apply l_yield
        · exact y_add rfl rfl (by omega) (by omega)
        · rfl
        apply l_yield
        · exact y_assign rfl
        · rfl
        refine l_nil ?_
        refine wa_eq 11 (.int .i64 ((x + 1 : Nat) : Int)) rfl (int_eq (by omega)) ?_
        refine a_round (x + 1) (by omega) (by omega) ⟨rfl, rfl, rfl, rfl, rfl, rfl, rfl, trivial⟩ ?_
        rw [← hnext]
        (apply ent; (repeat (first | exact Sub.nil | exact Take.here | apply Take.there | apply Sub.cons)); done)
    · skip
      rw [bst_hi (p := q) (n := m) (a0 := a0) (b0 := b0) (a := x) (b := q + m) (by omega)]
      refine w_exit ?_
      refine a_then_exit ?_
      refine a_then_exit ?_
      refine a_block_exit ?_
      refine a_then ?_
      refine w_seq ?_
      refine w_region ?_
      apply l_yield
      · (first | (apply y_load_agg rfl (hE.t rfl) rfl; (repeat (first | exact HasCs.nil | (apply HasCs.cons; (focus ((repeat (first | exact HasC.here rfl | exact HasC.slice rfl | (apply HasC.here; assumption) | (apply HasC.slice; assumption) | apply HasC.there)); done))))); done) | (apply y_load_agg_old rfl (hE.t rfl) rfl; assumption))
      · rfl
      apply l_loud (by kernel_rfl) rfl
      (first | (apply ld_store rfl rfl (hE.t rfl) rfl; (focus ((repeat (first | exact Take.here | apply Take.there)); done)); (focus rfl); (focus (exact Nat.le_of_ble_eq_true rfl))) | (apply ld_store_sl rfl rfl (hE.t rfl) rfl; (focus ((repeat (first | exact Take.here | apply Take.there)); done)); (focus rfl); (focus (first | omega | (simp only [cellsL, List.length_cons, List.length_nil]; omega)))))
      apply l_yield
      · exact y_assign rfl
      · rfl
      refine l_nil ?_
      refine a_then ?_
      refine w_ret ?_
      apply a_ret
      · rfl
      · (repeat (first | exact Rs.nil | apply Rs.tmp rfl | (apply Rs.cell rfl (hE.t rfl) rfl; (focus ((repeat (first | exact HasCs.nil | (apply HasCs.cons; (focus ((repeat (first | exact HasC.here rfl | exact HasC.slice rfl | (apply HasC.here; assumption) | (apply HasC.slice; assumption) | apply HasC.there)); done))))); done))) | (apply Rs.cell1 rfl (hE.t rfl) rfl; (focus ((repeat (first | exact HasC.here rfl | exact HasC.slice rfl | (apply HasC.here; assumption) | (apply HasC.slice; assumption) | apply HasC.there)); done)))))
      · refine ⟨?_, rfl⟩
        rw [extR_some x1 x2 x3 h5, ea, show bef a q k + k + Eg.aft a q k = b0 - a0 by omega]
        rfl
      · (apply ent; (repeat (first | exact Sub.nil | exact Take.here | apply Take.there | apply Sub.cons)); done)
  · skip
    rw [decide_eq_false h2]
    refine l_on rfl rfl ?_
    apply l_yield
    · exact y_not rfl
    · rfl
    apply l_yield
    · (first | exact y_pick_t rfl rfl | exact y_pick_f rfl rfl)
    · rfl
    apply l_yield
    · exact y_move rfl
    · rfl
    skip
    refine l_off rfl rfl rfl rfl ?_
    refine l_off rfl rfl rfl rfl ?_
    refine l_off rfl rfl rfl rfl ?_
    apply l_yield
    · (first | exact y_pick_t rfl rfl | exact y_pick_f rfl rfl)
    · rfl
    refine l_nil ?_
    refine a_then ?_
    refine w_cond_t rfl ?_
    refine w_seq ?_
    refine w_region ?_
    apply l_yield
    · (first | exact y_build (hE.t rfl) rfl rfl | exact y_buildA (hE.t rfl) rfl rfl)
    · rfl
    apply l_loud (by kernel_rfl) rfl
    (first | (apply ld_store rfl rfl (hE.t rfl) rfl; (focus ((repeat (first | exact Take.here | apply Take.there)); done)); (focus rfl); (focus (exact Nat.le_of_ble_eq_true rfl))) | (apply ld_store_sl rfl rfl (hE.t rfl) rfl; (focus ((repeat (first | exact Take.here | apply Take.there)); done)); (focus rfl); (focus (first | omega | (simp only [cellsL, List.length_cons, List.length_nil]; omega)))))
    apply l_yield
    · exact y_assign rfl
    · rfl
    refine l_nil ?_
    refine a_then ?_
    refine w_ret ?_
    refine a_then_ret ?_
    apply a_ret
    · rfl
    · (repeat (first | exact Rs.nil | apply Rs.tmp rfl | (apply Rs.cell rfl (hE.t rfl) rfl; (focus ((repeat (first | exact HasCs.nil | (apply HasCs.cons; (focus ((repeat (first | exact HasC.here rfl | exact HasC.slice rfl | (apply HasC.here; assumption) | (apply HasC.slice; assumption) | apply HasC.there)); done))))); done))) | (apply Rs.cell1 rfl (hE.t rfl) rfl; (focus ((repeat (first | exact HasC.here rfl | exact HasC.slice rfl | (apply HasC.here; assumption) | (apply HasC.slice; assumption) | apply HasC.there)); done)))))
    · refine ⟨?_, rfl⟩
      rw [extR_no (by first | omega | (right; left; assumption))]
      rfl
    · (apply ent; (repeat (first | exact Sub.nil | exact Take.here | apply Take.there | apply Sub.cons)); done)
theorem underS : Tryd.prog.underlying 73 = some (.struct (Tryd.prog.fieldsOf 73)) := by kernel_rfl
theorem heldS : Tryd.prog.stoodInHeld 73 = false := by kernel_rfl
theorem fieldsS : (Tryd.prog.fieldsOf 73).toList = [⟨ "From", 3, 0, false, "", "", 0⟩, ⟨ "N", 3, 1, false, "", "", 8⟩] := by kernel_rfl
theorem span_equal (a b c d : Int) (w : World) : (Op.equal 73 (.agg #[.int .i64 a, .int .i64 b]) (.agg #[.int .i64 c, .int .i64 d])).run Tryd.prog w = .ok (decide (a = c ∧ b = d)) w := by
  unfold Op.equal Op.maxDepth
  rw [show (10000 : Nat) = 9999 + 1 from rfl, run_equalIn_struct _ _ _ _ _ underS heldS, fieldsS]
  simp only [Op.eqFields]
  simp [go_sem]
  by_cases e1 : a = c
  · by_cases e2 : b = d <;> simp [e1, e2]
  · simp [e1]
theorem y_eq_span (hE : Seat E) {n : Nat} {L : Fr} {S : List HP} {ty : TypeId} {pos : String} {af : Array Edge} {d : Option Nat} {gd : Option (Nat × Bool)} {x y : Operand} {yt : TypeId} {a b c e : Int} (hx : ev L x = some (.agg #[.int .i64 a, .int .i64 b])) (hy : ev L y = some (.agg #[.int .i64 c, .int .i64 e])) :
    Yl E n L S ⟨d, .binOp .eql 73 x y yt, ty, pos, af, gd⟩ (.bool (decide (a = c ∧ b = e))) := fun ac w g _ => by
  have h1 : (eqGuard .eql 73 x y (.agg #[.int .i64 a, .int .i64 b]) (.agg #[.int .i64 c, .int .i64 e])).run E.P w = .ok () w := by
    have hg : E.P.eqGuardType E.P.depth 73 = false := by rw [hE.P]; kernel_rfl
    unfold eqGuard
    simp [program, Sem.run, hg]
  have h2 : binOp .eql 73 (.agg #[.int .i64 a, .int .i64 b]) (.agg #[.int .i64 c, .int .i64 e]) = (do pure (.bool (← Op.equal 73 (.agg #[.int .i64 a, .int .i64 b]) (.agg #[.int .i64 c, .int .i64 e])))) := rfl
  have h3 := span_equal a b c e w
  rw [← hE.P] at h3
  simp [execOp, h1, h2, h3, g.ev hx, g.ev hy]
theorem ct_PeriodExtends (hE : Seat E) (hB : Base E.w0) {a : List UInt8} {x y d : Int} : Ct E 7 [.string ⟨⟨a⟩⟩, .agg #[.int .i64 x, .int .i64 y], .int .i64 d] [] (fun v Q => v = .bool true ∧ Q = []) := by
  have sa := size_mk a
  refine fn_enter (hE.fn Tryd.func7) rfl rfl rfl (fun R => ?_)
  simp only [argsL, List.cons_append, List.nil_append]
  refine w_seq ?_
  refine w_region ?_
  apply l_loud (by kernel_rfl) rfl
  refine ld_box rfl (fun b4 => ?_)
  apply l_yield
  · exact y_assign rfl
  · rfl
  refine l_nil ?_
  refine a_then ?_
  refine w_seq ?_
  refine w_seq ?_
  refine w_region ?_
  apply l_loud (by kernel_rfl) rfl
  apply ld_call (ct_alive hE hB) rfl (hE.f (by kernel_rfl))
  · ((repeat (first | exact Sub.nil | exact Take.here | apply Take.there | apply Sub.cons)); done)
  rintro _ _ ⟨rfl, rfl⟩
  simp only [List.cons_append, List.nil_append]
  apply l_yield
  · exact y_not rfl
  · rfl
  refine l_nil ?_
  refine a_then ?_
  refine w_cond_f rfl ?_
  refine w_skip ?_
  refine a_then ?_
  refine w_seq ?_
  refine w_seq ?_
  refine w_region ?_
  apply l_yield
  · exact y_move rfl
  · rfl
  apply l_yield
  · exact y_len_str rfl (hE.t rfl)
  · rfl
  apply l_yield
  · exact y_gt rfl rfl
  · rfl
  refine l_nil ?_
  refine a_then ?_
  refine w_cond_d rfl (fun h1 => ?_) (fun h1 => ?_)
  · skip
    refine w_seq ?_
    refine w_region ?_
    apply l_yield
    · exact y_assign rfl
    · rfl
    refine l_nil ?_
    refine a_then ?_
    refine w_ret ?_
    refine a_then_ret ?_
    apply a_ret
    · rfl
    · (repeat (first | exact Rs.nil | apply Rs.tmp rfl | (apply Rs.cell rfl (hE.t rfl) rfl; (focus ((repeat (first | exact HasCs.nil | (apply HasCs.cons; (focus ((repeat (first | exact HasC.here rfl | exact HasC.slice rfl | (apply HasC.here; assumption) | (apply HasC.slice; assumption) | apply HasC.there)); done))))); done))) | (apply Rs.cell1 rfl (hE.t rfl) rfl; (focus ((repeat (first | exact HasC.here rfl | exact HasC.slice rfl | (apply HasC.here; assumption) | (apply HasC.slice; assumption) | apply HasC.there)); done)))))
    · exact ⟨rfl, rfl⟩
    · (apply ent; (repeat (first | exact Sub.nil | exact Take.here | apply Take.there | apply Sub.cons)); done)
  skip
  refine w_skip ?_
  refine a_then ?_
  refine w_seq ?_
  refine w_region ?_
  apply l_yield
  · exact y_move rfl
  · rfl
  apply l_loud (by kernel_rfl) rfl
  apply ld_call (ct_parse hE hB (by omega)) rfl (hE.f (by kernel_rfl))
  · ((repeat (first | exact Sub.nil | exact Take.here | apply Take.there | apply Sub.cons)); done)
  rintro _ _ ⟨pp, s, tb, M, i, rfl, hM, tx1, gx, rfl⟩
  have hl : len (rls M) i = a.length := by unfold len; rw [tx1]
  simp only [List.cons_append, List.nil_append]
  apply l_yield
  · exact y_move rfl
  · rfl
  apply l_yield
  · exact y_extract rfl rfl
  · rfl
  apply l_yield
  · exact y_extract rfl rfl
  · rfl
  apply l_yield
  · exact y_extract rfl rfl
  · rfl
  apply l_yield
  · exact y_assign rfl
  · rfl
  apply l_yield
  · exact y_assign rfl
  · rfl
  apply l_yield
  · exact y_assign rfl
  · rfl
  refine l_nil ?_
  refine a_then ?_
  refine w_seq ?_
  refine w_seq ?_
  refine w_region ?_
  apply l_yield
  · exact y_move rfl
  · rfl
  apply l_yield
  · exact y_not rfl
  · rfl
  refine l_nil ?_
  refine a_then ?_
  refine w_cond_f rfl ?_
  refine w_skip ?_
  refine a_then ?_
  refine w_seq ?_
  refine w_region ?_
  apply l_yield
  · exact y_move rfl
  · rfl
  apply l_yield
  · exact y_move rfl
  · rfl
  apply l_yield
  · exact y_fieldAddr rfl (hE.t rfl) rfl
  · rfl
  apply l_yield
  · (first | (apply y_load rfl (hE.t rfl) rfl; (repeat (first | exact HasC.here rfl | exact HasC.slice rfl | (apply HasC.here; assumption) | (apply HasC.slice; assumption) | apply HasC.there)); done) | exact y_load_old rfl (hE.t rfl) rfl (by assumption) | (apply y_load_ro rfl (hE.t rfl) rfl; (focus ((repeat (first | exact Take.here | apply Take.there)); done)); (focus assumption)) | (apply y_load_q rfl (hE.t rfl) rfl (by assumption); (focus ((repeat (first | exact Take.here | apply Take.there)); done)); (focus assumption); (focus omega)))
  · rfl
  apply l_yield
  · exact y_fieldAddr rfl (hE.t rfl) rfl
  · rfl
  apply l_yield
  · (first | (apply y_load rfl (hE.t rfl) rfl; (repeat (first | exact HasC.here rfl | exact HasC.slice rfl | (apply HasC.here; assumption) | (apply HasC.slice; assumption) | apply HasC.there)); done) | exact y_load_old rfl (hE.t rfl) rfl (by assumption) | (apply y_load_ro rfl (hE.t rfl) rfl; (focus ((repeat (first | exact Take.here | apply Take.there)); done)); (focus assumption)) | (apply y_load_q rfl (hE.t rfl) rfl (by assumption); (focus ((repeat (first | exact Take.here | apply Take.there)); done)); (focus assumption); (focus omega)))
  · rfl
  apply l_yield
  · exact y_move rfl
  · rfl
  apply l_loud (by kernel_rfl) rfl
  apply ld_call (ct_Extend hE hB gx (by omega)) rfl (hE.f (by kernel_rfl))
  · ((repeat (first | exact Sub.nil | exact Take.here | apply Take.there | apply Sub.cons)); done)
  rintro _ _ ⟨rfl, rfl⟩
  rw [tx1]
  simp only [List.cons_append, List.nil_append]
  apply l_yield
  · exact y_move rfl
  · rfl
  apply l_yield
  · exact y_extract rfl rfl
  · rfl
  apply l_yield
  · exact y_extract rfl rfl
  · rfl
  apply l_loud (by kernel_rfl) rfl
  refine ld_alloc (hE.t rfl) (fun b10 => ?_)
  apply l_loud (by kernel_rfl) rfl
  (first | (apply ld_store rfl rfl (hE.t rfl) rfl; (focus ((repeat (first | exact Take.here | apply Take.there)); done)); (focus rfl); (focus (exact Nat.le_of_ble_eq_true rfl))) | (apply ld_store_sl rfl rfl (hE.t rfl) rfl; (focus ((repeat (first | exact Take.here | apply Take.there)); done)); (focus rfl); (focus (first | omega | (simp only [cellsL, List.length_cons, List.length_nil]; omega)))))
  apply l_yield
  · exact y_assign rfl
  · rfl
  refine l_nil ?_
  refine a_then ?_
  refine w_seq ?_
  refine w_region ?_
  apply l_yield
  · exact y_move rfl
  · rfl
  apply l_yield
  · exact y_fieldAddr rfl (hE.t rfl) rfl
  · rfl
  apply l_yield
  · (first | (apply y_load rfl (hE.t rfl) rfl; (repeat (first | exact HasC.here rfl | exact HasC.slice rfl | (apply HasC.here; assumption) | (apply HasC.slice; assumption) | apply HasC.there)); done) | exact y_load_old rfl (hE.t rfl) rfl (by assumption) | (apply y_load_ro rfl (hE.t rfl) rfl; (focus ((repeat (first | exact Take.here | apply Take.there)); done)); (focus assumption)) | (apply y_load_q rfl (hE.t rfl) rfl (by assumption); (focus ((repeat (first | exact Take.here | apply Take.there)); done)); (focus assumption); (focus omega)))
  · rfl
  apply l_yield
  · exact y_fieldAddr rfl (hE.t rfl) rfl
  · rfl
  apply l_yield
  · (first | (apply y_load rfl (hE.t rfl) rfl; (repeat (first | exact HasC.here rfl | exact HasC.slice rfl | (apply HasC.here; assumption) | (apply HasC.slice; assumption) | apply HasC.there)); done) | exact y_load_old rfl (hE.t rfl) rfl (by assumption) | (apply y_load_ro rfl (hE.t rfl) rfl; (focus ((repeat (first | exact Take.here | apply Take.there)); done)); (focus assumption)) | (apply y_load_q rfl (hE.t rfl) rfl (by assumption); (focus ((repeat (first | exact Take.here | apply Take.there)); done)); (focus assumption); (focus omega)))
  · rfl
  apply l_yield
  · exact y_move rfl
  · rfl
  apply l_loud (by kernel_rfl) rfl
  apply ld_call (ct_refExtend hE (by omega)) rfl (hE.f (by kernel_rfl))
  · ((repeat (first | exact Sub.nil | exact Take.here | apply Take.there | apply Sub.cons)); done)
  rintro _ _ ⟨rfl, rfl⟩
  simp only [List.cons_append, List.nil_append]
  apply l_yield
  · exact y_move rfl
  · rfl
  apply l_yield
  · exact y_extract rfl rfl
  · rfl
  apply l_yield
  · exact y_extract rfl rfl
  · rfl
  apply l_loud (by kernel_rfl) rfl
  refine ld_alloc (hE.t rfl) (fun b12 => ?_)
  apply l_loud (by kernel_rfl) rfl
  (first | (apply ld_store rfl rfl (hE.t rfl) rfl; (focus ((repeat (first | exact Take.here | apply Take.there)); done)); (focus rfl); (focus (exact Nat.le_of_ble_eq_true rfl))) | (apply ld_store_sl rfl rfl (hE.t rfl) rfl; (focus ((repeat (first | exact Take.here | apply Take.there)); done)); (focus rfl); (focus (first | omega | (simp only [cellsL, List.length_cons, List.length_nil]; omega)))))
  apply l_yield
  · exact y_assign rfl
  · rfl
  refine l_nil ?_
  refine a_then ?_
  refine w_seq ?_
  refine w_region ?_
  apply l_yield
  · (first | (apply y_load_agg rfl (hE.t rfl) rfl; (repeat (first | exact HasCs.nil | (apply HasCs.cons; (focus ((repeat (first | exact HasC.here rfl | exact HasC.slice rfl | (apply HasC.here; assumption) | (apply HasC.slice; assumption) | apply HasC.there)); done))))); done) | (apply y_load_agg_old rfl (hE.t rfl) rfl; assumption))
  · rfl
  apply l_yield
  · (first | (apply y_load_agg rfl (hE.t rfl) rfl; (repeat (first | exact HasCs.nil | (apply HasCs.cons; (focus ((repeat (first | exact HasC.here rfl | exact HasC.slice rfl | (apply HasC.here; assumption) | (apply HasC.slice; assumption) | apply HasC.there)); done))))); done) | (apply y_load_agg_old rfl (hE.t rfl) rfl; assumption))
  · rfl
  apply l_yield
  · exact y_eq_span hE rfl rfl
  · rfl
  apply l_yield
  · exact y_move rfl
  · rfl
  refine l_eq 51 (.bool true) rfl (by simp) ?_
  skip
  refine l_on rfl rfl ?_
  apply l_yield
  · exact y_move rfl
  · rfl
  refine l_on rfl rfl ?_
  apply l_loud (by kernel_rfl) rfl
  apply ld_call (ct_NumE hE) rfl (hE.f (by kernel_rfl))
  · ((repeat (first | exact Sub.nil | exact Take.here | apply Take.there | apply Sub.cons)); done)
  rintro _ _ ⟨rfl, rfl⟩
  simp only [List.cons_append, List.nil_append]
  refine l_on rfl rfl ?_
  apply l_yield
  · exact y_move rfl
  · rfl
  refine l_on rfl rfl ?_
  apply l_yield
  · exact y_eq rfl rfl
  · rfl
  apply l_yield
  · (first | exact y_pick_t rfl rfl | exact y_pick_f rfl rfl)
  · rfl
  apply l_yield
  · exact y_assign rfl
  · rfl
  refine l_nil ?_
  refine a_then ?_
  refine w_ret ?_
  apply a_ret
  · rfl
  · (repeat (first | exact Rs.nil | apply Rs.tmp rfl | (apply Rs.cell rfl (hE.t rfl) rfl; (focus ((repeat (first | exact HasCs.nil | (apply HasCs.cons; (focus ((repeat (first | exact HasC.here rfl | exact HasC.slice rfl | (apply HasC.here; assumption) | (apply HasC.slice; assumption) | apply HasC.there)); done))))); done))) | (apply Rs.cell1 rfl (hE.t rfl) rfl; (focus ((repeat (first | exact HasC.here rfl | exact HasC.slice rfl | (apply HasC.here; assumption) | (apply HasC.slice; assumption) | apply HasC.there)); done)))))
  · exact ⟨by simp [one], rfl⟩
  · (apply ent; (repeat (first | exact Sub.nil | exact Take.here | apply Take.there | apply Sub.cons)); done)
end Go.Proofs.YtlmdkaniblhdmaaDoor
