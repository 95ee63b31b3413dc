/- evergreenlaw28: PeriodErrors. -/
import Derived.Test.YtlmdkaniblhdmaaDoorQ16
import Derived.Test.YtlmdkaniblhdmaaDoorQSlq
set_option linter.unusedVariables false
set_option linter.unusedSimpArgs false
namespace Go.Proofs.YtlmdkaniblhdmaaDoor
open Go Go.RowKit Sl Eg
set_option maxRecDepth 10000
variable {E : Env} {Es : List Ent} {pp tb s most : Nat}
theorem ct_known (hE : Seat E) {n : Int} : Ct E 88 [.pointer (some ⟨s, 0, none⟩), .int .i64 n] [storeP s most Es] (fun v Q => v = .bool (decide (0 ≤ n) && decide (n ≤ (Es.length : Int))) ∧ Q = [storeP s most Es]) :=
  ct_store_below hE fun w _ _ h => (store_known w n h).mono fun _ _ ⟨h1, h2⟩ => ⟨h1, below_same h2⟩
theorem ct_weight_bad (hE : Seat E) {n : Int} (hn : ¬ (0 ≤ n ∧ n ≤ (Es.length : Nat))) : Ct E 113 [.pointer (some ⟨s, 0, none⟩), .int .i64 n] [storeP s most Es] (fun v Q => v = .tuple #[.agg #[.int .i64 0, .int .i64 0, .int .i64 0, .int .i64 0, .int .u64 0, .int .u64 0], .iface 38 (.int .i64 1)] ∧ Q = [storeP s most Es]) := by
  refine fn_enter (hE.fn Tryd.func113) rfl rfl rfl (fun R => ?_)
  simp only [argsL, List.cons_append, List.nil_append]
  refine w_seq (w_region ?_)
  apply l_loud (by kernel_rfl) rfl
  refine ld_alloc (hE.t rfl) (fun b4 => ?_)
  refine l_yield (y_assign rfl) rfl ?_
  refine l_nil (a_then (w_seq (w_seq (w_region ?_))))
  refine l_yield (y_move rfl) rfl ?_
  apply l_yield
  · (first | exact y_eq_ptr rfl (hE.t rfl) | exact y_eq_nil rfl (hE.t rfl))
  · rfl
  refine l_nil (a_then ?_)
  refine w_cond_f rfl ?_
  refine w_skip (a_then (w_seq (w_seq (w_region ?_))))
  refine l_yield (y_move rfl) rfl ?_
  refine l_yield (y_move rfl) rfl ?_
  apply l_loud (by kernel_rfl) rfl
  apply ld_call (ct_known hE) rfl (hE.f (by kernel_rfl))
  · ((repeat constructor); done)
  have e : (decide (0 ≤ n) && decide (n ≤ (Es.length : Int))) = false := by rw [← Bool.decide_and]; exact decide_eq_false hn
  rw [e]
  rintro _ _ ⟨rfl, rfl⟩
  simp only [List.cons_append, List.nil_append]
  refine l_yield (y_not rfl) rfl ?_
  refine l_nil (a_then ?_)
  refine w_cond_t rfl ?_
  refine w_seq (w_region ?_)
  apply l_yield
  · (first | exact y_build (hE.t rfl) rfl rfl | exact y_buildA (hE.t rfl) rfl rfl)
  · rfl
  refine l_yield (y_iface rfl (hE.t rfl) rfl) rfl ?_
  apply l_loud (by kernel_rfl) rfl
  (first | (apply ld_store rfl rfl (hE.t rfl) rfl; (focus ((repeat constructor); done)); (focus rfl); (focus (exact Nat.le_of_ble_eq_true rfl))) | (apply ld_store_sl rfl rfl (hE.t rfl) rfl; (focus ((repeat constructor); done)); (focus rfl); (focus (first | omega | (simp only [cellsL, List.length_cons, List.length_nil]; omega)))))
  refine l_yield (y_assign rfl) rfl ?_
  refine l_nil (a_then (w_ret (a_then_ret ?_)))
  apply a_ret
  · rfl
  · ((apply Rs.cell rfl (hE.t rfl) rfl; (focus ((repeat (first | rfl | assumption | constructor)); done))); apply Rs.tmp rfl; exact Rs.nil)
  · exact ⟨rfl, rfl⟩
  · (apply ent; (repeat constructor); done)
theorem ct_pcheck_nil (hE : Seat E) {i : Int} : Ct E 81 [.pointer none, .int .i64 i] [] (fun v Q => v = .tuple #[.int .i64 0, .iface 38 (.int .i64 5)] ∧ Q = []) := by
  refine fn_enter (hE.fn Tryd.func81) rfl rfl rfl (fun R => ?_)
  simp only [argsL, List.cons_append, List.nil_append]
  refine w_seq (w_region ?_)
  refine l_yield (y_assign rfl) rfl ?_
  refine l_yield (y_assign rfl) rfl ?_
  refine l_nil (a_then (w_seq (w_seq (w_region ?_))))
  refine l_yield (y_move rfl) rfl ?_
  apply l_loud (by kernel_rfl) rfl
  apply ld_call (ct_Store_nil hE) rfl (hE.f (by kernel_rfl))
  · ((repeat constructor); done)
  rintro _ _ ⟨rfl, rfl⟩
  simp only [List.cons_append, List.nil_append]
  apply l_yield
  · (first | exact y_eq_ptr rfl (hE.t rfl) | exact y_eq_nil rfl (hE.t rfl))
  · rfl
  refine l_nil (a_then ?_)
  refine w_cond_t rfl ?_
  refine w_seq (w_region ?_)
  refine l_yield (y_iface rfl (hE.t rfl) rfl) rfl ?_
  refine l_yield (y_assign rfl) rfl ?_
  refine l_yield (y_assign rfl) rfl ?_
  refine l_nil (a_then (w_ret (a_then_ret ?_)))
  apply a_ret
  · rfl
  · (apply Rs.tmp rfl; apply Rs.tmp rfl; exact Rs.nil)
  · exact ⟨rfl, rfl⟩
  · (apply ent; (repeat constructor); done)
theorem ct_pcheck_bad (hE : Seat E) {i : Int} (hn : ¬ (0 ≤ i ∧ i ≤ (Es.length : Nat))) : Ct E 81 [.pointer (some ⟨pp, 0, none⟩), .int .i64 i] [cells pp [.pointer (some ⟨s, 0, none⟩), .pointer (some ⟨tb, 0, none⟩)] 108, tabP tb s (rls Es), storeP s most Es] (fun v Q => v = .tuple #[.int .i64 0, .iface 38 (.int .i64 1)] ∧ Q = [cells pp [.pointer (some ⟨s, 0, none⟩), .pointer (some ⟨tb, 0, none⟩)] 108, tabP tb s (rls Es), storeP s most Es]) := by
  refine fn_enter (hE.fn Tryd.func81) rfl rfl rfl (fun R => ?_)
  simp only [argsL, List.cons_append, List.nil_append]
  refine w_seq (w_region ?_)
  refine l_yield (y_assign rfl) rfl ?_
  refine l_yield (y_assign rfl) rfl ?_
  refine l_nil (a_then (w_seq (w_seq (w_region ?_))))
  refine l_yield (y_move rfl) rfl ?_
  apply l_loud (by kernel_rfl) rfl
  apply ld_call (ct_Store hE) rfl (hE.f (by kernel_rfl))
  · ((repeat constructor); done)
  rintro _ _ ⟨rfl, rfl⟩
  simp only [List.cons_append, List.nil_append]
  apply l_yield
  · (first | exact y_eq_ptr rfl (hE.t rfl) | exact y_eq_nil rfl (hE.t rfl))
  · rfl
  refine l_nil (a_then ?_)
  refine w_cond_f rfl ?_
  refine w_skip (a_then (w_seq (w_region ?_)))
  refine l_yield (y_move rfl) rfl ?_
  apply l_loud (by kernel_rfl) rfl
  apply ld_call (ct_Store hE) rfl (hE.f (by kernel_rfl))
  · ((repeat constructor); done)
  rintro _ _ ⟨rfl, rfl⟩
  simp only [List.cons_append, List.nil_append]
  refine l_yield (y_move rfl) rfl ?_
  apply l_loud (by kernel_rfl) rfl
  apply ld_call (ct_weight_bad hE hn) rfl (hE.f (by kernel_rfl))
  · ((repeat constructor); done)
  rintro _ _ ⟨rfl, rfl⟩
  simp only [List.cons_append, List.nil_append]
  refine l_yield (y_move rfl) rfl ?_
  refine l_yield (y_extract rfl rfl) rfl ?_
  refine l_yield (y_extract rfl rfl) rfl ?_
  apply l_loud (by kernel_rfl) rfl
  refine ld_alloc (hE.t rfl) (fun b6 => ?_)
  apply l_loud (by kernel_rfl) rfl
  (first | (apply ld_store rfl rfl (hE.t rfl) rfl; (focus ((repeat constructor); done)); (focus rfl); (focus (exact Nat.le_of_ble_eq_true rfl))) | (apply ld_store_sl rfl rfl (hE.t rfl) rfl; (focus ((repeat constructor); done)); (focus rfl); (focus (first | omega | (simp only [cellsL, List.length_cons, List.length_nil]; omega)))))
  refine l_yield (y_assign rfl) rfl ?_
  refine l_nil (a_then (w_seq (w_seq (w_region ?_))))
  refine l_yield (y_move rfl) rfl ?_
  apply l_yield
  · (first | exact y_ok_ne rfl (hE.t rfl) | exact y_err_ne rfl (hE.t rfl))
  · rfl
  refine l_nil (a_then ?_)
  refine w_cond_t rfl ?_
  refine w_seq (w_region ?_)
  refine l_yield (y_move rfl) rfl ?_
  refine l_yield (y_assign rfl) rfl ?_
  refine l_yield (y_assign rfl) rfl ?_
  refine l_nil (a_then (w_ret (a_then_ret ?_)))
  apply a_ret
  · rfl
  · (apply Rs.tmp rfl; apply Rs.tmp rfl; exact Rs.nil)
  · exact ⟨rfl, rfl⟩
  · (apply ent; (repeat constructor); done)
theorem ct_pcheck_form (hE : Seat E) (hB : Base E.w0) {i : Nat} (hi : i < Es.length) (hl : lvl (rls Es) (i + 1) < 0) : Ct E 81 [.pointer (some ⟨pp, 0, none⟩), .int .i64 ((i + 1 : Nat) : Int)] [cells pp [.pointer (some ⟨s, 0, none⟩), .pointer (some ⟨tb, 0, none⟩)] 108, tabP tb s (rls Es), storeP s most Es] (fun v Q => v = .tuple #[.int .i64 0, .iface 38 (.int .i64 4)] ∧ Q = [cells pp [.pointer (some ⟨s, 0, none⟩), .pointer (some ⟨tb, 0, none⟩)] 108, tabP tb s (rls Es), storeP s most Es]) := by
  have hent : Es[i]? = some (Es[i]'(by omega)) := List.getElem?_eq_getElem (by omega)
  generalize Es[i]'(by omega) = en at hent
  refine fn_enter (hE.fn Tryd.func81) rfl rfl rfl (fun R => ?_)
  simp only [argsL, List.cons_append, List.nil_append]
  refine w_seq (w_region ?_)
  refine l_yield (y_assign rfl) rfl ?_
  refine l_yield (y_assign rfl) rfl ?_
  refine l_nil (a_then (w_seq (w_seq (w_region ?_))))
  refine l_yield (y_move rfl) rfl ?_
  apply l_loud (by kernel_rfl) rfl
  apply ld_call (ct_Store hE) rfl (hE.f (by kernel_rfl))
  · ((repeat constructor); done)
  rintro _ _ ⟨rfl, rfl⟩
  simp only [List.cons_append, List.nil_append]
  apply l_yield
  · (first | exact y_eq_ptr rfl (hE.t rfl) | exact y_eq_nil rfl (hE.t rfl))
  · rfl
  refine l_nil (a_then ?_)
  refine w_cond_f rfl ?_
  refine w_skip (a_then (w_seq (w_region ?_)))
  refine l_yield (y_move rfl) rfl ?_
  apply l_loud (by kernel_rfl) rfl
  apply ld_call (ct_Store hE) rfl (hE.f (by kernel_rfl))
  · ((repeat constructor); done)
  rintro _ _ ⟨rfl, rfl⟩
  simp only [List.cons_append, List.nil_append]
  refine l_yield (y_move rfl) rfl ?_
  apply l_loud (by kernel_rfl) rfl
  apply ld_call (ct_weight hE hent) rfl (hE.f (by kernel_rfl))
  · ((repeat constructor); done)
  rintro _ _ ⟨rfl, rfl⟩
  simp only [List.cons_append, List.nil_append]
  refine l_yield (y_move rfl) rfl ?_
  refine l_yield (y_extract rfl rfl) rfl ?_
  refine l_yield (y_extract rfl rfl) rfl ?_
  apply l_loud (by kernel_rfl) rfl
  refine ld_alloc (hE.t rfl) (fun b6 => ?_)
  apply l_loud (by kernel_rfl) rfl
  (first | (apply ld_store rfl rfl (hE.t rfl) rfl; (focus ((repeat constructor); done)); (focus rfl); (focus (exact Nat.le_of_ble_eq_true rfl))) | (apply ld_store_sl rfl rfl (hE.t rfl) rfl; (focus ((repeat constructor); done)); (focus rfl); (focus (first | omega | (simp only [cellsL, List.length_cons, List.length_nil]; omega)))))
  refine l_yield (y_assign rfl) rfl ?_
  refine l_nil (a_then (w_seq (w_seq (w_region ?_))))
  refine l_yield (y_move rfl) rfl ?_
  apply l_yield
  · (first | exact y_ok_ne rfl (hE.t rfl) | exact y_err_ne rfl (hE.t rfl))
  · rfl
  refine l_nil (a_then ?_)
  refine w_cond_f rfl ?_
  refine w_skip (a_then (w_seq (w_seq (w_region ?_))))
  refine l_yield (y_move rfl) rfl ?_
  refine l_yield (y_move rfl) rfl ?_
  apply l_loud (by kernel_rfl) rfl
  apply ld_call (ct_Top_no hE hB hi hl) rfl (hE.f (by kernel_rfl))
  · ((repeat constructor); done)
  rintro _ _ ⟨rfl, rfl⟩
  simp only [List.cons_append, List.nil_append]
  refine l_yield (y_move rfl) rfl ?_
  refine l_yield (y_extract rfl rfl) rfl ?_
  refine l_yield (y_extract rfl rfl) rfl ?_
  refine l_yield (y_assign rfl) rfl ?_
  refine l_yield (y_assign rfl) rfl ?_
  refine l_nil (a_then (w_seq (w_region ?_)))
  refine l_yield (y_move rfl) rfl ?_
  apply l_yield
  · (first | exact y_ok_ne rfl (hE.t rfl) | exact y_err_ne rfl (hE.t rfl))
  · rfl
  refine l_nil (a_then ?_)
  refine w_cond_t rfl ?_
  refine w_seq (w_region ?_)
  refine l_yield (y_move rfl) rfl ?_
  refine l_yield (y_assign rfl) rfl ?_
  refine l_yield (y_assign rfl) rfl ?_
  refine l_nil (a_then (w_ret (a_then_ret ?_)))
  apply a_ret
  · rfl
  · (apply Rs.tmp rfl; apply Rs.tmp rfl; exact Rs.nil)
  · exact ⟨rfl, rfl⟩
  · (apply ent; (repeat constructor); done)
section
variable {pv : Value} {i : Int} {e : Int} {P : HP}
theorem ct_Has_err (hE : Seat E) (hc : Ct E 81 [pv, .int .i64 i] [P] (fun v Q => v = .tuple #[.int .i64 0, .iface 38 (.int .i64 e)] ∧ Q = [P])) {d : Int} : Ct E 36 [pv, .int .i64 i, .int .i64 d] [P] (fun v Q => v = .tuple #[.bool false, .iface 38 (.int .i64 e)] ∧ Q = [P]) := by
  refine fn_enter (hE.fn Tryd.func36) rfl rfl rfl (fun R => ?_)
  simp only [argsL, List.cons_append, List.nil_append]
  refine w_seq (w_region ?_)
  refine l_yield (y_assign rfl) rfl ?_
  refine l_yield (y_assign rfl) rfl ?_
  refine l_nil (a_then (w_seq (w_region ?_)))
  refine l_yield (y_move rfl) rfl ?_
  refine l_yield (y_move rfl) rfl ?_
  apply l_loud (by kernel_rfl) rfl
  apply ld_call (hc) rfl (hE.f (by kernel_rfl))
  · ((repeat constructor); done)
  rintro _ _ ⟨rfl, rfl⟩
  simp only [List.cons_append, List.nil_append]
  refine l_yield (y_move rfl) rfl ?_
  refine l_yield (y_extract rfl rfl) rfl ?_
  refine l_yield (y_extract rfl rfl) rfl ?_
  refine l_yield (y_assign rfl) rfl ?_
  refine l_yield (y_assign rfl) rfl ?_
  refine l_nil (a_then (w_seq (w_seq (w_region ?_))))
  refine l_yield (y_move rfl) rfl ?_
  apply l_yield
  · (first | exact y_ok_ne rfl (hE.t rfl) | exact y_err_ne rfl (hE.t rfl))
  · rfl
  refine l_nil (a_then ?_)
  refine w_cond_t rfl ?_
  refine w_seq (w_region ?_)
  refine l_yield (y_move rfl) rfl ?_
  refine l_yield (y_assign rfl) rfl ?_
  refine l_yield (y_assign rfl) rfl ?_
  refine l_nil (a_then (w_ret (a_then_ret ?_)))
  apply a_ret
  · rfl
  · (apply Rs.tmp rfl; apply Rs.tmp rfl; exact Rs.nil)
  · exact ⟨rfl, rfl⟩
  · (apply ent; (repeat constructor); done)
theorem ct_Extend_err (hE : Seat E) (hc : Ct E 81 [pv, .int .i64 i] [P] (fun v Q => v = .tuple #[.int .i64 0, .iface 38 (.int .i64 e)] ∧ Q = [P])) {p n d : Int} : Ct E 38 [pv, .int .i64 i, .int .i64 p, .int .i64 n, .int .i64 d] [P] (fun v Q => v = .tuple #[.agg #[.int .i64 0, .int .i64 0], .iface 38 (.int .i64 e)] ∧ Q = [P]) := by
  refine fn_enter (hE.fn Tryd.func38) rfl rfl rfl (fun R => ?_)
  simp only [argsL, List.cons_append, List.nil_append]
  refine w_seq (w_region ?_)
  apply l_loud (by kernel_rfl) rfl
  refine ld_alloc (hE.t rfl) (fun b10 => ?_)
  refine l_yield (y_assign rfl) rfl ?_
  refine l_nil (a_then (w_seq (w_region ?_)))
  refine l_yield (y_move rfl) rfl ?_
  refine l_yield (y_move rfl) rfl ?_
  apply l_loud (by kernel_rfl) rfl
  apply ld_call (hc) rfl (hE.f (by kernel_rfl))
  · ((repeat constructor); done)
  rintro _ _ ⟨rfl, rfl⟩
  simp only [List.cons_append, List.nil_append]
  refine l_yield (y_move rfl) rfl ?_
  refine l_yield (y_extract rfl rfl) rfl ?_
  refine l_yield (y_extract rfl rfl) rfl ?_
  refine l_yield (y_assign rfl) rfl ?_
  refine l_yield (y_assign rfl) rfl ?_
  refine l_nil (a_then (w_seq (w_seq (w_region ?_))))
  refine l_yield (y_move rfl) rfl ?_
  apply l_yield
  · (first | exact y_ok_ne rfl (hE.t rfl) | exact y_err_ne rfl (hE.t rfl))
  · rfl
  refine l_nil (a_then ?_)
  refine w_cond_t rfl ?_
  refine w_seq (w_region ?_)
  apply l_yield
  · (first | exact y_build (hE.t rfl) rfl rfl | exact y_buildA (hE.t rfl) rfl rfl)
  · rfl
  refine l_yield (y_move rfl) rfl ?_
  apply l_loud (by kernel_rfl) rfl
  (first | (apply ld_store rfl rfl (hE.t rfl) rfl; (focus ((repeat constructor); done)); (focus rfl); (focus (exact Nat.le_of_ble_eq_true rfl))) | (apply ld_store_sl rfl rfl (hE.t rfl) rfl; (focus ((repeat constructor); done)); (focus rfl); (focus (first | omega | (simp only [cellsL, List.length_cons, List.length_nil]; omega)))))
  refine l_yield (y_assign rfl) rfl ?_
  refine l_nil (a_then (w_ret (a_then_ret ?_)))
  apply a_ret
  · rfl
  · ((apply Rs.cell rfl (hE.t rfl) rfl; (focus ((repeat (first | rfl | assumption | constructor)); done))); apply Rs.tmp rfl; exact Rs.nil)
  · exact ⟨rfl, rfl⟩
  · (apply ent; (repeat constructor); done)
theorem ct_Border_err (hE : Seat E) (hc : Ct E 81 [pv, .int .i64 i] [P] (fun v Q => v = .tuple #[.int .i64 0, .iface 38 (.int .i64 e)] ∧ Q = [P])) {n : Int} : Ct E 41 [pv, .int .i64 i, .int .i64 n] [P] (fun v Q => v = .tuple #[.bool false, .iface 38 (.int .i64 e)] ∧ Q = [P]) := by
  refine fn_enter (hE.fn Tryd.func41) rfl rfl rfl (fun R => ?_)
  simp only [argsL, List.cons_append, List.nil_append]
  refine w_seq (w_region ?_)
  refine l_yield (y_assign rfl) rfl ?_
  refine l_yield (y_assign rfl) rfl ?_
  refine l_nil (a_then (w_seq (w_region ?_)))
  refine l_yield (y_move rfl) rfl ?_
  refine l_yield (y_move rfl) rfl ?_
  apply l_loud (by kernel_rfl) rfl
  apply ld_call (hc) rfl (hE.f (by kernel_rfl))
  · ((repeat constructor); done)
  rintro _ _ ⟨rfl, rfl⟩
  simp only [List.cons_append, List.nil_append]
  refine l_yield (y_move rfl) rfl ?_
  refine l_yield (y_extract rfl rfl) rfl ?_
  refine l_yield (y_extract rfl rfl) rfl ?_
  refine l_yield (y_assign rfl) rfl ?_
  refine l_yield (y_assign rfl) rfl ?_
  refine l_nil (a_then (w_seq (w_seq (w_region ?_))))
  refine l_yield (y_move rfl) rfl ?_
  apply l_yield
  · (first | exact y_ok_ne rfl (hE.t rfl) | exact y_err_ne rfl (hE.t rfl))
  · rfl
  refine l_nil (a_then ?_)
  refine w_cond_t rfl ?_
  refine w_seq (w_region ?_)
  refine l_yield (y_move rfl) rfl ?_
  refine l_yield (y_assign rfl) rfl ?_
  refine l_yield (y_assign rfl) rfl ?_
  refine l_nil (a_then (w_ret (a_then_ret ?_)))
  apply a_ret
  · rfl
  · (apply Rs.tmp rfl; apply Rs.tmp rfl; exact Rs.nil)
  · exact ⟨rfl, rfl⟩
  · (apply ent; (repeat constructor); done)
theorem ct_Square_err (hE : Seat E) (hc : Ct E 81 [pv, .int .i64 i] [P] (fun v Q => v = .tuple #[.int .i64 0, .iface 38 (.int .i64 e)] ∧ Q = [P])) {p d : Int} : Ct E 43 [pv, .int .i64 i, .int .i64 p, .int .i64 d] [P] (fun v Q => v = .tuple #[.bool false, .iface 38 (.int .i64 e)] ∧ Q = [P]) := by
  refine fn_enter (hE.fn Tryd.func43) rfl rfl rfl (fun R => ?_)
  simp only [argsL, List.cons_append, List.nil_append]
  refine w_seq (w_region ?_)
  refine l_yield (y_assign rfl) rfl ?_
  refine l_yield (y_assign rfl) rfl ?_
  refine l_nil (a_then (w_seq (w_region ?_)))
  refine l_yield (y_move rfl) rfl ?_
  refine l_yield (y_move rfl) rfl ?_
  apply l_loud (by kernel_rfl) rfl
  apply ld_call (hc) rfl (hE.f (by kernel_rfl))
  · ((repeat constructor); done)
  rintro _ _ ⟨rfl, rfl⟩
  simp only [List.cons_append, List.nil_append]
  refine l_yield (y_move rfl) rfl ?_
  refine l_yield (y_extract rfl rfl) rfl ?_
  refine l_yield (y_extract rfl rfl) rfl ?_
  refine l_yield (y_assign rfl) rfl ?_
  refine l_yield (y_assign rfl) rfl ?_
  refine l_nil (a_then (w_seq (w_seq (w_region ?_))))
  refine l_yield (y_move rfl) rfl ?_
  apply l_yield
  · (first | exact y_ok_ne rfl (hE.t rfl) | exact y_err_ne rfl (hE.t rfl))
  · rfl
  refine l_nil (a_then ?_)
  refine w_cond_t rfl ?_
  refine w_seq (w_region ?_)
  refine l_yield (y_move rfl) rfl ?_
  refine l_yield (y_assign rfl) rfl ?_
  refine l_yield (y_assign rfl) rfl ?_
  refine l_nil (a_then (w_ret (a_then_ret ?_)))
  apply a_ret
  · rfl
  · (apply Rs.tmp rfl; apply Rs.tmp rfl; exact Rs.nil)
  · exact ⟨rfl, rfl⟩
  · (apply ent; (repeat constructor); done)
theorem ct_Exponent_err (hE : Seat E) (hc : Ct E 81 [pv, .int .i64 i] [P] (fun v Q => v = .tuple #[.int .i64 0, .iface 38 (.int .i64 e)] ∧ Q = [P])) {d : Int} : Ct E 45 [pv, .int .i64 i, .int .i64 d] [P] (fun v Q => v = .tuple #[.int .i64 0, .bool false, .iface 38 (.int .i64 e)] ∧ Q = [P]) := by
  refine fn_enter (hE.fn Tryd.func45) rfl rfl rfl (fun R => ?_)
  simp only [argsL, List.cons_append, List.nil_append]
  refine w_seq (w_region ?_)
  refine l_yield (y_assign rfl) rfl ?_
  refine l_yield (y_assign rfl) rfl ?_
  refine l_yield (y_assign rfl) rfl ?_
  refine l_nil (a_then (w_seq (w_region ?_)))
  refine l_yield (y_move rfl) rfl ?_
  refine l_yield (y_move rfl) rfl ?_
  apply l_loud (by kernel_rfl) rfl
  apply ld_call (hc) rfl (hE.f (by kernel_rfl))
  · ((repeat constructor); done)
  rintro _ _ ⟨rfl, rfl⟩
  simp only [List.cons_append, List.nil_append]
  refine l_yield (y_move rfl) rfl ?_
  refine l_yield (y_extract rfl rfl) rfl ?_
  refine l_yield (y_extract rfl rfl) rfl ?_
  refine l_yield (y_assign rfl) rfl ?_
  refine l_yield (y_assign rfl) rfl ?_
  refine l_nil (a_then (w_seq (w_seq (w_region ?_))))
  refine l_yield (y_move rfl) rfl ?_
  apply l_yield
  · (first | exact y_ok_ne rfl (hE.t rfl) | exact y_err_ne rfl (hE.t rfl))
  · rfl
  refine l_nil (a_then ?_)
  refine w_cond_t rfl ?_
  refine w_seq (w_region ?_)
  refine l_yield (y_move rfl) rfl ?_
  refine l_yield (y_assign rfl) rfl ?_
  refine l_yield (y_assign rfl) rfl ?_
  refine l_yield (y_assign rfl) rfl ?_
  refine l_nil (a_then (w_ret (a_then_ret ?_)))
  apply a_ret
  · rfl
  · (apply Rs.tmp rfl; apply Rs.tmp rfl; apply Rs.tmp rfl; exact Rs.nil)
  · exact ⟨rfl, rfl⟩
  · (apply ent; (repeat constructor); done)
theorem ct_all (hE : Seat E) (he : e ≠ 0) (hc : Ct E 81 [pv, .int .i64 i] [P] (fun v Q => v = .tuple #[.int .i64 0, .iface 38 (.int .i64 e)] ∧ Q = [P])) : Ct E 55 [pv, .int .i64 i, .int .i64 e] [P] (fun v Q => v = .bool true ∧ Q = [P]) := by
  refine fn_enter (hE.fn Tryd.func55) rfl rfl rfl (fun R => ?_)
  simp only [argsL, List.cons_append, List.nil_append]
  refine w_seq (w_region ?_)
  refine l_yield (y_assign rfl) rfl ?_
  refine l_nil (a_then (w_seq (w_region ?_)))
  refine l_yield (y_move rfl) rfl ?_
  refine l_yield (y_move rfl) rfl ?_
  apply l_loud (by kernel_rfl) rfl
  apply ld_call (ct_Has_err hE hc) rfl (hE.f (by kernel_rfl))
  · ((repeat constructor); done)
  rintro _ _ ⟨rfl, rfl⟩
  simp only [List.cons_append, List.nil_append]
  refine l_yield (y_move rfl) rfl ?_
  refine l_yield (y_extract rfl rfl) rfl ?_
  refine l_yield (y_extract rfl rfl) rfl ?_
  refine l_yield (y_assign rfl) rfl ?_
  refine l_yield (y_assign rfl) rfl ?_
  refine l_nil (a_then (w_seq (w_region ?_)))
  refine l_yield (y_move rfl) rfl ?_
  refine l_yield (y_move rfl) rfl ?_
  apply l_loud (by kernel_rfl) rfl
  apply ld_call (ct_Extend_err hE hc) rfl (hE.f (by kernel_rfl))
  · ((repeat constructor); done)
  rintro _ _ ⟨rfl, rfl⟩
  simp only [List.cons_append, List.nil_append]
  refine l_yield (y_move rfl) rfl ?_
  refine l_yield (y_extract rfl rfl) rfl ?_
  refine l_yield (y_extract rfl rfl) rfl ?_
  apply l_loud (by kernel_rfl) rfl
  refine ld_alloc (hE.t rfl) (fun b9 => ?_)
  apply l_loud (by kernel_rfl) rfl
  (first | (apply ld_store rfl rfl (hE.t rfl) rfl; (focus ((repeat constructor); done)); (focus rfl); (focus (exact Nat.le_of_ble_eq_true rfl))) | (apply ld_store_sl rfl rfl (hE.t rfl) rfl; (focus ((repeat constructor); done)); (focus rfl); (focus (first | omega | (simp only [cellsL, List.length_cons, List.length_nil]; omega)))))
  refine l_yield (y_assign rfl) rfl ?_
  refine l_nil (a_then (w_seq (w_region ?_)))
  refine l_yield (y_move rfl) rfl ?_
  refine l_yield (y_move rfl) rfl ?_
  apply l_loud (by kernel_rfl) rfl
  apply ld_call (ct_Border_err hE hc) rfl (hE.f (by kernel_rfl))
  · ((repeat constructor); done)
  rintro _ _ ⟨rfl, rfl⟩
  simp only [List.cons_append, List.nil_append]
  refine l_yield (y_move rfl) rfl ?_
  refine l_yield (y_extract rfl rfl) rfl ?_
  refine l_yield (y_extract rfl rfl) rfl ?_
  refine l_yield (y_assign rfl) rfl ?_
  refine l_yield (y_assign rfl) rfl ?_
  refine l_nil (a_then (w_seq (w_region ?_)))
  refine l_yield (y_move rfl) rfl ?_
  refine l_yield (y_move rfl) rfl ?_
  apply l_loud (by kernel_rfl) rfl
  apply ld_call (ct_Square_err hE hc) rfl (hE.f (by kernel_rfl))
  · ((repeat constructor); done)
  rintro _ _ ⟨rfl, rfl⟩
  simp only [List.cons_append, List.nil_append]
  refine l_yield (y_move rfl) rfl ?_
  refine l_yield (y_extract rfl rfl) rfl ?_
  refine l_yield (y_extract rfl rfl) rfl ?_
  refine l_yield (y_assign rfl) rfl ?_
  refine l_yield (y_assign rfl) rfl ?_
  refine l_nil (a_then (w_seq (w_region ?_)))
  refine l_yield (y_move rfl) rfl ?_
  refine l_yield (y_move rfl) rfl ?_
  apply l_loud (by kernel_rfl) rfl
  apply ld_call (ct_Exponent_err hE hc) rfl (hE.f (by kernel_rfl))
  · ((repeat constructor); done)
  rintro _ _ ⟨rfl, rfl⟩
  simp only [List.cons_append, List.nil_append]
  refine l_yield (y_move rfl) rfl ?_
  refine l_yield (y_extract rfl rfl) rfl ?_
  refine l_yield (y_extract rfl rfl) rfl ?_
  refine l_yield (y_extract rfl rfl) rfl ?_
  refine l_yield (y_assign rfl) rfl ?_
  refine l_yield (y_assign rfl) rfl ?_
  refine l_yield (y_assign rfl) rfl ?_
  refine l_nil (a_then (w_seq (w_region ?_)))
  refine l_yield (y_move rfl) rfl ?_
  refine l_yield (y_move rfl) rfl ?_
  apply l_loud (by kernel_rfl) rfl
  apply ld_call (ct_Is hE he) rfl (hE.f (by kernel_rfl))
  · ((repeat constructor); done)
  rintro _ _ ⟨rfl, rfl⟩
  simp only [List.cons_append, List.nil_append]
  refine l_yield (y_move rfl) rfl ?_
  skip
  refine l_on rfl rfl ?_
  refine l_yield (y_move rfl) rfl ?_
  refine l_on rfl rfl ?_
  refine l_yield (y_move rfl) rfl ?_
  refine l_on rfl rfl ?_
  apply l_loud (by kernel_rfl) rfl
  apply ld_call (ct_Is hE he) rfl (hE.f (by kernel_rfl))
  · ((repeat constructor); done)
  rintro _ _ ⟨rfl, rfl⟩
  simp only [List.cons_append, List.nil_append]
  apply l_yield
  · (first | exact y_pick_t rfl rfl | exact y_pick_f rfl rfl)
  · rfl
  refine l_yield (y_move rfl) rfl ?_
  skip
  refine l_on rfl rfl ?_
  refine l_yield (y_move rfl) rfl ?_
  refine l_on rfl rfl ?_
  refine l_yield (y_move rfl) rfl ?_
  refine l_on rfl rfl ?_
  apply l_loud (by kernel_rfl) rfl
  apply ld_call (ct_Is hE he) rfl (hE.f (by kernel_rfl))
  · ((repeat constructor); done)
  rintro _ _ ⟨rfl, rfl⟩
  simp only [List.cons_append, List.nil_append]
  apply l_yield
  · (first | exact y_pick_t rfl rfl | exact y_pick_f rfl rfl)
  · rfl
  refine l_yield (y_move rfl) rfl ?_
  skip
  refine l_on rfl rfl ?_
  refine l_yield (y_move rfl) rfl ?_
  refine l_on rfl rfl ?_
  refine l_yield (y_move rfl) rfl ?_
  refine l_on rfl rfl ?_
  apply l_loud (by kernel_rfl) rfl
  apply ld_call (ct_Is hE he) rfl (hE.f (by kernel_rfl))
  · ((repeat constructor); done)
  rintro _ _ ⟨rfl, rfl⟩
  simp only [List.cons_append, List.nil_append]
  apply l_yield
  · (first | exact y_pick_t rfl rfl | exact y_pick_f rfl rfl)
  · rfl
  refine l_yield (y_move rfl) rfl ?_
  skip
  refine l_on rfl rfl ?_
  refine l_yield (y_move rfl) rfl ?_
  refine l_on rfl rfl ?_
  refine l_yield (y_move rfl) rfl ?_
  refine l_on rfl rfl ?_
  apply l_loud (by kernel_rfl) rfl
  apply ld_call (ct_Is hE he) rfl (hE.f (by kernel_rfl))
  · ((repeat constructor); done)
  rintro _ _ ⟨rfl, rfl⟩
  simp only [List.cons_append, List.nil_append]
  apply l_yield
  · (first | exact y_pick_t rfl rfl | exact y_pick_f rfl rfl)
  · rfl
  refine l_yield (y_assign rfl) rfl ?_
  refine l_nil (a_then (w_ret ?_))
  apply a_ret
  · rfl
  · (apply Rs.tmp rfl; exact Rs.nil)
  · exact ⟨rfl, rfl⟩
  · (apply ent; (repeat constructor); done)
end
theorem ct_all_nil (hE : Seat E) : Ct E 55 [.pointer none, .int .i64 0, .int .i64 5] [] (fun v Q => v = .bool true ∧ Q = []) := ct_spread (l := []) (ct_all hE (by decide) (ct_pack (ct_pcheck_nil hE)))
theorem ct_all_bad (hE : Seat E) (pp s tb most : Nat) (Es : List Ent) {i : Int} (hn : ¬ (0 ≤ i ∧ i ≤ (Es.length : Nat))) : Ct E 55 [.pointer (some ⟨pp, 0, none⟩), .int .i64 i, .int .i64 1] [cells pp [.pointer (some ⟨s, 0, none⟩), .pointer (some ⟨tb, 0, none⟩)] 108, tabP tb s (rls Es), storeP s most Es] (fun v Q => v = .bool true ∧ Q = [cells pp [.pointer (some ⟨s, 0, none⟩), .pointer (some ⟨tb, 0, none⟩)] 108, tabP tb s (rls Es), storeP s most Es]) := ct_spread (ct_all hE (by decide) (ct_pack (ct_pcheck_bad hE hn)))
theorem ct_all_form (hE : Seat E) (hB : Base E.w0) (pp s tb most : Nat) (Es : List Ent) {i : Nat} (hi : i < Es.length) (hl : lvl (rls Es) (i + 1) < 0) : Ct E 55 [.pointer (some ⟨pp, 0, none⟩), .int .i64 ((i + 1 : Nat) : Int), .int .i64 4] [cells pp [.pointer (some ⟨s, 0, none⟩), .pointer (some ⟨tb, 0, none⟩)] 108, tabP tb s (rls Es), storeP s most Es] (fun v Q => v = .bool true ∧ Q = [cells pp [.pointer (some ⟨s, 0, none⟩), .pointer (some ⟨tb, 0, none⟩)] 108, tabP tb s (rls Es), storeP s most Es]) := ct_spread (ct_all hE (by decide) (ct_pack (ct_pcheck_form hE hB hi hl)))
theorem ct_PeriodErrors (hE : Seat E) (hB : Base E.w0) {a : List UInt8} {d : Int} : Ct E 11 [.string ⟨⟨a⟩⟩, .int .i64 d] [] (fun v Q => v = .bool true ∧ Q = []) := by
  have sa := size_mk a
  refine fn_enter (hE.fn Tryd.func11) rfl rfl rfl (fun R => ?_)
  simp only [argsL, List.cons_append, List.nil_append]
  refine w_seq (w_region ?_)
  refine l_yield (y_assign rfl) rfl ?_
  refine l_nil (a_then (w_seq (w_seq (w_region ?_))))
  apply l_loud (by kernel_rfl) rfl
  apply ld_call (ct_alive hE hB) rfl (hE.f (by kernel_rfl))
  · ((repeat constructor); done)
  rintro _ _ ⟨rfl, rfl⟩
  simp only [List.cons_append, List.nil_append]
  refine l_yield (y_not rfl) rfl ?_
  refine l_nil (a_then ?_)
  refine w_cond_f rfl ?_
  refine w_skip (a_then (w_seq (w_seq (w_region ?_))))
  refine l_yield (y_move rfl) rfl ?_
  refine l_yield (y_len_str rfl (hE.t rfl)) rfl ?_
  refine l_yield (y_gt rfl rfl) rfl ?_
  refine l_nil (a_then ?_)
  refine w_cond_d rfl (fun h1 => ?_) (fun h1 => ?_)
  · skip
    refine w_seq (w_region ?_)
    refine l_yield (y_assign rfl) rfl ?_
    refine l_nil (a_then (w_ret (a_then_ret ?_)))
    apply a_ret
    · rfl
    · (apply Rs.tmp rfl; exact Rs.nil)
    · exact ⟨rfl, rfl⟩
    · (apply ent; (repeat constructor); done)
  skip
  refine w_skip (a_then (w_seq (w_region ?_)))
  refine l_yield (y_move rfl) rfl ?_
  apply l_loud (by kernel_rfl) rfl
  apply ld_call (ct_parse hE hB (by omega)) rfl (hE.f (by kernel_rfl))
  · ((repeat constructor); done)
  rintro _ _ ⟨pp, s, tb, M, x, rfl, hM, tx1, gx, rfl⟩
  have hl : len (rls M) x = a.length := by unfold len; rw [tx1]
  have gx1 := gx.1
  rw [rls_length] at gx1
  simp only [List.cons_append, List.nil_append]
  refine l_yield (y_move rfl) rfl ?_
  refine l_yield (y_extract rfl rfl) rfl ?_
  refine l_yield (y_extract rfl rfl) rfl ?_
  refine l_yield (y_extract rfl rfl) rfl ?_
  refine l_yield (y_assign rfl) rfl ?_
  refine l_yield (y_assign rfl) rfl ?_
  refine l_yield (y_assign rfl) rfl ?_
  refine l_nil (a_then (w_seq (w_seq (w_region ?_))))
  refine l_yield (y_move rfl) rfl ?_
  refine l_yield (y_not rfl) rfl ?_
  refine l_nil (a_then ?_)
  refine w_cond_f rfl ?_
  refine w_skip (a_then (w_seq (w_region ?_)))
  refine l_yield (y_assign rfl) rfl ?_
  refine l_nil (a_then (w_seq (w_seq (w_region ?_))))
  refine l_yield (y_move rfl) rfl ?_
  apply l_loud (by kernel_rfl) rfl
  apply ld_callv (hx := rfl) (ha := rfl) (hf := hE.f (by kernel_rfl))
  · exact ct_all_nil hE
  · ((repeat constructor); done)
  rintro _ _ ⟨rfl, rfl⟩
  simp only [List.cons_append, List.nil_append]
  refine l_yield (y_not rfl) rfl ?_
  refine l_nil (a_then ?_)
  refine w_cond_f rfl ?_
  refine w_skip (a_then (w_seq (w_region ?_)))
  refine l_yield (y_move rfl) rfl ?_
  apply l_loud (by kernel_rfl) rfl
  apply ld_call (ct_Store hE) rfl (hE.f (by kernel_rfl))
  · ((repeat constructor); done)
  rintro _ _ ⟨rfl, rfl⟩
  simp only [List.cons_append, List.nil_append]
  refine l_yield (y_assign rfl) rfl ?_
  refine l_nil (a_then (w_seq (w_seq (w_region ?_))))
  refine l_yield (y_move rfl) rfl ?_
  refine l_yield (y_lt rfl rfl) rfl ?_
  refine l_yield (y_move rfl) rfl ?_
  refine l_split 32 rfl (fun h2 => ?_) (fun h2 => ?_)
  · skip
    refine l_off rfl rfl rfl rfl (l_off rfl rfl rfl rfl (l_off rfl rfl rfl rfl (l_off rfl rfl rfl rfl ?_)))
    apply l_yield
    · (first | exact y_pick_t rfl rfl | exact y_pick_f rfl rfl)
    · rfl
    refine l_yield (y_move rfl) rfl ?_
    skip
    refine l_on rfl rfl ?_
    refine l_yield (y_move rfl) rfl ?_
    refine l_on rfl rfl ?_
    refine l_yield (y_move rfl) rfl ?_
    refine l_on rfl rfl ?_
    refine l_yield (y_move rfl) rfl ?_
    refine l_on rfl rfl ?_
    apply l_loud (by kernel_rfl) rfl
    apply ld_callv (hx := rfl) (ha := rfl) (hf := hE.f (by kernel_rfl))
    · exact ct_all_bad hE pp s tb 1048576 M (by omega)
    · ((repeat constructor); done)
    rintro _ _ ⟨rfl, rfl⟩
    simp only [List.cons_append, List.nil_append]
    refine l_on rfl rfl ?_
    refine l_yield (y_not rfl) rfl ?_
    apply l_yield
    · (first | exact y_pick_t rfl rfl | exact y_pick_f rfl rfl)
    · rfl
    refine l_nil (a_then ?_)
    refine w_cond_f rfl ?_
    refine w_skip (a_then (w_seq (w_seq (w_region ?_))))
    refine l_yield (y_move rfl) rfl ?_
    refine l_yield (y_eq rfl rfl) rfl ?_
    refine l_nil (a_then ?_)
    refine w_cond_d rfl (fun h5 => ?_) (fun h5 => ?_)
    · skip
      refine w_seq (w_region ?_)
      refine l_yield (y_assign rfl) rfl ?_
      refine l_nil (a_then (w_ret (a_then_ret ?_)))
      apply a_ret
      · rfl
      · (apply Rs.tmp rfl; exact Rs.nil)
      · exact ⟨rfl, rfl⟩
      · (apply ent; (repeat constructor); done)
    skip
    obtain ⟨i, rfl⟩ : ∃ i, x = i + 1 := ⟨x - 1, by omega⟩
    have hent : M[i]? = some (M[i]'(by omega)) := List.getElem?_eq_getElem (by omega)
    generalize M[i]'(by omega) = en at hent
    refine w_skip (a_then (w_seq (w_region ?_)))
    refine l_yield (y_move rfl) rfl ?_
    refine l_yield (y_move rfl) rfl ?_
    refine l_yield (y_move rfl) rfl ?_
    refine l_say (p := storeP s 1048576 M) (by ((repeat constructor); done)) (fun _ h => storeP_says h) (fun hsay => ?_)
    have htx := hsay.2.1 i en hent
    have hle : en.t.length = a.length := by rw [htx]; exact hl
    have hmx : maxLength = 1152921504606846976 := rfl
    have rm : M.length < 1048576 := by omega
    apply l_loud (by kernel_rfl) rfl
    apply ld_call (ct_pair hE hent hent (by omega) rm) rfl (hE.f (by kernel_rfl))
    · ((repeat constructor); done)
    rintro _ _ ⟨M2, id, rfl, hM2, hid, hrl, rfl⟩
    obtain ⟨j, rfl⟩ : ∃ j, id = j + 1 := ⟨id - 1, by omega⟩
    rw [Nat.add_sub_cancel] at hrl
    have hjl : j < (M ++ M2).length := by have := (List.getElem?_eq_some_iff.1 hrl).1; rwa [rls_length] at this
    simp only [List.cons_append, List.nil_append]
    refine l_heap (ent_head (p := tabP tb s (rls M)) (p' := tabP tb s (rls (M ++ M2))) (by ((repeat constructor); done)) (fun _ h => by rw [rls_append M]; exact tabP_ext _ h)) ?_
    refine l_say (p := storeP s 1048576 (M ++ M2)) (by ((repeat constructor); done)) (fun _ h => storeP_says h) (fun hsay2 => ?_)
    have hlv : lvl (rls (M ++ M2)) (j + 1) < 0 := by
      rw [(key_pair hrl (hsay2.1.ok _ _ hrl)).2, if_neg (by simp)]
      omega
    refine l_yield (y_move rfl) rfl ?_
    refine l_yield (y_extract rfl rfl) rfl ?_
    refine l_yield (y_extract rfl rfl) rfl ?_
    refine l_yield (y_assign rfl) rfl ?_
    refine l_yield (y_assign rfl) rfl ?_
    refine l_nil (a_then (w_seq (w_region ?_)))
    refine l_yield (y_move rfl) rfl ?_
    apply l_yield
    · (first | exact y_ok_eq rfl (hE.t rfl) | exact y_err_eq rfl (hE.t rfl))
    · rfl
    refine l_yield (y_move rfl) rfl ?_
    skip
    refine l_on rfl rfl ?_
    refine l_yield (y_move rfl) rfl ?_
    refine l_on rfl rfl ?_
    refine l_yield (y_move rfl) rfl ?_
    refine l_on rfl rfl ?_
    refine l_yield (y_move rfl) rfl ?_
    refine l_on rfl rfl ?_
    apply l_loud (by kernel_rfl) rfl
    apply ld_callv (hx := rfl) (ha := rfl) (hf := hE.f (by kernel_rfl))
    · exact ct_all_form hE hB pp s tb 1048576 (M ++ M2) hjl hlv
    · ((repeat constructor); done)
    rintro _ _ ⟨rfl, rfl⟩
    simp only [List.cons_append, List.nil_append]
    apply l_yield
    · (first | exact y_pick_t rfl rfl | exact y_pick_f rfl rfl)
    · rfl
    refine l_yield (y_assign rfl) rfl ?_
    refine l_nil (a_then (w_ret ?_))
    apply a_ret
    · rfl
    · (apply Rs.tmp rfl; exact Rs.nil)
    · exact ⟨rfl, rfl⟩
    · (apply ent; (repeat constructor); done)
  skip
  refine l_on rfl rfl ?_
  refine l_yield (y_move rfl) rfl ?_
  refine l_on rfl rfl ?_
  refine l_yield (y_move rfl) rfl ?_
  refine l_on rfl rfl ?_
  apply l_loud (by kernel_rfl) rfl
  apply ld_call (ct_len hE) rfl (hE.f (by kernel_rfl))
  · ((repeat constructor); done)
  rintro _ _ ⟨rfl, rfl⟩
  simp only [List.cons_append, List.nil_append]
  refine l_on rfl rfl ?_
  refine l_yield (y_gt rfl rfl) rfl ?_
  apply l_yield
  · (first | exact y_pick_t rfl rfl | exact y_pick_f rfl rfl)
  · rfl
  refine l_yield (y_move rfl) rfl ?_
  refine l_split 38 rfl (fun h3 => ?_) (fun h3 => ?_)
  · skip
    refine l_on rfl rfl ?_
    refine l_yield (y_move rfl) rfl ?_
    refine l_on rfl rfl ?_
    refine l_yield (y_move rfl) rfl ?_
    refine l_on rfl rfl ?_
    refine l_yield (y_move rfl) rfl ?_
    refine l_on rfl rfl ?_
    apply l_loud (by kernel_rfl) rfl
    apply ld_callv (hx := rfl) (ha := rfl) (hf := hE.f (by kernel_rfl))
    · exact ct_all_bad hE pp s tb 1048576 M (by omega)
    · ((repeat constructor); done)
    rintro _ _ ⟨rfl, rfl⟩
    simp only [List.cons_append, List.nil_append]
    refine l_on rfl rfl ?_
    refine l_yield (y_not rfl) rfl ?_
    apply l_yield
    · (first | exact y_pick_t rfl rfl | exact y_pick_f rfl rfl)
    · rfl
    refine l_nil (a_then ?_)
    refine w_cond_f rfl ?_
    refine w_skip (a_then (w_seq (w_seq (w_region ?_))))
    refine l_yield (y_move rfl) rfl ?_
    refine l_yield (y_eq rfl rfl) rfl ?_
    refine l_nil (a_then ?_)
    refine w_cond_d rfl (fun h5 => ?_) (fun h5 => ?_)
    · skip
      refine w_seq (w_region ?_)
      refine l_yield (y_assign rfl) rfl ?_
      refine l_nil (a_then (w_ret (a_then_ret ?_)))
      apply a_ret
      · rfl
      · (apply Rs.tmp rfl; exact Rs.nil)
      · exact ⟨rfl, rfl⟩
      · (apply ent; (repeat constructor); done)
    skip
    obtain ⟨i, rfl⟩ : ∃ i, x = i + 1 := ⟨x - 1, by omega⟩
    have hent : M[i]? = some (M[i]'(by omega)) := List.getElem?_eq_getElem (by omega)
    generalize M[i]'(by omega) = en at hent
    refine w_skip (a_then (w_seq (w_region ?_)))
    refine l_yield (y_move rfl) rfl ?_
    refine l_yield (y_move rfl) rfl ?_
    refine l_yield (y_move rfl) rfl ?_
    refine l_say (p := storeP s 1048576 M) (by ((repeat constructor); done)) (fun _ h => storeP_says h) (fun hsay => ?_)
    have htx := hsay.2.1 i en hent
    have hle : en.t.length = a.length := by rw [htx]; exact hl
    have hmx : maxLength = 1152921504606846976 := rfl
    have rm : M.length < 1048576 := by omega
    apply l_loud (by kernel_rfl) rfl
    apply ld_call (ct_pair hE hent hent (by omega) rm) rfl (hE.f (by kernel_rfl))
    · ((repeat constructor); done)
    rintro _ _ ⟨M2, id, rfl, hM2, hid, hrl, rfl⟩
    obtain ⟨j, rfl⟩ : ∃ j, id = j + 1 := ⟨id - 1, by omega⟩
    rw [Nat.add_sub_cancel] at hrl
    have hjl : j < (M ++ M2).length := by have := (List.getElem?_eq_some_iff.1 hrl).1; rwa [rls_length] at this
    simp only [List.cons_append, List.nil_append]
    refine l_heap (ent_head (p := tabP tb s (rls M)) (p' := tabP tb s (rls (M ++ M2))) (by ((repeat constructor); done)) (fun _ h => by rw [rls_append M]; exact tabP_ext _ h)) ?_
    refine l_say (p := storeP s 1048576 (M ++ M2)) (by ((repeat constructor); done)) (fun _ h => storeP_says h) (fun hsay2 => ?_)
    have hlv : lvl (rls (M ++ M2)) (j + 1) < 0 := by
      rw [(key_pair hrl (hsay2.1.ok _ _ hrl)).2, if_neg (by simp)]
      omega
    refine l_yield (y_move rfl) rfl ?_
    refine l_yield (y_extract rfl rfl) rfl ?_
    refine l_yield (y_extract rfl rfl) rfl ?_
    refine l_yield (y_assign rfl) rfl ?_
    refine l_yield (y_assign rfl) rfl ?_
    refine l_nil (a_then (w_seq (w_region ?_)))
    refine l_yield (y_move rfl) rfl ?_
    apply l_yield
    · (first | exact y_ok_eq rfl (hE.t rfl) | exact y_err_eq rfl (hE.t rfl))
    · rfl
    refine l_yield (y_move rfl) rfl ?_
    skip
    refine l_on rfl rfl ?_
    refine l_yield (y_move rfl) rfl ?_
    refine l_on rfl rfl ?_
    refine l_yield (y_move rfl) rfl ?_
    refine l_on rfl rfl ?_
    refine l_yield (y_move rfl) rfl ?_
    refine l_on rfl rfl ?_
    apply l_loud (by kernel_rfl) rfl
    apply ld_callv (hx := rfl) (ha := rfl) (hf := hE.f (by kernel_rfl))
    · exact ct_all_form hE hB pp s tb 1048576 (M ++ M2) hjl hlv
    · ((repeat constructor); done)
    rintro _ _ ⟨rfl, rfl⟩
    simp only [List.cons_append, List.nil_append]
    apply l_yield
    · (first | exact y_pick_t rfl rfl | exact y_pick_f rfl rfl)
    · rfl
    refine l_yield (y_assign rfl) rfl ?_
    refine l_nil (a_then (w_ret ?_))
    apply a_ret
    · rfl
    · (apply Rs.tmp rfl; exact Rs.nil)
    · exact ⟨rfl, rfl⟩
    · (apply ent; (repeat constructor); done)
  skip
  refine l_off rfl rfl rfl rfl (l_off rfl rfl rfl rfl (l_off rfl rfl rfl rfl (l_off rfl rfl rfl rfl (l_off rfl rfl rfl rfl ?_))))
  apply l_yield
  · (first | exact y_pick_t rfl rfl | exact y_pick_f rfl rfl)
  · rfl
  refine l_nil (a_then ?_)
  refine w_cond_f rfl ?_
  refine w_skip (a_then (w_seq (w_seq (w_region ?_))))
  refine l_yield (y_move rfl) rfl ?_
  refine l_yield (y_eq rfl rfl) rfl ?_
  refine l_nil (a_then ?_)
  refine w_cond_d rfl (fun h5 => ?_) (fun h5 => ?_)
  · skip
    refine w_seq (w_region ?_)
    refine l_yield (y_assign rfl) rfl ?_
    refine l_nil (a_then (w_ret (a_then_ret ?_)))
    apply a_ret
    · rfl
    · (apply Rs.tmp rfl; exact Rs.nil)
    · exact ⟨rfl, rfl⟩
    · (apply ent; (repeat constructor); done)
  skip
  obtain ⟨i, rfl⟩ : ∃ i, x = i + 1 := ⟨x - 1, by omega⟩
  have hent : M[i]? = some (M[i]'(by omega)) := List.getElem?_eq_getElem (by omega)
  generalize M[i]'(by omega) = en at hent
  refine w_skip (a_then (w_seq (w_region ?_)))
  refine l_yield (y_move rfl) rfl ?_
  refine l_yield (y_move rfl) rfl ?_
  refine l_yield (y_move rfl) rfl ?_
  refine l_say (p := storeP s 1048576 M) (by ((repeat constructor); done)) (fun _ h => storeP_says h) (fun hsay => ?_)
  have htx := hsay.2.1 i en hent
  have hle : en.t.length = a.length := by rw [htx]; exact hl
  have hmx : maxLength = 1152921504606846976 := rfl
  have rm : M.length < 1048576 := by omega
  apply l_loud (by kernel_rfl) rfl
  apply ld_call (ct_pair hE hent hent (by omega) rm) rfl (hE.f (by kernel_rfl))
  · ((repeat constructor); done)
  rintro _ _ ⟨M2, id, rfl, hM2, hid, hrl, rfl⟩
  obtain ⟨j, rfl⟩ : ∃ j, id = j + 1 := ⟨id - 1, by omega⟩
  rw [Nat.add_sub_cancel] at hrl
  have hjl : j < (M ++ M2).length := by have := (List.getElem?_eq_some_iff.1 hrl).1; rwa [rls_length] at this
  simp only [List.cons_append, List.nil_append]
  refine l_heap (ent_head (p := tabP tb s (rls M)) (p' := tabP tb s (rls (M ++ M2))) (by ((repeat constructor); done)) (fun _ h => by rw [rls_append M]; exact tabP_ext _ h)) ?_
  refine l_say (p := storeP s 1048576 (M ++ M2)) (by ((repeat constructor); done)) (fun _ h => storeP_says h) (fun hsay2 => ?_)
  have hlv : lvl (rls (M ++ M2)) (j + 1) < 0 := by
    rw [(key_pair hrl (hsay2.1.ok _ _ hrl)).2, if_neg (by simp)]
    omega
  refine l_yield (y_move rfl) rfl ?_
  refine l_yield (y_extract rfl rfl) rfl ?_
  refine l_yield (y_extract rfl rfl) rfl ?_
  refine l_yield (y_assign rfl) rfl ?_
  refine l_yield (y_assign rfl) rfl ?_
  refine l_nil (a_then (w_seq (w_region ?_)))
  refine l_yield (y_move rfl) rfl ?_
  apply l_yield
  · (first | exact y_ok_eq rfl (hE.t rfl) | exact y_err_eq rfl (hE.t rfl))
  · rfl
  refine l_yield (y_move rfl) rfl ?_
  skip
  refine l_on rfl rfl ?_
  refine l_yield (y_move rfl) rfl ?_
  refine l_on rfl rfl ?_
  refine l_yield (y_move rfl) rfl ?_
  refine l_on rfl rfl ?_
  refine l_yield (y_move rfl) rfl ?_
  refine l_on rfl rfl ?_
  apply l_loud (by kernel_rfl) rfl
  apply ld_callv (hx := rfl) (ha := rfl) (hf := hE.f (by kernel_rfl))
  · exact ct_all_form hE hB pp s tb 1048576 (M ++ M2) hjl hlv
  · ((repeat constructor); done)
  rintro _ _ ⟨rfl, rfl⟩
  simp only [List.cons_append, List.nil_append]
  apply l_yield
  · (first | exact y_pick_t rfl rfl | exact y_pick_f rfl rfl)
  · rfl
  refine l_yield (y_assign rfl) rfl ?_
  refine l_nil (a_then (w_ret ?_))
  apply a_ret
  · rfl
  · (apply Rs.tmp rfl; exact Rs.nil)
  · exact ⟨rfl, rfl⟩
  · (apply ent; (repeat constructor); done)
end Go.Proofs.YtlmdkaniblhdmaaDoor
