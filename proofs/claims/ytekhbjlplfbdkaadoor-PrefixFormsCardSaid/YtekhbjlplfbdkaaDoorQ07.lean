/- The table of keys and the parser: Key, Level, New, Store, Keys, Top. -/
import Derived.Test.YtekhbjlplfbdkaaDoorQ04
import Derived.Test.YtekhbjlplfbdkaaDoorQ06
set_option linter.unusedVariables false
set_option linter.unusedSimpArgs false
namespace Go.Proofs.YtekhbjlplfbdkaaDoor
open Go Go.RowKit Sl Eg
set_option maxRecDepth 10000
variable {E : Env} {Es : List Ent} {pp tb s most : Nat}
theorem ct_key (hE : Seat E) (hB : Base E.w0) {i : Nat} (hi : i < Es.length) :
    Ct E 78 [.pointer (some ⟨tb, 0, none⟩), .int .i64 ((i + 1 : Nat) : Int)] [tabP tb s (rls Es), storeP s most Es] (fun v Q => v = .tuple #[.int .u64 (key (rls Es) (i + 1) : Nat), .nilIface] ∧ Q = [tabP tb s (rls Es), storeP s most Es]) := by
  refine fn_enter (hE.fn Tryd.func78) rfl rfl rfl (fun R => ?_)
  simp only [argsL, List.cons_append, List.nil_append]
  refine w_seq (wR ?_)
  refine lY (yA rfl) rfl ?_
  refine lY (yA rfl) rfl ?_
  refine l_nil (aT (w_seq (wR ?_)))
  refine lY (yM rfl) rfl ?_
  refine lY (yM rfl) rfl ?_
  apply lL (by kernel_rfl) rfl
  apply ld_call (ct_row hE hB hi) rfl (hE.f (by kernel_rfl))
  · ((repeat constructor); done)
  rintro _ _ ⟨rfl, rfl⟩
  simp only [List.cons_append, List.nil_append]
  refine lY (yM rfl) rfl ?_
  refine lY (y_extract rfl rfl) rfl ?_
  refine lY (y_extract rfl rfl) rfl ?_
  apply lL (by kernel_rfl) rfl
  refine ld_alloc (hE.t rfl) (fun b6 => ?_)
  apply lL (by kernel_rfl) rfl
  (first | (apply ld_store rfl rfl (hE.t rfl) rfl; (focus ((repeat constructor); done)); (focus rfl); (focus (exact Nat.le_of_ble_eq_true rfl))) | (apply ld_store_sl rfl rfl (hE.t rfl) rfl; (focus ((repeat constructor); done)); (focus rfl); (focus (first | omega | (simp only [cellsL, length_setMany, List.length_cons, List.length_nil]; omega)))))
  refine lY (yA rfl) rfl ?_
  refine l_nil (aT (w_seq (w_seq (wR ?_))))
  refine lY (yM rfl) rfl ?_
  apply lY
  · (first | exact y_ok_ne rfl (hE.t rfl) | exact y_err_ne rfl (hE.t rfl))
  · rfl
  refine l_nil (aT ?_)
  refine w_cond_f rfl ?_
  refine w_skip (aT (w_seq (wR ?_)))
  refine lY (yF rfl (hE.t rfl) rfl) rfl ?_
  apply lY
  · (apply y_load rfl (hE.t rfl) rfl; (repeat (first | rfl | assumption | constructor)); done)
  · rfl
  refine lY (yA rfl) rfl ?_
  refine lY (yA rfl) rfl ?_
  refine l_nil (aT (w_ret ?_))
  apply a_ret
  · rfl
  · (apply Rs.tmp rfl; apply Rs.tmp rfl; exact Rs.nil)
  · exact ⟨rfl, rfl⟩
  · (apply ent; (repeat constructor); done)
theorem ct_level (hE : Seat E) (hB : Base E.w0) {i : Nat} (hi : i < Es.length) (hl : 0 ≤ lvl (rls Es) (i + 1)) :
    Ct E 72 [.pointer (some ⟨tb, 0, none⟩), .int .i64 ((i + 1 : Nat) : Int)] [tabP tb s (rls Es), storeP s most Es] (fun v Q => v = .tuple #[.int .i64 (lvl (rls Es) (i + 1)), .nilIface] ∧ Q = [tabP tb s (rls Es), storeP s most Es]) := by
  refine fn_enter (hE.fn Tryd.func72) rfl rfl rfl (fun R => ?_)
  simp only [argsL, List.cons_append, List.nil_append]
  refine w_seq (wR ?_)
  refine lY (yA rfl) rfl ?_
  refine lY (yA rfl) rfl ?_
  refine l_nil (aT (w_seq (wR ?_)))
  refine lY (yM rfl) rfl ?_
  refine lY (yM rfl) rfl ?_
  apply lL (by kernel_rfl) rfl
  apply ld_call (ct_row hE hB hi) rfl (hE.f (by kernel_rfl))
  · ((repeat constructor); done)
  rintro _ _ ⟨rfl, rfl⟩
  simp only [List.cons_append, List.nil_append]
  refine lY (yM rfl) rfl ?_
  refine lY (y_extract rfl rfl) rfl ?_
  refine lY (y_extract rfl rfl) rfl ?_
  apply lL (by kernel_rfl) rfl
  refine ld_alloc (hE.t rfl) (fun b6 => ?_)
  apply lL (by kernel_rfl) rfl
  (first | (apply ld_store rfl rfl (hE.t rfl) rfl; (focus ((repeat constructor); done)); (focus rfl); (focus (exact Nat.le_of_ble_eq_true rfl))) | (apply ld_store_sl rfl rfl (hE.t rfl) rfl; (focus ((repeat constructor); done)); (focus rfl); (focus (first | omega | (simp only [cellsL, length_setMany, List.length_cons, List.length_nil]; omega)))))
  refine lY (yA rfl) rfl ?_
  refine l_nil (aT (w_seq (w_seq (wR ?_))))
  refine lY (yM rfl) rfl ?_
  apply lY
  · (first | exact y_ok_ne rfl (hE.t rfl) | exact y_err_ne rfl (hE.t rfl))
  · rfl
  refine l_nil (aT ?_)
  refine w_cond_f rfl ?_
  refine w_skip (aT (w_seq (w_seq (wR ?_))))
  refine lY (yF rfl (hE.t rfl) rfl) rfl ?_
  apply lY
  · (apply y_load rfl (hE.t rfl) rfl; (repeat (first | rfl | assumption | constructor)); done)
  · rfl
  refine lY (y_lt rfl rfl) rfl ?_
  refine l_nil (aT ?_)
  refine w_cond_d rfl (fun h => ?_) (fun h => ?_)
  · exact absurd h (by omega)
  · skip
    refine w_skip (aT (w_seq (wR ?_)))
    refine lY (yF rfl (hE.t rfl) rfl) rfl ?_
    apply lY
    · (apply y_load rfl (hE.t rfl) rfl; (repeat (first | rfl | assumption | constructor)); done)
    · rfl
    refine lY (yA rfl) rfl ?_
    refine lY (yA rfl) rfl ?_
    refine l_nil (aT (w_ret ?_))
    apply a_ret
    · rfl
    · (apply Rs.tmp rfl; apply Rs.tmp rfl; exact Rs.nil)
    · exact ⟨rfl, rfl⟩
    · (apply ent; (repeat constructor); done)
theorem ct_level_no (hE : Seat E) (hB : Base E.w0) {i : Nat} (hi : i < Es.length) (hl : lvl (rls Es) (i + 1) < 0) :
    Ct E 72 [.pointer (some ⟨tb, 0, none⟩), .int .i64 ((i + 1 : Nat) : Int)] [tabP tb s (rls Es), storeP s most Es] (fun v Q => v = .tuple #[.int .i64 0, .iface 43 (.int .i64 4)] ∧ Q = [tabP tb s (rls Es), storeP s most Es]) := by
  refine fn_enter (hE.fn Tryd.func72) rfl rfl rfl (fun R => ?_)
  simp only [argsL, List.cons_append, List.nil_append]
  refine w_seq (wR ?_)
  refine lY (yA rfl) rfl ?_
  refine lY (yA rfl) rfl ?_
  refine l_nil (aT (w_seq (wR ?_)))
  refine lY (yM rfl) rfl ?_
  refine lY (yM rfl) rfl ?_
  apply lL (by kernel_rfl) rfl
  apply ld_call (ct_row hE hB hi) rfl (hE.f (by kernel_rfl))
  · ((repeat constructor); done)
  rintro _ _ ⟨rfl, rfl⟩
  simp only [List.cons_append, List.nil_append]
  refine lY (yM rfl) rfl ?_
  refine lY (y_extract rfl rfl) rfl ?_
  refine lY (y_extract rfl rfl) rfl ?_
  apply lL (by kernel_rfl) rfl
  refine ld_alloc (hE.t rfl) (fun b6 => ?_)
  apply lL (by kernel_rfl) rfl
  (first | (apply ld_store rfl rfl (hE.t rfl) rfl; (focus ((repeat constructor); done)); (focus rfl); (focus (exact Nat.le_of_ble_eq_true rfl))) | (apply ld_store_sl rfl rfl (hE.t rfl) rfl; (focus ((repeat constructor); done)); (focus rfl); (focus (first | omega | (simp only [cellsL, length_setMany, List.length_cons, List.length_nil]; omega)))))
  refine lY (yA rfl) rfl ?_
  refine l_nil (aT (w_seq (w_seq (wR ?_))))
  refine lY (yM rfl) rfl ?_
  apply lY
  · (first | exact y_ok_ne rfl (hE.t rfl) | exact y_err_ne rfl (hE.t rfl))
  · rfl
  refine l_nil (aT ?_)
  refine w_cond_f rfl ?_
  refine w_skip (aT (w_seq (w_seq (wR ?_))))
  refine lY (yF rfl (hE.t rfl) rfl) rfl ?_
  apply lY
  · (apply y_load rfl (hE.t rfl) rfl; (repeat (first | rfl | assumption | constructor)); done)
  · rfl
  refine lY (y_lt rfl rfl) rfl ?_
  refine l_nil (aT ?_)
  refine w_cond_d rfl (fun h => ?_) (fun h => ?_)
  · skip
    refine w_seq (wR ?_)
    refine lY (y_iface rfl (hE.t rfl) rfl) rfl ?_
    refine lY (yA rfl) rfl ?_
    refine lY (yA rfl) rfl ?_
    refine l_nil (aT (w_ret (a_then_ret ?_)))
    apply a_ret
    · rfl
    · (apply Rs.tmp rfl; apply Rs.tmp rfl; exact Rs.nil)
    · exact ⟨rfl, rfl⟩
    · (apply ent; (repeat constructor); done)
  · exact absurd hl h
theorem ct_keysNew (hE : Seat E) : Ct E 28 [.pointer (some ⟨s, 0, none⟩)] [] (fun v Q => ∃ tb, v = .pointer (some ⟨tb, 0, none⟩) ∧ Q = [tabP tb s []]) := by
  refine fn_enter (hE.fn Tryd.func28) rfl rfl rfl (fun R => ?_)
  simp only [argsL, List.cons_append, List.nil_append]
  refine w_seq (wR ?_)
  refine lY (yA rfl) rfl ?_
  refine l_nil (aT (w_seq (w_seq (wR ?_))))
  refine lY (yM rfl) rfl ?_
  apply lY
  · (first | exact y_eq_ptr rfl (hE.t rfl) | exact y_eq_nil rfl (hE.t rfl))
  · rfl
  refine l_nil (aT ?_)
  refine w_cond_f rfl ?_
  refine w_skip (aT (w_seq (wR ?_)))
  refine lY (yM rfl) rfl ?_
  apply lY
  · (first | exact y_build (hE.t rfl) rfl rfl | exact y_buildA (hE.t rfl) rfl rfl)
  · rfl
  apply lL (by kernel_rfl) rfl
  refine ld_box rfl (fun b7 => ?_)
  refine lY (yA rfl) rfl ?_
  refine l_nil (aT (w_ret ?_))
  apply a_ret
  · rfl
  · (apply Rs.tmp rfl; exact Rs.nil)
  · exact ⟨b7, rfl, rfl⟩
  · apply ent_trans (ent_nil (t := 174) (sz := 3))
    apply ent_trans
    · apply tabP_close (K := []) (L := []) (tb := b7) (s := s) (p := none) (c := 0)
      · ((repeat constructor); done)
      · rfl
      · simp
      · simp
    · (apply ent; (repeat constructor); done)
theorem ct_sigNew (hE : Seat E) : Ct E 9 [.pointer (some ⟨s, 0, none⟩)] [storeP s most []] (fun v Q => ∃ pp tb, v = .pointer (some ⟨pp, 0, none⟩) ∧ Q = [cells pp [.pointer (some ⟨s, 0, none⟩), .pointer (some ⟨tb, 0, none⟩)] 78, tabP tb s (rls []), storeP s most []]) := by
  refine fn_enter (hE.fn Tryd.func9) rfl rfl rfl (fun R => ?_)
  simp only [argsL, List.cons_append, List.nil_append]
  refine w_seq (wR ?_)
  refine lY (yA rfl) rfl ?_
  refine l_nil (aT (w_seq (w_seq (wR ?_))))
  refine lY (yM rfl) rfl ?_
  apply lY
  · (first | exact y_eq_ptr rfl (hE.t rfl) | exact y_eq_nil rfl (hE.t rfl))
  · rfl
  refine l_nil (aT ?_)
  refine w_cond_f rfl ?_
  refine w_skip (aT (w_seq (wR ?_)))
  refine lY (yM rfl) rfl ?_
  refine lY (yM rfl) rfl ?_
  apply lL (by kernel_rfl) rfl
  apply ld_call (ct_keysNew hE) rfl (hE.f (by kernel_rfl))
  · ((repeat constructor); done)
  rintro _ _ ⟨tb, rfl, rfl⟩
  simp only [List.cons_append, List.nil_append]
  apply lY
  · (first | exact y_build (hE.t rfl) rfl rfl | exact y_buildA (hE.t rfl) rfl rfl)
  · rfl
  apply lL (by kernel_rfl) rfl
  refine ld_box rfl (fun b9 => ?_)
  refine lY (yA rfl) rfl ?_
  refine l_nil (aT (w_ret ?_))
  apply a_ret
  · rfl
  · (apply Rs.tmp rfl; exact Rs.nil)
  · exact ⟨b9, tb, rfl, rfl⟩
  · (apply ent; (repeat constructor); done)
theorem ct_Store (hE : Seat E) : Ct E 45 [.pointer (some ⟨pp, 0, none⟩)] [cells pp [.pointer (some ⟨s, 0, none⟩), .pointer (some ⟨tb, 0, none⟩)] 78] (fun v Q => v = .pointer (some ⟨s, 0, none⟩) ∧ Q = [cells pp [.pointer (some ⟨s, 0, none⟩), .pointer (some ⟨tb, 0, none⟩)] 78]) := by
  refine fn_enter (hE.fn Tryd.func45) rfl rfl rfl (fun R => ?_)
  simp only [argsL, List.cons_append, List.nil_append]
  refine w_seq (wR ?_)
  refine lY (yA rfl) rfl ?_
  refine l_nil (aT (w_seq (w_seq (wR ?_))))
  refine lY (yM rfl) rfl ?_
  apply lY
  · (first | exact y_eq_ptr rfl (hE.t rfl) | exact y_eq_nil rfl (hE.t rfl))
  · rfl
  refine l_nil (aT ?_)
  refine w_cond_f rfl ?_
  refine w_skip (aT (w_seq (wR ?_)))
  refine lY (yM rfl) rfl ?_
  refine lY (y_nilCheck rfl) rfl ?_
  refine lY (yF rfl (hE.t rfl) rfl) rfl ?_
  apply lY
  · (apply y_load rfl (hE.t rfl) rfl; (repeat (first | rfl | assumption | constructor)); done)
  · rfl
  refine lY (yA rfl) rfl ?_
  refine l_nil (aT (w_ret ?_))
  apply a_ret
  · rfl
  · (apply Rs.tmp rfl; exact Rs.nil)
  · exact ⟨rfl, rfl⟩
  · (apply ent; (repeat constructor); done)
theorem ct_Store_nil (hE : Seat E) : Ct E 45 [.pointer none] [] (fun v Q => v = .pointer none ∧ Q = []) := by
  refine fn_enter (hE.fn Tryd.func45) rfl rfl rfl (fun R => ?_)
  simp only [argsL, List.cons_append, List.nil_append]
  refine w_seq (wR ?_)
  refine lY (yA rfl) rfl ?_
  refine l_nil (aT (w_seq (w_seq (wR ?_))))
  refine lY (yM rfl) rfl ?_
  apply lY
  · (first | exact y_eq_ptr rfl (hE.t rfl) | exact y_eq_nil rfl (hE.t rfl))
  · rfl
  refine l_nil (aT ?_)
  refine w_cond_t rfl ?_
  refine w_seq (wR ?_)
  refine lY (yA rfl) rfl ?_
  refine l_nil (aT (w_ret (a_then_ret ?_)))
  apply a_ret
  · rfl
  · (apply Rs.tmp rfl; exact Rs.nil)
  · exact ⟨rfl, rfl⟩
  · (apply ent; (repeat constructor); done)
theorem ct_Keys (hE : Seat E) : Ct E 71 [.pointer (some ⟨pp, 0, none⟩)] [cells pp [.pointer (some ⟨s, 0, none⟩), .pointer (some ⟨tb, 0, none⟩)] 78] (fun v Q => v = .pointer (some ⟨tb, 0, none⟩) ∧ Q = [cells pp [.pointer (some ⟨s, 0, none⟩), .pointer (some ⟨tb, 0, none⟩)] 78]) := by
  refine fn_enter (hE.fn Tryd.func71) rfl rfl rfl (fun R => ?_)
  simp only [argsL, List.cons_append, List.nil_append]
  refine w_seq (wR ?_)
  refine lY (yA rfl) rfl ?_
  refine l_nil (aT (w_seq (w_seq (wR ?_))))
  refine lY (yM rfl) rfl ?_
  apply lY
  · (first | exact y_eq_ptr rfl (hE.t rfl) | exact y_eq_nil rfl (hE.t rfl))
  · rfl
  refine l_nil (aT ?_)
  refine w_cond_f rfl ?_
  refine w_skip (aT (w_seq (wR ?_)))
  refine lY (yM rfl) rfl ?_
  refine lY (y_nilCheck rfl) rfl ?_
  refine lY (yF rfl (hE.t rfl) rfl) rfl ?_
  apply lY
  · (apply y_load rfl (hE.t rfl) rfl; (repeat (first | rfl | assumption | constructor)); done)
  · rfl
  refine lY (yA rfl) rfl ?_
  refine l_nil (aT (w_ret ?_))
  apply a_ret
  · rfl
  · (apply Rs.tmp rfl; exact Rs.nil)
  · exact ⟨rfl, rfl⟩
  · (apply ent; (repeat constructor); done)
theorem ct_Top0 (hE : Seat E) : Ct E 46 [.pointer (some ⟨pp, 0, none⟩), .int .i64 ((0 : Nat) : Int)] [cells pp [.pointer (some ⟨s, 0, none⟩), .pointer (some ⟨tb, 0, none⟩)] 78, tabP tb s (rls Es), storeP s most Es] (fun v Q => v = .tuple #[.int .i64 0, .nilIface] ∧ Q = [cells pp [.pointer (some ⟨s, 0, none⟩), .pointer (some ⟨tb, 0, none⟩)] 78, tabP tb s (rls Es), storeP s most Es]) := by
  refine fn_enter (hE.fn Tryd.func46) rfl rfl rfl (fun R => ?_)
  simp only [argsL, List.cons_append, List.nil_append]
  refine w_seq (wR ?_)
  refine lY (yA rfl) rfl ?_
  refine lY (yA rfl) rfl ?_
  refine l_nil (aT (w_seq (w_seq (wR ?_))))
  refine lY (yM rfl) rfl ?_
  apply lY
  · (first | exact y_eq_ptr rfl (hE.t rfl) | exact y_eq_nil rfl (hE.t rfl))
  · rfl
  refine lY (yM rfl) rfl ?_
  skip
  refine l_on rfl rfl ?_
  refine lY (yM rfl) rfl ?_
  refine l_on rfl rfl ?_
  refine lY (y_nilCheck rfl) rfl ?_
  refine l_on rfl rfl ?_
  refine lY (yF rfl (hE.t rfl) rfl) rfl ?_
  refine l_on rfl rfl ?_
  apply lY
  · (apply y_load rfl (hE.t rfl) rfl; (repeat (first | rfl | assumption | constructor)); done)
  · rfl
  refine l_on rfl rfl ?_
  apply lY
  · (first | exact y_eq_ptr rfl (hE.t rfl) | exact y_eq_nil rfl (hE.t rfl))
  · rfl
  apply lY
  · (first | exact y_pick_t rfl rfl | exact y_pick_f rfl rfl)
  · rfl
  refine l_nil (aT ?_)
  refine w_cond_f rfl ?_
  refine w_skip (aT (w_seq (w_seq (wR ?_))))
  refine lY (yM rfl) rfl ?_
  refine lY (y_eq rfl rfl) rfl ?_
  refine l_nil (aT ?_)
  refine w_cond_t rfl ?_
  refine w_seq (wR ?_)
  refine lY (yA rfl) rfl ?_
  refine lY (yA rfl) rfl ?_
  refine l_nil (aT (w_ret (a_then_ret ?_)))
  apply a_ret
  · rfl
  · (apply Rs.tmp rfl; apply Rs.tmp rfl; exact Rs.nil)
  · exact ⟨rfl, rfl⟩
  · (apply ent; (repeat constructor); done)
theorem ct_Top (hE : Seat E) (hB : Base E.w0) {i : Nat} (hi : i < Es.length) (hl : 0 ≤ lvl (rls Es) (i + 1)) : Ct E 46 [.pointer (some ⟨pp, 0, none⟩), .int .i64 ((i + 1 : Nat) : Int)] [cells pp [.pointer (some ⟨s, 0, none⟩), .pointer (some ⟨tb, 0, none⟩)] 78, tabP tb s (rls Es), storeP s most Es] (fun v Q => v = .tuple #[.int .i64 (lvl (rls Es) (i + 1)), .nilIface] ∧ Q = [cells pp [.pointer (some ⟨s, 0, none⟩), .pointer (some ⟨tb, 0, none⟩)] 78, tabP tb s (rls Es), storeP s most Es]) := by
  refine fn_enter (hE.fn Tryd.func46) rfl rfl rfl (fun R => ?_)
  simp only [argsL, List.cons_append, List.nil_append]
  refine w_seq (wR ?_)
  refine lY (yA rfl) rfl ?_
  refine lY (yA rfl) rfl ?_
  refine l_nil (aT (w_seq (w_seq (wR ?_))))
  refine lY (yM rfl) rfl ?_
  apply lY
  · (first | exact y_eq_ptr rfl (hE.t rfl) | exact y_eq_nil rfl (hE.t rfl))
  · rfl
  refine lY (yM rfl) rfl ?_
  skip
  refine l_on rfl rfl ?_
  refine lY (yM rfl) rfl ?_
  refine l_on rfl rfl ?_
  refine lY (y_nilCheck rfl) rfl ?_
  refine l_on rfl rfl ?_
  refine lY (yF rfl (hE.t rfl) rfl) rfl ?_
  refine l_on rfl rfl ?_
  apply lY
  · (apply y_load rfl (hE.t rfl) rfl; (repeat (first | rfl | assumption | constructor)); done)
  · rfl
  refine l_on rfl rfl ?_
  apply lY
  · (first | exact y_eq_ptr rfl (hE.t rfl) | exact y_eq_nil rfl (hE.t rfl))
  · rfl
  apply lY
  · (first | exact y_pick_t rfl rfl | exact y_pick_f rfl rfl)
  · rfl
  refine l_nil (aT ?_)
  refine w_cond_f rfl ?_
  refine w_skip (aT (w_seq (w_seq (wR ?_))))
  refine lY (yM rfl) rfl ?_
  refine lY (y_eq rfl rfl) rfl ?_
  refine l_nil (aT ?_)
  refine w_cond_d rfl (fun h => ?_) (fun h => ?_)
  · exact absurd h (by omega)
  · skip
    refine w_skip (aT (w_seq (wR ?_)))
    refine lY (yM rfl) rfl ?_
    refine lY (y_nilCheck rfl) rfl ?_
    refine lY (yF rfl (hE.t rfl) rfl) rfl ?_
    apply lY
    · (apply y_load rfl (hE.t rfl) rfl; (repeat (first | rfl | assumption | constructor)); done)
    · rfl
    refine lY (yM rfl) rfl ?_
    apply lL (by kernel_rfl) rfl
    apply ld_call (ct_level hE hB hi hl) rfl (hE.f (by kernel_rfl))
    · ((repeat constructor); done)
    rintro _ _ ⟨rfl, rfl⟩
    simp only [List.cons_append, List.nil_append]
    refine lY (y_extract rfl rfl) rfl ?_
    refine lY (y_extract rfl rfl) rfl ?_
    refine lY (yA rfl) rfl ?_
    refine lY (yA rfl) rfl ?_
    refine l_nil (aT (w_ret ?_))
    apply a_ret
    · rfl
    · (apply Rs.tmp rfl; apply Rs.tmp rfl; exact Rs.nil)
    · exact ⟨rfl, rfl⟩
    · (apply ent; (repeat constructor); done)
theorem ct_Top_no (hE : Seat E) (hB : Base E.w0) {i : Nat} (hi : i < Es.length) (hl : lvl (rls Es) (i + 1) < 0) : Ct E 46 [.pointer (some ⟨pp, 0, none⟩), .int .i64 ((i + 1 : Nat) : Int)] [cells pp [.pointer (some ⟨s, 0, none⟩), .pointer (some ⟨tb, 0, none⟩)] 78, tabP tb s (rls Es), storeP s most Es] (fun v Q => v = .tuple #[.int .i64 0, .iface 43 (.int .i64 4)] ∧ Q = [cells pp [.pointer (some ⟨s, 0, none⟩), .pointer (some ⟨tb, 0, none⟩)] 78, tabP tb s (rls Es), storeP s most Es]) := by
  refine fn_enter (hE.fn Tryd.func46) rfl rfl rfl (fun R => ?_)
  simp only [argsL, List.cons_append, List.nil_append]
  refine w_seq (wR ?_)
  refine lY (yA rfl) rfl ?_
  refine lY (yA rfl) rfl ?_
  refine l_nil (aT (w_seq (w_seq (wR ?_))))
  refine lY (yM rfl) rfl ?_
  apply lY
  · (first | exact y_eq_ptr rfl (hE.t rfl) | exact y_eq_nil rfl (hE.t rfl))
  · rfl
  refine lY (yM rfl) rfl ?_
  skip
  refine l_on rfl rfl ?_
  refine lY (yM rfl) rfl ?_
  refine l_on rfl rfl ?_
  refine lY (y_nilCheck rfl) rfl ?_
  refine l_on rfl rfl ?_
  refine lY (yF rfl (hE.t rfl) rfl) rfl ?_
  refine l_on rfl rfl ?_
  apply lY
  · (apply y_load rfl (hE.t rfl) rfl; (repeat (first | rfl | assumption | constructor)); done)
  · rfl
  refine l_on rfl rfl ?_
  apply lY
  · (first | exact y_eq_ptr rfl (hE.t rfl) | exact y_eq_nil rfl (hE.t rfl))
  · rfl
  apply lY
  · (first | exact y_pick_t rfl rfl | exact y_pick_f rfl rfl)
  · rfl
  refine l_nil (aT ?_)
  refine w_cond_f rfl ?_
  refine w_skip (aT (w_seq (w_seq (wR ?_))))
  refine lY (yM rfl) rfl ?_
  refine lY (y_eq rfl rfl) rfl ?_
  refine l_nil (aT ?_)
  refine w_cond_d rfl (fun h => ?_) (fun h => ?_)
  · exact absurd h (by omega)
  · skip
    refine w_skip (aT (w_seq (wR ?_)))
    refine lY (yM rfl) rfl ?_
    refine lY (y_nilCheck rfl) rfl ?_
    refine lY (yF rfl (hE.t rfl) rfl) rfl ?_
    apply lY
    · (apply y_load rfl (hE.t rfl) rfl; (repeat (first | rfl | assumption | constructor)); done)
    · rfl
    refine lY (yM rfl) rfl ?_
    apply lL (by kernel_rfl) rfl
    apply ld_call (ct_level_no hE hB hi hl) rfl (hE.f (by kernel_rfl))
    · ((repeat constructor); done)
    rintro _ _ ⟨rfl, rfl⟩
    simp only [List.cons_append, List.nil_append]
    refine lY (y_extract rfl rfl) rfl ?_
    refine lY (y_extract rfl rfl) rfl ?_
    refine lY (yA rfl) rfl ?_
    refine lY (yA rfl) rfl ?_
    refine l_nil (aT (w_ret ?_))
    apply a_ret
    · rfl
    · (apply Rs.tmp rfl; apply Rs.tmp rfl; exact Rs.nil)
    · exact ⟨rfl, rfl⟩
    · (apply ent; (repeat constructor); done)
end Go.Proofs.YtekhbjlplfbdkaaDoor
namespace Go.Proofs.YtekhbjlplfbdkaaDoor
open Go Go.RowKit Sl Eg
set_option maxRecDepth 10000
variable {E : Env} {Es : List Ent} {pp tb s most : Nat}
def gsC : List (Nat × Nat) → List Value
  | [] => []
  | g :: r => .int .i64 (g.1 : Nat) :: .int .i64 (g.2 : Nat) :: gsC r
theorem gsC_append : ∀ (a b : List (Nat × Nat)), gsC (a ++ b) = gsC a ++ gsC b
  | [], _ => rfl
  | _ :: a, b => by simp [gsC, gsC_append a b]
theorem gsC_length : ∀ (a : List (Nat × Nat)), (gsC a).length = a.length * 2
  | [] => rfl
  | _ :: a => by simp [gsC, gsC_length a]; omega
theorem gsC_get {gs : List (Nat × Nat)} {i : Nat} {g : Nat × Nat} (h : gs[i]? = some g) : (gsC gs)[i * 2]? = some (.int .i64 (g.1 : Nat)) ∧ (gsC gs)[i * 2 + 1]? = some (.int .i64 (g.2 : Nat)) := by
  induction gs generalizing i with
  | nil => simp at h
  | cons x r ih =>
    cases i with
    | zero => obtain rfl : x = g := by simpa using h
              exact ⟨rfl, rfl⟩
    | succ i =>
      obtain ⟨h1, h2⟩ := ih (i := i) (by simpa using h)
      exact ⟨by rw [show (i + 1) * 2 = i * 2 + 1 + 1 by omega]; simpa [gsC] using h1, by rw [show (i + 1) * 2 + 1 = i * 2 + 1 + 1 + 1 by omega]; simpa [gsC] using h2⟩
theorem gsC_set {gs : List (Nat × Nat)} {i : Nat} {g : Nat × Nat} (h : gs[i]? = some g) (k : Nat) : (gsC gs).set (i * 2 + 1) (.int .i64 (k : Nat)) = gsC (gs.set i (g.1, k)) := by
  induction gs generalizing i with
  | nil => simp at h
  | cons x r ih =>
    cases i with
    | zero => obtain rfl : x = g := by simpa using h
              rfl
    | succ i =>
      have := ih (i := i) (by simpa using h)
      rw [show (i + 1) * 2 + 1 = i * 2 + 1 + 1 + 1 by omega]
      simp [gsC, this]
def rdP (x : Nat) (pv : Value) (bk : Bool) (gs : List (Nat × Nat)) : HP := fun h => ∃ p c, stars [cells x [pv, .bool bk, .slice p gs.length c] 93, sl p c 138 2 gs.length (gsC gs)] h
theorem rdP_open {x : Nat} {pv : Value} {bk : Bool} {gs : List (Nat × Nat)} : ∀ k, rdP x pv bk gs k → ∃ i : Option Addr × Nat, stars ((fun i : Option Addr × Nat => [cells x [pv, .bool bk, .slice i.1 gs.length i.2] 93, sl i.1 i.2 138 2 gs.length (gsC gs)]) i) k := fun _ ⟨p, c, h⟩ => ⟨(p, c), h⟩
theorem rdP_close {x m c : Nat} {pv : Value} {bk : Bool} {gs : List (Nat × Nat)} {H H' : List HP} {p : Option Addr} {xs : List Value} (hs : Sub [cells x [pv, .bool bk, .slice p m c] 93, sl p c 138 2 m xs] H H') (hm : m = gs.length) (hx : xs = gsC gs) : ∀ k, stars H k → stars (rdP x pv bk gs :: H') k := by
  subst hm hx
  exact ent_pack hs (fun _ h => ⟨p, c, h⟩)

theorem ct_size (hE : Seat E) {i : Nat} (hi : i < Es.length) : Ct E 39 [.pointer (some ⟨pp, 0, none⟩), .int .i64 ((i + 1 : Nat) : Int)] [cells pp [.pointer (some ⟨s, 0, none⟩), .pointer (some ⟨tb, 0, none⟩)] 78, tabP tb s (rls Es), storeP s most Es] (fun v Q => v = .int .i64 (len (rls Es) (i + 1) : Nat) ∧ Q = [cells pp [.pointer (some ⟨s, 0, none⟩), .pointer (some ⟨tb, 0, none⟩)] 78, tabP tb s (rls Es), storeP s most Es]) := by
  refine ct_fact (p := storeP s most Es) (by ((repeat constructor); done)) (fun _ h => storeP_says h) (fun hsay => ?_)
  have hent : Es[i]? = some (Es[i]'hi) := List.getElem?_eq_getElem hi
  generalize Es[i]'hi = en at hent
  have htx := hsay.2.1 i en hent
  refine fn_enter (hE.fn Tryd.func39) rfl rfl rfl (fun R => ?_)
  simp only [argsL, List.cons_append, List.nil_append]
  refine w_seq (wR ?_)
  refine lY (yA rfl) rfl ?_
  refine l_nil (aT (w_seq (wR ?_)))
  refine lY (yM rfl) rfl ?_
  apply lL (by kernel_rfl) rfl
  apply ld_call (ct_Store hE) rfl (hE.f (by kernel_rfl))
  · ((repeat constructor); done)
  rintro _ _ ⟨rfl, rfl⟩
  simp only [List.cons_append, List.nil_append]
  refine lY (yM rfl) rfl ?_
  apply lL (by kernel_rfl) rfl
  apply ld_call (ct_weight hE hent) rfl (hE.f (by kernel_rfl))
  · ((repeat constructor); done)
  rintro _ _ ⟨rfl, rfl⟩
  simp only [List.cons_append, List.nil_append]
  refine lY (yM rfl) rfl ?_
  refine lY (y_extract rfl rfl) rfl ?_
  refine lY (y_extract rfl rfl) rfl ?_
  apply lL (by kernel_rfl) rfl
  refine ld_alloc (hE.t rfl) (fun b5 => ?_)
  apply lL (by kernel_rfl) rfl
  (first | (apply ld_store rfl rfl (hE.t rfl) rfl; (focus ((repeat constructor); done)); (focus rfl); (focus (exact Nat.le_of_ble_eq_true rfl))) | (apply ld_store_sl rfl rfl (hE.t rfl) rfl; (focus ((repeat constructor); done)); (focus rfl); (focus (first | omega | (simp only [cellsL, length_setMany, List.length_cons, List.length_nil]; omega)))))
  refine lY (yA rfl) rfl ?_
  refine l_nil (aT (w_seq (wR ?_)))
  refine lY (yF rfl (hE.t rfl) rfl) rfl ?_
  apply lY
  · (apply y_load rfl (hE.t rfl) rfl; (repeat (first | rfl | assumption | constructor)); done)
  · rfl
  refine lY (yA rfl) rfl ?_
  refine l_nil (aT (w_ret ?_))
  apply a_ret
  · rfl
  · (apply Rs.tmp rfl; exact Rs.nil)
  · exact ⟨by rw [len, ← htx]; rfl, rfl⟩
  · (apply ent; (repeat constructor); done)
theorem ct_size0 (hE : Seat E) : Ct E 39 [.pointer (some ⟨pp, 0, none⟩), .int .i64 ((0 : Nat) : Int)] [cells pp [.pointer (some ⟨s, 0, none⟩), .pointer (some ⟨tb, 0, none⟩)] 78, tabP tb s (rls Es), storeP s most Es] (fun v Q => v = .int .i64 ((0 : Nat) : Int) ∧ Q = [cells pp [.pointer (some ⟨s, 0, none⟩), .pointer (some ⟨tb, 0, none⟩)] 78, tabP tb s (rls Es), storeP s most Es]) := by
  refine fn_enter (hE.fn Tryd.func39) rfl rfl rfl (fun R => ?_)
  simp only [argsL, List.cons_append, List.nil_append]
  refine w_seq (wR ?_)
  refine lY (yA rfl) rfl ?_
  refine l_nil (aT (w_seq (wR ?_)))
  refine lY (yM rfl) rfl ?_
  apply lL (by kernel_rfl) rfl
  apply ld_call (ct_Store hE) rfl (hE.f (by kernel_rfl))
  · ((repeat constructor); done)
  rintro _ _ ⟨rfl, rfl⟩
  simp only [List.cons_append, List.nil_append]
  refine lY (yM rfl) rfl ?_
  apply lL (by kernel_rfl) rfl
  apply ld_call (ct_weight0 hE) rfl (hE.f (by kernel_rfl))
  · ((repeat constructor); done)
  rintro _ _ ⟨rfl, rfl⟩
  simp only [List.cons_append, List.nil_append]
  refine lY (yM rfl) rfl ?_
  refine lY (y_extract rfl rfl) rfl ?_
  refine lY (y_extract rfl rfl) rfl ?_
  apply lL (by kernel_rfl) rfl
  refine ld_alloc (hE.t rfl) (fun b5 => ?_)
  apply lL (by kernel_rfl) rfl
  (first | (apply ld_store rfl rfl (hE.t rfl) rfl; (focus ((repeat constructor); done)); (focus rfl); (focus (exact Nat.le_of_ble_eq_true rfl))) | (apply ld_store_sl rfl rfl (hE.t rfl) rfl; (focus ((repeat constructor); done)); (focus rfl); (focus (first | omega | (simp only [cellsL, length_setMany, List.length_cons, List.length_nil]; omega)))))
  refine lY (yA rfl) rfl ?_
  refine l_nil (aT (w_seq (wR ?_)))
  refine lY (yF rfl (hE.t rfl) rfl) rfl ?_
  apply lY
  · (apply y_load rfl (hE.t rfl) rfl; (repeat (first | rfl | assumption | constructor)); done)
  · rfl
  refine lY (yA rfl) rfl ?_
  refine l_nil (aT (w_ret ?_))
  apply a_ret
  · rfl
  · (apply Rs.tmp rfl; exact Rs.nil)
  · exact ⟨rfl, rfl⟩
  · (apply ent; (repeat constructor); done)
theorem ct_push (hE : Seat E) {x sy k : Nat} {pv : Value} {bk : Bool} {gs : List (Nat × Nat)} (hg : gs.length < 1099511627776) : Ct E 74 [.pointer (some ⟨x, 0, none⟩), .int .i64 (sy : Nat), .int .i64 (k : Nat)] [rdP x pv bk gs] (fun v Q => v = .tuple #[] ∧ Q = [rdP x pv bk (gs ++ [(sy, k)])]) := by
  refine ct_open (ps := fun i : Option Addr × Nat => [cells x [pv, .bool bk, .slice i.1 gs.length i.2] 93, sl i.1 i.2 138 2 gs.length (gsC gs)]) rdP_open ?_
  rintro ⟨p, c⟩
  refine fn_enter (hE.fn Tryd.func74) rfl rfl rfl (fun R => ?_)
  simp only [argsL, List.cons_append, List.nil_append]
  refine wR ?_
  refine lY (yM rfl) rfl ?_
  refine lY (yM rfl) rfl ?_
  refine lY (y_nilCheck rfl) rfl ?_
  refine lY (yF rfl (hE.t rfl) rfl) rfl ?_
  apply lY
  · (apply y_load rfl (hE.t rfl) rfl; (repeat (first | rfl | assumption | constructor)); done)
  · rfl
  refine lY (yM rfl) rfl ?_
  refine lY (yM rfl) rfl ?_
  apply lY
  · (first | exact y_build (hE.t rfl) rfl rfl | exact y_buildA (hE.t rfl) rfl rfl)
  · rfl
  apply lL (by kernel_rfl) rfl
  refine ld_buildSlice (hE.t rfl) (hE.t rfl) rfl rfl rfl (fun b14 => ?_)
  apply lL (by kernel_rfl) rfl
  apply ld_append (hE.t rfl) (hE.t rfl) rfl rfl rfl
  · ((repeat constructor); done)
  · ((repeat constructor); done)
  · rfl
  · rfl
  · omega
  · omega
  · (unfold maxLen; omega)
  intro g15 c15 n15 x15 hn15 hx15
  refine lY (y_nilCheck rfl) rfl ?_
  refine lY (yF rfl (hE.t rfl) rfl) rfl ?_
  apply lL (by kernel_rfl) rfl
  (first | (apply ld_store rfl rfl (hE.t rfl) rfl; (focus ((repeat constructor); done)); (focus rfl); (focus (exact Nat.le_of_ble_eq_true rfl))) | (apply ld_store_sl rfl rfl (hE.t rfl) rfl; (focus ((repeat constructor); done)); (focus rfl); (focus (first | omega | (simp only [cellsL, length_setMany, List.length_cons, List.length_nil]; omega)))))
  refine l_nil ?_
  apply a_end
  · rfl
  · (exact Rs.nil)
  · exact ⟨rfl, rfl⟩
  · apply ent_trans
    · apply rdP_close (gs := gs ++ [(sy, k)]) (x := x)
      · ((repeat constructor); done)
      · rw [hn15]; simp
      · rw [hx15, gsC_append]; rfl
    · (apply ent; (repeat constructor); done)
def dropG (a : List (Nat × Nat)) (sy k m : Nat) : List (Nat × Nat) := if m = k then a else a ++ [(sy, k - m)]
theorem ct_drop (hE : Seat E) {x sy k m : Nat} {pv : Value} {bk : Bool} {a : List (Nat × Nat)} (hm : m ≤ k) (hk : k ≤ 1152921504606846976) (ha : a.length < 1099511627776) :
    Ct E 70 [.pointer (some ⟨x, 0, none⟩), .int .i64 (m : Nat)] [rdP x pv bk (a ++ [(sy, k)])] (fun v Q => v = .tuple #[] ∧ Q = [rdP x pv bk (dropG a sy k m)]) := by
  refine ct_open (ps := fun i : Option Addr × Nat => [cells x [pv, .bool bk, .slice i.1 (a ++ [(sy, k)]).length i.2] 93, sl i.1 i.2 138 2 (a ++ [(sy, k)]).length (gsC (a ++ [(sy, k)]))]) rdP_open ?_
  rintro ⟨p, c⟩
  have hl : (a ++ [(sy, k)]).length = a.length + 1 := by simp
  simp only [hl]
  refine ct_fact (p := sl p c 138 2 (a.length + 1) (gsC (a ++ [(sy, k)]))) (by ((repeat constructor); done)) (fun _ h => And.intro (sl_form h (by omega)) (sl_cap h).1) ?_
  rintro ⟨⟨g, rfl⟩, hcap⟩
  have hget : (a ++ [(sy, k)])[a.length]? = some (sy, k) := by simp
  have e1 : 0 + (((a.length + 1 : Nat) : Int) - 1).toNat * 2 + 1 = a.length * 2 + 1 := by omega
  have f0 : (gsC (a ++ [(sy, k)]))[0 + (((a.length + 1 : Nat) : Int) - 1).toNat * 2 + 1]? = some (.int .i64 (k : Nat)) := by rw [e1]; exact (gsC_get hget).2
  have hset : setMany (gsC (a ++ [(sy, k)])) (0 + (((a.length + 1 : Nat) : Int) - 1).toNat * 2 + 1) (cellsL (.int .i64 ((k : Int) - (m : Int)))) = gsC (a ++ [(sy, k - m)]) := by
    rw [e1, show (k : Int) - (m : Int) = ((k - m : Nat) : Int) by omega]
    have := gsC_set hget (k - m)
    simp only [setMany, cellsL]
    rw [this]; simp
  have f1 : (gsC (a ++ [(sy, k - m)]))[0 + (((a.length + 1 : Nat) : Int) - 1).toNat * 2 + 1]? = some (.int .i64 ((k - m : Nat) : Int)) := by rw [e1]; exact (gsC_get (g := (sy, k - m)) (by simp)).2
  refine fn_enter (hE.fn Tryd.func70) rfl rfl rfl (fun R => ?_)
  simp only [argsL, List.cons_append, List.nil_append]
  refine w_seq (w_draws (by kernel_rfl) ?_)
  refine lY (yM rfl) rfl ?_
  refine lY (y_nilCheck rfl) rfl ?_
  refine lY (yF rfl (hE.t rfl) rfl) rfl ?_
  apply lY
  · (apply y_load rfl (hE.t rfl) rfl; (repeat (first | rfl | assumption | constructor)); done)
  · rfl
  refine lY (yM rfl) rfl ?_
  refine lY (y_nilCheck rfl) rfl ?_
  refine lY (yF rfl (hE.t rfl) rfl) rfl ?_
  apply lY
  · (apply y_load rfl (hE.t rfl) rfl; (repeat (first | rfl | assumption | constructor)); done)
  · rfl
  refine lY (y_len_slice rfl (hE.t rfl)) rfl ?_
  refine lY (y_sub rfl rfl (by omega) (by omega)) rfl ?_
  refine lY (y_indexAddr rfl rfl (hE.t rfl) (by omega) (by omega)) rfl ?_
  refine lY (yA rfl) rfl ?_
  refine l_nil (aT (w_seq (wR ?_)))
  refine lY (yM rfl) rfl ?_
  refine lY (y_nilCheck rfl) rfl ?_
  refine lY (yF rfl (hE.t rfl) rfl) rfl ?_
  apply lY
  · (apply y_load rfl (hE.t rfl) rfl; (repeat (first | rfl | assumption | constructor)); done)
  · rfl
  refine lY (yM rfl) rfl ?_
  refine lY (y_sub rfl rfl (by omega) (by omega)) rfl ?_
  refine lY (y_nilCheck rfl) rfl ?_
  refine lY (yF rfl (hE.t rfl) rfl) rfl ?_
  apply lL (by kernel_rfl) rfl
  (first | (apply ld_store rfl rfl (hE.t rfl) rfl; (focus ((repeat constructor); done)); (focus rfl); (focus (exact Nat.le_of_ble_eq_true rfl))) | (apply ld_store_sl rfl rfl (hE.t rfl) rfl; (focus ((repeat constructor); done)); (focus rfl); (focus (first | omega | (simp only [cellsL, length_setMany, List.length_cons, List.length_nil]; omega)))))
  refine l_nil (aT ?_)
  rw [hset]
  refine w_seq (wR ?_)
  refine lY (yM rfl) rfl ?_
  refine lY (y_nilCheck rfl) rfl ?_
  refine lY (yF rfl (hE.t rfl) rfl) rfl ?_
  apply lY
  · (apply y_load rfl (hE.t rfl) rfl; (repeat (first | rfl | assumption | constructor)); done)
  · rfl
  refine lY (y_eq rfl rfl) rfl ?_
  refine l_nil (aT ?_)
  refine w_cond_d rfl (fun h => ?_) (fun h => ?_)
  · skip
    refine w_draws (by kernel_rfl) ?_
    refine lY (yM rfl) rfl ?_
    refine lY (yM rfl) rfl ?_
    refine lY (y_nilCheck rfl) rfl ?_
    refine lY (yF rfl (hE.t rfl) rfl) rfl ?_
    apply lY
    · (apply y_load rfl (hE.t rfl) rfl; (repeat (first | rfl | assumption | constructor)); done)
    · rfl
    refine lY (yM rfl) rfl ?_
    refine lY (y_nilCheck rfl) rfl ?_
    refine lY (yF rfl (hE.t rfl) rfl) rfl ?_
    apply lY
    · (apply y_load rfl (hE.t rfl) rfl; (repeat (first | rfl | assumption | constructor)); done)
    · rfl
    refine lY (y_len_slice rfl (hE.t rfl)) rfl ?_
    refine lY (y_sub rfl rfl (by omega) (by omega)) rfl ?_
    apply lY
    · exact y_slice_hi a.length rfl rfl (hE.t rfl) (by omega) (by omega)
    · rfl
    refine lY (y_nilCheck rfl) rfl ?_
    refine lY (yF rfl (hE.t rfl) rfl) rfl ?_
    apply lL (by kernel_rfl) rfl
    (first | (apply ld_store rfl rfl (hE.t rfl) rfl; (focus ((repeat constructor); done)); (focus rfl); (focus (exact Nat.le_of_ble_eq_true rfl))) | (apply ld_store_sl rfl rfl (hE.t rfl) rfl; (focus ((repeat constructor); done)); (focus rfl); (focus (first | omega | (simp only [cellsL, length_setMany, List.length_cons, List.length_nil]; omega)))))
    refine l_nil ?_
    apply a_end
    · rfl
    · (exact Rs.nil)
    · exact ⟨rfl, rfl⟩
    · have hd : dropG a sy k m = a := if_pos (by omega)
      rw [hd]
      apply ent_trans
      · apply ent_head (p := sl (some ⟨g, 0, none⟩) c 138 2 (a.length + 1) (gsC (a ++ [(sy, k - m)]))) (p' := sl (some ⟨g, 0, none⟩) c 138 2 a.length (gsC a))
        · ((repeat constructor); done)
        · exact sl_cut (by omega) (by rw [gsC_append, ← gsC_length]; simp) (by simp)
      · apply ent_trans
        · apply rdP_close (gs := a) (x := x)
          · ((repeat constructor); done)
          · rfl
          · rfl
        · (apply ent; (repeat constructor); done)
  · skip
    refine w_skip ?_
    apply a_end
    · rfl
    · (exact Rs.nil)
    · exact ⟨rfl, rfl⟩
    · have hd : dropG a sy k m = a ++ [(sy, k - m)] := if_neg (by omega)
      rw [hd]
      apply ent_trans
      · apply rdP_close (gs := a ++ [(sy, k - m)]) (x := x)
        · ((repeat constructor); done)
        · simp
        · rfl
      · (apply ent; (repeat constructor); done)
end Go.Proofs.YtekhbjlplfbdkaaDoor
namespace Go.Proofs.YtekhbjlplfbdkaaDoor
open Go Go.RowKit Sl Eg
set_option maxRecDepth 10000
variable {E : Env} {Es : List Ent} {pp tb s most : Nat}
def refsG (bk : Bool) : Rl → List (Nat × Nat)
  | .letter _ => []
  | .pair l r => if bk then [(l, 1), (r, 1)] else [(r, 1), (l, 1)]
  | .power x k => [(x, k)]
theorem ct_open_ (hE : Seat E) {x i k : Nat} {bk : Bool} {a : List (Nat × Nat)} {en : Ent} (hent : Es[i]? = some en) (hk1 : 1 ≤ k) (hk : k ≤ 1152921504606846976) (ha : a.length < 1099511627000) :
    Ct E 73 [.pointer (some ⟨x, 0, none⟩)] [rdP x (.pointer (some ⟨pp, 0, none⟩)) bk (a ++ [(i + 1, k)]), cells pp [.pointer (some ⟨s, 0, none⟩), .pointer (some ⟨tb, 0, none⟩)] 78, tabP tb s (rls Es), storeP s most Es] (fun v Q => v = .tuple #[] ∧ Q = [rdP x (.pointer (some ⟨pp, 0, none⟩)) bk (dropG a (i + 1) k 1 ++ refsG bk en.r), cells pp [.pointer (some ⟨s, 0, none⟩), .pointer (some ⟨tb, 0, none⟩)] 78, tabP tb s (rls Es), storeP s most Es]) := by
  have hdl : (dropG a (i + 1) k 1).length ≤ a.length + 1 := by unfold dropG; split <;> simp
  have hdl2 : ∀ q : Nat × Nat, (dropG a (i + 1) k 1 ++ [q]).length < 1099511627776 := fun q => by simp; omega
  have hl : (a ++ [(i + 1, k)]).length = a.length + 1 := by simp
  have hget : (a ++ [(i + 1, k)])[a.length]? = some (i + 1, k) := by simp
  have f0 : (gsC (a ++ [(i + 1, k)]))[0 + (((a.length + 1 : Nat) : Int) - 1).toNat * 2 + 0]? = some (.int .i64 ((i + 1 : Nat) : Int)) := by
    rw [show 0 + (((a.length + 1 : Nat) : Int) - 1).toNat * 2 + 0 = a.length * 2 by omega]; exact (gsC_get hget).1
  refine ct_open (ps := fun i' : Option Addr × Nat => [cells x [.pointer (some ⟨pp, 0, none⟩), .bool bk, .slice i'.1 (a ++ [(i + 1, k)]).length i'.2] 93, sl i'.1 i'.2 138 2 (a ++ [(i + 1, k)]).length (gsC (a ++ [(i + 1, k)]))]) rdP_open ?_
  rintro ⟨p, c⟩
  simp only [hl]
  refine ct_fact (p := sl p c 138 2 (a.length + 1) (gsC (a ++ [(i + 1, k)]))) (by ((repeat constructor); done)) (fun _ h => sl_form h (by omega)) ?_
  rintro ⟨g, rfl⟩
  refine fn_enter (hE.fn Tryd.func73) rfl rfl rfl (fun R => ?_)
  simp only [argsL, List.cons_append, List.nil_append]
  refine w_seq (w_draws (by kernel_rfl) ?_)
  refine lY (yM rfl) rfl ?_
  refine lY (y_nilCheck rfl) rfl ?_
  refine lY (yF rfl (hE.t rfl) rfl) rfl ?_
  apply lY
  · (apply y_load rfl (hE.t rfl) rfl; (repeat (first | rfl | assumption | constructor)); done)
  · rfl
  refine lY (yM rfl) rfl ?_
  refine lY (y_nilCheck rfl) rfl ?_
  refine lY (yF rfl (hE.t rfl) rfl) rfl ?_
  apply lY
  · (apply y_load rfl (hE.t rfl) rfl; (repeat (first | rfl | assumption | constructor)); done)
  · rfl
  refine lY (y_len_slice rfl (hE.t rfl)) rfl ?_
  refine lY (y_sub rfl rfl (by omega) (by omega)) rfl ?_
  refine lY (y_indexAddr rfl rfl (hE.t rfl) (by omega) (by omega)) rfl ?_
  refine lY (yF rfl (hE.t rfl) rfl) rfl ?_
  apply lY
  · (apply y_load rfl (hE.t rfl) rfl; (repeat (first | rfl | assumption | constructor)); done)
  · rfl
  refine lY (yA rfl) rfl ?_
  refine l_nil (aT ?_)
  apply w_heap
  · apply rdP_close (gs := a ++ [(i + 1, k)]) (x := x)
    · ((repeat constructor); done)
    · exact hl.symm
    · rfl
  refine w_seq (wR ?_)
  refine lY (yM rfl) rfl ?_
  apply lL (by kernel_rfl) rfl
  apply ld_call (ct_drop hE (a := a) (m := 1) hk1 hk (by omega)) rfl (hE.f (by kernel_rfl))
  · ((repeat constructor); done)
  rintro _ _ ⟨rfl, rfl⟩
  simp only [List.cons_append, List.nil_append]
  refine l_nil (aT ?_)
  apply w_open (ps := fun i' : Option Addr × Nat => [cells x [.pointer (some ⟨pp, 0, none⟩), .bool bk, .slice i'.1 (dropG a (i + 1) k 1).length i'.2] 93, sl i'.1 i'.2 138 2 (dropG a (i + 1) k 1).length (gsC (dropG a (i + 1) k 1))]) (p := rdP x (.pointer (some ⟨pp, 0, none⟩)) bk (dropG a (i + 1) k 1))
  · ((repeat constructor); done)
  · exact rdP_open
  rintro ⟨p1, c1⟩
  simp only [List.cons_append, List.nil_append]
  refine w_seq (wR ?_)
  refine lY (yM rfl) rfl ?_
  refine lY (y_nilCheck rfl) rfl ?_
  refine lY (yF rfl (hE.t rfl) rfl) rfl ?_
  apply lY
  · (apply y_load rfl (hE.t rfl) rfl; (repeat (first | rfl | assumption | constructor)); done)
  · rfl
  apply lL (by kernel_rfl) rfl
  apply ld_call (ct_Store hE) rfl (hE.f (by kernel_rfl))
  · ((repeat constructor); done)
  rintro _ _ ⟨rfl, rfl⟩
  simp only [List.cons_append, List.nil_append]
  refine lY (yM rfl) rfl ?_
  apply lL (by kernel_rfl) rfl
  apply ld_call (ct_rule hE hent) rfl (hE.f (by kernel_rfl))
  · ((repeat constructor); done)
  rintro _ _ ⟨rfl, rfl⟩
  simp only [List.cons_append, List.nil_append]
  refine lY (yM rfl) rfl ?_
  refine lY (y_extract rfl rfl) rfl ?_
  refine lY (y_extract rfl rfl) rfl ?_
  apply lL (by kernel_rfl) rfl
  refine ld_alloc (hE.t rfl) (fun b3 => ?_)
  apply lL (by kernel_rfl) rfl
  (first | (apply ld_store rfl rfl (hE.t rfl) rfl; (focus ((repeat constructor); done)); (focus rfl); (focus (exact Nat.le_of_ble_eq_true rfl))) | (apply ld_store_sl rfl rfl (hE.t rfl) rfl; (focus ((repeat constructor); done)); (focus rfl); (focus (first | omega | (simp only [cellsL, length_setMany, List.length_cons, List.length_nil]; omega)))))
  refine lY (yA rfl) rfl ?_
  refine l_nil (aT ?_)
  generalize en.r = r
  cases r with
  | letter b =>
    skip
    refine w_block (w_seq (wR ?_))
    refine lY (yF rfl (hE.t rfl) rfl) rfl ?_
    apply lY
    · (apply y_load rfl (hE.t rfl) rfl; (repeat (first | rfl | assumption | constructor)); done)
    · rfl
    refine lY (y_eq rfl rfl) rfl ?_
    refine lY (yA rfl) rfl ?_
    refine l_nil (aT ?_)
    refine w_cond_f rfl ?_
    refine w_seq (wR ?_)
    refine lY (yF rfl (hE.t rfl) rfl) rfl ?_
    apply lY
    · (apply y_load rfl (hE.t rfl) rfl; (repeat (first | rfl | assumption | constructor)); done)
    · rfl
    refine lY (y_eq rfl rfl) rfl ?_
    refine lY (yM rfl) rfl ?_
    skip
    refine l_off rfl rfl rfl rfl (l_off rfl rfl rfl rfl (l_off rfl rfl rfl rfl (l_off rfl rfl rfl rfl ?_)))
    apply lY
    · (first | exact y_pick_t rfl rfl | exact y_pick_f rfl rfl)
    · rfl
    refine lY (yA rfl) rfl ?_
    refine l_nil (aT ?_)
    refine w_cond_f rfl ?_
    refine w_seq (wR ?_)
    refine lY (yF rfl (hE.t rfl) rfl) rfl ?_
    apply lY
    · (apply y_load rfl (hE.t rfl) rfl; (repeat (first | rfl | assumption | constructor)); done)
    · rfl
    refine lY (y_eq rfl rfl) rfl ?_
    refine lY (yA rfl) rfl ?_
    refine l_nil (aT ?_)
    refine w_cond_f rfl ?_
    refine w_skip (a_block ?_)
    apply wa_heap
    · apply rdP_close (gs := dropG a (i + 1) k 1) (x := x)
      · ((repeat constructor); done)
      · rfl
      · rfl
    apply a_end
    · rfl
    · (exact Rs.nil)
    · exact ⟨rfl, rfl⟩
    · simp only [refsG, List.append_assoc, List.cons_append, List.nil_append, List.append_nil, if_true, if_false, Bool.false_eq_true]
      (apply ent; (repeat constructor); done)
  | power y t =>
    skip
    refine w_block (w_seq (wR ?_))
    refine lY (yF rfl (hE.t rfl) rfl) rfl ?_
    apply lY
    · (apply y_load rfl (hE.t rfl) rfl; (repeat (first | rfl | assumption | constructor)); done)
    · rfl
    refine lY (y_eq rfl rfl) rfl ?_
    refine lY (yA rfl) rfl ?_
    refine l_nil (aT ?_)
    refine w_cond_t rfl ?_
    apply w_heap
    · apply rdP_close (gs := dropG a (i + 1) k 1) (x := x)
      · ((repeat constructor); done)
      · rfl
      · rfl
    refine wR ?_
    refine lY (yM rfl) rfl ?_
    refine lY (yF rfl (hE.t rfl) rfl) rfl ?_
    apply lY
    · (apply y_load rfl (hE.t rfl) rfl; (repeat (first | rfl | assumption | constructor)); done)
    · rfl
    refine lY (yF rfl (hE.t rfl) rfl) rfl ?_
    apply lY
    · (apply y_load rfl (hE.t rfl) rfl; (repeat (first | rfl | assumption | constructor)); done)
    · rfl
    apply lL (by kernel_rfl) rfl
    apply ld_call (ct_push hE (gs := dropG a (i + 1) k 1) (by omega)) rfl (hE.f (by kernel_rfl))
    · ((repeat constructor); done)
    rintro _ _ ⟨rfl, rfl⟩
    simp only [List.cons_append, List.nil_append]
    refine l_nil (a_block ?_)
    apply a_end
    · rfl
    · (exact Rs.nil)
    · exact ⟨rfl, rfl⟩
    · simp only [refsG, List.append_assoc, List.cons_append, List.nil_append, List.append_nil, if_true, if_false, Bool.false_eq_true]
      (apply ent; (repeat constructor); done)
  | pair l r =>
    cases bk with
    | true =>
      skip
      refine w_block (w_seq (wR ?_))
      refine lY (yF rfl (hE.t rfl) rfl) rfl ?_
      apply lY
      · (apply y_load rfl (hE.t rfl) rfl; (repeat (first | rfl | assumption | constructor)); done)
      · rfl
      refine lY (y_eq rfl rfl) rfl ?_
      refine lY (yA rfl) rfl ?_
      refine l_nil (aT ?_)
      refine w_cond_f rfl ?_
      refine w_seq (wR ?_)
      refine lY (yF rfl (hE.t rfl) rfl) rfl ?_
      apply lY
      · (apply y_load rfl (hE.t rfl) rfl; (repeat (first | rfl | assumption | constructor)); done)
      · rfl
      refine lY (y_eq rfl rfl) rfl ?_
      refine lY (yM rfl) rfl ?_
      skip
      refine l_on rfl rfl ?_
      refine lY (yM rfl) rfl ?_
      refine l_on rfl rfl ?_
      refine lY (y_nilCheck rfl) rfl ?_
      refine l_on rfl rfl ?_
      refine lY (yF rfl (hE.t rfl) rfl) rfl ?_
      refine l_on rfl rfl ?_
      apply lY
      · (apply y_load rfl (hE.t rfl) rfl; (repeat (first | rfl | assumption | constructor)); done)
      · rfl
      apply lY
      · (first | exact y_pick_t rfl rfl | exact y_pick_f rfl rfl)
      · rfl
      refine lY (yA rfl) rfl ?_
      refine l_nil (aT ?_)
      refine w_cond_t rfl ?_
      apply w_heap
      · apply rdP_close (gs := dropG a (i + 1) k 1) (x := x)
        · ((repeat constructor); done)
        · rfl
        · rfl
      refine w_seq (wR ?_)
      refine lY (yM rfl) rfl ?_
      refine lY (yF rfl (hE.t rfl) rfl) rfl ?_
      apply lY
      · (apply y_load rfl (hE.t rfl) rfl; (repeat (first | rfl | assumption | constructor)); done)
      · rfl
      apply lL (by kernel_rfl) rfl
      apply ld_call (ct_push hE (gs := dropG a (i + 1) k 1) (by omega)) rfl (hE.f (by kernel_rfl))
      · ((repeat constructor); done)
      rintro _ _ ⟨rfl, rfl⟩
      simp only [List.cons_append, List.nil_append]
      refine l_nil (aT (wR ?_))
      refine lY (yM rfl) rfl ?_
      refine lY (yF rfl (hE.t rfl) rfl) rfl ?_
      apply lY
      · (apply y_load rfl (hE.t rfl) rfl; (repeat (first | rfl | assumption | constructor)); done)
      · rfl
      apply lL (by kernel_rfl) rfl
      apply ld_call (ct_push hE (gs := dropG a (i + 1) k 1 ++ [(l, 1)]) (hdl2 _)) rfl (hE.f (by kernel_rfl))
      · ((repeat constructor); done)
      rintro _ _ ⟨rfl, rfl⟩
      simp only [List.cons_append, List.nil_append]
      refine l_nil (a_block ?_)
      apply a_end
      · rfl
      · (exact Rs.nil)
      · exact ⟨rfl, rfl⟩
      · simp only [refsG, List.append_assoc, List.cons_append, List.nil_append, List.append_nil, if_true, if_false, Bool.false_eq_true]
        (apply ent; (repeat constructor); done)
    | false =>
      skip
      refine w_block (w_seq (wR ?_))
      refine lY (yF rfl (hE.t rfl) rfl) rfl ?_
      apply lY
      · (apply y_load rfl (hE.t rfl) rfl; (repeat (first | rfl | assumption | constructor)); done)
      · rfl
      refine lY (y_eq rfl rfl) rfl ?_
      refine lY (yA rfl) rfl ?_
      refine l_nil (aT ?_)
      refine w_cond_f rfl ?_
      refine w_seq (wR ?_)
      refine lY (yF rfl (hE.t rfl) rfl) rfl ?_
      apply lY
      · (apply y_load rfl (hE.t rfl) rfl; (repeat (first | rfl | assumption | constructor)); done)
      · rfl
      refine lY (y_eq rfl rfl) rfl ?_
      refine lY (yM rfl) rfl ?_
      skip
      refine l_on rfl rfl ?_
      refine lY (yM rfl) rfl ?_
      refine l_on rfl rfl ?_
      refine lY (y_nilCheck rfl) rfl ?_
      refine l_on rfl rfl ?_
      refine lY (yF rfl (hE.t rfl) rfl) rfl ?_
      refine l_on rfl rfl ?_
      apply lY
      · (apply y_load rfl (hE.t rfl) rfl; (repeat (first | rfl | assumption | constructor)); done)
      · rfl
      apply lY
      · (first | exact y_pick_t rfl rfl | exact y_pick_f rfl rfl)
      · rfl
      refine lY (yA rfl) rfl ?_
      refine l_nil (aT ?_)
      refine w_cond_f rfl ?_
      refine w_seq (wR ?_)
      refine lY (yF rfl (hE.t rfl) rfl) rfl ?_
      apply lY
      · (apply y_load rfl (hE.t rfl) rfl; (repeat (first | rfl | assumption | constructor)); done)
      · rfl
      refine lY (y_eq rfl rfl) rfl ?_
      refine lY (yA rfl) rfl ?_
      refine l_nil (aT ?_)
      refine w_cond_t rfl ?_
      apply w_heap
      · apply rdP_close (gs := dropG a (i + 1) k 1) (x := x)
        · ((repeat constructor); done)
        · rfl
        · rfl
      refine w_seq (wR ?_)
      refine lY (yM rfl) rfl ?_
      refine lY (yF rfl (hE.t rfl) rfl) rfl ?_
      apply lY
      · (apply y_load rfl (hE.t rfl) rfl; (repeat (first | rfl | assumption | constructor)); done)
      · rfl
      apply lL (by kernel_rfl) rfl
      apply ld_call (ct_push hE (gs := dropG a (i + 1) k 1) (by omega)) rfl (hE.f (by kernel_rfl))
      · ((repeat constructor); done)
      rintro _ _ ⟨rfl, rfl⟩
      simp only [List.cons_append, List.nil_append]
      refine l_nil (aT (wR ?_))
      refine lY (yM rfl) rfl ?_
      refine lY (yF rfl (hE.t rfl) rfl) rfl ?_
      apply lY
      · (apply y_load rfl (hE.t rfl) rfl; (repeat (first | rfl | assumption | constructor)); done)
      · rfl
      apply lL (by kernel_rfl) rfl
      apply ld_call (ct_push hE (gs := dropG a (i + 1) k 1 ++ [(r, 1)]) (hdl2 _)) rfl (hE.f (by kernel_rfl))
      · ((repeat constructor); done)
      rintro _ _ ⟨rfl, rfl⟩
      simp only [List.cons_append, List.nil_append]
      refine l_nil (a_block ?_)
      apply a_end
      · rfl
      · (exact Rs.nil)
      · exact ⟨rfl, rfl⟩
      · simp only [refsG, List.append_assoc, List.cons_append, List.nil_append, List.append_nil, if_true, if_false, Bool.false_eq_true]
        (apply ent; (repeat constructor); done)
end Go.Proofs.YtekhbjlplfbdkaaDoor
namespace Eg
def tx (L : List Rl) (bk : Bool) (i : Nat) : List UInt8 := if bk then (txt L i).reverse else txt L i
def strm (L : List Rl) (bk : Bool) : List (Nat × Nat) → List UInt8
  | [] => []
  | g :: r => strm L bk r ++ rep g.2 (tx L bk g.1)
theorem strm_append (L : List Rl) (bk : Bool) : ∀ a b : List (Nat × Nat), strm L bk (a ++ b) = strm L bk b ++ strm L bk a
  | [], b => by simp [strm]
  | g :: a, b => by simp [strm, strm_append L bk a b]
theorem strm_one (L : List Rl) (bk : Bool) (s k : Nat) : strm L bk [(s, k)] = rep k (tx L bk s) := by simp [strm]
theorem strm_snoc (L : List Rl) (bk : Bool) (a : List (Nat × Nat)) (s k : Nat) : strm L bk (a ++ [(s, k)]) = rep k (tx L bk s) ++ strm L bk a := by rw [strm_append, strm_one]
theorem length_rep (k : Nat) (t : List UInt8) : (rep k t).length = k * t.length := rep_length k t
theorem rep_reverse (k : Nat) (t : List UInt8) : (rep k t).reverse = rep k t.reverse := by
  induction k with
  | zero => rfl
  | succ k ih => rw [rep_succ, List.reverse_append, ih, rep_succ, rep_comm]
theorem tx_length (L : List Rl) (bk : Bool) (i : Nat) : (tx L bk i).length = len L i := by unfold tx len; split <;> simp
theorem tx_pair {L : List Rl} {i l r : Nat} (h : L[i]? = some (.pair l r)) (hk : (Rl.pair l r).ok (i + 1)) (bk : Bool) : tx L bk (i + 1) = if bk then tx L bk r ++ tx L bk l else tx L bk l ++ tx L bk r := by
  unfold tx; rw [txt_pair h hk]; cases bk <;> simp
theorem tx_power {L : List Rl} {i x k : Nat} (h : L[i]? = some (.power x k)) (hk : (Rl.power x k).ok (i + 1)) (bk : Bool) : tx L bk (i + 1) = rep k (tx L bk x) := by
  have e : txt L (i + 1) = rep k (txt L x) := txt_power h hk
  unfold tx
  rw [e]
  cases bk
  · rfl
  · simp [rep_reverse]
theorem tx_letter {L : List Rl} {i : Nat} {b : UInt8} (h : L[i]? = some (.letter b)) (bk : Bool) : tx L bk (i + 1) = [b] := by
  unfold tx; rw [txt_letter h]; cases bk <;> rfl
theorem lvl_pair {L : List Rl} {i l r : Nat} (h : L[i]? = some (.pair l r)) (hk : (Rl.pair l r).ok (i + 1)) (h0 : 0 ≤ lvl L (i + 1)) : 0 ≤ lvl L l ∧ 0 ≤ lvl L r := by
  rw [(key_pair h hk).2] at h0
  split at h0
  · rename_i hc; exact hc.2
  · omega
theorem lvl_power {L : List Rl} {i x k : Nat} (h : L[i]? = some (.power x k)) (hk : (Rl.power x k).ok (i + 1)) (h0 : 0 ≤ lvl L (i + 1)) : 0 ≤ lvl L x := by
  rw [(key_power h hk).2] at h0
  split at h0
  · rename_i hc; exact hc.1
  · omega
def gok (L : List Rl) (gs : List (Nat × Nat)) : Prop := ∀ g ∈ gs, 1 ≤ g.1 ∧ g.1 ≤ L.length ∧ 0 ≤ lvl L g.1 ∧ 1 ≤ g.2 ∧ g.2 ≤ maxLength
theorem gok_append {L : List Rl} {a b : List (Nat × Nat)} : gok L (a ++ b) ↔ gok L a ∧ gok L b := by
  constructor
  · exact fun h => ⟨fun g hg => h g (by simp [hg]), fun g hg => h g (by simp [hg])⟩
  · rintro ⟨h1, h2⟩ g hg
    rcases List.mem_append.1 hg with h | h
    · exact h1 g h
    · exact h2 g h
theorem gok_one {L : List Rl} {s k : Nat} : gok L [(s, k)] ↔ 1 ≤ s ∧ s ≤ L.length ∧ 0 ≤ lvl L s ∧ 1 ≤ k ∧ k ≤ maxLength := by
  unfold gok; simp
theorem drop_rep {t : List UInt8} {k n : Nat} (hn : 1 ≤ n) (ht : 0 < t.length) (hk : n ≤ k * t.length) : (rep k t).drop (k * t.length - n) = t.drop (t.length - ((n - 1) % t.length + 1)) ++ rep ((n - 1) / t.length) t := by
  have hq : (n - 1) / t.length < k := (Nat.div_lt_iff_lt_mul ht).2 (by omega)
  have hm := Nat.mod_lt (n - 1) ht
  have hdm := Nat.div_add_mod (n - 1) t.length
  generalize (n - 1) / t.length = q at *
  generalize (n - 1) % t.length = m at *
  have e1 : k = (k - 1 - q) + (1 + q) := by omega
  have e2 : k * t.length = (k - 1 - q) * t.length + t.length + t.length * q := by
    conv => lhs; rw [e1, Nat.add_mul, Nat.add_mul, Nat.mul_comm q]
    omega
  rw [show k * t.length - n = (k - 1 - q) * t.length + (t.length - (m + 1)) by omega]
  conv => lhs; arg 2; rw [e1, rep_add, rep_add, rep_one]
  rw [List.drop_append, length_rep]
  rw [List.drop_eq_nil_of_le (by rw [length_rep]; omega), List.nil_append, Nat.add_sub_cancel_left, List.drop_append]
  rw [show t.length - (m + 1) - t.length = 0 by omega, List.drop_zero]
end Eg
