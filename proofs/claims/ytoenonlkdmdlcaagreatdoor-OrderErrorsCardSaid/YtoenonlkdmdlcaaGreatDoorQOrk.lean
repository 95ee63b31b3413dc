/- Package order: the errors. -/
import Derived.Test.YtoenonlkdmdlcaaGreatDoorQ18
set_option linter.unusedVariables false
set_option linter.unusedSimpArgs false
namespace Go.Proofs.YtoenonlkdmdlcaaGreatDoor
open Go Go.RowKit Sl Eg
set_option maxRecDepth 10000
variable {E : Env} {Es : List Ent} {pp tb s most : Nat}
def inC (l : List Int) : List Value := l.map fun x => .int .i64 x
theorem inC_get {l : List Int} {i : Nat} {x : Int} (h : l[i]? = some x) (k : Nat) (hk : k = i) : (inC l)[k]? = some (.int .i64 x) := by subst hk; simp [inC, h]
/-- The first bad ID of a list is an unknown one. -/
structure BadAt (L : List Rl) (l : List Int) (b : Nat) : Prop where
  lt : b < l.length
  bad : ∀ x, l[b]? = some x → ¬ (0 ≤ x ∧ x ≤ (L.length : Nat))
  fine : ∀ i x, i < b → l[i]? = some x → ∃ y, x = ((y : Nat) : Int) ∧ good L y
theorem ct_ocheck_nil (hE : Seat E) {a : Option Addr} {n c : Nat} : Ct E 22 [.pointer none, .slice a n c] [] (fun v Q => v = .iface 34 (.int .i64 5) ∧ Q = []) := by
  refine fn_enter (hE.fn Tryz.func22) rfl rfl rfl (fun R => ?_)
  simp only [argsL, List.cons_append, List.nil_append]
  refine w_seq (w_region ?_)
  refine l_yield (y_assign rfl) rfl ?_
  refine l_nil (a_then (w_seq (w_seq (w_region ?_))))
  refine l_yield (y_move rfl) rfl ?_
  apply l_loud (by kernel_rfl) rfl
  apply ld_call (ct_Store_nil hE) rfl (hE.f (by kernel_rfl))
  · ((repeat constructor); done)
  rintro _ _ ⟨rfl, rfl⟩
  simp only [List.cons_append, List.nil_append]
  apply l_yield
  · (first | exact y_eq_ptr rfl (hE.t rfl) | exact y_eq_nil rfl (hE.t rfl))
  · rfl
  refine l_nil (a_then ?_)
  refine w_cond_t rfl ?_
  refine w_seq (w_region ?_)
  refine l_yield (y_iface rfl (hE.t rfl) rfl) rfl ?_
  refine l_yield (y_assign rfl) rfl ?_
  refine l_nil (a_then (w_ret (a_then_ret ?_)))
  apply a_ret
  · rfl
  · (apply Rs.tmp rfl; exact Rs.nil)
  · exact ⟨rfl, rfl⟩
  · (apply ent; (repeat constructor); done)
theorem ct_ocheck_bad (hE : Seat E) (hB : Base E.w0) {l : List Int} {b : Nat} (hb : BadAt (rls Es) l b) {g o c : Nat} {q : HP} (hqq : ∀ k, q k → RdAt E.w0 g o (inC l) k) (hl : l.length ≤ 1152921504606846976) :
    Ct E 22 [.pointer (some ⟨pp, 0, none⟩), .slice (some ⟨g, o, none⟩) l.length c] [cells pp [.pointer (some ⟨s, 0, none⟩), .pointer (some ⟨tb, 0, none⟩)] 59, tabP tb s (rls Es), storeP s most Es, q] (fun v Q => v = .iface 34 (.int .i64 1) ∧ Q = [cells pp [.pointer (some ⟨s, 0, none⟩), .pointer (some ⟨tb, 0, none⟩)] 59, tabP tb s (rls Es), storeP s most Es, q]) := by
  have hbl := hb.lt
  refine fn_enter (hE.fn Tryz.func22) rfl rfl rfl (fun R => ?_)
  simp only [argsL, List.cons_append, List.nil_append]
  refine w_seq (w_region ?_)
  refine l_yield (y_assign rfl) rfl ?_
  refine l_nil (a_then (w_seq (w_seq (w_region ?_))))
  refine l_yield (y_move rfl) rfl ?_
  apply l_loud (by kernel_rfl) rfl
  apply ld_call (ct_Store hE) rfl (hE.f (by kernel_rfl))
  · ((repeat constructor); done)
  rintro _ _ ⟨rfl, rfl⟩
  simp only [List.cons_append, List.nil_append]
  apply l_yield
  · (first | exact y_eq_ptr rfl (hE.t rfl) | exact y_eq_nil rfl (hE.t rfl))
  · rfl
  refine l_nil (a_then ?_)
  refine w_cond_f rfl ?_
  refine w_skip (a_then (w_seq (w_seq (w_region ?_))))
  refine l_yield (y_move rfl) rfl ?_
  refine l_yield (y_len_slice rfl (hE.t rfl)) rfl ?_
  refine l_yield (y_move rfl) rfl ?_
  refine l_nil (a_then (w_block ?_))
  skip
  refine w_loop (fun k : Nat => [(0, .pointer (some ⟨pp, 0, none⟩)), (13, .slice (some ⟨g, o, none⟩) l.length c), (14, .int .i64 (l.length : Nat)), (15, .int .i64 (k : Nat))]) (fun k => [cells pp [.pointer (some ⟨s, 0, none⟩), .pointer (some ⟨tb, 0, none⟩)] 59, tabP tb s (rls Es), storeP s most Es, q, R]) (fun k => l.length - k) (fun k => k ≤ b) 0 ?_ ?_ ?_ ?_
  · exact Nat.zero_le _
  · exact ⟨rfl, rfl, rfl, rfl, trivial⟩
  · (apply ent; (repeat constructor); done)
  intro k hk
  obtain ⟨x, hx⟩ : ∃ x, l[k]? = some x := ⟨_, List.getElem?_eq_getElem (by omega)⟩
  have f0 := inC_get hx k rfl
  skip
  refine w_seq (w_region ?_)
  refine l_yield (y_lt rfl rfl) rfl ?_
  refine l_nil (a_then (w_seq ?_))
  refine w_cond_d rfl (fun h1 => ?_) (fun h1 => ?_)
  · skip
    refine w_skip (a_then (w_seq (w_block (w_seq (w_region ?_)))))
    apply l_yield
    · (first | exact y_indexAddr1 rfl rfl (hE.t rfl) (by omega) (by omega) | exact y_indexAddr rfl rfl (hE.t rfl) (by omega) (by omega))
    · rfl
    apply l_yield
    · (first | (apply y_load rfl (hE.t rfl) rfl; (repeat (first | rfl | assumption | constructor)); done) | exact y_load_old rfl (hE.t rfl) rfl (by assumption) | (apply y_load_ro rfl (hE.t rfl) rfl; (focus ((repeat constructor); done)); (focus assumption)) | (apply y_load_q rfl (hE.t rfl) rfl (by assumption); (focus ((repeat constructor); done)); (first | ((focus exact f0); (focus omega)) | ((focus exact f1); (focus omega)) | ((focus assumption); (focus omega)))))
    · rfl
    refine l_yield (y_assign rfl) rfl ?_
    refine l_nil (a_then (w_seq (w_seq (w_region ?_))))
    refine l_yield (y_move rfl) rfl ?_
    refine l_yield (y_lt rfl rfl) rfl ?_
    refine l_yield (y_move rfl) rfl ?_
    refine l_split 21 rfl (fun h2 => ?_) (fun h2 => ?_)
    · skip
      refine l_off rfl rfl rfl rfl (l_off rfl rfl rfl rfl (l_off rfl rfl rfl rfl (l_off rfl rfl rfl rfl (l_off rfl rfl rfl rfl ?_))))
      apply l_yield
      · (first | exact y_pick_t rfl rfl | exact y_pick_f rfl rfl)
      · rfl
      refine l_nil (a_then ?_)
      refine w_cond_t rfl ?_
      refine w_seq (w_region ?_)
      refine l_yield (y_iface rfl (hE.t rfl) rfl) rfl ?_
      refine l_yield (y_assign rfl) rfl ?_
      refine l_nil (a_then (w_ret (a_then_ret (a_block_ret (a_then_ret (a_then_ret (a_block_ret ?_)))))))
      refine a_then_ret ?_
      apply a_ret
      · rfl
      · (apply Rs.tmp rfl; exact Rs.nil)
      · exact ⟨rfl, rfl⟩
      · (apply ent; (repeat constructor); done)
    skip
    refine l_on rfl rfl ?_
    refine l_yield (y_move rfl) rfl ?_
    refine l_on rfl rfl ?_
    refine l_yield (y_move rfl) rfl ?_
    refine l_on rfl rfl ?_
    apply l_loud (by kernel_rfl) rfl
    apply ld_call (ct_Store hE) rfl (hE.f (by kernel_rfl))
    · ((repeat constructor); done)
    rintro _ _ ⟨rfl, rfl⟩
    simp only [List.cons_append, List.nil_append]
    refine l_on rfl rfl ?_
    apply l_loud (by kernel_rfl) rfl
    apply ld_call (ct_len hE) rfl (hE.f (by kernel_rfl))
    · ((repeat constructor); done)
    rintro _ _ ⟨rfl, rfl⟩
    simp only [List.cons_append, List.nil_append]
    refine l_on rfl rfl ?_
    refine l_yield (y_gt rfl rfl) rfl ?_
    apply l_yield
    · (first | exact y_pick_t rfl rfl | exact y_pick_f rfl rfl)
    · rfl
    refine l_nil (a_then ?_)
    refine w_cond_d rfl (fun h3 => ?_) (fun h3 => ?_)
    · skip
      refine w_seq (w_region ?_)
      refine l_yield (y_iface rfl (hE.t rfl) rfl) rfl ?_
      refine l_yield (y_assign rfl) rfl ?_
      refine l_nil (a_then (w_ret (a_then_ret (a_block_ret (a_then_ret (a_then_ret (a_block_ret ?_)))))))
      refine a_then_ret ?_
      apply a_ret
      · rfl
      · (apply Rs.tmp rfl; exact Rs.nil)
      · exact ⟨rfl, rfl⟩
      · (apply ent; (repeat constructor); done)
    skip
    have hkb : k < b := by
      rcases Nat.lt_or_ge k b with h | h
      · exact h
      · obtain rfl : k = b := by omega
        have := hb.bad x hx
        rw [rls_length] at this
        omega
    obtain ⟨y, rfl, gy⟩ := hb.fine k x hkb hx
    refine w_skip (a_then (w_seq (w_region ?_)))
    refine l_yield (y_move rfl) rfl ?_
    refine l_yield (y_move rfl) rfl ?_
    apply l_loud (by kernel_rfl) rfl
    apply ld_call (ct_TopN hE hB gy) rfl (hE.f (by kernel_rfl))
    · ((repeat constructor); done)
    rintro _ _ ⟨rfl, rfl⟩
    simp only [List.cons_append, List.nil_append]
    refine l_yield (y_move rfl) rfl ?_
    refine l_yield (y_extract rfl rfl) rfl ?_
    refine l_yield (y_extract rfl rfl) rfl ?_
    refine l_yield (y_assign rfl) rfl ?_
    refine l_yield (y_assign rfl) rfl ?_
    refine l_nil (a_then (w_seq (w_region ?_)))
    refine l_yield (y_move rfl) rfl ?_
    apply l_yield
    · (first | exact y_ok_ne rfl (hE.t rfl) | exact y_err_ne rfl (hE.t rfl))
    · rfl
    refine l_nil (a_then ?_)
    refine w_cond_f rfl ?_
    refine w_skip (a_block (a_then (w_region ?_)))
    refine l_yield (y_add rfl rfl (by omega) (by omega)) rfl ?_
    refine l_yield (y_move rfl) rfl ?_
    refine l_nil ?_
    refine wa_eq 15 (.int .i64 ((k + 1 : Nat) : Int)) rfl (int_eq (by omega)) ?_
    refine a_round (k + 1) (by omega) (by omega) ⟨rfl, rfl, rfl, rfl, trivial⟩ ?_
    (apply ent; (repeat constructor); done)
  · exfalso; omega
section
variable {pv : Value} {i j : Int} {e : Int} {P : HP}
/-- check gives an error for two IDs, whatever block they lie in. -/
def Chk2 (E : Env) (pv : Value) (i j e : Int) (P : HP) : Prop := ∀ b, Ct E 22 [pv, .slice (some ⟨b, 0, none⟩) 2 2] [P, cells b [.int .i64 i, .int .i64 j] 23] (fun v Q => v = .iface 34 (.int .i64 e) ∧ Q = [P, cells b [.int .i64 i, .int .i64 j] 23])
theorem ct_Compare_err (hE : Seat E) (hc : Chk2 E pv i j e P) : Ct E 10 [pv, .int .i64 i, .int .i64 j] [P] (fun v Q => v = .tuple #[.int .i64 0, .iface 34 (.int .i64 e)] ∧ Q = [P]) := by
  refine fn_enter (hE.fn Tryz.func10) rfl rfl rfl (fun R => ?_)
  simp only [argsL, List.cons_append, List.nil_append]
  refine w_seq (w_region ?_)
  refine l_yield (y_assign rfl) rfl ?_
  refine l_yield (y_assign rfl) rfl ?_
  refine l_nil (a_then (w_seq (w_seq (w_region ?_))))
  refine l_yield (y_move rfl) rfl ?_
  refine l_yield (y_move rfl) rfl ?_
  refine l_yield (y_move rfl) rfl ?_
  apply l_loud (by kernel_rfl) rfl
  refine ld_buildSlice (hE.t rfl) (hE.t rfl) rfl rfl rfl (fun b12 => ?_)
  apply l_loud (by kernel_rfl) rfl
  apply ld_call (hc b12) rfl (hE.f (by kernel_rfl))
  · ((repeat constructor); done)
  rintro _ _ ⟨rfl, rfl⟩
  simp only [List.cons_append, List.nil_append]
  refine l_yield (y_assign rfl) rfl ?_
  refine l_nil (a_then (w_seq (w_region ?_)))
  refine l_yield (y_move rfl) rfl ?_
  apply l_yield
  · (first | exact y_ok_ne rfl (hE.t rfl) | exact y_err_ne rfl (hE.t rfl))
  · rfl
  refine l_nil (a_then ?_)
  refine w_cond_t rfl ?_
  refine w_seq (w_region ?_)
  refine l_yield (y_move rfl) rfl ?_
  refine l_yield (y_assign rfl) rfl ?_
  refine l_yield (y_assign rfl) rfl ?_
  refine l_nil (a_then (w_ret (a_then_ret ?_)))
  apply a_ret
  · rfl
  · (apply Rs.tmp rfl; apply Rs.tmp rfl; exact Rs.nil)
  · exact ⟨rfl, rfl⟩
  · (apply ent; (repeat constructor); done)
theorem ct_HasPrefix_err (hE : Seat E) (hc : Chk2 E pv i j e P) : Ct E 12 [pv, .int .i64 i, .int .i64 j] [P] (fun v Q => v = .tuple #[.bool false, .iface 34 (.int .i64 e)] ∧ Q = [P]) := by
  refine fn_enter (hE.fn Tryz.func12) rfl rfl rfl (fun R => ?_)
  simp only [argsL, List.cons_append, List.nil_append]
  refine w_seq (w_region ?_)
  refine l_yield (y_assign rfl) rfl ?_
  refine l_yield (y_assign rfl) rfl ?_
  refine l_nil (a_then (w_seq (w_seq (w_region ?_))))
  refine l_yield (y_move rfl) rfl ?_
  refine l_yield (y_move rfl) rfl ?_
  refine l_yield (y_move rfl) rfl ?_
  apply l_loud (by kernel_rfl) rfl
  refine ld_buildSlice (hE.t rfl) (hE.t rfl) rfl rfl rfl (fun b12 => ?_)
  apply l_loud (by kernel_rfl) rfl
  apply ld_call (hc b12) rfl (hE.f (by kernel_rfl))
  · ((repeat constructor); done)
  rintro _ _ ⟨rfl, rfl⟩
  simp only [List.cons_append, List.nil_append]
  refine l_yield (y_assign rfl) rfl ?_
  refine l_nil (a_then (w_seq (w_region ?_)))
  refine l_yield (y_move rfl) rfl ?_
  apply l_yield
  · (first | exact y_ok_ne rfl (hE.t rfl) | exact y_err_ne rfl (hE.t rfl))
  · rfl
  refine l_nil (a_then ?_)
  refine w_cond_t rfl ?_
  refine w_seq (w_region ?_)
  refine l_yield (y_move rfl) rfl ?_
  refine l_yield (y_assign rfl) rfl ?_
  refine l_yield (y_assign rfl) rfl ?_
  refine l_nil (a_then (w_ret (a_then_ret ?_)))
  apply a_ret
  · rfl
  · (apply Rs.tmp rfl; apply Rs.tmp rfl; exact Rs.nil)
  · exact ⟨rfl, rfl⟩
  · (apply ent; (repeat constructor); done)
theorem ct_HasSuffix_err (hE : Seat E) (hc : Chk2 E pv i j e P) : Ct E 13 [pv, .int .i64 i, .int .i64 j] [P] (fun v Q => v = .tuple #[.bool false, .iface 34 (.int .i64 e)] ∧ Q = [P]) := by
  refine fn_enter (hE.fn Tryz.func13) rfl rfl rfl (fun R => ?_)
  simp only [argsL, List.cons_append, List.nil_append]
  refine w_seq (w_region ?_)
  refine l_yield (y_assign rfl) rfl ?_
  refine l_yield (y_assign rfl) rfl ?_
  refine l_nil (a_then (w_seq (w_seq (w_region ?_))))
  refine l_yield (y_move rfl) rfl ?_
  refine l_yield (y_move rfl) rfl ?_
  refine l_yield (y_move rfl) rfl ?_
  apply l_loud (by kernel_rfl) rfl
  refine ld_buildSlice (hE.t rfl) (hE.t rfl) rfl rfl rfl (fun b14 => ?_)
  apply l_loud (by kernel_rfl) rfl
  apply ld_call (hc b14) rfl (hE.f (by kernel_rfl))
  · ((repeat constructor); done)
  rintro _ _ ⟨rfl, rfl⟩
  simp only [List.cons_append, List.nil_append]
  refine l_yield (y_assign rfl) rfl ?_
  refine l_nil (a_then (w_seq (w_region ?_)))
  refine l_yield (y_move rfl) rfl ?_
  apply l_yield
  · (first | exact y_ok_ne rfl (hE.t rfl) | exact y_err_ne rfl (hE.t rfl))
  · rfl
  refine l_nil (a_then ?_)
  refine w_cond_t rfl ?_
  refine w_seq (w_region ?_)
  refine l_yield (y_move rfl) rfl ?_
  refine l_yield (y_assign rfl) rfl ?_
  refine l_yield (y_assign rfl) rfl ?_
  refine l_nil (a_then (w_ret (a_then_ret ?_)))
  apply a_ret
  · rfl
  · (apply Rs.tmp rfl; apply Rs.tmp rfl; exact Rs.nil)
  · exact ⟨rfl, rfl⟩
  · (apply ent; (repeat constructor); done)
end
/-- Errors of the list. -/
theorem ct_checkSorted_err (hE : Seat E) {pv : Value} {a : Option Addr} {n c : Nat} {x e : Int} {P : HP} (hc : Ct E 22 [pv, .slice a n c] [P] (fun v Q => v = .iface 34 (.int .i64 e) ∧ Q = [P])) : Ct E 18 [pv, .slice a n c, .int .i64 x] [P] (fun v Q => v = .iface 34 (.int .i64 e) ∧ Q = [P]) := by
  refine fn_enter (hE.fn Tryz.func18) rfl rfl rfl (fun R => ?_)
  simp only [argsL, List.cons_append, List.nil_append]
  refine w_seq (w_region ?_)
  refine l_yield (y_assign rfl) rfl ?_
  refine l_nil (a_then (w_seq (w_seq (w_region ?_))))
  refine l_yield (y_move rfl) rfl ?_
  refine l_yield (y_move rfl) rfl ?_
  apply l_loud (by kernel_rfl) rfl
  apply ld_call (hc) rfl (hE.f (by kernel_rfl))
  · ((repeat constructor); done)
  rintro _ _ ⟨rfl, rfl⟩
  simp only [List.cons_append, List.nil_append]
  refine l_yield (y_assign rfl) rfl ?_
  refine l_nil (a_then (w_seq (w_region ?_)))
  refine l_yield (y_move rfl) rfl ?_
  apply l_yield
  · (first | exact y_ok_ne rfl (hE.t rfl) | exact y_err_ne rfl (hE.t rfl))
  · rfl
  refine l_nil (a_then ?_)
  refine w_cond_t rfl ?_
  refine w_seq (w_region ?_)
  refine l_yield (y_move rfl) rfl ?_
  refine l_yield (y_assign rfl) rfl ?_
  refine l_nil (a_then (w_ret (a_then_ret ?_)))
  apply a_ret
  · rfl
  · (apply Rs.tmp rfl; exact Rs.nil)
  · exact ⟨rfl, rfl⟩
  · (apply ent; (repeat constructor); done)
theorem ct_Search_err (hE : Seat E) {pv : Value} {a : Option Addr} {n c : Nat} {x e : Int} {P : HP} (hc : Ct E 18 [pv, .slice a n c, .int .i64 x] [P] (fun v Q => v = .iface 34 (.int .i64 e) ∧ Q = [P])) : Ct E 6 [pv, .slice a n c, .int .i64 x] [P] (fun v Q => v = .tuple #[.int .i64 0, .bool false, .iface 34 (.int .i64 e)] ∧ Q = [P]) := by
  refine fn_enter (hE.fn Tryz.func6) rfl rfl rfl (fun R => ?_)
  simp only [argsL, List.cons_append, List.nil_append]
  refine w_seq (w_region ?_)
  refine l_yield (y_assign rfl) rfl ?_
  refine l_yield (y_assign rfl) rfl ?_
  refine l_yield (y_assign rfl) rfl ?_
  refine l_nil (a_then (w_seq (w_seq (w_region ?_))))
  refine l_yield (y_move rfl) rfl ?_
  refine l_yield (y_move rfl) rfl ?_
  refine l_yield (y_move rfl) rfl ?_
  apply l_loud (by kernel_rfl) rfl
  apply ld_call (hc) rfl (hE.f (by kernel_rfl))
  · ((repeat constructor); done)
  rintro _ _ ⟨rfl, rfl⟩
  simp only [List.cons_append, List.nil_append]
  refine l_yield (y_assign rfl) rfl ?_
  refine l_nil (a_then (w_seq (w_region ?_)))
  refine l_yield (y_move rfl) rfl ?_
  apply l_yield
  · (first | exact y_ok_ne rfl (hE.t rfl) | exact y_err_ne rfl (hE.t rfl))
  · rfl
  refine l_nil (a_then ?_)
  refine w_cond_t rfl ?_
  refine w_seq (w_region ?_)
  refine l_yield (y_move rfl) rfl ?_
  refine l_yield (y_assign rfl) rfl ?_
  refine l_yield (y_assign rfl) rfl ?_
  refine l_yield (y_assign rfl) rfl ?_
  refine l_nil (a_then (w_ret (a_then_ret ?_)))
  apply a_ret
  · rfl
  · (apply Rs.tmp rfl; apply Rs.tmp rfl; apply Rs.tmp rfl; exact Rs.nil)
  · exact ⟨rfl, rfl⟩
  · (apply ent; (repeat constructor); done)
theorem ct_Range_err (hE : Seat E) {p0 : Option Addr} {a : Option Addr} {n c : Nat} {x e : Int} {P : HP} (hc : Ct E 18 [.pointer p0, .slice a n c, .int .i64 x] [P] (fun v Q => v = .iface 34 (.int .i64 e) ∧ Q = [P])) : Ct E 14 [.pointer p0, .slice a n c, .int .i64 x] [P] (fun v Q => v = .tuple #[.int .i64 0, .int .i64 0, .iface 34 (.int .i64 e)] ∧ Q = [P]) := by
  refine fn_enter (hE.fn Tryz.func14) rfl rfl rfl (fun R => ?_)
  simp only [argsL, List.cons_append, List.nil_append]
  refine w_seq (w_region ?_)
  apply l_loud (by kernel_rfl) rfl
  refine ld_box rfl (fun b3 => ?_)
  apply l_loud (by kernel_rfl) rfl
  refine ld_box rfl (fun b4 => ?_)
  apply l_loud (by kernel_rfl) rfl
  refine ld_box rfl (fun b5 => ?_)
  refine l_yield (y_assign rfl) rfl ?_
  refine l_yield (y_assign rfl) rfl ?_
  refine l_yield (y_assign rfl) rfl ?_
  refine l_nil (a_then (w_seq (w_seq (w_region ?_))))
  apply l_yield
  · (first | (apply y_load rfl (hE.t rfl) rfl; (repeat (first | rfl | assumption | constructor)); done) | exact y_load_old rfl (hE.t rfl) rfl (by assumption) | (apply y_load_ro rfl (hE.t rfl) rfl; (focus ((repeat constructor); done)); (focus assumption)) | (apply y_load_q rfl (hE.t rfl) rfl (by assumption); (focus ((repeat constructor); done)); (first | ((focus exact f0); (focus omega)) | ((focus exact f1); (focus omega)) | ((focus assumption); (focus omega)))))
  · rfl
  apply l_yield
  · (first | (apply y_load rfl (hE.t rfl) rfl; (repeat (first | rfl | assumption | constructor)); done) | exact y_load_old rfl (hE.t rfl) rfl (by assumption) | (apply y_load_ro rfl (hE.t rfl) rfl; (focus ((repeat constructor); done)); (focus assumption)) | (apply y_load_q rfl (hE.t rfl) rfl (by assumption); (focus ((repeat constructor); done)); (first | ((focus exact f0); (focus omega)) | ((focus exact f1); (focus omega)) | ((focus assumption); (focus omega)))))
  · rfl
  apply l_yield
  · (first | (apply y_load rfl (hE.t rfl) rfl; (repeat (first | rfl | assumption | constructor)); done) | exact y_load_old rfl (hE.t rfl) rfl (by assumption) | (apply y_load_ro rfl (hE.t rfl) rfl; (focus ((repeat constructor); done)); (focus assumption)) | (apply y_load_q rfl (hE.t rfl) rfl (by assumption); (focus ((repeat constructor); done)); (first | ((focus exact f0); (focus omega)) | ((focus exact f1); (focus omega)) | ((focus assumption); (focus omega)))))
  · rfl
  apply l_loud (by kernel_rfl) rfl
  apply ld_call (hc) rfl (hE.f (by kernel_rfl))
  · ((repeat constructor); done)
  rintro _ _ ⟨rfl, rfl⟩
  simp only [List.cons_append, List.nil_append]
  refine l_yield (y_assign rfl) rfl ?_
  refine l_nil (a_then (w_seq (w_region ?_)))
  refine l_yield (y_move rfl) rfl ?_
  apply l_yield
  · (first | exact y_ok_ne rfl (hE.t rfl) | exact y_err_ne rfl (hE.t rfl))
  · rfl
  refine l_nil (a_then ?_)
  refine w_cond_t rfl ?_
  refine w_seq (w_region ?_)
  refine l_yield (y_move rfl) rfl ?_
  refine l_yield (y_assign rfl) rfl ?_
  refine l_yield (y_assign rfl) rfl ?_
  refine l_yield (y_assign rfl) rfl ?_
  refine l_nil (a_then (w_ret (a_then_ret ?_)))
  apply a_ret
  · rfl
  · (apply Rs.tmp rfl; apply Rs.tmp rfl; apply Rs.tmp rfl; exact Rs.nil)
  · exact ⟨rfl, rfl⟩
  · (apply ent; (repeat constructor); done)
/-- The list is fine, the single ID is unknown. -/
theorem ct_checkSorted_one (hE : Seat E) (hB : Base E.w0) {ids : List Nat} {x : Int} (hg : ∀ x ∈ ids, good (rls Es) x) (hx : ¬ (0 ≤ x ∧ x ≤ (Es.length : Nat))) (hn : ids.length ≤ 1099511627776) {a : Option Addr} {c : Nat} {q : HP} (hq : Rdb E.w0 a (idC ids) q) :
    Ct E 18 [.pointer (some ⟨pp, 0, none⟩), .slice a ids.length c, .int .i64 x] [cells pp [.pointer (some ⟨s, 0, none⟩), .pointer (some ⟨tb, 0, none⟩)] 59, tabP tb s (rls Es), storeP s most Es, q] (fun v Q => v = .iface 34 (.int .i64 1) ∧ Q = [cells pp [.pointer (some ⟨s, 0, none⟩), .pointer (some ⟨tb, 0, none⟩)] 59, tabP tb s (rls Es), storeP s most Es, q]) := by
  have hbd : BadAt (rls Es) [x] 0 := ⟨by simp, fun y hy => by simp at hy; subst hy; rw [rls_length]; exact hx, fun i y hi => by omega⟩
  refine fn_enter (hE.fn Tryz.func18) rfl rfl rfl (fun R => ?_)
  simp only [argsL, List.cons_append, List.nil_append]
  refine w_seq (w_region ?_)
  refine l_yield (y_assign rfl) rfl ?_
  refine l_nil (a_then (w_seq (w_seq (w_region ?_))))
  refine l_yield (y_move rfl) rfl ?_
  refine l_yield (y_move rfl) rfl ?_
  apply l_loud (by kernel_rfl) rfl
  apply ld_call (ct_ocheck hE hB hg (rdb_id hq) (by omega)) rfl (hE.f (by kernel_rfl))
  · ((repeat constructor); done)
  rintro _ _ ⟨rfl, rfl⟩
  simp only [List.cons_append, List.nil_append]
  refine l_yield (y_assign rfl) rfl ?_
  refine l_nil (a_then (w_seq (w_region ?_)))
  refine l_yield (y_move rfl) rfl ?_
  apply l_yield
  · (first | exact y_ok_ne rfl (hE.t rfl) | exact y_err_ne rfl (hE.t rfl))
  · rfl
  refine l_nil (a_then ?_)
  refine w_cond_f rfl ?_
  refine w_skip (a_then (w_seq (w_seq (w_region ?_))))
  refine l_yield (y_move rfl) rfl ?_
  refine l_yield (y_move rfl) rfl ?_
  apply l_loud (by kernel_rfl) rfl
  refine ld_buildSlice (hE.t rfl) (hE.t rfl) rfl rfl rfl (fun b18 => ?_)
  apply l_loud (by kernel_rfl) rfl
  apply ld_call (ct_ocheck_bad (l := [x]) hE hB hbd (g := b18) (o := 0) (rd_cells (fun _ _ h => h)) (by simp)) rfl (hE.f (by kernel_rfl))
  · ((repeat constructor); done)
  rintro _ _ ⟨rfl, rfl⟩
  simp only [List.cons_append, List.nil_append]
  refine l_yield (y_assign rfl) rfl ?_
  refine l_nil (a_then (w_seq (w_region ?_)))
  refine l_yield (y_move rfl) rfl ?_
  apply l_yield
  · (first | exact y_ok_ne rfl (hE.t rfl) | exact y_err_ne rfl (hE.t rfl))
  · rfl
  refine l_nil (a_then ?_)
  refine w_cond_t rfl ?_
  refine w_seq (w_region ?_)
  refine l_yield (y_move rfl) rfl ?_
  refine l_yield (y_assign rfl) rfl ?_
  refine l_nil (a_then (w_ret (a_then_ret ?_)))
  apply a_ret
  · rfl
  · (apply Rs.tmp rfl; exact Rs.nil)
  · exact ⟨rfl, rfl⟩
  · (apply ent; (repeat constructor); done)
end Go.Proofs.YtoenonlkdmdlcaaGreatDoor
