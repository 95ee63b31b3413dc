/- Package intern: Pair and Power of any known IDs. -/
import Derived.Test.YtekhbjlplfbdkaaDoorQ10
import Derived.Test.YtekhbjlplfbdkaaDoorQ52
set_option linter.unusedVariables false
set_option linter.unusedSimpArgs false
namespace Go.Proofs.YtekhbjlplfbdkaaDoor
open Go Go.RowKit Sl Eg
set_option maxRecDepth 10000
variable {E : Env} {Es : List Ent} {s most : Nat}
theorem ct_known (hE : Seat E) {i : Nat} (h : i ≤ Es.length) : Ct E 58 [.pointer (some ⟨s, 0, none⟩), .int .i64 (i : Nat)] [storeP s most Es] (fun v Q => v = .bool true ∧ Q = [storeP s most Es]) :=
  ct_store_below hE fun w _ _ hs => (store_known w (i : Int) hs).mono fun e w' ⟨h1, h2⟩ => ⟨by
    rw [h1, decide_eq_true (show (0 : Int) ≤ (i : Int) by omega), decide_eq_true (show (i : Int) ≤ (Es.length : Int) by omega)]
    rfl, below_same h2⟩
theorem ct_at (hE : Seat E) {i : Nat} {x : Ent} (hi : Es[i]? = some x) : Ct E 59 [.pointer (some ⟨s, 0, none⟩), .int .i64 ((i + 1 : Nat) : Int)] [storeP s most Es] (fun v Q => v = .agg #[.int .i64 (Rl.kind (x.r) : Nat), .int .u8 (Rl.byte (x.r) : Nat), .int .i64 (Rl.left (x.r) : Nat), .int .i64 (Rl.right (x.r) : Nat), .int .i64 (Rl.times (x.r) : Nat), .int .i64 (List.length (x.t) : Nat), .int .i64 (lines (x.t) : Nat), .int .i64 (whead (x.t) : Nat), .int .i64 (wtail (x.t) : Nat), .int .u64 (dval (x.t) : Nat), .int .u64 (dscale (x.t) : Nat), .int .i64 x.d, .bool x.e] ∧ Q = [storeP s most Es]) :=
  ct_store_below hE fun w _ _ hs => store_at w i x hs hi
theorem ct_valid (hE : Seat E) (n : Nat) (h : n ≤ maxLength) : Ct E 80 [.int .i64 (n : Nat)] [] (fun v Q => v = .bool true ∧ Q = []) := by
  have hmx : maxLength = 1152921504606846976 := rfl
  refine fn_enter (hE.fn Tryd.func80) rfl rfl rfl (fun R => ?_)
  simp only [argsL, List.cons_append, List.nil_append]
  refine w_seq (wR ?_)
  refine lY (yA rfl) rfl ?_
  refine l_nil (aT (w_seq (wR ?_)))
  refine lY (yM rfl) rfl ?_
  refine lY (y_ge rfl rfl) rfl ?_
  refine lY (yM rfl) rfl ?_
  refine l_split 5 rfl (fun h1 => ?_) (fun h1 => ?_)
  · skip
    refine l_on rfl rfl ?_
    refine lY (yM rfl) rfl ?_
    refine l_on rfl rfl ?_
    refine lY (y_le rfl rfl) rfl ?_
    apply lY
    · (first | exact y_pick_t rfl rfl | exact y_pick_f rfl rfl)
    · rfl
    refine lY (yA rfl) rfl ?_
    refine l_nil (aT (w_ret ?_))
    apply a_ret
    · rfl
    · (apply Rs.tmp rfl; exact Rs.nil)
    · exact ⟨congrArg Value.bool (decide_eq_true (by omega)), rfl⟩
    · (apply ent; (repeat constructor); done)
  · exact absurd h1 (by omega)
theorem ct_addLong (hE : Seat E) {a b : Nat} (ha : a ≤ maxLength) (hb : b ≤ maxLength) (h : maxLength < a + b) : Ct E 47 [.int .i64 (a : Nat), .int .i64 (b : Nat)] [] (fun v Q => v = .tuple #[.int .i64 0, .iface 43 (.int .i64 2)] ∧ Q = []) := by
  have hmx : maxLength = 1152921504606846976 := rfl
  refine fn_enter (hE.fn Tryd.func47) rfl rfl rfl (fun R => ?_)
  simp only [argsL, List.cons_append, List.nil_append]
  refine w_seq (wR ?_)
  refine lY (yA rfl) rfl ?_
  refine lY (yA rfl) rfl ?_
  refine l_nil (aT (w_seq (w_seq (wR ?_))))
  refine lY (yM rfl) rfl ?_
  apply lL (by kernel_rfl) rfl
  apply ld_call (ct_valid hE a ha) rfl (hE.f (by kernel_rfl))
  · ((repeat constructor); done)
  rintro _ _ ⟨rfl, rfl⟩
  simp only [List.cons_append, List.nil_append]
  refine lY (y_not rfl) rfl ?_
  refine lY (yM rfl) rfl ?_
  skip
  refine l_on rfl rfl ?_
  refine lY (yM rfl) rfl ?_
  refine l_on rfl rfl ?_
  apply lL (by kernel_rfl) rfl
  apply ld_call (ct_valid hE b hb) rfl (hE.f (by kernel_rfl))
  · ((repeat constructor); done)
  rintro _ _ ⟨rfl, rfl⟩
  simp only [List.cons_append, List.nil_append]
  refine l_on rfl rfl ?_
  refine lY (y_not rfl) rfl ?_
  apply lY
  · (first | exact y_pick_t rfl rfl | exact y_pick_f rfl rfl)
  · rfl
  refine l_nil (aT ?_)
  refine w_cond_f rfl ?_
  refine w_skip (aT (w_seq (w_seq (wR ?_))))
  refine lY (yM rfl) rfl ?_
  refine lY (yM rfl) rfl ?_
  refine lY (y_sub rfl rfl (by omega) (by omega)) rfl ?_
  refine lY (y_gt rfl rfl) rfl ?_
  refine l_nil (aT ?_)
  refine w_cond_d rfl (fun g1 => ?_) (fun g1 => ?_)
  · skip
    refine w_seq (wR ?_)
    refine lY (y_iface rfl (hE.t rfl) rfl) rfl ?_
    refine lY (yA rfl) rfl ?_
    refine lY (yA rfl) rfl ?_
    refine l_nil (aT (w_ret (a_then_ret ?_)))
    apply a_ret
    · rfl
    · (apply Rs.tmp rfl; apply Rs.tmp rfl; exact Rs.nil)
    · exact ⟨rfl, rfl⟩
    · (apply ent; (repeat constructor); done)
  · exact absurd g1 (by omega)
theorem ct_mulLong (hE : Seat E) {a k : Nat} (ha : a ≤ maxLength) (h0 : 1 ≤ a) (h : maxLength / a < k) : Ct E 51 [.int .i64 (a : Nat), .int .i64 (k : Nat)] [] (fun v Q => v = .tuple #[.int .i64 0, .iface 43 (.int .i64 2)] ∧ Q = []) := by
  have hmx : maxLength = 1152921504606846976 := rfl
  have hd : ((maxLength / a : Nat) : Int) = 1152921504606846976 / (a : Int) := by rw [Int.natCast_ediv]; rfl
  refine fn_enter (hE.fn Tryd.func51) rfl rfl rfl (fun R => ?_)
  simp only [argsL, List.cons_append, List.nil_append]
  refine w_seq (wR ?_)
  refine lY (yA rfl) rfl ?_
  refine lY (yA rfl) rfl ?_
  refine l_nil (aT (w_seq (w_seq (wR ?_))))
  refine lY (yM rfl) rfl ?_
  apply lL (by kernel_rfl) rfl
  apply ld_call (ct_valid hE a ha) rfl (hE.f (by kernel_rfl))
  · ((repeat constructor); done)
  rintro _ _ ⟨rfl, rfl⟩
  simp only [List.cons_append, List.nil_append]
  refine lY (y_not rfl) rfl ?_
  refine lY (yM rfl) rfl ?_
  skip
  refine l_on rfl rfl ?_
  refine lY (yM rfl) rfl ?_
  refine l_on rfl rfl ?_
  refine lY (y_lt rfl rfl) rfl ?_
  apply lY
  · (first | exact y_pick_t rfl rfl | exact y_pick_f rfl rfl)
  · rfl
  refine l_nil (aT ?_)
  refine w_cond_d rfl (fun g1 => ?_) (fun g1 => ?_)
  · exfalso; omega
  skip
  refine w_skip (aT (w_seq (w_seq (wR ?_))))
  refine lY (yM rfl) rfl ?_
  refine lY (y_eq rfl rfl) rfl ?_
  refine l_nil (aT ?_)
  refine w_cond_d rfl (fun g2 => ?_) (fun g2 => ?_)
  · exfalso; omega
  skip
  refine w_skip (aT (w_seq (w_seq (wR ?_))))
  refine lY (yM rfl) rfl ?_
  refine lY (yM rfl) rfl ?_
  refine lY (y_quo rfl rfl (by omega) (by omega) (by omega)) rfl ?_
  refine lY (y_gt rfl rfl) rfl ?_
  refine l_nil (aT ?_)
  refine w_cond_d rfl (fun g3 => ?_) (fun g3 => ?_)
  · skip
    refine w_seq (wR ?_)
    refine lY (y_iface rfl (hE.t rfl) rfl) rfl ?_
    refine lY (yA rfl) rfl ?_
    refine lY (yA rfl) rfl ?_
    refine l_nil (aT (w_ret (a_then_ret ?_)))
    apply a_ret
    · rfl
    · (apply Rs.tmp rfl; apply Rs.tmp rfl; exact Rs.nil)
    · exact ⟨rfl, rfl⟩
    · (apply ent; (repeat constructor); done)
  · exfalso; rw [← hd] at g3; omega
theorem ct_pair_l0 (hE : Seat E) {j : Nat} (hj : j ≤ Es.length) : Ct E 32 [.pointer (some ⟨s, 0, none⟩), .int .i64 0, .int .i64 (j : Nat)] [storeP s most Es] (fun v Q => v = .tuple #[.int .i64 (j : Nat), .nilIface] ∧ Q = [storeP s most Es]) := by
  refine fn_enter (hE.fn Tryd.func32) rfl rfl rfl (fun R => ?_)
  simp only [argsL, List.cons_append, List.nil_append]
  refine w_seq (wR ?_)
  refine lY (yA rfl) rfl ?_
  refine lY (yA rfl) rfl ?_
  refine l_nil (aT (w_seq (w_seq (wR ?_))))
  refine lY (yM rfl) rfl ?_
  apply lY
  · (first | exact y_eq_ptr rfl (hE.t rfl) | exact y_eq_nil rfl (hE.t rfl))
  · rfl
  refine l_nil (aT ?_)
  refine w_cond_f rfl ?_
  refine w_skip (aT (w_seq (w_seq (wR ?_))))
  refine lY (yM rfl) rfl ?_
  refine lY (yM rfl) rfl ?_
  apply lL (by kernel_rfl) rfl
  apply ld_call (ct_known (Es := Es) (i := 0) hE (Nat.zero_le _)) rfl (hE.f (by kernel_rfl))
  · ((repeat constructor); done)
  rintro _ _ ⟨rfl, rfl⟩
  simp only [List.cons_append, List.nil_append]
  refine lY (y_not rfl) rfl ?_
  refine lY (yM rfl) rfl ?_
  skip
  refine l_on rfl rfl ?_
  refine lY (yM rfl) rfl ?_
  refine l_on rfl rfl ?_
  refine lY (yM rfl) rfl ?_
  refine l_on rfl rfl ?_
  apply lL (by kernel_rfl) rfl
  apply ld_call (ct_known hE hj) rfl (hE.f (by kernel_rfl))
  · ((repeat constructor); done)
  rintro _ _ ⟨rfl, rfl⟩
  simp only [List.cons_append, List.nil_append]
  refine l_on rfl rfl ?_
  refine lY (y_not rfl) rfl ?_
  apply lY
  · (first | exact y_pick_t rfl rfl | exact y_pick_f rfl rfl)
  · rfl
  refine l_nil (aT ?_)
  refine w_cond_f rfl ?_
  refine w_skip (aT (w_seq (w_seq (wR ?_))))
  refine lY (yM rfl) rfl ?_
  refine lY (y_eq rfl rfl) rfl ?_
  refine l_nil (aT ?_)
  refine w_cond_t rfl ?_
  refine w_seq (wR ?_)
  refine lY (yM rfl) rfl ?_
  refine lY (yA rfl) rfl ?_
  refine lY (yA rfl) rfl ?_
  refine l_nil (aT (w_ret (a_then_ret ?_)))
  apply a_ret
  · rfl
  · (apply Rs.tmp rfl; apply Rs.tmp rfl; exact Rs.nil)
  · exact ⟨rfl, rfl⟩
  · (apply ent; (repeat constructor); done)
theorem ct_pair_r0 (hE : Seat E) {i : Nat} (hi : i < Es.length) : Ct E 32 [.pointer (some ⟨s, 0, none⟩), .int .i64 ((i + 1 : Nat) : Int), .int .i64 0] [storeP s most Es] (fun v Q => v = .tuple #[.int .i64 ((i + 1 : Nat) : Int), .nilIface] ∧ Q = [storeP s most Es]) := by
  refine fn_enter (hE.fn Tryd.func32) rfl rfl rfl (fun R => ?_)
  simp only [argsL, List.cons_append, List.nil_append]
  refine w_seq (wR ?_)
  refine lY (yA rfl) rfl ?_
  refine lY (yA rfl) rfl ?_
  refine l_nil (aT (w_seq (w_seq (wR ?_))))
  refine lY (yM rfl) rfl ?_
  apply lY
  · (first | exact y_eq_ptr rfl (hE.t rfl) | exact y_eq_nil rfl (hE.t rfl))
  · rfl
  refine l_nil (aT ?_)
  refine w_cond_f rfl ?_
  refine w_skip (aT (w_seq (w_seq (wR ?_))))
  refine lY (yM rfl) rfl ?_
  refine lY (yM rfl) rfl ?_
  apply lL (by kernel_rfl) rfl
  apply ld_call (ct_known (Es := Es) (i := i + 1) hE (by omega)) rfl (hE.f (by kernel_rfl))
  · ((repeat constructor); done)
  rintro _ _ ⟨rfl, rfl⟩
  simp only [List.cons_append, List.nil_append]
  refine lY (y_not rfl) rfl ?_
  refine lY (yM rfl) rfl ?_
  skip
  refine l_on rfl rfl ?_
  refine lY (yM rfl) rfl ?_
  refine l_on rfl rfl ?_
  refine lY (yM rfl) rfl ?_
  refine l_on rfl rfl ?_
  apply lL (by kernel_rfl) rfl
  apply ld_call (ct_known (Es := Es) (i := 0) hE (Nat.zero_le _)) rfl (hE.f (by kernel_rfl))
  · ((repeat constructor); done)
  rintro _ _ ⟨rfl, rfl⟩
  simp only [List.cons_append, List.nil_append]
  refine l_on rfl rfl ?_
  refine lY (y_not rfl) rfl ?_
  apply lY
  · (first | exact y_pick_t rfl rfl | exact y_pick_f rfl rfl)
  · rfl
  refine l_nil (aT ?_)
  refine w_cond_f rfl ?_
  refine w_skip (aT (w_seq (w_seq (wR ?_))))
  refine lY (yM rfl) rfl ?_
  refine lY (y_eq rfl rfl) rfl ?_
  refine l_nil (aT ?_)
  refine w_cond_d rfl (fun h1 => ?_) (fun h1 => ?_)
  · exfalso; omega
  skip
  refine w_skip (aT (w_seq (w_seq (wR ?_))))
  refine lY (yM rfl) rfl ?_
  refine lY (y_eq rfl rfl) rfl ?_
  refine l_nil (aT ?_)
  refine w_cond_t rfl ?_
  refine w_seq (wR ?_)
  refine lY (yM rfl) rfl ?_
  refine lY (yA rfl) rfl ?_
  refine lY (yA rfl) rfl ?_
  refine l_nil (aT (w_ret (a_then_ret ?_)))
  apply a_ret
  · rfl
  · (apply Rs.tmp rfl; apply Rs.tmp rfl; exact Rs.nil)
  · exact ⟨rfl, rfl⟩
  · (apply ent; (repeat constructor); done)
theorem ct_pair_long (hE : Seat E) {i j : Nat} {xl xr : Ent} (hi : Es[i]? = some xl) (hj : Es[j]? = some xr) (ha : xl.t.length ≤ maxLength) (hb : xr.t.length ≤ maxLength) (h : maxLength < xl.t.length + xr.t.length) : Ct E 32 [.pointer (some ⟨s, 0, none⟩), .int .i64 ((i + 1 : Nat) : Int), .int .i64 ((j + 1 : Nat) : Int)] [storeP s most Es] (fun v Q => v = .tuple #[.int .i64 0, .iface 43 (.int .i64 2)] ∧ Q = [storeP s most Es]) := by
  have hil := (List.getElem?_eq_some_iff.1 hi).1
  have hjl := (List.getElem?_eq_some_iff.1 hj).1
  refine fn_enter (hE.fn Tryd.func32) rfl rfl rfl (fun R => ?_)
  simp only [argsL, List.cons_append, List.nil_append]
  refine w_seq (wR ?_)
  refine lY (yA rfl) rfl ?_
  refine lY (yA rfl) rfl ?_
  refine l_nil (aT (w_seq (w_seq (wR ?_))))
  refine lY (yM rfl) rfl ?_
  apply lY
  · (first | exact y_eq_ptr rfl (hE.t rfl) | exact y_eq_nil rfl (hE.t rfl))
  · rfl
  refine l_nil (aT ?_)
  refine w_cond_f rfl ?_
  refine w_skip (aT (w_seq (w_seq (wR ?_))))
  refine lY (yM rfl) rfl ?_
  refine lY (yM rfl) rfl ?_
  apply lL (by kernel_rfl) rfl
  apply ld_call (ct_known (Es := Es) (i := i + 1) hE (by omega)) rfl (hE.f (by kernel_rfl))
  · ((repeat constructor); done)
  rintro _ _ ⟨rfl, rfl⟩
  simp only [List.cons_append, List.nil_append]
  refine lY (y_not rfl) rfl ?_
  refine lY (yM rfl) rfl ?_
  skip
  refine l_on rfl rfl ?_
  refine lY (yM rfl) rfl ?_
  refine l_on rfl rfl ?_
  refine lY (yM rfl) rfl ?_
  refine l_on rfl rfl ?_
  apply lL (by kernel_rfl) rfl
  apply ld_call (ct_known (Es := Es) (i := j + 1) hE (by omega)) rfl (hE.f (by kernel_rfl))
  · ((repeat constructor); done)
  rintro _ _ ⟨rfl, rfl⟩
  simp only [List.cons_append, List.nil_append]
  refine l_on rfl rfl ?_
  refine lY (y_not rfl) rfl ?_
  apply lY
  · (first | exact y_pick_t rfl rfl | exact y_pick_f rfl rfl)
  · rfl
  refine l_nil (aT ?_)
  refine w_cond_f rfl ?_
  refine w_skip (aT (w_seq (w_seq (wR ?_))))
  refine lY (yM rfl) rfl ?_
  refine lY (y_eq rfl rfl) rfl ?_
  refine l_nil (aT ?_)
  refine w_cond_d rfl (fun h1 => ?_) (fun h1 => ?_)
  · exfalso; omega
  skip
  refine w_skip (aT (w_seq (w_seq (wR ?_))))
  refine lY (yM rfl) rfl ?_
  refine lY (y_eq rfl rfl) rfl ?_
  refine l_nil (aT ?_)
  refine w_cond_d rfl (fun h2 => ?_) (fun h2 => ?_)
  · exfalso; omega
  skip
  refine w_skip (aT (w_seq (wR ?_)))
  refine lY (yM rfl) rfl ?_
  refine lY (yM rfl) rfl ?_
  apply lL (by kernel_rfl) rfl
  apply ld_call (ct_at hE hi) rfl (hE.f (by kernel_rfl))
  · ((repeat constructor); done)
  rintro _ _ ⟨rfl, rfl⟩
  simp only [List.cons_append, List.nil_append]
  refine lY (yM rfl) rfl ?_
  refine lY (yM rfl) rfl ?_
  apply lL (by kernel_rfl) rfl
  apply ld_call (ct_at hE hj) rfl (hE.f (by kernel_rfl))
  · ((repeat constructor); done)
  rintro _ _ ⟨rfl, rfl⟩
  simp only [List.cons_append, List.nil_append]
  apply lL (by kernel_rfl) rfl
  refine ld_alloc (hE.t rfl) (fun b8 => ?_)
  apply lL (by kernel_rfl) rfl
  refine ld_alloc (hE.t rfl) (fun b9 => ?_)
  apply lL (by kernel_rfl) rfl
  (first | (apply ld_store rfl rfl (hE.t rfl) rfl; (focus ((repeat constructor); done)); (focus rfl); (focus (exact Nat.le_of_ble_eq_true rfl))) | (apply ld_store_sl rfl rfl (hE.t rfl) rfl; (focus ((repeat constructor); done)); (focus rfl); (focus (first | omega | (simp only [cellsL, length_setMany, List.length_cons, List.length_nil]; omega)))))
  apply lL (by kernel_rfl) rfl
  (first | (apply ld_store rfl rfl (hE.t rfl) rfl; (focus ((repeat constructor); done)); (focus rfl); (focus (exact Nat.le_of_ble_eq_true rfl))) | (apply ld_store_sl rfl rfl (hE.t rfl) rfl; (focus ((repeat constructor); done)); (focus rfl); (focus (first | omega | (simp only [cellsL, length_setMany, List.length_cons, List.length_nil]; omega)))))
  refine l_nil (aT (w_seq (w_seq (wR ?_))))
  refine lY (yF rfl (hE.t rfl) rfl) rfl ?_
  refine lY (yF rfl (hE.t rfl) rfl) rfl ?_
  apply lY
  · (apply y_load rfl (hE.t rfl) rfl; (repeat (first | rfl | assumption | constructor)); done)
  · rfl
  refine lY (yF rfl (hE.t rfl) rfl) rfl ?_
  refine lY (yF rfl (hE.t rfl) rfl) rfl ?_
  apply lY
  · (apply y_load rfl (hE.t rfl) rfl; (repeat (first | rfl | assumption | constructor)); done)
  · rfl
  apply lL (by kernel_rfl) rfl
  apply ld_call (ct_addLong hE ha hb h) rfl (hE.f (by kernel_rfl))
  · ((repeat constructor); done)
  rintro _ _ ⟨rfl, rfl⟩
  simp only [List.cons_append, List.nil_append]
  refine lY (yM rfl) rfl ?_
  refine lY (y_extract rfl rfl) rfl ?_
  refine lY (y_extract rfl rfl) rfl ?_
  refine lY (yA rfl) rfl ?_
  refine lY (yA rfl) rfl ?_
  refine l_nil (aT (w_seq (wR ?_)))
  refine lY (yM rfl) rfl ?_
  apply lY
  · (first | exact y_ok_ne rfl (hE.t rfl) | exact y_err_ne rfl (hE.t rfl))
  · rfl
  refine l_nil (aT ?_)
  refine w_cond_t rfl ?_
  refine w_seq (wR ?_)
  refine lY (y_iface rfl (hE.t rfl) rfl) rfl ?_
  refine lY (yA rfl) rfl ?_
  refine lY (yA rfl) rfl ?_
  refine l_nil (aT (w_ret (a_then_ret ?_)))
  apply a_ret
  · rfl
  · (apply Rs.tmp rfl; apply Rs.tmp rfl; exact Rs.nil)
  · exact ⟨rfl, rfl⟩
  · (apply ent; (repeat constructor); done)
theorem ct_power_0 (hE : Seat E) {i k : Nat} (hi : i ≤ Es.length) (h : k = 0 ∨ i = 0) : Ct E 31 [.pointer (some ⟨s, 0, none⟩), .int .i64 (i : Nat), .int .i64 (k : Nat)] [storeP s most Es] (fun v Q => v = .tuple #[.int .i64 0, .nilIface] ∧ Q = [storeP s most Es]) := by
  refine fn_enter (hE.fn Tryd.func31) rfl rfl rfl (fun R => ?_)
  simp only [argsL, List.cons_append, List.nil_append]
  refine w_seq (wR ?_)
  refine lY (yA rfl) rfl ?_
  refine lY (yA rfl) rfl ?_
  refine l_nil (aT (w_seq (w_seq (wR ?_))))
  refine lY (yM rfl) rfl ?_
  apply lY
  · (first | exact y_eq_ptr rfl (hE.t rfl) | exact y_eq_nil rfl (hE.t rfl))
  · rfl
  refine l_nil (aT ?_)
  refine w_cond_f rfl ?_
  refine w_skip (aT (w_seq (w_seq (wR ?_))))
  refine lY (yM rfl) rfl ?_
  refine lY (yM rfl) rfl ?_
  apply lL (by kernel_rfl) rfl
  apply ld_call (ct_known hE hi) rfl (hE.f (by kernel_rfl))
  · ((repeat constructor); done)
  rintro _ _ ⟨rfl, rfl⟩
  simp only [List.cons_append, List.nil_append]
  refine lY (y_not rfl) rfl ?_
  refine lY (yM rfl) rfl ?_
  skip
  refine l_on rfl rfl ?_
  refine lY (yM rfl) rfl ?_
  refine l_on rfl rfl ?_
  refine lY (y_lt rfl rfl) rfl ?_
  apply lY
  · (first | exact y_pick_t rfl rfl | exact y_pick_f rfl rfl)
  · rfl
  refine l_nil (aT ?_)
  refine w_cond_d rfl (fun h1 => ?_) (fun h1 => ?_)
  · exfalso; omega
  skip
  refine w_skip (aT (w_seq (w_seq (wR ?_))))
  refine lY (yM rfl) rfl ?_
  refine lY (y_eq rfl rfl) rfl ?_
  refine lY (yM rfl) rfl ?_
  refine l_split 30 rfl (fun h2 => ?_) (fun h2 => ?_)
  · skip
    refine l_off rfl rfl rfl rfl (l_off rfl rfl rfl rfl ?_)
    apply lY
    · (first | exact y_pick_t rfl rfl | exact y_pick_f rfl rfl)
    · rfl
    refine l_nil (aT ?_)
    refine w_cond_t rfl ?_
    refine w_seq (wR ?_)
    refine lY (yA rfl) rfl ?_
    refine lY (yA rfl) rfl ?_
    refine l_nil (aT (w_ret (a_then_ret ?_)))
    apply a_ret
    · rfl
    · (apply Rs.tmp rfl; apply Rs.tmp rfl; exact Rs.nil)
    · exact ⟨rfl, rfl⟩
    · (apply ent; (repeat constructor); done)
  · skip
    refine l_on rfl rfl ?_
    refine lY (yM rfl) rfl ?_
    refine l_on rfl rfl ?_
    refine lY (y_eq rfl rfl) rfl ?_
    apply lY
    · (first | exact y_pick_t rfl rfl | exact y_pick_f rfl rfl)
    · rfl
    refine l_nil (aT ?_)
    refine w_cond_d rfl (fun h3 => ?_) (fun h3 => ?_)
    · skip
      refine w_seq (wR ?_)
      refine lY (yA rfl) rfl ?_
      refine lY (yA rfl) rfl ?_
      refine l_nil (aT (w_ret (a_then_ret ?_)))
      apply a_ret
      · rfl
      · (apply Rs.tmp rfl; apply Rs.tmp rfl; exact Rs.nil)
      · exact ⟨rfl, rfl⟩
      · (apply ent; (repeat constructor); done)
    · exfalso; omega
theorem ct_power_1 (hE : Seat E) {i : Nat} (hi : i < Es.length) : Ct E 31 [.pointer (some ⟨s, 0, none⟩), .int .i64 ((i + 1 : Nat) : Int), .int .i64 1] [storeP s most Es] (fun v Q => v = .tuple #[.int .i64 ((i + 1 : Nat) : Int), .nilIface] ∧ Q = [storeP s most Es]) := by
  refine fn_enter (hE.fn Tryd.func31) rfl rfl rfl (fun R => ?_)
  simp only [argsL, List.cons_append, List.nil_append]
  refine w_seq (wR ?_)
  refine lY (yA rfl) rfl ?_
  refine lY (yA rfl) rfl ?_
  refine l_nil (aT (w_seq (w_seq (wR ?_))))
  refine lY (yM rfl) rfl ?_
  apply lY
  · (first | exact y_eq_ptr rfl (hE.t rfl) | exact y_eq_nil rfl (hE.t rfl))
  · rfl
  refine l_nil (aT ?_)
  refine w_cond_f rfl ?_
  refine w_skip (aT (w_seq (w_seq (wR ?_))))
  refine lY (yM rfl) rfl ?_
  refine lY (yM rfl) rfl ?_
  apply lL (by kernel_rfl) rfl
  apply ld_call (ct_known (Es := Es) (i := i + 1) hE (by omega)) rfl (hE.f (by kernel_rfl))
  · ((repeat constructor); done)
  rintro _ _ ⟨rfl, rfl⟩
  simp only [List.cons_append, List.nil_append]
  refine lY (y_not rfl) rfl ?_
  refine lY (yM rfl) rfl ?_
  skip
  refine l_on rfl rfl ?_
  refine lY (yM rfl) rfl ?_
  refine l_on rfl rfl ?_
  refine lY (y_lt rfl rfl) rfl ?_
  apply lY
  · (first | exact y_pick_t rfl rfl | exact y_pick_f rfl rfl)
  · rfl
  refine l_nil (aT ?_)
  refine w_cond_f rfl ?_
  refine w_skip (aT (w_seq (w_seq (wR ?_))))
  refine lY (yM rfl) rfl ?_
  refine lY (y_eq rfl rfl) rfl ?_
  refine lY (yM rfl) rfl ?_
  skip
  refine l_on rfl rfl ?_
  refine lY (yM rfl) rfl ?_
  refine l_on rfl rfl ?_
  refine lY (y_eq rfl rfl) rfl ?_
  apply lY
  · (first | exact y_pick_t rfl rfl | exact y_pick_f rfl rfl)
  · rfl
  refine l_nil (aT ?_)
  refine w_cond_d rfl (fun h3 => ?_) (fun h3 => ?_)
  · exfalso; omega
  skip
  refine w_skip (aT (w_seq (w_seq (wR ?_))))
  refine lY (yM rfl) rfl ?_
  refine lY (y_eq rfl rfl) rfl ?_
  refine l_nil (aT ?_)
  refine w_cond_t rfl ?_
  refine w_seq (wR ?_)
  refine lY (yM rfl) rfl ?_
  refine lY (yA rfl) rfl ?_
  refine lY (yA rfl) rfl ?_
  refine l_nil (aT (w_ret (a_then_ret ?_)))
  apply a_ret
  · rfl
  · (apply Rs.tmp rfl; apply Rs.tmp rfl; exact Rs.nil)
  · exact ⟨rfl, rfl⟩
  · (apply ent; (repeat constructor); done)
theorem ct_power_long (hE : Seat E) {i k : Nat} {xl : Ent} (hi : Es[i]? = some xl) (ha : xl.t.length ≤ maxLength) (h0 : 1 ≤ xl.t.length) (hk : 2 ≤ k) (h : maxLength / xl.t.length < k) : Ct E 31 [.pointer (some ⟨s, 0, none⟩), .int .i64 ((i + 1 : Nat) : Int), .int .i64 (k : Nat)] [storeP s most Es] (fun v Q => v = .tuple #[.int .i64 0, .iface 43 (.int .i64 2)] ∧ Q = [storeP s most Es]) := by
  have hil := (List.getElem?_eq_some_iff.1 hi).1
  refine fn_enter (hE.fn Tryd.func31) rfl rfl rfl (fun R => ?_)
  simp only [argsL, List.cons_append, List.nil_append]
  refine w_seq (wR ?_)
  refine lY (yA rfl) rfl ?_
  refine lY (yA rfl) rfl ?_
  refine l_nil (aT (w_seq (w_seq (wR ?_))))
  refine lY (yM rfl) rfl ?_
  apply lY
  · (first | exact y_eq_ptr rfl (hE.t rfl) | exact y_eq_nil rfl (hE.t rfl))
  · rfl
  refine l_nil (aT ?_)
  refine w_cond_f rfl ?_
  refine w_skip (aT (w_seq (w_seq (wR ?_))))
  refine lY (yM rfl) rfl ?_
  refine lY (yM rfl) rfl ?_
  apply lL (by kernel_rfl) rfl
  apply ld_call (ct_known (Es := Es) (i := i + 1) hE (by omega)) rfl (hE.f (by kernel_rfl))
  · ((repeat constructor); done)
  rintro _ _ ⟨rfl, rfl⟩
  simp only [List.cons_append, List.nil_append]
  refine lY (y_not rfl) rfl ?_
  refine lY (yM rfl) rfl ?_
  skip
  refine l_on rfl rfl ?_
  refine lY (yM rfl) rfl ?_
  refine l_on rfl rfl ?_
  refine lY (y_lt rfl rfl) rfl ?_
  apply lY
  · (first | exact y_pick_t rfl rfl | exact y_pick_f rfl rfl)
  · rfl
  refine l_nil (aT ?_)
  refine w_cond_d rfl (fun h1 => ?_) (fun h1 => ?_)
  · exfalso; omega
  skip
  refine w_skip (aT (w_seq (w_seq (wR ?_))))
  refine lY (yM rfl) rfl ?_
  refine lY (y_eq rfl rfl) rfl ?_
  refine lY (yM rfl) rfl ?_
  refine l_split 30 rfl (fun h2 => ?_) (fun h2 => ?_)
  · exfalso; omega
  skip
  refine l_on rfl rfl ?_
  refine lY (yM rfl) rfl ?_
  refine l_on rfl rfl ?_
  refine lY (y_eq rfl rfl) rfl ?_
  apply lY
  · (first | exact y_pick_t rfl rfl | exact y_pick_f rfl rfl)
  · rfl
  refine l_nil (aT ?_)
  refine w_cond_d rfl (fun h3 => ?_) (fun h3 => ?_)
  · exfalso; omega
  skip
  refine w_skip (aT (w_seq (w_seq (wR ?_))))
  refine lY (yM rfl) rfl ?_
  refine lY (y_eq rfl rfl) rfl ?_
  refine l_nil (aT ?_)
  refine w_cond_d rfl (fun h4 => ?_) (fun h4 => ?_)
  · exfalso; omega
  skip
  refine w_skip (aT (w_seq (wR ?_)))
  refine lY (yM rfl) rfl ?_
  refine lY (yM rfl) rfl ?_
  apply lL (by kernel_rfl) rfl
  apply ld_call (ct_at hE hi) rfl (hE.f (by kernel_rfl))
  · ((repeat constructor); done)
  rintro _ _ ⟨rfl, rfl⟩
  simp only [List.cons_append, List.nil_append]
  apply lL (by kernel_rfl) rfl
  refine ld_alloc (hE.t rfl) (fun b8 => ?_)
  apply lL (by kernel_rfl) rfl
  (first | (apply ld_store rfl rfl (hE.t rfl) rfl; (focus ((repeat constructor); done)); (focus rfl); (focus (exact Nat.le_of_ble_eq_true rfl))) | (apply ld_store_sl rfl rfl (hE.t rfl) rfl; (focus ((repeat constructor); done)); (focus rfl); (focus (first | omega | (simp only [cellsL, length_setMany, List.length_cons, List.length_nil]; omega)))))
  refine l_nil (aT (w_seq (w_seq (wR ?_))))
  refine lY (yF rfl (hE.t rfl) rfl) rfl ?_
  refine lY (yF rfl (hE.t rfl) rfl) rfl ?_
  apply lY
  · (apply y_load rfl (hE.t rfl) rfl; (repeat (first | rfl | assumption | constructor)); done)
  · rfl
  refine lY (yM rfl) rfl ?_
  apply lL (by kernel_rfl) rfl
  apply ld_call (ct_mulLong hE ha h0 h) rfl (hE.f (by kernel_rfl))
  · ((repeat constructor); done)
  rintro _ _ ⟨rfl, rfl⟩
  simp only [List.cons_append, List.nil_append]
  refine lY (yM rfl) rfl ?_
  refine lY (y_extract rfl rfl) rfl ?_
  refine lY (y_extract rfl rfl) rfl ?_
  refine lY (yA rfl) rfl ?_
  refine lY (yA rfl) rfl ?_
  refine l_nil (aT (w_seq (wR ?_)))
  refine lY (yM rfl) rfl ?_
  apply lY
  · (first | exact y_ok_ne rfl (hE.t rfl) | exact y_err_ne rfl (hE.t rfl))
  · rfl
  refine l_nil (aT ?_)
  refine w_cond_t rfl ?_
  refine w_seq (wR ?_)
  refine lY (y_iface rfl (hE.t rfl) rfl) rfl ?_
  refine lY (yA rfl) rfl ?_
  refine lY (yA rfl) rfl ?_
  refine l_nil (aT (w_ret (a_then_ret ?_)))
  apply a_ret
  · rfl
  · (apply Rs.tmp rfl; apply Rs.tmp rfl; exact Rs.nil)
  · exact ⟨rfl, rfl⟩
  · (apply ent; (repeat constructor); done)
end Go.Proofs.YtekhbjlplfbdkaaDoor
namespace Go.Proofs.YtekhbjlplfbdkaaDoor
open Go Go.RowKit Sl Eg
set_option maxRecDepth 10000
variable {E : Env} {Es : List Ent} {s most : Nat}
def OneX (s most : Nat) (P : List Rl × Nat) (u : Value) (Q : List HP) : Prop := ∃ (e : Value) (Es' : List Ent), u = .tuple #[.int .i64 (P.2 : Nat), e] ∧ rls Es' = P.1 ∧ Q = [storeP s most Es']
theorem ct_onex {f : FuncId} {args : List Value} {r : Rl} (h : Ct E f args [storeP s most Es] (PutX s most Es r)) : Ct E f args [storeP s most Es] (OneX s most (addR (rls Es) r)) := fun R w hs => (h R w hs).mono fun e w' ⟨v, Qs, h1, ⟨M, id, hv, g1, g2, g3, hQ⟩, h3⟩ => by
  subst hQ
  obtain ⟨x, y, d, e', hp, hr⟩ := h3.hp
  have hw := (storeP_says hp).1
  have ea : addR (rls Es) r = (rls Es ++ rls M, id) := addR_eq (by rw [← rls_append]; exact hw) g1 (by rw [← rls_append]; exact g2) (by
    rcases g3 with rfl | ⟨x, rfl, rfl⟩
    · left; rfl
    · right; rfl)
  refine ⟨v, _, h1, ⟨.nilIface, Es ++ M, ?_, ?_, rfl⟩, h3⟩
  · rw [ea]; exact hv
  · rw [ea]; exact rls_append ..
theorem onex_same {f : FuncId} {args : List Value} {id : Nat} {e : Value} (h : Ct E f args [storeP s most Es] (fun v Q => v = .tuple #[.int .i64 (id : Nat), e] ∧ Q = [storeP s most Es])) : Ct E f args [storeP s most Es] (OneX s most (rls Es, id)) := h.mono fun v Q ⟨h1, h2⟩ => ⟨e, Es, h1, rfl, h2⟩
theorem ct_letterO (hE : Seat E) (b : UInt8) (hroom : Es.length < most) : Ct E 30 [.pointer (some ⟨s, 0, none⟩), .int .u8 b.toNat] [storeP s most Es] (OneX s most (addR (rls Es) (.letter b))) := ct_onex (ct_letterx hE b hroom)
def pairO (L : List Rl) (l r : Nat) : List Rl × Nat := if l = 0 then (L, r) else if r = 0 then (L, l) else if maxLength < len L l + len L r then (L, 0) else addR L (.pair l r)
def powO (L : List Rl) (l k : Nat) : List Rl × Nat := if l = 0 ∨ k = 0 ∨ maxLength / len L l < k then (L, 0) else if k = 1 then (L, l) else addR L (.power l k)
theorem ct_pairO (hE : Seat E) {l r : Nat} (hl : l ≤ Es.length) (hr : r ≤ Es.length) (hroom : Es.length < most) : Ct E 32 [.pointer (some ⟨s, 0, none⟩), .int .i64 (l : Nat), .int .i64 (r : Nat)] [storeP s most Es] (OneX s most (pairO (rls Es) l r)) := by
  refine ct_fact (p := storeP s most Es) (by ((repeat constructor); done)) (fun _ h => storeP_says h) (fun hsay => ?_)
  unfold pairO
  cases l with
  | zero => rw [if_pos rfl]; exact onex_same (ct_pair_l0 hE hr)
  | succ l =>
    rw [if_neg (by omega)]
    cases r with
    | zero => rw [if_pos rfl]; exact onex_same (ct_pair_r0 hE hl)
    | succ r =>
      rw [if_neg (by omega)]
      have hi : Es[l]? = some Es[l] := List.getElem?_eq_getElem hl
      have hj : Es[r]? = some Es[r] := List.getElem?_eq_getElem hr
      have tl : (Es[l]).t.length = len (rls Es) (l + 1) := by rw [hsay.2.1 l _ hi]; rfl
      have tr : (Es[r]).t.length = len (rls Es) (r + 1) := by rw [hsay.2.1 r _ hj]; rfl
      split
      · exact onex_same (ct_pair_long hE hi hj (by rw [tl]; exact hsay.1.short _) (by rw [tr]; exact hsay.1.short _) (by omega))
      · exact ct_onex (ct_pairx hE hi hj (by omega) hroom)
theorem ct_powO (hE : Seat E) {l k : Nat} (hl : l ≤ Es.length) (hroom : Es.length < most) : Ct E 31 [.pointer (some ⟨s, 0, none⟩), .int .i64 (l : Nat), .int .i64 (k : Nat)] [storeP s most Es] (OneX s most (powO (rls Es) l k)) := by
  refine ct_fact (p := storeP s most Es) (by ((repeat constructor); done)) (fun _ h => storeP_says h) (fun hsay => ?_)
  unfold powO
  by_cases h0 : l = 0 ∨ k = 0
  · rw [if_pos (by rcases h0 with h | h; exact .inl h; exact .inr (.inl h))]
    exact onex_same (ct_power_0 hE hl (by rcases h0 with h | h; exact .inr h; exact .inl h))
  · obtain ⟨l, rfl⟩ : ∃ l', l = l' + 1 := ⟨l - 1, by omega⟩
    have hi : Es[l]? = some Es[l] := List.getElem?_eq_getElem hl
    have tl : (Es[l]).t.length = len (rls Es) (l + 1) := by rw [hsay.2.1 l _ hi]; rfl
    have hp := hsay.1.pos (l + 1) (by omega) (by rw [rls_length]; exact hl)
    have hsh := hsay.1.short (l + 1)
    by_cases h1 : k = 1
    · have : 1 ≤ maxLength / len (rls Es) (l + 1) := (Nat.le_div_iff_mul_le hp).2 (by omega)
      rw [if_neg (by omega), if_pos h1, h1]
      exact onex_same (ct_power_1 hE hl)
    · by_cases h2 : maxLength / len (rls Es) (l + 1) < k
      · rw [if_pos (by omega)]
        exact onex_same (ct_power_long hE hi (by omega) (by omega) (by omega) (by rw [tl]; exact h2))
      · rw [if_neg (by omega), if_neg h1]
        refine ct_onex (ct_powerx hE hi (by omega) ?_ hroom)
        rw [tl, Nat.mul_comm]
        exact (Nat.le_div_iff_mul_le hp).1 (by omega)
theorem oneR_eq {L : List Rl} {res : List Nat} {m : Mk} {l r : Nat} (hl : res[pick m.left res.length]? = some l) (hr : res[pick m.right res.length]? = some r) : oneR L res m = if pick m.kind 4 = 0 then addR L (.letter m.letter) else if pick m.kind 4 = 3 then powO L l m.times.toNat else pairO L l r := by
  unfold oneR powO pairO
  simp only [hl, hr, Option.getD_some]
  split
  · rfl
  · split
    · generalize maxLength / len L l = d
      generalize m.times = t
      by_cases h : l = 0 ∨ t ≤ 0 ∨ ((d : Nat) : Int) < t
      · have h' : l = 0 ∨ t.toNat = 0 ∨ d < t.toNat := by omega
        rw [if_pos h, if_pos h']
      · have h' : ¬ (l = 0 ∨ t.toNat = 0 ∨ d < t.toNat) := by omega
        rw [if_neg h, if_neg h']
        by_cases h1 : t = 1
        · have h2 : t.toNat = 1 := by omega
          rw [if_pos h1, if_pos h2]
        · have h2 : ¬ t.toNat = 1 := by omega
          rw [if_neg h1, if_neg h2]
    · rfl
theorem bld_at {ms : List Mk} {k : Nat} : ∀ n, k + n ≤ ms.length → ∀ i, i ≤ k → (bld ms (k + n)).2[i]? = (bld ms k).2[i]?
  | 0, _, _, _ => rfl
  | n + 1, hn, i, hi => by
    have e : ms[k + n]? = some (ms[k + n]'(by omega)) := List.getElem?_eq_getElem (by omega)
    rw [← Nat.add_assoc, bld_succ e, ← bld_at n (by omega) i hi]
    simp only
    exact List.getElem?_append_left (by rw [bld_len (k + n) (by omega)]; omega)
structure BwG where
  k : Nat
  Es : List Ent
  g : Nat
  c : Nat
theorem ct_Build (hE : Seat E) {ms : List Mk} {A : Option Addr} {C : Nat} {q : HP} (hq : Rdb E.w0 A (mkC ms) q) (hm : ms.length ≤ 60) (ht : ∀ m ∈ ms, m.times ≤ 9223372036854775807) (hmost : 100 ≤ most) :
    Ct E 10 [.pointer (some ⟨s, 0, none⟩), .slice A ms.length C] [storeP s most [], q] (fun v Q => ∃ g c Es', v = .tuple #[.slice (some ⟨g, 0, none⟩) (ms.length + 1) c, .bool true] ∧ rls Es' = (bld ms ms.length).1 ∧
      Q = [storeP s most Es', sl (some ⟨g, 0, none⟩) c 38 1 (ms.length + 1) (idC (bld ms ms.length).2), q]) := by
  have hlenF := bld_len (ms := ms) ms.length (Nat.le_refl _)
  refine fn_enter (hE.fn Tryd.func10) rfl rfl rfl (fun R => ?_)
  simp only [argsL, List.cons_append, List.nil_append]
  refine w_seq (wR ?_)
  refine lY (yA rfl) rfl ?_
  refine lY (yA rfl) rfl ?_
  refine l_nil (aT (w_seq (wR ?_)))
  refine lY (yM rfl) rfl ?_
  apply lL (by kernel_rfl) rfl
  apply ld_call (ct_rBuild hE hq hm ht) rfl (hE.f (by kernel_rfl))
  · ((repeat constructor); done)
  rintro _ _ ⟨pR, cR, pL, cL, gW, cW, rfl, rfl⟩
  simp only [List.cons_append, List.nil_append]
  refine lY (yM rfl) rfl ?_
  refine lY (y_extract rfl rfl) rfl ?_
  refine lY (y_extract rfl rfl) rfl ?_
  apply lL (by kernel_rfl) rfl
  refine ld_alloc (hE.t rfl) (fun b6 => ?_)
  apply lL (by kernel_rfl) rfl
  (first | (apply ld_store rfl rfl (hE.t rfl) rfl; (focus ((repeat constructor); done)); (focus rfl); (focus (exact Nat.le_of_ble_eq_true rfl))) | (apply ld_store_sl rfl rfl (hE.t rfl) rfl; (focus ((repeat constructor); done)); (focus rfl); (focus (first | omega | (simp only [cellsL, length_setMany, List.length_cons, List.length_nil]; omega)))))
  refine lY (yA rfl) rfl ?_
  refine l_nil (aT (w_seq (wR ?_)))
  apply lL (by kernel_rfl) rfl
  refine ld_buildSlice (hE.t rfl) (hE.t rfl) rfl rfl rfl (fun b19 => ?_)
  refine lY (yA rfl) rfl ?_
  refine l_nil (aT (w_seq (w_seq (wR ?_))))
  refine lY (yM rfl) rfl ?_
  refine lY (y_len_slice rfl (hE.t rfl)) rfl ?_
  refine lY (yM rfl) rfl ?_
  refine l_nil (aT (w_block ?_))
  refine w_heap (ent_head (p := cells b19 [.int .i64 0] 38) (p' := sl (some ⟨b19, 0, none⟩) 1 38 1 1 (idC [0])) (by ((repeat constructor); done)) (sl_of_cells rfl (by unfold maxLen; omega))) ?_
  skip
  refine w_loop (fun x : BwG => [(0, .pointer (some ⟨s, 0, none⟩)), (7, .slice (some ⟨gW, 0, none⟩) (ms.length + 1) cW), (8, .slice (some ⟨x.g, 0, none⟩) (x.k + 1) x.c), (20, .slice A ms.length C), (21, .int .i64 (ms.length : Nat)), (22, .int .i64 (x.k : Nat))]) (fun x => [storeP s most x.Es, sl (some ⟨x.g, 0, none⟩) x.c 38 1 (x.k + 1) (idC (bld ms x.k).2), sl (some ⟨gW, 0, none⟩) cW 38 1 (ms.length + 1) (idC (bld ms ms.length).2), q, R])
    (fun x => ms.length - x.k) (fun x => x.k ≤ ms.length ∧ rls x.Es = (bld ms x.k).1) ⟨0, [], b19, 1⟩ ?_ ?_ ?_ ?_
  · exact ⟨Nat.zero_le _, rfl⟩
  · exact ⟨rfl, rfl, rfl, rfl, rfl, rfl, trivial⟩
  · (apply ent; (repeat constructor); done)
  rintro ⟨k, Es, g, c⟩ ⟨hk, hEs⟩
  simp only at hk hEs ⊢
  have hlen := bld_len (ms := ms) k hk
  have hle := bld_le (ms := ms) k hk
  have hEl := congrArg List.length hEs
  rw [rls_length] at hEl
  skip
  refine w_seq (wR ?_)
  refine lY (y_lt rfl rfl) rfl ?_
  refine l_nil (aT (w_seq ?_))
  refine w_cond_d rfl (fun h1 => ?_) (fun h1 => ?_)
  · skip
    have hkl : k < ms.length := by omega
    obtain ⟨m, hmk⟩ : ∃ m, ms[k]? = some m := ⟨_, List.getElem?_eq_getElem hkl⟩
    have htm := ht m (List.mem_of_getElem? hmk)
    have hbs := bld_succ hmk
    have hpre := bld_at (ms := ms) (k := k + 1) (ms.length - (k + 1)) (by omega) (k + 1) (Nat.le_refl _)
    rw [show k + 1 + (ms.length - (k + 1)) = ms.length by omega, hbs] at hpre
    simp only at hpre
    rw [List.getElem?_append_right (by omega), hlen, Nat.sub_self] at hpre
    obtain ⟨G, O, rfl, hqq⟩ := hq (by intro e; have := mkC_length ms; rw [e] at this; simp at this; omega)
    generalize hbd : bld ms k = bd at *
    obtain ⟨L, res⟩ := bd
    simp only at hlen hle hbs hEs hEl hpre ⊢
    have fw := idC_get hpre ((k : Int) + 1).toNat (by omega)
    have hpl := pick_lt m.left (many := res.length) (by omega)
    have hpr := pick_lt m.right (many := res.length) (by omega)
    obtain ⟨l, hl⟩ : ∃ l, res[pick m.left res.length]? = some l := ⟨_, List.getElem?_eq_getElem hpl⟩
    obtain ⟨r, hr⟩ : ∃ r, res[pick m.right res.length]? = some r := ⟨_, List.getElem?_eq_getElem hpr⟩
    have hll := hle.1 l (List.mem_of_getElem? hl)
    have hrr := hle.1 r (List.mem_of_getElem? hr)
    have f0 := idC_get hl (((pick m.left res.length : Nat) : Int)).toNat (by omega)
    have f1 := idC_get hr (((pick m.right res.length : Nat) : Int)).toNat (by omega)
    have eo := oneR_eq (L := L) hl hr
    have fm := mkC_at hmk
    rw [← hlen]
    skip
    refine w_skip (aT (w_seq (w_block (w_seq (wR ?_)))))
    refine lY (yM rfl) rfl ?_
    refine lY (y_indexAddr rfl rfl (hE.t rfl) (by omega) (by omega)) rfl ?_
    apply lY
    · (first | (apply y_load_agg rfl (hE.t rfl) rfl; (repeat (first | rfl | assumption | constructor)); done) | (apply y_load_agg_q rfl (hE.t rfl) rfl (by assumption); (focus ((repeat constructor); done)); (focus exact fm); (focus rfl); (focus omega)))
    · rfl
    apply lL (by kernel_rfl) rfl
    refine ld_alloc (hE.t rfl) (fun b10 => ?_)
    refine lY (yA rfl) rfl ?_
    apply lL (by kernel_rfl) rfl
    (first | (apply ld_store rfl rfl (hE.t rfl) rfl; (focus ((repeat constructor); done)); (focus rfl); (focus (exact Nat.le_of_ble_eq_true rfl))) | (apply ld_store_sl rfl rfl (hE.t rfl) rfl; (focus ((repeat constructor); done)); (focus rfl); (focus (first | omega | (simp only [cellsL, length_setMany, List.length_cons, List.length_nil]; omega)))))
    refine l_nil (aT ?_)
    refine w_seq ?_
    refine w_held ([cells b10 [.int .i64 m.kind, .int .u8 m.letter.toNat, .int .i64 m.left, .int .i64 m.right, .int .i64 m.times] 80, sl (some ⟨g, 0, none⟩) c 38 1 res.length (idC res)]) ?_ ?_
    · (apply ent; (repeat constructor); done)
    apply d_take 0 rfl
    · exact yM rfl
    · with_reducible (repeat (first | exact cB | apply cT | apply cK))
    · kernel_rfl
    · rfl
    apply d_take 1 rfl
    · exact yF rfl (hE.t rfl) rfl
    · with_reducible (repeat (first | exact cB | apply cT | apply cK))
    · kernel_rfl
    · rfl
    apply d_take 2 rfl
    · (first | (apply y_load rfl (hE.t rfl) rfl; (repeat (first | rfl | assumption | constructor)); done) | exact y_load_old rfl (hE.t rfl) rfl (by assumption) | (apply y_load_ro rfl (hE.t rfl) rfl; (focus ((repeat constructor); done)); (focus assumption)) | (apply y_load_q rfl (hE.t rfl) rfl (by assumption); (focus ((repeat constructor); done)); (first | ((focus exact f0); (focus omega)) | ((focus exact f1); (focus omega)) | ((focus assumption); (focus omega)))))
    · with_reducible (repeat (first | exact cB | apply cT | apply cK))
    · kernel_rfl
    · rfl
    apply d_take 3 rfl
    · exact yM rfl
    · with_reducible (repeat (first | exact cB | apply cT | apply cK))
    · kernel_rfl
    · rfl
    apply d_take 4 rfl
    · exact y_len_slice rfl (hE.t rfl)
    · with_reducible (repeat (first | exact cB | apply cT | apply cK))
    · kernel_rfl
    · rfl
    apply d_take 8 rfl
    · exact yM rfl
    · with_reducible (repeat (first | exact cB | apply cT | apply cK))
    · kernel_rfl
    · rfl
    apply d_take 9 rfl
    · exact yF rfl (hE.t rfl) rfl
    · with_reducible (repeat (first | exact cB | apply cT | apply cK))
    · kernel_rfl
    · rfl
    apply d_take 10 rfl
    · (first | (apply y_load rfl (hE.t rfl) rfl; (repeat (first | rfl | assumption | constructor)); done) | exact y_load_old rfl (hE.t rfl) rfl (by assumption) | (apply y_load_ro rfl (hE.t rfl) rfl; (focus ((repeat constructor); done)); (focus assumption)) | (apply y_load_q rfl (hE.t rfl) rfl (by assumption); (focus ((repeat constructor); done)); (first | ((focus exact f0); (focus omega)) | ((focus exact f1); (focus omega)) | ((focus assumption); (focus omega)))))
    · with_reducible (repeat (first | exact cB | apply cT | apply cK))
    · kernel_rfl
    · rfl
    apply d_take 11 rfl
    · exact yM rfl
    · with_reducible (repeat (first | exact cB | apply cT | apply cK))
    · kernel_rfl
    · rfl
    apply d_take 12 rfl
    · exact y_len_slice rfl (hE.t rfl)
    · with_reducible (repeat (first | exact cB | apply cT | apply cK))
    · kernel_rfl
    · rfl
    apply d_loud 5 rfl (by kernel_rfl) rfl
    apply ld_call (ct_Pick (n := m.left) (m := res.length) hE (by omega) (by omega)) rfl (hE.f (by kernel_rfl))
    · ((repeat constructor); done)
    rintro _ _ ⟨rfl, rfl⟩
    simp only [List.cons_append, List.nil_append]
    refine ⟨by (apply ent; (repeat constructor); done), ?_⟩
    apply d_take 6 rfl
    · (first | exact y_indexAddr1 rfl rfl (hE.t rfl) (by omega) (by omega) | exact y_indexAddr rfl rfl (hE.t rfl) (by omega) (by omega))
    · with_reducible (repeat (first | exact cB | apply cT | apply cK))
    · kernel_rfl
    · rfl
    apply d_take 7 rfl
    · (first | (apply y_load rfl (hE.t rfl) rfl; (repeat (first | rfl | assumption | constructor)); done) | exact y_load_old rfl (hE.t rfl) rfl (by assumption) | (apply y_load_ro rfl (hE.t rfl) rfl; (focus ((repeat constructor); done)); (focus assumption)) | (apply y_load_q rfl (hE.t rfl) rfl (by assumption); (focus ((repeat constructor); done)); (first | ((focus exact f0); (focus omega)) | ((focus exact f1); (focus omega)) | ((focus assumption); (focus omega)))))
    · with_reducible (repeat (first | exact cB | apply cT | apply cK))
    · kernel_rfl
    · rfl
    apply d_loud 13 rfl (by kernel_rfl) rfl
    apply ld_call (ct_Pick (n := m.right) (m := res.length) hE (by omega) (by omega)) rfl (hE.f (by kernel_rfl))
    · ((repeat constructor); done)
    rintro _ _ ⟨rfl, rfl⟩
    simp only [List.cons_append, List.nil_append]
    refine ⟨by (apply ent; (repeat constructor); done), ?_⟩
    apply d_take 14 rfl
    · (first | exact y_indexAddr1 rfl rfl (hE.t rfl) (by omega) (by omega) | exact y_indexAddr rfl rfl (hE.t rfl) (by omega) (by omega))
    · with_reducible (repeat (first | exact cB | apply cT | apply cK))
    · kernel_rfl
    · rfl
    apply d_take 15 rfl
    · (first | (apply y_load rfl (hE.t rfl) rfl; (repeat (first | rfl | assumption | constructor)); done) | exact y_load_old rfl (hE.t rfl) rfl (by assumption) | (apply y_load_ro rfl (hE.t rfl) rfl; (focus ((repeat constructor); done)); (focus assumption)) | (apply y_load_q rfl (hE.t rfl) rfl (by assumption); (focus ((repeat constructor); done)); (first | ((focus exact f0); (focus omega)) | ((focus exact f1); (focus omega)) | ((focus assumption); (focus omega)))))
    · with_reducible (repeat (first | exact cB | apply cT | apply cK))
    · kernel_rfl
    · rfl
    apply d_take 16 rfl
    · exact yA rfl
    · with_reducible (repeat (first | exact cB | apply cT | apply cK))
    · kernel_rfl
    · rfl
    apply d_take 17 rfl
    · exact yA rfl
    · with_reducible (repeat (first | exact cB | apply cT | apply cK))
    · kernel_rfl
    · rfl
    refine d_nil (by kernel_rfl) ?_
    refine aT (w_seq (wR ?_))
    refine lY (yA rfl) rfl ?_
    refine l_nil (aT (w_seq (w_seq (wR ?_))))
    refine lY (yF rfl (hE.t rfl) rfl) rfl ?_
    apply lY
    · (first | (apply y_load rfl (hE.t rfl) rfl; (repeat (first | rfl | assumption | constructor)); done) | exact y_load_old rfl (hE.t rfl) rfl (by assumption) | (apply y_load_ro rfl (hE.t rfl) rfl; (focus ((repeat constructor); done)); (focus assumption)) | (apply y_load_q rfl (hE.t rfl) rfl (by assumption); (focus ((repeat constructor); done)); (first | ((focus exact f0); (focus omega)) | ((focus exact f1); (focus omega)) | ((focus assumption); (focus omega)))))
    · rfl
    apply lL (by kernel_rfl) rfl
    apply ld_call (ct_Pick (n := m.kind) (m := 4) hE (by decide) (by decide)) rfl (hE.f (by kernel_rfl))
    · ((repeat constructor); done)
    rintro _ _ ⟨rfl, rfl⟩
    simp only [List.cons_append, List.nil_append]
    refine l_nil (aT (w_block (w_seq (wR ?_))))
    refine lY (y_eq rfl rfl) rfl ?_
    refine lY (yA rfl) rfl ?_
    refine l_nil (aT ?_)
    refine w_cond_d rfl (fun k0 => ?_) (fun k0 => ?_)
    · skip
      rw [if_pos (by omega)] at eo
      refine wR ?_
      refine lY (yM rfl) rfl ?_
      refine lY (yF rfl (hE.t rfl) rfl) rfl ?_
      apply lY
      · (first | (apply y_load rfl (hE.t rfl) rfl; (repeat (first | rfl | assumption | constructor)); done) | exact y_load_old rfl (hE.t rfl) rfl (by assumption) | (apply y_load_ro rfl (hE.t rfl) rfl; (focus ((repeat constructor); done)); (focus assumption)) | (apply y_load_q rfl (hE.t rfl) rfl (by assumption); (focus ((repeat constructor); done)); (first | ((focus exact f0); (focus omega)) | ((focus exact f1); (focus omega)) | ((focus assumption); (focus omega)))))
      · rfl
      apply lL (by kernel_rfl) rfl
      apply ld_call (ct_letterO (Es := Es) (s := s) (most := most) hE m.letter (by omega)) rfl (hE.f (by kernel_rfl))
      · ((repeat constructor); done)
      rintro _ _ ⟨e, Es', rfl, hEs', rfl⟩
      simp only [List.cons_append, List.nil_append]
      rw [hEs, ← eo] at hEs'
      rw [hEs, ← eo]
      refine lY (yM rfl) rfl ?_
      refine lY (y_extract rfl rfl) rfl ?_
      refine lY (y_extract rfl rfl) rfl ?_
      refine lY (yA rfl) rfl ?_
      refine l_nil (a_block (aT (w_seq (w_seq (wR ?_)))))
      refine lY (yM rfl) rfl ?_
      refine lY (yM rfl) rfl ?_
      refine lY (yM rfl) rfl ?_
      refine lY (y_add rfl rfl (by omega) (by omega)) rfl ?_
      apply lY
      · (first | exact y_indexAddr1 rfl rfl (hE.t rfl) (by omega) (by omega) | exact y_indexAddr rfl rfl (hE.t rfl) (by omega) (by omega))
      · rfl
      apply lY
      · (first | (apply y_load rfl (hE.t rfl) rfl; (repeat (first | rfl | assumption | constructor)); done) | exact y_load_old rfl (hE.t rfl) rfl (by assumption) | (apply y_load_ro rfl (hE.t rfl) rfl; (focus ((repeat constructor); done)); (focus assumption)) | (apply y_load_q rfl (hE.t rfl) rfl (by assumption); (focus ((repeat constructor); done)); (first | ((focus exact f0); (focus omega)) | ((focus exact f1); (focus omega)) | ((focus assumption); (focus omega)))))
      · rfl
      refine lY (y_ne rfl rfl) rfl ?_
      refine l_nil (aT ?_)
      refine w_cond_d rfl (fun w1 => ?_) (fun w1 => ?_)
      · exact absurd rfl w1
      skip
      refine w_skip (aT (wR ?_))
      refine lY (yM rfl) rfl ?_
      refine lY (yM rfl) rfl ?_
      apply lL (by kernel_rfl) rfl
      refine ld_buildSlice (hE.t rfl) (hE.t rfl) rfl rfl rfl (fun b82 => ?_)
      apply lL (by kernel_rfl) rfl
      apply ld_append (hE.t rfl) (hE.t rfl) rfl rfl rfl
      · ((repeat constructor); done)
      · ((repeat constructor); done)
      · rfl
      · rfl
      · omega
      · omega
      · (unfold maxLen; omega)
      intro g83 c83 n83 x83 hn83 hx83
      refine lY (yA rfl) rfl ?_
      refine l_nil (a_block (aT (wR ?_)))
      refine lY (y_add rfl rfl (by omega) (by omega)) rfl ?_
      refine lY (yM rfl) rfl ?_
      refine l_nil ?_
      refine a_round (ι := BwG) (j := ⟨k + 1, Es', g83, c83⟩) ⟨by show k + 1 ≤ ms.length; omega, by show rls Es' = (bld ms (k + 1)).1; rw [hbs]; exact hEs'⟩ (by show ms.length - (k + 1) < ms.length - k; omega) ⟨rfl, rfl, ?_, rfl, rfl, congrArg some (int_eq (by simp only; omega)), trivial⟩ ?_
      · rw [hn83, hlen]
        rfl
      · obtain rfl : x83 = idC (res ++ [(oneR L res m).2]) := by rw [hx83]; simp [idC]; rfl
        rw [hn83, hlen]
        show ∀ k', _ → stars [storeP s most Es', sl (some ⟨g83, 0, none⟩) c83 38 1 (k + 1 + 1) (idC (bld ms (k + 1)).2), _, _, R] k'
        rw [hbs]
        (apply ent; (repeat constructor); done)
    · skip
      rw [if_neg (by omega)] at eo
      refine w_seq (wR ?_)
      refine lY (y_eq rfl rfl) rfl ?_
      refine lY (yA rfl) rfl ?_
      refine l_nil (aT ?_)
      refine w_cond_d rfl (fun k3 => ?_) (fun k3 => ?_)
      · skip
        rw [if_pos (by omega)] at eo
        refine wR ?_
        refine lY (yM rfl) rfl ?_
        refine lY (yM rfl) rfl ?_
        refine lY (yF rfl (hE.t rfl) rfl) rfl ?_
        apply lY
        · (first | (apply y_load rfl (hE.t rfl) rfl; (repeat (first | rfl | assumption | constructor)); done) | exact y_load_old rfl (hE.t rfl) rfl (by assumption) | (apply y_load_ro rfl (hE.t rfl) rfl; (focus ((repeat constructor); done)); (focus assumption)) | (apply y_load_q rfl (hE.t rfl) rfl (by assumption); (focus ((repeat constructor); done)); (first | ((focus exact f0); (focus omega)) | ((focus exact f1); (focus omega)) | ((focus assumption); (focus omega)))))
        · rfl
        refine lY (y_max rfl rfl) rfl ?_
        refine l_eq 69 (.int .i64 ((m.times.toNat : Nat) : Int)) rfl (int_eq (by omega)) ?_
        skip
        apply lL (by kernel_rfl) rfl
        apply ld_call (ct_powO (Es := Es) (s := s) (most := most) (l := l) (k := m.times.toNat) hE (by omega) (by omega)) rfl (hE.f (by kernel_rfl))
        · ((repeat constructor); done)
        rintro _ _ ⟨e, Es', rfl, hEs', rfl⟩
        simp only [List.cons_append, List.nil_append]
        rw [hEs, ← eo] at hEs'
        rw [hEs, ← eo]
        refine lY (yM rfl) rfl ?_
        refine lY (y_extract rfl rfl) rfl ?_
        refine lY (y_extract rfl rfl) rfl ?_
        refine lY (yA rfl) rfl ?_
        refine l_nil (a_block (aT (w_seq (w_seq (wR ?_)))))
        refine lY (yM rfl) rfl ?_
        refine lY (yM rfl) rfl ?_
        refine lY (yM rfl) rfl ?_
        refine lY (y_add rfl rfl (by omega) (by omega)) rfl ?_
        apply lY
        · (first | exact y_indexAddr1 rfl rfl (hE.t rfl) (by omega) (by omega) | exact y_indexAddr rfl rfl (hE.t rfl) (by omega) (by omega))
        · rfl
        apply lY
        · (first | (apply y_load rfl (hE.t rfl) rfl; (repeat (first | rfl | assumption | constructor)); done) | exact y_load_old rfl (hE.t rfl) rfl (by assumption) | (apply y_load_ro rfl (hE.t rfl) rfl; (focus ((repeat constructor); done)); (focus assumption)) | (apply y_load_q rfl (hE.t rfl) rfl (by assumption); (focus ((repeat constructor); done)); (first | ((focus exact f0); (focus omega)) | ((focus exact f1); (focus omega)) | ((focus assumption); (focus omega)))))
        · rfl
        refine lY (y_ne rfl rfl) rfl ?_
        refine l_nil (aT ?_)
        refine w_cond_d rfl (fun w1 => ?_) (fun w1 => ?_)
        · exact absurd rfl w1
        skip
        refine w_skip (aT (wR ?_))
        refine lY (yM rfl) rfl ?_
        refine lY (yM rfl) rfl ?_
        apply lL (by kernel_rfl) rfl
        refine ld_buildSlice (hE.t rfl) (hE.t rfl) rfl rfl rfl (fun b82 => ?_)
        apply lL (by kernel_rfl) rfl
        apply ld_append (hE.t rfl) (hE.t rfl) rfl rfl rfl
        · ((repeat constructor); done)
        · ((repeat constructor); done)
        · rfl
        · rfl
        · omega
        · omega
        · (unfold maxLen; omega)
        intro g83 c83 n83 x83 hn83 hx83
        refine lY (yA rfl) rfl ?_
        refine l_nil (a_block (aT (wR ?_)))
        refine lY (y_add rfl rfl (by omega) (by omega)) rfl ?_
        refine lY (yM rfl) rfl ?_
        refine l_nil ?_
        refine a_round (ι := BwG) (j := ⟨k + 1, Es', g83, c83⟩) ⟨by show k + 1 ≤ ms.length; omega, by show rls Es' = (bld ms (k + 1)).1; rw [hbs]; exact hEs'⟩ (by show ms.length - (k + 1) < ms.length - k; omega) ⟨rfl, rfl, ?_, rfl, rfl, congrArg some (int_eq (by simp only; omega)), trivial⟩ ?_
        · rw [hn83, hlen]
          rfl
        · obtain rfl : x83 = idC (res ++ [(oneR L res m).2]) := by rw [hx83]; simp [idC]; rfl
          rw [hn83, hlen]
          show ∀ k', _ → stars [storeP s most Es', sl (some ⟨g83, 0, none⟩) c83 38 1 (k + 1 + 1) (idC (bld ms (k + 1)).2), _, _, R] k'
          rw [hbs]
          (apply ent; (repeat constructor); done)
      · skip
        rw [if_neg (by omega)] at eo
        refine wR ?_
        refine lY (yM rfl) rfl ?_
        refine lY (yM rfl) rfl ?_
        refine lY (yM rfl) rfl ?_
        apply lL (by kernel_rfl) rfl
        apply ld_call (ct_pairO (Es := Es) (s := s) (most := most) (l := l) (r := r) hE (by omega) (by omega) (by omega)) rfl (hE.f (by kernel_rfl))
        · ((repeat constructor); done)
        rintro _ _ ⟨e, Es', rfl, hEs', rfl⟩
        simp only [List.cons_append, List.nil_append]
        rw [hEs, ← eo] at hEs'
        rw [hEs, ← eo]
        refine lY (yM rfl) rfl ?_
        refine lY (y_extract rfl rfl) rfl ?_
        refine lY (y_extract rfl rfl) rfl ?_
        refine lY (yA rfl) rfl ?_
        refine l_nil (a_block (aT (w_seq (w_seq (wR ?_)))))
        refine lY (yM rfl) rfl ?_
        refine lY (yM rfl) rfl ?_
        refine lY (yM rfl) rfl ?_
        refine lY (y_add rfl rfl (by omega) (by omega)) rfl ?_
        apply lY
        · (first | exact y_indexAddr1 rfl rfl (hE.t rfl) (by omega) (by omega) | exact y_indexAddr rfl rfl (hE.t rfl) (by omega) (by omega))
        · rfl
        apply lY
        · (first | (apply y_load rfl (hE.t rfl) rfl; (repeat (first | rfl | assumption | constructor)); done) | exact y_load_old rfl (hE.t rfl) rfl (by assumption) | (apply y_load_ro rfl (hE.t rfl) rfl; (focus ((repeat constructor); done)); (focus assumption)) | (apply y_load_q rfl (hE.t rfl) rfl (by assumption); (focus ((repeat constructor); done)); (first | ((focus exact f0); (focus omega)) | ((focus exact f1); (focus omega)) | ((focus assumption); (focus omega)))))
        · rfl
        refine lY (y_ne rfl rfl) rfl ?_
        refine l_nil (aT ?_)
        refine w_cond_d rfl (fun w1 => ?_) (fun w1 => ?_)
        · exact absurd rfl w1
        skip
        refine w_skip (aT (wR ?_))
        refine lY (yM rfl) rfl ?_
        refine lY (yM rfl) rfl ?_
        apply lL (by kernel_rfl) rfl
        refine ld_buildSlice (hE.t rfl) (hE.t rfl) rfl rfl rfl (fun b82 => ?_)
        apply lL (by kernel_rfl) rfl
        apply ld_append (hE.t rfl) (hE.t rfl) rfl rfl rfl
        · ((repeat constructor); done)
        · ((repeat constructor); done)
        · rfl
        · rfl
        · omega
        · omega
        · (unfold maxLen; omega)
        intro g83 c83 n83 x83 hn83 hx83
        refine lY (yA rfl) rfl ?_
        refine l_nil (a_block (aT (wR ?_)))
        refine lY (y_add rfl rfl (by omega) (by omega)) rfl ?_
        refine lY (yM rfl) rfl ?_
        refine l_nil ?_
        refine a_round (ι := BwG) (j := ⟨k + 1, Es', g83, c83⟩) ⟨by show k + 1 ≤ ms.length; omega, by show rls Es' = (bld ms (k + 1)).1; rw [hbs]; exact hEs'⟩ (by show ms.length - (k + 1) < ms.length - k; omega) ⟨rfl, rfl, ?_, rfl, rfl, congrArg some (int_eq (by simp only; omega)), trivial⟩ ?_
        · rw [hn83, hlen]
          rfl
        · obtain rfl : x83 = idC (res ++ [(oneR L res m).2]) := by rw [hx83]; simp [idC]; rfl
          rw [hn83, hlen]
          show ∀ k', _ → stars [storeP s most Es', sl (some ⟨g83, 0, none⟩) c83 38 1 (k + 1 + 1) (idC (bld ms (k + 1)).2), _, _, R] k'
          rw [hbs]
          (apply ent; (repeat constructor); done)
  · skip
    obtain rfl : k = ms.length := by omega
    refine w_exit (a_then_exit (a_then_exit (a_block_exit (aT (w_seq (wR ?_))))))
    refine lY (yM rfl) rfl ?_
    refine lY (yA rfl) rfl ?_
    refine lY (yA rfl) rfl ?_
    refine l_nil (aT (w_ret ?_))
    apply a_ret
    · rfl
    · (apply Rs.tmp rfl; apply Rs.tmp rfl; exact Rs.nil)
    · exact ⟨g, c, Es, rfl, hEs, rfl⟩
    · (apply ent; (repeat constructor); done)
end Go.Proofs.YtekhbjlplfbdkaaDoor
namespace Go.Proofs.YtekhbjlplfbdkaaDoor
open Go Go.RowKit Sl Eg
set_option maxRecDepth 10000
variable {E : Env} {Es : List Ent} {pp tb s most : Nat}
theorem ct_pcheck_nil (hE : Seat E) {x y : Int} : Ct E 36 [.pointer none, .int .i64 x, .int .i64 y] [] (fun v Q => v = .iface 43 (.int .i64 5) ∧ Q = []) := by
  refine fn_enter (hE.fn Tryd.func36) rfl rfl rfl (fun R => ?_)
  simp only [argsL, List.cons_append, List.nil_append]
  refine w_seq (wR ?_)
  refine lY (yA rfl) rfl ?_
  refine l_nil (aT (w_seq (w_seq (wR ?_))))
  refine lY (yM rfl) rfl ?_
  apply lL (by kernel_rfl) rfl
  apply ld_call (ct_Store_nil hE) rfl (hE.f (by kernel_rfl))
  · ((repeat constructor); done)
  rintro _ _ ⟨rfl, rfl⟩
  simp only [List.cons_append, List.nil_append]
  apply lY
  · (first | exact y_eq_ptr rfl (hE.t rfl) | exact y_eq_nil rfl (hE.t rfl))
  · rfl
  refine l_nil (aT ?_)
  refine w_cond_t rfl ?_
  refine w_seq (wR ?_)
  refine lY (y_iface rfl (hE.t rfl) rfl) rfl ?_
  refine lY (yA rfl) rfl ?_
  refine l_nil (aT (w_ret (a_then_ret ?_)))
  apply a_ret
  · rfl
  · (apply Rs.tmp rfl; exact Rs.nil)
  · exact ⟨rfl, rfl⟩
  · (apply ent; (repeat constructor); done)
theorem ct_pcheck_one (hE : Seat E) {x y : Int} (h : ¬ ((0 ≤ x ∧ x ≤ (Es.length : Nat)) ∧ (0 ≤ y ∧ y ≤ (Es.length : Nat)))) : Ct E 36 [.pointer (some ⟨pp, 0, none⟩), .int .i64 x, .int .i64 y] [cells pp [.pointer (some ⟨s, 0, none⟩), .pointer (some ⟨tb, 0, none⟩)] 78, tabP tb s (rls Es), storeP s most Es] (fun v Q => v = .iface 43 (.int .i64 1) ∧ Q = [cells pp [.pointer (some ⟨s, 0, none⟩), .pointer (some ⟨tb, 0, none⟩)] 78, tabP tb s (rls Es), storeP s most Es]) := by
  refine fn_enter (hE.fn Tryd.func36) rfl rfl rfl (fun R => ?_)
  simp only [argsL, List.cons_append, List.nil_append]
  refine w_seq (wR ?_)
  refine lY (yA rfl) rfl ?_
  refine l_nil (aT (w_seq (w_seq (wR ?_))))
  refine lY (yM rfl) rfl ?_
  apply lL (by kernel_rfl) rfl
  apply ld_call (ct_Store hE) rfl (hE.f (by kernel_rfl))
  · ((repeat constructor); done)
  rintro _ _ ⟨rfl, rfl⟩
  simp only [List.cons_append, List.nil_append]
  apply lY
  · (first | exact y_eq_ptr rfl (hE.t rfl) | exact y_eq_nil rfl (hE.t rfl))
  · rfl
  refine l_nil (aT ?_)
  refine w_cond_f rfl ?_
  refine w_skip (aT (w_seq (w_seq (wR ?_))))
  refine lY (yM rfl) rfl ?_
  refine lY (yM rfl) rfl ?_
  apply lY
  · (first | exact y_build (hE.t rfl) rfl rfl | exact y_buildA (hE.t rfl) rfl rfl)
  · rfl
  refine lY (yM rfl) rfl ?_
  refine l_nil (aT (w_block ?_))
  refine w_rounds 3 ?_
  refine r_succ ?_
  refine w_seq (wR ?_)
  refine lY (y_lt rfl rfl) rfl ?_
  refine l_nil (aT (w_seq ?_))
  refine w_cond_t rfl ?_
  refine w_skip (aT (w_seq (w_block (w_seq (wR ?_)))))
  refine lY (y_idx rfl rfl (hE.t rfl) (hE.t rfl) rfl (by omega) (by omega) rfl) rfl ?_
  refine lY (yA rfl) rfl ?_
  refine l_nil (aT (w_seq (wR ?_)))
  refine lY (yM rfl) rfl ?_
  refine lY (y_lt rfl rfl) rfl ?_
  refine lY (yM rfl) rfl ?_
  refine l_split 25 rfl (fun h1 => ?_) (fun h1 => ?_)
  · skip
    refine l_off rfl rfl rfl rfl (l_off rfl rfl rfl rfl (l_off rfl rfl rfl rfl (l_off rfl rfl rfl rfl (l_off rfl rfl rfl rfl ?_))))
    apply lY
    · (first | exact y_pick_t rfl rfl | exact y_pick_f rfl rfl)
    · rfl
    refine l_nil (aT ?_)
    refine w_cond_t rfl ?_
    refine w_seq (wR ?_)
    refine lY (y_iface rfl (hE.t rfl) rfl) rfl ?_
    refine lY (yA rfl) rfl ?_
    refine l_nil (aT (w_ret (a_block_ret (a_then_ret (a_then_ret (a_block_ret (a_then_ret ?_)))))))
    apply a_ret
    · rfl
    · (apply Rs.tmp rfl; exact Rs.nil)
    · exact ⟨rfl, rfl⟩
    · (apply ent; (repeat constructor); done)
  · skip
    refine l_on rfl rfl ?_
    refine lY (yM rfl) rfl ?_
    refine l_on rfl rfl ?_
    refine lY (yM rfl) rfl ?_
    refine l_on rfl rfl ?_
    apply lL (by kernel_rfl) rfl
    apply ld_call (ct_Store hE) rfl (hE.f (by kernel_rfl))
    · ((repeat constructor); done)
    rintro _ _ ⟨rfl, rfl⟩
    simp only [List.cons_append, List.nil_append]
    refine l_on rfl rfl ?_
    apply lL (by kernel_rfl) rfl
    apply ld_call (ct_len hE) rfl (hE.f (by kernel_rfl))
    · ((repeat constructor); done)
    rintro _ _ ⟨rfl, rfl⟩
    simp only [List.cons_append, List.nil_append]
    refine l_on rfl rfl ?_
    refine lY (y_gt rfl rfl) rfl ?_
    apply lY
    · (first | exact y_pick_t rfl rfl | exact y_pick_f rfl rfl)
    · rfl
    refine l_nil (aT ?_)
    refine w_cond_d rfl (fun h2 => ?_) (fun h2 => ?_)
    · skip
      refine w_seq (wR ?_)
      refine lY (y_iface rfl (hE.t rfl) rfl) rfl ?_
      refine lY (yA rfl) rfl ?_
      refine l_nil (aT (w_ret (a_block_ret (a_then_ret (a_then_ret (a_block_ret (a_then_ret ?_)))))))
      apply a_ret
      · rfl
      · (apply Rs.tmp rfl; exact Rs.nil)
      · exact ⟨rfl, rfl⟩
      · (apply ent; (repeat constructor); done)
    · skip
      refine w_skip (a_block (aT (wR ?_)))
      refine lY (y_add rfl rfl (by omega) (by omega)) rfl ?_
      refine lY (yM rfl) rfl ?_
      refine l_nil ?_
      refine a_rd ?_
      refine r_succ ?_
      refine w_seq (wR ?_)
      refine lY (y_lt rfl rfl) rfl ?_
      refine l_nil (aT (w_seq ?_))
      refine w_cond_t rfl ?_
      refine w_skip (aT (w_seq (w_block (w_seq (wR ?_)))))
      refine lY (y_idx rfl rfl (hE.t rfl) (hE.t rfl) rfl (by omega) (by omega) rfl) rfl ?_
      refine lY (yA rfl) rfl ?_
      refine l_nil (aT (w_seq (wR ?_)))
      refine lY (yM rfl) rfl ?_
      refine lY (y_lt rfl rfl) rfl ?_
      refine lY (yM rfl) rfl ?_
      refine l_split 25 rfl (fun h1 => ?_) (fun h1 => ?_)
      · skip
        refine l_off rfl rfl rfl rfl (l_off rfl rfl rfl rfl (l_off rfl rfl rfl rfl (l_off rfl rfl rfl rfl (l_off rfl rfl rfl rfl ?_))))
        apply lY
        · (first | exact y_pick_t rfl rfl | exact y_pick_f rfl rfl)
        · rfl
        refine l_nil (aT ?_)
        refine w_cond_t rfl ?_
        refine w_seq (wR ?_)
        refine lY (y_iface rfl (hE.t rfl) rfl) rfl ?_
        refine lY (yA rfl) rfl ?_
        refine l_nil (aT (w_ret (a_block_ret (a_then_ret (a_then_ret (a_block_ret (a_then_ret ?_)))))))
        apply a_ret
        · rfl
        · (apply Rs.tmp rfl; exact Rs.nil)
        · exact ⟨rfl, rfl⟩
        · (apply ent; (repeat constructor); done)
      · skip
        refine l_on rfl rfl ?_
        refine lY (yM rfl) rfl ?_
        refine l_on rfl rfl ?_
        refine lY (yM rfl) rfl ?_
        refine l_on rfl rfl ?_
        apply lL (by kernel_rfl) rfl
        apply ld_call (ct_Store hE) rfl (hE.f (by kernel_rfl))
        · ((repeat constructor); done)
        rintro _ _ ⟨rfl, rfl⟩
        simp only [List.cons_append, List.nil_append]
        refine l_on rfl rfl ?_
        apply lL (by kernel_rfl) rfl
        apply ld_call (ct_len hE) rfl (hE.f (by kernel_rfl))
        · ((repeat constructor); done)
        rintro _ _ ⟨rfl, rfl⟩
        simp only [List.cons_append, List.nil_append]
        refine l_on rfl rfl ?_
        refine lY (y_gt rfl rfl) rfl ?_
        apply lY
        · (first | exact y_pick_t rfl rfl | exact y_pick_f rfl rfl)
        · rfl
        refine l_nil (aT ?_)
        refine w_cond_d rfl (fun h2 => ?_) (fun h2 => ?_)
        · skip
          refine w_seq (wR ?_)
          refine lY (y_iface rfl (hE.t rfl) rfl) rfl ?_
          refine lY (yA rfl) rfl ?_
          refine l_nil (aT (w_ret (a_block_ret (a_then_ret (a_then_ret (a_block_ret (a_then_ret ?_)))))))
          apply a_ret
          · rfl
          · (apply Rs.tmp rfl; exact Rs.nil)
          · exact ⟨rfl, rfl⟩
          · (apply ent; (repeat constructor); done)
        · exfalso; omega
theorem ct_TopB (hE : Seat E) (hB : Base E.w0) {i : Nat} (hi : i ≤ Es.length) (hg : ¬ good (rls Es) i) : Ct E 46 [.pointer (some ⟨pp, 0, none⟩), .int .i64 (i : Nat)] [cells pp [.pointer (some ⟨s, 0, none⟩), .pointer (some ⟨tb, 0, none⟩)] 78, tabP tb s (rls Es), storeP s most Es] (fun v Q => v = .tuple #[.int .i64 0, .iface 43 (.int .i64 4)] ∧ Q = [cells pp [.pointer (some ⟨s, 0, none⟩), .pointer (some ⟨tb, 0, none⟩)] 78, tabP tb s (rls Es), storeP s most Es]) := by
  cases i with
  | zero => exact absurd ⟨Nat.zero_le _, by show (0 : Int) ≤ 0; omega⟩ hg
  | succ i => exact ct_Top_no hE hB (by omega) (by
      have : ¬ 0 ≤ lvl (rls Es) (i + 1) := fun h => hg ⟨by rw [rls_length]; exact hi, h⟩
      omega)
theorem ct_pcheck_four (hE : Seat E) (hB : Base E.w0) {i j : Nat} (hi : i ≤ Es.length) (hj : j ≤ Es.length) (h : ¬ (good (rls Es) i ∧ good (rls Es) j)) : Ct E 36 [.pointer (some ⟨pp, 0, none⟩), .int .i64 (i : Nat), .int .i64 (j : Nat)] [cells pp [.pointer (some ⟨s, 0, none⟩), .pointer (some ⟨tb, 0, none⟩)] 78, tabP tb s (rls Es), storeP s most Es] (fun v Q => v = .iface 43 (.int .i64 4) ∧ Q = [cells pp [.pointer (some ⟨s, 0, none⟩), .pointer (some ⟨tb, 0, none⟩)] 78, tabP tb s (rls Es), storeP s most Es]) := by
  by_cases hgi : good (rls Es) i
  · have hgj : ¬ good (rls Es) j := fun g => h ⟨hgi, g⟩
    refine fn_enter (hE.fn Tryd.func36) rfl rfl rfl (fun R => ?_)
    simp only [argsL, List.cons_append, List.nil_append]
    refine w_seq (wR ?_)
    refine lY (yA rfl) rfl ?_
    refine l_nil (aT (w_seq (w_seq (wR ?_))))
    refine lY (yM rfl) rfl ?_
    apply lL (by kernel_rfl) rfl
    apply ld_call (ct_Store hE) rfl (hE.f (by kernel_rfl))
    · ((repeat constructor); done)
    rintro _ _ ⟨rfl, rfl⟩
    simp only [List.cons_append, List.nil_append]
    apply lY
    · (first | exact y_eq_ptr rfl (hE.t rfl) | exact y_eq_nil rfl (hE.t rfl))
    · rfl
    refine l_nil (aT ?_)
    refine w_cond_f rfl ?_
    refine w_skip (aT (w_seq (w_seq (wR ?_))))
    refine lY (yM rfl) rfl ?_
    refine lY (yM rfl) rfl ?_
    apply lY
    · (first | exact y_build (hE.t rfl) rfl rfl | exact y_buildA (hE.t rfl) rfl rfl)
    · rfl
    refine lY (yM rfl) rfl ?_
    refine l_nil (aT (w_block ?_))
    refine w_rounds 3 ?_
    refine r_succ ?_
    refine w_seq (wR ?_)
    refine lY (y_lt rfl rfl) rfl ?_
    refine l_nil (aT (w_seq ?_))
    refine w_cond_t rfl ?_
    refine w_skip (aT (w_seq (w_block (w_seq (wR ?_)))))
    refine lY (y_idx rfl rfl (hE.t rfl) (hE.t rfl) rfl (by omega) (by omega) rfl) rfl ?_
    refine lY (yA rfl) rfl ?_
    refine l_nil (aT (w_seq (wR ?_)))
    refine lY (yM rfl) rfl ?_
    refine lY (y_lt rfl rfl) rfl ?_
    refine lY (yM rfl) rfl ?_
    refine l_split 25 rfl (fun h1 => ?_) (fun h1 => ?_)
    · exact absurd h1 (by omega)
    skip
    refine l_on rfl rfl ?_
    refine lY (yM rfl) rfl ?_
    refine l_on rfl rfl ?_
    refine lY (yM rfl) rfl ?_
    refine l_on rfl rfl ?_
    apply lL (by kernel_rfl) rfl
    apply ld_call (ct_Store hE) rfl (hE.f (by kernel_rfl))
    · ((repeat constructor); done)
    rintro _ _ ⟨rfl, rfl⟩
    simp only [List.cons_append, List.nil_append]
    refine l_on rfl rfl ?_
    apply lL (by kernel_rfl) rfl
    apply ld_call (ct_len hE) rfl (hE.f (by kernel_rfl))
    · ((repeat constructor); done)
    rintro _ _ ⟨rfl, rfl⟩
    simp only [List.cons_append, List.nil_append]
    refine l_on rfl rfl ?_
    refine lY (y_gt rfl rfl) rfl ?_
    apply lY
    · (first | exact y_pick_t rfl rfl | exact y_pick_f rfl rfl)
    · rfl
    refine l_nil (aT ?_)
    refine w_cond_d rfl (fun h2 => ?_) (fun h2 => ?_)
    · exact absurd h2 (by omega)
    skip
    refine w_skip (a_block (aT (wR ?_)))
    refine lY (y_add rfl rfl (by omega) (by omega)) rfl ?_
    refine lY (yM rfl) rfl ?_
    refine l_nil ?_
    refine a_rd ?_
    refine r_succ ?_
    refine w_seq (wR ?_)
    refine lY (y_lt rfl rfl) rfl ?_
    refine l_nil (aT (w_seq ?_))
    refine w_cond_t rfl ?_
    refine w_skip (aT (w_seq (w_block (w_seq (wR ?_)))))
    refine lY (y_idx rfl rfl (hE.t rfl) (hE.t rfl) rfl (by omega) (by omega) rfl) rfl ?_
    refine lY (yA rfl) rfl ?_
    refine l_nil (aT (w_seq (wR ?_)))
    refine lY (yM rfl) rfl ?_
    refine lY (y_lt rfl rfl) rfl ?_
    refine lY (yM rfl) rfl ?_
    refine l_split 25 rfl (fun h1 => ?_) (fun h1 => ?_)
    · exact absurd h1 (by omega)
    skip
    refine l_on rfl rfl ?_
    refine lY (yM rfl) rfl ?_
    refine l_on rfl rfl ?_
    refine lY (yM rfl) rfl ?_
    refine l_on rfl rfl ?_
    apply lL (by kernel_rfl) rfl
    apply ld_call (ct_Store hE) rfl (hE.f (by kernel_rfl))
    · ((repeat constructor); done)
    rintro _ _ ⟨rfl, rfl⟩
    simp only [List.cons_append, List.nil_append]
    refine l_on rfl rfl ?_
    apply lL (by kernel_rfl) rfl
    apply ld_call (ct_len hE) rfl (hE.f (by kernel_rfl))
    · ((repeat constructor); done)
    rintro _ _ ⟨rfl, rfl⟩
    simp only [List.cons_append, List.nil_append]
    refine l_on rfl rfl ?_
    refine lY (y_gt rfl rfl) rfl ?_
    apply lY
    · (first | exact y_pick_t rfl rfl | exact y_pick_f rfl rfl)
    · rfl
    refine l_nil (aT ?_)
    refine w_cond_d rfl (fun h2 => ?_) (fun h2 => ?_)
    · exact absurd h2 (by omega)
    skip
    refine w_skip (a_block (aT (wR ?_)))
    refine lY (y_add rfl rfl (by omega) (by omega)) rfl ?_
    refine lY (yM rfl) rfl ?_
    refine l_nil ?_
    refine a_rd ?_
    refine r_succ ?_
    refine w_seq (wR ?_)
    refine lY (y_lt rfl rfl) rfl ?_
    refine l_nil (aT (w_seq ?_))
    refine w_cond_f rfl ?_
    refine w_exit (a_then_exit (a_then_exit (a_block_exit (aT (w_seq (w_seq (wR ?_)))))))
    refine lY (yM rfl) rfl ?_
    refine lY (yM rfl) rfl ?_
    apply lY
    · (first | exact y_build (hE.t rfl) rfl rfl | exact y_buildA (hE.t rfl) rfl rfl)
    · rfl
    refine lY (yM rfl) rfl ?_
    refine l_nil (aT (w_block ?_))
    refine w_rounds 3 ?_
    refine r_succ ?_
    refine w_seq (wR ?_)
    refine lY (y_lt rfl rfl) rfl ?_
    refine l_nil (aT (w_seq ?_))
    refine w_cond_t rfl ?_
    refine w_skip (aT (w_seq (w_block (w_seq (wR ?_)))))
    refine lY (y_idx rfl rfl (hE.t rfl) (hE.t rfl) rfl (by omega) (by omega) rfl) rfl ?_
    refine lY (yA rfl) rfl ?_
    refine l_nil (aT (w_seq (wR ?_)))
    refine lY (yM rfl) rfl ?_
    refine lY (yM rfl) rfl ?_
    apply lL (by kernel_rfl) rfl
    apply ld_call (ct_TopN hE hB hgi) rfl (hE.f (by kernel_rfl))
    · ((repeat constructor); done)
    rintro _ _ ⟨rfl, rfl⟩
    simp only [List.cons_append, List.nil_append]
    refine lY (yM rfl) rfl ?_
    refine lY (y_extract rfl rfl) rfl ?_
    refine lY (y_extract rfl rfl) rfl ?_
    refine lY (yA rfl) rfl ?_
    refine lY (yA rfl) rfl ?_
    refine l_nil (aT (w_seq (wR ?_)))
    refine lY (yM rfl) rfl ?_
    apply lY
    · (first | exact y_ok_ne rfl (hE.t rfl) | exact y_err_ne rfl (hE.t rfl))
    · rfl
    refine l_nil (aT ?_)
    refine w_cond_f rfl ?_
    refine w_skip (a_block (aT (wR ?_)))
    refine lY (y_add rfl rfl (by omega) (by omega)) rfl ?_
    refine lY (yM rfl) rfl ?_
    refine l_nil ?_
    refine a_rd ?_
    refine r_succ ?_
    refine w_seq (wR ?_)
    refine lY (y_lt rfl rfl) rfl ?_
    refine l_nil (aT (w_seq ?_))
    refine w_cond_t rfl ?_
    refine w_skip (aT (w_seq (w_block (w_seq (wR ?_)))))
    refine lY (y_idx rfl rfl (hE.t rfl) (hE.t rfl) rfl (by omega) (by omega) rfl) rfl ?_
    refine lY (yA rfl) rfl ?_
    refine l_nil (aT (w_seq (wR ?_)))
    refine lY (yM rfl) rfl ?_
    refine lY (yM rfl) rfl ?_
    apply lL (by kernel_rfl) rfl
    apply ld_call (ct_TopB hE hB hj hgj) rfl (hE.f (by kernel_rfl))
    · ((repeat constructor); done)
    rintro _ _ ⟨rfl, rfl⟩
    simp only [List.cons_append, List.nil_append]
    refine lY (yM rfl) rfl ?_
    refine lY (y_extract rfl rfl) rfl ?_
    refine lY (y_extract rfl rfl) rfl ?_
    refine lY (yA rfl) rfl ?_
    refine lY (yA rfl) rfl ?_
    refine l_nil (aT (w_seq (wR ?_)))
    refine lY (yM rfl) rfl ?_
    apply lY
    · (first | exact y_ok_ne rfl (hE.t rfl) | exact y_err_ne rfl (hE.t rfl))
    · rfl
    refine l_nil (aT ?_)
    refine w_cond_t rfl ?_
    refine w_seq (wR ?_)
    refine lY (yM rfl) rfl ?_
    refine lY (yA rfl) rfl ?_
    refine l_nil (aT (w_ret (a_block_ret (a_then_ret (a_then_ret (a_block_ret (a_then_ret ?_)))))))
    apply a_ret
    · rfl
    · (apply Rs.tmp rfl; exact Rs.nil)
    · exact ⟨rfl, rfl⟩
    · (apply ent; (repeat constructor); done)
  · refine fn_enter (hE.fn Tryd.func36) rfl rfl rfl (fun R => ?_)
    simp only [argsL, List.cons_append, List.nil_append]
    refine w_seq (wR ?_)
    refine lY (yA rfl) rfl ?_
    refine l_nil (aT (w_seq (w_seq (wR ?_))))
    refine lY (yM rfl) rfl ?_
    apply lL (by kernel_rfl) rfl
    apply ld_call (ct_Store hE) rfl (hE.f (by kernel_rfl))
    · ((repeat constructor); done)
    rintro _ _ ⟨rfl, rfl⟩
    simp only [List.cons_append, List.nil_append]
    apply lY
    · (first | exact y_eq_ptr rfl (hE.t rfl) | exact y_eq_nil rfl (hE.t rfl))
    · rfl
    refine l_nil (aT ?_)
    refine w_cond_f rfl ?_
    refine w_skip (aT (w_seq (w_seq (wR ?_))))
    refine lY (yM rfl) rfl ?_
    refine lY (yM rfl) rfl ?_
    apply lY
    · (first | exact y_build (hE.t rfl) rfl rfl | exact y_buildA (hE.t rfl) rfl rfl)
    · rfl
    refine lY (yM rfl) rfl ?_
    refine l_nil (aT (w_block ?_))
    refine w_rounds 3 ?_
    refine r_succ ?_
    refine w_seq (wR ?_)
    refine lY (y_lt rfl rfl) rfl ?_
    refine l_nil (aT (w_seq ?_))
    refine w_cond_t rfl ?_
    refine w_skip (aT (w_seq (w_block (w_seq (wR ?_)))))
    refine lY (y_idx rfl rfl (hE.t rfl) (hE.t rfl) rfl (by omega) (by omega) rfl) rfl ?_
    refine lY (yA rfl) rfl ?_
    refine l_nil (aT (w_seq (wR ?_)))
    refine lY (yM rfl) rfl ?_
    refine lY (y_lt rfl rfl) rfl ?_
    refine lY (yM rfl) rfl ?_
    refine l_split 25 rfl (fun h1 => ?_) (fun h1 => ?_)
    · exact absurd h1 (by omega)
    skip
    refine l_on rfl rfl ?_
    refine lY (yM rfl) rfl ?_
    refine l_on rfl rfl ?_
    refine lY (yM rfl) rfl ?_
    refine l_on rfl rfl ?_
    apply lL (by kernel_rfl) rfl
    apply ld_call (ct_Store hE) rfl (hE.f (by kernel_rfl))
    · ((repeat constructor); done)
    rintro _ _ ⟨rfl, rfl⟩
    simp only [List.cons_append, List.nil_append]
    refine l_on rfl rfl ?_
    apply lL (by kernel_rfl) rfl
    apply ld_call (ct_len hE) rfl (hE.f (by kernel_rfl))
    · ((repeat constructor); done)
    rintro _ _ ⟨rfl, rfl⟩
    simp only [List.cons_append, List.nil_append]
    refine l_on rfl rfl ?_
    refine lY (y_gt rfl rfl) rfl ?_
    apply lY
    · (first | exact y_pick_t rfl rfl | exact y_pick_f rfl rfl)
    · rfl
    refine l_nil (aT ?_)
    refine w_cond_d rfl (fun h2 => ?_) (fun h2 => ?_)
    · exact absurd h2 (by omega)
    skip
    refine w_skip (a_block (aT (wR ?_)))
    refine lY (y_add rfl rfl (by omega) (by omega)) rfl ?_
    refine lY (yM rfl) rfl ?_
    refine l_nil ?_
    refine a_rd ?_
    refine r_succ ?_
    refine w_seq (wR ?_)
    refine lY (y_lt rfl rfl) rfl ?_
    refine l_nil (aT (w_seq ?_))
    refine w_cond_t rfl ?_
    refine w_skip (aT (w_seq (w_block (w_seq (wR ?_)))))
    refine lY (y_idx rfl rfl (hE.t rfl) (hE.t rfl) rfl (by omega) (by omega) rfl) rfl ?_
    refine lY (yA rfl) rfl ?_
    refine l_nil (aT (w_seq (wR ?_)))
    refine lY (yM rfl) rfl ?_
    refine lY (y_lt rfl rfl) rfl ?_
    refine lY (yM rfl) rfl ?_
    refine l_split 25 rfl (fun h1 => ?_) (fun h1 => ?_)
    · exact absurd h1 (by omega)
    skip
    refine l_on rfl rfl ?_
    refine lY (yM rfl) rfl ?_
    refine l_on rfl rfl ?_
    refine lY (yM rfl) rfl ?_
    refine l_on rfl rfl ?_
    apply lL (by kernel_rfl) rfl
    apply ld_call (ct_Store hE) rfl (hE.f (by kernel_rfl))
    · ((repeat constructor); done)
    rintro _ _ ⟨rfl, rfl⟩
    simp only [List.cons_append, List.nil_append]
    refine l_on rfl rfl ?_
    apply lL (by kernel_rfl) rfl
    apply ld_call (ct_len hE) rfl (hE.f (by kernel_rfl))
    · ((repeat constructor); done)
    rintro _ _ ⟨rfl, rfl⟩
    simp only [List.cons_append, List.nil_append]
    refine l_on rfl rfl ?_
    refine lY (y_gt rfl rfl) rfl ?_
    apply lY
    · (first | exact y_pick_t rfl rfl | exact y_pick_f rfl rfl)
    · rfl
    refine l_nil (aT ?_)
    refine w_cond_d rfl (fun h2 => ?_) (fun h2 => ?_)
    · exact absurd h2 (by omega)
    skip
    refine w_skip (a_block (aT (wR ?_)))
    refine lY (y_add rfl rfl (by omega) (by omega)) rfl ?_
    refine lY (yM rfl) rfl ?_
    refine l_nil ?_
    refine a_rd ?_
    refine r_succ ?_
    refine w_seq (wR ?_)
    refine lY (y_lt rfl rfl) rfl ?_
    refine l_nil (aT (w_seq ?_))
    refine w_cond_f rfl ?_
    refine w_exit (a_then_exit (a_then_exit (a_block_exit (aT (w_seq (w_seq (wR ?_)))))))
    refine lY (yM rfl) rfl ?_
    refine lY (yM rfl) rfl ?_
    apply lY
    · (first | exact y_build (hE.t rfl) rfl rfl | exact y_buildA (hE.t rfl) rfl rfl)
    · rfl
    refine lY (yM rfl) rfl ?_
    refine l_nil (aT (w_block ?_))
    refine w_rounds 3 ?_
    refine r_succ ?_
    refine w_seq (wR ?_)
    refine lY (y_lt rfl rfl) rfl ?_
    refine l_nil (aT (w_seq ?_))
    refine w_cond_t rfl ?_
    refine w_skip (aT (w_seq (w_block (w_seq (wR ?_)))))
    refine lY (y_idx rfl rfl (hE.t rfl) (hE.t rfl) rfl (by omega) (by omega) rfl) rfl ?_
    refine lY (yA rfl) rfl ?_
    refine l_nil (aT (w_seq (wR ?_)))
    refine lY (yM rfl) rfl ?_
    refine lY (yM rfl) rfl ?_
    apply lL (by kernel_rfl) rfl
    apply ld_call (ct_TopB hE hB hi hgi) rfl (hE.f (by kernel_rfl))
    · ((repeat constructor); done)
    rintro _ _ ⟨rfl, rfl⟩
    simp only [List.cons_append, List.nil_append]
    refine lY (yM rfl) rfl ?_
    refine lY (y_extract rfl rfl) rfl ?_
    refine lY (y_extract rfl rfl) rfl ?_
    refine lY (yA rfl) rfl ?_
    refine lY (yA rfl) rfl ?_
    refine l_nil (aT (w_seq (wR ?_)))
    refine lY (yM rfl) rfl ?_
    apply lY
    · (first | exact y_ok_ne rfl (hE.t rfl) | exact y_err_ne rfl (hE.t rfl))
    · rfl
    refine l_nil (aT ?_)
    refine w_cond_t rfl ?_
    refine w_seq (wR ?_)
    refine lY (yM rfl) rfl ?_
    refine lY (yA rfl) rfl ?_
    refine l_nil (aT (w_ret (a_block_ret (a_then_ret (a_then_ret (a_block_ret (a_then_ret ?_)))))))
    apply a_ret
    · rfl
    · (apply Rs.tmp rfl; exact Rs.nil)
    · exact ⟨rfl, rfl⟩
    · (apply ent; (repeat constructor); done)
def Chk (E : Env) (pv : Value) (x y e : Int) (P : HP) : Prop := Ct E 36 [pv, .int .i64 x, .int .i64 y] [P] (fun v Q => v = .iface 43 (.int .i64 e) ∧ Q = [P])
section
variable {p0 : Option Addr} {x y e : Int} {P : HP}
theorem ct_Common_err (hE : Seat E) (hc : Chk E (.pointer p0) x y e P) : Ct E 15 [.pointer p0, .int .i64 x, .int .i64 y] [P] (fun v Q => v = .tuple #[.int .i64 0, .iface 43 (.int .i64 e)] ∧ Q = [P]) := by
  refine fn_enter (hE.fn Tryd.func15) rfl rfl rfl (fun R => ?_)
  simp only [argsL, List.cons_append, List.nil_append]
  refine w_seq (wR ?_)
  refine lY (yA rfl) rfl ?_
  refine lY (yA rfl) rfl ?_
  refine l_nil (aT (w_seq (w_seq (wR ?_))))
  refine lY (yM rfl) rfl ?_
  refine lY (yM rfl) rfl ?_
  refine lY (yM rfl) rfl ?_
  apply lL (by kernel_rfl) rfl
  apply ld_call (hc) rfl (hE.f (by kernel_rfl))
  · ((repeat constructor); done)
  rintro _ _ ⟨rfl, rfl⟩
  simp only [List.cons_append, List.nil_append]
  refine lY (yA rfl) rfl ?_
  refine l_nil (aT (w_seq (wR ?_)))
  refine lY (yM rfl) rfl ?_
  apply lY
  · (first | exact y_ok_ne rfl (hE.t rfl) | exact y_err_ne rfl (hE.t rfl))
  · rfl
  refine l_nil (aT ?_)
  refine w_cond_t rfl ?_
  refine w_seq (wR ?_)
  refine lY (yM rfl) rfl ?_
  refine lY (yA rfl) rfl ?_
  refine lY (yA rfl) rfl ?_
  refine l_nil (aT (w_ret (a_then_ret ?_)))
  apply a_ret
  · rfl
  · (apply Rs.tmp rfl; apply Rs.tmp rfl; exact Rs.nil)
  · exact ⟨rfl, rfl⟩
  · (apply ent; (repeat constructor); done)
theorem ct_CommonEnd_err (hE : Seat E) (hc : Chk E (.pointer p0) x y e P) : Ct E 16 [.pointer p0, .int .i64 x, .int .i64 y] [P] (fun v Q => v = .tuple #[.int .i64 0, .iface 43 (.int .i64 e)] ∧ Q = [P]) := by
  refine fn_enter (hE.fn Tryd.func16) rfl rfl rfl (fun R => ?_)
  simp only [argsL, List.cons_append, List.nil_append]
  refine w_seq (wR ?_)
  refine lY (yA rfl) rfl ?_
  refine lY (yA rfl) rfl ?_
  refine l_nil (aT (w_seq (w_seq (wR ?_))))
  refine lY (yM rfl) rfl ?_
  refine lY (yM rfl) rfl ?_
  refine lY (yM rfl) rfl ?_
  apply lL (by kernel_rfl) rfl
  apply ld_call (hc) rfl (hE.f (by kernel_rfl))
  · ((repeat constructor); done)
  rintro _ _ ⟨rfl, rfl⟩
  simp only [List.cons_append, List.nil_append]
  refine lY (yA rfl) rfl ?_
  refine l_nil (aT (w_seq (wR ?_)))
  refine lY (yM rfl) rfl ?_
  apply lY
  · (first | exact y_ok_ne rfl (hE.t rfl) | exact y_err_ne rfl (hE.t rfl))
  · rfl
  refine l_nil (aT ?_)
  refine w_cond_t rfl ?_
  refine w_seq (wR ?_)
  refine lY (yM rfl) rfl ?_
  refine lY (yA rfl) rfl ?_
  refine lY (yA rfl) rfl ?_
  refine l_nil (aT (w_ret (a_then_ret ?_)))
  apply a_ret
  · rfl
  · (apply Rs.tmp rfl; apply Rs.tmp rfl; exact Rs.nil)
  · exact ⟨rfl, rfl⟩
  · (apply ent; (repeat constructor); done)
theorem ct_within_err (hE : Seat E) (hc : Chk E (.pointer p0) x y e P) {a b : Int} : Ct E 40 [.pointer p0, .int .i64 x, .int .i64 a, .int .i64 y, .int .i64 b] [P] (fun v Q => v = .iface 43 (.int .i64 e) ∧ Q = [P]) := by
  refine fn_enter (hE.fn Tryd.func40) rfl rfl rfl (fun R => ?_)
  simp only [argsL, List.cons_append, List.nil_append]
  refine w_seq (wR ?_)
  refine lY (yA rfl) rfl ?_
  refine l_nil (aT (w_seq (w_seq (wR ?_))))
  refine lY (yM rfl) rfl ?_
  refine lY (yM rfl) rfl ?_
  refine lY (yM rfl) rfl ?_
  apply lL (by kernel_rfl) rfl
  apply ld_call (hc) rfl (hE.f (by kernel_rfl))
  · ((repeat constructor); done)
  rintro _ _ ⟨rfl, rfl⟩
  simp only [List.cons_append, List.nil_append]
  refine lY (yA rfl) rfl ?_
  refine l_nil (aT (w_seq (wR ?_)))
  refine lY (yM rfl) rfl ?_
  apply lY
  · (first | exact y_ok_ne rfl (hE.t rfl) | exact y_err_ne rfl (hE.t rfl))
  · rfl
  refine l_nil (aT ?_)
  refine w_cond_t rfl ?_
  refine w_seq (wR ?_)
  refine lY (yM rfl) rfl ?_
  refine lY (yA rfl) rfl ?_
  refine l_nil (aT (w_ret (a_then_ret ?_)))
  apply a_ret
  · rfl
  · (apply Rs.tmp rfl; exact Rs.nil)
  · exact ⟨rfl, rfl⟩
  · (apply ent; (repeat constructor); done)
theorem ct_CommonAt_err (hE : Seat E) (hc : Chk E (.pointer p0) x y e P) {a b : Int} : Ct E 17 [.pointer p0, .int .i64 x, .int .i64 a, .int .i64 y, .int .i64 b] [P] (fun v Q => v = .tuple #[.int .i64 0, .iface 43 (.int .i64 e)] ∧ Q = [P]) := by
  refine fn_enter (hE.fn Tryd.func17) rfl rfl rfl (fun R => ?_)
  simp only [argsL, List.cons_append, List.nil_append]
  refine w_seq (wR ?_)
  refine lY (yA rfl) rfl ?_
  refine lY (yA rfl) rfl ?_
  refine l_nil (aT (w_seq (w_seq (wR ?_))))
  refine lY (yM rfl) rfl ?_
  refine lY (yM rfl) rfl ?_
  refine lY (yM rfl) rfl ?_
  refine lY (yM rfl) rfl ?_
  refine lY (yM rfl) rfl ?_
  apply lL (by kernel_rfl) rfl
  apply ld_call (ct_within_err hE hc) rfl (hE.f (by kernel_rfl))
  · ((repeat constructor); done)
  rintro _ _ ⟨rfl, rfl⟩
  simp only [List.cons_append, List.nil_append]
  refine lY (yA rfl) rfl ?_
  refine l_nil (aT (w_seq (wR ?_)))
  refine lY (yM rfl) rfl ?_
  apply lY
  · (first | exact y_ok_ne rfl (hE.t rfl) | exact y_err_ne rfl (hE.t rfl))
  · rfl
  refine l_nil (aT ?_)
  refine w_cond_t rfl ?_
  refine w_seq (wR ?_)
  refine lY (yM rfl) rfl ?_
  refine lY (yA rfl) rfl ?_
  refine lY (yA rfl) rfl ?_
  refine l_nil (aT (w_ret (a_then_ret ?_)))
  apply a_ret
  · rfl
  · (apply Rs.tmp rfl; apply Rs.tmp rfl; exact Rs.nil)
  · exact ⟨rfl, rfl⟩
  · (apply ent; (repeat constructor); done)
theorem ct_CommonBefore_err (hE : Seat E) (hc : Chk E (.pointer p0) x y e P) {a b : Int} : Ct E 18 [.pointer p0, .int .i64 x, .int .i64 a, .int .i64 y, .int .i64 b] [P] (fun v Q => v = .tuple #[.int .i64 0, .iface 43 (.int .i64 e)] ∧ Q = [P]) := by
  refine fn_enter (hE.fn Tryd.func18) rfl rfl rfl (fun R => ?_)
  simp only [argsL, List.cons_append, List.nil_append]
  refine w_seq (wR ?_)
  refine lY (yA rfl) rfl ?_
  refine lY (yA rfl) rfl ?_
  refine l_nil (aT (w_seq (w_seq (wR ?_))))
  refine lY (yM rfl) rfl ?_
  refine lY (yM rfl) rfl ?_
  refine lY (yM rfl) rfl ?_
  refine lY (yM rfl) rfl ?_
  refine lY (yM rfl) rfl ?_
  apply lL (by kernel_rfl) rfl
  apply ld_call (ct_within_err hE hc) rfl (hE.f (by kernel_rfl))
  · ((repeat constructor); done)
  rintro _ _ ⟨rfl, rfl⟩
  simp only [List.cons_append, List.nil_append]
  refine lY (yA rfl) rfl ?_
  refine l_nil (aT (w_seq (wR ?_)))
  refine lY (yM rfl) rfl ?_
  apply lY
  · (first | exact y_ok_ne rfl (hE.t rfl) | exact y_err_ne rfl (hE.t rfl))
  · rfl
  refine l_nil (aT ?_)
  refine w_cond_t rfl ?_
  refine w_seq (wR ?_)
  refine lY (yM rfl) rfl ?_
  refine lY (yA rfl) rfl ?_
  refine lY (yA rfl) rfl ?_
  refine l_nil (aT (w_ret (a_then_ret ?_)))
  apply a_ret
  · rfl
  · (apply Rs.tmp rfl; apply Rs.tmp rfl; exact Rs.nil)
  · exact ⟨rfl, rfl⟩
  · (apply ent; (repeat constructor); done)
theorem ct_Mismatch_err (hE : Seat E) (hc : Chk E (.pointer p0) x y e P) : Ct E 19 [.pointer p0, .int .i64 x, .int .i64 y] [P] (fun v Q => v = .tuple #[.int .i64 0, .bool false, .iface 43 (.int .i64 e)] ∧ Q = [P]) := by
  refine fn_enter (hE.fn Tryd.func19) rfl rfl rfl (fun R => ?_)
  simp only [argsL, List.cons_append, List.nil_append]
  refine w_seq (wR ?_)
  refine lY (yA rfl) rfl ?_
  refine lY (yA rfl) rfl ?_
  refine lY (yA rfl) rfl ?_
  refine l_nil (aT (w_seq (wR ?_)))
  refine lY (yM rfl) rfl ?_
  refine lY (yM rfl) rfl ?_
  refine lY (yM rfl) rfl ?_
  apply lL (by kernel_rfl) rfl
  apply ld_call (ct_Common_err hE hc) rfl (hE.f (by kernel_rfl))
  · ((repeat constructor); done)
  rintro _ _ ⟨rfl, rfl⟩
  simp only [List.cons_append, List.nil_append]
  refine lY (yM rfl) rfl ?_
  refine lY (y_extract rfl rfl) rfl ?_
  refine lY (y_extract rfl rfl) rfl ?_
  refine lY (yA rfl) rfl ?_
  refine lY (yA rfl) rfl ?_
  refine l_nil (aT (w_seq (w_seq (wR ?_))))
  refine lY (yM rfl) rfl ?_
  apply lY
  · (first | exact y_ok_ne rfl (hE.t rfl) | exact y_err_ne rfl (hE.t rfl))
  · rfl
  refine l_nil (aT ?_)
  refine w_cond_t rfl ?_
  refine w_seq (wR ?_)
  refine lY (yM rfl) rfl ?_
  refine lY (yA rfl) rfl ?_
  refine lY (yA rfl) rfl ?_
  refine lY (yA rfl) rfl ?_
  refine l_nil (aT (w_ret (a_then_ret ?_)))
  apply a_ret
  · rfl
  · (apply Rs.tmp rfl; apply Rs.tmp rfl; apply Rs.tmp rfl; exact Rs.nil)
  · exact ⟨rfl, rfl⟩
  · (apply ent; (repeat constructor); done)
end
theorem ct_Mismatch_any (hE : Seat E) (hB : Base E.w0) {i j : Nat} (hi : good (rls Es) i) (hj : good (rls Es) j) :
    Ct E 19 [.pointer (some ⟨pp, 0, none⟩), .int .i64 (i : Nat), .int .i64 (j : Nat)] [cells pp [.pointer (some ⟨s, 0, none⟩), .pointer (some ⟨tb, 0, none⟩)] 78, tabP tb s (rls Es), storeP s most Es] (fun v Q => (∃ a b, v = .tuple #[a, b, .nilIface]) ∧ Q = [cells pp [.pointer (some ⟨s, 0, none⟩), .pointer (some ⟨tb, 0, none⟩)] 78, tabP tb s (rls Es), storeP s most Es]) := by
  refine fn_enter (hE.fn Tryd.func19) rfl rfl rfl (fun R => ?_)
  simp only [argsL, List.cons_append, List.nil_append]
  refine w_seq (wR ?_)
  refine lY (yA rfl) rfl ?_
  refine lY (yA rfl) rfl ?_
  refine lY (yA rfl) rfl ?_
  refine l_nil (aT (w_seq (wR ?_)))
  refine lY (yM rfl) rfl ?_
  refine lY (yM rfl) rfl ?_
  refine lY (yM rfl) rfl ?_
  apply lL (by kernel_rfl) rfl
  apply ld_call (ct_Common hE hB hi hj) rfl (hE.f (by kernel_rfl))
  · ((repeat constructor); done)
  rintro _ _ ⟨n, rfl, h1, h2, rfl⟩
  simp only [List.cons_append, List.nil_append]
  refine lY (yM rfl) rfl ?_
  refine lY (y_extract rfl rfl) rfl ?_
  refine lY (y_extract rfl rfl) rfl ?_
  refine lY (yA rfl) rfl ?_
  refine lY (yA rfl) rfl ?_
  refine l_nil (aT (w_seq (w_seq (wR ?_))))
  refine lY (yM rfl) rfl ?_
  apply lY
  · (first | exact y_ok_ne rfl (hE.t rfl) | exact y_err_ne rfl (hE.t rfl))
  · rfl
  refine l_nil (aT ?_)
  refine w_cond_f rfl ?_
  refine w_skip (aT (w_seq (w_seq (wR ?_))))
  refine lY (yM rfl) rfl ?_
  refine lY (yM rfl) rfl ?_
  refine lY (yM rfl) rfl ?_
  apply lL (by kernel_rfl) rfl
  apply ld_call (ct_sizeN hE hi.1) rfl (hE.f (by kernel_rfl))
  · ((repeat constructor); done)
  rintro _ _ ⟨rfl, rfl⟩
  simp only [List.cons_append, List.nil_append]
  refine lY (y_eq rfl rfl) rfl ?_
  refine lY (yM rfl) rfl ?_
  refine l_split 26 rfl (fun e1 => ?_) (fun e1 => ?_)
  · skip
    refine l_on rfl rfl ?_
    refine lY (yM rfl) rfl ?_
    refine l_on rfl rfl ?_
    refine lY (yM rfl) rfl ?_
    refine l_on rfl rfl ?_
    refine lY (yM rfl) rfl ?_
    refine l_on rfl rfl ?_
    apply lL (by kernel_rfl) rfl
    apply ld_call (ct_sizeN hE hj.1) rfl (hE.f (by kernel_rfl))
    · ((repeat constructor); done)
    rintro _ _ ⟨rfl, rfl⟩
    simp only [List.cons_append, List.nil_append]
    refine l_on rfl rfl ?_
    refine lY (y_eq rfl rfl) rfl ?_
    apply lY
    · (first | exact y_pick_t rfl rfl | exact y_pick_f rfl rfl)
    · rfl
    refine l_nil (aT ?_)
    refine w_cond_d rfl (fun e2 => ?_) (fun e2 => ?_)
    · skip
      refine w_seq (wR ?_)
      refine lY (yA rfl) rfl ?_
      refine lY (yA rfl) rfl ?_
      refine lY (yA rfl) rfl ?_
      refine l_nil (aT (w_ret (a_then_ret ?_)))
      apply a_ret
      · rfl
      · (apply Rs.tmp rfl; apply Rs.tmp rfl; apply Rs.tmp rfl; exact Rs.nil)
      · exact ⟨⟨_, _, rfl⟩, rfl⟩
      · (apply ent; (repeat constructor); done)
    · skip
      refine w_skip (aT (w_seq (wR ?_)))
      refine lY (yM rfl) rfl ?_
      refine lY (yA rfl) rfl ?_
      refine lY (yA rfl) rfl ?_
      refine lY (yA rfl) rfl ?_
      refine l_nil (aT (w_ret ?_))
      apply a_ret
      · rfl
      · (apply Rs.tmp rfl; apply Rs.tmp rfl; apply Rs.tmp rfl; exact Rs.nil)
      · exact ⟨⟨_, _, rfl⟩, rfl⟩
      · (apply ent; (repeat constructor); done)
  · skip
    refine l_off rfl rfl rfl rfl (l_off rfl rfl rfl rfl (l_off rfl rfl rfl rfl (l_off rfl rfl rfl rfl (l_off rfl rfl rfl rfl ?_))))
    apply lY
    · (first | exact y_pick_t rfl rfl | exact y_pick_f rfl rfl)
    · rfl
    refine l_nil (aT ?_)
    refine w_cond_f rfl ?_
    refine w_skip (aT (w_seq (wR ?_)))
    refine lY (yM rfl) rfl ?_
    refine lY (yA rfl) rfl ?_
    refine lY (yA rfl) rfl ?_
    refine lY (yA rfl) rfl ?_
    refine l_nil (aT (w_ret ?_))
    apply a_ret
    · rfl
    · (apply Rs.tmp rfl; apply Rs.tmp rfl; apply Rs.tmp rfl; exact Rs.nil)
    · exact ⟨⟨_, _, rfl⟩, rfl⟩
    · (apply ent; (repeat constructor); done)
end Go.Proofs.YtekhbjlplfbdkaaDoor
