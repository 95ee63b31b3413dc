/- Package period: Border, Square, Exponent; the references. -/
import Derived.Test.YtlmdkaniblhdmaaDoorQ14
set_option linter.unusedVariables false
set_option linter.unusedSimpArgs false
namespace Go.Proofs.YtlmdkaniblhdmaaDoor
open Go Go.RowKit Sl Eg
set_option maxRecDepth 10000
variable {E : Env} {Es : List Ent} {pp tb s most : Nat}
/-- The error with a number; 0: none. -/
def errV : Nat → Value
  | 0 => .nilIface
  | e + 1 => .iface 38 (.int .i64 ((e + 1 : Nat) : Int))
theorem ct_NumE (hE : Seat E) {e : Nat} : Ct E 40 [errV e] [] (fun v Q => v = .int .i64 (e : Nat) ∧ Q = []) := by
  cases e with
  | zero => exact ct_Num0 hE
  | succ e => exact ct_Num hE
def inB_ (T : List UInt8) (n : Int) : Prop := 0 ≤ n ∧ n ≤ (T.length : Nat)
instance (T : List UInt8) (n : Int) : Decidable (inB_ T n) := inferInstanceAs (Decidable (_ ∧ _))
/-- Border: the result and the error's number. -/
def bord (T : List UInt8) (n : Int) : Bool × Nat := if inB_ T n then (decide (lcp T (T.drop (T.length - n.toNat)) = n.toNat), 0) else (false, 1)
def inS_ (T : List UInt8) (p d : Int) : Prop := 1 ≤ d ∧ 0 ≤ p ∧ p ≤ (T.length : Nat) ∧ 2 * d ≤ (T.length : Nat) - p
instance (T : List UInt8) (p d : Int) : Decidable (inS_ T p d) := inferInstanceAs (Decidable (_ ∧ _))
def sqr (T : List UInt8) (p d : Int) : Bool × Nat := if inS_ T p d then (decide (d.toNat ≤ lcp (T.drop p.toNat) (T.drop (p.toNat + d.toNat))), 0) else (false, 1)
/-- Exponent: the number of copies and the error's number. -/
def expo (T : List UInt8) (d : Int) : Nat × Nat := if d < 1 then (0, 1) else if T.length = 0 ∨ ¬ T.length % d.toNat = 0 ∨ ¬ Per T d.toNat then (0, 0) else (T.length / d.toNat, 0)
theorem ct_Border (hE : Seat E) (hB : Base E.w0) {i : Nat} {n : Int} (hi : good (rls Es) i) (hs : len (rls Es) i < 4194304) : Ct E 41 [.pointer (some ⟨pp, 0, none⟩), .int .i64 (i : Nat), .int .i64 n] [cells pp [.pointer (some ⟨s, 0, none⟩), .pointer (some ⟨tb, 0, none⟩)] 108, tabP tb s (rls Es), storeP s most Es] (fun v Q => v = .tuple #[.bool (bord (txt (rls Es) i) n).1, errV (bord (txt (rls Es) i) n).2] ∧ Q = [cells pp [.pointer (some ⟨s, 0, none⟩), .pointer (some ⟨tb, 0, none⟩)] 108, tabP tb s (rls Es), storeP s most Es]) := by
  have hl : len (rls Es) i = (txt (rls Es) i).length := rfl
  refine fn_enter (hE.fn Tryd.func41) rfl rfl rfl (fun R => ?_)
  simp only [argsL, List.cons_append, List.nil_append]
  refine w_seq (w_region ?_)
  refine l_yield (y_assign rfl) rfl ?_
  refine l_yield (y_assign rfl) rfl ?_
  refine l_nil (a_then (w_seq (w_region ?_)))
  refine l_yield (y_move rfl) rfl ?_
  refine l_yield (y_move rfl) rfl ?_
  apply l_loud (by kernel_rfl) rfl
  apply ld_call (ct_pcheck hE hB hi) rfl (hE.f (by kernel_rfl))
  · ((repeat constructor); done)
  rintro _ _ ⟨rfl, rfl⟩
  simp only [List.cons_append, List.nil_append]
  refine l_yield (y_move rfl) rfl ?_
  refine l_yield (y_extract rfl rfl) rfl ?_
  refine l_yield (y_extract rfl rfl) rfl ?_
  refine l_yield (y_assign rfl) rfl ?_
  refine l_yield (y_assign rfl) rfl ?_
  refine l_nil (a_then (w_seq (w_seq (w_region ?_))))
  refine l_yield (y_move rfl) rfl ?_
  apply l_yield
  · (first | exact y_ok_ne rfl (hE.t rfl) | exact y_err_ne rfl (hE.t rfl))
  · rfl
  refine l_nil (a_then ?_)
  refine w_cond_f rfl ?_
  refine w_skip (a_then (w_seq (w_seq (w_region ?_))))
  refine l_yield (y_move rfl) rfl ?_
  refine l_yield (y_lt rfl rfl) rfl ?_
  refine l_yield (y_move rfl) rfl ?_
  refine l_split 22 rfl (fun h1 => ?_) (fun h1 => ?_)
  · skip
    refine l_off rfl rfl rfl rfl (l_off rfl rfl rfl rfl (l_off rfl rfl rfl rfl ?_))
    apply l_yield
    · (first | exact y_pick_t rfl rfl | exact y_pick_f rfl rfl)
    · rfl
    refine l_nil (a_then ?_)
    refine w_cond_t rfl ?_
    refine w_seq (w_region ?_)
    refine l_yield (y_iface rfl (hE.t rfl) rfl) rfl ?_
    refine l_yield (y_assign rfl) rfl ?_
    refine l_yield (y_assign rfl) rfl ?_
    refine l_nil (a_then (w_ret (a_then_ret ?_)))
    apply a_ret
    · rfl
    · (apply Rs.tmp rfl; apply Rs.tmp rfl; exact Rs.nil)
    · refine ⟨?_, rfl⟩
      rw [show bord (txt (rls Es) i) n = (false, 1) from if_neg (by unfold inB_; omega)]
      rfl
    · (apply ent; (repeat constructor); done)
  skip
  refine l_on rfl rfl ?_
  refine l_yield (y_move rfl) rfl ?_
  refine l_on rfl rfl ?_
  refine l_yield (y_move rfl) rfl ?_
  refine l_on rfl rfl ?_
  refine l_yield (y_gt rfl rfl) rfl ?_
  apply l_yield
  · (first | exact y_pick_t rfl rfl | exact y_pick_f rfl rfl)
  · rfl
  refine l_nil (a_then ?_)
  refine w_cond_d rfl (fun h2 => ?_) (fun h2 => ?_)
  · skip
    refine w_seq (w_region ?_)
    refine l_yield (y_iface rfl (hE.t rfl) rfl) rfl ?_
    refine l_yield (y_assign rfl) rfl ?_
    refine l_yield (y_assign rfl) rfl ?_
    refine l_nil (a_then (w_ret (a_then_ret ?_)))
    apply a_ret
    · rfl
    · (apply Rs.tmp rfl; apply Rs.tmp rfl; exact Rs.nil)
    · refine ⟨?_, rfl⟩
      rw [show bord (txt (rls Es) i) n = (false, 1) from if_neg (by unfold inB_; omega)]
      rfl
    · (apply ent; (repeat constructor); done)
  skip
  obtain ⟨k, rfl⟩ := Int.eq_ofNat_of_zero_le (show 0 ≤ n by omega)
  refine w_skip (a_then (w_seq (w_region ?_)))
  refine l_yield (y_move rfl) rfl ?_
  refine l_yield (y_move rfl) rfl ?_
  refine l_yield (y_move rfl) rfl ?_
  refine l_yield (y_move rfl) rfl ?_
  refine l_yield (y_move rfl) rfl ?_
  refine l_yield (y_sub rfl rfl (by omega) (by omega)) rfl ?_
  refine l_eq 34 (.int .i64 ((len (rls Es) i - k : Nat) : Int)) rfl (int_eq (by omega)) ?_
  apply l_loud (by kernel_rfl) rfl
  apply ld_call (ct_CommonAt (x := 0) (y := len (rls Es) i - k) hE hB hi hi (Nat.zero_le _) (Nat.sub_le _ _)) rfl (hE.f (by kernel_rfl))
  · ((repeat constructor); done)
  rintro _ _ ⟨c, rfl, -, e1, rfl⟩
  obtain rfl : c = lcp (txt (rls Es) i) ((txt (rls Es) i).drop (len (rls Es) i - k)) := by rw [e1 (by simp only [List.length_drop, tx_length]; omega), tx_f, List.drop_zero]
  simp only [List.cons_append, List.nil_append]
  refine l_yield (y_move rfl) rfl ?_
  refine l_yield (y_extract rfl rfl) rfl ?_
  refine l_yield (y_extract rfl rfl) rfl ?_
  refine l_yield (y_assign rfl) rfl ?_
  refine l_yield (y_assign rfl) rfl ?_
  refine l_nil (a_then (w_seq (w_seq (w_region ?_))))
  refine l_yield (y_move rfl) rfl ?_
  apply l_yield
  · (first | exact y_ok_ne rfl (hE.t rfl) | exact y_err_ne rfl (hE.t rfl))
  · rfl
  refine l_nil (a_then ?_)
  refine w_cond_f rfl ?_
  refine w_skip (a_then (w_seq (w_region ?_)))
  refine l_yield (y_move rfl) rfl ?_
  refine l_yield (y_move rfl) rfl ?_
  refine l_yield (y_eq rfl rfl) rfl ?_
  refine l_yield (y_assign rfl) rfl ?_
  refine l_yield (y_assign rfl) rfl ?_
  refine l_nil (a_then (w_ret ?_))
  apply a_ret
  · rfl
  · (apply Rs.tmp rfl; apply Rs.tmp rfl; exact Rs.nil)
  · refine ⟨?_, rfl⟩
    rw [show bord (txt (rls Es) i) ((k : Nat) : Int) = (decide (lcp (txt (rls Es) i) ((txt (rls Es) i).drop ((txt (rls Es) i).length - k)) = k), 0) from if_pos (by unfold inB_; omega)]
    exact tup_bool (by rw [hl]; omega)
  · (apply ent; (repeat constructor); done)
theorem ct_refBorder (hE : Seat E) {a : List UInt8} {n : Int} (ha : a.length ≤ 1152921504606846976) : Ct E 42 [.string ⟨⟨a⟩⟩, .int .i64 n] [] (fun v Q => v = .tuple #[.bool (bord a n).1, .int .i64 ((bord a n).2 : Nat)] ∧ Q = []) := by
  have sa := size_mk a
  refine fn_enter (hE.fn Tryd.func42) rfl rfl rfl (fun R => ?_)
  simp only [argsL, List.cons_append, List.nil_append]
  refine w_seq (w_region ?_)
  refine l_yield (y_assign rfl) rfl ?_
  refine l_yield (y_assign rfl) rfl ?_
  refine l_nil (a_then (w_seq (w_seq (w_region ?_))))
  refine l_yield (y_move rfl) rfl ?_
  refine l_yield (y_lt rfl rfl) rfl ?_
  refine l_yield (y_move rfl) rfl ?_
  refine l_split 8 rfl (fun h1 => ?_) (fun h1 => ?_)
  · skip
    refine l_off rfl rfl rfl rfl (l_off rfl rfl rfl rfl (l_off rfl rfl rfl rfl (l_off rfl rfl rfl rfl ?_)))
    apply l_yield
    · (first | exact y_pick_t rfl rfl | exact y_pick_f rfl rfl)
    · rfl
    refine l_nil (a_then ?_)
    refine w_cond_t rfl ?_
    refine w_seq (w_region ?_)
    refine l_yield (y_assign rfl) rfl ?_
    refine l_yield (y_assign rfl) rfl ?_
    refine l_nil (a_then (w_ret (a_then_ret ?_)))
    apply a_ret
    · rfl
    · (apply Rs.tmp rfl; apply Rs.tmp rfl; exact Rs.nil)
    · refine ⟨?_, rfl⟩
      rw [show bord a n = (false, 1) from if_neg (by unfold inB_; omega)]
      rfl
    · (apply ent; (repeat constructor); done)
  skip
  refine l_on rfl rfl ?_
  refine l_yield (y_move rfl) rfl ?_
  refine l_on rfl rfl ?_
  refine l_yield (y_move rfl) rfl ?_
  refine l_on rfl rfl ?_
  refine l_yield (y_len_str rfl (hE.t rfl)) rfl ?_
  refine l_on rfl rfl ?_
  refine l_yield (y_gt rfl rfl) rfl ?_
  apply l_yield
  · (first | exact y_pick_t rfl rfl | exact y_pick_f rfl rfl)
  · rfl
  refine l_nil (a_then ?_)
  refine w_cond_d rfl (fun h2 => ?_) (fun h2 => ?_)
  · skip
    refine w_seq (w_region ?_)
    refine l_yield (y_assign rfl) rfl ?_
    refine l_yield (y_assign rfl) rfl ?_
    refine l_nil (a_then (w_ret (a_then_ret ?_)))
    apply a_ret
    · rfl
    · (apply Rs.tmp rfl; apply Rs.tmp rfl; exact Rs.nil)
    · refine ⟨?_, rfl⟩
      rw [show bord a n = (false, 1) from if_neg (by unfold inB_; omega)]
      rfl
    · (apply ent; (repeat constructor); done)
  skip
  obtain ⟨k, rfl⟩ := Int.eq_ofNat_of_zero_le (show 0 ≤ n by omega)
  have hk : k ≤ a.length := by omega
  skip
  refine w_skip (a_then (w_seq (w_draws (by kernel_rfl) ?_)))
  refine l_yield (y_move rfl) rfl ?_
  refine l_yield (y_move rfl) rfl ?_
  apply l_yield
  · exact y_slice_str (h := k) rfl (hE.t rfl) rfl ⟨_, rfl⟩ (Nat.zero_le _) (by omega)
  · rfl
  refine l_yield (y_move rfl) rfl ?_
  refine l_yield (y_move rfl) rfl ?_
  refine l_yield (y_len_str rfl (hE.t rfl)) rfl ?_
  refine l_yield (y_move rfl) rfl ?_
  refine l_yield (y_sub rfl rfl (by omega) (by omega)) rfl ?_
  apply l_yield
  · exact y_slice_str (l := a.length - k) rfl (hE.t rfl) ⟨.i64, congrArg (fun v => some (Value.int IntKind.i64 v)) (by omega)⟩ rfl (by omega) (Nat.le_refl _)
  · rfl
  rw [extract_mk a 0 k hk, extract_mk a _ _ (Nat.le_of_eq sa), size_mk, List.take_length, List.drop_zero]
  refine l_yield (y_eq_str rfl rfl) rfl ?_
  refine l_yield (y_assign rfl) rfl ?_
  refine l_yield (y_assign rfl) rfl ?_
  refine l_nil (a_then (w_ret ?_))
  apply a_ret
  · rfl
  · (apply Rs.tmp rfl; apply Rs.tmp rfl; exact Rs.nil)
  · refine ⟨?_, rfl⟩
    rw [show bord a ((k : Nat) : Int) = (decide (lcp a (a.drop (a.length - k)) = k), 0) from if_pos (by unfold inB_; omega)]
    refine tup_bool ?_
    have hle := (lcp_le a (a.drop (a.length - k))).2
    have ht := lcp_take (A := a) (B := a.drop (a.length - k)) hk (by rw [List.length_drop]; omega)
    rw [List.take_of_length_le (l := a.drop (a.length - k)) (by rw [List.length_drop]; omega)] at ht
    rw [← ht]
    rw [List.length_drop] at hle
    omega
  · (apply ent; (repeat constructor); done)
end Go.Proofs.YtlmdkaniblhdmaaDoor
/- Package period: Square, Exponent; the references. -/
namespace Go.Proofs.YtlmdkaniblhdmaaDoor
open Go Go.RowKit Sl Eg
set_option maxRecDepth 10000
variable {E : Env} {Es : List Ent} {pp tb s most : Nat}
theorem ct_Square (hE : Seat E) (hB : Base E.w0) {i : Nat} {p d : Int} (hi : good (rls Es) i) (hs : len (rls Es) i < 4194304) : Ct E 43 [.pointer (some ⟨pp, 0, none⟩), .int .i64 (i : Nat), .int .i64 p, .int .i64 d] [cells pp [.pointer (some ⟨s, 0, none⟩), .pointer (some ⟨tb, 0, none⟩)] 108, tabP tb s (rls Es), storeP s most Es] (fun v Q => v = .tuple #[.bool (sqr (txt (rls Es) i) p d).1, errV (sqr (txt (rls Es) i) p d).2] ∧ Q = [cells pp [.pointer (some ⟨s, 0, none⟩), .pointer (some ⟨tb, 0, none⟩)] 108, tabP tb s (rls Es), storeP s most Es]) := by
  have hl : len (rls Es) i = (txt (rls Es) i).length := rfl
  refine fn_enter (hE.fn Tryd.func43) rfl rfl rfl (fun R => ?_)
  simp only [argsL, List.cons_append, List.nil_append]
  refine w_seq (w_region ?_)
  refine l_yield (y_assign rfl) rfl ?_
  refine l_yield (y_assign rfl) rfl ?_
  refine l_nil (a_then (w_seq (w_region ?_)))
  refine l_yield (y_move rfl) rfl ?_
  refine l_yield (y_move rfl) rfl ?_
  apply l_loud (by kernel_rfl) rfl
  apply ld_call (ct_pcheck hE hB hi) rfl (hE.f (by kernel_rfl))
  · ((repeat constructor); done)
  rintro _ _ ⟨rfl, rfl⟩
  simp only [List.cons_append, List.nil_append]
  refine l_yield (y_move rfl) rfl ?_
  refine l_yield (y_extract rfl rfl) rfl ?_
  refine l_yield (y_extract rfl rfl) rfl ?_
  refine l_yield (y_assign rfl) rfl ?_
  refine l_yield (y_assign rfl) rfl ?_
  refine l_nil (a_then (w_seq (w_seq (w_region ?_))))
  refine l_yield (y_move rfl) rfl ?_
  apply l_yield
  · (first | exact y_ok_ne rfl (hE.t rfl) | exact y_err_ne rfl (hE.t rfl))
  · rfl
  refine l_nil (a_then ?_)
  refine w_cond_f rfl ?_
  refine w_skip (a_then (w_seq (w_seq (w_region ?_))))
  refine l_yield (y_move rfl) rfl ?_
  refine l_yield (y_lt rfl rfl) rfl ?_
  refine l_yield (y_move rfl) rfl ?_
  refine l_split 24 rfl (fun h1 => ?_) (fun h1 => ?_)
  · skip
    refine l_off rfl rfl rfl rfl (l_off rfl rfl rfl rfl ?_)
    apply l_yield
    · (first | exact y_pick_t rfl rfl | exact y_pick_f rfl rfl)
    · rfl
    refine l_yield (y_move rfl) rfl ?_
    skip
    refine l_off rfl rfl rfl rfl (l_off rfl rfl rfl rfl (l_off rfl rfl rfl rfl ?_))
    apply l_yield
    · (first | exact y_pick_t rfl rfl | exact y_pick_f rfl rfl)
    · rfl
    refine l_yield (y_move rfl) rfl ?_
    skip
    refine l_off rfl rfl rfl rfl (l_off rfl rfl rfl rfl (l_off rfl rfl rfl rfl (l_off rfl rfl rfl rfl (l_off rfl rfl rfl rfl (l_off rfl rfl rfl rfl ?_)))))
    apply l_yield
    · (first | exact y_pick_t rfl rfl | exact y_pick_f rfl rfl)
    · rfl
    refine l_nil (a_then ?_)
    refine w_cond_t rfl ?_
    refine w_seq (w_region ?_)
    refine l_yield (y_iface rfl (hE.t rfl) rfl) rfl ?_
    refine l_yield (y_assign rfl) rfl ?_
    refine l_yield (y_assign rfl) rfl ?_
    refine l_nil (a_then (w_ret (a_then_ret ?_)))
    apply a_ret
    · rfl
    · (apply Rs.tmp rfl; apply Rs.tmp rfl; exact Rs.nil)
    · refine ⟨?_, rfl⟩
      rw [show sqr (txt (rls Es) i) p d = (false, 1) from if_neg (by unfold inS_; omega)]
      rfl
    · (apply ent; (repeat constructor); done)
  skip
  refine l_on rfl rfl ?_
  refine l_yield (y_move rfl) rfl ?_
  refine l_on rfl rfl ?_
  refine l_yield (y_lt rfl rfl) rfl ?_
  apply l_yield
  · (first | exact y_pick_t rfl rfl | exact y_pick_f rfl rfl)
  · rfl
  refine l_yield (y_move rfl) rfl ?_
  refine l_split 28 rfl (fun h2 => ?_) (fun h2 => ?_)
  · skip
    refine l_off rfl rfl rfl rfl (l_off rfl rfl rfl rfl (l_off rfl rfl rfl rfl ?_))
    apply l_yield
    · (first | exact y_pick_t rfl rfl | exact y_pick_f rfl rfl)
    · rfl
    refine l_yield (y_move rfl) rfl ?_
    skip
    refine l_off rfl rfl rfl rfl (l_off rfl rfl rfl rfl (l_off rfl rfl rfl rfl (l_off rfl rfl rfl rfl (l_off rfl rfl rfl rfl (l_off rfl rfl rfl rfl ?_)))))
    apply l_yield
    · (first | exact y_pick_t rfl rfl | exact y_pick_f rfl rfl)
    · rfl
    refine l_nil (a_then ?_)
    refine w_cond_t rfl ?_
    refine w_seq (w_region ?_)
    refine l_yield (y_iface rfl (hE.t rfl) rfl) rfl ?_
    refine l_yield (y_assign rfl) rfl ?_
    refine l_yield (y_assign rfl) rfl ?_
    refine l_nil (a_then (w_ret (a_then_ret ?_)))
    apply a_ret
    · rfl
    · (apply Rs.tmp rfl; apply Rs.tmp rfl; exact Rs.nil)
    · refine ⟨?_, rfl⟩
      rw [show sqr (txt (rls Es) i) p d = (false, 1) from if_neg (by unfold inS_; omega)]
      rfl
    · (apply ent; (repeat constructor); done)
  skip
  refine l_on rfl rfl ?_
  refine l_yield (y_move rfl) rfl ?_
  refine l_on rfl rfl ?_
  refine l_yield (y_move rfl) rfl ?_
  refine l_on rfl rfl ?_
  refine l_yield (y_gt rfl rfl) rfl ?_
  apply l_yield
  · (first | exact y_pick_t rfl rfl | exact y_pick_f rfl rfl)
  · rfl
  refine l_yield (y_move rfl) rfl ?_
  refine l_split 33 rfl (fun h3 => ?_) (fun h3 => ?_)
  · skip
    refine l_off rfl rfl rfl rfl (l_off rfl rfl rfl rfl (l_off rfl rfl rfl rfl (l_off rfl rfl rfl rfl (l_off rfl rfl rfl rfl (l_off rfl rfl rfl rfl ?_)))))
    apply l_yield
    · (first | exact y_pick_t rfl rfl | exact y_pick_f rfl rfl)
    · rfl
    refine l_nil (a_then ?_)
    refine w_cond_t rfl ?_
    refine w_seq (w_region ?_)
    refine l_yield (y_iface rfl (hE.t rfl) rfl) rfl ?_
    refine l_yield (y_assign rfl) rfl ?_
    refine l_yield (y_assign rfl) rfl ?_
    refine l_nil (a_then (w_ret (a_then_ret ?_)))
    apply a_ret
    · rfl
    · (apply Rs.tmp rfl; apply Rs.tmp rfl; exact Rs.nil)
    · refine ⟨?_, rfl⟩
      rw [show sqr (txt (rls Es) i) p d = (false, 1) from if_neg (by unfold inS_; omega)]
      rfl
    · (apply ent; (repeat constructor); done)
  skip
  refine l_on rfl rfl ?_
  refine l_yield (y_move rfl) rfl ?_
  refine l_on rfl rfl ?_
  refine l_yield (y_move rfl) rfl ?_
  refine l_on rfl rfl ?_
  refine l_yield (y_move rfl) rfl ?_
  refine l_on rfl rfl ?_
  refine l_yield (y_sub rfl rfl (by omega) (by omega)) rfl ?_
  refine l_on rfl rfl ?_
  refine l_yield (y_quo rfl rfl (by omega) (by omega) (by omega)) rfl ?_
  refine l_on rfl rfl ?_
  refine l_yield (y_gt rfl rfl) rfl ?_
  apply l_yield
  · (first | exact y_pick_t rfl rfl | exact y_pick_f rfl rfl)
  · rfl
  refine l_nil (a_then ?_)
  refine w_cond_d rfl (fun h4 => ?_) (fun h4 => ?_)
  · skip
    refine w_seq (w_region ?_)
    refine l_yield (y_iface rfl (hE.t rfl) rfl) rfl ?_
    refine l_yield (y_assign rfl) rfl ?_
    refine l_yield (y_assign rfl) rfl ?_
    refine l_nil (a_then (w_ret (a_then_ret ?_)))
    apply a_ret
    · rfl
    · (apply Rs.tmp rfl; apply Rs.tmp rfl; exact Rs.nil)
    · refine ⟨?_, rfl⟩
      rw [show sqr (txt (rls Es) i) p d = (false, 1) from if_neg (by unfold inS_; omega)]
      rfl
    · (apply ent; (repeat constructor); done)
  skip
  obtain ⟨q, rfl⟩ := Int.eq_ofNat_of_zero_le (show 0 ≤ p by omega)
  obtain ⟨k, rfl⟩ := Int.eq_ofNat_of_zero_le (show 0 ≤ d by omega)
  refine w_skip (a_then (w_seq (w_region ?_)))
  refine l_yield (y_move rfl) rfl ?_
  refine l_yield (y_move rfl) rfl ?_
  refine l_yield (y_move rfl) rfl ?_
  refine l_yield (y_move rfl) rfl ?_
  refine l_yield (y_move rfl) rfl ?_
  refine l_yield (y_move rfl) rfl ?_
  refine l_yield (y_add rfl rfl (by omega) (by omega)) rfl ?_
  refine l_eq 49 (.int .i64 ((q + k : Nat) : Int)) rfl (int_eq (by omega)) ?_
  apply l_loud (by kernel_rfl) rfl
  apply ld_call (ct_CommonAt (x := q) (y := q + k) hE hB hi hi (by omega) (by omega)) rfl (hE.f (by kernel_rfl))
  · ((repeat constructor); done)
  rintro _ _ ⟨c, rfl, -, e1, rfl⟩
  obtain rfl : c = lcp ((txt (rls Es) i).drop q) ((txt (rls Es) i).drop (q + k)) := by rw [e1 (by simp only [List.length_drop, tx_length]; omega), tx_f]
  simp only [List.cons_append, List.nil_append]
  refine l_yield (y_move rfl) rfl ?_
  refine l_yield (y_extract rfl rfl) rfl ?_
  refine l_yield (y_extract rfl rfl) rfl ?_
  refine l_yield (y_assign rfl) rfl ?_
  refine l_yield (y_assign rfl) rfl ?_
  refine l_nil (a_then (w_seq (w_seq (w_region ?_))))
  refine l_yield (y_move rfl) rfl ?_
  apply l_yield
  · (first | exact y_ok_ne rfl (hE.t rfl) | exact y_err_ne rfl (hE.t rfl))
  · rfl
  refine l_nil (a_then ?_)
  refine w_cond_f rfl ?_
  refine w_skip (a_then (w_seq (w_region ?_)))
  refine l_yield (y_move rfl) rfl ?_
  refine l_yield (y_move rfl) rfl ?_
  refine l_yield (y_ge rfl rfl) rfl ?_
  refine l_yield (y_assign rfl) rfl ?_
  refine l_yield (y_assign rfl) rfl ?_
  refine l_nil (a_then (w_ret ?_))
  apply a_ret
  · rfl
  · (apply Rs.tmp rfl; apply Rs.tmp rfl; exact Rs.nil)
  · refine ⟨?_, rfl⟩
    rw [show sqr (txt (rls Es) i) ((q : Nat) : Int) ((k : Nat) : Int) = (decide (k ≤ lcp ((txt (rls Es) i).drop q) ((txt (rls Es) i).drop (q + k))), 0) from if_pos (by unfold inS_; omega)]
    exact tup_bool (by omega)
  · (apply ent; (repeat constructor); done)
theorem ct_refSquare (hE : Seat E) {a : List UInt8} {p d : Int} (ha : a.length ≤ 1152921504606846976) : Ct E 44 [.string ⟨⟨a⟩⟩, .int .i64 p, .int .i64 d] [] (fun v Q => v = .tuple #[.bool (sqr a p d).1, .int .i64 ((sqr a p d).2 : Nat)] ∧ Q = []) := by
  have sa := size_mk a
  refine fn_enter (hE.fn Tryd.func44) rfl rfl rfl (fun R => ?_)
  simp only [argsL, List.cons_append, List.nil_append]
  refine w_seq (w_region ?_)
  refine l_yield (y_assign rfl) rfl ?_
  refine l_yield (y_assign rfl) rfl ?_
  refine l_nil (a_then (w_seq (w_seq (w_region ?_))))
  refine l_yield (y_move rfl) rfl ?_
  refine l_yield (y_lt rfl rfl) rfl ?_
  refine l_yield (y_move rfl) rfl ?_
  refine l_split 10 rfl (fun h1 => ?_) (fun h1 => ?_)
  · skip
    refine l_off rfl rfl rfl rfl (l_off rfl rfl rfl rfl ?_)
    apply l_yield
    · (first | exact y_pick_t rfl rfl | exact y_pick_f rfl rfl)
    · rfl
    refine l_yield (y_move rfl) rfl ?_
    skip
    refine l_off rfl rfl rfl rfl (l_off rfl rfl rfl rfl (l_off rfl rfl rfl rfl (l_off rfl rfl rfl rfl ?_)))
    apply l_yield
    · (first | exact y_pick_t rfl rfl | exact y_pick_f rfl rfl)
    · rfl
    refine l_yield (y_move rfl) rfl ?_
    skip
    refine l_off rfl rfl rfl rfl (l_off rfl rfl rfl rfl (l_off rfl rfl rfl rfl (l_off rfl rfl rfl rfl ?_)))
    apply l_yield
    · (first | exact y_pick_t rfl rfl | exact y_pick_f rfl rfl)
    · rfl
    refine l_yield (y_move rfl) rfl ?_
    skip
    refine l_off rfl rfl rfl rfl (l_off rfl rfl rfl rfl (l_off rfl rfl rfl rfl (l_off rfl rfl rfl rfl (l_off rfl rfl rfl rfl (l_off rfl rfl rfl rfl (l_off rfl rfl rfl rfl ?_))))))
    apply l_yield
    · (first | exact y_pick_t rfl rfl | exact y_pick_f rfl rfl)
    · rfl
    refine l_nil (a_then ?_)
    refine w_cond_t rfl ?_
    refine w_seq (w_region ?_)
    refine l_yield (y_assign rfl) rfl ?_
    refine l_yield (y_assign rfl) rfl ?_
    refine l_nil (a_then (w_ret (a_then_ret ?_)))
    apply a_ret
    · rfl
    · (apply Rs.tmp rfl; apply Rs.tmp rfl; exact Rs.nil)
    · refine ⟨?_, rfl⟩
      rw [show sqr a p d = (false, 1) from if_neg (by unfold inS_; omega)]
      rfl
    · (apply ent; (repeat constructor); done)
  skip
  refine l_on rfl rfl ?_
  refine l_yield (y_move rfl) rfl ?_
  refine l_on rfl rfl ?_
  refine l_yield (y_lt rfl rfl) rfl ?_
  apply l_yield
  · (first | exact y_pick_t rfl rfl | exact y_pick_f rfl rfl)
  · rfl
  refine l_yield (y_move rfl) rfl ?_
  refine l_split 14 rfl (fun h2 => ?_) (fun h2 => ?_)
  · skip
    refine l_off rfl rfl rfl rfl (l_off rfl rfl rfl rfl (l_off rfl rfl rfl rfl (l_off rfl rfl rfl rfl ?_)))
    apply l_yield
    · (first | exact y_pick_t rfl rfl | exact y_pick_f rfl rfl)
    · rfl
    refine l_yield (y_move rfl) rfl ?_
    skip
    refine l_off rfl rfl rfl rfl (l_off rfl rfl rfl rfl (l_off rfl rfl rfl rfl (l_off rfl rfl rfl rfl ?_)))
    apply l_yield
    · (first | exact y_pick_t rfl rfl | exact y_pick_f rfl rfl)
    · rfl
    refine l_yield (y_move rfl) rfl ?_
    skip
    refine l_off rfl rfl rfl rfl (l_off rfl rfl rfl rfl (l_off rfl rfl rfl rfl (l_off rfl rfl rfl rfl (l_off rfl rfl rfl rfl (l_off rfl rfl rfl rfl (l_off rfl rfl rfl rfl ?_))))))
    apply l_yield
    · (first | exact y_pick_t rfl rfl | exact y_pick_f rfl rfl)
    · rfl
    refine l_nil (a_then ?_)
    refine w_cond_t rfl ?_
    refine w_seq (w_region ?_)
    refine l_yield (y_assign rfl) rfl ?_
    refine l_yield (y_assign rfl) rfl ?_
    refine l_nil (a_then (w_ret (a_then_ret ?_)))
    apply a_ret
    · rfl
    · (apply Rs.tmp rfl; apply Rs.tmp rfl; exact Rs.nil)
    · refine ⟨?_, rfl⟩
      rw [show sqr a p d = (false, 1) from if_neg (by unfold inS_; omega)]
      rfl
    · (apply ent; (repeat constructor); done)
  skip
  refine l_on rfl rfl ?_
  refine l_yield (y_move rfl) rfl ?_
  refine l_on rfl rfl ?_
  refine l_yield (y_move rfl) rfl ?_
  refine l_on rfl rfl ?_
  refine l_yield (y_len_str rfl (hE.t rfl)) rfl ?_
  refine l_on rfl rfl ?_
  refine l_yield (y_gt rfl rfl) rfl ?_
  apply l_yield
  · (first | exact y_pick_t rfl rfl | exact y_pick_f rfl rfl)
  · rfl
  refine l_yield (y_move rfl) rfl ?_
  refine l_split 20 rfl (fun h3 => ?_) (fun h3 => ?_)
  · skip
    refine l_off rfl rfl rfl rfl (l_off rfl rfl rfl rfl (l_off rfl rfl rfl rfl (l_off rfl rfl rfl rfl ?_)))
    apply l_yield
    · (first | exact y_pick_t rfl rfl | exact y_pick_f rfl rfl)
    · rfl
    refine l_yield (y_move rfl) rfl ?_
    skip
    refine l_off rfl rfl rfl rfl (l_off rfl rfl rfl rfl (l_off rfl rfl rfl rfl (l_off rfl rfl rfl rfl (l_off rfl rfl rfl rfl (l_off rfl rfl rfl rfl (l_off rfl rfl rfl rfl ?_))))))
    apply l_yield
    · (first | exact y_pick_t rfl rfl | exact y_pick_f rfl rfl)
    · rfl
    refine l_nil (a_then ?_)
    refine w_cond_t rfl ?_
    refine w_seq (w_region ?_)
    refine l_yield (y_assign rfl) rfl ?_
    refine l_yield (y_assign rfl) rfl ?_
    refine l_nil (a_then (w_ret (a_then_ret ?_)))
    apply a_ret
    · rfl
    · (apply Rs.tmp rfl; apply Rs.tmp rfl; exact Rs.nil)
    · refine ⟨?_, rfl⟩
      rw [show sqr a p d = (false, 1) from if_neg (by unfold inS_; omega)]
      rfl
    · (apply ent; (repeat constructor); done)
  skip
  refine l_on rfl rfl ?_
  refine l_yield (y_move rfl) rfl ?_
  refine l_on rfl rfl ?_
  refine l_yield (y_move rfl) rfl ?_
  refine l_on rfl rfl ?_
  refine l_yield (y_len_str rfl (hE.t rfl)) rfl ?_
  refine l_on rfl rfl ?_
  refine l_yield (y_gt rfl rfl) rfl ?_
  apply l_yield
  · (first | exact y_pick_t rfl rfl | exact y_pick_f rfl rfl)
  · rfl
  refine l_yield (y_move rfl) rfl ?_
  refine l_split 26 rfl (fun h4 => ?_) (fun h4 => ?_)
  · skip
    refine l_off rfl rfl rfl rfl (l_off rfl rfl rfl rfl (l_off rfl rfl rfl rfl (l_off rfl rfl rfl rfl (l_off rfl rfl rfl rfl (l_off rfl rfl rfl rfl (l_off rfl rfl rfl rfl ?_))))))
    apply l_yield
    · (first | exact y_pick_t rfl rfl | exact y_pick_f rfl rfl)
    · rfl
    refine l_nil (a_then ?_)
    refine w_cond_t rfl ?_
    refine w_seq (w_region ?_)
    refine l_yield (y_assign rfl) rfl ?_
    refine l_yield (y_assign rfl) rfl ?_
    refine l_nil (a_then (w_ret (a_then_ret ?_)))
    apply a_ret
    · rfl
    · (apply Rs.tmp rfl; apply Rs.tmp rfl; exact Rs.nil)
    · refine ⟨?_, rfl⟩
      rw [show sqr a p d = (false, 1) from if_neg (by unfold inS_; omega)]
      rfl
    · (apply ent; (repeat constructor); done)
  skip
  refine l_on rfl rfl ?_
  refine l_yield (y_move rfl) rfl ?_
  refine l_on rfl rfl ?_
  refine l_yield (y_len_str rfl (hE.t rfl)) rfl ?_
  refine l_on rfl rfl ?_
  refine l_yield (y_move rfl) rfl ?_
  refine l_on rfl rfl ?_
  refine l_yield (y_sub rfl rfl (by omega) (by omega)) rfl ?_
  refine l_on rfl rfl ?_
  refine l_yield (y_move rfl) rfl ?_
  refine l_on rfl rfl ?_
  refine l_yield (y_mul rfl rfl (by omega) (by omega)) rfl ?_
  refine l_on rfl rfl ?_
  refine l_yield (y_lt rfl rfl) rfl ?_
  apply l_yield
  · (first | exact y_pick_t rfl rfl | exact y_pick_f rfl rfl)
  · rfl
  refine l_nil (a_then ?_)
  refine w_cond_d rfl (fun h5 => ?_) (fun h5 => ?_)
  · skip
    refine w_seq (w_region ?_)
    refine l_yield (y_assign rfl) rfl ?_
    refine l_yield (y_assign rfl) rfl ?_
    refine l_nil (a_then (w_ret (a_then_ret ?_)))
    apply a_ret
    · rfl
    · (apply Rs.tmp rfl; apply Rs.tmp rfl; exact Rs.nil)
    · refine ⟨?_, rfl⟩
      rw [show sqr a p d = (false, 1) from if_neg (by unfold inS_; omega)]
      rfl
    · (apply ent; (repeat constructor); done)
  skip
  obtain ⟨q, rfl⟩ := Int.eq_ofNat_of_zero_le (show 0 ≤ p by omega)
  obtain ⟨k, rfl⟩ := Int.eq_ofNat_of_zero_le (show 0 ≤ d by omega)
  have hk : q + 2 * k ≤ a.length := by omega
  skip
  refine w_skip (a_then (w_seq (w_draws (by kernel_rfl) ?_)))
  refine l_yield (y_move rfl) rfl ?_
  refine l_yield (y_move rfl) rfl ?_
  refine l_yield (y_move rfl) rfl ?_
  refine l_yield (y_move rfl) rfl ?_
  refine l_yield (y_add rfl rfl (by omega) (by omega)) rfl ?_
  apply l_yield
  · exact y_slice_str (l := q) (h := q + k) rfl (hE.t rfl) ⟨_, rfl⟩ ⟨.i64, congrArg (fun v => some (Value.int IntKind.i64 v)) (by omega)⟩ (by omega) (by omega)
  · rfl
  refine l_yield (y_move rfl) rfl ?_
  refine l_yield (y_move rfl) rfl ?_
  refine l_yield (y_move rfl) rfl ?_
  refine l_yield (y_add rfl rfl (by omega) (by omega)) rfl ?_
  refine l_yield (y_move rfl) rfl ?_
  refine l_yield (y_move rfl) rfl ?_
  refine l_yield (y_mul rfl rfl (by omega) (by omega)) rfl ?_
  refine l_yield (y_add rfl rfl (by omega) (by omega)) rfl ?_
  apply l_yield
  · exact y_slice_str (l := q + k) (h := q + 2 * k) rfl (hE.t rfl) ⟨.i64, congrArg (fun v => some (Value.int IntKind.i64 v)) (by omega)⟩ ⟨.i64, congrArg (fun v => some (Value.int IntKind.i64 v)) (by omega)⟩ (by omega) (by omega)
  · rfl
  rw [extract_mk a _ _ (by omega), extract_mk a _ _ (by omega)]
  refine l_yield (y_eq_str rfl rfl) rfl ?_
  refine l_yield (y_assign rfl) rfl ?_
  refine l_yield (y_assign rfl) rfl ?_
  refine l_nil (a_then (w_ret ?_))
  apply a_ret
  · rfl
  · (apply Rs.tmp rfl; apply Rs.tmp rfl; exact Rs.nil)
  · refine ⟨?_, rfl⟩
    rw [show sqr a ((q : Nat) : Int) ((k : Nat) : Int) = (decide (k ≤ lcp (a.drop q) (a.drop (q + k))), 0) from if_pos (by unfold inS_; omega)]
    refine tup_bool ?_
    rw [lcp_take (by rw [List.length_drop]; omega) (by rw [List.length_drop]; omega), List.drop_take, List.drop_take, show q + k - q = k by omega, show q + 2 * k - (q + k) = k by omega]
  · (apply ent; (repeat constructor); done)
theorem expo_no {T : List UInt8} {d : Int} (h : d < 1) : expo T d = (0, 1) := if_pos h
theorem expo_zero {T : List UInt8} {k : Nat} (h : 1 ≤ k) (hc : T.length = 0 ∨ ¬ T.length % k = 0 ∨ ¬ Per T k) : expo T (k : Nat) = (0, 0) := by
  unfold expo
  rw [if_neg (by omega), Int.toNat_natCast, if_pos hc]
theorem expo_some {T : List UInt8} {k : Nat} (h : 1 ≤ k) (h1 : ¬ T.length = 0) (h2 : T.length % k = 0) (h3 : Per T k) : expo T (k : Nat) = (T.length / k, 0) := by
  unfold expo
  rw [if_neg (by omega), Int.toNat_natCast, if_neg (by simp [h1, h2, h3])]
theorem ct_Exponent (hE : Seat E) (hB : Base E.w0) {i : Nat} {d : Int} (hi : good (rls Es) i) (hs : len (rls Es) i < 4194304) : Ct E 45 [.pointer (some ⟨pp, 0, none⟩), .int .i64 (i : Nat), .int .i64 d] [cells pp [.pointer (some ⟨s, 0, none⟩), .pointer (some ⟨tb, 0, none⟩)] 108, tabP tb s (rls Es), storeP s most Es] (fun v Q => v = .tuple #[.int .i64 ((expo (txt (rls Es) i) d).1 : Nat), .bool (decide (0 < (expo (txt (rls Es) i) d).1)), errV (expo (txt (rls Es) i) d).2] ∧ Q = [cells pp [.pointer (some ⟨s, 0, none⟩), .pointer (some ⟨tb, 0, none⟩)] 108, tabP tb s (rls Es), storeP s most Es]) := by
  have hl : len (rls Es) i = (txt (rls Es) i).length := rfl
  refine fn_enter (hE.fn Tryd.func45) rfl rfl rfl (fun R => ?_)
  simp only [argsL, List.cons_append, List.nil_append]
  refine w_seq (w_region ?_)
  refine l_yield (y_assign rfl) rfl ?_
  refine l_yield (y_assign rfl) rfl ?_
  refine l_yield (y_assign rfl) rfl ?_
  refine l_nil (a_then (w_seq (w_region ?_)))
  refine l_yield (y_move rfl) rfl ?_
  refine l_yield (y_move rfl) rfl ?_
  apply l_loud (by kernel_rfl) rfl
  apply ld_call (ct_pcheck hE hB hi) rfl (hE.f (by kernel_rfl))
  · ((repeat constructor); done)
  rintro _ _ ⟨rfl, rfl⟩
  simp only [List.cons_append, List.nil_append]
  refine l_yield (y_move rfl) rfl ?_
  refine l_yield (y_extract rfl rfl) rfl ?_
  refine l_yield (y_extract rfl rfl) rfl ?_
  refine l_yield (y_assign rfl) rfl ?_
  refine l_yield (y_assign rfl) rfl ?_
  refine l_nil (a_then (w_seq (w_seq (w_region ?_))))
  refine l_yield (y_move rfl) rfl ?_
  apply l_yield
  · (first | exact y_ok_ne rfl (hE.t rfl) | exact y_err_ne rfl (hE.t rfl))
  · rfl
  refine l_nil (a_then ?_)
  refine w_cond_f rfl ?_
  refine w_skip (a_then (w_seq (w_seq (w_region ?_))))
  refine l_yield (y_move rfl) rfl ?_
  refine l_yield (y_lt rfl rfl) rfl ?_
  refine l_nil (a_then ?_)
  refine w_cond_d rfl (fun h1 => ?_) (fun h1 => ?_)
  · skip
    refine w_seq (w_region ?_)
    refine l_yield (y_iface rfl (hE.t rfl) rfl) rfl ?_
    refine l_yield (y_assign rfl) rfl ?_
    refine l_yield (y_assign rfl) rfl ?_
    refine l_yield (y_assign rfl) rfl ?_
    refine l_nil (a_then (w_ret (a_then_ret ?_)))
    apply a_ret
    · rfl
    · (apply Rs.tmp rfl; apply Rs.tmp rfl; apply Rs.tmp rfl; exact Rs.nil)
    · refine ⟨?_, rfl⟩
      rw [expo_no h1]
      rfl
    · (apply ent; (repeat constructor); done)
  skip
  obtain ⟨k, rfl⟩ := Int.eq_ofNat_of_zero_le (show 0 ≤ d by omega)
  have hk : 1 ≤ k := by omega
  have em : ((len (rls Es) i % k : Nat) : Int) = ((len (rls Es) i : Nat) : Int) % ((k : Nat) : Int) := Int.natCast_emod _ _
  refine w_skip (a_then (w_seq (w_seq (w_region ?_))))
  refine l_yield (y_move rfl) rfl ?_
  refine l_yield (y_eq rfl rfl) rfl ?_
  refine l_yield (y_move rfl) rfl ?_
  refine l_split 26 rfl (fun h2 => ?_) (fun h2 => ?_)
  · skip
    refine l_off rfl rfl rfl rfl (l_off rfl rfl rfl rfl (l_off rfl rfl rfl rfl (l_off rfl rfl rfl rfl ?_)))
    apply l_yield
    · (first | exact y_pick_t rfl rfl | exact y_pick_f rfl rfl)
    · rfl
    refine l_nil (a_then ?_)
    refine w_cond_t rfl ?_
    refine w_seq (w_region ?_)
    refine l_yield (y_assign rfl) rfl ?_
    refine l_yield (y_assign rfl) rfl ?_
    refine l_yield (y_assign rfl) rfl ?_
    refine l_nil (a_then (w_ret (a_then_ret ?_)))
    apply a_ret
    · rfl
    · (apply Rs.tmp rfl; apply Rs.tmp rfl; apply Rs.tmp rfl; exact Rs.nil)
    · refine ⟨?_, rfl⟩
      rw [expo_zero hk (.inl (by omega))]
      rfl
    · (apply ent; (repeat constructor); done)
  skip
  refine l_on rfl rfl ?_
  refine l_yield (y_move rfl) rfl ?_
  refine l_on rfl rfl ?_
  refine l_yield (y_move rfl) rfl ?_
  refine l_on rfl rfl ?_
  refine l_yield (y_rem rfl rfl (by omega) (by omega)) rfl ?_
  refine l_on rfl rfl ?_
  refine l_yield (y_ne rfl rfl) rfl ?_
  apply l_yield
  · (first | exact y_pick_t rfl rfl | exact y_pick_f rfl rfl)
  · rfl
  refine l_nil (a_then ?_)
  refine w_cond_d rfl (fun h3 => ?_) (fun h3 => ?_)
  · skip
    refine w_seq (w_region ?_)
    refine l_yield (y_assign rfl) rfl ?_
    refine l_yield (y_assign rfl) rfl ?_
    refine l_yield (y_assign rfl) rfl ?_
    refine l_nil (a_then (w_ret (a_then_ret ?_)))
    apply a_ret
    · rfl
    · (apply Rs.tmp rfl; apply Rs.tmp rfl; apply Rs.tmp rfl; exact Rs.nil)
    · refine ⟨?_, rfl⟩
      rw [expo_zero hk (.inr (.inl (by rw [← hl]; omega)))]
      rfl
    · (apply ent; (repeat constructor); done)
  skip
  have h4 : len (rls Es) i % k = 0 := by omega
  have h5 : k ≤ len (rls Es) i := Nat.le_of_dvd (by omega) (Nat.dvd_of_mod_eq_zero h4)
  have h6 : 0 < len (rls Es) i / k := Nat.div_pos h5 hk
  refine w_skip (a_then (w_seq (w_region ?_)))
  refine l_yield (y_move rfl) rfl ?_
  refine l_yield (y_move rfl) rfl ?_
  refine l_yield (y_move rfl) rfl ?_
  refine l_yield (y_move rfl) rfl ?_
  apply l_loud (by kernel_rfl) rfl
  apply ld_call (ct_CommonAt (x := 0) (y := k) hE hB hi hi (Nat.zero_le _) h5) rfl (hE.f (by kernel_rfl))
  · ((repeat constructor); done)
  rintro _ _ ⟨c, rfl, -, e1, rfl⟩
  obtain rfl : c = lcp (txt (rls Es) i) ((txt (rls Es) i).drop k) := by rw [e1 (by simp only [List.length_drop, tx_length]; omega), tx_f, List.drop_zero]
  simp only [List.cons_append, List.nil_append]
  refine l_yield (y_move rfl) rfl ?_
  refine l_yield (y_extract rfl rfl) rfl ?_
  refine l_yield (y_extract rfl rfl) rfl ?_
  refine l_yield (y_assign rfl) rfl ?_
  refine l_yield (y_assign rfl) rfl ?_
  refine l_nil (a_then (w_seq (w_seq (w_region ?_))))
  refine l_yield (y_move rfl) rfl ?_
  apply l_yield
  · (first | exact y_ok_ne rfl (hE.t rfl) | exact y_err_ne rfl (hE.t rfl))
  · rfl
  refine l_nil (a_then ?_)
  refine w_cond_f rfl ?_
  refine w_skip (a_then (w_seq (w_seq (w_region ?_))))
  refine l_yield (y_move rfl) rfl ?_
  refine l_yield (y_move rfl) rfl ?_
  refine l_yield (y_move rfl) rfl ?_
  refine l_yield (y_sub rfl rfl (by omega) (by omega)) rfl ?_
  refine l_yield (y_ne rfl rfl) rfl ?_
  refine l_nil (a_then ?_)
  refine w_cond_d rfl (fun h7 => ?_) (fun h7 => ?_)
  · skip
    refine w_seq (w_region ?_)
    refine l_yield (y_assign rfl) rfl ?_
    refine l_yield (y_assign rfl) rfl ?_
    refine l_yield (y_assign rfl) rfl ?_
    refine l_nil (a_then (w_ret (a_then_ret ?_)))
    apply a_ret
    · rfl
    · (apply Rs.tmp rfl; apply Rs.tmp rfl; apply Rs.tmp rfl; exact Rs.nil)
    · refine ⟨?_, rfl⟩
      rw [expo_zero hk (.inr (.inr (by unfold Per; omega)))]
      rfl
    · (apply ent; (repeat constructor); done)
  skip
  refine w_skip (a_then (w_seq (w_region ?_)))
  refine l_yield (y_move rfl) rfl ?_
  refine l_yield (y_move rfl) rfl ?_
  refine l_yield (y_quo rfl rfl (by omega) (by omega) (by omega)) rfl ?_
  refine l_yield (y_assign rfl) rfl ?_
  refine l_yield (y_assign rfl) rfl ?_
  refine l_yield (y_assign rfl) rfl ?_
  refine l_nil (a_then (w_ret ?_))
  apply a_ret
  · rfl
  · (apply Rs.tmp rfl; apply Rs.tmp rfl; apply Rs.tmp rfl; exact Rs.nil)
  · refine ⟨?_, rfl⟩
    rw [expo_some hk (by omega) h4 (by unfold Per; omega)]
    simp [one, ← hl, h6, errV]
  · (apply ent; (repeat constructor); done)
theorem ct_refExponent (hE : Seat E) {a : List UInt8} {d : Int} (ha : a.length ≤ 1152921504606846976) : Ct E 46 [.string ⟨⟨a⟩⟩, .int .i64 d] [] (fun v Q => v = .tuple #[.int .i64 ((expo a d).1 : Nat), .int .i64 ((expo a d).2 : Nat)] ∧ Q = []) := by
  have sa := size_mk a
  refine fn_enter (hE.fn Tryd.func46) rfl rfl rfl (fun R => ?_)
  simp only [argsL, List.cons_append, List.nil_append]
  refine w_seq (w_region ?_)
  refine l_yield (y_assign rfl) rfl ?_
  refine l_yield (y_assign rfl) rfl ?_
  refine l_nil (a_then (w_seq (w_seq (w_region ?_))))
  refine l_yield (y_move rfl) rfl ?_
  refine l_yield (y_lt rfl rfl) rfl ?_
  refine l_nil (a_then ?_)
  refine w_cond_d rfl (fun h1 => ?_) (fun h1 => ?_)
  · skip
    refine w_seq (w_region ?_)
    refine l_yield (y_assign rfl) rfl ?_
    refine l_yield (y_assign rfl) rfl ?_
    refine l_nil (a_then (w_ret (a_then_ret ?_)))
    apply a_ret
    · rfl
    · (apply Rs.tmp rfl; apply Rs.tmp rfl; exact Rs.nil)
    · refine ⟨?_, rfl⟩
      rw [expo_no h1]
      rfl
    · (apply ent; (repeat constructor); done)
  skip
  obtain ⟨k, rfl⟩ := Int.eq_ofNat_of_zero_le (show 0 ≤ d by omega)
  have hk : 1 ≤ k := by omega
  have em : (((⟨⟨a⟩⟩ : ByteArray).size % k : Nat) : Int) = (((⟨⟨a⟩⟩ : ByteArray).size : Nat) : Int) % ((k : Nat) : Int) := Int.natCast_emod _ _
  have ed : (((⟨⟨a⟩⟩ : ByteArray).size / k : Nat) : Int) = (((⟨⟨a⟩⟩ : ByteArray).size : Nat) : Int) / ((k : Nat) : Int) := Int.natCast_ediv _ _
  refine w_skip (a_then (w_seq (w_seq (w_region ?_))))
  refine l_yield (y_move rfl) rfl ?_
  refine l_yield (y_len_str rfl (hE.t rfl)) rfl ?_
  refine l_yield (y_eq rfl rfl) rfl ?_
  refine l_yield (y_move rfl) rfl ?_
  refine l_split 11 rfl (fun h2 => ?_) (fun h2 => ?_)
  · skip
    refine l_off rfl rfl rfl rfl (l_off rfl rfl rfl rfl (l_off rfl rfl rfl rfl (l_off rfl rfl rfl rfl (l_off rfl rfl rfl rfl ?_))))
    apply l_yield
    · (first | exact y_pick_t rfl rfl | exact y_pick_f rfl rfl)
    · rfl
    refine l_yield (y_move rfl) rfl ?_
    skip
    refine l_off rfl rfl rfl rfl (l_off rfl rfl rfl rfl (l_off rfl rfl rfl rfl (l_off rfl rfl rfl rfl ?_)))
    apply l_yield
    · (first | exact y_pick_t rfl rfl | exact y_pick_f rfl rfl)
    · rfl
    refine l_nil (a_then ?_)
    refine w_cond_t rfl ?_
    refine w_seq (w_region ?_)
    refine l_yield (y_assign rfl) rfl ?_
    refine l_yield (y_assign rfl) rfl ?_
    refine l_nil (a_then (w_ret (a_then_ret ?_)))
    apply a_ret
    · rfl
    · (apply Rs.tmp rfl; apply Rs.tmp rfl; exact Rs.nil)
    · refine ⟨?_, rfl⟩
      rw [expo_zero hk (.inl (by omega))]
      rfl
    · (apply ent; (repeat constructor); done)
  skip
  refine l_on rfl rfl ?_
  refine l_yield (y_move rfl) rfl ?_
  refine l_on rfl rfl ?_
  refine l_yield (y_len_str rfl (hE.t rfl)) rfl ?_
  refine l_on rfl rfl ?_
  refine l_yield (y_move rfl) rfl ?_
  refine l_on rfl rfl ?_
  refine l_yield (y_rem rfl rfl (by omega) (by omega)) rfl ?_
  refine l_on rfl rfl ?_
  refine l_yield (y_ne rfl rfl) rfl ?_
  apply l_yield
  · (first | exact y_pick_t rfl rfl | exact y_pick_f rfl rfl)
  · rfl
  refine l_yield (y_move rfl) rfl ?_
  refine l_split 18 rfl (fun h3 => ?_) (fun h3 => ?_)
  · skip
    refine l_off rfl rfl rfl rfl (l_off rfl rfl rfl rfl (l_off rfl rfl rfl rfl (l_off rfl rfl rfl rfl ?_)))
    apply l_yield
    · (first | exact y_pick_t rfl rfl | exact y_pick_f rfl rfl)
    · rfl
    refine l_nil (a_then ?_)
    refine w_cond_t rfl ?_
    refine w_seq (w_region ?_)
    refine l_yield (y_assign rfl) rfl ?_
    refine l_yield (y_assign rfl) rfl ?_
    refine l_nil (a_then (w_ret (a_then_ret ?_)))
    apply a_ret
    · rfl
    · (apply Rs.tmp rfl; apply Rs.tmp rfl; exact Rs.nil)
    · refine ⟨?_, rfl⟩
      rw [expo_zero hk (.inr (.inl (by rw [← sa]; omega)))]
      rfl
    · (apply ent; (repeat constructor); done)
  skip
  refine l_on rfl rfl ?_
  refine l_yield (y_move rfl) rfl ?_
  refine l_on rfl rfl ?_
  refine l_yield (y_move rfl) rfl ?_
  refine l_on rfl rfl ?_
  apply l_loud (by kernel_rfl) rfl
  apply ld_call (ct_refHas hE hk ha) rfl (hE.f (by kernel_rfl))
  · ((repeat constructor); done)
  rintro _ _ ⟨rfl, rfl⟩
  skip
  by_cases hp : Per a k
  · rw [show decide (Per a k) = true from decide_eq_true hp]
    simp only [List.cons_append, List.nil_append]
    refine l_on rfl rfl ?_
    refine l_yield (y_not rfl) rfl ?_
    apply l_yield
    · (first | exact y_pick_t rfl rfl | exact y_pick_f rfl rfl)
    · rfl
    refine l_nil (a_then ?_)
    refine w_cond_f rfl ?_
    refine w_skip (a_then (w_seq (w_region ?_)))
    refine l_yield (y_move rfl) rfl ?_
    refine l_yield (y_len_str rfl (hE.t rfl)) rfl ?_
    refine l_yield (y_move rfl) rfl ?_
    refine l_yield (y_quo rfl rfl (by omega) (by omega) (by omega)) rfl ?_
    refine l_yield (y_assign rfl) rfl ?_
    refine l_yield (y_assign rfl) rfl ?_
    refine l_nil (a_then (w_ret ?_))
    apply a_ret
    · rfl
    · (apply Rs.tmp rfl; apply Rs.tmp rfl; exact Rs.nil)
    · refine ⟨?_, rfl⟩
      rw [expo_some hk (by omega) (by rw [← sa]; omega) hp]
      simp [one, ← sa]
    · (apply ent; (repeat constructor); done)
  · skip
    rw [show decide (Per a k) = false from decide_eq_false hp]
    simp only [List.cons_append, List.nil_append]
    refine l_on rfl rfl ?_
    refine l_yield (y_not rfl) rfl ?_
    apply l_yield
    · (first | exact y_pick_t rfl rfl | exact y_pick_f rfl rfl)
    · rfl
    refine l_nil (a_then ?_)
    refine w_cond_t rfl ?_
    refine w_seq (w_region ?_)
    refine l_yield (y_assign rfl) rfl ?_
    refine l_yield (y_assign rfl) rfl ?_
    refine l_nil (a_then (w_ret (a_then_ret ?_)))
    apply a_ret
    · rfl
    · (apply Rs.tmp rfl; apply Rs.tmp rfl; exact Rs.nil)
    · refine ⟨?_, rfl⟩
      rw [expo_zero hk (.inr (.inr hp))]
      rfl
    · (apply ent; (repeat constructor); done)
end Go.Proofs.YtlmdkaniblhdmaaDoor
/- evergreenlaw28: PeriodParts. -/
namespace Go.Proofs.YtlmdkaniblhdmaaDoor
open Go Go.RowKit Sl Eg
set_option maxRecDepth 10000
variable {E : Env} {Es : List Ent} {pp tb s most : Nat}
theorem ct_PeriodParts (hE : Seat E) (hB : Base E.w0) {a : List UInt8} {n x d : Int} : Ct E 8 [.string ⟨⟨a⟩⟩, .agg #[.int .i64 n, .int .i64 x, .int .i64 d]] [] (fun v Q => v = .bool true ∧ Q = []) := by
  have sa := size_mk a
  refine fn_enter (hE.fn Tryd.func8) rfl rfl rfl (fun R => ?_)
  simp only [argsL, List.cons_append, List.nil_append]
  refine w_seq (w_region ?_)
  apply l_loud (by kernel_rfl) rfl
  refine ld_box rfl (fun b3 => ?_)
  refine l_yield (y_assign rfl) rfl ?_
  refine l_nil (a_then ?_)
  refine w_seq ?_
  refine w_held ([cells b3 [.int .i64 n, .int .i64 x, .int .i64 d] 80]) ?_ ?_
  · (apply ent; (repeat constructor); done)
  apply d_take 0 rfl
  · exact y_indexArr rfl rfl (hE.t rfl) (by omega) (by omega)
  · with_reducible (repeat (first | exact calm_body | apply calm_then | apply calm_block))
  · kernel_rfl
  · rfl
  apply d_take 1 rfl
  · (apply y_load rfl (hE.t rfl) rfl; (repeat (first | rfl | assumption | constructor)); done)
  · with_reducible (repeat (first | exact calm_body | apply calm_then | apply calm_block))
  · kernel_rfl
  · rfl
  apply d_take 2 rfl
  · exact y_indexArr rfl rfl (hE.t rfl) (by omega) (by omega)
  · with_reducible (repeat (first | exact calm_body | apply calm_then | apply calm_block))
  · kernel_rfl
  · rfl
  apply d_take 3 rfl
  · (apply y_load rfl (hE.t rfl) rfl; (repeat (first | rfl | assumption | constructor)); done)
  · with_reducible (repeat (first | exact calm_body | apply calm_then | apply calm_block))
  · kernel_rfl
  · rfl
  apply d_take 4 rfl
  · exact y_indexArr rfl rfl (hE.t rfl) (by omega) (by omega)
  · with_reducible (repeat (first | exact calm_body | apply calm_then | apply calm_block))
  · kernel_rfl
  · rfl
  apply d_take 5 rfl
  · (apply y_load rfl (hE.t rfl) rfl; (repeat (first | rfl | assumption | constructor)); done)
  · with_reducible (repeat (first | exact calm_body | apply calm_then | apply calm_block))
  · kernel_rfl
  · rfl
  apply d_take 6 rfl
  · exact y_assign rfl
  · with_reducible (repeat (first | exact calm_body | apply calm_then | apply calm_block))
  · kernel_rfl
  · rfl
  apply d_take 7 rfl
  · exact y_assign rfl
  · with_reducible (repeat (first | exact calm_body | apply calm_then | apply calm_block))
  · kernel_rfl
  · rfl
  apply d_take 8 rfl
  · exact y_assign rfl
  · with_reducible (repeat (first | exact calm_body | apply calm_then | apply calm_block))
  · kernel_rfl
  · rfl
  refine d_nil (by kernel_rfl) ?_
  refine a_then (w_seq (w_seq (w_region ?_)))
  apply l_loud (by kernel_rfl) rfl
  apply ld_call (ct_alive hE hB) rfl (hE.f (by kernel_rfl))
  · ((repeat constructor); done)
  rintro _ _ ⟨rfl, rfl⟩
  simp only [List.cons_append, List.nil_append]
  refine l_yield (y_not rfl) rfl ?_
  refine l_nil (a_then ?_)
  refine w_cond_f rfl ?_
  refine w_skip (a_then (w_seq (w_seq (w_region ?_))))
  refine l_yield (y_move rfl) rfl ?_
  refine l_yield (y_len_str rfl (hE.t rfl)) rfl ?_
  refine l_yield (y_gt rfl rfl) rfl ?_
  refine l_nil (a_then ?_)
  refine w_cond_d rfl (fun h1 => ?_) (fun h1 => ?_)
  · skip
    refine w_seq (w_region ?_)
    refine l_yield (y_assign rfl) rfl ?_
    refine l_nil (a_then (w_ret (a_then_ret ?_)))
    apply a_ret
    · rfl
    · (apply Rs.tmp rfl; exact Rs.nil)
    · exact ⟨rfl, rfl⟩
    · (apply ent; (repeat constructor); done)
  skip
  refine w_skip (a_then (w_seq (w_region ?_)))
  refine l_yield (y_move rfl) rfl ?_
  apply l_loud (by kernel_rfl) rfl
  apply ld_call (ct_parse hE hB (by omega)) rfl (hE.f (by kernel_rfl))
  · ((repeat constructor); done)
  rintro _ _ ⟨pp, s, tb, M, i, rfl, hM, tx1, gx, rfl⟩
  have hl : len (rls M) i = a.length := by unfold len; rw [tx1]
  simp only [List.cons_append, List.nil_append]
  refine l_yield (y_move rfl) rfl ?_
  refine l_yield (y_extract rfl rfl) rfl ?_
  refine l_yield (y_extract rfl rfl) rfl ?_
  refine l_yield (y_extract rfl rfl) rfl ?_
  refine l_yield (y_assign rfl) rfl ?_
  refine l_yield (y_assign rfl) rfl ?_
  refine l_yield (y_assign rfl) rfl ?_
  refine l_nil (a_then (w_seq (w_seq (w_region ?_))))
  refine l_yield (y_move rfl) rfl ?_
  refine l_yield (y_not rfl) rfl ?_
  refine l_nil (a_then ?_)
  refine w_cond_f rfl ?_
  refine w_skip (a_then (w_seq (w_region ?_)))
  refine l_yield (y_move rfl) rfl ?_
  refine l_yield (y_move rfl) rfl ?_
  refine l_yield (y_move rfl) rfl ?_
  apply l_loud (by kernel_rfl) rfl
  apply ld_call (ct_Border hE hB gx (by omega)) rfl (hE.f (by kernel_rfl))
  · ((repeat constructor); done)
  rintro _ _ ⟨rfl, rfl⟩
  rw [tx1]
  simp only [List.cons_append, List.nil_append]
  refine l_yield (y_move rfl) rfl ?_
  refine l_yield (y_extract rfl rfl) rfl ?_
  refine l_yield (y_extract rfl rfl) rfl ?_
  refine l_yield (y_assign rfl) rfl ?_
  refine l_yield (y_assign rfl) rfl ?_
  refine l_nil (a_then (w_seq (w_region ?_)))
  refine l_yield (y_move rfl) rfl ?_
  refine l_yield (y_move rfl) rfl ?_
  apply l_loud (by kernel_rfl) rfl
  apply ld_call (ct_refBorder hE (by omega)) rfl (hE.f (by kernel_rfl))
  · ((repeat constructor); done)
  rintro _ _ ⟨rfl, rfl⟩
  simp only [List.cons_append, List.nil_append]
  refine l_yield (y_move rfl) rfl ?_
  refine l_yield (y_extract rfl rfl) rfl ?_
  refine l_yield (y_extract rfl rfl) rfl ?_
  refine l_yield (y_assign rfl) rfl ?_
  refine l_yield (y_assign rfl) rfl ?_
  refine l_nil (a_then (w_seq (w_region ?_)))
  refine l_yield (y_move rfl) rfl ?_
  refine l_yield (y_move rfl) rfl ?_
  refine l_yield (y_move rfl) rfl ?_
  refine l_yield (y_move rfl) rfl ?_
  apply l_loud (by kernel_rfl) rfl
  apply ld_call (ct_Square hE hB gx (by omega)) rfl (hE.f (by kernel_rfl))
  · ((repeat constructor); done)
  rintro _ _ ⟨rfl, rfl⟩
  rw [tx1]
  simp only [List.cons_append, List.nil_append]
  refine l_yield (y_move rfl) rfl ?_
  refine l_yield (y_extract rfl rfl) rfl ?_
  refine l_yield (y_extract rfl rfl) rfl ?_
  refine l_yield (y_assign rfl) rfl ?_
  refine l_yield (y_assign rfl) rfl ?_
  refine l_nil (a_then (w_seq (w_region ?_)))
  refine l_yield (y_move rfl) rfl ?_
  refine l_yield (y_move rfl) rfl ?_
  refine l_yield (y_move rfl) rfl ?_
  apply l_loud (by kernel_rfl) rfl
  apply ld_call (ct_refSquare hE (by omega)) rfl (hE.f (by kernel_rfl))
  · ((repeat constructor); done)
  rintro _ _ ⟨rfl, rfl⟩
  simp only [List.cons_append, List.nil_append]
  refine l_yield (y_move rfl) rfl ?_
  refine l_yield (y_extract rfl rfl) rfl ?_
  refine l_yield (y_extract rfl rfl) rfl ?_
  refine l_yield (y_assign rfl) rfl ?_
  refine l_yield (y_assign rfl) rfl ?_
  refine l_nil (a_then (w_seq (w_region ?_)))
  refine l_yield (y_move rfl) rfl ?_
  refine l_yield (y_move rfl) rfl ?_
  refine l_yield (y_move rfl) rfl ?_
  apply l_loud (by kernel_rfl) rfl
  apply ld_call (ct_Exponent hE hB gx (by omega)) rfl (hE.f (by kernel_rfl))
  · ((repeat constructor); done)
  rintro _ _ ⟨rfl, rfl⟩
  rw [tx1]
  simp only [List.cons_append, List.nil_append]
  refine l_yield (y_move rfl) rfl ?_
  refine l_yield (y_extract rfl rfl) rfl ?_
  refine l_yield (y_extract rfl rfl) rfl ?_
  refine l_yield (y_extract rfl rfl) rfl ?_
  refine l_yield (y_assign rfl) rfl ?_
  refine l_yield (y_assign rfl) rfl ?_
  refine l_yield (y_assign rfl) rfl ?_
  refine l_nil (a_then (w_seq (w_region ?_)))
  refine l_yield (y_move rfl) rfl ?_
  refine l_yield (y_move rfl) rfl ?_
  apply l_loud (by kernel_rfl) rfl
  apply ld_call (ct_refExponent hE (by omega)) rfl (hE.f (by kernel_rfl))
  · ((repeat constructor); done)
  rintro _ _ ⟨rfl, rfl⟩
  simp only [List.cons_append, List.nil_append]
  refine l_yield (y_move rfl) rfl ?_
  refine l_yield (y_extract rfl rfl) rfl ?_
  refine l_yield (y_extract rfl rfl) rfl ?_
  refine l_yield (y_assign rfl) rfl ?_
  refine l_yield (y_assign rfl) rfl ?_
  refine l_nil (a_then (w_seq (w_region ?_)))
  refine l_yield (y_move rfl) rfl ?_
  refine l_yield (y_move rfl) rfl ?_
  refine l_yield (y_eq_bool rfl rfl (hE.t rfl)) rfl ?_
  refine l_yield (y_move rfl) rfl ?_
  refine l_eq 88 (.bool true) rfl (by simp) ?_
  skip
  refine l_on rfl rfl ?_
  refine l_yield (y_move rfl) rfl ?_
  refine l_on rfl rfl ?_
  apply l_loud (by kernel_rfl) rfl
  apply ld_call (ct_NumE hE) rfl (hE.f (by kernel_rfl))
  · ((repeat constructor); done)
  rintro _ _ ⟨rfl, rfl⟩
  simp only [List.cons_append, List.nil_append]
  refine l_on rfl rfl ?_
  refine l_yield (y_move rfl) rfl ?_
  refine l_on rfl rfl ?_
  refine l_yield (y_eq rfl rfl) rfl ?_
  apply l_yield
  · (first | exact y_pick_t rfl rfl | exact y_pick_f rfl rfl)
  · rfl
  refine l_yield (y_move rfl) rfl ?_
  refine l_eq 94 (.bool true) rfl (by simp) ?_
  skip
  refine l_on rfl rfl ?_
  refine l_yield (y_move rfl) rfl ?_
  refine l_on rfl rfl ?_
  refine l_yield (y_move rfl) rfl ?_
  refine l_on rfl rfl ?_
  refine l_yield (y_eq_bool rfl rfl (hE.t rfl)) rfl ?_
  apply l_yield
  · (first | exact y_pick_t rfl rfl | exact y_pick_f rfl rfl)
  · rfl
  refine l_yield (y_move rfl) rfl ?_
  refine l_eq 99 (.bool true) rfl (by simp) ?_
  skip
  refine l_on rfl rfl ?_
  refine l_yield (y_move rfl) rfl ?_
  refine l_on rfl rfl ?_
  apply l_loud (by kernel_rfl) rfl
  apply ld_call (ct_NumE hE) rfl (hE.f (by kernel_rfl))
  · ((repeat constructor); done)
  rintro _ _ ⟨rfl, rfl⟩
  simp only [List.cons_append, List.nil_append]
  refine l_on rfl rfl ?_
  refine l_yield (y_move rfl) rfl ?_
  refine l_on rfl rfl ?_
  refine l_yield (y_eq rfl rfl) rfl ?_
  apply l_yield
  · (first | exact y_pick_t rfl rfl | exact y_pick_f rfl rfl)
  · rfl
  refine l_yield (y_move rfl) rfl ?_
  refine l_eq 105 (.bool true) rfl (by simp) ?_
  skip
  refine l_on rfl rfl ?_
  refine l_yield (y_move rfl) rfl ?_
  refine l_on rfl rfl ?_
  refine l_yield (y_move rfl) rfl ?_
  refine l_on rfl rfl ?_
  refine l_yield (y_eq rfl rfl) rfl ?_
  apply l_yield
  · (first | exact y_pick_t rfl rfl | exact y_pick_f rfl rfl)
  · rfl
  refine l_yield (y_move rfl) rfl ?_
  refine l_eq 110 (.bool true) rfl (by simp) ?_
  skip
  refine l_on rfl rfl ?_
  refine l_yield (y_move rfl) rfl ?_
  refine l_on rfl rfl ?_
  refine l_yield (y_move rfl) rfl ?_
  refine l_on rfl rfl ?_
  refine l_yield (y_gt rfl rfl) rfl ?_
  refine l_on rfl rfl ?_
  refine l_yield (y_eq_bool rfl rfl (hE.t rfl)) rfl ?_
  apply l_yield
  · (first | exact y_pick_t rfl rfl | exact y_pick_f rfl rfl)
  · rfl
  refine l_yield (y_move rfl) rfl ?_
  refine l_eq 116 (.bool true) rfl (by simp) ?_
  skip
  refine l_on rfl rfl ?_
  refine l_yield (y_move rfl) rfl ?_
  refine l_on rfl rfl ?_
  apply l_loud (by kernel_rfl) rfl
  apply ld_call (ct_NumE hE) rfl (hE.f (by kernel_rfl))
  · ((repeat constructor); done)
  rintro _ _ ⟨rfl, rfl⟩
  simp only [List.cons_append, List.nil_append]
  refine l_on rfl rfl ?_
  refine l_yield (y_move rfl) rfl ?_
  refine l_on rfl rfl ?_
  refine l_yield (y_eq rfl rfl) rfl ?_
  apply l_yield
  · (first | exact y_pick_t rfl rfl | exact y_pick_f rfl rfl)
  · rfl
  refine l_yield (y_assign rfl) rfl ?_
  refine l_nil (a_then (w_ret ?_))
  apply a_ret
  · rfl
  · (apply Rs.tmp rfl; exact Rs.nil)
  · exact ⟨by simp [one], rfl⟩
  · (apply ent; (repeat constructor); done)
end Go.Proofs.YtlmdkaniblhdmaaDoor
