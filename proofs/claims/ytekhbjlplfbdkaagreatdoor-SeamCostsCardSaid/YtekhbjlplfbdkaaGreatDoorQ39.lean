/- evergreenref04: Add, Mul, Pow, Mix. -/
import Derived.Test.YtekhbjlplfbdkaaGreatDoorQ13
import Derived.Test.YtekhbjlplfbdkaaGreatDoorQ30
import Derived.Test.YtekhbjlplfbdkaaGreatDoorQ32
import Derived.Test.YtekhbjlplfbdkaaGreatDoorQ36
import Derived.Test.YtekhbjlplfbdkaaGreatDoorQ38
set_option linter.unusedVariables false
set_option linter.unusedSimpArgs false
namespace Sl
open Go Go.RowKit
variable {E : Env} {n : Nat} {L : Fr} {S : List HP} {ty : TypeId} {pos : String} {af : Array Edge} {d : Option Nat} {gd : Option (Nat × Bool)}
theorem y_add_u {x y : Operand} {xt yt : TypeId} {i j : Int} (hx : ev L x = some (.int .u64 i)) (hy : ev L y = some (.int .u64 j)) (h0 : 0 ≤ i + j) (h1 : i + j ≤ 18446744073709551615) :
    Yl E n L S ⟨d, .binOp .add xt x y yt, ty, pos, af, gd⟩ (.int .u64 (i + j)) := fun a w g _ => by
  have e : IntKind.u64.wrap (i + j) = i + j := by rw [IntKind.wrap_u64]; omega
  simp [execOp, eqGuard, binOp, Op.intArith, g.ev hx, g.ev hy, e]
end Sl
namespace Go.Proofs.YtekhbjlplfbdkaaGreatDoor
open Go Go.RowKit Sl Eg
set_option maxRecDepth 10000
variable {E : Env}
theorem halves (k i : Nat) : k / 2 ^ i = 2 * (k / 2 ^ (i + 1)) + k / 2 ^ i % 2 := by
  rw [Nat.pow_succ, ← Nat.div_div_eq_div_mul]
  omega
theorem mul_twice (a c : Nat) : addm (mulm a c) (mulm a c) = mulm a (2 * c) := by
  unfold addm mulm
  rw [← Nat.add_mod, ← Nat.mul_add, Nat.two_mul]
theorem mul_more (a c : Nat) : addm (mulm a c) a = mulm a (c + 1) := by
  unfold addm mulm
  rw [Nat.mod_add_mod, Nat.mul_succ]
theorem pow_twice (a c : Nat) : mulm (powm a c) (powm a c) = powm a (2 * c) := by rw [Nat.two_mul, powm_add]
theorem pow_more (a c : Nat) : mulm (powm a c) a = powm a (c + 1) := by
  unfold powm mulm
  rw [Nat.mod_mul_mod, Nat.pow_succ]
theorem mul_last (a b : Nat) : mulm a (b % P61) = mulm a b := by unfold mulm; rw [Nat.mul_mod_mod]
theorem ct_rAdd (hE : Seat E) {a b : Nat} : Ct E 64 [.int .u64 (a : Nat), .int .u64 (b : Nat)] [] (fun v Q => v = .int .u64 (addm a b : Nat) ∧ Q = []) := by
  refine fn_enter (hE.fn Tryz.func64) rfl rfl rfl (fun R => ?_)
  simp only [argsL, List.cons_append, List.nil_append]
  refine w_seq (wR ?_)
  refine lY (yA rfl) rfl ?_
  refine l_nil (aT (w_seq (wR ?_)))
  refine lY (yM rfl) rfl ?_
  refine lY (y_rem rfl rfl (by omega) (by omega)) rfl ?_
  refine lY (yM rfl) rfl ?_
  refine lY (y_rem rfl rfl (by omega) (by omega)) rfl ?_
  apply lY
  · exact y_add_u rfl rfl (by omega) (by omega)
  · rfl
  refine lY (y_rem rfl rfl (by omega) (by omega)) rfl ?_
  refine lY (yA rfl) rfl ?_
  refine l_nil (aT (w_ret ?_))
  apply a_ret
  · rfl
  · (apply Rs.tmp rfl; exact Rs.nil)
  · exact ⟨congrArg (Value.int IntKind.u64) (by unfold addm P61; omega), rfl⟩
  · (apply ent; (repeat constructor); done)
theorem ct_rMul (hE : Seat E) {a b : Nat} (hb : b < 18446744073709551616) : Ct E 65 [.int .u64 (a : Nat), .int .u64 (b : Nat)] [] (fun v Q => v = .int .u64 (mulm a b : Nat) ∧ Q = []) := by
  have hp : b % P61 < 2 ^ 61 := Nat.lt_trans (Nat.mod_lt _ P61_pos) (by decide)
  refine fn_enter (hE.fn Tryz.func65) rfl rfl rfl (fun R => ?_)
  simp only [argsL, List.cons_append, List.nil_append]
  refine w_seq (wR ?_)
  refine lY (yA rfl) rfl ?_
  refine l_nil (aT (w_seq (wR ?_)))
  refine lY (yA rfl) rfl ?_
  refine l_nil (aT (w_seq (w_seq (wR ?_))))
  refine lY (yA rfl) rfl ?_
  refine l_nil (aT (w_block ?_))
  skip
  refine w_loop (fun i : Nat => [(0, .int .u64 (a : Nat)), (1, .int .u64 (b : Nat)), (5, .int .u64 (mulm a (b % P61 / 2 ^ i) : Nat)), (6, .int .i64 (((i : Nat) : Int) - 1))]) (fun _ => [R]) (fun i => i) (fun i => i ≤ 61) 61 (Nat.le_refl _) ⟨rfl, rfl, ?_, rfl, trivial⟩ ?_ ?_
  · rw [Nat.div_eq_of_lt hp]; rfl
  · (apply ent; (repeat constructor); done)
  intro i1 hi
  skip
  refine w_seq (w_seq (wR ?_))
  refine lY (yM rfl) rfl ?_
  refine lY (y_ge rfl rfl) rfl ?_
  refine l_nil (aT ?_)
  refine w_cond_d rfl (fun hlt => ?_) (fun hlt => ?_)
  · skip
    obtain ⟨i, rfl⟩ : ∃ i, i1 = i + 1 := ⟨i1 - 1, by omega⟩
    have hh := halves (b % P61) i
    refine w_skip (aT (w_seq (w_block (w_seq (wR ?_)))))
    refine lY (yM rfl) rfl ?_
    refine lY (yM rfl) rfl ?_
    apply lL (by kernel_rfl) rfl
    apply ld_call (ct_rAdd hE) rfl (hE.f (by kernel_rfl))
    · ((repeat constructor); done)
    rintro _ _ ⟨rfl, rfl⟩
    simp only [List.cons_append, List.nil_append]
    rw [mul_twice]
    refine lY (yA rfl) rfl ?_
    refine l_nil (aT ?_)
    refine w_seq (wR ?_)
    refine lY (yM rfl) rfl ?_
    refine lY (y_rem rfl rfl (by omega) (by omega)) rfl ?_
    refine l_eq 15 (.int .u64 (b % P61 : Nat)) rfl (congrArg (Value.int IntKind.u64) (by unfold P61; omega)) ?_
    refine lY (yM rfl) rfl ?_
    refine l_eq 16 (.int .i64 (i : Nat)) rfl (int_eq (by omega)) ?_
    apply lY
    · (first | exact y_shr rfl rfl (by omega) | exact y_shr_any rfl rfl (by show _ ≤ 64; omega))
    · rfl
    apply lY
    · (first | exact y_and1 rfl rfl | exact y_and rfl rfl)
    · rfl
    refine lY (y_eq rfl rfl) rfl ?_
    refine l_nil (aT ?_)
    refine w_cond_d rfl (fun h1 => ?_) (fun h1 => ?_)
    · skip
      refine wR ?_
      refine lY (yM rfl) rfl ?_
      refine lY (yM rfl) rfl ?_
      apply lL (by kernel_rfl) rfl
      apply ld_call (ct_rAdd hE) rfl (hE.f (by kernel_rfl))
      · ((repeat constructor); done)
      rintro _ _ ⟨rfl, rfl⟩
      simp only [List.cons_append, List.nil_append]
      rw [mul_more]
      refine lY (yA rfl) rfl ?_
      refine l_nil (a_block (aT (wR ?_)))
      refine lY (yM rfl) rfl ?_
      refine lY (y_sub rfl rfl (by omega) (by omega)) rfl ?_
      refine lY (yA rfl) rfl ?_
      refine l_nil ?_
      refine wa_eq 6 (.int .i64 (((i : Nat) : Int) - 1)) rfl (int_eq (by omega)) ?_
      refine a_round (ι := Nat) (j := i) (by show i ≤ 61; omega) (by show i < i + 1; omega) ⟨rfl, rfl, ?_, rfl, trivial⟩ ?_
      · rw [hh, show b % P61 / 2 ^ i % 2 = 1 by omega]; rfl
      · (apply ent; (repeat constructor); done)
    · skip
      refine w_skip (a_block (aT (wR ?_)))
      refine lY (yM rfl) rfl ?_
      refine lY (y_sub rfl rfl (by omega) (by omega)) rfl ?_
      refine lY (yA rfl) rfl ?_
      refine l_nil ?_
      refine wa_eq 6 (.int .i64 (((i : Nat) : Int) - 1)) rfl (int_eq (by omega)) ?_
      refine a_round (ι := Nat) (j := i) (by show i ≤ 61; omega) (by show i < i + 1; omega) ⟨rfl, rfl, ?_, rfl, trivial⟩ ?_
      · rw [hh, show b % P61 / 2 ^ i % 2 = 0 by omega]; rfl
      · (apply ent; (repeat constructor); done)
  · skip
    obtain rfl : i1 = 0 := by omega
    rw [Nat.pow_zero, Nat.div_one, mul_last]
    refine w_exit (a_then_exit (a_then_exit (a_block_exit (aT (w_seq (wR ?_))))))
    refine lY (yM rfl) rfl ?_
    refine lY (yA rfl) rfl ?_
    refine l_nil (aT (w_ret ?_))
    apply a_ret
    · rfl
    · (apply Rs.tmp rfl; exact Rs.nil)
    · exact ⟨rfl, rfl⟩
    · (apply ent; (repeat constructor); done)
theorem ct_rPow (hE : Seat E) {a n : Nat} (ha : a < 18446744073709551616) (hn : n < 18446744073709551616) : Ct E 63 [.int .u64 (a : Nat), .int .u64 (n : Nat)] [] (fun v Q => v = .int .u64 (powm a n : Nat) ∧ Q = []) := by
  have hpl : ∀ c, powm a c < 18446744073709551616 := fun c => Nat.lt_trans (powm_lt a c) (by decide)
  refine fn_enter (hE.fn Tryz.func63) rfl rfl rfl (fun R => ?_)
  simp only [argsL, List.cons_append, List.nil_append]
  refine w_seq (wR ?_)
  refine lY (yA rfl) rfl ?_
  refine l_nil (aT (w_seq (wR ?_)))
  refine lY (yA rfl) rfl ?_
  refine l_nil (aT (w_seq (w_seq (wR ?_))))
  refine lY (yA rfl) rfl ?_
  refine l_nil (aT (w_block ?_))
  skip
  refine w_loop (fun i : Nat => [(0, .int .u64 (a : Nat)), (1, .int .u64 (n : Nat)), (5, .int .u64 (powm a (n / 2 ^ i) : Nat)), (6, .int .i64 (((i : Nat) : Int) - 1))]) (fun _ => [R]) (fun i => i) (fun i => i ≤ 64) 64 (Nat.le_refl _) ⟨rfl, rfl, ?_, rfl, trivial⟩ ?_ ?_
  · rw [Nat.div_eq_of_lt (show n < 2 ^ 64 from hn), powm_zero]; rfl
  · (apply ent; (repeat constructor); done)
  intro i1 hi
  skip
  refine w_seq (w_seq (wR ?_))
  refine lY (yM rfl) rfl ?_
  refine lY (y_ge rfl rfl) rfl ?_
  refine l_nil (aT ?_)
  refine w_cond_d rfl (fun hlt => ?_) (fun hlt => ?_)
  · skip
    obtain ⟨i, rfl⟩ : ∃ i, i1 = i + 1 := ⟨i1 - 1, by omega⟩
    have hh := halves n i
    refine w_skip (aT (w_seq (w_block (w_seq (wR ?_)))))
    refine lY (yM rfl) rfl ?_
    refine lY (yM rfl) rfl ?_
    apply lL (by kernel_rfl) rfl
    apply ld_call (ct_rMul hE (hpl _)) rfl (hE.f (by kernel_rfl))
    · ((repeat constructor); done)
    rintro _ _ ⟨rfl, rfl⟩
    simp only [List.cons_append, List.nil_append]
    rw [pow_twice]
    refine lY (yA rfl) rfl ?_
    refine l_nil (aT ?_)
    refine w_seq (wR ?_)
    refine lY (yM rfl) rfl ?_
    refine lY (yM rfl) rfl ?_
    refine l_eq 15 (.int .i64 (i : Nat)) rfl (int_eq (by omega)) ?_
    apply lY
    · (first | exact y_shr rfl rfl (by omega) | exact y_shr_any rfl rfl (by show _ ≤ 64; omega))
    · rfl
    apply lY
    · (first | exact y_and1 rfl rfl | exact y_and rfl rfl)
    · rfl
    refine lY (y_eq rfl rfl) rfl ?_
    refine l_nil (aT ?_)
    refine w_cond_d rfl (fun h1 => ?_) (fun h1 => ?_)
    · skip
      refine wR ?_
      refine lY (yM rfl) rfl ?_
      refine lY (yM rfl) rfl ?_
      apply lL (by kernel_rfl) rfl
      apply ld_call (ct_rMul hE ha) rfl (hE.f (by kernel_rfl))
      · ((repeat constructor); done)
      rintro _ _ ⟨rfl, rfl⟩
      simp only [List.cons_append, List.nil_append]
      rw [pow_more]
      refine lY (yA rfl) rfl ?_
      refine l_nil (a_block (aT (wR ?_)))
      refine lY (yM rfl) rfl ?_
      refine lY (y_sub rfl rfl (by omega) (by omega)) rfl ?_
      refine lY (yA rfl) rfl ?_
      refine l_nil ?_
      refine wa_eq 6 (.int .i64 (((i : Nat) : Int) - 1)) rfl (int_eq (by omega)) ?_
      refine a_round (ι := Nat) (j := i) (by show i ≤ 64; omega) (by show i < i + 1; omega) ⟨rfl, rfl, ?_, rfl, trivial⟩ ?_
      · rw [hh, show n / 2 ^ i % 2 = 1 by omega]; rfl
      · (apply ent; (repeat constructor); done)
    · skip
      refine w_skip (a_block (aT (wR ?_)))
      refine lY (yM rfl) rfl ?_
      refine lY (y_sub rfl rfl (by omega) (by omega)) rfl ?_
      refine lY (yA rfl) rfl ?_
      refine l_nil ?_
      refine wa_eq 6 (.int .i64 (((i : Nat) : Int) - 1)) rfl (int_eq (by omega)) ?_
      refine a_round (ι := Nat) (j := i) (by show i ≤ 64; omega) (by show i < i + 1; omega) ⟨rfl, rfl, ?_, rfl, trivial⟩ ?_
      · rw [hh, show n / 2 ^ i % 2 = 0 by omega]; rfl
      · (apply ent; (repeat constructor); done)
  · skip
    obtain rfl : i1 = 0 := by omega
    rw [Nat.pow_zero, Nat.div_one]
    refine w_exit (a_then_exit (a_then_exit (a_block_exit (aT (w_seq (wR ?_))))))
    refine lY (yM rfl) rfl ?_
    refine lY (yA rfl) rfl ?_
    refine l_nil (aT (w_ret ?_))
    apply a_ret
    · rfl
    · (apply Rs.tmp rfl; exact Rs.nil)
    · exact ⟨rfl, rfl⟩
    · (apply ent; (repeat constructor); done)
theorem ct_rMix (hE : Seat E) {k x y : Nat} (hx : x < 18446744073709551616) (hy : y < 18446744073709551616) : Ct E 33 [.int .u64 (k : Nat), .int .u64 (x : Nat), .int .u64 (y : Nat)] [] (fun v Q => v = .int .u64 (mix k x y : Nat) ∧ Q = []) := by
  refine fn_enter (hE.fn Tryz.func33) rfl rfl rfl (fun R => ?_)
  simp only [argsL, List.cons_append, List.nil_append]
  refine w_seq (wR ?_)
  refine lY (yA rfl) rfl ?_
  refine l_nil (aT (w_seq (wR ?_)))
  refine lY (yM rfl) rfl ?_
  refine lY (yM rfl) rfl ?_
  apply lL (by kernel_rfl) rfl
  apply ld_call (ct_rMul (a := 1234567890123456789) hE hx) rfl (hE.f (by kernel_rfl))
  · ((repeat constructor); done)
  rintro _ _ ⟨rfl, rfl⟩
  simp only [List.cons_append, List.nil_append]
  refine lY (yM rfl) rfl ?_
  apply lL (by kernel_rfl) rfl
  apply ld_call (ct_rMul (a := 987654321987654321) hE hy) rfl (hE.f (by kernel_rfl))
  · ((repeat constructor); done)
  rintro _ _ ⟨rfl, rfl⟩
  simp only [List.cons_append, List.nil_append]
  skip
  apply lL (by kernel_rfl) rfl
  apply ld_call (ct_rAdd hE) rfl (hE.f (by kernel_rfl))
  · ((repeat constructor); done)
  rintro _ _ ⟨rfl, rfl⟩
  simp only [List.cons_append, List.nil_append]
  skip
  apply lL (by kernel_rfl) rfl
  apply ld_call (ct_rAdd hE) rfl (hE.f (by kernel_rfl))
  · ((repeat constructor); done)
  rintro _ _ ⟨rfl, rfl⟩
  simp only [List.cons_append, List.nil_append]
  skip
  apply lL (by kernel_rfl) rfl
  apply ld_call (ct_rPow (n := 17) hE (Nat.lt_trans (addm_lt _ _) (by decide)) (by decide)) rfl (hE.f (by kernel_rfl))
  · ((repeat constructor); done)
  rintro _ _ ⟨rfl, rfl⟩
  simp only [List.cons_append, List.nil_append]
  refine lY (yA rfl) rfl ?_
  refine l_nil (aT (w_ret ?_))
  apply a_ret
  · rfl
  · (apply Rs.tmp rfl; exact Rs.nil)
  · exact ⟨rfl, rfl⟩
  · (apply ent; (repeat constructor); done)
end Go.Proofs.YtekhbjlplfbdkaaGreatDoor
namespace Go.Proofs.YtekhbjlplfbdkaaGreatDoor
open Go Go.RowKit Sl Eg
set_option maxRecDepth 10000
variable {E : Env}
theorem ct_rNumber_no (hE : Seat E) {l : Nat} (h : l < 2 ∨ l % 2 = 1) : Ct E 96 [.int .i64 (l : Nat)] [] (fun v Q => v = .tuple #[.int .i64 (-1), .int .u64 0, .bool false] ∧ Q = []) := by
  refine fn_enter (hE.fn Tryz.func96) rfl rfl rfl (fun R => ?_)
  simp only [argsL, List.cons_append, List.nil_append]
  refine w_seq (wR ?_)
  refine lY (yA rfl) rfl ?_
  refine lY (yA rfl) rfl ?_
  refine lY (yA rfl) rfl ?_
  refine l_nil (aT (w_seq (w_seq (wR ?_))))
  refine lY (yM rfl) rfl ?_
  refine lY (y_lt rfl rfl) rfl ?_
  refine lY (yM rfl) rfl ?_
  refine l_split 8 rfl (fun h1 => ?_) (fun h1 => ?_)
  · skip
    refine l_off rfl rfl rfl rfl (l_off rfl rfl rfl rfl (l_off rfl rfl rfl rfl ?_))
    apply lY
    · (first | exact y_pick_t rfl rfl | exact y_pick_f rfl rfl)
    · rfl
    refine l_nil (aT ?_)
    refine w_cond_t rfl ?_
    refine w_seq (wR ?_)
    refine lY (yA rfl) rfl ?_
    refine lY (yA rfl) rfl ?_
    refine lY (yA rfl) rfl ?_
    refine l_nil (aT (w_ret (a_then_ret ?_)))
    apply a_ret
    · rfl
    · (apply Rs.tmp rfl; apply Rs.tmp rfl; apply Rs.tmp rfl; exact Rs.nil)
    · exact ⟨rfl, rfl⟩
    · (apply ent; (repeat constructor); done)
  · skip
    refine l_on rfl rfl ?_
    refine lY (yM rfl) rfl ?_
    refine l_on rfl rfl ?_
    refine lY (y_rem rfl rfl (by omega) (by omega)) rfl ?_
    refine l_on rfl rfl ?_
    refine lY (y_ne rfl rfl) rfl ?_
    apply lY
    · (first | exact y_pick_t rfl rfl | exact y_pick_f rfl rfl)
    · rfl
    refine l_nil (aT ?_)
    refine w_cond_d rfl (fun h2 => ?_) (fun h2 => ?_)
    · skip
      refine w_seq (wR ?_)
      refine lY (yA rfl) rfl ?_
      refine lY (yA rfl) rfl ?_
      refine lY (yA rfl) rfl ?_
      refine l_nil (aT (w_ret (a_then_ret ?_)))
      apply a_ret
      · rfl
      · (apply Rs.tmp rfl; apply Rs.tmp rfl; apply Rs.tmp rfl; exact Rs.nil)
      · exact ⟨rfl, rfl⟩
      · (apply ent; (repeat constructor); done)
    · exfalso; omega
theorem ct_rNumber (hE : Seat E) {l : Nat} (h2 : 2 ≤ l) (he : l % 2 = 0) (hll : l < 1099511627776) : Ct E 96 [.int .i64 (l : Nat)] [] (fun v Q => v = (if num l = 122 then .tuple #[.int .i64 0, .int .u64 0, .bool true] else .tuple #[.int .i64 (num l / 2 : Nat), .int .u64 (num l % 2 : Nat), .bool false]) ∧ Q = []) := by
  have hn := num_le l
  have hnv : (((l : Nat) : Int) / 2 - 1) % 123 = (num l : Nat) := by unfold num; omega
  refine fn_enter (hE.fn Tryz.func96) rfl rfl rfl (fun R => ?_)
  simp only [argsL, List.cons_append, List.nil_append]
  refine w_seq (wR ?_)
  refine lY (yA rfl) rfl ?_
  refine lY (yA rfl) rfl ?_
  refine lY (yA rfl) rfl ?_
  refine l_nil (aT (w_seq (w_seq (wR ?_))))
  refine lY (yM rfl) rfl ?_
  refine lY (y_lt rfl rfl) rfl ?_
  refine lY (yM rfl) rfl ?_
  refine l_split 8 rfl (fun h1 => ?_) (fun h1 => ?_)
  · exfalso; omega
  skip
  refine l_on rfl rfl ?_
  refine lY (yM rfl) rfl ?_
  refine l_on rfl rfl ?_
  refine lY (y_rem rfl rfl (by omega) (by omega)) rfl ?_
  refine l_on rfl rfl ?_
  refine lY (y_ne rfl rfl) rfl ?_
  apply lY
  · (first | exact y_pick_t rfl rfl | exact y_pick_f rfl rfl)
  · rfl
  refine l_nil (aT ?_)
  refine w_cond_d rfl (fun h3 => ?_) (fun h3 => ?_)
  · exfalso; omega
  skip
  refine w_skip (aT (w_seq (wR ?_)))
  refine lY (yM rfl) rfl ?_
  refine lY (y_quo rfl rfl (by omega) (by omega) (by omega)) rfl ?_
  refine lY (y_sub rfl rfl (by omega) (by omega)) rfl ?_
  refine lY (y_rem rfl rfl (by omega) (by omega)) rfl ?_
  refine lY (yA rfl) rfl ?_
  refine l_nil (aT ?_)
  refine w_eq 5 (.int .i64 (num l : Nat)) rfl (int_eq hnv) ?_
  refine w_seq (w_seq (wR ?_))
  refine lY (yM rfl) rfl ?_
  refine lY (y_eq rfl rfl) rfl ?_
  refine l_nil (aT ?_)
  refine w_cond_d rfl (fun hc => ?_) (fun hc => ?_)
  · skip
    have hc' : num l = 122 := by omega
    rw [if_pos hc']
    refine w_seq (wR ?_)
    refine lY (yA rfl) rfl ?_
    refine lY (yA rfl) rfl ?_
    refine lY (yA rfl) rfl ?_
    refine l_nil (aT (w_ret (a_then_ret ?_)))
    apply a_ret
    · rfl
    · (apply Rs.tmp rfl; apply Rs.tmp rfl; apply Rs.tmp rfl; exact Rs.nil)
    · exact ⟨rfl, rfl⟩
    · (apply ent; (repeat constructor); done)
  · skip
    have hc' : num l ≠ 122 := by omega
    rw [if_neg hc']
    refine w_skip (aT ?_)
    refine w_seq (wR ?_)
    refine lY (yM rfl) rfl ?_
    refine lY (y_quo rfl rfl (by omega) (by omega) (by omega)) rfl ?_
    refine lY (yM rfl) rfl ?_
    refine lY (y_rem rfl rfl (by omega) (by omega)) rfl ?_
    apply lY
    · exact y_conv (i := ((num l : Nat) : Int) % 2) rfl (hE.t rfl) (hE.t rfl) (wrap_uu (by omega) (by omega))
    · rfl
    refine lY (yA rfl) rfl ?_
    refine lY (yA rfl) rfl ?_
    refine lY (yA rfl) rfl ?_
    refine l_nil (aT (w_ret ?_))
    apply a_ret
    · rfl
    · (apply Rs.tmp rfl; apply Rs.tmp rfl; apply Rs.tmp rfl; exact Rs.nil)
    · exact ⟨rfl, rfl⟩
    · (apply ent; (repeat constructor); done)
def fitL (l x y : Nat) : Prop := 2 ≤ l ∧ l % 2 = 0 ∧ fitsAt (num l) x y
theorem ct_rFits (hE : Seat E) {l x y : Nat} (hll : l < 1099511627776) : Ct E 66 [.int .u64 (x : Nat), .int .u64 (y : Nat), .int .i64 (l : Nat)] [] (fun v Q => ∃ d : Bool, v = .bool d ∧ (d = true ↔ fitL l x y) ∧ Q = []) := by
  by_cases hno : l < 2 ∨ l % 2 = 1
  · refine fn_enter (hE.fn Tryz.func66) rfl rfl rfl (fun R => ?_)
    simp only [argsL, List.cons_append, List.nil_append]
    refine w_seq (wR ?_)
    refine lY (yA rfl) rfl ?_
    refine l_nil (aT (w_seq (wR ?_)))
    refine lY (yM rfl) rfl ?_
    apply lL (by kernel_rfl) rfl
    apply ld_call (ct_rNumber_no hE hno) rfl (hE.f (by kernel_rfl))
    · ((repeat constructor); done)
    rintro _ _ ⟨rfl, rfl⟩
    simp only [List.cons_append, List.nil_append]
    refine lY (yM rfl) rfl ?_
    refine lY (y_extract rfl rfl) rfl ?_
    refine lY (y_extract rfl rfl) rfl ?_
    refine lY (y_extract rfl rfl) rfl ?_
    refine lY (yA rfl) rfl ?_
    refine lY (yA rfl) rfl ?_
    refine lY (yA rfl) rfl ?_
    refine l_nil (aT (w_seq (w_seq (wR ?_))))
    refine lY (yM rfl) rfl ?_
    refine lY (y_lt rfl rfl) rfl ?_
    refine l_nil (aT ?_)
    refine w_cond_t rfl ?_
    refine w_seq (wR ?_)
    refine lY (yA rfl) rfl ?_
    refine l_nil (aT (w_ret (a_then_ret ?_)))
    apply a_ret
    · rfl
    · (apply Rs.tmp rfl; exact Rs.nil)
    · exact ⟨false, rfl, ⟨(fun h => by cases h), (fun h => by have h1 := h.1; have h2 := h.2.1; omega)⟩, rfl⟩
    · (apply ent; (repeat constructor); done)
  have h2 : 2 ≤ l := by omega
  have he : l % 2 = 0 := by omega
  have hn := num_le l
  have hfl : fitL l x y ↔ fitsAt (num l) x y := ⟨fun h => h.2.2, fun h => ⟨h2, he, h⟩⟩
  have hct := ct_rNumber hE h2 he hll
  by_cases hc : num l = 122
  · rw [if_pos hc] at hct
    refine fn_enter (hE.fn Tryz.func66) rfl rfl rfl (fun R => ?_)
    simp only [argsL, List.cons_append, List.nil_append]
    refine w_seq (wR ?_)
    refine lY (yA rfl) rfl ?_
    refine l_nil (aT (w_seq (wR ?_)))
    refine lY (yM rfl) rfl ?_
    apply lL (by kernel_rfl) rfl
    apply ld_call (hct) rfl (hE.f (by kernel_rfl))
    · ((repeat constructor); done)
    rintro _ _ ⟨rfl, rfl⟩
    simp only [List.cons_append, List.nil_append]
    refine lY (yM rfl) rfl ?_
    refine lY (y_extract rfl rfl) rfl ?_
    refine lY (y_extract rfl rfl) rfl ?_
    refine lY (y_extract rfl rfl) rfl ?_
    refine lY (yA rfl) rfl ?_
    refine lY (yA rfl) rfl ?_
    refine lY (yA rfl) rfl ?_
    refine l_nil (aT (w_seq (w_seq (wR ?_))))
    refine lY (yM rfl) rfl ?_
    refine lY (y_lt rfl rfl) rfl ?_
    refine l_nil (aT ?_)
    refine w_cond_f rfl ?_
    refine w_skip (aT (w_seq (w_seq (wR ?_))))
    refine lY (yM rfl) rfl ?_
    refine l_nil (aT ?_)
    refine w_cond_t rfl ?_
    refine w_seq (wR ?_)
    refine lY (yM rfl) rfl ?_
    refine lY (yM rfl) rfl ?_
    refine lY (y_eq rfl rfl) rfl ?_
    refine lY (yA rfl) rfl ?_
    refine l_nil (aT (w_ret (a_then_ret ?_)))
    apply a_ret
    · rfl
    · (apply Rs.tmp rfl; exact Rs.nil)
    · refine ⟨_, rfl, ?_, rfl⟩
      rw [hfl, fits_tie hc, decide_eq_true_eq]
      omega
    · (apply ent; (repeat constructor); done)
  · rw [if_neg hc] at hct
    have hfb := fits_bits (c := num l) (x := x) (y := y) hc
    have hbl := bt_lt y (num l / 2)
    unfold bt at hfb hbl
    refine fn_enter (hE.fn Tryz.func66) rfl rfl rfl (fun R => ?_)
    simp only [argsL, List.cons_append, List.nil_append]
    refine w_seq (wR ?_)
    refine lY (yA rfl) rfl ?_
    refine l_nil (aT (w_seq (wR ?_)))
    refine lY (yM rfl) rfl ?_
    apply lL (by kernel_rfl) rfl
    apply ld_call (hct) rfl (hE.f (by kernel_rfl))
    · ((repeat constructor); done)
    rintro _ _ ⟨rfl, rfl⟩
    simp only [List.cons_append, List.nil_append]
    refine lY (yM rfl) rfl ?_
    refine lY (y_extract rfl rfl) rfl ?_
    refine lY (y_extract rfl rfl) rfl ?_
    refine lY (y_extract rfl rfl) rfl ?_
    refine lY (yA rfl) rfl ?_
    refine lY (yA rfl) rfl ?_
    refine lY (yA rfl) rfl ?_
    refine l_nil (aT (w_seq (w_seq (wR ?_))))
    refine lY (yM rfl) rfl ?_
    refine lY (y_lt rfl rfl) rfl ?_
    refine l_nil (aT ?_)
    refine w_cond_d rfl (fun h0 => ?_) (fun h0 => ?_)
    · exfalso; omega
    skip
    refine w_skip (aT (w_seq (w_seq (wR ?_))))
    refine lY (yM rfl) rfl ?_
    refine l_nil (aT ?_)
    refine w_cond_f rfl ?_
    refine w_skip (aT (w_seq (wR ?_)))
    refine lY (yM rfl) rfl ?_
    refine lY (yM rfl) rfl ?_
    apply lY
    · (first | exact y_shr rfl rfl (by omega) | exact y_shr_any rfl rfl (by show _ ≤ 64; omega))
    · rfl
    apply lY
    · (first | exact y_and1 rfl rfl | exact y_and rfl rfl)
    · rfl
    refine lY (yM rfl) rfl ?_
    refine lY (y_eq rfl rfl) rfl ?_
    refine lY (yM rfl) rfl ?_
    refine l_split 28 rfl (fun h1 => ?_) (fun h1 => ?_)
    · skip
      refine l_on rfl rfl ?_
      refine lY (yM rfl) rfl ?_
      refine l_on rfl rfl ?_
      refine lY (yM rfl) rfl ?_
      refine l_on rfl rfl ?_
      apply lY
      · (first | exact y_shr rfl rfl (by omega) | exact y_shr_any rfl rfl (by show _ ≤ 64; omega))
      · rfl
      refine l_on rfl rfl ?_
      apply lY
      · (first | exact y_and1 rfl rfl | exact y_and rfl rfl)
      · rfl
      refine l_on rfl rfl ?_
      refine lY (yM rfl) rfl ?_
      refine l_on rfl rfl ?_
      apply lY
      · exact y_sub_u rfl rfl (by omega) (by omega)
      · rfl
      refine l_on rfl rfl ?_
      refine lY (y_eq rfl rfl) rfl ?_
      apply lY
      · (first | exact y_pick_t rfl rfl | exact y_pick_f rfl rfl)
      · rfl
      refine lY (yA rfl) rfl ?_
      refine l_nil (aT (w_ret ?_))
      apply a_ret
      · rfl
      · (apply Rs.tmp rfl; exact Rs.nil)
      · refine ⟨_, rfl, ?_, rfl⟩
        rw [decide_eq_true_eq, hfl, hfb]
        omega
      · (apply ent; (repeat constructor); done)
    · skip
      refine l_off rfl rfl rfl rfl (l_off rfl rfl rfl rfl (l_off rfl rfl rfl rfl (l_off rfl rfl rfl rfl (l_off rfl rfl rfl rfl (l_off rfl rfl rfl rfl (l_off rfl rfl rfl rfl ?_))))))
      apply lY
      · (first | exact y_pick_t rfl rfl | exact y_pick_f rfl rfl)
      · rfl
      refine lY (yA rfl) rfl ?_
      refine l_nil (aT (w_ret ?_))
      apply a_ret
      · rfl
      · (apply Rs.tmp rfl; exact Rs.nil)
      · refine ⟨false, rfl, ?_, rfl⟩
        rw [hfl, hfb]
        simp only [Bool.false_eq_true, false_iff]
        omega
      · (apply ent; (repeat constructor); done)
theorem ct_rAfter (hE : Seat E) {low x y : Nat} (hx : x < P61) (hy : y < P61) (hl : low < 549755813888) : Ct E 34 [.int .i64 (low : Nat), .int .u64 (x : Nat), .int .u64 (y : Nat)] [] (fun v Q => v = .int .i64 (after low x y : Nat) ∧ Q = []) := by
  have hsp := after_spec (low := low) hx hy
  have hev := after_even low x y
  have hgt := (after_gt (low := low) hx hy).1
  have hle := after_le (low := low) hx hy
  refine fn_enter (hE.fn Tryz.func34) rfl rfl rfl (fun R => ?_)
  simp only [argsL, List.cons_append, List.nil_append]
  refine w_seq (wR ?_)
  refine lY (yA rfl) rfl ?_
  refine l_nil (aT (w_seq (w_seq (wR ?_))))
  refine lY (yA rfl) rfl ?_
  refine l_nil (aT (w_block ?_))
  skip
  refine w_loop (fun i : Nat => [(0, .int .i64 (low : Nat)), (1, .int .u64 (x : Nat)), (2, .int .u64 (y : Nat)), (7, .int .i64 ((i + 1 : Nat) : Int))]) (fun _ => [R]) (fun i => 246 - i) (fun i => low + i < after low x y) 0 hgt ⟨rfl, rfl, rfl, rfl, trivial⟩ ?_ ?_
  · (apply ent; (repeat constructor); done)
  intro i hi
  skip
  refine w_seq (w_seq (wR ?_))
  refine lY (yM rfl) rfl ?_
  refine lY (y_le rfl rfl) rfl ?_
  refine l_nil (aT ?_)
  refine w_cond_d rfl (fun hlt => ?_) (fun hlt => ?_)
  · skip
    refine w_skip (aT (w_seq (w_block (w_seq (wR ?_)))))
    refine lY (yM rfl) rfl ?_
    refine lY (yM rfl) rfl ?_
    refine lY (yM rfl) rfl ?_
    refine lY (yM rfl) rfl ?_
    refine lY (y_add rfl rfl (by omega) (by omega)) rfl ?_
    refine l_eq 16 (.int .i64 ((low + (i + 1) : Nat) : Int)) rfl (int_eq (by omega)) ?_
    apply lL (by kernel_rfl) rfl
    apply ld_call (ct_rFits hE (by omega)) rfl (hE.f (by kernel_rfl))
    · ((repeat constructor); done)
    rintro _ _ ⟨d, rfl, hd, rfl⟩
    simp only [List.cons_append, List.nil_append]
    refine l_nil (aT ?_)
    skip
    cases d with
    | true =>
      obtain ⟨_, f2, f3⟩ := hd.1 rfl
      have := hsp.2 (low + (i + 1)) (by omega) f2 f3
      refine w_cond_t rfl ?_
      refine w_seq (wR ?_)
      refine lY (yM rfl) rfl ?_
      refine lY (yM rfl) rfl ?_
      refine lY (y_add rfl rfl (by omega) (by omega)) rfl ?_
      refine lY (yA rfl) rfl ?_
      refine l_nil (aT (w_ret (a_block_ret (a_then_ret (a_then_ret (a_block_ret (a_then_ret ?_)))))))
      apply a_ret
      · rfl
      · (apply Rs.tmp rfl; exact Rs.nil)
      · exact ⟨by simp only [one]; exact congrArg (Value.int IntKind.i64) (by omega), rfl⟩
      · (apply ent; (repeat constructor); done)
    | false =>
      have hne : low + (i + 1) ≠ after low x y := fun e => by
        have : fitL (low + (i + 1)) x y := by rw [e]; exact ⟨by omega, hev, hsp.1⟩
        have := hd.2 this
        cases this
      skip
      refine w_cond_f rfl ?_
      refine w_skip (a_block (aT (wR ?_)))
      refine lY (yM rfl) rfl ?_
      refine lY (y_add rfl rfl (by omega) (by omega)) rfl ?_
      refine lY (yA rfl) rfl ?_
      refine l_nil ?_
      refine wa_eq 7 (.int .i64 ((i + 1 + 1 : Nat) : Int)) rfl (int_eq (by omega)) ?_
      refine a_round (ι := Nat) (j := i + 1) (by show low + (i + 1) < after low x y; omega) (by show 246 - (i + 1) < 246 - i; omega) ⟨rfl, rfl, rfl, rfl, trivial⟩ ?_
      (apply ent; (repeat constructor); done)
  · exfalso
    omega
end Go.Proofs.YtekhbjlplfbdkaaGreatDoor
namespace Go.Proofs.YtekhbjlplfbdkaaGreatDoor
open Go Go.RowKit Sl Eg
set_option maxRecDepth 10000
variable {E : Env} {Es : List Ent} {s most : Nat}
def rlC (r : Rl) : List Value := [.int .i64 (Rl.kind (r) : Nat), .int .u8 (Rl.byte (r) : Nat), .int .i64 (Rl.left (r) : Nat), .int .i64 (Rl.right (r) : Nat), .int .i64 (Rl.times (r) : Nat)]
def ruC (L : List Rl) : List Value := [.int .i64 0, .int .u8 0, .int .i64 0, .int .i64 0, .int .i64 0] ++ L.flatMap rlC
theorem ruC_snoc (L : List Rl) (r : Rl) : ruC (L ++ [r]) = ruC L ++ rlC r := by simp [ruC]
theorem ruC_length (L : List Rl) : (ruC L).length = (L.length + 1) * 5 := by
  refine rev_ind (P := fun L => (ruC L).length = (L.length + 1) * 5) rfl ?_ L
  intro L r ih
  rw [ruC_snoc, List.length_append, ih]
  simp [rlC]
  omega
structure RuX where
  k : Nat
  p : Option Addr
  c : Nat
theorem ct_rules (hE : Seat E) (hn : Es.length ≤ 1048576) : Ct E 12 [.pointer (some ⟨s, 0, none⟩)] [storeP s most Es] (fun v Q => ∃ p c, v = .slice p (Es.length + 1) c ∧ Q = [storeP s most Es, sl p c 73 5 (Es.length + 1) (ruC (rls Es))]) := by
  refine fn_enter (hE.fn Tryz.func12) rfl rfl rfl (fun R => ?_)
  simp only [argsL, List.cons_append, List.nil_append]
  refine w_seq (wR ?_)
  refine lY (yA rfl) rfl ?_
  refine l_nil (aT (w_seq (wR ?_)))
  apply lY
  · (first | exact y_build (hE.t rfl) rfl rfl | exact y_buildA (hE.t rfl) rfl rfl)
  · rfl
  apply lL (by kernel_rfl) rfl
  refine ld_buildSlice (hE.t rfl) (hE.t rfl) rfl rfl rfl (fun b8 => ?_)
  refine lY (yA rfl) rfl ?_
  refine l_nil (aT (w_seq (w_seq (wR ?_))))
  refine lY (yA rfl) rfl ?_
  refine l_nil (aT (w_block ?_))
  refine w_heap (ent_head (p := cells b8 (ruC []) 73) (p' := sl (some ⟨b8, 0, none⟩) 1 73 5 1 (ruC [])) (by ((repeat constructor); done)) (sl_of_cells rfl (by unfold maxLen; omega))) ?_
  skip
  refine w_loop (fun q : RuX => [(0, .pointer (some ⟨s, 0, none⟩)), (3, .slice q.p (q.k + 1) q.c), (4, .int .i64 ((q.k + 1 : Nat) : Int))]) (fun q => [storeP s most Es, sl q.p q.c 73 5 (q.k + 1) (ruC ((rls Es).take q.k)), R]) (fun q => Es.length - q.k) (fun q => q.k ≤ Es.length) ⟨0, some ⟨b8, 0, none⟩, 1⟩ (Nat.zero_le _) ⟨rfl, rfl, rfl, trivial⟩ ?_ ?_
  · (apply ent; (repeat constructor); done)
  rintro ⟨k, p, c⟩ hk
  simp only at hk ⊢
  skip
  refine w_seq (w_seq (wR ?_))
  refine lY (yM rfl) rfl ?_
  refine lY (yM rfl) rfl ?_
  apply lL (by kernel_rfl) rfl
  apply ld_call (ct_len hE) rfl (hE.f (by kernel_rfl))
  · ((repeat constructor); done)
  rintro _ _ ⟨rfl, rfl⟩
  simp only [List.cons_append, List.nil_append]
  refine lY (y_le rfl rfl) rfl ?_
  refine l_nil (aT ?_)
  refine w_cond_d rfl (fun hlt => ?_) (fun hlt => ?_)
  · skip
    have hkn : k < Es.length := by omega
    obtain ⟨en, hent⟩ : ∃ e, Es[k]? = some e := ⟨_, List.getElem?_eq_getElem hkn⟩
    have eT : (rls Es).take (k + 1) = (rls Es).take k ++ [en.r] := by rw [List.take_add_one, rls_get hent]; rfl
    refine w_skip (aT (w_seq (w_block (w_seq (wR ?_)))))
    refine lY (yM rfl) rfl ?_
    refine lY (yM rfl) rfl ?_
    apply lL (by kernel_rfl) rfl
    apply ld_call (ct_rule hE hent) rfl (hE.f (by kernel_rfl))
    · ((repeat constructor); done)
    rintro _ _ ⟨rfl, rfl⟩
    simp only [List.cons_append, List.nil_append]
    refine lY (yM rfl) rfl ?_
    refine lY (y_extract rfl rfl) rfl ?_
    refine lY (y_extract rfl rfl) rfl ?_
    apply lL (by kernel_rfl) rfl
    refine ld_alloc (hE.t rfl) (fun b5 => ?_)
    apply lL (by kernel_rfl) rfl
    (first | (apply ld_store rfl rfl (hE.t rfl) rfl; (focus ((repeat constructor); done)); (focus rfl); (focus (exact Nat.le_of_ble_eq_true rfl))) | (apply ld_store_sl rfl rfl (hE.t rfl) rfl; (focus ((repeat constructor); done)); (focus rfl); (focus (first | omega | (simp only [cellsL, length_setMany, List.length_cons, List.length_nil]; omega)))))
    refine lY (yA rfl) rfl ?_
    refine l_nil (aT (wR ?_))
    refine lY (yM rfl) rfl ?_
    apply lY
    · (apply y_load_agg rfl (hE.t rfl) rfl; (repeat (first | rfl | assumption | constructor)); done)
    · rfl
    apply lL (by kernel_rfl) rfl
    refine ld_buildSlice (hE.t rfl) (hE.t rfl) rfl rfl rfl (fun b23 => ?_)
    apply lL (by kernel_rfl) rfl
    apply ld_append (hE.t rfl) (hE.t rfl) rfl rfl rfl
    · ((repeat constructor); done)
    · ((repeat constructor); done)
    · rfl
    · rfl
    · omega
    · omega
    · (unfold maxLen; omega)
    intro g24 c24 n24 x24 hn24 hx24
    refine lY (yA rfl) rfl ?_
    refine l_nil (a_block (aT (wR ?_)))
    refine lY (yM rfl) rfl ?_
    refine lY (y_add rfl rfl (by omega) (by omega)) rfl ?_
    refine lY (yA rfl) rfl ?_
    refine l_nil ?_
    obtain rfl : n24 = k + 1 + 1 := by omega
    obtain rfl : x24 = ruC ((rls Es).take (k + 1)) := by rw [hx24, eT, ruC_snoc]; rfl
    refine wa_eq 4 (.int .i64 ((k + 1 + 1 : Nat) : Int)) rfl (int_eq (by omega)) ?_
    refine a_round (ι := RuX) (j := ⟨k + 1, some ⟨g24, 0, none⟩, c24⟩) hkn (by show Es.length - (k + 1) < Es.length - k; omega) ⟨rfl, rfl, rfl, trivial⟩ ?_
    (apply ent; (repeat constructor); done)
  · skip
    obtain rfl : k = Es.length := by omega
    have e : (rls Es).take Es.length = rls Es := List.take_of_length_le (by rw [rls_length]; exact Nat.le_refl _)
    rw [e]
    refine w_exit (a_then_exit (a_then_exit (a_block_exit (aT (w_seq (wR ?_))))))
    refine lY (yM rfl) rfl ?_
    refine lY (yA rfl) rfl ?_
    refine l_nil (aT (w_ret ?_))
    apply a_ret
    · rfl
    · (apply Rs.tmp rfl; exact Rs.nil)
    · exact ⟨p, c, rfl, rfl⟩
    · (apply ent; (repeat constructor); done)
end Go.Proofs.YtekhbjlplfbdkaaGreatDoor
namespace Go.Proofs.YtekhbjlplfbdkaaGreatDoor
open Go Go.RowKit Sl Eg
set_option maxRecDepth 10000
variable {E : Env} {L : List Rl}
def kcl (L : List Rl) (i : Nat) : List Value := [.int .u64 (key L i : Nat), .int .i64 (lvl L i)]
def keC (L : List Rl) (n : Nat) : List Value := (List.range n).flatMap (kcl L)
theorem keC_snoc (L : List Rl) (n : Nat) : keC L (n + 1) = keC L n ++ kcl L n := by simp [keC, List.range_succ]
theorem keC_length (L : List Rl) (n : Nat) : (keC L n).length = n * 2 := by
  induction n with
  | zero => rfl
  | succ n ih => rw [keC_snoc, List.length_append, ih]; simp [kcl]; omega
theorem keC_at (L : List Rl) {i : Nat} : ∀ {n : Nat}, i < n → ∀ o, o = i * 2 → (keC L n)[o]? = some (.int .u64 (key L i : Nat)) ∧ (keC L n)[o + 1]? = some (.int .i64 (lvl L i))
  | 0, h, _, _ => by omega
  | n + 1, h, o, ho => by
    have hl := keC_length L n
    rw [keC_snoc]
    rcases Nat.lt_or_ge i n with hlt | hge
    · obtain ⟨h1, h2⟩ := keC_at L hlt o ho
      exact ⟨by rw [List.getElem?_append_left (by omega)]; exact h1, by rw [List.getElem?_append_left (by omega)]; exact h2⟩
    · obtain rfl : i = n := by omega
      subst ho
      exact ⟨by rw [List.getElem?_append_right (by omega), hl, Nat.sub_self]; rfl, by rw [List.getElem?_append_right (by omega), hl, show i * 2 + 1 - i * 2 = 1 by omega]; rfl⟩
theorem ruC_at {L : List Rl} {k : Nat} {r : Rl} (h : L[k]? = some r) (o : Nat) (ho : o = (k + 1) * 5) : (ruC L)[o]? = some (.int .i64 (Rl.kind r : Nat)) ∧ (ruC L)[o + 1]? = some (.int .u8 (Rl.byte r : Nat)) ∧ (ruC L)[o + 2]? = some (.int .i64 (Rl.left r : Nat)) ∧ (ruC L)[o + 3]? = some (.int .i64 (Rl.right r : Nat)) ∧ (ruC L)[o + 4]? = some (.int .i64 (Rl.times r : Nat)) := by
  have hk := (List.getElem?_eq_some_iff.1 h).1
  have e : L = L.take k ++ r :: L.drop (k + 1) := by
    obtain ⟨h1, e1⟩ := List.getElem?_eq_some_iff.1 h
    have e2 : L.drop k = r :: L.drop (k + 1) := by rw [List.drop_eq_getElem_cons h1, e1]
    rw [← e2, List.take_append_drop]
  have hl : (ruC (L.take k)).length = o := by rw [ruC_length, List.length_take, Nat.min_eq_left (by omega), ho]
  have e2 : ruC L = ruC (L.take k) ++ (rlC r ++ (L.drop (k + 1)).flatMap rlC) := by
    conv => lhs; rw [e]
    simp [ruC]
  rw [e2]
  subst hl
  exact ⟨ap_0, ap_1, ap_2, ap_3, ap_4⟩
structure KeX where
  k : Nat
  p : Option Addr
  c : Nat
theorem ct_rKeys (hE : Seat E) (hw : Wf L) (hL : L.length ≤ 1048576) {p : Option Addr} {c : Nat} : Ct E 13 [.slice p (L.length + 1) c] [sl p c 73 5 (L.length + 1) (ruC L)]
    (fun v Q => ∃ p' c', v = .slice p' (L.length + 1) c' ∧ Q = [sl p c 73 5 (L.length + 1) (ruC L), sl p' c' 41 2 (L.length + 1) (keC L (L.length + 1))]) := by
  refine ct_fact (p := sl p c 73 5 (L.length + 1) (ruC L)) (by ((repeat constructor); done)) (fun _ h => sl_form h (by omega)) ?_
  rintro ⟨g, rfl⟩
  refine fn_enter (hE.fn Tryz.func13) rfl rfl rfl (fun R => ?_)
  simp only [argsL, List.cons_append, List.nil_append]
  refine w_seq (wR ?_)
  refine lY (yA rfl) rfl ?_
  refine l_nil (aT (w_seq (wR ?_)))
  apply lY
  · (first | exact y_build (hE.t rfl) rfl rfl | exact y_buildA (hE.t rfl) rfl rfl)
  · rfl
  apply lL (by kernel_rfl) rfl
  refine ld_buildSlice (hE.t rfl) (hE.t rfl) rfl rfl rfl (fun b10 => ?_)
  refine lY (yA rfl) rfl ?_
  refine l_nil (aT (w_seq (w_seq (wR ?_))))
  refine lY (yA rfl) rfl ?_
  refine l_nil (aT (w_block ?_))
  refine w_heap (ent_head (p := cells b10 (keC L 1) 41) (p' := sl (some ⟨b10, 0, none⟩) 1 41 2 1 (keC L 1)) (by ((repeat constructor); done)) (sl_of_cells rfl (by unfold maxLen; omega))) ?_
  skip
  refine w_loop (fun q : KeX => [(0, .slice (some ⟨g, 0, none⟩) (L.length + 1) c), (3, .slice q.p (q.k + 1) q.c), (4, .int .i64 ((q.k + 1 : Nat) : Int))]) (fun q => [sl (some ⟨g, 0, none⟩) c 73 5 (L.length + 1) (ruC L), sl q.p q.c 41 2 (q.k + 1) (keC L (q.k + 1)), R]) (fun q => L.length - q.k) (fun q => q.k ≤ L.length) ⟨0, some ⟨b10, 0, none⟩, 1⟩ (Nat.zero_le _) ⟨rfl, rfl, rfl, trivial⟩ ?_ ?_
  · (apply ent; (repeat constructor); done)
  rintro ⟨k, p2, c2⟩ hk
  simp only at hk ⊢
  skip
  refine w_seq (w_seq (wR ?_))
  refine lY (yM rfl) rfl ?_
  refine lY (yM rfl) rfl ?_
  refine lY (y_len_slice rfl (hE.t rfl)) rfl ?_
  refine lY (y_lt rfl rfl) rfl ?_
  refine l_nil (aT ?_)
  refine w_cond_d rfl (fun hlt => ?_) (fun hlt => ?_)
  · skip
    have hkn : k < L.length := by omega
    obtain ⟨r, hr⟩ : ∃ r, L[k]? = some r := ⟨_, List.getElem?_eq_getElem hkn⟩
    have hok := hw.ok k r hr
    refine w_say (p := sl p2 c2 41 2 (k + 1) (keC L (k + 1))) (by ((repeat constructor); done)) (fun _ h => sl_form h (by omega)) ?_
    rintro ⟨g2, rfl⟩
    obtain ⟨f0, f1, f2, f3, f4⟩ := ruC_at hr (0 + ((k + 1 : Nat) : Int).toNat * 5) (by omega)
    have hle : Rl.left r ≤ k := by
      cases r with
      | letter b => exact Nat.zero_le _
      | pair a b => obtain ⟨q1, q2, q3, q4⟩ := hok; show a ≤ k; omega
      | power y n => obtain ⟨q1, q2, q3⟩ := hok; show y ≤ k; omega
    have hri : Rl.right r ≤ k := by
      cases r with
      | letter b => exact Nat.zero_le _
      | pair a b => obtain ⟨q1, q2, q3, q4⟩ := hok; show b ≤ k; omega
      | power y n => exact Nat.zero_le _
    obtain ⟨a0, a1⟩ := keC_at L (i := Rl.left r) (n := k + 1) (by omega) (0 + ((Rl.left r : Nat) : Int).toNat * 2) (by omega)
    obtain ⟨b0, b1⟩ := keC_at L (i := Rl.right r) (n := k + 1) (by omega) (0 + ((Rl.right r : Nat) : Int).toNat * 2) (by omega)
    refine w_skip (aT (w_seq (w_block (w_seq (wR ?_)))))
    refine lY (yM rfl) rfl ?_
    refine lY (yM rfl) rfl ?_
    refine lY (y_indexAddr rfl rfl (hE.t rfl) (by omega) (by omega)) rfl ?_
    apply lY
    · (apply y_load_agg rfl (hE.t rfl) rfl; (repeat (first | rfl | assumption | constructor)); done)
    · rfl
    apply lL (by kernel_rfl) rfl
    refine ld_alloc (hE.t rfl) (fun b5 => ?_)
    apply lL (by kernel_rfl) rfl
    (first | (apply ld_store rfl rfl (hE.t rfl) rfl; (focus ((repeat constructor); done)); (focus rfl); (focus (exact Nat.le_of_ble_eq_true rfl))) | (apply ld_store_sl rfl rfl (hE.t rfl) rfl; (focus ((repeat constructor); done)); (focus rfl); (focus (first | omega | (simp only [cellsL, length_setMany, List.length_cons, List.length_nil]; omega)))))
    refine l_nil (aT ?_)
    refine w_cut (fun q : Nat × Nat => [(0, .slice (some ⟨g, 0, none⟩) (L.length + 1) c), (3, .slice (some ⟨g2, 0, none⟩) (k + 1) c2), (4, .int .i64 ((k + 1 : Nat) : Int)), (5, .pointer (some ⟨b5, 0, none⟩)), (6, .pointer (some ⟨q.1, 0, none⟩)), (7, .pointer (some ⟨q.2, 0, none⟩))]) (fun q => [sl (some ⟨g, 0, none⟩) c 73 5 (L.length + 1) (ruC L), sl (some ⟨g2, 0, none⟩) c2 41 2 (k + 1) (keC L (k + 1)), cells b5 [.int .i64 (Rl.kind (r) : Nat), .int .u8 (Rl.byte (r) : Nat), .int .i64 (Rl.left (r) : Nat), .int .i64 (Rl.right (r) : Nat), .int .i64 (Rl.times (r) : Nat)] 73, cells q.1 (kcl L (Rl.left r)) 41, cells q.2 (kcl L (Rl.right r)) 41, R]) (fun _ => True) ?_ ?_
    · skip
      refine w_until 13 ([cells b5 [.int .i64 (Rl.kind (r) : Nat), .int .u8 (Rl.byte (r) : Nat), .int .i64 (Rl.left (r) : Nat), .int .i64 (Rl.right (r) : Nat), .int .i64 (Rl.times (r) : Nat)] 73, sl (some ⟨g2, 0, none⟩) c2 41 2 (k + 1) (keC L (k + 1))]) ?_ ?_
      · (apply ent; (repeat constructor); done)
      apply m_take 0 rfl
      · exact yM rfl
      · with_reducible (repeat (first | exact cB | apply cT | apply cK))
      · kernel_rfl
      · rfl
      apply m_take 1 rfl
      · exact yF rfl (hE.t rfl) rfl
      · with_reducible (repeat (first | exact cB | apply cT | apply cK))
      · kernel_rfl
      · rfl
      apply m_take 2 rfl
      · (apply y_load rfl (hE.t rfl) rfl; (repeat (first | rfl | assumption | constructor)); done)
      · with_reducible (repeat (first | exact cB | apply cT | apply cK))
      · kernel_rfl
      · rfl
      apply m_take 3 rfl
      · exact y_indexAddr rfl rfl (hE.t rfl) (by omega) (by omega)
      · with_reducible (repeat (first | exact cB | apply cT | apply cK))
      · kernel_rfl
      · rfl
      apply m_take 4 rfl
      · (apply y_load_agg rfl (hE.t rfl) rfl; (repeat (first | rfl | assumption | constructor)); done)
      · with_reducible (repeat (first | exact cB | apply cT | apply cK))
      · kernel_rfl
      · rfl
      apply m_take 5 rfl
      · exact yM rfl
      · with_reducible (repeat (first | exact cB | apply cT | apply cK))
      · kernel_rfl
      · rfl
      apply m_take 6 rfl
      · exact yF rfl (hE.t rfl) rfl
      · with_reducible (repeat (first | exact cB | apply cT | apply cK))
      · kernel_rfl
      · rfl
      apply m_take 7 rfl
      · (apply y_load rfl (hE.t rfl) rfl; (repeat (first | rfl | assumption | constructor)); done)
      · with_reducible (repeat (first | exact cB | apply cT | apply cK))
      · kernel_rfl
      · rfl
      apply m_take 8 rfl
      · exact y_indexAddr rfl rfl (hE.t rfl) (by omega) (by omega)
      · with_reducible (repeat (first | exact cB | apply cT | apply cK))
      · kernel_rfl
      · rfl
      apply m_take 9 rfl
      · (apply y_load_agg rfl (hE.t rfl) rfl; (repeat (first | rfl | assumption | constructor)); done)
      · with_reducible (repeat (first | exact cB | apply cT | apply cK))
      · kernel_rfl
      · rfl
      apply m_two 10 11 rfl rfl (by kernel_rfl) rfl rfl
      · refine ld_alloc (hE.t rfl) (fun b6 => ?_)
        refine ⟨by (apply ent; (repeat constructor); done), ?_⟩
        apply m_loud 11 rfl (by kernel_rfl) rfl
        refine ld_alloc (hE.t rfl) (fun b7 => ?_)
        refine ⟨by (apply ent; (repeat constructor); done), ?_⟩
        apply m_loud 12 rfl (by kernel_rfl) rfl
        (first | (apply ld_store rfl rfl (hE.t rfl) rfl; (focus ((repeat constructor); done)); (focus rfl); (focus (exact Nat.le_of_ble_eq_true rfl))) | (apply ld_store_sl rfl rfl (hE.t rfl) rfl; (focus ((repeat constructor); done)); (focus rfl); (focus (first | omega | (simp only [cellsL, length_setMany, List.length_cons, List.length_nil]; omega)))))
        refine ⟨by (apply ent; (repeat constructor); done), ?_⟩
        apply m_last rfl (by kernel_rfl) (by kernel_rfl) rfl
        (first | (apply ld_store rfl rfl (hE.t rfl) rfl; (focus ((repeat constructor); done)); (focus rfl); (focus (exact Nat.le_of_ble_eq_true rfl))) | (apply ld_store_sl rfl rfl (hE.t rfl) rfl; (focus ((repeat constructor); done)); (focus rfl); (focus (first | omega | (simp only [cellsL, length_setMany, List.length_cons, List.length_nil]; omega)))))
        refine a_cut (ι := Nat × Nat) (b6, b7) trivial ⟨rfl, rfl, rfl, rfl, rfl, rfl, trivial⟩ ?_
        (apply ent; (repeat constructor); done)
      · refine ld_alloc (hE.t rfl) (fun b7 => ?_)
        refine ⟨by (apply ent; (repeat constructor); done), ?_⟩
        apply m_loud 10 rfl (by kernel_rfl) rfl
        refine ld_alloc (hE.t rfl) (fun b6 => ?_)
        refine ⟨by (apply ent; (repeat constructor); done), ?_⟩
        apply m_loud 12 rfl (by kernel_rfl) rfl
        (first | (apply ld_store rfl rfl (hE.t rfl) rfl; (focus ((repeat constructor); done)); (focus rfl); (focus (exact Nat.le_of_ble_eq_true rfl))) | (apply ld_store_sl rfl rfl (hE.t rfl) rfl; (focus ((repeat constructor); done)); (focus rfl); (focus (first | omega | (simp only [cellsL, length_setMany, List.length_cons, List.length_nil]; omega)))))
        refine ⟨by (apply ent; (repeat constructor); done), ?_⟩
        apply m_last rfl (by kernel_rfl) (by kernel_rfl) rfl
        (first | (apply ld_store rfl rfl (hE.t rfl) rfl; (focus ((repeat constructor); done)); (focus rfl); (focus (exact Nat.le_of_ble_eq_true rfl))) | (apply ld_store_sl rfl rfl (hE.t rfl) rfl; (focus ((repeat constructor); done)); (focus rfl); (focus (first | omega | (simp only [cellsL, length_setMany, List.length_cons, List.length_nil]; omega)))))
        refine a_cut (ι := Nat × Nat) (b6, b7) trivial ⟨rfl, rfl, rfl, rfl, rfl, rfl, trivial⟩ ?_
        (apply ent; (repeat constructor); done)
    rintro ⟨b6, b7⟩ -
    skip
    simp only [kcl]
    refine w_seq (wR ?_)
    apply lY
    · (first | exact y_build (hE.t rfl) rfl rfl | exact y_buildA (hE.t rfl) rfl rfl)
    · rfl
    apply lL (by kernel_rfl) rfl
    refine ld_alloc (hE.t rfl) (fun b8 => ?_)
    apply lL (by kernel_rfl) rfl
    (first | (apply ld_store rfl rfl (hE.t rfl) rfl; (focus ((repeat constructor); done)); (focus rfl); (focus (exact Nat.le_of_ble_eq_true rfl))) | (apply ld_store_sl rfl rfl (hE.t rfl) rfl; (focus ((repeat constructor); done)); (focus rfl); (focus (first | omega | (simp only [cellsL, length_setMany, List.length_cons, List.length_nil]; omega)))))
    refine l_nil (aT ?_)
    refine w_cut (fun q : Nat => [(0, .slice (some ⟨g, 0, none⟩) (L.length + 1) c), (3, .slice (some ⟨g2, 0, none⟩) (k + 1) c2), (4, .int .i64 ((k + 1 : Nat) : Int)), (8, .pointer (some ⟨q, 0, none⟩))]) (fun q => [sl (some ⟨g, 0, none⟩) c 73 5 (L.length + 1) (ruC L), sl (some ⟨g2, 0, none⟩) c2 41 2 (k + 1) (keC L (k + 1)), cells q (kcl L (k + 1)) 41, R]) (fun _ => True) ?_ ?_
    · skip
      refine w_seq (wR ?_)
      refine lY (yF rfl (hE.t rfl) rfl) rfl ?_
      apply lY
      · (apply y_load rfl (hE.t rfl) rfl; (repeat (first | rfl | assumption | constructor)); done)
      · rfl
      refine l_nil (aT (w_block (w_seq (wR ?_))))
      refine lY (y_eq rfl rfl) rfl ?_
      refine lY (yA rfl) rfl ?_
      refine l_nil (aT ?_)
      skip
      have klt : ∀ i, key L i < 18446744073709551616 := fun i => Nat.lt_trans (key_lt hw i) (by decide)
      have hbnd := lvl_bound hw
      cases r with
      | letter b =>
        obtain ⟨e1, e2⟩ := key_letter hr
        have ek : kcl L (k + 1) = [.int .u64 (mix 1 b.toNat 0 : Nat), .int .i64 0] := by unfold kcl; rw [e1, e2]
        have hb := b.toNat_lt
        rw [ek]
        simp only [Rl.kind, Rl.byte, Rl.left, Rl.right, Rl.times]
        refine w_cond_t rfl ?_
        refine wR ?_
        refine lY (yF rfl (hE.t rfl) rfl) rfl ?_
        apply lY
        · (apply y_load rfl (hE.t rfl) rfl; (repeat (first | rfl | assumption | constructor)); done)
        · rfl
        refine lY (y_conv rfl (hE.t rfl) (hE.t rfl) (by first | exact wrap_in (by omega) (by omega) | exact wrap_uu (by omega) (by omega))) rfl ?_
        apply lL (by kernel_rfl) rfl
        apply ld_call (ct_rMix (k := 1) (x := b.toNat) (y := 0) hE (by omega) (by omega)) rfl (hE.f (by kernel_rfl))
        · ((repeat constructor); done)
        rintro _ _ ⟨rfl, rfl⟩
        simp only [List.cons_append, List.nil_append]
        apply lY
        · (first | exact y_build (hE.t rfl) rfl rfl | exact y_buildA (hE.t rfl) rfl rfl)
        · rfl
        apply lL (by kernel_rfl) rfl
        (first | (apply ld_store rfl rfl (hE.t rfl) rfl; (focus ((repeat constructor); done)); (focus rfl); (focus (exact Nat.le_of_ble_eq_true rfl))) | (apply ld_store_sl rfl rfl (hE.t rfl) rfl; (focus ((repeat constructor); done)); (focus rfl); (focus (first | omega | (simp only [cellsL, length_setMany, List.length_cons, List.length_nil]; omega)))))
        refine l_nil (a_block ?_)
        refine a_cut (ι := Nat) b8 trivial ⟨rfl, rfl, rfl, rfl, trivial⟩ ?_
        (apply ent; (repeat constructor); done)
      | pair a b =>
        obtain ⟨e1, e2⟩ := key_pair hr hok
        obtain ⟨q1, q2, q3, q4⟩ := hok
        have ha := hbnd a (by omega)
        have hb := hbnd b (by omega)
        have ek : kcl L (k + 1) = [.int .u64 (mix 2 (key L a) (key L b) : Nat), .int .i64 (if a ≠ b ∧ 0 ≤ lvl L a ∧ 0 ≤ lvl L b then ((after (max (lvl L a).toNat (lvl L b).toNat) (key L a) (key L b) : Nat) : Int) else -1)] := by unfold kcl; rw [e1, e2]
        rw [ek]
        simp only [Rl.kind, Rl.byte, Rl.left, Rl.right, Rl.times]
        skip
        refine w_cond_f rfl ?_
        refine w_seq (wR ?_)
        refine lY (y_eq rfl rfl) rfl ?_
        refine lY (yA rfl) rfl ?_
        refine l_nil (aT ?_)
        refine w_cond_t rfl ?_
        refine w_seq (wR ?_)
        refine lY (yF rfl (hE.t rfl) rfl) rfl ?_
        apply lY
        · (apply y_load rfl (hE.t rfl) rfl; (repeat (first | rfl | assumption | constructor)); done)
        · rfl
        refine lY (yF rfl (hE.t rfl) rfl) rfl ?_
        apply lY
        · (apply y_load rfl (hE.t rfl) rfl; (repeat (first | rfl | assumption | constructor)); done)
        · rfl
        apply lL (by kernel_rfl) rfl
        apply ld_call (ct_rMix (k := 2) (x := key L a) (y := key L b) hE (klt a) (klt b)) rfl (hE.f (by kernel_rfl))
        · ((repeat constructor); done)
        rintro _ _ ⟨rfl, rfl⟩
        simp only [List.cons_append, List.nil_append]
        refine lY (yF rfl (hE.t rfl) rfl) rfl ?_
        apply lL (by kernel_rfl) rfl
        (first | (apply ld_store rfl rfl (hE.t rfl) rfl; (focus ((repeat constructor); done)); (focus rfl); (focus (exact Nat.le_of_ble_eq_true rfl))) | (apply ld_store_sl rfl rfl (hE.t rfl) rfl; (focus ((repeat constructor); done)); (focus rfl); (focus (first | omega | (simp only [cellsL, length_setMany, List.length_cons, List.length_nil]; omega)))))
        refine l_nil (aT (w_seq (wR ?_)))
        refine lY (yF rfl (hE.t rfl) rfl) rfl ?_
        apply lY
        · (apply y_load rfl (hE.t rfl) rfl; (repeat (first | rfl | assumption | constructor)); done)
        · rfl
        refine lY (yF rfl (hE.t rfl) rfl) rfl ?_
        apply lY
        · (apply y_load rfl (hE.t rfl) rfl; (repeat (first | rfl | assumption | constructor)); done)
        · rfl
        refine lY (y_ne rfl rfl) rfl ?_
        refine lY (yM rfl) rfl ?_
        refine l_split 74 rfl (fun h1 => ?_) (fun h1 => ?_)
        · skip
          refine l_on rfl rfl ?_
          refine lY (yF rfl (hE.t rfl) rfl) rfl ?_
          refine l_on rfl rfl ?_
          apply lY
          · (apply y_load rfl (hE.t rfl) rfl; (repeat (first | rfl | assumption | constructor)); done)
          · rfl
          refine l_on rfl rfl ?_
          refine lY (y_ge rfl rfl) rfl ?_
          apply lY
          · (first | exact y_pick_t rfl rfl | exact y_pick_f rfl rfl)
          · rfl
          refine lY (yM rfl) rfl ?_
          refine l_split 79 rfl (fun h2 => ?_) (fun h2 => ?_)
          · skip
            refine l_on rfl rfl ?_
            refine lY (yF rfl (hE.t rfl) rfl) rfl ?_
            refine l_on rfl rfl ?_
            apply lY
            · (apply y_load rfl (hE.t rfl) rfl; (repeat (first | rfl | assumption | constructor)); done)
            · rfl
            refine l_on rfl rfl ?_
            refine lY (y_ge rfl rfl) rfl ?_
            apply lY
            · (first | exact y_pick_t rfl rfl | exact y_pick_f rfl rfl)
            · rfl
            refine l_nil (aT ?_)
            refine w_cond_d rfl (fun h3 => ?_) (fun h3 => ?_)
            · skip
              rw [if_pos ⟨by omega, by omega, by omega⟩]
              refine wR ?_
              refine lY (yF rfl (hE.t rfl) rfl) rfl ?_
              apply lY
              · (apply y_load rfl (hE.t rfl) rfl; (repeat (first | rfl | assumption | constructor)); done)
              · rfl
              refine lY (yF rfl (hE.t rfl) rfl) rfl ?_
              apply lY
              · (apply y_load rfl (hE.t rfl) rfl; (repeat (first | rfl | assumption | constructor)); done)
              · rfl
              refine lY (y_max rfl rfl) rfl ?_
              refine l_eq 88 (.int .i64 ((max (lvl L a).toNat (lvl L b).toNat : Nat) : Int)) rfl (int_eq (by split <;> omega)) ?_
              refine lY (yF rfl (hE.t rfl) rfl) rfl ?_
              apply lY
              · (apply y_load rfl (hE.t rfl) rfl; (repeat (first | rfl | assumption | constructor)); done)
              · rfl
              refine lY (yF rfl (hE.t rfl) rfl) rfl ?_
              apply lY
              · (apply y_load rfl (hE.t rfl) rfl; (repeat (first | rfl | assumption | constructor)); done)
              · rfl
              apply lL (by kernel_rfl) rfl
              apply ld_call (ct_rAfter hE (key_lt hw a) (key_lt hw b) (by omega)) rfl (hE.f (by kernel_rfl))
              · ((repeat constructor); done)
              rintro _ _ ⟨rfl, rfl⟩
              simp only [List.cons_append, List.nil_append]
              refine lY (yF rfl (hE.t rfl) rfl) rfl ?_
              apply lL (by kernel_rfl) rfl
              (first | (apply ld_store rfl rfl (hE.t rfl) rfl; (focus ((repeat constructor); done)); (focus rfl); (focus (exact Nat.le_of_ble_eq_true rfl))) | (apply ld_store_sl rfl rfl (hE.t rfl) rfl; (focus ((repeat constructor); done)); (focus rfl); (focus (first | omega | (simp only [cellsL, length_setMany, List.length_cons, List.length_nil]; omega)))))
              refine l_nil (a_block ?_)
              refine a_cut (ι := Nat) b8 trivial ⟨rfl, rfl, rfl, rfl, trivial⟩ ?_
              (apply ent; (repeat constructor); done)
            · skip
              rw [if_neg (fun h => by omega)]
              refine w_skip (a_block ?_)
              refine a_cut (ι := Nat) b8 trivial ⟨rfl, rfl, rfl, rfl, trivial⟩ ?_
              (apply ent; (repeat constructor); done)
          · skip
            rw [if_neg (fun h => by omega)]
            refine l_off rfl rfl rfl rfl (l_off rfl rfl rfl rfl (l_off rfl rfl rfl rfl ?_))
            apply lY
            · (first | exact y_pick_t rfl rfl | exact y_pick_f rfl rfl)
            · rfl
            refine l_nil (aT ?_)
            refine w_cond_f rfl ?_
            refine w_skip (a_block ?_)
            refine a_cut (ι := Nat) b8 trivial ⟨rfl, rfl, rfl, rfl, trivial⟩ ?_
            (apply ent; (repeat constructor); done)
        · skip
          rw [if_neg (fun h => by omega)]
          refine l_off rfl rfl rfl rfl (l_off rfl rfl rfl rfl (l_off rfl rfl rfl rfl ?_))
          apply lY
          · (first | exact y_pick_t rfl rfl | exact y_pick_f rfl rfl)
          · rfl
          refine lY (yM rfl) rfl ?_
          skip
          refine l_off rfl rfl rfl rfl (l_off rfl rfl rfl rfl (l_off rfl rfl rfl rfl ?_))
          apply lY
          · (first | exact y_pick_t rfl rfl | exact y_pick_f rfl rfl)
          · rfl
          refine l_nil (aT ?_)
          refine w_cond_f rfl ?_
          refine w_skip (a_block ?_)
          refine a_cut (ι := Nat) b8 trivial ⟨rfl, rfl, rfl, rfl, trivial⟩ ?_
          (apply ent; (repeat constructor); done)
      | power y n =>
        obtain ⟨e1, e2⟩ := key_power hr hok
        have hn := power_le hw hr
        obtain ⟨q1, q2, q3⟩ := hok
        have hy := hbnd y (by omega)
        unfold maxLength at hn
        have ek : kcl L (k + 1) = [.int .u64 (mix 3 (key L y) n : Nat), .int .i64 (if 0 ≤ lvl L y ∧ lvl L y % 2 = 0 then lvl L y + 1 else -1)] := by unfold kcl; rw [e1, e2]
        rw [ek]
        simp only [Rl.kind, Rl.byte, Rl.left, Rl.right, Rl.times]
        skip
        refine w_cond_f rfl ?_
        refine w_seq (wR ?_)
        refine lY (y_eq rfl rfl) rfl ?_
        refine lY (yA rfl) rfl ?_
        refine l_nil (aT ?_)
        refine w_cond_f rfl ?_
        refine w_seq (wR ?_)
        refine lY (yF rfl (hE.t rfl) rfl) rfl ?_
        apply lY
        · (apply y_load rfl (hE.t rfl) rfl; (repeat (first | rfl | assumption | constructor)); done)
        · rfl
        refine lY (yF rfl (hE.t rfl) rfl) rfl ?_
        apply lY
        · (apply y_load rfl (hE.t rfl) rfl; (repeat (first | rfl | assumption | constructor)); done)
        · rfl
        refine lY (y_conv rfl (hE.t rfl) (hE.t rfl) (by first | exact wrap_in (by omega) (by omega) | exact wrap_uu (by omega) (by omega))) rfl ?_
        apply lL (by kernel_rfl) rfl
        apply ld_call (ct_rMix (k := 3) (x := key L y) (y := n) hE (klt y) (by omega)) rfl (hE.f (by kernel_rfl))
        · ((repeat constructor); done)
        rintro _ _ ⟨rfl, rfl⟩
        simp only [List.cons_append, List.nil_append]
        refine lY (yF rfl (hE.t rfl) rfl) rfl ?_
        apply lL (by kernel_rfl) rfl
        (first | (apply ld_store rfl rfl (hE.t rfl) rfl; (focus ((repeat constructor); done)); (focus rfl); (focus (exact Nat.le_of_ble_eq_true rfl))) | (apply ld_store_sl rfl rfl (hE.t rfl) rfl; (focus ((repeat constructor); done)); (focus rfl); (focus (first | omega | (simp only [cellsL, length_setMany, List.length_cons, List.length_nil]; omega)))))
        refine l_nil (aT (w_seq (wR ?_)))
        refine lY (yF rfl (hE.t rfl) rfl) rfl ?_
        apply lY
        · (apply y_load rfl (hE.t rfl) rfl; (repeat (first | rfl | assumption | constructor)); done)
        · rfl
        refine lY (y_ge rfl rfl) rfl ?_
        refine lY (yM rfl) rfl ?_
        refine l_split 44 rfl (fun h1 => ?_) (fun h1 => ?_)
        · skip
          refine l_on rfl rfl ?_
          refine lY (yF rfl (hE.t rfl) rfl) rfl ?_
          refine l_on rfl rfl ?_
          apply lY
          · (apply y_load rfl (hE.t rfl) rfl; (repeat (first | rfl | assumption | constructor)); done)
          · rfl
          refine l_on rfl rfl ?_
          refine lY (y_rem rfl rfl (by omega) (by omega)) rfl ?_
          refine l_on rfl rfl ?_
          refine lY (y_eq rfl rfl) rfl ?_
          apply lY
          · (first | exact y_pick_t rfl rfl | exact y_pick_f rfl rfl)
          · rfl
          refine l_nil (aT ?_)
          refine w_cond_d rfl (fun h2 => ?_) (fun h2 => ?_)
          · skip
            rw [if_pos ⟨by omega, by omega⟩]
            refine wR ?_
            refine lY (yF rfl (hE.t rfl) rfl) rfl ?_
            apply lY
            · (apply y_load rfl (hE.t rfl) rfl; (repeat (first | rfl | assumption | constructor)); done)
            · rfl
            refine lY (y_add rfl rfl (by omega) (by omega)) rfl ?_
            refine lY (yF rfl (hE.t rfl) rfl) rfl ?_
            apply lL (by kernel_rfl) rfl
            (first | (apply ld_store rfl rfl (hE.t rfl) rfl; (focus ((repeat constructor); done)); (focus rfl); (focus (exact Nat.le_of_ble_eq_true rfl))) | (apply ld_store_sl rfl rfl (hE.t rfl) rfl; (focus ((repeat constructor); done)); (focus rfl); (focus (first | omega | (simp only [cellsL, length_setMany, List.length_cons, List.length_nil]; omega)))))
            refine l_nil (a_block ?_)
            refine a_cut (ι := Nat) b8 trivial ⟨rfl, rfl, rfl, rfl, trivial⟩ ?_
            (apply ent; (repeat constructor); done)
          · skip
            rw [if_neg (fun h => by omega)]
            refine w_skip (a_block ?_)
            refine a_cut (ι := Nat) b8 trivial ⟨rfl, rfl, rfl, rfl, trivial⟩ ?_
            (apply ent; (repeat constructor); done)
        · skip
          rw [if_neg (fun h => by omega)]
          refine l_off rfl rfl rfl rfl (l_off rfl rfl rfl rfl (l_off rfl rfl rfl rfl (l_off rfl rfl rfl rfl ?_)))
          apply lY
          · (first | exact y_pick_t rfl rfl | exact y_pick_f rfl rfl)
          · rfl
          refine l_nil (aT ?_)
          refine w_cond_f rfl ?_
          refine w_skip (a_block ?_)
          refine a_cut (ι := Nat) b8 trivial ⟨rfl, rfl, rfl, rfl, trivial⟩ ?_
          (apply ent; (repeat constructor); done)
    rintro b8 -
    skip
    simp only [kcl]
    refine wR ?_
    refine lY (yM rfl) rfl ?_
    apply lY
    · (apply y_load_agg rfl (hE.t rfl) rfl; (repeat (first | rfl | assumption | constructor)); done)
    · rfl
    apply lL (by kernel_rfl) rfl
    refine ld_buildSlice (hE.t rfl) (hE.t rfl) rfl rfl rfl (fun b97 => ?_)
    apply lL (by kernel_rfl) rfl
    apply ld_append (hE.t rfl) (hE.t rfl) rfl rfl rfl
    · ((repeat constructor); done)
    · ((repeat constructor); done)
    · rfl
    · rfl
    · omega
    · omega
    · (unfold maxLen; omega)
    intro g98 c98 n98 x98 hn98 hx98
    refine lY (yA rfl) rfl ?_
    refine l_nil (a_block (aT (wR ?_)))
    refine lY (yM rfl) rfl ?_
    refine lY (y_add rfl rfl (by omega) (by omega)) rfl ?_
    refine lY (yA rfl) rfl ?_
    refine l_nil ?_
    obtain rfl : n98 = k + 1 + 1 := by omega
    obtain rfl : x98 = keC L (k + 1 + 1) := by rw [hx98, keC_snoc _ (k + 1)]; rfl
    refine wa_eq 4 (.int .i64 ((k + 1 + 1 : Nat) : Int)) rfl (int_eq (by omega)) ?_
    refine a_round (ι := KeX) (j := ⟨k + 1, some ⟨g98, 0, none⟩, c98⟩) hkn (by show L.length - (k + 1) < L.length - k; omega) ⟨rfl, rfl, rfl, trivial⟩ ?_
    (apply ent; (repeat constructor); done)
  · skip
    obtain rfl : k = L.length := by omega
    refine w_exit (a_then_exit (a_then_exit (a_block_exit (aT (w_seq (wR ?_))))))
    refine lY (yM rfl) rfl ?_
    refine lY (yA rfl) rfl ?_
    refine l_nil (aT (w_ret ?_))
    apply a_ret
    · rfl
    · (apply Rs.tmp rfl; exact Rs.nil)
    · exact ⟨p2, c2, rfl, rfl⟩
    · (apply ent; (repeat constructor); done)
end Go.Proofs.YtekhbjlplfbdkaaGreatDoor
namespace Go.Proofs.YtekhbjlplfbdkaaGreatDoor
open Go Go.RowKit Sl Eg
set_option maxRecDepth 10000
variable {E : Env} {L : List Rl}
theorem under_seen : Tryz.prog.underlying 85 = some (.map 39 4) := by kernel_rfl
theorem under_u64 : Tryz.prog.underlying 39 = some (.int .u64) := by kernel_rfl
theorem zero_bool (w : World) : (zeroValue 4).run Tryz.prog w = .ok (.bool false) w := by kernel_rfl
theorem check_u64 (b : Bool) (x : Int) (w : World) : (Instr.checkKey b 10000 39 (.int .u64 x)).run Tryz.prog w = .ok () w := by kernel_rfl
def mpF : List Nat → Nat → List MapEntry
  | [], _ => []
  | x :: l, i => ⟨.int .u64 (x : Nat), .bool true, i⟩ :: mpF l (i + 1)
def mpC (ks : List Nat) : Array MapEntry := (mpF ks 0).toArray
theorem mpF_append (a b : List Nat) (i : Nat) : mpF (a ++ b) i = mpF a i ++ mpF b (i + a.length) := by
  induction a generalizing i with
  | nil => simp [mpF]
  | cons x l ih => simp [mpF, ih, Nat.add_assoc, Nat.add_comm 1]
theorem mpC_snoc (ks : List Nat) (x : Nat) : mpC (ks ++ [x]) = (mpC ks).push ⟨.int .u64 (x : Nat), .bool true, ks.length⟩ := by
  simp [mpC, mpF_append, mpF]
theorem find_now (ks : List Nat) (x i j : Nat) : (x ∉ ks ∧ Instr.findNow (.int .u64) (.int .u64 (x : Nat)) (mpF ks i) j = some none) ∨ (x ∈ ks ∧ ∃ k, Instr.findNow (.int .u64) (.int .u64 (x : Nat)) (mpF ks i) j = some (some (k, .bool true))) := by
  induction ks generalizing i j with
  | nil => exact .inl ⟨by simp, rfl⟩
  | cons y l ih =>
    by_cases e : x = y
    · subst e
      exact .inr ⟨by simp, j, by simp [mpF, Instr.findNow, Instr.sameNow]⟩
    · have hne : ((x : Int) == (y : Int)) = false := by simp; omega
      rcases ih (i + 1) (j + 1) with ⟨h1, h2⟩ | ⟨h1, k, h2⟩
      · exact .inl ⟨by simp [e, h1], by simp [mpF, Instr.findNow, Instr.sameNow, hne, h2]⟩
      · exact .inr ⟨by simp [h1], k, by simp [mpF, Instr.findNow, Instr.sameNow, hne, h2]⟩
theorem seen_lookup (ks : List Nat) (x : Nat) (w : World) (bm : Nat) (h : w.heap[bm]? = some (.map (mpC ks) ks.length)) :
    (Instr.lookup 85 (.map (some bm)) (.int .u64 (x : Nat)) false).run Tryz.prog w = .ok (.bool (decide (x ∈ ks))) w := by
  have hf := find_now ks x 0 0
  unfold Instr.lookup
  simp only [Sem.run_bind, run_underlying under_seen, Result.andThen_ok]
  simp only [getObj, Sem.run, h]
  simp only [Result.andThen, Sem.run_bind, Sem.run_pure, check_u64, Instr.findKey, run_underlying under_u64]
  rcases hf with ⟨h1, h2⟩ | ⟨h1, k, h2⟩
  · simp [mpC, h2, h1, zero_bool]
  · simp [mpC, h2, h1]
theorem seen_update (ks : List Nat) (x : Nat) (w : World) (bm : Nat) (h : w.heap[bm]? = some (.map (mpC ks) ks.length)) (hx : x ∉ ks) :
    (Instr.mapUpdate 85 (.map (some bm)) (.int .u64 (x : Nat)) (.bool true)).run Tryz.prog w = .ok () (ChangeMaps.setBlock w bm (.map (mpC (ks ++ [x])) (ks ++ [x]).length)) := by
  have hf := find_now ks x 0 0
  have h2 : Instr.findNow (.int .u64) (.int .u64 (x : Nat)) (mpF ks 0) 0 = some none := by
    rcases hf with ⟨_, h⟩ | ⟨h1, _⟩
    · exact h
    · exact absurd h1 hx
  unfold Instr.mapUpdate
  simp only [Sem.run_bind, run_underlying under_seen, Result.andThen_ok]
  simp only [getObj, Sem.run, h]
  simp only [Result.andThen, Sem.run_bind, check_u64, Instr.findKey, run_underlying under_u64]
  rw [show (mpC ks).toList = mpF ks 0 from rfl, h2]
  simp only [Sem.run_pure, setObj, Sem.run, mpC_snoc, List.length_append, List.length_singleton]
  rw [h]
  rfl
section
variable {n : Nat} {Lf : Fr} {S S' H H' : List HP} {ty : TypeId} {pos : String} {af : Array Edge} {d : Option Nat} {gd : Option (Nat × Bool)} {K : Value → List HP → Prop}
theorem y_seen (hE : Seat E) {x y : Operand} {bm k : Nat} {ks : List Nat} (hx : ev Lf x = some (.map (some bm))) (hy : ev Lf y = some (.int .u64 (k : Nat))) (hm : Take (pt bm (.map (mpC ks) ks.length)) S S') : Yl E n Lf S ⟨d, .lookup 85 x y false, ty, pos, af, gd⟩ (.bool (decide (k ∈ ks))) := fun a w g s => by
  have h := seen_lookup ks k w bm (s.take hm).ptr.1
  rw [← hE.P] at h
  simp [execOp, g.ev hx, g.ev hy, h]
theorem ld_seen (hE : Seat E) {x y v : Operand} {bm k : Nat} {ks : List Nat} (hx : ev Lf x = some (.map (some bm))) (hy : ev Lf y = some (.int .u64 (k : Nat))) (hv : ev Lf v = some (.bool true)) (hm : Take (pt bm (.map (mpC ks) ks.length)) H H') (hn : k ∉ ks) (hk : K undef (pt bm (.map (mpC (ks ++ [k])) (ks ++ [k]).length) :: H')) : Ld E n Lf H ⟨d, .mapUpdate 85 x y v, ty, pos, af, gd⟩ K := fun Q next a w g hnx => by
  have s1 := g.hp.take hm
  have hp := s1.ptr.1
  have hlt : bm < w.heap.size := (Array.getElem?_eq_some_iff.1 hp).1
  have h := seen_update ks k w bm hp hn
  rw [← hE.P] at h
  have hrun : (execOp a.eval ⟨d, .mapUpdate 85 x y v, ty, pos, af, gd⟩).run E.P w = .ok .skip (ChangeMaps.setBlock w bm (.map (mpC (ks ++ [k])) (ks ++ [k]).length)) := by
    simp [execOp, g.f.ev hx, g.f.ev hy, g.f.ev hv, h]
  unfold Oper.wp
  rw [hrun, Oper.upon_skip]
  refine hnx _ _ _ hk (s1.write ⟨rfl, rfl, rfl, by simp [ChangeMaps.setBlock]⟩ (by simp [ChangeMaps.setBlock, hlt]) fun j hj => ?_)
  simp only [ChangeMaps.setBlock]
  rw [Array.getElem?_setIfInBounds_ne (by intro e; exact hj e.symm)]
end
def kys (L : List Rl) (k : Nat) : List Nat := (List.range k).map fun i => key L (i + 1)
theorem kys_snoc (L : List Rl) (k : Nat) : kys L (k + 1) = kys L k ++ [key L (k + 1)] := by simp [kys, List.range_succ]
theorem ct_Distinct (hE : Seat E) (hw : Wf L) (hL : L.length ≤ 1048576) {p : Option Addr} {c : Nat} : Ct E 14 [.slice p (L.length + 1) c] [sl p c 73 5 (L.length + 1) (ruC L)]
    (fun v Q => ∃ d : Bool, v = .bool d ∧ (d = true → Dk L) ∧ Q = [sl p c 73 5 (L.length + 1) (ruC L)]) := by
  refine fn_enter (hE.fn Tryz.func14) rfl rfl rfl (fun R => ?_)
  simp only [argsL, List.cons_append, List.nil_append]
  refine w_seq (wR ?_)
  refine lY (yA rfl) rfl ?_
  refine l_nil (aT (w_seq (wR ?_)))
  refine lY (yM rfl) rfl ?_
  apply lL (by kernel_rfl) rfl
  apply ld_call (ct_rKeys hE hw hL) rfl (hE.f (by kernel_rfl))
  · ((repeat constructor); done)
  rintro _ _ ⟨p2, c2, rfl, rfl⟩
  simp only [List.cons_append, List.nil_append]
  refine l_say (p := sl p2 c2 41 2 (L.length + 1) (keC L (L.length + 1))) (by ((repeat constructor); done)) (fun _ h => sl_form h (by omega)) ?_
  rintro ⟨g2, rfl⟩
  refine lY (yA rfl) rfl ?_
  refine l_nil (aT (w_seq (wR ?_)))
  apply lL (by kernel_rfl) rfl
  refine ld_makeMap (fun b8 => ?_)
  refine lY (yA rfl) rfl ?_
  refine l_nil (aT (w_seq (w_seq (wR ?_))))
  refine lY (yA rfl) rfl ?_
  refine l_nil (aT (w_block ?_))
  skip
  refine w_loop (fun k : Nat => [(3, .slice (some ⟨g2, 0, none⟩) (L.length + 1) c2), (4, .map (some b8)), (5, .int .i64 ((k + 1 : Nat) : Int))]) (fun k => [sl p c 73 5 (L.length + 1) (ruC L), sl (some ⟨g2, 0, none⟩) c2 41 2 (L.length + 1) (keC L (L.length + 1)), pt b8 (.map (mpC (kys L k)) (kys L k).length), R]) (fun k => L.length - k) (fun k => k ≤ L.length ∧ ∀ x y, 1 ≤ x → x ≤ k → 1 ≤ y → y ≤ k → key L x = key L y → x = y) 0 ⟨Nat.zero_le _, fun x y h1 h2 => by omega⟩ ⟨rfl, rfl, rfl, trivial⟩ ?_ ?_
  · (apply ent; (repeat constructor); done)
  rintro k ⟨hk, hdk⟩
  skip
  refine w_seq (w_seq (wR ?_))
  refine lY (yM rfl) rfl ?_
  refine lY (yM rfl) rfl ?_
  refine lY (y_len_slice rfl (hE.t rfl)) rfl ?_
  refine lY (y_lt rfl rfl) rfl ?_
  refine l_nil (aT ?_)
  refine w_cond_d rfl (fun hlt => ?_) (fun hlt => ?_)
  · skip
    have hkn : k < L.length := by omega
    obtain ⟨f0, f1⟩ := keC_at L (i := k + 1) (n := L.length + 1) (by omega) (0 + ((k + 1 : Nat) : Int).toNat * 2) (by omega)
    refine w_skip (aT (w_seq (w_block (w_seq (w_seq (wR ?_))))))
    refine lY (yM rfl) rfl ?_
    refine lY (yM rfl) rfl ?_
    refine lY (yM rfl) rfl ?_
    refine lY (y_indexAddr rfl rfl (hE.t rfl) (by omega) (by omega)) rfl ?_
    refine lY (yF rfl (hE.t rfl) rfl) rfl ?_
    apply lY
    · (apply y_load rfl (hE.t rfl) rfl; (repeat (first | rfl | assumption | constructor)); done)
    · rfl
    apply lY
    · exact y_seen hE (ks := kys L k) rfl rfl (by ((repeat constructor); done))
    · rfl
    refine l_nil (aT ?_)
    refine w_cond_d rfl (fun hin => ?_) (fun hin => ?_)
    · skip
      refine w_seq (wR ?_)
      refine lY (yA rfl) rfl ?_
      refine l_nil (aT (w_ret (a_then_ret (a_block_ret (a_then_ret (a_then_ret (a_block_ret ?_)))))))
      refine a_then_ret ?_
      apply a_ret
      · rfl
      · (apply Rs.tmp rfl; exact Rs.nil)
      · exact ⟨false, rfl, (fun h => by cases h), rfl⟩
      · (apply ent; (repeat constructor); done)
    · skip
      refine w_skip (aT (wR ?_))
      refine lY (yM rfl) rfl ?_
      refine lY (yM rfl) rfl ?_
      refine lY (yM rfl) rfl ?_
      refine lY (y_indexAddr rfl rfl (hE.t rfl) (by omega) (by omega)) rfl ?_
      refine lY (yF rfl (hE.t rfl) rfl) rfl ?_
      apply lY
      · (apply y_load rfl (hE.t rfl) rfl; (repeat (first | rfl | assumption | constructor)); done)
      · rfl
      apply lL (by kernel_rfl) rfl
      refine ld_seen hE (ks := kys L k) rfl rfl rfl (by ((repeat constructor); done)) hin ?_
      refine l_nil (a_block (aT (wR ?_)))
      refine lY (yM rfl) rfl ?_
      refine lY (y_add rfl rfl (by omega) (by omega)) rfl ?_
      refine lY (yA rfl) rfl ?_
      refine l_nil ?_
      rw [← kys_snoc]
      refine wa_eq 5 (.int .i64 ((k + 1 + 1 : Nat) : Int)) rfl (int_eq (by omega)) ?_
      refine a_round (ι := Nat) (j := k + 1) ⟨hkn, fun x y h1 h2 h3 h4 e => ?_⟩ (by show L.length - (k + 1) < L.length - k; omega) ⟨rfl, rfl, rfl, trivial⟩ ?_
      · have hmem : ∀ z, 1 ≤ z → z ≤ k → key L z ∈ kys L k := fun z z1 z2 => List.mem_map.2 ⟨z - 1, List.mem_range.2 (by omega), by rw [show z - 1 + 1 = z by omega]⟩
        rcases Nat.lt_or_ge k x with hx | hx
        · rcases Nat.lt_or_ge k y with hy | hy
          · omega
          · obtain rfl : x = k + 1 := by omega
            exact absurd (by rw [e]; exact hmem y h3 hy) hin
        · rcases Nat.lt_or_ge k y with hy | hy
          · obtain rfl : y = k + 1 := by omega
            exact absurd (by rw [← e]; exact hmem x h1 hx) hin
          · exact hdk x y h1 hx h3 hy e
      · (apply ent; (repeat constructor); done)
  · skip
    obtain rfl : k = L.length := by omega
    refine w_exit (a_then_exit (a_then_exit (a_block_exit (aT (w_seq (wR ?_))))))
    refine lY (yA rfl) rfl ?_
    refine l_nil (aT (w_ret ?_))
    apply a_ret
    · rfl
    · (apply Rs.tmp rfl; exact Rs.nil)
    · exact ⟨true, rfl, (fun _ => hdk), rfl⟩
    · (apply ent; (repeat constructor); done)
end Go.Proofs.YtekhbjlplfbdkaaGreatDoor
namespace Go.Proofs.YtekhbjlplfbdkaaGreatDoor
open Go Go.RowKit Sl Eg
set_option maxRecDepth 10000
variable {E : Env}
theorem byte_nat {z : Int} (h : (Lit.int .u8 z).wf = true) : ∃ n : Nat, z = (n : Int) ∧ n < 256 := by
  have hh : 0 ≤ z ∧ z < 256 := by
    simp only [Lit.wf, Bool.and_eq_true, decide_eq_true_eq] at h
    have h1 : (IntKind.u8.min : Int) = 0 := by rfl
    have h2 : (IntKind.u8.max : Int) = 255 := by rfl
    omega
  exact ⟨z.toNat, by omega, by omega⟩
theorem ct_SeamCosts (hE : Seat E) (hB : Base E.w0) {a b : List UInt8} {i j : Nat} (hi : i < 256) (hj : j < 256) : Ct E 3 [.string ⟨⟨a⟩⟩, .string ⟨⟨b⟩⟩, .int .u8 (i : Nat), .int .u8 (j : Nat)] [] (fun v Q => v = .bool true ∧ Q = []) := by
  refine fn_enter (hE.fn Tryz.func3) rfl rfl rfl (fun R => ?_)
  simp only [argsL, List.cons_append, List.nil_append]
  refine w_seq (wR ?_)
  refine lY (yA rfl) rfl ?_
  refine l_nil (aT (w_seq (wR ?_)))
  apply lL (by kernel_rfl) rfl
  apply ld_call (ct_Parser23 hE hB) rfl (hE.f (by kernel_rfl))
  · ((repeat constructor); done)
  rintro _ _ ⟨pp, s, tb, M, rfl, hM, rfl⟩
  simp only [List.cons_append, List.nil_append]
  refine lY (yM rfl) rfl ?_
  refine lY (y_extract rfl rfl) rfl ?_
  refine lY (y_extract rfl rfl) rfl ?_
  refine lY (yA rfl) rfl ?_
  refine lY (yA rfl) rfl ?_
  refine l_nil (aT (w_seq (w_seq (wR ?_))))
  refine lY (yM rfl) rfl ?_
  refine lY (y_not rfl) rfl ?_
  refine l_nil (aT ?_)
  refine w_cond_f rfl ?_
  refine w_skip (aT (w_seq (wR ?_)))
  refine lY (yM rfl) rfl ?_
  apply lL (by kernel_rfl) rfl
  apply ld_call (ct_Store hE) rfl (hE.f (by kernel_rfl))
  · ((repeat constructor); done)
  rintro _ _ ⟨rfl, rfl⟩
  simp only [List.cons_append, List.nil_append]
  refine lY (yA rfl) rfl ?_
  refine l_nil (aT (w_seq (wR ?_)))
  refine lY (yM rfl) rfl ?_
  refine lY (yM rfl) rfl ?_
  apply lL (by kernel_rfl) rfl
  apply ld_call (ct_cut23 (m := 200) hE) rfl (hE.f (by kernel_rfl))
  · ((repeat constructor); done)
  rintro _ _ ⟨rfl, rfl⟩
  simp only [List.cons_append, List.nil_append]
  have ha : (a.take 200).length ≤ 200 := by rw [List.length_take]; omega
  generalize a.take 200 = A at ha ⊢
  skip
  apply lL (by kernel_rfl) rfl
  refine ld_bytes rfl (hE.t rfl) (hE.t rfl) (hE.t rfl) (fun g1 c1 => ?_)
  skip
  apply lL (by kernel_rfl) rfl
  apply ld_call (ct_Of (Es := M) (most := 1048576) (bs := A) hE hB (by omega) (by omega)) rfl (hE.f (by kernel_rfl))
  · ((repeat constructor); done)
  rintro _ _ ⟨M1, x, rfl, hM1, tx1, gx, sx, rfl⟩
  simp only [List.cons_append, List.nil_append]
  have hx : Sn (rls (M ++ M1)) A x := ⟨sx, tx1, gx⟩
  refine lY (yM rfl) rfl ?_
  refine lY (y_extract rfl rfl) rfl ?_
  refine lY (y_extract rfl rfl) rfl ?_
  refine lY (yA rfl) rfl ?_
  refine lY (yA rfl) rfl ?_
  refine l_nil (aT (w_seq (wR ?_)))
  refine lY (yM rfl) rfl ?_
  refine lY (yM rfl) rfl ?_
  apply lL (by kernel_rfl) rfl
  apply ld_call (ct_cut23 (m := 200) hE) rfl (hE.f (by kernel_rfl))
  · ((repeat constructor); done)
  rintro _ _ ⟨rfl, rfl⟩
  simp only [List.cons_append, List.nil_append]
  have hb : (b.take 200).length ≤ 200 := by rw [List.length_take]; omega
  generalize b.take 200 = B at hb ⊢
  skip
  apply lL (by kernel_rfl) rfl
  refine ld_bytes rfl (hE.t rfl) (hE.t rfl) (hE.t rfl) (fun g2 c2 => ?_)
  skip
  have r2 : (M ++ M1).length + 2 * B.length ≤ 1048576 := by rw [List.length_append]; omega
  apply lL (by kernel_rfl) rfl
  apply ld_call (ct_Of (Es := M ++ M1) (most := 1048576) (bs := B) hE hB (by omega) r2) rfl (hE.f (by kernel_rfl))
  · ((repeat constructor); done)
  rintro _ _ ⟨M2, y, rfl, hM2, ty1, gy, sy, rfl⟩
  simp only [List.cons_append, List.nil_append]
  have hy : Sn (rls (M ++ M1 ++ M2)) B y := ⟨sy, ty1, gy⟩
  have mA : (i + 1) * A.length ≤ 256 * 200 := Nat.mul_le_mul (by omega) ha
  have mB : (j + 1) * B.length ≤ 256 * 200 := Nat.mul_le_mul (by omega) hb
  have lA := rep_length (i + 1) A
  have lB := rep_length (j + 1) B
  have e3 : (M ++ M1 ++ M2).length = M.length + M1.length + M2.length := by simp; omega
  have r3 : (M ++ M1 ++ M2).length + 4 * ((i + 1) * A.length) + 1 ≤ 1048576 := by omega
  refine lY (yM rfl) rfl ?_
  refine lY (y_extract rfl rfl) rfl ?_
  refine lY (y_extract rfl rfl) rfl ?_
  refine lY (yA rfl) rfl ?_
  refine lY (yA rfl) rfl ?_
  refine l_nil (aT ?_)
  refine w_seq (wR ?_)
  refine lY (yM rfl) rfl ?_
  refine lY (yM rfl) rfl ?_
  refine lY (yM rfl) rfl ?_
  refine lY (y_conv rfl (hE.t rfl) (hE.t rfl) (by first | exact wrap_in (by omega) (by omega) | exact wrap_uu (by omega) (by omega))) rfl ?_
  refine l_eq 51 (.int .i64 (i : Nat)) rfl rfl ?_
  refine lY (y_add rfl rfl (by omega) (by omega)) rfl ?_
  refine l_eq 52 (.int .i64 ((i + 1 : Nat) : Int)) rfl (int_eq (by omega)) ?_
  apply lL (by kernel_rfl) rfl
  apply ld_call (ct_Repeat (most := 1048576) (k := i + 1) hE hB (hx.up (M := M2)) (by omega) (by omega) (by omega) (by omega) r3) rfl (hE.f (by kernel_rfl))
  · ((repeat constructor); done)
  rintro _ _ ⟨M3, x2, rfl, hM3, hx2, rfl⟩
  simp only [List.cons_append, List.nil_append]
  have e4 : (M ++ M1 ++ M2 ++ M3).length = M.length + M1.length + M2.length + M3.length := by simp; omega
  have r4 : (M ++ M1 ++ M2 ++ M3).length + 4 * ((j + 1) * B.length) + 1 ≤ 1048576 := by omega
  refine lY (yM rfl) rfl ?_
  refine lY (y_extract rfl rfl) rfl ?_
  refine lY (y_extract rfl rfl) rfl ?_
  refine lY (yA rfl) rfl ?_
  refine lY (yA rfl) rfl ?_
  refine l_nil (aT ?_)
  refine w_seq (wR ?_)
  refine lY (yM rfl) rfl ?_
  refine lY (yM rfl) rfl ?_
  refine lY (yM rfl) rfl ?_
  refine lY (y_conv rfl (hE.t rfl) (hE.t rfl) (by first | exact wrap_in (by omega) (by omega) | exact wrap_uu (by omega) (by omega))) rfl ?_
  refine l_eq 60 (.int .i64 (j : Nat)) rfl rfl ?_
  refine lY (y_add rfl rfl (by omega) (by omega)) rfl ?_
  refine l_eq 61 (.int .i64 ((j + 1 : Nat) : Int)) rfl (int_eq (by omega)) ?_
  apply lL (by kernel_rfl) rfl
  apply ld_call (ct_Repeat (most := 1048576) (k := j + 1) hE hB (hy.up (M := M3)) (by omega) (by omega) (by omega) (by omega) r4) rfl (hE.f (by kernel_rfl))
  · ((repeat constructor); done)
  rintro _ _ ⟨M4, y2, rfl, hM4, hy2, rfl⟩
  simp only [List.cons_append, List.nil_append]
  refine lY (yM rfl) rfl ?_
  refine lY (y_extract rfl rfl) rfl ?_
  refine lY (y_extract rfl rfl) rfl ?_
  refine lY (yA rfl) rfl ?_
  refine lY (yA rfl) rfl ?_
  refine l_nil (aT (w_seq (wR ?_)))
  refine lY (yM rfl) rfl ?_
  apply lL (by kernel_rfl) rfl
  apply ld_call (ct_len hE) rfl (hE.f (by kernel_rfl))
  · ((repeat constructor); done)
  rintro _ _ ⟨rfl, rfl⟩
  simp only [List.cons_append, List.nil_append]
  have e5 : (M ++ M1 ++ M2 ++ M3 ++ M4).length = M.length + M1.length + M2.length + M3.length + M4.length := by simp; omega
  have n5 : (rep (i + 1) A).length + (rep (j + 1) B).length ≤ 1000000000 := by omega
  have r5 : (M ++ M1 ++ M2 ++ M3 ++ M4).length + ((rep (i + 1) A).length + (rep (j + 1) B).length) ≤ 1048576 := by omega
  refine lY (yA rfl) rfl ?_
  refine l_nil (aT (w_seq (wR ?_)))
  refine lY (yM rfl) rfl ?_
  refine lY (yM rfl) rfl ?_
  refine lY (yM rfl) rfl ?_
  apply lL (by kernel_rfl) rfl
  apply ld_call (ct_Join (most := 1048576) hE hB (hx2.up (M := M4)) hy2 n5 r5) rfl (hE.f (by kernel_rfl))
  · ((repeat constructor); done)
  rintro _ _ ⟨M5, z, rfl, hM5, hz, hdk, rfl⟩
  simp only [List.cons_append, List.nil_append]
  have e6 : (M ++ M1 ++ M2 ++ M3 ++ M4 ++ M5).length = (M ++ M1 ++ M2 ++ M3 ++ M4).length + M5.length := List.length_append
  generalize hO : M ++ M1 ++ M2 ++ M3 ++ M4 = O at *
  refine l_say (p := storeP s 1048576 (O ++ M5)) (by ((repeat constructor); done)) (fun _ h => storeP_says h) ?_
  rintro ⟨hwf, -, -, -⟩
  have hn6 : (O ++ M5).length ≤ 1048576 := by omega
  have hmx : maxLength = 1152921504606846976 := rfl
  have hlz := hz.lv hwf (by rw [List.length_append]; omega)
  have hlz0 := hz.gd.2
  have hrl := rls_length (O ++ M5)
  have hz1 := hz.gd.1
  rw [hrl] at hz1
  refine lY (yM rfl) rfl ?_
  refine lY (y_extract rfl rfl) rfl ?_
  refine lY (y_extract rfl rfl) rfl ?_
  refine lY (yA rfl) rfl ?_
  refine lY (yA rfl) rfl ?_
  refine l_nil (aT (w_seq (w_seq (wR ?_))))
  refine lY (yM rfl) rfl ?_
  apply lY
  · (first | exact y_ok_ne rfl (hE.t rfl) | exact y_err_ne rfl (hE.t rfl))
  · rfl
  refine lY (yM rfl) rfl ?_
  skip
  refine l_on rfl rfl ?_
  refine lY (yM rfl) rfl ?_
  refine l_on rfl rfl ?_
  apply lY
  · (first | exact y_ok_ne rfl (hE.t rfl) | exact y_err_ne rfl (hE.t rfl))
  · rfl
  apply lY
  · (first | exact y_pick_t rfl rfl | exact y_pick_f rfl rfl)
  · rfl
  refine lY (yM rfl) rfl ?_
  skip
  refine l_on rfl rfl ?_
  refine lY (yM rfl) rfl ?_
  refine l_on rfl rfl ?_
  apply lY
  · (first | exact y_ok_ne rfl (hE.t rfl) | exact y_err_ne rfl (hE.t rfl))
  · rfl
  apply lY
  · (first | exact y_pick_t rfl rfl | exact y_pick_f rfl rfl)
  · rfl
  refine lY (yM rfl) rfl ?_
  skip
  refine l_on rfl rfl ?_
  refine lY (yM rfl) rfl ?_
  refine l_on rfl rfl ?_
  apply lY
  · (first | exact y_ok_ne rfl (hE.t rfl) | exact y_err_ne rfl (hE.t rfl))
  · rfl
  apply lY
  · (first | exact y_pick_t rfl rfl | exact y_pick_f rfl rfl)
  · rfl
  refine lY (yM rfl) rfl ?_
  skip
  refine l_on rfl rfl ?_
  refine lY (yM rfl) rfl ?_
  refine l_on rfl rfl ?_
  apply lY
  · (first | exact y_ok_ne rfl (hE.t rfl) | exact y_err_ne rfl (hE.t rfl))
  · rfl
  apply lY
  · (first | exact y_pick_t rfl rfl | exact y_pick_f rfl rfl)
  · rfl
  refine l_nil (aT ?_)
  refine w_cond_f rfl ?_
  refine w_skip (aT (w_seq (wR ?_)))
  refine lY (yM rfl) rfl ?_
  apply lL (by kernel_rfl) rfl
  apply ld_call (ct_rules hE hn6) rfl (hE.f (by kernel_rfl))
  · ((repeat constructor); done)
  rintro _ _ ⟨p, c, rfl, rfl⟩
  simp only [List.cons_append, List.nil_append]
  have hky := fun p c => ct_rKeys (p := p) (c := c) hE hwf (by rw [hrl]; exact hn6)
  have hds := fun p c => ct_Distinct (p := p) (c := c) hE hwf (by rw [hrl]; exact hn6)
  rw [hrl] at hky hds
  refine lY (yA rfl) rfl ?_
  refine l_nil (aT (w_seq (wR ?_)))
  refine lY (yA rfl) rfl ?_
  refine l_nil (aT ?_)
  refine w_cut (fun _ : Nat => [(11, .pointer (some ⟨s, 0, none⟩)), (18, .int .i64 (O.length : Nat)), (19, .int .i64 (z : Nat)), (21, .slice p ((O ++ M5).length + 1) c), (22, .int .i64 (lvl (rls (O ++ M5)) z))]) (fun _ => [cells pp [.pointer (some ⟨s, 0, none⟩), .pointer (some ⟨tb, 0, none⟩)] 59, tabP tb s (rls (O ++ M5)), storeP s 1048576 (O ++ M5), sl p c 73 5 ((O ++ M5).length + 1) (ruC (rls (O ++ M5))), R]) (fun _ => True) ?_ ?_
  · skip
    refine w_seq (wR ?_)
    refine lY (yM rfl) rfl ?_
    refine lY (y_ne rfl rfl) rfl ?_
    refine l_nil (aT ?_)
    refine w_cond_d rfl (fun h0 => ?_) (fun h0 => ?_)
    · skip
      obtain ⟨f0, f1⟩ := keC_at (rls (O ++ M5)) (i := z) (n := (O ++ M5).length + 1) (by omega) (0 + ((z : Nat) : Int).toNat * 2) (by omega)
      refine wR ?_
      refine lY (yM rfl) rfl ?_
      apply lL (by kernel_rfl) rfl
      apply ld_call (hky p c) rfl (hE.f (by kernel_rfl))
      · ((repeat constructor); done)
      rintro _ _ ⟨p2, c2, rfl, rfl⟩
      simp only [List.cons_append, List.nil_append]
      refine l_say (p := sl p2 c2 41 2 ((O ++ M5).length + 1) (keC (rls (O ++ M5)) ((O ++ M5).length + 1))) (by ((repeat constructor); done)) (fun _ h => sl_form h (by omega)) ?_
      rintro ⟨g2, rfl⟩
      refine lY (yM rfl) rfl ?_
      refine lY (y_indexAddr rfl rfl (hE.t rfl) (by omega) (by omega)) rfl ?_
      refine lY (yF rfl (hE.t rfl) rfl) rfl ?_
      apply lY
      · (apply y_load rfl (hE.t rfl) rfl; (repeat (first | rfl | assumption | constructor)); done)
      · rfl
      refine lY (yA rfl) rfl ?_
      refine l_nil ?_
      refine a_cut (ι := Nat) 0 trivial ⟨rfl, rfl, rfl, rfl, rfl, trivial⟩ ?_
      (apply ent; (repeat constructor); done)
    · skip
      obtain rfl : z = 0 := by omega
      refine w_skip ?_
      refine a_cut (ι := Nat) 0 trivial ⟨rfl, rfl, rfl, rfl, rfl, trivial⟩ ?_
      (apply ent; (repeat constructor); done)
  rintro _ -
  skip
  refine w_seq (wR ?_)
  refine lY (yM rfl) rfl ?_
  refine lY (y_ge rfl rfl) rfl ?_
  refine lY (yM rfl) rfl ?_
  refine l_split 104 rfl (fun h1 => ?_) (fun h1 => ?_)
  · skip
    refine l_on rfl rfl ?_
    refine lY (yM rfl) rfl ?_
    refine l_on rfl rfl ?_
    apply lL (by kernel_rfl) rfl
    apply ld_call (ct_len hE) rfl (hE.f (by kernel_rfl))
    · ((repeat constructor); done)
    rintro _ _ ⟨rfl, rfl⟩
    simp only [List.cons_append, List.nil_append]
    refine l_on rfl rfl ?_
    refine lY (yM rfl) rfl ?_
    refine l_on rfl rfl ?_
    refine lY (y_sub rfl rfl (by omega) (by omega)) rfl ?_
    refine l_on rfl rfl ?_
    refine lY (yM rfl) rfl ?_
    refine l_on rfl rfl ?_
    refine lY (y_add rfl rfl (by omega) (by omega)) rfl ?_
    refine l_on rfl rfl ?_
    refine lY (y_mul rfl rfl (by omega) (by omega)) rfl ?_
    refine l_on rfl rfl ?_
    refine lY (y_le rfl rfl) rfl ?_
    refine l_on rfl rfl ?_
    refine lY (yM rfl) rfl ?_
    refine l_split 113 rfl (fun h2 => ?_) (fun h2 => ?_)
    · skip
      refine l_off rfl rfl rfl rfl (l_off rfl rfl rfl rfl (l_off rfl rfl rfl rfl (l_on rfl rfl ?_)))
      apply lY
      · (first | exact y_pick_t rfl rfl | exact y_pick_f rfl rfl)
      · rfl
      apply lY
      · (first | exact y_pick_t rfl rfl | exact y_pick_f rfl rfl)
      · rfl
      refine lY (yA rfl) rfl ?_
      refine l_nil (aT (w_ret ?_))
      apply a_ret
      · rfl
      · (apply Rs.tmp rfl; exact Rs.nil)
      · exact ⟨by simp [one], rfl⟩
      · (apply ent; (repeat constructor); done)
    · skip
      refine l_on rfl rfl ?_
      refine lY (yM rfl) rfl ?_
      refine l_on rfl rfl ?_
      apply lL (by kernel_rfl) rfl
      apply ld_call (hds p c) rfl (hE.f (by kernel_rfl))
      · ((repeat constructor); done)
      rintro _ _ ⟨d, rfl, hd, rfl⟩
      simp only [List.cons_append, List.nil_append]
      cases d with
      | true =>
        exfalso
        have h3 := hdk (hd rfl)
        omega
      | false =>
        refine l_on rfl rfl ?_
        refine lY (y_not rfl) rfl ?_
        refine l_on rfl rfl ?_
        apply lY
        · (first | exact y_pick_t rfl rfl | exact y_pick_f rfl rfl)
        · rfl
        apply lY
        · (first | exact y_pick_t rfl rfl | exact y_pick_f rfl rfl)
        · rfl
        refine lY (yA rfl) rfl ?_
        refine l_nil (aT (w_ret ?_))
        apply a_ret
        · rfl
        · (apply Rs.tmp rfl; exact Rs.nil)
        · exact ⟨by simp [one], rfl⟩
        · (apply ent; (repeat constructor); done)
  · exfalso
    omega
end Go.Proofs.YtekhbjlplfbdkaaGreatDoor
