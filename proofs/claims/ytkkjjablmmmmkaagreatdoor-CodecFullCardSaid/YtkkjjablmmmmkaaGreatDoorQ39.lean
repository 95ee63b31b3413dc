import Derived.Test.YtkkjjablmmmmkaaGreatDoorQ35
set_option linter.all false
namespace Sl
open Go Go.RowKit
variable {E : Env} {n : Nat} {L : Fr} {S : List HP} {ty : TypeId} {pos : String} {af : Array Edge} {d : Option Nat} {gd : Option (Nat × Bool)}
theorem zBj {x y : Operand} {xt yt : TypeId} {i j : Int} (hx : ev L x = some (.int .u64 i)) (hy : ev L y = some (.int .u64 j)) (h0 : 0 ≤ i + j) (h1 : i + j ≤ 18446744073709551615) :
  Yl E n L S ⟨d, .binOp .add xt x y yt, ty, pos, af, gd⟩ (.int .u64 (i + j)) := fun a w g _ => by
 have e : IntKind.u64.wrap (i + j) = i + j := by rw [IntKind.wrap_u64]; omega
 simp [execOp, eqGuard, binOp, Op.intArith, g.ev hx, g.ev hy, e]
end Sl
namespace Go.Proofs.YtkkjjablmmmmkaaGreatDoor
open Go Go.RowKit Sl Eg
set_option maxRecDepth 10000
section
variable {E : Env}
theorem halves (k i : Nat) : k / 2 ^ i = 2 * (k / 2 ^ (i + 1)) + k / 2 ^ i % 2 := by
 rw [Nat.pow_succ, ← Nat.div_div_eq_div_mul]
 omega
theorem zCk (a c : Nat) : addm (mulm a c) (mulm a c) = mulm a (2 * c) := by
 unfold addm mulm
 rw [← Nat.add_mod, ← Nat.mul_add, Nat.two_mul]
theorem mul_more (a c : Nat) : addm (mulm a c) a = mulm a (c + 1) := by
 unfold addm mulm
 rw [Nat.mod_add_mod, Nat.mul_succ]
theorem zDu (a c : Nat) : mulm (powm a c) (powm a c) = powm a (2 * c) := by rw [Nat.two_mul, qZf]
theorem pow_more (a c : Nat) : mulm (powm a c) a = powm a (c + 1) := by
 unfold powm mulm
 rw [Nat.mod_mul_mod, Nat.pow_succ]
theorem mul_last (a b : Nat) : mulm a (b % P61) = mulm a b := by unfold mulm; rw [Nat.mul_mod_mod]
theorem qQx (hE : Seat E) {a b : Nat} : Ct E 150 [.int .u64 (a : Nat), .int .u64 (b : Nat)] [] (fun v Q => v = .int .u64 (addm a b : Nat) ∧ Q = []) := by
 refine zQ (hE.fn Tryz.func150) rfl rfl rfl (fun R => ?_)
 simp only [qAa, uV, uW]
 refine qK (qI (uA rfl (qL (qJ (qK (qI (uM rfl (uB (qIu rfl rfl (by omega) (by omega)) ?_))))))))
 refine uM rfl (uB (qIu rfl rfl (by omega) (by omega)) ?_)
 refine uB (zBj rfl rfl (by omega) (by omega)) ?_
 refine uB (qIu rfl rfl (by omega) (by omega)) ?_
 refine uA rfl (qL (qJ (kD ?_)))
 exact uZ rfl (.tmp rfl .nil) ⟨congrArg (Value.int IntKind.u64) (by unfold addm P61; omega), rfl⟩
theorem qQt (hE : Seat E) {a b : Nat} (hb : b < 18446744073709551616) : Ct E 151 [.int .u64 (a : Nat), .int .u64 (b : Nat)] [] (fun v Q => v = .int .u64 (mulm a b : Nat) ∧ Q = []) := by
 have hp : b % P61 < 2 ^ 61 := Nat.lt_trans (Nat.mod_lt _ P61_pos) (by decide)
 refine zQ (hE.fn Tryz.func151) rfl rfl rfl (fun R => ?_)
 simp only [qAa, uV, uW]
 refine qK (qI (uA rfl (qL (qJ (qK (qI (uA rfl (qL (qJ (qK (qK (qI (uA rfl (qL (qJ (zM ?_))))))))))))))))
 refine qAc (fun i : Nat => [(0, .int .u64 (a : Nat)), (1, .int .u64 (b : Nat)), (5, .int .u64 (mulm a (b % P61 / 2 ^ i) : Nat)), (6, .int .i64 (((i : Nat) : Int) - 1))]) (fun _ => [R]) (fun i => i) (fun i => i ≤ 61) 61 (Nat.le_refl _) ⟨rfl, rfl, ?_, rfl, trivial⟩ ?_ ?_
 ·rw [Nat.div_eq_of_lt hp]; rfl
 ·exact uI
 intro i1 hi
 refine qK (qK (qI (uM rfl (uB (y_ge rfl rfl) ?_))))
 refine qL (qJ ?_)
 refine zG rfl (fun hlt => ?_) (fun hlt => ?_)
 ·obtain ⟨i, rfl⟩ : ∃ i, i1 = i + 1 := ⟨i1 - 1, by omega⟩
  have hh := halves (b % P61) i
  refine zD (qJ (qK (zM (qK (qI (uM rfl (uM rfl (uX (qQx hE) rfl ?_))))))))
  rintro _ _ ⟨rfl, rfl⟩
  simp only [uV, uW]
  rw [zCk]
  refine uA rfl (qL (qJ (qK (qI (uM rfl (uB (qIu rfl rfl (by omega) (by omega)) ?_))))))
  refine l_eq 15 (.int .u64 (b % P61 : Nat)) rfl (congrArg (Value.int IntKind.u64) (by unfold P61; omega)) ?_
  refine uM rfl ?_
  refine l_eq 16 (.int .i64 (i : Nat)) rfl (zY (by omega)) ?_
  refine uB (zAl rfl rfl (by omega)) ?_
  refine uB (qPv rfl rfl) ?_
  refine uB (y_eq rfl rfl) ?_
  refine qL (qJ ?_)
  refine zG rfl (fun h1 => ?_) (fun h1 => ?_)
  ·refine qI ?_
   refine uM rfl (uM rfl (uX (qQx hE) rfl ?_))
   rintro _ _ ⟨rfl, rfl⟩
   simp only [uV, uW]
   rw [mul_more]
   refine uA rfl (qL (zK (qJ (qI (uM rfl (uB (uAs rfl rfl) ?_))))))
   refine uA rfl (qL ?_)
   refine qEa 6 (.int .i64 (((i : Nat) : Int) - 1)) rfl (zY (by omega)) ?_
   refine zU (ι := Nat) (j := i) (by show i ≤ 61; omega) (by show i < i + 1; omega) ⟨rfl, rfl, ?_, rfl, trivial⟩ ?_
   ·rw [hh, show b % P61 / 2 ^ i % 2 = 1 by omega]; rfl
   exact uI
  refine zD (zK (qJ (qI ?_)))
  refine uM rfl (uB (uAs rfl rfl) ?_)
  refine uA rfl (qL ?_)
  refine qEa 6 (.int .i64 (((i : Nat) : Int) - 1)) rfl (zY (by omega)) ?_
  refine zU (ι := Nat) (j := i) (by show i ≤ 61; omega) (by show i < i + 1; omega) ⟨rfl, rfl, ?_, rfl, trivial⟩ ?_
  ·rw [hh, show b % P61 / 2 ^ i % 2 = 0 by omega]; rfl
  exact uI
 obtain rfl : i1 = 0 := by omega
 rw [Nat.pow_zero, Nat.div_one, mul_last]
 refine kM (qP (qP (zJ (qJ (qK (qI (uM rfl (uA rfl (qL (qJ (kD ?_)))))))))))
 exact uZ rfl (.tmp rfl .nil) ⟨rfl, rfl⟩
theorem ct_rPow (hE : Seat E) {a n : Nat} (ha : a < 18446744073709551616) (hn : n < 18446744073709551616) : Ct E 149 [.int .u64 (a : Nat), .int .u64 (n : Nat)] [] (fun v Q => v = .int .u64 (powm a n : Nat) ∧ Q = []) := by
 have hpl : ∀ c, powm a c < 18446744073709551616 := fun c => Nat.lt_trans (qRi a c) (by decide)
 refine zQ (hE.fn Tryz.func149) rfl rfl rfl (fun R => ?_)
 simp only [qAa, uV, uW]
 refine qK (qI (uA rfl (qL (qJ (qK (qI (uA rfl (qL (qJ (qK (qK (qI (uA rfl (qL (qJ (zM ?_))))))))))))))))
 refine qAc (fun i : Nat => [(0, .int .u64 (a : Nat)), (1, .int .u64 (n : Nat)), (5, .int .u64 (powm a (n / 2 ^ i) : Nat)), (6, .int .i64 (((i : Nat) : Int) - 1))]) (fun _ => [R]) (fun i => i) (fun i => i ≤ 64) 64 (Nat.le_refl _) ⟨rfl, rfl, ?_, rfl, trivial⟩ ?_ ?_
 ·rw [Nat.div_eq_of_lt (show n < 2 ^ 64 from hn), qOr]; rfl
 ·exact uI
 intro i1 hi
 refine qK (qK (qI (uM rfl (uB (y_ge rfl rfl) ?_))))
 refine qL (qJ ?_)
 refine zG rfl (fun hlt => ?_) (fun hlt => ?_)
 ·obtain ⟨i, rfl⟩ : ∃ i, i1 = i + 1 := ⟨i1 - 1, by omega⟩
  have hh := halves n i
  refine zD (qJ (qK (zM (qK (qI (uM rfl (uM rfl (uX (qQt hE (hpl _)) rfl ?_))))))))
  rintro _ _ ⟨rfl, rfl⟩
  simp only [uV, uW]
  rw [zDu]
  refine uA rfl (qL (qJ (qK (qI (uM rfl (uM rfl ?_))))))
  refine l_eq 15 (.int .i64 (i : Nat)) rfl (zY (by omega)) ?_
  refine uB (zAl rfl rfl (by omega)) ?_
  refine uB (qPv rfl rfl) ?_
  refine uB (y_eq rfl rfl) ?_
  refine qL (qJ ?_)
  refine zG rfl (fun h1 => ?_) (fun h1 => ?_)
  ·refine qI ?_
   refine uM rfl (uM rfl (uX (qQt hE ha) rfl ?_))
   rintro _ _ ⟨rfl, rfl⟩
   simp only [uV, uW]
   rw [pow_more]
   refine uA rfl (qL (zK (qJ (qI (uM rfl (uB (uAs rfl rfl) ?_))))))
   refine uA rfl (qL ?_)
   refine qEa 6 (.int .i64 (((i : Nat) : Int) - 1)) rfl (zY (by omega)) ?_
   refine zU (ι := Nat) (j := i) (by show i ≤ 64; omega) (by show i < i + 1; omega) ⟨rfl, rfl, ?_, rfl, trivial⟩ ?_
   ·rw [hh, show n / 2 ^ i % 2 = 1 by omega]; rfl
   exact uI
  refine zD (zK (qJ (qI ?_)))
  refine uM rfl (uB (uAs rfl rfl) ?_)
  refine uA rfl (qL ?_)
  refine qEa 6 (.int .i64 (((i : Nat) : Int) - 1)) rfl (zY (by omega)) ?_
  refine zU (ι := Nat) (j := i) (by show i ≤ 64; omega) (by show i < i + 1; omega) ⟨rfl, rfl, ?_, rfl, trivial⟩ ?_
  ·rw [hh, show n / 2 ^ i % 2 = 0 by omega]; rfl
  exact uI
 obtain rfl : i1 = 0 := by omega
 rw [Nat.pow_zero, Nat.div_one]
 refine kM (qP (qP (zJ (qJ (qK (qI (uM rfl (uA rfl (qL (qJ (kD ?_)))))))))))
 exact uZ rfl (.tmp rfl .nil) ⟨rfl, rfl⟩
theorem qWz (hE : Seat E) {k x y : Nat} (hx : x < 18446744073709551616) (hy : y < 18446744073709551616) : Ct E 128 [.int .u64 (k : Nat), .int .u64 (x : Nat), .int .u64 (y : Nat)] [] (fun v Q => v = .int .u64 (mix k x y : Nat) ∧ Q = []) := by
 refine zQ (hE.fn Tryz.func128) rfl rfl rfl (fun R => ?_)
 simp only [qAa, uV, uW]
 refine qK (qI (uA rfl (qL (qJ (qK (qI (uM rfl (uM rfl (uX (qQt (a := 1234567890123456789) hE hx) rfl ?_)))))))))
 rintro _ _ ⟨rfl, rfl⟩
 simp only [uV, uW]
 refine uM rfl (uX (qQt (a := 987654321987654321) hE hy) rfl ?_)
 rintro _ _ ⟨rfl, rfl⟩
 simp only [uV, uW]
 refine uX (qQx hE) rfl ?_
 rintro _ _ ⟨rfl, rfl⟩
 simp only [uV, uW]
 refine uX (qQx hE) rfl ?_
 rintro _ _ ⟨rfl, rfl⟩
 simp only [uV, uW]
 refine uX (ct_rPow (n := 17) hE (Nat.lt_trans (qRm _ _) (by decide)) (by decide)) rfl ?_
 rintro _ _ ⟨rfl, rfl⟩
 simp only [uV, uW]
 refine uA rfl (qL (qJ (kD ?_)))
 exact uZ rfl (.tmp rfl .nil) ⟨rfl, rfl⟩
end
section
variable {E : Env}
theorem qRo (hE : Seat E) {l : Nat} (h : l < 2 ∨ l % 2 = 1) : Ct E 130 [.int .i64 (l : Nat)] [] (fun v Q => v = .tuple #[.int .i64 (-1), .int .u64 0, .bool false] ∧ Q = []) := by
 refine zQ (hE.fn Tryz.func130) rfl rfl rfl (fun R => ?_)
 simp only [qAa, uV, uW]
 refine qK (qI (uA rfl (uA rfl (uA rfl (qL (qJ (qK (qK (qI (uM rfl (uB (y_lt rfl rfl) ?_)))))))))))
 refine uM rfl ?_
 refine qAf 8 rfl (fun h1 => ?_) (fun h1 => ?_)
 ·refine zV rfl rfl rfl rfl (zV rfl rfl rfl rfl (zV rfl rfl rfl rfl ?_))
  refine uB (qX rfl rfl) ?_
  refine qL (qJ (zH rfl (qK (qI (uA rfl (uA rfl (uA rfl (qL (qJ (kD (qW ?_)))))))))))
  exact uZ rfl (.tmp rfl (.tmp rfl (.tmp rfl .nil))) ⟨rfl, rfl⟩
 refine kU rfl rfl ?_
 refine uM rfl (kU rfl rfl (uB (qIu rfl rfl (by omega) (by omega)) ?_))
 refine kU rfl rfl (uB (y_ne rfl rfl) ?_)
 refine uB (qY rfl rfl) ?_
 refine qL (qJ ?_)
 refine zG rfl (fun h2 => ?_) (fun h2 => ?_)
 ·refine qK (qI ?_)
  refine uA rfl (uA rfl (uA rfl (qL (qJ (kD (qW ?_))))))
  exact uZ rfl (.tmp rfl (.tmp rfl (.tmp rfl .nil))) ⟨rfl, rfl⟩
 exfalso; omega
theorem zAt (hE : Seat E) {l : Nat} (h2 : 2 ≤ l) (he : l % 2 = 0) (hll : l < 1099511627776) : Ct E 130 [.int .i64 (l : Nat)] [] (fun v Q => v = (if num l = 122 then .tuple #[.int .i64 0, .int .u64 0, .bool true] else .tuple #[.int .i64 (num l / 2 : Nat), .int .u64 (num l % 2 : Nat), .bool false]) ∧ Q = []) := by
 have hn := zDc l
 have hnv : (((l : Nat) : Int) / 2 - 1) % 123 = (num l : Nat) := by unfold num; omega
 refine zQ (hE.fn Tryz.func130) rfl rfl rfl (fun R => ?_)
 simp only [qAa, uV, uW]
 refine qK (qI (uA rfl (uA rfl (uA rfl (qL (qJ (qK (qK (qI (uM rfl (uB (y_lt rfl rfl) ?_)))))))))))
 refine uM rfl ?_
 refine qAf 8 rfl (fun h1 => ?_) (fun h1 => ?_)
 ·exfalso; omega
 refine kU rfl rfl (uM rfl (kU rfl rfl (uB (qIu rfl rfl (by omega) (by omega)) ?_)))
 refine kU rfl rfl (uB (y_ne rfl rfl) ?_)
 refine uB (qY rfl rfl) ?_
 refine qL (qJ ?_)
 refine zG rfl (fun h3 => ?_) (fun h3 => ?_)
 ·exfalso; omega
 refine zD (qJ (qK (qI (uM rfl (uB (qPa rfl rfl (by omega) (by omega) (by omega)) ?_)))))
 refine uB (uAs rfl rfl) ?_
 refine uB (qIu rfl rfl (by omega) (by omega)) ?_
 refine uA rfl (qL (qJ ?_))
 refine w_eq 5 (.int .i64 (num l : Nat)) rfl (zY hnv) ?_
 refine qK (qK (qI (uM rfl (uB (y_eq rfl rfl) ?_))))
 refine qL (qJ ?_)
 refine zG rfl (fun hc => ?_) (fun hc => ?_)
 ·have hc' : num l = 122 := by omega
  rw [if_pos hc']
  refine qK (qI (uA rfl (uA rfl (uA rfl (qL (qJ (kD (qW ?_))))))))
  exact uZ rfl (.tmp rfl (.tmp rfl (.tmp rfl .nil))) ⟨rfl, rfl⟩
 have hc' : num l ≠ 122 := by omega
 rw [if_neg hc']
 refine zD (qJ (qK (qI (uM rfl (uB (qPa rfl rfl (by omega) (by omega) (by omega)) ?_)))))
 refine uM rfl (uB (qIu rfl rfl (by omega) (by omega)) ?_)
 refine uB (kQ (i := ((num l : Nat) : Int) % 2) rfl (hE.t rfl) (hE.t rfl) (kS (by omega) (by omega))) ?_
 refine uA rfl (uA rfl (uA rfl (qL (qJ (kD ?_)))))
 exact uZ rfl (.tmp rfl (.tmp rfl (.tmp rfl .nil))) ⟨rfl, rfl⟩
def fitL (l x y : Nat) : Prop := 2 ≤ l ∧ l % 2 = 0 ∧ qAt (num l) x y
theorem qYe (hE : Seat E) {l x y : Nat} (hll : l < 1099511627776) : Ct E 105 [.int .u64 (x : Nat), .int .u64 (y : Nat), .int .i64 (l : Nat)] [] (fun v Q => ∃ d : Bool, v = .bool d ∧ (d = true ↔ fitL l x y) ∧ Q = []) := by
 by_cases hno : l < 2 ∨ l % 2 = 1
 ·refine zQ (hE.fn Tryz.func105) rfl rfl rfl (fun R => ?_)
  simp only [qAa, uV, uW]
  refine qK (qI (uA rfl (qL (qJ (qK (qI (uM rfl (uX (qRo hE hno) rfl ?_))))))))
  rintro _ _ ⟨rfl, rfl⟩
  simp only [uV, uW]
  refine uM rfl (uB (qU rfl rfl) (uB (qU rfl rfl) (uB (qU rfl rfl) (uA rfl (uA rfl (uA rfl (qL (qJ (qK (qK (qI ?_)))))))))))
  refine uM rfl (uB (y_lt rfl rfl) ?_)
  refine qL (qJ (zH rfl (qK (qI (uA rfl (qL (qJ (kD (qW ?_)))))))))
  exact uZ rfl (.tmp rfl .nil) ⟨false, rfl, ⟨(fun h => by cases h), (fun h => by have h1 := h.1; have h2 := h.2.1; omega)⟩, rfl⟩
 have h2 : 2 ≤ l := by omega
 have he : l % 2 = 0 := by omega
 have hn := zDc l
 have hfl : fitL l x y ↔ qAt (num l) x y := ⟨fun h => h.2.2, fun h => ⟨h2, he, h⟩⟩
 have hct := zAt hE h2 he hll
 by_cases hc : num l = 122
 ·rw [if_pos hc] at hct
  refine zQ (hE.fn Tryz.func105) rfl rfl rfl (fun R => ?_)
  simp only [qAa, uV, uW]
  refine qK (qI (uA rfl (qL (qJ (qK (qI (uM rfl (uX (hct) rfl ?_))))))))
  rintro _ _ ⟨rfl, rfl⟩
  simp only [uV, uW]
  refine uM rfl (uB (qU rfl rfl) (uB (qU rfl rfl) (uB (qU rfl rfl) (uA rfl (uA rfl (uA rfl (qL (qJ (qK (qK (qI ?_)))))))))))
  refine uM rfl (uB (y_lt rfl rfl) ?_)
  refine qL (qJ (zF rfl (zD (qJ (qK (qK (qI (uM rfl (qL (qJ (zH rfl (qK (qI (uM rfl (uM rfl ?_)))))))))))))))
  refine uB (y_eq rfl rfl) ?_
  refine uA rfl (qL (qJ (kD (qW ?_))))
  apply kE
  ·rfl
  ·(apply Rs.tmp rfl; exact Rs.nil)
  ·refine ⟨_, rfl, ?_, rfl⟩
   rw [hfl, fits_tie hc, decide_eq_true_eq]
   omega
  exact uI
 rw [if_neg hc] at hct
 have hfb := qHh (c := num l) (x := x) (y := y) hc
 have hbl := qTk y (num l / 2)
 unfold bt at hfb hbl
 refine zQ (hE.fn Tryz.func105) rfl rfl rfl (fun R => ?_)
 simp only [qAa, uV, uW]
 refine qK (qI (uA rfl (qL (qJ (qK (qI (uM rfl (uX (hct) rfl ?_))))))))
 rintro _ _ ⟨rfl, rfl⟩
 simp only [uV, uW]
 refine uM rfl (uB (qU rfl rfl) (uB (qU rfl rfl) (uB (qU rfl rfl) (uA rfl (uA rfl (uA rfl (qL (qJ (qK (qK (qI ?_)))))))))))
 refine uM rfl (uB (y_lt rfl rfl) ?_)
 refine qL (qJ ?_)
 refine zG rfl (fun h0 => ?_) (fun h0 => ?_)
 ·exfalso; omega
 refine zD (qJ (qK (qK (qI (uM rfl (qL (qJ (zF rfl (zD (qJ (qK (qI (uM rfl (uM rfl ?_))))))))))))))
 refine uB (zAl rfl rfl (by omega)) ?_
 refine uB (qPv rfl rfl) ?_
 refine uM rfl (uB (y_eq rfl rfl) ?_)
 refine uM rfl ?_
 refine qAf 28 rfl (fun h1 => ?_) (fun h1 => ?_)
 ·refine kU rfl rfl ?_
  refine uM rfl (kU rfl rfl (uM rfl (kU rfl rfl (uB (zAl rfl rfl (by omega)) ?_))))
  refine kU rfl rfl (uB (qPv rfl rfl) ?_)
  refine kU rfl rfl (uM rfl (kU rfl rfl (uB (zBk rfl rfl (by omega) (by omega)) ?_)))
  refine kU rfl rfl (uB (y_eq rfl rfl) ?_)
  refine uB (qX rfl rfl) ?_
  refine uA rfl (qL (qJ (kD ?_)))
  apply kE
  ·rfl
  ·(apply Rs.tmp rfl; exact Rs.nil)
  ·refine ⟨_, rfl, ?_, rfl⟩
   rw [decide_eq_true_eq, hfl, hfb]
   omega
  exact uI
 refine zV rfl rfl rfl rfl (zV rfl rfl rfl rfl (zV rfl rfl rfl rfl (zV rfl rfl rfl rfl (zV rfl rfl rfl rfl (zV rfl rfl rfl rfl (zV rfl rfl rfl rfl ?_))))))
 refine uB (qY rfl rfl) ?_
 refine uA rfl (qL (qJ (kD ?_)))
 apply kE
 ·rfl
 ·(apply Rs.tmp rfl; exact Rs.nil)
 ·refine ⟨false, rfl, ?_, rfl⟩
  rw [hfl, hfb]
  simp only [Bool.false_eq_true, false_iff]
  omega
 exact uI
theorem zBz (hE : Seat E) {low x y : Nat} (hx : x < P61) (hy : y < P61) (hl : low < 549755813888) : Ct E 129 [.int .i64 (low : Nat), .int .u64 (x : Nat), .int .u64 (y : Nat)] [] (fun v Q => v = .int .i64 (after low x y : Nat) ∧ Q = []) := by
 have hsp := qEw (low := low) hx hy
 have hev := qGb low x y
 have hgt := (qJc (low := low) hx hy).1
 have hle := qRl (low := low) hx hy
 refine zQ (hE.fn Tryz.func129) rfl rfl rfl (fun R => ?_)
 simp only [qAa, uV, uW]
 refine qK (qI (uA rfl (qL (qJ (qK (qK (qI (uA rfl (qL (qJ (zM ?_)))))))))))
 refine qAc (fun i : Nat => [(0, .int .i64 (low : Nat)), (1, .int .u64 (x : Nat)), (2, .int .u64 (y : Nat)), (7, .int .i64 ((i + 1 : Nat) : Int))]) (fun _ => [R]) (fun i => 246 - i) (fun i => low + i < after low x y) 0 hgt ⟨rfl, rfl, rfl, rfl, trivial⟩ ?_ ?_
 ·exact uI
 intro i hi
 refine qK (qK (qI (uM rfl (uB (y_le rfl rfl) ?_))))
 refine qL (qJ ?_)
 refine zG rfl (fun hlt => ?_) (fun hlt => ?_)
 ·refine zD (qJ (qK (zM (qK (qI ?_)))))
  refine uM rfl (uM rfl (uM rfl (uM rfl (uB (uAa rfl rfl) ?_))))
  refine l_eq 16 (.int .i64 ((low + (i + 1) : Nat) : Int)) rfl (zY (by omega)) ?_
  refine uX (qYe hE (by omega)) rfl ?_
  rintro _ _ ⟨d, rfl, hd, rfl⟩
  simp only [uV, uW]
  refine qL (qJ ?_)
  cases d with
  | true =>
   obtain ⟨_, f2, f3⟩ := hd.1 rfl
   have := hsp.2 (low + (i + 1)) (by omega) f2 f3
   refine zH rfl (qK (qI (uM rfl (uM rfl (uB (uAa rfl rfl) ?_)))))
   refine uA rfl (qL (qJ (kD (zP (qW (qW (zP (qW ?_))))))))
   exact uZ rfl (.tmp rfl .nil) ⟨by simp only [one]; exact congrArg (Value.int IntKind.i64) (by omega), rfl⟩
  | false =>
   have hne : low + (i + 1) ≠ after low x y := fun e => by
    have : fitL (low + (i + 1)) x y := by rw [e]; exact ⟨by omega, hev, hsp.1⟩
    have := hd.2 this
    cases this
   refine zF rfl (zD (zK (qJ (qI (uM rfl (uB (uAa rfl rfl) ?_))))))
   refine uA rfl (qL ?_)
   refine qEa 7 (.int .i64 ((i + 1 + 1 : Nat) : Int)) rfl (zY (by omega)) ?_
   refine zU (ι := Nat) (j := i + 1) (by show low + (i + 1) < after low x y; omega) (by show 246 - (i + 1) < 246 - i; omega) ⟨rfl, rfl, rfl, rfl, trivial⟩ ?_
   exact uI
 exfalso
 omega
end
section
variable {E : Env} {Es : List Ent} {s most : Nat}
def rlC (r : Rl) : List Value := [.int .i64 (Rl.kind (r) : Nat), .int .u8 (Rl.byte (r) : Nat), .int .i64 (Rl.left (r) : Nat), .int .i64 (Rl.right (r) : Nat), .int .i64 (Rl.times (r) : Nat)]
def ruC (L : List Rl) : List Value := [.int .i64 0, .int .u8 0, .int .i64 0, .int .i64 0, .int .i64 0] ++ L.flatMap rlC
theorem qYd (L : List Rl) (r : Rl) : ruC (L ++ [r]) = ruC L ++ rlC r := by simp [ruC]
theorem qZq (L : List Rl) : (ruC L).length = (L.length + 1) * 5 := by
 refine qLj (P := fun L => (ruC L).length = (L.length + 1) * 5) rfl ?_ L
 intro L r ih
 rw [qYd, List.length_append, ih]
 simp [rlC]
 omega
end
section
variable {E : Env} {L : List Rl}
def kcl (L : List Rl) (i : Nat) : List Value := [.int .u64 (key L i : Nat), .int .i64 (lvl L i)]
def keC (L : List Rl) (n : Nat) : List Value := (List.range n).flatMap (kcl L)
theorem qSj (L : List Rl) (n : Nat) : keC L (n + 1) = keC L n ++ kcl L n := by simp [keC, List.range_succ]
theorem zAz (L : List Rl) (n : Nat) : (keC L n).length = n * 2 := by
 induction n with
 | zero => rfl
 | succ n ih => rw [qSj, List.length_append, ih]; simp [kcl]; omega
theorem qMw (L : List Rl) {i : Nat} : ∀ {n : Nat}, i < n → ∀ o, o = i * 2 → (keC L n)[o]? = some (.int .u64 (key L i : Nat)) ∧ (keC L n)[o + 1]? = some (.int .i64 (lvl L i))
 | 0, h, _, _ => by omega
 | n + 1, h, o, ho => by
  have hl := zAz L n
  rw [qSj]
  rcases Nat.lt_or_ge i n with hlt | hge
  ·obtain ⟨h1, h2⟩ := qMw L hlt o ho
   exact ⟨by rw [List.getElem?_append_left (by omega)]; exact h1, by rw [List.getElem?_append_left (by omega)]; exact h2⟩
  obtain rfl : i = n := by omega
  subst ho
  exact ⟨by rw [List.getElem?_append_right (by omega), hl, Nat.sub_self]; rfl, by rw [List.getElem?_append_right (by omega), hl, show i * 2 + 1 - i * 2 = 1 by omega]; rfl⟩
theorem qIl {L : List Rl} {k : Nat} {r : Rl} (h : L[k]? = some r) (o : Nat) (ho : o = (k + 1) * 5) : (ruC L)[o]? = some (.int .i64 (Rl.kind r : Nat)) ∧ (ruC L)[o + 1]? = some (.int .u8 (Rl.byte r : Nat)) ∧ (ruC L)[o + 2]? = some (.int .i64 (Rl.left r : Nat)) ∧ (ruC L)[o + 3]? = some (.int .i64 (Rl.right r : Nat)) ∧ (ruC L)[o + 4]? = some (.int .i64 (Rl.times r : Nat)) := by
 have hk := (List.getElem?_eq_some_iff.1 h).1
 have e : L = L.take k ++ r :: L.drop (k + 1) := by
  obtain ⟨h1, e1⟩ := List.getElem?_eq_some_iff.1 h
  have e2 : L.drop k = r :: L.drop (k + 1) := by rw [List.drop_eq_getElem_cons h1, e1]
  rw [← e2, List.take_append_drop]
 have hl : (ruC (L.take k)).length = o := by rw [qZq, List.length_take, Nat.min_eq_left (by omega), ho]
 have e2 : ruC L = ruC (L.take k) ++ (rlC r ++ (L.drop (k + 1)).flatMap rlC) := by
  conv => lhs; rw [e]
  simp [ruC]
 rw [e2]
 subst hl
 exact ⟨ap_0, ap_1, ap_2, ap_3, ap_4⟩
structure KeX where
 k : Nat
 p : Option Addr
 c : Nat
theorem ct_rKeys (hE : Seat E) (hw : Wf L) (hL : L.length ≤ 1048576) {p : Option Addr} {c : Nat} : Ct E 104 [.slice p (L.length + 1) c] [sl p c 82 5 (L.length + 1) (ruC L)]
  (fun v Q => ∃ p' c', v = .slice p' (L.length + 1) c' ∧ Q = [sl p c 82 5 (L.length + 1) (ruC L), sl p' c' 199 2 (L.length + 1) (keC L (L.length + 1))]) := by
 refine qBt (p := sl p c 82 5 (L.length + 1) (ruC L)) uK (fun _ h => qAi h (by omega)) ?_
 rintro ⟨g, rfl⟩
 refine zQ (hE.fn Tryz.func104) rfl rfl rfl (fun R => ?_)
 simp only [qAa, uV, uW]
 refine qK (qI (uA rfl (qL (qJ (qK (qI (uB (qAe (hE.t rfl) rfl rfl) ?_)))))))
 refine uU ?_
 refine qV (hE.t rfl) (hE.t rfl) rfl rfl rfl (fun b10 => ?_)
 refine uA rfl (qL (qJ (qK (qK (qI (uA rfl (qL (qJ (zM ?_)))))))))
 refine qBz (kF (p := cells b10 (keC L 1) 199) (p' := sl (some ⟨b10, 0, none⟩) 1 199 2 1 (keC L 1)) uK (qAd rfl (by unfold maxLen; omega))) ?_
 refine qAc (fun q : KeX => [(0, .slice (some ⟨g, 0, none⟩) (L.length + 1) c), (3, .slice q.p (q.k + 1) q.c), (4, .int .i64 ((q.k + 1 : Nat) : Int))]) (fun q => [sl (some ⟨g, 0, none⟩) c 82 5 (L.length + 1) (ruC L), sl q.p q.c 199 2 (q.k + 1) (keC L (q.k + 1)), R]) (fun q => L.length - q.k) (fun q => q.k ≤ L.length) ⟨0, some ⟨b10, 0, none⟩, 1⟩ (Nat.zero_le _) ⟨rfl, rfl, rfl, trivial⟩ ?_ ?_
 ·exact uI
 rintro ⟨k, p2, c2⟩ hk
 simp only at hk ⊢
 refine qK (qK (qI (uM rfl (uM rfl (uB (uBl rfl) ?_)))))
 refine uB (y_lt rfl rfl) ?_
 refine qL (qJ ?_)
 refine zG rfl (fun hlt => ?_) (fun hlt => ?_)
 ·have hkn : k < L.length := by omega
  obtain ⟨r, hr⟩ : ∃ r, L[k]? = some r := ⟨_, List.getElem?_eq_getElem hkn⟩
  have hok := hw.ok k r hr
  refine qCy (p := sl p2 c2 199 2 (k + 1) (keC L (k + 1))) uK (fun _ h => qAi h (by omega)) ?_
  rintro ⟨g2, rfl⟩
  obtain ⟨f0, f1, f2, f3, f4⟩ := qIl hr (0 + ((k + 1 : Nat) : Int).toNat * 5) (by omega)
  have hle : Rl.left r ≤ k := by
   cases r with
   | letter b => exact Nat.zero_le _
   | pair a b => obtain ⟨q1, q2, q3, q4⟩ := hok; show a ≤ k; omega
   | power y n => obtain ⟨q1, q2, q3⟩ := hok; show y ≤ k; omega
  have hri : Rl.right r ≤ k := by
   cases r with
   | letter b => exact Nat.zero_le _
   | pair a b => obtain ⟨q1, q2, q3, q4⟩ := hok; show b ≤ k; omega
   | power y n => exact Nat.zero_le _
  obtain ⟨a0, a1⟩ := qMw L (i := Rl.left r) (n := k + 1) (by omega) (0 + ((Rl.left r : Nat) : Int).toNat * 2) (by omega)
  obtain ⟨b0, b1⟩ := qMw L (i := Rl.right r) (n := k + 1) (by omega) (0 + ((Rl.right r : Nat) : Int).toNat * 2) (by omega)
  refine zD (qJ (qK (zM (qK (qI (uM rfl (uM rfl (uB (uAi rfl rfl) ?_))))))))
  refine uB (uG) ?_
  refine uU (kH (hE.t rfl) (fun b5 => ?_))
  refine uU (uS ?_)
  refine qL (qJ ?_)
  refine qEs (fun q : Nat × Nat => [(0, .slice (some ⟨g, 0, none⟩) (L.length + 1) c), (3, .slice (some ⟨g2, 0, none⟩) (k + 1) c2), (4, .int .i64 ((k + 1 : Nat) : Int)), (5, uPt b5), (6, .pointer (some ⟨q.1, 0, none⟩)), (7, .pointer (some ⟨q.2, 0, none⟩))]) (fun q => [sl (some ⟨g, 0, none⟩) c 82 5 (L.length + 1) (ruC L), sl (some ⟨g2, 0, none⟩) c2 199 2 (k + 1) (keC L (k + 1)), cells b5 [.int .i64 (Rl.kind (r) : Nat), .int .u8 (Rl.byte (r) : Nat), .int .i64 (Rl.left (r) : Nat), .int .i64 (Rl.right (r) : Nat), .int .i64 (Rl.times (r) : Nat)] 82, cells q.1 (kcl L (Rl.left r)) 199, cells q.2 (kcl L (Rl.right r)) 199, R]) (fun _ => True) ?_ ?_
  ·refine qKg 13 ([cells b5 [.int .i64 (Rl.kind (r) : Nat), .int .u8 (Rl.byte (r) : Nat), .int .i64 (Rl.left (r) : Nat), .int .i64 (Rl.right (r) : Nat), .int .i64 (Rl.times (r) : Nat)] 82, sl (some ⟨g2, 0, none⟩) c2 199 2 (k + 1) (keC L (k + 1))]) ?_ ?_
   ·exact uI
   refine uT 0 rfl (qB rfl) ?_
   refine uT 1 rfl (uBf rfl) ?_
   refine uT 2 rfl (uY) ?_
   refine uT 3 rfl (uAi rfl rfl) ?_
   refine uT 4 rfl (uG) ?_
   refine uT 5 rfl (qB rfl) ?_
   refine uT 6 rfl (uBf rfl) ?_
   refine uT 7 rfl (uY) ?_
   refine uT 8 rfl (uAi rfl rfl) ?_
   refine uT 9 rfl (uG) ?_
   apply qLb 10 11 rfl rfl (by kernel_rfl) rfl rfl
   ·refine kH (hE.t rfl) (fun b6 => ?_)
    refine uE ?_
    apply qAm 11 rfl (by kernel_rfl) rfl
    refine kH (hE.t rfl) (fun b7 => ?_)
    refine uE ?_
    apply qAm 12 rfl (by kernel_rfl) rfl
    refine uS ?_
    refine uE ?_
    apply qDi rfl (by kernel_rfl) (by kernel_rfl) rfl
    refine uS ?_
    refine qAr (ι := Nat × Nat) (b6, b7) trivial ⟨rfl, rfl, rfl, rfl, rfl, rfl, trivial⟩ ?_
    exact uI
   refine kH (hE.t rfl) (fun b7 => ?_)
   refine uE ?_
   apply qAm 10 rfl (by kernel_rfl) rfl
   refine kH (hE.t rfl) (fun b6 => ?_)
   refine uE ?_
   apply qAm 12 rfl (by kernel_rfl) rfl
   refine uS ?_
   refine uE ?_
   apply qDi rfl (by kernel_rfl) (by kernel_rfl) rfl
   refine uS ?_
   refine qAr (ι := Nat × Nat) (b6, b7) trivial ⟨rfl, rfl, rfl, rfl, rfl, rfl, trivial⟩ ?_
   exact uI
  rintro ⟨b6, b7⟩ -
  simp only [kcl]
  refine qK (qI (uB (qAe (hE.t rfl) rfl rfl) ?_))
  refine uU (kH (hE.t rfl) (fun b8 => ?_))
  refine uU (uS ?_)
  refine qL (qJ ?_)
  refine qEs (fun q : Nat => [(0, .slice (some ⟨g, 0, none⟩) (L.length + 1) c), (3, .slice (some ⟨g2, 0, none⟩) (k + 1) c2), (4, .int .i64 ((k + 1 : Nat) : Int)), (8, uPt q)]) (fun q => [sl (some ⟨g, 0, none⟩) c 82 5 (L.length + 1) (ruC L), sl (some ⟨g2, 0, none⟩) c2 199 2 (k + 1) (keC L (k + 1)), cells q (kcl L (k + 1)) 199, R]) (fun _ => True) ?_ ?_
  ·refine qK (qI ?_)
   refine uB (uBf rfl) ?_
   refine uL ?_
   refine qL (qJ (zM (qK (qI (uB (y_eq rfl rfl) ?_)))))
   refine uA rfl (qL (qJ ?_))
   have klt : ∀ i, key L i < 18446744073709551616 := fun i => Nat.lt_trans (qCd hw i) (by decide)
   have hbnd := qJn hw
   cases r with
   | letter b =>
    obtain ⟨e1, e2⟩ := qBq hr
    have ek : kcl L (k + 1) = [.int .u64 (mix 1 b.toNat 0 : Nat), .int .i64 0] := by unfold kcl; rw [e1, e2]
    have hb := b.toNat_lt
    rw [ek]
    simp only [Rl.kind, Rl.byte, Rl.left, Rl.right, Rl.times]
    refine zH rfl (qI (uB (uBf rfl) ?_))
    refine uL ?_
    refine uB (uAc rfl) ?_
    refine uX (qWz (k := 1) (x := b.toNat) (y := 0) hE (by omega) (by omega)) rfl ?_
    rintro _ _ ⟨rfl, rfl⟩
    simp only [uV, uW]
    refine uB (qAe (hE.t rfl) rfl rfl) ?_
    refine uU (uS ?_)
    refine qL (zK ?_)
    refine qAr (ι := Nat) b8 trivial ⟨rfl, rfl, rfl, rfl, trivial⟩ ?_
    exact uI
   | pair a b =>
    obtain ⟨e1, e2⟩ := qDh hr hok
    obtain ⟨q1, q2, q3, q4⟩ := hok
    have ha := hbnd a (by omega)
    have hb := hbnd b (by omega)
    have ek : kcl L (k + 1) = [.int .u64 (mix 2 (key L a) (key L b) : Nat), .int .i64 (if a ≠ b ∧ 0 ≤ lvl L a ∧ 0 ≤ lvl L b then ((after (max (lvl L a).toNat (lvl L b).toNat) (key L a) (key L b) : Nat) : Int) else -1)] := by unfold kcl; rw [e1, e2]
    rw [ek]
    simp only [Rl.kind, Rl.byte, Rl.left, Rl.right, Rl.times]
    refine zF rfl (qK (qI (uB (y_eq rfl rfl) ?_)))
    refine uA rfl (qL (qJ (zH rfl (qK (qI (uB (uBf rfl) ?_))))))
    refine uL ?_
    refine uB (uBf rfl) ?_
    refine uL ?_
    refine uX (qWz (k := 2) (x := key L a) (y := key L b) hE (klt a) (klt b)) rfl ?_
    rintro _ _ ⟨rfl, rfl⟩
    simp only [uV, uW]
    refine uB (uBf rfl) ?_
    refine uU (uS ?_)
    refine qL (qJ (qK (qI (uB (uBf rfl) ?_))))
    refine uL ?_
    refine uB (uBf rfl) ?_
    refine uL ?_
    refine uB (y_ne rfl rfl) ?_
    refine uM rfl ?_
    refine qAf 74 rfl (fun h1 => ?_) (fun h1 => ?_)
    ·refine kU rfl rfl ?_
     refine uB (uBf rfl) ?_
     refine kU rfl rfl (uL ?_)
     refine kU rfl rfl (uB (y_ge rfl rfl) ?_)
     refine uB (qX rfl rfl) ?_
     refine uM rfl ?_
     refine qAf 79 rfl (fun h2 => ?_) (fun h2 => ?_)
     ·refine kU rfl rfl ?_
      refine uB (uBf rfl) ?_
      refine kU rfl rfl (uL ?_)
      refine kU rfl rfl (uB (y_ge rfl rfl) ?_)
      refine uB (qX rfl rfl) ?_
      refine qL (qJ ?_)
      refine zG rfl (fun h3 => ?_) (fun h3 => ?_)
      ·rw [if_pos ⟨by omega, by omega, by omega⟩]
       refine qI (uB (uBf rfl) ?_)
       refine uL ?_
       refine uB (uBf rfl) ?_
       refine uL ?_
       refine uB (zBt rfl rfl) ?_
       refine l_eq 88 (.int .i64 ((max (lvl L a).toNat (lvl L b).toNat : Nat) : Int)) rfl (zY (by split <;> omega)) ?_
       refine uB (uBf rfl) ?_
       refine uL ?_
       refine uB (uBf rfl) ?_
       refine uL ?_
       refine uX (zBz hE (qCd hw a) (qCd hw b) (by omega)) rfl ?_
       rintro _ _ ⟨rfl, rfl⟩
       simp only [uV, uW]
       refine uB (uBf rfl) ?_
       refine uU (uS ?_)
       refine qL (zK ?_)
       refine qAr (ι := Nat) b8 trivial ⟨rfl, rfl, rfl, rfl, trivial⟩ ?_
       exact uI
      rw [if_neg (fun h => by omega)]
      refine zD (zK ?_)
      refine qAr (ι := Nat) b8 trivial ⟨rfl, rfl, rfl, rfl, trivial⟩ ?_
      exact uI
     rw [if_neg (fun h => by omega)]
     refine zV rfl rfl rfl rfl (zV rfl rfl rfl rfl (zV rfl rfl rfl rfl ?_))
     refine uB (qY rfl rfl) ?_
     refine qL (qJ (zF rfl (zD (zK ?_))))
     refine qAr (ι := Nat) b8 trivial ⟨rfl, rfl, rfl, rfl, trivial⟩ ?_
     exact uI
    rw [if_neg (fun h => by omega)]
    refine zV rfl rfl rfl rfl (zV rfl rfl rfl rfl (zV rfl rfl rfl rfl ?_))
    refine uB (qY rfl rfl) ?_
    refine uM rfl ?_
    refine zV rfl rfl rfl rfl (zV rfl rfl rfl rfl (zV rfl rfl rfl rfl ?_))
    refine uB (qY rfl rfl) ?_
    refine qL (qJ (zF rfl (zD (zK ?_))))
    refine qAr (ι := Nat) b8 trivial ⟨rfl, rfl, rfl, rfl, trivial⟩ ?_
    exact uI
   | power y n =>
    obtain ⟨e1, e2⟩ := qCt hr hok
    have hn := qXv hw hr
    obtain ⟨q1, q2, q3⟩ := hok
    have hy := hbnd y (by omega)
    unfold kJ at hn
    have ek : kcl L (k + 1) = [.int .u64 (mix 3 (key L y) n : Nat), .int .i64 (if 0 ≤ lvl L y ∧ lvl L y % 2 = 0 then lvl L y + 1 else -1)] := by unfold kcl; rw [e1, e2]
    rw [ek]
    simp only [Rl.kind, Rl.byte, Rl.left, Rl.right, Rl.times]
    refine zF rfl (qK (qI (uB (y_eq rfl rfl) ?_)))
    refine uA rfl (qL (qJ (zF rfl (qK (qI (uB (uBf rfl) ?_))))))
    refine uL ?_
    refine uB (uBf rfl) ?_
    refine uL ?_
    refine uB (uAc rfl) ?_
    refine uX (qWz (k := 3) (x := key L y) (y := n) hE (klt y) (by omega)) rfl ?_
    rintro _ _ ⟨rfl, rfl⟩
    simp only [uV, uW]
    refine uB (uBf rfl) ?_
    refine uU (uS ?_)
    refine qL (qJ (qK (qI (uB (uBf rfl) ?_))))
    refine uL ?_
    refine uB (y_ge rfl rfl) ?_
    refine uM rfl ?_
    refine qAf 44 rfl (fun h1 => ?_) (fun h1 => ?_)
    ·refine kU rfl rfl ?_
     refine uB (uBf rfl) ?_
     refine kU rfl rfl (uL ?_)
     refine kU rfl rfl (uB (qIu rfl rfl (by omega) (by omega)) ?_)
     refine kU rfl rfl (uB (y_eq rfl rfl) ?_)
     refine uB (qX rfl rfl) ?_
     refine qL (qJ ?_)
     refine zG rfl (fun h2 => ?_) (fun h2 => ?_)
     ·rw [if_pos ⟨by omega, by omega⟩]
      refine qI (uB (uBf rfl) ?_)
      refine uL ?_
      refine uB (uAa rfl rfl) ?_
      refine uB (uBf rfl) ?_
      refine uU (uS ?_)
      refine qL (zK ?_)
      refine qAr (ι := Nat) b8 trivial ⟨rfl, rfl, rfl, rfl, trivial⟩ ?_
      exact uI
     rw [if_neg (fun h => by omega)]
     refine zD (zK ?_)
     refine qAr (ι := Nat) b8 trivial ⟨rfl, rfl, rfl, rfl, trivial⟩ ?_
     exact uI
    rw [if_neg (fun h => by omega)]
    refine zV rfl rfl rfl rfl (zV rfl rfl rfl rfl (zV rfl rfl rfl rfl (zV rfl rfl rfl rfl ?_)))
    refine uB (qY rfl rfl) ?_
    refine qL (qJ (zF rfl (zD (zK ?_))))
    refine qAr (ι := Nat) b8 trivial ⟨rfl, rfl, rfl, rfl, trivial⟩ ?_
    exact uI
  rintro b8 -
  simp only [kcl]
  refine qI (uM rfl (uB (uG) ?_))
  refine uU ?_
  refine qV (hE.t rfl) (hE.t rfl) rfl rfl rfl (fun b97 => ?_)
  refine uU ?_
  apply zW (hE.t rfl) (hE.t rfl) rfl rfl rfl
  ·exact uK
  ·exact uK
  ·rfl
  ·rfl
  ·omega
  ·omega
  ·(unfold maxLen; omega)
  intro g98 c98 n98 x98 hn98 hx98
  refine uA rfl (qL (zK (qJ (qI (uM rfl (uB (uAa rfl rfl) ?_))))))
  refine uA rfl (qL ?_)
  obtain rfl : n98 = k + 1 + 1 := by omega
  obtain rfl : x98 = keC L (k + 1 + 1) := by rw [hx98, qSj _ (k + 1)]; rfl
  refine qEa 4 (.int .i64 ((k + 1 + 1 : Nat) : Int)) rfl (zY (by omega)) ?_
  refine zU (ι := KeX) (j := ⟨k + 1, some ⟨g98, 0, none⟩, c98⟩) hkn (by show L.length - (k + 1) < L.length - k; omega) ⟨rfl, rfl, rfl, trivial⟩ ?_
  exact uI
 obtain rfl : k = L.length := by omega
 refine kM (qP (qP (zJ (qJ (qK (qI (uM rfl (uA rfl (qL (qJ (kD ?_)))))))))))
 exact uZ rfl (.tmp rfl .nil) ⟨p2, c2, rfl, rfl⟩
end
end Go.Proofs.YtkkjjablmmmmkaaGreatDoor
