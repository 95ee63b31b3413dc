import Derived.Test.YtddfnkijolfhbaaGreatQ77
import Derived.Laws.Bits64
import Derived.Sort.LotD5
set_option linter.all false
set_option maxHeartbeats 1000000
namespace Sl
open Go Go.RowKit
variable {E : Env} {n : Nat} {L : Fr} {S : List HP} {ty : TypeId} {pos : String} {af : Array Edge} {d : Option Nat} {gd : Option (Nat × Bool)}
theorem qRe {x y : Operand} {xt yt : TypeId} {i j : Nat} {ky : IntKind} (hx : ev L x = some (.int .u64 (i : Nat))) (hy : ev L y = some (.int ky (j : Nat))) (hj : j ≤ 64) :
  Yl E n L S ⟨d, .binOp .shl xt x y yt, ty, pos, af, gd⟩ (.int .u64 ((i * 2 ^ j % 18446744073709551616 : Nat) : Int)) := fun a w g _ => by
 have h := shift_shl_any .u64 ky (i : Int) ((j : Nat) : Int) (Int.natCast_nonneg j)
 have e : IntKind.u64.wrap ((i : Int) * 2 ^ min ((j : Nat) : Int).toNat IntKind.u64.bits) = ((i * 2 ^ j % 18446744073709551616 : Nat) : Int) := by
  rw [Int.toNat_natCast, show min j IntKind.u64.bits = j from Nat.min_eq_left hj, IntKind.wrap_u64, Int.natCast_emod, Int.natCast_mul, Int.natCast_pow]; rfl
 rw [e] at h
 simp [execOp, eqGuard, binOp, g.ev hx, g.ev hy, h]
 exact IntKind.wrap_u64 _
theorem qRh {x y : Operand} {xt yt : TypeId} {i j : Nat} (hx : ev L x = some (.int .u64 (i : Nat))) (hy : ev L y = some (.int .u64 (j : Nat))) (hi : i < 18446744073709551616) (hj : j < 18446744073709551616) :
  Yl E n L S ⟨d, .binOp .xor xt x y yt, ty, pos, af, gd⟩ (.int .u64 ((i ^^^ j : Nat) : Int)) := fun a w g _ => by
 have h := bits_xor_u64_nat i j hi hj
 simp [execOp, eqGuard, binOp, Op.intBits, g.ev hx, g.ev hy]
 exact h
theorem y_and64O {x y : Operand} {xt yt : TypeId} {i j : Nat} (hx : ev L x = some (.int .u64 (i : Nat))) (hy : ev L y = some (.int .u64 (j : Nat))) (hi : i < 18446744073709551616) (hj : j < 18446744073709551616) :
  Yl E n L S ⟨d, .binOp .and xt x y yt, ty, pos, af, gd⟩ (.int .u64 ((i &&& j : Nat) : Int)) := fun a w g _ => by
 have h := bits_and_u64_nat i j hi hj
 simp [execOp, eqGuard, binOp, Op.intBits, g.ev hx, g.ev hy]
 exact h
theorem qWl {x y : Operand} {xt yt : TypeId} {i j : Nat} (hx : ev L x = some (.int .u64 (i : Nat))) (hy : ev L y = some (.int .u64 (j : Nat))) (hi : i < 18446744073709551616) (hj : j ≤ i) :
  Yl E n L S ⟨d, .binOp .sub xt x y yt, ty, pos, af, gd⟩ (.int .u64 ((i - j : Nat) : Int)) := fun a w g _ => by
 have h : IntKind.u64.wrap ((i : Int) - j) = ((i - j : Nat) : Int) := by rw [IntKind.wrap_u64]; omega
 simp [execOp, eqGuard, binOp, Op.intArith, g.ev hx, g.ev hy]
 exact h
end Sl
namespace Go.Proofs.YtddfnkijolfhbaaGreat
open Go Go.RowKit Sl Eg
set_option maxRecDepth 10000
section
variable {E : Env}
variable {q : HP} {ok : Nat → Prop} {cf : Nat → Nat → Int} {g c n : Nat}
def zBv : ByteArray := ⟨([0, 1] ++ (List.replicate 2 2 ++ (List.replicate 4 3 ++ (List.replicate 8 4 ++ (List.replicate 16 5 ++ (List.replicate 32 6 ++ (List.replicate 64 7 ++ List.replicate 128 8)))))) : List UInt8).toArray⟩
theorem zBx : (List.range 256).all (fun k => match zBv[k]? with | some c => Nat.beq c.toNat (Go.Sort.bitsLen k) | none => false) = true := by decide +kernel
theorem qWb {k : Nat} (h : k < 256) : ∃ c, zBv[k]? = some c ∧ c.toNat = Go.Sort.bitsLen k := by
 have h := List.all_eq_true.1 zBx k (List.mem_range.2 h)
 cases e : zBv[k]? with
 | none => rw [e] at h; simp at h
 | some c => rw [e] at h; exact ⟨c, rfl, Nat.eq_of_beq_eq_true h⟩
theorem qWg {i : Nat} (h : i < 256) : IntKind.u8.wrap ((i : Nat) : Int) = (i : Nat) := by
 simp [IntKind.wrap, IntKind.bits, IntKind.signed]
 omega
theorem qRl (k : Nat) (h : 256 ≤ k) : Go.Sort.bitsLen k = 8 + Go.Sort.bitsLen (k / 2 ^ 8) := by
 apply Nat.le_antisymm
 ·rw [Go.Sort.bitsLen_le_iff]
  have := Go.Sort.lt_two_pow_bitsLen (k / 2 ^ 8)
  rw [Nat.pow_add]
  have h2 : k = 2 ^ 8 * (k / 2 ^ 8) + k % 2 ^ 8 := (Nat.div_add_mod k (2 ^ 8)).symm
  have h3 := Nat.mod_lt k (show 2 ^ 8 > 0 by decide)
  have h4 : 2 ^ 8 * (k / 2 ^ 8 + 1) ≤ 2 ^ 8 * 2 ^ Go.Sort.bitsLen (k / 2 ^ 8) := Nat.mul_le_mul_left _ this
  rw [Nat.mul_add] at h4
  omega
 have h9 : 8 ≤ Go.Sort.bitsLen k := by
  apply Classical.byContradiction
  intro hh
  have := (Go.Sort.bitsLen_le_iff k 7).1 (by omega)
  omega
 have : Go.Sort.bitsLen (k / 2 ^ 8) ≤ Go.Sort.bitsLen k - 8 := by
  rw [Go.Sort.bitsLen_le_iff]
  have := Go.Sort.lt_two_pow_bitsLen k
  apply Nat.div_lt_of_lt_mul
  rw [← Nat.pow_add, show 8 + (Go.Sort.bitsLen k - 8) = Go.Sort.bitsLen k by omega]
  exact this
 omega
theorem qWr (hE : Seat E) {k : Nat} (h2 : k < 65536) : Ct E 112 [.int .u64 (k : Nat)] [] (fun v Q => v = .int .i64 (Go.Sort.bitsLen k : Nat) ∧ Q = []) := by
 refine zP (hE.fn Tryz.func112) rfl rfl rfl (fun R => ?_)
 simp only [qAe, uV, uW]
 refine qL (qJ (uA rfl (qM (qK (qL (qL (qJ (uM rfl (uB (y_ge rfl rfl) ?_)))))))))
 refine qM (qK ?_)
 refine zF rfl (fun g1 => ?_) (fun g1 => ?_)
 ·exfalso; omega
 refine zC (qK (qL (qL (qJ (uM rfl (uB (y_ge rfl rfl) ?_))))))
 refine qM (qK ?_)
 refine zF rfl (fun g2 => ?_) (fun g2 => ?_)
 ·exfalso; omega
 refine zC (qK (qL (qL (qJ (uM rfl (uB (y_ge rfl rfl) ?_))))))
 refine qM (qK ?_)
 refine zF rfl (fun g3 => ?_) (fun g3 => ?_)
 ·refine qL (qJ ?_)
  refine uM rfl (uB (qFs (j := 8) rfl rfl (by decide)) ?_)
  have hk : k / 2 ^ 8 < 256 := by omega
  obtain ⟨ch, f0, hcn⟩ := qWb hk
  have hcb := ch.toNat_lt
  refine uA rfl (qM (qK (qJ (uM rfl (uB (uAa rfl rfl) ?_)))))
  refine uA rfl (qM (qK (qL (qJ (uM rfl (uM rfl (uB (kM rfl (hE.t rfl) (hE.t rfl) (qWg hk)) ?_)))))))
  refine uB (qHu (bs := zBv) rfl rfl (hE.t rfl) (by omega) f0) ?_
  refine uB (kM (i := (ch.toNat : Int)) rfl (hE.t rfl) (hE.t rfl) (kN (by omega) (by omega))) ?_
  refine uB (zCn (j := (ch.toNat : Int)) rfl rfl (by omega) (by omega)) ?_
  refine uA rfl (qM (qK (kC ?_)))
  exact uZ rfl (.tmp rfl .nil) ⟨by rw [hcn, qRl k (by omega)]; exact zX (by omega), rfl⟩
 obtain ⟨ch, f0, hcn⟩ := qWb (k := k) (by omega)
 have hcb := ch.toNat_lt
 refine zC (qK (qL (qJ (uM rfl (uM rfl (uB (kM rfl (hE.t rfl) (hE.t rfl) (qWg (by omega))) ?_))))))
 refine uB (qHu (bs := zBv) rfl rfl (hE.t rfl) (by omega) f0) ?_
 refine uB (kM (i := (ch.toNat : Int)) rfl (hE.t rfl) (hE.t rfl) (kN (by omega) (by omega))) ?_
 refine uB (zCn (j := (ch.toNat : Int)) rfl rfl (by omega) (by omega)) ?_
 refine uA rfl (qM (qK (kC ?_)))
 exact uZ rfl (.tmp rfl .nil) ⟨by rw [hcn]; exact zX (by omega), rfl⟩
theorem qHz (hE : Seat E) {k : Nat} (h2 : k < 65536) : Ct E 73 [.int .u64 (k : Nat)] [] (fun v Q => v = .int .i64 (Go.Sort.bitsLen k : Nat) ∧ Q = []) := by
 refine zP (hE.fn Tryz.func73) rfl rfl rfl (fun R => ?_)
 simp only [qAe, uV, uW]
 refine qL (qJ (uA rfl (qM (qK (qL (zD rfl (zC (qK (qL (qJ (uM rfl (uX (qWr hE h2) rfl ?_))))))))))))
 rintro _ _ ⟨rfl, rfl⟩
 simp only [uV, uW]
 refine uA rfl (qM (qK (kC ?_)))
 exact uZ rfl (.tmp rfl .nil) ⟨rfl, rfl⟩
theorem qHy {k : Nat} (h : k < 65536) : Go.Sort.bitsLen k ≤ 16 := (Go.Sort.bitsLen_le_iff k 16).2 h
theorem qUb (hE : Seat E) {k : Nat} (h2 : k < 65536) : Ct E 141 [.int .i64 (k : Nat)] [] (fun v Q => v = .int .u64 ((1 <<< Go.Sort.bitsLen k : Nat) : Int) ∧ Q = []) := by
 have hb := qHy h2
 have hp : 2 ^ Go.Sort.bitsLen k ≤ 2 ^ 16 := Nat.pow_le_pow_right (by decide) hb
 refine zP (hE.fn Tryz.func141) rfl rfl rfl (fun R => ?_)
 simp only [qAe, uV, uW]
 refine qL (qJ (uA rfl (qM (qK (qL (qJ (uM rfl (uB (uAc rfl) ?_))))))))
 refine uX (qHz hE h2) rfl ?_
 rintro _ _ ⟨rfl, rfl⟩
 simp only [uV, uW]
 refine uB (qRe (i := 1) rfl rfl (by omega)) ?_
 refine uA rfl (qM (qK (kC ?_)))
 exact uZ rfl (.tmp rfl .nil) ⟨zX (by rw [Nat.shiftLeft_eq, Nat.mod_eq_of_lt (by omega)]), rfl⟩
theorem qUi (hE : Seat E) {r X : Nat} (hX : X < 18446744073709551616) : Ct E 142 [uPt r] [cells r [.int .u64 (X : Nat)] 229] (fun v Q => v = .int .u64 ((Go.Sort.xorNextN X : Nat) : Int) ∧ Q = [cells r [.int .u64 ((Go.Sort.xorNextN X : Nat) : Int)] 229]) := by
 obtain ⟨A, hA⟩ : ∃ A : Nat, A = X ^^^ (X * 8192 % 18446744073709551616) := ⟨_, rfl⟩
 obtain ⟨B, hB⟩ : ∃ B : Nat, B = A ^^^ (A / 128) := ⟨_, rfl⟩
 obtain ⟨C, hC⟩ : ∃ C : Nat, C = B ^^^ (B * 131072 % 18446744073709551616) := ⟨_, rfl⟩
 have lA : A < 18446744073709551616 := by rw [hA]; exact Nat.xor_lt_two_pow (n := 64) (by omega) (by omega)
 have lB : B < 18446744073709551616 := by rw [hB]; exact Nat.xor_lt_two_pow (n := 64) (by omega) (by omega)
 have hv : Go.Sort.xorNextN X = C := by unfold Go.Sort.xorNextN; simp only []; rw [← hA, ← hB, ← hC]
 rw [hv]
 refine zP (hE.fn Tryz.func142) rfl rfl rfl (fun R => ?_)
 simp only [qAe, uV, uW]
 refine qL (qJ (uA rfl ?_))
 refine qM (qK (qL (qAw (by kernel_rfl) ?_)))
 refine uM rfl (uB (zB rfl) ?_)
 refine uL ?_
 refine uM rfl (uB (zB rfl) ?_)
 refine uL ?_
 refine uB (qRe (i := X) (j := 13) rfl rfl (by decide)) ?_
 refine uB (qRh (i := X) (j := X * 2 ^ 13 % 18446744073709551616) rfl rfl hX (by omega)) ?_
 refine l_eq 10 (.int .u64 ((A : Nat) : Int)) rfl (zX (by rw [hA])) ?_
 refine uB (zB rfl) ?_
 refine uU (uS ?_)
 refine qM (qK (qL (qAw (by kernel_rfl) ?_)))
 refine uM rfl (uB (zB rfl) ?_)
 refine uL ?_
 refine uM rfl (uB (zB rfl) ?_)
 refine uL ?_
 refine uB (qFs (i := A) (j := 7) rfl rfl (by decide)) ?_
 refine uB (qRh (i := A) (j := A / 2 ^ 7) rfl rfl lA (by omega)) ?_
 refine l_eq 19 (.int .u64 ((B : Nat) : Int)) rfl (zX (by rw [hB])) ?_
 refine uB (zB rfl) ?_
 refine uU (uS ?_)
 refine qM (qK (qL (qAw (by kernel_rfl) ?_)))
 refine uM rfl (uB (zB rfl) ?_)
 refine uL ?_
 refine uM rfl (uB (zB rfl) ?_)
 refine uL ?_
 refine uB (qRe (i := B) (j := 17) rfl rfl (by decide)) ?_
 refine uB (qRh (i := B) (j := B * 2 ^ 17 % 18446744073709551616) rfl rfl lB (by omega)) ?_
 refine l_eq 28 (.int .u64 ((C : Nat) : Int)) rfl (zX (by rw [hC])) ?_
 refine uB (zB rfl) ?_
 refine uU (uS ?_)
 refine qM (qK (qL (qJ (uM rfl (uB (zB rfl) ?_)))))
 refine uL ?_
 refine uA rfl (qM (qK (kC ?_)))
 exact uZ rfl (.tmp rfl .nil) ⟨rfl, rfl⟩
def brkO (a l m i0 : Nat) (d : Array Nat) : Nat → UInt64 × Array Nat
 | 0 => (UInt64.ofNat l, d)
 | t + 1 => Go.Sort.breakStep a l m (brkO a l m i0 d t) (i0 + t)
theorem brk_eqO {d : Array Nat} {a b : Nat} (h : b - a ≥ 8) : Go.Sort.breakPatterns d a b = (brkO a (b - a) (1 <<< Go.Sort.bitsLen (b - a)) (a + (b - a) / 4 * 2 - 1) d 3).2 := by
 unfold Go.Sort.breakPatterns
 simp only [if_pos h]
 rfl
open Go.Sort in
theorem qJo (hE : Seat E) {d : Array Nat} (hd : OkDO ok n d) {a b : Nat} (hab : a + 12 < b) (hb : b ≤ n) (hn : n < 65536) :
  Ct E 128 [.slice (some ⟨g, 0, none⟩) n c, .int .i64 (a : Nat), .int .i64 (b : Nat)] [sl (some ⟨g, 0, none⟩) c 40 1 n (dCO d), q]
   (fun v Q => v = .tuple #[] ∧ Q = [sl (some ⟨g, 0, none⟩) c 40 1 n (dCO (breakPatterns d a b)), q] ∧ OkDO ok n (breakPatterns d a b)) := by
 have e0 := brk_eqO (d := d) (a := a) (b := b) (by omega)
 obtain ⟨l, hl⟩ : ∃ l, l = b - a := ⟨_, rfl⟩
 obtain ⟨i0, hi0⟩ : ∃ i0, i0 = a + l / 4 * 2 - 1 := ⟨_, rfl⟩
 rw [← hl, ← hi0] at e0
 have hl16 := qHy (k := l) (by omega)
 have hlp := lt_two_pow_bitsLen l
 have hlq := two_pow_bitsLen_le (n := l) (by omega)
 have hm0 : 1 <<< bitsLen l = 2 ^ bitsLen l := by rw [Nat.shiftLeft_eq, Nat.one_mul]
 obtain ⟨m, hm⟩ : ∃ m, m = 1 <<< bitsLen l := ⟨_, rfl⟩
 have hml : l < m ∧ m ≤ 2 * l := by rw [hm, hm0]; exact ⟨hlp, hlq⟩
 rw [← hm] at e0
 rw [e0]
 have h64 : (UInt64.ofNat l).toNat = l := by simp; omega
 refine zP (hE.fn Tryz.func128) rfl rfl rfl (fun R => ?_)
 simp only [qAe, uV, uW]
 refine qL (qJ (uM rfl (uM rfl (uB (uAs rfl rfl) ?_))))
 refine uA rfl (qM (qK ?_))
 refine w_eq 6 (.int .i64 ((l : Nat) : Int)) rfl (zX (by omega)) ?_
 refine qL (qJ (uM rfl (uB (y_ge rfl rfl) ?_)))
 refine qM (qK ?_)
 refine zF rfl (fun h0 => ?_) (fun h0 => ?_)
 ·refine qL (qJ ?_)
  refine uM rfl (uB (uAc rfl) ?_)
  refine uU (kG (hE.t rfl) (fun b7 => ?_))
  refine uU (uS ?_)
  refine qM (qK (qL (qJ (uM rfl (uX (qUb (k := l) hE (by omega)) rfl ?_)))))
  rintro _ _ ⟨rfl, rfl⟩
  simp only [uV, uW]
  refine uA rfl (qM (qK (qL (qJ (uM rfl (uM rfl (uB (qHe rfl rfl (by omega) (by omega) (by omega)) ?_)))))))
  refine uB (qJn rfl rfl (by omega) (by omega)) ?_
  refine uB (uAa rfl rfl) ?_
  refine uB (uAs rfl rfl) ?_
  refine uA rfl (qM (qK ?_))
  refine w_eq 9 (.int .i64 ((i0 : Nat) : Int)) rfl (zX (by omega)) ?_
  refine w_eq 8 (.int .u64 ((m : Nat) : Int)) rfl (zX (by rw [hm])) ?_
  refine zL ?_
  refine qAj (fun t : Nat => [(0, .slice (some ⟨g, 0, none⟩) n c), (1, .int .i64 (a : Nat)), (6, .int .i64 (l : Nat)), (7, uPt b7), (8, .int .u64 (m : Nat)), (9, .int .i64 ((i0 + t : Nat) : Int))]) (fun t => [cells b7 [.int .u64 (((brkO a l m i0 d t).1.toNat : Nat) : Int)] 229, sl (some ⟨g, 0, none⟩) c 40 1 n (dCO (brkO a l m i0 d t).2), q, R]) (fun t => 3 - t) (fun t => t ≤ 3 ∧ OkDO ok n (brkO a l m i0 d t).2) 0 ?_ ?_ ?_ ?_
  ·exact ⟨by omega, hd⟩
  ·exact ⟨rfl, rfl, rfl, rfl, rfl, rfl, trivial⟩
  ·show ∀ k, _ → qAd [cells b7 [.int .u64 (((UInt64.ofNat l).toNat : Nat) : Int)] 229, sl (some ⟨g, 0, none⟩) c 40 1 n (dCO d), q, R] k
   rw [h64]
   exact uI
  rintro t ⟨ht, hdt⟩
  refine qL (qL (qJ (uM rfl (uM rfl (uM rfl (uB (qHe rfl rfl (by omega) (by omega) (by omega)) ?_))))))
  refine uB (qJn rfl rfl (by omega) (by omega)) ?_
  refine uB (uAa rfl rfl) ?_
  refine uB (uAa rfl rfl) ?_
  refine uB (y_le rfl rfl) ?_
  refine qM (qK ?_)
  refine zF rfl (fun h1 => ?_) (fun h1 => ?_)
  ·have hx := (brkO a l m i0 d t).1.toNat_lt
   have hxn := xorNextN_lt _ hx
   have hts := hdt.1
   obtain ⟨o, ho⟩ : ∃ o, o = xorNextN (brkO a l m i0 d t).1.toNat &&& (m - 1) := ⟨_, rfl⟩
   have hom : o ≤ m - 1 := by rw [ho]; exact Nat.and_le_right
   have hst : ∀ o', o' = (if o ≥ l then o - l else o) → brkO a l m i0 d (t + 1) = (xorNext (brkO a l m i0 d t).1, swp (brkO a l m i0 d t).2 (i0 + t) (a + o')) := by
    intro o' h'
    subst h'
    show breakStep a l m (brkO a l m i0 d t) (i0 + t) = _
    unfold breakStep
    simp only
    rw [xorNext_toNat, ← ho]
   refine zC (qK (qL (zL (qL (qJ (uX (qUi hE hx) rfl ?_))))))
   rintro _ _ ⟨rfl, rfl⟩
   simp only [uV, uW]
   refine uM rfl (uB (qWl (i := m) (j := 1) rfl rfl (by omega) (by omega)) ?_)
   refine uB (y_and64O (i := xorNextN (brkO a l m i0 d t).1.toNat) (j := m - 1) rfl rfl hxn (by omega)) ?_
   refine l_eq 39 (.int .u64 ((o : Nat) : Int)) rfl (zX (by rw [ho])) ?_
   refine uB (kM rfl (hE.t rfl) (hE.t rfl) (kN (by omega) (by omega))) ?_
   refine uA rfl (qM (qK (qL (qL (qJ (uM rfl (uM rfl (uB (y_ge rfl rfl) ?_))))))))
   refine qM (qK ?_)
   refine zF rfl (fun h2 => ?_) (fun h2 => ?_)
   ·refine qJ ?_
    refine uM rfl (uM rfl (uB (uAs rfl rfl) ?_))
    refine uA rfl (qM (qK ?_))
    refine w_eq 10 (.int .i64 (((o - l) : Nat) : Int)) rfl (zX (by omega)) ?_
    have hs := hst ((o - l)) (by rw [if_pos (show o ≥ l by omega)])
    have f0 := qAh (brkO a l m i0 d t).2 (i := i0 + t) (by omega) (((i0 + t : Nat) : Int)).toNat (by omega)
    have f1 := qAh (brkO a l m i0 d t).2 (i := a + ((o - l))) (by omega) ((a : Int) + (((o - l) : Nat) : Int)).toNat (by omega)
    refine qAo 17 ([sl (some ⟨g, 0, none⟩) c 40 1 n (dCO ((brkO a l m i0 d t).2)), q]) [(19, [])] ?_ ?_
    ·exact uI
    refine uP 0 rfl (qC rfl) ?_
    refine uP 1 rfl (qC rfl) ?_
    refine uP 2 rfl (qC rfl) ?_
    refine uP 3 rfl (qC rfl) ?_
    refine uP 4 rfl (qC rfl) ?_
    refine uP 5 rfl (uAa rfl rfl) ?_
    refine uP 6 rfl (qC rfl) ?_
    refine uP 7 rfl (qC rfl) ?_
    refine uP 8 rfl (qC rfl) ?_
    refine uP 9 rfl (uAa rfl rfl) ?_
    refine uP 10 rfl (uAj rfl rfl) ?_
    refine uQ 11 rfl (uY) ?_
    refine uP 12 rfl (qC rfl) ?_
    refine uP 13 rfl (qC rfl) ?_
    refine uP 14 rfl (uAj rfl rfl) ?_
    refine uQ 15 rfl (uY) ?_
    refine uP 16 rfl (uAj rfl rfl) ?_
    apply qBo rfl (by kernel_rfl) rfl
    refine uJ ?_
    refine uE ?_
    refine uP 18 rfl (uAj rfl rfl) ?_
    apply qBn rfl (by kernel_rfl) (by kernel_rfl) rfl
    refine uJ ?_
    refine zJ (qK (qJ (uM rfl (uB (uAa rfl rfl) ?_))))
    refine uA rfl (qM ?_)
    simp only [zQ]
    rw [qCn (brkO a l m i0 d t).2 (i := (i0 + t)) (j := (a + ((o - l)))) (by omega) (by omega)]
    case ho => omega
    case ho' => omega
    refine zT (t + 1) ⟨by omega, ?_⟩ (by omega) ⟨rfl, rfl, rfl, rfl, rfl, congrArg some (zX (by omega)), trivial⟩ ?_
    ·rw [hs]
     exact hdt.swp (by omega) (by omega)
    rw [hs, xorNext_toNat]
    exact uI
   refine zC (qK ?_)
   refine w_eq 10 (.int .i64 ((o : Nat) : Int)) rfl (zX (by omega)) ?_
   have hs := hst (o) (by rw [if_neg (show ¬ o ≥ l by omega)])
   have f0 := qAh (brkO a l m i0 d t).2 (i := i0 + t) (by omega) (((i0 + t : Nat) : Int)).toNat (by omega)
   have f1 := qAh (brkO a l m i0 d t).2 (i := a + (o)) (by omega) ((a : Int) + ((o : Nat) : Int)).toNat (by omega)
   refine qAo 17 ([sl (some ⟨g, 0, none⟩) c 40 1 n (dCO ((brkO a l m i0 d t).2)), q]) [(19, [])] ?_ ?_
   ·exact uI
   refine uP 0 rfl (qC rfl) ?_
   refine uP 1 rfl (qC rfl) ?_
   refine uP 2 rfl (qC rfl) ?_
   refine uP 3 rfl (qC rfl) ?_
   refine uP 4 rfl (qC rfl) ?_
   refine uP 5 rfl (uAa rfl rfl) ?_
   refine uP 6 rfl (qC rfl) ?_
   refine uP 7 rfl (qC rfl) ?_
   refine uP 8 rfl (qC rfl) ?_
   refine uP 9 rfl (uAa rfl rfl) ?_
   refine uP 10 rfl (uAj rfl rfl) ?_
   refine uQ 11 rfl (uY) ?_
   refine uP 12 rfl (qC rfl) ?_
   refine uP 13 rfl (qC rfl) ?_
   refine uP 14 rfl (uAj rfl rfl) ?_
   refine uQ 15 rfl (uY) ?_
   refine uP 16 rfl (uAj rfl rfl) ?_
   apply qBo rfl (by kernel_rfl) rfl
   refine uJ ?_
   refine uE ?_
   refine uP 18 rfl (uAj rfl rfl) ?_
   apply qBn rfl (by kernel_rfl) (by kernel_rfl) rfl
   refine uJ ?_
   refine zJ (qK (qJ (uM rfl (uB (uAa rfl rfl) ?_))))
   refine uA rfl (qM ?_)
   simp only [zQ]
   rw [qCn (brkO a l m i0 d t).2 (i := (i0 + t)) (j := (a + (o))) (by omega) (by omega)]
   case ho => omega
   case ho' => omega
   refine zT (t + 1) ⟨by omega, ?_⟩ (by omega) ⟨rfl, rfl, rfl, rfl, rfl, congrArg some (zX (by omega)), trivial⟩ ?_
   ·rw [hs]
    exact hdt.swp (by omega) (by omega)
   rw [hs, xorNext_toNat]
   exact uI
  obtain rfl : t = 3 := by omega
  refine kJ (qQ (qQ (zI ?_)))
  exact uZe rfl .nil ⟨rfl, rfl, hdt⟩
 exfalso; omega
end
section
variable {E : Env}
variable {q : HP} {ok : Nat → Prop} {cf : Nat → Nat → Int} {g c n : Nat}
open Go.Sort in
theorem qHv (hE : Seat E) (hc : CmpO E q ok cf) {d : Array Nat} (hd : OkDO ok n d) {a b : Nat} (hab : a < b) (hb : b ≤ n) (hn : n < 1099511627776) :
  Ct E 131 [.slice (some ⟨g, 0, none⟩) n c, .int .i64 (a : Nat), .int .i64 (b : Nat)] [sl (some ⟨g, 0, none⟩) c 40 1 n (dCO d), q]
   (fun v Q => v = .bool (partialInsertionSort (ltFO cf) d a b).2 ∧ Q = [sl (some ⟨g, 0, none⟩) c 40 1 n (dCO (partialInsertionSort (ltFO cf) d a b).1), q] ∧ OkDO ok n (partialInsertionSort (ltFO cf) d a b).1) := by
 obtain ⟨r, hr⟩ : ∃ r, r = partialInsertionSort (ltFO cf) d a b := ⟨_, rfl⟩
 have hr' := hr.symm
 unfold partialInsertionSort at hr'
 rw [← hr]
 refine zP (hE.fn Tryz.func131) rfl rfl rfl (fun R => ?_)
 simp only [qAe, uV, uW]
 refine qL (qJ (uA rfl (qM (qK (qL (qJ (uM rfl (uB (uAa rfl rfl) ?_))))))))
 refine uA rfl (qM (qK (qL (qL (qJ (uA rfl (qM (qK (zL ?_)))))))))
 refine qAj (fun x : Nat × Nat × Array Nat => [(0, .slice (some ⟨g, 0, none⟩) n c), (1, .int .i64 (a : Nat)), (2, .int .i64 (b : Nat)), (7, .int .i64 (x.2.1 : Nat)), (8, .int .i64 (5 - (x.1 : Int)))]) (fun x => [sl (some ⟨g, 0, none⟩) c 40 1 n (dCO x.2.2), q, R]) (fun x => x.1) (fun x => partialIns (ltFO cf) a b x.1 x.2.1 x.2.2 = r ∧ OkDO ok n x.2.2 ∧ x.1 ≤ 5 ∧ a + 1 ≤ x.2.1 ∧ x.2.1 ≤ b) (5, a + 1, d) ?_ ?_ ?_ ?_
 ·exact ⟨hr', hd, Nat.le_refl 5, by show a + 1 ≤ a + 1; omega, by show a + 1 ≤ b; omega⟩
 ·exact ⟨rfl, rfl, rfl, congrArg some (zX (by simp only; omega)), rfl, trivial⟩
 ·exact uI
 rintro ⟨s, i, e⟩ ⟨he, hde, hs5, hi, hib⟩
 simp only at he hde hs5 hi hib ⊢
 have hse := hde.1
 refine qL (qL (qJ (uM rfl (uB (y_lt rfl rfl) ?_))))
 refine qM (qK ?_)
 refine zF rfl (fun h0 => ?_) (fun h0 => ?_)
 ·obtain ⟨s, rfl⟩ : ∃ k, s = k + 1 := ⟨s - 1, by omega⟩
  rw [partialIns_succ] at he
  obtain ⟨i2, hi2⟩ : ∃ i2, scanSorted (ltFO cf) e b i = i2 := ⟨_, rfl⟩
  rw [hi2] at he
  refine zC (qK (qL (zL ?_)))
  refine qDs (fun _ : Unit => [(0, .slice (some ⟨g, 0, none⟩) n c), (1, .int .i64 (a : Nat)), (2, .int .i64 (b : Nat)), (7, .int .i64 ((i2 : Nat) : Int)), (8, .int .i64 (5 - ((s + 1 : Nat) : Int)))]) (fun _ => [sl (some ⟨g, 0, none⟩) c 40 1 n (dCO e), q, R]) (fun _ => i ≤ i2 ∧ i2 ≤ b) ?_ ?_
  ·refine zL ?_
   refine qAj (fun x : Nat => [(0, .slice (some ⟨g, 0, none⟩) n c), (1, .int .i64 (a : Nat)), (2, .int .i64 (b : Nat)), (7, .int .i64 ((x : Nat) : Int)), (8, .int .i64 (5 - ((s + 1 : Nat) : Int)))]) (fun _ => [sl (some ⟨g, 0, none⟩) c 40 1 n (dCO e), q, R]) (fun x => b - x) (fun x => scanSorted (ltFO cf) e b x = i2 ∧ i ≤ x ∧ x ≤ b) i ?_ ?_ ?_ ?_
   ·exact ⟨hi2, Nat.le_refl _, hib⟩
   ·exact ⟨rfl, rfl, rfl, rfl, rfl, trivial⟩
   ·exact uI
   rintro x ⟨hx, hx1, hx2⟩
   refine qL (qL (qAw (by kernel_rfl) ?_))
   refine uM rfl (uM rfl (uB (y_lt rfl rfl) ?_))
   refine uM rfl ?_
   refine qAl 20 rfl (fun g1 => ?_) (fun g1 => ?_)
   ·have f0 := qAh e (i := x) (by omega) ((x : Int)).toNat (by omega)
    have f1 := qAh e (i := x - 1) (by omega) ((x : Int) - 1).toNat (by omega)
    have hcc := hc _ _ (hde.2 x (by omega)) (hde.2 (x - 1) (by omega))
    refine kQ rfl rfl (uM rfl (kQ rfl rfl (uM rfl (kQ rfl rfl (uB (uAj rfl rfl) ?_)))))
    refine kQ rfl rfl (uL ?_)
    refine kQ rfl rfl (uM rfl (kQ rfl rfl (uM rfl (kQ rfl rfl (uB (uAs rfl rfl) ?_)))))
    refine kQ rfl rfl (uB (uAj rfl rfl) ?_)
    refine kQ rfl rfl (uL ?_)
    refine kQ rfl rfl (uX (hcc) rfl ?_)
    rintro _ _ ⟨rfl, rfl⟩
    simp only [uV, uW]
    refine kQ rfl rfl (uB (qBm rfl) ?_)
    refine uB (qY rfl rfl) ?_
    refine qM (qK ?_)
    refine qBe rfl (fun g2 => ?_) (fun g2 => ?_)
    ·refine zC (qK (zL (qJ ?_)))
     refine uM rfl (uB (uAa rfl rfl) ?_)
     refine uA rfl (qM (zJ ?_))
     refine zT (x + 1) ⟨?_, by omega, by omega⟩ (by omega) ⟨rfl, rfl, rfl, congrArg some (zX (by omega)), rfl, trivial⟩ uI
     rw [← hx]
     conv => rhs; rw [scanSorted, if_pos (by simp [ltFO, g2]; omega)]
    rw [scanSorted, if_neg (by simp [ltFO, g2])] at hx
    rw [← hx]
    refine kJ (qQ (qQ (zI ?_)))
    refine qBd () (by omega) ⟨rfl, rfl, rfl, rfl, rfl, trivial⟩ uI
   rw [scanSorted, if_neg (by simp; omega)] at hx
   rw [← hx]
   refine zU rfl rfl rfl rfl (zU rfl rfl rfl rfl (zU rfl rfl rfl rfl (zU rfl rfl rfl rfl (zU rfl rfl rfl rfl (zU rfl rfl rfl rfl (zU rfl rfl rfl rfl (zU rfl rfl rfl rfl ?_)))))))
   refine zU rfl rfl rfl rfl (zU rfl rfl rfl rfl (zU rfl rfl rfl rfl ?_))
   refine uB (qZ rfl rfl) ?_
   refine qM (qK (zD rfl (kJ (qQ (qQ (zI ?_))))))
   refine qBd () (by omega) ⟨rfl, rfl, rfl, rfl, rfl, trivial⟩ uI
  rintro _ ⟨k1, k2⟩
  refine qL (qL (qJ (uM rfl (uM rfl (uB (y_eq rfl rfl) ?_)))))
  refine qM (qK ?_)
  refine zF rfl (fun h1 => ?_) (fun h1 => ?_)
  ·rw [if_pos (by omega)] at he
   subst he
   refine qL (qJ (uA rfl (qM (qK (kC (qX (zO (qX (qX (zO (qX ?_)))))))))))
   exact uZ rfl (.tmp rfl .nil) ⟨rfl, rfl, hde⟩
  rw [if_neg (by omega)] at he
  refine zC (qK (qL (qL (qJ (uM rfl (uM rfl (uB (uAs rfl rfl) ?_)))))))
  refine uB (y_lt rfl rfl) ?_
  refine qM (qK ?_)
  refine zF rfl (fun h2 => ?_) (fun h2 => ?_)
  ·rw [if_pos (by omega)] at he
   subst he
   refine qL (qJ (uA rfl (qM (qK (kC (qX (zO (qX (qX (zO (qX ?_)))))))))))
   exact uZ rfl (.tmp rfl .nil) ⟨rfl, rfl, hde⟩
  rw [if_neg (by omega)] at he
  have f2 := qAh e (i := i2) (by omega) ((i2 : Int)).toNat (by omega)
  have f3 := qAh e (i := i2 - 1) (by omega) ((i2 : Int) - 1).toNat (by omega)
  refine zC (qK (qL ?_))
  refine qAo 15 ([sl (some ⟨g, 0, none⟩) c 40 1 n (dCO e), q]) [(17, [])] ?_ ?_
  ·exact uI
  refine uP 0 rfl (qC rfl) ?_
  refine uP 1 rfl (qC rfl) ?_
  refine uP 2 rfl (qC rfl) ?_
  refine uP 3 rfl (qC rfl) ?_
  refine uP 4 rfl (uAs rfl rfl) ?_
  refine uP 5 rfl (qC rfl) ?_
  refine uP 6 rfl (qC rfl) ?_
  refine uP 7 rfl (uAs rfl rfl) ?_
  refine uP 8 rfl (uAj rfl rfl) ?_
  refine uQ 9 rfl (uY) ?_
  refine uP 10 rfl (qC rfl) ?_
  refine uP 11 rfl (qC rfl) ?_
  refine uP 12 rfl (uAj rfl rfl) ?_
  refine uQ 13 rfl (uY) ?_
  refine uP 14 rfl (uAj rfl rfl) ?_
  apply qBo rfl (by kernel_rfl) rfl
  refine uJ ?_
  refine uE ?_
  refine uP 16 rfl (uAj rfl rfl) ?_
  apply qBn rfl (by kernel_rfl) (by kernel_rfl) rfl
  refine uJ ?_
  refine qK ?_
  simp only [zQ]
  rw [qCn e (i := i2) (j := (i2 - 1)) (by omega) (by omega)]
  case ho => omega
  case ho' => omega
  have hd1 := hde.swp (show i2 < n by omega) (show i2 - 1 < n by omega)
  generalize swp e i2 (i2 - 1) = e1 at *
  obtain ⟨e2, he2⟩ : ∃ e2, fixDown (ltFO cf) a i2 e1 = e2 := ⟨_, rfl⟩
  rw [he2] at he
  unfold fixDown at he2
  refine qDs (fun _ : Unit => [(0, .slice (some ⟨g, 0, none⟩) n c), (1, .int .i64 (a : Nat)), (2, .int .i64 (b : Nat)), (7, .int .i64 ((i2 : Nat) : Int)), (8, .int .i64 (5 - ((s + 1 : Nat) : Int)))]) (fun _ => [sl (some ⟨g, 0, none⟩) c 40 1 n (dCO e2), q, R]) (fun _ => OkDO ok n e2) ?_ ?_
  ·refine qL (qJ ?_)
   refine uM rfl (uM rfl (uB (uAs rfl rfl) ?_))
   refine uB (y_ge rfl rfl) ?_
   refine qM (qK ?_)
   refine zF rfl (fun h3 => ?_) (fun h3 => ?_)
   ·rw [if_pos (by omega)] at he2
    refine qL (qJ (uM rfl (uB (uAs rfl rfl) ?_)))
    refine uA rfl (qM (qK (zL ?_)))
    refine qAj (fun x : Nat × Array Nat => [(0, .slice (some ⟨g, 0, none⟩) n c), (1, .int .i64 (a : Nat)), (2, .int .i64 (b : Nat)), (7, .int .i64 ((i2 : Nat) : Int)), (8, .int .i64 (5 - ((s + 1 : Nat) : Int))), (9, .int .i64 ((x.1 : Nat) : Int))]) (fun x => [sl (some ⟨g, 0, none⟩) c 40 1 n (dCO x.2), q, R]) (fun x => x.1) (fun x => shiftDown (ltFO cf) x.1 x.2 = e2 ∧ OkDO ok n x.2 ∧ x.1 < n) (i2 - 1, e1) ?_ ?_ ?_ ?_
    ·exact ⟨he2, hd1, by show i2 - 1 < n; omega⟩
    ·exact ⟨rfl, rfl, rfl, rfl, rfl, congrArg some (zX (by simp only; omega)), trivial⟩
    ·exact uI
    rintro ⟨j, u⟩ ⟨hu, hdu, hj⟩
    simp only at hu hdu hj ⊢
    have hsu := hdu.1
    refine qL (qL (qJ (uM rfl (uB (y_ge rfl rfl) ?_))))
    refine qM (qK ?_)
    refine zF rfl (fun g3 => ?_) (fun g3 => ?_)
    ·obtain ⟨j, rfl⟩ : ∃ k, j = k + 1 := ⟨j - 1, by omega⟩
     have f4 := qAh u (i := j + 1) (by omega) (((j + 1 : Nat) : Int)).toNat (by omega)
     have f5 := qAh u (i := j) (by omega) (((j + 1 : Nat) : Int) - 1).toNat (by omega)
     have hcc := hc _ _ (hdu.2 (j + 1) (by omega)) (hdu.2 j (by omega))
     rw [shiftDown] at hu
     refine zC (qK (qL (zL (qL (qL (qAw (by kernel_rfl) ?_))))))
     refine uM rfl (uM rfl (uB (uAj rfl rfl) ?_))
     refine uL ?_
     refine uM rfl (uM rfl (uB (uAs rfl rfl) ?_))
     refine uB (uAj rfl rfl) ?_
     refine uL ?_
     refine uX (hcc) rfl ?_
     rintro _ _ ⟨rfl, rfl⟩
     simp only [uV, uW]
     refine uB (qBm rfl) ?_
     refine qM (qK ?_)
     refine qBe rfl (fun g4 => ?_) (fun g4 => ?_)
     ·rw [if_pos (by simp [ltFO, g4])] at hu
      subst hu
      refine kJ (qQ (qBx rfl (qQ (qQ (zI ?_)))))
      refine qBd () hdu ⟨rfl, rfl, rfl, rfl, rfl, trivial⟩ uI
     rw [if_neg (by simp [ltFO, g4])] at hu
     refine zC (qK ?_)
     refine qAo 15 ([sl (some ⟨g, 0, none⟩) c 40 1 n (dCO u), q]) [(17, [])] ?_ ?_
     ·exact uI
     refine uP 0 rfl (qC rfl) ?_
     refine uP 1 rfl (qC rfl) ?_
     refine uP 2 rfl (qC rfl) ?_
     refine uP 3 rfl (qC rfl) ?_
     refine uP 4 rfl (uAs rfl rfl) ?_
     refine uP 5 rfl (qC rfl) ?_
     refine uP 6 rfl (qC rfl) ?_
     refine uP 7 rfl (uAs rfl rfl) ?_
     refine uP 8 rfl (uAj rfl rfl) ?_
     refine uQ 9 rfl (uY) ?_
     refine uP 10 rfl (qC rfl) ?_
     refine uP 11 rfl (qC rfl) ?_
     refine uP 12 rfl (uAj rfl rfl) ?_
     refine uQ 13 rfl (uY) ?_
     refine uP 14 rfl (uAj rfl rfl) ?_
     apply qBo rfl (by kernel_rfl) rfl
     refine uJ ?_
     refine uE ?_
     refine uP 16 rfl (uAj rfl rfl) ?_
     apply qBn rfl (by kernel_rfl) (by kernel_rfl) rfl
     refine uJ ?_
     refine zJ (qK (qJ (uM rfl (uB (uAs rfl rfl) ?_))))
     refine uA rfl (qM ?_)
     simp only [zQ]
     rw [qCn u (i := (j + 1)) (j := j) (by omega) (by omega)]
     case ho => omega
     case ho' => omega
     refine zT (ι := Nat × Array Nat) (j := (j, swp u (j + 1) j)) ⟨hu, hdu.swp (by omega) (by omega), by show j < n; omega⟩ (by show j < j + 1; omega) ⟨rfl, rfl, rfl, rfl, rfl, congrArg some (zX (by simp only; omega)), trivial⟩ uI
    obtain rfl : j = 0 := by omega
    rw [shiftDown] at hu
    subst hu
    refine kJ (qQ (qQ (zI ?_)))
    refine qBd () hdu ⟨rfl, rfl, rfl, rfl, rfl, trivial⟩ uI
   rw [if_neg (by omega)] at he2
   subst he2
   refine zC ?_
   refine qBd () hd1 ⟨rfl, rfl, rfl, rfl, rfl, trivial⟩ uI
  intro _ hd2
  obtain ⟨e3, he3⟩ : ∃ e3, fixUp (ltFO cf) b i2 e2 = e3 := ⟨_, rfl⟩
  rw [he3] at he
  unfold fixUp at he3
  refine qL (qJ (uM rfl (uM rfl (uB (uAs rfl rfl) ?_))))
  refine uB (y_ge rfl rfl) ?_
  refine qM (qK ?_)
  refine zF rfl (fun h4 => ?_) (fun h4 => ?_)
  ·rw [if_pos (by omega)] at he3
   refine qL (qJ (uM rfl (uB (uAa rfl rfl) ?_)))
   refine uA rfl (qM (qK (zL ?_)))
   refine qAj (fun x : Nat × Array Nat => [(0, .slice (some ⟨g, 0, none⟩) n c), (1, .int .i64 (a : Nat)), (2, .int .i64 (b : Nat)), (7, .int .i64 ((i2 : Nat) : Int)), (8, .int .i64 (5 - ((s + 1 : Nat) : Int))), (10, .int .i64 ((x.1 : Nat) : Int))]) (fun x => [sl (some ⟨g, 0, none⟩) c 40 1 n (dCO x.2), q, R]) (fun x => b - x.1) (fun x => shiftUp (ltFO cf) b x.1 x.2 = e3 ∧ OkDO ok n x.2 ∧ 1 ≤ x.1 ∧ x.1 ≤ b) (i2 + 1, e2) ?_ ?_ ?_ ?_
   ·exact ⟨he3, hd2, by show 1 ≤ i2 + 1; omega, by show i2 + 1 ≤ b; omega⟩
   ·exact ⟨rfl, rfl, rfl, rfl, rfl, congrArg some (zX (by simp only; omega)), trivial⟩
   ·exact uI
   rintro ⟨j, u⟩ ⟨hu, hdu, hj1, hj⟩
   simp only at hu hdu hj1 hj ⊢
   have hsu := hdu.1
   refine qL (qL (qJ (uM rfl (uM rfl (uB (y_lt rfl rfl) ?_)))))
   refine qM (qK ?_)
   rw [shiftUp] at hu
   refine zF rfl (fun g5 => ?_) (fun g5 => ?_)
   ·rw [if_pos (show j < b by omega)] at hu
    have f6 := qAh u (i := j) (by omega) ((j : Int)).toNat (by omega)
    have f7 := qAh u (i := j - 1) (by omega) ((j : Int) - 1).toNat (by omega)
    have hcc := hc _ _ (hdu.2 j (by omega)) (hdu.2 (j - 1) (by omega))
    refine zC (qK (qL (zL (qL (qL (qAw (by kernel_rfl) ?_))))))
    refine uM rfl (uM rfl (uB (uAj rfl rfl) ?_))
    refine uL ?_
    refine uM rfl (uM rfl (uB (uAs rfl rfl) ?_))
    refine uB (uAj rfl rfl) ?_
    refine uL ?_
    refine uX (hcc) rfl ?_
    rintro _ _ ⟨rfl, rfl⟩
    simp only [uV, uW]
    refine uB (qBm rfl) ?_
    refine qM (qK ?_)
    refine qBe rfl (fun g6 => ?_) (fun g6 => ?_)
    ·rw [if_pos (by simp [ltFO, g6])] at hu
     subst hu
     refine kJ (qQ (qBx rfl (qQ (qQ (zI (zJ (qK ?_)))))))
     refine qJ (uM rfl (uB (uAa rfl rfl) ?_))
     refine uA rfl (qM ?_)
     refine zT (ι := Nat × Nat × Array Nat) (j := (s, i2, u)) ⟨he, hdu, by show s ≤ 5; omega, by show a + 1 ≤ i2; omega, by show i2 ≤ b; omega⟩ (by show s < s + 1; omega) ⟨rfl, rfl, rfl, rfl, congrArg some (zX (by simp only; omega)), trivial⟩ uI
    rw [if_neg (by simp [ltFO, g6])] at hu
    refine zC (qK ?_)
    refine qAo 15 ([sl (some ⟨g, 0, none⟩) c 40 1 n (dCO u), q]) [(17, [])] ?_ ?_
    ·exact uI
    refine uP 0 rfl (qC rfl) ?_
    refine uP 1 rfl (qC rfl) ?_
    refine uP 2 rfl (qC rfl) ?_
    refine uP 3 rfl (qC rfl) ?_
    refine uP 4 rfl (uAs rfl rfl) ?_
    refine uP 5 rfl (qC rfl) ?_
    refine uP 6 rfl (qC rfl) ?_
    refine uP 7 rfl (uAs rfl rfl) ?_
    refine uP 8 rfl (uAj rfl rfl) ?_
    refine uQ 9 rfl (uY) ?_
    refine uP 10 rfl (qC rfl) ?_
    refine uP 11 rfl (qC rfl) ?_
    refine uP 12 rfl (uAj rfl rfl) ?_
    refine uQ 13 rfl (uY) ?_
    refine uP 14 rfl (uAj rfl rfl) ?_
    apply qBo rfl (by kernel_rfl) rfl
    refine uJ ?_
    refine uE ?_
    refine uP 16 rfl (uAj rfl rfl) ?_
    apply qBn rfl (by kernel_rfl) (by kernel_rfl) rfl
    refine uJ ?_
    refine zJ (qK (qJ (uM rfl (uB (uAa rfl rfl) ?_))))
    refine uA rfl (qM ?_)
    simp only [zQ]
    rw [qCn u (i := j) (j := (j - 1)) (by omega) (by omega)]
    case ho => omega
    case ho' => omega
    refine zT (ι := Nat × Array Nat) (j := (j + 1, swp u j (j - 1))) ⟨hu, hdu.swp (by omega) (by omega), by show 1 ≤ j + 1; omega, by show j + 1 ≤ b; omega⟩ (by show b - (j + 1) < b - j; omega) ⟨rfl, rfl, rfl, rfl, rfl, congrArg some (zX (by simp only; omega)), trivial⟩ uI
   rw [if_neg (show ¬ j < b by omega)] at hu
   subst hu
   refine kJ (qQ (qQ (zI (zJ (qK (qJ (uM rfl (uB (uAa rfl rfl) ?_))))))))
   refine uA rfl (qM ?_)
   refine zT (ι := Nat × Nat × Array Nat) (j := (s, i2, u)) ⟨he, hdu, by show s ≤ 5; omega, by show a + 1 ≤ i2; omega, by show i2 ≤ b; omega⟩ (by show s < s + 1; omega) ⟨rfl, rfl, rfl, rfl, congrArg some (zX (by simp only; omega)), trivial⟩ uI
  rw [if_neg (by omega)] at he3
  subst he3
  refine zC (zJ (qK (qJ (uM rfl (uB (uAa rfl rfl) ?_)))))
  refine uA rfl (qM ?_)
  refine zT (ι := Nat × Nat × Array Nat) (j := (s, i2, e2)) ⟨he, hd2, by show s ≤ 5; omega, by show a + 1 ≤ i2; omega, by show i2 ≤ b; omega⟩ (by show s < s + 1; omega) ⟨rfl, rfl, rfl, rfl, congrArg some (zX (by simp only; omega)), trivial⟩ uI
 obtain rfl : s = 0 := by omega
 rw [partialIns] at he
 subst he
 refine kJ (qQ (qQ (zI (qK (qL (qJ (uA rfl (qM (qK (kC ?_))))))))))
 exact uZ rfl (.tmp rfl .nil) ⟨rfl, rfl, hde⟩
end
end Go.Proofs.YtddfnkijolfhbaaGreat
namespace Go.Sort
def pdqCO (lt : Nat → Nat → Bool) (d3 : Array Nat) (a b limit : Nat) (wB wP : Bool) (pivot : Nat) : Array Nat :=
 if a > 0 && !lt d3[a - 1]! d3[pivot]! then
  match partitionEqual lt d3 a b pivot with
  | (mid, d4) => if _h : a < mid ∧ mid ≤ b then pdq lt d4 mid b limit wB wP else d4
 else
  match partition lt d3 a b pivot with
  | (mid, alreadyPartitioned, d4) =>
   if _h : a ≤ mid ∧ mid < b then
    if mid - a < b - mid then
     pdq lt (pdq lt d4 a mid limit true true) (mid + 1) b limit (decide (mid - a ≥ (b - a) / 8)) alreadyPartitioned
    else
     pdq lt (pdq lt d4 (mid + 1) b limit true true) a mid limit (decide (b - mid ≥ (b - a) / 8)) alreadyPartitioned
   else d4
def pdqBO (lt : Nat → Nat → Bool) (d2 : Array Nat) (a b limit : Nat) (wB wP : Bool) (pivot : Nat) (hint : Hint) : Array Nat :=
 let pi := if wB && wP && hint = .increasing then partialInsertionSort lt d2 a b else (d2, false)
 if pi.2 then pi.1 else pdqCO lt pi.1 a b limit wB wP pivot
def pdqAO (lt : Nat → Nat → Bool) (d1 : Array Nat) (a b limit : Nat) (wB wP : Bool) : Array Nat :=
 let c := choosePivot lt d1 a b
 pdqBO lt (if c.2 = .decreasing then reverseRange d1 a b else d1) a b limit wB wP (if c.2 = .decreasing then (b - 1) - (c.1 - a) else c.1) (if c.2 = .decreasing then Hint.increasing else c.2)
theorem qXy {lt : Nat → Nat → Bool} {d : Array Nat} {a b limit : Nat} {wB wP : Bool} (h : ¬ b - a ≤ 12) (h0 : ¬ limit = 0) : pdq lt d a b limit wB wP = pdqAO lt (if !wB then breakPatterns d a b else d) a b (if !wB then limit - 1 else limit) wB wP := by
 rw [pdq, if_neg h, if_neg h0]
 rfl
end Go.Sort
namespace Go.Proofs.YtddfnkijolfhbaaGreat
open Go Go.RowKit Sl Eg
set_option maxRecDepth 10000
section
variable {E : Env}
variable {q : HP} {ok : Nat → Prop} {cf : Nat → Nat → Int} {g c n : Nat}
theorem qXn {h : Go.Sort.Hint} (e : qOn h = 2) : h = .decreasing := by cases h <;> simp [qOn] at e ⊢
theorem qXp {h : Go.Sort.Hint} (e : qOn h = 1) : h = .increasing := by cases h <;> simp [qOn] at e ⊢
open Go.Sort in
theorem ct_pdqO (hE : Seat E) (hc : CmpO E q ok cf) (hO : SWO (ltFO cf)) (hn : n < 65536) : ∀ (k : Nat) {d : Array Nat} (hd : OkDO ok n d) {a b limit : Nat} (hk : b - a ≤ k) (hab : a ≤ b) (hb : b ≤ n) (hlim : limit ≤ 1000),
  Ct E 91 [.slice (some ⟨g, 0, none⟩) n c, .int .i64 (a : Nat), .int .i64 (b : Nat), .int .i64 (limit : Nat)] [sl (some ⟨g, 0, none⟩) c 40 1 n (dCO d), q]
   (fun v Q => v = .tuple #[] ∧ Q = [sl (some ⟨g, 0, none⟩) c 40 1 n (dCO (pdq (ltFO cf) d a b limit true true)), q] ∧ OkDO ok n (pdq (ltFO cf) d a b limit true true)) := by
 intro k
 induction k using Nat.strongRecOn with
 | _ k ih =>
 intro d hd a b limit hk hab hb hlim
 obtain ⟨r, hr⟩ : ∃ r, r = pdq (ltFO cf) d a b limit true true := ⟨_, rfl⟩
 rw [← hr]
 refine zP (hE.fn Tryz.func91) rfl rfl rfl (fun R => ?_)
 simp only [qAe, uV, uW]
 refine qL (qJ (uA rfl (qM (qK (qL (qJ (uA rfl (qM (qK (zL ?_))))))))))
 refine qAj (fun x : (Nat × Nat × Nat) × Bool × Bool × Array Nat => [(0, .slice (some ⟨g, 0, none⟩) n c), (1, .int .i64 (x.1.1 : Nat)), (2, .int .i64 (x.1.2.1 : Nat)), (3, .int .i64 (x.1.2.2 : Nat)), (8, .bool x.2.1), (9, .bool x.2.2.1)]) (fun x => [sl (some ⟨g, 0, none⟩) c 40 1 n (dCO x.2.2.2), q, R]) (fun x => x.1.2.1 - x.1.1) (fun x => pdq (ltFO cf) x.2.2.2 x.1.1 x.1.2.1 x.1.2.2 x.2.1 x.2.2.1 = r ∧ OkDO ok n x.2.2.2 ∧ x.1.1 ≤ x.1.2.1 ∧ x.1.2.1 ≤ n ∧ x.1.2.2 ≤ 1000 ∧ x.1.2.1 - x.1.1 ≤ k) ((a, b, limit), true, true, d) ?_ ?_ ?_ ?_
 ·exact ⟨hr.symm, hd, hab, hb, hlim, hk⟩
 ·exact ⟨rfl, rfl, rfl, rfl, rfl, rfl, trivial⟩
 ·exact uI
 clear hr hd hk hab hb hlim a b limit d
 rintro ⟨⟨a, b, limit⟩, wB, wP, d⟩ ⟨he, hd, hab, hb, hlim, hk⟩
 simp only at he hd hab hb hlim hk ⊢
 have hs := hd.1
 refine zL (qL (qJ (uM rfl (uM rfl (uB (uAs rfl rfl) ?_)))))
 refine uA rfl (qM (qK ?_))
 obtain ⟨l, hl⟩ : ∃ l, l = b - a := ⟨_, rfl⟩
 refine w_eq 10 (.int .i64 ((l : Nat) : Int)) rfl (zX (by omega)) ?_
 refine qL (qL (qJ (uM rfl (uB (y_le rfl rfl) ?_))))
 refine qM (qK ?_)
 refine zF rfl (fun h1 => ?_) (fun h1 => ?_)
 ·rw [pdq, if_pos (by omega)] at he
  refine qL (qJ (uM rfl (uM rfl (uM rfl (uX (qJr hE hc hd hab hb (by omega)) rfl ?_)))))
  rintro _ _ ⟨rfl, rfl, hd2⟩
  simp only [uV, uW]
  rw [he] at hd2 ⊢
  refine qM (qK (kC (qX (zO (qX (zO ?_))))))
  exact uZ rfl .nil ⟨rfl, rfl, hd2⟩
 refine zC (qK (qL (qL (qJ ?_))))
 refine uM rfl (uB (y_eq rfl rfl) ?_)
 refine qM (qK ?_)
 refine zF rfl (fun h2 => ?_) (fun h2 => ?_)
 ·rw [pdq, if_neg (by omega), if_pos (by omega)] at he
  refine qL (qJ (uM rfl (uM rfl (uM rfl (uX (qRw hE hc hd (by omega) hb (by omega)) rfl ?_)))))
  rintro _ _ ⟨rfl, rfl, hd2⟩
  simp only [uV, uW]
  rw [he] at hd2 ⊢
  refine qM (qK (kC (qX (zO (qX (zO ?_))))))
  exact uZ rfl .nil ⟨rfl, rfl, hd2⟩
 rw [qXy (by omega) (by omega)] at he
 obtain ⟨d1, hd1⟩ : ∃ d1, (if !wB then breakPatterns d a b else d) = d1 := ⟨_, rfl⟩
 obtain ⟨li, hli⟩ : ∃ li, (if !wB then limit - 1 else limit) = li := ⟨_, rfl⟩
 rw [hd1, hli] at he
 refine zC (qK ?_)
 refine qDs (fun _ : Unit => [(0, .slice (some ⟨g, 0, none⟩) n c), (1, .int .i64 (a : Nat)), (2, .int .i64 (b : Nat)), (8, .bool wB), (9, .bool wP), (10, .int .i64 ((l : Nat) : Int)), (3, .int .i64 ((li : Nat) : Int))]) (fun _ => [sl (some ⟨g, 0, none⟩) c 40 1 n (dCO d1), q, R]) (fun _ => OkDO ok n d1 ∧ li ≤ 1000) ?_ ?_
 ·refine qL (qJ ?_)
  refine uM rfl (uB (qBm rfl) ?_)
  refine qM (qK ?_)
  refine qLp rfl (fun h3 => ?_) (fun h3 => ?_)
  ·rw [if_pos h3] at hd1 hli
   refine qL (qJ (uM rfl (uM rfl (uM rfl (uX (qJo hE hd (by omega) hb hn) rfl ?_)))))
   rintro _ _ ⟨rfl, rfl, hd2⟩
   simp only [uV, uW]
   rw [hd1] at hd2 ⊢
   refine qM (qK (qJ (uM rfl (uB (uAs rfl rfl) ?_))))
   refine uA rfl (qM ?_)
   refine qBd () ⟨hd2, by omega⟩ ⟨rfl, rfl, rfl, rfl, rfl, rfl, congrArg some (zX (by omega)), trivial⟩ uI
  rw [if_neg (by rw [h3]; simp)] at hd1 hli
  subst hd1 hli
  refine zC ?_
  refine qBd () ⟨hd, by omega⟩ ⟨rfl, rfl, rfl, rfl, rfl, rfl, rfl, trivial⟩ uI
 rintro _ ⟨hdd, hli2⟩
 unfold pdqAO at he
 obtain ⟨cp, hcp⟩ : ∃ cp, choosePivot (ltFO cf) d1 a b = cp := ⟨_, rfl⟩
 have hcr := choosePivot_holds (ltFO cf) d1 a b (by omega)
 rw [hcp] at hcr he
 simp only at he
 refine qL (qJ (uM rfl (uM rfl (uM rfl (uX (qLx hE hc hdd (by omega) hb (by omega)) rfl ?_)))))
 rintro _ _ ⟨rfl, rfl⟩
 simp only [uV, uW]
 rw [hcp]
 obtain ⟨d2, hd2⟩ : ∃ d2, (if cp.2 = Hint.decreasing then reverseRange d1 a b else d1) = d2 := ⟨_, rfl⟩
 obtain ⟨pv, hpv⟩ : ∃ pv, (if cp.2 = Hint.decreasing then (b - 1) - (cp.1 - a) else cp.1) = pv := ⟨_, rfl⟩
 obtain ⟨hi, hhi⟩ : ∃ hi, (if cp.2 = Hint.decreasing then Hint.increasing else cp.2) = hi := ⟨_, rfl⟩
 rw [hd2, hpv, hhi] at he
 refine uM rfl (uB (qV rfl rfl) (uB (qV rfl rfl) (uA rfl (uA rfl (qM (qK ?_))))))
 refine qDs (fun _ : Unit => [(0, .slice (some ⟨g, 0, none⟩) n c), (1, .int .i64 (a : Nat)), (2, .int .i64 (b : Nat)), (8, .bool wB), (9, .bool wP), (10, .int .i64 ((l : Nat) : Int)), (3, .int .i64 ((li : Nat) : Int)), (11, .int .i64 ((pv : Nat) : Int)), (12, .int .i64 ((qOn hi : Nat) : Int))]) (fun _ => [sl (some ⟨g, 0, none⟩) c 40 1 n (dCO d2), q, R]) (fun _ => OkDO ok n d2 ∧ a ≤ pv ∧ pv < b) ?_ ?_
 ·refine qL (qJ ?_)
  refine uM rfl (uB (y_eq rfl rfl) ?_)
  refine qM (qK ?_)
  refine zF rfl (fun h4 => ?_) (fun h4 => ?_)
  ·have hde : cp.2 = .decreasing := qXn (by omega)
   rw [if_pos hde] at hd2 hpv hhi
   refine qL (qJ (uM rfl (uM rfl (uM rfl (uX (qLc hE hdd (by omega) hb (by omega)) rfl ?_)))))
   rintro _ _ ⟨rfl, rfl, hdr⟩
   simp only [uV, uW]
   rw [hd2] at hdr ⊢
   refine qM (qK (qL (qJ (uM rfl (uB (uAs rfl rfl) ?_)))))
   refine uM rfl (uM rfl (uB (uAs rfl rfl) ?_))
   refine uB (uAs rfl rfl) ?_
   refine uA rfl (qM (qK (qJ (uA rfl (qM ?_)))))
   refine qBd () ⟨hdr, by omega, by omega⟩ ⟨rfl, rfl, rfl, rfl, rfl, rfl, rfl, congrArg some (zX (by omega)), by subst hhi; rfl, trivial⟩ uI
  have hde : ¬ cp.2 = .decreasing := fun e => h4 (by rw [e]; rfl)
  rw [if_neg hde] at hd2 hpv hhi
  subst hd2 hpv hhi
  refine zC ?_
  refine qBd () ⟨hdd, hcr.1, hcr.2⟩ ⟨rfl, rfl, rfl, rfl, rfl, rfl, rfl, rfl, rfl, trivial⟩ uI
 rintro _ ⟨hdd2, hpv1, hpv2⟩
 unfold pdqBO at he
 obtain ⟨pi, hpi⟩ : ∃ pi, (if wB && wP && decide (hi = Hint.increasing) then partialInsertionSort (ltFO cf) d2 a b else (d2, false)) = pi := ⟨_, rfl⟩
 rw [hpi] at he
 refine qDs (fun _ : Unit => [(0, .slice (some ⟨g, 0, none⟩) n c), (1, .int .i64 (a : Nat)), (2, .int .i64 (b : Nat)), (8, .bool wB), (9, .bool wP), (10, .int .i64 ((l : Nat) : Int)), (3, .int .i64 ((li : Nat) : Int)), (11, .int .i64 ((pv : Nat) : Int))]) (fun _ => [sl (some ⟨g, 0, none⟩) c 40 1 n (dCO pi.1), q, R]) (fun _ => OkDO ok n pi.1 ∧ pi.2 = false) ?_ ?_
 ·refine qL (qJ ?_)
  refine uM rfl (uM rfl ?_)
  refine qLj 62 rfl (fun h5 => ?_) (fun h5 => ?_)
  ·refine kQ rfl rfl ?_
   refine uM rfl (uB (qY rfl rfl) ?_)
   refine uM rfl ?_
   refine qLj 65 rfl (fun h6 => ?_) (fun h6 => ?_)
   ·refine kQ rfl rfl ?_
    refine uM rfl (kQ rfl rfl (uB (y_eq rfl rfl) ?_))
    refine uB (qY rfl rfl) ?_
    refine qM (qK ?_)
    refine zF rfl (fun h7 => ?_) (fun h7 => ?_)
    ·have hin : hi = .increasing := qXp (by omega)
     rw [if_pos (by rw [h5, h6, hin]; rfl)] at hpi
     refine qL (qJ (uM rfl (uM rfl (uM rfl (uX (qHv hE hc hdd2 (by omega) hb (by omega)) rfl ?_)))))
     rintro _ _ ⟨rfl, rfl, hdp⟩
     simp only [uV, uW]
     rw [hpi] at hdp ⊢
     refine qM (qK ?_)
     refine qLp rfl (fun h8 => ?_) (fun h8 => ?_)
     ·rw [if_pos h8] at he
      subst he
      refine kC (qX (zO (qX (zO ?_))))
      exact uZ rfl .nil ⟨rfl, rfl, hdp⟩
     refine zC ?_
     refine qBd () ⟨hdp, h8⟩ ⟨rfl, rfl, rfl, rfl, rfl, rfl, rfl, rfl, trivial⟩ uI
    rw [if_neg (by intro e; simp at e; rw [e.2] at h7; exact h7 rfl)] at hpi
    subst hpi
    refine zC ?_
    refine qBd () ⟨hdd2, rfl⟩ ⟨rfl, rfl, rfl, rfl, rfl, rfl, rfl, rfl, trivial⟩ uI
   rw [if_neg (by intro e; simp at e; rw [h6] at e; simp at e)] at hpi
   subst hpi
   refine zU rfl rfl rfl rfl (zU rfl rfl rfl rfl ?_)
   refine uB (qZ rfl rfl) ?_
   refine qM (qK (zD rfl (zC ?_)))
   refine qBd () ⟨hdd2, rfl⟩ ⟨rfl, rfl, rfl, rfl, rfl, rfl, rfl, rfl, trivial⟩ uI
  rw [if_neg (by intro e; simp at e; rw [h5] at e; simp at e)] at hpi
  subst hpi
  refine zU rfl rfl rfl rfl ?_
  refine uB (qZ rfl rfl) ?_
  refine uM rfl ?_
  refine zU rfl rfl rfl rfl (zU rfl rfl rfl rfl ?_)
  refine uB (qZ rfl rfl) ?_
  refine qM (qK (zD rfl (zC ?_)))
  refine qBd () ⟨hdd2, rfl⟩ ⟨rfl, rfl, rfl, rfl, rfl, rfl, rfl, rfl, trivial⟩ uI
 rintro _ ⟨hdp, hpf⟩
 rw [if_neg (by rw [hpf]; simp)] at he
 obtain ⟨d3, hd3⟩ : ∃ d3, pi.1 = d3 := ⟨_, rfl⟩
 rw [hd3] at he hdp ⊢
 clear hpi hpf hd3 hd2 hpv hhi hd1 hli
 have hs3 := hdp.1
 unfold pdqCO at he
 refine qDs (fun _ : Unit => [(0, .slice (some ⟨g, 0, none⟩) n c), (1, .int .i64 (a : Nat)), (2, .int .i64 (b : Nat)), (8, .bool wB), (9, .bool wP), (10, .int .i64 ((l : Nat) : Int)), (3, .int .i64 ((li : Nat) : Int)), (11, .int .i64 ((pv : Nat) : Int))]) (fun _ => [sl (some ⟨g, 0, none⟩) c 40 1 n (dCO d3), q, R]) (fun _ => ¬ (decide (a > 0) && !ltFO cf d3[a - 1]! d3[pv]!) = true) ?_ ?_
 ·refine qL (qAw (by kernel_rfl) ?_)
  refine uM rfl (uB (y_gt rfl rfl) ?_)
  refine uM rfl ?_
  refine qAl 75 rfl (fun h9 => ?_) (fun h9 => ?_)
  ·have f0 := qAh d3 (i := a - 1) (by omega) ((a : Int) - 1).toNat (by omega)
   have f1 := qAh d3 (i := pv) (by omega) ((pv : Int)).toNat (by omega)
   have hcc := hc _ _ (hdp.2 (a - 1) (by omega)) (hdp.2 pv (by omega))
   refine kQ rfl rfl (uM rfl (kQ rfl rfl (uM rfl (kQ rfl rfl (uB (uAs rfl rfl) ?_)))))
   refine kQ rfl rfl (uB (uAj rfl rfl) ?_)
   refine kQ rfl rfl (uL ?_)
   refine kQ rfl rfl (uM rfl (kQ rfl rfl (uM rfl (kQ rfl rfl (uB (uAj rfl rfl) ?_)))))
   refine kQ rfl rfl (uL ?_)
   refine kQ rfl rfl (uX (hcc) rfl ?_)
   rintro _ _ ⟨rfl, rfl⟩
   simp only [uV, uW]
   refine kQ rfl rfl (uB (qBm rfl) ?_)
   refine uB (qY rfl rfl) ?_
   refine qM (qK ?_)
   refine qBe rfl (fun g9 => ?_) (fun g9 => ?_)
   ·rw [if_pos (by simp [ltFO, g9]; omega)] at he
    have hsz := Go.Sort.size_swp d3 a pv
    have hrg := partEqLoop_spec (ltFO cf) a b _ (a + 1) (b - 1) (swp d3 a pv) (Nat.le_refl _) (by omega) (by omega) (by omega) (by omega) (fun t h1 h2 => by omega) (fun t h1 h2 => by omega)
    obtain ⟨pq, hpq⟩ : ∃ pq, partitionEqual (ltFO cf) d3 a b pv = pq := ⟨_, rfl⟩
    have hrg1 : a < pq.1 ∧ pq.1 ≤ b := by rw [← hpq]; exact ⟨hrg.1, hrg.2.1⟩
    rw [hpq] at he
    obtain ⟨md, dq⟩ := pq
    simp only at he hrg1
    rw [dif_pos hrg1] at he
    refine qL (qJ (uM rfl (uM rfl (uM rfl (uM rfl (uX (qIs hE hc hdp hpv1 hpv2 hb (by omega)) rfl ?_))))))
    rintro _ _ ⟨rfl, rfl, hdq⟩
    simp only [uV, uW]
    rw [hpq] at hdq ⊢
    refine uA rfl (qM (qK (qL (qJ (uM rfl (uA rfl (qM (qK (kJ (qQ (zI ?_)))))))))))
    refine zT (ι := (Nat × Nat × Nat) × Bool × Bool × Array Nat) (j := ((md, b, li), wB, wP, dq)) ⟨he, hdq, hrg1.2, hb, hli2, by show b - md ≤ k; omega⟩ (by show b - md < b - a; omega) ⟨rfl, rfl, rfl, rfl, rfl, rfl, trivial⟩ uI
   refine zC ?_
   refine qBd () (by simp [ltFO, g9]) ⟨rfl, rfl, rfl, rfl, rfl, rfl, rfl, rfl, trivial⟩ uI
  refine zU rfl rfl rfl rfl (zU rfl rfl rfl rfl (zU rfl rfl rfl rfl (zU rfl rfl rfl rfl (zU rfl rfl rfl rfl (zU rfl rfl rfl rfl (zU rfl rfl rfl rfl (zU rfl rfl rfl rfl ?_)))))))
  refine zU rfl rfl rfl rfl (zU rfl rfl rfl rfl (zU rfl rfl rfl rfl ?_))
  refine uB (qZ rfl rfl) ?_
  refine qM (qK (zD rfl (zC ?_)))
  refine qBd () (by simp; omega) ⟨rfl, rfl, rfl, rfl, rfl, rfl, rfl, rfl, trivial⟩ uI
 intro _ hno
 rw [if_neg hno] at he
 obtain ⟨pt, hpt⟩ : ∃ pt, partition (ltFO cf) d3 a b pv = pt := ⟨_, rfl⟩
 have hrg := partition_holds (ltFO cf) hO d3 a b pv hpv1 hpv2 (by omega)
 rw [hpt] at he hrg
 have hr1 := hrg.1
 have hr2 := hrg.2.1
 clear hrg hno
 obtain ⟨mid, al, d4⟩ := pt
 simp only at he hr1 hr2
 rw [dif_pos ⟨hr1, hr2⟩] at he
 refine qL (qJ (uM rfl (uM rfl (uM rfl (uM rfl (uX (qPr hE hc hdp hpv1 hpv2 hb (by omega)) rfl ?_))))))
 rintro _ _ ⟨rfl, rfl, hdq⟩
 simp only [uV, uW]
 rw [hpt] at hdq ⊢
 refine uM rfl (uB (qV rfl rfl) (uB (qV rfl rfl) (uA rfl (uA rfl (qM (qK (qL (qJ (uM rfl (uA rfl ?_))))))))))
 refine qM (qK (qL (qJ (uM rfl (uM rfl (uB (uAs rfl rfl) ?_))))))
 refine uM rfl (uM rfl (uB (uAs rfl rfl) ?_))
 refine uA rfl (uA rfl (qM (qK (qL (qJ (uM rfl (uB (qHe rfl rfl (by omega) (by omega) (by omega)) ?_)))))))
 refine uA rfl (qM (qK (qL (qJ (uM rfl (uM rfl (uB (y_lt rfl rfl) ?_)))))))
 refine qM (qK ?_)
 refine zF rfl (fun h10 => ?_) (fun h10 => ?_)
 ·rw [if_pos (by omega)] at he
  refine qL (qJ (uM rfl (uM rfl (uB (y_ge rfl rfl) ?_))))
  refine uA rfl (qM (qK ?_))
  refine w_eq 8 (.bool (decide (mid - a ≥ (b - a) / 8))) rfl (congrArg Value.bool (decide_eq_decide.2 (by omega))) ?_
  refine qL (qJ (uM rfl (uM rfl (uM rfl (uM rfl (uX (ih (mid - a) (by omega) hdq (Nat.le_refl _) hr1 (by omega) hli2) rfl ?_))))))
  rintro _ _ ⟨rfl, rfl, hdz⟩
  simp only [uV, uW]
  refine qM (qK (qJ (uM rfl (uB (uAa rfl rfl) ?_))))
  refine uA rfl (qM (zJ ?_))
  refine zT (ι := (Nat × Nat × Nat) × Bool × Bool × Array Nat) (j := ((mid + 1, b, li), decide (mid - a ≥ (b - a) / 8), al, pdq (ltFO cf) d4 a mid li true true)) ⟨he, hdz, by show mid + 1 ≤ b; omega, hb, hli2, by show b - (mid + 1) ≤ k; omega⟩ (by show b - (mid + 1) < b - a; omega) ⟨rfl, congrArg some (zX (by simp only; omega)), rfl, rfl, rfl, rfl, trivial⟩ uI
 rw [if_neg (by omega)] at he
 refine qL (qJ (uM rfl (uM rfl (uB (y_ge rfl rfl) ?_))))
 refine uA rfl (qM (qK ?_))
 refine w_eq 8 (.bool (decide (b - mid ≥ (b - a) / 8))) rfl (congrArg Value.bool (decide_eq_decide.2 (by omega))) ?_
 refine qL (qJ (uM rfl (uM rfl (uB (uAa rfl rfl) ?_))))
 refine uM rfl (uM rfl ?_)
 refine l_eq 129 (.int .i64 ((mid + 1 : Nat) : Int)) rfl (zX (by omega)) ?_
 refine uX (ih (b - (mid + 1)) (by omega) hdq (Nat.le_refl _) (by omega) hb hli2) rfl ?_
 rintro _ _ ⟨rfl, rfl, hdz⟩
 simp only [uV, uW]
 refine qM (qK (qJ (uM rfl (uA rfl (qM (zJ ?_))))))
 refine zT (ι := (Nat × Nat × Nat) × Bool × Bool × Array Nat) (j := ((a, mid, li), decide (b - mid ≥ (b - a) / 8), al, pdq (ltFO cf) d4 (mid + 1) b li true true)) ⟨he, hdz, hr1, by show mid ≤ n; omega, hli2, by show mid - a ≤ k; omega⟩ (by show mid - a < b - a; omega) ⟨rfl, rfl, rfl, rfl, rfl, rfl, trivial⟩ uI
end
section
variable {E : Env} {g c : Nat}
theorem swoO : Go.Sort.SWO (ltFO cfO) where
 irrefl := fun x => by simp [ltFO, cfO]
 trans := fun x y z h1 h2 => by
  have g1 : (x : Int) - (y : Nat) < 0 := of_decide_eq_true h1
  have g2 : (y : Int) - (z : Nat) < 0 := of_decide_eq_true h2
  exact decide_eq_true (show (x : Int) - (z : Nat) < 0 by omega)
 ntrans := fun x y z h1 h2 => by
  have g1 : ¬ (x : Int) - (y : Nat) < 0 := of_decide_eq_false h1
  have g2 : ¬ (y : Int) - (z : Nat) < 0 := of_decide_eq_false h2
  exact decide_eq_false (show ¬ (x : Int) - (z : Nat) < 0 by omega)
def emp : HP := fun _ => True
theorem emp_in {H : List HP} (k : PH) (x : qAd H k) : qAd (emp :: H) k := ⟨fun _ => none, k, fun _ => .inl rfl, by funext b; simp [join], trivial, x⟩
theorem pair_of {l : List Nat} {n : Nat} {d : Array Nat} (h : d.size = n) (hs : Go.Sort.SortedIn (ltFO cfO) 0 n d) : d.toList.Pairwise (· ≤ ·) := by
 rw [List.pairwise_iff_getElem]
 intro i j hi hj hij
 have := of_decide_eq_false (hs i j (Nat.zero_le _) hij (by simp at hj; omega))
 simp only [cfO] at this
 rw [getElem!_pos d j (by simpa using hj), getElem!_pos d i (by simpa using hi)] at this
 simp only [Array.getElem_toList]
 omega
open Go.Sort in
theorem qXf (hE : Seat E) {l : List Nat} (hn : l.length < 65536) :
  Ct E 61 [.slice (some ⟨g, 0, none⟩) l.length c] [sl (some ⟨g, 0, none⟩) c 40 1 l.length (idC l)]
   (fun v Q => ∃ l' : List Nat, v = .tuple #[] ∧ l'.length = l.length ∧ l'.Perm l ∧ l'.Pairwise (· ≤ ·) ∧ Q = [sl (some ⟨g, 0, none⟩) c 40 1 l.length (idC l')]) := by
 obtain ⟨n, hnl⟩ : ∃ n, n = l.length := ⟨_, rfl⟩
 have hd : OkDO (fun _ => True) n l.toArray := ⟨by simp [hnl], fun _ _ => trivial⟩
 have hb := qHy (k := n) (by omega)
 have hs := hd.1
 have hl := pdq_sorts (ltFO cfO) swoO l.toArray 0 n (bitsLen n) true true (Nat.zero_le _) (by omega) (.inl rfl)
 obtain ⟨⟨p1, p2, p3⟩, hl2⟩ := hl
 have hx : ∀ e : Array Nat, e.size = n → e.extract 0 n = e := fun e h => by subst h; simp
 rw [hx _ hs, hx _ (p1.trans hs)] at p3
 have hdl : idC l = dCO l.toArray := rfl
 rw [← hnl, hdl]
 have hc : CmpO E emp (fun _ => True) cfO := cmpO hE
 refine zP (hE.fn Tryz.func61) rfl rfl rfl (fun R => ?_)
 simp only [qAe, uV, uW]
 refine qL (qJ (uM rfl (uB (uBl rfl) ?_)))
 refine uA rfl (qM (qK (qJ (uM rfl (uM rfl (uM rfl (uB (uAc rfl) ?_)))))))
 refine uX (qHz hE (k := n) (by omega)) rfl ?_
 rintro _ _ ⟨rfl, rfl⟩
 simp only [uV, uW]
 refine qAx emp_in ?_
 refine uX (ct_pdqO (a := 0) (b := n) (limit := bitsLen n) hE hc swoO (by omega) n hd (by omega) (Nat.zero_le _) (Nat.le_refl _) (by omega)) rfl ?_
 rintro _ _ ⟨rfl, rfl, hd2⟩
 simp only [uV, uW]
 refine qM ?_
 exact uZe rfl .nil ⟨_, rfl, by rw [hnl]; simp [p1, ← hnl], p3, pair_of (l := l) (p1.trans hs) hl2, rfl⟩
end
end Go.Proofs.YtddfnkijolfhbaaGreat
