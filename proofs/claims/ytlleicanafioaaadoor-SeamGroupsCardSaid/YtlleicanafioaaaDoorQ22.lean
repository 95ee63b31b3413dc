import Derived.Test.YtlleicanafioaaaDoorQ21
import Derived.Lib.TrailingZeros
set_option linter.all false
set_option maxHeartbeats 1000000
namespace Eg
def bt (x b : Nat) : Nat := x / 2 ^ b % 2
def xr (x y : Nat) : Nat := x ^^^ y
def dn (x y h : Nat) : Nat := xr x y / 2 ^ h * 2 ^ h
def dm (x y h : Nat) : Nat := xr x y / 2 ^ h / 2 * 2 * 2 ^ h
def dd (c x y : Nat) : Nat := if c % 2 = 1 ∧ bt x (c / 2) = 0 then dm x y (c / 2) else dn x y (c / 2)
def fitI (c x y : Nat) : Int := if x = y then 122 else if c = 122 then -1 else if dd c x y = 0 then -1 else 2 * (Go.Lib.ctz 64 (dd c x y) : Nat) + (bt x (Go.Lib.ctz 64 (dd c x y)) : Nat)

theorem zDg {x y : Nat} (hx : x < P61) (hy : y < P61) : xr x y < 2305843009213693952 := by
 have h : (2305843009213693952 : Nat) = 2 ^ 61 := rfl
 rw [h]
 exact Nat.xor_lt_two_pow (by unfold P61 at hx; omega) (by unfold P61 at hy; omega)
theorem dn_le (x y h : Nat) : dn x y h ≤ xr x y := Nat.div_mul_le_self _ _
theorem dm_le (x y h : Nat) : dm x y h ≤ dn x y h := Nat.mul_le_mul_right _ (Nat.div_mul_le_self _ _)
theorem dd_le (c x y : Nat) : dd c x y ≤ xr x y := by
 unfold dd; split
 ·exact Nat.le_trans (dm_le _ _ _) (dn_le _ _ _)
 exact dn_le _ _ _
theorem qQa (x b : Nat) : bt x b < 2 := Nat.mod_lt _ (by omega)
theorem qHo (x b : Nat) : bt x b = 1 ↔ x.testBit b = true := by
 unfold bt; rw [Nat.testBit_eq_decide_div_mod_eq]; simp
theorem qWo {d : Nat} (h0 : d ≠ 0) (hd : d < 2 ^ 64) : d.testBit (Go.Lib.ctz 64 d) = true ∧ Go.Lib.ctz 64 d < 64 ∧ ∀ b, b < Go.Lib.ctz 64 d → d.testBit b = false := by
 obtain ⟨m, hm, hk⟩ := Go.Lib.ctzFrom_spec 64 d (by omega) hd
 have e : Go.Lib.ctz 64 d = Go.Lib.ctzFrom 64 d := by simp [Go.Lib.ctz, h0]
 rw [e]
 generalize Go.Lib.ctzFrom 64 d = k at *
 subst hm
 refine ⟨?_, hk, fun b hb => ?_⟩
 ·rw [Nat.mul_comm, ← Nat.shiftLeft_eq, Nat.testBit_shiftLeft]; simp
 rw [Nat.mul_comm, ← Nat.shiftLeft_eq, Nat.testBit_shiftLeft]; simp; omega
theorem qKq (x y h b : Nat) : (dn x y h).testBit b = (decide (h ≤ b) && (x.testBit b ^^ y.testBit b)) := by
 unfold dn xr
 rw [← Nat.shiftLeft_eq, Nat.testBit_shiftLeft, ← Nat.shiftRight_eq_div_pow, Nat.testBit_shiftRight]
 by_cases hb : h ≤ b
 ·simp [hb, Nat.testBit_xor]
 simp [hb]
theorem qPe (x y h b : Nat) : (dm x y h).testBit b = (decide (h + 1 ≤ b) && (x.testBit b ^^ y.testBit b)) := by
 have : dm x y h = dn x y (h + 1) := by
  unfold dm dn
  rw [Nat.div_div_eq_div_mul, ← Nat.pow_succ, Nat.mul_assoc, ← Nat.pow_succ']
 rw [this, qKq]

def qAd (c x y : Nat) : Prop := if c = 122 then x = y else bt x (c / 2) = c % 2 ∧ bt y (c / 2) = 1 - c % 2
theorem qIp {k x y : Nat} (hk : k ≠ 122) (h : qAd k x y) : (x.testBit (k / 2) ^^ y.testBit (k / 2)) = true ∧ bt x (k / 2) = k % 2 := by
 unfold qAd at h
 rw [if_neg hk] at h
 obtain ⟨h1, h2⟩ := h
 refine ⟨?_, h1⟩
 have hx := qHo x (k / 2); have hy := qHo y (k / 2)
 rcases Nat.mod_two_eq_zero_or_one k with hm | hm
 ·rw [hm] at h1 h2
  have e1 : x.testBit (k / 2) = false := by
   cases h : x.testBit (k / 2) with
   | false => rfl
   | true => have := hx.2 h; omega
  have e2 := hy.1 h2
  rw [e1, e2]; rfl
 rw [hm] at h1 h2
 have e1 := hx.1 h1
 have e2 : y.testBit (k / 2) = false := by
  cases h : y.testBit (k / 2) with
  | false => rfl
  | true => have := hy.2 h; omega
 rw [e1, e2]; rfl
theorem qIg {b x y : Nat} (hb : 2 * b + bt x b ≠ 122) (h : (x.testBit b ^^ y.testBit b) = true) : qAd (2 * b + bt x b) x y := by
 unfold qAd
 rw [if_neg hb]
 have hlt := qQa x b; have hlt2 := qQa y b
 have hd : (2 * b + bt x b) / 2 = b := by omega
 have hm : (2 * b + bt x b) % 2 = bt x b := by omega
 rw [hd, hm]
 refine ⟨rfl, ?_⟩
 have hx := qHo x b; have hy := qHo y b
 cases e1 : x.testBit b <;> cases e2 : y.testBit b
 ·rw [e1, e2] at h; cases h
 ·have h1 := hy.2 e2
  have h2 : bt x b ≠ 1 := fun e => by rw [hx.1 e] at e1; cases e1
  omega
 ·have h1 := hx.2 e1
  have h2 : bt y b ≠ 1 := fun e => by rw [hy.1 e] at e2; cases e2
  omega
 rw [e1, e2] at h; cases h
theorem qQz {k x : Nat} (hk : k < 122) : ¬ qAd k x x := by
 intro h
 have := (qIp (by omega) h).1
 simp at this
theorem qPd (c x y b : Nat) : (dd c x y).testBit b = true ↔ (x.testBit b ^^ y.testBit b) = true ∧ c ≤ 2 * b + bt x b := by
 have hlt := qQa x b
 unfold dd
 split
 ·rename_i h
  rw [qPe]
  simp only [Bool.and_eq_true, decide_eq_true_eq]
  constructor
  ·rintro ⟨h1, h2⟩; exact ⟨h2, by omega⟩
  rintro ⟨h1, h2⟩
  refine ⟨?_, h1⟩
  by_cases hb : b = c / 2
  ·subst hb; omega
  omega
 rename_i h
 rw [qKq]
 simp only [Bool.and_eq_true, decide_eq_true_eq]
 constructor
 ·rintro ⟨h1, h2⟩
  refine ⟨h2, ?_⟩
  by_cases hb : b = c / 2
  ·subst hb
   rcases Nat.mod_two_eq_zero_or_one c with hm | hm
   ·omega
   have : bt x (c / 2) ≠ 0 := fun e => h ⟨hm, e⟩
   omega
  omega
 rintro ⟨h1, h2⟩; exact ⟨by omega, h1⟩
theorem qEb {c x y : Nat} (hc : c ≤ 122) (hx : x < P61) (hy : y < P61) :
  (fitI c x y = -1 ∧ ∀ k, c ≤ k → k ≤ 122 → ¬ qAd k x y) ∨
  (∃ k : Nat, fitI c x y = k ∧ c ≤ k ∧ k ≤ 122 ∧ qAd k x y ∧ ∀ j, c ≤ j → j < k → ¬ qAd j x y) := by
 unfold fitI
 by_cases hxy : x = y
 ·subst hxy
  rw [if_pos rfl]
  exact .inr ⟨122, rfl, hc, Nat.le_refl _, by unfold qAd; rw [if_pos rfl], fun j _ hj => qQz hj⟩
 rw [if_neg hxy]
 have h122 : ¬ qAd 122 x y := by unfold qAd; rw [if_pos rfl]; exact hxy
 by_cases hc2 : c = 122
 ·rw [if_pos hc2]
  refine .inl ⟨rfl, fun k h1 h2 => ?_⟩
  obtain rfl : k = 122 := by omega
  exact h122
 rw [if_neg hc2]
 have hlt : dd c x y < 2305843009213693952 := Nat.lt_of_le_of_lt (dd_le c x y) (zDg hx hy)
 have key : ∀ k, c ≤ k → k ≠ 122 → qAd k x y → (dd c x y).testBit (k / 2) = true := by
  intro k h1 h2 h3
  obtain ⟨h4, h5⟩ := qIp h2 h3
  exact (qPd c x y (k / 2)).2 ⟨h4, by omega⟩
 by_cases hd : dd c x y = 0
 ·rw [if_pos hd]
  refine .inl ⟨rfl, fun k h1 h2 h3 => ?_⟩
  by_cases hk : k = 122
  ·subst hk; exact h122 h3
  have := key k h1 hk h3
  rw [hd] at this; simp at this
 rw [if_neg hd]
 obtain ⟨b1, b2, b3⟩ := qWo hd (Nat.lt_trans hlt (by decide))
 generalize Go.Lib.ctz 64 (dd c x y) = b at *
 have hb61 : b < 61 := by
  apply Classical.byContradiction
  intro hge
  have : dd c x y < 2 ^ b := Nat.lt_of_lt_of_le hlt (by rw [show (2305843009213693952 : Nat) = 2 ^ 61 from rfl]; exact Nat.pow_le_pow_right (by omega) (by omega))
  rw [Nat.testBit_lt_two_pow this] at b1; cases b1
 obtain ⟨d1, d2⟩ := (qPd c x y b).1 b1
 have hbt := qQa x b
 refine .inr ⟨2 * b + bt x b, by omega, d2, by omega, qIg (by omega) d1, fun j h1 h2 h3 => ?_⟩
 have hj := key j h1 (by omega) h3
 have hjb : j / 2 = b := by
  rcases Nat.lt_or_ge (j / 2) b with h | h
  ·rw [b3 _ h] at hj; cases hj
  omega
 have := (qIp (by omega) h3).2
 rw [hjb] at this
 omega
theorem qJn {x y : Nat} (hx : x < P61) (hy : y < P61) : 0 ≤ fitI 0 x y := by
 rcases qEb (c := 0) (by omega) hx hy with ⟨_, h⟩ | ⟨k, h, _⟩
 ·exfalso
  by_cases hxy : x = y
  ·exact h 122 (by omega) (by omega) (by unfold qAd; rw [if_pos rfl]; exact hxy)
  obtain ⟨b, hb⟩ := Nat.exists_testBit_ne_of_ne hxy
  have hb61 : b < 61 := by
   apply Classical.byContradiction
   intro hge
   have h2 : (2 : Nat) ^ 61 ≤ 2 ^ b := Nat.pow_le_pow_right (by omega) (by omega)
   unfold P61 at hx hy
   rw [Nat.testBit_lt_two_pow (by omega), Nat.testBit_lt_two_pow (by omega)] at hb
   exact hb rfl
  have hbt := qQa x b
  refine h (2 * b + bt x b) (by omega) (by omega) (qIg (by omega) ?_)
  cases e1 : x.testBit b <;> cases e2 : y.testBit b <;> simp_all
 rw [h]; omega
def after (low x y : Nat) : Nat :=
 if 0 ≤ fitI (low / 2 % 123) x y then 2 * (low / 2 + 1 + (fitI (low / 2 % 123) x y).toNat - low / 2 % 123)
 else 2 * (low / 2 + 1 + (fitI 0 x y).toNat + 123 - low / 2 % 123)
theorem qOx (low x y : Nat) : after low x y % 2 = 0 := by unfold after; split <;> omega
theorem qIy {low x y : Nat} (hx : x < P61) (hy : y < P61) : low < after low x y ∧ after low x y ≤ low + 500 := by
 have hc : low / 2 % 123 ≤ 122 := by omega
 unfold after
 split
 ·rename_i h
  rcases qEb hc hx hy with ⟨h1, _⟩ | ⟨k, h1, h2, h3, _⟩
  ·omega
  rw [h1]; simp only [Int.toNat_natCast]; omega
 rcases qEb (c := 0) (by omega) hx hy with ⟨h1, _⟩ | ⟨k, h1, h2, h3, _⟩
 ·have := qJn hx hy; omega
 rw [h1]; simp only [Int.toNat_natCast]; omega
end Eg
namespace Go.Proofs.YtlleicanafioaaaDoor
section
open Go Go.RowKit Eg
set_option maxRecDepth 100000

def TabAt (w : World) : Prop := ∀ j, j < Lib.deBruijn64tab.length → w.cell? ⟨0, j, none⟩ = some (.int .u8 (Lib.deBruijn64tab.getD j 0))

theorem zCy (x k idx : Nat) (w : World) (hx0 : ((x : Int) == 0) = false)
  (key : IntKind.u64.wrap (bits BinOp.and IntKind.u64 (x : Int) (IntKind.u64.wrap (-(x : Int))) * 285870213051353865) / 288230376151711744 = (idx : Int))
  (hi : idx < 64) (hk : k < 64) (hcell : w.cell? ⟨0, idx, none⟩ = some (.int .u8 k)) :
  Calls Tryd.prog 100 #[.int .u64 x] w fun e w' => e = .returned (.int .i64 k) ∧ w = w' := by
 go_enter Tryd.func100, Tryd.ntmps100
 go_wp2_with (simp only [key])
 go_ret
 exact ⟨rfl, rfl⟩
theorem tz64_key (x a : Nat) (hx : x < 18446744073709551616) (hx0 : x ≠ 0) (hlow : x &&& (18446744073709551616 - x) = a) :
  IntKind.u64.wrap (bits BinOp.and IntKind.u64 (x : Int) (IntKind.u64.wrap (-(x : Int))) * 285870213051353865) / 288230376151711744 = ((a * 285870213051353865 % 18446744073709551616 / 288230376151711744 : Nat) : Int) := by
 have e1 : IntKind.u64.wrap (-(x : Int)) = ((18446744073709551616 - x : Nat) : Int) := by rw [IntKind.wrap_u64]; omega
 rw [e1, bits_and_u64_nat x _ hx (by omega), hlow, IntKind.wrap_u64]
 omega
theorem qOw (x : Nat) (hx : x < 18446744073709551616) (hx0 : x ≠ 0) (w : World) (hT : TabAt w) :
  Calls Tryd.prog 100 #[.int .u64 x] w fun e w' => e = .returned (.int .i64 (Lib.ctz 64 x : Nat)) ∧ w = w' := by
 obtain ⟨hlow, hk⟩ := Lib.lowest_bit 64 x hx0 hx
 obtain ⟨hi, htab⟩ := Lib.deBruijn64_at _ hk
 have hcell := hT _ hi
 rw [htab] at hcell
 exact zCy x _ _ w (by simp; omega) (tz64_key x _ hx hx0 hlow) hi hk hcell

theorem xor_mask {x y : Nat} (hx : x < P61) (hy : y < P61) : bits .and .u64 (bits .xor .u64 (x : Int) (y : Int)) 2305843009213693951 = ((xr x y : Nat) : Int) := by
 have h := zDg hx hy
 have h1 := ltU hx; have h2 := ltU hy
 unfold U64 at h1 h2
 rw [u64_xor_nat x y h1 h2, qPz _ (by unfold xr at h; omega)]
 unfold xr at *
 rw [Nat.mod_eq_of_lt h]
theorem shift_dn {x y : Nat} (h : Nat) (hx : x < P61) (hy : y < P61) : IntKind.u64.wrap (((xr x y : Nat) : Int) / 2 ^ h * 2 ^ h) = ((dn x y h : Nat) : Int) := by
 have h0 := zDg hx hy
 have h1 := dn_le x y h
 have e : ((xr x y : Nat) : Int) / 2 ^ h * 2 ^ h = ((dn x y h : Nat) : Int) := by
  unfold dn; rw [Int.natCast_mul, Int.natCast_ediv, Int.natCast_pow]; rfl
 rw [e, IntKind.wrap_u64]
 omega
theorem bit_of {x : Nat} (h : Nat) (hx : x < P61) : bits .and .u64 ((x : Int) / 2 ^ h) 1 = ((bt x h : Nat) : Int) := by
 have h1 := ltU hx
 unfold U64 at h1
 have h2 : x / 2 ^ h ≤ x := Nat.div_le_self _ _
 have e : (x : Int) / 2 ^ h = ((x / 2 ^ h : Nat) : Int) := by rw [Int.natCast_ediv, Int.natCast_pow]; rfl
 rw [e, show (1 : Int) = ((1 : Nat) : Int) from rfl, u64_and_nat _ _ (by omega) (by omega), Nat.and_one_is_mod]
 rfl
theorem qZu {x y : Nat} (h : Nat) (hh : h < 61) (hx : x < P61) (hy : y < P61) : bits .andNot .u64 ((dn x y h : Nat) : Int) (IntKind.u64.wrap (2 ^ h)) = ((dm x y h : Nat) : Int) := by
 have h0 := zDg hx hy
 have h1 := dn_le x y h
 have hp : (2 : Nat) ^ h < 2 ^ 61 := Nat.pow_lt_pow_right (by omega) hh
 have hp2 : (2 : Nat) ^ 61 = 2305843009213693952 := rfl
 have e : IntKind.u64.wrap ((2 : Int) ^ h) = ((2 ^ h : Nat) : Int) := by
  rw [IntKind.wrap_u64, show ((2 : Int) ^ h) = ((2 ^ h : Nat) : Int) from by rw [Int.natCast_pow]; rfl]
  have hp3 : (2 : Nat) ^ h < 18446744073709551616 := by omega
  exact Int.emod_eq_of_lt (Int.natCast_nonneg _) (Int.ofNat_lt.2 hp3)
 rw [e, u64_andNot_nat _ _ (by omega) (by omega)]
 congr 1
 apply Nat.eq_of_testBit_eq
 intro b
 rw [Nat.testBit_and, qKq, qPe, show (18446744073709551615 : Nat) = 2 ^ 64 - 1 from rfl]
 rw [show 2 ^ 64 - 1 - 2 ^ h = 2 ^ 64 - (2 ^ h + 1) by omega, Nat.testBit_two_pow_sub_succ (by omega), Nat.testBit_two_pow]
 by_cases hb : b < 64
 ·by_cases he : h = b
  ·subst he; simp; intro h9; omega
  simp only [hb, he, decide_true, decide_false, Bool.not_false, Bool.and_self, Bool.and_true]
  congr 1
  rw [Bool.eq_iff_iff]; simp; omega
 have hxb : x.testBit b = false := Nat.testBit_lt_two_pow (Nat.lt_of_lt_of_le hx (Nat.le_trans (by unfold P61; omega : P61 ≤ 2 ^ 61) (Nat.pow_le_pow_right (by omega) (by omega))))
 have hyb : y.testBit b = false := Nat.testBit_lt_two_pow (Nat.lt_of_lt_of_le hy (Nat.le_trans (by unfold P61; omega : P61 ≤ 2 ^ 61) (Nat.pow_le_pow_right (by omega) (by omega))))
 simp [hxb, hyb]

theorem qUz (d x : Nat) (hd0 : d ≠ 0) (hd : d < 2305843009213693952) (hx : x < P61) : Lib.ctz 64 d < 64 ∧ bits .and .u64 ((x : Int) / 2 ^ Lib.ctz 64 d) 1 = ((bt x (Lib.ctz 64 d) : Nat) : Int) ∧ bt x (Lib.ctz 64 d) < 2 :=
 ⟨(qWo hd0 (Nat.lt_trans hd (by decide))).2.1, bit_of _ hx, qQa _ _⟩

theorem qNa (c x y : Nat) (w : World) (hc : c ≤ 122) (hx : x < P61) (hy : y < P61) (hT : TabAt w) :
  Calls Tryd.prog 98 #[.int .i64 c, .int .u64 x, .int .u64 y] w fun e w' => e = .returned (.int .i64 (fitI c x y)) ∧ w = w' := by
 have HT := Lib.hid hT
 clear hT
 by_cases hxy : x = y
 ·have e : fitI c x y = 122 := by unfold fitI; rw [if_pos hxy]
  rw [e]
  subst hxy
  go_enter Tryd.func98, Tryd.ntmps98
  go_wp2_with fail
  go_ret
  exact ⟨rfl, rfl⟩
 have hne : ((x : Int) == y) = false := by simp; omega
 by_cases hc2 : c = 122
 ·have e : fitI c x y = -1 := by unfold fitI; rw [if_neg hxy, if_pos hc2]
  rw [e]
  subst hc2
  go_enter Tryd.func98, Tryd.ntmps98
  go_wp2_with fail
  go_ret
  exact ⟨rfl, rfl⟩
 have hc3 : ((c : Int) == 122) = false := by simp; omega
 have hlt : dd c x y < 2305843009213693952 := Nat.lt_of_le_of_lt (dd_le c x y) (zDg hx hy)
 have e1 := xor_mask hx hy
 have e2 := shift_dn (c / 2) hx hy
 have e3 := bit_of (c / 2) hx
 have e4 := qZu (c / 2) (by omega) hx hy
 have hval : fitI c x y = if dd c x y = 0 then (-1 : Int) else 2 * ((Lib.ctz 64 (dd c x y) : Nat) : Int) + ((bt x (Lib.ctz 64 (dd c x y)) : Nat) : Int) := by
  unfold fitI; rw [if_neg hxy, if_neg hc2]
 have hend := fun h0 => qUz (dd c x y) x h0 hlt hx
 have hdd : dd c x y = if c % 2 = 1 ∧ bt x (c / 2) = 0 then dm x y (c / 2) else dn x y (c / 2) := rfl
 by_cases hz : dd c x y = 0
 ·rw [hval, if_pos hz]
  rw [hz] at hdd
  clear hval hend hlt
  by_cases ho : c % 2 = 1
  ·by_cases hb : bt x (c / 2) = 0
   ·rw [if_pos ⟨ho, hb⟩] at hdd
    rw [hb] at e3
    rw [← hdd] at e4
    have o1 : (c : Int) % 2 = 1 := by omega
    clear hb hdd ho hz hxy
    go_enter Tryd.func98, Tryd.ntmps98
    go_wp2_with fail
    go_ret
    exact ⟨rfl, rfl⟩
   rw [if_neg (fun h => hb h.2)] at hdd
   rw [← hdd] at e2
   have hb1 : (((bt x (c / 2) : Nat) : Int) == 0) = false := by simp; omega
   have o1 : (c : Int) % 2 = 1 := by omega
   clear hb hdd ho hz e4 hxy
   go_enter Tryd.func98, Tryd.ntmps98
   go_wp2_with fail
   go_ret
   exact ⟨rfl, rfl⟩
  rw [if_neg (fun h => ho h.1)] at hdd
  rw [← hdd] at e2
  have o1 : (c : Int) % 2 = 0 := by omega
  clear hdd ho hz e4 e3 hxy
  go_enter Tryd.func98, Tryd.ntmps98
  go_wp2_with fail
  go_ret
  exact ⟨rfl, rfl⟩
 rw [hval, if_neg hz]
 obtain ⟨q1, q2, q3⟩ := hend hz
 have htz := qOw (dd c x y) (by omega) hz w HT.out
 have hnz : (((dd c x y : Nat) : Int) == 0) = false := by simp; omega
 have HTZ := Lib.hid htz
 clear hval hend hlt htz hz hxy
 by_cases ho : c % 2 = 1
 ·have o1 : (c : Int) % 2 = 1 := by omega
  by_cases hb : bt x (c / 2) = 0
  ·rw [if_pos ⟨ho, hb⟩] at hdd
   rw [hb] at e3
   rw [← hdd] at e4
   generalize dd c x y = d at *
   clear hb hdd ho
   generalize Lib.ctz 64 d = k at *
   generalize bt x k = bk at *
   go_enter Tryd.func98, Tryd.ntmps98
   go_wp2_with fail
   refine (HTZ.out).mono ?_
   rintro e w' ⟨rfl, rfl⟩
   go_wp2_with fail
   go_ret
   exact ⟨qHh (by omega), rfl⟩
  rw [if_neg (fun h => hb h.2)] at hdd
  rw [← hdd] at e2
  have hb1 : (((bt x (c / 2) : Nat) : Int) == 0) = false := by simp; omega
  generalize dd c x y = d at *
  clear hb hdd ho e4
  generalize Lib.ctz 64 d = k at *
  generalize bt x k = bk at *
  go_enter Tryd.func98, Tryd.ntmps98
  go_wp2_with fail
  refine (HTZ.out).mono ?_
  rintro e w' ⟨rfl, rfl⟩
  go_wp2_with fail
  go_ret
  exact ⟨qHh (by omega), rfl⟩
 have o1 : (c : Int) % 2 = 0 := by omega
 rw [if_neg (fun h => ho h.1)] at hdd
 rw [← hdd] at e2
 generalize dd c x y = d at *
 clear hdd ho e4 e3
 generalize Lib.ctz 64 d = k at *
 generalize bt x k = bk at *
 go_enter Tryd.func98, Tryd.ntmps98
 go_wp2_with fail
 refine (HTZ.out).mono ?_
 rintro e w' ⟨rfl, rfl⟩
 go_wp2_with fail
 go_ret
 exact ⟨qHh (by omega), rfl⟩
end
section
open Go Go.RowKit Eg
set_option maxRecDepth 100000

theorem ret_two {a b c d : Value} (h1 : a = c) (h2 : b = d) : Ending.returned (.tuple #[a, b]) = .returned (.tuple #[c, d]) := by rw [h1, h2]
theorem qTx {a b c d e f : Value} (h1 : a = d) (h2 : b = e) (h3 : c = f) : Ending.returned (.tuple #[a, b, c]) = .returned (.tuple #[d, e, f]) := by rw [h1, h2, h3]

theorem qMl (low x y : Nat) (w : World) (hl : low < 1099511627776) (hx : x < P61) (hy : y < P61) (hT : TabAt w) :
  Calls Tryd.prog 92 #[.int .i64 low, .int .u64 x, .int .u64 y] w fun e w' => e = .returned (.int .i64 (after low x y : Nat)) ∧ w = w' := by
 have hc : low / 2 % 123 ≤ 122 := by omega
 have h1 := qNa (low / 2 % 123) x y w hc hx hy hT
 have h2 := qNa 0 x y w (by omega) hx hy hT
 have hz := qJn hx hy
 have s1 := qEb hc hx hy
 have s2 := qEb (c := 0) (by omega) hx hy
 have hv : after low x y = if 0 ≤ fitI (low / 2 % 123) x y then 2 * (low / 2 + 1 + (fitI (low / 2 % 123) x y).toNat - low / 2 % 123) else 2 * (low / 2 + 1 + (fitI 0 x y).toNat + 123 - low / 2 % 123) := rfl
 have b1 : fitI (low / 2 % 123) x y ≤ 122 := by
  rcases s1 with ⟨e, _⟩ | ⟨k, e, _, h3, _⟩ <;> omega
 have b0 : -1 ≤ fitI (low / 2 % 123) x y := by
  rcases s1 with ⟨e, _⟩ | ⟨k, e, _, h3, _⟩ <;> omega
 have b2 : fitI 0 x y ≤ 122 := by
  rcases s2 with ⟨e, _⟩ | ⟨k, e, _, h3, _⟩ <;> omega
 have b3 : 0 ≤ fitI (low / 2 % 123) x y → (low / 2 % 123 : Nat) ≤ fitI (low / 2 % 123) x y := by
  rcases s1 with ⟨e, _⟩ | ⟨k, e, h2, h3, _⟩ <;> intro <;> omega
 generalize fitI (low / 2 % 123) x y = f1 at *
 generalize fitI 0 x y = f2 at *
 generalize after low x y = r at *
 have H1 := Lib.hid h1
 have H2 := Lib.hid h2
 clear h1 h2 s1 s2 hT
 by_cases hf : 0 ≤ f1
 ·rw [if_pos hf] at hv
  have b4 := b3 hf
  have HV := Lib.hid hv
  clear hv b3
  have hc4 : decide ((0 : Int) ≤ f1) = true := by simpa using hf
  go_enter Tryd.func92, Tryd.ntmps92
  go_wp2_with fail
  rw [show ((low : Int) / 2 % 123) = ((low / 2 % 123 : Nat) : Int) from by omega]
  refine (H1.out).mono ?_
  rintro e w' ⟨rfl, rfl⟩
  go_wp2_with fail
  go_ret
  exact ⟨qHh (by have := HV.out; omega), rfl⟩
 rw [if_neg hf] at hv
 have HV := Lib.hid hv
 have hc4 : decide ((0 : Int) ≤ f1) = false := by simpa using hf
 have hc5 : decide ((0 : Int) ≤ f2) = true := by simpa using hz
 clear hv b3
 go_enter Tryd.func92, Tryd.ntmps92
 go_wp2_with fail
 rw [show ((low : Int) / 2 % 123) = ((low / 2 % 123 : Nat) : Int) from by omega]
 refine (H1.out).mono ?_
 rintro e w' ⟨rfl, rfl⟩
 go_wp2_with fail
 refine (H2.out).mono ?_
 rintro e w' ⟨rfl, rfl⟩
 go_wp2_with fail
 go_ret
 exact ⟨qHh (by have := HV.out; omega), rfl⟩

theorem qNq (l : Nat) (w : World) (h2 : 2 ≤ l) (he : l % 2 = 0) (hl : l < 1099511627776) :
  Calls Tryd.prog 81 #[.int .i64 l] w fun e w' => e = .returned (.tuple #[.int .i64 (((l / 2 - 1) % 123 : Nat) : Int), .bool true]) ∧ w = w' := by
 have h1 : decide ((l : Int) < 2) = false := by simp; omega
 have h3 : ((l : Int) % 2 != 0) = false := by simp; omega
 go_enter Tryd.func81, Tryd.ntmps81
 go_wp2_with fail
 go_ret2
 have e0 : ((l : Int) / 2 - 1) % 123 = (((l / 2 - 1) % 123 : Nat) : Int) := by omega
 exact ⟨ret_two (congrArg (Value.int .i64) e0) rfl, rfl⟩

theorem qPq (l : Nat) (w : World) (h2 : 2 ≤ l) (he : l % 2 = 0) (hl : l < 1099511627776) :
  Calls Tryd.prog 59 #[.int .i64 l] w fun e w' => e = .returned (.tuple (if (l / 2 - 1) % 123 = 122 then #[.int .i64 0, .int .u64 0, .bool true] else #[.int .i64 (((l / 2 - 1) % 123 / 2 : Nat) : Int), .int .u64 (((l / 2 - 1) % 123 % 2 : Nat) : Int), .bool false])) ∧ w = w' := by
 have hn := qNq l w h2 he hl
 have hlt : (l / 2 - 1) % 123 < 123 := Nat.mod_lt _ (by omega)
 generalize (l / 2 - 1) % 123 = c at *
 have HN := Lib.hid hn
 clear hn
 by_cases hc : c = 122
 ·rw [if_pos hc]
  subst hc
  go_enter Tryd.func59, Tryd.ntmps59
  go_wp2_with fail
  refine (HN.out).mono ?_
  rintro e w' ⟨rfl, rfl⟩
  go_wp2_with fail
  go_ret3
  exact ⟨rfl, rfl⟩
 rw [if_neg hc]
 have hc1 : ((c : Int) == 122) = false := by simp; omega
 go_enter Tryd.func59, Tryd.ntmps59
 go_wp2_with fail
 refine (HN.out).mono ?_
 rintro e w' ⟨rfl, rfl⟩
 go_wp2_with fail
 go_ret3
 have e0 : (c : Int) / 2 = ((c / 2 : Nat) : Int) := by omega
 have e1 : IntKind.u64.wrap ((c : Int) % 2) = ((c % 2 : Nat) : Int) := by rw [IntKind.wrap_u64]; omega
 first
  | exact ⟨qTx (congrArg (Value.int .i64) e0) (congrArg (Value.int .u64) e1) rfl, rfl⟩
  | exact ⟨qTx (congrArg (Value.int .i64) e0) (congrArg (Value.int .u64) (show (c : Int) % 2 = _ by omega)) rfl, rfl⟩
end
section
open Go Go.RowKit Eg
set_option maxRecDepth 100000

theorem qOj {w w' : World} (h : TabAt w) (h0 : 0 < w.heap.size) (hb : Below w.heap.size w w') : TabAt w' := fun j hj => by
 rw [hb.cell (p := ⟨0, j, none⟩) h0]; exact h j hj

theorem qOq (w : World) (tb g n cap : Nat) (bb : UInt8) (ht : w.cell? ⟨tb, 1, none⟩ = some (.slice (some ⟨g, 0, none⟩) n cap)) (hg : g < w.heap.size) (htb : tb < w.heap.size) (hn : 0 < n ∧ n ≤ cap ∧ n ≤ 1048577)
  (l0 : w.cell? ⟨g, 0, none⟩ = some (.int .u64 0)) (l1 : w.cell? ⟨g, 1, none⟩ = some (.int .i64 0)) (l2 : w.cell? ⟨g, 2, none⟩ = some (.bool false)) :
  Calls Tryd.prog 80 #[.pointer (some ⟨tb, 0, none⟩), .agg #[.int .i64 1, .int .u8 bb.toNat, .int .i64 0, .int .i64 0, .int .i64 0]] w fun e w' => e = .returned (.agg #[.int .u64 (mix 1 bb.toNat 0 : Nat), .int .i64 0, .bool true]) ∧ Below w.heap.size w w' := by
 obtain ⟨hn, hnc, hn2⟩ := hn
 have hb := bb.toNat_lt
 have c0 := Blk.new_at w rfl [.int .i64 1, .int .u8 bb.toNat, .int .i64 0, .int .i64 0, .int .i64 0] 72
 have hk : ∀ w', Below (w.heap.size + 1) (w.alloc (.cells #[.int .i64 1, .int .u8 bb.toNat, .int .i64 0, .int .i64 0, .int .i64 0] 72)) w' → w'.cell? ⟨tb, 1, none⟩ = some (.slice (some ⟨g, 0, none⟩) n cap) ∧ w'.cell? ⟨w.heap.size, 2, none⟩ = some (.int .i64 0) ∧ w'.cell? ⟨w.heap.size, 3, none⟩ = some (.int .i64 0) ∧ w'.cell? ⟨g, 0, none⟩ = some (.int .u64 0) ∧ w'.cell? ⟨g, 1, none⟩ = some (.int .i64 0) ∧ w'.cell? ⟨g, 2, none⟩ = some (.bool false) := by
  intro w' hb'
  have hbw : Below w.heap.size w w' := Below.trans (by go_grown) (hb'.mono (by omega))
  have c1 := c0.below hb' (by omega)
  refine ⟨?_, c1.cell 2 rfl, c1.cell 3 rfl, ?_, ?_, ?_⟩
  ·rw [hbw.cell (p := ⟨tb, 1, none⟩) htb]; exact ht
  ·rw [hbw.cell (p := ⟨g, 0, none⟩) hg]; exact l0
  ·rw [hbw.cell (p := ⟨g, 1, none⟩) hg]; exact l1
  rw [hbw.cell (p := ⟨g, 2, none⟩) hg]; exact l2
 have HK := Lib.hid hk
 clear hk c0
 go_enter Tryd.func80, Tryd.ntmps80
 go_wp2_with fail
 go_region_held3 (fun w' => w'.cell? ⟨tb, 1, none⟩ = some (.slice (some ⟨g, 0, none⟩) n cap) ∧ w'.cell? ⟨w.heap.size, 2, none⟩ = some (.int .i64 0) ∧ w'.cell? ⟨w.heap.size, 3, none⟩ = some (.int .i64 0) ∧ w'.cell? ⟨g, 0, none⟩ = some (.int .u64 0) ∧ w'.cell? ⟨g, 1, none⟩ = some (.int .i64 0) ∧ w'.cell? ⟨g, 2, none⟩ = some (.bool false)) (exact HK.out _ (by go_grown)) (first | fail)
 all_goals
  go_wp2_with fail
  refine (qKs 1 bb.toNat 0 _ (by unfold U64; omega) (by unfold U64; omega) (by unfold U64; omega)).mono ?_
  rintro e w' ⟨rfl, rfl⟩
  go_wp2_with fail
  refine bodyPost_ret (v := .agg #[.int .u64 (mix 1 bb.toNat 0 : Nat), .int .i64 0, .bool true]) (by simp [results, Tryd.results80, go_sem]) rfl ⟨rfl, by go_grown⟩

theorem qMp (w : World) (tb g n cap : Nat) (a b k1 k2 : Nat) (v1 v2 : Int) (ha : a < n) (hb : b < n) (hk1 : k1 < P61) (hk2 : k2 < P61) (hbad : a = b ∨ v1 < 0 ∨ v2 < 0) (ht : w.cell? ⟨tb, 1, none⟩ = some (.slice (some ⟨g, 0, none⟩) n cap)) (hg : g < w.heap.size) (htb : tb < w.heap.size) (hn : 0 < n ∧ n ≤ cap ∧ n ≤ 1048577)
  (l0 : w.cell? ⟨g, a * 3, none⟩ = some (.int .u64 k1)) (l1 : w.cell? ⟨g, a * 3 + 1, none⟩ = some (.int .i64 v1)) (l2 : w.cell? ⟨g, a * 3 + 2, none⟩ = some (.bool true)) (r0 : w.cell? ⟨g, b * 3, none⟩ = some (.int .u64 k2)) (r1 : w.cell? ⟨g, b * 3 + 1, none⟩ = some (.int .i64 v2)) (r2 : w.cell? ⟨g, b * 3 + 2, none⟩ = some (.bool true)) :
  Calls Tryd.prog 80 #[.pointer (some ⟨tb, 0, none⟩), .agg #[.int .i64 2, .int .u8 0, .int .i64 a, .int .i64 b, .int .i64 0]] w fun e w' => e = .returned (.agg #[.int .u64 (mix 2 k1 k2 : Nat), .int .i64 (-1), .bool true]) ∧ Below w.heap.size w w' := by
 obtain ⟨hn, hnc, hn2⟩ := hn
 have hkk1 := Lib.hid (ltU hk1)
 have hkk2 := Lib.hid (ltU hk2)
 have HB := Lib.hid hbad
 clear hk1 hk2 hbad
 have c0 := Blk.new_at w rfl [.int .i64 2, .int .u8 0, .int .i64 a, .int .i64 b, .int .i64 0] 72
 have hk : ∀ w', Below (w.heap.size + 1) (w.alloc (.cells #[.int .i64 2, .int .u8 0, .int .i64 a, .int .i64 b, .int .i64 0] 72)) w' → w'.cell? ⟨tb, 1, none⟩ = some (.slice (some ⟨g, 0, none⟩) n cap) ∧ w'.cell? ⟨w.heap.size, 2, none⟩ = some (.int .i64 a) ∧ w'.cell? ⟨w.heap.size, 3, none⟩ = some (.int .i64 b) ∧ w'.cell? ⟨g, a * 3, none⟩ = some (.int .u64 k1) ∧ w'.cell? ⟨g, a * 3 + 1, none⟩ = some (.int .i64 v1) ∧ w'.cell? ⟨g, a * 3 + 2, none⟩ = some (.bool true) ∧ w'.cell? ⟨g, b * 3, none⟩ = some (.int .u64 k2) ∧ w'.cell? ⟨g, b * 3 + 1, none⟩ = some (.int .i64 v2) ∧ w'.cell? ⟨g, b * 3 + 2, none⟩ = some (.bool true) := by
  intro w' hb'
  have hbw : Below w.heap.size w w' := Below.trans (by go_grown) (hb'.mono (by omega))
  have c1 := c0.below hb' (by omega)
  refine ⟨?_, c1.cell 2 rfl, c1.cell 3 rfl, ?_, ?_, ?_, ?_, ?_, ?_⟩
  ·rw [hbw.cell (p := ⟨tb, 1, none⟩) htb]; exact ht
  ·rw [hbw.cell (p := ⟨g, a * 3, none⟩) hg]; exact l0
  ·rw [hbw.cell (p := ⟨g, a * 3 + 1, none⟩) hg]; exact l1
  ·rw [hbw.cell (p := ⟨g, a * 3 + 2, none⟩) hg]; exact l2
  ·rw [hbw.cell (p := ⟨g, b * 3, none⟩) hg]; exact r0
  ·rw [hbw.cell (p := ⟨g, b * 3 + 1, none⟩) hg]; exact r1
  rw [hbw.cell (p := ⟨g, b * 3 + 2, none⟩) hg]; exact r2
 have HK := Lib.hid hk
 clear hk c0
 go_enter Tryd.func80, Tryd.ntmps80
 go_wp2_with fail
 go_region_held3 (fun w' => w'.cell? ⟨tb, 1, none⟩ = some (.slice (some ⟨g, 0, none⟩) n cap) ∧ w'.cell? ⟨w.heap.size, 2, none⟩ = some (.int .i64 a) ∧ w'.cell? ⟨w.heap.size, 3, none⟩ = some (.int .i64 b) ∧ w'.cell? ⟨g, a * 3, none⟩ = some (.int .u64 k1) ∧ w'.cell? ⟨g, a * 3 + 1, none⟩ = some (.int .i64 v1) ∧ w'.cell? ⟨g, a * 3 + 2, none⟩ = some (.bool true) ∧ w'.cell? ⟨g, b * 3, none⟩ = some (.int .u64 k2) ∧ w'.cell? ⟨g, b * 3 + 1, none⟩ = some (.int .i64 v2) ∧ w'.cell? ⟨g, b * 3 + 2, none⟩ = some (.bool true)) (exact HK.out _ (by go_grown)) (first | fail)
 all_goals
  go_wp2_with fail
  refine (qKs 2 k1 k2 _ (by unfold U64; omega) hkk1.out hkk2.out).mono ?_
  rintro e w' ⟨rfl, rfl⟩
  by_cases h1 : a = b
  ·have h2 : ((a : Int) != (b : Int)) = false := by simp [h1]
   clear h1 HB
   go_wp2_with fail
   refine bodyPost_ret (v := .agg #[.int .u64 (mix 2 k1 k2 : Nat), .int .i64 (-1), .bool true]) (by simp [results, Tryd.results80, go_sem]) rfl ⟨rfl, by go_grown⟩
  have h2 : ((a : Int) != (b : Int)) = true := by simp; omega
  by_cases h3 : v1 < 0
  ·have h4 : decide (0 ≤ v1) = false := by simp; omega
   clear h1 HB
   go_wp2_with fail
   refine bodyPost_ret (v := .agg #[.int .u64 (mix 2 k1 k2 : Nat), .int .i64 (-1), .bool true]) (by simp [results, Tryd.results80, go_sem]) rfl ⟨rfl, by go_grown⟩
  have h4 : decide (0 ≤ v1) = true := by simp; omega
  have h5 : decide (0 ≤ v2) = false := by
   rcases HB.out with h | h | h
   ·exact absurd h h1
   ·exact absurd h h3
   simp; omega
  clear h1 h3 HB
  go_wp2_with fail
  refine bodyPost_ret (v := .agg #[.int .u64 (mix 2 k1 k2 : Nat), .int .i64 (-1), .bool true]) (by simp [results, Tryd.results80, go_sem]) rfl ⟨rfl, by go_grown⟩

theorem qSp (w : World) (tb g n cap : Nat) (a b k1 k2 v1 v2 m : Nat) (hmax : m = max v1 v2) (hT : TabAt w) (ha : a < n) (hb : b < n) (hk1 : k1 < P61) (hk2 : k2 < P61) (hv1 : v1 < 1099511627776) (hv2 : v2 < 1099511627776) (hab : a ≠ b) (ht : w.cell? ⟨tb, 1, none⟩ = some (.slice (some ⟨g, 0, none⟩) n cap)) (hg : g < w.heap.size) (htb : tb < w.heap.size) (hn : 0 < n ∧ n ≤ cap ∧ n ≤ 1048577)
  (l0 : w.cell? ⟨g, a * 3, none⟩ = some (.int .u64 k1)) (l1 : w.cell? ⟨g, a * 3 + 1, none⟩ = some (.int .i64 (v1 : Nat))) (l2 : w.cell? ⟨g, a * 3 + 2, none⟩ = some (.bool true)) (r0 : w.cell? ⟨g, b * 3, none⟩ = some (.int .u64 k2)) (r1 : w.cell? ⟨g, b * 3 + 1, none⟩ = some (.int .i64 (v2 : Nat))) (r2 : w.cell? ⟨g, b * 3 + 2, none⟩ = some (.bool true)) :
  Calls Tryd.prog 80 #[.pointer (some ⟨tb, 0, none⟩), .agg #[.int .i64 2, .int .u8 0, .int .i64 a, .int .i64 b, .int .i64 0]] w fun e w' => e = .returned (.agg #[.int .u64 (mix 2 k1 k2 : Nat), .int .i64 (after m k1 k2 : Nat), .bool true]) ∧ Below w.heap.size w w' := by
 obtain ⟨hn, hnc, hn2⟩ := hn
 have hkk1 := Lib.hid (ltU hk1)
 have hkk2 := Lib.hid (ltU hk2)
 have HK1 := Lib.hid hk1
 have HK2 := Lib.hid hk2
 have h2 : ((a : Int) != (b : Int)) = true := by simp; omega
 have h4 : decide ((0 : Int) ≤ (v1 : Int)) = true := by simp
 have h5 : decide ((0 : Int) ≤ (v2 : Int)) = true := by simp
 have HT := Lib.hid hT
 have h0 : 0 < w.heap.size := by omega
 have HM := Lib.hid hmax
 clear hk1 hk2 hab hT hmax
 have c0 := Blk.new_at w rfl [.int .i64 2, .int .u8 0, .int .i64 a, .int .i64 b, .int .i64 0] 72
 have hk : ∀ w', Below (w.heap.size + 1) (w.alloc (.cells #[.int .i64 2, .int .u8 0, .int .i64 a, .int .i64 b, .int .i64 0] 72)) w' → w'.cell? ⟨tb, 1, none⟩ = some (.slice (some ⟨g, 0, none⟩) n cap) ∧ w'.cell? ⟨w.heap.size, 2, none⟩ = some (.int .i64 a) ∧ w'.cell? ⟨w.heap.size, 3, none⟩ = some (.int .i64 b) ∧ w'.cell? ⟨g, a * 3, none⟩ = some (.int .u64 k1) ∧ w'.cell? ⟨g, a * 3 + 1, none⟩ = some (.int .i64 (v1 : Nat)) ∧ w'.cell? ⟨g, a * 3 + 2, none⟩ = some (.bool true) ∧ w'.cell? ⟨g, b * 3, none⟩ = some (.int .u64 k2) ∧ w'.cell? ⟨g, b * 3 + 1, none⟩ = some (.int .i64 (v2 : Nat)) ∧ w'.cell? ⟨g, b * 3 + 2, none⟩ = some (.bool true) := by
  intro w' hb'
  have hbw : Below w.heap.size w w' := Below.trans (by go_grown) (hb'.mono (by omega))
  have c1 := c0.below hb' (by omega)
  refine ⟨?_, c1.cell 2 rfl, c1.cell 3 rfl, ?_, ?_, ?_, ?_, ?_, ?_⟩
  ·rw [hbw.cell (p := ⟨tb, 1, none⟩) htb]; exact ht
  ·rw [hbw.cell (p := ⟨g, a * 3, none⟩) hg]; exact l0
  ·rw [hbw.cell (p := ⟨g, a * 3 + 1, none⟩) hg]; exact l1
  ·rw [hbw.cell (p := ⟨g, a * 3 + 2, none⟩) hg]; exact l2
  ·rw [hbw.cell (p := ⟨g, b * 3, none⟩) hg]; exact r0
  ·rw [hbw.cell (p := ⟨g, b * 3 + 1, none⟩) hg]; exact r1
  rw [hbw.cell (p := ⟨g, b * 3 + 2, none⟩) hg]; exact r2
 have HK := Lib.hid hk
 clear hk c0
 go_enter Tryd.func80, Tryd.ntmps80
 go_wp2_with fail
 go_region_held3 (fun w' => w'.cell? ⟨tb, 1, none⟩ = some (.slice (some ⟨g, 0, none⟩) n cap) ∧ w'.cell? ⟨w.heap.size, 2, none⟩ = some (.int .i64 a) ∧ w'.cell? ⟨w.heap.size, 3, none⟩ = some (.int .i64 b) ∧ w'.cell? ⟨g, a * 3, none⟩ = some (.int .u64 k1) ∧ w'.cell? ⟨g, a * 3 + 1, none⟩ = some (.int .i64 (v1 : Nat)) ∧ w'.cell? ⟨g, a * 3 + 2, none⟩ = some (.bool true) ∧ w'.cell? ⟨g, b * 3, none⟩ = some (.int .u64 k2) ∧ w'.cell? ⟨g, b * 3 + 1, none⟩ = some (.int .i64 (v2 : Nat)) ∧ w'.cell? ⟨g, b * 3 + 2, none⟩ = some (.bool true)) (exact HK.out _ (by go_grown)) (first | fail)
 all_goals
  go_wp2_with fail
  refine (qKs 2 k1 k2 _ (by unfold U64; omega) hkk1.out hkk2.out).mono ?_
  rintro e w' ⟨rfl, rfl⟩
  rcases Nat.lt_trichotomy v1 v2 with hm | hm | hm
  ·obtain rfl : m = v2 := HM.out.trans (Nat.max_eq_right (by omega))
   go_wp2_with fail
   all_goals
    refine (qMl m k1 k2 _ (by omega) HK1.out HK2.out (qOj HT.out h0 (by go_grown))).mono ?_
    rintro e w' ⟨rfl, rfl⟩
    go_wp2_with fail
    refine bodyPost_ret (v := .agg #[.int .u64 (mix 2 k1 k2 : Nat), .int .i64 (after m k1 k2 : Nat), .bool true]) (by simp [results, Tryd.results80, go_sem]) rfl ⟨rfl, by go_grown⟩
  ·obtain rfl : v1 = v2 := hm
   obtain rfl : m = v1 := HM.out.trans (Nat.max_self _)
   go_wp2_with fail
   all_goals
    refine (qMl m k1 k2 _ (by omega) HK1.out HK2.out (qOj HT.out h0 (by go_grown))).mono ?_
    rintro e w' ⟨rfl, rfl⟩
    go_wp2_with fail
    refine bodyPost_ret (v := .agg #[.int .u64 (mix 2 k1 k2 : Nat), .int .i64 (after m k1 k2 : Nat), .bool true]) (by simp [results, Tryd.results80, go_sem]) rfl ⟨rfl, by go_grown⟩
  obtain rfl : m = v1 := HM.out.trans (Nat.max_eq_left (by omega))
  go_wp2_with fail
  all_goals
   refine (qMl m k1 k2 _ (by omega) HK1.out HK2.out (qOj HT.out h0 (by go_grown))).mono ?_
   rintro e w' ⟨rfl, rfl⟩
   go_wp2_with fail
   refine bodyPost_ret (v := .agg #[.int .u64 (mix 2 k1 k2 : Nat), .int .i64 (after m k1 k2 : Nat), .bool true]) (by simp [results, Tryd.results80, go_sem]) rfl ⟨rfl, by go_grown⟩

theorem qQc (w : World) (tb g n cap : Nat) (a k1 k : Nat) (v1 r : Int) (hr : r = if 0 ≤ v1 ∧ v1 % 2 = 0 then v1 + 1 else -1) (ha : a < n) (hk1 : k1 < P61) (hkk : k < 9223372036854775808) (hv : v1 < 1099511627776) (ht : w.cell? ⟨tb, 1, none⟩ = some (.slice (some ⟨g, 0, none⟩) n cap)) (hg : g < w.heap.size) (htb : tb < w.heap.size) (hn : 0 < n ∧ n ≤ cap ∧ n ≤ 1048577)
  (l0 : w.cell? ⟨g, a * 3, none⟩ = some (.int .u64 k1)) (l1 : w.cell? ⟨g, a * 3 + 1, none⟩ = some (.int .i64 v1)) (l2 : w.cell? ⟨g, a * 3 + 2, none⟩ = some (.bool true)) (r0 : w.cell? ⟨g, 0, none⟩ = some (.int .u64 0)) (r1 : w.cell? ⟨g, 1, none⟩ = some (.int .i64 0)) (r2 : w.cell? ⟨g, 2, none⟩ = some (.bool false)) :
  Calls Tryd.prog 80 #[.pointer (some ⟨tb, 0, none⟩), .agg #[.int .i64 3, .int .u8 0, .int .i64 a, .int .i64 0, .int .i64 k]] w fun e w' => e = .returned (.agg #[.int .u64 (mix 3 k1 k : Nat), .int .i64 r, .bool true]) ∧ Below w.heap.size w w' := by
 obtain ⟨hn, hnc, hn2⟩ := hn
 have hkk1 := Lib.hid (ltU hk1)
 have hwr : IntKind.u64.wrap (k : Int) = k := wrap_u64 k (by unfold U64; omega)
 have HR := Lib.hid hr
 clear hk1 hr
 have c0 := Blk.new_at w rfl [.int .i64 3, .int .u8 0, .int .i64 a, .int .i64 0, .int .i64 k] 72
 have hk : ∀ w', Below (w.heap.size + 1) (w.alloc (.cells #[.int .i64 3, .int .u8 0, .int .i64 a, .int .i64 0, .int .i64 k] 72)) w' → w'.cell? ⟨tb, 1, none⟩ = some (.slice (some ⟨g, 0, none⟩) n cap) ∧ w'.cell? ⟨w.heap.size, 2, none⟩ = some (.int .i64 a) ∧ w'.cell? ⟨w.heap.size, 3, none⟩ = some (.int .i64 0) ∧ w'.cell? ⟨g, a * 3, none⟩ = some (.int .u64 k1) ∧ w'.cell? ⟨g, a * 3 + 1, none⟩ = some (.int .i64 v1) ∧ w'.cell? ⟨g, a * 3 + 2, none⟩ = some (.bool true) ∧ w'.cell? ⟨g, 0, none⟩ = some (.int .u64 0) ∧ w'.cell? ⟨g, 1, none⟩ = some (.int .i64 0) ∧ w'.cell? ⟨g, 2, none⟩ = some (.bool false) := by
  intro w' hb'
  have hbw : Below w.heap.size w w' := Below.trans (by go_grown) (hb'.mono (by omega))
  have c1 := c0.below hb' (by omega)
  refine ⟨?_, c1.cell 2 rfl, c1.cell 3 rfl, ?_, ?_, ?_, ?_, ?_, ?_⟩
  ·rw [hbw.cell (p := ⟨tb, 1, none⟩) htb]; exact ht
  ·rw [hbw.cell (p := ⟨g, a * 3, none⟩) hg]; exact l0
  ·rw [hbw.cell (p := ⟨g, a * 3 + 1, none⟩) hg]; exact l1
  ·rw [hbw.cell (p := ⟨g, a * 3 + 2, none⟩) hg]; exact l2
  ·rw [hbw.cell (p := ⟨g, 0, none⟩) hg]; exact r0
  ·rw [hbw.cell (p := ⟨g, 1, none⟩) hg]; exact r1
  rw [hbw.cell (p := ⟨g, 2, none⟩) hg]; exact r2
 have HK := Lib.hid hk
 clear hk c0
 go_enter Tryd.func80, Tryd.ntmps80
 go_wp2_with fail
 go_region_held3 (fun w' => w'.cell? ⟨tb, 1, none⟩ = some (.slice (some ⟨g, 0, none⟩) n cap) ∧ w'.cell? ⟨w.heap.size, 2, none⟩ = some (.int .i64 a) ∧ w'.cell? ⟨w.heap.size, 3, none⟩ = some (.int .i64 0) ∧ w'.cell? ⟨g, a * 3, none⟩ = some (.int .u64 k1) ∧ w'.cell? ⟨g, a * 3 + 1, none⟩ = some (.int .i64 v1) ∧ w'.cell? ⟨g, a * 3 + 2, none⟩ = some (.bool true) ∧ w'.cell? ⟨g, 0, none⟩ = some (.int .u64 0) ∧ w'.cell? ⟨g, 1, none⟩ = some (.int .i64 0) ∧ w'.cell? ⟨g, 2, none⟩ = some (.bool false)) (exact HK.out _ (by go_grown)) (first | fail)
 all_goals
  by_cases h1 : 0 ≤ v1
  ·have h4 : decide (0 ≤ v1) = true := by simpa using h1
   by_cases h2 : v1 % 2 = 0
   ·obtain rfl := HR.out.trans (if_pos ⟨h1, h2⟩)
    go_wp2_with fail
    refine (qKs 3 k1 k _ (by unfold U64; omega) hkk1.out (by unfold U64; omega)).mono ?_
    rintro e w' ⟨rfl, rfl⟩
    go_wp2_with fail
    refine bodyPost_ret (v := .agg #[.int .u64 (mix 3 k1 k : Nat), .int .i64 (v1 + 1), .bool true]) (by simp [results, Tryd.results80, go_sem]) rfl ⟨rfl, by go_grown⟩
   obtain rfl := HR.out.trans (if_neg (fun h => h2 h.2))
   have h5 : v1 % 2 = 1 := by omega
   clear h2
   go_wp2_with fail
   refine (qKs 3 k1 k _ (by unfold U64; omega) hkk1.out (by unfold U64; omega)).mono ?_
   rintro e w' ⟨rfl, rfl⟩
   go_wp2_with fail
   refine bodyPost_ret (v := .agg #[.int .u64 (mix 3 k1 k : Nat), .int .i64 (-1), .bool true]) (by simp [results, Tryd.results80, go_sem]) rfl ⟨rfl, by go_grown⟩
  have h4 : decide (0 ≤ v1) = false := by simpa using h1
  obtain rfl := HR.out.trans (if_neg (fun h => h1 h.1))
  clear h1
  go_wp2_with fail
  refine (qKs 3 k1 k _ (by unfold U64; omega) hkk1.out (by unfold U64; omega)).mono ?_
  rintro e w' ⟨rfl, rfl⟩
  go_wp2_with fail
  refine bodyPost_ret (v := .agg #[.int .u64 (mix 3 k1 k : Nat), .int .i64 (-1), .bool true]) (by simp [results, Tryd.results80, go_sem]) rfl ⟨rfl, by go_grown⟩
end
end Go.Proofs.YtlleicanafioaaaDoor
namespace Eg
def fkey (acc : List (Nat × Int)) : Rl → Nat × Int
 | .letter b => (mix 1 b.toNat 0, 0)
 | .pair l r => (mix 2 (nth (0, 0) acc l).1 (nth (0, 0) acc r).1,
   if l ≠ r ∧ 0 ≤ (nth (0, 0) acc l).2 ∧ 0 ≤ (nth (0, 0) acc r).2 then ((after (max (nth (0, 0) acc l).2.toNat (nth (0, 0) acc r).2.toNat) (nth (0, 0) acc l).1 (nth (0, 0) acc r).1 : Nat) : Int) else -1)
 | .power x k => (mix 3 (nth (0, 0) acc x).1 k, if 0 ≤ (nth (0, 0) acc x).2 ∧ (nth (0, 0) acc x).2 % 2 = 0 then (nth (0, 0) acc x).2 + 1 else -1)
theorem zAv (acc : List (Nat × Int)) (l r : Nat) : fkey acc (.pair l r) = (mix 2 (nth (0, 0) acc l).1 (nth (0, 0) acc r).1,
   if l ≠ r ∧ 0 ≤ (nth (0, 0) acc l).2 ∧ 0 ≤ (nth (0, 0) acc r).2 then ((after (max (nth (0, 0) acc l).2.toNat (nth (0, 0) acc r).2.toNat) (nth (0, 0) acc l).1 (nth (0, 0) acc r).1 : Nat) : Int) else -1) := rfl
theorem qYo (acc : List (Nat × Int)) (x k : Nat) : fkey acc (.power x k) = (mix 3 (nth (0, 0) acc x).1 k, if 0 ≤ (nth (0, 0) acc x).2 ∧ (nth (0, 0) acc x).2 % 2 = 0 then (nth (0, 0) acc x).2 + 1 else -1) := rfl
def key (L : List Rl) (i : Nat) : Nat := (nth (0, 0) (tab fkey L) i).1
def lvl (L : List Rl) (i : Nat) : Int := (nth (0, 0) (tab fkey L) i).2
theorem qAi {L : List Rl} (M : List Rl) {i : Nat} (h : i ≤ L.length) : key (L ++ M) i = key L i := by unfold key; rw [qNp _ M h]
theorem qCs {L : List Rl} (M : List Rl) {i : Nat} (h : i ≤ L.length) : lvl (L ++ M) i = lvl L i := by unfold lvl; rw [qNp _ M h]
theorem zBe {L : List Rl} {i : Nat} {r : Rl} (h : L[i]? = some r) : nth (0, 0) (tab fkey L) (i + 1) = fkey (tab fkey (L.take i)) r := by
 rw [qDi, qIv L h]; rfl
theorem qCp {L : List Rl} {i : Nat} {b : UInt8} (h : L[i]? = some (.letter b)) : key L (i + 1) = mix 1 b.toNat 0 ∧ lvl L (i + 1) = 0 := by
 unfold key lvl; rw [zBe h]; exact ⟨rfl, rfl⟩
theorem qFi {L : List Rl} {i l r : Nat} (h : L[i]? = some (.pair l r)) (hk : (Rl.pair l r).ok (i + 1)) :
  key L (i + 1) = mix 2 (key L l) (key L r) ∧ lvl L (i + 1) = if l ≠ r ∧ 0 ≤ lvl L l ∧ 0 ≤ lvl L r then ((after (max (lvl L l).toNat (lvl L r).toNat) (key L l) (key L r) : Nat) : Int) else -1 := by
 have hi : i < L.length := (List.getElem?_eq_some_iff.1 h).1
 obtain ⟨_, h1, _, h2⟩ := hk
 unfold key lvl
 rw [zBe h, zAv, qEk (0, 0) (by omega) (by omega), qEk (0, 0) (by omega) (by omega)]
 exact ⟨rfl, rfl⟩
theorem qEd {L : List Rl} {i x k : Nat} (h : L[i]? = some (.power x k)) (hk : (Rl.power x k).ok (i + 1)) :
  key L (i + 1) = mix 3 (key L x) k ∧ lvl L (i + 1) = if 0 ≤ lvl L x ∧ lvl L x % 2 = 0 then lvl L x + 1 else -1 := by
 have hi : i < L.length := (List.getElem?_eq_some_iff.1 h).1
 obtain ⟨_, h1, _⟩ := hk
 unfold key lvl
 rw [zBe h, qYo, qEk (0, 0) (by omega) (by omega)]
 exact ⟨rfl, rfl⟩
theorem key_zero (L : List Rl) : key L 0 = 0 := rfl
theorem qCg {L : List Rl} (h : Wf L) (i : Nat) : key L i < P61 := by
 cases i with
 | zero => rw [key_zero]; exact P61_pos
 | succ i =>
  by_cases hi : i < L.length
  ·have hg : L[i]? = some L[i] := List.getElem?_eq_getElem hi
   generalize L[i] = r at hg
   have hr := h.ok i r hg
   cases r with
   | letter b => rw [(qCp hg).1]; exact zBp _ _ _
   | pair l r => rw [(qFi hg hr).1]; exact zBp _ _ _
   | power x k => rw [(qEd hg hr).1]; exact zBp _ _ _
  have : key L (i + 1) = 0 := by
   unfold key
   rw [qDi, List.getElem?_eq_none (by rw [qEn]; omega)]; rfl
  rw [this]; exact P61_pos
theorem qNm {L : List Rl} (h : Wf L) : ∀ i, i ≤ L.length → -1 ≤ lvl L i ∧ lvl L i ≤ 501 * i := by
 intro i
 induction i using Nat.strongRecOn with
 | ind i ih =>
  intro hi
  cases i with
  | zero => exact ⟨by unfold lvl nth; simp, by unfold lvl nth; simp⟩
  | succ i =>
   have hg : L[i]? = some L[i] := List.getElem?_eq_getElem (by omega)
   generalize L[i] = r at hg
   have hr := h.ok i r hg
   cases r with
   | letter b => rw [(qCp hg).2]; omega
   | pair l r =>
    rw [(qFi hg hr).2]
    obtain ⟨h1, h2, h3, h4⟩ := hr
    have i1 := ih l (by omega) (by omega)
    have i2 := ih r (by omega) (by omega)
    split
    ·have := (qIy (low := max (lvl L l).toNat (lvl L r).toNat) (qCg h l) (qCg h r)).2
     omega
    omega
   | power x k =>
    rw [(qEd hg hr).2]
    obtain ⟨h1, h2, h3⟩ := hr
    have i1 := ih x (by omega) (by omega)
    split <;> omega
end Eg
