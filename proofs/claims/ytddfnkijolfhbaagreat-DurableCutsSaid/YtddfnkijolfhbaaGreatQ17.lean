import Derived.Test.YtddfnkijolfhbaaGreatQ08
set_option linter.all false
set_option maxHeartbeats 1000000
namespace Eg
def cmpT : List UInt8 → List UInt8 → Int
 | [], [] => 0
 | [], _ :: _ => -1
 | _ :: _, [] => 1
 | a :: A, b :: B => if a.toNat < b.toNat then -1 else if b.toNat < a.toNat then 1 else cmpT A B
theorem qFg (A B : List UInt8) : cmpT B A = - cmpT A B := by
 induction A generalizing B with
 | nil => cases B <;> simp [cmpT]
 | cons a A ih =>
  cases B with
  | nil => simp [cmpT]
  | cons b B =>
   simp only [cmpT]
   rcases Nat.lt_trichotomy a.toNat b.toNat with h | h | h
   ·rw [if_neg (by omega), if_pos h, if_pos h]; rfl
   ·rw [if_neg (by omega), if_neg (by omega), if_neg (by omega), if_neg (by omega), ih]
   rw [if_pos h, if_neg (by omega), if_pos h]
theorem qLs {A B : List UInt8} : cmpT A B = 0 ↔ A = B := by
 induction A generalizing B with
 | nil => cases B <;> simp [cmpT]
 | cons a A ih =>
  cases B with
  | nil => simp [cmpT]
  | cons b B =>
   simp only [cmpT]
   rcases Nat.lt_trichotomy a.toNat b.toNat with h | h | h
   ·rw [if_pos h]
    have : a ≠ b := by rintro rfl; omega
    simp [this]
   ·rw [if_neg (by omega), if_neg (by omega), ih]
    have : a = b := UInt8.toNat_inj.1 h
    simp [this]
   rw [if_neg (by omega), if_pos h]
   have : a ≠ b := by rintro rfl; omega
   simp [this]
theorem qYs (A : List UInt8) : cmpT A A = 0 := qLs.2 rfl
theorem qOd {A B C : List UInt8} (h1 : cmpT A B ≤ 0) (h2 : cmpT B C ≤ 0) : cmpT A C ≤ 0 := by
 induction A generalizing B C with
 | nil => cases C <;> simp [cmpT]
 | cons a A ih =>
  cases B with
  | nil => simp [cmpT] at h1
  | cons b B =>
   cases C with
   | nil => simp [cmpT] at h2
   | cons c C =>
    simp only [cmpT] at h1 h2 ⊢
    by_cases x1 : a.toNat < b.toNat
    ·by_cases x2 : c.toNat < b.toNat
     ·rw [if_neg (by omega), if_pos x2] at h2; omega
     rw [if_pos (by omega)]; omega
    rw [if_neg x1] at h1
    by_cases x3 : b.toNat < a.toNat
    ·rw [if_pos x3] at h1; omega
    rw [if_neg x3] at h1
    by_cases y1 : b.toNat < c.toNat
    ·rw [if_pos (by omega)]; omega
    rw [if_neg y1] at h2
    by_cases y3 : c.toNat < b.toNat
    ·rw [if_pos y3] at h2; omega
    rw [if_neg y3] at h2
    rw [if_neg (by omega), if_neg (by omega)]
    exact ih h1 h2
def Bgn (A B : List UInt8) : Prop := lcp A B = B.length
instance (A B : List UInt8) : Decidable (Bgn A B) := inferInstanceAs (Decidable (_ = _))
end Eg
