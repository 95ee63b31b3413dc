import Derived.Test.YtddfnkijolfhbaaGreatQ72
import Derived.Test.YtddfnkijolfhbaaGreatQ73
set_option linter.all false
set_option maxHeartbeats 1000000
namespace Go.Proofs.YtddfnkijolfhbaaGreat
open Go Go.RowKit Sl Eg
set_option maxRecDepth 10000
variable {E : Env} {s : Nat}
def tkL (Z : Nat → Nat) (n k : Nat) : List Nat := (List.range n).map fun j => if j ≤ k then Z j else 0
theorem qHq (Z : Nat → Nat) (n k : Nat) : (tkL Z n k).length = n := by simp [tkL]
theorem qWd {Z : Nat → Nat} (h : Z 0 = 0) (n : Nat) : List.replicate n (Value.int .i64 0) = idC (tkL Z n 0) := by
 apply List.ext_getElem?
 intro i
 unfold idC tkL
 rw [List.map_map, List.getElem?_map, List.getElem?_replicate]
 rcases Nat.lt_or_ge i n with hi | hi
 ·rw [if_pos hi, List.getElem?_range hi]
  simp only [Option.map_some, Function.comp]
  split
  ·rename_i h0
   obtain rfl : i = 0 := by omega
   rw [h]
   rfl
  rfl
 rw [if_neg (by omega), List.getElem?_eq_none (by simpa using hi)]; rfl
theorem zCd {Z : Nat → Nat} {n k j : Nat} (hj : j < n) (hk : j ≤ k) : (tkL Z n k)[j]? = some (Z j) := by
 unfold tkL
 rw [List.getElem?_map, List.getElem?_range hj]
 simp [hk]
theorem zCe {Z : Nat → Nat} {n k : Nat} (hk : k + 1 < n) (o : Nat) (ho : o = k + 1) {v : Int} (hv : v = (Z (k + 1) : Nat)) : zY (idC (tkL Z n k)) o (zQ (.int .i64 v)) = idC (tkL Z n (k + 1)) := by
 subst ho hv
 apply List.ext_getElem?
 intro i
 simp only [zY, zQ]
 unfold idC
 rw [List.getElem?_set, List.length_map, qHq, List.getElem?_map, List.getElem?_map]
 unfold tkL
 rw [List.getElem?_map, List.getElem?_map]
 rcases Nat.lt_or_ge i n with hi | hi
 ·rw [List.getElem?_range hi]
  simp only [Option.map_some]
  by_cases e : k + 1 = i
  ·subst e
   rw [if_pos rfl, if_pos hk, if_pos (Nat.le_refl _)]
  rw [if_neg e]
  by_cases h2 : i ≤ k
  ·rw [if_pos h2, if_pos (by omega)]
  rw [if_neg h2, if_neg (by omega)]
 rw [if_neg (by omega), List.getElem?_eq_none (by simpa using hi)]
 rfl
end Go.Proofs.YtddfnkijolfhbaaGreat
