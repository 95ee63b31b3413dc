import Derived.Test.YtddfnkijolfhbaaGreatQ21
import Derived.Lib.TrailingZeros
set_option linter.all false
set_option maxHeartbeats 1000000
namespace Eg
section
def bt (x b : Nat) : Nat := x / 2 ^ b % 2
def xr (x y : Nat) : Nat := x ^^^ y
def dn (x y h : Nat) : Nat := xr x y / 2 ^ h * 2 ^ h
def dm (x y h : Nat) : Nat := xr x y / 2 ^ h / 2 * 2 * 2 ^ h
def dd (c x y : Nat) : Nat := if c % 2 = 1 ∧ bt x (c / 2) = 0 then dm x y (c / 2) else dn x y (c / 2)
def fitI (c x y : Nat) : Int := if x = y then 122 else if c = 122 then -1 else if dd c x y = 0 then -1 else 2 * (Go.Lib.ctz 64 (dd c x y) : Nat) + (bt x (Go.Lib.ctz 64 (dd c x y)) : Nat)

def after (low x y : Nat) : Nat :=
 if 0 ≤ fitI (low / 2 % 123) x y then 2 * (low / 2 + 1 + (fitI (low / 2 % 123) x y).toNat - low / 2 % 123)
 else 2 * (low / 2 + 1 + (fitI 0 x y).toNat + 123 - low / 2 % 123)
end
section
def fkey (acc : List (Nat × Int)) : Rl → Nat × Int
 | .letter b => (mix 1 b.toNat 0, 0)
 | .pair l r => (mix 2 (nth (0, 0) acc l).1 (nth (0, 0) acc r).1,
   if l ≠ r ∧ 0 ≤ (nth (0, 0) acc l).2 ∧ 0 ≤ (nth (0, 0) acc r).2 then ((after (max (nth (0, 0) acc l).2.toNat (nth (0, 0) acc r).2.toNat) (nth (0, 0) acc l).1 (nth (0, 0) acc r).1 : Nat) : Int) else -1)
 | .power x k => (mix 3 (nth (0, 0) acc x).1 k, if 0 ≤ (nth (0, 0) acc x).2 ∧ (nth (0, 0) acc x).2 % 2 = 0 then (nth (0, 0) acc x).2 + 1 else -1)
def key (L : List Rl) (i : Nat) : Nat := (nth (0, 0) (tab fkey L) i).1
def lvl (L : List Rl) (i : Nat) : Int := (nth (0, 0) (tab fkey L) i).2
end
end Eg
