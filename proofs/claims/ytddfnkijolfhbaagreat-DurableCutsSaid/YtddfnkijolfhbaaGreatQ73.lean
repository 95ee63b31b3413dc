import Derived.Test.YtddfnkijolfhbaaGreatQ62
set_option linter.all false
set_option maxHeartbeats 1000000
namespace Sl
open Go Go.RowKit
variable {E : Env} {n : Nat} {L : Fr} {S : List HP} {ty : TypeId} {pos : String} {af : Array Edge} {d : Option Nat} {gd : Option (Nat × Bool)}
theorem y_shl {x y : Operand} {xt yt : TypeId} {i j : Nat} (hx : ev L x = some (.int .u64 (i : Nat))) (hy : ev L y = some (.int .i64 (j : Nat))) (hj : j ≤ 64) (hb : i * 2 ^ j < 18446744073709551616) :
  Yl E n L S ⟨d, .binOp .shl xt x y yt, ty, pos, af, gd⟩ (.int .u64 ((i * 2 ^ j : Nat) : Int)) := fun a w g _ => by
 have e : IntKind.u64.wrap ((i : Int) * 2 ^ min ((j : Nat) : Int).toNat IntKind.u64.bits) = ((i * 2 ^ j : Nat) : Int) := by
  rw [Int.toNat_natCast, show min j IntKind.u64.bits = j from Nat.min_eq_left hj]
  have e2 : (i : Int) * 2 ^ j = ((i * 2 ^ j : Nat) : Int) := by rw [Int.natCast_mul, Int.natCast_pow]; rfl
  rw [e2, IntKind.wrap_u64]
  omega
 have h := shift_shl_any .u64 .i64 (i : Int) ((j : Nat) : Int) (Int.natCast_nonneg j)
 rw [e] at h
 simp [execOp, eqGuard, binOp, g.ev hx, g.ev hy, h]
 have e2 : (i : Int) * 2 ^ j = ((i * 2 ^ j : Nat) : Int) := by rw [Int.natCast_mul, Int.natCast_pow]; rfl
 rw [e2, IntKind.wrap_u64]
 omega
theorem y_or64 {x y : Operand} {xt yt : TypeId} {i j : Nat} (hx : ev L x = some (.int .u64 (i : Nat))) (hy : ev L y = some (.int .u64 (j : Nat))) (hi : i < 18446744073709551616) (hj : j < 18446744073709551616) :
  Yl E n L S ⟨d, .binOp .or xt x y yt, ty, pos, af, gd⟩ (.int .u64 ((i ||| j : Nat) : Int)) := fun a w g _ => by
 have h := bits_or_u64_nat i j hi hj
 simp [execOp, eqGuard, binOp, Op.intBits, g.ev hx, g.ev hy]
 exact h
set_option maxRecDepth 100000 in
theorem and_127 : ∀ m : Fin 256, IntKind.u8.wrap (((BitVec.ofInt IntKind.u8.bits (m.val : Int) &&& BitVec.ofInt IntKind.u8.bits 127).toNat : Nat) : Int) = ((m.val % 128 : Nat) : Int) := by decide
theorem y_and127 {x y : Operand} {xt yt : TypeId} {i : Nat} (hi : i < 256) (hx : ev L x = some (.int .u8 (i : Nat))) (hy : ev L y = some (.int .u8 127)) :
  Yl E n L S ⟨d, .binOp .and xt x y yt, ty, pos, af, gd⟩ (.int .u8 ((i % 128 : Nat) : Int)) := fun a w g q => by
 have := qTk (xt := xt) (yt := yt) (ty := ty) (pos := pos) (af := af) (d := d) (gd := gd) (S := S) hx hy a w g q
 have e := and_127 ⟨i, hi⟩
 simp only at e
 rw [e] at this
 exact this
end Sl
namespace Go.Proofs.YtddfnkijolfhbaaGreat
open Go Go.RowKit Sl Eg
set_option maxRecDepth 10000
section
variable {E : Env}
theorem or_sum {a d j : Nat} (h : a < 2 ^ j) : a ||| d * 2 ^ j = a + d * 2 ^ j := by
 rw [Nat.or_comm, Nat.mul_comm, ← Nat.two_pow_add_eq_or_of_lt h, Nat.add_comm]
structure TkI (n : Nat) (i acc m : Nat) : Prop where
 sum : acc + m * 2 ^ (7 * i) = n
 low : acc < 2 ^ (7 * i)
 pos : 1 ≤ m ∨ i = 0
 few : i ≤ 9
theorem TkI.small {n i acc m : Nat} (h : TkI n i acc m) (hn : n < 18446744073709551616) : m * 2 ^ (7 * i) < 18446744073709551616 ∧ (i = 9 → m ≤ 1) := by
 have := h.sum
 refine ⟨by omega, fun e => ?_⟩
 subst e
 have e2 : (2 : Nat) ^ (7 * 9) = 9223372036854775808 := rfl
 rw [e2] at this
 omega
theorem TkI.next {n i acc m : Nat} (h : TkI n i acc m) (hn : n < 18446744073709551616) (hm : ¬ m < 128) : TkI n (i + 1) (acc + m % 128 * 2 ^ (7 * i)) (m / 128) ∧ m % 128 * 2 ^ (7 * i) < 18446744073709551616 := by
 obtain ⟨h1, h2, h3, h4⟩ := h
 have e : (2 : Nat) ^ (7 * (i + 1)) = 128 * 2 ^ (7 * i) := by rw [Nat.mul_add, Nat.pow_add, Nat.mul_comm]
 have h9 : i ≠ 9 := fun e => by
  subst e
  have e2 : (2 : Nat) ^ (7 * 9) = 9223372036854775808 := rfl
  rw [e2] at h1
  omega
 have hdm : m = 128 * (m / 128) + m % 128 := by omega
 generalize hP : 2 ^ (7 * i) = P at *
 have e3 : m * P = m / 128 * (128 * P) + m % 128 * P := by
  conv => lhs; rw [hdm]
  rw [Nat.add_mul, Nat.mul_comm 128 (m / 128), Nat.mul_assoc]
 have hlt : m % 128 < 128 := Nat.mod_lt _ (by omega)
 have hle : m % 128 * P ≤ 127 * P := Nat.mul_le_mul_right _ (by omega)
 refine ⟨⟨by rw [e]; omega, by rw [e]; omega, .inl (by omega), by omega⟩, by omega⟩
theorem qVh {Bs : List UInt8} {i : Nat} {b : UInt8} (h : Bs[i]? = some b) (o : Nat) (ho : o = i) : (byC Bs)[o]? = some (.int .u8 (b.toNat : Nat)) := by subst ho; unfold byC; rw [List.getElem?_map, h]; rfl
theorem qSu {i : Nat} (h : i < 256) : (UInt8.ofNat i).toNat = i := by rw [UInt8.toNat_ofNat']; simp; omega
structure TkG where
 i : Nat
 acc : Nat
 m : Nat
theorem qIu (hE : Seat E) {n : Nat} {t Bs : List UInt8} (hn : n < 18446744073709551616) (hBs : Bs = vput n ++ t) {a : Option Addr} {c : Nat} {q : HP} (hq : Rdb E.w0 a (byC Bs) q) : Ct E 137 [.slice a Bs.length c] [q] (fun v Q => v = .tuple #[.int .u64 (n : Nat), .int .i64 ((vput n).length : Nat), .nilIface] ∧ Q = [q]) := by
 have hpos := qCq n
 have hBl : Bs.length = (vput n).length + t.length := by rw [hBs, List.length_append]
 have hten := qBr hn
 obtain ⟨g, o, rfl, hq'⟩ := hq (qKp (by intro e; rw [e] at hBl; simp at hBl; omega))
 refine zP (hE.fn Tryz.func137) rfl rfl rfl (fun R => ?_)
 simp only [qAe, uV, uW]
 refine qL (qJ (uA rfl (uA rfl (uA rfl (qM (qK (qL (qL (qJ (uM rfl (uB (uBl rfl) ?_)))))))))))
 refine uM rfl (qM (qK (zL ?_)))
 refine qAj (fun x : TkG => [(2, .int .u64 (x.acc : Nat)), (7, .slice (some ⟨g, o, none⟩) Bs.length c), (8, .int .i64 (Bs.length : Nat)), (9, .int .i64 (x.i : Nat))]) (fun x => [q, R]) (fun x => 10 - x.i) (fun x => TkI n x.i x.acc x.m ∧ Bs.drop x.i = vput x.m ++ t ∧ x.i + (vput x.m).length = (vput n).length) ⟨0, 0, n⟩ ⟨⟨by simp, by simp, .inr rfl, Nat.zero_le _⟩, hBs, by simp⟩ ⟨rfl, rfl, rfl, rfl, trivial⟩ uI ?_
 rintro ⟨i, acc, m⟩ ⟨hI, hdr, hil⟩
 simp only at hI hdr hil ⊢
 have hmp := qCq m
 have hi9 := hI.few
 obtain ⟨hsm, h91⟩ := hI.small hn
 have hlow := hI.low
 have hsum := hI.sum
 have hmn : m < 18446744073709551616 := by
  have : m * 1 ≤ m * 2 ^ (7 * i) := Nat.mul_le_mul_left _ (Nat.one_le_two_pow)
  omega
 have hBi : i < Bs.length := by omega
 refine qL (qJ (uB (y_lt rfl rfl) ?_))
 refine qM (qK (qL ?_))
 refine zF rfl (fun h => ?_) (fun h => ?_)
 ·obtain ⟨bv, f0, hb1, hb2, hb3, hb4⟩ : ∃ bv : Nat, (byC Bs)[i]? = some (.int .u8 (bv : Nat)) ∧ bv < 256 ∧ bv % 128 = m % 128 ∧ (bv < 128 ↔ m < 128) ∧ (m < 128 → bv = m) := by
   have hh : (Bs.drop i).head? = Bs[i]? := List.head?_drop
   by_cases hm : m < 128
   ·rw [hdr, qEm hm] at hh
    exact ⟨m, by have := qVh hh.symm i rfl; rwa [qSu (by omega)] at this, by omega, rfl, by omega, fun _ => rfl⟩
   rw [hdr, qHa hm] at hh
   exact ⟨m % 128 + 128, by have := qVh hh.symm i rfl; rwa [qSu (by omega)] at this, by omega, by omega, by omega, fun h => absurd h hm⟩
  have f1 : (byC Bs)[((i : Nat) : Int).toNat]? = some (.int .u8 (bv : Nat)) := by rw [Int.toNat_natCast]; exact f0
  have hdm : bv % 128 * 2 ^ (7 * i) < 18446744073709551616 := by
   rw [hb2]
   by_cases hm : m < 128
   ·rw [Nat.mod_eq_of_lt hm]; exact hsm
   exact (hI.next hn hm).2
  have hacc : acc < 18446744073709551616 := by omega
  refine zC (qK (qL (zL (qL (qJ (uM rfl (uB (uAi rfl rfl) ?_)))))))
  apply qB
  ·(apply zK rfl (hE.t rfl) rfl (by assumption); (focus ((repeat constructor); done)); (first | ((focus exact f0); (focus omega)) | ((focus exact f1); (focus omega)) | ((focus assumption); (focus omega))))
  ·rfl
  refine uA rfl (uA rfl (qM (qK ?_)))
  refine qDs (fun _ : Unit => [(2, .int .u64 (acc : Nat)), (5, .int .i64 (i : Nat)), (6, .int .u8 (bv : Nat)), (7, .slice (some ⟨g, o, none⟩) Bs.length c), (8, .int .i64 (Bs.length : Nat)), (9, .int .i64 (i : Nat))]) (fun _ => [q, R]) (fun _ => True) ?_ ?_
  ·refine qL (qJ ?_)
   refine uM rfl (uB (y_eq rfl rfl) ?_)
   refine uM rfl ?_
   refine qAl 16 rfl (fun h9 => ?_) (fun h9 => ?_)
   ·have h1 := h91 (by omega)
    refine kQ rfl rfl (uM rfl (kQ rfl rfl (uB (y_gt rfl rfl) ?_)))
    refine uB (qY rfl rfl) ?_
    refine qM (qK ?_)
    refine zF rfl (fun h2 => ?_) (fun h2 => ?_)
    ·exfalso; omega
    refine zC ?_
    refine qBd (ι := Unit) () trivial ⟨rfl, rfl, rfl, rfl, rfl, rfl, trivial⟩ ?_
    exact uI
   refine zU rfl rfl rfl rfl (zU rfl rfl rfl rfl ?_)
   refine uB (qZ rfl rfl) ?_
   refine qM (qK (zD rfl (zC ?_)))
   refine qBd (ι := Unit) () trivial ⟨rfl, rfl, rfl, rfl, rfl, rfl, trivial⟩ ?_
   exact uI
  rintro ⟨⟩ -
  refine qL (qJ (uM rfl (uM rfl (uB (y_and127 hb1 rfl rfl) ?_))))
  refine uB (uAc rfl) ?_
  refine uM rfl (uB (qJn rfl rfl (by omega) (by omega)) ?_)
  refine l_eq 26 (.int .i64 ((7 * i : Nat) : Int)) rfl (zX (by omega)) ?_
  refine uB (y_shl rfl rfl (by omega) hdm) ?_
  refine uB (y_or64 rfl rfl hacc hdm) ?_
  refine l_eq 28 (.int .u64 ((acc + bv % 128 * 2 ^ (7 * i) : Nat) : Int)) rfl (by rw [or_sum hlow]) ?_
  refine uA rfl (qM (qK (qL (qJ (uM rfl (uB (y_lt rfl rfl) ?_))))))
  refine qM (qK ?_)
  refine zF rfl (fun h3 => ?_) (fun h3 => ?_)
  ·have hm : m < 128 := hb3.1 (by omega)
   have hbm := hb4 hm
   subst hbm
   rw [qEm hm] at hil
   have hil' : i + 1 = (vput n).length := by simpa using hil
   have hres : acc + bv % 128 * 2 ^ (7 * i) = n := by rw [Nat.mod_eq_of_lt hm]; exact hsum
   refine qL (qL (qJ (uM rfl (uB (y_eq rfl rfl) ?_))))
   refine uM rfl ?_
   refine qAl 33 rfl (fun z => ?_) (fun z => ?_)
   ·have hi0 : i = 0 := by
     rcases hI.pos with h | h
     ·omega
     exact h
    refine kQ rfl rfl (uM rfl (kQ rfl rfl (uB (y_gt rfl rfl) ?_)))
    refine uB (qY rfl rfl) ?_
    refine qM (qK ?_)
    refine zF rfl (fun z2 => ?_) (fun z2 => ?_)
    ·exfalso; omega
    refine zC (qK (qL (qJ (uM rfl (uM rfl (uB (uAa rfl rfl) ?_))))))
    refine uA rfl (uA rfl (uA rfl (qM (qK (kC (zO (qX (qX (zO (qX ?_))))))))))
    apply kD
    ·rfl
    ·(apply Rs.tmp rfl; apply Rs.tmp rfl; apply Rs.tmp rfl; exact Rs.nil)
    ·rw [hres]
     exact ⟨by rw [← hil']; rfl, rfl⟩
    exact uI
   refine zU rfl rfl rfl rfl (zU rfl rfl rfl rfl ?_)
   refine uB (qZ rfl rfl) ?_
   refine qM (qK (zD rfl (zC (qK (qL (qJ (uM rfl (uM rfl (uB (uAa rfl rfl) ?_)))))))))
   refine uA rfl (uA rfl (uA rfl (qM (qK (kC (zO (qX (qX (zO (qX ?_))))))))))
   apply kD
   ·rfl
   ·(apply Rs.tmp rfl; apply Rs.tmp rfl; apply Rs.tmp rfl; exact Rs.nil)
   ·rw [hres]
    exact ⟨by rw [← hil']; rfl, rfl⟩
   exact uI
  have hm : ¬ m < 128 := fun h => h3 (by have := hb3.2 h; omega)
  have hnx := (hI.next hn hm).1
  rw [qHa hm] at hil hdr
  refine zC (zJ (qK (qJ (uB (uAa rfl rfl) ?_))))
  refine uM rfl (qM ?_)
  refine zT (ι := TkG) (j := ⟨i + 1, acc + bv % 128 * 2 ^ (7 * i), m / 128⟩) ⟨by rw [hb2]; exact hnx, ?_, by simp only; simp at hil; omega⟩ (by simp only; omega) ⟨rfl, rfl, rfl, congrArg some (zX (by simp only; omega)), trivial⟩ uI
  simp only
  rw [← List.drop_drop, hdr]
  rfl
 exact absurd (show ((i : Nat) : Int) < (Bs.length : Nat) by omega) h
end
section
variable {E : Env}
def vwA (a : Option Addr) (c k : Nat) : Option Addr := if c = k then a else a.map (·.add (k * 1))
theorem byC_drop (Bs : List UInt8) (k : Nat) : byC (Bs.drop k) = (byC Bs).drop k := by unfold byC; rw [List.map_drop]
theorem qBz {w0 : World} {a : Option Addr} {Bs : List UInt8} {q : HP} {c k : Nat} (h : Rdb w0 a (byC Bs) q) (hc : Bs.length ≤ c) : Rdb w0 (vwA a c k) (byC (Bs.drop k)) q := fun hne => by
 have hk : k < Bs.length := by
  apply Classical.byContradiction
  intro hn
  rw [List.drop_eq_nil_of_le (by omega)] at hne
  exact hne rfl
 obtain ⟨g, o, rfl, hr⟩ := h (qKp (by intro e; rw [e] at hk; simp at hk))
 unfold vwA
 rw [if_neg (by omega)]
 refine ⟨g, o + k, by simp [Addr.add], fun u hu i v hv => ?_⟩
 rw [byC_drop, List.getElem?_drop] at hv
 have := hr u hu (k + i) v hv
 rw [Nat.add_assoc]
 exact this
theorem ct_two (hE : Seat E) {x y : Nat} {b0 : UInt8} {t Bs : List UInt8} (hx : x < 9223372036854775808) (hy : y < 9223372036854775808) (hBs : Bs = b0 :: (vput x ++ (vput y ++ t))) {a : Option Addr} {c : Nat} {q : HP} (hq : Rdb E.w0 a (byC Bs) q) (hc : Bs.length ≤ c) : Ct E 156 [.slice a Bs.length c] [q] (fun v Q => v = .tuple #[.int .i64 (x : Nat), .int .i64 (y : Nat), .int .i64 ((1 + (vput x).length + (vput y).length : Nat) : Int), .bool true] ∧ Q = [q]) := by
 have h1 := qBr (n := x) (by omega)
 have h2 := qBr (n := y) (by omega)
 have hBl : Bs.length = 1 + (vput x).length + (vput y).length + t.length := by rw [hBs]; simp; omega
 have d1 : Bs.drop 1 = vput x ++ (vput y ++ t) := by rw [hBs]; rfl
 have d2 : Bs.drop (1 + (vput x).length) = vput y ++ t := by rw [← List.drop_drop, d1]; simp
 refine zP (hE.fn Tryz.func156) rfl rfl rfl (fun R => ?_)
 simp only [qAe, uV, uW]
 refine qL (qJ (uA rfl (uA rfl (uA rfl (uA rfl (qM (qK (qL (qJ (uM rfl ?_))))))))))
 refine uB (qBv (l := 1) (h := Bs.length) rfl (hE.t rfl) ⟨_, rfl⟩ rfl (by omega) (by omega)) ?_
 refine l_eq 12 (.slice (vwA a c (1)) (Bs.drop 1).length (c - (1))) rfl (congrArg (fun z => Value.slice _ z _) (by rw [List.length_drop])) ?_
 refine uX (qIu (n := x) hE (by omega) d1 (qBz hq hc)) rfl ?_
 rintro _ _ ⟨rfl, rfl⟩
 simp only [uV, uW]
 refine uM rfl (uB (qV rfl rfl) (uB (qV rfl rfl) (uB (qV rfl rfl) (uA rfl (uA rfl (uA rfl (qM (qK (qL (qL (qJ ?_)))))))))))
 refine uM rfl (uB (qAf rfl (hE.t rfl)) ?_)
 refine uM rfl (kQ rfl rfl (uM rfl (kQ rfl rfl (uB (y_gt rfl rfl) ?_))))
 refine uB (qZ rfl rfl) ?_
 refine qM (qK ?_)
 refine zF rfl (fun g1 => ?_) (fun g1 => ?_)
 ·exfalso; omega
 refine zC (qK (qL (qJ (uM rfl (uB (uAa rfl rfl) ?_)))))
 refine l_eq 24 (.int .i64 ((1 + (vput x).length : Nat) : Int)) rfl (zX (by omega)) ?_
 refine uA rfl (qM (qK (qL (qJ (uM rfl (uM rfl ?_))))))
 refine uB (qBv (l := 1 + (vput x).length) (h := Bs.length) rfl (hE.t rfl) ⟨_, rfl⟩ rfl (by omega) (by omega)) ?_
 refine l_eq 28 (.slice (vwA a c (1 + (vput x).length)) (Bs.drop (1 + (vput x).length)).length (c - (1 + (vput x).length))) rfl (congrArg (fun z => Value.slice _ z _) (by rw [List.length_drop])) ?_
 refine uX (qIu (n := y) hE (by omega) d2 (qBz hq hc)) rfl ?_
 rintro _ _ ⟨rfl, rfl⟩
 simp only [uV, uW]
 refine uM rfl (uB (qV rfl rfl) (uB (qV rfl rfl) (uB (qV rfl rfl) (uA rfl (uA rfl (uA rfl (qM (qK (qL (qL (qJ ?_)))))))))))
 refine uM rfl (uB (qAf rfl (hE.t rfl)) ?_)
 refine uM rfl (kQ rfl rfl (uM rfl (kQ rfl rfl (uB (y_gt rfl rfl) ?_))))
 refine uB (qZ rfl rfl) ?_
 refine qM (qK ?_)
 refine zF rfl (fun g2 => ?_) (fun g2 => ?_)
 ·exfalso; omega
 refine zC (qK (qL (qJ (uM rfl (uB (uAc rfl) ?_)))))
 refine uM rfl (uB (uAc rfl) ?_)
 refine uM rfl (uM rfl (uB (uAa rfl rfl) ?_))
 refine l_eq 45 (.int .i64 ((1 + (vput x).length + (vput y).length : Nat) : Int)) rfl (zX (by omega)) ?_
 refine uA rfl (uA rfl (uA rfl (uA rfl (qM (qK (kC ?_))))))
 exact uZ rfl (.tmp rfl (.tmp rfl (.tmp rfl (.tmp rfl .nil)))) ⟨rfl, rfl⟩
theorem ct_rTake (hE : Seat E) {r : Rl} {n : Nat} (ho : r.ok n) (h1 : 1 ≤ n) (hn : n ≤ 1099511627776) (ht : r.times ≤ 1152921504606846976) {t Bs : List UInt8} (hBs : Bs = rulB n r ++ t) {a : Option Addr} {c : Nat} {q : HP} (hq : Rdb E.w0 a (byC Bs) q) (hc : Bs.length ≤ c) (hcl : Bs.length ≤ 1099511627776) : Ct E 138 [.slice a Bs.length c, .int .i64 (n : Nat)] [q] (fun v Q => v = .tuple #[.agg #[.int .i64 (Rl.kind (r) : Nat), .int .u8 (Rl.byte (r) : Nat), .int .i64 (Rl.left (r) : Nat), .int .i64 (Rl.right (r) : Nat), .int .i64 (Rl.times (r) : Nat)], .int .i64 ((rulB n r).length : Nat), .nilIface] ∧ Q = [q]) := by
 have hrl := qVx n hn r ht
 have hBl : Bs.length = (rulB n r).length + t.length := by rw [hBs, List.length_append]
 cases r with
 | letter b =>
  have hl2 : (rulB n (.letter b)).length = 2 := rfl
  obtain ⟨g, o, rfl, hq'⟩ := hq (qKp (by intro e; rw [e] at hBl; simp at hBl; omega))
  have f0 : (byC Bs)[0]? = some (.int .u8 1) := by rw [hBs]; rfl
  have f1 : (byC Bs)[1]? = some (.int .u8 (b.toNat : Nat)) := by rw [hBs]; rfl
  have hb := b.toNat_lt
  refine zP (hE.fn Tryz.func138) rfl rfl rfl (fun R => ?_)
  simp only [qAe, uV, uW]
  refine qL (qJ (uU (kG (hE.t rfl) (fun b4 => ?_))))
  refine uA rfl (uA rfl (qM (qK (qL (qL (qJ (uM rfl (uB (uBl rfl) ?_))))))))
  refine uB (y_eq rfl rfl) ?_
  refine qM (qK ?_)
  refine zF rfl (fun e0 => ?_) (fun e0 => ?_)
  ·exfalso; omega
  refine zC (qK (qL (qJ (uM rfl (uB (uAi rfl rfl) ?_)))))
  apply qB
  ·(apply zK rfl (hE.t rfl) rfl (by assumption); (focus ((repeat constructor); done)); (first | ((focus exact f0); (focus omega)) | ((focus exact f1); (focus omega)) | ((focus assumption); (focus omega))))
  ·rfl
  refine uB (uAc rfl) ?_
  refine uB (qBc (hE.t rfl) rfl rfl) ?_
  refine uU (kG (hE.t rfl) (fun b7 => ?_))
  refine uU (uS ?_)
  refine qM (qK (qL (qJ (uA rfl (qM (qK (qL (qL (qJ (uB (uBf rfl) ?_))))))))))
  refine uL ?_
  refine qM (qK (zL (qL (qJ (uB (y_eq rfl rfl) ?_)))))
  refine uA rfl (qM (qK (zG rfl (qL (qL (qJ (uM rfl (uB (uBl rfl) ?_))))))))
  refine uB (y_lt rfl rfl) ?_
  refine qM (qK ?_)
  refine zF rfl (fun e1 => ?_) (fun e1 => ?_)
  ·exfalso; omega
  refine zC (qK (qJ (uM rfl (uB (uAi rfl rfl) ?_))))
  apply qB
  ·(apply zK rfl (hE.t rfl) rfl (by assumption); (focus ((repeat constructor); done)); (first | ((focus exact f0); (focus omega)) | ((focus exact f1); (focus omega)) | ((focus assumption); (focus omega))))
  ·rfl
  refine uB (uBf rfl) ?_
  refine uU (uS ?_)
  refine uA rfl (qM (zJ (qK ?_)))
  refine qAk (kE (p := cells b7 [.int .i64 ((1 : Nat) : Int), .int .u8 (b.toNat : Nat), .int .i64 ((0 : Nat) : Int), .int .i64 ((0 : Nat) : Int), .int .i64 ((0 : Nat) : Int)] 115) (p' := cells b7 [.int .i64 (Rl.kind ((Rl.letter b)) : Nat), .int .u8 (Rl.byte ((Rl.letter b)) : Nat), .int .i64 (Rl.left ((Rl.letter b)) : Nat), .int .i64 (Rl.right ((Rl.letter b)) : Nat), .int .i64 (Rl.times ((Rl.letter b)) : Nat)] 115) uK (fun _ h => h)) ?_
  refine qL (qL (qJ (uB (uG) ?_)))
  refine uM rfl (uX (qHg (r := (Rl.letter b)) hE ho h1 hn) rfl ?_)
  rintro _ _ ⟨rfl, rfl⟩
  simp only [uV, uW]
  refine uA rfl (qM (qK (qL (qJ (uM rfl (uB (qAf rfl (hE.t rfl)) ?_))))))
  refine qM (qK (zD rfl (zC (qK (qL (qJ (uB (uG) ?_)))))))
  refine uM rfl (uU (uS ?_))
  refine uA rfl (uA rfl (qM (qK (kC ?_))))
  apply kD
  ·rfl
  ·((apply Rs.cell rfl (hE.t rfl) rfl; (focus ((repeat (first | rfl | assumption | constructor)); done))); apply Rs.tmp rfl; apply Rs.tmp rfl; exact Rs.nil)
  ·exact ⟨by rw [hl2]; rfl, rfl⟩
  exact uI
 | pair x y =>
  have ho' := ho
  simp only [Rl.ok] at ho'
  have hBs2 : Bs = 2 :: (vput (n - x) ++ (vput (n - y) ++ t)) := by rw [hBs]; simp [rulB]
  have hl2 : (rulB n (.pair x y)).length = 1 + (vput (n - x)).length + (vput (n - y)).length := by simp [rulB]; omega
  have hqq := hq
  obtain ⟨g, o, rfl, hq'⟩ := hq (qKp (by intro e; rw [e] at hBl; simp at hBl; omega))
  have f0 : (byC Bs)[0]? = some (.int .u8 2) := by rw [hBs]; rfl
  refine zP (hE.fn Tryz.func138) rfl rfl rfl (fun R => ?_)
  simp only [qAe, uV, uW]
  refine qL (qJ (uU (kG (hE.t rfl) (fun b4 => ?_))))
  refine uA rfl (uA rfl (qM (qK (qL (qL (qJ (uM rfl (uB (uBl rfl) ?_))))))))
  refine uB (y_eq rfl rfl) ?_
  refine qM (qK ?_)
  refine zF rfl (fun e0 => ?_) (fun e0 => ?_)
  ·exfalso; omega
  refine zC (qK (qL (qJ (uM rfl (uB (uAi rfl rfl) ?_)))))
  apply qB
  ·(apply zK rfl (hE.t rfl) rfl (by assumption); (focus ((repeat constructor); done)); (first | ((focus exact f0); (focus omega)) | ((focus exact f1); (focus omega)) | ((focus assumption); (focus omega))))
  ·rfl
  refine uB (uAc rfl) ?_
  refine uB (qBc (hE.t rfl) rfl rfl) ?_
  refine uU (kG (hE.t rfl) (fun b7 => ?_))
  refine uU (uS ?_)
  refine qM (qK (qL (qJ (uA rfl (qM (qK (qL (qL (qJ (uB (uBf rfl) ?_))))))))))
  refine uL ?_
  refine qM (qK (zL (qL (qJ (uB (y_eq rfl rfl) ?_)))))
  refine uA rfl (qM (qK (zD rfl (qL (qL (qJ (uB (y_eq rfl rfl) ?_)))))))
  refine uA rfl (qM (qK (zG rfl (zC (qK (zG rfl (qL (qJ (uM rfl ?_)))))))))
  refine uX (ct_two (x := n - x) (y := n - y) hE (by omega) (by omega) hBs2 hqq hc) rfl ?_
  rintro _ _ ⟨rfl, rfl⟩
  simp only [uV, uW]
  refine uM rfl (uB (qV rfl rfl) (uB (qV rfl rfl) (uB (qV rfl rfl) (uB (qV rfl rfl) (uA rfl (uA rfl (uA rfl (uA rfl ?_))))))))
  refine qM (qK (qL (qL (qJ (uM rfl (uB (qBm rfl) ?_))))))
  refine uM rfl (kQ rfl rfl (uB (uBf rfl) ?_))
  refine kQ rfl rfl (uL ?_)
  refine kQ rfl rfl (uB (y_eq rfl rfl) ?_)
  refine kQ rfl rfl (uM rfl ?_)
  refine zU rfl rfl rfl rfl (zU rfl rfl rfl rfl (kQ rfl rfl ?_))
  refine uB (qZ rfl rfl) ?_
  refine uB (qZ rfl rfl) ?_
  refine qM (qK (zD rfl (zC (qK (qL (qJ (uM rfl (uA rfl (qM (qK (qL (qL (qJ (uM rfl ?_))))))))))))))
  refine uB (y_lt rfl rfl) ?_
  refine qM (qK ?_)
  refine zF rfl (fun e2 => ?_) (fun e2 => ?_)
  ·exfalso; omega
  refine zC (qK (qL (qJ (uM rfl (uM rfl (uB (uAs rfl rfl) ?_))))))
  refine l_eq 69 (.int .i64 (x : Nat)) rfl (zX (by omega)) ?_
  refine uB (uBf rfl) ?_
  refine uU (uS ?_)
  refine qM (qK (qL (qJ (uB (uBf rfl) ?_))))
  refine uL ?_
  refine uB (y_eq rfl rfl) ?_
  refine qM (qK (zG rfl (qJ (uM rfl (uM rfl (uB (uAs rfl rfl) ?_))))))
  refine l_eq 76 (.int .i64 (y : Nat)) rfl (zX (by omega)) ?_
  refine uB (uBf rfl) ?_
  refine uU (uS ?_)
  refine qM (zJ (qK ?_))
  refine qAk (kE (p := cells b7 [.int .i64 ((2 : Nat) : Int), .int .u8 ((0 : Nat) : Int), .int .i64 (x : Nat), .int .i64 (y : Nat), .int .i64 ((0 : Nat) : Int)] 115) (p' := cells b7 [.int .i64 (Rl.kind ((Rl.pair x y)) : Nat), .int .u8 (Rl.byte ((Rl.pair x y)) : Nat), .int .i64 (Rl.left ((Rl.pair x y)) : Nat), .int .i64 (Rl.right ((Rl.pair x y)) : Nat), .int .i64 (Rl.times ((Rl.pair x y)) : Nat)] 115) uK (fun _ h => h)) ?_
  refine qL (qL (qJ (uB (uG) ?_)))
  refine uM rfl (uX (qHg (r := (Rl.pair x y)) hE ho h1 hn) rfl ?_)
  rintro _ _ ⟨rfl, rfl⟩
  simp only [uV, uW]
  refine uA rfl (qM (qK (qL (qJ (uM rfl (uB (qAf rfl (hE.t rfl)) ?_))))))
  refine qM (qK (zD rfl (zC (qK (qL (qJ (uB (uG) ?_)))))))
  refine uM rfl (uU (uS ?_))
  refine uA rfl (uA rfl (qM (qK (kC ?_))))
  apply kD
  ·rfl
  ·((apply Rs.cell rfl (hE.t rfl) rfl; (focus ((repeat (first | rfl | assumption | constructor)); done))); apply Rs.tmp rfl; apply Rs.tmp rfl; exact Rs.nil)
  ·exact ⟨by rw [hl2]; rfl, rfl⟩
  exact uI
 | power x k =>
  have ho' := ho
  simp only [Rl.ok] at ho'
  simp only [Rl.times] at ht
  have hBs2 : Bs = 3 :: (vput (n - x) ++ (vput (k - 2) ++ t)) := by rw [hBs]; simp [rulB]
  have hl2 : (rulB n (.power x k)).length = 1 + (vput (n - x)).length + (vput (k - 2)).length := by simp [rulB]; omega
  have hqq := hq
  obtain ⟨g, o, rfl, hq'⟩ := hq (qKp (by intro e; rw [e] at hBl; simp at hBl; omega))
  have f0 : (byC Bs)[0]? = some (.int .u8 3) := by rw [hBs]; rfl
  refine zP (hE.fn Tryz.func138) rfl rfl rfl (fun R => ?_)
  simp only [qAe, uV, uW]
  refine qL (qJ (uU (kG (hE.t rfl) (fun b4 => ?_))))
  refine uA rfl (uA rfl (qM (qK (qL (qL (qJ (uM rfl (uB (uBl rfl) ?_))))))))
  refine uB (y_eq rfl rfl) ?_
  refine qM (qK ?_)
  refine zF rfl (fun e0 => ?_) (fun e0 => ?_)
  ·exfalso; omega
  refine zC (qK (qL (qJ (uM rfl (uB (uAi rfl rfl) ?_)))))
  apply qB
  ·(apply zK rfl (hE.t rfl) rfl (by assumption); (focus ((repeat constructor); done)); (first | ((focus exact f0); (focus omega)) | ((focus exact f1); (focus omega)) | ((focus assumption); (focus omega))))
  ·rfl
  refine uB (uAc rfl) ?_
  refine uB (qBc (hE.t rfl) rfl rfl) ?_
  refine uU (kG (hE.t rfl) (fun b7 => ?_))
  refine uU (uS ?_)
  refine qM (qK (qL (qJ (uA rfl (qM (qK (qL (qL (qJ (uB (uBf rfl) ?_))))))))))
  refine uL ?_
  refine qM (qK (zL (qL (qJ (uB (y_eq rfl rfl) ?_)))))
  refine uA rfl (qM (qK (zD rfl (qL (qL (qJ (uB (y_eq rfl rfl) ?_)))))))
  refine uA rfl (qM (qK (zD rfl (qJ (uB (y_eq rfl rfl) ?_)))))
  refine uA rfl (qM (qK (zG rfl (qL (qJ (uM rfl (uX (ct_two (x := n - x) (y := k - 2) hE (by omega) (by omega) hBs2 hqq hc) rfl ?_)))))))
  rintro _ _ ⟨rfl, rfl⟩
  simp only [uV, uW]
  refine uM rfl (uB (qV rfl rfl) (uB (qV rfl rfl) (uB (qV rfl rfl) (uB (qV rfl rfl) (uA rfl (uA rfl (uA rfl (uA rfl ?_))))))))
  refine qM (qK (qL (qL (qJ (uM rfl (uB (qBm rfl) ?_))))))
  refine uM rfl (kQ rfl rfl (uB (uBf rfl) ?_))
  refine kQ rfl rfl (uL ?_)
  refine kQ rfl rfl (uB (y_eq rfl rfl) ?_)
  refine kQ rfl rfl (uM rfl (kQ rfl rfl (uM rfl (kQ rfl rfl (uB (y_gt rfl rfl) ?_)))))
  refine kQ rfl rfl (uB (qY rfl rfl) ?_)
  refine uB (qZ rfl rfl) ?_
  refine qM (qK ?_)
  refine zF rfl (fun e3 => ?_) (fun e3 => ?_)
  ·exfalso; omega
  refine zC (qK (qL (qJ (uM rfl (uA rfl (qM (qK (qL (qL (qJ (uM rfl (uB (y_lt rfl rfl) ?_))))))))))))
  refine qM (qK ?_)
  refine zF rfl (fun e2 => ?_) (fun e2 => ?_)
  ·exfalso; omega
  refine zC (qK (qL (qJ (uM rfl (uM rfl (uB (uAs rfl rfl) ?_))))))
  refine l_eq 69 (.int .i64 (x : Nat)) rfl (zX (by omega)) ?_
  refine uB (uBf rfl) ?_
  refine uU (uS ?_)
  refine qM (qK (qL (qJ (uB (uBf rfl) ?_))))
  refine uL ?_
  refine uB (y_eq rfl rfl) ?_
  refine qM (qK (zD rfl (qJ (uM rfl (uB (uAa rfl rfl) ?_)))))
  refine l_eq 79 (.int .i64 (k : Nat)) rfl (zX (by omega)) ?_
  refine uB (uBf rfl) ?_
  refine uU (uS ?_)
  refine qM (zJ (qK ?_))
  refine qAk (kE (p := cells b7 [.int .i64 ((3 : Nat) : Int), .int .u8 ((0 : Nat) : Int), .int .i64 (x : Nat), .int .i64 ((0 : Nat) : Int), .int .i64 (k : Nat)] 115) (p' := cells b7 [.int .i64 (Rl.kind ((Rl.power x k)) : Nat), .int .u8 (Rl.byte ((Rl.power x k)) : Nat), .int .i64 (Rl.left ((Rl.power x k)) : Nat), .int .i64 (Rl.right ((Rl.power x k)) : Nat), .int .i64 (Rl.times ((Rl.power x k)) : Nat)] 115) uK (fun _ h => h)) ?_
  refine qL (qL (qJ (uB (uG) ?_)))
  refine uM rfl (uX (qHg (r := (Rl.power x k)) hE ho h1 hn) rfl ?_)
  rintro _ _ ⟨rfl, rfl⟩
  simp only [uV, uW]
  refine uA rfl (qM (qK (qL (qJ (uM rfl (uB (qAf rfl (hE.t rfl)) ?_))))))
  refine qM (qK (zD rfl (zC (qK (qL (qJ (uB (uG) ?_)))))))
  refine uM rfl (uU (uS ?_))
  refine uA rfl (uA rfl (qM (qK (kC ?_))))
  apply kD
  ·rfl
  ·((apply Rs.cell rfl (hE.t rfl) rfl; (focus ((repeat (first | rfl | assumption | constructor)); done))); apply Rs.tmp rfl; apply Rs.tmp rfl; exact Rs.nil)
  ·exact ⟨by rw [hl2]; rfl, rfl⟩
  exact uI
end
end Go.Proofs.YtddfnkijolfhbaaGreat
namespace Sl
open Go Go.RowKit
variable {E : Env} {n : Nat} {L : Fr} {S H H' : List HP} {ty : TypeId} {pos : String} {af : Array Edge} {d : Option Nat} {gd : Option (Nat × Bool)} {K : Value → List HP → Prop} {Q : Exit → Act → World → Prop}
theorem zAt {x y : Operand} {t e : TypeId} {b o c dl dc k cc N m g go by_ sz sz' : Nat} {xs us zs zs' : List Value} {kk : TK} {q : HP} {H'' : List HP} (ht : E.tab t = some ⟨.slice e 1 by_, sz, zs⟩) (he : E.tab e = some ⟨kk, sz', zs'⟩)
  (hx : ev L x = some (.slice (some ⟨b, o, none⟩) dl dc)) (hy : ev L y = some (.slice (some ⟨g, go, none⟩) k cc)) (hq : ∀ z, q z → RdAt E.w0 g go us z) (hm : Take q H H') (hm2 : Take (sl (some ⟨b, 0, none⟩) c e 1 N xs) H' H'') (hp : qEy us = true) (hl : us.length = m) (hmm : m = Nat.min k dl) (hN : o + m ≤ N)
  (hk : K (.int .i64 (m : Nat)) (q :: sl (some ⟨b, 0, none⟩) c e 1 N (zY xs o us) :: H'')) : Ld E n L H ⟨d, .call { callee := .builtin .copy, args := #[x, y], argTypes := #[t, t] }, ty, pos, af, gd⟩ K := fun Q next a w G hn => by
 obtain ⟨hu, j, hj, hs, hby⟩ := qBj ht
 obtain ⟨i, z, hi, hi2, hiz, hzc, _⟩ := qBg he
 obtain rfl : i = j := by rw [hi] at hj; simpa using hj
 have s1 := G.hp.take hm
 have s2 : Sat E.w0 w (sl (some ⟨b, 0, none⟩) c e i.size N xs :: q :: H'') := by rw [hs]; exact (s1.imp fun _ h => qCd (qAq (fun _ => hm2.out) h))
 have hnews : ∀ j u, us[j]? = some u → w.cell? ((⟨g, go, none⟩ : Addr).add j) = some u := fun j u hu => by rw [addr_add]; exact qQi hq s1 hu
 obtain ⟨w', hr, ho⟩ := run_copy hu hi ty (dc := dc) (cc := cc) s2 hmm (by rw [hs, Nat.mul_one]; exact hl) hnews hp (by rw [hs, Nat.mul_one, Nat.mul_one]; exact hN)
 rw [hs] at ho
 have hrun : (execOp a.eval ⟨d, .call { callee := .builtin .copy, args := #[x, y], argTypes := #[t, t] }, ty, pos, af, gd⟩).run E.P w = .ok (.value (.int .i64 (m : Nat))) w' := by
  simp [execOp, resolve, invoke, builtin, G.f.ev hx, G.f.ev hy, hr]
 unfold Oper.wp
 rw [hrun, Oper.upon_value]
 exact hn _ _ _ hk (ho.imp fun _ h => qCd h)
theorem ld_makeU {x : Operand} {t e : TypeId} {c es by_ sz sz' : Nat} {zs zs' : List Value} {kk : TK} (ht : E.tab t = some ⟨.slice e es by_, sz, zs⟩) (he : E.tab e = some ⟨kk, sz', zs'⟩)
  (hx : ev L x = some (.int .u64 (c : Nat))) (hb : by_ * c ≤ 281474976710656) (hc : c ≤ maxLen)
  (hk : ∀ b us, us.length = c * es → K (.slice (some ⟨b, 0, none⟩) c c) (sl (some ⟨b, 0, none⟩) c e es c us :: H)) : Ld E n L H ⟨d, .makeSlice t x x, ty, pos, af, gd⟩ K := fun Q next a w G hn => by
 obtain ⟨hu, j, hj, hs, hby⟩ := qBj ht
 obtain ⟨i, z, hi, hi2, hiz, hzc, _⟩ := qBg he
 obtain rfl : i = j := by rw [hi] at hj; simpa using hj
 subst hs hby
 have h63 : (c : Int) ≤ 9223372036854775807 := by have h := hc; simp [maxLen] at h; omega
 have hr := run_make (P := E.P) w t e i z hu hi hiz .u64 .u64 (c : Int) (c : Int) (Int.natCast_nonneg c) (Int.le_refl _) (by rw [← Int.natCast_mul]; omega) h63
 have hrun : (execOp a.eval ⟨d, .makeSlice t x x, ty, pos, af, gd⟩).run E.P w = .ok (.value (.slice (some ⟨w.heap.size, 0, none⟩) c c)) (w.alloc (.cells (madeCells z.cells (c * i.size)) e)) := by
  simp [execOp, G.f.ev hx, hr]
 unfold Oper.wp
 rw [hrun, Oper.upon_value]
 have hz := size_madeCells z.cells (c * i.size)
 generalize madeCells z.cells (c * i.size) = M at *
 refine hn _ _ _ (hk _ M.toList (by simpa using hz)) ?_
 have := G.hp.new (.cells M e)
 exact this.imp fun _ => qAp fun _ h => qAr (by simpa using hz) hc _ h
end Sl
namespace Go.Proofs.YtddfnkijolfhbaaGreat
open Go Go.RowKit Sl Eg
set_option maxRecDepth 10000
variable {E : Env}
theorem qYp (bs : List UInt8) : qEy (byC bs) = true := by
 induction bs with
 | nil => rfl
 | cons b bs ih => exact ih
theorem qIv (hE : Seat E) {nm : List UInt8} {mx : Nat} {t Bs : List UInt8} (h1 : 1 ≤ nm.length) (hmx : nm.length ≤ mx) (hmx2 : mx ≤ 1099511627776) (hBs : Bs = qAs nm ++ t) {a : Option Addr} {c : Nat} {q : HP} (hq : Rdb E.w0 a (byC Bs) q) (hc : Bs.length ≤ c) (hcl : Bs.length ≤ 1099511627776) : Ct E 139 [.slice a Bs.length c, .int .i64 (mx : Nat)] [q]
  (fun v Q => ∃ g, v = .tuple #[.slice (some ⟨g, 0, none⟩) nm.length nm.length, .int .i64 ((qAs nm).length : Nat), .nilIface] ∧ Q = [q, sl (some ⟨g, 0, none⟩) nm.length 5 1 nm.length (byC nm)]) := by
 have h10 := qBr (n := nm.length) (by omega)
 have hbb : (qAs nm).length = (vput nm.length).length + nm.length := List.length_append
 have hBl : Bs.length = (qAs nm).length + t.length := by rw [hBs, List.length_append]
 have hBs2 : Bs = vput nm.length ++ (nm ++ t) := by rw [hBs, qAs, List.append_assoc]
 have hdr : Bs.drop (vput nm.length).length = nm ++ t := by rw [hBs2]; simp
 have hbl := qAg nm
 have hml : nm.length ≤ maxLen := by unfold maxLen; omega
 have hmk : 1 * nm.length ≤ 281474976710656 := by omega
 refine zP (hE.fn Tryz.func139) rfl rfl rfl (fun R => ?_)
 simp only [qAe, uV, uW]
 refine qL (qJ (uA rfl (uA rfl (uA rfl (qM (qK (qL (qJ (uM rfl (uX (qIu (n := nm.length) hE (by omega) hBs2 hq) rfl ?_))))))))))
 rintro _ _ ⟨rfl, rfl⟩
 simp only [uV, uW]
 refine uM rfl (uB (qV rfl rfl) (uB (qV rfl rfl) (uB (qV rfl rfl) (uA rfl (uA rfl (uA rfl (qM (qK (qL (qL (qJ ?_)))))))))))
 refine uM rfl (uB (qAf rfl (hE.t rfl)) ?_)
 refine qM (qK (zD rfl (zC (qK (qL (qL (qJ (uM rfl (uM rfl (uB (y_max rfl rfl) ?_))))))))))
 refine l_eq 22 (.int .i64 (mx : Nat)) rfl (zX (by first | omega | simp)) ?_
 refine uB (uAc rfl) ?_
 refine uB (y_gt rfl rfl) ?_
 refine qM (qK ?_)
 refine zF rfl (fun e1 => ?_) (fun e1 => ?_)
 ·exfalso; omega
 refine zC (qK (qL (qL (qJ (uM rfl (uM rfl (uB (uBl rfl) ?_)))))))
 refine uM rfl (uB (uAs rfl rfl) ?_)
 refine uB (uAc rfl) ?_
 refine uB (y_gt rfl rfl) ?_
 refine qM (qK ?_)
 refine zF rfl (fun e2 => ?_) (fun e2 => ?_)
 ·exfalso; omega
 refine zC (qK (qL (qJ (uM rfl (uU ?_)))))
 refine ld_makeU (hE.t rfl) (hE.t rfl) rfl hmk hml (fun b35 us35 hu35 => ?_)
 refine uA rfl (qM (qK (qL (qJ (uM rfl (uM rfl (uM rfl ?_)))))))
 refine uB (qBv (l := (vput nm.length).length) (h := Bs.length) rfl (hE.t rfl) ⟨_, rfl⟩ rfl (by omega) (by omega)) ?_
 refine l_eq 39 (.slice (vwA a c ((vput nm.length).length)) (Bs.drop (vput nm.length).length).length (c - ((vput nm.length).length))) rfl (congrArg (fun z => Value.slice _ z _) (by rw [List.length_drop])) ?_
 have hqr := qBz (k := (vput nm.length).length) hq hc
 rw [hdr] at hqr ⊢
 have hnt : (byC (nm ++ t)) = byC nm ++ byC t := qBf nm t
 obtain ⟨g, o, hga, hqr'⟩ := hqr (by rw [hnt]; intro e; have := congrArg List.length e; rw [List.length_append, hbl, List.length_nil] at this; omega)
 rw [hga]
 have hqn : ∀ z, q z → RdAt E.w0 g o (byC nm) z := fun z hz i v hv => hqr' z hz i v (by rw [hnt, List.getElem?_append_left (List.getElem?_eq_some_iff.1 hv).1]; exact hv)
 have hmin : nm.length = Nat.min (nm ++ t).length nm.length := by rw [List.length_append]; exact (Nat.min_eq_right (by omega)).symm
 refine uU ?_
 refine zAt (m := nm.length) (hE.t rfl) (hE.t rfl) rfl rfl hqn uK uK (qYp nm) hbl hmin (by omega) ?_
 have hst : zY us35 0 (byC nm) = byC nm := by
  rw [qHp _ _ _ (by omega), List.take_zero, List.nil_append, Nat.zero_add, List.drop_eq_nil_of_le (by omega), List.append_nil]
 rw [hst]
 refine qM (qK (qL (qJ (uM rfl (uM rfl (uM rfl (uB (uAc rfl) ?_)))))))
 refine uB (uAa rfl rfl) ?_
 refine uA rfl (uA rfl (uA rfl (qM (qK (kC ?_)))))
 exact uZ rfl (.tmp rfl (.tmp rfl (.tmp rfl .nil))) ⟨b35, by rw [hbb]; rfl, rfl⟩
end Go.Proofs.YtddfnkijolfhbaaGreat
