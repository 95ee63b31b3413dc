import Derived.Test.YtddfnkijolfhbaaGreatQ50
import Derived.Test.YtddfnkijolfhbaaGreatQ60
set_option linter.all false
set_option maxHeartbeats 1000000
namespace Go.Proofs.YtddfnkijolfhbaaGreat
open Go Go.RowKit Sl Eg
def nuF (ids : List Nat) : Int → Option Value := fun k => if 0 ≤ k ∧ k.toNat ∈ ids then some (.int .i64 (numb ids k.toNat : Nat)) else none
theorem qUt : (fun _ => none) = nuF [] := by funext k; simp [nuF]
theorem nuF_set {ids : List Nat} {x : Nat} (h : x ∉ ids) : setF (nuF ids) (x : Nat) (.int .i64 ((ids.length + 1 : Nat) : Int)) = nuF (ids ++ [x]) := by
 funext k
 unfold setF nuF
 by_cases e : k = (x : Nat)
 ·subst e; simp [zAx h]
 rw [if_neg e]
 by_cases h0 : 0 ≤ k
 ·have hk : k.toNat ≠ x := by omega
  simp only [h0, true_and, List.mem_append, List.mem_singleton, hk, or_false]
  rw [qXx hk]
 simp [h0]
theorem nuF_get (ids : List Nat) (x : Nat) : qIf false (.int .i64 0) (nuF ids (x : Nat)) = .int .i64 (numb ids x : Nat) := by
 unfold qIf nuF
 by_cases h : x ∈ ids
 ·simp [h]
 simp [h, qBl.2 h]
end Go.Proofs.YtddfnkijolfhbaaGreat
namespace Sl
open Go Go.RowKit
variable {E : Env} {n : Nat} {L : Fr} {S H H' : List HP} {ty : TypeId} {pos : String} {af : Array Edge} {d : Option Nat} {gd : Option (Nat × Bool)} {K : Value → List HP → Prop}
theorem qEt {x : Operand} {s t : TypeId} {kd k' ks : IntKind} {i j : Int} {sz sz' : Nat} {zs zs' : List Value} (hx : ev L x = some (.int kd i)) (hs : E.tab s = some ⟨.int ks, sz, zs⟩) (ht : E.tab t = some ⟨.int k', sz', zs'⟩) (hw : k'.wrap i = j) :
  Yl E n L S ⟨d, .convert s t x, ty, pos, af, gd⟩ (.int k' j) := fun a w g _ => by
 simp [execOp, convert, underlying, program, Sem.run, qFe hs, qFe ht, g.ev hx, Conv.intToInt, hw]
theorem qNt (i : Nat) : IntKind.u8.wrap (i : Int) = ((i % 256 : Nat) : Int) := by
 simp [IntKind.wrap, IntKind.bits, IntKind.signed]
set_option maxRecDepth 100000 in
theorem or_128 : ∀ m : Fin 256, IntKind.u8.wrap ((m.val % 2 ^ IntKind.u8.bits ||| 128 % 2 ^ IntKind.u8.bits : Nat) : Int) = (m.val : Int) % 128 + 128 := by decide
theorem y_or128 {x y : Operand} {xt yt : TypeId} {i : Nat} (hi : i < 256) (hx : ev L x = some (.int .u8 (i : Nat))) (hy : ev L y = some (.int .u8 128)) :
  Yl E n L S ⟨d, .binOp .or xt x y yt, ty, pos, af, gd⟩ (.int .u8 ((i % 128 + 128 : Nat) : Int)) := fun a w g _ => by
 have := or_128 ⟨i, hi⟩
 simp only at this
 simp [execOp, eqGuard, binOp, Op.intBits, g.ev hx, g.ev hy]
 exact this
end Sl
namespace Go.Proofs.YtddfnkijolfhbaaGreat
open Go Go.RowKit Sl Eg
set_option maxRecDepth 10000
section
variable {E : Env}
structure VpG where
 n : Nat
 done : List UInt8
 p : Nat
 c : Nat
theorem qOv {i : Nat} (h : i < 256) : ((UInt8.ofNat i).toNat : Int) = i := by rw [UInt8.toNat_ofNat']; simp; omega
theorem qFv (hE : Seat E) {n : Nat} (hn : n < 18446744073709551616) : Ct E 77 [.int .u64 (n : Nat)] [] (fun v Q => ∃ g c, v = .slice (some ⟨g, 0, none⟩) (vput n).length c ∧ Q = [sl (some ⟨g, 0, none⟩) c 5 1 (vput n).length (byC (vput n))]) := by
 have hten := qBr hn
 refine zP (hE.fn Tryz.func77) rfl rfl rfl (fun R => ?_)
 simp only [qAe, uV, uW]
 refine qL (qJ (uA rfl (qM (qK (qL (qJ (uU ?_)))))))
 refine qLk (hE.t rfl) (hE.t rfl) rfl rfl (by first | omega | exact Nat.le_of_ble_eq_true rfl) (by (unfold maxLen; first | omega | exact Nat.le_of_ble_eq_true rfl)) (fun b4 us4 hu4 => ?_)
 refine uA rfl (qM (qK (qL (zL ?_))))
 refine qAk (kE (p := sl (some ⟨b4, 0, none⟩) 10 5 1 10 us4) (p' := sl (some ⟨b4, 0, none⟩) 10 5 1 0 (byC [])) uK (qVz (Nat.zero_le _) rfl (by simp))) ?_
 refine qAj (fun q : VpG => [(0, .int .u64 (q.n : Nat)), (3, .slice (some ⟨q.p, 0, none⟩) q.done.length q.c)]) (fun q => [sl (some ⟨q.p, 0, none⟩) q.c 5 1 q.done.length (byC q.done), R]) (fun q => q.n) (fun q => q.done ++ vput q.n = vput n ∧ q.n < 18446744073709551616) ⟨n, [], b4, 10⟩ ?_ ?_ ?_ ?_
 ·exact ⟨rfl, hn⟩
 ·exact ⟨rfl, rfl, trivial⟩
 ·exact uI
 rintro ⟨m, done, p, c⟩ ⟨hd, hm⟩
 simp only at hd hm ⊢
 have hdl : done.length ≤ 10 := by have := congrArg List.length hd; rw [List.length_append] at this; omega
 refine qL (qL (qJ (uM rfl (uB (y_ge rfl rfl) ?_))))
 refine qM (qK ?_)
 refine zF rfl (fun h1 => ?_) (fun h1 => ?_)
 ·refine zC (qK (qL (zL (qJ ?_))))
  refine uM rfl (uM rfl (uB (qEt rfl (hE.t rfl) (hE.t rfl) (qNt _)) ?_))
  refine uB (y_or128 (by omega) rfl rfl) ?_
  refine uU ?_
  refine qW (hE.t rfl) (hE.t rfl) rfl rfl rfl (fun b13 => ?_)
  refine uU ?_
  apply zV (hE.t rfl) (hE.t rfl) rfl rfl rfl
  ·exact uK
  ·exact uK
  ·rfl
  ·rfl
  ·omega
  ·omega
  ·(unfold maxLen; omega)
  intro g14 c14 n14 x14 hn14 hx14
  refine uA rfl (qM (zJ (qK (qJ (uM rfl (uB (qFs rfl rfl (by show _ ≤ 64; first | omega | exact Nat.le_of_ble_eq_true rfl)) ?_))))))
  refine uA rfl (qM ?_)
  rw [qHa (by omega)] at hd
  refine zT (ι := VpG) (j := ⟨m / 128, done ++ [UInt8.ofNat (m % 128 + 128)], g14, c14⟩) ⟨by simp only [List.append_assoc, List.singleton_append]; exact hd, by simp only; omega⟩ (by simp only; omega) ⟨rfl, by simp only [List.length_append, List.length_singleton]; rw [hn14]; rfl, trivial⟩ ?_
  obtain rfl : x14 = byC (done ++ [UInt8.ofNat (m % 128 + 128)]) := by
   rw [hx14]
   simp only [byC, List.map_append, List.map_cons, List.map_nil]
   rw [qOv (by omega), show m % 256 % 128 = m % 128 by omega]
   rfl
  simp only [List.length_append, List.length_singleton]
  rw [hn14]
  exact uI
 refine kJ (qQ (qQ (zI (qK ?_))))
 refine qL (qJ (uM rfl (uM rfl (uB (qEt rfl (hE.t rfl) (hE.t rfl) (qNt _)) ?_))))
 refine uU ?_
 refine qW (hE.t rfl) (hE.t rfl) rfl rfl rfl (fun b18 => ?_)
 refine uU ?_
 apply zV (hE.t rfl) (hE.t rfl) rfl rfl rfl
 ·exact uK
 ·exact uK
 ·rfl
 ·rfl
 ·omega
 ·omega
 ·(unfold maxLen; omega)
 intro g19 c19 n19 x19 hn19 hx19
 refine uA rfl (qM (qK (kC ?_)))
 rw [qEm (by omega)] at hd
 have hl : (vput n).length = done.length + 1 := by rw [← hd]; simp
 apply kD
 ·rfl
 ·(apply Rs.tmp rfl; exact Rs.nil)
 ·refine ⟨g19, c19, ?_, rfl⟩
  rw [hl, hn19]
  rfl
 obtain rfl : x19 = byC (vput n) := by
  rw [hx19, ← hd]
  simp only [byC, List.map_append, List.map_cons, List.map_nil]
  rw [qOv (by omega), show m % 256 = m by omega]
  rfl
 rw [hl]
 rw [hn19]
 exact uI
end
section
variable {E : Env}
theorem qBh (l : List UInt8) : ∀ u ∈ byC l, u.oneCell' = true := fun u h => by
 obtain ⟨i, _, rfl⟩ := List.mem_map.1 h; rfl
theorem qAg (l : List UInt8) : (byC l).length = l.length := List.length_map _
theorem qBf (a b : List UInt8) : byC (a ++ b) = byC a ++ byC b := by simp [byC]
theorem qVm (hE : Seat E) (r : Rl) : Ct E 60 [.agg #[.int .i64 (Rl.kind (r) : Nat), .int .u8 (Rl.byte (r) : Nat), .int .i64 (Rl.left (r) : Nat), .int .i64 (Rl.right (r) : Nat), .int .i64 (Rl.times (r) : Nat)]] [] (fun v Q => ∃ p c, v = .slice p (kids r).length c ∧ Q = [sl p c 40 1 (kids r).length (idC (kids r))]) := by
 cases r with
 | letter b =>
  refine zP (hE.fn Tryz.func60) rfl rfl rfl (fun R => ?_)
  simp only [qAe, uV, uW]
  refine qL (qJ (uU ?_))
  refine qBt rfl (fun b1 => ?_)
  refine uA rfl (qM (qK (qL (qL (qJ (uB (uBf rfl) ?_))))))
  refine uL ?_
  refine qM (qK (zL (qL (qJ (uB (y_eq rfl rfl) ?_)))))
  refine uA rfl (qM (qK (zD rfl (qL (qJ (uB (y_eq rfl rfl) ?_))))))
  refine uA rfl (qM (qK (zD rfl (zC (zJ (qK (qL (qJ (uA rfl (qM (qK (kC ?_))))))))))))
  apply kD
  ·rfl
  ·(apply Rs.tmp rfl; exact Rs.nil)
  ·exact ⟨none, 0, rfl, rfl⟩
  apply kF (qCh (t := 40) (sz := 1))
  exact uI
 | pair a b =>
  refine zP (hE.fn Tryz.func60) rfl rfl rfl (fun R => ?_)
  simp only [qAe, uV, uW]
  refine qL (qJ (uU ?_))
  refine qBt rfl (fun b1 => ?_)
  refine uA rfl (qM (qK (qL (qL (qJ (uB (uBf rfl) ?_))))))
  refine uL ?_
  refine qM (qK (zL (qL (qJ (uB (y_eq rfl rfl) ?_)))))
  refine uA rfl (qM (qK (zG rfl (qL (qJ (uB (uBf rfl) ?_))))))
  refine uL ?_
  refine uB (uBf rfl) ?_
  refine uL ?_
  refine uU ?_
  refine qW (hE.t rfl) (hE.t rfl) rfl rfl rfl (fun b11 => ?_)
  refine uA rfl (qM (qK (kC (zO (qX ?_)))))
  apply kD
  ·rfl
  ·(apply Rs.tmp rfl; exact Rs.nil)
  ·exact ⟨some ⟨b11, 0, none⟩, 2, rfl, rfl⟩
  apply kF (kE (p := cells b11 [.int .i64 (a : Nat), .int .i64 (b : Nat)] 40) (p' := sl (some ⟨b11, 0, none⟩) 2 40 1 2 (idC [a, b])) uK (qAr rfl (by unfold maxLen; omega)))
  exact uI
 | power a k =>
  refine zP (hE.fn Tryz.func60) rfl rfl rfl (fun R => ?_)
  simp only [qAe, uV, uW]
  refine qL (qJ (uU ?_))
  refine qBt rfl (fun b1 => ?_)
  refine uA rfl (qM (qK (qL (qL (qJ (uB (uBf rfl) ?_))))))
  refine uL ?_
  refine qM (qK (zL (qL (qJ (uB (y_eq rfl rfl) ?_)))))
  refine uA rfl (qM (qK (zD rfl (qL (qJ (uB (y_eq rfl rfl) ?_))))))
  refine uA rfl (qM (qK (zG rfl (qL (qJ (uB (uBf rfl) ?_))))))
  refine uL ?_
  refine uU ?_
  refine qW (hE.t rfl) (hE.t rfl) rfl rfl rfl (fun b16 => ?_)
  refine uA rfl (qM (qK (kC (zO (qX ?_)))))
  apply kD
  ·rfl
  ·(apply Rs.tmp rfl; exact Rs.nil)
  ·exact ⟨some ⟨b16, 0, none⟩, 1, rfl, rfl⟩
  apply kF (kE (p := cells b16 [.int .i64 (a : Nat)] 40) (p' := sl (some ⟨b16, 0, none⟩) 1 40 1 1 (idC [a])) uK (qAr rfl (by unfold maxLen; omega)))
  exact uI
theorem kids_len (r : Rl) : (kids r).length ≤ 2 := by cases r <;> simp [kids]
theorem qHg (hE : Seat E) {r : Rl} {n : Nat} (ho : r.ok n) (h1 : 1 ≤ n) (hn : n ≤ 1099511627776) : Ct E 147 [.agg #[.int .i64 (Rl.kind (r) : Nat), .int .u8 (Rl.byte (r) : Nat), .int .i64 (Rl.left (r) : Nat), .int .i64 (Rl.right (r) : Nat), .int .i64 (Rl.times (r) : Nat)], .int .i64 (n : Nat)] [] (fun v Q => v = .nilIface ∧ Q = []) := by
 have hkl := kids_len r
 have hkk := qGa ho
 refine zP (hE.fn Tryz.func147) rfl rfl rfl (fun R => ?_)
 simp only [qAe, uV, uW]
 refine qL (qJ (uU ?_))
 refine qBt rfl (fun b2 => ?_)
 refine uA rfl (qM (qK (qL (qL (qJ (uM rfl (uB (y_lt rfl rfl) ?_)))))))
 refine qM (qK ?_)
 refine zF rfl (fun h0 => ?_) (fun h0 => ?_)
 ·exact absurd h0 (by omega)
 refine zC (qK (qL (qL (qJ (uB (uG) ?_)))))
 refine uX (qVm hE r) rfl ?_
 rintro _ _ ⟨p, c, rfl, rfl⟩
 simp only [uV, uW]
 generalize kids r = ks at hkl hkk ⊢
 refine uB (uBl rfl) ?_
 refine uM rfl (qM (qK (zL ?_)))
 refine qAj (fun k : Nat => [(1, .int .i64 (n : Nat)), (4, .nilIface), (11, .slice p ks.length c), (12, .int .i64 (ks.length : Nat)), (13, .int .i64 (k : Nat))]) (fun k => [sl p c 40 1 ks.length (idC ks), R]) (fun k => ks.length - k) (fun k => k ≤ ks.length) 0 (Nat.zero_le _) ⟨rfl, rfl, rfl, rfl, rfl, trivial⟩ ?_ ?_
 ·exact uI
 rintro k hk
 refine qL (qJ (uB (y_lt rfl rfl) ?_))
 refine qM (qK (qL ?_))
 refine zF rfl (fun h2 => ?_) (fun h2 => ?_)
 ·have hkl2 : k < ks.length := by omega
  obtain ⟨x, hx⟩ : ∃ x, ks[k]? = some x := ⟨_, List.getElem?_eq_getElem hkl2⟩
  have hxx := hkk x (List.mem_of_getElem? hx)
  refine qCw (p := sl p c 40 1 ks.length (idC ks)) uK (fun _ h => qAz h (by omega)) ?_
  rintro ⟨g, rfl⟩
  have f0 := qDa hx (0 + (k : Int).toNat) (by omega)
  have f1 := qDa hx ((k : Int).toNat) (by omega)
  refine zC (qK (qL (zL (qL (qJ (uB (uAj rfl rfl) ?_))))))
  refine uL ?_
  refine uA rfl (qM (qK (qL (qJ (uM rfl (uB (y_lt rfl rfl) ?_))))))
  refine uM rfl ?_
  refine qAl 19 rfl (fun h3 => ?_) (fun h3 => ?_)
  ·exact absurd h3 (by omega)
  refine kQ rfl rfl (uM rfl (kQ rfl rfl (uM rfl (kQ rfl rfl (uB (uAs rfl rfl) ?_)))))
  refine kQ rfl rfl (uB (y_gt rfl rfl) ?_)
  refine uB (qZ rfl rfl) ?_
  refine qM (qK ?_)
  refine zF rfl (fun h4 => ?_) (fun h4 => ?_)
  ·exact absurd h4 (by omega)
  refine zC (zJ (qK (qJ (uB (uAa rfl rfl) ?_))))
  refine uM rfl (qM ?_)
  refine zT (ι := Nat) (j := k + 1) hkl2 (by omega) ⟨rfl, rfl, rfl, rfl, congrArg some (zX (by omega)), trivial⟩ ?_
  exact uI
 refine kJ (qQ (qQ (zI (qK (qL (qJ ?_))))))
 refine uA rfl (qM (qK (kC ?_)))
 exact uZ rfl (.tmp rfl .nil) ⟨rfl, rfl⟩
theorem qMi (hE : Seat E) {r : Rl} {n : Nat} (ho : r.ok n) (h1 : 1 ≤ n) (hn : n ≤ 1099511627776) : Ct E 116 [.agg #[.int .i64 (Rl.kind (r) : Nat), .int .u8 (Rl.byte (r) : Nat), .int .i64 (Rl.left (r) : Nat), .int .i64 (Rl.right (r) : Nat), .int .i64 (Rl.times (r) : Nat)], .int .i64 (n : Nat)] [] (fun v Q => v = .nilIface ∧ Q = []) := by
 cases r with
 | letter b =>
  refine zP (hE.fn Tryz.func116) rfl rfl rfl (fun R => ?_)
  simp only [qAe, uV, uW]
  refine qL (qJ (uU ?_))
  refine qBt rfl (fun b2 => ?_)
  refine uA rfl (qM (qK (qL (qJ (uA rfl (qM (qK (qL (qL (qJ (uB (uBf rfl) ?_)))))))))))
  refine uL ?_
  refine qM (qK (zL (qL (qJ (uB (y_eq rfl rfl) ?_)))))
  refine uA rfl (qM (qK (zG rfl (qJ (uB (uBf rfl) ?_)))))
  refine uL ?_
  refine uB (y_eq rfl rfl) ?_
  refine uM rfl (kQ rfl rfl (uB (uBf rfl) ?_))
  refine kQ rfl rfl (uL ?_)
  refine kQ rfl rfl (uB (y_eq rfl rfl) ?_)
  refine uB (qY rfl rfl) ?_
  refine uM rfl (kQ rfl rfl (uB (uBf rfl) ?_))
  refine kQ rfl rfl (uL ?_)
  refine kQ rfl rfl (uB (y_eq rfl rfl) ?_)
  refine uB (qY rfl rfl) ?_
  refine uA rfl (qM (zJ (qK (qL (qL (qJ (uM rfl (uB (qBm rfl) ?_))))))))
  refine qM (qK (zD rfl (zC (qK (qL (qJ (uB (uG) ?_)))))))
  refine uM rfl (uX (qHg (r := .letter b) hE ho h1 hn) rfl ?_)
  rintro _ _ ⟨rfl, rfl⟩
  simp only [uV, uW]
  refine uA rfl (qM (qK (kC ?_)))
  exact uZ rfl (.tmp rfl .nil) ⟨rfl, rfl⟩
 | pair a b =>
  refine zP (hE.fn Tryz.func116) rfl rfl rfl (fun R => ?_)
  simp only [qAe, uV, uW]
  refine qL (qJ (uU ?_))
  refine qBt rfl (fun b2 => ?_)
  refine uA rfl (qM (qK (qL (qJ (uA rfl (qM (qK (qL (qL (qJ (uB (uBf rfl) ?_)))))))))))
  refine uL ?_
  refine qM (qK (zL (qL (qJ (uB (y_eq rfl rfl) ?_)))))
  refine uA rfl (qM (qK (zD rfl (qL (qJ (uB (y_eq rfl rfl) ?_))))))
  refine uA rfl (qM (qK (zG rfl (qJ (uB (uBf rfl) ?_)))))
  refine uL ?_
  refine uB (y_eq rfl rfl) ?_
  refine uM rfl (kQ rfl rfl (uB (uBf rfl) ?_))
  refine kQ rfl rfl (uL ?_)
  refine kQ rfl rfl (uB (y_eq rfl rfl) ?_)
  refine uB (qY rfl rfl) ?_
  refine uA rfl (qM (zJ (qK (qL (qL (qJ (uM rfl (uB (qBm rfl) ?_))))))))
  refine qM (qK (zD rfl (zC (qK (qL (qJ (uB (uG) ?_)))))))
  refine uM rfl (uX (qHg (r := .pair a b) hE ho h1 hn) rfl ?_)
  rintro _ _ ⟨rfl, rfl⟩
  simp only [uV, uW]
  refine uA rfl (qM (qK (kC ?_)))
  exact uZ rfl (.tmp rfl .nil) ⟨rfl, rfl⟩
 | power a k =>
  have e : decide ((2 : Int) ≤ ((Rl.times (.power a k) : Nat) : Int)) = true := decide_eq_true (by have := ho.2.2; simp only [Rl.times]; omega)
  refine zP (hE.fn Tryz.func116) rfl rfl rfl (fun R => ?_)
  simp only [qAe, uV, uW]
  refine qL (qJ (uU ?_))
  refine qBt rfl (fun b2 => ?_)
  refine uA rfl (qM (qK (qL (qJ (uA rfl (qM (qK (qL (qL (qJ (uB (uBf rfl) ?_)))))))))))
  refine uL ?_
  refine qM (qK (zL (qL (qJ (uB (y_eq rfl rfl) ?_)))))
  refine uA rfl (qM (qK (zD rfl (qL (qJ (uB (y_eq rfl rfl) ?_))))))
  refine uA rfl (qM (qK (zD rfl (qL (qJ (uB (y_eq rfl rfl) ?_))))))
  refine uA rfl (qM (qK (zG rfl (qJ (uB (uBf rfl) ?_)))))
  refine uL ?_
  refine uB (y_eq rfl rfl) ?_
  refine uM rfl (kQ rfl rfl (uB (uBf rfl) ?_))
  refine kQ rfl rfl (uL ?_)
  refine kQ rfl rfl (uB (y_eq rfl rfl) ?_)
  refine uB (qY rfl rfl) ?_
  refine uM rfl (kQ rfl rfl (uB (uBf rfl) ?_))
  refine kQ rfl rfl (uL ?_)
  refine kQ rfl rfl (uB (y_ge rfl rfl) ?_)
  refine uB (qY rfl rfl) ?_
  refine uA rfl (qM (zJ (qK (qL (qL (qJ (uM rfl (uB (qBm rfl) ?_))))))))
  refine qM (qK ?_)
  rw [e]
  refine zD rfl (zC (qK (qL (qJ (uB (uG) ?_)))))
  refine uM rfl (uX (qHg (r := .power a k) hE ho h1 hn) rfl ?_)
  rintro _ _ ⟨rfl, rfl⟩
  simp only [uV, uW]
  refine uA rfl (qM (qK (kC ?_)))
  exact uZ rfl (.tmp rfl .nil) ⟨rfl, rfl⟩
theorem ct_rPut (hE : Seat E) {r : Rl} {n : Nat} (ho : r.ok n) (h1 : 1 ≤ n) (hn : n ≤ 1099511627776) (ht : r.times ≤ 1152921504606846976) : Ct E 78 [.agg #[.int .i64 (Rl.kind (r) : Nat), .int .u8 (Rl.byte (r) : Nat), .int .i64 (Rl.left (r) : Nat), .int .i64 (Rl.right (r) : Nat), .int .i64 (Rl.times (r) : Nat)], .int .i64 (n : Nat)] [] (fun v Q => ∃ g c, v = .tuple #[.slice (some ⟨g, 0, none⟩) (rulB n r).length c, .nilIface] ∧ Q = [sl (some ⟨g, 0, none⟩) c 5 1 (rulB n r).length (byC (rulB n r))]) := by
 cases r with
 | letter b =>
  refine zP (hE.fn Tryz.func78) rfl rfl rfl (fun R => ?_)
  simp only [qAe, uV, uW]
  refine qL (qJ (uU ?_))
  refine qBt rfl (fun b2 => ?_)
  refine uA rfl (uA rfl (qM (qK (qL (qL (qJ (uB (uG) ?_)))))))
  refine uM rfl (uX (qMi (r := .letter b) hE ho h1 hn) rfl ?_)
  rintro _ _ ⟨rfl, rfl⟩
  simp only [uV, uW]
  refine uA rfl (qM (qK (qL (qJ (uM rfl (uB (qAf rfl (hE.t rfl)) ?_))))))
  refine qM (qK (zD rfl (zC (qK (qL (qJ (uB (uBf rfl) ?_)))))))
  refine uL ?_
  refine uB (qEt (j := 1) rfl (hE.t rfl) (hE.t rfl) rfl) ?_
  refine uU ?_
  refine qW (hE.t rfl) (hE.t rfl) rfl rfl rfl (fun b17 => ?_)
  refine uA rfl (qM (qK (qL (qL (qJ (uB (uBf rfl) ?_))))))
  refine uL ?_
  refine qM (qK (zL (qL (qJ (uB (y_eq rfl rfl) ?_)))))
  refine uA rfl (qM (qK (zG rfl ?_)))
  refine qAk (kE (p := cells b17 [.int .u8 1] 5) (p' := sl (some ⟨b17, 0, none⟩) 1 5 1 1 (byC [1])) uK (qAr rfl (by unfold maxLen; omega))) ?_
  refine qJ (uM rfl (uB (uBf rfl) ?_))
  refine uL ?_
  refine uU ?_
  refine qW (hE.t rfl) (hE.t rfl) rfl rfl rfl (fun b25 => ?_)
  refine uU ?_
  apply zV (hE.t rfl) (hE.t rfl) rfl rfl rfl
  ·exact uK
  ·exact uK
  ·rfl
  ·rfl
  ·omega
  ·omega
  ·(unfold maxLen; omega)
  intro g26 c26 n26 x26 hn26 hx26
  refine uA rfl (qM (zJ (qK (qL (qJ (uM rfl (uA rfl (uA rfl (qM (qK (kC ?_)))))))))))
  obtain rfl : x26 = byC [1, b] := by rw [hx26]; rfl
  apply kD
  ·rfl
  ·(apply Rs.tmp rfl; apply Rs.tmp rfl; exact Rs.nil)
  ·exact ⟨g26, c26, by rw [hn26]; rfl, rfl⟩
  rw [hn26]
  exact uI
 | pair a b =>
  have ho' := ho
  simp only [Rl.ok] at ho'
  have e1 := qBr (n := n - a) (by omega)
  have e2 := qBr (n := n - b) (by omega)
  have hl : (Rl.pair a b).left = a := rfl
  have hr : (Rl.pair a b).right = b := rfl
  refine zP (hE.fn Tryz.func78) rfl rfl rfl (fun R => ?_)
  simp only [qAe, uV, uW]
  refine qL (qJ (uU ?_))
  refine qBt rfl (fun b2 => ?_)
  refine uA rfl (uA rfl (qM (qK (qL (qL (qJ (uB (uG) ?_)))))))
  refine uM rfl (uX (qMi (r := .pair a b) hE ho h1 hn) rfl ?_)
  rintro _ _ ⟨rfl, rfl⟩
  simp only [uV, uW]
  refine uA rfl (qM (qK (qL (qJ (uM rfl (uB (qAf rfl (hE.t rfl)) ?_))))))
  refine qM (qK (zD rfl (zC (qK (qL (qJ (uB (uBf rfl) ?_)))))))
  refine uL ?_
  refine uB (qEt (j := 2) rfl (hE.t rfl) (hE.t rfl) rfl) ?_
  refine uU ?_
  refine qW (hE.t rfl) (hE.t rfl) rfl rfl rfl (fun b17 => ?_)
  refine uA rfl (qM (qK (qL (qL (qJ (uB (uBf rfl) ?_))))))
  refine uL ?_
  refine qM (qK (zL (qL (qJ (uB (y_eq rfl rfl) ?_)))))
  refine uA rfl (qM (qK (zD rfl (qL (qJ (uB (y_eq rfl rfl) ?_))))))
  refine uA rfl (qM (qK (zG rfl ?_)))
  refine qAk (kE (p := cells b17 [.int .u8 2] 5) (p' := sl (some ⟨b17, 0, none⟩) 1 5 1 1 (byC [2])) uK (qAr rfl (by unfold maxLen; omega))) ?_
  refine qL (qJ (uM rfl (uM rfl (uB (uBf rfl) ?_))))
  refine uL ?_
  refine uB (uAs rfl rfl) ?_
  refine l_eq 33 (.int .i64 ((n - a : Nat) : Int)) rfl (zX (by omega)) ?_
  refine uB (uAc rfl) ?_
  refine uX (qFv (n := n - a) hE (by omega)) rfl ?_
  rintro _ _ ⟨g, c, rfl, rfl⟩
  simp only [uV, uW]
  refine uU ?_
  apply qBw (hE.t rfl) (hE.t rfl) rfl rfl rfl
  ·exact uK
  ·exact uK
  ·exact qBh _
  ·exact qCq _
  ·first | omega | (simp only [List.length_append, List.length_cons, List.length_nil]; omega)
  ·unfold maxLen; first | omega | (simp only [List.length_append, List.length_cons, List.length_nil]; omega)
  intro g1 c1 m' x' hm' hx'
  obtain rfl : m' = ([2] ++ vput (n - a)).length := by rw [hm']; simp only [List.length_append, List.length_cons, List.length_nil] <;> omega
  obtain rfl : x' = byC ([2] ++ vput (n - a)) := hx'.trans (qBf _ _).symm
  clear hm' hx'
  refine uA rfl (qM (qK (qJ (uM rfl (uM rfl (uB (uBf rfl) ?_))))))
  refine uL ?_
  refine uB (uAs rfl rfl) ?_
  refine l_eq 41 (.int .i64 ((n - b : Nat) : Int)) rfl (zX (by omega)) ?_
  refine uB (uAc rfl) ?_
  refine uX (qFv (n := n - b) hE (by omega)) rfl ?_
  rintro _ _ ⟨g', c', rfl, rfl⟩
  simp only [uV, uW]
  refine uU ?_
  apply qBw (hE.t rfl) (hE.t rfl) rfl rfl rfl
  ·exact uK
  ·exact uK
  ·exact qBh _
  ·exact qCq _
  ·first | omega | (simp only [List.length_append, List.length_cons, List.length_nil]; omega)
  ·unfold maxLen; first | omega | (simp only [List.length_append, List.length_cons, List.length_nil]; omega)
  intro g2 c2 m' x' hm' hx'
  obtain rfl : m' = ([2] ++ vput (n - a) ++ vput (n - b)).length := by rw [hm']; simp only [List.length_append, List.length_cons, List.length_nil] <;> omega
  obtain rfl : x' = byC ([2] ++ vput (n - a) ++ vput (n - b)) := hx'.trans (qBf _ _).symm
  clear hm' hx'
  refine uA rfl (qM (zJ (qK (qL (qJ (uM rfl (uA rfl (uA rfl (qM (qK (kC ?_)))))))))))
  exact uZ rfl (.tmp rfl (.tmp rfl .nil)) ⟨g2, c2, rfl, rfl⟩
 | power a k =>
  have ho' := ho
  simp only [Rl.ok] at ho'
  simp only [Rl.times] at ht
  have e1 := qBr (n := n - a) (by omega)
  have e2 := qBr (n := k - 2) (by omega)
  have hl : (Rl.power a k).left = a := rfl
  have hr : (Rl.power a k).times = k := rfl
  refine zP (hE.fn Tryz.func78) rfl rfl rfl (fun R => ?_)
  simp only [qAe, uV, uW]
  refine qL (qJ (uU ?_))
  refine qBt rfl (fun b2 => ?_)
  refine uA rfl (uA rfl (qM (qK (qL (qL (qJ (uB (uG) ?_)))))))
  refine uM rfl (uX (qMi (r := .power a k) hE ho h1 hn) rfl ?_)
  rintro _ _ ⟨rfl, rfl⟩
  simp only [uV, uW]
  refine uA rfl (qM (qK (qL (qJ (uM rfl (uB (qAf rfl (hE.t rfl)) ?_))))))
  refine qM (qK (zD rfl (zC (qK (qL (qJ (uB (uBf rfl) ?_)))))))
  refine uL ?_
  refine uB (qEt (j := 3) rfl (hE.t rfl) (hE.t rfl) rfl) ?_
  refine uU ?_
  refine qW (hE.t rfl) (hE.t rfl) rfl rfl rfl (fun b17 => ?_)
  refine uA rfl (qM (qK (qL (qL (qJ (uB (uBf rfl) ?_))))))
  refine uL ?_
  refine qM (qK (zL (qL (qJ (uB (y_eq rfl rfl) ?_)))))
  refine uA rfl (qM (qK (zD rfl (qL (qJ (uB (y_eq rfl rfl) ?_))))))
  refine uA rfl (qM (qK (zD rfl (qL (qJ (uB (y_eq rfl rfl) ?_))))))
  refine uA rfl (qM (qK (zG rfl ?_)))
  refine qAk (kE (p := cells b17 [.int .u8 3] 5) (p' := sl (some ⟨b17, 0, none⟩) 1 5 1 1 (byC [3])) uK (qAr rfl (by unfold maxLen; omega))) ?_
  refine qL (qJ (uM rfl (uM rfl (uB (uBf rfl) ?_))))
  refine uL ?_
  refine uB (uAs rfl rfl) ?_
  refine l_eq 51 (.int .i64 ((n - a : Nat) : Int)) rfl (zX (by omega)) ?_
  refine uB (uAc rfl) ?_
  refine uX (qFv (n := n - a) hE (by omega)) rfl ?_
  rintro _ _ ⟨g, c, rfl, rfl⟩
  simp only [uV, uW]
  refine uU ?_
  apply qBw (hE.t rfl) (hE.t rfl) rfl rfl rfl
  ·exact uK
  ·exact uK
  ·exact qBh _
  ·exact qCq _
  ·first | omega | (simp only [List.length_append, List.length_cons, List.length_nil]; omega)
  ·unfold maxLen; first | omega | (simp only [List.length_append, List.length_cons, List.length_nil]; omega)
  intro g1 c1 m' x' hm' hx'
  obtain rfl : m' = ([3] ++ vput (n - a)).length := by rw [hm']; simp only [List.length_append, List.length_cons, List.length_nil] <;> omega
  obtain rfl : x' = byC ([3] ++ vput (n - a)) := hx'.trans (qBf _ _).symm
  clear hm' hx'
  refine uA rfl (qM (qK (qJ (uM rfl (uB (uBf rfl) ?_)))))
  refine uL ?_
  refine uB (uAs rfl rfl) ?_
  refine l_eq 58 (.int .i64 ((k - 2 : Nat) : Int)) rfl (zX (by omega)) ?_
  refine uB (uAc rfl) ?_
  refine uX (qFv (n := k - 2) hE (by omega)) rfl ?_
  rintro _ _ ⟨g', c', rfl, rfl⟩
  simp only [uV, uW]
  refine uU ?_
  apply qBw (hE.t rfl) (hE.t rfl) rfl rfl rfl
  ·exact uK
  ·exact uK
  ·exact qBh _
  ·exact qCq _
  ·first | omega | (simp only [List.length_append, List.length_cons, List.length_nil]; omega)
  ·unfold maxLen; first | omega | (simp only [List.length_append, List.length_cons, List.length_nil]; omega)
  intro g2 c2 m' x' hm' hx'
  obtain rfl : m' = ([3] ++ vput (n - a) ++ vput (k - 2)).length := by rw [hm']; simp only [List.length_append, List.length_cons, List.length_nil] <;> omega
  obtain rfl : x' = byC ([3] ++ vput (n - a) ++ vput (k - 2)) := hx'.trans (qBf _ _).symm
  clear hm' hx'
  refine uA rfl (qM (zJ (qK (qL (qJ (uM rfl (uA rfl (uA rfl (qM (qK (kC ?_)))))))))))
  exact uZ rfl (.tmp rfl (.tmp rfl .nil)) ⟨g2, c2, rfl, rfl⟩
def qAs (l : List UInt8) : List UInt8 := vput l.length ++ l
end
end Go.Proofs.YtddfnkijolfhbaaGreat
namespace Sl
open Go Go.RowKit
variable {E : Env} {n : Nat} {L : Fr} {S : List HP} {ty : TypeId} {pos : String} {af : Array Edge} {d : Option Nat} {gd : Option (Nat × Bool)}
end Sl
namespace Go.Proofs.YtddfnkijolfhbaaGreat
open Go Go.RowKit Sl Eg
set_option maxRecDepth 10000
variable {E : Env}
def okC (i c : Nat) : Prop := (97 ≤ c ∧ c ≤ 122) ∨ (0 < i ∧ ((48 ≤ c ∧ c ≤ 57) ∨ c = 45))
instance (i c : Nat) : Decidable (okC i c) := inferInstanceAs (Decidable (_ ∨ _))
def ValidN (bs : List UInt8) : Prop := 1 ≤ bs.length ∧ bs.length ≤ 32 ∧ ∀ i, i < bs.length → okC i (bs.getD i 0).toNat
instance (bs : List UInt8) : Decidable (ValidN bs) := inferInstanceAs (Decidable (_ ∧ _ ∧ ∀ i, i < bs.length → _))
end Go.Proofs.YtddfnkijolfhbaaGreat
namespace Sl
open Go Go.RowKit
variable {E : Env} {n : Nat} {L : Fr} {S S' H H' : List HP} {ty : TypeId} {pos : String} {af : Array Edge} {d : Option Nat} {gd : Option (Nat × Bool)} {K : Value → List HP → Prop}
theorem zAu {x y v : Operand} {b : Nat} {t kt et : TypeId} {ki : IntKind} {f : Int → Option Value} {k : Int} {u : Value} (ht : E.P.underlying t = some (.map kt et)) (hkt : E.P.underlying kt = some (.int ki)) (hx : ev L x = some (.map (some b))) (hy : ev L y = some (.int ki k)) (hv : ev L v = some u) (hm : Take (mapF b ki f) H H') (hk : K undef (mapF b ki (setF f k u) :: H')) :
  Ld E n L H ⟨d, .insert t x y v, ty, pos, af, gd⟩ K := fun Q next a w g hn => by
 obtain ⟨es, c, M, hh, he, hf, s1⟩ := qUz (g.hp.take hm)
 have hlt : b < w.heap.size := (Array.getElem?_eq_some_iff.1 hh).1
 obtain ⟨es', c', M', hrun, he', hf'⟩ : ∃ (es' : Array MapEntry) (c' : Nat) (M' : List (Int × Value)), (Instr.mapUpdate t (.map (some b)) (.int ki k) u).run E.P w = .ok () (ChangeMaps.setBlock w b (.map es' c')) ∧ Mp ki es'.toList c' M' ∧ ∀ x, M'.lookup x = setF f k u x := by
  rcases qIz (k := k) M es.toList 0 he.is with ⟨g1, g2⟩ | ⟨v0, i, e, g1, g2, g3, g4, g5⟩
  ·refine ⟨es.push { key := .int ki k, val := u, born := c }, c + 1, M ++ [(k, u)], ?_, by rw [Array.toList_push]; exact he.push u g1, fun x => ?_⟩
   ·unfold Instr.mapUpdate
    simp only [Sem.run_bind, qBa ht, Result.andThen_ok]
    simp only [getObj, Sem.run, hh]
    simp only [Result.andThen, Sem.run_bind, qGi hkt, Instr.findKey, qBa hkt, g2, Sem.run_pure]
    simp only [setObj, Sem.run]
    rw [hh]
    rfl
   rw [qNc g1, setF, hf]
  refine ⟨es.modify i fun e => { e with key := .int ki k, val := u }, c, setM k u M, ?_, by rw [Array.toList_modify]; exact he.modify (g5 u), fun x => ?_⟩
  ·have hs : Instr.sameBits 10000 (.int ki k) (.int ki k) = true := by simp [Instr.sameBits]
   have he2 : ((es[i]?).map (·.key)).getD (.int ki k) = .int ki k := by
    rw [← Array.getElem?_toList, g3]
    exact g4
   unfold Instr.mapUpdate
   simp only [Sem.run_bind, qBa ht, Result.andThen_ok]
   simp only [getObj, Sem.run, hh]
   simp only [Result.andThen, Sem.run_bind, qGi hkt, Instr.findKey, qBa hkt, g2, Sem.run_pure, Nat.zero_add, he2, Instr.keyThatStays, hs, if_true]
   simp only [setObj, Sem.run]
   rw [hh]
   rfl
  unfold setF
  by_cases e : x = k
  ·rw [if_pos e, e]; exact qNm g1
  rw [if_neg e, qKg e, hf]
 have hrun' : (execOp a.eval ⟨d, .insert t x y v, ty, pos, af, gd⟩).run E.P w = .ok .skip (ChangeMaps.setBlock w b (.map es' c')) := by
  simp [execOp, g.f.ev hx, g.f.ev hy, g.f.ev hv, hrun]
 unfold Oper.wp
 rw [hrun', Oper.upon_skip]
 have hs2 : Sat E.w0 (ChangeMaps.setBlock w b (.map es' c')) (pt b (.map es' c') :: H') := s1.write ⟨rfl, rfl, rfl, by simp [ChangeMaps.setBlock]⟩ (by simp [ChangeMaps.setBlock, hlt]) fun j hj => by
  simp only [ChangeMaps.setBlock]
  rw [Array.getElem?_setIfInBounds_ne (by intro e; exact hj e.symm)]
 exact hn _ _ _ hk (hs2.imp fun k' h => qAp (fun k'' h'' => ⟨es', c', M', h'', he', hf'⟩) h)
theorem rd_slz {w0 : World} {g c m sz : Nat} {vs xs : List Value} {t : TypeId} (h : ∀ (i : Nat) (v : Value), vs[i]? = some v → xs[i]? = some v) : ∀ k, sl (some ⟨g, 0, none⟩) c t sz m xs k → RdAt w0 g 0 vs k := fun k hk i v hv => by
 obtain ⟨_, h1 | ⟨g', cur, h1, h2, h3, h4, h5, h6⟩⟩ := hk
 ·cases h1.1
 cases h1
 refine .inr ⟨cur, t, (0, 0), h2, ?_⟩
 have hx := h i v hv
 rw [← h6, List.getElem?_take] at hx
 split at hx
 ·rw [Nat.zero_add]; simpa using hx
 cases hx
end Sl
