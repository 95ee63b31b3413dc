import Derived.Test.YtkkjjablmmmmkaaGreatDoorQ79
set_option linter.all false
namespace Go.Proofs.YtkkjjablmmmmkaaGreatDoor
open Go Go.RowKit Sl Eg
set_option maxRecDepth 10000
section
variable {E : Env}
theorem qLh (hE : Seat E) {a n : Nat} (h1 : 1 ≤ a) (h2 : a < n) : Ct E 170 [.int .i64 (a : Nat), .int .i64 (n : Nat)] [] (fun v Q => v = .bool true ∧ Q = []) := by
 refine zQ (hE.fn Tryz.func170) rfl rfl rfl (fun R => ?_)
 simp only [qAa, uV, uW]
 refine qK (qI (uA rfl (qL (qJ (qK (qI (uM rfl (uB (y_ge rfl rfl) ?_))))))))
 refine uM rfl ?_
 refine l_eq 7 (.bool true) rfl (congrArg Value.bool (decide_eq_true (by omega))) ?_
 refine kU rfl rfl (uM rfl (kU rfl rfl (uM rfl (kU rfl rfl (uB (y_lt rfl rfl) ?_)))))
 refine uB (qX rfl rfl) ?_
 refine uA rfl (qL (qJ (kD ?_)))
 exact uZ rfl (.tmp rfl .nil) ⟨congrArg Value.bool (decide_eq_true (by omega)), rfl⟩
theorem qZl (hE : Seat E) {r : Rl} {n : Nat} (ho : r.ok n) (h1 : 1 ≤ n) (hn : n ≤ 1099511627776) : Ct E 143 [.agg #[.int .i64 (Rl.kind (r) : Nat), .int .u8 (Rl.byte (r) : Nat), .int .i64 (Rl.left (r) : Nat), .int .i64 (Rl.right (r) : Nat), .int .i64 (Rl.times (r) : Nat)], .int .i64 (n : Nat)] [] (fun v Q => v = .int .i64 0 ∧ Q = []) := by
 cases r with
 | letter b =>
  refine zQ (hE.fn Tryz.func143) rfl rfl rfl (fun R => ?_)
  simp only [qAa, uV, uW]
  simp only [Rl.kind, Rl.byte, Rl.left, Rl.right, Rl.times]
  refine qK (qI (uU ?_))
  refine qAs rfl (fun b2 => ?_)
  refine uA rfl (qL (qJ (qK (qK (qI (uB (uBf rfl) ?_))))))
  refine uL ?_
  refine qL (qJ (zM (qK (qI (uB (y_eq rfl rfl) ?_)))))
  refine uA rfl (qL (qJ (zH rfl (qK (qK (qI (uB (uBf rfl) ?_)))))))
  refine uL ?_
  refine uB (y_ne rfl rfl) ?_
  refine uM rfl ?_
  refine l_eq 12 (.bool false) rfl (by simp) ?_
  refine kU rfl rfl (uB (uBf rfl) ?_)
  refine kU rfl rfl (uL ?_)
  refine kU rfl rfl (uB (y_ne rfl rfl) ?_)
  refine uB (qY rfl rfl) ?_
  refine uM rfl ?_
  refine l_eq 17 (.bool false) rfl (by simp) ?_
  refine kU rfl rfl (uB (uBf rfl) ?_)
  refine kU rfl rfl (uL ?_)
  refine kU rfl rfl (uB (y_ne rfl rfl) ?_)
  refine uB (qY rfl rfl) ?_
  refine qL (qJ ?_)
  refine zG rfl (fun e1 => ?_) (fun e1 => ?_)
  ·exact absurd rfl e1
  refine zD (qJ (qK (qK (qI (uM rfl (uB (y_lt rfl rfl) ?_))))))
  refine qL (qJ ?_)
  refine zG rfl (fun e2 => ?_) (fun e2 => ?_)
  ·exfalso; omega
  refine zD (qJ (qK (qI (uA rfl (qL (qJ (kD (zP (qW ?_)))))))))
  exact uZ rfl (.tmp rfl .nil) ⟨rfl, rfl⟩
 | pair a b =>
  obtain ⟨a1, a2, bx1, bx2⟩ := ho
  refine zQ (hE.fn Tryz.func143) rfl rfl rfl (fun R => ?_)
  simp only [qAa, uV, uW]
  simp only [Rl.kind, Rl.byte, Rl.left, Rl.right, Rl.times]
  refine qK (qI (uU ?_))
  refine qAs rfl (fun b2 => ?_)
  refine uA rfl (qL (qJ (qK (qK (qI (uB (uBf rfl) ?_))))))
  refine uL ?_
  refine qL (qJ (zM (qK (qI (uB (y_eq rfl rfl) ?_)))))
  refine uA rfl (qL (qJ (zF rfl (qK (qI (uB (y_eq rfl rfl) ?_))))))
  refine uA rfl (qL (qJ (zH rfl (qK (qK (qI (uB (uBf rfl) ?_)))))))
  refine uL ?_
  refine uB (y_ne rfl rfl) ?_
  refine uM rfl ?_
  refine l_eq 29 (.bool false) rfl (by simp) ?_
  refine kU rfl rfl (uB (uBf rfl) ?_)
  refine kU rfl rfl (uL ?_)
  refine kU rfl rfl (uB (y_ne rfl rfl) ?_)
  refine uB (qY rfl rfl) ?_
  refine qL (qJ ?_)
  refine zG rfl (fun e1 => ?_) (fun e1 => ?_)
  ·exact absurd rfl e1
  refine zD (qJ (qK (qK (qI (uM rfl (uB (y_lt rfl rfl) ?_))))))
  refine uM rfl ?_
  refine l_eq 36 (.bool false) rfl (congrArg Value.bool (decide_eq_false (by omega))) ?_
  refine kU rfl rfl (uB (uBf rfl) ?_)
  refine kU rfl rfl (uL ?_)
  refine kU rfl rfl (uM rfl (kU rfl rfl (uX (qLh hE a1 a2) rfl ?_)))
  rintro _ _ ⟨rfl, rfl⟩
  simp only [uV, uW]
  refine kU rfl rfl (uB (qBn rfl) ?_)
  refine uB (qY rfl rfl) ?_
  refine uM rfl (kU rfl rfl (uB (uBf rfl) ?_))
  refine kU rfl rfl (uL ?_)
  refine kU rfl rfl (uM rfl (kU rfl rfl (uX (qLh hE bx1 bx2) rfl ?_)))
  rintro _ _ ⟨rfl, rfl⟩
  simp only [uV, uW]
  refine kU rfl rfl (uB (qBn rfl) ?_)
  refine uB (qY rfl rfl) ?_
  refine qL (qJ (zF rfl (zD (qJ (qK (qI (uA rfl (qL (qJ (kD (zP (qW ?_))))))))))))
  exact uZ rfl (.tmp rfl .nil) ⟨rfl, rfl⟩
 | power a t =>
  obtain ⟨a1, a2, t2⟩ := ho
  refine zQ (hE.fn Tryz.func143) rfl rfl rfl (fun R => ?_)
  simp only [qAa, uV, uW]
  simp only [Rl.kind, Rl.byte, Rl.left, Rl.right, Rl.times]
  refine qK (qI (uU ?_))
  refine qAs rfl (fun b2 => ?_)
  refine uA rfl (qL (qJ (qK (qK (qI (uB (uBf rfl) ?_))))))
  refine uL ?_
  refine qL (qJ (zM (qK (qI (uB (y_eq rfl rfl) ?_)))))
  refine uA rfl (qL (qJ (zF rfl (qK (qI (uB (y_eq rfl rfl) ?_))))))
  refine uA rfl (qL (qJ (zF rfl (qK (qI (uB (y_eq rfl rfl) ?_))))))
  refine uA rfl (qL (qJ (zH rfl (qK (qK (qI (uB (uBf rfl) ?_)))))))
  refine uL ?_
  refine uB (y_ne rfl rfl) ?_
  refine uM rfl ?_
  refine l_eq 55 (.bool false) rfl (by simp) ?_
  refine kU rfl rfl (uB (uBf rfl) ?_)
  refine kU rfl rfl (uL ?_)
  refine kU rfl rfl (uB (y_ne rfl rfl) ?_)
  refine uB (qY rfl rfl) ?_
  refine uM rfl ?_
  refine l_eq 60 (.bool false) rfl (by simp) ?_
  refine kU rfl rfl (uB (uBf rfl) ?_)
  refine kU rfl rfl (uL ?_)
  refine kU rfl rfl (uB (y_lt rfl rfl) ?_)
  refine uB (qY rfl rfl) ?_
  refine qL (qJ ?_)
  refine zG rfl (fun e1 => ?_) (fun e1 => ?_)
  ·exfalso; omega
  refine zD (qJ (qK (qK (qI (uM rfl (uB (y_lt rfl rfl) ?_))))))
  refine uM rfl ?_
  refine l_eq 67 (.bool false) rfl (congrArg Value.bool (decide_eq_false (by omega))) ?_
  refine kU rfl rfl (uB (uBf rfl) ?_)
  refine kU rfl rfl (uL ?_)
  refine kU rfl rfl (uM rfl (kU rfl rfl (uX (qLh hE a1 a2) rfl ?_)))
  rintro _ _ ⟨rfl, rfl⟩
  simp only [uV, uW]
  refine kU rfl rfl (uB (qBn rfl) ?_)
  refine uB (qY rfl rfl) ?_
  refine qL (qJ (zF rfl (zD (qJ (qK (qI (uA rfl (qL (qJ (kD (zP (qW ?_))))))))))))
  exact uZ rfl (.tmp rfl .nil) ⟨rfl, rfl⟩
theorem qXf (hE : Seat E) {G : List Rl} (hw : Wf G) (hGl : G.length ≤ 100000) {p : Option Addr} {c : Nat} : Ct E 115 [.slice p G.length c] [sl p c 82 5 G.length (rusC G)] (fun v Q => v = .int .i64 0 ∧ Q = [sl p c 82 5 G.length (rusC G)]) := by
 refine qBt (p := sl p c 82 5 G.length (rusC G)) uK (fun _ h => fun hpos => qAi h hpos) (fun hp => ?_)
 refine zQ (hE.fn Tryz.func115) rfl rfl rfl (fun R => ?_)
 simp only [qAa, uV, uW]
 refine qK (qI (uA rfl (qL (qJ (qK (qK (qI (uA rfl (qL (qJ (zM ?_)))))))))))
 refine qAc (fun k : Nat => [(0, .slice p G.length c), (3, .int .i64 (k : Nat))]) (fun k => [sl p c 82 5 G.length (rusC G), R]) (fun k => G.length - k) (fun k => k ≤ G.length) 0 (Nat.zero_le _) ⟨rfl, rfl, trivial⟩ uI ?_
 rintro k hk
 refine qK (qK (qI (uM rfl (uM rfl (uB (uBl rfl) ?_)))))
 refine uB (y_lt rfl rfl) ?_
 refine qL (qJ ?_)
 refine zG rfl (fun e1 => ?_) (fun e1 => ?_)
 ·have hkl : k < G.length := by omega
  obtain ⟨g, rfl⟩ := hp (by omega)
  obtain ⟨r, hr⟩ : ∃ x, G[k]? = some x := ⟨_, List.getElem?_eq_getElem hkl⟩
  obtain ⟨f0, f1, f2, f3, f4⟩ := qFy hr (0 + ((k : Nat) : Int).toNat * 5) (by omega)
  refine zD (qJ (qK (zM (qK (qI (uM rfl (uM rfl (uB (uAi rfl rfl) ?_))))))))
  refine uB (uG) ?_
  refine uM rfl (uB (uAa rfl rfl) ?_)
  refine l_eq 16 (.int .i64 ((k + 1 : Nat) : Int)) rfl (zY (by omega)) ?_
  refine uX (qZl (r := r) (n := k + 1) hE (hw.ok k r hr) (by omega) (by omega)) rfl ?_
  rintro _ _ ⟨rfl, rfl⟩
  simp only [uV, uW]
  refine uA rfl (qL (qJ (qK (qI (uM rfl (uB (y_ne rfl rfl) ?_))))))
  refine qL (qJ ?_)
  refine zG rfl (fun e2 => ?_) (fun e2 => ?_)
  ·exact absurd rfl e2
  refine zD (zK (qJ (qI (uM rfl (uB (uAa rfl rfl) ?_)))))
  refine uA rfl (qL ?_)
  refine zU (ι := Nat) (j := k + 1) (by omega) (by omega) ⟨rfl, congrArg some (zY (by omega)), trivial⟩ uI
 refine kM (qP (qP (zJ (qJ (qK (qI ?_))))))
 refine uA rfl (qL (qJ (kD ?_)))
 exact uZ rfl (.tmp rfl .nil) ⟨rfl, rfl⟩
theorem qLf (hE : Seat E) {n : Nat} (h : n ≤ 1152921504606846976) : Ct E 144 [.int .i64 (n : Nat)] [] (fun v Q => v = .bool true ∧ Q = []) := by
 refine zQ (hE.fn Tryz.func144) rfl rfl rfl (fun R => ?_)
 simp only [qAa, uV, uW]
 refine qK (qI (uA rfl (qL (qJ (qK (qI (uM rfl (uB (y_le rfl rfl) ?_))))))))
 refine uM rfl ?_
 refine l_eq 5 (.bool true) rfl (congrArg Value.bool (decide_eq_true (by omega))) ?_
 refine kU rfl rfl (uM rfl (kU rfl rfl (uB (y_le rfl rfl) ?_)))
 refine uB (qX rfl rfl) ?_
 refine uA rfl (qL (qJ (kD ?_)))
 exact uZ rfl (.tmp rfl .nil) ⟨congrArg Value.bool (decide_eq_true (by omega)), rfl⟩
theorem ct_r1Add (hE : Seat E) {a b : Nat} (h : a + b ≤ 1152921504606846976) : Ct E 116 [.int .i64 (a : Nat), .int .i64 (b : Nat)] [] (fun v Q => v = .tuple #[.int .i64 ((a + b : Nat) : Int), .int .i64 0] ∧ Q = []) := by
 refine zQ (hE.fn Tryz.func116) rfl rfl rfl (fun R => ?_)
 simp only [qAa, uV, uW]
 refine qK (qI (uA rfl (uA rfl (qL (qJ (qK (qK (qI (uM rfl (uX (qLf (n := a) hE (by omega)) rfl ?_))))))))))
 rintro _ _ ⟨rfl, rfl⟩
 simp only [uV, uW]
 refine uB (qBn rfl) ?_
 refine uM rfl (kU rfl rfl (uM rfl (kU rfl rfl (uX (qLf (n := b) hE (by omega)) rfl ?_))))
 rintro _ _ ⟨rfl, rfl⟩
 simp only [uV, uW]
 refine kU rfl rfl (uB (qBn rfl) ?_)
 refine uB (qY rfl rfl) ?_
 refine qL (qJ (zF rfl (zD (qJ (qK (qK (qI (uM rfl (uM rfl (uB (uAa rfl rfl) ?_))))))))))
 refine uB (y_gt rfl rfl) ?_
 refine qL (qJ ?_)
 refine zG rfl (fun e1 => ?_) (fun e1 => ?_)
 ·exfalso; omega
 refine zD (qJ (qK (qI (uM rfl (uM rfl (uB (uAa rfl rfl) ?_))))))
 refine uA rfl (uA rfl (qL (qJ (kD ?_))))
 exact uZ rfl (.tmp rfl (.tmp rfl .nil)) ⟨rfl, rfl⟩
theorem ct_r1Mul (hE : Seat E) {a b : Nat} (h0 : 1 ≤ a) (hb0 : 1 ≤ b) (h : b * a ≤ 1152921504606846976) : Ct E 117 [.int .i64 (a : Nat), .int .i64 (b : Nat)] [] (fun v Q => v = .tuple #[.int .i64 ((b * a : Nat) : Int), .int .i64 0] ∧ Q = []) := by
 have hb : b * 1 ≤ b * a := Nat.mul_le_mul_left _ h0
 have ha : 1 * a ≤ b * a := Nat.mul_le_mul_right _ hb0
 have hz : (a : Int) * (b : Nat) = ((b * a : Nat) : Int) := by rw [Nat.mul_comm b a]; exact (Int.natCast_mul a b).symm
 have hq : (b : Int) ≤ 1152921504606846976 / (a : Nat) := Int.le_ediv_of_mul_le (by omega) (by rw [Int.mul_comm, hz]; omega)
 refine zQ (hE.fn Tryz.func117) rfl rfl rfl (fun R => ?_)
 simp only [qAa, uV, uW]
 refine qK (qI (uA rfl (uA rfl (qL (qJ (qK (qK (qI (uM rfl (uX (qLf (n := a) hE (by omega)) rfl ?_))))))))))
 rintro _ _ ⟨rfl, rfl⟩
 simp only [uV, uW]
 refine uB (qBn rfl) ?_
 refine uM rfl (kU rfl rfl (uM rfl (kU rfl rfl (uB (y_lt rfl rfl) ?_))))
 refine uB (qY rfl rfl) ?_
 refine qL (qJ ?_)
 refine zG rfl (fun e1 => ?_) (fun e1 => ?_)
 ·exfalso; omega
 refine zD (qJ (qK (qK (qI (uM rfl (uB (y_gt rfl rfl) ?_))))))
 refine uM rfl ?_
 refine l_eq 15 (.bool true) rfl (congrArg Value.bool (decide_eq_true (by omega))) ?_
 refine kU rfl rfl (uM rfl (kU rfl rfl (uM rfl (kU rfl rfl (uB (qPa rfl rfl (by omega) (by omega) (by omega)) ?_)))))
 refine kU rfl rfl (uB (y_gt rfl rfl) ?_)
 refine uB (qX rfl rfl) ?_
 refine qL (qJ ?_)
 refine zG rfl (fun e2 => ?_) (fun e2 => ?_)
 ·exfalso; omega
 refine zD (qJ (qK (qI (uM rfl (uM rfl (uB (qTa rfl rfl (by omega) (by omega)) ?_))))))
 refine l_eq 23 (.int .i64 ((b * a : Nat) : Int)) rfl (zY hz) ?_
 refine uA rfl (uA rfl (qL (qJ (kD ?_))))
 exact uZ rfl (.tmp rfl (.tmp rfl .nil)) ⟨rfl, rfl⟩
def lnL (G : List Rl) (k : Nat) : List Value := (List.range k).map fun j => .int .i64 (len G (j + 1) : Nat)
theorem lnL_succ (G : List Rl) (k : Nat) : lnL G (k + 1) = lnL G k ++ [.int .i64 (len G (k + 1) : Nat)] := by
 unfold lnL
 rw [List.range_succ, List.map_append]
 rfl
theorem qYo {G : List Rl} {k a : Nat} (h1 : 1 ≤ a) (h2 : a ≤ k) (o : Nat) (ho : o = a - 1) : (lnL G k)[o]? = some (.int .i64 (len G a : Nat)) := by
 subst ho
 unfold lnL
 rw [List.getElem?_map, List.getElem?_range (by omega)]
 simp only [Option.map_some]
 rw [show a - 1 + 1 = a by omega]
structure LnG where
 k : Nat
 p : Option Addr
 c : Nat
theorem qSh (hE : Seat E) {G : List Rl} (hw : Wf G) (hGl : G.length ≤ 100000) {p : Option Addr} {c : Nat} : Ct E 88 [.slice p G.length c] [sl p c 82 5 G.length (rusC G)] (fun v Q => ∃ p2 c2, v = .tuple #[.slice p2 G.length c2, .int .i64 0] ∧ Q = [sl p c 82 5 G.length (rusC G), sl p2 c2 3 1 G.length (lnL G G.length)]) := by
 refine qBt (p := sl p c 82 5 G.length (rusC G)) uK (fun _ h => fun hpos => qAi h hpos) (fun hp => ?_)
 have hmx : kJ = 1152921504606846976 := rfl
 refine zQ (hE.fn Tryz.func88) rfl rfl rfl (fun R => ?_)
 simp only [qAa, uV, uW]
 refine qK (qI (uA rfl (uA rfl (qL (qJ (qK (qK (qI (uM rfl (uX (qXf hE hw hGl) rfl ?_))))))))))
 rintro _ _ ⟨rfl, rfl⟩
 simp only [uV, uW]
 refine uA rfl (qL (qJ (qK (qI (uM rfl (uB (y_ne rfl rfl) ?_))))))
 refine qL (qJ ?_)
 refine zG rfl (fun e0 => ?_) (fun e0 => ?_)
 ·exact absurd rfl e0
 refine zD (qJ (qK (qI (uA rfl (qL (qJ (qK (qK (qI (uA rfl (qL (qJ (zM ?_)))))))))))))
 refine qAc (fun x : LnG => [(0, .slice p G.length c), (5, .slice x.p x.k x.c), (6, .int .i64 (x.k : Nat))]) (fun x => [sl p c 82 5 G.length (rusC G), sl x.p x.c 3 1 x.k (lnL G x.k), R]) (fun x => G.length - x.k) (fun x => x.k ≤ G.length) ⟨0, none, 0⟩ (Nat.zero_le _) ⟨rfl, rfl, rfl, trivial⟩ ?_ ?_
 ·apply kG (qBw (t := 3) (sz := 1))
  exact uI
 rintro ⟨k, p2, c2⟩ hk
 simp only at hk ⊢
 refine qK (qK (qI (uM rfl (uM rfl (uB (uBl rfl) ?_)))))
 refine uB (y_lt rfl rfl) ?_
 refine qL (qJ ?_)
 refine zG rfl (fun e1 => ?_) (fun e1 => ?_)
 ·have hkl : k < G.length := by omega
  obtain ⟨g, rfl⟩ := hp (by omega)
  obtain ⟨r, hr⟩ : ∃ x, G[k]? = some x := ⟨_, List.getElem?_eq_getElem hkl⟩
  obtain ⟨f0, f1, f2, f3, f4⟩ := qFy hr (0 + ((k : Nat) : Int).toNat * 5) (by omega)
  have hok := hw.ok k r hr
  have hsh := hw.short (k + 1)
  refine zD (qJ (qK (zM (qK (qI (uA rfl (uA rfl (qL (qJ ?_)))))))))
  refine qEs (fun _ : Unit => [(0, .slice (some ⟨g, 0, none⟩) G.length c), (5, .slice p2 k c2), (6, .int .i64 (k : Nat)), (7, .int .i64 (len G (k + 1) : Nat)), (8, .int .i64 0)]) (fun _ => [sl (some ⟨g, 0, none⟩) c 82 5 G.length (rusC G), sl p2 c2 3 1 k (lnL G k), R]) (fun _ => True) ?_ ?_
  ·refine qCy (p := sl p2 c2 3 1 k (lnL G k)) uK (fun _ h => fun hpos => qAi h hpos) ?_
   intro hp2
   cases r with
   | letter b =>
    simp only [Rl.kind, Rl.byte, Rl.left, Rl.right, Rl.times] at f0 f1 f2 f3 f4 ⊢
    refine qK (qI (uM rfl (uM rfl (uB (uAi rfl rfl) ?_))))
    refine uB (uBf rfl) ?_
    refine uL ?_
    refine qL (qJ (zM (qK (qI (uB (y_eq rfl rfl) ?_)))))
    refine uA rfl (qL (qJ (zF rfl (qK (qI (uB (y_eq rfl rfl) ?_))))))
    refine uA rfl (qL (qJ (zF rfl (zD (zK ?_)))))
    refine qAr () trivial ⟨rfl, rfl, rfl, congrArg some (zY (by rw [qIh hr]; rfl)), rfl, trivial⟩ uI
   | pair a b =>
    have hl := qGn hr hok
    obtain ⟨a1, a2, bx1, bx2⟩ := hok
    simp only [Rl.kind, Rl.byte, Rl.left, Rl.right, Rl.times] at f0 f1 f2 f3 f4 ⊢
    obtain ⟨g2, rfl⟩ := hp2 (by omega)
    have f5 := qYo (G := G) (k := k) a1 (by omega) ((((a : Nat) : Int) - 1).toNat) (by omega)
    have f6 := qYo (G := G) (k := k) bx1 (by omega) ((((b : Nat) : Int) - 1).toNat) (by omega)
    refine qK (qI (uM rfl (uM rfl (uB (uAi rfl rfl) ?_))))
    refine uB (uBf rfl) ?_
    refine uL ?_
    refine qL (qJ (zM (qK (qI (uB (y_eq rfl rfl) ?_)))))
    refine uA rfl (qL (qJ (zH rfl ?_)))
    refine uH ([sl (some ⟨g, 0, none⟩) c 82 5 G.length (rusC G), sl (some ⟨g2, 0, none⟩) c2 3 1 k (lnL G k)]) ?_
    refine uD 0 rfl (qB rfl) ?_
    refine uD 1 rfl (qB rfl) ?_
    refine uD 2 rfl (qB rfl) ?_
    refine uD 3 rfl (uAi rfl rfl) ?_
    refine uD 4 rfl (uBf rfl) ?_
    refine uD 5 rfl (uY) ?_
    refine uD 6 rfl (uAs rfl rfl) ?_
    refine uD 7 rfl (uAj rfl rfl) ?_
    refine uD 8 rfl (uY) ?_
    refine uD 9 rfl (qB rfl) ?_
    refine uD 10 rfl (qB rfl) ?_
    refine uD 11 rfl (qB rfl) ?_
    refine uD 12 rfl (uAi rfl rfl) ?_
    refine uD 13 rfl (uBf rfl) ?_
    refine uD 14 rfl (uY) ?_
    refine uD 15 rfl (uAs rfl rfl) ?_
    refine uD 16 rfl (uAj rfl rfl) ?_
    refine uD 17 rfl (uY) ?_
    apply kP 18 rfl (by kernel_rfl) rfl
    refine uC (ct_r1Add (a := len G a) (b := len G b) hE (by omega)) rfl ?_
    rintro _ _ ⟨rfl, rfl⟩
    simp only [uV, uW]
    refine uE ?_
    refine uD 19 rfl (qB rfl) ?_
    refine uD 20 rfl (qU rfl rfl) ?_
    refine uD 21 rfl (qU rfl rfl) ?_
    refine uD 22 rfl (qC rfl) ?_
    refine uD 23 rfl (qC rfl) ?_
    refine qCz (by kernel_rfl) ?_
    refine zK ?_
    refine qAr () trivial ⟨rfl, rfl, rfl, congrArg some (zY (by rw [hl])), rfl, trivial⟩ uI
   | power a t =>
    have hl := qDl hr hok
    obtain ⟨a1, a2, t2⟩ := hok
    have hap := hw.pos a a1 (by omega)
    simp only [Rl.kind, Rl.byte, Rl.left, Rl.right, Rl.times] at f0 f1 f2 f3 f4 ⊢
    obtain ⟨g2, rfl⟩ := hp2 (by omega)
    have f5 := qYo (G := G) (k := k) a1 (by omega) ((((a : Nat) : Int) - 1).toNat) (by omega)
    refine qK (qI (uM rfl (uM rfl (uB (uAi rfl rfl) ?_))))
    refine uB (uBf rfl) ?_
    refine uL ?_
    refine qL (qJ (zM (qK (qI (uB (y_eq rfl rfl) ?_)))))
    refine uA rfl (qL (qJ (zF rfl (qK (qI (uB (y_eq rfl rfl) ?_))))))
    refine uA rfl (qL (qJ (zH rfl ?_)))
    refine uH ([sl (some ⟨g, 0, none⟩) c 82 5 G.length (rusC G), sl (some ⟨g2, 0, none⟩) c2 3 1 k (lnL G k)]) ?_
    refine uD 0 rfl (qB rfl) ?_
    refine uD 1 rfl (qB rfl) ?_
    refine uD 2 rfl (qB rfl) ?_
    refine uD 3 rfl (uAi rfl rfl) ?_
    refine uD 4 rfl (uBf rfl) ?_
    refine uD 5 rfl (uY) ?_
    refine uD 6 rfl (uAs rfl rfl) ?_
    refine uD 7 rfl (uAj rfl rfl) ?_
    refine uD 8 rfl (uY) ?_
    refine uD 9 rfl (qB rfl) ?_
    refine uD 10 rfl (qB rfl) ?_
    refine uD 11 rfl (uAi rfl rfl) ?_
    refine uD 12 rfl (uBf rfl) ?_
    refine uD 13 rfl (uY) ?_
    apply kP 14 rfl (by kernel_rfl) rfl
    refine uC (ct_r1Mul (a := len G a) (b := t) hE (by omega) (by omega) (by omega)) rfl ?_
    rintro _ _ ⟨rfl, rfl⟩
    simp only [uV, uW]
    refine uE ?_
    refine uD 15 rfl (qB rfl) ?_
    refine uD 16 rfl (qU rfl rfl) ?_
    refine uD 17 rfl (qU rfl rfl) ?_
    refine uD 18 rfl (qC rfl) ?_
    refine uD 19 rfl (qC rfl) ?_
    refine qCz (by kernel_rfl) ?_
    refine zK ?_
    refine qAr () trivial ⟨rfl, rfl, rfl, congrArg some (zY (by rw [hl])), rfl, trivial⟩ uI
  rintro _ _
  refine qK (qK (qI (uM rfl (uB (y_ne rfl rfl) ?_))))
  refine qL (qJ ?_)
  refine zG rfl (fun e2 => ?_) (fun e2 => ?_)
  ·exact absurd rfl e2
  refine zD (qJ (qI (uM rfl (uM rfl (uU ?_)))))
  refine qV (hE.t rfl) (hE.t rfl) rfl rfl rfl (fun b74 => ?_)
  refine uU ?_
  apply zW (hE.t rfl) (hE.t rfl) rfl rfl rfl
  ·exact uK
  ·exact uK
  ·rfl
  ·rfl
  ·omega
  ·omega
  ·(unfold maxLen; omega)
  intro g75 c75 n75 x75 hn75 hx75
  refine uA rfl (qL (zK (qJ (qI (uM rfl (uB (uAa rfl rfl) ?_))))))
  refine uA rfl (qL ?_)
  obtain rfl : n75 = k + 1 := by omega
  obtain rfl : x75 = lnL G (k + 1) := by rw [hx75, lnL_succ]; rfl
  refine zU (ι := LnG) (j := ⟨k + 1, some ⟨g75, 0, none⟩, c75⟩) (by simp only; omega) (by simp only; omega) ⟨rfl, rfl, congrArg some (zY (by simp only; omega)), trivial⟩ uI
 obtain rfl : k = G.length := by omega
 refine kM (qP (qP (zJ (qJ (qK (qI (uM rfl (uA rfl (uA rfl (qL (qJ (kD ?_))))))))))))
 exact uZ rfl (.tmp rfl (.tmp rfl .nil)) ⟨p2, c2, rfl, rfl⟩
end
section
variable {E : Env}
structure PlG where
 k : Nat
 p : Option Addr
 c : Nat
theorem rep_snoc (T : List UInt8) (k : Nat) : (List.replicate (k + 1) T).flatten = (List.replicate k T).flatten ++ T := by
 rw [List.replicate_succ', List.flatten_append]
 simp
theorem qOd (hE : Seat E) {G : List Rl} (hw : Wf G) (hGl : G.length ≤ 100000) {p : Option Addr} {c : Nat} : ∀ n, n ≤ G.length → len G n ≤ 4096 → Ct E 89 [.slice p G.length c, .int .i64 (n : Nat)] [sl p c 82 5 G.length (rusC G)] (fun v Q => ∃ p2 c2, v = .slice p2 (len G n) c2 ∧ Q = [sl p c 82 5 G.length (rusC G), sl p2 c2 5 1 (len G n) (byC (txt G n))]) := by
 intro n
 induction n using Nat.strongRecOn with
 | ind n ih =>
  intro hn hlen
  refine qBt (p := sl p c 82 5 G.length (rusC G)) uK (fun _ h => fun hpos => qAi h hpos) (fun hp => ?_)
  rcases Nat.eq_zero_or_pos n with rfl | h0
  ·refine zQ (hE.fn Tryz.func89) rfl rfl rfl (fun R => ?_)
   simp only [qAa, uV, uW]
   refine qK (qI (uA rfl (qL (qJ (qK (qK (qI (uM rfl (uB (y_eq rfl rfl) ?_)))))))))
   refine qL (qJ (zH rfl (qK (qI (uA rfl (qL (qJ (kD (qW ?_)))))))))
   apply kE
   ·rfl
   ·(apply Rs.tmp rfl; exact Rs.nil)
   ·exact ⟨none, 0, rfl, rfl⟩
   apply kG (qBw (t := 5) (sz := 1))
   exact uI
  obtain ⟨i, rfl⟩ : ∃ i, n = i + 1 := ⟨n - 1, by omega⟩
  obtain ⟨g, rfl⟩ := hp (by omega)
  obtain ⟨r, hr⟩ : ∃ x, G[i]? = some x := ⟨_, List.getElem?_eq_getElem (by omega)⟩
  have hok := hw.ok i r hr
  obtain ⟨f0, f1, f2, f3, f4⟩ := qFy hr (0 + (((i + 1 : Nat) : Int) - 1).toNat * 5) (by omega)
  refine zQ (hE.fn Tryz.func89) rfl rfl rfl (fun R => ?_)
  simp only [qAa, uV, uW]
  refine qK (qI (uA rfl (qL (qJ (qK (qK (qI (uM rfl (uB (y_eq rfl rfl) ?_)))))))))
  refine qL (qJ ?_)
  refine zG rfl (fun e0 => ?_) (fun e0 => ?_)
  ·exfalso; omega
  refine zD (qJ (qK (qI (uM rfl (uM rfl (uB (uAs rfl rfl) ?_))))))
  refine uB (uAi rfl rfl) ?_
  refine uB (uG) ?_
  refine uU (kH (hE.t rfl) (fun b5 => ?_))
  refine uU (uS ?_)
  refine qL (qJ ?_)
  cases r with
  | letter b =>
   have hx := qBp hr
   have hl : len G (i + 1) = 1 := by rw [len, hx]; rfl
   rw [hl, hx]
   simp only [Rl.kind, Rl.byte, Rl.left, Rl.right, Rl.times] at f0 f1 f2 f3 f4 ⊢
   refine qK (qK (qI (uB (uBf rfl) ?_)))
   refine uL ?_
   refine qL (qJ (zM (qK (qI (uB (y_eq rfl rfl) ?_)))))
   refine uA rfl (qL (qJ (zH rfl (qK (qI (uB (uBf rfl) ?_))))))
   refine uL ?_
   refine uU ?_
   refine qV (hE.t rfl) (hE.t rfl) rfl rfl rfl (fun b22 => ?_)
   refine uA rfl (qL (qJ (kD (zP (qW ?_)))))
   apply kE
   ·rfl
   ·(apply Rs.tmp rfl; exact Rs.nil)
   ·exact ⟨some ⟨b22, 0, none⟩, 1, rfl, rfl⟩
   apply kG (kF (p := cells b22 [.int .u8 (b.toNat : Nat)] 5) (p' := sl (some ⟨b22, 0, none⟩) 1 5 1 1 (byC [b])) uK (qAd rfl (by unfold maxLen; omega)))
   exact uI
  | pair a b =>
   have hx := qCq hr hok
   have hl := qGn hr hok
   obtain ⟨a1, a2, bx1, bx2⟩ := hok
   rw [hl, hx]
   simp only [Rl.kind, Rl.byte, Rl.left, Rl.right, Rl.times] at f0 f1 f2 f3 f4 ⊢
   refine qK (qK (qI (uB (uBf rfl) ?_)))
   refine uL ?_
   refine qL (qJ (zM (qK (qI (uB (y_eq rfl rfl) ?_)))))
   refine uA rfl (qL (qJ (zF rfl (qK (qI (uB (y_eq rfl rfl) ?_))))))
   refine uA rfl (qL (qJ (zH rfl (qK ?_))))
   refine uH ([cells b5 [.int .i64 ((2 : Nat) : Int), .int .u8 ((0 : Nat) : Int), .int .i64 (a : Nat), .int .i64 (b : Nat), .int .i64 ((0 : Nat) : Int)] 82]) ?_
   refine uD 0 rfl (qB rfl) ?_
   refine uD 1 rfl (uBf rfl) ?_
   refine uD 2 rfl (uY) ?_
   refine uD 4 rfl (qB rfl) ?_
   refine uD 5 rfl (uBf rfl) ?_
   refine uD 6 rfl (uY) ?_
   apply kP 3 rfl (by kernel_rfl) rfl
   refine uC (ih a (by omega) (by omega) (by omega)) rfl ?_
   rintro _ _ ⟨pa, ca, rfl, rfl⟩
   simp only [uV, uW]
   refine uE ?_
   apply kP 7 rfl (by kernel_rfl) rfl
   refine uC (ih b (by omega) (by omega) (by omega)) rfl ?_
   rintro _ _ ⟨pb, cb, rfl, rfl⟩
   simp only [uV, uW]
   refine uE ?_
   apply kP 8 rfl (by kernel_rfl) rfl
   apply qAv (hE.t rfl) (hE.t rfl) rfl rfl rfl
   ·exact uK
   ·exact uK
   ·exact qBd _
   ·omega
   ·unfold maxLen; omega
   intro p3 c3 m3 x3 hm3 hx3
   obtain rfl : m3 = len G a + len G b := hm3
   obtain rfl : x3 = byC (txt G a ++ txt G b) := by rw [hx3, qAo]
   refine uE ?_
   refine uD 9 rfl (qC rfl) ?_
   refine qCz (by kernel_rfl) ?_
   refine qJ (kD (zP (qW ?_)))
   exact uZ rfl (.tmp rfl .nil) ⟨p3, c3, rfl, rfl⟩
  | power a t =>
   have hx := qCa hr hok
   have hl := qDl hr hok
   obtain ⟨a1, a2, t2⟩ := hok
   have hap := hw.pos a a1 (by omega)
   have ht1 : 1 * len G a ≤ t * len G a := Nat.mul_le_mul_right _ (by omega)
   have ht2 : t * 1 ≤ t * len G a := Nat.mul_le_mul_left _ hap
   rw [hl, hx]
   simp only [Rl.kind, Rl.byte, Rl.left, Rl.right, Rl.times] at f0 f1 f2 f3 f4 ⊢
   refine qK (qK (qI (uB (uBf rfl) ?_)))
   refine uL ?_
   refine qL (qJ (zM (qK (qI (uB (y_eq rfl rfl) ?_)))))
   refine uA rfl (qL (qJ (zF rfl (qK (qI (uB (y_eq rfl rfl) ?_))))))
   refine uA rfl (qL (qJ (zF rfl (zD (zK (qJ (qK (qI (uM rfl (uB (uBf rfl) ?_))))))))))
   refine uL ?_
   refine uX (ih a (by omega) (by omega) (by omega)) rfl ?_
   rintro _ _ ⟨pa, ca, rfl, rfl⟩
   simp only [uV, uW]
   refine uA rfl (qL (qJ (qK (qI (uA rfl (qL (qJ (qK (qK (qI (uA rfl (qL (qJ (zM ?_))))))))))))))
   refine qAc (fun x : PlG => [(5, uPt b5), (6, .slice pa (len G a) ca), (7, .slice x.p (x.k * len G a) x.c), (8, .int .i64 (x.k : Nat))]) (fun x => [sl (some ⟨g, 0, none⟩) c 82 5 G.length (rusC G), cells b5 [.int .i64 ((3 : Nat) : Int), .int .u8 ((0 : Nat) : Int), .int .i64 (a : Nat), .int .i64 ((0 : Nat) : Int), .int .i64 (t : Nat)] 82, sl pa ca 5 1 (len G a) (byC (txt G a)), sl x.p x.c 5 1 (x.k * len G a) (byC ((List.replicate x.k (txt G a)).flatten)), R]) (fun x => t - x.k) (fun x => x.k ≤ t) ⟨0, none, 0⟩ (Nat.zero_le _) ⟨rfl, rfl, congrArg some (by simp), rfl, trivial⟩ ?_ ?_
   ·simp only [Nat.zero_mul]
    apply kG (qBw (t := 5) (sz := 1))
    exact uI
   rintro ⟨k, p2, c2⟩ hk
   simp only at hk ⊢
   refine qK (qK (qI (uM rfl (uB (uBf rfl) ?_))))
   refine uL ?_
   refine uB (y_lt rfl rfl) ?_
   refine qL (qJ ?_)
   refine zG rfl (fun e1 => ?_) (fun e1 => ?_)
   ·have hkt : (k + 1) * len G a ≤ t * len G a := Nat.mul_le_mul_right _ (by omega)
    have hk1 : (k + 1) * len G a = k * len G a + len G a := Nat.succ_mul _ _
    have hT : (txt G a).length = len G a := rfl
    refine zD (qJ (qK (zM (qI (uM rfl (uM rfl (uU ?_)))))))
    apply qAv (hE.t rfl) (hE.t rfl) rfl rfl rfl
    ·exact uK
    ·exact uK
    ·exact qBd _
    ·omega
    ·unfold maxLen; omega
    intro p3 c3 m3 x3 hm3 hx3
    obtain rfl : m3 = (k + 1) * len G a := by rw [hk1]; exact hm3
    obtain rfl : x3 = byC ((List.replicate (k + 1) (txt G a)).flatten) := by rw [hx3, rep_snoc, qAo]
    refine uA rfl (qL (zK (qJ (qI (uM rfl (uB (uAa rfl rfl) ?_))))))
    refine uA rfl (qL ?_)
    refine zU (ι := PlG) (j := ⟨k + 1, p3, c3⟩) (by simp only; omega) (by simp only; omega) ⟨rfl, rfl, rfl, congrArg some (zY (by simp only; omega)), trivial⟩ uI
   obtain rfl : k = t := by omega
   refine kM (qP (qP (zJ (qJ (qK (qI (uM rfl (uA rfl (qL (qJ (kD ?_)))))))))))
   exact uZ rfl (.tmp rfl .nil) ⟨p2, c2, rfl, rfl⟩
theorem qOl (hE : Seat E) {G : List Rl} (hw : Wf G) (hGl : G.length ≤ 100000) {p : Option Addr} {c : Nat} (hlen : len G G.length ≤ 4096) : Ct E 55 [.slice p G.length c, .int .i64 (G.length : Nat)] [sl p c 82 5 G.length (rusC G)] (fun v Q => ∃ p2 c2, v = .tuple #[.slice p2 (len G G.length) c2, .bool true] ∧ Q = [sl p c 82 5 G.length (rusC G), sl p2 c2 5 1 (len G G.length) (byC (txt G G.length))]) := by
 refine zQ (hE.fn Tryz.func55) rfl rfl rfl (fun R => ?_)
 simp only [qAa, uV, uW]
 refine qK (qI (uA rfl (uA rfl (qL (qJ (qK (qI (uM rfl (uX (qSh hE hw hGl) rfl ?_)))))))))
 rintro _ _ ⟨p1, c1, rfl, rfl⟩
 simp only [uV, uW]
 refine qOh (p := sl p1 c1 3 1 G.length (lnL G G.length)) uK (fun _ h => fun hpos => qAi h hpos) ?_
 intro hp1
 refine uM rfl (uB (qU rfl rfl) (uB (qU rfl rfl) (uA rfl (uA rfl (qL (qJ (qK (qK (qI (uM rfl (uB (y_ne rfl rfl) ?_)))))))))))
 refine uM rfl ?_
 refine l_eq 15 (.bool false) rfl (by simp) ?_
 refine kU rfl rfl (uM rfl (kU rfl rfl (uB (y_lt rfl rfl) ?_)))
 refine uB (qY rfl rfl) ?_
 refine uM rfl ?_
 refine l_eq 19 (.bool false) rfl (congrArg Value.bool (decide_eq_false (by omega))) ?_
 refine kU rfl rfl (uM rfl (kU rfl rfl (uM rfl (kU rfl rfl (uB (uBl rfl) ?_)))))
 refine kU rfl rfl (uB (y_gt rfl rfl) ?_)
 refine uB (qY rfl rfl) ?_
 refine uM rfl ?_
 refine l_eq 25 (.bool false) rfl (congrArg Value.bool (decide_eq_false (by omega))) ?_
 refine kU rfl rfl (uM rfl (kU rfl rfl (uB (y_gt rfl rfl) ?_)))
 refine kU rfl rfl (uM rfl ?_)
 rcases Nat.eq_zero_or_pos G.length with h0 | h0
 ·refine l_eq 28 (.bool false) rfl (congrArg Value.bool (decide_eq_false (by omega))) ?_
  refine zV rfl rfl rfl rfl (zV rfl rfl rfl rfl (zV rfl rfl rfl rfl (zV rfl rfl rfl rfl (zV rfl rfl rfl rfl (zV rfl rfl rfl rfl (kU rfl rfl ?_))))))
  refine uB (qY rfl rfl) ?_
  refine uB (qY rfl rfl) ?_
  refine qL (qJ (zF rfl (zD (qJ (qK (qI (uM rfl (uM rfl (uX (qOd hE hw hGl G.length (Nat.le_refl _) hlen) rfl ?_)))))))))
  rintro _ _ ⟨p2, c2, rfl, rfl⟩
  simp only [uV, uW]
  refine uA rfl (uA rfl (qL (qJ (kD ?_))))
  exact uZ rfl (.tmp rfl (.tmp rfl .nil)) ⟨p2, c2, rfl, rfl⟩
 obtain ⟨g1, rfl⟩ := hp1 h0
 have f0 := qYo (G := G) (k := G.length) h0 (Nat.le_refl _) ((((G.length : Nat) : Int) - 1).toNat) (by omega)
 refine l_eq 28 (.bool true) rfl (congrArg Value.bool (decide_eq_true (by omega))) ?_
 refine kU rfl rfl (uM rfl (kU rfl rfl (uM rfl (kU rfl rfl (uB (uAs rfl rfl) ?_)))))
 refine kU rfl rfl (uB (uAj rfl rfl) ?_)
 refine kU rfl rfl (uL ?_)
 refine kU rfl rfl (uB (y_gt rfl rfl) ?_)
 refine kU rfl rfl (uB (qX rfl rfl) ?_)
 refine uB (qY rfl rfl) ?_
 refine qL (qJ ?_)
 refine zG rfl (fun e1 => ?_) (fun e1 => ?_)
 ·exfalso; omega
 refine zD (qJ (qK (qI (uM rfl (uM rfl (uX (qOd hE hw hGl G.length (Nat.le_refl _) hlen) rfl ?_))))))
 rintro _ _ ⟨p2, c2, rfl, rfl⟩
 simp only [uV, uW]
 refine uA rfl (uA rfl (qL (qJ (kD ?_))))
 exact uZ rfl (.tmp rfl (.tmp rfl .nil)) ⟨p2, c2, rfl, rfl⟩
end
section
variable {E : Env} {Es : List Ent} {s most : Nat}
theorem Iso.txt {L1 L2 : List Rl} (w1 : Wf L1) (w2 : Wf L2) {x y : Nat} (h : Iso L1 L2 x y) : Eg.txt L1 x = Eg.txt L2 y := by
 induction h with
 | letter h1 h2 => rw [qBp h1, qBp h2]
 | pair h1 h2 _ _ i1 i2 => rw [qCq h1 (w1.ok _ _ h1), qCq h2 (w2.ok _ _ h2), i1, i2]
 | power h1 h2 _ i => rw [qCa h1 (w1.ok _ _ h1), qCa h2 (w2.ok _ _ h2), i]
theorem Rea.down {L : List Rl} (hw : Wf L) {k x : Nat} (h : Rea L k x) : x ≤ k := by
 induction h with
 | self h => exact Nat.le_refl _
 | kid h1 h2 _ ih =>
  have := qCn (hw.ok _ _ h1) _ h2
  omega
theorem RcL.last {L : List Rl} {id : Nat} {V : List Nat} (hw : Wf L) (h : RcL L id V) (h1 : 1 ≤ id) (h2 : id ≤ L.length) : id ∈ V ∧ numb V id = V.length := by
 have hin : id ∈ V := (h.all id).2 (by
  obtain ⟨n, rfl⟩ : ∃ n, id = n + 1 := ⟨id - 1, by omega⟩
  exact .self (by omega))
 have hl := List.length_pos_of_mem hin
 obtain ⟨z, hz⟩ : ∃ z, V[V.length - 1]? = some z := ⟨_, List.getElem?_eq_getElem (by omega)⟩
 have hz1 := ((h.all z).1 (List.mem_of_getElem? hz)).down hw
 obtain ⟨i, hi⟩ := List.getElem?_of_mem hin
 have hil := (List.getElem?_eq_some_iff.1 hi).1
 have hz2 : id ≤ z := by
  rcases Nat.lt_or_ge i (V.length - 1) with e | e
  ·have := (List.pairwise_iff_getElem.1 h.srt) i (V.length - 1) hil (by omega) e
   rw [(List.getElem?_eq_some_iff.1 hi).2, (List.getElem?_eq_some_iff.1 hz).2] at this
   exact this
  have e2 : i = V.length - 1 := by omega
  subst e2
  rw [hi] at hz
  cases hz
  exact Nat.le_refl _
 obtain rfl : z = id := by omega
 refine ⟨hin, ?_⟩
 rw [qQk h.nd hz]
 omega
theorem zDa (hE : Seat E) : Ct E 87 [uPt s, .int .i64 ((0 : Nat) : Int)] [] (fun v Q => v = .slice none 0 0 ∧ Q = []) := by
 refine zQ (hE.fn Tryz.func87) rfl rfl rfl (fun R => ?_)
 simp only [qAa, uV, uW]
 refine qK (qI (uA rfl (qL (qJ (qK (qK (qI (uM rfl (uB (y_eq rfl rfl) ?_)))))))))
 refine qL (qJ (zH rfl (qK (qI (uA rfl (qL (qJ (kD (qW ?_)))))))))
 exact uZ rfl (.tmp rfl .nil) ⟨rfl, rfl⟩
theorem qZm (hE : Seat E) : Ct E 54 [uPt s, .int .i64 ((0 : Nat) : Int)] [zT s most Es]
  (fun v Q => ∃ p c, v = .tuple #[.slice p ([] : List Rl).length c, .nilIface] ∧ Q = [zT s most Es, sl p c 82 5 ([] : List Rl).length (rusC [])]) := by
 refine zQ (hE.fn Tryz.func54) rfl rfl rfl (fun R => ?_)
 simp only [qAa, uV, uW]
 refine qK (qI (uA rfl (uA rfl (qL (qJ (qK (qK (qI (uM rfl (uB (qBr rfl (hE.t rfl)) ?_))))))))))
 refine qL (qJ (zF rfl (zD (qJ (qK (qK (qI (uM rfl (uM rfl (uX (qYr hE ((0 : Nat) : Int)) rfl ?_))))))))))
 rintro _ _ ⟨rfl, rfl⟩
 simp only [uV, uW]
 refine uB (qBn rfl) ?_
 refine qL (qJ ?_)
 refine w_eq 18 (.bool false) rfl (by simp) ?_
 refine zF rfl (zD (qJ (qK (qI (uM rfl (uM rfl (uX (zDa hE) rfl ?_)))))))
 rintro _ _ ⟨rfl, rfl⟩
 simp only [uV, uW]
 refine uA rfl (qL (qJ (qK (qI (uM rfl (uB (uBl rfl) ?_))))))
 refine uU ?_
 refine qLl .i64 (kt := 37) (et := 37) (by rw [hE.P]; kernel_rfl) rfl (fun b25 => ?_)
 refine uA rfl (qL (qJ (qK (qI (uM rfl (uB (uBl rfl) ?_))))))
 refine uU ?_
 refine qCo (hE.t rfl) (hE.t rfl) rfl rfl (by first | omega | exact Nat.le_of_ble_eq_true rfl) (by (unfold maxLen; first | omega | exact Nat.le_of_ble_eq_true rfl)) (fun b28 us28 hu28 => ?_)
 refine uA rfl (qL (qJ (qK (qK (qI (uM rfl (uB (uBl rfl) ?_)))))))
 refine uM rfl (qL (qJ (zM ?_)))
 refine qBz (kF (p := sl (some ⟨b28, 0, none⟩) 0 82 5 0 us28) (p' := sl (some ⟨b28, 0, none⟩) 0 82 5 0 (rusC [])) uK (qEt (Nat.zero_le _) (by simp [rusC]) (by simp))) ?_
 refine qAc (fun _ : Unit => [(8, .slice (some ⟨b28, 0, none⟩) 0 0), (30, .int .i64 ((0 : Nat) : Int)), (31, .int .i64 0)]) (fun _ => [zT s most Es, sl (some ⟨b28, 0, none⟩) 0 82 5 0 (rusC []), R]) (fun _ => 0) (fun _ => True) () trivial ⟨rfl, rfl, rfl, trivial⟩ uI ?_
 rintro _ _
 refine qK (qI (uB (y_lt rfl rfl) ?_))
 refine qL (qJ (qK ?_))
 refine zG rfl (fun e1 => ?_) (fun e1 => ?_)
 ·exfalso; omega
 refine kM (qP (qP (zJ (qJ (qK (qI (uM rfl (uA rfl (uA rfl (qL (qJ (kD ?_))))))))))))
 exact uZ rfl (.tmp rfl (.tmp rfl .nil)) ⟨_, _, rfl, rfl⟩
theorem zAs (hE : Seat E) {id : Nat} (h2 : id ≤ Es.length) (hn : Es.length < 65536) (hlen : len (rls Es) id ≤ 4096) : Ct E 28 [uPt s, .int .i64 (id : Nat)] [zT s most Es]
  (fun v Q => ∃ p c, v = .tuple #[.slice p (len (rls Es) id) c, .bool true] ∧ Q = [zT s most Es, sl p c 5 1 (len (rls Es) id) (byC (txt (rls Es) id))]) := by
 refine qBt (p := zT s most Es) uK (fun _ h => qAj h) (fun hsay => ?_)
 have hw := hsay.1
 have hLl := zS Es
 rcases Nat.eq_zero_or_pos id with rfl | h1
 ·have hlen0 : len [] ([] : List Rl).length ≤ 4096 := hlen
  refine zQ (hE.fn Tryz.func28) rfl rfl rfl (fun R => ?_)
  simp only [qAa, uV, uW]
  refine qK (qI (uA rfl (uA rfl (qL (qJ (qK (qI (uM rfl (uM rfl (uX (qZm hE) rfl ?_))))))))))
  rintro _ _ ⟨p, c, rfl, rfl⟩
  simp only [uV, uW]
  refine uM rfl (uB (qU rfl rfl) (uB (qU rfl rfl) (uA rfl (uA rfl (qL (qJ (qK (qK (qI (uM rfl ?_))))))))))
  refine uB (qAg rfl (hE.t rfl)) ?_
  refine qL (qJ (zF rfl (zD (qJ (qK (qI (uM rfl (uM rfl (uB (uBl rfl) ?_)))))))))
  refine uX (qOl (G := []) hE zEh (by simp) hlen0) rfl ?_
  rintro _ _ ⟨p2, c2, rfl, rfl⟩
  simp only [uV, uW]
  refine uB (qU rfl rfl) (uB (qU rfl rfl) (uA rfl (uA rfl (qL (qJ (kD ?_))))))
  exact uZ rfl (.tmp rfl (.tmp rfl .nil)) ⟨p2, c2, rfl, rfl⟩
 refine zQ (hE.fn Tryz.func28) rfl rfl rfl (fun R => ?_)
 simp only [qAa, uV, uW]
 refine qK (qI (uA rfl (uA rfl (qL (qJ (qK (qI (uM rfl (uM rfl (uX (zEs hE h1 h2 hn) rfl ?_))))))))))
 rintro _ _ ⟨V, p, c, rfl, hR, rfl⟩
 have hlis := hR.lis hw
 obtain ⟨hin, hnb⟩ := hR.last hw h1 (by omega)
 have hiso := hlis.iso id hin
 have hVl := hlis.acc.len
 have hgl : (gram (rls Es) V).length = V.length := qDe
 rw [hnb, ← hgl] at hiso
 have htx := hiso.txt hw hlis.gwf
 have hle := hiso.len hw hlis.gwf
 rw [← hgl]
 simp only [uV, uW]
 refine uM rfl (uB (qU rfl rfl) (uB (qU rfl rfl) (uA rfl (uA rfl (qL (qJ (qK (qK (qI (uM rfl ?_))))))))))
 refine uB (qAg rfl (hE.t rfl)) ?_
 refine qL (qJ (zF rfl (zD (qJ (qK (qI (uM rfl (uM rfl (uB (uBl rfl) ?_)))))))))
 refine uX (qOl (G := gram (rls Es) V) hE hlis.gwf (by omega) (hle ▸ hlen)) rfl ?_
 rintro _ _ ⟨p2, c2, rfl, rfl⟩
 rw [← hle, ← htx]
 simp only [uV, uW]
 refine uB (qU rfl rfl) (uB (qU rfl rfl) (uA rfl (uA rfl (qL (qJ (kD ?_))))))
 exact uZ rfl (.tmp rfl (.tmp rfl .nil)) ⟨p2, c2, rfl, rfl⟩
end
end Go.Proofs.YtkkjjablmmmmkaaGreatDoor
