import Derived.Test.YtkkjjablmmmmkaaGreatDoorQ71
set_option linter.all false
namespace Sl
open Go Go.RowKit
variable {E : Env} {n : Nat} {L : Fr} {S : List HP} {ty : TypeId} {pos : String} {af : Array Edge} {d : Option Nat} {gd : Option (Nat × Bool)}
theorem y_add8 {x y : Operand} {xt yt : TypeId} {i : Nat} (hx : ev L x = some (.int .u8 (i : Nat))) (hy : ev L y = some (.int .u8 128)) (hi : i < 128) :
  Yl E n L S ⟨d, .binOp .add xt x y yt, ty, pos, af, gd⟩ (.int .u8 ((i + 128 : Nat) : Int)) := fun a w g _ => by
 have e : IntKind.u8.wrap ((i : Int) + 128) = ((i + 128 : Nat) : Int) := by
  have := qHf (i + 128)
  rw [Nat.mod_eq_of_lt (by omega)] at this
  rw [← this]
  rfl
 simp [execOp, eqGuard, binOp, Op.intArith, g.ev hx, g.ev hy, e]
theorem y_quo_u {x y : Operand} {xt yt : TypeId} {i j : Nat} (hx : ev L x = some (.int .u64 (i : Nat))) (hy : ev L y = some (.int .u64 (j : Nat))) (hi : i < 18446744073709551616) (hj : 0 < j) :
  Yl E n L S ⟨d, .binOp .quo xt x y yt, ty, pos, af, gd⟩ (.int .u64 ((i / j : Nat) : Int)) := fun a w g _ => by
 have e1 : (i : Int).tdiv (j : Int) = ((i / j : Nat) : Int) := by rw [Int.tdiv_eq_ediv_of_nonneg (by omega), Int.natCast_ediv]
 have e2 : i / j ≤ i := Nat.div_le_self i j
 have e3 : IntKind.u64.wrap ((i / j : Nat) : Int) = ((i / j : Nat) : Int) := by
  generalize i / j = q at e2
  rw [IntKind.wrap_u64]
  omega
 have hj' : ¬ (j : Int) = 0 := by omega
 have hj2 : ¬ j = 0 := by omega
 simp [execOp, eqGuard, binOp, Op.intDiv, g.ev hx, g.ev hy, hj', hj2, e1, e3]
 rw [← Int.natCast_ediv]
 exact e3
end Sl
namespace Go.Proofs.YtkkjjablmmmmkaaGreatDoor
open Go Go.RowKit Sl Eg
set_option maxRecDepth 10000
section
variable {E : Env}
structure V7G where
 n : Nat
 done : List UInt8
 p : Option Addr
 c : Nat
theorem qFr (hE : Seat E) {n : Nat} (hn : n < 18446744073709551616) : Ct E 48 [.int .u64 (n : Nat)] [] (fun v Q => ∃ g c, v = .slice (some ⟨g, 0, none⟩) (vput n).length c ∧ Q = [sl (some ⟨g, 0, none⟩) c 5 1 (vput n).length (byC (vput n))]) := by
 have hten := qAk hn
 refine zQ (hE.fn Tryz.func48) rfl rfl rfl (fun R => ?_)
 simp only [qAa, uV, uW]
 refine qK (qI (uA rfl (qL (qJ (qK (qI (uA rfl (qL (qJ (qK (zM ?_)))))))))))
 refine qAc (fun q : V7G => [(0, .int .u64 (q.n : Nat)), (3, .slice q.p q.done.length q.c)]) (fun q => [sl q.p q.c 5 1 q.done.length (byC q.done), R]) (fun q => q.n) (fun q => q.done ++ vput q.n = vput n ∧ q.n < 18446744073709551616) ⟨n, [], none, 0⟩ ⟨rfl, hn⟩ ⟨rfl, rfl, trivial⟩ ?_ ?_
 ·apply kG (qBw (t := 5) (sz := 1))
  exact uI
 rintro ⟨m, done, p, c⟩ ⟨hd, hm⟩
 simp only at hd hm ⊢
 have hdl : done.length ≤ 10 := by have := congrArg List.length hd; rw [List.length_append] at this; omega
 refine qK (qK (qI (uM rfl (uB (y_gt rfl rfl) ?_))))
 refine qL (qJ ?_)
 refine zG rfl (fun h1 => ?_) (fun h1 => ?_)
 ·refine zD (qJ ?_)
  refine zM (qK (qI (uM rfl (uM rfl (uB (qIu rfl rfl (by omega) (by omega)) ?_)))))
  refine l_eq 8 (.int .u64 ((m % 128 : Nat) : Int)) rfl (congrArg (Value.int .u64) (by omega)) ?_
  refine uB (qFz rfl (hE.t rfl) (hE.t rfl) (qHf _)) ?_
  refine uB (y_add8 rfl rfl (by omega)) ?_
  refine uU ?_
  refine qV (hE.t rfl) (hE.t rfl) rfl rfl rfl (fun b11 => ?_)
  refine uU ?_
  apply zW (hE.t rfl) (hE.t rfl) rfl rfl rfl
  ·exact uK
  ·exact uK
  ·rfl
  ·rfl
  ·omega
  ·omega
  ·(unfold maxLen; omega)
  intro g12 c12 n12 x12 hn12 hx12
  refine uA rfl (qL (qJ (qI (uM rfl (uB (y_quo_u (j := 128) rfl rfl hm (by omega)) ?_)))))
  refine uA rfl (qL (zK ?_))
  rw [qGd (by omega)] at hd
  refine zU (ι := V7G) (j := ⟨m / 128, done ++ [UInt8.ofNat (m % 128 + 128)], some ⟨g12, 0, none⟩, c12⟩) ⟨by simp only [List.append_assoc, List.singleton_append]; exact hd, by simp only; omega⟩ (by simp only; omega) ⟨rfl, by simp only [List.length_append, List.length_singleton]; rw [hn12]; rfl, trivial⟩ ?_
  obtain rfl : x12 = byC (done ++ [UInt8.ofNat (m % 128 + 128)]) := by
   rw [hx12]
   simp only [byC, List.map_append, List.map_cons, List.map_nil]
   rw [qIa (by omega), show m % 128 % 256 = m % 128 by omega]
   rfl
  simp only [List.length_append, List.length_singleton]
  rw [hn12]
  exact uI
 refine kM (qP (qP (zJ (qJ ?_))))
 refine qK (qI (uM rfl (uM rfl (uB (qFz rfl (hE.t rfl) (hE.t rfl) (qHf _)) ?_))))
 refine uU ?_
 refine qV (hE.t rfl) (hE.t rfl) rfl rfl rfl (fun b18 => ?_)
 refine uU ?_
 apply zW (hE.t rfl) (hE.t rfl) rfl rfl rfl
 ·exact uK
 ·exact uK
 ·rfl
 ·rfl
 ·omega
 ·omega
 ·(unfold maxLen; omega)
 intro g19 c19 n19 x19 hn19 hx19
 refine uA rfl (qL (qJ (kD ?_)))
 rw [qCj (by omega)] at hd
 have hl : (vput n).length = done.length + 1 := by rw [← hd]; simp
 apply kE
 ·rfl
 ·(apply Rs.tmp rfl; exact Rs.nil)
 ·refine ⟨g19, c19, ?_, rfl⟩
  rw [hl, hn19]
  rfl
 obtain rfl : x19 = byC (vput n) := by
  rw [hx19, ← hd]
  simp only [byC, List.map_append, List.map_cons, List.map_nil]
  rw [qIa (by omega), show m % 256 = m by omega]
  rfl
 rw [hl]
 rw [hn19]
 exact uI
end
section
variable {E : Env}
theorem qRs (hE : Seat E) {g c : Nat} {bs : List UInt8} (hn : bs.length ≤ 1099511627776) : Ct E 49 [.slice (some ⟨g, 0, none⟩) bs.length c] [ro g (byC bs)] (fun v Q => ∃ g' c', v = .slice (some ⟨g', 0, none⟩) (qAx bs).length c' ∧ Q = [ro g (byC bs), sl (some ⟨g', 0, none⟩) c' 5 1 (qAx bs).length (byC (qAx bs))]) := by
 have h10 := qAk (n := bs.length) (by omega)
 have hp := qCc bs.length
 have hbl := qMy bs
 have hbb : (qAx bs).length = (vput bs.length).length + bs.length := List.length_append
 have hb1 : ((vput bs.length).length + (byC bs).length) * 1 ≤ 140737488355328 := by omega
 have hb2 : (vput bs.length).length + (byC bs).length ≤ maxLen := by unfold maxLen; omega
 refine zQ (hE.fn Tryz.func49) rfl rfl rfl (fun R => ?_)
 simp only [qAa, uV, uW]
 refine qK (qI (uA rfl (qL (qJ (qK (qI (uM rfl (uB (uBl rfl) ?_))))))))
 refine uB (uAc rfl) ?_
 refine uX (qFr (n := bs.length) hE (by omega)) rfl ?_
 rintro _ _ ⟨g2, c2, rfl, rfl⟩
 simp only [uV, uW]
 refine uM rfl (uU ?_)
 refine qJq (us := byC bs) (q := ro g (byC bs)) (hE.t rfl) (hE.t rfl) rfl rfl rfl hbl.symm (fun _ => ⟨g, 0, rfl, rd_ro⟩) uK uK (qBd bs) hb1 hb2 (fun p1 c1 m1 x1 hm1 hx1 => ?_)
 obtain rfl : m1 = (qAx bs).length := by omega
 obtain rfl : x1 = byC (qAx bs) := hx1.trans (qAo _ _).symm
 refine qOh (p := sl p1 c1 5 1 (qAx bs).length (byC (qAx bs))) uK (fun _ h => qAi h (by omega)) ?_
 rintro ⟨g', rfl⟩
 refine uA rfl (qL (qJ (kD ?_)))
 exact uZ rfl (.tmp rfl .nil) ⟨g', c1, rfl, rfl⟩
theorem zCt (hE : Seat E) {r : Rl} {n : Nat} (ho : r.ok n) (h1 : 1 ≤ n) (hn : n ≤ 1099511627776) (ht : r.times ≤ 1152921504606846976) : Ct E 82 [.agg #[.int .i64 (Rl.kind (r) : Nat), .int .u8 (Rl.byte (r) : Nat), .int .i64 (Rl.left (r) : Nat), .int .i64 (Rl.right (r) : Nat), .int .i64 (Rl.times (r) : Nat)], .int .i64 (n : Nat)] [] (fun v Q => ∃ g c, v = .slice (some ⟨g, 0, none⟩) (rulB n r).length c ∧ Q = [sl (some ⟨g, 0, none⟩) c 5 1 (rulB n r).length (byC (rulB n r))]) := by
 cases r with
 | letter b =>
  refine zQ (hE.fn Tryz.func82) rfl rfl rfl (fun R => ?_)
  simp only [qAa, uV, uW]
  refine qK (qI (uU ?_))
  refine qAs rfl (fun b2 => ?_)
  refine uA rfl (qL (qJ (qK (qI (uB (uBf rfl) ?_)))))
  refine uL ?_
  refine uB (qFz (j := 1) rfl (hE.t rfl) (hE.t rfl) rfl) ?_
  refine uU ?_
  refine qV (hE.t rfl) (hE.t rfl) rfl rfl rfl (fun b9 => ?_)
  refine uA rfl (qL (qJ (qK (qK (qI (uB (uBf rfl) ?_))))))
  refine uL ?_
  refine qL (qJ (zM (qK (qI (uB (y_eq rfl rfl) ?_)))))
  refine uA rfl (qL (qJ (zH rfl ?_)))
  refine qBz (kF (p := cells b9 [.int .u8 1] 5) (p' := sl (some ⟨b9, 0, none⟩) 1 5 1 1 (byC [1])) uK (qAd rfl (by unfold maxLen; omega))) ?_
  refine qK (qI (uM rfl (uB (uBf rfl) ?_)))
  refine uL ?_
  refine uU ?_
  refine qV (hE.t rfl) (hE.t rfl) rfl rfl rfl (fun b17 => ?_)
  refine uU ?_
  apply zW (hE.t rfl) (hE.t rfl) rfl rfl rfl
  ·exact uK
  ·exact uK
  ·rfl
  ·rfl
  ·omega
  ·omega
  ·(unfold maxLen; omega)
  intro g18 c18 n18 x18 hn18 hx18
  refine uA rfl (qL (qJ (kD (zP (qW ?_)))))
  obtain rfl : x18 = byC [1, b] := by rw [hx18]; rfl
  apply kE
  ·rfl
  ·(apply Rs.tmp rfl; exact Rs.nil)
  ·exact ⟨g18, c18, by rw [hn18]; rfl, rfl⟩
  rw [hn18]
  exact uI
 | pair a b =>
  have ho' := ho
  simp only [Rl.ok] at ho'
  have e1 := qAk (n := n - a) (by omega)
  have e2 := qAk (n := n - b) (by omega)
  have hl : (Rl.pair a b).left = a := rfl
  have hr : (Rl.pair a b).right = b := rfl
  refine zQ (hE.fn Tryz.func82) rfl rfl rfl (fun R => ?_)
  simp only [qAa, uV, uW]
  refine qK (qI (uU ?_))
  refine qAs rfl (fun b2 => ?_)
  refine uA rfl (qL (qJ (qK (qI (uB (uBf rfl) ?_)))))
  refine uL ?_
  refine uB (qFz (j := 2) rfl (hE.t rfl) (hE.t rfl) rfl) ?_
  refine uU ?_
  refine qV (hE.t rfl) (hE.t rfl) rfl rfl rfl (fun b9 => ?_)
  refine uA rfl (qL (qJ (qK (qK (qI (uB (uBf rfl) ?_))))))
  refine uL ?_
  refine qL (qJ (zM (qK (qI (uB (y_eq rfl rfl) ?_)))))
  refine uA rfl (qL (qJ (zF rfl (qK (qI (uB (y_eq rfl rfl) ?_))))))
  refine uA rfl (qL (qJ (zH rfl ?_)))
  refine qBz (kF (p := cells b9 [.int .u8 2] 5) (p' := sl (some ⟨b9, 0, none⟩) 1 5 1 1 (byC [2])) uK (qAd rfl (by unfold maxLen; omega))) ?_
  refine qK (qI (uM rfl (uM rfl (uB (uBf rfl) ?_))))
  refine uL ?_
  refine uB (uAs rfl rfl) ?_
  refine l_eq 25 (.int .i64 ((n - a : Nat) : Int)) rfl (zY (by omega)) ?_
  refine uB (uAc rfl) ?_
  refine uX (qFr (n := n - a) hE (by omega)) rfl ?_
  rintro _ _ ⟨g, c, rfl, rfl⟩
  simp only [uV, uW]
  refine uU ?_
  apply qAp (hE.t rfl) (hE.t rfl) rfl rfl rfl
  ·exact uK
  ·exact uK
  ·exact qBd _
  ·exact (qCc _)
  ·first | omega | (simp only [List.length_append, List.length_cons, List.length_nil]; omega)
  ·unfold maxLen; first | omega | (simp only [List.length_append, List.length_cons, List.length_nil]; omega)
  intro g1 c1 m' x' hm' hx'
  obtain rfl : m' = ([2] ++ vput (n - a)).length := by rw [hm']; simp only [List.length_append, List.length_cons, List.length_nil] <;> omega
  obtain rfl : x' = byC ([2] ++ vput (n - a)) := hx'.trans (qAo _ _).symm
  clear hm' hx'
  refine uA rfl (qL (qJ (qK (qI (uM rfl (uM rfl (uB (uBf rfl) ?_)))))))
  refine uL ?_
  refine uB (uAs rfl rfl) ?_
  refine l_eq 33 (.int .i64 ((n - b : Nat) : Int)) rfl (zY (by omega)) ?_
  refine uB (uAc rfl) ?_
  refine uX (qFr (n := n - b) hE (by omega)) rfl ?_
  rintro _ _ ⟨g', c', rfl, rfl⟩
  simp only [uV, uW]
  refine uU ?_
  apply qAp (hE.t rfl) (hE.t rfl) rfl rfl rfl
  ·exact uK
  ·exact uK
  ·exact qBd _
  ·exact (qCc _)
  ·first | omega | (simp only [List.length_append, List.length_cons, List.length_nil]; omega)
  ·unfold maxLen; first | omega | (simp only [List.length_append, List.length_cons, List.length_nil]; omega)
  intro g2 c2 m' x' hm' hx'
  obtain rfl : m' = ([2] ++ vput (n - a) ++ vput (n - b)).length := by rw [hm']; simp only [List.length_append, List.length_cons, List.length_nil] <;> omega
  obtain rfl : x' = byC ([2] ++ vput (n - a) ++ vput (n - b)) := hx'.trans (qAo _ _).symm
  clear hm' hx'
  refine uA rfl (qL (qJ (kD (zP (qW ?_)))))
  exact uZ rfl (.tmp rfl .nil) ⟨g2, c2, rfl, rfl⟩
 | power a k =>
  have ho' := ho
  simp only [Rl.ok] at ho'
  simp only [Rl.times] at ht
  have e1 := qAk (n := n - a) (by omega)
  have e2 := qAk (n := k - 2) (by omega)
  have hl : (Rl.power a k).left = a := rfl
  have hr : (Rl.power a k).times = k := rfl
  refine zQ (hE.fn Tryz.func82) rfl rfl rfl (fun R => ?_)
  simp only [qAa, uV, uW]
  refine qK (qI (uU ?_))
  refine qAs rfl (fun b2 => ?_)
  refine uA rfl (qL (qJ (qK (qI (uB (uBf rfl) ?_)))))
  refine uL ?_
  refine uB (qFz (j := 3) rfl (hE.t rfl) (hE.t rfl) rfl) ?_
  refine uU ?_
  refine qV (hE.t rfl) (hE.t rfl) rfl rfl rfl (fun b9 => ?_)
  refine uA rfl (qL (qJ (qK (qK (qI (uB (uBf rfl) ?_))))))
  refine uL ?_
  refine qL (qJ (zM (qK (qI (uB (y_eq rfl rfl) ?_)))))
  refine uA rfl (qL (qJ (zF rfl (qK (qI (uB (y_eq rfl rfl) ?_))))))
  refine uA rfl (qL (qJ (zF rfl ?_)))
  refine qBz (kF (p := cells b9 [.int .u8 3] 5) (p' := sl (some ⟨b9, 0, none⟩) 1 5 1 1 (byC [3])) uK (qAd rfl (by unfold maxLen; omega))) ?_
  refine zD (zK (qJ (qK (qI (uM rfl (uM rfl (uB (uBf rfl) ?_)))))))
  refine uL ?_
  refine uB (uAs rfl rfl) ?_
  refine l_eq 41 (.int .i64 ((n - a : Nat) : Int)) rfl (zY (by omega)) ?_
  refine uB (uAc rfl) ?_
  refine uX (qFr (n := n - a) hE (by omega)) rfl ?_
  rintro _ _ ⟨g, c, rfl, rfl⟩
  simp only [uV, uW]
  refine uU ?_
  apply qAp (hE.t rfl) (hE.t rfl) rfl rfl rfl
  ·exact uK
  ·exact uK
  ·exact qBd _
  ·exact (qCc _)
  ·first | omega | (simp only [List.length_append, List.length_cons, List.length_nil]; omega)
  ·unfold maxLen; first | omega | (simp only [List.length_append, List.length_cons, List.length_nil]; omega)
  intro g1 c1 m' x' hm' hx'
  obtain rfl : m' = ([3] ++ vput (n - a)).length := by rw [hm']; simp only [List.length_append, List.length_cons, List.length_nil] <;> omega
  obtain rfl : x' = byC ([3] ++ vput (n - a)) := hx'.trans (qAo _ _).symm
  clear hm' hx'
  refine uA rfl (qL (qJ (qK (qI (uM rfl (uB (uBf rfl) ?_))))))
  refine uL ?_
  refine uB (uAs rfl rfl) ?_
  refine l_eq 48 (.int .i64 ((k - 2 : Nat) : Int)) rfl (zY (by omega)) ?_
  refine uB (uAc rfl) ?_
  refine uX (qFr (n := k - 2) hE (by omega)) rfl ?_
  rintro _ _ ⟨g', c', rfl, rfl⟩
  simp only [uV, uW]
  refine uU ?_
  apply qAp (hE.t rfl) (hE.t rfl) rfl rfl rfl
  ·exact uK
  ·exact uK
  ·exact qBd _
  ·exact (qCc _)
  ·first | omega | (simp only [List.length_append, List.length_cons, List.length_nil]; omega)
  ·unfold maxLen; first | omega | (simp only [List.length_append, List.length_cons, List.length_nil]; omega)
  intro g2 c2 m' x' hm' hx'
  obtain rfl : m' = ([3] ++ vput (n - a) ++ vput (k - 2)).length := by rw [hm']; simp only [List.length_append, List.length_cons, List.length_nil] <;> omega
  obtain rfl : x' = byC ([3] ++ vput (n - a) ++ vput (k - 2)) := hx'.trans (qAo _ _).symm
  clear hm' hx'
  refine uA rfl (qL (qJ (kD ?_)))
  exact uZ rfl (.tmp rfl .nil) ⟨g2, c2, rfl, rfl⟩
structure ReG where
 k : Nat
 done : List UInt8
 p : Nat
 c : Nat
theorem zDm {G : List Rl} {k : Nat} {r : Rl} (h : G[k]? = some r) : encG 0 (G.take (k + 1)) = encG 0 (G.take k) ++ rulB (k + 1) r := by
 have hk := (List.getElem?_eq_some_iff.1 h).1
 rw [List.take_add_one, h, qIn]
 have hl : (G.take k).length = k := by rw [List.length_take]; omega
 rw [hl, Nat.zero_add]
 simp only [Option.toList_some, encG, List.append_nil]
theorem qTc (hE : Seat E) {G : List Rl} {p : Option Addr} {c : Nat} (hG : GOk 0 G) (hn : G.length ≤ 100000) (ht : ∀ r ∈ G, r.times ≤ 1152921504606846976) : Ct E 47 [.slice p G.length c] [sl p c 82 5 G.length (rusC G)]
  (fun v Q => ∃ g' c', v = .slice (some ⟨g', 0, none⟩) (vput G.length ++ encG 0 G).length c' ∧ (vput G.length ++ encG 0 G).length ≤ 10 + 21 * G.length ∧ Q = [sl p c 82 5 G.length (rusC G), sl (some ⟨g', 0, none⟩) c' 5 1 (vput G.length ++ encG 0 G).length (byC (vput G.length ++ encG 0 G))]) := by
 have h10 := qAk (n := G.length) (by omega)
 refine qBt (p := sl p c 82 5 G.length (rusC G)) uK (fun _ h => fun hpos => qAi h hpos) (fun hp => ?_)
 refine zQ (hE.fn Tryz.func47) rfl rfl rfl (fun R => ?_)
 simp only [qAa, uV, uW]
 refine qK (qI (uA rfl (qL (qJ (qK (qI (uM rfl (uB (uBl rfl) ?_))))))))
 refine uB (uAc rfl) ?_
 refine uX (qFr (n := G.length) hE (by omega)) rfl ?_
 rintro _ _ ⟨g0, c0, rfl, rfl⟩
 simp only [uV, uW]
 refine uA rfl (qL (qJ (qK (qK (qI (uA rfl (qL (qJ (zM ?_)))))))))
 refine qAc (fun x : ReG => [(0, .slice p G.length c), (3, .slice (some ⟨x.p, 0, none⟩) x.done.length x.c), (4, .int .i64 (x.k : Nat))]) (fun x => [sl p c 82 5 G.length (rusC G), sl (some ⟨x.p, 0, none⟩) x.c 5 1 x.done.length (byC x.done), R]) (fun x => G.length - x.k)
  (fun x => x.k ≤ G.length ∧ x.done = vput G.length ++ encG 0 (G.take x.k) ∧ x.done.length ≤ 10 + 21 * x.k) ⟨0, vput G.length, g0, c0⟩ ⟨Nat.zero_le _, by simp [encG], by simp only; omega⟩ ⟨rfl, rfl, rfl, trivial⟩ uI ?_
 rintro ⟨k, done, p1, c1⟩ ⟨hk, hdone, hdl⟩
 simp only at hk hdone hdl ⊢
 refine qK (qK (qI (uM rfl (uM rfl (uB (uBl rfl) ?_)))))
 refine uB (y_lt rfl rfl) ?_
 refine qL (qJ ?_)
 refine zG rfl (fun h => ?_) (fun h => ?_)
 ·have hkl : k < G.length := by omega
  obtain ⟨g, rfl⟩ := hp (by omega)
  obtain ⟨r, hr⟩ : ∃ x, G[k]? = some x := ⟨_, List.getElem?_eq_getElem hkl⟩
  obtain ⟨f0, f1, f2, f3, f4⟩ := qFy hr (0 + ((k : Nat) : Int).toNat * 5) (by omega)
  have hro := hG k r hr
  rw [Nat.zero_add] at hro
  have hrt := ht r (List.mem_of_getElem? hr)
  have hrl := qJg (k + 1) (by omega) r hrt
  refine zD (qJ (qK (zM (qI (uM rfl (uM rfl (uM rfl (uB (uAi rfl rfl) ?_))))))))
  refine uB (uG) ?_
  refine uM rfl (uB (uAa rfl rfl) ?_)
  refine l_eq 21 (.int .i64 ((k + 1 : Nat) : Int)) rfl (zY (by omega)) ?_
  refine uX (zCt (r := r) (n := k + 1) hE hro (by omega) (by omega) hrt) rfl ?_
  rintro _ _ ⟨gr, cr, rfl, rfl⟩
  simp only [uV, uW]
  refine uU ?_
  apply qAp (hE.t rfl) (hE.t rfl) rfl rfl rfl
  ·exact uK
  ·exact uK
  ·exact qBd _
  ·exact hrl.1
  ·first | omega | (simp only [List.length_append, List.length_cons, List.length_nil]; omega)
  ·unfold maxLen; first | omega | (simp only [List.length_append, List.length_cons, List.length_nil]; omega)
  intro g2 c2 m' x' hm' hx'
  obtain rfl : m' = (done ++ rulB (k + 1) r).length := by rw [hm']; simp only [List.length_append, List.length_cons, List.length_nil] <;> omega
  obtain rfl : x' = byC (done ++ rulB (k + 1) r) := hx'.trans (qAo _ _).symm
  clear hm' hx'
  refine uA rfl (qL (zK (qJ (qI (uM rfl (uB (uAa rfl rfl) ?_))))))
  refine uA rfl (qL ?_)
  refine zU (ι := ReG) (j := ⟨k + 1, done ++ rulB (k + 1) r, g2, c2⟩) ⟨by simp only; omega, by simp only; rw [zDm hr, ← List.append_assoc, ← hdone], by simp only [List.length_append]; omega⟩ (by simp only; omega) ⟨rfl, rfl, congrArg some (zY (by simp only; omega)), trivial⟩ ?_
  exact uI
 obtain rfl : k = G.length := by omega
 rw [List.take_length] at hdone
 subst hdone
 refine kM (qP (qP (zJ (qJ (qK (qI (uM rfl (uA rfl (qL (qJ (kD ?_)))))))))))
 exact uZ rfl (.tmp rfl .nil) ⟨p1, c1, rfl, hdl, rfl⟩
end
end Go.Proofs.YtkkjjablmmmmkaaGreatDoor
namespace Sl
open Go Go.RowKit
variable {E : Env} {n : Nat} {L : Fr} {H : List HP} {Q : Exit → Act → World → Prop} {fuel : Nat} {listed : Array Bool} {ops : List Oper}
def allS (S0 : List HP) : List (Nat × List HP) → Prop
 | [] => True
 | (_, S) :: r => (∀ k, qAb S k → qAb S0 k) ∧ allS S0 r
theorem qYt {S0 : List HP} : ∀ {Ss : List (Nat × List HP)}, allS S0 Ss → ∀ x ∈ Ss, ∀ k, qAb x.2 k → qAb S0 k
 | [], _, x, hx => by simp at hx
 | (_, S) :: r, h, x, hx => by
  rcases List.mem_cons.1 hx with rfl | hx
  ·exact h.1
  exact qYt h.2 x hx
theorem s_keep (S0 : List HP) (i : Nat) {Ss : List (Nat × List HP)} {d : Option Nat} {op : Op} {ty : TypeId} {pos : String} {af : Array Edge} {v : Value} (hi : ops[i]? = some ⟨d, op, ty, pos, af, none⟩)
  (hy : Yl E n L S0 ⟨d, op, ty, pos, af, none⟩ v) (hQ : Calm Q) (hf : zEm ops.toArray listed i = true) (hm : qLu ops.toArray i Ss = true) (hd : inB n d = true) (hS0 : allS S0 Ss)
  (k : WPS E ops Ss Q fuel (listed.setIfInBounds i true) n (putL d v L) H) : WPS E ops Ss Q (fuel + 1) listed n L H := fun a w g hS => by
 simp only [zEm, Bool.and_eq_true] at hf
 refine qNz (qAh hi) (Region.noSelect_spec hf.1) (fun c a w h => hQ c a w d v h) (T := fun w => Sat E.w0 w S0) fuel _ listed a w (qIp hm) ?_ (Region.free_spec (qAh hi) hf.2.1) (by simpa using hf.2.2) (.inl ⟨rfl, fun w hw => hy a w g.f hw⟩) hS (k _ _ ⟨g.f.put d v hd, g.hp⟩ hS)
 intro m S h w hw
 obtain ⟨x, hx, e⟩ := List.mem_map.1 h
 obtain ⟨rfl, rfl⟩ := Prod.mk.inj e
 exact hw.imp (qYt hS0 x hx)
end Sl
namespace Go.Proofs.YtkkjjablmmmmkaaGreatDoor
open Go Go.RowKit Sl Eg
set_option maxRecDepth 10000
section
variable {E : Env} {L : List Rl}
theorem zDs (hE : Seat E) {n : Nat} {L : Fr} {S : List HP} {ty : TypeId} {pos : String} {af : Array Edge} {d : Option Nat} {gd : Option (Nat × Bool)} {x y : Operand} {yt : TypeId} {a b : Rl} (hx : ev L x = some (qDn a)) (hy : ev L y = some (qDn b)) :
  Yl E n L S ⟨d, .binOp .neq 82 x y yt, ty, pos, af, gd⟩ (.bool (!decide (a = b))) := fun ac w g _ => by
 have h1 : (eqGuard .neq 82 x y (qDn a) (qDn b)).run E.P w = .ok () w := by
  have hg : E.P.eqGuardType E.P.depth 82 = false := by rw [hE.P]; kernel_rfl
  unfold eqGuard qDn
  simp [program, Sem.run, hg]
 have h2 : binOp .neq 82 (qDn a) (qDn b) = (do pure (.bool (!(← Op.equal 82 (qDn a) (qDn b))))) := rfl
 have h3 := qLi a b w
 rw [← hE.P] at h3
 simp [execOp, h1, h2, h3, g.ev hx, g.ev hy]
structure RsL (L : List Rl) (l : List Im) (ys : List Nat) : Prop where
 wf : Wf L
 yl : ys.length = l.length
 sg : ∀ (i : Nat) (x : Im) (y : Nat), l[i]? = some x → ys[i]? = some y → y ≤ L.length ∧ Sg L x.bs y
variable {l : List Im} {ys : List Nat}
theorem RsL.bound (h : RsL L l ys) : ∀ y ∈ ys, y ≤ L.length := fun y hy => by
 obtain ⟨i, hi⟩ := List.getElem?_of_mem hy
 have hil := (List.getElem?_eq_some_iff.1 hi).1
 have := h.yl
 obtain ⟨x, hx⟩ : ∃ x, l[i]? = some x := ⟨_, List.getElem?_eq_getElem (by omega)⟩
 exact (h.sg i x y hx hi).1
theorem RsL.lis (h : RsL L l ys) : Lis L (kK L ys []) := ⟨h.wf, AccOk.visits h.wf h.bound, qLe h.wf ys [] (qRx _)⟩
theorem qWe {F W : List Nat} {k n : Nat} {r : Rl} (hW : W[k]? = some (n + 1)) (hr : L[n]? = some r) (ho : Odr L W) (h0 : 0 ∉ F) (hW0 : 0 ∉ W) : ((toL F W k)[(qAz W r).left]? = some (qAz F r).left ∧ (qAz W r).left ≤ k) ∧ (toL F W k)[(qAz W r).right]? = some (qAz F r).right ∧ (qAz W r).right ≤ k := by
 cases r with
 | letter b => exact ⟨⟨rfl, Nat.zero_le _⟩, rfl, Nat.zero_le _⟩
 | pair a b => exact ⟨qXd hW hr ho (by simp [kids]), qXd hW hr ho (by simp [kids])⟩
 | power a t => exact ⟨qXd hW hr ho (by simp [kids]), rfl, Nat.zero_le _⟩
structure RqG where
 i : Nat
 m : Nat
 pg : Option Addr
 cg : Nat
 pr : Option Addr
 cr : Nat
structure RkG where
 k : Nat
 m : Nat
 pg : Option Addr
 cg : Nat
 pt : Option Addr
 ct : Nat
theorem qIo (hE : Seat E) (h : RsL L l ys) {a : Option Addr} {ca : Nat} {q : HP} (hq : Rdb E.w0 a (imC l) q) (hok : ∀ x ∈ l, Rdb E.w0 x.a (byC x.bs) q) (hlen : ∀ x ∈ l, x.bs.length ≤ 60) (hn : l.length ≤ 6) : Ct E 22 [.slice a l.length ca] [q]
  (fun v Q => ∃ pg cg pr cr, v = .tuple #[.slice pg (gram L (kK L ys [])).length cg, .slice pr l.length cr] ∧ Q = [q, sl pg cg 82 5 (gram L (kK L ys [])).length (rusC (gram L (kK L ys []))), sl pr cr 3 1 l.length (idC (ys.map (numb (kK L ys []))))]) := by
 have hlis := h.lis
 have hb := h.bound
 have hw0 := h.wf
 have hyl := h.yl
 obtain ⟨F, hF⟩ : ∃ F, F = kK L ys [] := ⟨_, rfl⟩
 rw [← hF] at hlis ⊢
 obtain ⟨G, hG⟩ : ∃ G, G = gram L F := ⟨_, rfl⟩
 have hGl : G.length = F.length := by rw [hG]; exact qDe
 have hFl := hlis.acc.len
 have hroom := hw0.room
 have hmr : qAw = 1048576 := rfl
 rw [← hG]
 refine zQ (hE.fn Tryz.func22) rfl rfl rfl (fun R => ?_)
 simp only [qAa, uV, uW]
 refine qK (qI (uA rfl (uA rfl (qL (qJ (qK (qI (uA rfl (qL (qJ (qK (qI (uA rfl ?_)))))))))))))
 refine qL (qJ (qK (qK (qI (uA rfl (qL (qJ (zM ?_))))))))
 refine qAc (fun x : RqG => [(0, .slice a l.length ca), (4, .slice x.pg x.m x.cg), (5, .slice x.pr x.i x.cr), (6, .int .i64 (x.i : Nat))]) (fun x => [q, sl x.pg x.cg 82 5 x.m (rusC (G.take x.m)), sl x.pr x.cr 3 1 x.i (idC ((ys.map (numb F)).take x.i)), R]) (fun x => l.length - x.i) (fun x => x.i ≤ l.length ∧ x.m ≤ F.length ∧ F.take x.m = kK L (ys.take x.i) []) ⟨0, 0, none, 0, none, 0⟩ ⟨Nat.zero_le _, Nat.zero_le _, rfl⟩ ⟨rfl, rfl, rfl, rfl, trivial⟩ ?_ ?_
 ·apply kG (qBw (t := 82) (sz := 5))
  apply kG (qBw (t := 3) (sz := 1))
  exact uI
 rintro ⟨i, m, pg, cg, pr, cr⟩ ⟨hi, hm, hFm⟩
 simp only at hi hm hFm ⊢
 refine qK (qK (qI (uM rfl (uM rfl (uB (uBl rfl) ?_)))))
 refine uB (y_lt rfl rfl) ?_
 refine qL (qJ ?_)
 refine zG rfl (fun h1 => ?_) (fun h1 => ?_)
 ·have hil : i < l.length := by omega
  obtain ⟨x, hx⟩ : ∃ x, l[i]? = some x := ⟨_, List.getElem?_eq_getElem hil⟩
  obtain ⟨y, hy⟩ : ∃ x, ys[i]? = some x := ⟨_, List.getElem?_eq_getElem (by omega)⟩
  have hxm := List.mem_of_getElem? hx
  have hxl := hlen x hxm
  obtain ⟨hyb, hsg⟩ := h.sg i x y hx hy
  obtain ⟨S, hS, htk⟩ := qWr hw0 hb hy
  rw [← hF] at hS
  obtain ⟨g, o, rfl, hq'⟩ := hq (qZd (by omega))
  have f0 := (qJs hx).2
  have hrt : (ys.map (numb F)).take (i + 1) = (ys.map (numb F)).take i ++ [numb F y] := by rw [List.take_add_one, List.getElem?_map, hy]; rfl
  refine zD (qJ (qK (zM (qK (qK (qI (uM rfl (uM rfl (uB (uAi rfl rfl) ?_)))))))))
  refine uB (uBf rfl) ?_
  apply qA
  ·(apply zL rfl (hE.t rfl) rfl (by assumption); (focus ((repeat constructor); done)); (first | ((focus exact f0); (focus omega)) | ((focus exact f1); (focus omega)) | ((focus assumption); (focus omega))))
  ·rfl
  refine uB (uBl rfl) ?_
  refine uB (y_eq rfl rfl) ?_
  refine qL (qJ ?_)
  refine zG rfl (fun h2 => ?_) (fun h2 => ?_)
  ·have hbs : x.bs = [] := List.eq_nil_of_length_eq_zero (by omega)
   have hy0 : y = 0 := by
    rcases hsg with ⟨_, e⟩ | ⟨lv, e⟩
    ·exact e
    exact absurd hbs e.nonempty
   refine qK (qI (uM rfl (uU ?_)))
   refine qV (hE.t rfl) (hE.t rfl) rfl rfl rfl (fun b27 => ?_)
   refine uU ?_
   apply zW (hE.t rfl) (hE.t rfl) rfl rfl rfl
   ·exact uK
   ·exact uK
   ·rfl
   ·rfl
   ·omega
   ·omega
   ·(unfold maxLen; omega)
   intro g28 c28 n28 x28 hn28 hx28
   refine uA rfl (qL (qJ (kM (qP (zJ (qJ (qI (uM rfl (uB (uAa rfl rfl) ?_)))))))))
   refine uA rfl (qL ?_)
   subst hn28 hx28
   refine zU (ι := RqG) (j := ⟨i + 1, m, pg, cg, some ⟨g28, 0, none⟩, c28⟩) ⟨by simp only; omega, hm, by simp only; rw [hFm, htk, hy0, qCm]⟩ (by simp only; omega) ⟨rfl, rfl, rfl, congrArg some (zY (by simp only; omega)), trivial⟩ ?_
   simp only
   rw [hrt, qBa, hy0, qBm.2 hlis.zero]
   exact uI
  have hbs : x.bs ≠ [] := fun e => by rw [e] at h2; exact h2 rfl
  have hy1 : 1 ≤ y := by
   rcases hsg with ⟨e, _⟩ | ⟨lv, e⟩
   ·exact absurd e hbs
   exact (e.sig hw0).1.pos
  refine zD (qJ (qK (qI (uM rfl (uM rfl (uB (uAi rfl rfl) ?_))))))
  refine uB (uBf rfl) ?_
  apply qA
  ·(apply zL rfl (hE.t rfl) rfl (by assumption); (focus ((repeat constructor); done)); (first | ((focus exact f0); (focus omega)) | ((focus exact f1); (focus omega)) | ((focus assumption); (focus omega))))
  ·rfl
  refine uX (ct_r22Of (bs := x.bs) (a := x.a) (ca := x.c) hE (hok x hxm) hbs (by omega)) rfl ?_
  rintro _ _ ⟨pq, Z, p, c, id, ps, cs, lv, kk, rfl, hwZ, hrch, hZl, rfl⟩
  simp only [uV, uW]
  have hsz := (hrch.sig hwZ).1
  have hiso : Iso Z L id y := by
   rcases Sg.rel hwZ hw0 (.inr ⟨kk, hrch⟩) hsg with ⟨e, _⟩ | e
   ·have := hsz.pos; omega
   exact e
  have hgr : gram Z (visit Z id []) = gram L (visit L y []) := gram_rel hwZ hw0 (qTm hwZ hw0 hiso (Rel.nil _ _))
  refine qOh (p := sl p c 82 5 (Z.length + 1) (ruC Z)) uK (fun _ h => qAi h (by omega)) ?_
  rintro ⟨gz, rfl⟩
  refine qOh (p := sl ps cs 37 1 [id].length (idC [id])) uK (fun _ h => qAi h (by simp)) ?_
  rintro ⟨gs, rfl⟩
  have f1 : (idC [id])[0]? = some (.int .i64 (id : Nat)) := rfl
  have hi1 : [id].length = 1 := rfl
  refine uA rfl (qL (qJ (qK ?_)))
  refine uH ([cells pq [.slice (some ⟨gz, 0, none⟩) (Z.length + 1) c, .slice (some ⟨gs, 0, none⟩) [id].length cs, .int .i64 ((lv : Nat) : Int)] 99, sl (some ⟨gs, 0, none⟩) cs 37 1 [id].length (idC [id])]) ?_
  refine uD 0 rfl (qB rfl) ?_
  refine uD 1 rfl (zB rfl) ?_
  refine uD 2 rfl (uBf rfl) ?_
  refine uD 3 rfl (uY) ?_
  refine uD 4 rfl (qB rfl) ?_
  refine uD 5 rfl (zB rfl) ?_
  refine uD 6 rfl (uBf rfl) ?_
  refine uD 7 rfl (uY) ?_
  refine uD 8 rfl (uAj rfl rfl) ?_
  refine uD 9 rfl (uY) ?_
  apply kP 10 rfl (by kernel_rfl) rfl
  refine uC (qVz (g := gz) (c := c) (id := id) hE hwZ (by omega) hsz.le) rfl ?_
  rintro _ _ ⟨pc, cc, rfl, rfl⟩
  rw [hgr]
  simp only [uV, uW]
  obtain ⟨W, hW⟩ : ∃ W, W = visit L y [] := ⟨_, rfl⟩
  rw [← hW]
  have hWacc : AccOk L W := by rw [hW]; exact AccOk.visit hw0 ⟨List.nodup_nil, fun z hz => by simp at hz⟩ y
  have hWord : Odr L W := by rw [hW]; exact qNt hw0 y [] (qRx L)
  have hW0 : 0 ∉ W := fun hz => by have := (hWacc.2 0 hz).1; omega
  have hWg : (gram L W).length = W.length := qDe
  have hWl := hWacc.len
  have hVc : Closed L (F.take m) := by rw [hFm]; exact ((qFb hw0 (ys.take i) []).2 (qKt L)).1
  have hvn : visit L y (F.take m) = F.take m ++ nin (F.take m) W := by
   have := zCm hw0 hVc y [] List.nodup_nil
   rw [← hW] at this
   simpa [nin] using this
  rw [← hFm, hvn] at hS
  rw [← hFm, hvn] at htk
  have hWy : ∃ A, W = A ++ [y] := by
   obtain ⟨n, rfl⟩ : ∃ n, y = n + 1 := ⟨y - 1, by omega⟩
   obtain ⟨r, hr⟩ : ∃ r, L[n]? = some r := ⟨_, List.getElem?_eq_getElem (by omega)⟩
   exact ⟨_, by rw [hW]; exact qBg hw0 hr (by simp)⟩
  obtain ⟨V, hV⟩ : ∃ V, V = F.take m := ⟨_, rfl⟩
  rw [← hV] at hS htk
  refine uE ?_
  refine uD 11 rfl (qC rfl) ?_
  refine qCz (by kernel_rfl) ?_
  refine qJ (qK (qI (uU ?_)))
  refine qV (hE.t rfl) (hE.t rfl) rfl rfl rfl (fun b46 => ?_)
  refine uA rfl (qL (qJ (qK (qK (qI (uA rfl (qL (qJ (zM ?_)))))))))
  refine qBz (kF (p := cells b46 [.int .i64 0] 37) (p' := sl (some ⟨b46, 0, none⟩) 1 37 1 (0 + 1) (idC (toL F W 0))) uK (qAd rfl (by unfold maxLen; omega))) ?_
  refine qCy (p := sl pc cc 82 5 (gram L W).length (rusC (gram L W))) uK (fun _ h => fun hpos => qAi h hpos) (fun hpc => ?_)
  refine qAc (fun x : RkG => [(0, .slice (some ⟨g, o, none⟩) l.length ca), (4, .slice x.pg x.m x.cg), (5, .slice pr i cr), (6, .int .i64 (i : Nat)), (8, .slice pc (gram L W).length cc), (9, .slice x.pt (x.k + 1) x.ct), (10, .int .i64 (x.k : Nat))]) (fun x => [q, sl x.pg x.cg 82 5 x.m (rusC (G.take x.m)), sl pr cr 3 1 i (idC ((ys.map (numb F)).take i)), sl pc cc 82 5 (gram L W).length (rusC (gram L W)), sl x.pt x.ct 37 1 (x.k + 1) (idC (toL F W x.k)), R]) (fun x => W.length - x.k) (fun x => x.k ≤ W.length ∧ Wk F V W x.k x.m) ⟨0, m, pg, cg, some ⟨b46, 0, none⟩, 1⟩ ⟨Nat.zero_le _, by simp [Wk, hV, nin], hm⟩ ⟨rfl, rfl, rfl, rfl, rfl, rfl, rfl, trivial⟩ uI ?_
  clear hFm hm hV hVc hvn m pg cg
  rintro ⟨k, m, pg, cg, pt, ct⟩ ⟨hk, hwk⟩
  simp only at hk hwk ⊢
  have hm := hwk.2
  refine qK (qK (qI (uM rfl (uM rfl (uB (uBl rfl) ?_)))))
  refine uB (y_lt rfl rfl) ?_
  refine qL (qJ ?_)
  refine zG rfl (fun h3 => ?_) (fun h3 => ?_)
  ·have hkl : k < W.length := by omega
   obtain ⟨gc, rfl⟩ := hpc (by omega)
   obtain ⟨w, hw⟩ : ∃ x, W[k]? = some x := ⟨_, List.getElem?_eq_getElem hkl⟩
   have hwb := hWacc.2 w (List.mem_of_getElem? hw)
   obtain ⟨n, rfl⟩ : ∃ n, w = n + 1 := ⟨w - 1, by omega⟩
   obtain ⟨r, hr⟩ : ∃ r, L[n]? = some r := ⟨_, List.getElem?_eq_getElem (by omega)⟩
   have hgk := qFx hw hr
   obtain ⟨nx1, nx2⟩ := hwk.next hS hWacc.1 hlis.acc.1 hw
   have hwF : n + 1 ∈ F := by
    by_cases hin : n + 1 ∈ F.take m
    ·exact List.mem_of_mem_take hin
    exact List.mem_of_getElem? (nx2 hin).1
   obtain ⟨⟨sd1, sd2⟩, sd3, sd4⟩ := qWe hw hr hWord hlis.zero hW0
   have hGt : (G.take m).length = m := by rw [List.length_take]; omega
   have hGm : F[m]? = some (n + 1) → G.take (m + 1) = G.take m ++ [qAz F r] := fun e => by
    rw [List.take_add_one, hG, qFx e hr]; rfl
   refine qCy (p := sl pt ct 37 1 (k + 1) (idC (toL F W k))) uK (fun _ h => qAi h (by omega)) ?_
   rintro ⟨gt, rfl⟩
   obtain ⟨f2, f3, f4, f5, f6⟩ := qFy hgk (0 + ((k : Nat) : Int).toNat * 5) (by omega)
   have f7 := qAl sd1 ((((qAz W r).left : Nat) : Int).toNat) (by omega)
   have f8 := qAl sd3 ((((qAz W r).right : Nat) : Int).toNat) (by omega)
   have e1 : (qAz W r).kind = (qAz F r).kind := by rw [qIf, qIf]
   have e2 : (qAz W r).byte = (qAz F r).byte := by rw [qHy, qHy]
   have e3 : (qAz W r).times = (qAz F r).times := by rw [qEe, qEe]
   generalize qAz W r = rw0 at f2 f3 f4 f5 f6 f7 f8 e1 e2 e3 sd2 sd4
   obtain ⟨rF, hrF⟩ : ∃ rF, rF = qAz F r := ⟨_, rfl⟩
   rw [← hrF] at f7 f8 e1 e2 e3 hGm
   refine zD (qJ (qK (zM (qK (qI (uM rfl (uM rfl (uB (uAi rfl rfl) ?_))))))))
   refine uB (uG) ?_
   refine uU (kH (hE.t rfl) (fun b11 => ?_))
   refine uU (uS ?_)
   refine qL (qJ (qK ?_))
   refine qBs 11 ([cells b11 [.int .i64 (Rl.kind (rw0) : Nat), .int .u8 (Rl.byte (rw0) : Nat), .int .i64 (Rl.left (rw0) : Nat), .int .i64 (Rl.right (rw0) : Nat), .int .i64 (Rl.times (rw0) : Nat)] 82, sl (some ⟨gt, 0, none⟩) ct 37 1 (k + 1) (idC (toL F W k))]) [(13, [sl (some ⟨gt, 0, none⟩) ct 37 1 (k + 1) (idC (toL F W k))])] ?_ ?_
   ·exact uI
   refine uP 0 rfl (qB rfl) ?_
   refine uP 1 rfl (uBf rfl) ?_
   refine uQ 2 rfl (uY) ?_
   refine uP 3 rfl (uAj rfl rfl) ?_
   refine uQ 4 rfl (uY) ?_
   refine uP 5 rfl (qB rfl) ?_
   refine uP 6 rfl (uBf rfl) ?_
   refine uQ 7 rfl (uY) ?_
   refine uP 8 rfl (uAj rfl rfl) ?_
   apply s_keep ([sl (some ⟨gt, 0, none⟩) ct 37 1 (k + 1) (idC (toL F W k))]) 9 rfl
   ·(apply qN rfl (hE.t rfl) rfl; (repeat (first | rfl | assumption | constructor)); done)
   ·with_reducible (repeat (first | exact qE | apply qF | apply qG))
   ·kernel_rfl
   ·kernel_rfl
   ·rfl
   ·(repeat (first | exact trivial | refine ⟨by (apply ent; (repeat constructor); done), ?_⟩))
   refine uP 10 rfl (uBf rfl) ?_
   apply qDs rfl (by kernel_rfl) rfl
   refine uS ?_
   refine uE ?_
   refine uP 12 rfl (uBf rfl) ?_
   apply qDt rfl (by kernel_rfl) (by kernel_rfl) rfl
   refine uS ?_
   refine qJ (qK (qI (uA rfl (qL (qJ (qK (zM ?_)))))))
   refine qBz (kF (p := cells b11 [.int .i64 (rw0.kind : Nat), .int .u8 (rw0.byte : Nat), .int .i64 (rF.left : Nat), .int .i64 (rF.right : Nat), .int .i64 (rw0.times : Nat)] 82) (p' := cells b11 [.int .i64 (Rl.kind (rF) : Nat), .int .u8 (Rl.byte (rF) : Nat), .int .i64 (Rl.left (rF) : Nat), .int .i64 (Rl.right (rF) : Nat), .int .i64 (Rl.times (rF) : Nat)] 82) uK (fun _ h => by rw [e1, e2, e3] at h; exact h)) ?_
   refine qCy (p := sl pg cg 82 5 m (rusC (G.take m))) uK (fun _ h => fun hpos => qAi h hpos) (fun hpg => ?_)
   refine qAc (fun j : Nat => [(0, .slice (some ⟨g, o, none⟩) l.length ca), (4, .slice pg m cg), (5, .slice pr i cr), (6, .int .i64 (i : Nat)), (8, .slice (some ⟨gc, 0, none⟩) (gram L W).length cc), (9, .slice (some ⟨gt, 0, none⟩) (k + 1) ct), (10, .int .i64 (k : Nat)), (11, uPt b11), (12, .int .i64 (j : Nat))]) (fun j => [q, sl pg cg 82 5 m (rusC (G.take m)), sl pr cr 3 1 i (idC ((ys.map (numb F)).take i)), sl (some ⟨gc, 0, none⟩) cc 82 5 (gram L W).length (rusC (gram L W)), sl (some ⟨gt, 0, none⟩) ct 37 1 (k + 1) (idC (toL F W k)), cells b11 [.int .i64 (Rl.kind (rF) : Nat), .int .u8 (Rl.byte (rF) : Nat), .int .i64 (Rl.left (rF) : Nat), .int .i64 (Rl.right (rF) : Nat), .int .i64 (Rl.times (rF) : Nat)] 82, R]) (fun j => m - j) (fun j => j ≤ m ∧ ∀ b, b < j → (G.take m)[b]? ≠ some rF) 0 ⟨Nat.zero_le _, fun b hb => by omega⟩ ⟨rfl, rfl, rfl, rfl, rfl, rfl, rfl, rfl, rfl, trivial⟩ uI ?_
   rintro j ⟨hj, hno⟩
   refine qK (qK ?_)
   refine uH ([sl pg cg 82 5 m (rusC (G.take m)), cells b11 [.int .i64 (Rl.kind (rF) : Nat), .int .u8 (Rl.byte (rF) : Nat), .int .i64 (Rl.left (rF) : Nat), .int .i64 (Rl.right (rF) : Nat), .int .i64 (Rl.times (rF) : Nat)] 82]) ?_
   refine uD 0 rfl (qB rfl) ?_
   refine uD 1 rfl (qB rfl) ?_
   refine uD 2 rfl (uBl rfl) ?_
   refine uD 3 rfl (y_lt rfl rfl) ?_
   refine uD 4 rfl (qB rfl) ?_
   refine qNh 73 rfl (fun c1 => ?_) (fun c1 => ?_)
   ·have hjm : j < m := by omega
    obtain ⟨go, rfl⟩ := hpg (by omega)
    obtain ⟨z, hz⟩ : ∃ z, (G.take m)[j]? = some z := ⟨_, List.getElem?_eq_getElem (by omega)⟩
    obtain ⟨k0, k1, k2, k3, k4⟩ := qFy hz (0 + ((j : Nat) : Int).toNat * 5) (by omega)
    refine uO 5 rfl rfl rfl (qB rfl) ?_
    refine uO 6 rfl rfl rfl (qB rfl) ?_
    refine uO 7 rfl rfl rfl (uAi rfl rfl) ?_
    refine uO 8 rfl rfl rfl (uG) ?_
    refine uO 9 rfl rfl rfl (uG) ?_
    refine uO 10 rfl rfl rfl (zDs hE rfl rfl) ?_
    refine uD 11 rfl (qX rfl rfl) ?_
    refine qCz (by kernel_rfl) ?_
    refine qJ ?_
    refine qCr rfl (fun c2 => ?_) (fun c2 => ?_)
    ·refine zD (qJ (zM (qI ?_)))
     refine uM rfl (uB (uAa rfl rfl) ?_)
     refine uA rfl (qL (zK ?_))
     refine zU (ι := Nat) (j := j + 1) ⟨by omega, fun b hb => ?_⟩ (by omega) ⟨rfl, rfl, rfl, rfl, rfl, rfl, rfl, rfl, congrArg some (zY (by omega)), trivial⟩ uI
     by_cases eb : b = j
     ·subst eb
      rw [hz]
      intro e
      exact c2 (Option.some.inj e)
     exact hno b (by omega)
    subst c2
    have hz2 := hz
    rw [hG, hrF] at hz2
    obtain ⟨hnb, hin⟩ := zAn hlis hwF hr hm hz2
    refine kM (qP (qP (zJ (qJ (qK (qK (qI (uM rfl (uM rfl (uB (uBl rfl) ?_))))))))))
    refine uB (y_eq rfl rfl) ?_
    refine qL (qJ ?_)
    refine zG rfl (fun c3 => ?_) (fun c3 => ?_)
    ·exfalso; omega
    refine zD (qJ (qI (uM rfl (uM rfl (uB (uAa rfl rfl) ?_)))))
    refine l_eq 93 (.int .i64 ((j + 1 : Nat) : Int)) rfl (zY (by omega)) ?_
    refine uU ?_
    refine qV (hE.t rfl) (hE.t rfl) rfl rfl rfl (fun b94 => ?_)
    refine uU ?_
    apply zW (hE.t rfl) (hE.t rfl) rfl rfl rfl
    ·exact uK
    ·exact uK
    ·rfl
    ·rfl
    ·omega
    ·omega
    ·(unfold maxLen; omega)
    intro g95 c95 n95 x95 hn95 hx95
    refine uA rfl (qL (zK (qJ (qI (uM rfl (uB (uAa rfl rfl) ?_))))))
    refine uA rfl (qL ?_)
    subst hn95 hx95
    refine zU (ι := RkG) (j := ⟨k + 1, m, (some ⟨go, 0, none⟩), cg, some ⟨g95, 0, none⟩, c95⟩) ⟨by simp only; omega, (nx1 hin)⟩ (by simp only; omega) ⟨rfl, rfl, rfl, rfl, rfl, rfl, congrArg some (zY (by simp only; omega)), trivial⟩ ?_
    simp only
    rw [qYf hw, qBa, ← hnb]
    exact uI
   obtain rfl : j = m := by omega
   have hout : n + 1 ∉ F.take j := zEd hlis hwF hr hm (fun b hb => by rw [← hG, ← hrF]; exact hno b hb)
   obtain ⟨hFj, hwk2⟩ := nx2 hout
   have hnb : j + 1 = numb F (n + 1) := (qQk hlis.acc.1 hFj).symm
   have hmG := hGm hFj
   refine uR 5 rfl rfl rfl rfl ?_
   refine uR 6 rfl rfl rfl rfl ?_
   refine uR 7 rfl rfl rfl rfl ?_
   refine uR 8 rfl rfl rfl rfl ?_
   refine uR 9 rfl rfl rfl rfl ?_
   refine uR 10 rfl rfl rfl rfl ?_
   refine uD 11 rfl (qY rfl rfl) ?_
   refine qCz (by kernel_rfl) ?_
   refine qJ (zF rfl (kM (qP (qP (zJ (qJ (qK (qK (qI (uM rfl (uM rfl (uB (uBl rfl) ?_))))))))))))
   refine uB (y_eq rfl rfl) ?_
   refine qL (qJ ?_)
   refine zG rfl (fun c3 => ?_) (fun c3 => ?_)
   ·refine qI ?_
    refine uM rfl (uB (uG) ?_)
    refine uU ?_
    refine qV (hE.t rfl) (hE.t rfl) rfl rfl rfl (fun b89 => ?_)
    refine uU ?_
    apply zW (hE.t rfl) (hE.t rfl) rfl rfl rfl
    ·exact uK
    ·exact uK
    ·rfl
    ·rfl
    ·omega
    ·omega
    ·(unfold maxLen; omega)
    intro g90 c90 n90 x90 hn90 hx90
    refine uA rfl (qL (qJ ?_))
    obtain rfl : n90 = j + 1 := hn90
    obtain rfl : x90 = rusC (G.take (j + 1)) := by rw [hx90, hmG, qMt]; rfl
    refine qI (uM rfl (uM rfl (uB (uAa rfl rfl) ?_)))
    refine l_eq 93 (.int .i64 ((j + 1 : Nat) : Int)) rfl (zY (by omega)) ?_
    refine uU ?_
    refine qV (hE.t rfl) (hE.t rfl) rfl rfl rfl (fun b94 => ?_)
    refine uU ?_
    apply zW (hE.t rfl) (hE.t rfl) rfl rfl rfl
    ·exact uK
    ·exact uK
    ·rfl
    ·rfl
    ·omega
    ·omega
    ·(unfold maxLen; omega)
    intro g95 c95 n95 x95 hn95 hx95
    refine uA rfl (qL (zK (qJ (qI (uM rfl (uB (uAa rfl rfl) ?_))))))
    refine uA rfl (qL ?_)
    subst hn95 hx95
    refine zU (ι := RkG) (j := ⟨k + 1, (j + 1), (some ⟨g90, 0, none⟩), c90, some ⟨g95, 0, none⟩, c95⟩) ⟨by simp only; omega, hwk2⟩ (by simp only; omega) ⟨rfl, rfl, rfl, rfl, rfl, rfl, congrArg some (zY (by simp only; omega)), trivial⟩ ?_
    simp only
    rw [qYf hw, qBa, ← hnb]
    exact uI
   exact absurd rfl c3
  obtain rfl : k = W.length := by omega
  obtain ⟨A, hA⟩ := hWy
  have hlast := toL_last (F := F) hA
  refine qCy (p := sl pt ct 37 1 (W.length + 1) (idC (toL F W W.length))) uK (fun _ h => qAi h (by omega)) ?_
  rintro ⟨gt, rfl⟩
  have f7 := qAl hlast ((((gram L W).length : Nat) : Int).toNat) (by omega)
  have f8 := qAl hlast (0 + (((gram L W).length : Nat) : Int).toNat) (by omega)
  refine kM (qP (qP (zJ (qJ (qI (uM rfl (uM rfl (uM rfl (uB (uBl rfl) ?_)))))))))
  refine uB (uAj rfl rfl) ?_
  refine uL ?_
  refine uU ?_
  refine qV (hE.t rfl) (hE.t rfl) rfl rfl rfl (fun b102 => ?_)
  refine uU ?_
  apply zW (hE.t rfl) (hE.t rfl) rfl rfl rfl
  ·exact uK
  ·exact uK
  ·rfl
  ·rfl
  ·omega
  ·omega
  ·(unfold maxLen; omega)
  intro g103 c103 n103 x103 hn103 hx103
  refine uA rfl (qL (zK (qJ (qI (uM rfl (uB (uAa rfl rfl) ?_))))))
  refine uA rfl (qL ?_)
  subst hn103 hx103
  refine zU (ι := RqG) (j := ⟨i + 1, m, pg, cg, some ⟨g103, 0, none⟩, c103⟩) ⟨by simp only; omega, hm, by simp only; rw [hwk.1, List.take_length, htk]⟩ (by simp only; omega) ⟨rfl, rfl, rfl, congrArg some (zY (by simp only; omega)), trivial⟩ ?_
  simp only
  rw [hrt, qBa]
  exact uI
 obtain rfl : i = l.length := by omega
 have hmF : m = F.length := by
  rw [← hyl, List.take_length, ← hF] at hFm
  have := congrArg List.length hFm
  rw [List.length_take] at this
  omega
 have hGt : G.take m = G := List.take_of_length_le (by omega)
 have hmG : m = G.length := by omega
 have hrt : (ys.map (numb F)).take l.length = ys.map (numb F) := List.take_of_length_le (by rw [List.length_map]; omega)
 rw [hGt, hrt]
 refine kM (qP (qP (zJ (qJ (qK (qI (uM rfl (uM rfl (uA rfl (uA rfl (qL (qJ (kD ?_)))))))))))))
 apply kE
 ·rfl
 ·(apply Rs.tmp rfl; apply Rs.tmp rfl; exact Rs.nil)
 ·exact ⟨pg, cg, pr, cr, by rw [← hmG]; rfl, rfl⟩
 rw [← hmG]
 exact uI
end
section
variable {E : Env} {L : List Rl} {l : List Im} {ys : List Nat}
theorem Lis.times {F : List Nat} (h : Lis L F) : ∀ r ∈ gram L F, r.times ≤ 1152921504606846976 := fun r hr => by
 obtain ⟨i, hi⟩ := List.getElem?_of_mem hr
 obtain ⟨n, q, v1, q1, rfl, m1⟩ := h.one hi
 rw [qEe]
 have hsh := h.wf.short (n + 1)
 have hmx : kJ = 1152921504606846976 := rfl
 have hok := h.wf.ok _ _ q1
 have hn := (List.getElem?_eq_some_iff.1 q1).1
 cases q with
 | letter b => simp [Rl.times]
 | pair a b => simp [Rl.times]
 | power x t =>
  have e := qDl q1 hok
  simp only [Rl.ok] at hok
  have h1 := h.wf.pos x hok.1 (by omega)
  have h2 : t * 1 ≤ t * Eg.len L x := Nat.mul_le_mul_left _ h1
  simp only [Rl.times]
  have e3 : t * Eg.len L x = Eg.len L (n + 1) := by rw [e]
  omega
def nmA (l : List Im) (ns : List Nat) : List (List UInt8 × Nat) := (l.map (·.name)).zip ns
theorem nmA_take {l : List Im} {ns : List Nat} {k n : Nat} {x : Im} (hx : l[k]? = some x) (hn : ns[k]? = some n) : (nmA l ns).take (k + 1) = (nmA l ns).take k ++ [(x.name, n)] := by
 have e : (nmA l ns)[k]? = some (x.name, n) := by
  unfold nmA
  rw [List.getElem?_zip_eq_some]
  exact ⟨by rw [List.getElem?_map, hx]; rfl, hn⟩
 rw [List.take_add_one, e]
 rfl
theorem zDi (A : List (List UInt8 × Nat)) (a : List UInt8) (n : Nat) : encM (A ++ [(a, n)]) = encM A ++ qAx a ++ vput n := by
 unfold encM
 rw [List.flatMap_append]
 simp
theorem qTb (hE : Seat E) (h : RsL L l ys) {a : Option Addr} {ca : Nat} {q : HP} (hq : Rdb E.w0 a (imC l) q) (hok : ∀ x ∈ l, Rdb E.w0 x.a (byC x.bs) q) (hlen : ∀ x ∈ l, x.bs.length ≤ 60) (hnm : ∀ x ∈ l, x.name.length ≤ 1000) (hn : l.length ≤ 6) (hG4 : (gram L (kK L ys [])).length ≤ 100000) : Ct E 24 [.slice a l.length ca] [q]
  (fun v Q => ∃ g c B, v = .slice (some ⟨g, 0, none⟩) B.length c ∧ B = encA (gram L (kK L ys [])) (nmA l (ys.map (numb (kK L ys [])))) ∧ Q = [q, sl (some ⟨g, 0, none⟩) c 5 1 B.length (byC B)]) := by
 have hlis := h.lis
 have hyl := h.yl
 have hgok := qRt hlis.wf hlis.acc hlis.ord
 have hgt := hlis.times
 have hFl := hlis.acc.len
 have hroom := h.wf.room
 have hmr : qAw = 1048576 := rfl
 refine zQ (hE.fn Tryz.func24) rfl rfl rfl (fun R => ?_)
 simp only [qAa, uV, uW]
 refine qK (qI (uA rfl (qL (qJ (qK (qI (uM rfl (uX (qIo hE h hq hok hlen hn) rfl ?_))))))))
 rintro _ _ ⟨pg, cg, pr, cr, rfl, rfl⟩
 simp only [uV, uW]
 obtain ⟨F, hF⟩ : ∃ F, F = kK L ys [] := ⟨_, rfl⟩
 rw [← hF] at hgok hgt hFl hG4 ⊢
 obtain ⟨G, hG⟩ : ∃ G, G = gram L F := ⟨_, rfl⟩
 have hGl : G.length = F.length := by rw [hG]; exact qDe
 obtain ⟨ns, hns⟩ : ∃ ns, ns = ys.map (numb F) := ⟨_, rfl⟩
 have hnl : ns.length = l.length := by rw [hns, List.length_map, hyl]
 have hnb : ∀ n ∈ ns, n ≤ F.length := fun n hm => by
  rw [hns] at hm
  obtain ⟨y, _, rfl⟩ := List.mem_map.1 hm
  exact qEq F y
 rw [← hG] at hgok hgt hG4 ⊢
 rw [← hns]
 refine uM rfl (uB (qU rfl rfl) (uB (qU rfl rfl) (uA rfl (uA rfl (qL (qJ (qK (qI (uM rfl ?_)))))))))
 refine uX (qTc (p := pg) (c := cg) hE hgok hG4 hgt) rfl ?_
 rintro _ _ ⟨g1, c1, rfl, hl1, rfl⟩
 simp only [uV, uW]
 generalize hU : vput G.length ++ encG 0 G = U at hl1 ⊢
 have hv6 := qAk (n := l.length) (by omega)
 refine uA rfl (qL (qJ (qK (qI (uM rfl (uM rfl (uB (uBl rfl) ?_)))))))
 refine uB (uAc rfl) ?_
 refine uX (qFr (n := l.length) hE (by omega)) rfl ?_
 rintro _ _ ⟨g2, c2, rfl, rfl⟩
 simp only [uV, uW]
 refine uU ?_
 apply qAp (hE.t rfl) (hE.t rfl) rfl rfl rfl
 ·exact uK
 ·exact uK
 ·exact qBd _
 ·exact (qCc _)
 ·first | omega | (simp only [List.length_append, List.length_cons, List.length_nil]; omega)
 ·unfold maxLen; first | omega | (simp only [List.length_append, List.length_cons, List.length_nil]; omega)
 intro g3 c3 m' x' hm' hx'
 obtain rfl : m' = (U ++ vput l.length).length := by rw [hm']; simp only [List.length_append, List.length_cons, List.length_nil] <;> omega
 obtain rfl : x' = byC (U ++ vput l.length) := hx'.trans (qAo _ _).symm
 clear hm' hx'
 refine uA rfl (qL (qJ (qK (qK (qI (uA rfl (qL (qJ (zM ?_)))))))))
 refine qCy (p := sl pr cr 3 1 l.length (idC ns)) uK (fun _ h => fun hpos => qAi h hpos) (fun hpr => ?_)
 refine qAc (fun x : ReG => [(0, .slice a l.length ca), (4, .slice pr l.length cr), (5, .slice (some ⟨x.p, 0, none⟩) x.done.length x.c), (6, .int .i64 (x.k : Nat))]) (fun x => [q, sl pr cr 3 1 l.length (idC ns), sl (some ⟨x.p, 0, none⟩) x.c 5 1 x.done.length (byC x.done), R]) (fun x => l.length - x.k)
  (fun x => x.k ≤ l.length ∧ x.done = U ++ vput l.length ++ encM ((nmA l ns).take x.k) ∧ x.done.length ≤ 20 + 21 * G.length + 1020 * x.k) ⟨0, U ++ vput l.length, g3, c3⟩ ⟨Nat.zero_le _, by simp [encM], by simp only [List.length_append]; omega⟩ ⟨rfl, rfl, rfl, rfl, trivial⟩ uI ?_
 rintro ⟨k, done, p4, c4⟩ ⟨hk, hdone, hdl⟩
 simp only at hk hdone hdl ⊢
 refine qK (qK (qI (uM rfl (uM rfl (uB (uBl rfl) ?_)))))
 refine uB (y_lt rfl rfl) ?_
 refine qL (qJ ?_)
 refine zG rfl (fun h1 => ?_) (fun h1 => ?_)
 ·have hkl : k < l.length := by omega
  obtain ⟨x, hx⟩ : ∃ x, l[k]? = some x := ⟨_, List.getElem?_eq_getElem hkl⟩
  obtain ⟨n, hnk⟩ : ∃ x, ns[k]? = some x := ⟨_, List.getElem?_eq_getElem (by omega)⟩
  have hxl := hnm x (List.mem_of_getElem? hx)
  have hnn := hnb n (List.mem_of_getElem? hnk)
  obtain ⟨g, o, rfl, hq'⟩ := hq (qZd (by omega))
  obtain ⟨gr, rfl⟩ := hpr (by omega)
  have f0 := (qJs hx).1
  have f1 := qAl hnk (((k : Nat) : Int).toNat) (by omega)
  have f2 := qAl hnk (0 + ((k : Nat) : Int).toNat) (by omega)
  have hv1 := qAk (n := x.name.length) (by omega)
  have hv3 := qAk (n := n) (by omega)
  have hbl : (qAx x.name).length = (vput x.name.length).length + x.name.length := List.length_append
  have hbp : 0 < (qAx x.name).length := by have := qCc x.name.length; omega
  refine zD (qJ (qK (zM (qK (qI (uM rfl (uM rfl (uM rfl (uB (uAi rfl rfl) ?_)))))))))
  refine uB (uBf rfl) ?_
  apply qA
  ·(apply zL rfl (hE.t rfl) rfl (by assumption); (focus ((repeat constructor); done)); (first | ((focus exact f0); (focus omega)) | ((focus exact f1); (focus omega)) | ((focus assumption); (focus omega))))
  ·rfl
  refine uU ?_
  refine qYi rfl (hE.t rfl) (hE.t rfl) (hE.t rfl) (fun gb cb => ?_)
  refine uX (qRs (g := gb) (c := cb) (bs := x.name) hE (by omega)) rfl ?_
  rintro _ _ ⟨g5, c5, rfl, rfl⟩
  simp only [uV, uW]
  refine uU ?_
  apply qAp (hE.t rfl) (hE.t rfl) rfl rfl rfl
  ·exact uK
  ·exact uK
  ·exact qBd _
  ·exact hbp
  ·first | omega | (simp only [List.length_append, List.length_cons, List.length_nil]; omega)
  ·unfold maxLen; first | omega | (simp only [List.length_append, List.length_cons, List.length_nil]; omega)
  intro g6 c6 m' x' hm' hx'
  obtain rfl : m' = (done ++ qAx x.name).length := by rw [hm']; simp only [List.length_append, List.length_cons, List.length_nil] <;> omega
  obtain rfl : x' = byC (done ++ qAx x.name) := hx'.trans (qAo _ _).symm
  clear hm' hx'
  have hd6 : (done ++ qAx x.name).length = done.length + (qAx x.name).length := List.length_append
  refine uA rfl (qL (qJ (qI (uM rfl (uM rfl (uM rfl (uB (uAj rfl rfl) ?_)))))))
  refine uL ?_
  refine uB (uAc rfl) ?_
  refine uX (qFr (n := n) hE (by omega)) rfl ?_
  rintro _ _ ⟨g7, c7, rfl, rfl⟩
  simp only [uV, uW]
  refine uU ?_
  apply qAp (hE.t rfl) (hE.t rfl) rfl rfl rfl
  ·exact uK
  ·exact uK
  ·exact qBd _
  ·exact (qCc _)
  ·first | omega | (simp only [List.length_append, List.length_cons, List.length_nil]; omega)
  ·unfold maxLen; first | omega | (simp only [List.length_append, List.length_cons, List.length_nil]; omega)
  intro g8 c8 m' x' hm' hx'
  obtain rfl : m' = (done ++ qAx x.name ++ vput n).length := by rw [hm']; simp only [List.length_append, List.length_cons, List.length_nil] <;> omega
  obtain rfl : x' = byC (done ++ qAx x.name ++ vput n) := hx'.trans (qAo _ _).symm
  clear hm' hx'
  have hd8 : (done ++ qAx x.name ++ vput n).length = (done ++ qAx x.name).length + (vput n).length := List.length_append
  refine uA rfl (qL (zK (qJ (qI (uM rfl (uB (uAa rfl rfl) ?_))))))
  refine uA rfl (qL ?_)
  refine zU (ι := ReG) (j := ⟨k + 1, done ++ qAx x.name ++ vput n, g8, c8⟩) ⟨by simp only; omega, by simp only; rw [nmA_take hx hnk, zDi, hdone]; simp only [List.append_assoc], by simp only; omega⟩ (by simp only; omega) ⟨rfl, rfl, rfl, congrArg some (zY (by simp only; omega)), trivial⟩ ?_
  exact uI
 obtain rfl : k = l.length := by omega
 have hnal : (nmA l ns).length = l.length := by unfold nmA; simp; omega
 have hB : done = encA G (nmA l ns) := by
  rw [hdone, List.take_of_length_le (by omega), ← hU]
  unfold encA
  rw [hnal]
 refine kM (qP (qP (zJ (qJ (qK (qI (uM rfl (uA rfl (qL (qJ (kD ?_)))))))))))
 exact uZ rfl (.tmp rfl .nil) ⟨p4, c4, done, rfl, hB, rfl⟩
end
end Go.Proofs.YtkkjjablmmmmkaaGreatDoor
