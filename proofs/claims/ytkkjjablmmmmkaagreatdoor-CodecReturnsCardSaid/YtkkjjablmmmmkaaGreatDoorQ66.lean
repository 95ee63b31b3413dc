import Derived.Test.YtkkjjablmmmmkaaGreatDoorQ65
set_option linter.all false
namespace Go.Proofs.YtkkjjablmmmmkaaGreatDoor
open Go Go.RowKit Sl Eg
set_option maxRecDepth 10000
variable {E : Env} {Es : List Ent} {s most : Nat}
theorem qRy (hE : Seat E) {i : Nat} (h : i ≤ Es.length) : Ct E 62 [uPt s, .int .i64 (i : Nat)] [zR s most Es] (fun v Q => v = .bool true ∧ Q = [zR s most Es]) :=
 qCx hE fun w _ _ hs => (qFa w (i : Int) hs).mono fun e w' ⟨h1, h2⟩ => ⟨by
  rw [h1, decide_eq_true (show (0 : Int) ≤ (i : Int) by omega), decide_eq_true (show (i : Int) ≤ (Es.length : Int) by omega)]
  rfl, qJn h2⟩
theorem ct_pairZ (hE : Seat E) {i : Nat} (hi : i < Es.length) : Ct E 44 [uPt s, .int .i64 ((i + 1 : Nat) : Int), .int .i64 0] [zR s most Es] (fun v Q => v = .tuple #[.int .i64 ((i + 1 : Nat) : Int), .nilIface] ∧ Q = [zR s most Es]) := by
 refine zO (hE.fn Tryz.func44) rfl rfl rfl (fun R => ?_)
 simp only [qAc, uV, uW]
 refine qK (qI (uA rfl (uA rfl (qL (qJ (qK (qK (qI (uM rfl (uB (qAx rfl (hE.t rfl)) ?_))))))))))
 refine qL (qJ (zC rfl (zB (qJ (qK (qK (qI (uM rfl (uM rfl (uX (qRy (Es := Es) (i := i + 1) hE (by omega)) rfl ?_))))))))))
 rintro _ _ ⟨rfl, rfl⟩
 simp only [uV, uW]
 refine uB (qBg rfl) ?_
 refine uM rfl (kS rfl rfl (uM rfl (kS rfl rfl (uM rfl (kS rfl rfl (uX (qRy (Es := Es) (i := 0) hE (Nat.zero_le _)) rfl ?_))))))
 rintro _ _ ⟨rfl, rfl⟩
 simp only [uV, uW]
 refine kS rfl rfl (uB (qBg rfl) ?_)
 refine uB (qY rfl rfl) ?_
 refine qL (qJ (zC rfl (zB (qJ (qK (qK (qI (uM rfl (uB (y_eq rfl rfl) ?_)))))))))
 refine qL (qJ ?_)
 refine zD rfl (fun h1 => ?_) (fun h1 => ?_)
 ·exfalso; omega
 refine zB (qJ (qK (qK (qI (uM rfl (uB (y_eq rfl rfl) ?_))))))
 refine qL (qJ (zF rfl (qK (qI (uM rfl (uA rfl (uA rfl (qL (qJ (zZ (qW ?_)))))))))))
 exact uZ rfl (.tmp rfl (.tmp rfl .nil)) ⟨rfl, rfl⟩
theorem qVo {L : List Rl} (hw : Wf L) {id i j : Nat} (h1 : 1 ≤ id) (h : L[id - 1]? = some (.pair i j)) : id ≤ L.length ∧ txt L id = txt L i ++ txt L j := by
 obtain ⟨n, rfl⟩ : ∃ n, id = n + 1 := ⟨id - 1, by omega⟩
 rw [Nat.add_sub_cancel] at h
 exact ⟨(List.getElem?_eq_some_iff.1 h).1, qCd h (hw.ok _ _ h)⟩
theorem ct_btext (hE : Seat E) : ∀ (n : Nat) {Es : List Ent} {bs : List UInt8} {g o c : Nat} {q : HP}, bs.length = n → 1 ≤ n → n ≤ 65536 → n ≤ c → (∀ k, q k → RdAt E.w0 g o (byC bs) k) → Es.length + 2 * n ≤ most →
  Ct E 72 [uPt s, .slice (some ⟨g, o, none⟩) n c] [zR s most Es, q]
   (fun v Q => ∃ M id, v = .tuple #[.int .i64 (id : Nat), .nilIface] ∧ M.length + 1 ≤ 2 * n ∧ 1 ≤ id ∧ id ≤ (Es ++ M).length ∧ txt (rls (Es ++ M)) id = bs ∧ Q = [zR s most (Es ++ M), q]) := by
 intro n
 induction n using Nat.strongRecOn with
 | ind n ih =>
 intro Es bs g o c q hbn hn1 hn2 hnc hq hroom
 have hbl := qGf bs
 have hmx : kH = 1152921504606846976 := rfl
 refine zO (hE.fn Tryz.func72) rfl rfl rfl (fun R => ?_)
 simp only [qAc, uV, uW]
 refine qK (qI (uA rfl (uA rfl (qL (qJ (qK (qK (qI (uM rfl (uB (uBl rfl) ?_))))))))))
 refine uB (y_eq rfl rfl) ?_
 refine qL (qJ ?_)
 refine zD rfl (fun h => ?_) (fun h => ?_)
 ·obtain ⟨b, rfl⟩ := List.length_eq_one_iff.1 (show bs.length = 1 by omega)
  have f0 : (byC [b])[0]? = some (.int .u8 (b.toNat : Nat)) := rfl
  have hr1 : Es.length < most := by omega
  refine qK (qI (uM rfl (uM rfl (uB (uAi rfl rfl) ?_))))
  apply qA
  ·(apply zJ rfl (hE.t rfl) rfl (by assumption); (focus ((repeat constructor); done)); (first | ((focus exact f0); (focus omega)) | ((focus exact f1); (focus omega)) | ((focus assumption); (focus omega))))
  ·rfl
  refine uX (qGx (s := s) (most := most) (Es := Es) hE b hr1) rfl ?_
  rintro _ _ ⟨M, id, rfl, hM, hid, hrl, rfl⟩
  simp only [uV, uW]
  refine uB (qU rfl rfl) (uB (qU rfl rfl) (uA rfl (uA rfl (qL (qJ (zZ (qW ?_)))))))
  have hid2 : id ≤ (Es ++ M).length := by have := (List.getElem?_eq_some_iff.1 hrl).1; rw [zQ] at this; omega
  have htx : txt (rls (Es ++ M)) id = [b] := by
   obtain ⟨i, rfl⟩ : ∃ i, id = i + 1 := ⟨id - 1, by omega⟩
   exact qAy hrl
  exact uZ rfl (.tmp rfl (.tmp rfl .nil)) ⟨M, id, rfl, by omega, hid, hid2, htx, rfl⟩
 obtain ⟨k, hk⟩ : ∃ k, k = n / 2 := ⟨_, rfl⟩
 have hk1 : 1 ≤ k ∧ k < n ∧ n - k < n := by omega
 have hl1 : (bs.take k).length = k := by rw [List.length_take]; omega
 have hl2 : (bs.drop k).length = n - k := by rw [List.length_drop]; omega
 have hq1 : ∀ x, q x → RdAt E.w0 g o (byC (bs.take k)) x := fun x hx i v hv => by
  have e : byC (bs.take k) = (byC bs).take k := by simp [byC, List.map_take]
  rw [e, List.getElem?_take] at hv
  split at hv
  ·exact hq x hx i v hv
  cases hv
 have hq2 : ∀ x, q x → RdAt E.w0 g (o + k) (byC (bs.drop k)) x := fun x hx i v hv => by
  have e : byC (bs.drop k) = (byC bs).drop k := by simp [byC, List.map_drop]
  rw [e, List.getElem?_drop] at hv
  have := hq x hx (k + i) v hv
  rwa [← Nat.add_assoc] at this
 refine zB (qJ (qK (qI (uM rfl (uM rfl (uM rfl (uB (uBl rfl) ?_)))))))
 refine uB (qOa rfl rfl (by omega) (by omega) (by omega)) ?_
 refine l_eq 24 (.int .i64 (k : Nat)) rfl (zW (by omega)) ?_
 refine uB (qBq k rfl rfl (hE.t rfl) rfl (by omega)) ?_
 refine uX (ih k hk1.2.1 (Es := Es) (bs := bs.take k) (g := g) (o := o) (c := c) (q := q) hl1 hk1.1 (by omega) (by omega) hq1 (by omega)) rfl ?_
 rintro _ _ ⟨M1, i1, rfl, hM1, hi1, hi1l, ht1, rfl⟩
 simp only [uV, uW]
 refine uM rfl (uB (qU rfl rfl) (uB (qU rfl rfl) (uA rfl (uA rfl (qL (qJ (qK (qK (qI (uM rfl ?_))))))))))
 refine uB (qAd rfl (hE.t rfl)) ?_
 refine qL (qJ (zC rfl (zB (qJ (qK (qI (uM rfl (uM rfl (uM rfl (uB (uBl rfl) ?_))))))))))
 refine uB (qOa rfl rfl (by omega) (by omega) (by omega)) ?_
 refine l_eq 37 (.int .i64 (k : Nat)) rfl (zW (by omega)) ?_
 refine uB (qDe (l := k) (h := n) rfl (hE.t rfl) ⟨_, rfl⟩ rfl (by omega) (by omega)) ?_
 refine l_eq 38 (.slice (some ⟨g, o + k, none⟩) (n - k) (c - k)) rfl (by rw [if_neg (by omega), Nat.mul_one, Sl.addr_add]) ?_
 have hr2 : (Es ++ M1).length + 2 * (n - k) ≤ most := by rw [List.length_append]; omega
 refine uX (ih (n - k) hk1.2.2 (Es := Es ++ M1) (bs := bs.drop k) (g := g) (o := o + k) (c := c - k) (q := q) hl2 (by omega) (by omega) (by omega) hq2 hr2) rfl ?_
 rintro _ _ ⟨M2, i2, rfl, hM2, hi2, hi2l, ht2, rfl⟩
 simp only [uV, uW]
 refine uM rfl (uB (qU rfl rfl) (uB (qU rfl rfl) (uA rfl (uA rfl (qL (qJ (qK (qK (qI (uM rfl ?_))))))))))
 refine uB (qAd rfl (hE.t rfl)) ?_
 refine qL (qJ (zC rfl ?_))
 refine qDj (p := zR s most (Es ++ M1 ++ M2)) uK (fun _ h => qAb h) (fun hsay => ?_)
 have ht1' : txt (rls (Es ++ M1 ++ M2)) i1 = bs.take k := by rw [kG (Es ++ M1), qAz _ (by rw [zQ]; exact hi1l)]; exact ht1
 have hi1' : i1 ≤ (Es ++ M1 ++ M2).length := by rw [List.length_append]; omega
 obtain ⟨j1, rfl⟩ : ∃ j, i1 = j + 1 := ⟨i1 - 1, by omega⟩
 obtain ⟨j2, rfl⟩ : ∃ j, i2 = j + 1 := ⟨i2 - 1, by omega⟩
 obtain ⟨x1, hx1⟩ : ∃ x, (Es ++ M1 ++ M2)[j1]? = some x := ⟨_, List.getElem?_eq_getElem (by omega)⟩
 obtain ⟨x2, hx2⟩ : ∃ x, (Es ++ M1 ++ M2)[j2]? = some x := ⟨_, List.getElem?_eq_getElem (by omega)⟩
 have hlen : x1.t.length + x2.t.length ≤ kH := by rw [hsay.2.1 _ _ hx1, hsay.2.1 _ _ hx2, ht1', ht2, hl1, hl2]; omega
 have hr3 : (Es ++ M1 ++ M2).length < most := by rw [List.length_append, List.length_append]; omega
 refine zB (qJ (qK (qI (uM rfl (uM rfl (uM rfl (uX (qNh (s := s) (most := most) (Es := Es ++ M1 ++ M2) hE hx1 hx2 hlen hr3) rfl ?_)))))))
 rintro _ _ ⟨M3, id, rfl, hM3, hid, hrl, rfl⟩
 simp only [uV, uW]
 refine qHx (p := zR s most (Es ++ M1 ++ M2 ++ M3)) uK (fun _ h => qAb h) (fun hsay3 => ?_)
 obtain ⟨g1, g2⟩ := qVo hsay3.1 hid hrl
 have e3 : txt (rls (Es ++ M1 ++ M2 ++ M3)) id = bs := by
  rw [g2, kG (Es ++ M1 ++ M2), qAz _ (by rw [zQ]; omega), qAz _ (by rw [zQ]; omega), ht1', ht2, List.take_append_drop]
 rw [zQ] at g1
 have ea : Es ++ M1 ++ M2 ++ M3 = Es ++ (M1 ++ (M2 ++ M3)) := by simp only [List.append_assoc]
 rw [ea] at g1 e3 ⊢
 refine uB (qU rfl rfl) (uB (qU rfl rfl) (uA rfl (uA rfl (qL (qJ (zZ ?_))))))
 exact uZ rfl (.tmp rfl (.tmp rfl .nil)) ⟨M1 ++ (M2 ++ M3), id, rfl, by simp only [List.length_append]; omega, hid, g1, e3, rfl⟩
theorem ct_bText (hE : Seat E) {bs : List UInt8} {a : Option Addr} {c : Nat} {q : HP} (hq : Rdb E.w0 a (byC bs) q) (hn : bs.length ≤ 65536) (hc : bs.length ≤ c) (hroom : Es.length + 2 * bs.length ≤ most) :
  Ct E 42 [uPt s, .slice a bs.length c] [zR s most Es, q]
   (fun v Q => ∃ M id, v = .tuple #[.int .i64 (id : Nat), .nilIface] ∧ M.length ≤ 2 * bs.length ∧ id ≤ (Es ++ M).length ∧ txt (rls (Es ++ M)) id = bs ∧ Q = [zR s most (Es ++ M), q]) := by
 refine zO (hE.fn Tryz.func42) rfl rfl rfl (fun R => ?_)
 simp only [qAc, uV, uW]
 refine qK (qI (uA rfl (uA rfl (qL (qJ (qK (qK (qI (uM rfl (uB (qAx rfl (hE.t rfl)) ?_))))))))))
 refine qL (qJ (zC rfl (zB (qJ (qK (qK (qI (uM rfl (uB (uBl rfl) ?_)))))))))
 refine uB (y_gt rfl rfl) ?_
 refine qL (qJ ?_)
 refine zD rfl (fun h1 => ?_) (fun h1 => ?_)
 ·exfalso; omega
 refine zB (qJ (qK (qK (qI (uM rfl (uB (uBl rfl) ?_))))))
 refine uB (y_eq rfl rfl) ?_
 refine qL (qJ ?_)
 refine zD rfl (fun h2 => ?_) (fun h2 => ?_)
 ·obtain rfl : bs = [] := List.eq_nil_of_length_eq_zero (by omega)
  refine qK (qI (uA rfl (uA rfl (qL (qJ (zZ (qW ?_)))))))
  apply kC
  ·rfl
  ·(apply Rs.tmp rfl; apply Rs.tmp rfl; exact Rs.nil)
  ·exact ⟨[], 0, rfl, Nat.zero_le _, Nat.zero_le _, qDz _, rfl⟩
  rw [List.append_nil]
  exact uI
 obtain ⟨g, o, rfl, hq'⟩ := hq (fun e => h2 (by have := qGf bs; rw [e] at this; simp at this; omega))
 refine zB (qJ (qK (qI (uM rfl (uM rfl ?_)))))
 refine uX (ct_btext (s := s) (most := most) hE bs.length (Es := Es) (bs := bs) (g := g) (o := o) (c := c) (q := q) rfl (by omega) hn hc hq' hroom) rfl ?_
 rintro _ _ ⟨M, id, rfl, hM, hid, hidl, htx, rfl⟩
 simp only [uV, uW]
 refine uB (qU rfl rfl) (uB (qU rfl rfl) (uA rfl (uA rfl (qL (qJ (zZ ?_))))))
 exact uZ rfl (.tmp rfl (.tmp rfl .nil)) ⟨M, id, rfl, by omega, hidl, htx, rfl⟩
end Go.Proofs.YtkkjjablmmmmkaaGreatDoor
namespace Sl
open Go Go.RowKit
variable {E : Env} {n : Nat} {L : Fr} {S H : List HP} {Q : Exit → Act → World → Prop}
theorem qEi {ops : List Oper} {S : List HP} {fuel : Nat} {listed : Array Bool} (i : Nat) {d : Option Nat} {op : Op} {ty : TypeId} {pos : String} {af : Array Edge} {j t : Nat} {b : Bool} (hi : ops[i]? = some ⟨d, op, ty, pos, af, some (j, b)⟩)
  (hj : (ops[j]?).bind (·.dst) = some t) (hl : look L t = some undef) (hQ : Calm Q) (hf : (Region.noSelect ops.toArray && (Region.free .any ops.toArray listed i && (Region.ready .any ops.toArray listed).contains i)) = true) (hd : inB n d = true)
  (k : WPD E ops S Q fuel (listed.setIfInBounds i true) n (putL d undef L) H) : WPD E ops S Q (fuel + 1) listed n L H := fun hS a w g => by
 simp only [Bool.and_eq_true] at hf
 have hj' : (ops.toArray[j]?).bind (·.dst) = some t := by simpa using hj
 have hyl : yielded ops.toArray a.tmps j = none := by
  simp only [yielded, hj', Option.bind_some, g.f.fr t _ hl]
  rfl
 exact wpAnyH_take (qAg hi) hf.1 hf.2.1 hf.2.2 (fun c a w h => hQ c a w d undef h) (.inr ⟨by simp [Region.wanted, hyl], rfl⟩) (g.hp.imp hS) (k hS _ _ ⟨g.f.put d undef hd, g.hp⟩)
theorem qVt {ops : List Oper} {S : List HP} {fuel : Nat} {listed : Array Bool} (t : Nat) {b : Bool} (hl : look L t = some (.bool b)) (h1 : b = true → WPD E ops S Q fuel listed n ((t, .bool true) :: L) H) (h2 : b = false → WPD E ops S Q fuel listed n ((t, .bool false) :: L) H) : WPD E ops S Q fuel listed n L H :=
 qUg (p := b = true) t (by simpa using hl) h1 (fun h => h2 (by simpa using h))
end Sl
namespace Go.Proofs.YtkkjjablmmmmkaaGreatDoor
open Go Go.RowKit Sl Eg
set_option maxRecDepth 10000
section
variable {E : Env}
structure Im where
 name : List UInt8
 a : Option Addr
 bs : List UInt8
 c : Nat
def imC : List Im → List Value
 | [] => []
 | x :: l => .string ⟨⟨x.name⟩⟩ :: .slice x.a x.bs.length x.c :: imC l
theorem qKp : ∀ l : List Im, (imC l).length = l.length * 2
 | [] => rfl
 | p :: l => by simp only [imC, List.length_cons, qKp l]; omega
theorem qIh : ∀ {l : List Im} {i : Nat} {x : Im}, l[i]? = some x → (imC l)[i * 2]? = some (.string ⟨⟨x.name⟩⟩) ∧ (imC l)[i * 2 + 1]? = some (.slice x.a x.bs.length x.c)
 | p :: l, 0, q, h => by simp at h; subst h; exact ⟨rfl, rfl⟩
 | p :: l, i + 1, q, h => by
  have := qIh (l := l) (i := i) (x := q) (by simpa using h)
  rw [show (i + 1) * 2 = i * 2 + 1 + 1 by omega]
  exact this
theorem zBl {l : List Im} (h : 0 < l.length) : imC l ≠ [] := fun e => by
 have := qKp l
 rw [e] at this
 simp at this
 omega
def ImOrd (l : List Im) (n : Nat) : Prop := ∀ (i : Nat) (x y : Im), i + 1 < n → l[i]? = some x → l[i + 1]? = some y → Op.bytesLess x.name y.name = true
def GoodI (l : List Im) : Prop := (∀ x ∈ l, ValidN x.name ∧ x.bs.length ≤ 60) ∧ ImOrd l l.length ∧ l.length ≤ 6
theorem ct_good (hE : Seat E) {l : List Im} {a : Option Addr} {c : Nat} {q : HP} (hq : Rdb E.w0 a (imC l) q) (hn : l.length ≤ maxLen) :
  Ct E 20 [.slice a l.length c] [q] (fun v Q => ∃ b : Bool, v = .bool b ∧ (b = true ↔ GoodI l) ∧ Q = [q]) := by
 have hmx : maxLen = 9223372036854775807 := rfl
 refine zO (hE.fn Tryz.func20) rfl rfl rfl (fun R => ?_)
 simp only [qAc, uV, uW]
 refine qK (qI (uA rfl (qL (qJ (qK (qK (qI (uA rfl (qL (qJ (zK ?_)))))))))))
 refine qAe (fun k : Nat => [(0, .slice a l.length c), (3, .int .i64 (k : Nat))]) (fun k => [q, R]) (fun k => l.length - k) (fun k => k ≤ l.length ∧ (∀ j x, j < k → l[j]? = some x → ValidN x.name ∧ x.bs.length ≤ 60) ∧ ImOrd l k) 0 ⟨Nat.zero_le _, fun j x h => by omega, fun i x y h => by omega⟩ ⟨rfl, rfl, trivial⟩ uI ?_
 rintro k ⟨hk, hall, hord⟩
 refine qK (qK (qI (uM rfl (uM rfl (uB (uBl rfl) ?_)))))
 refine uB (y_lt rfl rfl) ?_
 refine qL (qJ ?_)
 refine zD rfl (fun h => ?_) (fun h => ?_)
 ·have hkl : k < l.length := by omega
  obtain ⟨x, hx⟩ : ∃ x, l[k]? = some x := ⟨_, List.getElem?_eq_getElem hkl⟩
  have hxm := List.mem_of_getElem? hx
  obtain ⟨g, o, rfl, hq'⟩ := hq (zBl (by omega))
  have f0 := (qIh hx).1
  have f2 := (qIh hx).2
  refine zB (qJ (qK (zK (qK ?_))))
  refine uH ([q]) ?_
  refine uD 0 rfl (qB rfl) ?_
  refine uD 1 rfl (qB rfl) ?_
  refine uD 2 rfl (uAi rfl rfl) ?_
  refine uD 3 rfl (uBf rfl) ?_
  apply zG 4 rfl
  ·(apply zJ rfl (hE.t rfl) rfl (by assumption); (focus ((repeat constructor); done)); (first | ((focus exact f0); (focus omega)) | ((focus exact f1); (focus omega)) | ((focus assumption); (focus omega))))
  ·with_reducible (repeat (first | exact qE | apply qF | apply qG))
  ·kernel_rfl
  ·rfl
  apply kM 5 rfl (by kernel_rfl) rfl
  refine uC (qPs (bs := x.name) hE) rfl ?_
  rintro _ _ ⟨rfl, rfl⟩
  simp only [uV, uW]
  refine uE ?_
  refine uD 6 rfl (qBg rfl) ?_
  refine uD 7 rfl (qB rfl) ?_
  refine qVt 17 rfl (fun v1 => ?_) (fun v1 => ?_)
  ·have v1' : ¬ ValidN x.name := by simpa using v1
   refine uR 8 rfl rfl rfl rfl ?_
   refine uR 9 rfl rfl rfl rfl ?_
   refine uR 10 rfl rfl rfl rfl ?_
   refine qEi 11 rfl rfl rfl (by with_reducible (repeat (first | exact qE | apply qF | apply qG))) (by kernel_rfl) rfl ?_
   refine qEi 12 rfl rfl rfl (by with_reducible (repeat (first | exact qE | apply qF | apply qG))) (by kernel_rfl) rfl ?_
   refine qEi 13 rfl rfl rfl (by with_reducible (repeat (first | exact qE | apply qF | apply qG))) (by kernel_rfl) rfl ?_
   refine qEi 14 rfl rfl rfl (by with_reducible (repeat (first | exact qE | apply qF | apply qG))) (by kernel_rfl) rfl ?_
   refine qEi 15 rfl rfl rfl (by with_reducible (repeat (first | exact qE | apply qF | apply qG))) (by kernel_rfl) rfl ?_
   refine qEi 16 rfl rfl rfl (by with_reducible (repeat (first | exact qE | apply qF | apply qG))) (by kernel_rfl) rfl ?_
   refine qEi 17 rfl rfl rfl (by with_reducible (repeat (first | exact qE | apply qF | apply qG))) (by kernel_rfl) rfl ?_
   refine qEi 18 rfl rfl rfl (by with_reducible (repeat (first | exact qE | apply qF | apply qG))) (by kernel_rfl) rfl ?_
   refine qEi 19 rfl rfl rfl (by with_reducible (repeat (first | exact qE | apply qF | apply qG))) (by kernel_rfl) rfl ?_
   refine qEi 20 rfl rfl rfl (by with_reducible (repeat (first | exact qE | apply qF | apply qG))) (by kernel_rfl) rfl ?_
   refine qEi 21 rfl rfl rfl (by with_reducible (repeat (first | exact qE | apply qF | apply qG))) (by kernel_rfl) rfl ?_
   refine qEi 22 rfl rfl rfl (by with_reducible (repeat (first | exact qE | apply qF | apply qG))) (by kernel_rfl) rfl ?_
   refine uR 23 rfl rfl rfl rfl ?_
   refine uD 24 rfl (qX rfl rfl) ?_
   refine uD 25 rfl (qB rfl) ?_
   refine uR 26 rfl rfl rfl rfl ?_
   refine uR 27 rfl rfl rfl rfl ?_
   refine uR 28 rfl rfl rfl rfl ?_
   refine uR 29 rfl rfl rfl rfl ?_
   refine uR 30 rfl rfl rfl rfl ?_
   refine uR 31 rfl rfl rfl rfl ?_
   refine uR 32 rfl rfl rfl rfl ?_
   refine uD 33 rfl (qX rfl rfl) ?_
   refine qDr (by kernel_rfl) ?_
   refine qJ (zF rfl (qK (qI (uA rfl (qL (qJ (zZ (zN (qW (qW (zN (qW ?_))))))))))))
   exact uZ rfl (.tmp rfl .nil) ⟨false, rfl, ⟨fun h => Bool.noConfusion h, fun hg => (v1' (hg.1 x hxm).1).elim⟩, rfl⟩
  have v1' : ValidN x.name := by simpa using v1
  refine uO 8 rfl rfl rfl (qB rfl) ?_
  refine uO 9 rfl rfl rfl (y_gt rfl rfl) ?_
  refine uO 10 rfl rfl rfl (qB rfl) ?_
  refine qUg 20 rfl (fun v2 => ?_) (fun v2 => ?_)
  ·obtain ⟨k, rfl⟩ : ∃ k', k = k' + 1 := ⟨k - 1, by omega⟩
   obtain ⟨y0, hy0⟩ : ∃ y, l[k]? = some y := ⟨_, List.getElem?_eq_getElem (by omega)⟩
   have f1 := (qIh hy0).1
   have f3 := f2
   refine uO 11 rfl rfl rfl (qB rfl) ?_
   refine uO 12 rfl rfl rfl (qB rfl) ?_
   refine uO 13 rfl rfl rfl (uAs rfl rfl) ?_
   refine uO 14 rfl rfl rfl (uAi rfl rfl) ?_
   refine uO 15 rfl rfl rfl (uBf rfl) ?_
   apply d_on 16 rfl rfl rfl
   ·(apply zJ rfl (hE.t rfl) rfl (by assumption); (focus ((repeat constructor); done)); (first | ((focus exact f0); (focus omega)) | ((focus exact f1); (focus omega)) | ((focus assumption); (focus omega))))
   ·with_reducible (repeat (first | exact qE | apply qF | apply qG))
   ·kernel_rfl
   ·rfl
   refine uO 17 rfl rfl rfl (qB rfl) ?_
   refine uO 18 rfl rfl rfl (qB rfl) ?_
   refine uO 19 rfl rfl rfl (uAi rfl rfl) ?_
   refine uO 20 rfl rfl rfl (uBf rfl) ?_
   apply d_on 21 rfl rfl rfl
   ·(apply zJ rfl (hE.t rfl) rfl (by assumption); (focus ((repeat constructor); done)); (first | ((focus exact f0); (focus omega)) | ((focus exact f1); (focus omega)) | ((focus assumption); (focus omega))))
   ·with_reducible (repeat (first | exact qE | apply qF | apply qG))
   ·kernel_rfl
   ·rfl
   refine uO 22 rfl rfl rfl (y_ge_str rfl rfl) ?_
   refine uO 23 rfl rfl rfl (qX rfl rfl) ?_
   refine uD 24 rfl (qY rfl rfl) ?_
   refine uD 25 rfl (qB rfl) ?_
   refine qVt 35 rfl (fun v3 => ?_) (fun v3 => ?_)
   ·have v3' : ¬ Op.bytesLess y0.name x.name = true := by simpa using v3
    refine uR 26 rfl rfl rfl rfl ?_
    refine uR 27 rfl rfl rfl rfl ?_
    refine uR 28 rfl rfl rfl rfl ?_
    refine uR 29 rfl rfl rfl rfl ?_
    refine uR 30 rfl rfl rfl rfl ?_
    refine uR 31 rfl rfl rfl rfl ?_
    refine uR 32 rfl rfl rfl rfl ?_
    refine uD 33 rfl (qX rfl rfl) ?_
    refine qDr (by kernel_rfl) ?_
    refine qJ (zF rfl (qK (qI (uA rfl (qL (qJ (zZ (zN (qW (qW (zN (qW ?_))))))))))))
    exact uZ rfl (.tmp rfl .nil) ⟨false, rfl, ⟨fun h => Bool.noConfusion h, fun hg => (v3' (hg.2.1 k y0 x hkl hy0 hx)).elim⟩, rfl⟩
   have v3' : Op.bytesLess y0.name x.name = true := by simpa using v3
   refine uO 26 rfl rfl rfl (qB rfl) ?_
   refine uO 27 rfl rfl rfl (qB rfl) ?_
   refine uO 28 rfl rfl rfl (uAi rfl rfl) ?_
   refine uO 29 rfl rfl rfl (uBf rfl) ?_
   apply d_on 30 rfl rfl rfl
   ·(apply zJ rfl (hE.t rfl) rfl (by assumption); (focus ((repeat constructor); done)); (first | ((focus exact f0); (focus omega)) | ((focus exact f1); (focus omega)) | ((focus assumption); (focus omega))))
   ·with_reducible (repeat (first | exact qE | apply qF | apply qG))
   ·kernel_rfl
   ·rfl
   refine uO 31 rfl rfl rfl (uBl rfl) ?_
   refine uO 32 rfl rfl rfl (y_gt rfl rfl) ?_
   refine uD 33 rfl (qY rfl rfl) ?_
   refine qDr (by kernel_rfl) ?_
   refine qJ ?_
   refine zD rfl (fun v4 => ?_) (fun v4 => ?_)
   ·have v4' : ¬ x.bs.length ≤ 60 := by omega
    refine qK (qI (uA rfl (qL (qJ (zZ (zN (qW (qW (zN (qW ?_))))))))))
    exact uZ rfl (.tmp rfl .nil) ⟨false, rfl, ⟨fun h => Bool.noConfusion h, fun hg => (v4' (hg.1 x hxm).2).elim⟩, rfl⟩
   have hor : ImOrd l (k + 1 + 1) := fun i u w hi hu hw => by
    rcases Nat.lt_or_ge (i + 1) (k + 1) with h' | h'
    ·exact hord i u w h' hu hw
    obtain rfl : i = k := by omega
    rw [hy0] at hu
    rw [hx] at hw
    cases hu
    cases hw
    exact v3'
   refine zB (zI (qJ (qI (uM rfl (uB (uAa rfl rfl) ?_)))))
   refine uA rfl (qL ?_)
   refine zS (ι := Nat) (j := k + 1 + 1) ⟨by omega, fun j y hj hy => ?_, hor⟩ (by omega) ⟨rfl, congrArg some (zW (by omega)), trivial⟩ uI
   rcases Nat.lt_or_ge j (k + 1) with h' | h'
   ·exact hall j y h' hy
   obtain rfl : j = k + 1 := by omega
   rw [hx] at hy
   cases hy
   exact ⟨v1', by omega⟩
  obtain rfl : k = 0 := by omega
  refine uR 11 rfl rfl rfl rfl ?_
  refine uR 12 rfl rfl rfl rfl ?_
  refine uR 13 rfl rfl rfl rfl ?_
  refine uR 14 rfl rfl rfl rfl ?_
  refine uR 15 rfl rfl rfl rfl ?_
  refine uR 16 rfl rfl rfl rfl ?_
  refine uR 17 rfl rfl rfl rfl ?_
  refine uR 18 rfl rfl rfl rfl ?_
  refine uR 19 rfl rfl rfl rfl ?_
  refine uR 20 rfl rfl rfl rfl ?_
  refine uR 21 rfl rfl rfl rfl ?_
  refine uR 22 rfl rfl rfl rfl ?_
  refine uO 23 rfl rfl rfl (qY rfl rfl) ?_
  refine uD 24 rfl (qY rfl rfl) ?_
  refine uD 25 rfl (qB rfl) ?_
  refine uO 26 rfl rfl rfl (qB rfl) ?_
  refine uO 27 rfl rfl rfl (qB rfl) ?_
  refine uO 28 rfl rfl rfl (uAi rfl rfl) ?_
  refine uO 29 rfl rfl rfl (uBf rfl) ?_
  apply d_on 30 rfl rfl rfl
  ·(apply zJ rfl (hE.t rfl) rfl (by assumption); (focus ((repeat constructor); done)); (first | ((focus exact f0); (focus omega)) | ((focus exact f1); (focus omega)) | ((focus assumption); (focus omega))))
  ·with_reducible (repeat (first | exact qE | apply qF | apply qG))
  ·kernel_rfl
  ·rfl
  refine uO 31 rfl rfl rfl (uBl rfl) ?_
  refine uO 32 rfl rfl rfl (y_gt rfl rfl) ?_
  refine uD 33 rfl (qY rfl rfl) ?_
  refine qDr (by kernel_rfl) ?_
  refine qJ ?_
  refine zD rfl (fun v4 => ?_) (fun v4 => ?_)
  ·have v4' : ¬ x.bs.length ≤ 60 := by omega
   refine qK (qI (uA rfl (qL (qJ (zZ (zN (qW (qW (zN (qW ?_))))))))))
   exact uZ rfl (.tmp rfl .nil) ⟨false, rfl, ⟨fun h => Bool.noConfusion h, fun hg => (v4' (hg.1 x hxm).2).elim⟩, rfl⟩
  refine zB (zI (qJ (qI ?_)))
  refine uM rfl (uB (uAa rfl rfl) ?_)
  refine uA rfl (qL ?_)
  refine zS (ι := Nat) (j := 1) ⟨by omega, fun j y hj hy => ?_, fun i u w hi => by omega⟩ (by omega) ⟨rfl, congrArg some (zW (by omega)), trivial⟩ uI
  obtain rfl : j = 0 := by omega
  rw [hx] at hy
  cases hy
  exact ⟨v1', by omega⟩
 obtain rfl : k = l.length := by omega
 refine kK (qP (qP (zH (qJ (qK (qI (uM rfl (uB (uBl rfl) ?_))))))))
 refine uB (y_le rfl rfl) ?_
 refine uA rfl (qL (qJ (zZ ?_)))
 apply kC
 ·rfl
 ·(apply Rs.tmp rfl; exact Rs.nil)
 ·refine ⟨_, rfl, ?_, rfl⟩
  rw [decide_eq_true_eq]
  constructor
  ·intro h6
   refine ⟨fun x hx => ?_, hord, by omega⟩
   obtain ⟨j, hj⟩ := List.getElem?_of_mem hx
   exact hall j x (List.getElem?_eq_some_iff.1 hj).1 hj
  intro hg
  have := hg.2.2
  omega
 exact uI
end
section
variable {E : Env} {Es : List Ent} {pp tb s most m bm : Nat}
theorem ct_pairA (hE : Seat E) {i j : Nat} (hi : 1 ≤ i ∧ i ≤ Es.length) (hj : j ≤ Es.length) (hl : len (rls Es) i + len (rls Es) j ≤ kH) (hroom : Es.length < most) : Ct E 44 [uPt s, .int .i64 (i : Nat), .int .i64 (j : Nat)] [zR s most Es]
  (fun v Q => ∃ M id, v = .tuple #[.int .i64 (id : Nat), .nilIface] ∧ M.length ≤ 1 ∧ id ≤ (Es ++ M).length ∧ txt (rls (Es ++ M)) id = txt (rls Es) i ++ txt (rls Es) j ∧ Q = [zR s most (Es ++ M)]) := by
 refine qCf (p := zR s most Es) uK (fun _ h => qAb h) (fun hsay => ?_)
 obtain ⟨i, rfl⟩ : ∃ k, i = k + 1 := ⟨i - 1, by omega⟩
 rcases Nat.eq_zero_or_pos j with rfl | hp
 ·refine fun R w hs => ((ct_pairZ (s := s) (most := most) (Es := Es) hE (show i < Es.length by omega)) R w hs).mono fun e w' ⟨v, Qs, h1, ⟨h2, h3⟩, h4⟩ => ⟨v, Qs, h1, ⟨[], i + 1, h2, Nat.zero_le _, ?_, ?_, ?_⟩, h4⟩
  ·rw [List.append_nil]; exact hi.2
  ·rw [List.append_nil, qDz, List.append_nil]
  rw [List.append_nil]; exact h3
 obtain ⟨j, rfl⟩ : ∃ k, j = k + 1 := ⟨j - 1, by omega⟩
 obtain ⟨x1, hx1⟩ : ∃ x, Es[i]? = some x := ⟨_, List.getElem?_eq_getElem (by omega)⟩
 obtain ⟨x2, hx2⟩ : ∃ x, Es[j]? = some x := ⟨_, List.getElem?_eq_getElem (by omega)⟩
 have hlen : x1.t.length + x2.t.length ≤ kH := by rw [hsay.2.1 _ _ hx1, hsay.2.1 _ _ hx2]; exact hl
 refine fun R w hs => ((qNh (s := s) (most := most) (Es := Es) hE hx1 hx2 hlen hroom) R w hs).mono fun e w' ⟨v, Qs, h1, ⟨M, id, h2, h3, h4, h5, h6⟩, h7⟩ => ⟨v, Qs, h1, ⟨M, id, h2, h3, ?_⟩, h7⟩
 subst h6
 obtain ⟨hw, -⟩ : Wf (rls (Es ++ M)) ∧ True := by
  obtain ⟨ha, hb, _, _, hc, _⟩ := h7.hp
  exact ⟨(qAb hc).1, trivial⟩
 obtain ⟨g1, g2⟩ := qVo hw h4 h5
 refine ⟨by rwa [zQ] at g1, ?_, rfl⟩
 rw [g2, kG, qAz _ (by rw [zQ]; omega), qAz _ (by rw [zQ]; omega)]
theorem qVn {w0 : World} {p : Option Addr} {c n : Nat} {t : TypeId} {vs : List Value} (hn : vs.length = n) (h : 0 < n → ∃ g, p = some ⟨g, 0, none⟩) : Rdb w0 p vs (sl p c t 1 n vs) := fun hne => by
 obtain ⟨g, rfl⟩ := h (by
  rcases Nat.eq_zero_or_pos n with e | e
  ·exact absurd (List.eq_nil_of_length_eq_zero (by omega)) hne
  exact e)
 exact ⟨g, 0, rfl, qKy (fun _ _ h => h)⟩
theorem qOi {bs : List UInt8} (h : bs ≠ []) : byC bs ≠ [] := fun e => h (by
 have := qGf bs
 rw [e] at this
 exact List.eq_nil_of_length_eq_zero this.symm)
def mkN (l : List Im) (ids : List Nat) : List (List UInt8 × Int) := (l.zip ids).map fun p => (p.1.name, (p.2 : Int))
theorem zip_snoc {α β : Type} {l : List α} {ids : List β} {x : α} {id : β} (hx : l[ids.length]? = some x) : l.zip (ids ++ [id]) = l.zip ids ++ [(x, id)] := by
 induction ids generalizing l with
 | nil =>
  cases l with
  | nil => simp at hx
  | cons a l => simp at hx; subst hx; simp
 | cons i ids ih =>
  cases l with
  | nil => simp at hx
  | cons a l => simp at hx; simp [ih hx]
theorem qEo : ∀ (a b : List (List UInt8 × Int)), nlC (a ++ b) = nlC a ++ nlC b
 | [], b => rfl
 | p :: a, b => by simp [nlC, qEo a b]
theorem mkN_snoc {l : List Im} {ids : List Nat} {x : Im} {id : Nat} (hx : l[ids.length]? = some x) : nlC (mkN l (ids ++ [id])) = nlC (mkN l ids) ++ [.string ⟨⟨x.name⟩⟩, .int .i64 (id : Nat)] := by
 unfold mkN
 rw [zip_snoc hx, List.map_append, qEo]
 rfl
def Txs (L : List Rl) (l : List Im) (ids : List Nat) : Prop := ∀ (i : Nat) (x : Im) (id : Nat), l[i]? = some x → ids[i]? = some id → id ≤ L.length ∧ txt L id = x.bs
theorem Txs.ext {L : List Rl} (M : List Rl) {l : List Im} {ids : List Nat} (h : Txs L l ids) : Txs (L ++ M) l ids := fun i x id h1 h2 => by
 have := h i x id h1 h2
 exact ⟨by rw [List.length_append]; omega, by rw [qAz _ this.1]; exact this.2⟩
theorem Txs.snoc {L : List Rl} {l : List Im} {ids : List Nat} (h : Txs L l ids) {x : Im} {id : Nat} (hx : l[ids.length]? = some x) (h1 : id ≤ L.length) (h2 : txt L id = x.bs) : Txs L l (ids ++ [id]) := fun i y id' hy hi => by
 rcases Nat.lt_trichotomy i ids.length with e | e | e
 ·rw [List.getElem?_append_left e] at hi; exact h i y id' hy hi
 ·subst e
  rw [hx] at hy
  cases hy
  simp at hi
  subst hi
  exact ⟨h1, h2⟩
 have := (List.getElem?_eq_some_iff.1 hi).1
 simp at this
 omega
structure PuG where
 ids : List Nat
 M : List Ent
 p : Option Addr
 c : Nat
structure PkG where
 j : Nat
 N : List Ent
 id : Nat
theorem ct_put (hE : Seat E) (hB : Base E.w0) {l : List Im} {a : Option Addr} {ca w : Nat} (hq : Rdb E.w0 a (imC l) old) (hok : ∀ x ∈ l, Rdb E.w0 x.a (byC x.bs) old) (hlen : ∀ x ∈ l, x.bs.length ≤ 60) (hn : l.length ≤ 6) (hw : w ≤ 1000) (hroom : Es.length + 120 * l.length ≤ most) :
  Ct E 21 [uPt m, .slice a l.length ca, .int .i64 (w : Nat)] [cells pp [uPt s, uPt tb] 106, tabP tb s (rls Es), zR s most Es, cells m [uPt pp, .map (some bm)] 103, old]
   (fun v Q => ∃ M ids p c, v = .tuple #[.slice p l.length c, .bool true] ∧ M.length ≤ 120 * l.length ∧ ids.length = l.length ∧ Txs (rls (Es ++ M)) l ids ∧ Q = [cells pp [uPt s, uPt tb] 106, tabP tb s (rls (Es ++ M)), zR s most (Es ++ M), cells m [uPt pp, .map (some bm)] 103, old, sl p c 39 2 l.length (nlC (mkN l ids))]) := by
 refine zO (hE.fn Tryz.func21) rfl rfl rfl (fun R => ?_)
 simp only [qAc, uV, uW]
 refine qK (qI (uA rfl (uA rfl (qL (qJ (qK (qI (uA rfl (qL (qJ (qK (qK (qI (uM rfl ?_))))))))))))))
 refine uB (qAx rfl (hE.t rfl)) ?_
 refine uM rfl (kS rfl rfl (uM rfl (kS rfl rfl (uX (qCc hE) rfl ?_))))
 rintro _ _ ⟨rfl, rfl⟩
 simp only [uV, uW]
 refine kS rfl rfl (uB (qAx rfl (hE.t rfl)) ?_)
 refine uB (qY rfl rfl) ?_
 refine uM rfl (kS rfl rfl (uM rfl (kS rfl rfl (uX (qCc hE) rfl ?_))))
 rintro _ _ ⟨rfl, rfl⟩
 simp only [uV, uW]
 refine kS rfl rfl (uX (qFd hE) rfl ?_)
 rintro _ _ ⟨rfl, rfl⟩
 simp only [uV, uW]
 refine kS rfl rfl (uB (qAx rfl (hE.t rfl)) ?_)
 refine uB (qY rfl rfl) ?_
 refine qL (qJ (zC rfl (zB (qJ (qK (qI (uM rfl (uX (qCc hE) rfl ?_))))))))
 rintro _ _ ⟨rfl, rfl⟩
 simp only [uV, uW]
 refine uX (qFd hE) rfl ?_
 rintro _ _ ⟨rfl, rfl⟩
 simp only [uV, uW]
 refine uA rfl (qL (qJ (qK (qK (qI (uA rfl (qL (qJ (zK ?_)))))))))
 refine qAe (fun q : PuG => [(0, uPt m), (1, .slice a l.length ca), (2, .int .i64 (w : Nat)), (8, .slice q.p q.ids.length q.c), (9, uPt s), (10, .int .i64 (q.ids.length : Nat))]) (fun q => [cells pp [uPt s, uPt tb] 106, tabP tb s (rls (Es ++ q.M)), zR s most (Es ++ q.M), cells m [uPt pp, .map (some bm)] 103, old, sl q.p q.c 39 2 q.ids.length (nlC (mkN l q.ids)), R]) (fun q => l.length - q.ids.length)
  (fun q => q.ids.length ≤ l.length ∧ q.M.length ≤ 120 * q.ids.length ∧ Txs (rls (Es ++ q.M)) l q.ids) ⟨[], [], none, 0⟩ ⟨Nat.zero_le _, Nat.zero_le _, fun i x id h1 h2 => by simp at h2⟩ ⟨rfl, rfl, rfl, rfl, rfl, rfl, trivial⟩ ?_ ?_
 ·rw [List.append_nil]
  have e0 : nlC (mkN l []) = [] := by simp [mkN, nlC]
  simp only [e0]
  apply kE (qCw (t := 39) (sz := 2))
  exact uI
 rintro ⟨ids, M, p, c⟩ ⟨hle, hM, htx⟩
 simp only at hle hM htx ⊢
 refine qK (qK (qI (uM rfl (uM rfl (uB (uBl rfl) ?_)))))
 refine uB (y_lt rfl rfl) ?_
 refine qL (qJ ?_)
 refine zD rfl (fun h => ?_) (fun h => ?_)
 ·have hkl : ids.length < l.length := by omega
  obtain ⟨x, hx⟩ : ∃ x, l[ids.length]? = some x := ⟨_, List.getElem?_eq_getElem hkl⟩
  have hxm := List.mem_of_getElem? hx
  have hxl := hlen x hxm
  have hbl := qGf x.bs
  obtain ⟨g, o, rfl, hq'⟩ := hq (zBl (by omega))
  have f0 := (qIh hx).1
  have f2 := (qIh hx).2
  have hb1 : (0 + (byC x.bs).length) * 1 ≤ 140737488355328 := by omega
  have hb2 : 0 + (byC x.bs).length ≤ maxLen := by unfold maxLen; omega
  have hEM : (Es ++ M).length = Es.length + M.length := List.length_append
  refine zB (qJ (qK (zK (qK (qI (uU ?_))))))
  refine qFn (hE.t rfl) (fun b39 => ?_)
  refine uM rfl (uM rfl (uB (uAi rfl rfl) ?_))
  refine uB (uBf rfl) ?_
  apply qA
  ·(apply zJ rfl (hE.t rfl) rfl (by assumption); (focus ((repeat constructor); done)); (first | ((focus exact f0); (focus omega)) | ((focus exact f1); (focus omega)) | ((focus assumption); (focus omega))))
  ·rfl
  refine uU ?_
  refine qIu (us := byC x.bs) (q := old) (hE.t rfl) (hE.t rfl) rfl rfl rfl hbl.symm (hok x hxm) uK uK (qBz _) hb1 hb2 (fun pt ct m1 x1 hm1 hx1 => ?_)
  obtain rfl : m1 = x.bs.length := by omega
  obtain rfl : x1 = byC x.bs := hx1
  refine qHx (p := sl pt ct 5 1 x.bs.length (byC x.bs)) uK (fun _ h => And.intro (fun hpos => qAn h hpos) (qGn h).1) ?_
  rintro ⟨hpt, hcap⟩
  have hqs : Rdb E.w0 pt (byC x.bs) (sl pt ct 5 1 x.bs.length (byC x.bs)) := qVn hbl hpt
  refine uA rfl (uA rfl (qL (qJ (qK (qI (uA rfl (qL (qJ ?_))))))))
  refine qEm (fun q : List Ent × Nat => [(0, uPt m), (1, .slice (some ⟨g, o, none⟩) l.length ca), (2, .int .i64 (w : Nat)), (8, .slice p ids.length c), (9, uPt s), (10, .int .i64 (ids.length : Nat)), (11, .int .i64 (q.2 : Nat)), (13, .nilIface)]) (fun q => [cells pp [uPt s, uPt tb] 106, tabP tb s (rls (Es ++ (M ++ q.1))), zR s most (Es ++ (M ++ q.1)), cells m [uPt pp, .map (some bm)] 103, old, sl p c 39 2 ids.length (nlC (mkN l ids)), R]) (fun q => q.1.length ≤ 120 ∧ q.2 ≤ (Es ++ (M ++ q.1)).length ∧ txt (rls (Es ++ (M ++ q.1))) q.2 = x.bs) ?_ ?_
  ·have hr1 : (Es ++ M).length + 2 * x.bs.length ≤ most := by omega
   have hq3 : x.bs ≠ [] → ∃ g o, pt = some ⟨g, o, none⟩ ∧ ∀ k, sl pt ct 5 1 x.bs.length (byC x.bs) k → RdAt E.w0 g o (byC x.bs) k := fun hne => hqs (qOi hne)
   refine qK (qI (uM rfl (uM rfl (uB (uAa rfl rfl) ?_))))
   refine uB (zAz rfl rfl (by omega) (by omega)) ?_
   refine qL (qJ (zK (qK (qI (uB (y_eq rfl rfl) ?_)))))
   refine uA rfl (qL (qJ ?_))
   refine zD rfl (fun w0 => ?_) (fun w0 => ?_)
   ·refine qI ?_
    refine uM rfl (uX (qCc hE) rfl ?_)
    rintro _ _ ⟨rfl, rfl⟩
    simp only [uV, uW]
    refine uM rfl ?_
    refine uX (zAp (Es := Es ++ M) (s := s) (most := most) (tb := tb) (pp := pp) (a := pt) (c := ct) (q := sl pt ct 5 1 x.bs.length (byC x.bs)) (bs := x.bs) hE hB hq3 (by omega) hr1) rfl ?_
    rintro _ _ ⟨N, id, rfl, hN, htt, hgd, -, rfl⟩
    simp only [uV, uW]
    rw [List.append_assoc] at htt hgd ⊢
    refine uM rfl (uB (qU rfl rfl) (uB (qU rfl rfl) (uA rfl (uA rfl (qL (zI ?_))))))
    refine qAp (ι := List Ent × Nat) (N, id) ⟨by simp only; omega, by have := hgd.1; rwa [zQ] at this, htt⟩ ⟨rfl, rfl, rfl, rfl, rfl, rfl, rfl, rfl, trivial⟩ ?_
    exact uI
   refine qK (qI (uB (y_eq rfl rfl) ?_))
   refine uA rfl (qL (qJ ?_))
   refine zD rfl (fun w1 => ?_) (fun w1 => ?_)
   ·refine qI ?_
    refine uM rfl (uM rfl ?_)
    refine uX (ct_bText (Es := Es ++ M) (s := s) (most := most) (a := pt) (c := ct) (q := sl pt ct 5 1 x.bs.length (byC x.bs)) (bs := x.bs) hE hqs (by omega) hcap hr1) rfl ?_
    rintro _ _ ⟨N, id, rfl, hN, hidl, htt, rfl⟩
    simp only [uV, uW]
    rw [List.append_assoc] at htt hidl ⊢
    refine qKu (kD (p := tabP tb s (rls (Es ++ M))) (p' := tabP tb s (rls (Es ++ (M ++ N)))) uK (fun _ h => by rw [← List.append_assoc, kG]; exact qGl _ h)) ?_
    refine uM rfl (uB (qU rfl rfl) (uB (qU rfl rfl) (uA rfl (uA rfl (qL (zI ?_))))))
    refine qAp (ι := List Ent × Nat) (N, id) ⟨by simp only; omega, hidl, htt⟩ ⟨rfl, rfl, rfl, rfl, rfl, rfl, rfl, rfl, trivial⟩ ?_
    exact uI
   refine qK (qI (uM rfl (uB (uBl rfl) ?_)))
   refine uB (uAs rfl rfl) ?_
   refine uA rfl (qL (qJ (zK ?_)))
   refine qAe (fun q : PkG => [(0, uPt m), (1, .slice (some ⟨g, o, none⟩) l.length ca), (2, .int .i64 (w : Nat)), (8, .slice p ids.length c), (9, uPt s), (10, .int .i64 (ids.length : Nat)), (11, .int .i64 (q.id : Nat)), (12, .slice pt x.bs.length ct), (13, .nilIface), (14, .int .i64 ((q.j : Nat) - 1 : Int))]) (fun q => [cells pp [uPt s, uPt tb] 106, tabP tb s (rls (Es ++ (M ++ q.N))), zR s most (Es ++ (M ++ q.N)), cells m [uPt pp, .map (some bm)] 103, old, sl p c 39 2 ids.length (nlC (mkN l ids)), sl pt ct 5 1 x.bs.length (byC x.bs), R]) (fun q => q.j)
    (fun q => q.j ≤ x.bs.length ∧ q.N.length ≤ 2 * (x.bs.length - q.j) ∧ q.id ≤ (Es ++ (M ++ q.N)).length ∧ txt (rls (Es ++ (M ++ q.N))) q.id = x.bs.drop q.j) ⟨x.bs.length, [], 0⟩ ⟨Nat.le_refl _, Nat.zero_le _, Nat.zero_le _, by simp only [List.drop_length]; exact qDz _⟩ ⟨rfl, rfl, rfl, rfl, rfl, rfl, rfl, rfl, rfl, rfl, trivial⟩ ?_ ?_
   ·rw [List.append_nil]
    exact uI
   rintro ⟨j, N, id⟩ ⟨hj, hN, hid, hti⟩
   simp only at hj hN hid hti ⊢
   have hEN : (Es ++ (M ++ N)).length = Es.length + (M.length + N.length) := by simp only [List.length_append]
   refine qK (qK (qI (uM rfl (uB (y_ge rfl rfl) ?_))))
   refine uM rfl ?_
   refine qAi 55 rfl (fun c1 => ?_) (fun c1 => ?_)
   ·obtain ⟨j, rfl⟩ : ∃ j', j = j' + 1 := ⟨j - 1, by omega⟩
    obtain ⟨b, hb⟩ : ∃ b, x.bs[j]? = some b := ⟨_, List.getElem?_eq_getElem (by omega)⟩
    obtain ⟨gt, rfl⟩ := hpt (by omega)
    have f5 : (byC x.bs)[j]? = some (.int .u8 (b.toNat : Nat)) := by unfold byC; rw [List.getElem?_map, hb]; rfl
    have hr2 : (Es ++ (M ++ N)).length < most := by omega
    refine kS rfl rfl (uM rfl (kS rfl rfl (uB (qMp rfl (hE.t rfl)) ?_)))
    refine uB (qX rfl rfl) ?_
    refine qL (qJ (zF rfl (zB (qJ (qK (zK (qK (qI (uM rfl (uM rfl (uM rfl (uB (uAj rfl rfl) ?_))))))))))))
    refine l_eq 65 (.pointer (some ⟨gt, j, none⟩)) rfl (by congr 3; omega) ?_
    refine uL ?_
    refine uX (qGx (s := s) (most := most) (Es := Es ++ (M ++ N)) hE b hr2) rfl ?_
    rintro _ _ ⟨N1, i1, rfl, hN1, hi1, hrl, rfl⟩
    simp only [uV, uW]
    have hi1l : i1 ≤ (Es ++ (M ++ N) ++ N1).length := by have := (List.getElem?_eq_some_iff.1 hrl).1; rw [zQ] at this; omega
    have ht1 : txt (rls (Es ++ (M ++ N) ++ N1)) i1 = [b] := by
     obtain ⟨i, rfl⟩ : ∃ i, i1 = i + 1 := ⟨i1 - 1, by omega⟩
     exact qAy hrl
    have ht2 : txt (rls (Es ++ (M ++ N) ++ N1)) id = x.bs.drop (j + 1) := by rw [kG (Es ++ (M ++ N)), qAz _ (by rw [zQ]; exact hid)]; exact hti
    have hE1 : (Es ++ (M ++ N) ++ N1).length = (Es ++ (M ++ N)).length + N1.length := List.length_append
    have hid1 : id ≤ (Es ++ (M ++ N) ++ N1).length := by omega
    have hls : len (rls (Es ++ (M ++ N) ++ N1)) i1 + len (rls (Es ++ (M ++ N) ++ N1)) id ≤ kH := by
     unfold len
     rw [ht1, ht2, List.length_drop]
     have hmx : kH = 1152921504606846976 := rfl
     simp only [List.length_cons, List.length_nil]
     omega
    have hr3 : (Es ++ (M ++ N) ++ N1).length < most := by omega
    refine uM rfl (uB (qU rfl rfl) (uB (qU rfl rfl) (uA rfl (uA rfl (qL (qJ (qK (qK (qI (uM rfl ?_))))))))))
    refine uB (qAd rfl (hE.t rfl)) ?_
    refine qL (qJ (zC rfl (zB (qJ (qI (uM rfl (uM rfl (uM rfl ?_))))))))
    refine uX (ct_pairA (s := s) (most := most) (Es := Es ++ (M ++ N) ++ N1) (i := i1) (j := id) hE ⟨hi1, hi1l⟩ hid1 hls hr3) rfl ?_
    rintro _ _ ⟨N2, id2, rfl, hN2, hid2, htt2, rfl⟩
    simp only [uV, uW]
    have ea : Es ++ (M ++ N) ++ N1 ++ N2 = Es ++ (M ++ (N ++ (N1 ++ N2))) := by simp only [List.append_assoc]
    rw [ht1, ht2] at htt2
    rw [ea] at hid2 htt2 ⊢
    refine qKu (kD (p := tabP tb s (rls (Es ++ (M ++ N)))) (p' := tabP tb s (rls (Es ++ (M ++ (N ++ (N1 ++ N2)))))) uK (fun _ h => by rw [← ea, List.append_assoc (Es ++ (M ++ N)), kG (Es ++ (M ++ N))]; exact qGl _ h)) ?_
    refine uM rfl (uB (qU rfl rfl) (uB (qU rfl rfl) (uA rfl (uA rfl (qL (zI (qJ (qI (uM rfl (uB (uAs rfl rfl) ?_))))))))))
    refine uA rfl (qL ?_)
    refine zS (ι := PkG) (j := ⟨j, N ++ (N1 ++ N2), id2⟩) ⟨by simp only; omega, by simp only [List.length_append]; omega, hid2, by simp only; rw [htt2, qGm hb]; rfl⟩ (by simp only; omega) ⟨rfl, rfl, rfl, rfl, rfl, rfl, rfl, rfl, rfl, congrArg some (zW (by simp only; omega)), trivial⟩ ?_
    exact uI
   obtain rfl : j = 0 := by omega
   refine zT rfl rfl rfl rfl (zT rfl rfl rfl rfl ?_)
   refine uB (qY rfl rfl) ?_
   refine qL (qJ (zC rfl (kK (qP (qP (zH (zI ?_)))))))
   refine qAp (ι := List Ent × Nat) (N, id) ⟨by simp only; omega, hid, by simpa using hti⟩ ⟨rfl, rfl, rfl, rfl, rfl, rfl, rfl, rfl, trivial⟩ ?_
   exact uI
  rintro ⟨N, id⟩ ⟨hN, hid, hti⟩
  simp only at hN hid hti ⊢
  refine qK (qK (qI (uM rfl (uB (qAd rfl (hE.t rfl)) ?_))))
  refine qL (qJ (zC rfl (zB (qJ (qI (uM rfl (uM rfl (uM rfl (uB (uAi rfl rfl) ?_)))))))))
  refine uB (uBf rfl) ?_
  apply qA
  ·(apply zJ rfl (hE.t rfl) rfl (by assumption); (focus ((repeat constructor); done)); (first | ((focus exact f0); (focus omega)) | ((focus exact f1); (focus omega)) | ((focus assumption); (focus omega))))
  ·rfl
  refine uM rfl (uB (qAh (hE.t rfl) rfl rfl) ?_)
  refine uU ?_
  refine qV (hE.t rfl) (hE.t rfl) rfl rfl rfl (fun b106 => ?_)
  refine uU ?_
  apply zU (hE.t rfl) (hE.t rfl) rfl rfl rfl
  ·exact uK
  ·exact uK
  ·rfl
  ·rfl
  ·omega
  ·omega
  ·(unfold maxLen; omega)
  intro g107 c107 n107 x107 hn107 hx107
  refine uA rfl (qL (zI (qJ (qI (uM rfl (uB (uAa rfl rfl) ?_))))))
  refine uA rfl (qL ?_)
  have hil : (ids ++ [id]).length = ids.length + 1 := by simp
  obtain rfl : x107 = nlC (mkN l (ids ++ [id])) := by rw [hx107, mkN_snoc hx]; rfl
  subst hn107
  refine zS (ι := PuG) (j := ⟨ids ++ [id], M ++ N, some ⟨g107, 0, none⟩, c107⟩) ⟨by simp only; omega, by simp only [List.length_append, List.length_singleton]; omega, ?_⟩ (by simp only; omega) ⟨rfl, rfl, rfl, by simp only [hil]; rfl, rfl, by simp only [hil]; exact congrArg some (zW (by omega)), trivial⟩ ?_
  ·simp only
   refine Txs.snoc ?_ hx (by rw [zQ]; exact hid) hti
   rw [← List.append_assoc, kG]
   exact htx.ext _
  simp only [hil]
  exact uI
 have he : ids.length = l.length := by omega
 refine kK (qP (qP (zH (qJ (qK (qI (uM rfl (uA rfl (uA rfl (qL (qJ (zZ ?_))))))))))))
 apply kC
 ·rfl
 ·(apply Rs.tmp rfl; apply Rs.tmp rfl; exact Rs.nil)
 ·exact ⟨M, ids, p, c, by rw [he]; rfl, by omega, he, htx, rfl⟩
 rw [he]
 exact uI
end
end Go.Proofs.YtkkjjablmmmmkaaGreatDoor
