import Derived.Test.YtkkjjablmmmmkaaGreatDoorQ65
set_option linter.all false
namespace Sl
open Go Go.RowKit
variable {E : Env} {n : Nat} {L : Fr} {S H : List HP} {Q : Exit → Act → World → Prop}
theorem qEr {ops : List Oper} {S : List HP} {fuel : Nat} {listed : Array Bool} (i : Nat) {d : Option Nat} {op : Op} {ty : TypeId} {pos : String} {af : Array Edge} {j t : Nat} {b : Bool} (hi : ops[i]? = some ⟨d, op, ty, pos, af, some (j, b)⟩)
  (hj : (ops[j]?).bind (·.dst) = some t) (hl : look L t = some undef) (hQ : Calm Q) (hf : (Region.noSelect ops.toArray && (Region.free .any ops.toArray listed i && (Region.ready .any ops.toArray listed).contains i)) = true) (hd : inB n d = true)
  (k : WPD E ops S Q fuel (listed.setIfInBounds i true) n (putL d undef L) H) : WPD E ops S Q (fuel + 1) listed n L H := fun hS a w g => by
 simp only [Bool.and_eq_true] at hf
 have hj' : (ops.toArray[j]?).bind (·.dst) = some t := by simpa using hj
 have hyl : yielded ops.toArray a.tmps j = none := by
  simp only [yielded, hj', Option.bind_some, g.f.fr t _ hl]
  rfl
 exact wpAnyH_take (qAh hi) hf.1 hf.2.1 hf.2.2 (fun c a w h => hQ c a w d undef h) (.inr ⟨by simp [Region.wanted, hyl], rfl⟩) (g.hp.imp hS) (k hS _ _ ⟨g.f.put d undef hd, g.hp⟩)
theorem qYp {ops : List Oper} {S : List HP} {fuel : Nat} {listed : Array Bool} (t : Nat) {b : Bool} (hl : look L t = some (.bool b)) (h1 : b = true → WPD E ops S Q fuel listed n ((t, .bool true) :: L) H) (h2 : b = false → WPD E ops S Q fuel listed n ((t, .bool false) :: L) H) : WPD E ops S Q fuel listed n L H :=
 qNh (p := b = true) t (by simpa using hl) h1 (fun h => h2 (by simpa using h))
end Sl
namespace Go.Proofs.YtkkjjablmmmmkaaGreatDoor
open Go Go.RowKit Sl Eg
set_option maxRecDepth 10000
section
variable {E : Env}
structure Im where
 name : List UInt8
 a : Option Addr
 bs : List UInt8
 c : Nat
def imC : List Im → List Value
 | [] => []
 | x :: l => .string ⟨⟨x.name⟩⟩ :: .slice x.a x.bs.length x.c :: imC l
theorem qLr : ∀ l : List Im, (imC l).length = l.length * 2
 | [] => rfl
 | p :: l => by simp only [imC, List.length_cons, qLr l]; omega
theorem qJs : ∀ {l : List Im} {i : Nat} {x : Im}, l[i]? = some x → (imC l)[i * 2]? = some (.string ⟨⟨x.name⟩⟩) ∧ (imC l)[i * 2 + 1]? = some (.slice x.a x.bs.length x.c)
 | p :: l, 0, q, h => by simp at h; subst h; exact ⟨rfl, rfl⟩
 | p :: l, i + 1, q, h => by
  have := qJs (l := l) (i := i) (x := q) (by simpa using h)
  rw [show (i + 1) * 2 = i * 2 + 1 + 1 by omega]
  exact this
theorem qZd {l : List Im} (h : 0 < l.length) : imC l ≠ [] := fun e => by
 have := qLr l
 rw [e] at this
 simp at this
 omega
def ImOrd (l : List Im) (n : Nat) : Prop := ∀ (i : Nat) (x y : Im), i + 1 < n → l[i]? = some x → l[i + 1]? = some y → Op.bytesLess x.name y.name = true
def GoodI (l : List Im) : Prop := (∀ x ∈ l, ValidN x.name ∧ x.bs.length ≤ 60) ∧ ImOrd l l.length ∧ l.length ≤ 6
theorem ct_good (hE : Seat E) {l : List Im} {a : Option Addr} {c : Nat} {q : HP} (hq : Rdb E.w0 a (imC l) q) (hn : l.length ≤ maxLen) :
  Ct E 20 [.slice a l.length c] [q] (fun v Q => ∃ b : Bool, v = .bool b ∧ (b = true ↔ GoodI l) ∧ Q = [q]) := by
 have hmx : maxLen = 9223372036854775807 := rfl
 refine zQ (hE.fn Tryz.func20) rfl rfl rfl (fun R => ?_)
 simp only [qAa, uV, uW]
 refine qK (qI (uA rfl (qL (qJ (qK (qK (qI (uA rfl (qL (qJ (zM ?_)))))))))))
 refine qAc (fun k : Nat => [(0, .slice a l.length c), (3, .int .i64 (k : Nat))]) (fun k => [q, R]) (fun k => l.length - k) (fun k => k ≤ l.length ∧ (∀ j x, j < k → l[j]? = some x → ValidN x.name ∧ x.bs.length ≤ 60) ∧ ImOrd l k) 0 ⟨Nat.zero_le _, fun j x h => by omega, fun i x y h => by omega⟩ ⟨rfl, rfl, trivial⟩ uI ?_
 rintro k ⟨hk, hall, hord⟩
 refine qK (qK (qI (uM rfl (uM rfl (uB (uBl rfl) ?_)))))
 refine uB (y_lt rfl rfl) ?_
 refine qL (qJ ?_)
 refine zG rfl (fun h => ?_) (fun h => ?_)
 ·have hkl : k < l.length := by omega
  obtain ⟨x, hx⟩ : ∃ x, l[k]? = some x := ⟨_, List.getElem?_eq_getElem hkl⟩
  have hxm := List.mem_of_getElem? hx
  obtain ⟨g, o, rfl, hq'⟩ := hq (qZd (by omega))
  have f0 := (qJs hx).1
  have f2 := (qJs hx).2
  refine zD (qJ (qK (zM (qK ?_))))
  refine uH ([q]) ?_
  refine uD 0 rfl (qB rfl) ?_
  refine uD 1 rfl (qB rfl) ?_
  refine uD 2 rfl (uAi rfl rfl) ?_
  refine uD 3 rfl (uBf rfl) ?_
  apply zI 4 rfl
  ·(apply zL rfl (hE.t rfl) rfl (by assumption); (focus ((repeat constructor); done)); (first | ((focus exact f0); (focus omega)) | ((focus exact f1); (focus omega)) | ((focus assumption); (focus omega))))
  ·with_reducible (repeat (first | exact qE | apply qF | apply qG))
  ·kernel_rfl
  ·rfl
  apply kP 5 rfl (by kernel_rfl) rfl
  refine uC (qRc (bs := x.name) hE) rfl ?_
  rintro _ _ ⟨rfl, rfl⟩
  simp only [uV, uW]
  refine uE ?_
  refine uD 6 rfl (qBn rfl) ?_
  refine uD 7 rfl (qB rfl) ?_
  refine qYp 17 rfl (fun v1 => ?_) (fun v1 => ?_)
  ·have v1' : ¬ ValidN x.name := by simpa using v1
   refine uR 8 rfl rfl rfl rfl ?_
   refine uR 9 rfl rfl rfl rfl ?_
   refine uR 10 rfl rfl rfl rfl ?_
   refine qEr 11 rfl rfl rfl (by with_reducible (repeat (first | exact qE | apply qF | apply qG))) (by kernel_rfl) rfl ?_
   refine qEr 12 rfl rfl rfl (by with_reducible (repeat (first | exact qE | apply qF | apply qG))) (by kernel_rfl) rfl ?_
   refine qEr 13 rfl rfl rfl (by with_reducible (repeat (first | exact qE | apply qF | apply qG))) (by kernel_rfl) rfl ?_
   refine qEr 14 rfl rfl rfl (by with_reducible (repeat (first | exact qE | apply qF | apply qG))) (by kernel_rfl) rfl ?_
   refine qEr 15 rfl rfl rfl (by with_reducible (repeat (first | exact qE | apply qF | apply qG))) (by kernel_rfl) rfl ?_
   refine qEr 16 rfl rfl rfl (by with_reducible (repeat (first | exact qE | apply qF | apply qG))) (by kernel_rfl) rfl ?_
   refine qEr 17 rfl rfl rfl (by with_reducible (repeat (first | exact qE | apply qF | apply qG))) (by kernel_rfl) rfl ?_
   refine qEr 18 rfl rfl rfl (by with_reducible (repeat (first | exact qE | apply qF | apply qG))) (by kernel_rfl) rfl ?_
   refine qEr 19 rfl rfl rfl (by with_reducible (repeat (first | exact qE | apply qF | apply qG))) (by kernel_rfl) rfl ?_
   refine qEr 20 rfl rfl rfl (by with_reducible (repeat (first | exact qE | apply qF | apply qG))) (by kernel_rfl) rfl ?_
   refine qEr 21 rfl rfl rfl (by with_reducible (repeat (first | exact qE | apply qF | apply qG))) (by kernel_rfl) rfl ?_
   refine qEr 22 rfl rfl rfl (by with_reducible (repeat (first | exact qE | apply qF | apply qG))) (by kernel_rfl) rfl ?_
   refine uR 23 rfl rfl rfl rfl ?_
   refine uD 24 rfl (qX rfl rfl) ?_
   refine uD 25 rfl (qB rfl) ?_
   refine uR 26 rfl rfl rfl rfl ?_
   refine uR 27 rfl rfl rfl rfl ?_
   refine uR 28 rfl rfl rfl rfl ?_
   refine uR 29 rfl rfl rfl rfl ?_
   refine uR 30 rfl rfl rfl rfl ?_
   refine uR 31 rfl rfl rfl rfl ?_
   refine uR 32 rfl rfl rfl rfl ?_
   refine uD 33 rfl (qX rfl rfl) ?_
   refine qCz (by kernel_rfl) ?_
   refine qJ (zH rfl (qK (qI (uA rfl (qL (qJ (kD (zP (qW (qW (zP (qW ?_))))))))))))
   exact uZ rfl (.tmp rfl .nil) ⟨false, rfl, ⟨fun h => Bool.noConfusion h, fun hg => (v1' (hg.1 x hxm).1).elim⟩, rfl⟩
  have v1' : ValidN x.name := by simpa using v1
  refine uO 8 rfl rfl rfl (qB rfl) ?_
  refine uO 9 rfl rfl rfl (y_gt rfl rfl) ?_
  refine uO 10 rfl rfl rfl (qB rfl) ?_
  refine qNh 20 rfl (fun v2 => ?_) (fun v2 => ?_)
  ·obtain ⟨k, rfl⟩ : ∃ k', k = k' + 1 := ⟨k - 1, by omega⟩
   obtain ⟨y0, hy0⟩ : ∃ y, l[k]? = some y := ⟨_, List.getElem?_eq_getElem (by omega)⟩
   have f1 := (qJs hy0).1
   have f3 := f2
   refine uO 11 rfl rfl rfl (qB rfl) ?_
   refine uO 12 rfl rfl rfl (qB rfl) ?_
   refine uO 13 rfl rfl rfl (uAs rfl rfl) ?_
   refine uO 14 rfl rfl rfl (uAi rfl rfl) ?_
   refine uO 15 rfl rfl rfl (uBf rfl) ?_
   apply d_on 16 rfl rfl rfl
   ·(apply zL rfl (hE.t rfl) rfl (by assumption); (focus ((repeat constructor); done)); (first | ((focus exact f0); (focus omega)) | ((focus exact f1); (focus omega)) | ((focus assumption); (focus omega))))
   ·with_reducible (repeat (first | exact qE | apply qF | apply qG))
   ·kernel_rfl
   ·rfl
   refine uO 17 rfl rfl rfl (qB rfl) ?_
   refine uO 18 rfl rfl rfl (qB rfl) ?_
   refine uO 19 rfl rfl rfl (uAi rfl rfl) ?_
   refine uO 20 rfl rfl rfl (uBf rfl) ?_
   apply d_on 21 rfl rfl rfl
   ·(apply zL rfl (hE.t rfl) rfl (by assumption); (focus ((repeat constructor); done)); (first | ((focus exact f0); (focus omega)) | ((focus exact f1); (focus omega)) | ((focus assumption); (focus omega))))
   ·with_reducible (repeat (first | exact qE | apply qF | apply qG))
   ·kernel_rfl
   ·rfl
   refine uO 22 rfl rfl rfl (y_ge_str rfl rfl) ?_
   refine uO 23 rfl rfl rfl (qX rfl rfl) ?_
   refine uD 24 rfl (qY rfl rfl) ?_
   refine uD 25 rfl (qB rfl) ?_
   refine qYp 35 rfl (fun v3 => ?_) (fun v3 => ?_)
   ·have v3' : ¬ Op.bytesLess y0.name x.name = true := by simpa using v3
    refine uR 26 rfl rfl rfl rfl ?_
    refine uR 27 rfl rfl rfl rfl ?_
    refine uR 28 rfl rfl rfl rfl ?_
    refine uR 29 rfl rfl rfl rfl ?_
    refine uR 30 rfl rfl rfl rfl ?_
    refine uR 31 rfl rfl rfl rfl ?_
    refine uR 32 rfl rfl rfl rfl ?_
    refine uD 33 rfl (qX rfl rfl) ?_
    refine qCz (by kernel_rfl) ?_
    refine qJ (zH rfl (qK (qI (uA rfl (qL (qJ (kD (zP (qW (qW (zP (qW ?_))))))))))))
    exact uZ rfl (.tmp rfl .nil) ⟨false, rfl, ⟨fun h => Bool.noConfusion h, fun hg => (v3' (hg.2.1 k y0 x hkl hy0 hx)).elim⟩, rfl⟩
   have v3' : Op.bytesLess y0.name x.name = true := by simpa using v3
   refine uO 26 rfl rfl rfl (qB rfl) ?_
   refine uO 27 rfl rfl rfl (qB rfl) ?_
   refine uO 28 rfl rfl rfl (uAi rfl rfl) ?_
   refine uO 29 rfl rfl rfl (uBf rfl) ?_
   apply d_on 30 rfl rfl rfl
   ·(apply zL rfl (hE.t rfl) rfl (by assumption); (focus ((repeat constructor); done)); (first | ((focus exact f0); (focus omega)) | ((focus exact f1); (focus omega)) | ((focus assumption); (focus omega))))
   ·with_reducible (repeat (first | exact qE | apply qF | apply qG))
   ·kernel_rfl
   ·rfl
   refine uO 31 rfl rfl rfl (uBl rfl) ?_
   refine uO 32 rfl rfl rfl (y_gt rfl rfl) ?_
   refine uD 33 rfl (qY rfl rfl) ?_
   refine qCz (by kernel_rfl) ?_
   refine qJ ?_
   refine zG rfl (fun v4 => ?_) (fun v4 => ?_)
   ·have v4' : ¬ x.bs.length ≤ 60 := by omega
    refine qK (qI (uA rfl (qL (qJ (kD (zP (qW (qW (zP (qW ?_))))))))))
    exact uZ rfl (.tmp rfl .nil) ⟨false, rfl, ⟨fun h => Bool.noConfusion h, fun hg => (v4' (hg.1 x hxm).2).elim⟩, rfl⟩
   have hor : ImOrd l (k + 1 + 1) := fun i u w hi hu hw => by
    rcases Nat.lt_or_ge (i + 1) (k + 1) with h' | h'
    ·exact hord i u w h' hu hw
    obtain rfl : i = k := by omega
    rw [hy0] at hu
    rw [hx] at hw
    cases hu
    cases hw
    exact v3'
   refine zD (zK (qJ (qI (uM rfl (uB (uAa rfl rfl) ?_)))))
   refine uA rfl (qL ?_)
   refine zU (ι := Nat) (j := k + 1 + 1) ⟨by omega, fun j y hj hy => ?_, hor⟩ (by omega) ⟨rfl, congrArg some (zY (by omega)), trivial⟩ uI
   rcases Nat.lt_or_ge j (k + 1) with h' | h'
   ·exact hall j y h' hy
   obtain rfl : j = k + 1 := by omega
   rw [hx] at hy
   cases hy
   exact ⟨v1', by omega⟩
  obtain rfl : k = 0 := by omega
  refine uR 11 rfl rfl rfl rfl ?_
  refine uR 12 rfl rfl rfl rfl ?_
  refine uR 13 rfl rfl rfl rfl ?_
  refine uR 14 rfl rfl rfl rfl ?_
  refine uR 15 rfl rfl rfl rfl ?_
  refine uR 16 rfl rfl rfl rfl ?_
  refine uR 17 rfl rfl rfl rfl ?_
  refine uR 18 rfl rfl rfl rfl ?_
  refine uR 19 rfl rfl rfl rfl ?_
  refine uR 20 rfl rfl rfl rfl ?_
  refine uR 21 rfl rfl rfl rfl ?_
  refine uR 22 rfl rfl rfl rfl ?_
  refine uO 23 rfl rfl rfl (qY rfl rfl) ?_
  refine uD 24 rfl (qY rfl rfl) ?_
  refine uD 25 rfl (qB rfl) ?_
  refine uO 26 rfl rfl rfl (qB rfl) ?_
  refine uO 27 rfl rfl rfl (qB rfl) ?_
  refine uO 28 rfl rfl rfl (uAi rfl rfl) ?_
  refine uO 29 rfl rfl rfl (uBf rfl) ?_
  apply d_on 30 rfl rfl rfl
  ·(apply zL rfl (hE.t rfl) rfl (by assumption); (focus ((repeat constructor); done)); (first | ((focus exact f0); (focus omega)) | ((focus exact f1); (focus omega)) | ((focus assumption); (focus omega))))
  ·with_reducible (repeat (first | exact qE | apply qF | apply qG))
  ·kernel_rfl
  ·rfl
  refine uO 31 rfl rfl rfl (uBl rfl) ?_
  refine uO 32 rfl rfl rfl (y_gt rfl rfl) ?_
  refine uD 33 rfl (qY rfl rfl) ?_
  refine qCz (by kernel_rfl) ?_
  refine qJ ?_
  refine zG rfl (fun v4 => ?_) (fun v4 => ?_)
  ·have v4' : ¬ x.bs.length ≤ 60 := by omega
   refine qK (qI (uA rfl (qL (qJ (kD (zP (qW (qW (zP (qW ?_))))))))))
   exact uZ rfl (.tmp rfl .nil) ⟨false, rfl, ⟨fun h => Bool.noConfusion h, fun hg => (v4' (hg.1 x hxm).2).elim⟩, rfl⟩
  refine zD (zK (qJ (qI ?_)))
  refine uM rfl (uB (uAa rfl rfl) ?_)
  refine uA rfl (qL ?_)
  refine zU (ι := Nat) (j := 1) ⟨by omega, fun j y hj hy => ?_, fun i u w hi => by omega⟩ (by omega) ⟨rfl, congrArg some (zY (by omega)), trivial⟩ uI
  obtain rfl : j = 0 := by omega
  rw [hx] at hy
  cases hy
  exact ⟨v1', by omega⟩
 obtain rfl : k = l.length := by omega
 refine kM (qP (qP (zJ (qJ (qK (qI (uM rfl (uB (uBl rfl) ?_))))))))
 refine uB (y_le rfl rfl) ?_
 refine uA rfl (qL (qJ (kD ?_)))
 apply kE
 ·rfl
 ·(apply Rs.tmp rfl; exact Rs.nil)
 ·refine ⟨_, rfl, ?_, rfl⟩
  rw [decide_eq_true_eq]
  constructor
  ·intro h6
   refine ⟨fun x hx => ?_, hord, by omega⟩
   obtain ⟨j, hj⟩ := List.getElem?_of_mem hx
   exact hall j x (List.getElem?_eq_some_iff.1 hj).1 hj
  intro hg
  have := hg.2.2
  omega
 exact uI
end
section
variable {E : Env} {Es : List Ent} {pp tb s most m bm : Nat}
theorem rdb_sl {w0 : World} {p : Option Addr} {c n : Nat} {t : TypeId} {vs : List Value} (hn : vs.length = n) (h : 0 < n → ∃ g, p = some ⟨g, 0, none⟩) : Rdb w0 p vs (sl p c t 1 n vs) := fun hne => by
 obtain ⟨g, rfl⟩ := h (by
  rcases Nat.eq_zero_or_pos n with e | e
  ·exact absurd (List.eq_nil_of_length_eq_zero (by omega)) hne
  exact e)
 exact ⟨g, 0, rfl, qUa (fun _ _ h => h)⟩
theorem qOv {bs : List UInt8} (h : bs ≠ []) : byC bs ≠ [] := fun e => h (by
 have := qMy bs
 rw [e] at this
 exact List.eq_nil_of_length_eq_zero this.symm)
def mkN (l : List Im) (ids : List Nat) : List (List UInt8 × Int) := (l.zip ids).map fun p => (p.1.name, (p.2 : Int))
theorem qGa : ∀ (a b : List (List UInt8 × Int)), nlC (a ++ b) = nlC a ++ nlC b
 | [], b => rfl
 | p :: a, b => by simp [nlC, qGa a b]
def Txs (L : List Rl) (l : List Im) (ids : List Nat) : Prop := ∀ (i : Nat) (x : Im) (id : Nat), l[i]? = some x → ids[i]? = some id → id ≤ L.length ∧ txt L id = x.bs
end
end Go.Proofs.YtkkjjablmmmmkaaGreatDoor
