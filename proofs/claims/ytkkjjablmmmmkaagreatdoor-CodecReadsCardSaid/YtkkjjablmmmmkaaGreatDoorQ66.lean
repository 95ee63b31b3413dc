/- Package evergreenlaw50: good. -/
import Derived.Test.YtkkjjablmmmmkaaGreatDoorQ02
import Derived.Test.YtkkjjablmmmmkaaGreatDoorQ65
set_option linter.unusedVariables false
set_option linter.unusedSimpArgs false
namespace Sl
open Go Go.RowKit
variable {E : Env} {n : Nat} {L : Fr} {S H : List HP} {Q : Exit → Act → World → Prop}
theorem qEr {ops : List Oper} {S : List HP} {fuel : Nat} {listed : Array Bool} (i : Nat) {d : Option Nat} {op : Op} {ty : TypeId} {pos : String} {af : Array Edge} {j t : Nat} {b : Bool} (hi : ops[i]? = some ⟨d, op, ty, pos, af, some (j, b)⟩)
  (hj : (ops[j]?).bind (·.dst) = some t) (hl : look L t = some undef) (hQ : Calm Q) (hf : (Region.noSelect ops.toArray && (Region.free .any ops.toArray listed i && (Region.ready .any ops.toArray listed).contains i)) = true) (hd : inB n d = true)
  (k : WPD E ops S Q fuel (listed.setIfInBounds i true) n (putL d undef L) H) : WPD E ops S Q (fuel + 1) listed n L H := fun hS a w g => by
 simp only [Bool.and_eq_true] at hf
 have hj' : (ops.toArray[j]?).bind (·.dst) = some t := by simpa using hj
 have hyl : yielded ops.toArray a.tmps j = none := by
  simp only [yielded, hj', Option.bind_some, g.f.fr t _ hl]
  rfl
 exact wpAnyH_take (qAh hi) hf.1 hf.2.1 hf.2.2 (fun c a w h => hQ c a w d undef h) (.inr ⟨by simp [Region.wanted, hyl], rfl⟩) (g.hp.imp hS) (k hS _ _ ⟨g.f.put d undef hd, g.hp⟩)
theorem qWy {ops : List Oper} {S : List HP} {fuel : Nat} {listed : Array Bool} (t : Nat) {b : Bool} (hl : look L t = some (.bool b)) (h1 : b = true → WPD E ops S Q fuel listed n ((t, .bool true) :: L) H) (h2 : b = false → WPD E ops S Q fuel listed n ((t, .bool false) :: L) H) : WPD E ops S Q fuel listed n L H :=
 qNa (p := b = true) t (by simpa using hl) h1 (fun h => h2 (by simpa using h))
end Sl
namespace Go.Proofs.YtkkjjablmmmmkaaGreatDoor
section
open Go Go.RowKit Sl Eg
set_option maxRecDepth 10000
variable {E : Env}
structure Im where
 name : List UInt8
 a : Option Addr
 bs : List UInt8
 c : Nat
def imC : List Im → List Value
 | [] => []
 | x :: l => .string ⟨⟨x.name⟩⟩ :: .slice x.a x.bs.length x.c :: imC l
theorem qKo : ∀ l : List Im, (imC l).length = l.length * 2
 | [] => rfl
 | p :: l => by simp only [imC, List.length_cons, qKo l]; omega
theorem qJj : ∀ {l : List Im} {i : Nat} {x : Im}, l[i]? = some x → (imC l)[i * 2]? = some (.string ⟨⟨x.name⟩⟩) ∧ (imC l)[i * 2 + 1]? = some (.slice x.a x.bs.length x.c)
 | p :: l, 0, q, h => by simp at h; subst h; exact ⟨rfl, rfl⟩
 | p :: l, i + 1, q, h => by
  have := qJj (l := l) (i := i) (x := q) (by simpa using h)
  rw [show (i + 1) * 2 = i * 2 + 1 + 1 by omega]
  exact this
theorem qXb {l : List Im} (h : 0 < l.length) : imC l ≠ [] := fun e => by
 have := qKo l
 rw [e] at this
 simp at this
 omega
def ImOrd (l : List Im) (n : Nat) : Prop := ∀ (i : Nat) (x y : Im), i + 1 < n → l[i]? = some x → l[i + 1]? = some y → Op.bytesLess x.name y.name = true
def GoodI (l : List Im) : Prop := (∀ x ∈ l, ValidN x.name ∧ x.bs.length ≤ 60) ∧ ImOrd l l.length ∧ l.length ≤ 6
theorem ct_good (hE : Seat E) {l : List Im} {a : Option Addr} {c : Nat} {q : HP} (hq : Rdb E.w0 a (imC l) q) (hn : l.length ≤ maxLen) :
  Ct E 20 [.slice a l.length c] [q] (fun v Q => ∃ b : Bool, v = .bool b ∧ (b = true ↔ GoodI l) ∧ Q = [q]) := by
 have hmx : maxLen = 9223372036854775807 := rfl
 refine zN (hE.fn Tryz.func20) rfl rfl rfl (fun R => ?_)
 simp only [qAe, List.cons_append, List.nil_append]
 refine qK (qI (uA rfl (qL (qJ (qK (qK (qI (uA rfl (qL (qJ (zJ ?_)))))))))))
 refine qAl (fun k : Nat => [(0, .slice a l.length c), (3, .int .i64 (k : Nat))]) (fun k => [q, R]) (fun k => l.length - k) (fun k => k ≤ l.length ∧ (∀ j x, j < k → l[j]? = some x → ValidN x.name ∧ x.bs.length ≤ 60) ∧ ImOrd l k) 0 ⟨Nat.zero_le _, fun j x h => by omega, fun i x y h => by omega⟩ ⟨rfl, rfl, trivial⟩ (by (apply ent; (repeat constructor); done)) ?_
 rintro k ⟨hk, hall, hord⟩
 refine qK (qK (qI (uM rfl (uM rfl (qA (qQ rfl (hE.t rfl)) rfl ?_)))))
 refine qA (y_lt rfl rfl) rfl ?_
 refine qL (qJ ?_)
 refine zD rfl (fun h => ?_) (fun h => ?_)
 ·have hkl : k < l.length := by omega
  obtain ⟨x, hx⟩ : ∃ x, l[k]? = some x := ⟨_, List.getElem?_eq_getElem hkl⟩
  have hxm := List.mem_of_getElem? hx
  obtain ⟨g, o, rfl, hq'⟩ := hq (qXb (by omega))
  have f0 := (qJj hx).1
  have f2 := (qJj hx).2
  refine zB (qJ (qK (zJ (qK ?_))))
  refine uH ([q]) ?_
  refine uD 0 rfl (qB rfl) ?_
  refine uD 1 rfl (qB rfl) ?_
  refine uD 2 rfl (qO rfl rfl (hE.t rfl) (by omega) (by omega)) ?_
  refine uD 3 rfl (qD rfl (hE.t rfl) rfl) ?_
  apply zF 4 rfl
  ·(apply zI rfl (hE.t rfl) rfl (by assumption); (focus ((repeat constructor); done)); (first | ((focus exact f0); (focus omega)) | ((focus exact f1); (focus omega)) | ((focus assumption); (focus omega))))
  ·with_reducible (repeat (first | exact qE | apply qF | apply qG))
  ·kernel_rfl
  ·rfl
  apply kJ 5 rfl (by kernel_rfl) rfl
  refine uC (qRe (bs := x.name) hE) rfl ?_
  rintro _ _ ⟨rfl, rfl⟩
  simp only [List.cons_append, List.nil_append]
  refine uE ?_
  refine uD 6 rfl (qEp rfl) ?_
  refine uD 7 rfl (qB rfl) ?_
  refine qWy 17 rfl (fun v1 => ?_) (fun v1 => ?_)
  ·have v1' : ¬ ValidN x.name := by simpa using v1
   refine qBs 8 rfl rfl rfl rfl (by with_reducible (repeat (first | exact qE | apply qF | apply qG))) (by kernel_rfl) rfl ?_
   refine qBs 9 rfl rfl rfl rfl (by with_reducible (repeat (first | exact qE | apply qF | apply qG))) (by kernel_rfl) rfl ?_
   refine qBs 10 rfl rfl rfl rfl (by with_reducible (repeat (first | exact qE | apply qF | apply qG))) (by kernel_rfl) rfl ?_
   refine qEr 11 rfl rfl rfl (by with_reducible (repeat (first | exact qE | apply qF | apply qG))) (by kernel_rfl) rfl ?_
   refine qEr 12 rfl rfl rfl (by with_reducible (repeat (first | exact qE | apply qF | apply qG))) (by kernel_rfl) rfl ?_
   refine qEr 13 rfl rfl rfl (by with_reducible (repeat (first | exact qE | apply qF | apply qG))) (by kernel_rfl) rfl ?_
   refine qEr 14 rfl rfl rfl (by with_reducible (repeat (first | exact qE | apply qF | apply qG))) (by kernel_rfl) rfl ?_
   refine qEr 15 rfl rfl rfl (by with_reducible (repeat (first | exact qE | apply qF | apply qG))) (by kernel_rfl) rfl ?_
   refine qEr 16 rfl rfl rfl (by with_reducible (repeat (first | exact qE | apply qF | apply qG))) (by kernel_rfl) rfl ?_
   refine qEr 17 rfl rfl rfl (by with_reducible (repeat (first | exact qE | apply qF | apply qG))) (by kernel_rfl) rfl ?_
   refine qEr 18 rfl rfl rfl (by with_reducible (repeat (first | exact qE | apply qF | apply qG))) (by kernel_rfl) rfl ?_
   refine qEr 19 rfl rfl rfl (by with_reducible (repeat (first | exact qE | apply qF | apply qG))) (by kernel_rfl) rfl ?_
   refine qEr 20 rfl rfl rfl (by with_reducible (repeat (first | exact qE | apply qF | apply qG))) (by kernel_rfl) rfl ?_
   refine qEr 21 rfl rfl rfl (by with_reducible (repeat (first | exact qE | apply qF | apply qG))) (by kernel_rfl) rfl ?_
   refine qEr 22 rfl rfl rfl (by with_reducible (repeat (first | exact qE | apply qF | apply qG))) (by kernel_rfl) rfl ?_
   refine qBs 23 rfl rfl rfl rfl (by with_reducible (repeat (first | exact qE | apply qF | apply qG))) (by kernel_rfl) rfl ?_
   refine uD 24 rfl (qV rfl rfl) ?_
   refine uD 25 rfl (qB rfl) ?_
   refine qBs 26 rfl rfl rfl rfl (by with_reducible (repeat (first | exact qE | apply qF | apply qG))) (by kernel_rfl) rfl ?_
   refine qBs 27 rfl rfl rfl rfl (by with_reducible (repeat (first | exact qE | apply qF | apply qG))) (by kernel_rfl) rfl ?_
   refine qBs 28 rfl rfl rfl rfl (by with_reducible (repeat (first | exact qE | apply qF | apply qG))) (by kernel_rfl) rfl ?_
   refine qBs 29 rfl rfl rfl rfl (by with_reducible (repeat (first | exact qE | apply qF | apply qG))) (by kernel_rfl) rfl ?_
   refine qBs 30 rfl rfl rfl rfl (by with_reducible (repeat (first | exact qE | apply qF | apply qG))) (by kernel_rfl) rfl ?_
   refine qBs 31 rfl rfl rfl rfl (by with_reducible (repeat (first | exact qE | apply qF | apply qG))) (by kernel_rfl) rfl ?_
   refine qBs 32 rfl rfl rfl rfl (by with_reducible (repeat (first | exact qE | apply qF | apply qG))) (by kernel_rfl) rfl ?_
   refine uD 33 rfl (qV rfl rfl) ?_
   refine qDm (by kernel_rfl) ?_
   refine qJ (zE rfl (qK (qI (uA rfl (qL (qJ (zY (zM (qU (qU (zM (qU ?_))))))))))))
   apply zZ
   ·rfl
   ·(apply Rs.tmp rfl; exact Rs.nil)
   ·exact ⟨false, rfl, ⟨fun h => Bool.noConfusion h, fun hg => (v1' (hg.1 x hxm).1).elim⟩, rfl⟩
   ·(apply ent; (repeat constructor); done)
  ·have v1' : ValidN x.name := by simpa using v1
   apply d_on 8 rfl rfl rfl
   ·exact qB rfl
   ·with_reducible (repeat (first | exact qE | apply qF | apply qG))
   ·kernel_rfl
   ·rfl
   apply d_on 9 rfl rfl rfl
   ·exact y_gt rfl rfl
   ·with_reducible (repeat (first | exact qE | apply qF | apply qG))
   ·kernel_rfl
   ·rfl
   apply d_on 10 rfl rfl rfl
   ·exact qB rfl
   ·with_reducible (repeat (first | exact qE | apply qF | apply qG))
   ·kernel_rfl
   ·rfl
   refine qNa 20 rfl (fun v2 => ?_) (fun v2 => ?_)
   ·obtain ⟨k, rfl⟩ : ∃ k', k = k' + 1 := ⟨k - 1, by omega⟩
    obtain ⟨y0, hy0⟩ : ∃ y, l[k]? = some y := ⟨_, List.getElem?_eq_getElem (by omega)⟩
    have f1 := (qJj hy0).1
    have f3 := f2
    apply d_on 11 rfl rfl rfl
    ·exact qB rfl
    ·with_reducible (repeat (first | exact qE | apply qF | apply qG))
    ·kernel_rfl
    ·rfl
    apply d_on 12 rfl rfl rfl
    ·exact qB rfl
    ·with_reducible (repeat (first | exact qE | apply qF | apply qG))
    ·kernel_rfl
    ·rfl
    apply d_on 13 rfl rfl rfl
    ·exact qBy rfl rfl (by omega) (by omega)
    ·with_reducible (repeat (first | exact qE | apply qF | apply qG))
    ·kernel_rfl
    ·rfl
    apply d_on 14 rfl rfl rfl
    ·exact qO rfl rfl (hE.t rfl) (by omega) (by omega)
    ·with_reducible (repeat (first | exact qE | apply qF | apply qG))
    ·kernel_rfl
    ·rfl
    apply d_on 15 rfl rfl rfl
    ·exact qD rfl (hE.t rfl) rfl
    ·with_reducible (repeat (first | exact qE | apply qF | apply qG))
    ·kernel_rfl
    ·rfl
    apply d_on 16 rfl rfl rfl
    ·(apply zI rfl (hE.t rfl) rfl (by assumption); (focus ((repeat constructor); done)); (first | ((focus exact f0); (focus omega)) | ((focus exact f1); (focus omega)) | ((focus assumption); (focus omega))))
    ·with_reducible (repeat (first | exact qE | apply qF | apply qG))
    ·kernel_rfl
    ·rfl
    apply d_on 17 rfl rfl rfl
    ·exact qB rfl
    ·with_reducible (repeat (first | exact qE | apply qF | apply qG))
    ·kernel_rfl
    ·rfl
    apply d_on 18 rfl rfl rfl
    ·exact qB rfl
    ·with_reducible (repeat (first | exact qE | apply qF | apply qG))
    ·kernel_rfl
    ·rfl
    apply d_on 19 rfl rfl rfl
    ·exact qO rfl rfl (hE.t rfl) (by omega) (by omega)
    ·with_reducible (repeat (first | exact qE | apply qF | apply qG))
    ·kernel_rfl
    ·rfl
    apply d_on 20 rfl rfl rfl
    ·exact qD rfl (hE.t rfl) rfl
    ·with_reducible (repeat (first | exact qE | apply qF | apply qG))
    ·kernel_rfl
    ·rfl
    apply d_on 21 rfl rfl rfl
    ·(apply zI rfl (hE.t rfl) rfl (by assumption); (focus ((repeat constructor); done)); (first | ((focus exact f0); (focus omega)) | ((focus exact f1); (focus omega)) | ((focus assumption); (focus omega))))
    ·with_reducible (repeat (first | exact qE | apply qF | apply qG))
    ·kernel_rfl
    ·rfl
    apply d_on 22 rfl rfl rfl
    ·exact y_ge_str rfl rfl
    ·with_reducible (repeat (first | exact qE | apply qF | apply qG))
    ·kernel_rfl
    ·rfl
    apply d_on 23 rfl rfl rfl
    ·exact qV rfl rfl
    ·with_reducible (repeat (first | exact qE | apply qF | apply qG))
    ·kernel_rfl
    ·rfl
    refine uD 24 rfl (qW rfl rfl) ?_
    refine uD 25 rfl (qB rfl) ?_
    refine qWy 35 rfl (fun v3 => ?_) (fun v3 => ?_)
    ·have v3' : ¬ Op.bytesLess y0.name x.name = true := by simpa using v3
     refine qBs 26 rfl rfl rfl rfl (by with_reducible (repeat (first | exact qE | apply qF | apply qG))) (by kernel_rfl) rfl ?_
     refine qBs 27 rfl rfl rfl rfl (by with_reducible (repeat (first | exact qE | apply qF | apply qG))) (by kernel_rfl) rfl ?_
     refine qBs 28 rfl rfl rfl rfl (by with_reducible (repeat (first | exact qE | apply qF | apply qG))) (by kernel_rfl) rfl ?_
     refine qBs 29 rfl rfl rfl rfl (by with_reducible (repeat (first | exact qE | apply qF | apply qG))) (by kernel_rfl) rfl ?_
     refine qBs 30 rfl rfl rfl rfl (by with_reducible (repeat (first | exact qE | apply qF | apply qG))) (by kernel_rfl) rfl ?_
     refine qBs 31 rfl rfl rfl rfl (by with_reducible (repeat (first | exact qE | apply qF | apply qG))) (by kernel_rfl) rfl ?_
     refine qBs 32 rfl rfl rfl rfl (by with_reducible (repeat (first | exact qE | apply qF | apply qG))) (by kernel_rfl) rfl ?_
     refine uD 33 rfl (qV rfl rfl) ?_
     refine qDm (by kernel_rfl) ?_
     refine qJ (zE rfl (qK (qI (uA rfl (qL (qJ (zY (zM (qU (qU (zM (qU ?_))))))))))))
     apply zZ
     ·rfl
     ·(apply Rs.tmp rfl; exact Rs.nil)
     ·exact ⟨false, rfl, ⟨fun h => Bool.noConfusion h, fun hg => (v3' (hg.2.1 k y0 x hkl hy0 hx)).elim⟩, rfl⟩
     ·(apply ent; (repeat constructor); done)
    ·have v3' : Op.bytesLess y0.name x.name = true := by simpa using v3
     apply d_on 26 rfl rfl rfl
     ·exact qB rfl
     ·with_reducible (repeat (first | exact qE | apply qF | apply qG))
     ·kernel_rfl
     ·rfl
     apply d_on 27 rfl rfl rfl
     ·exact qB rfl
     ·with_reducible (repeat (first | exact qE | apply qF | apply qG))
     ·kernel_rfl
     ·rfl
     apply d_on 28 rfl rfl rfl
     ·exact qO rfl rfl (hE.t rfl) (by omega) (by omega)
     ·with_reducible (repeat (first | exact qE | apply qF | apply qG))
     ·kernel_rfl
     ·rfl
     apply d_on 29 rfl rfl rfl
     ·exact qD rfl (hE.t rfl) rfl
     ·with_reducible (repeat (first | exact qE | apply qF | apply qG))
     ·kernel_rfl
     ·rfl
     apply d_on 30 rfl rfl rfl
     ·(apply zI rfl (hE.t rfl) rfl (by assumption); (focus ((repeat constructor); done)); (first | ((focus exact f0); (focus omega)) | ((focus exact f1); (focus omega)) | ((focus assumption); (focus omega))))
     ·with_reducible (repeat (first | exact qE | apply qF | apply qG))
     ·kernel_rfl
     ·rfl
     apply d_on 31 rfl rfl rfl
     ·exact qQ rfl (hE.t rfl)
     ·with_reducible (repeat (first | exact qE | apply qF | apply qG))
     ·kernel_rfl
     ·rfl
     apply d_on 32 rfl rfl rfl
     ·exact y_gt rfl rfl
     ·with_reducible (repeat (first | exact qE | apply qF | apply qG))
     ·kernel_rfl
     ·rfl
     refine uD 33 rfl (qW rfl rfl) ?_
     refine qDm (by kernel_rfl) ?_
     refine qJ ?_
     refine zD rfl (fun v4 => ?_) (fun v4 => ?_)
     ·have v4' : ¬ x.bs.length ≤ 60 := by omega
      refine qK (qI (uA rfl (qL (qJ (zY (zM (qU (qU (zM (qU ?_))))))))))
      apply zZ
      ·rfl
      ·(apply Rs.tmp rfl; exact Rs.nil)
      ·exact ⟨false, rfl, ⟨fun h => Bool.noConfusion h, fun hg => (v4' (hg.1 x hxm).2).elim⟩, rfl⟩
      ·(apply ent; (repeat constructor); done)
     ·have hor : ImOrd l (k + 1 + 1) := fun i u w hi hu hw => by
       rcases Nat.lt_or_ge (i + 1) (k + 1) with h' | h'
       ·exact hord i u w h' hu hw
       ·obtain rfl : i = k := by omega
        rw [hy0] at hu
        rw [hx] at hw
        cases hu
        cases hw
        exact v3'
      refine zB (zH (qJ (qI (uM rfl (qA (qAd rfl rfl (by omega) (by omega)) rfl ?_)))))
      refine uA rfl (qL ?_)
      refine zR (ι := Nat) (j := k + 1 + 1) ⟨by omega, fun j y hj hy => ?_, hor⟩ (by omega) ⟨rfl, congrArg some (zV (by omega)), trivial⟩ (by (apply ent; (repeat constructor); done))
      rcases Nat.lt_or_ge j (k + 1) with h' | h'
      ·exact hall j y h' hy
      ·obtain rfl : j = k + 1 := by omega
       rw [hx] at hy
       cases hy
       exact ⟨v1', by omega⟩
   ·obtain rfl : k = 0 := by omega
    refine qBs 11 rfl rfl rfl rfl (by with_reducible (repeat (first | exact qE | apply qF | apply qG))) (by kernel_rfl) rfl ?_
    refine qBs 12 rfl rfl rfl rfl (by with_reducible (repeat (first | exact qE | apply qF | apply qG))) (by kernel_rfl) rfl ?_
    refine qBs 13 rfl rfl rfl rfl (by with_reducible (repeat (first | exact qE | apply qF | apply qG))) (by kernel_rfl) rfl ?_
    refine qBs 14 rfl rfl rfl rfl (by with_reducible (repeat (first | exact qE | apply qF | apply qG))) (by kernel_rfl) rfl ?_
    refine qBs 15 rfl rfl rfl rfl (by with_reducible (repeat (first | exact qE | apply qF | apply qG))) (by kernel_rfl) rfl ?_
    refine qBs 16 rfl rfl rfl rfl (by with_reducible (repeat (first | exact qE | apply qF | apply qG))) (by kernel_rfl) rfl ?_
    refine qBs 17 rfl rfl rfl rfl (by with_reducible (repeat (first | exact qE | apply qF | apply qG))) (by kernel_rfl) rfl ?_
    refine qBs 18 rfl rfl rfl rfl (by with_reducible (repeat (first | exact qE | apply qF | apply qG))) (by kernel_rfl) rfl ?_
    refine qBs 19 rfl rfl rfl rfl (by with_reducible (repeat (first | exact qE | apply qF | apply qG))) (by kernel_rfl) rfl ?_
    refine qBs 20 rfl rfl rfl rfl (by with_reducible (repeat (first | exact qE | apply qF | apply qG))) (by kernel_rfl) rfl ?_
    refine qBs 21 rfl rfl rfl rfl (by with_reducible (repeat (first | exact qE | apply qF | apply qG))) (by kernel_rfl) rfl ?_
    refine qBs 22 rfl rfl rfl rfl (by with_reducible (repeat (first | exact qE | apply qF | apply qG))) (by kernel_rfl) rfl ?_
    apply d_on 23 rfl rfl rfl
    ·exact qW rfl rfl
    ·with_reducible (repeat (first | exact qE | apply qF | apply qG))
    ·kernel_rfl
    ·rfl
    refine uD 24 rfl (qW rfl rfl) ?_
    refine uD 25 rfl (qB rfl) ?_
    apply d_on 26 rfl rfl rfl
    ·exact qB rfl
    ·with_reducible (repeat (first | exact qE | apply qF | apply qG))
    ·kernel_rfl
    ·rfl
    apply d_on 27 rfl rfl rfl
    ·exact qB rfl
    ·with_reducible (repeat (first | exact qE | apply qF | apply qG))
    ·kernel_rfl
    ·rfl
    apply d_on 28 rfl rfl rfl
    ·exact qO rfl rfl (hE.t rfl) (by omega) (by omega)
    ·with_reducible (repeat (first | exact qE | apply qF | apply qG))
    ·kernel_rfl
    ·rfl
    apply d_on 29 rfl rfl rfl
    ·exact qD rfl (hE.t rfl) rfl
    ·with_reducible (repeat (first | exact qE | apply qF | apply qG))
    ·kernel_rfl
    ·rfl
    apply d_on 30 rfl rfl rfl
    ·(apply zI rfl (hE.t rfl) rfl (by assumption); (focus ((repeat constructor); done)); (first | ((focus exact f0); (focus omega)) | ((focus exact f1); (focus omega)) | ((focus assumption); (focus omega))))
    ·with_reducible (repeat (first | exact qE | apply qF | apply qG))
    ·kernel_rfl
    ·rfl
    apply d_on 31 rfl rfl rfl
    ·exact qQ rfl (hE.t rfl)
    ·with_reducible (repeat (first | exact qE | apply qF | apply qG))
    ·kernel_rfl
    ·rfl
    apply d_on 32 rfl rfl rfl
    ·exact y_gt rfl rfl
    ·with_reducible (repeat (first | exact qE | apply qF | apply qG))
    ·kernel_rfl
    ·rfl
    refine uD 33 rfl (qW rfl rfl) ?_
    refine qDm (by kernel_rfl) ?_
    refine qJ ?_
    refine zD rfl (fun v4 => ?_) (fun v4 => ?_)
    ·have v4' : ¬ x.bs.length ≤ 60 := by omega
     refine qK (qI (uA rfl (qL (qJ (zY (zM (qU (qU (zM (qU ?_))))))))))
     apply zZ
     ·rfl
     ·(apply Rs.tmp rfl; exact Rs.nil)
     ·exact ⟨false, rfl, ⟨fun h => Bool.noConfusion h, fun hg => (v4' (hg.1 x hxm).2).elim⟩, rfl⟩
     ·(apply ent; (repeat constructor); done)
    ·refine zB (zH (qJ (qI ?_)))
     refine uM rfl (qA (qAd rfl rfl (by omega) (by omega)) rfl ?_)
     refine uA rfl (qL ?_)
     refine zR (ι := Nat) (j := 1) ⟨by omega, fun j y hj hy => ?_, fun i u w hi => by omega⟩ (by omega) ⟨rfl, congrArg some (zV (by omega)), trivial⟩ (by (apply ent; (repeat constructor); done))
     obtain rfl : j = 0 := by omega
     rw [hx] at hy
     cases hy
     exact ⟨v1', by omega⟩
 ·obtain rfl : k = l.length := by omega
  refine kH (qP (qP (zG (qJ (qK (qI (uM rfl (qA (qQ rfl (hE.t rfl)) rfl ?_))))))))
  refine qA (y_le rfl rfl) rfl ?_
  refine uA rfl (qL (qJ (zY ?_)))
  apply zZ
  ·rfl
  ·(apply Rs.tmp rfl; exact Rs.nil)
  ·refine ⟨_, rfl, ?_, rfl⟩
   rw [decide_eq_true_eq]
   constructor
   ·intro h6
    refine ⟨fun x hx => ?_, hord, by omega⟩
    obtain ⟨j, hj⟩ := List.getElem?_of_mem hx
    exact hall j x (List.getElem?_eq_some_iff.1 hj).1 hj
   ·intro hg
    have := hg.2.2
    omega
  ·(apply ent; (repeat constructor); done)
end
section
open Go Go.RowKit Sl Eg
set_option maxRecDepth 10000
variable {E : Env} {Es : List Ent} {pp tb s most m bm : Nat}
theorem zDl {w0 : World} {p : Option Addr} {c n : Nat} {t : TypeId} {vs : List Value} (hn : vs.length = n) (h : 0 < n → ∃ g, p = some ⟨g, 0, none⟩) : Rdb w0 p vs (sl p c t 1 n vs) := fun hne => by
 obtain ⟨g, rfl⟩ := h (by
  rcases Nat.eq_zero_or_pos n with e | e
  ·exact absurd (List.eq_nil_of_length_eq_zero (by omega)) hne
  ·exact e)
 exact ⟨g, 0, rfl, qSm (fun _ _ h => h)⟩
theorem qIn {bs : List UInt8} (h : bs ≠ []) : byC bs ≠ [] := fun e => h (by
 have := qLo bs
 rw [e] at this
 exact List.eq_nil_of_length_eq_zero this.symm)
def mkN (l : List Im) (ids : List Nat) : List (List UInt8 × Int) := (l.zip ids).map fun p => (p.1.name, (p.2 : Int))
theorem qGk : ∀ (a b : List (List UInt8 × Int)), nlC (a ++ b) = nlC a ++ nlC b
 | [], b => rfl
 | p :: a, b => by simp [nlC, qGk a b]
def Txs (L : List Rl) (l : List Im) (ids : List Nat) : Prop := ∀ (i : Nat) (x : Im) (id : Nat), l[i]? = some x → ids[i]? = some id → id ≤ L.length ∧ txt L id = x.bs
theorem Txs.ext {L : List Rl} (M : List Rl) {l : List Im} {ids : List Nat} (h : Txs L l ids) : Txs (L ++ M) l ids := fun i x id h1 h2 => by
 have := h i x id h1 h2
 exact ⟨by rw [List.length_append]; omega, by rw [qCp _ this.1]; exact this.2⟩
theorem Txs.snoc {L : List Rl} {l : List Im} {ids : List Nat} (h : Txs L l ids) {x : Im} {id : Nat} (hx : l[ids.length]? = some x) (h1 : id ≤ L.length) (h2 : txt L id = x.bs) : Txs L l (ids ++ [id]) := fun i y id' hy hi => by
 rcases Nat.lt_trichotomy i ids.length with e | e | e
 ·rw [List.getElem?_append_left e] at hi; exact h i y id' hy hi
 ·subst e
  rw [hx] at hy
  cases hy
  simp at hi
  subst hi
  exact ⟨h1, h2⟩
 ·have := (List.getElem?_eq_some_iff.1 hi).1
  simp at this
  omega
end
end Go.Proofs.YtkkjjablmmmmkaaGreatDoor
