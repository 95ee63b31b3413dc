import Derived.Test.YtkkjjablmmmmkaaGreatDoorQ51
import Derived.Test.YtkkjjablmmmmkaaGreatDoorQ68
set_option linter.all false
namespace Go.Proofs.YtkkjjablmmmmkaaGreatDoor
open Go Go.RowKit Sl Eg
set_option maxRecDepth 10000
section
variable {E : Env} {L : List Rl}
theorem zCb (hE : Seat E) (hw : Wf L) {r : Rl} {pq c : Nat} {p : Option Addr} {x y : Value} (hL : L.length ≤ 100000) : Ct E 102 [uPt pq, .agg #[.int .i64 (Rl.kind (r) : Nat), .int .u8 (Rl.byte (r) : Nat), .int .i64 (Rl.left (r) : Nat), .int .i64 (Rl.right (r) : Nat), .int .i64 (Rl.times (r) : Nat)]] [cells pq [.slice p (L.length + 1) c, x, y] 99, sl p c 82 5 (L.length + 1) (ruC L)]
  (fun v Q => ∃ p' c', v = .int .i64 ((addR L r).2 : Nat) ∧ Q = [cells pq [.slice p' ((addR L r).1.length + 1) c', x, y] 99, sl p' c' 82 5 ((addR L r).1.length + 1) (ruC (addR L r).1)]) := by
 refine qBt (p := sl p c 82 5 (L.length + 1) (ruC L)) uK (fun _ h => qAi h (by omega)) ?_
 rintro ⟨g, rfl⟩
 refine zQ (hE.fn Tryz.func102) rfl rfl rfl (fun R => ?_)
 simp only [qAa, uV, uW]
 refine qK (qI (uU ?_))
 refine qAs rfl (fun b3 => ?_)
 refine uA rfl (qL (qJ (qK (qK (qI (uA rfl (qL (qJ (zM ?_)))))))))
 refine qAc (fun i : Nat => [(0, uPt pq), (3, uPt b3), (5, .int .i64 ((i + 1 : Nat) : Int))]) (fun i => [cells pq [.slice (some ⟨g, 0, none⟩) (L.length + 1) c, x, y] 99, sl (some ⟨g, 0, none⟩) c 82 5 (L.length + 1) (ruC L), cells b3 [.int .i64 (Rl.kind (r) : Nat), .int .u8 (Rl.byte (r) : Nat), .int .i64 (Rl.left (r) : Nat), .int .i64 (Rl.right (r) : Nat), .int .i64 (Rl.times (r) : Nat)] 82, R]) (fun i => L.length - i) (fun i => i ≤ L.length ∧ ∀ j, j < i → L[j]? ≠ some r) 0 ⟨Nat.zero_le _, fun j h => absurd h (by omega)⟩ ⟨rfl, rfl, rfl, trivial⟩ uI ?_
 rintro i ⟨hi, hno⟩
 refine qK (qK (qI (uM rfl (uM rfl (uB (zB rfl) ?_)))))
 refine uB (uBf rfl) ?_
 refine uL ?_
 refine uB (uBl rfl) ?_
 refine uB (y_lt rfl rfl) ?_
 refine qL (qJ ?_)
 refine zG rfl (fun h1 => ?_) (fun h1 => ?_)
 ·have hil : i < L.length := by omega
  obtain ⟨z, hz⟩ : ∃ x, L[i]? = some x := ⟨_, List.getElem?_eq_getElem hil⟩
  obtain ⟨f0, f1, f2, f3, f4⟩ := qIl hz (0 + ((i + 1 : Nat) : Int).toNat * 5) (by omega)
  refine zD (qJ (qK (zM (qK ?_))))
  refine uH ([cells pq [.slice (some ⟨g, 0, none⟩) (L.length + 1) c, x, y] 99, sl (some ⟨g, 0, none⟩) c 82 5 (L.length + 1) (ruC L), cells b3 [.int .i64 (Rl.kind (r) : Nat), .int .u8 (Rl.byte (r) : Nat), .int .i64 (Rl.left (r) : Nat), .int .i64 (Rl.right (r) : Nat), .int .i64 (Rl.times (r) : Nat)] 82]) ?_
  refine uD 0 rfl (qB rfl) ?_
  refine uD 1 rfl (zB rfl) ?_
  refine uD 2 rfl (uBf rfl) ?_
  refine uD 3 rfl (uY) ?_
  refine uD 4 rfl (qB rfl) ?_
  refine uD 5 rfl (uAi rfl rfl) ?_
  refine uD 6 rfl (uG) ?_
  refine uD 7 rfl (uG) ?_
  refine uD 8 rfl (zDx hE rfl rfl) ?_
  refine qCz (by kernel_rfl) ?_
  refine qJ ?_
  refine zG rfl (fun h2 => ?_) (fun h2 => ?_)
  ·subst h2
   have e : addR L z = (L, i + 1) := by unfold addR; rw [idOf_at hw hz, if_neg (by omega)]
   rw [e]
   refine qK (qI (uM rfl (uA rfl (qL (qJ (kD (zP (qW (qW (zP (qW ?_)))))))))))
   exact uZ rfl (.tmp rfl .nil) ⟨some ⟨g, 0, none⟩, c, rfl, rfl⟩
  refine zD (zK (qJ (qI ?_)))
  refine uM rfl (uB (uAa rfl rfl) ?_)
  refine uA rfl (qL ?_)
  refine zU (i + 1) ⟨by omega, fun j hj => ?_⟩ (by omega) ⟨rfl, rfl, congrArg some (zY (by omega)), trivial⟩ uI
  by_cases ej : j = i
  ·subst ej
   rw [hz]
   intro ee
   exact h2 (Option.some.inj ee)
  exact hno j (by omega)
 obtain rfl : i = L.length := by omega
 have hnr : r ∉ L := fun hm => by
  obtain ⟨k, hk⟩ := List.getElem?_of_mem hm
  exact hno k (List.getElem?_eq_some_iff.1 hk).1 hk
 have e : addR L r = (L ++ [r], L.length + 1) := by unfold addR; rw [if_pos (qCs.2 hnr)]
 rw [e]
 simp only [List.length_append, List.length_singleton]
 rw [qYd]
 refine kM (qP (qP (zJ (qJ (qK ?_)))))
 refine uN 10 ([cells pq [.slice (some ⟨g, 0, none⟩) (L.length + 1) c, x, y] 99, cells b3 [.int .i64 (Rl.kind (r) : Nat), .int .u8 (Rl.byte (r) : Nat), .int .i64 (Rl.left (r) : Nat), .int .i64 (Rl.right (r) : Nat), .int .i64 (Rl.times (r) : Nat)] 82]) ?_
 refine uT 0 rfl (qB rfl) ?_
 refine uT 1 rfl (qB rfl) ?_
 refine uT 2 rfl (zB rfl) ?_
 refine uT 3 rfl (uBf rfl) ?_
 refine uT 4 rfl (uY) ?_
 apply kN 5 rfl (by kernel_rfl)
 ·(apply zX rfl (hE.t rfl) rfl; (repeat (first | rfl | assumption | constructor)); done)
 ·rfl
 apply qAm 6 rfl (by kernel_rfl) rfl
 refine qV (hE.t rfl) (hE.t rfl) rfl rfl rfl (fun b31 => ?_)
 refine uE ?_
 apply qAm 7 rfl (by kernel_rfl) rfl
 apply zW (hE.t rfl) (hE.t rfl) rfl rfl rfl
 ·exact uK
 ·exact uK
 ·rfl
 ·rfl
 ·omega
 ·omega
 ·(unfold maxLen; omega)
 intro g32 c32 n32 x32 hn32 hx32
 refine uE ?_
 apply kN 8 rfl (by kernel_rfl)
 ·exact zB rfl
 ·rfl
 apply kN 9 rfl (by kernel_rfl)
 ·exact uBf rfl
 ·rfl
 apply qDi rfl (by kernel_rfl) (by kernel_rfl) rfl
 refine uS ?_
 refine qJ (qK (qI (uM rfl (uB (zB rfl) ?_))))
 refine uB (uBf rfl) ?_
 refine uL ?_
 refine uB (uBl rfl) ?_
 refine uB (uAs rfl rfl) ?_
 refine uA rfl (qL (qJ (kD ?_)))
 subst hn32 hx32
 exact uZ rfl (.tmp rfl .nil) ⟨some ⟨g32, 0, none⟩, c32, congrArg (Value.int .i64) (by omega), rfl⟩
theorem addR_get (L : List Rl) (r : Rl) : ∃ (M : List Rl) (id : Nat), addR L r = (L ++ M, id + 1) ∧ (L ++ M)[id]? = some r ∧ M.length ≤ 1 ∧ (M = [] ∨ (r ∉ L ∧ M = [r])) := by
 unfold addR
 split
 ·rename_i h
  exact ⟨[r], L.length, rfl, by simp, Nat.le_refl _, .inr ⟨qCs.1 h, rfl⟩⟩
 rename_i h
 have hm : r ∈ L := Classical.byContradiction fun hn => h (qCs.2 hn)
 obtain ⟨h1, h2⟩ := qMs hm
 exact ⟨[], idOf L r - 1, by rw [List.append_nil, Nat.sub_add_cancel h1], by rw [List.append_nil]; exact h2, Nat.zero_le _, .inl rfl⟩
theorem qKx (hE : Seat E) (hw : Wf L) {r : Rl} {pq c : Nat} {p : Option Addr} {x y : Value} (hL : L.length ≤ 100000) : Ct E 102 [uPt pq, .agg #[.int .i64 (Rl.kind (r) : Nat), .int .u8 (Rl.byte (r) : Nat), .int .i64 (Rl.left (r) : Nat), .int .i64 (Rl.right (r) : Nat), .int .i64 (Rl.times (r) : Nat)]] [cells pq [.slice p (L.length + 1) c, x, y] 99, sl p c 82 5 (L.length + 1) (ruC L)]
  (fun v Q => ∃ M id p' c', v = .int .i64 ((id + 1 : Nat) : Int) ∧ (L ++ M)[id]? = some r ∧ M.length ≤ 1 ∧ (M = [] ∨ (r ∉ L ∧ M = [r])) ∧ Q = [cells pq [.slice p' ((L ++ M).length + 1) c', x, y] 99, sl p' c' 82 5 ((L ++ M).length + 1) (ruC (L ++ M))]) := by
 obtain ⟨M, id, e, h1, h2, h3⟩ := addR_get L r
 refine fun R w hs => ((zCb (r := r) (pq := pq) (c := c) (p := p) (x := x) (y := y) hE hw hL) R w hs).mono fun e' w' ⟨v, Qs, g1, ⟨p', c', g2, g3⟩, g4⟩ => ⟨v, Qs, g1, ⟨M, id, p', c', ?_, h1, h2, h3, ?_⟩, g4⟩
 ·rw [g2, e]
 rw [g3, e]
end
section
variable {E : Env}
structure BgG where
 R : List Rl
 p : Option Addr
 c : Nat
 sq : List Nat
 ps : Option Addr
 cs : Nat
theorem qWj (hE : Seat E) {a : Option Addr} {ca : Nat} {bs : List UInt8} {q : HP} (hq : Rdb E.w0 a (byC bs) q) (hn : bs.length ≤ 10000) : Ct E 79 [.slice a bs.length ca] [q]
  (fun v Q => ∃ pq R p c sq ps cs, v = uPt pq ∧ Wf R ∧ Lts R sq bs ∧ R.length ≤ bs.length ∧ Q = [q, cells pq [.slice p (R.length + 1) c, .slice ps sq.length cs, .int .i64 (0 : Nat)] 99, sl p c 82 5 (R.length + 1) (ruC R), sl ps cs 37 1 sq.length (idC sq)]) := by
 refine zQ (hE.fn Tryz.func79) rfl rfl rfl (fun R => ?_)
 simp only [qAa, uV, uW]
 refine qK (qI (uA rfl (qL (qJ (qK (qI (uB (qAe (hE.t rfl) rfl rfl) ?_)))))))
 refine uU ?_
 refine qV (hE.t rfl) (hE.t rfl) rfl rfl rfl (fun b6 => ?_)
 refine uB (qAe (hE.t rfl) rfl rfl) ?_
 refine uU ?_
 refine qAs rfl (fun b8 => ?_)
 refine uA rfl (qL (qJ (qK (qK (qI (uA rfl (qL (qJ (zM ?_)))))))))
 refine qBz (kF (p := cells b6 (ruC []) 82) (p' := sl (some ⟨b6, 0, none⟩) 1 82 5 1 (ruC [])) uK (qAd rfl (by unfold maxLen; omega))) ?_
 refine qAc (fun x : BgG => [(0, .slice a bs.length ca), (3, uPt b8), (4, .int .i64 (x.sq.length : Nat))]) (fun x => [q, cells b8 [.slice x.p (x.R.length + 1) x.c, .slice x.ps x.sq.length x.cs, .int .i64 (0 : Nat)] 99, sl x.p x.c 82 5 (x.R.length + 1) (ruC x.R), sl x.ps x.cs 37 1 x.sq.length (idC x.sq), R]) (fun x => bs.length - x.sq.length)
  (fun x => Wf x.R ∧ Lts x.R x.sq (bs.take x.sq.length) ∧ x.R.length ≤ x.sq.length ∧ x.sq.length ≤ bs.length) ⟨[], some ⟨b6, 0, none⟩, 1, [], none, 0⟩ ⟨zEh, .nil, Nat.le_refl _, Nat.zero_le _⟩ ⟨rfl, rfl, rfl, trivial⟩ ?_ ?_
 ·apply kG (qBw (t := 37) (sz := 1))
  exact uI
 rintro ⟨L, p, c, sq, ps, cs⟩ ⟨hw, hl, hL, hsq⟩
 simp only at hw hl hL hsq ⊢
 refine qK (qK (qI (uM rfl (uM rfl (uB (uBl rfl) ?_)))))
 refine uB (y_lt rfl rfl) ?_
 refine qL (qJ ?_)
 refine zG rfl (fun h => ?_) (fun h => ?_)
 ·have hk : sq.length < bs.length := by omega
  obtain ⟨b, hb⟩ : ∃ b, bs[sq.length]? = some b := ⟨_, List.getElem?_eq_getElem hk⟩
  have f0 := qXb hb sq.length rfl
  have f1 := qXb hb ((sq.length : Nat) : Int).toNat (by omega)
  obtain ⟨g, o, rfl, hq'⟩ := hq (qOv (by intro e; rw [e] at hk; simp at hk))
  refine zD (qJ (qK (zM ?_)))
  refine qKg 16 (Ex (fun u : Value => cells b8 [u, .slice ps sq.length cs, .int .i64 0] 99) :: [q]) ?_ ?_
  ·(apply qXr; apply ent; (repeat constructor); done)
  apply kC 0 rfl
  ·(apply qWf; intro kx; exact qB rfl)
  ·with_reducible (repeat (first | exact qE | apply qF | apply qG))
  ·kernel_rfl
  ·rfl
  apply kC 1 rfl
  ·(apply qWf; intro kx; exact qB rfl)
  ·with_reducible (repeat (first | exact qE | apply qF | apply qG))
  ·kernel_rfl
  ·rfl
  apply kC 2 rfl
  ·(apply qWf; intro kx; exact zB rfl)
  ·with_reducible (repeat (first | exact qE | apply qF | apply qG))
  ·kernel_rfl
  ·rfl
  apply kC 3 rfl
  ·(apply qWf; intro kx; exact uBf rfl)
  ·with_reducible (repeat (first | exact qE | apply qF | apply qG))
  ·kernel_rfl
  ·rfl
  apply kC 4 rfl
  ·(apply qWf; intro kx; (first | (apply qN rfl (hE.t rfl) rfl; (repeat (first | rfl | assumption | constructor)); done) | exact qZ rfl (hE.t rfl) rfl (by assumption) | (apply zC rfl (hE.t rfl) rfl; (focus ((repeat constructor); done)); (focus assumption)) | (apply zL rfl (hE.t rfl) rfl (by assumption); (focus ((repeat constructor); done)); (first | ((focus exact f0); (focus omega)) | ((focus exact f1); (focus omega)) | ((focus assumption); (focus omega))))))
  ·with_reducible (repeat (first | exact qE | apply qF | apply qG))
  ·kernel_rfl
  ·rfl
  apply kC 5 rfl
  ·(apply qWf; intro kx; exact qB rfl)
  ·with_reducible (repeat (first | exact qE | apply qF | apply qG))
  ·kernel_rfl
  ·rfl
  apply kC 6 rfl
  ·(apply qWf; intro kx; exact qB rfl)
  ·with_reducible (repeat (first | exact qE | apply qF | apply qG))
  ·kernel_rfl
  ·rfl
  apply kN 7 rfl (by kernel_rfl)
  ·exact qB rfl
  ·rfl
  apply kN 8 rfl (by kernel_rfl)
  ·exact uAi rfl rfl
  ·rfl
  apply kN 9 rfl (by kernel_rfl)
  ·(apply zL rfl (hE.t rfl) rfl (by assumption); (focus ((repeat constructor); done)); (first | ((focus exact f0); (focus omega)) | ((focus exact f1); (focus omega)) | ((focus assumption); (focus omega))))
  ·rfl
  apply kN 10 rfl (by kernel_rfl)
  ·exact qAe (hE.t rfl) rfl rfl
  ·rfl
  apply qAm 11 rfl (by kernel_rfl) rfl
  refine uC (qKx (r := .letter b) (pq := b8) (c := c) (p := p) (x := .slice ps sq.length cs) (y := .int .i64 0) hE hw (by omega)) rfl ?_
  rintro _ _ ⟨M, id, p', c', rfl, hg, hM, hMr, rfl⟩
  simp only [uV, uW]
  refine ⟨by (apply qXr; apply ent; (repeat constructor); done), ?_⟩
  apply qAm 12 rfl (by kernel_rfl) rfl
  refine qV (hE.t rfl) (hE.t rfl) rfl rfl rfl (fun b27 => ?_)
  refine ⟨by (apply qXr; apply ent; (repeat constructor); done), ?_⟩
  apply qAm 13 rfl (by kernel_rfl) rfl
  apply zW (hE.t rfl) (hE.t rfl) rfl rfl rfl
  ·exact uK
  ·exact uK
  ·rfl
  ·rfl
  ·omega
  ·omega
  ·(unfold maxLen; omega)
  intro g28 c28 n28 x28 hn28 hx28
  refine ⟨by (apply qXr; apply ent; (repeat constructor); done), ?_⟩
  apply kN 14 rfl (by kernel_rfl)
  ·exact zB rfl
  ·rfl
  apply kN 15 rfl (by kernel_rfl)
  ·exact uBf rfl
  ·rfl
  apply qDi rfl (by kernel_rfl) (by kernel_rfl) rfl
  refine uS ?_
  refine zK (qJ (qI (uM rfl (uB (uAa rfl rfl) ?_))))
  refine uA rfl (qL ?_)
  subst hn28 hx28
  have eb : bs.take (sq.length + 1) = bs.take sq.length ++ [b] := by rw [List.take_add_one, hb]; rfl
  have hwM : Wf (L ++ M) := by
   rcases hMr with rfl | ⟨h1, rfl⟩
   ·rw [List.append_nil]; exact hw
   exact hw.letter h1 (by have : qAw = 1048576 := rfl; omega)
  have hlM := (hl.ext M).snoc hg
  have hil : (sq ++ [id + 1]).length = sq.length + 1 := by simp
  refine zU (ι := BgG) (j := ⟨L ++ M, p', c', sq ++ [id + 1], some ⟨g28, 0, none⟩, c28⟩) ⟨hwM, by simp only [hil, eb]; exact hlM, by simp only [hil, List.length_append]; omega, by simp only [hil]; omega⟩ (by simp only [hil]; omega) ⟨rfl, rfl, by simp only [hil]; exact congrArg some (zY (by omega)), trivial⟩ ?_
  simp only [hil]
  rw [qBa]
  exact uI
 have he : sq.length = bs.length := by omega
 rw [he, List.take_length] at hl
 refine kM (qP (qP (zJ (qJ (qK (qI (uM rfl (uA rfl (qL (qJ (kD ?_)))))))))))
 exact uZ rfl (.tmp rfl .nil) ⟨b8, L, p, c, sq, ps, cs, rfl, hw, hl, by omega, rfl⟩
end
section
variable {E : Env}
theorem qTf (hE : Seat E) {p : Option Addr} {c : Nat} {ids : List Nat} (hl : ids.length < 1048577) :
  Ct E 127 [.slice p ids.length c] [sl p c 37 1 ids.length (idC ids)]
   (fun v Q => ∃ p' c', v = .slice p' (kL ids).length c' ∧ Q = [sl p c 37 1 ids.length (idC ids), sl p' c' 170 2 (kL ids).length (gsC (kL ids))]) := by
 refine qBt (p := sl p c 37 1 ids.length (idC ids)) uK (fun _ h => fun hpos => qAi h hpos) (fun hp => ?_)
 refine zQ (hE.fn Tryz.func127) rfl rfl rfl (fun R => ?_)
 simp only [qAa, uV, uW]
 refine qK (qI (uA rfl (qL (qJ (qK (qI (uA rfl (qL (qJ (qK (qK (qI (uA rfl (qL (qJ (zM ?_))))))))))))))))
 refine qAc (fun x : RnG => [(0, .slice p ids.length c), (3, .slice x.p x.rs.length x.c), (4, .int .i64 (x.k : Nat))]) (fun x => [sl p c 37 1 ids.length (idC ids), sl x.p x.c 170 2 x.rs.length (gsC x.rs), R]) (fun x => ids.length - x.k) (fun x => x.k ≤ ids.length ∧ x.rs = kL (ids.take x.k)) ⟨0, [], none, 0⟩ ⟨Nat.zero_le _, rfl⟩ ⟨rfl, rfl, rfl, trivial⟩ ?_ ?_
 ·apply kG (qBw (t := 170) (sz := 2))
  exact uI
 rintro ⟨k, rs, p1, c1⟩ ⟨hk, hrs⟩
 simp only at hk hrs ⊢
 refine qK (qK (qI (uM rfl (uM rfl (uB (uBl rfl) ?_)))))
 refine uB (y_lt rfl rfl) ?_
 refine qL (qJ ?_)
 refine zG rfl (fun hlt => ?_) (fun hlt => ?_)
 ·have hkn : k < ids.length := by omega
  obtain ⟨g, rfl⟩ := hp (by omega)
  obtain ⟨x, hx⟩ : ∃ x, ids[k]? = some x := ⟨_, List.getElem?_eq_getElem hkn⟩
  have e1 : ids.take (k + 1) = ids.take k ++ [x] := by rw [List.take_add_one, hx]; rfl
  have f0 := qAl hx (0 + ((k : Nat) : Int).toNat) (by omega)
  have f1 := qAl hx (((k : Nat) : Int).toNat) (by omega)
  have hrl := qDw (ids.take k)
  rw [← hrs, List.length_take] at hrl
  refine zD (qJ (qK (zM (qK ?_))))
  refine uH ([sl (some ⟨g, 0, none⟩) c 37 1 ids.length (idC ids)]) ?_
  refine uD 0 rfl (qB rfl) ?_
  refine uD 1 rfl (y_gt rfl rfl) ?_
  refine uD 2 rfl (qB rfl) ?_
  refine qNh 13 rfl (fun h0 => ?_) (fun h0 => ?_)
  ·obtain ⟨k, rfl⟩ : ∃ j, k = j + 1 := ⟨k - 1, by omega⟩
   obtain ⟨y, hy⟩ : ∃ x, ids[k]? = some x := ⟨_, List.getElem?_eq_getElem (by omega)⟩
   have f2 := qAl hy (0 + (((k + 1 : Nat) : Int) - 1).toNat) (by omega)
   have f3 := qAl hy ((((k + 1 : Nat) : Int) - 1).toNat) (by omega)
   have e2 : ids.take (k + 1) = ids.take k ++ [y] := by rw [List.take_add_one, hy]; rfl
   obtain ⟨a, m, ea, hm⟩ := qNj (ids.take k) y
   rw [← e2, ← hrs] at ea
   subst ea
   have hal : (a ++ [(y, m)]).length = a.length + 1 := by simp
   rw [hal] at hrl
   refine uO 3 rfl rfl rfl (qB rfl) ?_
   refine uO 4 rfl rfl rfl (qB rfl) ?_
   refine uO 5 rfl rfl rfl (uAj rfl rfl) ?_
   refine uO 6 rfl rfl rfl (uY) ?_
   refine uO 7 rfl rfl rfl (qB rfl) ?_
   refine uO 8 rfl rfl rfl (qB rfl) ?_
   refine uO 9 rfl rfl rfl (uAs rfl rfl) ?_
   refine uO 10 rfl rfl rfl (uAj rfl rfl) ?_
   refine uO 11 rfl rfl rfl (uY) ?_
   refine uO 12 rfl rfl rfl (y_eq rfl rfl) ?_
   refine uD 13 rfl (qX rfl rfl) ?_
   refine qCz (by kernel_rfl) ?_
   refine qJ ?_
   refine zG rfl (fun h1 => ?_) (fun h1 => ?_)
   ·obtain rfl : x = y := by omega
    refine qCy (p := sl p1 c1 170 2 (a ++ [(x, m)]).length (gsC (a ++ [(x, m)]))) uK (fun _ h => qAi h (by omega)) ?_
    rintro ⟨g1, rfl⟩
    have hmk := (qCv (ids.take (k + 1)) (x, m) (by rw [← hrs]; simp)).2
    rw [List.length_take] at hmk
    have hget : (a ++ [(x, m)])[a.length]? = some (x, m) := by simp
    have ea : 0 + (((a.length + 1 : Nat) : Int) - 1).toNat * 2 + 1 = a.length * 2 + 1 := by omega
    have f4 : (gsC (a ++ [(x, m)]))[0 + (((a.length + 1 : Nat) : Int) - 1).toNat * 2 + 1]? = some (.int .i64 (m : Nat)) := by rw [ea]; exact (qGz hget).2
    have hset : zZ (gsC (a ++ [(x, m)])) (0 + (((a.length + 1 : Nat) : Int) - 1).toNat * 2 + 1) (zR (.int .i64 ((m : Int) + 1))) = gsC (a ++ [(x, m + 1)]) := by
     rw [ea, show (m : Int) + 1 = ((m + 1 : Nat) : Int) by omega]
     have := zEo hget (m + 1)
     simp only [zZ, zR]
     rw [this]; simp
    simp only [hal]
    refine qI (uM rfl (uM rfl (uB (uBl rfl) ?_)))
    refine uB (uAs rfl rfl) ?_
    refine uB (uAi rfl rfl) ?_
    refine uB (uBf rfl) ?_
    refine uL ?_
    refine uB (uAa rfl rfl) ?_
    refine uB (uAi rfl rfl) ?_
    refine uB (uBf rfl) ?_
    refine uU (uJ ?_)
    refine qL (zK (qJ ?_))
    rw [hset]
    refine qI (uM rfl (uB (uAa rfl rfl) ?_))
    refine uA rfl (qL ?_)
    refine zU (ι := RnG) (j := ⟨k + 1 + 1, a ++ [(x, m + 1)], some ⟨g1, 0, none⟩, c1⟩) ⟨by simp only; omega, by simp only; rw [e1, qBi, ← hrs, qCh]⟩ (by simp only; omega) ⟨rfl, by simp only [List.length_append, List.length_singleton]; rfl, congrArg some (zY (by simp only; omega)), trivial⟩ ?_
    simp only [List.length_append, List.length_singleton]
    exact uI
   refine qI ?_
   refine uM rfl (uM rfl (uM rfl (uB (uAj rfl rfl) ?_)))
   refine uL ?_
   refine uB (qAe (hE.t rfl) rfl rfl) ?_
   refine uU ?_
   refine qV (hE.t rfl) (hE.t rfl) rfl rfl rfl (fun b41 => ?_)
   refine uU ?_
   apply zW (hE.t rfl) (hE.t rfl) rfl rfl rfl
   ·exact uK
   ·exact uK
   ·rfl
   ·rfl
   ·omega
   ·omega
   ·(unfold maxLen; omega)
   intro g42 c42 n42 x42 hn42 hx42
   refine uA rfl (qL (zK (qJ (qI (uM rfl (uB (uAa rfl rfl) ?_))))))
   refine uA rfl (qL ?_)
   subst hn42 hx42
   have hl2 : (a ++ [(y, m)] ++ [(x, 1)]).length = (a ++ [(y, m)]).length + 1 := by simp
   refine zU (ι := RnG) (j := ⟨k + 1 + 1, a ++ [(y, m)] ++ [(x, 1)], some ⟨g42, 0, none⟩, c42⟩) ⟨by simp only; omega, by simp only; rw [e1, qBi, ← hrs, qCu a (by omega)]⟩ (by simp only; omega) ⟨rfl, by simp only [hl2]; rfl, congrArg some (zY (by simp only; omega)), trivial⟩ ?_
   simp only [hl2]
   rw [qGk (a ++ [(y, m)])]
   exact uI
  obtain rfl : k = 0 := by omega
  obtain rfl : rs = [] := by rw [hrs]; rfl
  refine uR 3 rfl rfl rfl rfl ?_
  refine uR 4 rfl rfl rfl rfl ?_
  refine uR 5 rfl rfl rfl rfl ?_
  refine uR 6 rfl rfl rfl rfl ?_
  refine uR 7 rfl rfl rfl rfl ?_
  refine uR 8 rfl rfl rfl rfl ?_
  refine uR 9 rfl rfl rfl rfl ?_
  refine uR 10 rfl rfl rfl rfl ?_
  refine uR 11 rfl rfl rfl rfl ?_
  refine uR 12 rfl rfl rfl rfl ?_
  refine uD 13 rfl (qY rfl rfl) ?_
  refine qCz (by kernel_rfl) ?_
  refine qJ (zF rfl (qI (uM rfl (uM rfl (uM rfl (uB (uAj rfl rfl) ?_))))))
  refine uL ?_
  refine uB (qAe (hE.t rfl) rfl rfl) ?_
  refine uU ?_
  refine qV (hE.t rfl) (hE.t rfl) rfl rfl rfl (fun b41 => ?_)
  refine uU ?_
  apply zW (hE.t rfl) (hE.t rfl) rfl rfl rfl
  ·exact uK
  ·exact uK
  ·rfl
  ·rfl
  ·omega
  ·omega
  ·(unfold maxLen; omega)
  intro g42 c42 n42 x42 hn42 hx42
  refine uA rfl (qL (zK (qJ (qI (uM rfl (uB (uAa rfl rfl) ?_))))))
  refine uA rfl (qL ?_)
  subst hn42 hx42
  refine zU (ι := RnG) (j := ⟨1, [(x, 1)], some ⟨g42, 0, none⟩, c42⟩) ⟨by simp only; omega, by simp only; rw [e1]; rfl⟩ (by simp only; omega) ⟨rfl, rfl, congrArg some (zY (by simp only; omega)), trivial⟩ ?_
  exact uI
 obtain rfl : k = ids.length := by omega
 rw [List.take_length] at hrs
 subst hrs
 refine kM (qP (qP (zJ (qJ (qK (qI (uM rfl (uA rfl (qL (qJ (kD ?_)))))))))))
 exact uZ rfl (.tmp rfl .nil) ⟨p1, c1, rfl, rfl⟩
end
section
variable {E : Env} {L : List Rl}
structure RfG where
 k : Nat
 M : List Rl
 p : Option Addr
 c : Nat
 out : List Nat
 po : Option Addr
 co : Nat
theorem qZg (hE : Seat E) (hw : Wf L) {pq c cs lv : Nat} {p ps : Option Addr} {sq : List Nat} (hL : L.length + sq.length ≤ 100000) (hs : ∀ x ∈ sq, 1 ≤ x ∧ x ≤ L.length) (hln : ∀ x t, (x, t) ∈ kL sq → len L x * t ≤ kJ) :
  Ct E 103 [uPt pq] [cells pq [.slice p (L.length + 1) c, .slice ps sq.length cs, .int .i64 (lv : Nat)] 99, sl p c 82 5 (L.length + 1) (ruC L), sl ps cs 37 1 sq.length (idC sq)]
   (fun v Q => ∃ M p' c' out po co, v = .tuple #[] ∧ Wf (L ++ M) ∧ Rns (L ++ M) (kL sq) out ∧ M.length + out.length ≤ sq.length ∧ Q = [cells pq [.slice p' ((L ++ M).length + 1) c', .slice po out.length co, .int .i64 (lv : Nat)] 99, sl p' c' 82 5 ((L ++ M).length + 1) (ruC (L ++ M)), sl po co 37 1 out.length (idC out)]) := by
 refine zQ (hE.fn Tryz.func103) rfl rfl rfl (fun R => ?_)
 simp only [qAa, uV, uW]
 refine qK (qI (uA rfl (qL (qJ (qK (qI (uM rfl (uB (zB rfl) ?_))))))))
 refine uB (uBf rfl) ?_
 refine uL ?_
 refine uX (qTf (p := ps) (c := cs) (ids := sq) hE (by omega)) rfl ?_
 rintro _ _ ⟨pg, cg, rfl, rfl⟩
 simp only [uV, uW]
 refine uA rfl (qL (qJ (qK (qK (qI (uA rfl (qL (qJ (zM ?_)))))))))
 have hfl := qCp sq
 have hrl := qDw sq
 have hmem : ∀ g ∈ kL sq, 1 ≤ g.1 ∧ g.1 ≤ L.length := fun g hg => by
  refine hs g.1 ?_
  have h1 := (qCv sq g hg).1
  obtain ⟨a, b, e⟩ := List.append_of_mem hg
  rw [← hfl, e, qBc]
  refine List.mem_append_right _ ?_
  show g.1 ∈ List.replicate g.2 g.1 ++ flat b
  exact List.mem_append_left _ (List.mem_replicate.2 ⟨by omega, rfl⟩)
 refine qCy (p := sl pg cg 170 2 (kL sq).length (gsC (kL sq))) uK (fun _ h => fun hpos => qAi h hpos) (fun hpg => ?_)
 refine qAc (fun x : RfG => [(0, uPt pq), (2, .slice x.po x.out.length x.co), (3, .slice pg (kL sq).length cg), (4, .int .i64 (x.k : Nat))]) (fun x => [cells pq [.slice x.p ((L ++ x.M).length + 1) x.c, .slice ps sq.length cs, .int .i64 (lv : Nat)] 99, sl x.p x.c 82 5 ((L ++ x.M).length + 1) (ruC (L ++ x.M)), sl pg cg 170 2 (kL sq).length (gsC (kL sq)), sl x.po x.co 37 1 x.out.length (idC x.out), R]) (fun x => (kL sq).length - x.k)
  (fun x => x.k ≤ (kL sq).length ∧ Wf (L ++ x.M) ∧ Rns (L ++ x.M) ((kL sq).take x.k) x.out ∧ x.M.length + x.out.length ≤ (flat ((kL sq).take x.k)).length) ⟨0, [], p, c, [], none, 0⟩ ⟨Nat.zero_le _, by simp only [List.append_nil]; exact hw, .nil, Nat.zero_le _⟩ ⟨rfl, rfl, rfl, rfl, trivial⟩ ?_ ?_
 ·rw [List.append_nil]
  apply kG (qBw (t := 37) (sz := 1))
  exact uI
 rintro ⟨k, M, p1, c1, out, po, co⟩ ⟨hk, hwM, hr, hlen⟩
 simp only at hk hwM hr hlen ⊢
 have hflat : (flat ((kL sq).take k)).length ≤ sq.length := by
  have e : flat (kL sq) = flat ((kL sq).take k) ++ flat ((kL sq).drop k) := by rw [← qBc, List.take_append_drop]
  rw [hfl] at e
  have := congrArg List.length e
  rw [List.length_append] at this
  omega
 have hLM : (L ++ M).length = L.length + M.length := List.length_append
 refine qK (qK (qI (uM rfl (uM rfl (uB (uBl rfl) ?_)))))
 refine uB (y_lt rfl rfl) ?_
 refine qL (qJ ?_)
 refine zG rfl (fun h => ?_) (fun h => ?_)
 ·have hkn : k < (kL sq).length := by omega
  obtain ⟨⟨x, t⟩, hx⟩ : ∃ x, (kL sq)[k]? = some x := ⟨_, List.getElem?_eq_getElem hkn⟩
  have hxm := List.mem_of_getElem? hx
  have hx1 := hmem _ hxm
  have ht1 := (qCv sq _ hxm).1
  have ht2 := (qCv sq _ hxm).2
  simp only at hx1 ht1 ht2
  have e1 : (kL sq).take (k + 1) = (kL sq).take k ++ [(x, t)] := by rw [List.take_add_one, hx]; rfl
  have e2 : (flat ((kL sq).take (k + 1))).length = (flat ((kL sq).take k)).length + t := by rw [e1, qBc]; simp [flat]
  obtain ⟨g, rfl⟩ := hpg (by omega)
  have f0 := (qGz hx).1
  have f1 := (qGz hx).2
  simp only at f0 f1
  have f2 : (gsC (kL sq))[0 + ((k : Nat) : Int).toNat * 2]? = some (.int .i64 (x : Nat)) := by rw [show 0 + ((k : Nat) : Int).toNat * 2 = k * 2 by omega]; exact f0
  have f3 : (gsC (kL sq))[0 + ((k : Nat) : Int).toNat * 2 + 1]? = some (.int .i64 (t : Nat)) := by rw [show 0 + ((k : Nat) : Int).toNat * 2 = k * 2 by omega]; exact f1
  have f4 : (gsC (kL sq))[((k : Nat) : Int).toNat * 2]? = some (.int .i64 (x : Nat)) := by rw [show ((k : Nat) : Int).toNat * 2 = k * 2 by omega]; exact f0
  have f5 : (gsC (kL sq))[((k : Nat) : Int).toNat * 2 + 1]? = some (.int .i64 (t : Nat)) := by rw [show ((k : Nat) : Int).toNat * 2 = k * 2 by omega]; exact f1
  refine zD (qJ (qK (zM (qK (qI (uM rfl (uM rfl (uB (uAi rfl rfl) ?_))))))))
  refine uB (uBf rfl) ?_
  refine uL ?_
  refine uB (y_eq rfl rfl) ?_
  refine qL (qJ ?_)
  refine zG rfl (fun h1 => ?_) (fun h1 => ?_)
  ·obtain rfl : t = 1 := by omega
   refine qI (uM rfl (uM rfl (uM rfl (uB (uAi rfl rfl) ?_))))
   refine uB (uBf rfl) ?_
   refine uL ?_
   refine uU ?_
   refine qV (hE.t rfl) (hE.t rfl) rfl rfl rfl (fun b28 => ?_)
   refine uU ?_
   apply zW (hE.t rfl) (hE.t rfl) rfl rfl rfl
   ·exact uK
   ·exact uK
   ·rfl
   ·rfl
   ·omega
   ·omega
   ·(unfold maxLen; omega)
   intro g29 c29 n29 x29 hn29 hx29
   refine uA rfl (qL (zK (qJ (qI (uM rfl (uB (uAa rfl rfl) ?_))))))
   refine uA rfl (qL ?_)
   subst hn29 hx29
   have hol : (out ++ [x]).length = out.length + 1 := by simp
   refine zU (ι := RfG) (j := ⟨k + 1, M, p1, c1, out ++ [x], some ⟨g29, 0, none⟩, c29⟩) ⟨by simp only; omega, hwM, by simp only [e1]; exact .snoc hr (.inl ⟨rfl, rfl⟩), by simp only [hol, e2]; omega⟩ (by simp only; omega) ⟨rfl, by simp only [hol]; rfl, rfl, congrArg some (zY (by simp only; omega)), trivial⟩ ?_
   simp only [hol]
   rw [qBa]
   exact uI
  have h2 : 2 ≤ t := by omega
  refine uH ([sl (some ⟨g, 0, none⟩) cg 170 2 (kL sq).length (gsC (kL sq))]) ?_
  refine uD 0 rfl (qB rfl) ?_
  refine uD 1 rfl (qB rfl) ?_
  refine uD 2 rfl (qB rfl) ?_
  refine uD 3 rfl (qB rfl) ?_
  refine uD 4 rfl (uAi rfl rfl) ?_
  refine uD 5 rfl (uBf rfl) ?_
  refine uD 6 rfl (uY) ?_
  refine uD 7 rfl (qB rfl) ?_
  refine uD 8 rfl (qB rfl) ?_
  refine uD 9 rfl (uAi rfl rfl) ?_
  refine uD 10 rfl (uBf rfl) ?_
  refine uD 11 rfl (uY) ?_
  refine uD 12 rfl (qAe (hE.t rfl) rfl rfl) ?_
  apply kP 13 rfl (by kernel_rfl) rfl
  refine uC (qKx (r := .power x t) (pq := pq) (c := c1) (p := p1) (L := L ++ M) (x := .slice ps sq.length cs) (y := .int .i64 (lv : Nat)) hE hwM (by omega)) rfl ?_
  rintro _ _ ⟨N, id, p', c', rfl, hg, hN, hNr, rfl⟩
  simp only [uV, uW]
  refine uE ?_
  apply kP 14 rfl (by kernel_rfl) rfl
  refine qV (hE.t rfl) (hE.t rfl) rfl rfl rfl (fun b44 => ?_)
  refine uE ?_
  apply kP 15 rfl (by kernel_rfl) rfl
  apply zW (hE.t rfl) (hE.t rfl) rfl rfl rfl
  ·exact uK
  ·exact uK
  ·rfl
  ·rfl
  ·omega
  ·omega
  ·(unfold maxLen; omega)
  intro g45 c45 n45 x45 hn45 hx45
  refine uE ?_
  refine uD 16 rfl (qC rfl) ?_
  refine qCz (by kernel_rfl) ?_
  refine zK (qJ (qI (uM rfl (uB (uAa rfl rfl) ?_))))
  refine uA rfl (qL ?_)
  subst hn45 hx45
  rw [List.append_assoc] at hg ⊢
  have hwN : Wf (L ++ (M ++ N)) := by
   rcases hNr with rfl | ⟨h3, rfl⟩
   ·rw [List.append_nil]; exact hwM
   rw [← List.append_assoc]
   refine hwM.power h3 (by have : qAw = 1048576 := rfl; omega) (by omega) (by omega) (by omega) ?_
   rw [qNy _ hx1.2]
   exact hln x t hxm
  have hrN : Rns (L ++ (M ++ N)) ((kL sq).take k) out := by rw [← List.append_assoc]; exact hr.ext _
  have hol : (out ++ [id + 1]).length = out.length + 1 := by simp
  refine zU (ι := RfG) (j := ⟨k + 1, M ++ N, p', c', out ++ [id + 1], some ⟨g45, 0, none⟩, c45⟩) ⟨by simp only; omega, hwN, by simp only [e1]; exact .snoc hrN (.inr ⟨h2, id, rfl, hg⟩), by simp only [hol, e2, List.length_append]; omega⟩ (by simp only; omega) ⟨rfl, by simp only [hol]; rfl, rfl, congrArg some (zY (by simp only; omega)), trivial⟩ ?_
  simp only [hol]
  rw [qBa]
  exact uI
 obtain rfl : k = (kL sq).length := by omega
 rw [List.take_length] at hr hlen
 rw [hfl] at hlen
 refine kM (qP (qP (zJ (qJ (qI (uM rfl (uM rfl (uB (zB rfl) ?_))))))))
 refine uB (uBf rfl) ?_
 refine uU (uS ?_)
 refine qL ?_
 exact uZe rfl .nil ⟨M, p1, c1, out, po, co, rfl, hwM, hr, hlen, rfl⟩
end
section
variable {E : Env} {L : List Rl}
structure NxG where
 i : Nat
 M : List Rl
 p : Option Addr
 c : Nat
 out : List Nat
 po : Option Addr
 co : Nat
def NxI (L : List Rl) (c : Nat) (sq : List Nat) (x : NxG) : Prop := x.i ≤ sq.length ∧ Wf (L ++ x.M) ∧ (∀ N o, Pg (L ++ x.M ++ N) c (sq.drop x.i) o → Pg (L ++ x.M ++ N) c sq (x.out ++ o)) ∧ x.M.length + x.out.length ≤ x.i
theorem NxI.one {c : Nat} {sq : List Nat} {i : Nat} {M : List Rl} {p p' po po' : Option Addr} {cc c' co co' : Nat} {out : List Nat} (h : NxI L c sq ⟨i, M, p, cc, out, po, co⟩) {x : Nat} (hx : sq[i]? = some x) (hs : ∀ x ∈ sq, 1 ≤ x ∧ x ≤ L.length) (hn : ∀ y, sq[i + 1]? = some y → ¬ qAt c (key L x) (key L y)) : NxI L c sq ⟨i + 1, M, p', c', out ++ [x], po', co'⟩ := by
 obtain ⟨h1, h2, h3, h4⟩ := h
 simp only at h1 h2 h3 h4
 have hk : ∀ (N : List Rl) y, y ∈ sq → key (L ++ M ++ N) y = key L y := fun N y hy => by rw [List.append_assoc, qHq _ (hs y hy).2]
 have hi := (List.getElem?_eq_some_iff.1 hx).1
 refine ⟨by simp only; omega, h2, fun N o ho => ?_, by simp only [List.length_append, List.length_singleton]; omega⟩
 simp only at ho ⊢
 have := h3 N (x :: o) (by
  rw [qHa hx]
  refine .one (fun y hy => ?_) ho
  rw [List.head?_drop] at hy
  rw [hk N x (List.mem_of_getElem? hx), hk N y (List.mem_of_getElem? hy)]
  exact hn y hy)
 simpa using this
theorem NxI.two {c : Nat} {sq : List Nat} {i : Nat} {M : List Rl} {p p' po po' : Option Addr} {cc c' co co' : Nat} {out : List Nat} (h : NxI L c sq ⟨i, M, p, cc, out, po, co⟩) {x y : Nat} (hx : sq[i]? = some x) (hy : sq[i + 1]? = some y) (hs : ∀ x ∈ sq, 1 ≤ x ∧ x ≤ L.length) (hf : qAt c (key L x) (key L y)) {N : List Rl} {id : Nat} (hw : Wf (L ++ (M ++ N))) (hN : N.length ≤ 1) (hg : (L ++ (M ++ N))[id]? = some (.pair x y)) : NxI L c sq ⟨i + 1 + 1, M ++ N, p', c', out ++ [id + 1], po', co'⟩ := by
 obtain ⟨h1, h2, h3, h4⟩ := h
 simp only at h1 h2 h3 h4
 have hi := (List.getElem?_eq_some_iff.1 hy).1
 refine ⟨by simp only; omega, hw, fun N2 o ho => ?_, by simp only [List.length_append, List.length_singleton]; omega⟩
 simp only at ho ⊢
 have e : L ++ (M ++ N) ++ N2 = L ++ M ++ (N ++ N2) := by simp only [List.append_assoc]
 have hk : ∀ y, y ∈ sq → key (L ++ (M ++ N) ++ N2) y = key L y := fun y hy => by rw [List.append_assoc, qHq _ (hs y hy).2]
 have := h3 (N ++ N2) ((id + 1) :: o) (by
  rw [← e, qJb hx hy]
  refine .two ?_ ?_ ho
  ·rw [hk x (List.mem_of_getElem? hx), hk y (List.mem_of_getElem? hy)]; exact hf
  rw [List.getElem?_append_left (List.getElem?_eq_some_iff.1 hg).1]; exact hg)
 rw [e]
 simpa using this
theorem zAi (hE : Seat E) (hw : Wf L) {pq c cs lv : Nat} {p ps : Option Addr} {sq : List Nat} (hlv : lv < 500000000000) (hL : L.length + sq.length ≤ 100000) (hs : ∀ x ∈ sq, 1 ≤ x ∧ x ≤ L.length) (hln : ∀ x t, (x, t) ∈ kL sq → len L x * t ≤ kJ) (hlp : ∀ i x y, sq[i]? = some x → sq[i + 1]? = some y → len L x + len L y ≤ kJ) :
  Ct E 80 [uPt pq] [cells pq [.slice p (L.length + 1) c, .slice ps sq.length cs, .int .i64 ((lv : Nat) : Int)] 99, sl p c 82 5 (L.length + 1) (ruC L), sl ps cs 37 1 sq.length (idC sq)]
   (fun v Q => ∃ M p' c' out po co, v = .tuple #[] ∧ Wf (L ++ M) ∧ Sq (L ++ M) (lv + 1) sq out ∧ M.length + out.length ≤ sq.length ∧ Q = [cells pq [.slice p' ((L ++ M).length + 1) c', .slice po out.length co, .int .i64 (((lv + 1) : Nat) : Int)] 99, sl p' c' 82 5 ((L ++ M).length + 1) (ruC (L ++ M)), sl po co 37 1 out.length (idC out)]) := by
 refine qBt (p := sl ps cs 37 1 sq.length (idC sq)) uK (fun _ h => fun hpos => qAi h hpos) (fun hps => ?_)
 refine zQ (hE.fn Tryz.func80) rfl rfl rfl (fun R => ?_)
 simp only [qAa, uV, uW]
 refine qK (qI (uM rfl (uB (zB rfl) ?_)))
 refine uB (uBf rfl) ?_
 refine uL ?_
 refine uB (uAa rfl rfl) ?_
 refine l_eq 11 (.int .i64 ((lv + 1 : Nat) : Int)) rfl (zY (by omega)) ?_
 refine uB (zB rfl) ?_
 refine uB (uBf rfl) ?_
 refine uU (uS ?_)
 refine qL (qJ (qK (qK (qI (uM rfl (uB (zB rfl) ?_))))))
 refine uB (uBf rfl) ?_
 refine uL ?_
 refine uB (qIu rfl rfl (by omega) (by omega)) ?_
 refine uB (y_eq rfl rfl) ?_
 refine qL (qJ ?_)
 refine zG rfl (fun ho => ?_) (fun ho => ?_)
 ·refine qK (qI ?_)
  refine uM rfl (uX (qZg (c := c) (p := p) (ps := ps) (cs := cs) (lv := lv + 1) hE hw hL hs hln) rfl ?_)
  rintro _ _ ⟨M, p', c', out, po, co, rfl, hwM, hr, hlen, rfl⟩
  simp only [uV, uW]
  refine qL (qJ (kD (qW ?_)))
  exact uZe rfl .nil ⟨M, p', c', out, po, co, rfl, hwM, Stp.sq (.inl ⟨by omega, hr⟩), hlen, rfl⟩
 have hev : (lv + 1) % 2 = 0 := by omega
 refine zD (qJ (qK (qI (uM rfl (uB (zB rfl) ?_)))))
 refine uB (uBf rfl) ?_
 refine uL ?_
 refine uX (ct_rKeys (p := p) (c := c) hE hw (by omega)) rfl ?_
 rintro _ _ ⟨pk, ck, rfl, rfl⟩
 simp only [uV, uW]
 refine qOh (p := sl pk ck 199 2 (L.length + 1) (keC L (L.length + 1))) uK (fun _ h => qAi h (by omega)) ?_
 rintro ⟨gk, rfl⟩
 refine uA rfl (qL (qJ (qK (qI (uA rfl (qL (qJ (qK (qK (qI (uA rfl (qL (qJ (zM ?_))))))))))))))
 refine qAc (fun x : NxG => [(0, uPt pq), (2, .slice (some ⟨gk, 0, none⟩) (L.length + 1) ck), (3, .slice x.po x.out.length x.co), (4, .int .i64 (x.i : Nat))]) (fun x => [cells pq [.slice x.p ((L ++ x.M).length + 1) x.c, .slice ps sq.length cs, .int .i64 (((lv + 1) : Nat) : Int)] 99, sl x.p x.c 82 5 ((L ++ x.M).length + 1) (ruC (L ++ x.M)), sl (some ⟨gk, 0, none⟩) ck 199 2 (L.length + 1) (keC L (L.length + 1)), sl ps cs 37 1 sq.length (idC sq), sl x.po x.co 37 1 x.out.length (idC x.out), R]) (fun x => sq.length - x.i)
  (NxI L (num (lv + 1)) sq) ⟨0, [], p, c, [], none, 0⟩ ⟨Nat.zero_le _, by simp only [List.append_nil]; exact hw, fun N o ho => by simpa using ho, Nat.zero_le _⟩ ⟨rfl, rfl, rfl, rfl, trivial⟩ ?_ ?_
 ·rw [List.append_nil]
  apply kG (qBw (t := 37) (sz := 1))
  exact uI
 rintro ⟨i, M, p1, c1, out, po, co⟩ hI
 have hii := hI.1
 have hwM := hI.2.1
 have hMo := hI.2.2.2
 simp only at hii hwM hMo ⊢
 have hLM : (L ++ M).length = L.length + M.length := List.length_append
 refine qK (qK (qI (uM rfl (uM rfl (uB (zB rfl) ?_)))))
 refine uB (uBf rfl) ?_
 refine uL ?_
 refine uB (uBl rfl) ?_
 refine uB (y_lt rfl rfl) ?_
 refine qL (qJ ?_)
 refine zG rfl (fun h => ?_) (fun h => ?_)
 ·have hil : i < sq.length := by omega
  obtain ⟨gs, rfl⟩ := hps (by omega)
  obtain ⟨x, hx⟩ : ∃ x, sq[i]? = some x := ⟨_, List.getElem?_eq_getElem hil⟩
  have hxs := hs x (List.mem_of_getElem? hx)
  have f0 := qAl hx (0 + ((i : Nat) : Int).toNat) (by omega)
  have f1 := qAl hx (((i : Nat) : Int).toNat) (by omega)
  refine zD (qJ (qK (zM (qK (qI (uM rfl (uB (zB rfl) ?_)))))))
  refine uB (uBf rfl) ?_
  refine uL ?_
  refine uM rfl (uB (uAj rfl rfl) ?_)
  refine uL ?_
  refine uA rfl (qL (qJ (qK (qK (qI (uM rfl (uB (uAa rfl rfl) ?_)))))))
  refine uM rfl (uB (zB rfl) ?_)
  refine uB (uBf rfl) ?_
  refine uL ?_
  refine uB (uBl rfl) ?_
  refine uB (y_lt rfl rfl) ?_
  refine qL (qJ ?_)
  refine zG rfl (fun h2 => ?_) (fun h2 => ?_)
  ·obtain ⟨y, hy⟩ : ∃ x, sq[i + 1]? = some x := ⟨_, List.getElem?_eq_getElem (by omega)⟩
   have hys := hs y (List.mem_of_getElem? hy)
   have f2 := qAl hy (0 + (((i : Nat) : Int) + 1).toNat) (by omega)
   have f3 := qAl hy ((((i : Nat) : Int) + 1).toNat) (by omega)
   have f4 := (qMw L (i := x) (n := L.length + 1) (by omega) (0 + ((x : Nat) : Int).toNat * 2) (by omega)).1
   have f5 := (qMw L (i := y) (n := L.length + 1) (by omega) (0 + ((y : Nat) : Int).toNat * 2) (by omega)).1
   have f6 := (qMw L (i := x) (n := L.length + 1) (by omega) (((x : Nat) : Int).toNat * 2) (by omega)).1
   have f7 := (qMw L (i := y) (n := L.length + 1) (by omega) (((y : Nat) : Int).toNat * 2) (by omega)).1
   refine qK (qI (uM rfl (uB (zB rfl) ?_)))
   refine uB (uBf rfl) ?_
   refine uL ?_
   refine uM rfl (uB (uAa rfl rfl) ?_)
   refine uB (uAj rfl rfl) ?_
   refine uL ?_
   refine uA rfl (qL (qJ (qK ?_)))
   refine uH ([sl (some ⟨gk, 0, none⟩) ck 199 2 (L.length + 1) (keC L (L.length + 1)), cells pq [.slice p1 ((L ++ M).length + 1) c1, .slice (some ⟨gs, 0, none⟩) sq.length cs, .int .i64 (((lv + 1) : Nat) : Int)] 99]) ?_
   refine uD 0 rfl (qB rfl) ?_
   refine uD 1 rfl (qB rfl) ?_
   refine uD 2 rfl (uAi rfl rfl) ?_
   refine uD 3 rfl (uBf rfl) ?_
   refine uD 4 rfl (uY) ?_
   refine uD 5 rfl (qB rfl) ?_
   refine uD 6 rfl (qB rfl) ?_
   refine uD 7 rfl (uAi rfl rfl) ?_
   refine uD 8 rfl (uBf rfl) ?_
   refine uD 9 rfl (uY) ?_
   refine uD 10 rfl (qB rfl) ?_
   refine uD 11 rfl (zB rfl) ?_
   refine uD 12 rfl (uBf rfl) ?_
   refine uD 13 rfl (uY) ?_
   apply kP 14 rfl (by kernel_rfl) rfl
   refine uC (qYe (l := lv + 1) (x := key L x) (y := key L y) hE (by omega)) rfl ?_
   rintro _ _ ⟨d, rfl, hd, rfl⟩
   simp only [uV, uW]
   refine uE ?_
   refine qCz (by kernel_rfl) ?_
   refine qJ ?_
   refine qIg rfl (fun h3 => ?_) (fun h3 => ?_)
   ·have hf := (hd.1 h3).2.2
    refine qK (qI (uM rfl (uM rfl (uM rfl (uM rfl (uB (qAe (hE.t rfl) rfl rfl) ?_))))))
    refine uX (qKx (r := .pair x y) (pq := pq) (c := c1) (p := p1) (L := L ++ M) (x := .slice (some ⟨gs, 0, none⟩) sq.length cs) (y := .int .i64 ((lv + 1 : Nat) : Int)) hE hwM (by omega)) rfl ?_
    rintro _ _ ⟨N, id, p', c', rfl, hg, hN, hNr, rfl⟩
    simp only [uV, uW]
    refine uU ?_
    refine qV (hE.t rfl) (hE.t rfl) rfl rfl rfl (fun b80 => ?_)
    refine uU ?_
    apply zW (hE.t rfl) (hE.t rfl) rfl rfl rfl
    ·exact uK
    ·exact uK
    ·rfl
    ·rfl
    ·omega
    ·omega
    ·(unfold maxLen; omega)
    intro g81 c81 n81 x81 hn81 hx81
    refine uA rfl (qL (qJ (qK (qI (uM rfl (uB (uAa rfl rfl) ?_))))))
    refine uA rfl (qL (qJ (kM (qP (zJ (qJ (qI (uM rfl (uB (uAa rfl rfl) ?_)))))))))
    refine uA rfl (qL ?_)
    subst hn81 hx81
    rw [List.append_assoc] at hg ⊢
    have hwN : Wf (L ++ (M ++ N)) := by
     rcases hNr with rfl | ⟨h4, rfl⟩
     ·rw [List.append_nil]; exact hwM
     rw [← List.append_assoc]
     refine hwM.pair h4 (by have : qAw = 1048576 := rfl; omega) (by omega) (by omega) (by omega) (by omega) ?_
     rw [qNy _ hxs.2, qNy _ hys.2]
     exact hlp i x y hx hy
    have hol : (out ++ [id + 1]).length = out.length + 1 := by simp
    refine zU (ι := NxG) (j := ⟨i + 1 + 1, M ++ N, p', c', out ++ [id + 1], some ⟨g81, 0, none⟩, c81⟩) (hI.two hx hy hs hf hwN hN hg) (by simp only; omega) ⟨rfl, rfl, by simp only [hol]; rfl, congrArg some (zY (by simp only; omega)), trivial⟩ ?_
    simp only [hol]
    rw [qBa]
    exact uI
   have hnf : ∀ z, sq[i + 1]? = some z → ¬ qAt (num (lv + 1)) (key L x) (key L z) := fun z hz hf => by
    rw [hy] at hz
    cases hz
    have := hd.2 ⟨by omega, hev, hf⟩
    rw [h3] at this
    cases this
   refine zD (qJ (qI (uM rfl (uM rfl (uU ?_)))))
   refine qV (hE.t rfl) (hE.t rfl) rfl rfl rfl (fun b86 => ?_)
   refine uU ?_
   apply zW (hE.t rfl) (hE.t rfl) rfl rfl rfl
   ·exact uK
   ·exact uK
   ·rfl
   ·rfl
   ·omega
   ·omega
   ·(unfold maxLen; omega)
   intro g87 c87 n87 x87 hn87 hx87
   refine uA rfl (qL (zK (qJ (qI (uM rfl (uB (uAa rfl rfl) ?_))))))
   refine uA rfl (qL ?_)
   subst hn87 hx87
   have hol : (out ++ [x]).length = out.length + 1 := by simp
   refine zU (ι := NxG) (j := ⟨i + 1, M, p1, c1, out ++ [x], some ⟨g87, 0, none⟩, c87⟩) (hI.one hx hs hnf) (by simp only; omega) ⟨rfl, rfl, by simp only [hol]; rfl, congrArg some (zY (by simp only; omega)), trivial⟩ ?_
   simp only [hol]
   rw [qBa]
   exact uI
  have hnf : ∀ z, sq[i + 1]? = some z → ¬ qAt (num (lv + 1)) (key L x) (key L z) := fun z hz _ => by
   have := (List.getElem?_eq_some_iff.1 hz).1
   omega
  refine zD (qJ (qI (uM rfl (uM rfl (uU ?_)))))
  refine qV (hE.t rfl) (hE.t rfl) rfl rfl rfl (fun b86 => ?_)
  refine uU ?_
  apply zW (hE.t rfl) (hE.t rfl) rfl rfl rfl
  ·exact uK
  ·exact uK
  ·rfl
  ·rfl
  ·omega
  ·omega
  ·(unfold maxLen; omega)
  intro g87 c87 n87 x87 hn87 hx87
  refine uA rfl (qL (zK (qJ (qI (uM rfl (uB (uAa rfl rfl) ?_))))))
  refine uA rfl (qL ?_)
  subst hn87 hx87
  have hol : (out ++ [x]).length = out.length + 1 := by simp
  refine zU (ι := NxG) (j := ⟨i + 1, M, p1, c1, out ++ [x], some ⟨g87, 0, none⟩, c87⟩) (hI.one hx hs hnf) (by simp only; omega) ⟨rfl, rfl, by simp only [hol]; rfl, congrArg some (zY (by simp only; omega)), trivial⟩ ?_
  simp only [hol]
  rw [qBa]
  exact uI
 obtain rfl : i = sq.length := by omega
 have hpg : Pg (L ++ M) (num (lv + 1)) sq out := by
  have := hI.2.2.1 [] [] (by simp only [List.drop_length]; exact .nil)
  simpa using this
 refine kM (qP (qP (zJ (qJ (qI (uM rfl (uM rfl (uB (zB rfl) ?_))))))))
 refine uB (uBf rfl) ?_
 refine uU (uS ?_)
 refine qL ?_
 apply qWq
 ·rfl
 ·(exact Rs.nil)
 ·refine ⟨M, p1, c1, out, po, co, rfl, hwM, ?_, hMo, rfl⟩
  unfold Sq
  rw [if_neg (by omega)]
  exact hpg
 exact uI
end
end Go.Proofs.YtkkjjablmmmmkaaGreatDoor
