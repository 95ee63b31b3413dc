import Derived.Test.YtddfnkijolfhbaaGreatQ13
set_option linter.all false
set_option maxHeartbeats 1000000
namespace Sl
section
open Go Go.RowKit
def setM (k : Int) (u : Value) : List (Int × Value) → List (Int × Value)
 | [] => []
 | p :: l => if p.1 = k then (k, u) :: l else p :: setM k u l
theorem qNm {k : Int} {u v : Value} : ∀ {M : List (Int × Value)}, M.lookup k = some v → (setM k u M).lookup k = some u
 | [], h => by cases h
 | (a, b) :: M, h => by
  unfold setM
  by_cases e : a = k
  ·rw [if_pos e]; simp [List.lookup]
  have e' : (k == a) = false := by simp; omega
  rw [if_neg e]
  simp only [List.lookup, e'] at h ⊢
  exact qNm h
theorem qKg {k x : Int} {u : Value} (hx : x ≠ k) : ∀ {M : List (Int × Value)}, (setM k u M).lookup x = M.lookup x
 | [] => rfl
 | (a, b) :: M => by
  unfold setM
  by_cases e : a = k
  ·have e' : (x == k) = false := by simpa using hx
   subst e
   rw [if_pos rfl]
   simp only [List.lookup, e']
  rw [if_neg e]
  simp only [List.lookup]
  rw [qKg hx]
def ents (es : List MapEntry) : List (Value × Value) := es.map fun e => (e.key, e.val)
def prs (ki : IntKind) (M : List (Int × Value)) : List (Value × Value) := M.map fun p => (Value.int ki p.1, p.2)
theorem qIz {ki : IntKind} {k : Int} : ∀ (M : List (Int × Value)) (es : List MapEntry) (j : Nat), ents es = prs ki M →
  (M.lookup k = none ∧ Instr.findNow (.int ki) (.int ki k) es j = some none) ∨ (∃ v i e, M.lookup k = some v ∧ Instr.findNow (.int ki) (.int ki k) es j = some (some (j + i, v)) ∧ es[i]? = some e ∧ e.key = .int ki k ∧ ∀ u, ents (es.modify i (fun e => { e with key := .int ki k, val := u })) = prs ki (setM k u M))
 | [], [], j, _ => .inl ⟨rfl, rfl⟩
 | [], e :: es, j, h => by simp [ents, prs] at h
 | p :: M, [], j, h => by simp [ents, prs] at h
 | (a, b) :: M, e :: es, j, h => by
  simp only [ents, prs, List.map_cons, List.cons.injEq, Prod.mk.injEq] at h
  obtain ⟨⟨h1, h2⟩, h3⟩ := h
  by_cases hk : k = a
  ·subst hk
   refine .inr ⟨b, 0, e, by simp [List.lookup], ?_, rfl, h1, fun u => ?_⟩
   ·simp [Instr.findNow, h1, h2, Instr.sameNow]
   simp only [ents, prs, setM, if_true, List.modify_zero_cons, List.map_cons]
   rw [h3]
  have hb : (k == a) = false := by simpa using hk
  have hstep : ∀ j, Instr.findNow (.int ki) (.int ki k) (e :: es) j = Instr.findNow (.int ki) (.int ki k) es (j + 1) := fun j => by simp [Instr.findNow, h1, Instr.sameNow, hb]
  rcases qIz (k := k) M es (j + 1) h3 with ⟨g1, g2⟩ | ⟨v, i, e', g1, g2, g3, g4, g5⟩
  ·exact .inl ⟨by simp only [List.lookup, hb]; exact g1, by rw [hstep]; exact g2⟩
  refine .inr ⟨v, i + 1, e', by simp only [List.lookup, hb]; exact g1, by rw [hstep, g2]; congr 3; omega, by simpa using g3, g4, fun u => ?_⟩
  have := g5 u
  simp only [ents, prs, setM, if_neg (Ne.symm hk), List.modify_succ_cons, List.map_cons, h1, h2] at this ⊢
  rw [this]
structure Mp (ki : IntKind) (es : List MapEntry) (c : Nat) (M : List (Int × Value)) : Prop where
 is : ents es = prs ki M
 keys : (M.map (·.1)).Nodup
 born : (es.map (·.born)).Nodup
 old : ∀ e ∈ es, e.born < c
theorem Mp.nil {ki : IntKind} : Mp ki [] 0 [] := ⟨rfl, .nil, .nil, fun e h => by cases h⟩
theorem qSr {k : Int} : ∀ {M : List (Int × Value)}, M.lookup k = none → k ∉ M.map (·.1)
 | [], _, h => by cases h
 | (a, b) :: M, h, h' => by
  by_cases e : k = a
  ·subst e; simp [List.lookup] at h
  have e' : (k == a) = false := by simpa using e
  simp only [List.lookup, e'] at h
  rcases List.mem_cons.1 h' with h' | h'
  ·exact e h'
  exact qSr h h'
theorem qTa {k : Int} {u : Value} : ∀ {M : List (Int × Value)}, (setM k u M).map (·.1) = M.map (·.1)
 | [] => rfl
 | (a, b) :: M => by
  unfold setM
  by_cases e : a = k
  ·rw [if_pos e]; simp [e]
  rw [if_neg e, List.map_cons, List.map_cons, qTa]
theorem Mp.push {ki : IntKind} {es : List MapEntry} {c : Nat} {M : List (Int × Value)} (h : Mp ki es c M) {k : Int} (u : Value) (hk : M.lookup k = none) : Mp ki (es ++ [{ key := .int ki k, val := u, born := c }]) (c + 1) (M ++ [(k, u)]) := by
 refine ⟨?_, ?_, ?_, fun e he => ?_⟩
 ·have := h.is
  simp [ents, prs] at this ⊢
  exact this
 ·rw [List.map_append, List.nodup_append]
  refine ⟨h.keys, by simp, fun a ha b hb => ?_⟩
  simp at hb
  subst hb
  exact fun e => qSr hk (by rw [← e]; exact ha)
 ·rw [List.map_append, List.nodup_append]
  refine ⟨h.born, by simp, fun a ha b hb => ?_⟩
  simp at hb
  subst hb
  obtain ⟨e, he, rfl⟩ := List.mem_map.1 ha
  have := h.old e he
  omega
 rcases List.mem_append.1 he with he | he
 ·have := h.old e he; omega
 simp at he; subst he; simp
theorem Mp.modify {ki : IntKind} {es : List MapEntry} {c : Nat} {M : List (Int × Value)} (h : Mp ki es c M) {k : Int} {u : Value} {i : Nat} (he : ents (es.modify i (fun e => { e with key := .int ki k, val := u })) = prs ki (setM k u M)) : Mp ki (es.modify i (fun e => { e with key := .int ki k, val := u })) c (setM k u M) := by
 have hb : (es.modify i (fun e => { e with key := Value.int ki k, val := u })).map (·.born) = es.map (·.born) := by
  apply List.ext_getElem?
  intro j
  simp only [List.getElem?_map, List.getElem?_modify]
  cases es[j]? with
  | none => rfl
  | some e => by_cases hj : i = j <;> simp [hj]
 refine ⟨he, by rw [qTa]; exact h.keys, by rw [hb]; exact h.born, fun e hm => ?_⟩
 have h1 : e.born ∈ (es.modify i (fun e => { e with key := Value.int ki k, val := u })).map (·.born) := List.mem_map.2 ⟨e, hm, rfl⟩
 rw [hb] at h1
 obtain ⟨e2, h2, h3⟩ := List.mem_map.1 h1
 have := h.old e2 h2
 omega
def mapF (b : Nat) (ki : IntKind) (f : Int → Option Value) : HP := fun h => ∃ (es : Array MapEntry) (c : Nat) (M : List (Int × Value)), pt b (.map es c) h ∧ Mp ki es.toList c M ∧ ∀ k, M.lookup k = f k
variable {E : Env} {n : Nat} {L : Fr} {S S' H H' : List HP} {ty : TypeId} {pos : String} {af : Array Edge} {d : Option Nat} {gd : Option (Nat × Bool)} {K : Value → List HP → Prop}
theorem qCs {t : TypeId} (ki : IntKind) (hk : ∀ b, K (.map (some b)) (mapF b ki (fun _ => none) :: H)) : Ld E n L H ⟨d, .makeMap t none, ty, pos, af, gd⟩ K := fun Q next a w g hn => by
 have hrun : (execOp a.eval ⟨d, .makeMap t none, ty, pos, af, gd⟩).run E.P w = .ok (.value (.map (some w.heap.size))) (w.alloc (.map #[] 0)) := by
  simp [execOp, Instr.makeMap, newObj]
  rfl
 unfold Oper.wp
 rw [hrun, Oper.upon_value]
 exact hn _ _ _ (hk _) ((g.hp.new _).imp fun k h => qAp (fun k' h' => ⟨#[], 0, [], h', Mp.nil, fun _ => rfl⟩) h)
theorem qUz {w0 w : World} {b : Nat} {ki : IntKind} {f : Int → Option Value} (s : Sat w0 w (mapF b ki f :: H)) : ∃ es c M, w.heap[b]? = some (.map es c) ∧ Mp ki es.toList c M ∧ (∀ k, M.lookup k = f k) ∧ Sat w0 w (pt b (.map es c) :: H) := by
 obtain ⟨h1, h2, dd, e, ⟨es, c, M, hp, g1, g2⟩, hr⟩ := s.hp
 have s' : Sat w0 w (pt b (.map es c) :: H) := ⟨s.os, s.tape, s.output, s.size, s.old, h1, h2, dd, e, hp, hr⟩
 exact ⟨es, c, M, s'.ptr.1, g1, g2, s'⟩
theorem qBa {P : Program} {t : TypeId} {td : TypeDesc} (h : P.underlying t = some td) (w : World) : (underlying t).run P w = .ok td w := by simp [underlying, program, Sem.run, h]
theorem qGi {P : Program} {kt : TypeId} {ki : IntKind} (hk : P.underlying kt = some (.int ki)) (b : Bool) (x : Int) (w : World) : (Instr.checkKey b 10000 kt (.int ki x)).run P w = .ok () w := by
 show (Instr.checkKey b (9999 + 1) kt (.int ki x)).run P w = .ok () w
 unfold Instr.checkKey
 simp only [Sem.run_bind, qBa hk, Result.andThen_ok]
 rfl
def qIf (ok : Bool) (z : Value) (r : Option Value) : Value := if ok then .tuple #[r.getD z, .bool r.isSome] else r.getD z
theorem zCo {x y : Operand} {b : Nat} {t kt et : TypeId} {ki : IntKind} {f : Int → Option Value} {k : Int} {z : Value} {ok : Bool} {r : Option Value} (ht : E.P.underlying t = some (.map kt et)) (hkt : E.P.underlying kt = some (.int ki)) (hz : ∀ w, (zeroValue et).run E.P w = .ok z w) (hx : ev L x = some (.map (some b))) (hy : ev L y = some (.int ki k)) (hm : Take (mapF b ki f) S S') (hr : f k = r) :
  Yl E n L S ⟨d, .lookup t x y ok, ty, pos, af, gd⟩ (qIf ok z r) := fun a w g s => by
 obtain ⟨es, c, M, hh, he, hf, _⟩ := qUz (s.take hm)
 have hl : (Instr.lookup t (.map (some b)) (.int ki k) ok).run E.P w = .ok (qIf ok z r) w := by
  subst hr
  unfold Instr.lookup
  simp only [Sem.run_bind, qBa ht, Result.andThen_ok]
  simp only [getObj, Sem.run, hh]
  simp only [Result.andThen, Sem.run_bind, Sem.run_pure, qGi hkt, Instr.findKey, qBa hkt]
  rcases qIz (k := k) M es.toList 0 he.is with ⟨g1, g2⟩ | ⟨v, i, e, g1, g2, g3, g4, g5⟩
  ·rw [hf] at g1
   simp only [g2, Sem.run_pure, Result.andThen_ok, Sem.run_bind, hz, Result.andThen, qIf, g1]
   cases ok <;> rfl
  rw [hf] at g1
  simp only [g2, Sem.run_pure, Result.andThen_ok, Sem.run_bind, Result.andThen, qIf, g1]
  cases ok <;> rfl
 simp [execOp, g.ev hx, g.ev hy, hl]
theorem qNc {M : List (Int × Value)} {k x : Int} {v : Value} (h : M.lookup k = none) : (M ++ [(k, v)]).lookup x = if x = k then some v else M.lookup x := by
 induction M with
 | nil =>
  by_cases e : x = k
  ·subst e; simp [List.lookup]
  have e' : (x == k) = false := by simpa using e
  simp [List.lookup, e', e]
 | cons p M ih =>
  obtain ⟨a, b⟩ := p
  have hka : (k == a) = false := by
   by_cases e : k = a
   ·subst e; simp [List.lookup] at h
   simpa using e
  simp only [List.lookup, hka] at h
  simp only [List.cons_append, List.lookup]
  by_cases e : x = a
  ·subst e
   have : ¬ x = k := fun e => by subst e; simp at hka
   simp [this]
  have e' : (x == a) = false := by simpa using e
  simp only [e']
  exact ih h
def setF (f : Int → Option Value) (k : Int) (u : Value) : Int → Option Value := fun x => if x = k then some u else f x
theorem qJc {x y v : Operand} {b : Nat} {t kt et : TypeId} {ki : IntKind} {f : Int → Option Value} {k : Int} {u : Value} (ht : E.P.underlying t = some (.map kt et)) (hkt : E.P.underlying kt = some (.int ki)) (hx : ev L x = some (.map (some b))) (hy : ev L y = some (.int ki k)) (hv : ev L v = some u) (hm : Take (mapF b ki f) H H') (hk : K undef (mapF b ki (setF f k u) :: H')) :
  Ld E n L H ⟨d, .mapUpdate t x y v, ty, pos, af, gd⟩ K := fun Q next a w g hn => by
 obtain ⟨es, c, M, hh, he, hf, s1⟩ := qUz (g.hp.take hm)
 have hlt : b < w.heap.size := (Array.getElem?_eq_some_iff.1 hh).1
 obtain ⟨es', c', M', hrun, he', hf'⟩ : ∃ (es' : Array MapEntry) (c' : Nat) (M' : List (Int × Value)), (Instr.mapUpdate t (.map (some b)) (.int ki k) u).run E.P w = .ok () (ChangeMaps.setBlock w b (.map es' c')) ∧ Mp ki es'.toList c' M' ∧ ∀ x, M'.lookup x = setF f k u x := by
  rcases qIz (k := k) M es.toList 0 he.is with ⟨g1, g2⟩ | ⟨v0, i, e, g1, g2, g3, g4, g5⟩
  ·refine ⟨es.push { key := .int ki k, val := u, born := c }, c + 1, M ++ [(k, u)], ?_, by rw [Array.toList_push]; exact he.push u g1, fun x => ?_⟩
   ·unfold Instr.mapUpdate
    simp only [Sem.run_bind, qBa ht, Result.andThen_ok]
    simp only [getObj, Sem.run, hh]
    simp only [Result.andThen, Sem.run_bind, qGi hkt, Instr.findKey, qBa hkt, g2, Sem.run_pure]
    simp only [setObj, Sem.run]
    rw [hh]
    rfl
   rw [qNc g1, setF, hf]
  refine ⟨es.modify i fun e => { e with key := .int ki k, val := u }, c, setM k u M, ?_, by rw [Array.toList_modify]; exact he.modify (g5 u), fun x => ?_⟩
  ·have hs : Instr.sameBits 10000 (.int ki k) (.int ki k) = true := by simp [Instr.sameBits]
   have he2 : ((es[i]?).map (·.key)).getD (.int ki k) = .int ki k := by
    rw [← Array.getElem?_toList, g3]
    exact g4
   unfold Instr.mapUpdate
   simp only [Sem.run_bind, qBa ht, Result.andThen_ok]
   simp only [getObj, Sem.run, hh]
   simp only [Result.andThen, Sem.run_bind, qGi hkt, Instr.findKey, qBa hkt, g2, Sem.run_pure, Nat.zero_add, he2, Instr.keyThatStays, hs, if_true]
   simp only [setObj, Sem.run]
   rw [hh]
   rfl
  unfold setF
  by_cases e : x = k
  ·rw [if_pos e, e]; exact qNm g1
  rw [if_neg e, qKg e, hf]
 have hrun' : (execOp a.eval ⟨d, .mapUpdate t x y v, ty, pos, af, gd⟩).run E.P w = .ok .skip (ChangeMaps.setBlock w b (.map es' c')) := by
  simp [execOp, g.f.ev hx, g.f.ev hy, g.f.ev hv, hrun]
 unfold Oper.wp
 rw [hrun', Oper.upon_skip]
 have hs2 : Sat E.w0 (ChangeMaps.setBlock w b (.map es' c')) (pt b (.map es' c') :: H') := s1.write ⟨rfl, rfl, rfl, by simp [ChangeMaps.setBlock]⟩ (by simp [ChangeMaps.setBlock, hlt]) fun j hj => by
  simp only [ChangeMaps.setBlock]
  rw [Array.getElem?_setIfInBounds_ne (by intro e; exact hj e.symm)]
 exact hn _ _ _ hk (hs2.imp fun k' h => qAp (fun k'' h'' => ⟨es', c', M', h'', he', hf'⟩) h)
end
section
open Go Go.RowKit
variable {E : Env} {n : Nat} {L : Fr} {S H H' : List HP} {ty : TypeId} {pos : String} {af : Array Edge} {d : Option Nat} {gd : Option (Nat × Bool)} {K : Value → List HP → Prop}
theorem y_lt_str {x y : Operand} {xt yt : TypeId} {a b : List UInt8} (hx : ev L x = some (.string ⟨⟨a⟩⟩)) (hy : ev L y = some (.string ⟨⟨b⟩⟩)) :
  Yl E n L S ⟨d, .binOp .lss xt x y yt, ty, pos, af, gd⟩ (.bool (Op.bytesLess a b)) := fun a' w g _ => by
 simp [execOp, eqGuard, binOp, Op.stringOp, ByteArray.toList_eq, g.ev hx, g.ev hy]
end
end Sl
namespace Go.Proofs.YtddfnkijolfhbaaGreat
section
open Go Eg
def kids : Rl → List Nat
 | .letter _ => []
 | .pair a b => [a, b]
 | .power a _ => [a]
theorem qGa {r : Rl} {n : Nat} (h : r.ok n) : ∀ x ∈ kids r, 1 ≤ x ∧ x < n := by
 cases r <;> simp [kids, Rl.ok] at h ⊢ <;> omega
end
section
open Go Eg
inductive Rea (L : List Rl) : Nat → Nat → Prop where
 | self {n : Nat} (h : n < L.length) : Rea L (n + 1) (n + 1)
 | kid {n k x : Nat} {r : Rl} (h : L[n]? = some r) (hk : k ∈ kids r) (hx : Rea L k x) : Rea L (n + 1) x
def Closed (L : List Rl) (acc : List Nat) : Prop := ∀ n r, n + 1 ∈ acc → L[n]? = some r → ∀ k ∈ kids r, k ∈ acc
theorem qVu : ∀ {A B : List Nat}, A.Nodup → (∀ x ∈ A, x ∈ B) → A.length ≤ B.length
 | [], B, _, _ => Nat.zero_le _
 | a :: A, B, hn, h => by
  have ha := h a (by simp)
  have hn' := List.nodup_cons.1 hn
  have := qVu (A := A) (B := B.erase a) hn'.2 (fun x hx => by
   have hx' := h x (by simp [hx])
   have hne : x ≠ a := fun e => by subst e; exact hn'.1 hx
   exact (List.mem_erase_of_ne hne).2 hx')
  rw [List.length_erase_of_mem ha] at this
  have : 0 < B.length := List.length_pos_of_mem ha
  simp only [List.length_cons]
  omega
end
section
open Go Eg
def vput (n : Nat) : List UInt8 := if h : n < 128 then [UInt8.ofNat n] else UInt8.ofNat (n % 128 + 128) :: vput (n / 128)
termination_by n
decreasing_by omega
theorem qEm {n : Nat} (h : n < 128) : vput n = [UInt8.ofNat n] := by rw [vput, dif_pos h]
theorem qHa {n : Nat} (h : ¬ n < 128) : vput n = UInt8.ofNat (n % 128 + 128) :: vput (n / 128) := by rw [vput, dif_neg h]
theorem qWe : ∀ (k n : Nat), n < 128 ^ (k + 1) → (vput n).length ≤ k + 1
 | 0, n, h => by rw [qEm (by simpa using h)]; simp
 | k + 1, n, h => by
  by_cases hn : n < 128
  ·rw [qEm hn]; simp
  rw [qHa hn]
  have := qWe k (n / 128) (Nat.div_lt_of_lt_mul (by rw [Nat.pow_succ, Nat.mul_comm] at h; exact h))
  simp only [List.length_cons]; omega
theorem qBr {n : Nat} (h : n < 18446744073709551616) : (vput n).length ≤ 10 := qWe 9 n (by
 have : (128 : Nat) ^ (9 + 1) = 1180591620717411303424 := by decide
 omega)
theorem qCq (n : Nat) : 0 < (vput n).length := by
 by_cases hn : n < 128
 ·rw [qEm hn]; simp
 rw [qHa hn]; simp
def rulB (i : Nat) : Rl → List UInt8
 | .letter b => [1, b]
 | .pair l r => 2 :: (vput (i - l) ++ vput (i - r))
 | .power l k => 3 :: (vput (i - l) ++ vput (k - 2))
def numb : List Nat → Nat → Nat
 | [], _ => 0
 | y :: l, x => if y = x then 1 else if numb l x = 0 then 0 else numb l x + 1
theorem qBl : ∀ {l : List Nat} {x : Nat}, numb l x = 0 ↔ x ∉ l
 | [], x => by simp [numb]
 | y :: l, x => by
  unfold numb
  by_cases h : y = x
  ·subst h; simp
  have := qBl (l := l) (x := x)
  rw [if_neg h]
  have h' : ¬ x = y := fun e => h e.symm
  split
  ·rename_i hz
   simp [h', this.1 hz]
  rename_i hz
  have : x ∈ l := Classical.byContradiction fun hn => hz (this.2 hn)
  simp [this]
theorem qIi : ∀ (l : List Nat) (x : Nat), numb l x ≤ l.length
 | [], _ => by simp [numb]
 | y :: l, x => by
  have := qIi l x
  unfold numb
  split
  ·simp
  split <;> simp <;> omega
theorem qIh : ∀ {l : List Nat} {x : Nat}, x ∈ l → l[numb l x - 1]? = some x
 | y :: l, x, h => by
  unfold numb
  by_cases e : y = x
  ·subst e; simp
  have hm : x ∈ l := by rcases List.mem_cons.1 h with h | h; exact absurd h.symm e; exact h
  have hz : numb l x ≠ 0 := fun hz => qBl.1 hz hm
  rw [if_neg e, if_neg hz, show numb l x + 1 - 1 = (numb l x - 1) + 1 by omega, List.getElem?_cons_succ]
  exact qIh hm
theorem qGb {l m : List Nat} {x : Nat} (h : x ∈ l) : numb (l ++ m) x = numb l x := by
 induction l with
 | nil => simp at h
 | cons y l ih =>
  simp only [List.cons_append, numb]
  by_cases e : y = x
  ·rw [if_pos e, if_pos e]
  rw [if_neg e, if_neg e, ih (by rcases List.mem_cons.1 h with h | h; exact absurd h.symm e; exact h)]
theorem zAx {l : List Nat} {x : Nat} (h : x ∉ l) : numb (l ++ [x]) x = l.length + 1 := by
 induction l with
 | nil => simp [numb]
 | cons y l ih =>
  have h1 : ¬ y = x := fun e => h (by simp [e])
  have := ih (fun hm => h (by simp [hm]))
  simp only [List.cons_append, numb, if_neg h1, this, List.length_cons]
  rw [if_neg (by omega)]
theorem qXx {l : List Nat} {x y : Nat} (h : y ≠ x) : numb (l ++ [x]) y = numb l y := by
 by_cases hm : y ∈ l
 ·exact qGb hm
 rw [qBl.2 hm, qBl]; simp [hm, h]
def qCb (ids : List Nat) : Rl → Rl
 | .letter b => .letter b
 | .pair l r => .pair (numb ids l) (numb ids r)
 | .power x k => .power (numb ids x) k
def Odr (L : List Rl) (acc : List Nat) : Prop := ∀ A n B r, acc = A ++ (n + 1) :: B → L[n]? = some r → ∀ k ∈ kids r, k ∈ A
theorem Odr.closed {L : List Rl} {acc : List Nat} (h : Odr L acc) : Closed L acc := fun n r hn hr k hk => by
 obtain ⟨A, B, e⟩ := List.append_of_mem hn
 rw [e]
 exact List.mem_append_left _ (h A n B r e hr k hk)
def encR (L : List Rl) (ids : List Nat) : Nat → List UInt8
 | 0 => []
 | i + 1 => encR L ids i ++ match ids[i]? with
  | some (n + 1) => match L[n]? with
   | some r => rulB (i + 1) (qCb ids r)
   | none => []
  | _ => []
theorem zAi {L : List Rl} {ids : List Nat} {i n : Nat} {r : Rl} (h : ids[i]? = some (n + 1)) (hr : L[n]? = some r) : encR L ids (i + 1) = encR L ids i ++ rulB (i + 1) (qCb ids r) := by
 rw [encR, h]
 simp only [hr]
end
section
open Go Go.RowKit Sl Eg
def spT (L : List Rl) : List (Nat × Nat) → List UInt8
 | [] => []
 | p :: st => spT L st ++ (List.replicate p.2 (txt L p.1)).flatten
def spM (L : List Rl) : List (Nat × Nat) → Nat
 | [] => 0
 | p :: st => spM L st + p.2 * (2 * len L p.1 - 1)
theorem qEk (L : List Rl) (a b : List (Nat × Nat)) : spT L (a ++ b) = spT L b ++ spT L a := by
 induction a with
 | nil => simp [spT]
 | cons p a ih => simp only [List.cons_append, spT, ih, List.append_assoc]
theorem qDw (L : List Rl) (a b : List (Nat × Nat)) : spM L (a ++ b) = spM L b + spM L a := by
 induction a with
 | nil => simp [spM]
 | cons p a ih => simp only [List.cons_append, spM, ih]; omega
theorem qQn (L : List Rl) (x : Nat) : spT L [(x, 1)] = txt L x := by simp [spT]
theorem qQm (L : List Rl) (x t : Nat) : spT L [(x, t)] = (List.replicate t (txt L x)).flatten := by simp [spT]
theorem qEz (L : List Rl) (x t : Nat) : spM L [(x, t)] = t * (2 * len L x - 1) := by simp [spM]
def qTc (st : List (Nat × Nat)) (x t : Nat) : List (Nat × Nat) := if t = 0 then st else st ++ [(x, t)]
theorem spT_pop (L : List Rl) (st : List (Nat × Nat)) (x t : Nat) : spT L (st ++ [(x, t + 1)]) = txt L x ++ spT L (qTc st x t) := by
 unfold qTc
 split
 ·subst t; rw [qEk, qQn]
 rw [qEk, qEk, qQm, qQm, List.replicate_succ, List.flatten_cons, List.append_assoc]
theorem spM_pop (L : List Rl) (st : List (Nat × Nat)) (x t : Nat) : spM L (st ++ [(x, t + 1)]) = (2 * len L x - 1) + spM L (qTc st x t) := by
 unfold qTc
 split
 ·subst t; rw [qDw, qEz]; omega
 rw [qDw, qDw, qEz, qEz, Nat.succ_mul]; omega
def SpOk (L : List Rl) (st : List (Nat × Nat)) : Prop := ∀ p ∈ st, 1 ≤ p.1 ∧ p.1 ≤ L.length ∧ 1 ≤ p.2
theorem SpOk.len {L : List Rl} (hw : Wf L) : ∀ {st : List (Nat × Nat)}, SpOk L st → st.length ≤ spM L st
 | [], _ => Nat.le_refl _
 | p :: st, h => by
  have h1 := h p (by simp)
  have h2 := SpOk.len hw (st := st) fun q hq => h q (by simp [hq])
  have h3 := hw.pos p.1 h1.1 h1.2.1
  have : 1 * 1 ≤ p.2 * (2 * Eg.len L p.1 - 1) := Nat.mul_le_mul h1.2.2 (by omega)
  simp only [spM, List.length_cons]
  omega
theorem SpOk.pop {L : List Rl} {st : List (Nat × Nat)} {x t : Nat} (h : SpOk L (st ++ [(x, t + 1)])) : SpOk L (qTc st x t) := by
 unfold qTc
 split
 ·exact fun p hp => h p (by simp [hp])
 intro p hp
 rcases List.mem_append.1 hp with hp | hp
 ·exact h p (by simp [hp])
 obtain rfl := List.mem_singleton.1 hp
 have := h (x, t + 1) (by simp)
 exact ⟨this.1, this.2.1, by simp only; omega⟩
theorem SpOk.push {L : List Rl} {st ps : List (Nat × Nat)} (h : SpOk L st) (hp : SpOk L ps) : SpOk L (st ++ ps) := fun p hp' => by
 rcases List.mem_append.1 hp' with h1 | h1
 ·exact h p h1
 exact hp p h1
theorem qWa {L : List Rl} (hw : Wf L) {n a b : Nat} (h : L[n]? = some (.pair a b)) (st : List (Nat × Nat)) : spM L (st ++ [(b, 1), (a, 1)]) < (2 * len L (n + 1) - 1) + spM L st ∧ spT L (st ++ [(b, 1), (a, 1)]) = txt L (n + 1) ++ spT L st := by
 have ho := hw.ok n _ h
 have e : len L (n + 1) = len L a + len L b := by unfold len; rw [qEa h ho, List.length_append]
 have hl := (List.getElem?_eq_some_iff.1 h).1
 have ho' := ho
 simp only [Rl.ok] at ho'
 have p1 := hw.pos a (by omega) (by omega)
 have p2 := hw.pos b (by omega) (by omega)
 constructor
 ·rw [qDw, show [(b, 1), (a, 1)] = [(b, 1)] ++ [(a, 1)] from rfl, qDw, qEz, qEz]; omega
 rw [qEk, show [(b, 1), (a, 1)] = [(b, 1)] ++ [(a, 1)] from rfl, qEk, qQn, qQn, qEa h ho]
theorem qTb {L : List Rl} (hw : Wf L) {n a k : Nat} (h : L[n]? = some (.power a k)) (st : List (Nat × Nat)) : spM L (st ++ [(a, k)]) < (2 * len L (n + 1) - 1) + spM L st ∧ spT L (st ++ [(a, k)]) = txt L (n + 1) ++ spT L st := by
 have ho := hw.ok n _ h
 have e : len L (n + 1) = k * len L a := by unfold len; rw [qDr h ho]; simp
 have hl := (List.getElem?_eq_some_iff.1 h).1
 have ho' := ho
 simp only [Rl.ok] at ho'
 have p1 := hw.pos a (by omega) (by omega)
 constructor
 ·rw [qDw, qEz, e]
  have h1 : k * (2 * len L a - 1) + k = 2 * (k * len L a) := by
   have : 2 * len L a = (2 * len L a - 1) + 1 := by omega
   rw [← Nat.mul_assoc, Nat.mul_comm 2 k, Nat.mul_assoc]
   generalize 2 * len L a - 1 = z at this ⊢
   rw [this, Nat.mul_add]; omega
  omega
 rw [qEk, qQm, qDr h ho]
end
end Go.Proofs.YtddfnkijolfhbaaGreat
