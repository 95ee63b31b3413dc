import Derived.Test.YtlleicanafioaaaDoorQ22
set_option linter.all false
set_option maxHeartbeats 1000000
namespace Go.Proofs.YtlleicanafioaaaDoor
section
open Go Go.RowKit Eg
set_option maxRecDepth 100000
variable {w w' : World} {tb s : Nat} {rv : Value} {L : List Rl} {K : List Bool}

def rc (L : List Rl) (i : Nat) (b : Bool) : List Value := if b then [.int .u64 (key L i : Nat), .int .i64 (lvl L i), .bool true] else [.int .u64 0, .int .i64 0, .bool false]
theorem qHg (L : List Rl) (i : Nat) (b : Bool) : (rc L i b).length = 3 := by unfold rc; split <;> rfl
def qBr (L : List Rl) : List Bool → Nat → List Value
 | [], _ => []
 | b :: K, i => rc L i b ++ qBr L K (i + 1)
theorem qTz (L : List Rl) (K M : List Bool) (i : Nat) : qBr L (K ++ M) i = qBr L K i ++ qBr L M (i + K.length) := by
 induction K generalizing i with
 | nil => simp [qBr]
 | cons b K ih => rw [List.cons_append, qBr, qBr, ih, List.append_assoc, List.length_cons, show i + 1 + K.length = i + (K.length + 1) by omega]
theorem qUb {j : Nat} {b : Bool} (h : K[j]? = some b) (i m : Nat) (hm : m < 3) : (qBr L K i)[j * 3 + m]? = (rc L (i + j) b)[m]? := by
 induction K generalizing i j with
 | nil => simp at h
 | cons a K ih =>
  rw [qBr]
  cases j with
  | zero =>
   obtain rfl : a = b := by simpa using h
   rw [List.getElem?_append_left (by rw [qHg]; omega), Nat.zero_mul, Nat.zero_add, Nat.add_zero]
  | succ j =>
   rw [List.getElem?_append_right (by rw [qHg]; omega), qHg, show (j + 1) * 3 + m - 3 = j * 3 + m by omega, ih (by simpa using h), show i + 1 + j = i + (j + 1) by omega]
theorem qUa {M : List Rl} {i : Nat} (h : i + K.length ≤ L.length + 1) : qBr (L ++ M) K i = qBr L K i := by
 induction K generalizing i with
 | nil => rfl
 | cons b K ih =>
  rw [List.length_cons] at h
  rw [qBr, qBr, ih (by omega)]
  congr 1
  unfold rc
  rw [qAi M (by omega), qCs M (by omega)]
theorem qVn (L : List Rl) (k i : Nat) : qBr L (List.replicate k false) i = (Builtin.zeroCells #[.int .u64 0, .int .i64 0, .bool false] k).toList := by
 induction k generalizing i with
 | zero => simp [qBr, Builtin.zeroCells]
 | succ k ih =>
  rw [List.replicate_succ, qBr, ih]
  have : (Builtin.zeroCells #[.int .u64 0, .int .i64 0, .bool false] (k + 1)).toList = [.int .u64 0, .int .i64 0, .bool false] ++ (Builtin.zeroCells #[.int .u64 0, .int .i64 0, .bool false] k).toList := by
   apply List.ext_getElem?
   intro j
   simp only [Builtin.zeroCells, Array.toList_map, Array.toList_range, List.getElem?_map]
   by_cases hj : j < 3
   ·rw [List.getElem?_append_left (by simpa using hj), List.getElem?_range (by simp; omega)]
    have : j = 0 ∨ j = 1 ∨ j = 2 := by omega
    rcases this with rfl | rfl | rfl <;> rfl
   rw [List.getElem?_append_right (by simp; omega)]
   by_cases hj2 : j < (k + 1) * 3
   ·rw [List.getElem?_range (by simpa using hj2)]
    simp only [List.length_cons, List.length_nil, List.getElem?_map]
    rw [List.getElem?_range (by simp; omega)]
    simp only [Option.map_some]
    congr 2
    simp
    omega
   rw [List.getElem?_eq_none (by simp; omega)]
   simp only [List.length_cons, List.length_nil, List.getElem?_map]
   rw [List.getElem?_eq_none (by simp; omega)]
  rw [this]
  rfl
theorem qUc {j : Nat} (h : j < K.length) (i : Nat) : qBr L (K.set j true) i = (((qBr L K i).set (j * 3) (.int .u64 (key L (i + j) : Nat))).set (j * 3 + 1) (.int .i64 (lvl L (i + j)))).set (j * 3 + 2) (.bool true) := by
 induction K generalizing i j with
 | nil => simp at h
 | cons a K ih =>
  cases j with
  | zero =>
   rw [List.set_cons_zero, qBr, qBr]
   have : ∃ x y z, rc L i a = [x, y, z] := by unfold rc; split <;> exact ⟨_, _, _, rfl⟩
   obtain ⟨x, y, z, e⟩ := this
   rw [e, Nat.add_zero]
   rfl
  | succ j =>
   rw [List.set_cons_succ, qBr, qBr, ih (by simpa using h)]
   have e : ∀ (n : Nat) (v : Value) (l : List Value), (rc L i a ++ l).set (n + 3) v = rc L i a ++ l.set n v := by
    intro n v l
    have : ∃ x y z, rc L i a = [x, y, z] := by unfold rc; split <;> exact ⟨_, _, _, rfl⟩
    obtain ⟨x, y, z, e⟩ := this
    rw [e]
    rfl
   rw [show (j + 1) * 3 = j * 3 + 3 by omega, e, show j * 3 + 3 + 1 = (j * 3 + 1) + 3 by omega, e, show j * 3 + 3 + 2 = (j * 3 + 2) + 3 by omega, e, show i + (j + 1) = i + 1 + j by omega]

structure TableAt (w : World) (tb s : Nat) (rv : Value) (L : List Rl) (K : List Bool) : Prop where
 top : Blk w tb [.pointer (some ⟨s, 0, none⟩), rv] 122
 row : w.ownsRow 0 125 3 rv K.length (qBr L K 0)
 klen : K.length ≤ L.length + 1
 k0 : K[0]? ≠ some true
def TFoot (tb : Nat) (rv : Value) (k : Nat) : Prop := k = tb ∨ rv.ownBlock = some k
theorem TableAt.slice (h : TableAt w tb s rv L K) : ∃ a c, rv = .slice a K.length c ∧ K.length ≤ c := by
 rcases h.row.2 with ⟨rfl, h0⟩ | ⟨g, cap, cur, rfl, _, _, hc, _⟩
 ·exact ⟨none, 0, by rw [h0], by omega⟩
 exact ⟨_, _, rfl, hc⟩
theorem TableAt.below (h : TableAt w tb s rv L K) (hb : Below w.heap.size w w') : TableAt w' tb s rv L K :=
 ⟨h.top.below hb h.top.lt, h.row.kept (row := none) ⟨hb.os, hb.tape, hb.output, hb.size, fun k hk _ => hb.block k hk⟩ (by cases hv : rv.ownBlock <;> simp), h.klen, h.k0⟩
theorem TableAt.ext (h : TableAt w tb s rv L K) (M : List Rl) : TableAt w tb s rv (L ++ M) K :=
 ⟨h.top, by rw [qUa (by have := h.klen; omega)]; exact h.row, by have := h.klen; simp; omega, h.k0⟩
theorem TableAt.cell (h : TableAt w tb s rv L K) {j : Nat} {b : Bool} (hj : K[j]? = some b) :
  ∃ g c, rv = .slice (some ⟨g, 0, none⟩) K.length c ∧ K.length ≤ c ∧ g < w.heap.size ∧ ∀ m v, (rc L j b)[m]? = some v → w.cell? ⟨g, j * 3 + m, none⟩ = some v := by
 have hlt : j < K.length := (List.getElem?_eq_some_iff.1 hj).1
 rcases h.row.2 with ⟨rfl, h0⟩ | ⟨g, cap, cur, rfl, _, hg, hc, _, _, ht⟩
 ·omega
 refine ⟨g, cap, rfl, hc, (Array.getElem?_eq_some_iff.1 hg).1, fun m v hm => ?_⟩
 have hm3 : m < 3 := by rw [← qHg L j b]; exact (List.getElem?_eq_some_iff.1 hm).1
 have := qUb (L := L) hj 0 m hm3
 rw [Nat.zero_add, hm, ← ht, List.getElem?_take] at this
 split at this
 ·rw [cell_of_row w g _ cur _ (0, 0) hg]; simpa using this
 cases this
theorem TableAt.apart (h : TableAt w tb s rv L K) {b : Nat} {o : Obj} (hb : w.heap[b]? = some o) (ho : ∀ c f, o ≠ .cells c 122 f ∧ o ≠ .cells c 125 f) : ¬ TFoot tb rv b := by
 rintro (rfl | hk)
 ·have := h.top; unfold Blk at this; rw [hb] at this; exact (ho _ _).1 (by simpa using this)
 rcases h.row.2 with ⟨h0, _⟩ | ⟨g, cap, cur, h0, _, hg, _⟩
 ·rw [h0] at hk; cases hk
 rw [h0] at hk
 obtain rfl : g = b := by simpa [Value.ownBlock] using hk
 rw [hb] at hg; exact (ho _ _).2 (by simpa using hg)
end
section
open Go Go.RowKit Eg
set_option maxRecDepth 100000
variable {w w' w1 : World} {tb s : Nat} {rv : Value} {L : List Rl} {K : List Bool}

theorem Upd.trans {F : Nat → Prop} (h : Upd F w w1) (k : Upd F w1 w') : Upd F w w' :=
 ⟨k.os.trans h.os, k.tape.trans h.tape, k.output.trans h.output, Nat.le_trans h.size k.size, fun i hi hF => (k.block i (Nat.lt_of_lt_of_le hi h.size) hF).trans (h.block i hi hF)⟩
theorem Upd.mono {F G : Nat → Prop} (h : Upd F w w') (hFG : ∀ k, k < w.heap.size → F k → G k) : Upd G w w' :=
 ⟨h.os, h.tape, h.output, h.size, fun k hk hG => h.block k hk (fun hF => hG (hFG k hk hF))⟩
theorem Upd.next {F G : Nat → Prop} (h : Upd F w w1) (k : Upd G w1 w') (hGF : ∀ i, i < w.heap.size → G i → F i) : Upd F w w' :=
 ⟨k.os.trans h.os, k.tape.trans h.tape, k.output.trans h.output, Nat.le_trans h.size k.size, fun i hi hF => (k.block i (Nat.lt_of_lt_of_le hi h.size) (fun hG => hF (hGF i hi hG))).trans (h.block i hi hF)⟩
theorem qUp (F : Nat → Prop) (h : Below w.heap.size w w') : Upd F w w' := ⟨h.os, h.tape, h.output, h.size, fun k hk _ => h.block k hk⟩
theorem qIx (w : World) (a : Addr) (v : Value) : Upd (fun k => k = a.block) w (w.setCell a v) :=
 ⟨rfl, rfl, rfl, by simp [World.setCell], fun k _ hk => Below.heap_setCell _ _ _ _ hk⟩
theorem qNr {F : Nat → Prop} {base : Nat} {e : TypeId} {size : Nat} {v : Value} {n : Nat} {xs : List Value} (h : w.ownsRow base e size v n xs) (hu : Upd F w w') (hF : ∀ g, v.ownBlock = some g → ¬ F g) : w'.ownsRow base e size v n xs := by
 refine ⟨h.1, ?_⟩
 rcases h.2 with h0 | ⟨g, cap, cur, h0, hb, hg, r⟩
 ·exact .inl h0
 refine .inr ⟨g, cap, cur, h0, hb, ?_, r⟩
 rw [hu.block g (Array.getElem?_eq_some_iff.1 hg).1 (hF g (by rw [h0]; rfl))]; exact hg
theorem qRa {base : Nat} {e e' : TypeId} {size : Nat} {v : Value} {n : Nat} {xs : List Value} (h : w.ownsRow base e size v n xs) {b : Nat} {c : Array Value} {f : Nat × Nat} (hb : w.heap[b]? = some (.cells c e' f)) (hne : e ≠ e') : v.ownBlock ≠ some b := by
 intro hv
 rcases h.2 with ⟨h0, _⟩ | ⟨g, cap, cur, h0, _, hg, _⟩
 ·rw [h0] at hv; cases hv
 rw [h0] at hv
 obtain rfl : g = b := by simpa [Value.ownBlock] using hv
 rw [hb] at hg; simp at hg; exact hne hg.2.1.symm
theorem TableAt.upd {F : Nat → Prop} (h : TableAt w tb s rv L K) (hu : Upd F w w') (h1 : ¬ F tb) (h2 : ∀ g, rv.ownBlock = some g → ¬ F g) : TableAt w' tb s rv L K :=
 ⟨h.top.upd hu h1, qNr h.row hu h2, h.klen, h.k0⟩
theorem qCl (g k : Nat) : (⟨g, 0, none⟩ : Addr).add k = ⟨g, k, none⟩ := by
 unfold Addr.add
 by_cases h : k = 0
 ·rw [if_pos h, h]
 rw [if_neg h]; simp
theorem qYl {T : List Nat} {n : Nat} (h : T.Pairwise (· > ·)) (h1 : ∀ x ∈ T, 1 ≤ x ∧ x ≤ n) : T.length ≤ n := by
 induction T generalizing n with
 | nil => simp
 | cons a T ih =>
  rw [List.pairwise_cons] at h
  have ha := h1 a (by simp)
  have := ih (n := a - 1) h.2 (fun x hx => ⟨(h1 x (by simp [hx])).1, by have := h.1 x hx; omega⟩)
  simp; omega
theorem upd_set3 (W : World) (B i j k : Nat) (a b c : Value) : Upd (fun n => n = B) W (((W.setCell ⟨B, i, none⟩ a).setCell ⟨B, j, none⟩ b).setCell ⟨B, k, none⟩ c) :=
 ((qIx W ⟨B, i, none⟩ a).trans (qIx _ ⟨B, j, none⟩ b)).trans (qIx _ ⟨B, k, none⟩ c)
theorem qIs {base : Nat} {e : TypeId} {size : Nat} {v : Value} {n : Nat} {xs : List Value} (h : w.ownsRow base e size v n xs) {g : Nat} (hv : v.ownBlock = some g) {j : Nat} (hj : j < n * size) (u : Value) : (w.setCell ⟨g, j, none⟩ u).ownsRow base e size v n (xs.set j u) := by
 refine ⟨by rw [List.length_set]; exact h.1, ?_⟩
 rcases h.2 with ⟨h0, _⟩ | ⟨g', cap, cur, h0, hb, hg, hn, hm, hc, ht⟩
 ·rw [h0] at hv; cases hv
 rw [h0] at hv
 obtain rfl : g' = g := by simpa [Value.ownBlock] using hv
 refine .inr ⟨g', cap, cur.setIfInBounds j u, h0, hb, ?_, hn, hm, by simpa using hc, ?_⟩
 ·simp [World.setCell, Array.getElem?_modify, hg]
 rw [← ht, Array.toList_setIfInBounds, List.take_set]
theorem TableAt.set (h : TableAt w tb s rv L K) {g j : Nat} (hv : rv.ownBlock = some g) (hj : j < K.length) (hj0 : j ≠ 0) :
  TableAt (((w.setCell ⟨g, j * 3, none⟩ (.int .u64 (key L j : Nat))).setCell ⟨g, j * 3 + 1, none⟩ (.int .i64 (lvl L j))).setCell ⟨g, j * 3 + 2, none⟩ (.bool true)) tb s rv L (K.set j true) := by
 have hgt : ¬ tb = g := by
  rintro rfl
  exact qRa h.row h.top (by decide) hv
 refine ⟨h.top.upd (upd_set3 w g _ _ _ _ _ _) hgt, ?_, by rw [List.length_set]; exact h.klen, by rw [List.getElem?_set_ne (by omega)]; exact h.k0⟩
 rw [List.length_set, qUc hj, Nat.zero_add]
 exact qIs (qIs (qIs h.row hv (by omega) _) hv (by omega) _) hv (by omega) _
def cntF : List Bool → Nat
 | [] => 0
 | b :: K => (if b then 0 else 1) + cntF K
theorem qLz {K : List Bool} {j : Nat} (h : K[j]? = some false) : cntF (K.set j true) + 1 = cntF K := by
 induction K generalizing j with
 | nil => simp at h
 | cons b K ih =>
  cases j with
  | zero =>
   obtain rfl : b = false := by simpa using h
   simp [cntF]; omega
  | succ j =>
   have := ih (j := j) (by simpa using h)
   simp only [List.set_cons_succ, cntF]; omega

structure RowSt (wB : World) (tb s : Nat) (rv : Value) (L : List Rl) (i N R : Nat) (T : List Nat) (K : List Bool) (v : Value) (wr : World) : Prop where
 own : wr.ownsRow 0 28 1 v T.length (T.map fun x => .int .i64 (x : Nat))
 tab : TableAt wr tb s rv L K
 klen : K.length = N
 dec : T.Pairwise (· > ·)
 unk : ∀ x ∈ T, K[x]? = some false ∧ 1 ≤ x ∧ x ≤ i + 1
 top : (T = [] ∧ K[i + 1]? = some true) ∨ T.head? = some (i + 1)
 res : Blk wr R [.int .u64 0, .int .i64 0, .bool false] 125
 upd : Upd (TFoot tb rv) wB wr
 fresh : ∀ k, v.ownBlock = some k → wB.heap.size ≤ k
theorem RowSt.below {wB wr : World} {i N R : Nat} {T : List Nat} {v : Value} (h : RowSt wB tb s rv L i N R T K v wr) (hb : Below wr.heap.size wr w1) : RowSt wB tb s rv L i N R T K v w1 :=
 ⟨qNr h.own (qUp (fun _ => False) hb) (fun _ _ h => h), h.tab.below hb, h.klen, h.dec, h.unk, h.top, h.res.below hb h.res.lt, h.upd.next (qUp (fun _ => False) hb) (fun _ _ h => h.elim), h.fresh⟩

end
end Go.Proofs.YtlleicanafioaaaDoor
namespace Eg
theorem qYx {L : List Rl} {i : Nat} {b : UInt8} (h : L[i]? = some (.letter b)) : len L (i + 1) = 1 := by rw [len, qIa h]; rfl
theorem len_pair {L : List Rl} {i l r : Nat} (h : L[i]? = some (.pair l r)) (hk : (Rl.pair l r).ok (i + 1)) : len L (i + 1) = len L l + len L r := by rw [len, qIb h hk]; simp [len]
theorem qNk {L : List Rl} {i x k : Nat} (h : L[i]? = some (.power x k)) (hk : (Rl.power x k).ok (i + 1)) : len L (i + 1) = k * len L x := by
 rw [len, qGa h hk]; simp [len, List.length_flatten]
theorem qVf {L : List Rl} (h : Wf L) : ∀ i, 1 ≤ i → i ≤ L.length → 1 ≤ len L i := by
 intro i
 induction i using Nat.strongRecOn with
 | ind i ih =>
  intro h1 h2
  obtain ⟨j, rfl⟩ : ∃ j, i = j + 1 := ⟨i - 1, by omega⟩
  have hj : L[j]? = some (L[j]'(by omega)) := List.getElem?_eq_getElem _
  generalize L[j]'(by omega) = r at hj
  have hok := h.ok j r hj
  cases r with
  | letter b => rw [qYx hj]; omega
  | pair l r =>
   rw [len_pair hj hok]
   obtain ⟨a, b, _, _⟩ := hok
   have := ih l (by omega) a (by omega)
   omega
  | power x k =>
   rw [qNk hj hok]
   obtain ⟨a, b, c⟩ := hok
   have := ih x (by omega) a (by omega)
   exact Nat.le_trans (by omega) (Nat.mul_le_mul (by omega : 1 ≤ k) this)
theorem power_le {L : List Rl} (h : Wf L) {i x k : Nat} (hi : L[i]? = some (.power x k)) : k ≤ kK := by
 have hok := h.ok i _ hi
 have h1 := qNk hi hok
 obtain ⟨a, b, c⟩ := hok
 have hlt := (List.getElem?_eq_some_iff.1 hi).1
 have h2 := qVf h x a (by omega)
 have h3 := h.short (i + 1)
 rw [h1] at h3
 exact Nat.le_trans (by simpa using Nat.mul_le_mul_left k h2) h3
end Eg
namespace Go.Proofs.YtlleicanafioaaaDoor
open Go Go.RowKit Sl Eg
variable {E : Env} {L : List Rl} {K : List Bool} {tb s g c : Nat}
def tabP (tb s : Nat) (L : List Rl) : HP := fun h => ∃ K p c, K.length ≤ L.length + 1 ∧ K[0]? ≠ some true ∧
 qAe [cells tb [uPt s, .slice p K.length c] 122, sl p c 125 3 K.length (qBr L K 0)] h
theorem qGu (M : List Rl) {h : PH} (ht : tabP tb s L h) : tabP tb s (L ++ M) h := by
 obtain ⟨K, p, c, h1, h2, h3⟩ := ht
 refine ⟨K, p, c, by simp; omega, h2, ?_⟩
 rw [qUa (by omega)]; exact h3
theorem qOa {j : Nat} {b : Bool} (h : K[j]? = some b) (m : Nat) (hm : m < 3) : (qBr L K 0)[j * 3 + m]? = (rc L j b)[m]? := by
 have := qUb (L := L) h 0 m hm
 rwa [Nat.zero_add] at this
theorem qPv {H H' : List HP} {p : Option Addr} {N : Nat} (hs : Sub [cells tb [uPt s, .slice p N c] 122, sl p c 125 3 N (qBr L K 0)] H H') (hN : K.length = N) (hK : N ≤ L.length + 1) (h0 : K[0]? ≠ some true) : ∀ k, qAe H k → qAe (tabP tb s L :: H') k := by
 subst hN
 exact ent_pack hs (fun _ h => ⟨K, p, c, hK, h0, h⟩)
structure Base (w : World) : Prop where
 tab : TabAt w
 pos : 0 < w.heap.size

theorem qYd (hE : Seat E) (hB : Base E.w0) (hwf : Wf L) {m : Nat} {r : Rl} (hr : L[m]? = some r) (hk0 : K[0]? = some false) (hl : r.left = 0 ∨ K[r.left]? = some true) (hrr : r.right = 0 ∨ K[r.right]? = some true) (hK : K.length ≤ L.length + 1) (hlen : L.length ≤ qAw) :
  Ct E 80 [uPt tb, .agg #[.int .i64 (Rl.kind (r) : Nat), .int .u8 (Rl.byte (r) : Nat), .int .i64 (Rl.left (r) : Nat), .int .i64 (Rl.right (r) : Nat), .int .i64 (Rl.times (r) : Nat)]]
   [cells tb [uPt s, .slice (some ⟨g, 0, none⟩) K.length c] 122, sl (some ⟨g, 0, none⟩) c 125 3 K.length (qBr L K 0)]
   (fun v Q => v = .agg #[.int .u64 (key L (m + 1) : Nat), .int .i64 (lvl L (m + 1)), .bool true] ∧ Q = [cells tb [uPt s, .slice (some ⟨g, 0, none⟩) K.length c] 122, sl (some ⟨g, 0, none⟩) c 125 3 K.length (qBr L K 0)]) := fun R w hs => by
 have hm := (List.getElem?_eq_some_iff.1 hr).1
 have hok := hwf.ok m r hr
 have hKl : 0 < K.length := (List.getElem?_eq_some_iff.1 hk0).1
 have s1 := hs
 have s2 : Sat E.w0 w (sl (some ⟨g, 0, none⟩) c 125 3 K.length (qBr L K 0) :: [R]) := hs.tail
 obtain ⟨cur, s3, hc1, _⟩ := s2.slice
 have hg := s3.ptr
 have htb := s1.ptr
 have hgl : g < w.heap.size := (Array.getElem?_eq_some_iff.1 hg.1).1
 have htl : tb < w.heap.size := (Array.getElem?_eq_some_iff.1 htb.1).1
 have t1 := s1.cell 1 rfl
 have hT : TabAt w := fun j hj => hs.old_cell (hB.tab j hj)
 have cell : ∀ j b, K[j]? = some b → ∀ k v, (rc L j b)[k]? = some v → w.cell? ⟨g, j * 3 + k, none⟩ = some v := fun j b hj k v hv => by
  have hk3 : k < 3 := by have := (List.getElem?_eq_some_iff.1 hv).1; rwa [qHg] at this
  exact HasC.cell (HasC.slice (by rw [qOa hj k hk3]; exact hv)) s2
 have hn : 0 < K.length ∧ K.length ≤ c ∧ K.length ≤ 1048577 := ⟨hKl, hc1, by unfold qAw at hlen; omega⟩
 have fin : ∀ v, Calls Tryd.prog 80 #[uPt tb, .agg #[.int .i64 (Rl.kind (r) : Nat), .int .u8 (Rl.byte (r) : Nat), .int .i64 (Rl.left (r) : Nat), .int .i64 (Rl.right (r) : Nat), .int .i64 (Rl.times (r) : Nat)]] w (fun e w' => e = .returned v ∧ Below w.heap.size w w') → v = .agg #[.int .u64 (key L (m + 1) : Nat), .int .i64 (lvl L (m + 1)), .bool true] →
   Calls E.P 80 ⟨[uPt tb, .agg #[.int .i64 (Rl.kind (r) : Nat), .int .u8 (Rl.byte (r) : Nat), .int .i64 (Rl.left (r) : Nat), .int .i64 (Rl.right (r) : Nat), .int .i64 (Rl.times (r) : Nat)]]⟩ w (fun e w' => ∃ v Qs, e = .returned v ∧ (v = .agg #[.int .u64 (key L (m + 1) : Nat), .int .i64 (lvl L (m + 1)), .bool true] ∧ Qs = [cells tb [uPt s, .slice (some ⟨g, 0, none⟩) K.length c] 122, sl (some ⟨g, 0, none⟩) c 125 3 K.length (qBr L K 0)]) ∧ Sat E.w0 w' (Qs ++ [R])) := by
  intro v hv he
  rw [hE.P]
  exact hv.mono fun e w' ⟨h1, h2⟩ => ⟨v, _, h1, ⟨he, rfl⟩, hs.grow h2⟩
 have z0 := cell 0 false hk0 0 _ rfl
 have z1 := cell 0 false hk0 1 _ rfl
 have z2 := cell 0 false hk0 2 _ rfl
 simp only [Nat.zero_mul, Nat.zero_add] at z0 z1 z2
 cases r with
 | letter b =>
  have hkl := qCp hr
  exact fin _ (qOq w tb g K.length c b t1 hgl htl hn z0 z1 z2) (by rw [hkl.1, hkl.2])
 | pair l r' =>
  have hkl := qFi hr hok
  obtain ⟨o1, o2, o3, o4⟩ := hok
  have kl : K[l]? = some true := hl.resolve_left (by simp only [Rl.left]; omega)
  have kr : K[r']? = some true := hrr.resolve_left (by simp only [Rl.right]; omega)
  have ll := (List.getElem?_eq_some_iff.1 kl).1
  have lr := (List.getElem?_eq_some_iff.1 kr).1
  have b1 := qNm hwf l (by omega)
  have b2 := qNm hwf r' (by omega)
  unfold qAw at hlen
  by_cases hgood : l ≠ r' ∧ 0 ≤ lvl L l ∧ 0 ≤ lvl L r'
  ·obtain ⟨v1, e1⟩ := Int.eq_ofNat_of_zero_le hgood.2.1
   obtain ⟨v2, e2⟩ := Int.eq_ofNat_of_zero_le hgood.2.2
   have c1 := cell l true kl 1 _ rfl
   have c2 := cell r' true kr 1 _ rfl
   rw [e1] at c1
   rw [e2] at c2
   refine fin _ (qSp w tb g K.length c l r' (key L l) (key L r') v1 v2 (max v1 v2) rfl hT ll lr (qCg hwf l) (qCg hwf r') (by omega) (by omega) hgood.1 t1 hgl htl hn (cell l true kl 0 _ rfl) c1 (cell l true kl 2 _ rfl) (cell r' true kr 0 _ rfl) c2 (cell r' true kr 2 _ rfl)) ?_
   rw [hkl.1, hkl.2, if_pos hgood, e1, e2]; rfl
  have hbad : l = r' ∨ lvl L l < 0 ∨ lvl L r' < 0 := by
   by_cases h1 : l = r'
   ·exact .inl h1
   by_cases h2 : 0 ≤ lvl L l
   ·by_cases h3 : 0 ≤ lvl L r'
    ·exact absurd ⟨h1, h2, h3⟩ hgood
    exact .inr (.inr (by omega))
   exact .inr (.inl (by omega))
  refine fin _ (qMp w tb g K.length c l r' (key L l) (key L r') (lvl L l) (lvl L r') ll lr (qCg hwf l) (qCg hwf r') hbad t1 hgl htl hn (cell l true kl 0 _ rfl) (cell l true kl 1 _ rfl) (cell l true kl 2 _ rfl) (cell r' true kr 0 _ rfl) (cell r' true kr 1 _ rfl) (cell r' true kr 2 _ rfl)) ?_
  rw [hkl.1, hkl.2, if_neg hgood]
 | power x k =>
  have hkl := qEd hr hok
  obtain ⟨o1, o2, o3⟩ := hok
  have kl : K[x]? = some true := hl.resolve_left (by simp only [Rl.left]; omega)
  have ll := (List.getElem?_eq_some_iff.1 kl).1
  have b1 := qNm hwf x (by omega)
  have hkk : k < 9223372036854775808 := by have := power_le hwf hr; unfold kK at this; omega
  unfold qAw at hlen
  refine fin _ (qQc w tb g K.length c x (key L x) k (lvl L x) _ rfl ll (qCg hwf x) hkk (by omega) t1 hgl htl hn (cell x true kl 0 _ rfl) (cell x true kl 1 _ rfl) (cell x true kl 2 _ rfl) z0 z1 z2) ?_
  rw [hkl.1, hkl.2]
theorem qGb (hE : Seat E) (hB : Base E.w0) (hwf : Wf L) {m N : Nat} {r : Rl} (hN : K.length = N) (hr : L[m]? = some r) (hk0 : K[0]? = some false) (hl : r.left = 0 ∨ K[r.left]? = some true) (hrr : r.right = 0 ∨ K[r.right]? = some true) (hK : K.length ≤ L.length + 1) (hlen : L.length ≤ qAw) :
  Ct E 80 [uPt tb, .agg #[.int .i64 (Rl.kind (r) : Nat), .int .u8 (Rl.byte (r) : Nat), .int .i64 (Rl.left (r) : Nat), .int .i64 (Rl.right (r) : Nat), .int .i64 (Rl.times (r) : Nat)]]
   [cells tb [uPt s, .slice (some ⟨g, 0, none⟩) N c] 122, sl (some ⟨g, 0, none⟩) c 125 3 N (qBr L K 0)]
   (fun v Q => v = .agg #[.int .u64 (key L (m + 1) : Nat), .int .i64 (lvl L (m + 1)), .bool true] ∧ Q = [cells tb [uPt s, .slice (some ⟨g, 0, none⟩) N c] 122, sl (some ⟨g, 0, none⟩) c 125 3 N (qBr L K 0)]) := by
 subst hN
 exact qYd hE hB hwf hr hk0 hl hrr hK hlen
end Go.Proofs.YtlleicanafioaaaDoor
