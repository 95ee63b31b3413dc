import Derived.Test.YtddfnkijolfhbaaGreatQ10
import Derived.Laws.MakeOwn
set_option linter.all false
set_option maxHeartbeats 1000000
namespace Sl
section
open Go Go.RowKit
variable {E : Env} {n : Nat} {L : Fr} {S H H' : List HP} {ty : TypeId} {pos : String} {af : Array Edge} {d : Option Nat} {gd : Option (Nat × Bool)} {K : Value → List HP → Prop} {Q : Exit → Act → World → Prop}
theorem qLk {x y : Operand} {t e : TypeId} {c es by_ sz sz' : Nat} {zs zs' : List Value} {kk : TK} (ht : E.tab t = some ⟨.slice e es by_, sz, zs⟩) (he : E.tab e = some ⟨kk, sz', zs'⟩)
  (hx : ev L x = some (.int .i64 0)) (hy : ev L y = some (.int .i64 (c : Nat))) (hb : by_ * c ≤ 281474976710656) (hc : c ≤ maxLen)
  (hk : ∀ b us, us.length = c * es → K (.slice (some ⟨b, 0, none⟩) 0 c) (sl (some ⟨b, 0, none⟩) c e es c us :: H)) : Ld E n L H ⟨d, .makeSlice t x y, ty, pos, af, gd⟩ K := fun Q next a w G hn => by
 obtain ⟨hu, j, hj, hs, hby⟩ := qBj ht
 obtain ⟨i, z, hi, hi2, hiz, hzc, _⟩ := qBg he
 obtain rfl : i = j := by rw [hi] at hj; simpa using hj
 subst hs hby
 have h63 : (c : Int) ≤ 9223372036854775807 := by have h := hc; simp [maxLen] at h; omega
 have hr := run_make (P := E.P) w t e i z hu hi hiz .i64 .i64 0 (c : Int) (Int.le_refl _) (Int.natCast_nonneg c) (by rw [← Int.natCast_mul]; omega) h63
 have hrun : (execOp a.eval ⟨d, .makeSlice t x y, ty, pos, af, gd⟩).run E.P w = .ok (.value (.slice (some ⟨w.heap.size, 0, none⟩) 0 c)) (w.alloc (.cells (madeCells z.cells (c * i.size)) e)) := by
  simp [execOp, G.f.ev hx, G.f.ev hy, hr]
 unfold Oper.wp
 rw [hrun, Oper.upon_value]
 have hz := size_madeCells z.cells (c * i.size)
 generalize madeCells z.cells (c * i.size) = M at *
 refine hn _ _ _ (hk _ M.toList (by simpa using hz)) ?_
 have := G.hp.new (.cells M e)
 exact this.imp fun _ => qAp fun _ h => qAr (by simpa using hz) hc _ h
end
section
open Go Go.RowKit
variable {E : Env} {n : Nat} {L : Fr} {S S' H H' : List HP} {ty : TypeId} {pos : String} {af : Array Edge} {d : Option Nat} {gd : Option (Nat × Bool)} {K : Value → List HP → Prop} {Q : Exit → Act → World → Prop}
def ro (g : Nat) (vs : List Value) : HP := fun h => ∃ cur t z, h g = some (.cells cur t z) ∧ ∀ (i : Nat) (v : Value), vs[i]? = some v → cur[i]? = some v
theorem ro_cell {w0 w : World} {g : Nat} {vs : List Value} (s : Sat w0 w (ro g vs :: H)) {o : Nat} {v : Value} (hv : vs[o]? = some v) : w.cell? ⟨g, o, none⟩ = some v := by
 obtain ⟨h1, h2, dj, e, ⟨cur, t, z, hc, hh⟩, hq⟩ := s.hp
 have s' : Sat w0 w (pt g (.cells cur t z) :: H) := ⟨s.os, s.tape, s.output, s.size, s.old, h1, h2, dj, e, hc, hq⟩
 simp [World.cell?, (s'.ptr).1, hh _ _ hv]
def RdAt (w0 : World) (g o : Nat) (vs : List Value) (h : PH) : Prop := ∀ (i : Nat) (v : Value), vs[i]? = some v → w0.cell? ⟨g, o + i, none⟩ = some v ∨ ∃ cur t z, h g = some (.cells cur t z) ∧ cur[o + i]? = some v
theorem qQi {w0 w : World} {g o : Nat} {vs : List Value} {q : HP} (hq : ∀ k, q k → RdAt w0 g o vs k) (s : Sat w0 w (q :: H)) {i : Nat} {v : Value} (hv : vs[i]? = some v) : w.cell? ⟨g, o + i, none⟩ = some v := by
 obtain ⟨h1, h2, dj, e, hc, hr⟩ := s.hp
 rcases hq _ hc i v hv with h | ⟨cur, t, z, hg, hh⟩
 ·exact s.old_cell h
 have s' : Sat w0 w (pt g (.cells cur t z) :: H) := ⟨s.os, s.tape, s.output, s.size, s.old, h1, h2, dj, e, hg, hr⟩
 simp [World.cell?, (s'.ptr).1, hh]
theorem zK {x : Operand} {t : TypeId} {g o p i : Nat} {k : TK} {sz : Nat} {zs vs : List Value} {v : Value} {q : HP} (h : ev L x = some (.pointer (some ⟨g, p, none⟩))) (ht : E.tab t = some ⟨k, sz, zs⟩) (hk : k.agg = false)
  (hq : ∀ k, q k → RdAt E.w0 g o vs k) (hm : Take q S S') (hv : vs[i]? = some v) (hp : p = o + i) : Yl E n L S ⟨d, .load t x, ty, pos, af, gd⟩ v := fun a w g s => by
 subst hp
 have hc := qQi hq (s.take hm) hv
 simp [execOp, Instr.loadAt, Instr.sureAddr, loadVar, g.ev h, qGy ht, hk, load, Sem.run, hc]
theorem rd_ro {w0 : World} {g : Nat} {vs : List Value} : ∀ k, ro g vs k → RdAt w0 g 0 vs k := fun k ⟨cur, t, z, h, hh⟩ i v hv => .inr ⟨cur, t, z, h, by rw [Nat.zero_add]; exact hh i v hv⟩
def old : HP := fun _ => True
theorem ent_old : ∀ k, qAd H k → qAd (old :: H) k := fun k h => ⟨fun _ => none, k, fun _ => .inl rfl, by funext b; simp [join], trivial, h⟩
theorem rd_old {w0 : World} {g o : Nat} {vs : List Value} (h : ∀ (i : Nat) (v : Value), vs[i]? = some v → w0.cell? ⟨g, o + i, none⟩ = some v) : ∀ k, old k → RdAt w0 g o vs k := fun _ _ i v hv => .inl (h i v hv)
end
end Sl
namespace Go.Proofs.YtddfnkijolfhbaaGreat
open Go Go.RowKit Sl Eg
set_option maxRecDepth 10000
section
variable {E : Env} {Es : List Ent} {pp tb s most : Nat}
def byC (l : List UInt8) : List Value := l.map fun b => .int .u8 (b.toNat : Nat)
theorem byC_get {l : List UInt8} {i : Nat} {x : UInt8} (h : l[i]? = some x) (k : Nat) (hk : k = i) : (byC l)[k]? = some (.int .u8 (x.toNat : Nat)) := by subst hk; simp [byC, h]
inductive Lts (L : List Rl) : List Nat → List UInt8 → Prop where
 | nil : Lts L [] []
 | snoc {ids : List Nat} {bs : List UInt8} {i : Nat} {b : UInt8} : Lts L ids bs → L[i]? = some (.letter b) → Lts L (ids ++ [i + 1]) (bs ++ [b])
theorem take_set {α : Type} {xs : List α} {m : Nat} {l : List α} {x : α} (h : xs.take m = l) (hm : m < xs.length) : (xs.set m x).take (m + 1) = l ++ [x] := by
 rw [List.take_add_one, List.take_set_of_le (Nat.le_refl m), h]; simp [hm]
end
section
variable {E : Env} {Es : List Ent} {pp tb s most : Nat}
def RunId (L : List Rl) (x t id : Nat) : Prop := (t = 1 ∧ id = x) ∨ (2 ≤ t ∧ ∃ i, id = i + 1 ∧ L[i]? = some (.power x t))
inductive Rns (L : List Rl) : List (Nat × Nat) → List Nat → Prop where
 | nil : Rns L [] []
 | snoc {rs : List (Nat × Nat)} {out : List Nat} {x t id : Nat} : Rns L rs out → RunId L x t id → Rns L (rs ++ [(x, t)]) (out ++ [id])
theorem Rns.length {L : List Rl} {rs : List (Nat × Nat)} {out : List Nat} (h : Rns L rs out) : out.length = rs.length := by
 induction h with
 | nil => rfl
 | snoc _ _ ih => simp [ih]
end
section
inductive Prs (L : List Rl) (ids : List Nat) : List Nat → Nat → List Nat → Prop where
 | nil : Prs L ids [] 0 []
 | snoc {js out : List Nat} {at' i x y j : Nat} : Prs L ids js at' out → at' ≤ i → ids[i]? = some x → ids[i + 1]? = some y → L[j]? = some (.pair x y) → Prs L ids (js ++ [i]) (i + 2) (out ++ (ids.drop at').take (i - at') ++ [j + 1])
theorem Prs.length {L : List Rl} {ids js out : List Nat} {a : Nat} (h : Prs L ids js a out) : out.length + js.length = a ∧ a ≤ ids.length := by
 induction h with
 | nil => simp
 | snoc _ h1 h2 h3 h4 ih =>
  have := (List.getElem?_eq_some_iff.1 h3).1
  simp; omega
theorem qHp : ∀ (us xs : List Value) (m : Nat), m + us.length ≤ xs.length → zY xs m us = xs.take m ++ us ++ xs.drop (m + us.length)
 | [], xs, m, _ => by simp [zY]
 | u :: us, xs, m, h => by
  rw [zY, qHp us _ _ (by simp at h ⊢; omega)]
  have hm : m < xs.length := by simp at h; omega
  rw [take_set rfl hm, List.drop_set_of_lt (by omega), List.length_cons, show m + 1 + us.length = m + (us.length + 1) by omega]
  simp
theorem qEi (a b : List Nat) : idC (a ++ b) = idC a ++ idC b := by simp [idC]
end
end Go.Proofs.YtddfnkijolfhbaaGreat
namespace Sl
open Go Go.RowKit
variable {E : Env} {n : Nat} {L : Fr} {S : List HP} {ty : TypeId} {pos : String} {af : Array Edge} {d : Option Nat} {gd : Option (Nat × Bool)}
theorem qLb {x : Operand} {t e : TypeId} {q : Addr} {len cap : Nat} {s b sz : Nat} {zs : List Value} {lo hi : Option Operand} {l h : Nat} (hx : ev L x = some (.slice (some q) len cap)) (ht : E.tab t = some ⟨.slice e s b, sz, zs⟩)
  (hlo : match lo with | none => l = 0 | some y => ∃ k, ev L y = some (.int k (l : Nat))) (hhi : match hi with | none => h = len | some y => ∃ k, ev L y = some (.int k (h : Nat))) (h1 : l ≤ h) (h2 : h ≤ cap) :
  Yl E n L S ⟨d, .slice t x lo hi none, ty, pos, af, gd⟩ (.slice (some (if cap = l then q else q.add (l * s))) (h - l) (cap - l)) := fun a w g hs => by
 have := qBv (S := S) (d := d) (ty := ty) (pos := pos) (af := af) (gd := gd) (lo := lo) (hi := hi) (l := l) (h := h) hx ht hlo hhi h1 h2 a w g hs
 rw [this]
 split <;> rfl
end Sl
