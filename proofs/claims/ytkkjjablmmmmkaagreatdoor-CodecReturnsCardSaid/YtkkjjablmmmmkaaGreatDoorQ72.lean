import Derived.Test.YtkkjjablmmmmkaaGreatDoorQ71
set_option linter.all false
namespace Sl
open Go Go.RowKit
variable {E : Env} {n : Nat} {L : Fr} {H : List HP} {Q : Exit → Act → World → Prop} {fuel : Nat} {listed : Array Bool} {ops : List Oper}
def allS (S0 : List HP) : List (Nat × List HP) → Prop
 | [] => True
 | (_, S) :: r => (∀ k, qAa S k → qAa S0 k) ∧ allS S0 r
theorem qVz {S0 : List HP} : ∀ {Ss : List (Nat × List HP)}, allS S0 Ss → ∀ x ∈ Ss, ∀ k, qAa x.2 k → qAa S0 k
 | [], _, x, hx => by simp at hx
 | (_, S) :: r, h, x, hx => by
  rcases List.mem_cons.1 hx with rfl | hx
  ·exact h.1
  exact qVz h.2 x hx
theorem s_keep (S0 : List HP) (i : Nat) {Ss : List (Nat × List HP)} {d : Option Nat} {op : Op} {ty : TypeId} {pos : String} {af : Array Edge} {v : Value} (hi : ops[i]? = some ⟨d, op, ty, pos, af, none⟩)
  (hy : Yl E n L S0 ⟨d, op, ty, pos, af, none⟩ v) (hQ : Calm Q) (hf : zBj ops.toArray listed i = true) (hm : qKz ops.toArray i Ss = true) (hd : inB n d = true) (hS0 : allS S0 Ss)
  (k : WPS E ops Ss Q fuel (listed.setIfInBounds i true) n (putL d v L) H) : WPS E ops Ss Q (fuel + 1) listed n L H := fun a w g hS => by
 simp only [zBj, Bool.and_eq_true] at hf
 refine qLz (qAg hi) (Region.noSelect_spec hf.1) (fun c a w h => hQ c a w d v h) (T := fun w => Sat E.w0 w S0) fuel _ listed a w (qHy hm) ?_ (Region.free_spec (qAg hi) hf.2.1) (by simpa using hf.2.2) (.inl ⟨rfl, fun w hw => hy a w g.f hw⟩) hS (k _ _ ⟨g.f.put d v hd, g.hp⟩ hS)
 intro m S h w hw
 obtain ⟨x, hx, e⟩ := List.mem_map.1 h
 obtain ⟨rfl, rfl⟩ := Prod.mk.inj e
 exact hw.imp (qVz hS0 x hx)
end Sl
namespace Go.Proofs.YtkkjjablmmmmkaaGreatDoor
open Go Go.RowKit Sl Eg
set_option maxRecDepth 10000
section
variable {E : Env} {L : List Rl}
structure RsL (L : List Rl) (l : List Im) (ys : List Nat) : Prop where
 wf : Wf L
 yl : ys.length = l.length
 sg : ∀ (i : Nat) (x : Im) (y : Nat), l[i]? = some x → ys[i]? = some y → y ≤ L.length ∧ Sg L x.bs y
variable {l : List Im} {ys : List Nat}
theorem RsL.bound (h : RsL L l ys) : ∀ y ∈ ys, y ≤ L.length := fun y hy => by
 obtain ⟨i, hi⟩ := List.getElem?_of_mem hy
 have hil := (List.getElem?_eq_some_iff.1 hi).1
 have := h.yl
 obtain ⟨x, hx⟩ : ∃ x, l[i]? = some x := ⟨_, List.getElem?_eq_getElem (by omega)⟩
 exact (h.sg i x y hx hi).1
theorem RsL.lis (h : RsL L l ys) : Lis L (kI L ys []) := ⟨h.wf, AccOk.visits h.wf h.bound, qJk h.wf ys [] (qZn _)⟩
end
section
variable {E : Env} {L : List Rl} {l : List Im} {ys : List Nat}
theorem Lis.times {F : List Nat} (h : Lis L F) : ∀ r ∈ gram L F, r.times ≤ 1152921504606846976 := fun r hr => by
 obtain ⟨i, hi⟩ := List.getElem?_of_mem hr
 obtain ⟨n, q, v1, q1, rfl, m1⟩ := h.one hi
 rw [qGe]
 have hsh := h.wf.short (n + 1)
 have hmx : kH = 1152921504606846976 := rfl
 have hok := h.wf.ok _ _ q1
 have hn := (List.getElem?_eq_some_iff.1 q1).1
 cases q with
 | letter b => simp [Rl.times]
 | pair a b => simp [Rl.times]
 | power x t =>
  have e := qCy q1 hok
  simp only [Rl.ok] at hok
  have h1 := h.wf.pos x hok.1 (by omega)
  have h2 : t * 1 ≤ t * Eg.len L x := Nat.mul_le_mul_left _ h1
  simp only [Rl.times]
  have e3 : t * Eg.len L x = Eg.len L (n + 1) := by rw [e]
  omega
def nmA (l : List Im) (ns : List Nat) : List (List UInt8 × Nat) := (l.map (·.name)).zip ns
end
section
variable {E : Env}
theorem EqL.rsl {L : List Rl} {l : List Im} {ids ys : List Nat} (h : EqL L l ids ys) : RsL L l ys := ⟨h.wf, h.yl, fun i x y hx hy => by
 obtain ⟨x', id, h1, h2, h3, h4⟩ := h.at hy
 rw [hx] at h1
 cases h1
 refine ⟨h3.2.2.1.1, ?_⟩
 rw [← h4]
 exact h3.2.2.2⟩
end
end Go.Proofs.YtkkjjablmmmmkaaGreatDoor
