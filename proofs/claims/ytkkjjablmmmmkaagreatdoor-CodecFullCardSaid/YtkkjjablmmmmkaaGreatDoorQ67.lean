import Derived.Test.YtkkjjablmmmmkaaGreatDoorQ66
import Derived.Test.YtkkjjablmmmmkaaGreatDoorQClc
import Derived.Deep.SlicePairs
set_option linter.all false
namespace Go.Proofs.YtkkjjablmmmmkaaGreatDoor
section
open Go Go.RowKit Sl Eg
set_option maxRecDepth 10000
variable {E : Env} {Es : List Ent} {pp tb s most m bm : Nat} {f : Int → Option Value}
theorem SigOf.fn {L : List Rl} (hw : Wf L) {x y y' : Nat} (h : SigOf L x y) (h' : SigOf L x y') : y = y' := Sg.fn hw h.2.2.2 h'.2.2.2
theorem SigL.fn {L : List Rl} (hw : Wf L) {xs ys ys' : List Nat} (h : SigL L xs ys) (h' : SigL L xs ys') (hl : ys.length = xs.length) (hl' : ys'.length = xs.length) : ys = ys' := by
 apply List.ext_getElem?
 intro i
 rcases Nat.lt_or_ge i xs.length with hi | hi
 ·obtain ⟨x, hx⟩ : ∃ x, xs[i]? = some x := ⟨_, List.getElem?_eq_getElem hi⟩
  obtain ⟨y, hy⟩ : ∃ y, ys[i]? = some y := ⟨_, List.getElem?_eq_getElem (by omega)⟩
  obtain ⟨y', hy'⟩ : ∃ y, ys'[i]? = some y := ⟨_, List.getElem?_eq_getElem (by omega)⟩
  rw [hy, hy', (h i x y hx hy).fn hw (h' i x y' hx hy')]
 rw [List.getElem?_eq_none (by omega), List.getElem?_eq_none (by omega)]
theorem SigL.bound {L : List Rl} {xs ys : List Nat} (h : SigL L xs ys) (hl : ys.length = xs.length) : ∀ y ∈ ys, y ≤ L.length := fun y hy => by
 obtain ⟨i, hi⟩ := List.getElem?_of_mem hy
 have hil := (List.getElem?_eq_some_iff.1 hi).1
 obtain ⟨x, hx⟩ : ∃ x, xs[i]? = some x := ⟨_, List.getElem?_eq_getElem (by omega)⟩
 exact (h i x y hx hi).2.2.1.1
theorem qZy {l : List Im} {ids : List Nat} (h : ids.length = l.length) : (mkN l ids).length = l.length := by simp [mkN, h]
theorem mkN_at {l : List Im} {ids : List Nat} {i id : Nat} {x : Im} (hx : l[i]? = some x) (hi : ids[i]? = some id) : (mkN l ids)[i]? = some (x.name, (id : Int)) := by
 unfold mkN
 rw [List.getElem?_map]
 have : (l.zip ids)[i]? = some (x, id) := by rw [List.getElem?_zip_eq_some]; exact ⟨hx, hi⟩
 rw [this]
 rfl
end
section
open Go Go.ChangeShapes Go.WideShapes Go.ChangeAt Go.WideMaps Go.WideElems Go.RowKit Go.ChangeMaps Sl Eg
theorem byte_nat {z : Int} (h : (Lit.int .u8 z).wf = true) : ∃ n : Nat, z = (n : Int) ∧ n < 256 := by
 have hh : 0 ≤ z ∧ z < 256 := by
  simp only [Lit.wf, Bool.and_eq_true, decide_eq_true_eq] at h
  have h1 : (IntKind.u8.min : Int) = 0 := by rfl
  have h2 : (IntKind.u8.max : Int) = 255 := by rfl
  omega
 exact ⟨z.toNat, by omega, by omega⟩
instance : Inhabited Im := ⟨⟨[], none, [], 0⟩⟩
theorem byC_neq {bs : List UInt8} (h : byC bs ≠ []) : bs ≠ [] := fun e => h (by subst e; rfl)
set_option maxRecDepth 100000 in
theorem qZw {H : Type} {enc : TypeId × Value → H} {w : World} {base b0 : Nat} {r : Reach} {held : Bool} {v : Value} {d : DataW H} {ps : List MemPlace}
  (hv : Value.okWide Tryz.prog w r b0 43 v) (hd : DataW.Trod enc Tryz.prog w base (fun _ => true) held 43 v d ps) :
  ∃ (A : Option Addr) (l : List Im) (C : Nat), v = .slice A l.length C ∧ Rdb w A (imC l) old ∧ (∀ x ∈ l, Rdb w x.a (byC x.bs) old) ∧ l.length ≤ maxLen := by
 have hu : Tryz.prog.underlying 43 = some (.slice 55) := by kernel_rfl
 obtain ⟨a, len, cap, rfl⟩ := okWide_slice hu hv
 obtain ⟨fuel, hf⟩ := hd
 simp only [Value.cells] at hf
 rcases Go.Deep.open_slice_pairs hu Tryz.underlying55 (by kernel_rfl) rfl rfl (by kernel_rfl) (by kernel_rfl) hf with ⟨h1, h2⟩ | ⟨a', len', cap', m, n, V0, V1, D0, D1, P0, P1, h1, hb, hl, hm, hmm, hx, hcell⟩
 ·simp at h1
  obtain ⟨rfl, rfl, rfl⟩ := h1
  exact ⟨none, [], 0, rfl, fun h => absurd rfl h, (by simp), Nat.zero_le _⟩
 simp at h1
 obtain ⟨rfl, rfl, rfl⟩ := h1
 have hml : len ≤ m := by rw [hmm]; split <;> omega
 obtain ⟨M, hM⟩ := Go.Deep.choose_lt (n := len) (p := fun i (x : Im) => V0 i = .string ⟨⟨x.name⟩⟩ ∧ V1 i = .slice x.a x.bs.length x.c ∧ Rdb w x.a (byC x.bs) old) (fun i hi => by
  obtain ⟨c0, c1, t0, t1⟩ := hcell i (by omega)
  obtain ⟨⟨⟨nm⟩⟩, e0, _, _⟩ := DataW.trod_string (by kernel_rfl) t0
  simp at e0
  rcases open_ints qVy zAm zAv t1 with ⟨g1, g2⟩ | ⟨a2, l2, c2, zs, g1, gb, gl, gm, gzl, gx, gcell, gwf⟩
  ·simp at g1
   exact ⟨⟨nm, none, [], 0⟩, e0, g1, fun h => absurd rfl h⟩
  simp at g1
  simp only [if_true] at gzl
  have hlen : ((zs.take l2).map qUt).length = l2 := by simp; omega
  refine ⟨⟨nm, some a2, (zs.take l2).map qUt, c2⟩, e0, by rw [g1]; simp only [hlen], fun hne => ?_⟩
  exact (old_of (by omega) gwf (fun _ => ⟨a2, rfl, gcell⟩)).rd (byC_neq hne))
 have hlen : ((List.range len).map M).length = len := by simp
 have hget : ∀ i, i < len → ((List.range len).map M)[i]? = some (M i) := fun i hi => by simp [hi]
 refine ⟨some a', (List.range len).map M, cap, by rw [hlen], fun hne => ?_, fun t ht => ?_, by rw [hlen]; omega⟩
 ·have h0 : 0 < len := by
   rcases Nat.eq_zero_or_pos len with h | h
   ·subst h; simp [imC] at hne
   exact h
  have hc0 := (hcell 0 (by omega)).1
  rw [show a'.add (0 * 2) = a' by simp [Addr.add]] at hc0
  have e := qTs hc0
  refine ⟨a'.block, a'.off, by rw [← e], rd_old fun i v hv => ?_⟩
  have hi : i < len * 2 := by
   have := (List.getElem?_eq_some_iff.1 hv).1
   rwa [qLr, hlen] at this
  have hk : i / 2 < len := by omega
  obtain ⟨k0, k1⟩ := qJs (hget _ hk)
  obtain ⟨c0, c1, _, _⟩ := hcell (i / 2) (by omega)
  obtain ⟨m0, m1, _⟩ := hM _ hk
  rw [e, Sl.addr_add] at c0 c1
  rcases Nat.mod_two_eq_zero_or_one i with hp | hp
  ·rw [show i / 2 * 2 = i by omega] at k0 c0
   rw [k0] at hv
   rw [c0, m0, hv]
  rw [show i / 2 * 2 + 1 = i by omega] at k1 c1
  rw [k1] at hv
  rw [c1, m1, hv]
 obtain ⟨i, hi, rfl⟩ := List.mem_map.1 ht
 exact (hM i (List.mem_range.1 hi)).2.2
theorem zBg {E : Env} {f : FuncId} {args : List Value} {u : Value} (h : Ct E f args [old] (fun v Q => v = u ∧ Q = [old])) : Ct E f args [] (fun v Q => v = u ∧ Q = []) := fun R w s => (h R w (s.imp fun _ x => ent_old _ x)).mono fun e w' ⟨v, Qs, h1, ⟨h2, h3⟩, h4⟩ => ⟨v, [], h1, ⟨h2, rfl⟩, by
 subst h3
 exact h4.imp (by show ∀ k, qAb [old, R] k → qAb [R] k; (apply ent; (repeat constructor); done))⟩
end
end Go.Proofs.YtkkjjablmmmmkaaGreatDoor
