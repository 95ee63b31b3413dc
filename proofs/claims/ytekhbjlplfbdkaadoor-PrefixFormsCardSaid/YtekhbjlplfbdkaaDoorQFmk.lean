/- Arguments that are slices of Makes. -/
import Derived.Test.YtekhbjlplfbdkaaDoorQClb
import Derived.Test.YtekhbjlplfbdkaaDoorQClc
import Derived.Test.YtekhbjlplfbdkaaDoorQFmj
set_option linter.unusedVariables false
set_option linter.unusedSimpArgs false
namespace Go.Proofs.YtekhbjlplfbdkaaDoor
open Go Go.ChangeShapes Go.WideShapes Go.ChangeAt Go.WideMaps Go.WideElems Go.RowKit Go.ChangeMaps Sl Eg
instance : Inhabited Mk := ⟨⟨0, 0, 0, 0, 0⟩⟩
theorem fld {fs : Array Field} {i o : Nat} {t : TypeId} (h : fs[i]?.map (fun f => (f.offset, f.type)) = some (o, t)) : ∃ f, fs[i]? = some f ∧ f.offset = o ∧ f.type = t := by
  cases e : fs[i]? with
  | none => rw [e] at h; cases h
  | some f => rw [e] at h; simp at h; exact ⟨f, rfl, h.1, h.2⟩
theorem one_int {H : Type} {enc : TypeId × Value → H} {P : Program} {w : World} {base n o : Nat} {spare : Nat → Bool} {held : Bool} {t : TypeId} {k : IntKind} {cs : List Value} {f : Field} {x : Option (DataW H × List MemPlace)} (hx : x ≠ none) (ho : f.offset = o) (ht : f.type = t) (hi : P.underlying t = some (.int k)) (hc : P.cellsOf t = 1)
    (h : DataW.trod enc P w base spare held n f.type ((cs.drop f.offset).take (P.cellsOf f.type)) = x) : ∃ z, cs[o]? = some (.int k z) ∧ (Lit.int k z).wf = true := by
  cases x with
  | none => exact absurd rfl hx
  | some x =>
    rw [ho, ht, hc] at h
    obtain ⟨z, e, _, hw⟩ := DataW.trod_int hi h
    exact ⟨z, one_cell e, hw⟩
theorem make_int {z : Int} (h : (Lit.int .i64 z).wf = true) : z ≤ 9223372036854775807 := by
  simp only [Lit.wf, Bool.and_eq_true, decide_eq_true_eq] at h
  have h2 : (IntKind.i64.max : Int) = 9223372036854775807 := by rfl
  omega
set_option maxRecDepth 100000 in
theorem open_make {H : Type} {enc : TypeId × Value → H} {w : World} {base fuel : Nat} {spare : Nat → Bool} {held : Bool} {cs : List Value} {x : DataW H × List MemPlace} (h : DataW.trod enc Tryd.prog w base spare held fuel 80 cs = some x) : ∃ m : Mk, cs = mk5 m ∧ m.times ≤ 9223372036854775807 := by
  obtain ⟨xs, n, _, _, hcl, hxl, hall⟩ := DataW.trod_struct (fs := Tryd.prog.fieldsOf 80) (by kernel_rfl) h
  have hsz : (Tryd.prog.fieldsOf 80).size = 5 := by kernel_rfl
  have hc : Tryd.prog.cellsOf 80 = 5 := by kernel_rfl
  have ui : Tryd.prog.underlying 3 = some (.int .i64) := by kernel_rfl
  have ub : Tryd.prog.underlying 5 = some (.int .u8) := by kernel_rfl
  have ci : Tryd.prog.cellsOf 3 = 1 := by kernel_rfl
  have cb : Tryd.prog.cellsOf 5 = 1 := by kernel_rfl
  obtain ⟨f0, a0, o0, t0⟩ := fld (fs := Tryd.prog.fieldsOf 80) (i := 0) (o := 0) (t := 3) (by kernel_rfl)
  obtain ⟨f1, a1, o1, t1⟩ := fld (fs := Tryd.prog.fieldsOf 80) (i := 1) (o := 1) (t := 5) (by kernel_rfl)
  obtain ⟨f2, a2, o2, t2⟩ := fld (fs := Tryd.prog.fieldsOf 80) (i := 2) (o := 2) (t := 3) (by kernel_rfl)
  obtain ⟨f3, a3, o3, t3⟩ := fld (fs := Tryd.prog.fieldsOf 80) (i := 3) (o := 3) (t := 3) (by kernel_rfl)
  obtain ⟨f4, a4, o4, t4⟩ := fld (fs := Tryd.prog.fieldsOf 80) (i := 4) (o := 4) (t := 3) (by kernel_rfl)
  rw [hsz] at hxl
  have hne : ∀ i, i < 5 → xs[i]? ≠ none := fun i hi => by rw [List.getElem?_eq_getElem (by omega)]; simp
  obtain ⟨z0, e0, _⟩ := one_int (hne 0 (by omega)) o0 t0 ui ci (hall 0 f0 a0)
  obtain ⟨z1, e1, hw1⟩ := one_int (hne 1 (by omega)) o1 t1 ub cb (hall 1 f1 a1)
  obtain ⟨z2, e2, _⟩ := one_int (hne 2 (by omega)) o2 t2 ui ci (hall 2 f2 a2)
  obtain ⟨z3, e3, _⟩ := one_int (hne 3 (by omega)) o3 t3 ui ci (hall 3 f3 a3)
  obtain ⟨z4, e4, hw4⟩ := one_int (hne 4 (by omega)) o4 t4 ui ci (hall 4 f4 a4)
  rw [hc] at hcl
  refine ⟨⟨z0, byteOf z1, z2, z3, z4⟩, ?_, make_int hw4⟩
  match cs, hcl with
  | [c0, c1, c2, c3, c4], _ =>
    simp at e0 e1 e2 e3 e4
    subst e0 e1 e2 e3 e4
    show _ = [Value.int .i64 z0, .int .u8 ((byteOf z1).toNat : Nat), .int .i64 z2, .int .i64 z3, .int .i64 z4]
    rw [byteOf_nat hw1]
set_option maxRecDepth 100000 in
theorem open_makes {H : Type} {enc : TypeId × Value → H} {w : World} {base b0 : Nat} {r : Reach} {held : Bool} {v : Value} {d : DataW H} {ps : List MemPlace}
    (hv : Value.okWide Tryd.prog w r b0 22 v) (hd : DataW.Trod enc Tryd.prog w base (fun _ => true) held 22 v d ps) :
    ∃ (A : Option Addr) (ms : List Mk) (C : Nat), v = .slice A ms.length C ∧ Rdb w A (mkC ms) old ∧ ∀ m ∈ ms, m.times ≤ 9223372036854775807 := by
  have hc : Tryd.prog.cellsOf 80 = 5 := by kernel_rfl
  have hu : Tryd.prog.underlying 22 = some (.slice 80) := by kernel_rfl
  obtain ⟨a, len, cap, rfl⟩ := okWide_slice hu hv
  obtain ⟨fuel, hf⟩ := hd
  simp only [Value.cells] at hf
  rcases Go.Deep.open_slice hu hf with ⟨h1, h2⟩ | ⟨a', len', cap', m, n, D, Pl, h1, hb, hl, hm, hmm, hx, hcell⟩
  · simp at h1
    obtain ⟨rfl, rfl, rfl⟩ := h1
    exact ⟨none, [], 0, rfl, fun h => absurd rfl h, by simp⟩
  · simp at h1
    obtain ⟨rfl, rfl, rfl⟩ := h1
    have hml : len ≤ m := by rw [hmm]; split <;> omega
    obtain ⟨M, hM⟩ := Go.Deep.choose_lt (n := len) (p := fun i (k : Mk) => k.times ≤ 9223372036854775807 ∧ ∀ j u, (mk5 k)[j]? = some u → w.cell? (a'.add (i * 5 + j)) = some u) (fun i hi => by
      obtain ⟨cs', g1, g2⟩ := hcell i (by omega)
      obtain ⟨k, rfl, hk⟩ := open_make g2
      rw [hc] at g1
      obtain ⟨_, _, g3⟩ := World.cells?_some g1
      refine ⟨k, hk, fun j u hj => ?_⟩
      have hj5 : j < 5 := (List.getElem?_eq_some_iff.1 hj).1
      rw [← Go.Deep.add_add, g3 j hj5, hj])
    have hlen : ((List.range len).map M).length = len := by simp
    have hget : ∀ i, i < len → ((List.range len).map M)[i]? = some (M i) := fun i hi => by simp [hi]
    refine ⟨some a', (List.range len).map M, cap, by rw [hlen], fun hne => ?_, fun t ht => ?_⟩
    · have h0 : 0 < len := by
        rcases Nat.eq_zero_or_pos len with h | h
        · subst h; simp [mkC] at hne
        · exact h
      have hc0 := (hM 0 h0).2 0 _ rfl
      rw [show a'.add (0 * 5 + 0) = a' by simp [Addr.add]] at hc0
      have e := spot_none hc0
      refine ⟨a'.block, a'.off, by rw [← e], rd_old fun i v hv => ?_⟩
      have hi : i < len * 5 := by
        have := (List.getElem?_eq_some_iff.1 hv).1
        rwa [mkC_length, hlen] at this
      have hk : i / 5 < len := by omega
      have hj : i % 5 < 5 := by omega
      have hu : (mk5 (M (i / 5)))[i % 5]? = some ((mk5 (M (i / 5)))[i % 5]'hj) := List.getElem?_eq_getElem hj
      have hat := mkC_at (hget _ hk) _ _ hu
      have hci := (hM _ hk).2 _ _ hu
      rw [show i / 5 * 5 + i % 5 = i by omega] at hat hci
      rw [hat] at hv
      rw [e, Sl.addr_add] at hci
      rw [hci, hv]
    · obtain ⟨i, hi, rfl⟩ := List.mem_map.1 ht
      exact (hM i (List.mem_range.1 hi)).1
theorem ct_unold {E : Env} {f : FuncId} {args : List Value} {u : Value} (h : Ct E f args [old] (fun v Q => v = u ∧ Q = [old])) : Ct E f args [] (fun v Q => v = u ∧ Q = []) := fun R w s => (h R w (s.imp fun _ x => ent_old _ x)).mono fun e w' ⟨v, Qs, h1, ⟨h2, h3⟩, h4⟩ => ⟨v, [], h1, ⟨h2, rfl⟩, by
  subst h3
  exact h4.imp (by show ∀ k, stars [old, R] k → stars [R] k; (apply ent; (repeat constructor); done))⟩
theorem ct_PrefixForms {E : Env} (hE : Seat E) (hB : Base E.w0) {ms : List Mk} {A : Option Addr} {C : Nat} (hq : Rdb E.w0 A (mkC ms) old) (ht : ∀ m ∈ ms, m.times ≤ 9223372036854775807) {x y : Int} :
    Ct E 3 [.slice A ms.length C, .int .i64 x, .int .i64 y] [] (fun v Q => v = .bool true ∧ Q = []) := ct_unold (ct_PrefixFormsQ hE hB hq ht)
end Go.Proofs.YtekhbjlplfbdkaaDoor
