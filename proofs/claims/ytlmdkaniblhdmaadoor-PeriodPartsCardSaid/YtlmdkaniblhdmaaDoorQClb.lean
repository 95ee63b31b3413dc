/- Arguments that are structs or arrays of whole numbers. -/
import Derived.Test.YtlmdkaniblhdmaaDoorQCla
import Derived.ChangeArms
set_option linter.unusedVariables false
set_option linter.unusedSimpArgs false
namespace Go.Proofs.YtlmdkaniblhdmaaDoor
open Go Go.ChangeShapes Go.WideShapes Go.ChangeAt Go.WideMaps Go.WideElems Go.RowKit Go.ChangeMaps Sl
theorem trod_array {H : Type} {enc : TypeId × Value → H} {P : Program} {w : World} {base : Nat} {spare : Nat → Bool} {held : Bool} {fuel m : Nat} {t e : TypeId} {cs : List Value} {x : DataW H × List MemPlace} (ht : P.underlying t = some (.array m e)) (h : DataW.trod enc P w base spare held fuel t cs = some x) :
    ∃ (xs : List (DataW H × List MemPlace)) (n : Nat), cs.length = P.cellsOf t ∧ xs.length = m ∧ ∀ i, i < m → DataW.trod enc P w base spare held n e ((cs.drop (i * P.cellsOf e)).take (P.cellsOf e)) = xs[i]? := by
  cases fuel with
  | zero => simp [DataW.trod] at h
  | succ n =>
    unfold DataW.trod at h
    rw [ht] at h
    split at h <;> simp_all
    obtain ⟨hl, xs, hp, hd⟩ := h
    exact ⟨xs, by simpa using mapM_some_length hp, n, fun i hi => by simpa using mapM_some_get hp i i (by simp [hi])⟩
theorem one_cell {cs : List Value} {o : Nat} {v : Value} (h : (cs.drop o).take 1 = [v]) : cs[o]? = some v := by
  have := congrArg (fun l => l[0]?) h
  simpa [List.getElem?_take, List.getElem?_drop] using this
theorem okWide_array {P : Program} {w : World} {r : Reach} {base : Nat} {t : TypeId} {v : Value} {m : Nat} {e : TypeId} (ht : P.underlying t = some (.array m e)) (h : Value.okWide P w r base t v) : ∃ cs, v = .agg cs ∧ cs.size = P.cellsOf t := by
  unfold Value.okWide at h
  rw [ht] at h
  obtain ⟨cs, h1, h2, _⟩ := h
  exact ⟨cs, h1, h2⟩
/-- A struct of two whole numbers. -/
theorem open_two {H : Type} {enc : TypeId × Value → H} {P : Program} {w : World} {base b0 : Nat} {r : Reach} {spare : Nat → Bool} {held : Bool} {t ti : TypeId} {fs : Array Field} {f0 f1 : Field} {v : Value} {d : DataW H} {ps : List MemPlace} (ht : P.underlying t = some (.struct fs)) (h0 : fs[0]? = some f0) (h1 : fs[1]? = some f1) (o0 : f0.offset = 0) (o1 : f1.offset = 1) (t0 : f0.type = ti) (t1 : f1.type = ti)
    (hi : P.underlying ti = some (.int .i64)) (hc : P.cellsOf ti = 1) (hn : P.cellsOf t = 2) (hv : Value.okWide P w r b0 t v) (hd : DataW.Trod enc P w base spare held t v d ps) : ∃ a b, v = .agg #[.int .i64 a, .int .i64 b] := by
  obtain ⟨⟨cs⟩, rfl, hsz⟩ := okWide_struct ht hv
  obtain ⟨fuel, hf⟩ := hd
  obtain ⟨xs, n, _, _, hl, hx, hall⟩ := DataW.trod_struct ht hf
  have g0 := hall 0 f0 h0
  have g1 := hall 1 f1 h1
  have hlt : 1 < fs.size := (Array.getElem?_eq_some_iff.1 h1).1
  rw [List.getElem?_eq_getElem (by omega), o0, t0, hc] at g0
  rw [List.getElem?_eq_getElem (by omega), o1, t1, hc] at g1
  obtain ⟨a, e0, _⟩ := DataW.trod_int hi g0
  obtain ⟨b, e1, _⟩ := DataW.trod_int hi g1
  have c0 := one_cell e0
  have c1 := one_cell e1
  simp only [Value.cells] at c0 c1
  have hz : cs.length = 2 := by rw [hn] at hsz; simpa using hsz
  refine ⟨a, b, ?_⟩
  match cs, hz with
  | [x, y], _ =>
    simp at c0 c1
    rw [c0, c1]
/-- An array of three whole numbers. -/
theorem open_three {H : Type} {enc : TypeId × Value → H} {P : Program} {w : World} {base b0 : Nat} {r : Reach} {spare : Nat → Bool} {held : Bool} {t ti : TypeId} {v : Value} {d : DataW H} {ps : List MemPlace} (ht : P.underlying t = some (.array 3 ti))
    (hi : P.underlying ti = some (.int .i64)) (hc : P.cellsOf ti = 1) (hn : P.cellsOf t = 3) (hv : Value.okWide P w r b0 t v) (hd : DataW.Trod enc P w base spare held t v d ps) : ∃ a b c, v = .agg #[.int .i64 a, .int .i64 b, .int .i64 c] := by
  obtain ⟨⟨cs⟩, rfl, hsz⟩ := okWide_array ht hv
  obtain ⟨fuel, hf⟩ := hd
  obtain ⟨xs, n, _, hx, hall⟩ := trod_array ht hf
  have g0 := hall 0 (by omega)
  have g1 := hall 1 (by omega)
  have g2 := hall 2 (by omega)
  rw [List.getElem?_eq_getElem (by omega), hc] at g0 g1 g2
  obtain ⟨a, e0, _⟩ := DataW.trod_int hi g0
  obtain ⟨b, e1, _⟩ := DataW.trod_int hi g1
  obtain ⟨c, e2, _⟩ := DataW.trod_int hi g2
  have c0 := one_cell e0
  have c1 := one_cell e1
  have c2 := one_cell e2
  simp only [Value.cells] at c0 c1 c2
  have hz : cs.length = 3 := by rw [hn] at hsz; simpa using hsz
  refine ⟨a, b, c, ?_⟩
  match cs, hz with
  | [x, y, z], _ =>
    simp at c0 c1 c2
    rw [c0, c1, c2]
set_option maxRecDepth 100000 in
theorem open_span {H : Type} {enc : TypeId × Value → H} {w : World} {base b0 : Nat} {r : Reach} {spare : Nat → Bool} {held : Bool} {v : Value} {d : DataW H} {ps : List MemPlace}
    (hv : Value.okWide Tryd.prog w r b0 73 v) (hd : DataW.Trod enc Tryd.prog w base spare held 73 v d ps) : ∃ a b, v = .agg #[.int .i64 a, .int .i64 b] :=
  open_two (f0 := ⟨ "From", 3, 0, false, "", "", 0⟩) (f1 := ⟨ "N", 3, 1, false, "", "", 8⟩) (ti := 3) (fs := Tryd.prog.fieldsOf 73) (by kernel_rfl) (by kernel_rfl) (by kernel_rfl) rfl rfl rfl rfl (by kernel_rfl) (by kernel_rfl) (by kernel_rfl) hv hd
end Go.Proofs.YtlmdkaniblhdmaaDoor
