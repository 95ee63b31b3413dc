/- Arguments that are slices of texts. -/
import Derived.Test.YtekhbjlplfbdkaaGreatDoorQClc
set_option linter.unusedVariables false
set_option linter.unusedSimpArgs false
namespace Go.Proofs.YtekhbjlplfbdkaaGreatDoor
open Go Go.ChangeShapes Go.WideShapes Go.ChangeAt Go.WideMaps Go.WideElems Go.RowKit Go.ChangeMaps Sl Eg Go.Deep
theorem weightsAll_mem {H : Type} {P : Program} {e : TypeId} : ∀ {l : List (DataW H)} {d : DataW H} {n : Nat}, d ∈ l → n ∈ d.weights P e → n ∈ DataW.weightsAll P e l
  | x :: l, d, n, hd, hn => by
    rw [DataW.weightsAll, List.mem_append]
    rcases List.mem_cons.1 hd with rfl | h
    · exact .inl hn
    · exact .inr (weightsAll_mem h hn)
theorem under_texts : Tryz.prog.underlying 46 = some (.slice 32) := by kernel_rfl
theorem cells_bytes : Tryz.prog.cellsOf 32 = 1 := by kernel_rfl
theorem bytes_bytes : Tryz.prog.bytesOf 32 = 24 := by kernel_rfl
set_option maxRecDepth 100000 in
theorem open_texts {H : Type} {enc : TypeId × Value → H} {w : World} {base b0 : Nat} {r : Reach} {held : Bool} {v : Value} {d : DataW H} {ps : List MemPlace}
    (hv : Value.okWide Tryz.prog w r b0 46 v) (hd : DataW.Trod enc Tryz.prog w base (fun _ => true) held 46 v d ps) (hz : ∀ n ∈ d.weights Tryz.prog 46, n ≤ reachBytes) :
    ∃ (A : Option Addr) (ts : List Tx) (C : Nat), v = .slice A ts.length C ∧ Rdb w A (ts.map txV) old ∧ (∀ t ∈ ts, OkT w t) ∧ (ts.length + 1) * 24 ≤ 140737488355328 := by
  obtain ⟨a, len, cap, rfl⟩ := okWide_slice under_texts hv
  obtain ⟨fuel, hf⟩ := hd
  simp only [Value.cells] at hf
  have hr := reachBytes_lt
  rcases Go.Deep.open_int_rows under_texts under_bytes under_byte cells_bytes cells_byte hf with ⟨h1, h2⟩ | ⟨a', len', cap', A, L, C, Z, h1, hb, hl, hm, hx, hcell⟩
  · simp at h1
    obtain ⟨rfl, rfl, rfl⟩ := h1
    exact ⟨none, [], 0, rfl, fun h => absurd rfl h, (by simp), (by decide)⟩
  · simp at h1
    obtain ⟨rfl, rfl, rfl⟩ := h1
    simp only [Prod.mk.injEq] at hx
    obtain ⟨rfl, _⟩ := hx
    let T : Nat → Tx := fun r => ⟨A r, ((Z r).take (L r)).map byteOf, C r⟩
    have hT : ∀ r, r < len → ((T r).bs).length = L r := fun r hr => by
      obtain ⟨_, c1, _, c2, _⟩ := hcell r (by omega)
      show (((Z r).take (L r)).map byteOf).length = L r
      rw [List.length_map, List.length_take, c2]
      omega
    have hlen : ((List.range len).map T).length = len := by simp
    have hget : ∀ i, i < len → ((List.range len).map T)[i]? = some (T i) := fun i hi => by simp [hi]
    refine ⟨some a', (List.range len).map T, cap, by rw [hlen], fun hne => ?_, fun t ht => ?_, ?_⟩
    · have h0 : 0 < len := by
        rcases Nat.eq_zero_or_pos len with h | h
        · subst h; simp at hne
        · exact h
      have hc0 := (hcell 0 (by omega)).1
      rw [show a'.add 0 = a' by simp [Addr.add]] at hc0
      have e := spot_none hc0
      refine ⟨a'.block, a'.off, by rw [← e], rd_old fun i v hv => ?_⟩
      have hi : i < len := by
        have := (List.getElem?_eq_some_iff.1 hv).1
        simpa using this
      rw [List.getElem?_map, hget i hi] at hv
      simp only [Option.map_some, Option.some.injEq] at hv
      have hci := (hcell i (by omega)).1
      rw [e, Sl.addr_add] at hci
      rw [hci, ← hv]
      show some (Value.slice (A i) (L i) (C i)) = some (Value.slice (A i) ((T i).bs.length) (C i))
      rw [hT i hi]
    · obtain ⟨i, hi, rfl⟩ := List.mem_map.1 ht
      rw [List.mem_range] at hi
      obtain ⟨c0, c1, c2, c3, c4, c5, c6⟩ := hcell i (by omega)
      refine ⟨old_of (by omega) c4 (fun hpos => ?_), ?_, by rw [hT i hi]; exact c1⟩
      · cases hA : A i with
        | none => have := c5 hA; omega
        | some a2 => exact ⟨a2, hA, fun j hj => (c6 a2 hA).2 j (by omega)⟩
      · rw [hT i hi]
        cases hA : A i with
        | none => have := c5 hA; omega
        | some a2 =>
          have hmem : intRow (H := H) IntKind.u8 (A i) (L i) (Z i) ∈ (List.range len).map fun r => intRow (H := H) IntKind.u8 (A r) (L r) (Z r) := List.mem_map.2 ⟨i, List.mem_range.2 hi, rfl⟩
          have hw := hz (((lits (H := H) IntKind.u8 ((Z i).take (L i))).length + (lits (H := H) IntKind.u8 ((Z i).drop (L i))).length) * Tryz.prog.bytesOf 5) (by
            simp only [DataW.weights, under_texts]
            refine List.mem_cons_of_mem _ (List.mem_append_left _ (weightsAll_mem hmem ?_))
            rw [hA]
            simp [intRow, DataW.weights, under_bytes])
          rw [bytes_byte] at hw
          simp only [lits, List.length_map, List.length_take, List.length_drop] at hw
          omega
    · have hw := hz ((((List.range len).map fun r => intRow (H := H) IntKind.u8 (A r) (L r) (Z r)).length + ((List.range (cap - len)).map fun j => intRow (H := H) IntKind.u8 (A (len + j)) (L (len + j)) (Z (len + j))).length) * Tryz.prog.bytesOf 32) (by simp [DataW.weights, under_texts])
      rw [bytes_bytes] at hw
      simp only [List.length_map, List.length_range] at hw
      rw [hlen]
      have : reachBytes = 140737488351232 := by decide
      omega
end Go.Proofs.YtekhbjlplfbdkaaGreatDoor
