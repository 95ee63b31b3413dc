/- Arguments that are slices of halves. -/
import Derived.Test.YtekhbjlplfbdkaaDoorQ37
import Derived.Test.YtekhbjlplfbdkaaDoorQClc
set_option linter.unusedVariables false
set_option linter.unusedSimpArgs false
namespace Go.Proofs.YtekhbjlplfbdkaaDoor
open Go Go.ChangeShapes Go.WideShapes Go.ChangeAt Go.WideMaps Go.WideElems Go.RowKit Go.ChangeMaps Sl Eg
theorem under_halves : Tryd.prog.underlying 64 = some (.slice 65) := by kernel_rfl
theorem under_half : Tryd.prog.underlying 65 = some (.int .u16) := by kernel_rfl
theorem cells_half : Tryd.prog.cellsOf 65 = 1 := by kernel_rfl
theorem bytes_half : Tryd.prog.bytesOf 65 = 2 := by kernel_rfl
theorem half_wf {z : Int} (h : (Lit.int .u16 z).wf = true) : 0 ≤ z ∧ z < 65536 := by
  simp only [Lit.wf, Bool.and_eq_true, decide_eq_true_eq] at h
  have h1 : (IntKind.u16.min : Int) = 0 := by rfl
  have h2 : (IntKind.u16.max : Int) = 65535 := by rfl
  omega
theorem oldI_of {W : World} {a : Option Addr} {len : Nat} {zs : List Int} (hl : len ≤ zs.length) (hs : 0 < len → ∃ a', a = some a' ∧ ∀ i, i < zs.length → W.cell? (a'.add i) = some (.int .u16 (zs.getD i 0))) : OldI W a .u16 (zs.take len) := fun hb => by
  have hlen : 0 < len := by
    rcases Nat.eq_zero_or_pos len with h | h
    · subst h; simp at hb
    · exact h
  obtain ⟨a', rfl, hc⟩ := hs hlen
  have h0 := hc 0 (by omega)
  rw [show a'.add 0 = a' by simp [Addr.add]] at h0
  have e := spot_none h0
  refine ⟨a'.block, a'.off, by rw [← e], fun i z hz => ?_⟩
  have hi : i < len := by
    have := (List.getElem?_eq_some_iff.1 hz).1
    rw [List.length_take] at this
    omega
  rw [List.getElem?_take, if_pos hi] at hz
  have hci := hc i (by omega)
  rw [e, Sl.addr_add] at hci
  rw [hci, List.getD_eq_getElem?_getD, hz]
  rfl
set_option maxRecDepth 100000 in
theorem open_halves {H : Type} {enc : TypeId × Value → H} {w : World} {base b0 : Nat} {r : Reach} {held : Bool} {v : Value} {d : DataW H} {ps : List MemPlace}
    (hv : Value.okWide Tryd.prog w r b0 64 v) (hd : DataW.Trod enc Tryd.prog w base (fun _ => true) held 64 v d ps) (hz : ∀ n ∈ d.weights Tryd.prog 64, n ≤ reachBytes) : ∃ (a : Option Addr) (c : Nat) (zs : List Int), v = .slice a zs.length c ∧ OldI w a .u16 zs ∧ (∀ z ∈ zs, 0 ≤ z ∧ z < 65536) ∧ zs.length ≤ 140737488355328 := by
  obtain ⟨a, len, cap, rfl⟩ := okWide_slice under_halves hv
  obtain ⟨fuel, hf⟩ := hd
  simp only [Value.cells] at hf
  rcases open_ints under_halves under_half cells_half hf with ⟨h1, h2⟩ | ⟨a', len', cap', zs, h1, hb, hl, hm, hzl, hx, hcell, hwf⟩
  · simp at h1
    obtain ⟨rfl, rfl, rfl⟩ := h1
    exact ⟨none, 0, [], rfl, fun h => absurd rfl h, by simp, by simp⟩
  · simp at h1
    obtain ⟨rfl, rfl, rfl⟩ := h1
    simp only [if_true] at hzl
    simp only [Prod.mk.injEq] at hx
    obtain ⟨rfl, _⟩ := hx
    have hlen : (zs.take len).length = len := by simp; omega
    refine ⟨some a', cap, zs.take len, by simp only [hlen], oldI_of (by omega) (fun _ => ⟨a', rfl, hcell⟩), fun z hz => half_wf (hwf z (List.mem_of_mem_take hz)), ?_⟩
    have hw1 := hz (((lits (H := H) IntKind.u16 (zs.take len)).length + (lits (H := H) IntKind.u16 (zs.drop len)).length) * Tryd.prog.bytesOf 65) (by simp [DataW.weights, under_halves])
    rw [bytes_half] at hw1
    have hr := reachBytes_lt
    simp only [lits, List.length_map, List.length_take, List.length_drop] at hw1
    rw [hlen]
    omega
end Go.Proofs.YtekhbjlplfbdkaaDoor
