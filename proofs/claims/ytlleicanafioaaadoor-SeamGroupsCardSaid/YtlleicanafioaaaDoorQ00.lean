import Derived.Deep.AppendLies
import Derived.Lib.AppendZeros
import Derived.Lib.AppendZerosOnto
set_option linter.all false
set_option maxHeartbeats 1000000
namespace Go.Proofs.YtlleicanafioaaaDoor
open Go

theorem qLx {P : Program} (w : World) (t tn ty : TypeId) (base : Nat) (e : TypeId) (i : TypeInfo) (z : Value) (kn : IntKind) (size bytes : Nat) (ht : P.underlying t = some (.slice e)) (htn : P.underlying tn = some (.int kn)) (hi : P.info? e = some i) (hz : i.zero = some z)
  (hsize : i.size = size) (hby : i.bytes = bytes) (hzs : z.cells.size = size) (hsz : 0 < size) (h1 : ∀ u ∈ z.cells.toList, u.oneCell' = true)
  (v : Value) (n : Nat) (xs : List Value) (hown : w.ownsRow base e size v n xs) (k : Nat) (h0 : 0 < k) (h63 : n + k ≤ maxLen) (hbytes : (n + k) * bytes ≤ 140737488355328) (hbase : base ≤ w.heap.size) :
  ∃ g cap w', (Builtin.append_ #[t, tn] ty #[v, .int .i64 k]).run P w = .ok (.slice (some ⟨g, 0, none⟩) (n + k) cap) w' ∧
   w'.ownsRow base e size (.slice (some ⟨g, 0, none⟩) (n + k) cap) (n + k) (xs ++ (Builtin.zeroCells z.cells k).toList) ∧ w.grownBy w' v.ownBlock ∧ (v.ownBlock = some g ∨ g = w.heap.size) ∧ g < w'.heap.size := by
 subst hsize
 subst hby
 have hsmall : n + k ≤ 9223372036854775807 := by simp only [maxLen] at h63; omega
 have hzl : (Builtin.zeroCells z.cells k).toList.length = k * i.size := by simp [size_zeroCells, hzs]
 have hlen : (xs ++ (Builtin.zeroCells z.cells k).toList).length = (n + k) * i.size := by rw [List.length_append, hown.1, hzl, Nat.add_mul]
 have hkb : k * i.bytes ≤ 281474976710656 := by
  have := Nat.mul_le_mul_right i.bytes (show k ≤ n + k by omega)
  omega
 have grown : ∀ (old : Nat), ∀ (row : Option Nat),
   (w.drew.alloc (.cells (xs.toArray ++ Builtin.zeroCells z.cells k ++ Builtin.zeroCells z.cells (grownCap w (n + k) old e - (n + k))) e)).ownsRow base e i.size
    (.slice (some ⟨w.heap.size, 0, none⟩) (n + k) (grownCap w (n + k) old e)) (n + k) (xs ++ (Builtin.zeroCells z.cells k).toList) ∧
   w.grownBy (w.drew.alloc (.cells (xs.toArray ++ Builtin.zeroCells z.cells k ++ Builtin.zeroCells z.cells (grownCap w (n + k) old e - (n + k))) e)) row := by
  intro old row
  have hge := grownCap_ge w (n + k) old e
  have hcm : grownCap w (n + k) old e ≤ maxLen := grownCap_le_maxLen w (n + k) old e h63
  refine ⟨⟨hlen, .inr ⟨w.heap.size, _, _, rfl, hbase, heap_alloc_new w.drew _, hge, hcm, ?_, ?_⟩⟩, ⟨rfl, rfl, rfl, by simp, fun j hj _ => heap_alloc_old w.drew _ j hj⟩⟩
  ·simp only [Array.size_append, List.size_toArray, size_zeroCells, hzs, hown.1, ← Nat.add_mul]
   congr 1
   omega
  simp only [Array.toList_append, List.append_assoc]
  rw [← List.append_assoc, ← hlen]
  exact List.take_left
 rcases hown.2 with ⟨rfl, rfl⟩ | ⟨g, cap, cur, rfl, hbg, hg, hnc, hcm, hcs, htake⟩
 ·have hx : xs = [] := List.eq_nil_of_length_eq_zero (by simpa using hown.1)
  subst hx
  have hr := Lib.run_append_nil_zeros (P := P) w t tn ty e i z .i64 kn ht htn hi hz k h0 (by omega) (by omega) hkb
  have hgr := grown 0 (Value.ownBlock (.slice none 0 0))
  simp only [Nat.zero_add, List.nil_append, Array.empty_append] at hgr ⊢
  exact ⟨_, _, _, hr, hgr.1, hgr.2, .inr rfl, by simp⟩
 have hglt : g < w.heap.size := (Array.getElem?_eq_some_iff.1 hg).1
 by_cases hroom : n + k ≤ cap
 ·have hfit : n * i.size + (Builtin.zeroCells z.cells k).toList.length ≤ cur.size := by rw [hzl, hcs, ← Nat.add_mul]; exact Nat.mul_le_mul_right _ hroom
  have hone : ∀ u ∈ (Builtin.zeroCells z.cells k).toList, u.oneCell' = true := by
   intro u hu
   simp only [Builtin.zeroCells, Array.toList_map, List.mem_map] at hu
   obtain ⟨j, _, rfl⟩ := hu
   have hj : j % z.cells.size < z.cells.size := Nat.mod_lt _ (by omega)
   rw [getElem!_pos z.cells _ hj]
   exact h1 _ (by simp)
  have hst := run_storeCells_at P g (n * i.size) e (Builtin.zeroCells z.cells k).toList 0 cur w hg (by simpa using hfit) hone
  simp only [Nat.add_zero] at hst
  refine ⟨g, cap, w.setRow g (cur.toList.take (n * i.size) ++ (Builtin.zeroCells z.cells k).toList ++ cur.toList.drop (n * i.size + (Builtin.zeroCells z.cells k).toList.length)).toArray, ?_, ⟨hlen, .inr ⟨g, cap, _, rfl, hbg, setRow_heap w g cur _ e _ hg, hroom, hcm, ?_, ?_⟩⟩, ⟨rfl, rfl, rfl, by simp, fun j _ hj => setRow_other w g j _ (fun e => hj (by simp [Value.ownBlock, e]))⟩, .inl rfl, by simpa using hglt⟩
  ·have hw : IntKind.i64.wrap (k : Int) = k := by rw [IntKind.wrap_i64]; omega
   have hneg : ¬ ((k : Int) < 0) := by omega
   have h48i : ¬ (281474976710656 < (k : Int) * (i.bytes : Int)) := by rw [← Int.natCast_mul]; omega
   have hns : ¬ (k * i.size = 0) := Nat.mul_ne_zero (by omega) (by omega)
   simp [Builtin.append_, run_underlying ht, run_underlying htn, sizeOf, typeInfo, zeroValue, hi, hz, asInt, asIntOf, hw, hneg, hns, h48i, hroom, Addr.add_lit, hst]
  ·have hfit2 := hfit
   rw [Array.length_toList] at hfit2
   simp only [List.size_toArray, List.length_append, List.length_take, List.length_drop, Array.length_toList]
   omega
  rw [htake, ← hlen]
  exact List.take_left
 have holds : ∀ j u, xs[j]? = some u → w.cell? ((⟨g, 0, none⟩ : Addr).add j) = some u := hown.cells (g := g) rfl
 have hold : (Builtin.firstCells i.size n (.slice (some ⟨g, 0, none⟩) n cap)).run P w.drew = .ok xs.toArray w.drew :=
  run_firstCells_some (P := P) w.drew i.size n ⟨g, 0, none⟩ n cap xs hown.1 holds
 have hr := Lib.run_append_grow_zeros (P := P) w t tn ty e i z .i64 kn ht htn hi hz (some ⟨g, 0, none⟩) n cap xs hold k h0 (by omega) (by omega) (by omega) hkb (growslice_fits (by omega) hbytes)
 have hgr := grown cap (Value.ownBlock (.slice (some ⟨g, 0, none⟩) n cap))
 exact ⟨_, _, _, hr, hgr.1, hgr.2, .inr rfl, by simp⟩
end Go.Proofs.YtlleicanafioaaaDoor
