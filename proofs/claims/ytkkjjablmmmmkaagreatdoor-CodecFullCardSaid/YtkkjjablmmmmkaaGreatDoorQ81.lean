import Derived.Test.YtkkjjablmmmmkaaGreatDoorQ80
set_option linter.all false
namespace Go.Proofs.YtkkjjablmmmmkaaGreatDoor
open Go Go.RowKit Sl Eg
set_option maxRecDepth 10000
variable {E : Env} {Es : List Ent} {pp tb s most m bm : Nat} {f : Int → Option Value}
variable {L : List Rl} {l : List Im} {ys : List Nat}
def dcs (L : List Rl) (ys Z : List Nat) : List Nat := ys.map fun y => Z.getD (numb (kK L ys []) y) 0
theorem zCp (hy : ys.length = l.length) (Z : List Nat) (A : List (List UInt8 × Nat)) (hA : A = nmA l (ys.map (numb (kK L ys [])))) : nmI (nmK Z A l.length) = mkN l (dcs L ys Z) := by
 have hAl : A.length = l.length := by rw [hA]; exact qQd (by rw [List.length_map]; exact hy)
 rw [← hAl, nmK_all]
 apply List.ext_getElem?
 intro i
 unfold nmI
 rw [List.getElem?_map, List.getElem?_map]
 rcases Nat.lt_or_ge i l.length with h | h
 ·obtain ⟨x, hx⟩ : ∃ x, l[i]? = some x := ⟨_, List.getElem?_eq_getElem h⟩
  obtain ⟨y, hyi⟩ : ∃ y, ys[i]? = some y := ⟨_, List.getElem?_eq_getElem (by omega)⟩
  have h1 : A[i]? = some (x.name, numb (kK L ys []) y) := by rw [hA]; exact nmA_at hx (by rw [List.getElem?_map, hyi]; rfl)
  rw [h1, mkN_at (ids := dcs L ys Z) (id := Z.getD (numb (kK L ys []) y) 0) hx (by unfold dcs; rw [List.getElem?_map, hyi]; rfl)]
  rfl
 rw [List.getElem?_eq_none (by omega), List.getElem?_eq_none (by rw [qZy (by unfold dcs; rw [List.length_map]; exact hy)]; exact h)]
 rfl
theorem dcs_len (hy : ys.length = l.length) (Z : List Nat) : (dcs L ys Z).length = l.length := by unfold dcs; rw [List.length_map]; exact hy
theorem dcs_txs (h : RsL L l ys) (ht : ∀ (i : Nat) (x : Im) (y : Nat), l[i]? = some x → ys[i]? = some y → txt L y = x.bs) {L2 : List Rl} (hw2 : Wf L2) {Z : List Nat} (hD : DcI (gram L (kK L ys [])) L2 (gram L (kK L ys [])).length Z) : Txs L2 l (dcs L ys Z) := fun i x id hx hi => by
 unfold dcs at hi
 rw [List.getElem?_map] at hi
 obtain ⟨y, hy, rfl⟩ := Option.map_eq_some_iff.1 hi
 have hle : numb (kK L ys []) y ≤ (gram L (kK L ys [])).length := by rw [qDe]; exact qEq _ _
 obtain ⟨z, hz, hzz⟩ := hD.get hle
 rw [List.getD_eq_getElem?_getD, hz, Option.getD_some]
 rcases hzz with ⟨h0, rfl⟩ | hiso
 ·have : y = 0 := by
   rcases h.here (List.mem_of_getElem? hy) with e | e
   ·exact e
   have := qEj e; omega
  subst this
  exact ⟨Nat.zero_le _, by rw [qGt, ← ht i x 0 hx hy, qGt]⟩
 have hin : y ∈ kK L ys [] := by
  rcases h.here (List.mem_of_getElem? hy) with e | e
  ·subst e
   have h1 := qBm.2 h.lis.zero
   have := hiso.pos
   omega
  exact e
 refine ⟨hiso.le.2, ?_⟩
 rw [← hiso.txt h.lis.gwf hw2, ← (h.lis.iso y hin).txt h.wf h.lis.gwf]
 exact ht i x y hx hy
end Go.Proofs.YtkkjjablmmmmkaaGreatDoor
