/- Package seam: the splice: gatherRuns. -/
import Derived.Test.YtkkjjablmmmmkaaGreatDoorQ02
import Derived.Test.YtkkjjablmmmmkaaGreatDoorQ32
set_option linter.unusedVariables false
set_option linter.unusedSimpArgs false
namespace Go.Proofs.YtkkjjablmmmmkaaGreatDoor
section
open Go Go.RowKit Sl Eg
set_option maxRecDepth 10000
variable {E : Env} {Es : List Ent} {pp tb s most S : Nat}
theorem EO.mem {L : List Rl} (hw : Wf L) {bh : Bool} {l root x : Nat} {fs : List Fm} (hs : Sig L root) (he : EO L bh l root x fs) : ∀ y ∈ seqE L bh l x fs, 1 ≤ y ∧ y ≤ L.length ∧ lvl L y ≤ (l : Nat) := by
 intro y hy
 by_cases hx : x = 0
 ·subst hx
  rw [he.zero, qGm] at hy
  simp at hy
 ·obtain ⟨_, h2, _, _⟩ := he.low hx
  have hf := h2.full hw he.hi
  have hm : y ∈ expd L l root := by
   rw [hf]
   cases bh
   ·simp only [cat, Bool.false_eq_true, if_false]; exact List.mem_append_left _ (by simpa [seqE, cat] using hy)
   ·simp only [cat, if_true]; exact List.mem_append_right _ (by simpa [seqE, cat] using hy)
  have := expd_mem hw root hs.le y hm
  have := hs.le
  omega
def Dk (L : List Rl) : Prop := ∀ x y, 1 ≤ x → x ≤ L.length → 1 ≤ y → y ≤ L.length → key L x = key L y → x = y
def Grw (its its' : List It) : Prop := ∃ a b, its' = a ++ its ++ b ∧ a.length ≤ 1 ∧ b.length ≤ 1
end
section
open Go Go.RowKit Sl Eg
set_option maxRecDepth 10000
variable {E : Env} {Es : List Ent} {pp tb s most S : Nat}
def ItT (L : List Rl) (its : List It) : Prop := ∀ it ∈ its, 1 ≤ it.times ∧ (it.next = 0 → it.times = 1) ∧ (it.next ≠ 0 → key L it.next = key L it.id)
theorem fits_tie {c x y : Nat} (h : c = 122) : qAr c x y ↔ x = y := by unfold qAr; rw [if_pos h]
theorem EO.ids {L : List Rl} (hw : Wf L) {bh : Bool} {l root x : Nat} {fs : List Fm} (hs : Sig L root) (h : EO L bh l root x fs) : x ≤ L.length ∧ ∀ f ∈ fs, 1 ≤ f.id ∧ f.id ≤ L.length := by
 rcases h.lk with ⟨rfl, rfl⟩ | ⟨h1, h2, h3⟩
 ·simp
 ·have ok := h2.ok hw hs
  exact ⟨ok.2.1, fun f hf => ⟨(ok.2.2.2 f hf).1, (ok.2.2.2 f hf).2.1⟩⟩
theorem EO.adj {L : List Rl} (hw : Wf L) {l root x a : Nat} {fs : List Fm} {r : List Nat} (hs : Sig L root) (he : EO L true l root x fs) (hx : x ≠ 0) (hev : (l + 1) % 2 = 0) (h : seqE L true l x fs = a :: a :: r) : False := by
 obtain ⟨_, h2, _, _⟩ := he.low hx
 have hf := h2.full hw he.hi
 have hin := hs.inv (l + 1) (by omega)
 have e : expd L l root = cutS L true l fs ++ seqE L true l x fs := by rw [hf]; rfl
 rw [Nat.add_sub_cancel, e, h] at hin
 have := (hin.same (cutS L true l fs).length a (by rw [List.getElem?_append_right (Nat.le_refl _), Nat.sub_self]; rfl) (by rw [List.getElem?_append_right (by omega), Nat.add_sub_cancel_left]; rfl)).1
 omega
end
section
open Go Go.RowKit Sl Eg
set_option maxRecDepth 10000
variable {E : Env} {Es : List Ent} {pp tb s most S : Nat}
def Shp (L : List Rl) (lv : Nat) (its : List It) : Prop := if lv % 2 = 1 then Sng its else if num lv = 122 then ItT L its else Sng its ∧ ∀ it ∈ its, it.times = 1
structure Rdy (L : List Rl) (l rl rr : Nat) (A B : Sd) (M : Md) (A' B' : Sd) (M' : Md) : Prop where
 left : RL L l rl A'.x A'.fs (qLm M'.its ++ seqE L true l B'.x B'.fs)
 right : RR L l rr B'.x B'.fs (qLm M'.its)
 row : seqE L false l A'.x A'.fs ++ (qLm M'.its ++ seqE L true l B'.x B'.fs) = seqE L false l A.x A.fs ++ (qLm M.its ++ seqE L true l B.x B.fs)
 ne : M'.its = [] → M.its = [] ∧ A' = A ∧ B' = B
 grow : Dk L → Grw M.its M'.its
 shp : Shp L (l + 1) M'.its
end
end Go.Proofs.YtkkjjablmmmmkaaGreatDoor
