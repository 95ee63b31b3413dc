/- Plain: the signature of a repeated text. No program here. -/
import Derived.Test.YtkkjjablmmmmkaaGreatDoorQ02
import Derived.Test.YtkkjjablmmmmkaaGreatDoorQ35
set_option linter.unusedVariables false
set_option linter.unusedSimpArgs false
namespace Go.Proofs.YtkkjjablmmmmkaaGreatDoor
section
open Go Go.RowKit Sl Eg
def rep {α : Type} (k : Nat) (l : List α) : List α := (List.replicate k l).flatten
theorem qJc {α : Type} (l : List α) : rep 0 l = [] := rfl
theorem qCb {α : Type} (k : Nat) (l : List α) : rep (k + 1) l = l ++ rep k l := by simp [rep, List.replicate_succ]
theorem zCn {α : Type} (l : List α) : rep 1 l = l := by simp [rep]
theorem zDp {α : Type} (a b : Nat) (l : List α) : rep (a + b) l = rep a l ++ rep b l := by simp [rep, ← List.replicate_append_replicate]
theorem qLn {α : Type} (k : Nat) (l : List α) : (rep k l).length = k * l.length := by
 induction k with
 | zero => simp [rep]
 | succ k ih => rw [qCb, List.length_append, ih, Nat.succ_mul]; omega
theorem rep_hd {α : Type} {l : List α} (h : l ≠ []) (k : Nat) : (rep (k + 1) l).head? = l.head? := by
 rw [qCb]
 cases l with
 | nil => exact absurd rfl h
 | cons a l => rfl
theorem Sq.rep {L : List Rl} {lv : Nat} {X X' : List Nat} (h : Sq L lv X X') (hb : Bdry L lv X X' X) (hx : X ≠ []) : ∀ k, Sq L lv (Go.Proofs.YtkkjjablmmmmkaaGreatDoor.rep k X) (Go.Proofs.YtkkjjablmmmmkaaGreatDoor.rep k X')
 | 0 => .nil _ _
 | k + 1 => by
  rw [qCb, qCb]
  refine h.join (Sq.rep h hb hx k) fun u v e1 e2 => ?_
  cases k with
  | zero => simp [qJc] at e2
  | succ k => rw [rep_hd hx] at e2; exact hb u v e1 e2
theorem Lts.rep {L : List Rl} {ids : List Nat} {bs : List UInt8} (h : Lts L ids bs) : ∀ k, Lts L (Go.Proofs.YtkkjjablmmmmkaaGreatDoor.rep k ids) (Go.Proofs.YtkkjjablmmmmkaaGreatDoor.rep k bs)
 | 0 => .nil
 | k + 1 => by rw [qCb, qCb]; exact h.append (Lts.rep h k)
theorem Lts.split {L : List Rl} {a b : List Nat} {bs : List UInt8} (h : Lts L (a ++ b) bs) : ∃ u v, Lts L a u ∧ Lts L b v ∧ bs = u ++ v := by
 generalize e : a ++ b = c at h
 induction h generalizing b with
 | nil =>
  obtain ⟨rfl, rfl⟩ := List.append_eq_nil_iff.1 e
  exact ⟨[], [], .nil, .nil, rfl⟩
 | @snoc ids bs i c h1 h2 ih =>
  rcases List.eq_nil_or_concat b with rfl | ⟨b', y, rfl⟩
  ·rw [List.append_nil] at e
   subst e
   exact ⟨_, [], .snoc h1 h2, .nil, by simp⟩
  ·rw [List.concat_eq_append, ← List.append_assoc] at *
   obtain ⟨e1, e2⟩ := List.append_inj' e rfl
   simp at e2
   subst e2
   obtain ⟨u, v, g1, g2, rfl⟩ := ih e1
   exact ⟨u, v ++ [c], g1, .snoc g2 h2, by simp⟩
end
section
open Go Go.RowKit Sl Eg
set_option maxRecDepth 10000
variable {E : Env} {Es : List Ent} {pp tb s most : Nat}
structure ApG where
 l : Nat
 A : Sd
 B : Sd
 C : Md
structure ApI (L : List Rl) (x m : Nat) (q : ApG) : Prop where
 le : q.l ≤ m
 ea : EO L false q.l x q.A.x q.A.fs
 eb : EO L true q.l x q.B.x q.B.fs
 ra : seqE L false q.l q.A.x q.A.fs = expd L q.l x
 rb : seqE L true q.l q.B.x q.B.fs = expd L q.l x
 em : q.C.its = []
 bd : ∀ l, l < q.l → Bdry L (l + 1) (expd L l x) (expd L (l + 1) x) (expd L l x)
theorem ApI.next {L : List Rl} (hw : Wf L) {x m l : Nat} {A B A' B' : Sd} {C C' : Md} (hs : Sig L x) (h : ApI L x m ⟨l, A, B, C⟩) (hl : l < m) (hr : Rdy L l x x A B C A' B' C') (he : C'.its = []) : ApI L x m ⟨l + 1, upS L (l + 1) A', upS L (l + 1) B', C'⟩ := by
 obtain ⟨_, rfl, rfl⟩ := hr.ne he
 have h1 := hr.left.eo.up hw hs hr.left.bb
 have h2 := hr.right.eo.up hw hs hr.right.bb
 have hst := hs.step (l + 1) (by omega)
 rw [Nat.add_sub_cancel] at hst
 have ra := h.ra
 have rb := h.rb
 simp only at ra rb
 have q1 := h1.2
 have q2 := h2.2
 rw [ra] at q1
 rw [rb] at q2
 have e1 := q1.fn hw hst
 have e2 := q2.fn hw hst
 refine ⟨hl, h1.1, h2.1, e1, e2, he, fun k hk => ?_⟩
 rcases Nat.lt_or_ge k l with hlt | hge
 ·exact h.bd k hlt
 ·have hk' : k < l + 1 := hk
  obtain rfl : k = l := by omega
  have hb := hr.left.bd
  rw [he, zDy, List.nil_append, ra, rb, e1] at hb
  exact hb
end
end Go.Proofs.YtkkjjablmmmmkaaGreatDoor
