/- The table of keys and the parser: Key, Level, New, Store, Keys, Top. -/
import Derived.Test.YtkkjjablmmmmkaaGreatDoorQ02
import Derived.Test.YtkkjjablmmmmkaaGreatDoorQ04
import Derived.Test.YtkkjjablmmmmkaaGreatDoorQ06
set_option linter.unusedVariables false
set_option linter.unusedSimpArgs false
namespace Go.Proofs.YtkkjjablmmmmkaaGreatDoor
section
open Go Go.RowKit Sl Eg
set_option maxRecDepth 10000
variable {E : Env} {Es : List Ent} {pp tb s most : Nat}
theorem zCy (hE : Seat E) (hB : Base E.w0) {i : Nat} (hi : i < Es.length) :
  Ct E 69 [.pointer (some ⟨tb, 0, none⟩), .int .i64 ((i + 1 : Nat) : Int)] [tabP tb s (rls Es), zQ s most Es] (fun v Q => v = .tuple #[.int .u64 (key (rls Es) (i + 1) : Nat), .nilIface] ∧ Q = [tabP tb s (rls Es), zQ s most Es]) := by
 refine zN (hE.fn Tryz.func69) rfl rfl rfl (fun R => ?_)
 simp only [qAe, List.cons_append, List.nil_append]
 refine qK (qI (uA rfl (uA rfl (qL (qJ (qK (qI (uM rfl (uM rfl (uU (uC (ct_row hE hB hi) rfl ?_)))))))))))
 rintro _ _ ⟨rfl, rfl⟩
 simp only [List.cons_append, List.nil_append]
 refine uM rfl (qA (qS rfl rfl) rfl (qA (qS rfl rfl) rfl (uU (kC (hE.t rfl) (fun b6 => ?_)))))
 refine uU (uS (hE.t rfl) ?_)
 refine uA rfl (qL (qJ (qK (qK (qI (uM rfl (qA (qAg rfl (hE.t rfl)) rfl ?_)))))))
 refine qL (qJ (zC rfl (zB (qJ (qK (qI (uF (hE.t rfl) ?_)))))))
 refine uL (hE.t rfl) ?_
 refine uA rfl (uA rfl (qL (qJ (zY ?_))))
 apply zZ
 ·rfl
 ·(apply Rs.tmp rfl; apply Rs.tmp rfl; exact Rs.nil)
 ·exact ⟨rfl, rfl⟩
 ·(apply ent; (repeat constructor); done)
theorem qXi (hE : Seat E) (hB : Base E.w0) {i : Nat} (hi : i < Es.length) (hl : 0 ≤ lvl (rls Es) (i + 1)) :
  Ct E 68 [.pointer (some ⟨tb, 0, none⟩), .int .i64 ((i + 1 : Nat) : Int)] [tabP tb s (rls Es), zQ s most Es] (fun v Q => v = .tuple #[.int .i64 (lvl (rls Es) (i + 1)), .nilIface] ∧ Q = [tabP tb s (rls Es), zQ s most Es]) := by
 refine zN (hE.fn Tryz.func68) rfl rfl rfl (fun R => ?_)
 simp only [qAe, List.cons_append, List.nil_append]
 refine qK (qI (uA rfl (uA rfl (qL (qJ (qK (qI (uM rfl (uM rfl (uU (uC (ct_row hE hB hi) rfl ?_)))))))))))
 rintro _ _ ⟨rfl, rfl⟩
 simp only [List.cons_append, List.nil_append]
 refine uM rfl (qA (qS rfl rfl) rfl (qA (qS rfl rfl) rfl (uU (kC (hE.t rfl) (fun b6 => ?_)))))
 refine uU (uS (hE.t rfl) ?_)
 refine uA rfl (qL (qJ (qK (qK (qI (uM rfl (qA (qAg rfl (hE.t rfl)) rfl ?_)))))))
 refine qL (qJ (zC rfl (zB (qJ (qK (qK (qI (uF (hE.t rfl) ?_))))))))
 refine uL (hE.t rfl) ?_
 refine qA (y_lt rfl rfl) rfl ?_
 refine qL (qJ ?_)
 refine zD rfl (fun h => ?_) (fun h => ?_)
 ·exact absurd h (by omega)
 ·refine zB (qJ (qK (qI ?_)))
  refine uF (hE.t rfl) ?_
  refine uL (hE.t rfl) ?_
  refine uA rfl (uA rfl (qL (qJ (zY ?_))))
  apply zZ
  ·rfl
  ·(apply Rs.tmp rfl; apply Rs.tmp rfl; exact Rs.nil)
  ·exact ⟨rfl, rfl⟩
  ·(apply ent; (repeat constructor); done)
theorem qOy (hE : Seat E) : Ct E 56 [.pointer (some ⟨s, 0, none⟩)] [] (fun v Q => ∃ tb, v = .pointer (some ⟨tb, 0, none⟩) ∧ Q = [tabP tb s []]) := by
 refine zN (hE.fn Tryz.func56) rfl rfl rfl (fun R => ?_)
 simp only [qAe, List.cons_append, List.nil_append]
 refine qK (qI (uA rfl (qL (qJ (qK (qK (qI (uM rfl (qA (qCc rfl (hE.t rfl)) rfl ?_)))))))))
 refine qL (qJ (zC rfl (zB (qJ (qK (qI (uM rfl (qA (qAb (hE.t rfl) rfl rfl) rfl ?_))))))))
 refine uU ?_
 refine qAw rfl (fun b7 => ?_)
 refine uA rfl (qL (qJ (zY ?_)))
 apply zZ
 ·rfl
 ·(apply Rs.tmp rfl; exact Rs.nil)
 ·exact ⟨b7, rfl, rfl⟩
 ·apply kB (qCh (t := 184) (sz := 3))
  apply kB
  ·apply qOz (K := []) (L := []) (tb := b7) (s := s) (p := none) (c := 0)
   ·((repeat constructor); done)
   ·rfl
   ·simp
   ·simp
  ·(apply ent; (repeat constructor); done)
theorem zBh (hE : Seat E) : Ct E 31 [.pointer (some ⟨s, 0, none⟩)] [zQ s most []] (fun v Q => ∃ pp tb, v = .pointer (some ⟨pp, 0, none⟩) ∧ Q = [cells pp [.pointer (some ⟨s, 0, none⟩), .pointer (some ⟨tb, 0, none⟩)] 106, tabP tb s (rls []), zQ s most []]) := by
 refine zN (hE.fn Tryz.func31) rfl rfl rfl (fun R => ?_)
 simp only [qAe, List.cons_append, List.nil_append]
 refine qK (qI (uA rfl (qL (qJ (qK (qK (qI (uM rfl (qA (qCc rfl (hE.t rfl)) rfl ?_)))))))))
 refine qL (qJ (zC rfl (zB (qJ (qK (qI (uM rfl (uM rfl (uU (uC (qOy hE) rfl ?_))))))))))
 rintro _ _ ⟨tb, rfl, rfl⟩
 simp only [List.cons_append, List.nil_append]
 refine qA (qAb (hE.t rfl) rfl rfl) rfl ?_
 refine uU ?_
 refine qAw rfl (fun b9 => ?_)
 refine uA rfl (qL (qJ (zY ?_)))
 apply zZ
 ·rfl
 ·(apply Rs.tmp rfl; exact Rs.nil)
 ·exact ⟨b9, tb, rfl, rfl⟩
 ·(apply ent; (repeat constructor); done)
theorem qGq (hE : Seat E) : Ct E 29 [.pointer (some ⟨pp, 0, none⟩)] [cells pp [.pointer (some ⟨s, 0, none⟩), .pointer (some ⟨tb, 0, none⟩)] 106] (fun v Q => v = .pointer (some ⟨s, 0, none⟩) ∧ Q = [cells pp [.pointer (some ⟨s, 0, none⟩), .pointer (some ⟨tb, 0, none⟩)] 106]) := by
 refine zN (hE.fn Tryz.func29) rfl rfl rfl (fun R => ?_)
 simp only [qAe, List.cons_append, List.nil_append]
 refine qK (qI (uA rfl (qL (qJ (qK (qK (qI (uM rfl (qA (qCc rfl (hE.t rfl)) rfl ?_)))))))))
 refine qL (qJ (zC rfl (zB (qJ (qK (qI (uM rfl (qA (qZ rfl) rfl ?_))))))))
 refine uF (hE.t rfl) ?_
 refine uL (hE.t rfl) ?_
 refine uA rfl (qL (qJ (zY ?_)))
 apply zZ
 ·rfl
 ·(apply Rs.tmp rfl; exact Rs.nil)
 ·exact ⟨rfl, rfl⟩
 ·(apply ent; (repeat constructor); done)
theorem ct_Keys (hE : Seat E) : Ct E 183 [.pointer (some ⟨pp, 0, none⟩)] [cells pp [.pointer (some ⟨s, 0, none⟩), .pointer (some ⟨tb, 0, none⟩)] 106] (fun v Q => v = .pointer (some ⟨tb, 0, none⟩) ∧ Q = [cells pp [.pointer (some ⟨s, 0, none⟩), .pointer (some ⟨tb, 0, none⟩)] 106]) := by
 refine zN (hE.fn Tryz.func183) rfl rfl rfl (fun R => ?_)
 simp only [qAe, List.cons_append, List.nil_append]
 refine qK (qI (uA rfl (qL (qJ (qK (qK (qI (uM rfl (qA (qCc rfl (hE.t rfl)) rfl ?_)))))))))
 refine qL (qJ (zC rfl (zB (qJ (qK (qI (uM rfl (qA (qZ rfl) rfl ?_))))))))
 refine uF (hE.t rfl) ?_
 refine uL (hE.t rfl) ?_
 refine uA rfl (qL (qJ (zY ?_)))
 apply zZ
 ·rfl
 ·(apply Rs.tmp rfl; exact Rs.nil)
 ·exact ⟨rfl, rfl⟩
 ·(apply ent; (repeat constructor); done)
end
section
open Go Go.RowKit Sl Eg
set_option maxRecDepth 10000
variable {E : Env} {Es : List Ent} {pp tb s most : Nat}
def gsC : List (Nat × Nat) → List Value
 | [] => []
 | g :: r => .int .i64 (g.1 : Nat) :: .int .i64 (g.2 : Nat) :: gsC r
theorem qGi : ∀ (a b : List (Nat × Nat)), gsC (a ++ b) = gsC a ++ gsC b
 | [], _ => rfl
 | _ :: a, b => by simp [gsC, qGi a b]
theorem qHi {gs : List (Nat × Nat)} {i : Nat} {g : Nat × Nat} (h : gs[i]? = some g) : (gsC gs)[i * 2]? = some (.int .i64 (g.1 : Nat)) ∧ (gsC gs)[i * 2 + 1]? = some (.int .i64 (g.2 : Nat)) := by
 induction gs generalizing i with
 | nil => simp at h
 | cons x r ih =>
  cases i with
  | zero => obtain rfl : x = g := by simpa using h
            exact ⟨rfl, rfl⟩
  | succ i =>
   obtain ⟨h1, h2⟩ := ih (i := i) (by simpa using h)
   exact ⟨by rw [show (i + 1) * 2 = i * 2 + 1 + 1 by omega]; simpa [gsC] using h1, by rw [show (i + 1) * 2 + 1 = i * 2 + 1 + 1 + 1 by omega]; simpa [gsC] using h2⟩
theorem zCc {gs : List (Nat × Nat)} {i : Nat} {g : Nat × Nat} (h : gs[i]? = some g) (k : Nat) : (gsC gs).set (i * 2 + 1) (.int .i64 (k : Nat)) = gsC (gs.set i (g.1, k)) := by
 induction gs generalizing i with
 | nil => simp at h
 | cons x r ih =>
  cases i with
  | zero => obtain rfl : x = g := by simpa using h
            rfl
  | succ i =>
   have := ih (i := i) (by simpa using h)
   rw [show (i + 1) * 2 + 1 = i * 2 + 1 + 1 + 1 by omega]
   simp [gsC, this]
end
end Go.Proofs.YtkkjjablmmmmkaaGreatDoor
namespace Eg
def tx (L : List Rl) (bk : Bool) (i : Nat) : List UInt8 := if bk then (txt L i).reverse else txt L i
theorem qRk {L : List Rl} {i l r : Nat} (h : L[i]? = some (.pair l r)) (hk : (Rl.pair l r).ok (i + 1)) (h0 : 0 ≤ lvl L (i + 1)) : 0 ≤ lvl L l ∧ 0 ≤ lvl L r := by
 rw [(qCo h hk).2] at h0
 split at h0
 ·rename_i hc; exact hc.2
 ·omega
theorem qMz {L : List Rl} {i x k : Nat} (h : L[i]? = some (.power x k)) (hk : (Rl.power x k).ok (i + 1)) (h0 : 0 ≤ lvl L (i + 1)) : 0 ≤ lvl L x := by
 rw [(qCf h hk).2] at h0
 split at h0
 ·rename_i hc; exact hc.1
 ·omega
end Eg
