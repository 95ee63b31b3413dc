import Derived.Test.YtkkjjablmmmmkaaGreatDoorQ06
set_option linter.all false
namespace Go.Proofs.YtkkjjablmmmmkaaGreatDoor
open Go Go.RowKit Sl Eg
set_option maxRecDepth 10000
section
variable {E : Env} {Es : List Ent} {pp tb s most : Nat}
theorem zEj (hE : Seat E) (hB : Base E.w0) {i : Nat} (hi : i < Es.length) :
  Ct E 69 [uPt tb, .int .i64 ((i + 1 : Nat) : Int)] [tabP tb s (rls Es), zT s most Es] (fun v Q => v = .tuple #[.int .u64 (key (rls Es) (i + 1) : Nat), .nilIface] ∧ Q = [tabP tb s (rls Es), zT s most Es]) := by
 refine zQ (hE.fn Tryz.func69) rfl rfl rfl (fun R => ?_)
 simp only [qAa, uV, uW]
 refine qK (qI (uA rfl (uA rfl (qL (qJ (qK (qI (uM rfl (uM rfl (uX (ct_row hE hB hi) rfl ?_))))))))))
 rintro _ _ ⟨rfl, rfl⟩
 simp only [uV, uW]
 refine uM rfl (uB (qU rfl rfl) (uB (qU rfl rfl) (uU (kH (hE.t rfl) (fun b6 => ?_)))))
 refine uU (uS ?_)
 refine uA rfl (qL (qJ (qK (qK (qI (uM rfl (uB (qAg rfl (hE.t rfl)) ?_)))))))
 refine qL (qJ (zF rfl (zD (qJ (qK (qI (uB (uBf rfl) ?_)))))))
 refine uL ?_
 refine uA rfl (uA rfl (qL (qJ (kD ?_))))
 exact uZ rfl (.tmp rfl (.tmp rfl .nil)) ⟨rfl, rfl⟩
theorem ct_level (hE : Seat E) (hB : Base E.w0) {i : Nat} (hi : i < Es.length) (hl : 0 ≤ lvl (rls Es) (i + 1)) :
  Ct E 68 [uPt tb, .int .i64 ((i + 1 : Nat) : Int)] [tabP tb s (rls Es), zT s most Es] (fun v Q => v = .tuple #[.int .i64 (lvl (rls Es) (i + 1)), .nilIface] ∧ Q = [tabP tb s (rls Es), zT s most Es]) := by
 refine zQ (hE.fn Tryz.func68) rfl rfl rfl (fun R => ?_)
 simp only [qAa, uV, uW]
 refine qK (qI (uA rfl (uA rfl (qL (qJ (qK (qI (uM rfl (uM rfl (uX (ct_row hE hB hi) rfl ?_))))))))))
 rintro _ _ ⟨rfl, rfl⟩
 simp only [uV, uW]
 refine uM rfl (uB (qU rfl rfl) (uB (qU rfl rfl) (uU (kH (hE.t rfl) (fun b6 => ?_)))))
 refine uU (uS ?_)
 refine uA rfl (qL (qJ (qK (qK (qI (uM rfl (uB (qAg rfl (hE.t rfl)) ?_)))))))
 refine qL (qJ (zF rfl (zD (qJ (qK (qK (qI (uB (uBf rfl) ?_))))))))
 refine uL ?_
 refine uB (y_lt rfl rfl) ?_
 refine qL (qJ ?_)
 refine zG rfl (fun h => ?_) (fun h => ?_)
 ·exact absurd h (by omega)
 refine zD (qJ (qK (qI ?_)))
 refine uB (uBf rfl) ?_
 refine uL ?_
 refine uA rfl (uA rfl (qL (qJ (kD ?_))))
 exact uZ rfl (.tmp rfl (.tmp rfl .nil)) ⟨rfl, rfl⟩
theorem qPj (hE : Seat E) : Ct E 56 [uPt s] [] (fun v Q => ∃ tb, v = uPt tb ∧ Q = [tabP tb s []]) := by
 refine zQ (hE.fn Tryz.func56) rfl rfl rfl (fun R => ?_)
 simp only [qAa, uV, uW]
 refine qK (qI (uA rfl (qL (qJ (qK (qK (qI (uM rfl (uB (qBr rfl (hE.t rfl)) ?_)))))))))
 refine qL (qJ (zF rfl (zD (qJ (qK (qI (uM rfl (uB (qAe (hE.t rfl) rfl rfl) ?_))))))))
 refine uU ?_
 refine qAs rfl (fun b7 => ?_)
 refine uA rfl (qL (qJ (kD ?_)))
 apply kE
 ·rfl
 ·(apply Rs.tmp rfl; exact Rs.nil)
 ·exact ⟨b7, rfl, rfl⟩
 apply kG (qBw (t := 184) (sz := 3))
 apply kG
 ·apply qPy (K := []) (L := []) (tb := b7) (s := s) (p := none) (c := 0)
  ·exact uK
  ·rfl
  ·simp
  simp
 exact uI
theorem zCw (hE : Seat E) : Ct E 31 [uPt s] [zT s most []] (fun v Q => ∃ pp tb, v = uPt pp ∧ Q = [cells pp [uPt s, uPt tb] 106, tabP tb s (rls []), zT s most []]) := by
 refine zQ (hE.fn Tryz.func31) rfl rfl rfl (fun R => ?_)
 simp only [qAa, uV, uW]
 refine qK (qI (uA rfl (qL (qJ (qK (qK (qI (uM rfl (uB (qBr rfl (hE.t rfl)) ?_)))))))))
 refine qL (qJ (zF rfl (zD (qJ (qK (qI (uM rfl (uM rfl (uX (qPj hE) rfl ?_)))))))))
 rintro _ _ ⟨tb, rfl, rfl⟩
 simp only [uV, uW]
 refine uB (qAe (hE.t rfl) rfl rfl) ?_
 refine uU ?_
 refine qAs rfl (fun b9 => ?_)
 refine uA rfl (qL (qJ (kD ?_)))
 exact uZ rfl (.tmp rfl .nil) ⟨b9, tb, rfl, rfl⟩
theorem qGp (hE : Seat E) : Ct E 29 [uPt pp] [cells pp [uPt s, uPt tb] 106] (fun v Q => v = uPt s ∧ Q = [cells pp [uPt s, uPt tb] 106]) := by
 refine zQ (hE.fn Tryz.func29) rfl rfl rfl (fun R => ?_)
 simp only [qAa, uV, uW]
 refine qK (qI (uA rfl (qL (qJ (qK (qK (qI (uM rfl (uB (qBr rfl (hE.t rfl)) ?_)))))))))
 refine qL (qJ (zF rfl (zD (qJ (qK (qI (uM rfl (uB (zB rfl) ?_))))))))
 refine uB (uBf rfl) ?_
 refine uL ?_
 refine uA rfl (qL (qJ (kD ?_)))
 exact uZ rfl (.tmp rfl .nil) ⟨rfl, rfl⟩
end
section
variable {E : Env} {Es : List Ent} {pp tb s most : Nat}
def gsC : List (Nat × Nat) → List Value
 | [] => []
 | g :: r => .int .i64 (g.1 : Nat) :: .int .i64 (g.2 : Nat) :: gsC r
theorem qGk : ∀ (a b : List (Nat × Nat)), gsC (a ++ b) = gsC a ++ gsC b
 | [], _ => rfl
 | _ :: a, b => by simp [gsC, qGk a b]
theorem qGz {gs : List (Nat × Nat)} {i : Nat} {g : Nat × Nat} (h : gs[i]? = some g) : (gsC gs)[i * 2]? = some (.int .i64 (g.1 : Nat)) ∧ (gsC gs)[i * 2 + 1]? = some (.int .i64 (g.2 : Nat)) := by
 induction gs generalizing i with
 | nil => simp at h
 | cons x r ih =>
  cases i with
  | zero => obtain rfl : x = g := by simpa using h
            exact ⟨rfl, rfl⟩
  | succ i =>
   obtain ⟨h1, h2⟩ := ih (i := i) (by simpa using h)
   exact ⟨by rw [show (i + 1) * 2 = i * 2 + 1 + 1 by omega]; simpa [gsC] using h1, by rw [show (i + 1) * 2 + 1 = i * 2 + 1 + 1 + 1 by omega]; simpa [gsC] using h2⟩
theorem zEo {gs : List (Nat × Nat)} {i : Nat} {g : Nat × Nat} (h : gs[i]? = some g) (k : Nat) : (gsC gs).set (i * 2 + 1) (.int .i64 (k : Nat)) = gsC (gs.set i (g.1, k)) := by
 induction gs generalizing i with
 | nil => simp at h
 | cons x r ih =>
  cases i with
  | zero => obtain rfl : x = g := by simpa using h
            rfl
  | succ i =>
   have := ih (i := i) (by simpa using h)
   rw [show (i + 1) * 2 + 1 = i * 2 + 1 + 1 + 1 by omega]
   simp [gsC, this]
end
end Go.Proofs.YtkkjjablmmmmkaaGreatDoor
namespace Eg
def tx (L : List Rl) (bk : Bool) (i : Nat) : List UInt8 := if bk then (txt L i).reverse else txt L i
end Eg
