import Derived.Test.YtlleicanafioaaaDoorQ06
set_option linter.all false
set_option maxHeartbeats 1000000
namespace Go.Proofs.YtlleicanafioaaaDoor
open Go Go.RowKit Sl Eg
set_option maxRecDepth 10000
section
variable {E : Env} {Es : List Ent} {pp tb s most : Nat}
theorem qPa (hE : Seat E) (hB : Base E.w0) {i : Nat} (hi : i < Es.length) :
  Ct E 40 [uPt tb, .int .i64 ((i + 1 : Nat) : Int)] [tabP tb s (rls Es), zU s most Es] (fun v Q => v = .tuple #[.int .u64 (key (rls Es) (i + 1) : Nat), .nilIface] ∧ Q = [tabP tb s (rls Es), zU s most Es]) := by
 refine zR (hE.fn Tryd.func40) rfl rfl rfl (fun R => ?_)
 simp only [qAo, uV, uW]
 refine qN (qL (uA rfl (uA rfl (qO (qM (qN (qL (uM rfl (uM rfl (uX (ct_row hE hB hi) rfl ?_))))))))))
 rintro _ _ ⟨rfl, rfl⟩
 simp only [uV, uW]
 refine uM rfl (uB (qX rfl rfl) (uB (qX rfl rfl) (uU (kI (hE.t rfl) (fun b6 => ?_)))))
 refine uU (uS ?_)
 refine uA rfl (qO (qM (qN (qN (qL (uM rfl (uB (qAk rfl (hE.t rfl)) ?_)))))))
 refine qO (qM (zG rfl (zF (qM (qN (qL (uB (uBf rfl) ?_)))))))
 refine uL ?_
 refine uA rfl (uA rfl (qO (qM (kE ?_))))
 exact uZ rfl (.tmp rfl (.tmp rfl .nil)) ⟨rfl, rfl⟩
theorem qWk (hE : Seat E) (hB : Base E.w0) {i : Nat} (hi : i < Es.length) (hl : 0 ≤ lvl (rls Es) (i + 1)) :
  Ct E 43 [uPt tb, .int .i64 ((i + 1 : Nat) : Int)] [tabP tb s (rls Es), zU s most Es] (fun v Q => v = .tuple #[.int .i64 (lvl (rls Es) (i + 1)), .nilIface] ∧ Q = [tabP tb s (rls Es), zU s most Es]) := by
 refine zR (hE.fn Tryd.func43) rfl rfl rfl (fun R => ?_)
 simp only [qAo, uV, uW]
 refine qN (qL (uA rfl (uA rfl (qO (qM (qN (qL (uM rfl (uM rfl (uX (ct_row hE hB hi) rfl ?_))))))))))
 rintro _ _ ⟨rfl, rfl⟩
 simp only [uV, uW]
 refine uM rfl (uB (qX rfl rfl) (uB (qX rfl rfl) (uU (kI (hE.t rfl) (fun b6 => ?_)))))
 refine uU (uS ?_)
 refine uA rfl (qO (qM (qN (qN (qL (uM rfl (uB (qAk rfl (hE.t rfl)) ?_)))))))
 refine qO (qM (zG rfl (zF (qM (qN (qN (qL (uB (uBf rfl) ?_))))))))
 refine uL ?_
 refine uB (y_lt rfl rfl) ?_
 refine qO (qM ?_)
 refine zH rfl (fun h => ?_) (fun h => ?_)
 ·exact absurd h (by omega)
 refine zF (qM (qN (qL ?_)))
 refine uB (uBf rfl) ?_
 refine uL ?_
 refine uA rfl (uA rfl (qO (qM (kE ?_))))
 exact uZ rfl (.tmp rfl (.tmp rfl .nil)) ⟨rfl, rfl⟩
theorem qYe (hE : Seat E) : Ct E 35 [uPt s] [] (fun v Q => ∃ tb, v = uPt tb ∧ Q = [tabP tb s []]) := by
 refine zR (hE.fn Tryd.func35) rfl rfl rfl (fun R => ?_)
 simp only [qAo, uV, uW]
 refine qN (qL (uA rfl (qO (qM (qN (qN (qL (uM rfl (uB (qBa rfl (hE.t rfl)) ?_)))))))))
 refine qO (qM (zG rfl (zF (qM (qN (qL (uM rfl (uB (qAl (hE.t rfl) rfl rfl) ?_))))))))
 refine uU ?_
 refine qIh rfl (fun b7 => ?_)
 refine uA rfl (qO (qM (kE ?_)))
 apply kF
 ·rfl
 ·(apply Rs.tmp rfl; exact Rs.nil)
 ·exact ⟨b7, rfl, rfl⟩
 apply kH (qDq (t := 125) (sz := 3))
 apply kH
 ·apply qPv (K := []) (L := []) (tb := b7) (s := s) (p := none) (c := 0)
  ·exact uK
  ·rfl
  ·simp
  simp
 exact uI
theorem zAj (hE : Seat E) : Ct E 15 [uPt s] [zU s most []] (fun v Q => ∃ pp tb, v = uPt pp ∧ Q = [cells pp [uPt s, uPt tb] 57, tabP tb s (rls []), zU s most []]) := by
 refine zR (hE.fn Tryd.func15) rfl rfl rfl (fun R => ?_)
 simp only [qAo, uV, uW]
 refine qN (qL (uA rfl (qO (qM (qN (qN (qL (uM rfl (uB (qBa rfl (hE.t rfl)) ?_)))))))))
 refine qO (qM (zG rfl (zF (qM (qN (qL (uM rfl (uM rfl (uX (qYe hE) rfl ?_)))))))))
 rintro _ _ ⟨tb, rfl, rfl⟩
 simp only [uV, uW]
 refine uB (qAl (hE.t rfl) rfl rfl) ?_
 refine uU ?_
 refine qIh rfl (fun b9 => ?_)
 refine uA rfl (qO (qM (kE ?_)))
 exact uZ rfl (.tmp rfl .nil) ⟨b9, tb, rfl, rfl⟩
theorem qBb (hE : Seat E) : Ct E 12 [uPt pp] [cells pp [uPt s, uPt tb] 57] (fun v Q => v = uPt s ∧ Q = [cells pp [uPt s, uPt tb] 57]) := by
 refine zR (hE.fn Tryd.func12) rfl rfl rfl (fun R => ?_)
 simp only [qAo, uV, uW]
 refine qN (qL (uA rfl (qO (qM (qN (qN (qL (uM rfl (uB (qBa rfl (hE.t rfl)) ?_)))))))))
 refine qO (qM (zG rfl (zF (qM (qN (qL (uM rfl (uB (zD rfl) ?_))))))))
 refine uB (uBf rfl) ?_
 refine uL ?_
 refine uA rfl (qO (qM (kE ?_)))
 exact uZ rfl (.tmp rfl .nil) ⟨rfl, rfl⟩
theorem qMq (hE : Seat E) : Ct E 73 [uPt pp] [cells pp [uPt s, uPt tb] 57] (fun v Q => v = uPt tb ∧ Q = [cells pp [uPt s, uPt tb] 57]) := by
 refine zR (hE.fn Tryd.func73) rfl rfl rfl (fun R => ?_)
 simp only [qAo, uV, uW]
 refine qN (qL (uA rfl (qO (qM (qN (qN (qL (uM rfl (uB (qBa rfl (hE.t rfl)) ?_)))))))))
 refine qO (qM (zG rfl (zF (qM (qN (qL (uM rfl (uB (zD rfl) ?_))))))))
 refine uB (uBf rfl) ?_
 refine uL ?_
 refine uA rfl (qO (qM (kE ?_)))
 exact uZ rfl (.tmp rfl .nil) ⟨rfl, rfl⟩
theorem ct_Top0 (hE : Seat E) : Ct E 21 [uPt pp, .int .i64 ((0 : Nat) : Int)] [cells pp [uPt s, uPt tb] 57, tabP tb s (rls Es), zU s most Es] (fun v Q => v = .tuple #[.int .i64 0, .nilIface] ∧ Q = [cells pp [uPt s, uPt tb] 57, tabP tb s (rls Es), zU s most Es]) := by
 refine zR (hE.fn Tryd.func21) rfl rfl rfl (fun R => ?_)
 simp only [qAo, uV, uW]
 refine qN (qL (uA rfl (uA rfl (qO (qM (qN (qN (qL (uM rfl (uB (qBa rfl (hE.t rfl)) ?_))))))))))
 refine uM rfl (kT rfl rfl (uM rfl (kT rfl rfl (uB (zD rfl) ?_))))
 refine kT rfl rfl (uB (uBf rfl) ?_)
 refine kT rfl rfl (uL ?_)
 refine kT rfl rfl (uB (qBa rfl (hE.t rfl)) ?_)
 refine uB (zB rfl rfl) ?_
 refine qO (qM (zG rfl (zF (qM (qN (qN (qL (uM rfl (uB (y_eq rfl rfl) ?_)))))))))
 refine qO (qM (zI rfl (qN (qL (uA rfl (uA rfl (qO (qM (kE (qZ ?_))))))))))
 exact uZ rfl (.tmp rfl (.tmp rfl .nil)) ⟨rfl, rfl⟩
theorem ct_Top (hE : Seat E) (hB : Base E.w0) {i : Nat} (hi : i < Es.length) (hl : 0 ≤ lvl (rls Es) (i + 1)) : Ct E 21 [uPt pp, .int .i64 ((i + 1 : Nat) : Int)] [cells pp [uPt s, uPt tb] 57, tabP tb s (rls Es), zU s most Es] (fun v Q => v = .tuple #[.int .i64 (lvl (rls Es) (i + 1)), .nilIface] ∧ Q = [cells pp [uPt s, uPt tb] 57, tabP tb s (rls Es), zU s most Es]) := by
 refine zR (hE.fn Tryd.func21) rfl rfl rfl (fun R => ?_)
 simp only [qAo, uV, uW]
 refine qN (qL (uA rfl (uA rfl (qO (qM (qN (qN (qL (uM rfl (uB (qBa rfl (hE.t rfl)) ?_))))))))))
 refine uM rfl (kT rfl rfl (uM rfl (kT rfl rfl (uB (zD rfl) ?_))))
 refine kT rfl rfl (uB (uBf rfl) ?_)
 refine kT rfl rfl (uL ?_)
 refine kT rfl rfl (uB (qBa rfl (hE.t rfl)) ?_)
 refine uB (zB rfl rfl) ?_
 refine qO (qM (zG rfl (zF (qM (qN (qN (qL (uM rfl (uB (y_eq rfl rfl) ?_)))))))))
 refine qO (qM ?_)
 refine zH rfl (fun h => ?_) (fun h => ?_)
 ·exact absurd h (by omega)
 refine zF (qM (qN (qL ?_)))
 refine uM rfl (uB (zD rfl) ?_)
 refine uB (uBf rfl) ?_
 refine uL ?_
 refine uM rfl (uX (qWk hE hB hi hl) rfl ?_)
 rintro _ _ ⟨rfl, rfl⟩
 simp only [uV, uW]
 refine uB (qX rfl rfl) (uB (qX rfl rfl) (uA rfl (uA rfl (qO (qM (kE ?_))))))
 exact uZ rfl (.tmp rfl (.tmp rfl .nil)) ⟨rfl, rfl⟩
end
section
variable {E : Env} {Es : List Ent} {pp tb s most : Nat}
def gsC : List (Nat × Nat) → List Value
 | [] => []
 | g :: r => .int .i64 (g.1 : Nat) :: .int .i64 (g.2 : Nat) :: gsC r
theorem qHw : ∀ (a b : List (Nat × Nat)), gsC (a ++ b) = gsC a ++ gsC b
 | [], _ => rfl
 | _ :: a, b => by simp [gsC, qHw a b]
theorem qNf {gs : List (Nat × Nat)} {i : Nat} {g : Nat × Nat} (h : gs[i]? = some g) : (gsC gs)[i * 2]? = some (.int .i64 (g.1 : Nat)) ∧ (gsC gs)[i * 2 + 1]? = some (.int .i64 (g.2 : Nat)) := by
 induction gs generalizing i with
 | nil => simp at h
 | cons x r ih =>
  cases i with
  | zero => obtain rfl : x = g := by simpa using h
            exact ⟨rfl, rfl⟩
  | succ i =>
   obtain ⟨h1, h2⟩ := ih (i := i) (by simpa using h)
   exact ⟨by rw [show (i + 1) * 2 = i * 2 + 1 + 1 by omega]; simpa [gsC] using h1, by rw [show (i + 1) * 2 + 1 = i * 2 + 1 + 1 + 1 by omega]; simpa [gsC] using h2⟩
theorem gsC_set {gs : List (Nat × Nat)} {i : Nat} {g : Nat × Nat} (h : gs[i]? = some g) (k : Nat) : (gsC gs).set (i * 2 + 1) (.int .i64 (k : Nat)) = gsC (gs.set i (g.1, k)) := by
 induction gs generalizing i with
 | nil => simp at h
 | cons x r ih =>
  cases i with
  | zero => obtain rfl : x = g := by simpa using h
            rfl
  | succ i =>
   have := ih (i := i) (by simpa using h)
   rw [show (i + 1) * 2 + 1 = i * 2 + 1 + 1 + 1 by omega]
   simp [gsC, this]
end
end Go.Proofs.YtlleicanafioaaaDoor
namespace Eg
def tx (L : List Rl) (bk : Bool) (i : Nat) : List UInt8 := if bk then (txt L i).reverse else txt L i
theorem qGo {L : List Rl} {i l r : Nat} (h : L[i]? = some (.pair l r)) (hk : (Rl.pair l r).ok (i + 1)) (h0 : 0 ≤ lvl L (i + 1)) : 0 ≤ lvl L l ∧ 0 ≤ lvl L r := by
 rw [(qFi h hk).2] at h0
 split at h0
 ·rename_i hc; exact hc.2
 omega
theorem qJv {L : List Rl} {i x k : Nat} (h : L[i]? = some (.power x k)) (hk : (Rl.power x k).ok (i + 1)) (h0 : 0 ≤ lvl L (i + 1)) : 0 ≤ lvl L x := by
 rw [(qEd h hk).2] at h0
 split at h0
 ·rename_i hc; exact hc.1
 omega
end Eg
