import Derived.Test.YtlleicanafioaaaDoorQ32
import Derived.Test.YtlleicanafioaaaDoorQ45
set_option linter.all false
set_option maxHeartbeats 1000000
namespace Go.Proofs.YtlleicanafioaaaDoor
open Go Go.RowKit Sl Eg
set_option maxRecDepth 10000
section
variable {E : Env} {Es : List Ent} {pp tb s most S : Nat}
theorem qHs (x t : Nat) (its : List It) : qAa (⟨x, 0, t⟩ :: its) = List.replicate t x ++ qAa its := by rw [qBj, qNi]
theorem qHr (x t : Nat) (its : List It) : qAa (its ++ [⟨x, 0, t⟩]) = qAa its ++ List.replicate t x := by rw [qAm, qBv, qNi]
theorem qXd {t x : Nat} (h : 1 ≤ t) (r : List Nat) : (List.replicate t x ++ r).head? = some x := by
 obtain ⟨m, rfl⟩ : ∃ m, t = m + 1 := ⟨t - 1, by omega⟩
 rw [List.replicate_succ]; rfl
theorem qXf {t x : Nat} (h : 1 ≤ t) (r : List Nat) : (r ++ List.replicate t x).getLast? = some x := by
 obtain ⟨m, rfl⟩ : ∃ m, t = m + 1 := ⟨t - 1, by omega⟩
 rw [List.replicate_succ', ← List.append_assoc]; simp
theorem qUe {L : List Rl} (hw : Wf L) {bh : Bool} {l root x : Nat} {fs : List Fm} {o : Option Fm} (hs : Sig L root) (he : EO L bh l root x fs) (hx : x ≠ 0) (hodd : (l + 1) % 2 = 1) (ho : Par L (l + 1) fs o) :
  Drp L (many L o) fs ∧ (cutO L o = false → ∀ f, o = some f → f.hv = qAp (rlAt L f.id)) := by
 obtain ⟨_, h2, _, _⟩ := he.low hx
 cases o with
 | none => exact ⟨qHa h2, fun _ f e => by cases e⟩
 | some f =>
  obtain ⟨⟨gs, rfl⟩, hlv⟩ := ho
  obtain ⟨r, l1, l2, l3, l4, l5, l6, ex⟩ := h2.inv
  have er := qBo l3
  have okf := l1.ok hw hs
  cases r with
  | letter b => exact absurd rfl (l4 b)
  | pair a b => have := (qGo hw l2 l3 okf.2.2.1).1; omega
  | power y n =>
   have em : many L (some f) = f.hv := by simp [many, er]
   refine ⟨?_, fun hc f' e => ?_⟩
   ·rw [em]
    exact ⟨l5, fun e => by simp at e, fun g2 f2 e => by obtain ⟨_, rfl⟩ := qEg e; exact ⟨Nat.le_refl _, .inr ⟨_, _, er⟩⟩⟩
   cases e
   simp only [cutO, er, decide_eq_false_iff_not] at hc
   rw [er]
   omega
theorem qVs {x t : Nat} {its : List It} (h : Sng its) (ht : 1 ≤ t) : Sng (⟨x, 0, t⟩ :: its) := fun it hit => by
 rcases List.mem_cons.1 hit with rfl | hit
 ·exact ⟨rfl, ht⟩
 exact h it hit
theorem qVr {x t : Nat} {its : List It} (h : Sng its) (ht : 1 ≤ t) : Sng (its ++ [⟨x, 0, t⟩]) := fun it hit => by
 rcases List.mem_append.1 hit with hit | hit
 ·exact h it hit
 obtain rfl := List.mem_singleton.1 hit; exact ⟨rfl, ht⟩
theorem EO.mem {L : List Rl} (hw : Wf L) {bh : Bool} {l root x : Nat} {fs : List Fm} (hs : Sig L root) (he : EO L bh l root x fs) : ∀ y ∈ seqE L bh l x fs, 1 ≤ y ∧ y ≤ L.length ∧ lvl L y ≤ (l : Nat) := by
 intro y hy
 by_cases hx : x = 0
 ·subst hx
  rw [he.zero, qCn] at hy
  simp at hy
 obtain ⟨_, h2, _, _⟩ := he.low hx
 have hf := h2.full hw he.hi
 have hm : y ∈ expd L l root := by
  rw [hf]
  cases bh
  ·simp only [cat, Bool.false_eq_true, if_false]; exact List.mem_append_left _ (by simpa [seqE, cat] using hy)
  simp only [cat, if_true]; exact List.mem_append_right _ (by simpa [seqE, cat] using hy)
 have := expd_mem hw root hs.le y hm
 have := hs.le
 omega
def Dk (L : List Rl) : Prop := ∀ x y, 1 ≤ x → x ≤ L.length → 1 ≤ y → y ≤ L.length → key L x = key L y → x = y
def Grw (its its' : List It) : Prop := ∃ a b, its' = a ++ its ++ b ∧ a.length ≤ 1 ∧ b.length ≤ 1
structure GR (L : List Rl) (l rl rr : Nat) (A B : Sd) (M : Md) (A' B' : Sd) (M' : Md) : Prop where
 left : RL L l rl A'.x A'.fs (qAa M'.its ++ seqE L true l B'.x B'.fs)
 right : RR L l rr B'.x B'.fs (qAa M'.its)
 row : seqE L false l A'.x A'.fs ++ (qAa M'.its ++ seqE L true l B'.x B'.fs) = seqE L false l A.x A.fs ++ (qAa M.its ++ seqE L true l B.x B.fs)
 ne : M'.its = [] → M.its = [] ∧ A' = A ∧ B' = B
 grow : Grw M.its M'.its
theorem qQg (hE : Seat E) (hB : Base E.w0) {l rl rr : Nat} {A0 B : Sd} {M0 : Md} (hs : Sig (rls Es) rl) (hsr : Sig (rls Es) rr) (eA0 : EO (rls Es) false l rl A0.x A0.fs) (eB : EO (rls Es) true l rr B.x B.fs) (hM0 : Sng M0.its) (hR0 : ∀ x ∈ qAa M0.its, 1 ≤ x ∧ x ≤ (rls Es).length) (hml0 : M0.its.length ≤ 1000000000000) (hodd : (l + 1) % 2 = 1) (hll : l + 1 < 1099511627776) :
  Ct E 66 [uPt S, .int .i64 ((l + 1 : Nat) : Int)] [cells pp [uPt s, uPt tb] 57, tabP tb s (rls Es), zU s most Es, cells S [uPt pp, uPt pp, .bool false, .slice A0.p A0.fs.length A0.c, .int .i64 (A0.x : Nat), .int .u64 (key (rls Es) A0.x : Nat), uPt pp, .bool true, .slice B.p B.fs.length B.c, .int .i64 (B.x : Nat), .int .u64 (key (rls Es) B.x : Nat), .slice M0.p M0.its.length M0.c] 113, sl A0.p A0.c 137 8 A0.fs.length (qAc (rls Es) A0.fs), sl B.p B.c 137 8 B.fs.length (qAc (rls Es) B.fs), sl M0.p M0.c 149 4 M0.its.length (itsC (rls Es) M0.its)]
   (fun v Q => ∃ (A' B' : Sd) (M' : Md), v = .tuple #[] ∧ GR (rls Es) l rl rr A0 B M0 A' B' M' ∧ Sng M'.its ∧ M'.its.length ≤ M0.its.length + 2 ∧ Q = [cells pp [uPt s, uPt tb] 57, tabP tb s (rls Es), zU s most Es, cells S [uPt pp, uPt pp, .bool false, .slice A'.p A'.fs.length A'.c, .int .i64 (A'.x : Nat), .int .u64 (key (rls Es) A'.x : Nat), uPt pp, .bool true, .slice B'.p B'.fs.length B'.c, .int .i64 (B'.x : Nat), .int .u64 (key (rls Es) B'.x : Nat), .slice M'.p M'.its.length M'.c] 113, sl A'.p A'.c 137 8 A'.fs.length (qAc (rls Es) A'.fs), sl B'.p B'.c 137 8 B'.fs.length (qAc (rls Es) B'.fs), sl M'.p M'.c 149 4 M'.its.length (itsC (rls Es) M'.its)]) := by
 refine qAy (p := zU s most Es) uK (fun _ h => qAb h) (fun hsay => ?_)
 have hw := hsay.1
 have hL : (rls Es).length ≤ 1048576 := by have := hsay.2.2; rw [zT]; unfold qAw at this; omega
 have hl1 : l ≤ 1099511627776 := by omega
 have hov : ∀ {o : Option Fm}, (l + 1) % 2 = 0 → ∀ f : Fm, o = some f → f.hv = 1 := fun h => by omega
 refine zR (hE.fn Tryd.func66) rfl rfl rfl (fun R => ?_)
 simp only [qAo, uV, uW]
 refine qIe (fun q : Sd × Md => [(0, uPt S), (1, .int .i64 ((l + 1 : Nat) : Int))]) (fun q => [cells pp [uPt s, uPt tb] 57, tabP tb s (rls Es), zU s most Es, cells S [uPt pp, uPt pp, .bool false, .slice q.1.p q.1.fs.length q.1.c, .int .i64 (q.1.x : Nat), .int .u64 (key (rls Es) q.1.x : Nat), uPt pp, .bool true, .slice B.p B.fs.length B.c, .int .i64 (B.x : Nat), .int .u64 (key (rls Es) B.x : Nat), .slice q.2.p q.2.its.length q.2.c] 113, sl q.1.p q.1.c 137 8 q.1.fs.length (qAc (rls Es) q.1.fs), sl B.p B.c 137 8 B.fs.length (qAc (rls Es) B.fs), sl q.2.p q.2.c 149 4 q.2.its.length (itsC (rls Es) q.2.its), R]) (fun q => RL (rls Es) l rl q.1.x q.1.fs (qAa q.2.its ++ seqE (rls Es) true l B.x B.fs) ∧ seqE (rls Es) false l q.1.x q.1.fs ++ qAa q.2.its = seqE (rls Es) false l A0.x A0.fs ++ qAa M0.its ∧ Sng q.2.its ∧ q.2.its.length ≤ M0.its.length + 1 ∧ (q.2.its = [] → M0.its = [] ∧ q.1 = A0) ∧ ∃ a, q.2.its = a ++ M0.its ∧ a.length ≤ 1) ?_ ?_
 ·obtain ⟨A, hA⟩ : ∃ A, A = A0 := ⟨_, rfl⟩
  obtain ⟨M, hMM⟩ : ∃ M, M = M0 := ⟨_, rfl⟩
  subst hA hMM
  have eA := eA0
  have hM := hM0
  have hml : M.its.length ≤ 1099511627776 := by omega
  have hfl := eA.pl hw hL hs
  have hpl := qPl (rls Es) M.its
  obtain ⟨hf0, hf1⟩ := qWt (L := rls Es) eB (fun it h => (hM it h).2) hR0
  refine qN (qL (uM rfl (uX (qWj hE) rfl ?_)))
  rintro _ _ ⟨rfl, rfl⟩
  simp only [uV, uW]
  refine uM rfl (uB (qX rfl rfl) (uB (qX rfl rfl) (uA rfl (uA rfl (qO (qM (qN (qL (uM rfl (uB (zD rfl) ?_))))))))))
  refine uB (uBf rfl) ?_
  refine uB (uBf rfl) ?_
  refine uL ?_
  refine uB (y_ne rfl rfl) ?_
  refine qO (qM ?_)
  refine zH rfl (fun h0 => ?_) (fun h0 => ?_)
  ·have hx : A.x ≠ 0 := by omega
   obtain ⟨k1, k2, k3, k4⟩ := eA.low hx
   refine qN (qL (uM rfl (uB (zD rfl) ?_)))
   refine uB (uBf rfl) ?_
   refine uM rfl ?_
   refine uX (ct_run hE (b := S) (pre := [uPt pp]) (suf := [uPt pp, .bool true, .slice B.p B.fs.length B.c, .int .i64 (B.x : Nat), .int .u64 (key (rls Es) B.x : Nat), .slice M.p M.its.length M.c]) (fs := A.fs) hw hL hs eA hx hodd) rfl ?_
   rintro _ _ ⟨⟨o, ho, rfl⟩, rfl⟩
   simp only [uV, uW]
   have hrf := qUe hw hs eA hx hodd ho
   refine uM rfl (uB (qX rfl rfl) (uB (qX rfl rfl) (uA rfl (uA rfl (qO (qM (qN (qL (uM rfl (uM rfl ?_))))))))))
   refine qWy 32 rfl (fun h3 => ?_) (fun h3 => ?_)
   ·refine zW rfl rfl rfl rfl (zW rfl rfl rfl rfl (zW rfl rfl rfl rfl (zW rfl rfl rfl rfl (zW rfl rfl rfl rfl (zW rfl rfl rfl rfl (zW rfl rfl rfl rfl ?_))))))
    refine uB (zA rfl rfl) ?_
    refine qO (qM (zI rfl (qN ?_)))
    refine uN 21 ([cells S [uPt pp, uPt pp, .bool false, .slice A.p A.fs.length A.c, .int .i64 (A.x : Nat), .int .u64 (key (rls Es) A.x : Nat), uPt pp, .bool true, .slice B.p B.fs.length B.c, .int .i64 (B.x : Nat), .int .u64 (key (rls Es) B.x : Nat), .slice M.p M.its.length M.c] 113]) ?_
    refine uT 0 rfl (qE rfl) ?_
    refine uT 1 rfl (qE rfl) ?_
    refine uT 2 rfl (zD rfl) ?_
    refine uT 3 rfl (uBf rfl) ?_
    refine uT 4 rfl (uY) ?_
    refine uT 5 rfl (qE rfl) ?_
    refine uT 6 rfl (zD rfl) ?_
    refine uT 7 rfl (uBf rfl) ?_
    refine uT 8 rfl (uBf rfl) ?_
    refine uT 9 rfl (uY) ?_
    refine uT 10 rfl (qE rfl) ?_
    refine uT 11 rfl (zD rfl) ?_
    refine uT 12 rfl (uBf rfl) ?_
    refine uT 13 rfl (uBf rfl) ?_
    refine uT 14 rfl (uY) ?_
    apply kN 15 rfl (by kernel_rfl)
    ·exact qE rfl
    ·rfl
    apply kN 16 rfl (by kernel_rfl)
    ·exact qAl (hE.t rfl) rfl rfl
    ·rfl
    apply qAg 17 rfl (by kernel_rfl) rfl
    refine qY (hE.t rfl) (hE.t rfl) rfl rfl rfl (fun b58 => ?_)
    refine uE ?_
    apply qAg 18 rfl (by kernel_rfl) rfl
    refine uC (qJb hE hml hpl (a1 := (A.x : Nat)) (a2 := 0) (a3 := (key (rls Es) A.x : Nat)) (a4 := (many (rls Es) o : Nat))) rfl ?_
    rintro _ _ ⟨g', c', rfl, rfl⟩
    simp only [uV, uW]
    have ei : (.int .i64 (A.x : Nat) :: .int .i64 0 :: .int .u64 (key (rls Es) A.x : Nat) :: .int .i64 (many (rls Es) o : Nat) :: itsC (rls Es) M.its : List Value) = itsC (rls Es) (⟨A.x, 0, many (rls Es) o⟩ :: M.its) := by rw [qBe]; rfl
    rw [ei]
    refine uE ?_
    apply kN 19 rfl (by kernel_rfl)
    ·exact zD rfl
    ·rfl
    apply kN 20 rfl (by kernel_rfl)
    ·exact uBf rfl
    ·rfl
    apply qBt rfl (by kernel_rfl) (by kernel_rfl) rfl
    refine uS ?_
    refine qM (qL (uM rfl (uB (zD rfl) ?_)))
    refine uB (uBf rfl) ?_
    refine uM rfl (uM rfl (uB (uAs rfl rfl) ?_))
    refine l_eq 67 (.int .i64 (l : Nat)) rfl (zZ (by omega)) ?_
    have hdr := qDd (pp := pp) (tb := tb) (s := s) (most := most) hE hB (b := S) (bt := 113) (p := A.p) (c := A.c) (k := key (rls Es) A.x) (pre := [uPt pp]) (suf := [uPt pp, .bool true, .slice B.p B.fs.length B.c, .int .i64 (B.x : Nat), .int .u64 (key (rls Es) B.x : Nat), .slice (⟨⟨A.x, 0, many (rls Es) o⟩ :: M.its, some ⟨g', 0, none⟩, c'⟩ : Md).p (⟨⟨A.x, 0, many (rls Es) o⟩ :: M.its, some ⟨g', 0, none⟩, c'⟩ : Md).its.length (⟨⟨A.x, 0, many (rls Es) o⟩ :: M.its, some ⟨g', 0, none⟩, c'⟩ : Md).c]) hs k2 hrf.1 hl1
    refine uX (hdr) rfl ?_
    rintro _ _ ⟨x', gs', p', c'', rfl, q1, rfl⟩
    simp only [uV, uW]
    refine qO ?_
    have hmv := mvd hw hs eA hx ho rfl hov q1
    refine qBq (ι := Sd × Md) (⟨x', gs', p', c''⟩, ⟨⟨A.x, 0, many (rls Es) o⟩ :: M.its, some ⟨g', 0, none⟩, c'⟩) ⟨qRe hmv (by rw [qHs, List.append_assoc]; exact qXd hrf.1.1 _), ?_, qVs hM hrf.1.1, by simp only [List.length_cons]; omega, (fun h => by cases h), [⟨A.x, 0, many (rls Es) o⟩], rfl, Nat.le_refl _⟩ ⟨rfl, rfl, trivial⟩ ?_
    ·rw [hmv.seq, qHs]
     simp [cat]
    exact uI
   refine kT rfl rfl ?_
   refine uM rfl (kT rfl rfl (uB (zD rfl) ?_))
   refine kT rfl rfl (uB (uBf rfl) ?_)
   refine kT rfl rfl (uB (uBf rfl) ?_)
   refine kT rfl rfl (uL ?_)
   refine kT rfl rfl (uM rfl (kT rfl rfl (uB (y_eq rfl rfl) ?_)))
   refine uB (zB rfl rfl) ?_
   refine qO (qM ?_)
   refine zH rfl (fun h4 => ?_) (fun h4 => ?_)
   ·skip
    refine qN ?_
    refine uN 21 ([cells S [uPt pp, uPt pp, .bool false, .slice A.p A.fs.length A.c, .int .i64 (A.x : Nat), .int .u64 (key (rls Es) A.x : Nat), uPt pp, .bool true, .slice B.p B.fs.length B.c, .int .i64 (B.x : Nat), .int .u64 (key (rls Es) B.x : Nat), .slice M.p M.its.length M.c] 113]) ?_
    refine uT 0 rfl (qE rfl) ?_
    refine uT 1 rfl (qE rfl) ?_
    refine uT 2 rfl (zD rfl) ?_
    refine uT 3 rfl (uBf rfl) ?_
    refine uT 4 rfl (uY) ?_
    refine uT 5 rfl (qE rfl) ?_
    refine uT 6 rfl (zD rfl) ?_
    refine uT 7 rfl (uBf rfl) ?_
    refine uT 8 rfl (uBf rfl) ?_
    refine uT 9 rfl (uY) ?_
    refine uT 10 rfl (qE rfl) ?_
    refine uT 11 rfl (zD rfl) ?_
    refine uT 12 rfl (uBf rfl) ?_
    refine uT 13 rfl (uBf rfl) ?_
    refine uT 14 rfl (uY) ?_
    apply kN 15 rfl (by kernel_rfl)
    ·exact qE rfl
    ·rfl
    apply kN 16 rfl (by kernel_rfl)
    ·exact qAl (hE.t rfl) rfl rfl
    ·rfl
    apply qAg 17 rfl (by kernel_rfl) rfl
    refine qY (hE.t rfl) (hE.t rfl) rfl rfl rfl (fun b58 => ?_)
    refine uE ?_
    apply qAg 18 rfl (by kernel_rfl) rfl
    refine uC (qJb hE hml hpl (a1 := (A.x : Nat)) (a2 := 0) (a3 := (key (rls Es) A.x : Nat)) (a4 := (many (rls Es) o : Nat))) rfl ?_
    rintro _ _ ⟨g', c', rfl, rfl⟩
    simp only [uV, uW]
    have ei : (.int .i64 (A.x : Nat) :: .int .i64 0 :: .int .u64 (key (rls Es) A.x : Nat) :: .int .i64 (many (rls Es) o : Nat) :: itsC (rls Es) M.its : List Value) = itsC (rls Es) (⟨A.x, 0, many (rls Es) o⟩ :: M.its) := by rw [qBe]; rfl
    rw [ei]
    refine uE ?_
    apply kN 19 rfl (by kernel_rfl)
    ·exact zD rfl
    ·rfl
    apply kN 20 rfl (by kernel_rfl)
    ·exact uBf rfl
    ·rfl
    apply qBt rfl (by kernel_rfl) (by kernel_rfl) rfl
    refine uS ?_
    refine qM (qL (uM rfl (uB (zD rfl) ?_)))
    refine uB (uBf rfl) ?_
    refine uM rfl (uM rfl (uB (uAs rfl rfl) ?_))
    refine l_eq 67 (.int .i64 (l : Nat)) rfl (zZ (by omega)) ?_
    have hdr := qDd (pp := pp) (tb := tb) (s := s) (most := most) hE hB (b := S) (bt := 113) (p := A.p) (c := A.c) (k := key (rls Es) A.x) (pre := [uPt pp]) (suf := [uPt pp, .bool true, .slice B.p B.fs.length B.c, .int .i64 (B.x : Nat), .int .u64 (key (rls Es) B.x : Nat), .slice (⟨⟨A.x, 0, many (rls Es) o⟩ :: M.its, some ⟨g', 0, none⟩, c'⟩ : Md).p (⟨⟨A.x, 0, many (rls Es) o⟩ :: M.its, some ⟨g', 0, none⟩, c'⟩ : Md).its.length (⟨⟨A.x, 0, many (rls Es) o⟩ :: M.its, some ⟨g', 0, none⟩, c'⟩ : Md).c]) hs k2 hrf.1 hl1
    refine uX (hdr) rfl ?_
    rintro _ _ ⟨x', gs', p', c'', rfl, q1, rfl⟩
    simp only [uV, uW]
    refine qO ?_
    have hmv := mvd hw hs eA hx ho rfl hov q1
    refine qBq (ι := Sd × Md) (⟨x', gs', p', c''⟩, ⟨⟨A.x, 0, many (rls Es) o⟩ :: M.its, some ⟨g', 0, none⟩, c'⟩) ⟨qRe hmv (by rw [qHs, List.append_assoc]; exact qXd hrf.1.1 _), ?_, qVs hM hrf.1.1, by simp only [List.length_cons]; omega, (fun h => by cases h), [⟨A.x, 0, many (rls Es) o⟩], rfl, Nat.le_refl _⟩ ⟨rfl, rfl, trivial⟩ ?_
    ·rw [hmv.seq, qHs]
     simp [cat]
    exact uI
   refine zF ?_
   refine qBq (ι := Sd × Md) (A, M) ⟨rl_odd hw hs eA hx ho (hrf.2 h3) hodd (fun v hv e => ?_), rfl, hM, Nat.le_succ _, (fun h => ⟨h, rfl⟩), [], rfl, Nat.zero_le _⟩ ⟨rfl, rfl, trivial⟩ ?_
   ·by_cases hz : fstS B M = 0
    ·rw [hf0 hz] at hv; cases hv
    rw [hf1 hz] at hv
    have e2 := Option.some.inj hv
    rw [← e] at e2
    apply h4
    rw [e2]
   exact uI
  have hx0 : A.x = 0 := by omega
  refine zF ?_
  refine qBq (ι := Sd × Md) (A, M) ⟨?_, rfl, hM, Nat.le_succ _, (fun h => ⟨h, rfl⟩), [], rfl, Nat.zero_le _⟩ ⟨rfl, rfl, trivial⟩ ?_
  ·have := zCg (L := rls Es) (l := l) (root := rl) (fs := A.fs) (Z := qAa M.its ++ seqE (rls Es) true l B.x B.fs) (by rw [← hx0]; exact eA)
   rwa [← hx0] at this
  exact uI
 rintro ⟨A, M⟩ ⟨hRL, hseq, hM, hml1, hne, ga, hga, hgal⟩
 simp only at hRL hseq hM hml1 hne hga hgal ⊢
 have hml : M.its.length ≤ 1099511627776 := by omega
 have hfl := eB.pl hw hL hsr
 have hR : ∀ x ∈ qAa M.its, 1 ≤ x := by
  intro x hx
  have hmem : x ∈ seqE (rls Es) false l A0.x A0.fs ++ qAa M0.its := by rw [← hseq]; simp [hx]
  rcases List.mem_append.1 hmem with h | h
  ·exact (eA0.mem hw hs x h).1
  exact (hR0 x h).1
 have hfin : ∀ (v : Value) (B' : Sd) (M' : Md), RR (rls Es) l rr B'.x B'.fs (qAa M'.its) → qAa M'.its ++ seqE (rls Es) true l B'.x B'.fs = qAa M.its ++ seqE (rls Es) true l B.x B.fs → Sng M'.its → M'.its.length ≤ M.its.length + 1 → (M'.its = [] → M.its = [] ∧ B' = B) → (∃ b, M'.its = M.its ++ b ∧ b.length ≤ 1) → v = .tuple #[] →
   ∃ (A' B'' : Sd) (M'' : Md), v = .tuple #[] ∧ GR (rls Es) l rl rr A0 B M0 A' B'' M'' ∧ Sng M''.its ∧ M''.its.length ≤ M0.its.length + 2 ∧ [cells pp [uPt s, uPt tb] 57, tabP tb s (rls Es), zU s most Es, cells S [uPt pp, uPt pp, .bool false, .slice A.p A.fs.length A.c, .int .i64 (A.x : Nat), .int .u64 (key (rls Es) A.x : Nat), uPt pp, .bool true, .slice B'.p B'.fs.length B'.c, .int .i64 (B'.x : Nat), .int .u64 (key (rls Es) B'.x : Nat), .slice M'.p M'.its.length M'.c] 113, sl A.p A.c 137 8 A.fs.length (qAc (rls Es) A.fs), sl B'.p B'.c 137 8 B'.fs.length (qAc (rls Es) B'.fs), sl M'.p M'.c 149 4 M'.its.length (itsC (rls Es) M'.its)] = [cells pp [uPt s, uPt tb] 57, tabP tb s (rls Es), zU s most Es, cells S [uPt pp, uPt pp, .bool false, .slice A'.p A'.fs.length A'.c, .int .i64 (A'.x : Nat), .int .u64 (key (rls Es) A'.x : Nat), uPt pp, .bool true, .slice B''.p B''.fs.length B''.c, .int .i64 (B''.x : Nat), .int .u64 (key (rls Es) B''.x : Nat), .slice M''.p M''.its.length M''.c] 113, sl A'.p A'.c 137 8 A'.fs.length (qAc (rls Es) A'.fs), sl B''.p B''.c 137 8 B''.fs.length (qAc (rls Es) B''.fs), sl M''.p M''.c 149 4 M''.its.length (itsC (rls Es) M''.its)] := by
  intro v B' M' h1 h2 h3 h4 h5 ⟨gb, hgb, hgbl⟩ h6
  refine ⟨A, B', M', h6, ⟨by rw [h2]; exact hRL, h1, ?_, fun h => ?_, ga, gb, by rw [hgb, hga], hgal, hgbl⟩, h3, by omega, rfl⟩
  ·rw [h2, ← List.append_assoc, hseq, List.append_assoc]
  obtain ⟨q1, q2⟩ := h5 h
  exact ⟨(hne q1).1, (hne q1).2, q2⟩
 refine qN (qL (uM rfl (uX (zAg hE hml) rfl ?_)))
 rintro _ _ ⟨rfl, rfl⟩
 simp only [uV, uW]
 have hlst := qQv (L := rls Es) (l := l) (rl := rr) (A := A) hM
 refine uM rfl (uB (qX rfl rfl) (uB (qX rfl rfl) (uA rfl (uA rfl (qO (qM (qN (qL (uM rfl (uB (zD rfl) ?_))))))))))
 refine uB (uBf rfl) ?_
 refine uB (uBf rfl) ?_
 refine uL ?_
 refine uB (y_ne rfl rfl) ?_
 refine qO (qM ?_)
 refine zH rfl (fun h0 => ?_) (fun h0 => ?_)
 ·have hx : B.x ≠ 0 := by omega
  obtain ⟨k1, k2, k3, k4⟩ := eB.low hx
  refine qN (qL (uM rfl (uB (zD rfl) ?_)))
  refine uB (uBf rfl) ?_
  refine uM rfl ?_
  refine uX (ct_run hE (b := S) (pre := [uPt pp, uPt pp, .bool false, .slice A.p A.fs.length A.c, .int .i64 (A.x : Nat), .int .u64 (key (rls Es) A.x : Nat)]) (suf := [.slice M.p M.its.length M.c]) (fs := B.fs) hw hL hsr eB hx hodd) rfl ?_
  rintro _ _ ⟨⟨o, ho, rfl⟩, rfl⟩
  simp only [uV, uW]
  have hrf := qUe hw hsr eB hx hodd ho
  refine uM rfl (uB (qX rfl rfl) (uB (qX rfl rfl) (uA rfl (uA rfl (qO (qM (qN (qL (uM rfl (uM rfl ?_))))))))))
  refine qWy 89 rfl (fun h3 => ?_) (fun h3 => ?_)
  ·refine zW rfl rfl rfl rfl (zW rfl rfl rfl rfl (zW rfl rfl rfl rfl (zW rfl rfl rfl rfl (zW rfl rfl rfl rfl (zW rfl rfl rfl rfl (zW rfl rfl rfl rfl ?_))))))
   refine uB (zA rfl rfl) ?_
   refine qO (qM (zI rfl (qN ?_)))
   refine uN 21 ([cells S [uPt pp, uPt pp, .bool false, .slice A.p A.fs.length A.c, .int .i64 (A.x : Nat), .int .u64 (key (rls Es) A.x : Nat), uPt pp, .bool true, .slice B.p B.fs.length B.c, .int .i64 (B.x : Nat), .int .u64 (key (rls Es) B.x : Nat), .slice M.p M.its.length M.c] 113]) ?_
   refine uT 0 rfl (qE rfl) ?_
   refine uT 1 rfl (qE rfl) ?_
   refine uT 2 rfl (zD rfl) ?_
   refine uT 3 rfl (uBf rfl) ?_
   refine uT 4 rfl (uY) ?_
   refine uT 5 rfl (qE rfl) ?_
   refine uT 6 rfl (zD rfl) ?_
   refine uT 7 rfl (uBf rfl) ?_
   refine uT 8 rfl (uBf rfl) ?_
   refine uT 9 rfl (uY) ?_
   refine uT 10 rfl (qE rfl) ?_
   refine uT 11 rfl (zD rfl) ?_
   refine uT 12 rfl (uBf rfl) ?_
   refine uT 13 rfl (uBf rfl) ?_
   refine uT 14 rfl (uY) ?_
   apply kN 15 rfl (by kernel_rfl)
   ·exact qE rfl
   ·rfl
   apply kN 16 rfl (by kernel_rfl)
   ·exact qAl (hE.t rfl) rfl rfl
   ·rfl
   apply qAg 17 rfl (by kernel_rfl) rfl
   refine qY (hE.t rfl) (hE.t rfl) rfl rfl rfl (fun b115 => ?_)
   refine uE ?_
   apply qAg 18 rfl (by kernel_rfl) rfl
   apply zX (hE.t rfl) (hE.t rfl) rfl rfl rfl
   ·exact uK
   ·exact uK
   ·rfl
   ·rfl
   ·omega
   ·omega
   ·(unfold maxLen; omega)
   intro g116 c116 n116 x116 hn116 hx116
   refine uE ?_
   apply kN 19 rfl (by kernel_rfl)
   ·exact zD rfl
   ·rfl
   apply kN 20 rfl (by kernel_rfl)
   ·exact uBf rfl
   ·rfl
   apply qBt rfl (by kernel_rfl) (by kernel_rfl) rfl
   refine uS ?_
   refine qM ?_
   obtain rfl : x116 = itsC (rls Es) (M.its ++ [⟨B.x, 0, many (rls Es) o⟩]) := by rw [hx116, qBw]; rfl
   subst hn116
   refine qL (uM rfl (uB (zD rfl) ?_))
   refine uB (uBf rfl) ?_
   refine uM rfl (uM rfl (uB (uAs rfl rfl) ?_))
   refine l_eq 124 (.int .i64 (l : Nat)) rfl (zZ (by omega)) ?_
   have hdr := qDd (pp := pp) (tb := tb) (s := s) (most := most) hE hB (b := S) (bt := 113) (p := B.p) (c := B.c) (k := key (rls Es) B.x) (pre := [uPt pp, uPt pp, .bool false, .slice A.p A.fs.length A.c, .int .i64 (A.x : Nat), .int .u64 (key (rls Es) A.x : Nat)]) (suf := [.slice (⟨M.its ++ [⟨B.x, 0, many (rls Es) o⟩], some ⟨g116, 0, none⟩, c116⟩ : Md).p (⟨M.its ++ [⟨B.x, 0, many (rls Es) o⟩], some ⟨g116, 0, none⟩, c116⟩ : Md).its.length (⟨M.its ++ [⟨B.x, 0, many (rls Es) o⟩], some ⟨g116, 0, none⟩, c116⟩ : Md).c]) hsr k2 hrf.1 hl1
   simp only [List.length_append, List.length_singleton] at hdr
   refine uX (hdr) rfl ?_
   rintro _ _ ⟨x', gs', p', c'', rfl, q1, rfl⟩
   simp only [uV, uW]
   refine qO ?_
   have hmv := mvd hw hsr eB hx ho rfl hov q1
   apply qLt
   ·rfl
   ·(exact Rs.nil)
   ·refine hfin _ ⟨x', gs', p', c''⟩ ⟨M.its ++ [⟨B.x, 0, many (rls Es) o⟩], some ⟨g116, 0, none⟩, c116⟩ (qRm hmv (.inr (.inl hodd)) (by rw [qHr]; exact qXf hrf.1.1 _)) ?_ (qVr hM hrf.1.1) (by simp only [List.length_append, List.length_singleton]; omega) (fun h => by simp at h) ⟨_, rfl, Nat.le_refl _⟩ rfl
    rw [hmv.seq, qHr]
    simp [cat]
   simp only [List.length_append, List.length_singleton]
   exact uI
  refine kT rfl rfl ?_
  refine uM rfl (kT rfl rfl (uB (zD rfl) ?_))
  refine kT rfl rfl (uB (uBf rfl) ?_)
  refine kT rfl rfl (uB (uBf rfl) ?_)
  refine kT rfl rfl (uL ?_)
  refine kT rfl rfl (uM rfl (kT rfl rfl (uB (y_eq rfl rfl) ?_)))
  refine uB (zB rfl rfl) ?_
  refine qO (qM ?_)
  refine zH rfl (fun h4 => ?_) (fun h4 => ?_)
  ·skip
   refine qN ?_
   refine uN 21 ([cells S [uPt pp, uPt pp, .bool false, .slice A.p A.fs.length A.c, .int .i64 (A.x : Nat), .int .u64 (key (rls Es) A.x : Nat), uPt pp, .bool true, .slice B.p B.fs.length B.c, .int .i64 (B.x : Nat), .int .u64 (key (rls Es) B.x : Nat), .slice M.p M.its.length M.c] 113]) ?_
   refine uT 0 rfl (qE rfl) ?_
   refine uT 1 rfl (qE rfl) ?_
   refine uT 2 rfl (zD rfl) ?_
   refine uT 3 rfl (uBf rfl) ?_
   refine uT 4 rfl (uY) ?_
   refine uT 5 rfl (qE rfl) ?_
   refine uT 6 rfl (zD rfl) ?_
   refine uT 7 rfl (uBf rfl) ?_
   refine uT 8 rfl (uBf rfl) ?_
   refine uT 9 rfl (uY) ?_
   refine uT 10 rfl (qE rfl) ?_
   refine uT 11 rfl (zD rfl) ?_
   refine uT 12 rfl (uBf rfl) ?_
   refine uT 13 rfl (uBf rfl) ?_
   refine uT 14 rfl (uY) ?_
   apply kN 15 rfl (by kernel_rfl)
   ·exact qE rfl
   ·rfl
   apply kN 16 rfl (by kernel_rfl)
   ·exact qAl (hE.t rfl) rfl rfl
   ·rfl
   apply qAg 17 rfl (by kernel_rfl) rfl
   refine qY (hE.t rfl) (hE.t rfl) rfl rfl rfl (fun b115 => ?_)
   refine uE ?_
   apply qAg 18 rfl (by kernel_rfl) rfl
   apply zX (hE.t rfl) (hE.t rfl) rfl rfl rfl
   ·exact uK
   ·exact uK
   ·rfl
   ·rfl
   ·omega
   ·omega
   ·(unfold maxLen; omega)
   intro g116 c116 n116 x116 hn116 hx116
   refine uE ?_
   apply kN 19 rfl (by kernel_rfl)
   ·exact zD rfl
   ·rfl
   apply kN 20 rfl (by kernel_rfl)
   ·exact uBf rfl
   ·rfl
   apply qBt rfl (by kernel_rfl) (by kernel_rfl) rfl
   refine uS ?_
   refine qM ?_
   obtain rfl : x116 = itsC (rls Es) (M.its ++ [⟨B.x, 0, many (rls Es) o⟩]) := by rw [hx116, qBw]; rfl
   subst hn116
   refine qL (uM rfl (uB (zD rfl) ?_))
   refine uB (uBf rfl) ?_
   refine uM rfl (uM rfl (uB (uAs rfl rfl) ?_))
   refine l_eq 124 (.int .i64 (l : Nat)) rfl (zZ (by omega)) ?_
   have hdr := qDd (pp := pp) (tb := tb) (s := s) (most := most) hE hB (b := S) (bt := 113) (p := B.p) (c := B.c) (k := key (rls Es) B.x) (pre := [uPt pp, uPt pp, .bool false, .slice A.p A.fs.length A.c, .int .i64 (A.x : Nat), .int .u64 (key (rls Es) A.x : Nat)]) (suf := [.slice (⟨M.its ++ [⟨B.x, 0, many (rls Es) o⟩], some ⟨g116, 0, none⟩, c116⟩ : Md).p (⟨M.its ++ [⟨B.x, 0, many (rls Es) o⟩], some ⟨g116, 0, none⟩, c116⟩ : Md).its.length (⟨M.its ++ [⟨B.x, 0, many (rls Es) o⟩], some ⟨g116, 0, none⟩, c116⟩ : Md).c]) hsr k2 hrf.1 hl1
   simp only [List.length_append, List.length_singleton] at hdr
   refine uX (hdr) rfl ?_
   rintro _ _ ⟨x', gs', p', c'', rfl, q1, rfl⟩
   simp only [uV, uW]
   refine qO ?_
   have hmv := mvd hw hsr eB hx ho rfl hov q1
   apply qLt
   ·rfl
   ·(exact Rs.nil)
   ·refine hfin _ ⟨x', gs', p', c''⟩ ⟨M.its ++ [⟨B.x, 0, many (rls Es) o⟩], some ⟨g116, 0, none⟩, c116⟩ (qRm hmv (.inr (.inl hodd)) (by rw [qHr]; exact qXf hrf.1.1 _)) ?_ (qVr hM hrf.1.1) (by simp only [List.length_append, List.length_singleton]; omega) (fun h => by simp at h) ⟨_, rfl, Nat.le_refl _⟩ rfl
    rw [hmv.seq, qHr]
    simp [cat]
   simp only [List.length_append, List.length_singleton]
   exact uI
  refine zF ?_
  apply qLt
  ·rfl
  ·(exact Rs.nil)
  ·refine hfin _ B M (rr_odd hw hsr eB hx ho (hrf.2 h3) hodd (fun u hu e => ?_)) rfl hM (by omega) (fun h => ⟨h, rfl⟩) ⟨[], by simp, by simp⟩ rfl
   have := hlst u hu
   omega
  exact uI
 have hx0 : B.x = 0 := by omega
 refine zF ?_
 apply qLt
 ·rfl
 ·(exact Rs.nil)
 ·refine hfin _ B M ?_ rfl hM (by omega) (fun h => ⟨h, rfl⟩) ⟨[], by simp, by simp⟩ rfl
  have := qRn (L := rls Es) (l := l) (root := rr) (fs := B.fs) (M := qAa M.its) (by rw [← hx0]; exact eB)
  rwa [← hx0] at this
 exact uI
end
section
variable {E : Env} {Es : List Ent} {pp tb s most S : Nat}
def ItT (L : List Rl) (its : List It) : Prop := ∀ it ∈ its, 1 ≤ it.times ∧ (it.next = 0 → it.times = 1) ∧ (it.next ≠ 0 → key L it.next = key L it.id)
theorem qEw {its : List It} (h : ∀ it ∈ its, 1 ≤ it.times) : its.length ≤ (qAa its).length := by
 induction its with
 | nil => exact Nat.le_refl _
 | cons it its ih =>
  have h1 := ih fun i hi => h i (by simp [hi])
  have h2 := qHy (h it (by simp))
  have h3 : 1 ≤ (itF it).length := by
   cases e : itF it with
   | nil => rw [e] at h2; simp at h2
   | cons a b => simp
  rw [qBj, List.length_append, List.length_cons]
  omega
theorem qGj {c x y : Nat} (h : c = 122) : qAd c x y ↔ x = y := by unfold qAd; rw [if_pos h]
theorem qVd {L : List Rl} {its : List It} {it : It} (h : ItT L its) (h1 : 1 ≤ it.times ∧ (it.next = 0 → it.times = 1) ∧ (it.next ≠ 0 → key L it.next = key L it.id)) : ItT L (its ++ [it]) := fun i hi => by
 rcases List.mem_append.1 hi with hi | hi
 ·exact h i hi
 obtain rfl := List.mem_singleton.1 hi; exact h1
theorem zBw {a b t : Nat} (h : 1 ≤ t) (hb : b ≠ 0) (r : List Nat) : (r ++ itF ⟨a, b, t⟩).getLast? = some b := by
 obtain ⟨m, rfl⟩ : ∃ m, t = m + 1 := ⟨t - 1, by omega⟩
 unfold itF
 simp only [if_neg hb]
 rw [List.replicate_succ', List.flatten_append, ← List.append_assoc]
 simp
theorem EO.ids {L : List Rl} (hw : Wf L) {bh : Bool} {l root x : Nat} {fs : List Fm} (hs : Sig L root) (h : EO L bh l root x fs) : x ≤ L.length ∧ ∀ f ∈ fs, 1 ≤ f.id ∧ f.id ≤ L.length := by
 rcases h.lk with ⟨rfl, rfl⟩ | ⟨h1, h2, h3⟩
 ·simp
 have ok := h2.ok hw hs
 exact ⟨ok.2.1, fun f hf => ⟨(ok.2.2.2 f hf).1, (ok.2.2.2 f hf).2.1⟩⟩
theorem EO.adj {L : List Rl} (hw : Wf L) {l root x a : Nat} {fs : List Fm} {r : List Nat} (hs : Sig L root) (he : EO L true l root x fs) (hx : x ≠ 0) (hev : (l + 1) % 2 = 0) (h : seqE L true l x fs = a :: a :: r) : False := by
 obtain ⟨_, h2, _, _⟩ := he.low hx
 have hf := h2.full hw he.hi
 have hin := hs.inv (l + 1) (by omega)
 have e : expd L l root = cutS L true l fs ++ seqE L true l x fs := by rw [hf]; rfl
 rw [Nat.add_sub_cancel, e, h] at hin
 have := (hin.same (cutS L true l fs).length a (by rw [List.getElem?_append_right (Nat.le_refl _), Nat.sub_self]; rfl) (by rw [List.getElem?_append_right (by omega), Nat.add_sub_cancel_left]; rfl)).1
 omega
structure StrG where
 B : Sd
 M : Md
structure StrI (L : List Rl) (l rr k0 : Nat) (B0 : Sd) (M0 : Md) (y : StrG) : Prop where
 eo : EO L true l rr y.B.x y.B.fs
 itt : ItT L y.M.its
 row : qAa y.M.its ++ seqE L true l y.B.x y.B.fs = qAa M0.its ++ seqE L true l B0.x B0.fs
 bb : (y.B = B0 ∧ y.M = M0) ∨ (BB L (l + 1) y.B.fs ∧ y.M.its ≠ [] ∧ ∀ u, (qAa y.M.its).getLast? = some u → key L u = k0)
 grow : Dk L → ∃ d, y.M.its = M0.its ++ d ∧ d.length ≤ 1 ∧ (d ≠ [] → y.B.x ≠ B0.x)
theorem qTq {L : List Rl} {gs : List Fm} {f : Fm} : (qAc L (gs ++ [f]))[(qAc L gs).length + 3]? = some (.int .i64 (Rl.left (rlAt L f.id) : Nat)) ∧ (qAc L (gs ++ [f]))[(qAc L gs).length + 4]? = some (.int .i64 (Rl.right (rlAt L f.id) : Nat)) := by
 rw [qCq]; exact ⟨ap_3, ap_4⟩
theorem qTi {L : List Rl} {is : List It} {it : It} : (itsC L (is ++ [it]))[(itsC L is).length + 2]? = some (.int .u64 (key L it.id : Nat)) := by rw [qBw]; exact ap_2
theorem qLu (hE : Seat E) (hB : Base E.w0) {l rr : Nat} {A B0 : Sd} {M0 : Md} (hs : Sig (rls Es) rr) (eB0 : EO (rls Es) true l rr B0.x B0.fs) (hM0 : Sng M0.its) (hI0 : ItT (rls Es) M0.its) (hR : ∀ x ∈ qAa M0.its, 1 ≤ x ∧ x ≤ (rls Es).length) (hlen : (qAa M0.its ++ seqE (rls Es) true l B0.x B0.fs).length ≤ 800000000000) (hev : (l + 1) % 2 = 0) (hll : l + 1 < 1000000000000) (hn : num (l + 1) = 122) :
  Ct E 69 [uPt S, .int .i64 ((l + 1 : Nat) : Int)] [cells pp [uPt s, uPt tb] 57, tabP tb s (rls Es), zU s most Es, cells S [uPt pp, uPt pp, .bool false, .slice A.p A.fs.length A.c, .int .i64 (A.x : Nat), .int .u64 (key (rls Es) A.x : Nat), uPt pp, .bool true, .slice B0.p B0.fs.length B0.c, .int .i64 (B0.x : Nat), .int .u64 (key (rls Es) B0.x : Nat), .slice M0.p M0.its.length M0.c] 113, sl A.p A.c 137 8 A.fs.length (qAc (rls Es) A.fs), sl B0.p B0.c 137 8 B0.fs.length (qAc (rls Es) B0.fs), sl M0.p M0.c 149 4 M0.its.length (itsC (rls Es) M0.its)]
   (fun v Q => ∃ (B' : Sd) (M' : Md), v = .tuple #[] ∧ RR (rls Es) l rr B'.x B'.fs (qAa M'.its) ∧ qAa M'.its ++ seqE (rls Es) true l B'.x B'.fs = qAa M0.its ++ seqE (rls Es) true l B0.x B0.fs ∧ ItT (rls Es) M'.its ∧ (M'.its = [] → M0.its = [] ∧ B' = B0) ∧ (Dk (rls Es) → ∃ b, M'.its = M0.its ++ b ∧ b.length ≤ 1) ∧ Q = [cells pp [uPt s, uPt tb] 57, tabP tb s (rls Es), zU s most Es, cells S [uPt pp, uPt pp, .bool false, .slice A.p A.fs.length A.c, .int .i64 (A.x : Nat), .int .u64 (key (rls Es) A.x : Nat), uPt pp, .bool true, .slice B'.p B'.fs.length B'.c, .int .i64 (B'.x : Nat), .int .u64 (key (rls Es) B'.x : Nat), .slice M'.p M'.its.length M'.c] 113, sl A.p A.c 137 8 A.fs.length (qAc (rls Es) A.fs), sl B'.p B'.c 137 8 B'.fs.length (qAc (rls Es) B'.fs), sl M'.p M'.c 149 4 M'.its.length (itsC (rls Es) M'.its)]) := by
 refine qAy (p := zU s most Es) uK (fun _ h => qAb h) (fun hsay => ?_)
 have hw := hsay.1
 have hL : (rls Es).length ≤ 1048576 := by have := hsay.2.2; rw [zT]; unfold qAw at this; omega
 have hfl0 := eB0.pl hw hL hs
 have hl1 : l ≤ 1099511627776 := by omega
 have hml0 : M0.its.length ≤ 800000000000 := by
  have := qEw (its := M0.its) fun it h => (hI0 it h).1
  rw [List.length_append] at hlen
  omega
 have same : RR (rls Es) l rr B0.x B0.fs (qAa M0.its) → ∃ (B' : Sd) (M' : Md), Value.tuple #[] = .tuple #[] ∧ RR (rls Es) l rr B'.x B'.fs (qAa M'.its) ∧ qAa M'.its ++ seqE (rls Es) true l B'.x B'.fs = qAa M0.its ++ seqE (rls Es) true l B0.x B0.fs ∧ ItT (rls Es) M'.its ∧ (M'.its = [] → M0.its = [] ∧ B' = B0) ∧ (Dk (rls Es) → ∃ b, M'.its = M0.its ++ b ∧ b.length ≤ 1) ∧ [cells pp [uPt s, uPt tb] 57, tabP tb s (rls Es), zU s most Es, cells S [uPt pp, uPt pp, .bool false, .slice A.p A.fs.length A.c, .int .i64 (A.x : Nat), .int .u64 (key (rls Es) A.x : Nat), uPt pp, .bool true, .slice B0.p B0.fs.length B0.c, .int .i64 (B0.x : Nat), .int .u64 (key (rls Es) B0.x : Nat), .slice M0.p M0.its.length M0.c] 113, sl A.p A.c 137 8 A.fs.length (qAc (rls Es) A.fs), sl B0.p B0.c 137 8 B0.fs.length (qAc (rls Es) B0.fs), sl M0.p M0.c 149 4 M0.its.length (itsC (rls Es) M0.its)] = [cells pp [uPt s, uPt tb] 57, tabP tb s (rls Es), zU s most Es, cells S [uPt pp, uPt pp, .bool false, .slice A.p A.fs.length A.c, .int .i64 (A.x : Nat), .int .u64 (key (rls Es) A.x : Nat), uPt pp, .bool true, .slice B'.p B'.fs.length B'.c, .int .i64 (B'.x : Nat), .int .u64 (key (rls Es) B'.x : Nat), .slice M'.p M'.its.length M'.c] 113, sl A.p A.c 137 8 A.fs.length (qAc (rls Es) A.fs), sl B'.p B'.c 137 8 B'.fs.length (qAc (rls Es) B'.fs), sl M'.p M'.c 149 4 M'.its.length (itsC (rls Es) M'.its)] := fun h => ⟨B0, M0, rfl, h, rfl, hI0, (fun h => ⟨h, rfl⟩), (fun _ => ⟨[], by simp, by simp⟩), rfl⟩
 refine zR (hE.fn Tryd.func69) rfl rfl rfl (fun R => ?_)
 simp only [qAo, uV, uW]
 refine qN (qN (qL (uM rfl (uB (zD rfl) ?_))))
 refine uB (uBf rfl) ?_
 refine uB (uBf rfl) ?_
 refine uL ?_
 refine uB (y_eq rfl rfl) ?_
 refine qO (qM ?_)
 refine zH rfl (fun h0 => ?_) (fun h0 => ?_)
 ·have hx0 : B0.x = 0 := by omega
  refine kE (qZ ?_)
  apply kF
  ·rfl
  ·(exact Rs.nil)
  ·refine same ?_
   have := qRn (L := rls Es) (l := l) (root := rr) (fs := B0.fs) (M := qAa M0.its) (by rw [← hx0]; exact eB0)
   rwa [← hx0] at this
  exact uI
 have hx0 : B0.x ≠ 0 := by omega
 refine zF (qM (qN (qL (uM rfl (uB (zD rfl) ?_)))))
 refine uB (uBf rfl) ?_
 refine uB (uBf rfl) ?_
 refine uL ?_
 refine uA rfl (qO (qM ?_))
 refine qIe (fun q : Nat => [(0, uPt S), (1, .int .i64 ((l + 1 : Nat) : Int)), (4, .int .u64 (key (rls Es) B0.x : Nat))]) (fun q => [cells pp [uPt s, uPt tb] 57, tabP tb s (rls Es), zU s most Es, cells S [uPt pp, uPt pp, .bool false, .slice A.p A.fs.length A.c, .int .i64 (A.x : Nat), .int .u64 (key (rls Es) A.x : Nat), uPt pp, .bool true, .slice B0.p B0.fs.length B0.c, .int .i64 (B0.x : Nat), .int .u64 (key (rls Es) B0.x : Nat), .slice M0.p M0.its.length M0.c] 113, sl A.p A.c 137 8 A.fs.length (qAc (rls Es) A.fs), sl B0.p B0.c 137 8 B0.fs.length (qAc (rls Es) B0.fs), sl M0.p M0.c 149 4 M0.its.length (itsC (rls Es) M0.its), R]) (fun q => True) ?_ ?_
 ·refine qN (qL ?_)
  refine uM rfl (uB (zD rfl) ?_)
  refine uB (uBf rfl) ?_
  refine uM rfl ?_
  refine uX (qEs hE (b := S) (pre := [uPt pp, uPt pp, .bool false, .slice A.p A.fs.length A.c, .int .i64 (A.x : Nat), .int .u64 (key (rls Es) A.x : Nat)]) (suf := [.slice M0.p M0.its.length M0.c]) (fs := B0.fs) hfl0) rfl ?_
  rintro v _ ⟨⟨o, ho, hv⟩, rfl⟩
  simp only [uV, uW]
  refine uA rfl (qO (qM ?_))
  have early : (∀ f, o = some f → f.hv = 2) → (∀ u, (qAa M0.its).getLast? = some u → key (rls Es) u ≠ key (rls Es) B0.x) → RR (rls Es) l rr B0.x B0.fs (qAa M0.its) := fun h1 h2 => qRl hw hs eB0 hx0 ho h1 hev fun u hu hf => h2 u hu ((qGj hn).1 hf)
  have hlast : ∀ is it u, M0.its = is ++ [it] → (qAa M0.its).getLast? = some u → u = it.id := fun is it u e hu => by
   have h1 := qQv (L := rls Es) (l := l) (rl := rr) (A := A) hM0 u hu
   rw [← h1]
   simp [lstS, e]
  cases o with
  | none =>
   obtain rfl : v = .pointer none := hv
   refine qN (qL (uM rfl (uB (qDy rfl (hE.t rfl)) ?_)))
   refine uM rfl ?_
   refine zW rfl rfl rfl rfl (zW rfl rfl rfl rfl (zW rfl rfl rfl rfl (zW rfl rfl rfl rfl (zW rfl rfl rfl rfl ?_))))
   refine uB (zA rfl rfl) ?_
   refine qO (qM (zI rfl ?_))
   have h22 : ∀ f', (none : Option Fm) = some f' → f'.hv = 2 := fun f' e => by cases e
   refine qN (qL (uM rfl (uB (zD rfl) ?_)))
   refine uB (uBf rfl) ?_
   refine uL ?_
   refine uB (uBl rfl) ?_
   refine uA rfl (qO (qM (qN (qL (uM rfl (uB (y_eq rfl rfl) ?_))))))
   refine uM rfl ?_
   refine qAn 42 rfl (fun h4 => ?_) (fun h4 => ?_)
   ·have hm0 : M0.its = [] := List.eq_nil_of_length_eq_zero (by omega)
    refine zW rfl rfl rfl rfl (zW rfl rfl rfl rfl (zW rfl rfl rfl rfl (zW rfl rfl rfl rfl (zW rfl rfl rfl rfl (zW rfl rfl rfl rfl (zW rfl rfl rfl rfl (zW rfl rfl rfl rfl ?_)))))))
    refine zW rfl rfl rfl rfl (zW rfl rfl rfl rfl (zW rfl rfl rfl rfl ?_))
    refine uB (zA rfl rfl) ?_
    refine qO (qM (zI rfl (kE (qZ ?_))))
    apply kF
    ·rfl
    ·(exact Rs.nil)
    ·refine same (early h22 fun u hu => ?_)
     rw [hm0] at hu
     simp [qAa] at hu
    exact uI
   obtain ⟨is, it, hmi⟩ : ∃ is it, M0.its = is ++ [it] := by
    rcases List.eq_nil_or_concat M0.its with h | ⟨is, it, h⟩
    ·rw [h] at h4; simp at h4
    exact ⟨is, it, by rw [h, List.concat_eq_append]⟩
   have hil : M0.its.length = is.length + 1 := by rw [hmi]; simp
   refine qId (p := sl M0.p M0.c 149 4 M0.its.length (itsC (rls Es) M0.its)) uK (fun _ h => qCc h (by omega)) ?_
   rintro ⟨gm, hpm⟩
   have f2 : (itsC (rls Es) M0.its)[(itsC (rls Es) is).length + 2]? = some (.int .u64 (key (rls Es) it.id : Nat)) := by rw [hmi]; exact qTi
   rw [hpm]
   refine kT rfl rfl (uM rfl (kT rfl rfl (uB (zD rfl) ?_)))
   refine kT rfl rfl (uB (uBf rfl) ?_)
   refine kT rfl rfl (uL ?_)
   refine kT rfl rfl (uM rfl (kT rfl rfl (uB (uAs rfl rfl) ?_)))
   refine kT rfl rfl (uB (uAi rfl rfl) ?_)
   refine l_eq 49 _ rfl (qEx (L := rls Es) (its := is) hil) ?_
   refine kT rfl rfl (uB (uBf rfl) ?_)
   refine kT rfl rfl (uL ?_)
   refine kT rfl rfl (uM rfl (kT rfl rfl (uB (y_ne rfl rfl) ?_)))
   refine uB (zB rfl rfl) ?_
   refine qO (qM ?_)
   refine zH rfl (fun h5 => ?_) (fun h5 => ?_)
   ·refine kE (qZ ?_)
    apply kF
    ·rfl
    ·(exact Rs.nil)
    ·refine same (early h22 fun u hu e => ?_)
     rw [hlast is it u hmi hu] at e
     omega
    rw [hpm]
    exact uI
   refine zF ?_
   rw [← hpm]
   refine qBq (ι := Nat) 0 trivial ⟨rfl, rfl, rfl, trivial⟩ ?_
   exact uI
  | some f =>
   obtain ⟨gs, g, hfs, hp, rfl⟩ := hv
   have f7 : (qAc (rls Es) B0.fs)[(qAc (rls Es) gs).length + 7]? = some (.int .i64 (f.hv : Nat)) := by rw [hfs]; exact qNs
   rw [hp]
   refine qN (qL (uM rfl (uB (qBa rfl (hE.t rfl)) ?_)))
   refine uM rfl (kT rfl rfl (uM rfl (kT rfl rfl (uB (zD rfl) ?_))))
   refine kT rfl rfl (uB (uBf rfl) ?_)
   refine kT rfl rfl (uL ?_)
   refine kT rfl rfl (uB (y_eq rfl rfl) ?_)
   refine uB (zB rfl rfl) ?_
   refine qO (qM ?_)
   refine zH rfl (fun h2 => ?_) (fun h2 => ?_)
   ·have h22 : ∀ f', some f = some f' → f'.hv = 2 := fun f' e => by cases e; omega
    rw [← hp]
    refine qN (qL (uM rfl (uB (zD rfl) ?_)))
    refine uB (uBf rfl) ?_
    refine uL ?_
    refine uB (uBl rfl) ?_
    refine uA rfl (qO (qM (qN (qL (uM rfl (uB (y_eq rfl rfl) ?_))))))
    refine uM rfl ?_
    refine qAn 42 rfl (fun h4 => ?_) (fun h4 => ?_)
    ·have hm0 : M0.its = [] := List.eq_nil_of_length_eq_zero (by omega)
     refine zW rfl rfl rfl rfl (zW rfl rfl rfl rfl (zW rfl rfl rfl rfl (zW rfl rfl rfl rfl (zW rfl rfl rfl rfl (zW rfl rfl rfl rfl (zW rfl rfl rfl rfl (zW rfl rfl rfl rfl ?_)))))))
     refine zW rfl rfl rfl rfl (zW rfl rfl rfl rfl (zW rfl rfl rfl rfl ?_))
     refine uB (zA rfl rfl) ?_
     refine qO (qM (zI rfl (kE (qZ ?_))))
     apply kF
     ·rfl
     ·(exact Rs.nil)
     ·refine same (early h22 fun u hu => ?_)
      rw [hm0] at hu
      simp [qAa] at hu
     exact uI
    obtain ⟨is, it, hmi⟩ : ∃ is it, M0.its = is ++ [it] := by
     rcases List.eq_nil_or_concat M0.its with h | ⟨is, it, h⟩
     ·rw [h] at h4; simp at h4
     exact ⟨is, it, by rw [h, List.concat_eq_append]⟩
    have hil : M0.its.length = is.length + 1 := by rw [hmi]; simp
    refine qId (p := sl M0.p M0.c 149 4 M0.its.length (itsC (rls Es) M0.its)) uK (fun _ h => qCc h (by omega)) ?_
    rintro ⟨gm, hpm⟩
    have f2 : (itsC (rls Es) M0.its)[(itsC (rls Es) is).length + 2]? = some (.int .u64 (key (rls Es) it.id : Nat)) := by rw [hmi]; exact qTi
    rw [hpm]
    refine kT rfl rfl (uM rfl (kT rfl rfl (uB (zD rfl) ?_)))
    refine kT rfl rfl (uB (uBf rfl) ?_)
    refine kT rfl rfl (uL ?_)
    refine kT rfl rfl (uM rfl (kT rfl rfl (uB (uAs rfl rfl) ?_)))
    refine kT rfl rfl (uB (uAi rfl rfl) ?_)
    refine l_eq 49 _ rfl (qEx (L := rls Es) (its := is) hil) ?_
    refine kT rfl rfl (uB (uBf rfl) ?_)
    refine kT rfl rfl (uL ?_)
    refine kT rfl rfl (uM rfl (kT rfl rfl (uB (y_ne rfl rfl) ?_)))
    refine uB (zB rfl rfl) ?_
    refine qO (qM ?_)
    refine zH rfl (fun h5 => ?_) (fun h5 => ?_)
    ·refine kE (qZ ?_)
     apply kF
     ·rfl
     ·(exact Rs.nil)
     ·refine same (early h22 fun u hu e => ?_)
      rw [hlast is it u hmi hu] at e
      omega
     rw [hpm]
     exact uI
    refine zF ?_
    rw [← hpm]
    refine qBq (ι := Nat) 0 trivial ⟨rfl, rfl, rfl, trivial⟩ ?_
    exact uI
   refine zF ?_
   rw [← hp]
   refine qBq (ι := Nat) 0 trivial ⟨rfl, rfl, rfl, trivial⟩ ?_
   exact uI
 rintro _ -
 refine zN ?_
 refine qDb (fun y : StrG => [(0, uPt S), (1, .int .i64 ((l + 1 : Nat) : Int)), (4, .int .u64 (key (rls Es) B0.x : Nat))]) (fun y => [cells pp [uPt s, uPt tb] 57, tabP tb s (rls Es), zU s most Es, cells S [uPt pp, uPt pp, .bool false, .slice A.p A.fs.length A.c, .int .i64 (A.x : Nat), .int .u64 (key (rls Es) A.x : Nat), uPt pp, .bool true, .slice y.B.p y.B.fs.length y.B.c, .int .i64 (y.B.x : Nat), .int .u64 (key (rls Es) y.B.x : Nat), .slice y.M.p y.M.its.length y.M.c] 113, sl A.p A.c 137 8 A.fs.length (qAc (rls Es) A.fs), sl y.B.p y.B.c 137 8 y.B.fs.length (qAc (rls Es) y.B.fs), sl y.M.p y.M.c 149 4 y.M.its.length (itsC (rls Es) y.M.its), R]) (fun y => (seqE (rls Es) true l y.B.x y.B.fs).length) (fun y => StrI (rls Es) l rr (key (rls Es) B0.x) B0 M0 y) ⟨B0, M0⟩ ⟨eB0, hI0, rfl, .inl ⟨rfl, rfl⟩, fun _ => ⟨[], by simp, by simp, fun h => absurd rfl h⟩⟩ ⟨rfl, rfl, rfl, trivial⟩ ?_ ?_
 ·exact uI
 rintro ⟨B, M⟩ ⟨eB, hI, hrow, hbb, hgr⟩
 simp only at eB hI hrow hbb hgr ⊢
 have hml : M.its.length ≤ 800000000000 := by
  have h1 := qEw (its := M.its) fun it h => (hI it h).1
  rw [← hrow, List.length_append] at hlen
  omega
 have hfl := eB.pl hw hL hs
 have fin : (B.x = 0 ∨ key (rls Es) B.x ≠ key (rls Es) B0.x) → ∃ (B' : Sd) (M' : Md), Value.tuple #[] = .tuple #[] ∧ RR (rls Es) l rr B'.x B'.fs (qAa M'.its) ∧ qAa M'.its ++ seqE (rls Es) true l B'.x B'.fs = qAa M0.its ++ seqE (rls Es) true l B0.x B0.fs ∧ ItT (rls Es) M'.its ∧ (M'.its = [] → M0.its = [] ∧ B' = B0) ∧ (Dk (rls Es) → ∃ b, M'.its = M0.its ++ b ∧ b.length ≤ 1) ∧ [cells pp [uPt s, uPt tb] 57, tabP tb s (rls Es), zU s most Es, cells S [uPt pp, uPt pp, .bool false, .slice A.p A.fs.length A.c, .int .i64 (A.x : Nat), .int .u64 (key (rls Es) A.x : Nat), uPt pp, .bool true, .slice B.p B.fs.length B.c, .int .i64 (B.x : Nat), .int .u64 (key (rls Es) B.x : Nat), .slice M.p M.its.length M.c] 113, sl A.p A.c 137 8 A.fs.length (qAc (rls Es) A.fs), sl B.p B.c 137 8 B.fs.length (qAc (rls Es) B.fs), sl M.p M.c 149 4 M.its.length (itsC (rls Es) M.its)] = [cells pp [uPt s, uPt tb] 57, tabP tb s (rls Es), zU s most Es, cells S [uPt pp, uPt pp, .bool false, .slice A.p A.fs.length A.c, .int .i64 (A.x : Nat), .int .u64 (key (rls Es) A.x : Nat), uPt pp, .bool true, .slice B'.p B'.fs.length B'.c, .int .i64 (B'.x : Nat), .int .u64 (key (rls Es) B'.x : Nat), .slice M'.p M'.its.length M'.c] 113, sl A.p A.c 137 8 A.fs.length (qAc (rls Es) A.fs), sl B'.p B'.c 137 8 B'.fs.length (qAc (rls Es) B'.fs), sl M'.p M'.c 149 4 M'.its.length (itsC (rls Es) M'.its)] := by
  intro hc
  refine ⟨B, M, rfl, ?_, hrow, hI, ?_, fun hd => (hgr hd).imp fun _ h => ⟨h.1, h.2.1⟩, rfl⟩
  ·rcases hbb with ⟨rfl, rfl⟩ | ⟨h1, h2, h3⟩
   ·rcases hc with h | h
    ·exact absurd h hx0
    exact absurd rfl h
   by_cases hx : B.x = 0
   ·have := qRn (L := rls Es) (l := l) (root := rr) (fs := B.fs) (M := qAa M.its) (by rw [← hx]; exact eB)
    rwa [← hx] at this
   refine ⟨eB, h1, fun u v e1 e2 => ?_⟩
   rw [eB.head hx] at e2
   cases e2
   rw [if_neg (by omega), qGj hn, h3 u e1]
   rcases hc with h | h
   ·exact absurd h hx
   exact fun e => h e.symm
  intro h
  rcases hbb with ⟨rfl, rfl⟩ | ⟨h1, h2, h3⟩
  ·exact ⟨h, rfl⟩
  exact absurd h h2
 refine qN (qN (qL (uM rfl (uB (zD rfl) ?_))))
 refine uB (uBf rfl) ?_
 refine uB (uBf rfl) ?_
 refine uL ?_
 refine uB (y_ne rfl rfl) ?_
 refine uM rfl ?_
 refine qAn 61 rfl (fun g0 => ?_) (fun g0 => ?_)
 ·refine kT rfl rfl ?_
  refine uM rfl (kT rfl rfl (uB (zD rfl) ?_))
  refine kT rfl rfl (uB (uBf rfl) ?_)
  refine kT rfl rfl (uB (uBf rfl) ?_)
  refine kT rfl rfl (uL ?_)
  refine kT rfl rfl (uM rfl (kT rfl rfl (uB (y_eq rfl rfl) ?_)))
  refine uB (zA rfl rfl) ?_
  refine qO (qM ?_)
  refine zH rfl (fun g1 => ?_) (fun g1 => ?_)
  ·have hx : B.x ≠ 0 := by omega
   have hkk : key (rls Es) B.x = key (rls Es) B0.x := by omega
   obtain ⟨k1, k2, k3, k4⟩ := eB.low hx
   have hRB := eB.mem hw hs
   refine zF (qM (zN (qN (qL (uM rfl (uB (zD rfl) ?_))))))
   refine uB (uBf rfl) ?_
   refine uM rfl ?_
   refine uX (qEs hE (b := S) (pre := [uPt pp, uPt pp, .bool false, .slice A.p A.fs.length A.c, .int .i64 (A.x : Nat), .int .u64 (key (rls Es) A.x : Nat)]) (suf := [.slice M.p M.its.length M.c]) (fs := B.fs) hfl) rfl ?_
   rintro v _ ⟨⟨o, ho, hv⟩, rfl⟩
   simp only [uV, uW]
   refine uA rfl (qO (qM ?_))
   cases o with
   | none =>
    obtain rfl : v = .pointer none := hv
    have hmt : 1 = many (rls Es) none := rfl
    have hov : (l + 1) % 2 = 0 → ∀ f : Fm, none = some f → f.hv = 1 := fun _ f e => by cases e
    refine qN (qN (qL (uM rfl (uB (qDy rfl (hE.t rfl)) ?_))))
    refine uM rfl ?_
    refine zW rfl rfl rfl rfl (zW rfl rfl rfl rfl (zW rfl rfl rfl rfl (zW rfl rfl rfl rfl (zW rfl rfl rfl rfl ?_))))
    refine uB (zA rfl rfl) ?_
    refine qO (qM (zI rfl (qN ?_)))
    refine uN 16 ([cells S [uPt pp, uPt pp, .bool false, .slice A.p A.fs.length A.c, .int .i64 (A.x : Nat), .int .u64 (key (rls Es) A.x : Nat), uPt pp, .bool true, .slice B.p B.fs.length B.c, .int .i64 (B.x : Nat), .int .u64 (key (rls Es) B.x : Nat), .slice M.p M.its.length M.c] 113]) ?_
    refine uT 0 rfl (qE rfl) ?_
    refine uT 1 rfl (qE rfl) ?_
    refine uT 2 rfl (zD rfl) ?_
    refine uT 3 rfl (uBf rfl) ?_
    refine uT 4 rfl (uY) ?_
    refine uT 5 rfl (qE rfl) ?_
    refine uT 6 rfl (zD rfl) ?_
    refine uT 7 rfl (uBf rfl) ?_
    refine uT 8 rfl (uBf rfl) ?_
    refine uT 9 rfl (uY) ?_
    apply kN 10 rfl (by kernel_rfl)
    ·exact qE rfl
    ·rfl
    apply kN 11 rfl (by kernel_rfl)
    ·exact qAl (hE.t rfl) rfl rfl
    ·rfl
    apply qAg 12 rfl (by kernel_rfl) rfl
    refine qY (hE.t rfl) (hE.t rfl) rfl rfl rfl (fun b96 => ?_)
    refine uE ?_
    apply qAg 13 rfl (by kernel_rfl) rfl
    apply zX (hE.t rfl) (hE.t rfl) rfl rfl rfl
    ·exact uK
    ·exact uK
    ·rfl
    ·rfl
    ·omega
    ·omega
    ·(unfold maxLen; omega)
    intro g97 c97 n97 x97 hn97 hx97
    refine uE ?_
    apply kN 14 rfl (by kernel_rfl)
    ·exact zD rfl
    ·rfl
    apply kN 15 rfl (by kernel_rfl)
    ·exact uBf rfl
    ·rfl
    apply qBt rfl (by kernel_rfl) (by kernel_rfl) rfl
    refine uS ?_
    refine qM ?_
    obtain rfl : x97 = itsC (rls Es) (M.its ++ [⟨B.x, 0, 1⟩]) := by rw [hx97, qBw]; simp only; rw [hkk]; rfl
    subst hn97
    refine qN (qL (uM rfl (uB (zD rfl) ?_)))
    refine uB (uBf rfl) ?_
    refine uM rfl (uB (uAs rfl rfl) ?_)
    refine l_eq 104 (.int .i64 (l : Nat)) rfl (zZ (by omega)) ?_
    have hdr := qDd (pp := pp) (tb := tb) (s := s) (most := most) hE hB (b := S) (bt := 113) (p := B.p) (c := B.c) (k := key (rls Es) B.x) (pre := [uPt pp, uPt pp, .bool false, .slice A.p A.fs.length A.c, .int .i64 (A.x : Nat), .int .u64 (key (rls Es) A.x : Nat)]) (suf := [.slice (⟨M.its ++ [⟨B.x, 0, 1⟩], some ⟨g97, 0, none⟩, c97⟩ : Md).p (⟨M.its ++ [⟨B.x, 0, 1⟩], some ⟨g97, 0, none⟩, c97⟩ : Md).its.length (⟨M.its ++ [⟨B.x, 0, 1⟩], some ⟨g97, 0, none⟩, c97⟩ : Md).c]) hs k2 (qHa k2) hl1
    simp only [List.length_append, List.length_singleton] at hdr
    refine uX (hdr) rfl ?_
    rintro _ _ ⟨x', gs', p', c'', rfl, q1, rfl⟩
    simp only [uV, uW]
    refine qO (qM (kM (qU (zK ?_))))
    have hmv := mvd hw hs eB hx ho hmt hov q1
    refine zV (ι := StrG) (j := ⟨⟨x', gs', p', c''⟩, ⟨M.its ++ [⟨B.x, 0, 1⟩], some ⟨g97, 0, none⟩, c97⟩⟩) ⟨hmv.eo, qVd hI ⟨Nat.le_refl _, fun _ => rfl, fun h => absurd rfl h⟩, ?_, .inr ⟨hmv.bb, by simp, fun u hu => ?_⟩, fun hd => ?_⟩ ?_ ⟨rfl, rfl, rfl, trivial⟩ ?_
    ·rw [← hrow, hmv.seq]
     simp only
     rw [qHc]
     simp [cat]
    ·simp only at hu
     rw [qMe] at hu
     cases hu
     exact hkk
    ·obtain ⟨d, d1, d2, d3⟩ := hgr hd
     have hbx : B.x = B0.x := hd _ _ (by omega) (eB.ids hw hs).1 (by omega) (eB0.ids hw hs).1 hkk
     have hd0 : d = [] := Classical.byContradiction fun h => d3 h hbx
     subst hd0
     refine ⟨[⟨B.x, 0, 1⟩], by show M.its ++ [_] = _; rw [d1, List.append_nil], Nat.le_refl _, fun _ e => ?_⟩
     have e' : x' = B.x := by rw [hbx]; exact e
     have hsq := hmv.seq
     have hx' : x' ≠ 0 := by omega
     have hhd := hmv.eo.head hx'
     cases es : seqE (rls Es) true l x' gs' with
     | nil => rw [es] at hhd; simp at hhd
     | cons q qs =>
      rw [es] at hhd hsq
      simp at hhd
      refine eB.adj (a := B.x) (r := qs) hw hs hx hev ?_
      rw [hsq, hhd, e']
      rfl
    ·show (seqE (rls Es) true l x' gs').length < (seqE (rls Es) true l B.x B.fs).length
     rw [hmv.seq]
     simp [cat]
    simp only [List.length_append, List.length_singleton]
    exact uI
   | some f =>
    obtain ⟨gs, g, hfs, hp, rfl⟩ := hv
    have f7 : (qAc (rls Es) B.fs)[(qAc (rls Es) gs).length + 7]? = some (.int .i64 (f.hv : Nat)) := by rw [hfs]; exact qNs
    obtain ⟨_, a, b, hfs2, l1, l2, l3, l4, l5, l6, hch, hft, hla, hlb⟩ := qFb hw hs eB hx ho hev
    rw [hp]
    refine qN (qN (qL (uM rfl (uB (qBa rfl (hE.t rfl)) ?_))))
    refine uM rfl (kT rfl rfl (uM rfl (kT rfl rfl (uB (zD rfl) ?_))))
    refine kT rfl rfl (uB (uBf rfl) ?_)
    refine kT rfl rfl (uL ?_)
    refine kT rfl rfl (uB (y_lt rfl rfl) ?_)
    refine uB (zB rfl rfl) ?_
    refine qO (qM ?_)
    refine zH rfl (fun g2 => ?_) (fun g2 => ?_)
    ·have hmt := (qNn l4).symm
     have hov : (l + 1) % 2 = 0 → ∀ f' : Fm, some f = some f' → f'.hv = 1 := fun _ f' e => by cases e; omega
     rw [← hp]
     refine qN ?_
     refine uN 16 ([cells S [uPt pp, uPt pp, .bool false, .slice A.p A.fs.length A.c, .int .i64 (A.x : Nat), .int .u64 (key (rls Es) A.x : Nat), uPt pp, .bool true, .slice B.p B.fs.length B.c, .int .i64 (B.x : Nat), .int .u64 (key (rls Es) B.x : Nat), .slice M.p M.its.length M.c] 113]) ?_
     refine uT 0 rfl (qE rfl) ?_
     refine uT 1 rfl (qE rfl) ?_
     refine uT 2 rfl (zD rfl) ?_
     refine uT 3 rfl (uBf rfl) ?_
     refine uT 4 rfl (uY) ?_
     refine uT 5 rfl (qE rfl) ?_
     refine uT 6 rfl (zD rfl) ?_
     refine uT 7 rfl (uBf rfl) ?_
     refine uT 8 rfl (uBf rfl) ?_
     refine uT 9 rfl (uY) ?_
     apply kN 10 rfl (by kernel_rfl)
     ·exact qE rfl
     ·rfl
     apply kN 11 rfl (by kernel_rfl)
     ·exact qAl (hE.t rfl) rfl rfl
     ·rfl
     apply qAg 12 rfl (by kernel_rfl) rfl
     refine qY (hE.t rfl) (hE.t rfl) rfl rfl rfl (fun b96 => ?_)
     refine uE ?_
     apply qAg 13 rfl (by kernel_rfl) rfl
     apply zX (hE.t rfl) (hE.t rfl) rfl rfl rfl
     ·exact uK
     ·exact uK
     ·rfl
     ·rfl
     ·omega
     ·omega
     ·(unfold maxLen; omega)
     intro g97 c97 n97 x97 hn97 hx97
     refine uE ?_
     apply kN 14 rfl (by kernel_rfl)
     ·exact zD rfl
     ·rfl
     apply kN 15 rfl (by kernel_rfl)
     ·exact uBf rfl
     ·rfl
     apply qBt rfl (by kernel_rfl) (by kernel_rfl) rfl
     refine uS ?_
     refine qM ?_
     obtain rfl : x97 = itsC (rls Es) (M.its ++ [⟨B.x, 0, 1⟩]) := by rw [hx97, qBw]; simp only; rw [hkk]; rfl
     subst hn97
     refine qN (qL (uM rfl (uB (zD rfl) ?_)))
     refine uB (uBf rfl) ?_
     refine uM rfl (uB (uAs rfl rfl) ?_)
     refine l_eq 104 (.int .i64 (l : Nat)) rfl (zZ (by omega)) ?_
     have hdr := qDd (pp := pp) (tb := tb) (s := s) (most := most) hE hB (b := S) (bt := 113) (p := B.p) (c := B.c) (k := key (rls Es) B.x) (pre := [uPt pp, uPt pp, .bool false, .slice A.p A.fs.length A.c, .int .i64 (A.x : Nat), .int .u64 (key (rls Es) A.x : Nat)]) (suf := [.slice (⟨M.its ++ [⟨B.x, 0, 1⟩], some ⟨g97, 0, none⟩, c97⟩ : Md).p (⟨M.its ++ [⟨B.x, 0, 1⟩], some ⟨g97, 0, none⟩, c97⟩ : Md).its.length (⟨M.its ++ [⟨B.x, 0, 1⟩], some ⟨g97, 0, none⟩, c97⟩ : Md).c]) hs k2 (qHa k2) hl1
     simp only [List.length_append, List.length_singleton] at hdr
     refine uX (hdr) rfl ?_
     rintro _ _ ⟨x', gs', p', c'', rfl, q1, rfl⟩
     simp only [uV, uW]
     refine qO (qM (kM (qU (zK ?_))))
     have hmv := mvd hw hs eB hx ho hmt hov q1
     refine zV (ι := StrG) (j := ⟨⟨x', gs', p', c''⟩, ⟨M.its ++ [⟨B.x, 0, 1⟩], some ⟨g97, 0, none⟩, c97⟩⟩) ⟨hmv.eo, qVd hI ⟨Nat.le_refl _, fun _ => rfl, fun h => absurd rfl h⟩, ?_, .inr ⟨hmv.bb, by simp, fun u hu => ?_⟩, fun hd => ?_⟩ ?_ ⟨rfl, rfl, rfl, trivial⟩ ?_
     ·rw [← hrow, hmv.seq]
      simp only
      rw [qHc]
      simp [cat]
     ·simp only at hu
      rw [qMe] at hu
      cases hu
      exact hkk
     ·obtain ⟨d, d1, d2, d3⟩ := hgr hd
      have hbx : B.x = B0.x := hd _ _ (by omega) (eB.ids hw hs).1 (by omega) (eB0.ids hw hs).1 hkk
      have hd0 : d = [] := Classical.byContradiction fun h => d3 h hbx
      subst hd0
      refine ⟨[⟨B.x, 0, 1⟩], by show M.its ++ [_] = _; rw [d1, List.append_nil], Nat.le_refl _, fun _ e => ?_⟩
      have e' : x' = B.x := by rw [hbx]; exact e
      have hsq := hmv.seq
      have hx' : x' ≠ 0 := by omega
      have hhd := hmv.eo.head hx'
      cases es : seqE (rls Es) true l x' gs' with
      | nil => rw [es] at hhd; simp at hhd
      | cons q qs =>
       rw [es] at hhd hsq
       simp at hhd
       refine eB.adj (a := B.x) (r := qs) hw hs hx hev ?_
       rw [hsq, hhd, e']
       rfl
     ·show (seqE (rls Es) true l x' gs').length < (seqE (rls Es) true l B.x B.fs).length
      rw [hmv.seq]
      simp [cat]
     simp only [List.length_append, List.length_singleton]
     exact uI
    have h2 : f.hv = 2 := by omega
    have hlv := ho.2
    obtain ⟨rfl, _⟩ := qEg (hfs.symm.trans hfs2)
    have f3 : (qAc (rls Es) B.fs)[(qAc (rls Es) gs).length + 3]? = some (.int .i64 (a : Nat)) := by
     have := (qTq (L := rls Es) (gs := gs) (f := f)).1
     rw [l4] at this
     rw [hfs]
     exact this
    have f4 : (qAc (rls Es) B.fs)[(qAc (rls Es) gs).length + 4]? = some (.int .i64 (b : Nat)) := by
     have := (qTq (L := rls Es) (gs := gs) (f := f)).2
     rw [l4] at this
     rw [hfs]
     exact this
    have hxa : B.x = a := by rw [hch, h2]; simp [qBp]
    have hka : key (rls Es) a = key (rls Es) B0.x := by rw [← hxa]; exact hkk
    have hkb : key (rls Es) b = key (rls Es) B0.x := by rw [← hka]; exact ((qGj hn).1 hft).symm
    have hb0 : b ≠ 0 := by have := (hw.ok _ _ l3).2.2.1; omega
    have eu : upF (rls Es) (l + 1) B.x B.fs = (f.id, gs) := by rw [hfs, qDx, if_pos ⟨hlv, by rw [l4, h2]; exact Nat.le_refl 2⟩]
    have hgs := l1.short' hw hs hL
    have eBf : EO (rls Es) true l rr B.x (gs ++ [f]) := by rw [← hfs]; exact eB
    refine zF (qM (qN ?_))
    refine uN 13 ([sl (some ⟨g, 0, none⟩) B.c 137 8 B.fs.length (qAc (rls Es) B.fs)]) ?_
    refine uT 0 rfl (qE rfl) ?_
    refine uT 1 rfl (zD rfl) ?_
    refine uT 2 rfl (uBf rfl) ?_
    refine uT 3 rfl (uBf rfl) ?_
    refine uT 4 rfl (uY) ?_
    refine uT 5 rfl (qE rfl) ?_
    refine uT 6 rfl (zD rfl) ?_
    refine uT 7 rfl (uBf rfl) ?_
    refine uT 8 rfl (uBf rfl) ?_
    refine uT 9 rfl (uY) ?_
    refine uT 10 rfl (qE rfl) ?_
    refine uT 11 rfl (qAl (hE.t rfl) rfl rfl) ?_
    apply qAg 12 rfl (by kernel_rfl) rfl
    refine kI (hE.t rfl) (fun b8 => ?_)
    refine uE ?_
    apply qBt rfl (by kernel_rfl) (by kernel_rfl) rfl
    refine uS ?_
    refine qM ?_
    rw [← hp]
    have hup := zAm (pp := pp) (tb := tb) (s := s) (most := most) hE hB (b := S) (bt := 113) (p := B.p) (c := B.c) (pre := [uPt pp, uPt pp, .bool false, .slice A.p A.fs.length A.c, .int .i64 (A.x : Nat), .int .u64 (key (rls Es) A.x : Nat)]) (suf := [.slice M.p M.its.length M.c]) (lv := l + 1) hs eB
    rw [eu] at hup
    refine qN (qL (uM rfl (uB (zD rfl) ?_)))
    refine uB (uBf rfl) ?_
    refine uM rfl (uX (hup) rfl ?_)
    rintro _ _ ⟨rfl, rfl⟩
    simp only [uV, uW]
    refine qO (qM ?_)
    refine qIe (fun t : Nat => [(0, uPt S), (1, .int .i64 ((l + 1 : Nat) : Int)), (4, .int .u64 (key (rls Es) B0.x : Nat)), (8, uPt b8)]) (fun t => [cells pp [uPt s, uPt tb] 57, tabP tb s (rls Es), zU s most Es, cells S [uPt pp, uPt pp, .bool false, .slice A.p A.fs.length A.c, .int .i64 (A.x : Nat), .int .u64 (key (rls Es) A.x : Nat), uPt pp, .bool true, .slice (⟨f.id, gs, B.p, B.c⟩ : Sd).p (⟨f.id, gs, B.p, B.c⟩ : Sd).fs.length (⟨f.id, gs, B.p, B.c⟩ : Sd).c, .int .i64 ((⟨f.id, gs, B.p, B.c⟩ : Sd).x : Nat), .int .u64 (key (rls Es) (⟨f.id, gs, B.p, B.c⟩ : Sd).x : Nat), .slice M.p M.its.length M.c] 113, sl A.p A.c 137 8 A.fs.length (qAc (rls Es) A.fs), sl (⟨f.id, gs, B.p, B.c⟩ : Sd).p (⟨f.id, gs, B.p, B.c⟩ : Sd).c 137 8 (⟨f.id, gs, B.p, B.c⟩ : Sd).fs.length (qAc (rls Es) (⟨f.id, gs, B.p, B.c⟩ : Sd).fs), sl M.p M.c 149 4 M.its.length (itsC (rls Es) M.its), cells b8 [.int .i64 (a : Nat), .int .i64 (b : Nat), .int .u64 (key (rls Es) B0.x : Nat), .int .i64 (t : Nat)] 149, R]) (fun t => Drp (rls Es) t gs) ?_ ?_
    ·refine qN (qL ?_)
     refine uM rfl (uB (zD rfl) ?_)
     refine uB (uBf rfl) ?_
     refine uM rfl (uB (uAa rfl rfl) ?_)
     refine l_eq 127 (.int .i64 ((l + 1 + 1 : Nat) : Int)) rfl (zZ (by omega)) ?_
     refine uX (qEs hE (b := S) (pre := [uPt pp, uPt pp, .bool false, .slice A.p A.fs.length A.c, .int .i64 (A.x : Nat), .int .u64 (key (rls Es) A.x : Nat)]) (suf := [.slice M.p M.its.length M.c]) (fs := gs) hgs) rfl ?_
     rintro v _ ⟨⟨o2, ho2, hv2⟩, rfl⟩
     simp only [uV, uW]
     refine uA rfl (qO (qM ?_))
     cases o2 with
     | none =>
      obtain rfl : v = .pointer none := hv2
      refine qN (qL (uM rfl (uB (qSi rfl (hE.t rfl)) ?_)))
      refine qO (qM (zG rfl (zF ?_)))
      refine qBq (ι := Nat) 1 (qHa l1) ⟨rfl, rfl, rfl, rfl, trivial⟩ ?_
      exact uI
     | some f2 =>
      obtain ⟨gs2, g2', hfs3, hp2, rfl⟩ := hv2
      have f8 : (qAc (rls Es) gs)[(qAc (rls Es) gs2).length + 7]? = some (.int .i64 (f2.hv : Nat)) := by rw [hfs3]; exact qNs
      rw [hp2]
      refine qN (qL (uM rfl (uB (qSj rfl (hE.t rfl)) ?_)))
      refine qO (qM (zI rfl (qL (uM rfl (uB (zD rfl) ?_)))))
      refine uB (uBf rfl) ?_
      refine uL ?_
      refine uB (uBf rfl) ?_
      refine uU (uS ?_)
      refine qO ?_
      rw [← hp2]
      refine qBq (ι := Nat) f2.hv ?_ ⟨rfl, rfl, rfl, rfl, trivial⟩ ?_
      ·subst hfs3
       obtain ⟨r2, m1, m2, m3, m4, m5, m6, _⟩ := l1.inv
       have ok2 := m1.ok hw hs
       have er2 := qBo m3
       have hl2 := ho2.2
       refine ⟨m5, fun e => by simp at e, fun g3 f3' e => ?_⟩
       obtain ⟨_, rfl⟩ := qEg e
       refine ⟨Nat.le_refl _, .inr ?_⟩
       cases r2 with
       | letter b => exact absurd rfl (m4 b)
       | pair a' b' => have := (qGo hw m2 m3 ok2.2.2.1).1; omega
       | power y n => exact ⟨y, n, er2⟩
      exact uI
    intro t hdt
    refine qN ?_
    refine uN 10 ([cells S [uPt pp, uPt pp, .bool false, .slice A.p A.fs.length A.c, .int .i64 (A.x : Nat), .int .u64 (key (rls Es) A.x : Nat), uPt pp, .bool true, .slice (⟨f.id, gs, B.p, B.c⟩ : Sd).p (⟨f.id, gs, B.p, B.c⟩ : Sd).fs.length (⟨f.id, gs, B.p, B.c⟩ : Sd).c, .int .i64 ((⟨f.id, gs, B.p, B.c⟩ : Sd).x : Nat), .int .u64 (key (rls Es) (⟨f.id, gs, B.p, B.c⟩ : Sd).x : Nat), .slice M.p M.its.length M.c] 113, cells b8 [.int .i64 (a : Nat), .int .i64 (b : Nat), .int .u64 (key (rls Es) B0.x : Nat), .int .i64 (t : Nat)] 149]) ?_
    refine uT 0 rfl (qE rfl) ?_
    refine uT 1 rfl (qE rfl) ?_
    refine uT 2 rfl (zD rfl) ?_
    refine uT 3 rfl (uBf rfl) ?_
    refine uT 4 rfl (uY) ?_
    apply kN 5 rfl (by kernel_rfl)
    ·(apply zY rfl (hE.t rfl) rfl; (repeat (first | rfl | assumption | constructor)); done)
    ·rfl
    apply qAg 6 rfl (by kernel_rfl) rfl
    refine qY (hE.t rfl) (hE.t rfl) rfl rfl rfl (fun b142 => ?_)
    refine uE ?_
    apply qAg 7 rfl (by kernel_rfl) rfl
    apply zX (hE.t rfl) (hE.t rfl) rfl rfl rfl
    ·exact uK
    ·exact uK
    ·rfl
    ·rfl
    ·omega
    ·omega
    ·(unfold maxLen; omega)
    intro g143 c143 n143 x143 hn143 hx143
    refine uE ?_
    apply kN 8 rfl (by kernel_rfl)
    ·exact zD rfl
    ·rfl
    apply kN 9 rfl (by kernel_rfl)
    ·exact uBf rfl
    ·rfl
    apply qBt rfl (by kernel_rfl) (by kernel_rfl) rfl
    refine uS ?_
    refine qM ?_
    obtain rfl : x143 = itsC (rls Es) (M.its ++ [⟨a, b, t⟩]) := by rw [hx143, qBw]; simp only; rw [hka]; rfl
    subst hn143
    refine qCo (by kernel_rfl) ?_
    refine uM rfl (uB (zD rfl) ?_)
    refine uB (uBf rfl) ?_
    refine uB (uBf rfl) ?_
    refine uL ?_
    refine uM rfl (uB (uAs rfl rfl) ?_)
    refine l_eq 152 (.int .i64 (l : Nat)) rfl (zZ (by omega)) ?_
    have hdr := qDd (pp := pp) (tb := tb) (s := s) (most := most) hE hB (b := S) (bt := 113) (p := B.p) (c := B.c) (k := key (rls Es) f.id) (pre := [uPt pp, uPt pp, .bool false, .slice A.p A.fs.length A.c, .int .i64 (A.x : Nat), .int .u64 (key (rls Es) A.x : Nat)]) (suf := [.slice (⟨M.its ++ [⟨a, b, t⟩], some ⟨g143, 0, none⟩, c143⟩ : Md).p (⟨M.its ++ [⟨a, b, t⟩], some ⟨g143, 0, none⟩, c143⟩ : Md).its.length (⟨M.its ++ [⟨a, b, t⟩], some ⟨g143, 0, none⟩, c143⟩ : Md).c]) hs l1 hdt hl1
    simp only [List.length_append, List.length_singleton] at hdr
    refine uX (hdr) rfl ?_
    rintro _ _ ⟨x', gs', p', c'', rfl, q1, rfl⟩
    simp only [uV, uW]
    refine qO (zL ?_)
    obtain ⟨v1, v2, v3⟩ := zBq hw hs eBf hx hlv hev h2 l4 hdt q1
    have ef : itF ⟨a, b, t⟩ = (List.replicate t [a, b]).flatten := by unfold itF; simp only [if_neg hb0]
    refine zV (ι := StrG) (j := ⟨⟨x', gs', p', c''⟩, ⟨M.its ++ [⟨a, b, t⟩], some ⟨g143, 0, none⟩, c143⟩⟩) ⟨v1, qVd hI ⟨hdt.1, fun h => absurd h hb0, fun _ => by rw [hka, hkb]⟩, ?_, .inr ⟨v2, by simp, fun u hu => ?_⟩, fun hd => ?_⟩ ?_ ⟨rfl, rfl, rfl, trivial⟩ ?_
    ·rw [← hrow]
     rw [hfs, v3, qAm, qBv, ef, List.append_assoc]
    ·simp only at hu
     rw [qAm, qBv, zBw hdt.1 hb0] at hu
     cases hu
     exact hkb
    ·exfalso
     have okf := l1.ok hw hs
     have hp2 := qGo hw l2 l3 okf.2.2.1
     obtain ⟨k1', k2', k3', k4'⟩ := hw.ok _ _ l3
     have hfl' := okf.2.1
     exact hp2.2.1 (hd a b k1' (by omega) k3' (by omega) (by rw [hka, hkb]))
    ·show (seqE (rls Es) true l x' gs').length < (seqE (rls Es) true l B.x B.fs).length
     rw [hfs, v3, ← ef]
     have := qHy (it := ⟨a, b, t⟩) hdt.1
     cases e : itF ⟨a, b, t⟩ with
     | nil => rw [e] at this; simp at this
     | cons q qs => simp; omega
    simp only [List.length_append, List.length_singleton]
    exact uI
  refine kM (qU (qU (zK ?_)))
  exact uZe rfl .nil (fin (.inr (by omega)))
 refine zW rfl rfl rfl rfl (zW rfl rfl rfl rfl (zW rfl rfl rfl rfl (zW rfl rfl rfl rfl (zW rfl rfl rfl rfl (zW rfl rfl rfl rfl (zW rfl rfl rfl rfl ?_))))))
 refine uB (zB rfl rfl) ?_
 refine qO (qM (zG rfl (kM (qU (qU (zK ?_))))))
 exact uZe rfl .nil (fin (.inl (by omega)))
end
section
variable {E : Env} {Es : List Ent} {pp tb s most S : Nat}
def Shp (L : List Rl) (lv : Nat) (its : List It) : Prop := if lv % 2 = 1 then Sng its else if num lv = 122 then ItT L its else Sng its ∧ ∀ it ∈ its, it.times = 1
structure Rdy (L : List Rl) (l rl rr : Nat) (A B : Sd) (M : Md) (A' B' : Sd) (M' : Md) : Prop where
 left : RL L l rl A'.x A'.fs (qAa M'.its ++ seqE L true l B'.x B'.fs)
 right : RR L l rr B'.x B'.fs (qAa M'.its)
 row : seqE L false l A'.x A'.fs ++ (qAa M'.its ++ seqE L true l B'.x B'.fs) = seqE L false l A.x A.fs ++ (qAa M.its ++ seqE L true l B.x B.fs)
 ne : M'.its = [] → M.its = [] ∧ A' = A ∧ B' = B
 grow : Dk L → Grw M.its M'.its
 shp : Shp L (l + 1) M'.its
theorem one_ins {x : Nat} {its : List It} (h : ∀ it ∈ its, it.times = 1) : ∀ it ∈ (⟨x, 0, 1⟩ :: its : List It), it.times = 1 := fun it hit => by
 rcases List.mem_cons.1 hit with rfl | hit
 ·rfl
 exact h it hit
theorem one_add {x : Nat} {its : List It} (h : ∀ it ∈ its, it.times = 1) : ∀ it ∈ (its ++ [⟨x, 0, 1⟩] : List It), it.times = 1 := fun it hit => by
 rcases List.mem_append.1 hit with hit | hit
 ·exact h it hit
 obtain rfl := List.mem_singleton.1 hit; rfl
theorem qSt (hE : Seat E) (hB : Base E.w0) {l rl rr : Nat} {A B : Sd} {M : Md} (hs : Sig (rls Es) rl) (hsr : Sig (rls Es) rr) (eA : EO (rls Es) false l rl A.x A.fs) (eB : EO (rls Es) true l rr B.x B.fs) (hM : Sng M.its) (hone : (l + 1) % 2 = 0 → ∀ it ∈ M.its, it.times = 1) (hR : ∀ x ∈ qAa M.its, 1 ≤ x ∧ x ≤ (rls Es).length) (hlen : (seqE (rls Es) false l A.x A.fs ++ (qAa M.its ++ seqE (rls Es) true l B.x B.fs)).length ≤ 800000000000) (hll : l + 1 < 1000000000000) (h1l : 1 ≤ l + 1) :
  Ct E 49 [uPt S, .int .i64 ((l + 1 : Nat) : Int)] [cells pp [uPt s, uPt tb] 57, tabP tb s (rls Es), zU s most Es, cells S [uPt pp, uPt pp, .bool false, .slice A.p A.fs.length A.c, .int .i64 (A.x : Nat), .int .u64 (key (rls Es) A.x : Nat), uPt pp, .bool true, .slice B.p B.fs.length B.c, .int .i64 (B.x : Nat), .int .u64 (key (rls Es) B.x : Nat), .slice M.p M.its.length M.c] 113, sl A.p A.c 137 8 A.fs.length (qAc (rls Es) A.fs), sl B.p B.c 137 8 B.fs.length (qAc (rls Es) B.fs), sl M.p M.c 149 4 M.its.length (itsC (rls Es) M.its)]
   (fun v Q => ∃ (A' B' : Sd) (M' : Md), v = .tuple #[] ∧ Rdy (rls Es) l rl rr A B M A' B' M' ∧ Q = [cells pp [uPt s, uPt tb] 57, tabP tb s (rls Es), zU s most Es, cells S [uPt pp, uPt pp, .bool false, .slice A'.p A'.fs.length A'.c, .int .i64 (A'.x : Nat), .int .u64 (key (rls Es) A'.x : Nat), uPt pp, .bool true, .slice B'.p B'.fs.length B'.c, .int .i64 (B'.x : Nat), .int .u64 (key (rls Es) B'.x : Nat), .slice M'.p M'.its.length M'.c] 113, sl A'.p A'.c 137 8 A'.fs.length (qAc (rls Es) A'.fs), sl B'.p B'.c 137 8 B'.fs.length (qAc (rls Es) B'.fs), sl M'.p M'.c 149 4 M'.its.length (itsC (rls Es) M'.its)]) := by
 refine qAy (p := zU s most Es) uK (fun _ h => qAb h) (fun hsay => ?_)
 have hw := hsay.1
 have hml : M.its.length ≤ 800000000000 := by
  have := qEw (its := M.its) fun it h => (hM it h).2
  rw [List.length_append, List.length_append] at hlen
  omega
 have hlf : (seqE (rls Es) false l A.x A.fs).length + (qAa M.its).length + (seqE (rls Es) true l B.x B.fs).length ≤ 800000000000 := by
  rw [List.length_append, List.length_append] at hlen
  omega
 refine zR (hE.fn Tryd.func49) rfl rfl rfl (fun R => ?_)
 simp only [qAo, uV, uW]
 refine qN (qN (qL (uM rfl (uB (qVy rfl rfl (by omega) (by omega)) ?_))))
 refine uB (y_eq rfl rfl) ?_
 refine qO (qM ?_)
 refine zH rfl (fun h0 => ?_) (fun h0 => ?_)
 ·have hodd : (l + 1) % 2 = 1 := by omega
  refine qN (qL (uM rfl (uM rfl (uX (qQg hE hB (S := S) hs hsr eA eB hM hR (by omega) hodd (by omega)) rfl ?_))))
  rintro _ _ ⟨A', B', M', rfl, hgr, hsg, -, rfl⟩
  simp only [uV, uW]
  refine qO (qM (kE (qZ ?_)))
  exact uZ rfl .nil ⟨A', B', M', rfl, ⟨hgr.left, hgr.right, hgr.row, hgr.ne, fun _ => hgr.grow, by unfold Shp; rw [if_pos hodd]; exact hsg⟩, rfl⟩
 have hev : (l + 1) % 2 = 0 := by omega
 have hodd : ¬ (l + 1) % 2 = 1 := by omega
 have h2l : 2 ≤ l + 1 := by omega
 have hlt : l + 1 < 1099511627776 := by omega
 refine zF (qM (qN (qL (uM rfl (uX (qSw hE h2l hev hlt) rfl ?_)))))
 rintro _ _ ⟨⟨q1, q2, d, rfl, hd⟩, rfl⟩
 simp only [uV, uW]
 refine uM rfl (uB (qX rfl rfl) (uB (qX rfl rfl) (uB (qX rfl rfl) (uA rfl (uA rfl (uA rfl (qO (qM (qN (qL ?_))))))))))
 refine uM rfl (uM rfl (uX (qQf hE hB (S := S) hs eA eB (fun it h => (hM it h).2) hR (by omega) hev hlt) rfl ?_))
 rintro _ _ ⟨A', M1, rfl, hRL, hseq, hsh, rfl⟩
 simp only [uV, uW]
 have hM1 : Sng M1.its ∧ (∀ it ∈ M1.its, it.times = 1) ∧ (M1.its = [] → M.its = [] ∧ A' = A) ∧ ∃ a, M1.its = a ++ M.its ∧ a.length ≤ 1 := by
  rcases hsh with ⟨rfl, rfl⟩ | ⟨e, _⟩
  ·exact ⟨hM, hone hev, (fun h => ⟨h, rfl⟩), [], rfl, Nat.zero_le _⟩
  rw [e]
  exact ⟨qVs hM (Nat.le_refl _), one_ins (hone hev), (fun h => by cases h), [_], rfl, Nat.le_refl _⟩
 have hR1 : ∀ x ∈ qAa M1.its, 1 ≤ x ∧ x ≤ (rls Es).length := by
  intro x hx
  have hmem : x ∈ seqE (rls Es) false l A.x A.fs ++ qAa M.its := by rw [← hseq]; simp [hx]
  rcases List.mem_append.1 hmem with h | h
  ·have := eA.mem hw hs x h; omega
  exact hR x h
 have hl1 : (seqE (rls Es) false l A'.x A'.fs).length + (qAa M1.its).length = (seqE (rls Es) false l A.x A.fs).length + (qAa M.its).length := by
  rw [← List.length_append, hseq, List.length_append]
 have hml1 : M1.its.length ≤ 1099511627776 := by
  have := qEw (its := M1.its) fun it h => (hM1.1 it h).2
  omega
 refine qO (qM (qN (qL (uM rfl (qO (qM ?_))))))
 cases d with
 | true =>
  have hn := hd.1 rfl
  have hI1 : ItT (rls Es) M1.its := fun it hit => by
   have h1 := hM1.1 it hit
   have h2 := hM1.2.1 it hit
   exact ⟨h1.2, fun _ => h2, fun h => absurd h1.1 h⟩
  have hlen1 : (qAa M1.its ++ seqE (rls Es) true l B.x B.fs).length ≤ 800000000000 := by rw [List.length_append]; omega
  refine zI rfl (qL (uM rfl (uM rfl (uX (qLu hE hB (S := S) hsr eB hM1.1 hI1 hR1 hlen1 hev hll hn) rfl ?_))))
  rintro _ _ ⟨B', M', rfl, hRR, hrow, hit, hne, hgw, rfl⟩
  simp only [uV, uW]
  refine qO ?_
  apply qLt
  ·rfl
  ·(exact Rs.nil)
  ·refine ⟨A', B', M', rfl, ⟨by rw [hrow]; exact hRL, hRR, by rw [hrow, ← List.append_assoc, hseq, List.append_assoc], fun h => ?_, fun hd => ?_, by unfold Shp; rw [if_neg hodd, if_pos hn]; exact hit⟩, rfl⟩
   ·obtain ⟨n1, n2⟩ := hne h
    exact ⟨(hM1.2.2.1 n1).1, (hM1.2.2.1 n1).2, n2⟩
   obtain ⟨a, ha1, ha2⟩ := hM1.2.2.2
   obtain ⟨b, hb1, hb2⟩ := hgw hd
   exact ⟨a, b, by rw [hb1, ha1], ha2, hb2⟩
  exact uI
 | false =>
  have hn : num (l + 1) ≠ 122 := fun h => by have := hd.2 h; cases this
  refine zG rfl (qL (uM rfl (uM rfl (uX (qOr hE hB (S := S) (A := A') hsr eB hM1.1 hR1 hml1 hev hlt hn) rfl ?_))))
  rintro _ _ ⟨B', M', rfl, hRR, hrow, hsh2, rfl⟩
  simp only [uV, uW]
  refine qO ?_
  apply qLt
  ·rfl
  ·(exact Rs.nil)
  ·refine ⟨A', B', M', rfl, ⟨by rw [hrow]; exact hRL, hRR, by rw [hrow, ← List.append_assoc, hseq, List.append_assoc], fun h => ?_, fun _ => ?_, by
    unfold Shp
    rw [if_neg hodd, if_neg hn]
    rcases hsh2 with ⟨rfl, _⟩ | ⟨e, _⟩
    ·exact ⟨hM1.1, hM1.2.1⟩
    rw [e]
    exact ⟨qVr hM1.1 (Nat.le_refl _), one_add hM1.2.1⟩⟩, rfl⟩
   ·rcases hsh2 with ⟨rfl, rfl⟩ | ⟨e, _⟩
    ·exact ⟨(hM1.2.2.1 h).1, (hM1.2.2.1 h).2, rfl⟩
    rw [e] at h; simp at h
   obtain ⟨a, ha1, ha2⟩ := hM1.2.2.2
   rcases hsh2 with ⟨rfl, rfl⟩ | ⟨e, _⟩
   ·exact ⟨a, [], by rw [ha1, List.append_nil], ha2, Nat.zero_le _⟩
   exact ⟨a, [_], by rw [e, ha1], ha2, Nat.le_refl _⟩
  exact uI
end
section
variable {E : Env} {Es : List Ent} {pp tb s most S : Nat}
theorem last_id {L : List Rl} {is : List It} {y : It} : (itsC L (is ++ [y]))[(itsC L is).length]? = some (.int .i64 (y.id : Nat)) ∧ (itsC L (is ++ [y]))[(itsC L is).length + 3]? = some (.int .i64 (y.times : Nat)) := by
 rw [qBw]; exact ⟨ap_0, ap_3⟩
theorem zBg {L : List Rl} {is : List It} {y : It} {t : Nat} : kC (itsC L (is ++ [y])) ((itsC L is).length + 3) [.int .i64 (t : Nat)] = itsC L (is ++ [⟨y.id, y.next, t⟩]) := by
 rw [qBw, qBw, sm_3]
theorem qMa (hE : Seat E) {L : List Rl} {l : List It} {x : It} {p : Option Addr} {c : Nat} (hl : l.length ≤ 1000000000000) (ht : ∀ y ∈ l, y.times + x.times ≤ 9223372036854775807) :
  Ct E 96 [.slice p l.length c, .agg #[.int .i64 (x.id : Nat), .int .i64 (x.next : Nat), .int .u64 (key L x.id : Nat), .int .i64 (x.times : Nat)]] [sl p c 149 4 l.length (itsC L l)] (fun v Q => ∃ p' c', v = .slice p' (qAz l x).length c' ∧ Q = [sl p' c' 149 4 (qAz l x).length (itsC L (qAz l x))]) := by
 rcases List.eq_nil_or_concat l with rfl | ⟨is, y, rfl⟩
 ·refine zR (hE.fn Tryd.func96) rfl rfl rfl (fun R => ?_)
  simp only [qAo, uV, uW]
  refine qN (qL (uU ?_))
  refine qIh rfl (fun b3 => ?_)
  refine uA rfl (qO (qM (qN (qN (qL (uM rfl (uB (uBl rfl) ?_)))))))
  refine uA rfl ?_
  refine qO (qM (qN (qCo (by kernel_rfl) ?_)))
  refine uM rfl (uB (y_gt rfl rfl) ?_)
  refine uM rfl ?_
  refine l_eq 10 (.bool false) rfl (by simp) ?_
  refine zW rfl rfl rfl rfl (zW rfl rfl rfl rfl (zW rfl rfl rfl rfl (zW rfl rfl rfl rfl (zW rfl rfl rfl rfl (zW rfl rfl rfl rfl (zW rfl rfl rfl rfl (zW rfl rfl rfl rfl ?_)))))))
  refine zW rfl rfl rfl rfl ?_
  refine uB (zB rfl rfl) ?_
  refine qO (qM (zG rfl (zF (qM (qN (qL (uM rfl (uB (uG) ?_))))))))
  refine uU ?_
  refine qY (hE.t rfl) (hE.t rfl) rfl rfl rfl (fun b35 => ?_)
  refine uU ?_
  apply zX (hE.t rfl) (hE.t rfl) rfl rfl rfl
  ·exact uK
  ·exact uK
  ·rfl
  ·rfl
  ·omega
  ·omega
  ·(unfold maxLen; omega)
  intro g36 c36 n36 x36 hn36 hx36
  refine uA rfl (qO (qM (kE ?_)))
  obtain rfl : x36 = itsC L [x] := by rw [hx36, qBe]; rfl
  subst hn36
  exact uZ rfl (.tmp rfl .nil) ⟨_, _, rfl, rfl⟩
 rw [List.concat_eq_append] at *
 have hil : (is ++ [y]).length = is.length + 1 := by simp
 have hty := ht y (by simp)
 have hpl := qGm L is
 obtain ⟨f0, f3⟩ := last_id (L := L) (is := is) (y := y)
 refine qAy (p := sl p c 149 4 (is ++ [y]).length (itsC L (is ++ [y]))) uK (fun _ h => qCc h (by omega)) ?_
 rintro ⟨g, rfl⟩
 refine zR (hE.fn Tryd.func96) rfl rfl rfl (fun R => ?_)
 simp only [qAo, uV, uW]
 refine qN (qL (uU ?_))
 refine qIh rfl (fun b3 => ?_)
 refine uA rfl (qO (qM (qN (qN (qL (uM rfl (uB (uBl rfl) ?_)))))))
 refine uA rfl ?_
 refine qO (qM (qN (qCo (by kernel_rfl) ?_)))
 refine uM rfl (uB (y_gt rfl rfl) ?_)
 refine uM rfl ?_
 refine l_eq 10 (.bool true) rfl (by simp) ?_
 refine kT rfl rfl (uM rfl (kT rfl rfl (uM rfl (kT rfl rfl (uB (uAs rfl rfl) ?_)))))
 refine kT rfl rfl (uB (uAi rfl rfl) ?_)
 refine l_eq 14 _ rfl (qEx (L := L) (its := is) hil) ?_
 refine kT rfl rfl (uB (uBf rfl) ?_)
 refine kT rfl rfl (uL ?_)
 refine kT rfl rfl (uB (uBf rfl) ?_)
 refine kT rfl rfl (uL ?_)
 refine kT rfl rfl (uB (y_eq rfl rfl) ?_)
 refine uB (zA rfl rfl) ?_
 refine qO (qM ?_)
 refine zH rfl (fun h => ?_) (fun h => ?_)
 ·have e : qAz (is ++ [y]) x = is ++ [⟨y.id, y.next, y.times + x.times⟩] := by rw [qCy, if_pos (by omega)]
  rw [e]
  refine qN (qCo (by kernel_rfl) ?_)
  refine uM rfl (uM rfl (uB (uAs rfl rfl) ?_))
  refine uB (uAi rfl rfl) ?_
  refine l_eq 24 _ rfl (qEx (L := L) (its := is) hil) ?_
  refine uB (uBf rfl) ?_
  refine uL ?_
  refine uB (uBf rfl) ?_
  refine uL ?_
  refine uB (uAa rfl rfl) ?_
  refine l_eq 29 (.int .i64 ((y.times + x.times : Nat) : Int)) rfl (zZ (by omega)) ?_
  refine uB (uAi rfl rfl) ?_
  refine l_eq 30 _ rfl (qEx (L := L) (its := is) hil) ?_
  refine uB (uBf rfl) ?_
  refine uU (uJ ?_)
  refine qO (qM ?_)
  simp only [zS]
  rw [zBg]
  refine qN (qL (uM rfl (uA rfl (qO (qM (kE (qZ ?_)))))))
  apply kF
  ·rfl
  ·(apply Rs.tmp rfl; exact Rs.nil)
  ·exact ⟨some ⟨g, 0, none⟩, c, by simp; rfl, rfl⟩
  simp only [List.length_append, List.length_singleton]
  exact uI
 have e : qAz (is ++ [y]) x = is ++ [y] ++ [x] := by rw [qCy, if_neg (by omega)]
 rw [e]
 refine zF (qM (qN (qL (uM rfl (uB (uG) ?_)))))
 refine uU ?_
 refine qY (hE.t rfl) (hE.t rfl) rfl rfl rfl (fun b35 => ?_)
 refine uU ?_
 apply zX (hE.t rfl) (hE.t rfl) rfl rfl rfl
 ·exact uK
 ·exact uK
 ·rfl
 ·rfl
 ·omega
 ·omega
 ·(unfold maxLen; omega)
 intro g36 c36 n36 x36 hn36 hx36
 refine uA rfl (qO (qM (kE ?_)))
 obtain rfl : x36 = itsC L (is ++ [y] ++ [x]) := by rw [hx36, qBw _ (is ++ [y])]; rfl
 obtain rfl : n36 = (is ++ [y] ++ [x]).length := by rw [hn36]; simp
 exact uZ rfl (.tmp rfl .nil) ⟨_, _, rfl, rfl⟩
theorem qHv {n m j t : Nat} {l : List It} (hs : Sng l) (ht : 1 ≤ t) (h : Fresh n m (qAa l ++ [j])) : Fresh n m (qAa (qAz l ⟨j, 0, t⟩)) := fun z h1 h2 => by
 rw [qAt hs rfl]
 rcases List.mem_append.1 (h z h1 h2) with h3 | h3
 ·exact List.mem_append_left _ h3
 rw [List.mem_singleton.1 h3]
 exact List.mem_append_right _ (List.mem_replicate.2 ⟨by show t ≠ 0; omega, rfl⟩)
theorem qHu {n m j t : Nat} {l : List It} (hs : Sng l) (h : Fresh n m (qAa l)) : Fresh n m (qAa (qAz l ⟨j, 0, t⟩)) := fun z h1 h2 => by
 rw [qAt hs rfl]
 exact List.mem_append_left _ (h z h1 h2)
theorem qFs {Es M M2 : List Ent} {r : Rl} {i : Nat} {a : List Nat} (h : Fresh Es.length (Es ++ M).length a) (hw : Wf (rls (Es ++ (M ++ M2)))) (hid : (rls (Es ++ (M ++ M2)))[i]? = some r) (hM : M2 = [] ∨ ∃ x : Ent, M2 = [x] ∧ x.r = r) : Fresh Es.length (Es ++ (M ++ M2)).length (a ++ [i + 1]) := by
 rw [← List.append_assoc] at hw hid ⊢
 exact h.more (qJp hw hid hM)
theorem qTm {M2 : List Ent} {r : Rl} (h : M2 = [] ∨ ∃ x : Ent, M2 = [x] ∧ x.r = r) : M2.length ≤ 1 := by
 rcases h with rfl | ⟨x, rfl, _⟩ <;> simp
theorem qGc (hE : Seat E) (hB : Base E.w0) {cs : List Value} {l : List It} {x y t : Nat} {p : Option Addr} {c : Nat} (h0 : cs[0]? = some (uPt pp)) (hl : l.length ≤ 1000000000000) (ht : ∀ i ∈ l, i.times + t ≤ 9223372036854775807) (hids : ∀ i ∈ l, i.id ≤ (rls Es).length)
  (hx : 1 ≤ x ∧ x ≤ (rls Es).length) (hy : 1 ≤ y ∧ y ≤ (rls Es).length) (hlen : len (rls Es) x + len (rls Es) y ≤ kK) (hroom : Es.length < most) :
  Ct E 97 [uPt S, .slice p l.length c, .int .i64 (x : Nat), .int .i64 (y : Nat), .int .i64 (t : Nat)] [cells pp [uPt s, uPt tb] 57, tabP tb s (rls Es), zU s most Es, cells S cs 113, sl p c 149 4 l.length (itsC (rls Es) l)]
   (fun v Q => ∃ M2 j p' c', v = .tuple #[.slice p' (qAz l ⟨j + 1, 0, t⟩).length c', .nilIface] ∧ (M2 = [] ∨ ∃ e : Ent, M2 = [e] ∧ e.r = .pair x y) ∧ (rls (Es ++ M2))[j]? = some (.pair x y) ∧ Q = [cells pp [uPt s, uPt tb] 57, tabP tb s (rls (Es ++ M2)), zU s most (Es ++ M2), cells S cs 113, sl p' c' 149 4 (qAz l ⟨j + 1, 0, t⟩).length (itsC (rls (Es ++ M2)) (qAz l ⟨j + 1, 0, t⟩))]) := by
 obtain ⟨i, rfl⟩ : ∃ i, x = i + 1 := ⟨x - 1, by omega⟩
 obtain ⟨j, rfl⟩ : ∃ i, y = i + 1 := ⟨y - 1, by omega⟩
 have hil : i < Es.length := by have := hx.2; rw [zT] at this; omega
 have hjl : j < Es.length := by have := hy.2; rw [zT] at this; omega
 obtain ⟨ei, hei⟩ : ∃ e, Es[i]? = some e := ⟨_, List.getElem?_eq_getElem hil⟩
 obtain ⟨ej, hej⟩ : ∃ e, Es[j]? = some e := ⟨_, List.getElem?_eq_getElem hjl⟩
 refine qAy (p := zU s most Es) uK (fun _ h => qAb h) (fun hsay => ?_)
 have hlt : ei.t.length + ej.t.length ≤ kK := by rw [hsay.2.1 i ei hei, hsay.2.1 j ej hej]; exact hlen
 refine zR (hE.fn Tryd.func97) rfl rfl rfl (fun R => ?_)
 simp only [qAo, uV, uW]
 refine qN (qL (uA rfl (uA rfl (qO (qM (qN (qL (uM rfl (uB (zD rfl) ?_)))))))))
 refine uB (uBf rfl) ?_
 refine uL ?_
 refine uX (qBb hE) rfl ?_
 rintro _ _ ⟨rfl, rfl⟩
 simp only [uV, uW]
 refine uM rfl (uM rfl (uX (qWl hE hei hej hlt hroom) rfl ?_))
 rintro _ _ ⟨M2, id, rfl, hid, hrl, hM2, rfl⟩
 obtain ⟨q, rfl⟩ : ∃ j, id = j + 1 := ⟨id - 1, by omega⟩
 rw [Nat.add_sub_cancel] at hrl
 have hql : q < (Es ++ M2).length := by have := (List.getElem?_eq_some_iff.1 hrl).1; rwa [zT] at this
 have hie : itsC (rls (Es ++ M2)) l = itsC (rls Es) l := by rw [kJ]; exact qWx _ hids
 simp only [uV, uW]
 refine zBf (kG (p := tabP tb s (rls Es)) (p' := tabP tb s (rls (Es ++ M2))) uK (fun _ h => by rw [kJ Es]; exact qGu _ h)) ?_
 refine uM rfl (uB (qX rfl rfl) (uB (qX rfl rfl) (uA rfl (uA rfl (qO (qM (qN (qN (qL (uM rfl ?_))))))))))
 refine uB (qAk rfl (hE.t rfl)) ?_
 refine qO (qM (zG rfl (zF (qM (qN (qL (uM rfl (uB (zD rfl) ?_))))))))
 refine uB (uBf rfl) ?_
 refine uL ?_
 refine uX (qMq hE) rfl ?_
 rintro _ _ ⟨rfl, rfl⟩
 simp only [uV, uW]
 refine uM rfl (uX (qPa hE hB hql) rfl ?_)
 rintro _ _ ⟨rfl, rfl⟩
 simp only [uV, uW]
 refine uM rfl (uB (qX rfl rfl) (uB (qX rfl rfl) (uA rfl (uA rfl (qO (qM (qN (qN (qL (uM rfl ?_))))))))))
 refine uB (qAk rfl (hE.t rfl)) ?_
 refine qO (qM (zG rfl (zF (qM (qN (qL (uM rfl (uM rfl (uM rfl (uM rfl (uB (qAl (hE.t rfl) rfl rfl) ?_)))))))))))
 rw [← hie]
 refine uX (qMa (x := ⟨q + 1, 0, t⟩) (l := l) (p := p) (c := c) (L := rls (Es ++ M2)) hE hl ht) rfl ?_
 rintro _ _ ⟨p', c', rfl, rfl⟩
 simp only [uV, uW]
 refine uA rfl (uA rfl (qO (qM (kE ?_))))
 exact uZ rfl (.tmp rfl (.tmp rfl .nil)) ⟨M2, q, p', c', rfl, hM2, hrl, rfl⟩
end
end Go.Proofs.YtlleicanafioaaaDoor
