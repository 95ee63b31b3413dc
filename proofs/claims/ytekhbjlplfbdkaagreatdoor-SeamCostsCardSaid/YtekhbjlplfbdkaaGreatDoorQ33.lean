/- Package seam: the splice: gatherRuns. -/
import Derived.Test.YtekhbjlplfbdkaaGreatDoorQ32
set_option linter.unusedVariables false
set_option linter.unusedSimpArgs false
namespace Go.Proofs.YtekhbjlplfbdkaaGreatDoor
open Go Go.RowKit Sl Eg
set_option maxRecDepth 10000
variable {E : Env} {Es : List Ent} {pp tb s most S : Nat}
theorem flatI_insT (x t : Nat) (its : List It) : flatI (⟨x, 0, t⟩ :: its) = List.replicate t x ++ flatI its := by rw [flatI_cons, itF_one]
theorem flatI_addT (x t : Nat) (its : List It) : flatI (its ++ [⟨x, 0, t⟩]) = flatI its ++ List.replicate t x := by rw [flatI_append, flatI_one, itF_one]
theorem rep_head {t x : Nat} (h : 1 ≤ t) (r : List Nat) : (List.replicate t x ++ r).head? = some x := by
  obtain ⟨m, rfl⟩ : ∃ m, t = m + 1 := ⟨t - 1, by omega⟩
  rw [List.replicate_succ]; rfl
theorem rep_tail {t x : Nat} (h : 1 ≤ t) (r : List Nat) : (r ++ List.replicate t x).getLast? = some x := by
  obtain ⟨m, rfl⟩ : ∃ m, t = m + 1 := ⟨t - 1, by omega⟩
  rw [List.replicate_succ', ← List.append_assoc]; simp
theorem run_facts {L : List Rl} (hw : Wf L) {bh : Bool} {l root x : Nat} {fs : List Fm} {o : Option Fm} (hs : Sig L root) (he : EO L bh l root x fs) (hx : x ≠ 0) (hodd : (l + 1) % 2 = 1) (ho : Par L (l + 1) fs o) :
    Drp L (many L o) fs ∧ (cutO L o = false → ∀ f, o = some f → f.hv = wholeR (rlAt L f.id)) := by
  obtain ⟨_, h2, _, _⟩ := he.low hx
  cases o with
  | none => exact ⟨drp_one h2, fun _ f e => by cases e⟩
  | some f =>
    obtain ⟨⟨gs, rfl⟩, hlv⟩ := ho
    obtain ⟨r, l1, l2, l3, l4, l5, l6, ex⟩ := h2.inv
    have er := rlAt_eq l3
    have okf := l1.ok hw hs
    cases r with
    | letter b => exact absurd rfl (l4 b)
    | pair a b => have := (lvl_pair hw l2 l3 okf.2.2.1).1; omega
    | power y n =>
      have em : many L (some f) = f.hv := by simp [many, er]
      refine ⟨?_, fun hc f' e => ?_⟩
      · rw [em]
        exact ⟨l5, fun e => by simp at e, fun g2 f2 e => by obtain ⟨_, rfl⟩ := fm_snoc e; exact ⟨Nat.le_refl _, .inr ⟨_, _, er⟩⟩⟩
      · cases e
        simp only [cutO, er, decide_eq_false_iff_not] at hc
        rw [er]
        omega
theorem sng_ins {x t : Nat} {its : List It} (h : Sng its) (ht : 1 ≤ t) : Sng (⟨x, 0, t⟩ :: its) := fun it hit => by
  rcases List.mem_cons.1 hit with rfl | hit
  · exact ⟨rfl, ht⟩
  · exact h it hit
theorem sng_add {x t : Nat} {its : List It} (h : Sng its) (ht : 1 ≤ t) : Sng (its ++ [⟨x, 0, t⟩]) := fun it hit => by
  rcases List.mem_append.1 hit with hit | hit
  · exact h it hit
  · obtain rfl := List.mem_singleton.1 hit; exact ⟨rfl, ht⟩
theorem EO.mem {L : List Rl} (hw : Wf L) {bh : Bool} {l root x : Nat} {fs : List Fm} (hs : Sig L root) (he : EO L bh l root x fs) : ∀ y ∈ seqE L bh l x fs, 1 ≤ y ∧ y ≤ L.length ∧ lvl L y ≤ (l : Nat) := by
  intro y hy
  by_cases hx : x = 0
  · subst hx
    rw [he.zero, seqE_zero] at hy
    simp at hy
  · obtain ⟨_, h2, _, _⟩ := he.low hx
    have hf := h2.full hw he.hi
    have hm : y ∈ expd L l root := by
      rw [hf]
      cases bh
      · simp only [cat, Bool.false_eq_true, if_false]; exact List.mem_append_left _ (by simpa [seqE, cat] using hy)
      · simp only [cat, if_true]; exact List.mem_append_right _ (by simpa [seqE, cat] using hy)
    have := expd_mem hw root hs.le y hm
    have := hs.le
    omega
def Dk (L : List Rl) : Prop := ∀ x y, 1 ≤ x → x ≤ L.length → 1 ≤ y → y ≤ L.length → key L x = key L y → x = y
def Grw (its its' : List It) : Prop := ∃ a b, its' = a ++ its ++ b ∧ a.length ≤ 1 ∧ b.length ≤ 1
structure GR (L : List Rl) (l rl rr : Nat) (A B : Sd) (M : Md) (A' B' : Sd) (M' : Md) : Prop where
  left : RL L l rl A'.x A'.fs (flatI M'.its ++ seqE L true l B'.x B'.fs)
  right : RR L l rr B'.x B'.fs (flatI M'.its)
  row : seqE L false l A'.x A'.fs ++ (flatI M'.its ++ seqE L true l B'.x B'.fs) = seqE L false l A.x A.fs ++ (flatI M.its ++ seqE L true l B.x B.fs)
  ne : M'.its = [] → M.its = [] ∧ A' = A ∧ B' = B
  grow : Grw M.its M'.its
theorem ct_gatherRuns (hE : Seat E) (hB : Base E.w0) {l rl rr : Nat} {A0 B : Sd} {M0 : Md} (hs : Sig (rls Es) rl) (hsr : Sig (rls Es) rr) (eA0 : EO (rls Es) false l rl A0.x A0.fs) (eB : EO (rls Es) true l rr B.x B.fs) (hM0 : Sng M0.its) (hR0 : ∀ x ∈ flatI M0.its, 1 ≤ x ∧ x ≤ (rls Es).length) (hml0 : M0.its.length ≤ 1000000000000) (hodd : (l + 1) % 2 = 1) (hll : l + 1 < 1099511627776) :
    Ct E 86 [.pointer (some ⟨S, 0, none⟩), .int .i64 ((l + 1 : Nat) : Int)] [cells pp [.pointer (some ⟨s, 0, none⟩), .pointer (some ⟨tb, 0, none⟩)] 59, tabP tb s (rls Es), storeP s most Es, cells S [.pointer (some ⟨pp, 0, none⟩), .pointer (some ⟨pp, 0, none⟩), .bool false, .slice A0.p A0.fs.length A0.c, .int .i64 (A0.x : Nat), .int .u64 (key (rls Es) A0.x : Nat), .pointer (some ⟨pp, 0, none⟩), .bool true, .slice B.p B.fs.length B.c, .int .i64 (B.x : Nat), .int .u64 (key (rls Es) B.x : Nat), .slice M0.p M0.its.length M0.c] 127, sl A0.p A0.c 160 8 A0.fs.length (pathC (rls Es) A0.fs), sl B.p B.c 160 8 B.fs.length (pathC (rls Es) B.fs), sl M0.p M0.c 172 4 M0.its.length (itsC (rls Es) M0.its)]
      (fun v Q => ∃ (A' B' : Sd) (M' : Md), v = .tuple #[] ∧ GR (rls Es) l rl rr A0 B M0 A' B' M' ∧ Sng M'.its ∧ M'.its.length ≤ M0.its.length + 2 ∧ Q = [cells pp [.pointer (some ⟨s, 0, none⟩), .pointer (some ⟨tb, 0, none⟩)] 59, tabP tb s (rls Es), storeP s most Es, cells S [.pointer (some ⟨pp, 0, none⟩), .pointer (some ⟨pp, 0, none⟩), .bool false, .slice A'.p A'.fs.length A'.c, .int .i64 (A'.x : Nat), .int .u64 (key (rls Es) A'.x : Nat), .pointer (some ⟨pp, 0, none⟩), .bool true, .slice B'.p B'.fs.length B'.c, .int .i64 (B'.x : Nat), .int .u64 (key (rls Es) B'.x : Nat), .slice M'.p M'.its.length M'.c] 127, sl A'.p A'.c 160 8 A'.fs.length (pathC (rls Es) A'.fs), sl B'.p B'.c 160 8 B'.fs.length (pathC (rls Es) B'.fs), sl M'.p M'.c 172 4 M'.its.length (itsC (rls Es) M'.its)]) := by
  refine ct_fact (p := storeP s most Es) (by ((repeat constructor); done)) (fun _ h => storeP_says h) (fun hsay => ?_)
  have hw := hsay.1
  have hL : (rls Es).length ≤ 1048576 := by have := hsay.2.2; rw [rls_length]; unfold maxRules at this; omega
  have hl1 : l ≤ 1099511627776 := by omega
  have hov : ∀ {o : Option Fm}, (l + 1) % 2 = 0 → ∀ f : Fm, o = some f → f.hv = 1 := fun h => by omega
  refine fn_enter (hE.fn Tryz.func86) rfl rfl rfl (fun R => ?_)
  simp only [argsL, List.cons_append, List.nil_append]
  refine w_cut (fun q : Sd × Md => [(0, .pointer (some ⟨S, 0, none⟩)), (1, .int .i64 ((l + 1 : Nat) : Int))]) (fun q => [cells pp [.pointer (some ⟨s, 0, none⟩), .pointer (some ⟨tb, 0, none⟩)] 59, tabP tb s (rls Es), storeP s most Es, cells S [.pointer (some ⟨pp, 0, none⟩), .pointer (some ⟨pp, 0, none⟩), .bool false, .slice q.1.p q.1.fs.length q.1.c, .int .i64 (q.1.x : Nat), .int .u64 (key (rls Es) q.1.x : Nat), .pointer (some ⟨pp, 0, none⟩), .bool true, .slice B.p B.fs.length B.c, .int .i64 (B.x : Nat), .int .u64 (key (rls Es) B.x : Nat), .slice q.2.p q.2.its.length q.2.c] 127, sl q.1.p q.1.c 160 8 q.1.fs.length (pathC (rls Es) q.1.fs), sl B.p B.c 160 8 B.fs.length (pathC (rls Es) B.fs), sl q.2.p q.2.c 172 4 q.2.its.length (itsC (rls Es) q.2.its), R]) (fun q => RL (rls Es) l rl q.1.x q.1.fs (flatI q.2.its ++ seqE (rls Es) true l B.x B.fs) ∧ seqE (rls Es) false l q.1.x q.1.fs ++ flatI q.2.its = seqE (rls Es) false l A0.x A0.fs ++ flatI M0.its ∧ Sng q.2.its ∧ q.2.its.length ≤ M0.its.length + 1 ∧ (q.2.its = [] → M0.its = [] ∧ q.1 = A0) ∧ ∃ a, q.2.its = a ++ M0.its ∧ a.length ≤ 1) ?_ ?_
  · skip
    obtain ⟨A, hA⟩ : ∃ A, A = A0 := ⟨_, rfl⟩
    obtain ⟨M, hMM⟩ : ∃ M, M = M0 := ⟨_, rfl⟩
    subst hA hMM
    have eA := eA0
    have hM := hM0
    have hml : M.its.length ≤ 1099511627776 := by omega
    have hfl := eA.pl hw hL hs
    have hpl := itsC_plain (rls Es) M.its
    obtain ⟨hf0, hf1⟩ := fst_head (L := rls Es) eB (fun it h => (hM it h).2) hR0
    refine w_seq (wR ?_)
    refine lY (yM rfl) rfl ?_
    apply lL (by kernel_rfl) rfl
    apply ld_call (ct_first hE) rfl (hE.f (by kernel_rfl))
    · ((repeat constructor); done)
    rintro _ _ ⟨rfl, rfl⟩
    simp only [List.cons_append, List.nil_append]
    refine lY (yM rfl) rfl ?_
    refine lY (y_extract rfl rfl) rfl ?_
    refine lY (y_extract rfl rfl) rfl ?_
    refine lY (yA rfl) rfl ?_
    refine lY (yA rfl) rfl ?_
    refine l_nil (aT (w_seq (wR ?_)))
    refine lY (yM rfl) rfl ?_
    refine lY (y_nilCheck rfl) rfl ?_
    refine lY (yF rfl (hE.t rfl) rfl) rfl ?_
    refine lY (yF rfl (hE.t rfl) rfl) rfl ?_
    apply lY
    · (apply y_load rfl (hE.t rfl) rfl; (repeat (first | rfl | assumption | constructor)); done)
    · rfl
    refine lY (y_ne rfl rfl) rfl ?_
    refine l_nil (aT ?_)
    refine w_cond_d rfl (fun h0 => ?_) (fun h0 => ?_)
    · skip
      have hx : A.x ≠ 0 := by omega
      obtain ⟨k1, k2, k3, k4⟩ := eA.low hx
      refine w_seq (wR ?_)
      refine lY (yM rfl) rfl ?_
      refine lY (y_nilCheck rfl) rfl ?_
      refine lY (yF rfl (hE.t rfl) rfl) rfl ?_
      refine lY (yM rfl) rfl ?_
      apply lL (by kernel_rfl) rfl
      apply ld_call (ct_run hE (b := S) (pre := [.pointer (some ⟨pp, 0, none⟩)]) (suf := [.pointer (some ⟨pp, 0, none⟩), .bool true, .slice B.p B.fs.length B.c, .int .i64 (B.x : Nat), .int .u64 (key (rls Es) B.x : Nat), .slice M.p M.its.length M.c]) (fs := A.fs) hw hL hs eA hx hodd) rfl (hE.f (by kernel_rfl))
      · ((repeat constructor); done)
      rintro _ _ ⟨⟨o, ho, rfl⟩, rfl⟩
      simp only [List.cons_append, List.nil_append]
      have hrf := run_facts hw hs eA hx hodd ho
      refine lY (yM rfl) rfl ?_
      refine lY (y_extract rfl rfl) rfl ?_
      refine lY (y_extract rfl rfl) rfl ?_
      refine lY (yA rfl) rfl ?_
      refine lY (yA rfl) rfl ?_
      refine l_nil (aT (w_seq (wR ?_)))
      refine lY (yM rfl) rfl ?_
      refine lY (yM rfl) rfl ?_
      refine l_splitb 32 rfl (fun h3 => ?_) (fun h3 => ?_)
      · skip
        refine l_off rfl rfl rfl rfl (l_off rfl rfl rfl rfl (l_off rfl rfl rfl rfl (l_off rfl rfl rfl rfl (l_off rfl rfl rfl rfl (l_off rfl rfl rfl rfl (l_off rfl rfl rfl rfl ?_))))))
        apply lY
        · (first | exact y_pick_t rfl rfl | exact y_pick_f rfl rfl)
        · rfl
        refine l_nil (aT ?_)
        refine w_cond_t rfl ?_
        skip
        refine w_seq ?_
        refine w_until 21 ([cells S [.pointer (some ⟨pp, 0, none⟩), .pointer (some ⟨pp, 0, none⟩), .bool false, .slice A.p A.fs.length A.c, .int .i64 (A.x : Nat), .int .u64 (key (rls Es) A.x : Nat), .pointer (some ⟨pp, 0, none⟩), .bool true, .slice B.p B.fs.length B.c, .int .i64 (B.x : Nat), .int .u64 (key (rls Es) B.x : Nat), .slice M.p M.its.length M.c] 127]) ?_ ?_
        · (apply ent; (repeat constructor); done)
        apply m_take 0 rfl
        · exact yM rfl
        · with_reducible (repeat (first | exact cB | apply cT | apply cK))
        · kernel_rfl
        · rfl
        apply m_take 1 rfl
        · exact yM rfl
        · with_reducible (repeat (first | exact cB | apply cT | apply cK))
        · kernel_rfl
        · rfl
        apply m_take 2 rfl
        · exact y_nilCheck rfl
        · with_reducible (repeat (first | exact cB | apply cT | apply cK))
        · kernel_rfl
        · rfl
        apply m_take 3 rfl
        · exact yF rfl (hE.t rfl) rfl
        · with_reducible (repeat (first | exact cB | apply cT | apply cK))
        · kernel_rfl
        · rfl
        apply m_take 4 rfl
        · (apply y_load rfl (hE.t rfl) rfl; (repeat (first | rfl | assumption | constructor)); done)
        · with_reducible (repeat (first | exact cB | apply cT | apply cK))
        · kernel_rfl
        · rfl
        apply m_take 5 rfl
        · exact yM rfl
        · with_reducible (repeat (first | exact cB | apply cT | apply cK))
        · kernel_rfl
        · rfl
        apply m_take 6 rfl
        · exact y_nilCheck rfl
        · with_reducible (repeat (first | exact cB | apply cT | apply cK))
        · kernel_rfl
        · rfl
        apply m_take 7 rfl
        · exact yF rfl (hE.t rfl) rfl
        · with_reducible (repeat (first | exact cB | apply cT | apply cK))
        · kernel_rfl
        · rfl
        apply m_take 8 rfl
        · exact yF rfl (hE.t rfl) rfl
        · with_reducible (repeat (first | exact cB | apply cT | apply cK))
        · kernel_rfl
        · rfl
        apply m_take 9 rfl
        · (apply y_load rfl (hE.t rfl) rfl; (repeat (first | rfl | assumption | constructor)); done)
        · with_reducible (repeat (first | exact cB | apply cT | apply cK))
        · kernel_rfl
        · rfl
        apply m_take 10 rfl
        · exact yM rfl
        · with_reducible (repeat (first | exact cB | apply cT | apply cK))
        · kernel_rfl
        · rfl
        apply m_take 11 rfl
        · exact y_nilCheck rfl
        · with_reducible (repeat (first | exact cB | apply cT | apply cK))
        · kernel_rfl
        · rfl
        apply m_take 12 rfl
        · exact yF rfl (hE.t rfl) rfl
        · with_reducible (repeat (first | exact cB | apply cT | apply cK))
        · kernel_rfl
        · rfl
        apply m_take 13 rfl
        · exact yF rfl (hE.t rfl) rfl
        · with_reducible (repeat (first | exact cB | apply cT | apply cK))
        · kernel_rfl
        · rfl
        apply m_take 14 rfl
        · (apply y_load rfl (hE.t rfl) rfl; (repeat (first | rfl | assumption | constructor)); done)
        · with_reducible (repeat (first | exact cB | apply cT | apply cK))
        · kernel_rfl
        · rfl
        apply m_one 15 rfl (by kernel_rfl)
        · exact yM rfl
        · rfl
        apply m_one 16 rfl (by kernel_rfl)
        · (first | exact y_build (hE.t rfl) rfl rfl | exact y_buildA (hE.t rfl) rfl rfl)
        · rfl
        apply m_loud 17 rfl (by kernel_rfl) rfl
        refine ld_buildSlice (hE.t rfl) (hE.t rfl) rfl rfl rfl (fun b58 => ?_)
        refine ⟨by (apply ent; (repeat constructor); done), ?_⟩
        apply m_loud 18 rfl (by kernel_rfl) rfl
        apply ld_call (ct_Insert hE hml hpl (a1 := (A.x : Nat)) (a2 := 0) (a3 := (key (rls Es) A.x : Nat)) (a4 := (many (rls Es) o : Nat))) rfl (hE.f (by kernel_rfl))
        · ((repeat constructor); done)
        rintro _ _ ⟨g', c', rfl, rfl⟩
        simp only [List.cons_append, List.nil_append]
        have ei : (.int .i64 (A.x : Nat) :: .int .i64 0 :: .int .u64 (key (rls Es) A.x : Nat) :: .int .i64 (many (rls Es) o : Nat) :: itsC (rls Es) M.its : List Value) = itsC (rls Es) (⟨A.x, 0, many (rls Es) o⟩ :: M.its) := by rw [itsC_cons]; rfl
        rw [ei]
        refine ⟨by (apply ent; (repeat constructor); done), ?_⟩
        apply m_one 19 rfl (by kernel_rfl)
        · exact y_nilCheck rfl
        · rfl
        apply m_one 20 rfl (by kernel_rfl)
        · exact yF rfl (hE.t rfl) rfl
        · rfl
        apply m_last rfl (by kernel_rfl) (by kernel_rfl) rfl
        (first | (apply ld_store rfl rfl (hE.t rfl) rfl; (focus ((repeat constructor); done)); (focus rfl); (focus (exact Nat.le_of_ble_eq_true rfl))) | (apply ld_store_sl rfl rfl (hE.t rfl) rfl; (focus ((repeat constructor); done)); (focus rfl); (focus (first | omega | (simp only [cellsL, length_setMany, List.length_cons, List.length_nil]; omega)))))
        refine aT ?_
        refine wR ?_
        refine lY (yM rfl) rfl ?_
        refine lY (y_nilCheck rfl) rfl ?_
        refine lY (yF rfl (hE.t rfl) rfl) rfl ?_
        refine lY (yM rfl) rfl ?_
        refine lY (yM rfl) rfl ?_
        refine lY (y_sub rfl rfl (by omega) (by omega)) rfl ?_
        refine l_eq 67 (.int .i64 (l : Nat)) rfl (int_eq (by omega)) ?_
        have hdr := ct_drop_ (pp := pp) (tb := tb) (s := s) (most := most) hE hB (b := S) (bt := 127) (p := A.p) (c := A.c) (k := key (rls Es) A.x) (pre := [.pointer (some ⟨pp, 0, none⟩)]) (suf := [.pointer (some ⟨pp, 0, none⟩), .bool true, .slice B.p B.fs.length B.c, .int .i64 (B.x : Nat), .int .u64 (key (rls Es) B.x : Nat), .slice (⟨⟨A.x, 0, many (rls Es) o⟩ :: M.its, some ⟨g', 0, none⟩, c'⟩ : Md).p (⟨⟨A.x, 0, many (rls Es) o⟩ :: M.its, some ⟨g', 0, none⟩, c'⟩ : Md).its.length (⟨⟨A.x, 0, many (rls Es) o⟩ :: M.its, some ⟨g', 0, none⟩, c'⟩ : Md).c]) hs k2 hrf.1 hl1
        apply lL (by kernel_rfl) rfl
        apply ld_call (hdr) rfl (hE.f (by kernel_rfl))
        · ((repeat constructor); done)
        rintro _ _ ⟨x', gs', p', c'', rfl, q1, rfl⟩
        simp only [List.cons_append, List.nil_append]
        refine l_nil ?_
        have hmv := mvd hw hs eA hx ho rfl hov q1
        refine a_cut (ι := Sd × Md) (⟨x', gs', p', c''⟩, ⟨⟨A.x, 0, many (rls Es) o⟩ :: M.its, some ⟨g', 0, none⟩, c'⟩) ⟨rl_move hmv (by rw [flatI_insT, List.append_assoc]; exact rep_head hrf.1.1 _), ?_, sng_ins hM hrf.1.1, by simp only [List.length_cons]; omega, (fun h => by cases h), [⟨A.x, 0, many (rls Es) o⟩], rfl, Nat.le_refl _⟩ ⟨rfl, rfl, trivial⟩ ?_
        · rw [hmv.seq, flatI_insT]
          simp [cat]
        · (apply ent; (repeat constructor); done)
      · skip
        refine l_on rfl rfl ?_
        refine lY (yM rfl) rfl ?_
        refine l_on rfl rfl ?_
        refine lY (y_nilCheck rfl) rfl ?_
        refine l_on rfl rfl ?_
        refine lY (yF rfl (hE.t rfl) rfl) rfl ?_
        refine l_on rfl rfl ?_
        refine lY (yF rfl (hE.t rfl) rfl) rfl ?_
        refine l_on rfl rfl ?_
        apply lY
        · (apply y_load rfl (hE.t rfl) rfl; (repeat (first | rfl | assumption | constructor)); done)
        · rfl
        refine l_on rfl rfl ?_
        refine lY (yM rfl) rfl ?_
        refine l_on rfl rfl ?_
        refine lY (y_eq rfl rfl) rfl ?_
        apply lY
        · (first | exact y_pick_t rfl rfl | exact y_pick_f rfl rfl)
        · rfl
        refine l_nil (aT ?_)
        refine w_cond_d rfl (fun h4 => ?_) (fun h4 => ?_)
        · skip
          skip
          refine w_seq ?_
          refine w_until 21 ([cells S [.pointer (some ⟨pp, 0, none⟩), .pointer (some ⟨pp, 0, none⟩), .bool false, .slice A.p A.fs.length A.c, .int .i64 (A.x : Nat), .int .u64 (key (rls Es) A.x : Nat), .pointer (some ⟨pp, 0, none⟩), .bool true, .slice B.p B.fs.length B.c, .int .i64 (B.x : Nat), .int .u64 (key (rls Es) B.x : Nat), .slice M.p M.its.length M.c] 127]) ?_ ?_
          · (apply ent; (repeat constructor); done)
          apply m_take 0 rfl
          · exact yM rfl
          · with_reducible (repeat (first | exact cB | apply cT | apply cK))
          · kernel_rfl
          · rfl
          apply m_take 1 rfl
          · exact yM rfl
          · with_reducible (repeat (first | exact cB | apply cT | apply cK))
          · kernel_rfl
          · rfl
          apply m_take 2 rfl
          · exact y_nilCheck rfl
          · with_reducible (repeat (first | exact cB | apply cT | apply cK))
          · kernel_rfl
          · rfl
          apply m_take 3 rfl
          · exact yF rfl (hE.t rfl) rfl
          · with_reducible (repeat (first | exact cB | apply cT | apply cK))
          · kernel_rfl
          · rfl
          apply m_take 4 rfl
          · (apply y_load rfl (hE.t rfl) rfl; (repeat (first | rfl | assumption | constructor)); done)
          · with_reducible (repeat (first | exact cB | apply cT | apply cK))
          · kernel_rfl
          · rfl
          apply m_take 5 rfl
          · exact yM rfl
          · with_reducible (repeat (first | exact cB | apply cT | apply cK))
          · kernel_rfl
          · rfl
          apply m_take 6 rfl
          · exact y_nilCheck rfl
          · with_reducible (repeat (first | exact cB | apply cT | apply cK))
          · kernel_rfl
          · rfl
          apply m_take 7 rfl
          · exact yF rfl (hE.t rfl) rfl
          · with_reducible (repeat (first | exact cB | apply cT | apply cK))
          · kernel_rfl
          · rfl
          apply m_take 8 rfl
          · exact yF rfl (hE.t rfl) rfl
          · with_reducible (repeat (first | exact cB | apply cT | apply cK))
          · kernel_rfl
          · rfl
          apply m_take 9 rfl
          · (apply y_load rfl (hE.t rfl) rfl; (repeat (first | rfl | assumption | constructor)); done)
          · with_reducible (repeat (first | exact cB | apply cT | apply cK))
          · kernel_rfl
          · rfl
          apply m_take 10 rfl
          · exact yM rfl
          · with_reducible (repeat (first | exact cB | apply cT | apply cK))
          · kernel_rfl
          · rfl
          apply m_take 11 rfl
          · exact y_nilCheck rfl
          · with_reducible (repeat (first | exact cB | apply cT | apply cK))
          · kernel_rfl
          · rfl
          apply m_take 12 rfl
          · exact yF rfl (hE.t rfl) rfl
          · with_reducible (repeat (first | exact cB | apply cT | apply cK))
          · kernel_rfl
          · rfl
          apply m_take 13 rfl
          · exact yF rfl (hE.t rfl) rfl
          · with_reducible (repeat (first | exact cB | apply cT | apply cK))
          · kernel_rfl
          · rfl
          apply m_take 14 rfl
          · (apply y_load rfl (hE.t rfl) rfl; (repeat (first | rfl | assumption | constructor)); done)
          · with_reducible (repeat (first | exact cB | apply cT | apply cK))
          · kernel_rfl
          · rfl
          apply m_one 15 rfl (by kernel_rfl)
          · exact yM rfl
          · rfl
          apply m_one 16 rfl (by kernel_rfl)
          · (first | exact y_build (hE.t rfl) rfl rfl | exact y_buildA (hE.t rfl) rfl rfl)
          · rfl
          apply m_loud 17 rfl (by kernel_rfl) rfl
          refine ld_buildSlice (hE.t rfl) (hE.t rfl) rfl rfl rfl (fun b58 => ?_)
          refine ⟨by (apply ent; (repeat constructor); done), ?_⟩
          apply m_loud 18 rfl (by kernel_rfl) rfl
          apply ld_call (ct_Insert hE hml hpl (a1 := (A.x : Nat)) (a2 := 0) (a3 := (key (rls Es) A.x : Nat)) (a4 := (many (rls Es) o : Nat))) rfl (hE.f (by kernel_rfl))
          · ((repeat constructor); done)
          rintro _ _ ⟨g', c', rfl, rfl⟩
          simp only [List.cons_append, List.nil_append]
          have ei : (.int .i64 (A.x : Nat) :: .int .i64 0 :: .int .u64 (key (rls Es) A.x : Nat) :: .int .i64 (many (rls Es) o : Nat) :: itsC (rls Es) M.its : List Value) = itsC (rls Es) (⟨A.x, 0, many (rls Es) o⟩ :: M.its) := by rw [itsC_cons]; rfl
          rw [ei]
          refine ⟨by (apply ent; (repeat constructor); done), ?_⟩
          apply m_one 19 rfl (by kernel_rfl)
          · exact y_nilCheck rfl
          · rfl
          apply m_one 20 rfl (by kernel_rfl)
          · exact yF rfl (hE.t rfl) rfl
          · rfl
          apply m_last rfl (by kernel_rfl) (by kernel_rfl) rfl
          (first | (apply ld_store rfl rfl (hE.t rfl) rfl; (focus ((repeat constructor); done)); (focus rfl); (focus (exact Nat.le_of_ble_eq_true rfl))) | (apply ld_store_sl rfl rfl (hE.t rfl) rfl; (focus ((repeat constructor); done)); (focus rfl); (focus (first | omega | (simp only [cellsL, length_setMany, List.length_cons, List.length_nil]; omega)))))
          refine aT ?_
          refine wR ?_
          refine lY (yM rfl) rfl ?_
          refine lY (y_nilCheck rfl) rfl ?_
          refine lY (yF rfl (hE.t rfl) rfl) rfl ?_
          refine lY (yM rfl) rfl ?_
          refine lY (yM rfl) rfl ?_
          refine lY (y_sub rfl rfl (by omega) (by omega)) rfl ?_
          refine l_eq 67 (.int .i64 (l : Nat)) rfl (int_eq (by omega)) ?_
          have hdr := ct_drop_ (pp := pp) (tb := tb) (s := s) (most := most) hE hB (b := S) (bt := 127) (p := A.p) (c := A.c) (k := key (rls Es) A.x) (pre := [.pointer (some ⟨pp, 0, none⟩)]) (suf := [.pointer (some ⟨pp, 0, none⟩), .bool true, .slice B.p B.fs.length B.c, .int .i64 (B.x : Nat), .int .u64 (key (rls Es) B.x : Nat), .slice (⟨⟨A.x, 0, many (rls Es) o⟩ :: M.its, some ⟨g', 0, none⟩, c'⟩ : Md).p (⟨⟨A.x, 0, many (rls Es) o⟩ :: M.its, some ⟨g', 0, none⟩, c'⟩ : Md).its.length (⟨⟨A.x, 0, many (rls Es) o⟩ :: M.its, some ⟨g', 0, none⟩, c'⟩ : Md).c]) hs k2 hrf.1 hl1
          apply lL (by kernel_rfl) rfl
          apply ld_call (hdr) rfl (hE.f (by kernel_rfl))
          · ((repeat constructor); done)
          rintro _ _ ⟨x', gs', p', c'', rfl, q1, rfl⟩
          simp only [List.cons_append, List.nil_append]
          refine l_nil ?_
          have hmv := mvd hw hs eA hx ho rfl hov q1
          refine a_cut (ι := Sd × Md) (⟨x', gs', p', c''⟩, ⟨⟨A.x, 0, many (rls Es) o⟩ :: M.its, some ⟨g', 0, none⟩, c'⟩) ⟨rl_move hmv (by rw [flatI_insT, List.append_assoc]; exact rep_head hrf.1.1 _), ?_, sng_ins hM hrf.1.1, by simp only [List.length_cons]; omega, (fun h => by cases h), [⟨A.x, 0, many (rls Es) o⟩], rfl, Nat.le_refl _⟩ ⟨rfl, rfl, trivial⟩ ?_
          · rw [hmv.seq, flatI_insT]
            simp [cat]
          · (apply ent; (repeat constructor); done)
        · skip
          refine w_skip ?_
          refine a_cut (ι := Sd × Md) (A, M) ⟨rl_odd hw hs eA hx ho (hrf.2 h3) hodd (fun v hv e => ?_), rfl, hM, Nat.le_succ _, (fun h => ⟨h, rfl⟩), [], rfl, Nat.zero_le _⟩ ⟨rfl, rfl, trivial⟩ ?_
          · by_cases hz : fstS B M = 0
            · rw [hf0 hz] at hv; cases hv
            · rw [hf1 hz] at hv
              have e2 := Option.some.inj hv
              rw [← e] at e2
              apply h4
              rw [e2]
          · (apply ent; (repeat constructor); done)
    · skip
      have hx0 : A.x = 0 := by omega
      refine w_skip ?_
      refine a_cut (ι := Sd × Md) (A, M) ⟨?_, rfl, hM, Nat.le_succ _, (fun h => ⟨h, rfl⟩), [], rfl, Nat.zero_le _⟩ ⟨rfl, rfl, trivial⟩ ?_
      · have := rl_zero (L := rls Es) (l := l) (root := rl) (fs := A.fs) (Z := flatI M.its ++ seqE (rls Es) true l B.x B.fs) (by rw [← hx0]; exact eA)
        rwa [← hx0] at this
      · (apply ent; (repeat constructor); done)
  rintro ⟨A, M⟩ ⟨hRL, hseq, hM, hml1, hne, ga, hga, hgal⟩
  simp only at hRL hseq hM hml1 hne hga hgal ⊢
  have hml : M.its.length ≤ 1099511627776 := by omega
  have hfl := eB.pl hw hL hsr
  have hR : ∀ x ∈ flatI M.its, 1 ≤ x := by
    intro x hx
    have hmem : x ∈ seqE (rls Es) false l A0.x A0.fs ++ flatI M0.its := by rw [← hseq]; simp [hx]
    rcases List.mem_append.1 hmem with h | h
    · exact (eA0.mem hw hs x h).1
    · exact (hR0 x h).1
  have hfin : ∀ (v : Value) (B' : Sd) (M' : Md), RR (rls Es) l rr B'.x B'.fs (flatI M'.its) → flatI M'.its ++ seqE (rls Es) true l B'.x B'.fs = flatI M.its ++ seqE (rls Es) true l B.x B.fs → Sng M'.its → M'.its.length ≤ M.its.length + 1 → (M'.its = [] → M.its = [] ∧ B' = B) → (∃ b, M'.its = M.its ++ b ∧ b.length ≤ 1) → v = .tuple #[] →
      ∃ (A' B'' : Sd) (M'' : Md), v = .tuple #[] ∧ GR (rls Es) l rl rr A0 B M0 A' B'' M'' ∧ Sng M''.its ∧ M''.its.length ≤ M0.its.length + 2 ∧ [cells pp [.pointer (some ⟨s, 0, none⟩), .pointer (some ⟨tb, 0, none⟩)] 59, tabP tb s (rls Es), storeP s most Es, cells S [.pointer (some ⟨pp, 0, none⟩), .pointer (some ⟨pp, 0, none⟩), .bool false, .slice A.p A.fs.length A.c, .int .i64 (A.x : Nat), .int .u64 (key (rls Es) A.x : Nat), .pointer (some ⟨pp, 0, none⟩), .bool true, .slice B'.p B'.fs.length B'.c, .int .i64 (B'.x : Nat), .int .u64 (key (rls Es) B'.x : Nat), .slice M'.p M'.its.length M'.c] 127, sl A.p A.c 160 8 A.fs.length (pathC (rls Es) A.fs), sl B'.p B'.c 160 8 B'.fs.length (pathC (rls Es) B'.fs), sl M'.p M'.c 172 4 M'.its.length (itsC (rls Es) M'.its)] = [cells pp [.pointer (some ⟨s, 0, none⟩), .pointer (some ⟨tb, 0, none⟩)] 59, tabP tb s (rls Es), storeP s most Es, cells S [.pointer (some ⟨pp, 0, none⟩), .pointer (some ⟨pp, 0, none⟩), .bool false, .slice A'.p A'.fs.length A'.c, .int .i64 (A'.x : Nat), .int .u64 (key (rls Es) A'.x : Nat), .pointer (some ⟨pp, 0, none⟩), .bool true, .slice B''.p B''.fs.length B''.c, .int .i64 (B''.x : Nat), .int .u64 (key (rls Es) B''.x : Nat), .slice M''.p M''.its.length M''.c] 127, sl A'.p A'.c 160 8 A'.fs.length (pathC (rls Es) A'.fs), sl B''.p B''.c 160 8 B''.fs.length (pathC (rls Es) B''.fs), sl M''.p M''.c 172 4 M''.its.length (itsC (rls Es) M''.its)] := by
    intro v B' M' h1 h2 h3 h4 h5 ⟨gb, hgb, hgbl⟩ h6
    refine ⟨A, B', M', h6, ⟨by rw [h2]; exact hRL, h1, ?_, fun h => ?_, ga, gb, by rw [hgb, hga], hgal, hgbl⟩, h3, by omega, rfl⟩
    · rw [h2, ← List.append_assoc, hseq, List.append_assoc]
    · obtain ⟨q1, q2⟩ := h5 h
      exact ⟨(hne q1).1, (hne q1).2, q2⟩
  skip
  refine w_seq (wR ?_)
  refine lY (yM rfl) rfl ?_
  apply lL (by kernel_rfl) rfl
  apply ld_call (ct_last hE hml) rfl (hE.f (by kernel_rfl))
  · ((repeat constructor); done)
  rintro _ _ ⟨rfl, rfl⟩
  simp only [List.cons_append, List.nil_append]
  have hlst := lst_last (L := rls Es) (l := l) (rl := rr) (A := A) hM
  refine lY (yM rfl) rfl ?_
  refine lY (y_extract rfl rfl) rfl ?_
  refine lY (y_extract rfl rfl) rfl ?_
  refine lY (yA rfl) rfl ?_
  refine lY (yA rfl) rfl ?_
  refine l_nil (aT (w_seq (wR ?_)))
  refine lY (yM rfl) rfl ?_
  refine lY (y_nilCheck rfl) rfl ?_
  refine lY (yF rfl (hE.t rfl) rfl) rfl ?_
  refine lY (yF rfl (hE.t rfl) rfl) rfl ?_
  apply lY
  · (apply y_load rfl (hE.t rfl) rfl; (repeat (first | rfl | assumption | constructor)); done)
  · rfl
  refine lY (y_ne rfl rfl) rfl ?_
  refine l_nil (aT ?_)
  refine w_cond_d rfl (fun h0 => ?_) (fun h0 => ?_)
  · skip
    have hx : B.x ≠ 0 := by omega
    obtain ⟨k1, k2, k3, k4⟩ := eB.low hx
    refine w_seq (wR ?_)
    refine lY (yM rfl) rfl ?_
    refine lY (y_nilCheck rfl) rfl ?_
    refine lY (yF rfl (hE.t rfl) rfl) rfl ?_
    refine lY (yM rfl) rfl ?_
    apply lL (by kernel_rfl) rfl
    apply ld_call (ct_run hE (b := S) (pre := [.pointer (some ⟨pp, 0, none⟩), .pointer (some ⟨pp, 0, none⟩), .bool false, .slice A.p A.fs.length A.c, .int .i64 (A.x : Nat), .int .u64 (key (rls Es) A.x : Nat)]) (suf := [.slice M.p M.its.length M.c]) (fs := B.fs) hw hL hsr eB hx hodd) rfl (hE.f (by kernel_rfl))
    · ((repeat constructor); done)
    rintro _ _ ⟨⟨o, ho, rfl⟩, rfl⟩
    simp only [List.cons_append, List.nil_append]
    have hrf := run_facts hw hsr eB hx hodd ho
    refine lY (yM rfl) rfl ?_
    refine lY (y_extract rfl rfl) rfl ?_
    refine lY (y_extract rfl rfl) rfl ?_
    refine lY (yA rfl) rfl ?_
    refine lY (yA rfl) rfl ?_
    refine l_nil (aT (w_seq (wR ?_)))
    refine lY (yM rfl) rfl ?_
    refine lY (yM rfl) rfl ?_
    refine l_splitb 89 rfl (fun h3 => ?_) (fun h3 => ?_)
    · skip
      refine l_off rfl rfl rfl rfl (l_off rfl rfl rfl rfl (l_off rfl rfl rfl rfl (l_off rfl rfl rfl rfl (l_off rfl rfl rfl rfl (l_off rfl rfl rfl rfl (l_off rfl rfl rfl rfl ?_))))))
      apply lY
      · (first | exact y_pick_t rfl rfl | exact y_pick_f rfl rfl)
      · rfl
      refine l_nil (aT ?_)
      refine w_cond_t rfl ?_
      skip
      refine w_seq ?_
      refine w_until 21 ([cells S [.pointer (some ⟨pp, 0, none⟩), .pointer (some ⟨pp, 0, none⟩), .bool false, .slice A.p A.fs.length A.c, .int .i64 (A.x : Nat), .int .u64 (key (rls Es) A.x : Nat), .pointer (some ⟨pp, 0, none⟩), .bool true, .slice B.p B.fs.length B.c, .int .i64 (B.x : Nat), .int .u64 (key (rls Es) B.x : Nat), .slice M.p M.its.length M.c] 127]) ?_ ?_
      · (apply ent; (repeat constructor); done)
      apply m_take 0 rfl
      · exact yM rfl
      · with_reducible (repeat (first | exact cB | apply cT | apply cK))
      · kernel_rfl
      · rfl
      apply m_take 1 rfl
      · exact yM rfl
      · with_reducible (repeat (first | exact cB | apply cT | apply cK))
      · kernel_rfl
      · rfl
      apply m_take 2 rfl
      · exact y_nilCheck rfl
      · with_reducible (repeat (first | exact cB | apply cT | apply cK))
      · kernel_rfl
      · rfl
      apply m_take 3 rfl
      · exact yF rfl (hE.t rfl) rfl
      · with_reducible (repeat (first | exact cB | apply cT | apply cK))
      · kernel_rfl
      · rfl
      apply m_take 4 rfl
      · (apply y_load rfl (hE.t rfl) rfl; (repeat (first | rfl | assumption | constructor)); done)
      · with_reducible (repeat (first | exact cB | apply cT | apply cK))
      · kernel_rfl
      · rfl
      apply m_take 5 rfl
      · exact yM rfl
      · with_reducible (repeat (first | exact cB | apply cT | apply cK))
      · kernel_rfl
      · rfl
      apply m_take 6 rfl
      · exact y_nilCheck rfl
      · with_reducible (repeat (first | exact cB | apply cT | apply cK))
      · kernel_rfl
      · rfl
      apply m_take 7 rfl
      · exact yF rfl (hE.t rfl) rfl
      · with_reducible (repeat (first | exact cB | apply cT | apply cK))
      · kernel_rfl
      · rfl
      apply m_take 8 rfl
      · exact yF rfl (hE.t rfl) rfl
      · with_reducible (repeat (first | exact cB | apply cT | apply cK))
      · kernel_rfl
      · rfl
      apply m_take 9 rfl
      · (apply y_load rfl (hE.t rfl) rfl; (repeat (first | rfl | assumption | constructor)); done)
      · with_reducible (repeat (first | exact cB | apply cT | apply cK))
      · kernel_rfl
      · rfl
      apply m_take 10 rfl
      · exact yM rfl
      · with_reducible (repeat (first | exact cB | apply cT | apply cK))
      · kernel_rfl
      · rfl
      apply m_take 11 rfl
      · exact y_nilCheck rfl
      · with_reducible (repeat (first | exact cB | apply cT | apply cK))
      · kernel_rfl
      · rfl
      apply m_take 12 rfl
      · exact yF rfl (hE.t rfl) rfl
      · with_reducible (repeat (first | exact cB | apply cT | apply cK))
      · kernel_rfl
      · rfl
      apply m_take 13 rfl
      · exact yF rfl (hE.t rfl) rfl
      · with_reducible (repeat (first | exact cB | apply cT | apply cK))
      · kernel_rfl
      · rfl
      apply m_take 14 rfl
      · (apply y_load rfl (hE.t rfl) rfl; (repeat (first | rfl | assumption | constructor)); done)
      · with_reducible (repeat (first | exact cB | apply cT | apply cK))
      · kernel_rfl
      · rfl
      apply m_one 15 rfl (by kernel_rfl)
      · exact yM rfl
      · rfl
      apply m_one 16 rfl (by kernel_rfl)
      · (first | exact y_build (hE.t rfl) rfl rfl | exact y_buildA (hE.t rfl) rfl rfl)
      · rfl
      apply m_loud 17 rfl (by kernel_rfl) rfl
      refine ld_buildSlice (hE.t rfl) (hE.t rfl) rfl rfl rfl (fun b115 => ?_)
      refine ⟨by (apply ent; (repeat constructor); done), ?_⟩
      apply m_loud 18 rfl (by kernel_rfl) rfl
      apply ld_append (hE.t rfl) (hE.t rfl) rfl rfl rfl
      · ((repeat constructor); done)
      · ((repeat constructor); done)
      · rfl
      · rfl
      · omega
      · omega
      · (unfold maxLen; omega)
      intro g116 c116 n116 x116 hn116 hx116
      refine ⟨by (apply ent; (repeat constructor); done), ?_⟩
      apply m_one 19 rfl (by kernel_rfl)
      · exact y_nilCheck rfl
      · rfl
      apply m_one 20 rfl (by kernel_rfl)
      · exact yF rfl (hE.t rfl) rfl
      · rfl
      apply m_last rfl (by kernel_rfl) (by kernel_rfl) rfl
      (first | (apply ld_store rfl rfl (hE.t rfl) rfl; (focus ((repeat constructor); done)); (focus rfl); (focus (exact Nat.le_of_ble_eq_true rfl))) | (apply ld_store_sl rfl rfl (hE.t rfl) rfl; (focus ((repeat constructor); done)); (focus rfl); (focus (first | omega | (simp only [cellsL, length_setMany, List.length_cons, List.length_nil]; omega)))))
      refine aT ?_
      obtain rfl : x116 = itsC (rls Es) (M.its ++ [⟨B.x, 0, many (rls Es) o⟩]) := by rw [hx116, itsC_snoc]; rfl
      subst hn116
      refine wR ?_
      refine lY (yM rfl) rfl ?_
      refine lY (y_nilCheck rfl) rfl ?_
      refine lY (yF rfl (hE.t rfl) rfl) rfl ?_
      refine lY (yM rfl) rfl ?_
      refine lY (yM rfl) rfl ?_
      refine lY (y_sub rfl rfl (by omega) (by omega)) rfl ?_
      refine l_eq 124 (.int .i64 (l : Nat)) rfl (int_eq (by omega)) ?_
      have hdr := ct_drop_ (pp := pp) (tb := tb) (s := s) (most := most) hE hB (b := S) (bt := 127) (p := B.p) (c := B.c) (k := key (rls Es) B.x) (pre := [.pointer (some ⟨pp, 0, none⟩), .pointer (some ⟨pp, 0, none⟩), .bool false, .slice A.p A.fs.length A.c, .int .i64 (A.x : Nat), .int .u64 (key (rls Es) A.x : Nat)]) (suf := [.slice (⟨M.its ++ [⟨B.x, 0, many (rls Es) o⟩], some ⟨g116, 0, none⟩, c116⟩ : Md).p (⟨M.its ++ [⟨B.x, 0, many (rls Es) o⟩], some ⟨g116, 0, none⟩, c116⟩ : Md).its.length (⟨M.its ++ [⟨B.x, 0, many (rls Es) o⟩], some ⟨g116, 0, none⟩, c116⟩ : Md).c]) hsr k2 hrf.1 hl1
      simp only [List.length_append, List.length_singleton] at hdr
      apply lL (by kernel_rfl) rfl
      apply ld_call (hdr) rfl (hE.f (by kernel_rfl))
      · ((repeat constructor); done)
      rintro _ _ ⟨x', gs', p', c'', rfl, q1, rfl⟩
      simp only [List.cons_append, List.nil_append]
      refine l_nil ?_
      have hmv := mvd hw hsr eB hx ho rfl hov q1
      apply a_end
      · rfl
      · (exact Rs.nil)
      · refine hfin _ ⟨x', gs', p', c''⟩ ⟨M.its ++ [⟨B.x, 0, many (rls Es) o⟩], some ⟨g116, 0, none⟩, c116⟩ (rr_move hmv (.inr (.inl hodd)) (by rw [flatI_addT]; exact rep_tail hrf.1.1 _)) ?_ (sng_add hM hrf.1.1) (by simp only [List.length_append, List.length_singleton]; omega) (fun h => by simp at h) ⟨_, rfl, Nat.le_refl _⟩ rfl
        rw [hmv.seq, flatI_addT]
        simp [cat]
      · simp only [List.length_append, List.length_singleton]
        (apply ent; (repeat constructor); done)
    · skip
      refine l_on rfl rfl ?_
      refine lY (yM rfl) rfl ?_
      refine l_on rfl rfl ?_
      refine lY (y_nilCheck rfl) rfl ?_
      refine l_on rfl rfl ?_
      refine lY (yF rfl (hE.t rfl) rfl) rfl ?_
      refine l_on rfl rfl ?_
      refine lY (yF rfl (hE.t rfl) rfl) rfl ?_
      refine l_on rfl rfl ?_
      apply lY
      · (apply y_load rfl (hE.t rfl) rfl; (repeat (first | rfl | assumption | constructor)); done)
      · rfl
      refine l_on rfl rfl ?_
      refine lY (yM rfl) rfl ?_
      refine l_on rfl rfl ?_
      refine lY (y_eq rfl rfl) rfl ?_
      apply lY
      · (first | exact y_pick_t rfl rfl | exact y_pick_f rfl rfl)
      · rfl
      refine l_nil (aT ?_)
      refine w_cond_d rfl (fun h4 => ?_) (fun h4 => ?_)
      · skip
        skip
        refine w_seq ?_
        refine w_until 21 ([cells S [.pointer (some ⟨pp, 0, none⟩), .pointer (some ⟨pp, 0, none⟩), .bool false, .slice A.p A.fs.length A.c, .int .i64 (A.x : Nat), .int .u64 (key (rls Es) A.x : Nat), .pointer (some ⟨pp, 0, none⟩), .bool true, .slice B.p B.fs.length B.c, .int .i64 (B.x : Nat), .int .u64 (key (rls Es) B.x : Nat), .slice M.p M.its.length M.c] 127]) ?_ ?_
        · (apply ent; (repeat constructor); done)
        apply m_take 0 rfl
        · exact yM rfl
        · with_reducible (repeat (first | exact cB | apply cT | apply cK))
        · kernel_rfl
        · rfl
        apply m_take 1 rfl
        · exact yM rfl
        · with_reducible (repeat (first | exact cB | apply cT | apply cK))
        · kernel_rfl
        · rfl
        apply m_take 2 rfl
        · exact y_nilCheck rfl
        · with_reducible (repeat (first | exact cB | apply cT | apply cK))
        · kernel_rfl
        · rfl
        apply m_take 3 rfl
        · exact yF rfl (hE.t rfl) rfl
        · with_reducible (repeat (first | exact cB | apply cT | apply cK))
        · kernel_rfl
        · rfl
        apply m_take 4 rfl
        · (apply y_load rfl (hE.t rfl) rfl; (repeat (first | rfl | assumption | constructor)); done)
        · with_reducible (repeat (first | exact cB | apply cT | apply cK))
        · kernel_rfl
        · rfl
        apply m_take 5 rfl
        · exact yM rfl
        · with_reducible (repeat (first | exact cB | apply cT | apply cK))
        · kernel_rfl
        · rfl
        apply m_take 6 rfl
        · exact y_nilCheck rfl
        · with_reducible (repeat (first | exact cB | apply cT | apply cK))
        · kernel_rfl
        · rfl
        apply m_take 7 rfl
        · exact yF rfl (hE.t rfl) rfl
        · with_reducible (repeat (first | exact cB | apply cT | apply cK))
        · kernel_rfl
        · rfl
        apply m_take 8 rfl
        · exact yF rfl (hE.t rfl) rfl
        · with_reducible (repeat (first | exact cB | apply cT | apply cK))
        · kernel_rfl
        · rfl
        apply m_take 9 rfl
        · (apply y_load rfl (hE.t rfl) rfl; (repeat (first | rfl | assumption | constructor)); done)
        · with_reducible (repeat (first | exact cB | apply cT | apply cK))
        · kernel_rfl
        · rfl
        apply m_take 10 rfl
        · exact yM rfl
        · with_reducible (repeat (first | exact cB | apply cT | apply cK))
        · kernel_rfl
        · rfl
        apply m_take 11 rfl
        · exact y_nilCheck rfl
        · with_reducible (repeat (first | exact cB | apply cT | apply cK))
        · kernel_rfl
        · rfl
        apply m_take 12 rfl
        · exact yF rfl (hE.t rfl) rfl
        · with_reducible (repeat (first | exact cB | apply cT | apply cK))
        · kernel_rfl
        · rfl
        apply m_take 13 rfl
        · exact yF rfl (hE.t rfl) rfl
        · with_reducible (repeat (first | exact cB | apply cT | apply cK))
        · kernel_rfl
        · rfl
        apply m_take 14 rfl
        · (apply y_load rfl (hE.t rfl) rfl; (repeat (first | rfl | assumption | constructor)); done)
        · with_reducible (repeat (first | exact cB | apply cT | apply cK))
        · kernel_rfl
        · rfl
        apply m_one 15 rfl (by kernel_rfl)
        · exact yM rfl
        · rfl
        apply m_one 16 rfl (by kernel_rfl)
        · (first | exact y_build (hE.t rfl) rfl rfl | exact y_buildA (hE.t rfl) rfl rfl)
        · rfl
        apply m_loud 17 rfl (by kernel_rfl) rfl
        refine ld_buildSlice (hE.t rfl) (hE.t rfl) rfl rfl rfl (fun b115 => ?_)
        refine ⟨by (apply ent; (repeat constructor); done), ?_⟩
        apply m_loud 18 rfl (by kernel_rfl) rfl
        apply ld_append (hE.t rfl) (hE.t rfl) rfl rfl rfl
        · ((repeat constructor); done)
        · ((repeat constructor); done)
        · rfl
        · rfl
        · omega
        · omega
        · (unfold maxLen; omega)
        intro g116 c116 n116 x116 hn116 hx116
        refine ⟨by (apply ent; (repeat constructor); done), ?_⟩
        apply m_one 19 rfl (by kernel_rfl)
        · exact y_nilCheck rfl
        · rfl
        apply m_one 20 rfl (by kernel_rfl)
        · exact yF rfl (hE.t rfl) rfl
        · rfl
        apply m_last rfl (by kernel_rfl) (by kernel_rfl) rfl
        (first | (apply ld_store rfl rfl (hE.t rfl) rfl; (focus ((repeat constructor); done)); (focus rfl); (focus (exact Nat.le_of_ble_eq_true rfl))) | (apply ld_store_sl rfl rfl (hE.t rfl) rfl; (focus ((repeat constructor); done)); (focus rfl); (focus (first | omega | (simp only [cellsL, length_setMany, List.length_cons, List.length_nil]; omega)))))
        refine aT ?_
        obtain rfl : x116 = itsC (rls Es) (M.its ++ [⟨B.x, 0, many (rls Es) o⟩]) := by rw [hx116, itsC_snoc]; rfl
        subst hn116
        refine wR ?_
        refine lY (yM rfl) rfl ?_
        refine lY (y_nilCheck rfl) rfl ?_
        refine lY (yF rfl (hE.t rfl) rfl) rfl ?_
        refine lY (yM rfl) rfl ?_
        refine lY (yM rfl) rfl ?_
        refine lY (y_sub rfl rfl (by omega) (by omega)) rfl ?_
        refine l_eq 124 (.int .i64 (l : Nat)) rfl (int_eq (by omega)) ?_
        have hdr := ct_drop_ (pp := pp) (tb := tb) (s := s) (most := most) hE hB (b := S) (bt := 127) (p := B.p) (c := B.c) (k := key (rls Es) B.x) (pre := [.pointer (some ⟨pp, 0, none⟩), .pointer (some ⟨pp, 0, none⟩), .bool false, .slice A.p A.fs.length A.c, .int .i64 (A.x : Nat), .int .u64 (key (rls Es) A.x : Nat)]) (suf := [.slice (⟨M.its ++ [⟨B.x, 0, many (rls Es) o⟩], some ⟨g116, 0, none⟩, c116⟩ : Md).p (⟨M.its ++ [⟨B.x, 0, many (rls Es) o⟩], some ⟨g116, 0, none⟩, c116⟩ : Md).its.length (⟨M.its ++ [⟨B.x, 0, many (rls Es) o⟩], some ⟨g116, 0, none⟩, c116⟩ : Md).c]) hsr k2 hrf.1 hl1
        simp only [List.length_append, List.length_singleton] at hdr
        apply lL (by kernel_rfl) rfl
        apply ld_call (hdr) rfl (hE.f (by kernel_rfl))
        · ((repeat constructor); done)
        rintro _ _ ⟨x', gs', p', c'', rfl, q1, rfl⟩
        simp only [List.cons_append, List.nil_append]
        refine l_nil ?_
        have hmv := mvd hw hsr eB hx ho rfl hov q1
        apply a_end
        · rfl
        · (exact Rs.nil)
        · refine hfin _ ⟨x', gs', p', c''⟩ ⟨M.its ++ [⟨B.x, 0, many (rls Es) o⟩], some ⟨g116, 0, none⟩, c116⟩ (rr_move hmv (.inr (.inl hodd)) (by rw [flatI_addT]; exact rep_tail hrf.1.1 _)) ?_ (sng_add hM hrf.1.1) (by simp only [List.length_append, List.length_singleton]; omega) (fun h => by simp at h) ⟨_, rfl, Nat.le_refl _⟩ rfl
          rw [hmv.seq, flatI_addT]
          simp [cat]
        · simp only [List.length_append, List.length_singleton]
          (apply ent; (repeat constructor); done)
      · skip
        refine w_skip ?_
        apply a_end
        · rfl
        · (exact Rs.nil)
        · refine hfin _ B M (rr_odd hw hsr eB hx ho (hrf.2 h3) hodd (fun u hu e => ?_)) rfl hM (by omega) (fun h => ⟨h, rfl⟩) ⟨[], by simp, by simp⟩ rfl
          have := hlst u hu
          omega
        · (apply ent; (repeat constructor); done)
  · skip
    have hx0 : B.x = 0 := by omega
    refine w_skip ?_
    apply a_end
    · rfl
    · (exact Rs.nil)
    · refine hfin _ B M ?_ rfl hM (by omega) (fun h => ⟨h, rfl⟩) ⟨[], by simp, by simp⟩ rfl
      have := rr_zero (L := rls Es) (l := l) (root := rr) (fs := B.fs) (M := flatI M.its) (by rw [← hx0]; exact eB)
      rwa [← hx0] at this
    · (apply ent; (repeat constructor); done)
end Go.Proofs.YtekhbjlplfbdkaaGreatDoor
namespace Go.Proofs.YtekhbjlplfbdkaaGreatDoor
open Go Go.RowKit Sl Eg
set_option maxRecDepth 10000
variable {E : Env} {Es : List Ent} {pp tb s most S : Nat}
def ItT (L : List Rl) (its : List It) : Prop := ∀ it ∈ its, 1 ≤ it.times ∧ (it.next = 0 → it.times = 1) ∧ (it.next ≠ 0 → key L it.next = key L it.id)
theorem its_len {its : List It} (h : ∀ it ∈ its, 1 ≤ it.times) : its.length ≤ (flatI its).length := by
  induction its with
  | nil => exact Nat.le_refl _
  | cons it its ih =>
    have h1 := ih fun i hi => h i (by simp [hi])
    have h2 := itF_head (h it (by simp))
    have h3 : 1 ≤ (itF it).length := by
      cases e : itF it with
      | nil => rw [e] at h2; simp at h2
      | cons a b => simp
    rw [flatI_cons, List.length_append, List.length_cons]
    omega
theorem fits_tie {c x y : Nat} (h : c = 122) : fitsAt c x y ↔ x = y := by unfold fitsAt; rw [if_pos h]
theorem itt_add {L : List Rl} {its : List It} {it : It} (h : ItT L its) (h1 : 1 ≤ it.times ∧ (it.next = 0 → it.times = 1) ∧ (it.next ≠ 0 → key L it.next = key L it.id)) : ItT L (its ++ [it]) := fun i hi => by
  rcases List.mem_append.1 hi with hi | hi
  · exact h i hi
  · obtain rfl := List.mem_singleton.1 hi; exact h1
theorem pair_last {a b t : Nat} (h : 1 ≤ t) (hb : b ≠ 0) (r : List Nat) : (r ++ itF ⟨a, b, t⟩).getLast? = some b := by
  obtain ⟨m, rfl⟩ : ∃ m, t = m + 1 := ⟨t - 1, by omega⟩
  unfold itF
  simp only [if_neg hb]
  rw [List.replicate_succ', List.flatten_append, ← List.append_assoc]
  simp
theorem EO.ids {L : List Rl} (hw : Wf L) {bh : Bool} {l root x : Nat} {fs : List Fm} (hs : Sig L root) (h : EO L bh l root x fs) : x ≤ L.length ∧ ∀ f ∈ fs, 1 ≤ f.id ∧ f.id ≤ L.length := by
  rcases h.lk with ⟨rfl, rfl⟩ | ⟨h1, h2, h3⟩
  · simp
  · have ok := h2.ok hw hs
    exact ⟨ok.2.1, fun f hf => ⟨(ok.2.2.2 f hf).1, (ok.2.2.2 f hf).2.1⟩⟩
theorem EO.adj {L : List Rl} (hw : Wf L) {l root x a : Nat} {fs : List Fm} {r : List Nat} (hs : Sig L root) (he : EO L true l root x fs) (hx : x ≠ 0) (hev : (l + 1) % 2 = 0) (h : seqE L true l x fs = a :: a :: r) : False := by
  obtain ⟨_, h2, _, _⟩ := he.low hx
  have hf := h2.full hw he.hi
  have hin := hs.inv (l + 1) (by omega)
  have e : expd L l root = cutS L true l fs ++ seqE L true l x fs := by rw [hf]; rfl
  rw [Nat.add_sub_cancel, e, h] at hin
  have := (hin.same (cutS L true l fs).length a (by rw [List.getElem?_append_right (Nat.le_refl _), Nat.sub_self]; rfl) (by rw [List.getElem?_append_right (by omega), Nat.add_sub_cancel_left]; rfl)).1
  omega
structure StrG where
  B : Sd
  M : Md
structure StrI (L : List Rl) (l rr k0 : Nat) (B0 : Sd) (M0 : Md) (y : StrG) : Prop where
  eo : EO L true l rr y.B.x y.B.fs
  itt : ItT L y.M.its
  row : flatI y.M.its ++ seqE L true l y.B.x y.B.fs = flatI M0.its ++ seqE L true l B0.x B0.fs
  bb : (y.B = B0 ∧ y.M = M0) ∨ (BB L (l + 1) y.B.fs ∧ y.M.its ≠ [] ∧ ∀ u, (flatI y.M.its).getLast? = some u → key L u = k0)
  grow : Dk L → ∃ d, y.M.its = M0.its ++ d ∧ d.length ≤ 1 ∧ (d ≠ [] → y.B.x ≠ B0.x)
theorem path_rule {L : List Rl} {gs : List Fm} {f : Fm} : (pathC L (gs ++ [f]))[(pathC L gs).length + 3]? = some (.int .i64 (Rl.left (rlAt L f.id) : Nat)) ∧ (pathC L (gs ++ [f]))[(pathC L gs).length + 4]? = some (.int .i64 (Rl.right (rlAt L f.id) : Nat)) := by
  rw [pathC_snoc]; exact ⟨ap_3, ap_4⟩
theorem items_key {L : List Rl} {is : List It} {it : It} : (itsC L (is ++ [it]))[(itsC L is).length + 2]? = some (.int .u64 (key L it.id : Nat)) := by rw [itsC_snoc]; exact ap_2
theorem ct_gatherStretch (hE : Seat E) (hB : Base E.w0) {l rr : Nat} {A B0 : Sd} {M0 : Md} (hs : Sig (rls Es) rr) (eB0 : EO (rls Es) true l rr B0.x B0.fs) (hM0 : Sng M0.its) (hI0 : ItT (rls Es) M0.its) (hR : ∀ x ∈ flatI M0.its, 1 ≤ x ∧ x ≤ (rls Es).length) (hlen : (flatI M0.its ++ seqE (rls Es) true l B0.x B0.fs).length ≤ 1000000000) (hev : (l + 1) % 2 = 0) (hll : l + 1 < 1000000000000) (hn : num (l + 1) = 122) :
    Ct E 89 [.pointer (some ⟨S, 0, none⟩), .int .i64 ((l + 1 : Nat) : Int)] [cells pp [.pointer (some ⟨s, 0, none⟩), .pointer (some ⟨tb, 0, none⟩)] 59, tabP tb s (rls Es), storeP s most Es, cells S [.pointer (some ⟨pp, 0, none⟩), .pointer (some ⟨pp, 0, none⟩), .bool false, .slice A.p A.fs.length A.c, .int .i64 (A.x : Nat), .int .u64 (key (rls Es) A.x : Nat), .pointer (some ⟨pp, 0, none⟩), .bool true, .slice B0.p B0.fs.length B0.c, .int .i64 (B0.x : Nat), .int .u64 (key (rls Es) B0.x : Nat), .slice M0.p M0.its.length M0.c] 127, sl A.p A.c 160 8 A.fs.length (pathC (rls Es) A.fs), sl B0.p B0.c 160 8 B0.fs.length (pathC (rls Es) B0.fs), sl M0.p M0.c 172 4 M0.its.length (itsC (rls Es) M0.its)]
      (fun v Q => ∃ (B' : Sd) (M' : Md), v = .tuple #[] ∧ RR (rls Es) l rr B'.x B'.fs (flatI M'.its) ∧ flatI M'.its ++ seqE (rls Es) true l B'.x B'.fs = flatI M0.its ++ seqE (rls Es) true l B0.x B0.fs ∧ ItT (rls Es) M'.its ∧ (M'.its = [] → M0.its = [] ∧ B' = B0) ∧ (Dk (rls Es) → ∃ b, M'.its = M0.its ++ b ∧ b.length ≤ 1) ∧ Q = [cells pp [.pointer (some ⟨s, 0, none⟩), .pointer (some ⟨tb, 0, none⟩)] 59, tabP tb s (rls Es), storeP s most Es, cells S [.pointer (some ⟨pp, 0, none⟩), .pointer (some ⟨pp, 0, none⟩), .bool false, .slice A.p A.fs.length A.c, .int .i64 (A.x : Nat), .int .u64 (key (rls Es) A.x : Nat), .pointer (some ⟨pp, 0, none⟩), .bool true, .slice B'.p B'.fs.length B'.c, .int .i64 (B'.x : Nat), .int .u64 (key (rls Es) B'.x : Nat), .slice M'.p M'.its.length M'.c] 127, sl A.p A.c 160 8 A.fs.length (pathC (rls Es) A.fs), sl B'.p B'.c 160 8 B'.fs.length (pathC (rls Es) B'.fs), sl M'.p M'.c 172 4 M'.its.length (itsC (rls Es) M'.its)]) := by
  refine ct_fact (p := storeP s most Es) (by ((repeat constructor); done)) (fun _ h => storeP_says h) (fun hsay => ?_)
  have hw := hsay.1
  have hL : (rls Es).length ≤ 1048576 := by have := hsay.2.2; rw [rls_length]; unfold maxRules at this; omega
  have hfl0 := eB0.pl hw hL hs
  have hl1 : l ≤ 1099511627776 := by omega
  have hml0 : M0.its.length ≤ 1000000000 := by
    have := its_len (its := M0.its) fun it h => (hI0 it h).1
    rw [List.length_append] at hlen
    omega
  have same : RR (rls Es) l rr B0.x B0.fs (flatI M0.its) → ∃ (B' : Sd) (M' : Md), Value.tuple #[] = .tuple #[] ∧ RR (rls Es) l rr B'.x B'.fs (flatI M'.its) ∧ flatI M'.its ++ seqE (rls Es) true l B'.x B'.fs = flatI M0.its ++ seqE (rls Es) true l B0.x B0.fs ∧ ItT (rls Es) M'.its ∧ (M'.its = [] → M0.its = [] ∧ B' = B0) ∧ (Dk (rls Es) → ∃ b, M'.its = M0.its ++ b ∧ b.length ≤ 1) ∧ [cells pp [.pointer (some ⟨s, 0, none⟩), .pointer (some ⟨tb, 0, none⟩)] 59, tabP tb s (rls Es), storeP s most Es, cells S [.pointer (some ⟨pp, 0, none⟩), .pointer (some ⟨pp, 0, none⟩), .bool false, .slice A.p A.fs.length A.c, .int .i64 (A.x : Nat), .int .u64 (key (rls Es) A.x : Nat), .pointer (some ⟨pp, 0, none⟩), .bool true, .slice B0.p B0.fs.length B0.c, .int .i64 (B0.x : Nat), .int .u64 (key (rls Es) B0.x : Nat), .slice M0.p M0.its.length M0.c] 127, sl A.p A.c 160 8 A.fs.length (pathC (rls Es) A.fs), sl B0.p B0.c 160 8 B0.fs.length (pathC (rls Es) B0.fs), sl M0.p M0.c 172 4 M0.its.length (itsC (rls Es) M0.its)] = [cells pp [.pointer (some ⟨s, 0, none⟩), .pointer (some ⟨tb, 0, none⟩)] 59, tabP tb s (rls Es), storeP s most Es, cells S [.pointer (some ⟨pp, 0, none⟩), .pointer (some ⟨pp, 0, none⟩), .bool false, .slice A.p A.fs.length A.c, .int .i64 (A.x : Nat), .int .u64 (key (rls Es) A.x : Nat), .pointer (some ⟨pp, 0, none⟩), .bool true, .slice B'.p B'.fs.length B'.c, .int .i64 (B'.x : Nat), .int .u64 (key (rls Es) B'.x : Nat), .slice M'.p M'.its.length M'.c] 127, sl A.p A.c 160 8 A.fs.length (pathC (rls Es) A.fs), sl B'.p B'.c 160 8 B'.fs.length (pathC (rls Es) B'.fs), sl M'.p M'.c 172 4 M'.its.length (itsC (rls Es) M'.its)] := fun h => ⟨B0, M0, rfl, h, rfl, hI0, (fun h => ⟨h, rfl⟩), (fun _ => ⟨[], by simp, by simp⟩), rfl⟩
  refine fn_enter (hE.fn Tryz.func89) rfl rfl rfl (fun R => ?_)
  simp only [argsL, List.cons_append, List.nil_append]
  refine w_seq (w_seq (wR ?_))
  refine lY (yM rfl) rfl ?_
  refine lY (y_nilCheck rfl) rfl ?_
  refine lY (yF rfl (hE.t rfl) rfl) rfl ?_
  refine lY (yF rfl (hE.t rfl) rfl) rfl ?_
  apply lY
  · (apply y_load rfl (hE.t rfl) rfl; (repeat (first | rfl | assumption | constructor)); done)
  · rfl
  refine lY (y_eq rfl rfl) rfl ?_
  refine l_nil (aT ?_)
  refine w_cond_d rfl (fun h0 => ?_) (fun h0 => ?_)
  · skip
    have hx0 : B0.x = 0 := by omega
    refine w_ret (a_then_ret ?_)
    apply a_ret
    · rfl
    · (exact Rs.nil)
    · refine same ?_
      have := rr_zero (L := rls Es) (l := l) (root := rr) (fs := B0.fs) (M := flatI M0.its) (by rw [← hx0]; exact eB0)
      rwa [← hx0] at this
    · (apply ent; (repeat constructor); done)
  skip
  have hx0 : B0.x ≠ 0 := by omega
  refine w_skip (aT (w_seq (wR ?_)))
  refine lY (yM rfl) rfl ?_
  refine lY (y_nilCheck rfl) rfl ?_
  refine lY (yF rfl (hE.t rfl) rfl) rfl ?_
  refine lY (yF rfl (hE.t rfl) rfl) rfl ?_
  apply lY
  · (apply y_load rfl (hE.t rfl) rfl; (repeat (first | rfl | assumption | constructor)); done)
  · rfl
  refine lY (yA rfl) rfl ?_
  refine l_nil (aT ?_)
  refine w_cut (fun q : Nat => [(0, .pointer (some ⟨S, 0, none⟩)), (1, .int .i64 ((l + 1 : Nat) : Int)), (4, .int .u64 (key (rls Es) B0.x : Nat))]) (fun q => [cells pp [.pointer (some ⟨s, 0, none⟩), .pointer (some ⟨tb, 0, none⟩)] 59, tabP tb s (rls Es), storeP s most Es, cells S [.pointer (some ⟨pp, 0, none⟩), .pointer (some ⟨pp, 0, none⟩), .bool false, .slice A.p A.fs.length A.c, .int .i64 (A.x : Nat), .int .u64 (key (rls Es) A.x : Nat), .pointer (some ⟨pp, 0, none⟩), .bool true, .slice B0.p B0.fs.length B0.c, .int .i64 (B0.x : Nat), .int .u64 (key (rls Es) B0.x : Nat), .slice M0.p M0.its.length M0.c] 127, sl A.p A.c 160 8 A.fs.length (pathC (rls Es) A.fs), sl B0.p B0.c 160 8 B0.fs.length (pathC (rls Es) B0.fs), sl M0.p M0.c 172 4 M0.its.length (itsC (rls Es) M0.its), R]) (fun q => True) ?_ ?_
  · skip
    refine w_seq (wR ?_)
    refine lY (yM rfl) rfl ?_
    refine lY (y_nilCheck rfl) rfl ?_
    refine lY (yF rfl (hE.t rfl) rfl) rfl ?_
    refine lY (yM rfl) rfl ?_
    apply lL (by kernel_rfl) rfl
    apply ld_call (ct_parent hE (b := S) (pre := [.pointer (some ⟨pp, 0, none⟩), .pointer (some ⟨pp, 0, none⟩), .bool false, .slice A.p A.fs.length A.c, .int .i64 (A.x : Nat), .int .u64 (key (rls Es) A.x : Nat)]) (suf := [.slice M0.p M0.its.length M0.c]) (fs := B0.fs) hfl0) rfl (hE.f (by kernel_rfl))
    · ((repeat constructor); done)
    rintro v _ ⟨⟨o, ho, hv⟩, rfl⟩
    simp only [List.cons_append, List.nil_append]
    refine lY (yA rfl) rfl ?_
    refine l_nil (aT ?_)
    have early : (∀ f, o = some f → f.hv = 2) → (∀ u, (flatI M0.its).getLast? = some u → key (rls Es) u ≠ key (rls Es) B0.x) → RR (rls Es) l rr B0.x B0.fs (flatI M0.its) := fun h1 h2 => rr_even hw hs eB0 hx0 ho h1 hev fun u hu hf => h2 u hu ((fits_tie hn).1 hf)
    have hlast : ∀ is it u, M0.its = is ++ [it] → (flatI M0.its).getLast? = some u → u = it.id := fun is it u e hu => by
      have h1 := lst_last (L := rls Es) (l := l) (rl := rr) (A := A) hM0 u hu
      rw [← h1]
      simp [lstS, e]
    cases o with
    | none =>
      obtain rfl : v = .pointer none := hv
      skip
      refine w_seq (wR ?_)
      refine lY (yM rfl) rfl ?_
      apply lY
      · (first | exact y_eq_ptr rfl (hE.t rfl) | exact y_eq_nil rfl (hE.t rfl))
      · rfl
      refine lY (yM rfl) rfl ?_
      skip
      refine l_off rfl rfl rfl rfl (l_off rfl rfl rfl rfl (l_off rfl rfl rfl rfl (l_off rfl rfl rfl rfl (l_off rfl rfl rfl rfl ?_))))
      apply lY
      · (first | exact y_pick_t rfl rfl | exact y_pick_f rfl rfl)
      · rfl
      refine l_nil (aT ?_)
      refine w_cond_t rfl ?_
      have h22 : ∀ f', (none : Option Fm) = some f' → f'.hv = 2 := fun f' e => by cases e
      refine w_seq (wR ?_)
      refine lY (yM rfl) rfl ?_
      refine lY (y_nilCheck rfl) rfl ?_
      refine lY (yF rfl (hE.t rfl) rfl) rfl ?_
      apply lY
      · (apply y_load rfl (hE.t rfl) rfl; (repeat (first | rfl | assumption | constructor)); done)
      · rfl
      refine lY (y_len_slice rfl (hE.t rfl)) rfl ?_
      refine lY (yA rfl) rfl ?_
      refine l_nil (aT (w_seq (wR ?_)))
      refine lY (yM rfl) rfl ?_
      refine lY (y_eq rfl rfl) rfl ?_
      refine lY (yM rfl) rfl ?_
      refine l_split 42 rfl (fun h4 => ?_) (fun h4 => ?_)
      · skip
        have hm0 : M0.its = [] := List.eq_nil_of_length_eq_zero (by omega)
        refine l_off rfl rfl rfl rfl (l_off rfl rfl rfl rfl (l_off rfl rfl rfl rfl (l_off rfl rfl rfl rfl (l_off rfl rfl rfl rfl (l_off rfl rfl rfl rfl (l_off rfl rfl rfl rfl (l_off rfl rfl rfl rfl ?_)))))))
        refine l_off rfl rfl rfl rfl (l_off rfl rfl rfl rfl (l_off rfl rfl rfl rfl ?_))
        apply lY
        · (first | exact y_pick_t rfl rfl | exact y_pick_f rfl rfl)
        · rfl
        refine l_nil (aT ?_)
        refine w_cond_t rfl ?_
        refine w_ret (a_then_ret ?_)
        apply a_ret
        · rfl
        · (exact Rs.nil)
        · refine same (early h22 fun u hu => ?_)
          rw [hm0] at hu
          simp [flatI] at hu
        · (apply ent; (repeat constructor); done)
      · skip
        obtain ⟨is, it, hmi⟩ : ∃ is it, M0.its = is ++ [it] := by
          rcases List.eq_nil_or_concat M0.its with h | ⟨is, it, h⟩
          · rw [h] at h4; simp at h4
          · exact ⟨is, it, by rw [h, List.concat_eq_append]⟩
        have hil : M0.its.length = is.length + 1 := by rw [hmi]; simp
        refine l_say (p := sl M0.p M0.c 172 4 M0.its.length (itsC (rls Es) M0.its)) (by ((repeat constructor); done)) (fun _ h => sl_form h (by omega)) ?_
        rintro ⟨gm, hpm⟩
        have f2 : (itsC (rls Es) M0.its)[(itsC (rls Es) is).length + 2]? = some (.int .u64 (key (rls Es) it.id : Nat)) := by rw [hmi]; exact items_key
        rw [hpm]
        refine l_on rfl rfl ?_
        refine lY (yM rfl) rfl ?_
        refine l_on rfl rfl ?_
        refine lY (y_nilCheck rfl) rfl ?_
        refine l_on rfl rfl ?_
        refine lY (yF rfl (hE.t rfl) rfl) rfl ?_
        refine l_on rfl rfl ?_
        apply lY
        · (apply y_load rfl (hE.t rfl) rfl; (repeat (first | rfl | assumption | constructor)); done)
        · rfl
        refine l_on rfl rfl ?_
        refine lY (yM rfl) rfl ?_
        refine l_on rfl rfl ?_
        refine lY (y_sub rfl rfl (by omega) (by omega)) rfl ?_
        refine l_on rfl rfl ?_
        refine lY (y_indexAddr rfl rfl (hE.t rfl) (by omega) (by omega)) rfl ?_
        refine l_eq 49 _ rfl (ptr_lastI (L := rls Es) (its := is) hil) ?_
        refine l_on rfl rfl ?_
        refine lY (yF rfl (hE.t rfl) rfl) rfl ?_
        refine l_on rfl rfl ?_
        apply lY
        · (apply y_load rfl (hE.t rfl) rfl; (repeat (first | rfl | assumption | constructor)); done)
        · rfl
        refine l_on rfl rfl ?_
        refine lY (yM rfl) rfl ?_
        refine l_on rfl rfl ?_
        refine lY (y_ne rfl rfl) rfl ?_
        apply lY
        · (first | exact y_pick_t rfl rfl | exact y_pick_f rfl rfl)
        · rfl
        refine l_nil (aT ?_)
        refine w_cond_d rfl (fun h5 => ?_) (fun h5 => ?_)
        · skip
          refine w_ret (a_then_ret ?_)
          apply a_ret
          · rfl
          · (exact Rs.nil)
          · refine same (early h22 fun u hu e => ?_)
            rw [hlast is it u hmi hu] at e
            omega
          · rw [hpm]
            (apply ent; (repeat constructor); done)
        · skip
          refine w_skip ?_
          rw [← hpm]
          refine a_cut (ι := Nat) 0 trivial ⟨rfl, rfl, rfl, trivial⟩ ?_
          (apply ent; (repeat constructor); done)
    | some f =>
      obtain ⟨gs, g, hfs, hp, rfl⟩ := hv
      have f7 : (pathC (rls Es) B0.fs)[(pathC (rls Es) gs).length + 7]? = some (.int .i64 (f.hv : Nat)) := by rw [hfs]; exact path_hv
      rw [hp]
      skip
      refine w_seq (wR ?_)
      refine lY (yM rfl) rfl ?_
      apply lY
      · (first | exact y_eq_ptr rfl (hE.t rfl) | exact y_eq_nil rfl (hE.t rfl))
      · rfl
      refine lY (yM rfl) rfl ?_
      skip
      refine l_on rfl rfl ?_
      refine lY (yM rfl) rfl ?_
      refine l_on rfl rfl ?_
      refine lY (y_nilCheck rfl) rfl ?_
      refine l_on rfl rfl ?_
      refine lY (yF rfl (hE.t rfl) rfl) rfl ?_
      refine l_on rfl rfl ?_
      apply lY
      · (apply y_load rfl (hE.t rfl) rfl; (repeat (first | rfl | assumption | constructor)); done)
      · rfl
      refine l_on rfl rfl ?_
      refine lY (y_eq rfl rfl) rfl ?_
      apply lY
      · (first | exact y_pick_t rfl rfl | exact y_pick_f rfl rfl)
      · rfl
      refine l_nil (aT ?_)
      refine w_cond_d rfl (fun h2 => ?_) (fun h2 => ?_)
      · skip
        have h22 : ∀ f', some f = some f' → f'.hv = 2 := fun f' e => by cases e; omega
        rw [← hp]
        refine w_seq (wR ?_)
        refine lY (yM rfl) rfl ?_
        refine lY (y_nilCheck rfl) rfl ?_
        refine lY (yF rfl (hE.t rfl) rfl) rfl ?_
        apply lY
        · (apply y_load rfl (hE.t rfl) rfl; (repeat (first | rfl | assumption | constructor)); done)
        · rfl
        refine lY (y_len_slice rfl (hE.t rfl)) rfl ?_
        refine lY (yA rfl) rfl ?_
        refine l_nil (aT (w_seq (wR ?_)))
        refine lY (yM rfl) rfl ?_
        refine lY (y_eq rfl rfl) rfl ?_
        refine lY (yM rfl) rfl ?_
        refine l_split 42 rfl (fun h4 => ?_) (fun h4 => ?_)
        · skip
          have hm0 : M0.its = [] := List.eq_nil_of_length_eq_zero (by omega)
          refine l_off rfl rfl rfl rfl (l_off rfl rfl rfl rfl (l_off rfl rfl rfl rfl (l_off rfl rfl rfl rfl (l_off rfl rfl rfl rfl (l_off rfl rfl rfl rfl (l_off rfl rfl rfl rfl (l_off rfl rfl rfl rfl ?_)))))))
          refine l_off rfl rfl rfl rfl (l_off rfl rfl rfl rfl (l_off rfl rfl rfl rfl ?_))
          apply lY
          · (first | exact y_pick_t rfl rfl | exact y_pick_f rfl rfl)
          · rfl
          refine l_nil (aT ?_)
          refine w_cond_t rfl ?_
          refine w_ret (a_then_ret ?_)
          apply a_ret
          · rfl
          · (exact Rs.nil)
          · refine same (early h22 fun u hu => ?_)
            rw [hm0] at hu
            simp [flatI] at hu
          · (apply ent; (repeat constructor); done)
        · skip
          obtain ⟨is, it, hmi⟩ : ∃ is it, M0.its = is ++ [it] := by
            rcases List.eq_nil_or_concat M0.its with h | ⟨is, it, h⟩
            · rw [h] at h4; simp at h4
            · exact ⟨is, it, by rw [h, List.concat_eq_append]⟩
          have hil : M0.its.length = is.length + 1 := by rw [hmi]; simp
          refine l_say (p := sl M0.p M0.c 172 4 M0.its.length (itsC (rls Es) M0.its)) (by ((repeat constructor); done)) (fun _ h => sl_form h (by omega)) ?_
          rintro ⟨gm, hpm⟩
          have f2 : (itsC (rls Es) M0.its)[(itsC (rls Es) is).length + 2]? = some (.int .u64 (key (rls Es) it.id : Nat)) := by rw [hmi]; exact items_key
          rw [hpm]
          refine l_on rfl rfl ?_
          refine lY (yM rfl) rfl ?_
          refine l_on rfl rfl ?_
          refine lY (y_nilCheck rfl) rfl ?_
          refine l_on rfl rfl ?_
          refine lY (yF rfl (hE.t rfl) rfl) rfl ?_
          refine l_on rfl rfl ?_
          apply lY
          · (apply y_load rfl (hE.t rfl) rfl; (repeat (first | rfl | assumption | constructor)); done)
          · rfl
          refine l_on rfl rfl ?_
          refine lY (yM rfl) rfl ?_
          refine l_on rfl rfl ?_
          refine lY (y_sub rfl rfl (by omega) (by omega)) rfl ?_
          refine l_on rfl rfl ?_
          refine lY (y_indexAddr rfl rfl (hE.t rfl) (by omega) (by omega)) rfl ?_
          refine l_eq 49 _ rfl (ptr_lastI (L := rls Es) (its := is) hil) ?_
          refine l_on rfl rfl ?_
          refine lY (yF rfl (hE.t rfl) rfl) rfl ?_
          refine l_on rfl rfl ?_
          apply lY
          · (apply y_load rfl (hE.t rfl) rfl; (repeat (first | rfl | assumption | constructor)); done)
          · rfl
          refine l_on rfl rfl ?_
          refine lY (yM rfl) rfl ?_
          refine l_on rfl rfl ?_
          refine lY (y_ne rfl rfl) rfl ?_
          apply lY
          · (first | exact y_pick_t rfl rfl | exact y_pick_f rfl rfl)
          · rfl
          refine l_nil (aT ?_)
          refine w_cond_d rfl (fun h5 => ?_) (fun h5 => ?_)
          · skip
            refine w_ret (a_then_ret ?_)
            apply a_ret
            · rfl
            · (exact Rs.nil)
            · refine same (early h22 fun u hu e => ?_)
              rw [hlast is it u hmi hu] at e
              omega
            · rw [hpm]
              (apply ent; (repeat constructor); done)
          · skip
            refine w_skip ?_
            rw [← hpm]
            refine a_cut (ι := Nat) 0 trivial ⟨rfl, rfl, rfl, trivial⟩ ?_
            (apply ent; (repeat constructor); done)
      · skip
        refine w_skip ?_
        rw [← hp]
        refine a_cut (ι := Nat) 0 trivial ⟨rfl, rfl, rfl, trivial⟩ ?_
        (apply ent; (repeat constructor); done)
  rintro _ -
  skip
  refine w_block ?_
  skip
  refine w_loop (fun y : StrG => [(0, .pointer (some ⟨S, 0, none⟩)), (1, .int .i64 ((l + 1 : Nat) : Int)), (4, .int .u64 (key (rls Es) B0.x : Nat))]) (fun y => [cells pp [.pointer (some ⟨s, 0, none⟩), .pointer (some ⟨tb, 0, none⟩)] 59, tabP tb s (rls Es), storeP s most Es, cells S [.pointer (some ⟨pp, 0, none⟩), .pointer (some ⟨pp, 0, none⟩), .bool false, .slice A.p A.fs.length A.c, .int .i64 (A.x : Nat), .int .u64 (key (rls Es) A.x : Nat), .pointer (some ⟨pp, 0, none⟩), .bool true, .slice y.B.p y.B.fs.length y.B.c, .int .i64 (y.B.x : Nat), .int .u64 (key (rls Es) y.B.x : Nat), .slice y.M.p y.M.its.length y.M.c] 127, sl A.p A.c 160 8 A.fs.length (pathC (rls Es) A.fs), sl y.B.p y.B.c 160 8 y.B.fs.length (pathC (rls Es) y.B.fs), sl y.M.p y.M.c 172 4 y.M.its.length (itsC (rls Es) y.M.its), R]) (fun y => (seqE (rls Es) true l y.B.x y.B.fs).length) (fun y => StrI (rls Es) l rr (key (rls Es) B0.x) B0 M0 y) ⟨B0, M0⟩ ⟨eB0, hI0, rfl, .inl ⟨rfl, rfl⟩, fun _ => ⟨[], by simp, by simp, fun h => absurd rfl h⟩⟩ ⟨rfl, rfl, rfl, trivial⟩ ?_ ?_
  · (apply ent; (repeat constructor); done)
  rintro ⟨B, M⟩ ⟨eB, hI, hrow, hbb, hgr⟩
  simp only at eB hI hrow hbb hgr ⊢
  have hml : M.its.length ≤ 1000000000 := by
    have h1 := its_len (its := M.its) fun it h => (hI it h).1
    rw [← hrow, List.length_append] at hlen
    omega
  have hfl := eB.pl hw hL hs
  have fin : (B.x = 0 ∨ key (rls Es) B.x ≠ key (rls Es) B0.x) → ∃ (B' : Sd) (M' : Md), Value.tuple #[] = .tuple #[] ∧ RR (rls Es) l rr B'.x B'.fs (flatI M'.its) ∧ flatI M'.its ++ seqE (rls Es) true l B'.x B'.fs = flatI M0.its ++ seqE (rls Es) true l B0.x B0.fs ∧ ItT (rls Es) M'.its ∧ (M'.its = [] → M0.its = [] ∧ B' = B0) ∧ (Dk (rls Es) → ∃ b, M'.its = M0.its ++ b ∧ b.length ≤ 1) ∧ [cells pp [.pointer (some ⟨s, 0, none⟩), .pointer (some ⟨tb, 0, none⟩)] 59, tabP tb s (rls Es), storeP s most Es, cells S [.pointer (some ⟨pp, 0, none⟩), .pointer (some ⟨pp, 0, none⟩), .bool false, .slice A.p A.fs.length A.c, .int .i64 (A.x : Nat), .int .u64 (key (rls Es) A.x : Nat), .pointer (some ⟨pp, 0, none⟩), .bool true, .slice B.p B.fs.length B.c, .int .i64 (B.x : Nat), .int .u64 (key (rls Es) B.x : Nat), .slice M.p M.its.length M.c] 127, sl A.p A.c 160 8 A.fs.length (pathC (rls Es) A.fs), sl B.p B.c 160 8 B.fs.length (pathC (rls Es) B.fs), sl M.p M.c 172 4 M.its.length (itsC (rls Es) M.its)] = [cells pp [.pointer (some ⟨s, 0, none⟩), .pointer (some ⟨tb, 0, none⟩)] 59, tabP tb s (rls Es), storeP s most Es, cells S [.pointer (some ⟨pp, 0, none⟩), .pointer (some ⟨pp, 0, none⟩), .bool false, .slice A.p A.fs.length A.c, .int .i64 (A.x : Nat), .int .u64 (key (rls Es) A.x : Nat), .pointer (some ⟨pp, 0, none⟩), .bool true, .slice B'.p B'.fs.length B'.c, .int .i64 (B'.x : Nat), .int .u64 (key (rls Es) B'.x : Nat), .slice M'.p M'.its.length M'.c] 127, sl A.p A.c 160 8 A.fs.length (pathC (rls Es) A.fs), sl B'.p B'.c 160 8 B'.fs.length (pathC (rls Es) B'.fs), sl M'.p M'.c 172 4 M'.its.length (itsC (rls Es) M'.its)] := by
    intro hc
    refine ⟨B, M, rfl, ?_, hrow, hI, ?_, fun hd => (hgr hd).imp fun _ h => ⟨h.1, h.2.1⟩, rfl⟩
    · rcases hbb with ⟨rfl, rfl⟩ | ⟨h1, h2, h3⟩
      · rcases hc with h | h
        · exact absurd h hx0
        · exact absurd rfl h
      · by_cases hx : B.x = 0
        · have := rr_zero (L := rls Es) (l := l) (root := rr) (fs := B.fs) (M := flatI M.its) (by rw [← hx]; exact eB)
          rwa [← hx] at this
        · refine ⟨eB, h1, fun u v e1 e2 => ?_⟩
          rw [eB.head hx] at e2
          cases e2
          rw [if_neg (by omega), fits_tie hn, h3 u e1]
          rcases hc with h | h
          · exact absurd h hx
          · exact fun e => h e.symm
    · intro h
      rcases hbb with ⟨rfl, rfl⟩ | ⟨h1, h2, h3⟩
      · exact ⟨h, rfl⟩
      · exact absurd h h2
  skip
  refine w_seq (w_seq (wR ?_))
  refine lY (yM rfl) rfl ?_
  refine lY (y_nilCheck rfl) rfl ?_
  refine lY (yF rfl (hE.t rfl) rfl) rfl ?_
  refine lY (yF rfl (hE.t rfl) rfl) rfl ?_
  apply lY
  · (apply y_load rfl (hE.t rfl) rfl; (repeat (first | rfl | assumption | constructor)); done)
  · rfl
  refine lY (y_ne rfl rfl) rfl ?_
  refine lY (yM rfl) rfl ?_
  refine l_split 61 rfl (fun g0 => ?_) (fun g0 => ?_)
  · skip
    refine l_on rfl rfl ?_
    refine lY (yM rfl) rfl ?_
    refine l_on rfl rfl ?_
    refine lY (y_nilCheck rfl) rfl ?_
    refine l_on rfl rfl ?_
    refine lY (yF rfl (hE.t rfl) rfl) rfl ?_
    refine l_on rfl rfl ?_
    refine lY (yF rfl (hE.t rfl) rfl) rfl ?_
    refine l_on rfl rfl ?_
    apply lY
    · (apply y_load rfl (hE.t rfl) rfl; (repeat (first | rfl | assumption | constructor)); done)
    · rfl
    refine l_on rfl rfl ?_
    refine lY (yM rfl) rfl ?_
    refine l_on rfl rfl ?_
    refine lY (y_eq rfl rfl) rfl ?_
    apply lY
    · (first | exact y_pick_t rfl rfl | exact y_pick_f rfl rfl)
    · rfl
    refine l_nil (aT ?_)
    refine w_cond_d rfl (fun g1 => ?_) (fun g1 => ?_)
    · skip
      have hx : B.x ≠ 0 := by omega
      have hkk : key (rls Es) B.x = key (rls Es) B0.x := by omega
      obtain ⟨k1, k2, k3, k4⟩ := eB.low hx
      have hRB := eB.mem hw hs
      refine w_skip (aT (w_block (w_seq (wR ?_))))
      refine lY (yM rfl) rfl ?_
      refine lY (y_nilCheck rfl) rfl ?_
      refine lY (yF rfl (hE.t rfl) rfl) rfl ?_
      refine lY (yM rfl) rfl ?_
      apply lL (by kernel_rfl) rfl
      apply ld_call (ct_parent hE (b := S) (pre := [.pointer (some ⟨pp, 0, none⟩), .pointer (some ⟨pp, 0, none⟩), .bool false, .slice A.p A.fs.length A.c, .int .i64 (A.x : Nat), .int .u64 (key (rls Es) A.x : Nat)]) (suf := [.slice M.p M.its.length M.c]) (fs := B.fs) hfl) rfl (hE.f (by kernel_rfl))
      · ((repeat constructor); done)
      rintro v _ ⟨⟨o, ho, hv⟩, rfl⟩
      simp only [List.cons_append, List.nil_append]
      refine lY (yA rfl) rfl ?_
      refine l_nil (aT ?_)
      cases o with
      | none =>
        obtain rfl : v = .pointer none := hv
        have hmt : 1 = many (rls Es) none := rfl
        have hov : (l + 1) % 2 = 0 → ∀ f : Fm, none = some f → f.hv = 1 := fun _ f e => by cases e
        skip
        refine w_seq (w_seq (wR ?_))
        refine lY (yM rfl) rfl ?_
        apply lY
        · (first | exact y_eq_ptr rfl (hE.t rfl) | exact y_eq_nil rfl (hE.t rfl))
        · rfl
        refine lY (yM rfl) rfl ?_
        skip
        refine l_off rfl rfl rfl rfl (l_off rfl rfl rfl rfl (l_off rfl rfl rfl rfl (l_off rfl rfl rfl rfl (l_off rfl rfl rfl rfl ?_))))
        apply lY
        · (first | exact y_pick_t rfl rfl | exact y_pick_f rfl rfl)
        · rfl
        refine l_nil (aT ?_)
        refine w_cond_t rfl ?_
        skip
        refine w_seq ?_
        refine w_until 16 ([cells S [.pointer (some ⟨pp, 0, none⟩), .pointer (some ⟨pp, 0, none⟩), .bool false, .slice A.p A.fs.length A.c, .int .i64 (A.x : Nat), .int .u64 (key (rls Es) A.x : Nat), .pointer (some ⟨pp, 0, none⟩), .bool true, .slice B.p B.fs.length B.c, .int .i64 (B.x : Nat), .int .u64 (key (rls Es) B.x : Nat), .slice M.p M.its.length M.c] 127]) ?_ ?_
        · (apply ent; (repeat constructor); done)
        apply m_take 0 rfl
        · exact yM rfl
        · with_reducible (repeat (first | exact cB | apply cT | apply cK))
        · kernel_rfl
        · rfl
        apply m_take 1 rfl
        · exact yM rfl
        · with_reducible (repeat (first | exact cB | apply cT | apply cK))
        · kernel_rfl
        · rfl
        apply m_take 2 rfl
        · exact y_nilCheck rfl
        · with_reducible (repeat (first | exact cB | apply cT | apply cK))
        · kernel_rfl
        · rfl
        apply m_take 3 rfl
        · exact yF rfl (hE.t rfl) rfl
        · with_reducible (repeat (first | exact cB | apply cT | apply cK))
        · kernel_rfl
        · rfl
        apply m_take 4 rfl
        · (apply y_load rfl (hE.t rfl) rfl; (repeat (first | rfl | assumption | constructor)); done)
        · with_reducible (repeat (first | exact cB | apply cT | apply cK))
        · kernel_rfl
        · rfl
        apply m_take 5 rfl
        · exact yM rfl
        · with_reducible (repeat (first | exact cB | apply cT | apply cK))
        · kernel_rfl
        · rfl
        apply m_take 6 rfl
        · exact y_nilCheck rfl
        · with_reducible (repeat (first | exact cB | apply cT | apply cK))
        · kernel_rfl
        · rfl
        apply m_take 7 rfl
        · exact yF rfl (hE.t rfl) rfl
        · with_reducible (repeat (first | exact cB | apply cT | apply cK))
        · kernel_rfl
        · rfl
        apply m_take 8 rfl
        · exact yF rfl (hE.t rfl) rfl
        · with_reducible (repeat (first | exact cB | apply cT | apply cK))
        · kernel_rfl
        · rfl
        apply m_take 9 rfl
        · (apply y_load rfl (hE.t rfl) rfl; (repeat (first | rfl | assumption | constructor)); done)
        · with_reducible (repeat (first | exact cB | apply cT | apply cK))
        · kernel_rfl
        · rfl
        apply m_one 10 rfl (by kernel_rfl)
        · exact yM rfl
        · rfl
        apply m_one 11 rfl (by kernel_rfl)
        · (first | exact y_build (hE.t rfl) rfl rfl | exact y_buildA (hE.t rfl) rfl rfl)
        · rfl
        apply m_loud 12 rfl (by kernel_rfl) rfl
        refine ld_buildSlice (hE.t rfl) (hE.t rfl) rfl rfl rfl (fun b96 => ?_)
        refine ⟨by (apply ent; (repeat constructor); done), ?_⟩
        apply m_loud 13 rfl (by kernel_rfl) rfl
        apply ld_append (hE.t rfl) (hE.t rfl) rfl rfl rfl
        · ((repeat constructor); done)
        · ((repeat constructor); done)
        · rfl
        · rfl
        · omega
        · omega
        · (unfold maxLen; omega)
        intro g97 c97 n97 x97 hn97 hx97
        refine ⟨by (apply ent; (repeat constructor); done), ?_⟩
        apply m_one 14 rfl (by kernel_rfl)
        · exact y_nilCheck rfl
        · rfl
        apply m_one 15 rfl (by kernel_rfl)
        · exact yF rfl (hE.t rfl) rfl
        · rfl
        apply m_last rfl (by kernel_rfl) (by kernel_rfl) rfl
        (first | (apply ld_store rfl rfl (hE.t rfl) rfl; (focus ((repeat constructor); done)); (focus rfl); (focus (exact Nat.le_of_ble_eq_true rfl))) | (apply ld_store_sl rfl rfl (hE.t rfl) rfl; (focus ((repeat constructor); done)); (focus rfl); (focus (first | omega | (simp only [cellsL, length_setMany, List.length_cons, List.length_nil]; omega)))))
        refine aT ?_
        obtain rfl : x97 = itsC (rls Es) (M.its ++ [⟨B.x, 0, 1⟩]) := by rw [hx97, itsC_snoc]; simp only; rw [hkk]; rfl
        subst hn97
        refine w_seq (wR ?_)
        refine lY (yM rfl) rfl ?_
        refine lY (y_nilCheck rfl) rfl ?_
        refine lY (yF rfl (hE.t rfl) rfl) rfl ?_
        refine lY (yM rfl) rfl ?_
        refine lY (y_sub rfl rfl (by omega) (by omega)) rfl ?_
        refine l_eq 104 (.int .i64 (l : Nat)) rfl (int_eq (by omega)) ?_
        have hdr := ct_drop_ (pp := pp) (tb := tb) (s := s) (most := most) hE hB (b := S) (bt := 127) (p := B.p) (c := B.c) (k := key (rls Es) B.x) (pre := [.pointer (some ⟨pp, 0, none⟩), .pointer (some ⟨pp, 0, none⟩), .bool false, .slice A.p A.fs.length A.c, .int .i64 (A.x : Nat), .int .u64 (key (rls Es) A.x : Nat)]) (suf := [.slice (⟨M.its ++ [⟨B.x, 0, 1⟩], some ⟨g97, 0, none⟩, c97⟩ : Md).p (⟨M.its ++ [⟨B.x, 0, 1⟩], some ⟨g97, 0, none⟩, c97⟩ : Md).its.length (⟨M.its ++ [⟨B.x, 0, 1⟩], some ⟨g97, 0, none⟩, c97⟩ : Md).c]) hs k2 (drp_one k2) hl1
        simp only [List.length_append, List.length_singleton] at hdr
        apply lL (by kernel_rfl) rfl
        apply ld_call (hdr) rfl (hE.f (by kernel_rfl))
        · ((repeat constructor); done)
        rintro _ _ ⟨x', gs', p', c'', rfl, q1, rfl⟩
        simp only [List.cons_append, List.nil_append]
        refine l_nil (aT (w_exit (a_then_exit (a_block_exit ?_))))
        have hmv := mvd hw hs eB hx ho hmt hov q1
        refine a_round (ι := StrG) (j := ⟨⟨x', gs', p', c''⟩, ⟨M.its ++ [⟨B.x, 0, 1⟩], some ⟨g97, 0, none⟩, c97⟩⟩) ⟨hmv.eo, itt_add hI ⟨Nat.le_refl _, fun _ => rfl, fun h => absurd rfl h⟩, ?_, .inr ⟨hmv.bb, by simp, fun u hu => ?_⟩, fun hd => ?_⟩ ?_ ⟨rfl, rfl, rfl, trivial⟩ ?_
        · rw [← hrow, hmv.seq]
          simp only
          rw [flatI_add]
          simp [cat]
        · simp only at hu
          rw [last_add] at hu
          cases hu
          exact hkk
        · obtain ⟨d, d1, d2, d3⟩ := hgr hd
          have hbx : B.x = B0.x := hd _ _ (by omega) (eB.ids hw hs).1 (by omega) (eB0.ids hw hs).1 hkk
          have hd0 : d = [] := Classical.byContradiction fun h => d3 h hbx
          subst hd0
          refine ⟨[⟨B.x, 0, 1⟩], by show M.its ++ [_] = _; rw [d1, List.append_nil], Nat.le_refl _, fun _ e => ?_⟩
          have e' : x' = B.x := by rw [hbx]; exact e
          have hsq := hmv.seq
          have hx' : x' ≠ 0 := by omega
          have hhd := hmv.eo.head hx'
          cases es : seqE (rls Es) true l x' gs' with
          | nil => rw [es] at hhd; simp at hhd
          | cons q qs =>
            rw [es] at hhd hsq
            simp at hhd
            refine eB.adj (a := B.x) (r := qs) hw hs hx hev ?_
            rw [hsq, hhd, e']
            rfl
        · show (seqE (rls Es) true l x' gs').length < (seqE (rls Es) true l B.x B.fs).length
          rw [hmv.seq]
          simp [cat]
        · simp only [List.length_append, List.length_singleton]
          (apply ent; (repeat constructor); done)
      | some f =>
        obtain ⟨gs, g, hfs, hp, rfl⟩ := hv
        have f7 : (pathC (rls Es) B.fs)[(pathC (rls Es) gs).length + 7]? = some (.int .i64 (f.hv : Nat)) := by rw [hfs]; exact path_hv
        obtain ⟨_, a, b, hfs2, l1, l2, l3, l4, l5, l6, hch, hft, hla, hlb⟩ := whole_two hw hs eB hx ho hev
        rw [hp]
        skip
        refine w_seq (w_seq (wR ?_))
        refine lY (yM rfl) rfl ?_
        apply lY
        · (first | exact y_eq_ptr rfl (hE.t rfl) | exact y_eq_nil rfl (hE.t rfl))
        · rfl
        refine lY (yM rfl) rfl ?_
        skip
        refine l_on rfl rfl ?_
        refine lY (yM rfl) rfl ?_
        refine l_on rfl rfl ?_
        refine lY (y_nilCheck rfl) rfl ?_
        refine l_on rfl rfl ?_
        refine lY (yF rfl (hE.t rfl) rfl) rfl ?_
        refine l_on rfl rfl ?_
        apply lY
        · (apply y_load rfl (hE.t rfl) rfl; (repeat (first | rfl | assumption | constructor)); done)
        · rfl
        refine l_on rfl rfl ?_
        refine lY (y_lt rfl rfl) rfl ?_
        apply lY
        · (first | exact y_pick_t rfl rfl | exact y_pick_f rfl rfl)
        · rfl
        refine l_nil (aT ?_)
        refine w_cond_d rfl (fun g2 => ?_) (fun g2 => ?_)
        · skip
          have hmt := (many_pair l4).symm
          have hov : (l + 1) % 2 = 0 → ∀ f' : Fm, some f = some f' → f'.hv = 1 := fun _ f' e => by cases e; omega
          rw [← hp]
          skip
          refine w_seq ?_
          refine w_until 16 ([cells S [.pointer (some ⟨pp, 0, none⟩), .pointer (some ⟨pp, 0, none⟩), .bool false, .slice A.p A.fs.length A.c, .int .i64 (A.x : Nat), .int .u64 (key (rls Es) A.x : Nat), .pointer (some ⟨pp, 0, none⟩), .bool true, .slice B.p B.fs.length B.c, .int .i64 (B.x : Nat), .int .u64 (key (rls Es) B.x : Nat), .slice M.p M.its.length M.c] 127]) ?_ ?_
          · (apply ent; (repeat constructor); done)
          apply m_take 0 rfl
          · exact yM rfl
          · with_reducible (repeat (first | exact cB | apply cT | apply cK))
          · kernel_rfl
          · rfl
          apply m_take 1 rfl
          · exact yM rfl
          · with_reducible (repeat (first | exact cB | apply cT | apply cK))
          · kernel_rfl
          · rfl
          apply m_take 2 rfl
          · exact y_nilCheck rfl
          · with_reducible (repeat (first | exact cB | apply cT | apply cK))
          · kernel_rfl
          · rfl
          apply m_take 3 rfl
          · exact yF rfl (hE.t rfl) rfl
          · with_reducible (repeat (first | exact cB | apply cT | apply cK))
          · kernel_rfl
          · rfl
          apply m_take 4 rfl
          · (apply y_load rfl (hE.t rfl) rfl; (repeat (first | rfl | assumption | constructor)); done)
          · with_reducible (repeat (first | exact cB | apply cT | apply cK))
          · kernel_rfl
          · rfl
          apply m_take 5 rfl
          · exact yM rfl
          · with_reducible (repeat (first | exact cB | apply cT | apply cK))
          · kernel_rfl
          · rfl
          apply m_take 6 rfl
          · exact y_nilCheck rfl
          · with_reducible (repeat (first | exact cB | apply cT | apply cK))
          · kernel_rfl
          · rfl
          apply m_take 7 rfl
          · exact yF rfl (hE.t rfl) rfl
          · with_reducible (repeat (first | exact cB | apply cT | apply cK))
          · kernel_rfl
          · rfl
          apply m_take 8 rfl
          · exact yF rfl (hE.t rfl) rfl
          · with_reducible (repeat (first | exact cB | apply cT | apply cK))
          · kernel_rfl
          · rfl
          apply m_take 9 rfl
          · (apply y_load rfl (hE.t rfl) rfl; (repeat (first | rfl | assumption | constructor)); done)
          · with_reducible (repeat (first | exact cB | apply cT | apply cK))
          · kernel_rfl
          · rfl
          apply m_one 10 rfl (by kernel_rfl)
          · exact yM rfl
          · rfl
          apply m_one 11 rfl (by kernel_rfl)
          · (first | exact y_build (hE.t rfl) rfl rfl | exact y_buildA (hE.t rfl) rfl rfl)
          · rfl
          apply m_loud 12 rfl (by kernel_rfl) rfl
          refine ld_buildSlice (hE.t rfl) (hE.t rfl) rfl rfl rfl (fun b96 => ?_)
          refine ⟨by (apply ent; (repeat constructor); done), ?_⟩
          apply m_loud 13 rfl (by kernel_rfl) rfl
          apply ld_append (hE.t rfl) (hE.t rfl) rfl rfl rfl
          · ((repeat constructor); done)
          · ((repeat constructor); done)
          · rfl
          · rfl
          · omega
          · omega
          · (unfold maxLen; omega)
          intro g97 c97 n97 x97 hn97 hx97
          refine ⟨by (apply ent; (repeat constructor); done), ?_⟩
          apply m_one 14 rfl (by kernel_rfl)
          · exact y_nilCheck rfl
          · rfl
          apply m_one 15 rfl (by kernel_rfl)
          · exact yF rfl (hE.t rfl) rfl
          · rfl
          apply m_last rfl (by kernel_rfl) (by kernel_rfl) rfl
          (first | (apply ld_store rfl rfl (hE.t rfl) rfl; (focus ((repeat constructor); done)); (focus rfl); (focus (exact Nat.le_of_ble_eq_true rfl))) | (apply ld_store_sl rfl rfl (hE.t rfl) rfl; (focus ((repeat constructor); done)); (focus rfl); (focus (first | omega | (simp only [cellsL, length_setMany, List.length_cons, List.length_nil]; omega)))))
          refine aT ?_
          obtain rfl : x97 = itsC (rls Es) (M.its ++ [⟨B.x, 0, 1⟩]) := by rw [hx97, itsC_snoc]; simp only; rw [hkk]; rfl
          subst hn97
          refine w_seq (wR ?_)
          refine lY (yM rfl) rfl ?_
          refine lY (y_nilCheck rfl) rfl ?_
          refine lY (yF rfl (hE.t rfl) rfl) rfl ?_
          refine lY (yM rfl) rfl ?_
          refine lY (y_sub rfl rfl (by omega) (by omega)) rfl ?_
          refine l_eq 104 (.int .i64 (l : Nat)) rfl (int_eq (by omega)) ?_
          have hdr := ct_drop_ (pp := pp) (tb := tb) (s := s) (most := most) hE hB (b := S) (bt := 127) (p := B.p) (c := B.c) (k := key (rls Es) B.x) (pre := [.pointer (some ⟨pp, 0, none⟩), .pointer (some ⟨pp, 0, none⟩), .bool false, .slice A.p A.fs.length A.c, .int .i64 (A.x : Nat), .int .u64 (key (rls Es) A.x : Nat)]) (suf := [.slice (⟨M.its ++ [⟨B.x, 0, 1⟩], some ⟨g97, 0, none⟩, c97⟩ : Md).p (⟨M.its ++ [⟨B.x, 0, 1⟩], some ⟨g97, 0, none⟩, c97⟩ : Md).its.length (⟨M.its ++ [⟨B.x, 0, 1⟩], some ⟨g97, 0, none⟩, c97⟩ : Md).c]) hs k2 (drp_one k2) hl1
          simp only [List.length_append, List.length_singleton] at hdr
          apply lL (by kernel_rfl) rfl
          apply ld_call (hdr) rfl (hE.f (by kernel_rfl))
          · ((repeat constructor); done)
          rintro _ _ ⟨x', gs', p', c'', rfl, q1, rfl⟩
          simp only [List.cons_append, List.nil_append]
          refine l_nil (aT (w_exit (a_then_exit (a_block_exit ?_))))
          have hmv := mvd hw hs eB hx ho hmt hov q1
          refine a_round (ι := StrG) (j := ⟨⟨x', gs', p', c''⟩, ⟨M.its ++ [⟨B.x, 0, 1⟩], some ⟨g97, 0, none⟩, c97⟩⟩) ⟨hmv.eo, itt_add hI ⟨Nat.le_refl _, fun _ => rfl, fun h => absurd rfl h⟩, ?_, .inr ⟨hmv.bb, by simp, fun u hu => ?_⟩, fun hd => ?_⟩ ?_ ⟨rfl, rfl, rfl, trivial⟩ ?_
          · rw [← hrow, hmv.seq]
            simp only
            rw [flatI_add]
            simp [cat]
          · simp only at hu
            rw [last_add] at hu
            cases hu
            exact hkk
          · obtain ⟨d, d1, d2, d3⟩ := hgr hd
            have hbx : B.x = B0.x := hd _ _ (by omega) (eB.ids hw hs).1 (by omega) (eB0.ids hw hs).1 hkk
            have hd0 : d = [] := Classical.byContradiction fun h => d3 h hbx
            subst hd0
            refine ⟨[⟨B.x, 0, 1⟩], by show M.its ++ [_] = _; rw [d1, List.append_nil], Nat.le_refl _, fun _ e => ?_⟩
            have e' : x' = B.x := by rw [hbx]; exact e
            have hsq := hmv.seq
            have hx' : x' ≠ 0 := by omega
            have hhd := hmv.eo.head hx'
            cases es : seqE (rls Es) true l x' gs' with
            | nil => rw [es] at hhd; simp at hhd
            | cons q qs =>
              rw [es] at hhd hsq
              simp at hhd
              refine eB.adj (a := B.x) (r := qs) hw hs hx hev ?_
              rw [hsq, hhd, e']
              rfl
          · show (seqE (rls Es) true l x' gs').length < (seqE (rls Es) true l B.x B.fs).length
            rw [hmv.seq]
            simp [cat]
          · simp only [List.length_append, List.length_singleton]
            (apply ent; (repeat constructor); done)
        · skip
          have h2 : f.hv = 2 := by omega
          have hlv := ho.2
          obtain ⟨rfl, _⟩ := fm_snoc (hfs.symm.trans hfs2)
          have f3 : (pathC (rls Es) B.fs)[(pathC (rls Es) gs).length + 3]? = some (.int .i64 (a : Nat)) := by
            have := (path_rule (L := rls Es) (gs := gs) (f := f)).1
            rw [l4] at this
            rw [hfs]
            exact this
          have f4 : (pathC (rls Es) B.fs)[(pathC (rls Es) gs).length + 4]? = some (.int .i64 (b : Nat)) := by
            have := (path_rule (L := rls Es) (gs := gs) (f := f)).2
            rw [l4] at this
            rw [hfs]
            exact this
          have hxa : B.x = a := by rw [hch, h2]; simp [childR]
          have hka : key (rls Es) a = key (rls Es) B0.x := by rw [← hxa]; exact hkk
          have hkb : key (rls Es) b = key (rls Es) B0.x := by rw [← hka]; exact ((fits_tie hn).1 hft).symm
          have hb0 : b ≠ 0 := by have := (hw.ok _ _ l3).2.2.1; omega
          have eu : upF (rls Es) (l + 1) B.x B.fs = (f.id, gs) := by rw [hfs, upF_snoc, if_pos ⟨hlv, by rw [l4, h2]; exact Nat.le_refl 2⟩]
          have hgs := l1.short' hw hs hL
          have eBf : EO (rls Es) true l rr B.x (gs ++ [f]) := by rw [← hfs]; exact eB
          refine w_skip (aT ?_)
          refine w_seq ?_
          refine w_until 13 ([sl (some ⟨g, 0, none⟩) B.c 160 8 B.fs.length (pathC (rls Es) B.fs)]) ?_ ?_
          · (apply ent; (repeat constructor); done)
          apply m_take 0 rfl
          · exact yM rfl
          · with_reducible (repeat (first | exact cB | apply cT | apply cK))
          · kernel_rfl
          · rfl
          apply m_take 1 rfl
          · exact y_nilCheck rfl
          · with_reducible (repeat (first | exact cB | apply cT | apply cK))
          · kernel_rfl
          · rfl
          apply m_take 2 rfl
          · exact yF rfl (hE.t rfl) rfl
          · with_reducible (repeat (first | exact cB | apply cT | apply cK))
          · kernel_rfl
          · rfl
          apply m_take 3 rfl
          · exact yF rfl (hE.t rfl) rfl
          · with_reducible (repeat (first | exact cB | apply cT | apply cK))
          · kernel_rfl
          · rfl
          apply m_take 4 rfl
          · (apply y_load rfl (hE.t rfl) rfl; (repeat (first | rfl | assumption | constructor)); done)
          · with_reducible (repeat (first | exact cB | apply cT | apply cK))
          · kernel_rfl
          · rfl
          apply m_take 5 rfl
          · exact yM rfl
          · with_reducible (repeat (first | exact cB | apply cT | apply cK))
          · kernel_rfl
          · rfl
          apply m_take 6 rfl
          · exact y_nilCheck rfl
          · with_reducible (repeat (first | exact cB | apply cT | apply cK))
          · kernel_rfl
          · rfl
          apply m_take 7 rfl
          · exact yF rfl (hE.t rfl) rfl
          · with_reducible (repeat (first | exact cB | apply cT | apply cK))
          · kernel_rfl
          · rfl
          apply m_take 8 rfl
          · exact yF rfl (hE.t rfl) rfl
          · with_reducible (repeat (first | exact cB | apply cT | apply cK))
          · kernel_rfl
          · rfl
          apply m_take 9 rfl
          · (apply y_load rfl (hE.t rfl) rfl; (repeat (first | rfl | assumption | constructor)); done)
          · with_reducible (repeat (first | exact cB | apply cT | apply cK))
          · kernel_rfl
          · rfl
          apply m_take 10 rfl
          · exact yM rfl
          · with_reducible (repeat (first | exact cB | apply cT | apply cK))
          · kernel_rfl
          · rfl
          apply m_take 11 rfl
          · (first | exact y_build (hE.t rfl) rfl rfl | exact y_buildA (hE.t rfl) rfl rfl)
          · with_reducible (repeat (first | exact cB | apply cT | apply cK))
          · kernel_rfl
          · rfl
          apply m_loud 12 rfl (by kernel_rfl) rfl
          refine ld_alloc (hE.t rfl) (fun b8 => ?_)
          refine ⟨by (apply ent; (repeat constructor); done), ?_⟩
          apply m_last rfl (by kernel_rfl) (by kernel_rfl) rfl
          (first | (apply ld_store rfl rfl (hE.t rfl) rfl; (focus ((repeat constructor); done)); (focus rfl); (focus (exact Nat.le_of_ble_eq_true rfl))) | (apply ld_store_sl rfl rfl (hE.t rfl) rfl; (focus ((repeat constructor); done)); (focus rfl); (focus (first | omega | (simp only [cellsL, length_setMany, List.length_cons, List.length_nil]; omega)))))
          refine aT ?_
          rw [← hp]
          have hup := ct_up (pp := pp) (tb := tb) (s := s) (most := most) hE hB (b := S) (bt := 127) (p := B.p) (c := B.c) (pre := [.pointer (some ⟨pp, 0, none⟩), .pointer (some ⟨pp, 0, none⟩), .bool false, .slice A.p A.fs.length A.c, .int .i64 (A.x : Nat), .int .u64 (key (rls Es) A.x : Nat)]) (suf := [.slice M.p M.its.length M.c]) (lv := l + 1) hs eB
          rw [eu] at hup
          refine w_seq (wR ?_)
          refine lY (yM rfl) rfl ?_
          refine lY (y_nilCheck rfl) rfl ?_
          refine lY (yF rfl (hE.t rfl) rfl) rfl ?_
          refine lY (yM rfl) rfl ?_
          apply lL (by kernel_rfl) rfl
          apply ld_call (hup) rfl (hE.f (by kernel_rfl))
          · ((repeat constructor); done)
          rintro _ _ ⟨rfl, rfl⟩
          simp only [List.cons_append, List.nil_append]
          refine l_nil (aT ?_)
          refine w_cut (fun t : Nat => [(0, .pointer (some ⟨S, 0, none⟩)), (1, .int .i64 ((l + 1 : Nat) : Int)), (4, .int .u64 (key (rls Es) B0.x : Nat)), (8, .pointer (some ⟨b8, 0, none⟩))]) (fun t => [cells pp [.pointer (some ⟨s, 0, none⟩), .pointer (some ⟨tb, 0, none⟩)] 59, tabP tb s (rls Es), storeP s most Es, cells S [.pointer (some ⟨pp, 0, none⟩), .pointer (some ⟨pp, 0, none⟩), .bool false, .slice A.p A.fs.length A.c, .int .i64 (A.x : Nat), .int .u64 (key (rls Es) A.x : Nat), .pointer (some ⟨pp, 0, none⟩), .bool true, .slice (⟨f.id, gs, B.p, B.c⟩ : Sd).p (⟨f.id, gs, B.p, B.c⟩ : Sd).fs.length (⟨f.id, gs, B.p, B.c⟩ : Sd).c, .int .i64 ((⟨f.id, gs, B.p, B.c⟩ : Sd).x : Nat), .int .u64 (key (rls Es) (⟨f.id, gs, B.p, B.c⟩ : Sd).x : Nat), .slice M.p M.its.length M.c] 127, sl A.p A.c 160 8 A.fs.length (pathC (rls Es) A.fs), sl (⟨f.id, gs, B.p, B.c⟩ : Sd).p (⟨f.id, gs, B.p, B.c⟩ : Sd).c 160 8 (⟨f.id, gs, B.p, B.c⟩ : Sd).fs.length (pathC (rls Es) (⟨f.id, gs, B.p, B.c⟩ : Sd).fs), sl M.p M.c 172 4 M.its.length (itsC (rls Es) M.its), cells b8 [.int .i64 (a : Nat), .int .i64 (b : Nat), .int .u64 (key (rls Es) B0.x : Nat), .int .i64 (t : Nat)] 172, R]) (fun t => Drp (rls Es) t gs) ?_ ?_
          · skip
            refine w_seq (wR ?_)
            refine lY (yM rfl) rfl ?_
            refine lY (y_nilCheck rfl) rfl ?_
            refine lY (yF rfl (hE.t rfl) rfl) rfl ?_
            refine lY (yM rfl) rfl ?_
            refine lY (y_add rfl rfl (by omega) (by omega)) rfl ?_
            refine l_eq 127 (.int .i64 ((l + 1 + 1 : Nat) : Int)) rfl (int_eq (by omega)) ?_
            apply lL (by kernel_rfl) rfl
            apply ld_call (ct_parent hE (b := S) (pre := [.pointer (some ⟨pp, 0, none⟩), .pointer (some ⟨pp, 0, none⟩), .bool false, .slice A.p A.fs.length A.c, .int .i64 (A.x : Nat), .int .u64 (key (rls Es) A.x : Nat)]) (suf := [.slice M.p M.its.length M.c]) (fs := gs) hgs) rfl (hE.f (by kernel_rfl))
            · ((repeat constructor); done)
            rintro v _ ⟨⟨o2, ho2, hv2⟩, rfl⟩
            simp only [List.cons_append, List.nil_append]
            refine lY (yA rfl) rfl ?_
            refine l_nil (aT ?_)
            cases o2 with
            | none =>
              obtain rfl : v = .pointer none := hv2
              skip
              refine w_seq (wR ?_)
              refine lY (yM rfl) rfl ?_
              apply lY
              · (first | exact y_ne_ptr rfl (hE.t rfl) | exact y_ne_nil rfl (hE.t rfl))
              · rfl
              refine l_nil (aT ?_)
              refine w_cond_f rfl ?_
              refine w_skip ?_
              refine a_cut (ι := Nat) 1 (drp_one l1) ⟨rfl, rfl, rfl, rfl, trivial⟩ ?_
              (apply ent; (repeat constructor); done)
            | some f2 =>
              obtain ⟨gs2, g2', hfs3, hp2, rfl⟩ := hv2
              have f8 : (pathC (rls Es) gs)[(pathC (rls Es) gs2).length + 7]? = some (.int .i64 (f2.hv : Nat)) := by rw [hfs3]; exact path_hv
              rw [hp2]
              skip
              refine w_seq (wR ?_)
              refine lY (yM rfl) rfl ?_
              apply lY
              · (first | exact y_ne_ptr rfl (hE.t rfl) | exact y_ne_nil rfl (hE.t rfl))
              · rfl
              refine l_nil (aT ?_)
              refine w_cond_t rfl ?_
              refine wR ?_
              refine lY (yM rfl) rfl ?_
              refine lY (y_nilCheck rfl) rfl ?_
              refine lY (yF rfl (hE.t rfl) rfl) rfl ?_
              apply lY
              · (apply y_load rfl (hE.t rfl) rfl; (repeat (first | rfl | assumption | constructor)); done)
              · rfl
              refine lY (yF rfl (hE.t rfl) rfl) rfl ?_
              apply lL (by kernel_rfl) rfl
              (first | (apply ld_store rfl rfl (hE.t rfl) rfl; (focus ((repeat constructor); done)); (focus rfl); (focus (exact Nat.le_of_ble_eq_true rfl))) | (apply ld_store_sl rfl rfl (hE.t rfl) rfl; (focus ((repeat constructor); done)); (focus rfl); (focus (first | omega | (simp only [cellsL, length_setMany, List.length_cons, List.length_nil]; omega)))))
              refine l_nil ?_
              rw [← hp2]
              refine a_cut (ι := Nat) f2.hv ?_ ⟨rfl, rfl, rfl, rfl, trivial⟩ ?_
              · subst hfs3
                obtain ⟨r2, m1, m2, m3, m4, m5, m6, _⟩ := l1.inv
                have ok2 := m1.ok hw hs
                have er2 := rlAt_eq m3
                have hl2 := ho2.2
                refine ⟨m5, fun e => by simp at e, fun g3 f3' e => ?_⟩
                obtain ⟨_, rfl⟩ := fm_snoc e
                refine ⟨Nat.le_refl _, .inr ?_⟩
                cases r2 with
                | letter b => exact absurd rfl (m4 b)
                | pair a' b' => have := (lvl_pair hw m2 m3 ok2.2.2.1).1; omega
                | power y n => exact ⟨y, n, er2⟩
              · (apply ent; (repeat constructor); done)
          intro t hdt
          skip
          refine w_seq ?_
          refine w_until 10 ([cells S [.pointer (some ⟨pp, 0, none⟩), .pointer (some ⟨pp, 0, none⟩), .bool false, .slice A.p A.fs.length A.c, .int .i64 (A.x : Nat), .int .u64 (key (rls Es) A.x : Nat), .pointer (some ⟨pp, 0, none⟩), .bool true, .slice (⟨f.id, gs, B.p, B.c⟩ : Sd).p (⟨f.id, gs, B.p, B.c⟩ : Sd).fs.length (⟨f.id, gs, B.p, B.c⟩ : Sd).c, .int .i64 ((⟨f.id, gs, B.p, B.c⟩ : Sd).x : Nat), .int .u64 (key (rls Es) (⟨f.id, gs, B.p, B.c⟩ : Sd).x : Nat), .slice M.p M.its.length M.c] 127, cells b8 [.int .i64 (a : Nat), .int .i64 (b : Nat), .int .u64 (key (rls Es) B0.x : Nat), .int .i64 (t : Nat)] 172]) ?_ ?_
          · (apply ent; (repeat constructor); done)
          apply m_take 0 rfl
          · exact yM rfl
          · with_reducible (repeat (first | exact cB | apply cT | apply cK))
          · kernel_rfl
          · rfl
          apply m_take 1 rfl
          · exact yM rfl
          · with_reducible (repeat (first | exact cB | apply cT | apply cK))
          · kernel_rfl
          · rfl
          apply m_take 2 rfl
          · exact y_nilCheck rfl
          · with_reducible (repeat (first | exact cB | apply cT | apply cK))
          · kernel_rfl
          · rfl
          apply m_take 3 rfl
          · exact yF rfl (hE.t rfl) rfl
          · with_reducible (repeat (first | exact cB | apply cT | apply cK))
          · kernel_rfl
          · rfl
          apply m_take 4 rfl
          · (apply y_load rfl (hE.t rfl) rfl; (repeat (first | rfl | assumption | constructor)); done)
          · with_reducible (repeat (first | exact cB | apply cT | apply cK))
          · kernel_rfl
          · rfl
          apply m_one 5 rfl (by kernel_rfl)
          · (apply y_load_agg rfl (hE.t rfl) rfl; (repeat (first | rfl | assumption | constructor)); done)
          · rfl
          apply m_loud 6 rfl (by kernel_rfl) rfl
          refine ld_buildSlice (hE.t rfl) (hE.t rfl) rfl rfl rfl (fun b142 => ?_)
          refine ⟨by (apply ent; (repeat constructor); done), ?_⟩
          apply m_loud 7 rfl (by kernel_rfl) rfl
          apply ld_append (hE.t rfl) (hE.t rfl) rfl rfl rfl
          · ((repeat constructor); done)
          · ((repeat constructor); done)
          · rfl
          · rfl
          · omega
          · omega
          · (unfold maxLen; omega)
          intro g143 c143 n143 x143 hn143 hx143
          refine ⟨by (apply ent; (repeat constructor); done), ?_⟩
          apply m_one 8 rfl (by kernel_rfl)
          · exact y_nilCheck rfl
          · rfl
          apply m_one 9 rfl (by kernel_rfl)
          · exact yF rfl (hE.t rfl) rfl
          · rfl
          apply m_last rfl (by kernel_rfl) (by kernel_rfl) rfl
          (first | (apply ld_store rfl rfl (hE.t rfl) rfl; (focus ((repeat constructor); done)); (focus rfl); (focus (exact Nat.le_of_ble_eq_true rfl))) | (apply ld_store_sl rfl rfl (hE.t rfl) rfl; (focus ((repeat constructor); done)); (focus rfl); (focus (first | omega | (simp only [cellsL, length_setMany, List.length_cons, List.length_nil]; omega)))))
          refine aT ?_
          obtain rfl : x143 = itsC (rls Es) (M.its ++ [⟨a, b, t⟩]) := by rw [hx143, itsC_snoc]; simp only; rw [hka]; rfl
          subst hn143
          refine w_draws (by kernel_rfl) ?_
          refine lY (yM rfl) rfl ?_
          refine lY (y_nilCheck rfl) rfl ?_
          refine lY (yF rfl (hE.t rfl) rfl) rfl ?_
          refine lY (yF rfl (hE.t rfl) rfl) rfl ?_
          apply lY
          · (apply y_load rfl (hE.t rfl) rfl; (repeat (first | rfl | assumption | constructor)); done)
          · rfl
          refine lY (yM rfl) rfl ?_
          refine lY (y_sub rfl rfl (by omega) (by omega)) rfl ?_
          refine l_eq 152 (.int .i64 (l : Nat)) rfl (int_eq (by omega)) ?_
          have hdr := ct_drop_ (pp := pp) (tb := tb) (s := s) (most := most) hE hB (b := S) (bt := 127) (p := B.p) (c := B.c) (k := key (rls Es) f.id) (pre := [.pointer (some ⟨pp, 0, none⟩), .pointer (some ⟨pp, 0, none⟩), .bool false, .slice A.p A.fs.length A.c, .int .i64 (A.x : Nat), .int .u64 (key (rls Es) A.x : Nat)]) (suf := [.slice (⟨M.its ++ [⟨a, b, t⟩], some ⟨g143, 0, none⟩, c143⟩ : Md).p (⟨M.its ++ [⟨a, b, t⟩], some ⟨g143, 0, none⟩, c143⟩ : Md).its.length (⟨M.its ++ [⟨a, b, t⟩], some ⟨g143, 0, none⟩, c143⟩ : Md).c]) hs l1 hdt hl1
          simp only [List.length_append, List.length_singleton] at hdr
          apply lL (by kernel_rfl) rfl
          apply ld_call (hdr) rfl (hE.f (by kernel_rfl))
          · ((repeat constructor); done)
          rintro _ _ ⟨x', gs', p', c'', rfl, q1, rfl⟩
          simp only [List.cons_append, List.nil_append]
          refine l_nil (a_block ?_)
          obtain ⟨v1, v2, v3⟩ := mvd_pairs hw hs eBf hx hlv hev h2 l4 hdt q1
          have ef : itF ⟨a, b, t⟩ = (List.replicate t [a, b]).flatten := by unfold itF; simp only [if_neg hb0]
          refine a_round (ι := StrG) (j := ⟨⟨x', gs', p', c''⟩, ⟨M.its ++ [⟨a, b, t⟩], some ⟨g143, 0, none⟩, c143⟩⟩) ⟨v1, itt_add hI ⟨hdt.1, fun h => absurd h hb0, fun _ => by rw [hka, hkb]⟩, ?_, .inr ⟨v2, by simp, fun u hu => ?_⟩, fun hd => ?_⟩ ?_ ⟨rfl, rfl, rfl, trivial⟩ ?_
          · rw [← hrow]
            rw [hfs, v3, flatI_append, flatI_one, ef, List.append_assoc]
          · simp only at hu
            rw [flatI_append, flatI_one, pair_last hdt.1 hb0] at hu
            cases hu
            exact hkb
          · exfalso
            have okf := l1.ok hw hs
            have hp2 := lvl_pair hw l2 l3 okf.2.2.1
            obtain ⟨k1', k2', k3', k4'⟩ := hw.ok _ _ l3
            have hfl' := okf.2.1
            exact hp2.2.1 (hd a b k1' (by omega) k3' (by omega) (by rw [hka, hkb]))
          · show (seqE (rls Es) true l x' gs').length < (seqE (rls Es) true l B.x B.fs).length
            rw [hfs, v3, ← ef]
            have := itF_head (it := ⟨a, b, t⟩) hdt.1
            cases e : itF ⟨a, b, t⟩ with
            | nil => rw [e] at this; simp at this
            | cons q qs => simp; omega
          · simp only [List.length_append, List.length_singleton]
            (apply ent; (repeat constructor); done)
    · skip
      refine w_exit (a_then_exit (a_then_exit (a_block_exit ?_)))
      apply a_end
      · rfl
      · (exact Rs.nil)
      · exact fin (.inr (by omega))
      · (apply ent; (repeat constructor); done)
  · skip
    refine l_off rfl rfl rfl rfl (l_off rfl rfl rfl rfl (l_off rfl rfl rfl rfl (l_off rfl rfl rfl rfl (l_off rfl rfl rfl rfl (l_off rfl rfl rfl rfl (l_off rfl rfl rfl rfl ?_))))))
    apply lY
    · (first | exact y_pick_t rfl rfl | exact y_pick_f rfl rfl)
    · rfl
    refine l_nil (aT ?_)
    refine w_cond_f rfl ?_
    refine w_exit (a_then_exit (a_then_exit (a_block_exit ?_)))
    apply a_end
    · rfl
    · (exact Rs.nil)
    · exact fin (.inl (by omega))
    · (apply ent; (repeat constructor); done)
end Go.Proofs.YtekhbjlplfbdkaaGreatDoor
namespace Go.Proofs.YtekhbjlplfbdkaaGreatDoor
open Go Go.RowKit Sl Eg
set_option maxRecDepth 10000
variable {E : Env} {Es : List Ent} {pp tb s most S : Nat}
def Shp (L : List Rl) (lv : Nat) (its : List It) : Prop := if lv % 2 = 1 then Sng its else if num lv = 122 then ItT L its else Sng its ∧ ∀ it ∈ its, it.times = 1
structure Rdy (L : List Rl) (l rl rr : Nat) (A B : Sd) (M : Md) (A' B' : Sd) (M' : Md) : Prop where
  left : RL L l rl A'.x A'.fs (flatI M'.its ++ seqE L true l B'.x B'.fs)
  right : RR L l rr B'.x B'.fs (flatI M'.its)
  row : seqE L false l A'.x A'.fs ++ (flatI M'.its ++ seqE L true l B'.x B'.fs) = seqE L false l A.x A.fs ++ (flatI M.its ++ seqE L true l B.x B.fs)
  ne : M'.its = [] → M.its = [] ∧ A' = A ∧ B' = B
  grow : Dk L → Grw M.its M'.its
  shp : Shp L (l + 1) M'.its
theorem one_ins {x : Nat} {its : List It} (h : ∀ it ∈ its, it.times = 1) : ∀ it ∈ (⟨x, 0, 1⟩ :: its : List It), it.times = 1 := fun it hit => by
  rcases List.mem_cons.1 hit with rfl | hit
  · rfl
  · exact h it hit
theorem one_add {x : Nat} {its : List It} (h : ∀ it ∈ its, it.times = 1) : ∀ it ∈ (its ++ [⟨x, 0, 1⟩] : List It), it.times = 1 := fun it hit => by
  rcases List.mem_append.1 hit with hit | hit
  · exact h it hit
  · obtain rfl := List.mem_singleton.1 hit; rfl
theorem ct_gather (hE : Seat E) (hB : Base E.w0) {l rl rr : Nat} {A B : Sd} {M : Md} (hs : Sig (rls Es) rl) (hsr : Sig (rls Es) rr) (eA : EO (rls Es) false l rl A.x A.fs) (eB : EO (rls Es) true l rr B.x B.fs) (hM : Sng M.its) (hone : (l + 1) % 2 = 0 → ∀ it ∈ M.its, it.times = 1) (hR : ∀ x ∈ flatI M.its, 1 ≤ x ∧ x ≤ (rls Es).length) (hlen : (seqE (rls Es) false l A.x A.fs ++ (flatI M.its ++ seqE (rls Es) true l B.x B.fs)).length ≤ 1000000000) (hll : l + 1 < 1000000000000) (h1l : 1 ≤ l + 1) :
    Ct E 59 [.pointer (some ⟨S, 0, none⟩), .int .i64 ((l + 1 : Nat) : Int)] [cells pp [.pointer (some ⟨s, 0, none⟩), .pointer (some ⟨tb, 0, none⟩)] 59, tabP tb s (rls Es), storeP s most Es, cells S [.pointer (some ⟨pp, 0, none⟩), .pointer (some ⟨pp, 0, none⟩), .bool false, .slice A.p A.fs.length A.c, .int .i64 (A.x : Nat), .int .u64 (key (rls Es) A.x : Nat), .pointer (some ⟨pp, 0, none⟩), .bool true, .slice B.p B.fs.length B.c, .int .i64 (B.x : Nat), .int .u64 (key (rls Es) B.x : Nat), .slice M.p M.its.length M.c] 127, sl A.p A.c 160 8 A.fs.length (pathC (rls Es) A.fs), sl B.p B.c 160 8 B.fs.length (pathC (rls Es) B.fs), sl M.p M.c 172 4 M.its.length (itsC (rls Es) M.its)]
      (fun v Q => ∃ (A' B' : Sd) (M' : Md), v = .tuple #[] ∧ Rdy (rls Es) l rl rr A B M A' B' M' ∧ Q = [cells pp [.pointer (some ⟨s, 0, none⟩), .pointer (some ⟨tb, 0, none⟩)] 59, tabP tb s (rls Es), storeP s most Es, cells S [.pointer (some ⟨pp, 0, none⟩), .pointer (some ⟨pp, 0, none⟩), .bool false, .slice A'.p A'.fs.length A'.c, .int .i64 (A'.x : Nat), .int .u64 (key (rls Es) A'.x : Nat), .pointer (some ⟨pp, 0, none⟩), .bool true, .slice B'.p B'.fs.length B'.c, .int .i64 (B'.x : Nat), .int .u64 (key (rls Es) B'.x : Nat), .slice M'.p M'.its.length M'.c] 127, sl A'.p A'.c 160 8 A'.fs.length (pathC (rls Es) A'.fs), sl B'.p B'.c 160 8 B'.fs.length (pathC (rls Es) B'.fs), sl M'.p M'.c 172 4 M'.its.length (itsC (rls Es) M'.its)]) := by
  refine ct_fact (p := storeP s most Es) (by ((repeat constructor); done)) (fun _ h => storeP_says h) (fun hsay => ?_)
  have hw := hsay.1
  have hml : M.its.length ≤ 1000000000 := by
    have := its_len (its := M.its) fun it h => (hM it h).2
    rw [List.length_append, List.length_append] at hlen
    omega
  have hlf : (seqE (rls Es) false l A.x A.fs).length + (flatI M.its).length + (seqE (rls Es) true l B.x B.fs).length ≤ 1000000000 := by
    rw [List.length_append, List.length_append] at hlen
    omega
  refine fn_enter (hE.fn Tryz.func59) rfl rfl rfl (fun R => ?_)
  simp only [argsL, List.cons_append, List.nil_append]
  refine w_seq (w_seq (wR ?_))
  refine lY (yM rfl) rfl ?_
  refine lY (y_rem rfl rfl (by omega) (by omega)) rfl ?_
  refine lY (y_eq rfl rfl) rfl ?_
  refine l_nil (aT ?_)
  refine w_cond_d rfl (fun h0 => ?_) (fun h0 => ?_)
  · skip
    have hodd : (l + 1) % 2 = 1 := by omega
    refine w_seq (wR ?_)
    refine lY (yM rfl) rfl ?_
    refine lY (yM rfl) rfl ?_
    apply lL (by kernel_rfl) rfl
    apply ld_call (ct_gatherRuns hE hB (S := S) hs hsr eA eB hM hR (by omega) hodd (by omega)) rfl (hE.f (by kernel_rfl))
    · ((repeat constructor); done)
    rintro _ _ ⟨A', B', M', rfl, hgr, hsg, -, rfl⟩
    simp only [List.cons_append, List.nil_append]
    refine l_nil (aT (w_ret (a_then_ret ?_)))
    apply a_ret
    · rfl
    · (exact Rs.nil)
    · exact ⟨A', B', M', rfl, ⟨hgr.left, hgr.right, hgr.row, hgr.ne, fun _ => hgr.grow, by unfold Shp; rw [if_pos hodd]; exact hsg⟩, rfl⟩
    · (apply ent; (repeat constructor); done)
  · skip
    have hev : (l + 1) % 2 = 0 := by omega
    have hodd : ¬ (l + 1) % 2 = 1 := by omega
    have h2l : 2 ≤ l + 1 := by omega
    have hlt : l + 1 < 1099511627776 := by omega
    refine w_skip (aT (w_seq (wR ?_)))
    refine lY (yM rfl) rfl ?_
    apply lL (by kernel_rfl) rfl
    apply ld_call (ct_number hE h2l hev hlt) rfl (hE.f (by kernel_rfl))
    · ((repeat constructor); done)
    rintro _ _ ⟨⟨q1, q2, d, rfl, hd⟩, rfl⟩
    simp only [List.cons_append, List.nil_append]
    refine lY (yM rfl) rfl ?_
    refine lY (y_extract rfl rfl) rfl ?_
    refine lY (y_extract rfl rfl) rfl ?_
    refine lY (y_extract rfl rfl) rfl ?_
    refine lY (yA rfl) rfl ?_
    refine lY (yA rfl) rfl ?_
    refine lY (yA rfl) rfl ?_
    refine l_nil (aT (w_seq (wR ?_)))
    refine lY (yM rfl) rfl ?_
    refine lY (yM rfl) rfl ?_
    apply lL (by kernel_rfl) rfl
    apply ld_call (ct_gatherLeft hE hB (S := S) hs eA eB (fun it h => (hM it h).2) hR (by omega) hev hlt) rfl (hE.f (by kernel_rfl))
    · ((repeat constructor); done)
    rintro _ _ ⟨A', M1, rfl, hRL, hseq, hsh, rfl⟩
    simp only [List.cons_append, List.nil_append]
    have hM1 : Sng M1.its ∧ (∀ it ∈ M1.its, it.times = 1) ∧ (M1.its = [] → M.its = [] ∧ A' = A) ∧ ∃ a, M1.its = a ++ M.its ∧ a.length ≤ 1 := by
      rcases hsh with ⟨rfl, rfl⟩ | ⟨e, _⟩
      · exact ⟨hM, hone hev, (fun h => ⟨h, rfl⟩), [], rfl, Nat.zero_le _⟩
      · rw [e]
        exact ⟨sng_ins hM (Nat.le_refl _), one_ins (hone hev), (fun h => by cases h), [_], rfl, Nat.le_refl _⟩
    have hR1 : ∀ x ∈ flatI M1.its, 1 ≤ x ∧ x ≤ (rls Es).length := by
      intro x hx
      have hmem : x ∈ seqE (rls Es) false l A.x A.fs ++ flatI M.its := by rw [← hseq]; simp [hx]
      rcases List.mem_append.1 hmem with h | h
      · have := eA.mem hw hs x h; omega
      · exact hR x h
    have hl1 : (seqE (rls Es) false l A'.x A'.fs).length + (flatI M1.its).length = (seqE (rls Es) false l A.x A.fs).length + (flatI M.its).length := by
      rw [← List.length_append, hseq, List.length_append]
    have hml1 : M1.its.length ≤ 1099511627776 := by
      have := its_len (its := M1.its) fun it h => (hM1.1 it h).2
      omega
    refine l_nil (aT (w_seq (wR ?_)))
    refine lY (yM rfl) rfl ?_
    refine l_nil (aT ?_)
    skip
    cases d with
    | true =>
      have hn := hd.1 rfl
      have hI1 : ItT (rls Es) M1.its := fun it hit => by
        have h1 := hM1.1 it hit
        have h2 := hM1.2.1 it hit
        exact ⟨h1.2, fun _ => h2, fun h => absurd h1.1 h⟩
      have hlen1 : (flatI M1.its ++ seqE (rls Es) true l B.x B.fs).length ≤ 1000000000 := by rw [List.length_append]; omega
      refine w_cond_t rfl ?_
      refine wR ?_
      refine lY (yM rfl) rfl ?_
      refine lY (yM rfl) rfl ?_
      apply lL (by kernel_rfl) rfl
      apply ld_call (ct_gatherStretch hE hB (S := S) hsr eB hM1.1 hI1 hR1 hlen1 hev hll hn) rfl (hE.f (by kernel_rfl))
      · ((repeat constructor); done)
      rintro _ _ ⟨B', M', rfl, hRR, hrow, hit, hne, hgw, rfl⟩
      simp only [List.cons_append, List.nil_append]
      refine l_nil ?_
      apply a_end
      · rfl
      · (exact Rs.nil)
      · refine ⟨A', B', M', rfl, ⟨by rw [hrow]; exact hRL, hRR, by rw [hrow, ← List.append_assoc, hseq, List.append_assoc], fun h => ?_, fun hd => ?_, by unfold Shp; rw [if_neg hodd, if_pos hn]; exact hit⟩, rfl⟩
        · obtain ⟨n1, n2⟩ := hne h
          exact ⟨(hM1.2.2.1 n1).1, (hM1.2.2.1 n1).2, n2⟩
        obtain ⟨a, ha1, ha2⟩ := hM1.2.2.2
        obtain ⟨b, hb1, hb2⟩ := hgw hd
        exact ⟨a, b, by rw [hb1, ha1], ha2, hb2⟩
      · (apply ent; (repeat constructor); done)
    | false =>
      have hn : num (l + 1) ≠ 122 := fun h => by have := hd.2 h; cases this
      skip
      refine w_cond_f rfl ?_
      refine wR ?_
      refine lY (yM rfl) rfl ?_
      refine lY (yM rfl) rfl ?_
      apply lL (by kernel_rfl) rfl
      apply ld_call (ct_gatherRight hE hB (S := S) (A := A') hsr eB hM1.1 hR1 hml1 hev hlt hn) rfl (hE.f (by kernel_rfl))
      · ((repeat constructor); done)
      rintro _ _ ⟨B', M', rfl, hRR, hrow, hsh2, rfl⟩
      simp only [List.cons_append, List.nil_append]
      refine l_nil ?_
      apply a_end
      · rfl
      · (exact Rs.nil)
      · refine ⟨A', B', M', rfl, ⟨by rw [hrow]; exact hRL, hRR, by rw [hrow, ← List.append_assoc, hseq, List.append_assoc], fun h => ?_, fun _ => ?_, by
          unfold Shp
          rw [if_neg hodd, if_neg hn]
          rcases hsh2 with ⟨rfl, _⟩ | ⟨e, _⟩
          · exact ⟨hM1.1, hM1.2.1⟩
          · rw [e]
            exact ⟨sng_add hM1.1 (Nat.le_refl _), one_add hM1.2.1⟩⟩, rfl⟩
        · rcases hsh2 with ⟨rfl, rfl⟩ | ⟨e, _⟩
          · exact ⟨(hM1.2.2.1 h).1, (hM1.2.2.1 h).2, rfl⟩
          · rw [e] at h; simp at h
        · obtain ⟨a, ha1, ha2⟩ := hM1.2.2.2
          rcases hsh2 with ⟨rfl, rfl⟩ | ⟨e, _⟩
          · exact ⟨a, [], by rw [ha1, List.append_nil], ha2, Nat.zero_le _⟩
          · exact ⟨a, [_], by rw [e, ha1], ha2, Nat.le_refl _⟩
      · (apply ent; (repeat constructor); done)
end Go.Proofs.YtekhbjlplfbdkaaGreatDoor
namespace Go.Proofs.YtekhbjlplfbdkaaGreatDoor
open Go Go.RowKit Sl Eg
set_option maxRecDepth 10000
variable {E : Env} {Es : List Ent} {pp tb s most S : Nat}
theorem last_id {L : List Rl} {is : List It} {y : It} : (itsC L (is ++ [y]))[(itsC L is).length]? = some (.int .i64 (y.id : Nat)) ∧ (itsC L (is ++ [y]))[(itsC L is).length + 3]? = some (.int .i64 (y.times : Nat)) := by
  rw [itsC_snoc]; exact ⟨ap_0, ap_3⟩
theorem last_more {L : List Rl} {is : List It} {y : It} {t : Nat} : setMany (itsC L (is ++ [y])) ((itsC L is).length + 3) [.int .i64 (t : Nat)] = itsC L (is ++ [⟨y.id, y.next, t⟩]) := by
  rw [itsC_snoc, itsC_snoc, sm_3]
theorem ct_pushI (hE : Seat E) {L : List Rl} {l : List It} {x : It} {p : Option Addr} {c : Nat} (hl : l.length ≤ 1000000000000) (ht : ∀ y ∈ l, y.times + x.times ≤ 9223372036854775807) :
    Ct E 146 [.slice p l.length c, .agg #[.int .i64 (x.id : Nat), .int .i64 (x.next : Nat), .int .u64 (key L x.id : Nat), .int .i64 (x.times : Nat)]] [sl p c 172 4 l.length (itsC L l)] (fun v Q => ∃ p' c', v = .slice p' (pushI l x).length c' ∧ Q = [sl p' c' 172 4 (pushI l x).length (itsC L (pushI l x))]) := by
  rcases List.eq_nil_or_concat l with rfl | ⟨is, y, rfl⟩
  · refine fn_enter (hE.fn Tryz.func146) rfl rfl rfl (fun R => ?_)
    simp only [argsL, List.cons_append, List.nil_append]
    refine w_seq (wR ?_)
    apply lL (by kernel_rfl) rfl
    refine ld_box rfl (fun b3 => ?_)
    refine lY (yA rfl) rfl ?_
    refine l_nil (aT (w_seq (w_seq (wR ?_))))
    refine lY (yM rfl) rfl ?_
    refine lY (y_len_slice rfl (hE.t rfl)) rfl ?_
    refine lY (yA rfl) rfl ?_
    refine l_nil (aT (w_seq (w_draws (by kernel_rfl) ?_)))
    refine lY (yM rfl) rfl ?_
    refine lY (y_gt rfl rfl) rfl ?_
    refine lY (yM rfl) rfl ?_
    refine l_eq 10 (.bool false) rfl (by simp) ?_
    skip
    skip
    refine l_off rfl rfl rfl rfl (l_off rfl rfl rfl rfl (l_off rfl rfl rfl rfl (l_off rfl rfl rfl rfl (l_off rfl rfl rfl rfl (l_off rfl rfl rfl rfl (l_off rfl rfl rfl rfl (l_off rfl rfl rfl rfl ?_)))))))
    refine l_off rfl rfl rfl rfl ?_
    apply lY
    · (first | exact y_pick_t rfl rfl | exact y_pick_f rfl rfl)
    · rfl
    refine l_nil (aT ?_)
    refine w_cond_f rfl ?_
    refine w_skip (aT (w_seq (wR ?_)))
    refine lY (yM rfl) rfl ?_
    apply lY
    · (apply y_load_agg rfl (hE.t rfl) rfl; (repeat (first | rfl | assumption | constructor)); done)
    · rfl
    apply lL (by kernel_rfl) rfl
    refine ld_buildSlice (hE.t rfl) (hE.t rfl) rfl rfl rfl (fun b35 => ?_)
    apply lL (by kernel_rfl) rfl
    apply ld_append (hE.t rfl) (hE.t rfl) rfl rfl rfl
    · ((repeat constructor); done)
    · ((repeat constructor); done)
    · rfl
    · rfl
    · omega
    · omega
    · (unfold maxLen; omega)
    intro g36 c36 n36 x36 hn36 hx36
    refine lY (yA rfl) rfl ?_
    refine l_nil (aT (w_ret ?_))
    obtain rfl : x36 = itsC L [x] := by rw [hx36, itsC_cons]; rfl
    subst hn36
    apply a_ret
    · rfl
    · (apply Rs.tmp rfl; exact Rs.nil)
    · exact ⟨_, _, rfl, rfl⟩
    · (apply ent; (repeat constructor); done)
  · rw [List.concat_eq_append] at *
    have hil : (is ++ [y]).length = is.length + 1 := by simp
    have hty := ht y (by simp)
    have hpl := itsC_length L is
    obtain ⟨f0, f3⟩ := last_id (L := L) (is := is) (y := y)
    refine ct_fact (p := sl p c 172 4 (is ++ [y]).length (itsC L (is ++ [y]))) (by ((repeat constructor); done)) (fun _ h => sl_form h (by omega)) ?_
    rintro ⟨g, rfl⟩
    refine fn_enter (hE.fn Tryz.func146) rfl rfl rfl (fun R => ?_)
    simp only [argsL, List.cons_append, List.nil_append]
    refine w_seq (wR ?_)
    apply lL (by kernel_rfl) rfl
    refine ld_box rfl (fun b3 => ?_)
    refine lY (yA rfl) rfl ?_
    refine l_nil (aT (w_seq (w_seq (wR ?_))))
    refine lY (yM rfl) rfl ?_
    refine lY (y_len_slice rfl (hE.t rfl)) rfl ?_
    refine lY (yA rfl) rfl ?_
    refine l_nil (aT (w_seq (w_draws (by kernel_rfl) ?_)))
    refine lY (yM rfl) rfl ?_
    refine lY (y_gt rfl rfl) rfl ?_
    refine lY (yM rfl) rfl ?_
    refine l_eq 10 (.bool true) rfl (by simp) ?_
    skip
    skip
    refine l_on rfl rfl ?_
    refine lY (yM rfl) rfl ?_
    refine l_on rfl rfl ?_
    refine lY (yM rfl) rfl ?_
    refine l_on rfl rfl ?_
    refine lY (y_sub rfl rfl (by omega) (by omega)) rfl ?_
    refine l_on rfl rfl ?_
    refine lY (y_indexAddr rfl rfl (hE.t rfl) (by omega) (by omega)) rfl ?_
    refine l_eq 14 _ rfl (ptr_lastI (L := L) (its := is) hil) ?_
    refine l_on rfl rfl ?_
    refine lY (yF rfl (hE.t rfl) rfl) rfl ?_
    refine l_on rfl rfl ?_
    apply lY
    · (apply y_load rfl (hE.t rfl) rfl; (repeat (first | rfl | assumption | constructor)); done)
    · rfl
    refine l_on rfl rfl ?_
    refine lY (yF rfl (hE.t rfl) rfl) rfl ?_
    refine l_on rfl rfl ?_
    apply lY
    · (apply y_load rfl (hE.t rfl) rfl; (repeat (first | rfl | assumption | constructor)); done)
    · rfl
    refine l_on rfl rfl ?_
    refine lY (y_eq rfl rfl) rfl ?_
    apply lY
    · (first | exact y_pick_t rfl rfl | exact y_pick_f rfl rfl)
    · rfl
    refine l_nil (aT ?_)
    refine w_cond_d rfl (fun h => ?_) (fun h => ?_)
    · skip
      have e : pushI (is ++ [y]) x = is ++ [⟨y.id, y.next, y.times + x.times⟩] := by rw [pushI_snoc, if_pos (by omega)]
      rw [e]
      refine w_seq (w_draws (by kernel_rfl) ?_)
      refine lY (yM rfl) rfl ?_
      refine lY (yM rfl) rfl ?_
      refine lY (y_sub rfl rfl (by omega) (by omega)) rfl ?_
      refine lY (y_indexAddr rfl rfl (hE.t rfl) (by omega) (by omega)) rfl ?_
      refine l_eq 24 _ rfl (ptr_lastI (L := L) (its := is) hil) ?_
      refine lY (yF rfl (hE.t rfl) rfl) rfl ?_
      apply lY
      · (apply y_load rfl (hE.t rfl) rfl; (repeat (first | rfl | assumption | constructor)); done)
      · rfl
      refine lY (yF rfl (hE.t rfl) rfl) rfl ?_
      apply lY
      · (apply y_load rfl (hE.t rfl) rfl; (repeat (first | rfl | assumption | constructor)); done)
      · rfl
      refine lY (y_add rfl rfl (by omega) (by omega)) rfl ?_
      refine l_eq 29 (.int .i64 ((y.times + x.times : Nat) : Int)) rfl (int_eq (by omega)) ?_
      refine lY (y_indexAddr rfl rfl (hE.t rfl) (by omega) (by omega)) rfl ?_
      refine l_eq 30 _ rfl (ptr_lastI (L := L) (its := is) hil) ?_
      refine lY (yF rfl (hE.t rfl) rfl) rfl ?_
      apply lL (by kernel_rfl) rfl
      (first | (apply ld_store rfl rfl (hE.t rfl) rfl; (focus ((repeat constructor); done)); (focus rfl); (focus (exact Nat.le_of_ble_eq_true rfl))) | (apply ld_store_sl rfl rfl (hE.t rfl) rfl; (focus ((repeat constructor); done)); (focus rfl); (focus (first | omega | (simp only [cellsL, length_setMany, List.length_cons, List.length_nil]; omega)))))
      refine l_nil (aT ?_)
      simp only [cellsL]
      rw [last_more]
      refine w_seq (wR ?_)
      refine lY (yM rfl) rfl ?_
      refine lY (yA rfl) rfl ?_
      refine l_nil (aT (w_ret (a_then_ret ?_)))
      apply a_ret
      · rfl
      · (apply Rs.tmp rfl; exact Rs.nil)
      · exact ⟨some ⟨g, 0, none⟩, c, by simp; rfl, rfl⟩
      · simp only [List.length_append, List.length_singleton]
        (apply ent; (repeat constructor); done)
    · skip
      have e : pushI (is ++ [y]) x = is ++ [y] ++ [x] := by rw [pushI_snoc, if_neg (by omega)]
      rw [e]
      refine w_skip (aT (w_seq (wR ?_)))
      refine lY (yM rfl) rfl ?_
      apply lY
      · (apply y_load_agg rfl (hE.t rfl) rfl; (repeat (first | rfl | assumption | constructor)); done)
      · rfl
      apply lL (by kernel_rfl) rfl
      refine ld_buildSlice (hE.t rfl) (hE.t rfl) rfl rfl rfl (fun b35 => ?_)
      apply lL (by kernel_rfl) rfl
      apply ld_append (hE.t rfl) (hE.t rfl) rfl rfl rfl
      · ((repeat constructor); done)
      · ((repeat constructor); done)
      · rfl
      · rfl
      · omega
      · omega
      · (unfold maxLen; omega)
      intro g36 c36 n36 x36 hn36 hx36
      refine lY (yA rfl) rfl ?_
      refine l_nil (aT (w_ret ?_))
      obtain rfl : x36 = itsC L (is ++ [y] ++ [x]) := by rw [hx36, itsC_snoc _ (is ++ [y])]; rfl
      obtain rfl : n36 = (is ++ [y] ++ [x]).length := by rw [hn36]; simp
      apply a_ret
      · rfl
      · (apply Rs.tmp rfl; exact Rs.nil)
      · exact ⟨_, _, rfl, rfl⟩
      · (apply ent; (repeat constructor); done)
theorem ct_pushPair (hE : Seat E) (hB : Base E.w0) {cs : List Value} {l : List It} {x y t : Nat} {p : Option Addr} {c : Nat} (h0 : cs[0]? = some (.pointer (some ⟨pp, 0, none⟩))) (hl : l.length ≤ 1000000000000) (ht : ∀ i ∈ l, i.times + t ≤ 9223372036854775807) (hids : ∀ i ∈ l, i.id ≤ (rls Es).length)
    (hx : 1 ≤ x ∧ x ≤ (rls Es).length) (hy : 1 ≤ y ∧ y ≤ (rls Es).length) (hlen : len (rls Es) x + len (rls Es) y ≤ maxLength) (hroom : Es.length < most) :
    Ct E 147 [.pointer (some ⟨S, 0, none⟩), .slice p l.length c, .int .i64 (x : Nat), .int .i64 (y : Nat), .int .i64 (t : Nat)] [cells pp [.pointer (some ⟨s, 0, none⟩), .pointer (some ⟨tb, 0, none⟩)] 59, tabP tb s (rls Es), storeP s most Es, cells S cs 127, sl p c 172 4 l.length (itsC (rls Es) l)]
      (fun v Q => ∃ M2 j p' c', v = .tuple #[.slice p' (pushI l ⟨j + 1, 0, t⟩).length c', .nilIface] ∧ M2.length ≤ 1 ∧ (rls (Es ++ M2))[j]? = some (.pair x y) ∧ Q = [cells pp [.pointer (some ⟨s, 0, none⟩), .pointer (some ⟨tb, 0, none⟩)] 59, tabP tb s (rls (Es ++ M2)), storeP s most (Es ++ M2), cells S cs 127, sl p' c' 172 4 (pushI l ⟨j + 1, 0, t⟩).length (itsC (rls (Es ++ M2)) (pushI l ⟨j + 1, 0, t⟩))]) := by
  obtain ⟨i, rfl⟩ : ∃ i, x = i + 1 := ⟨x - 1, by omega⟩
  obtain ⟨j, rfl⟩ : ∃ i, y = i + 1 := ⟨y - 1, by omega⟩
  have hil : i < Es.length := by have := hx.2; rw [rls_length] at this; omega
  have hjl : j < Es.length := by have := hy.2; rw [rls_length] at this; omega
  obtain ⟨ei, hei⟩ : ∃ e, Es[i]? = some e := ⟨_, List.getElem?_eq_getElem hil⟩
  obtain ⟨ej, hej⟩ : ∃ e, Es[j]? = some e := ⟨_, List.getElem?_eq_getElem hjl⟩
  refine ct_fact (p := storeP s most Es) (by ((repeat constructor); done)) (fun _ h => storeP_says h) (fun hsay => ?_)
  have hlt : ei.t.length + ej.t.length ≤ maxLength := by rw [hsay.2.1 i ei hei, hsay.2.1 j ej hej]; exact hlen
  refine fn_enter (hE.fn Tryz.func147) rfl rfl rfl (fun R => ?_)
  simp only [argsL, List.cons_append, List.nil_append]
  refine w_seq (wR ?_)
  refine lY (yA rfl) rfl ?_
  refine lY (yA rfl) rfl ?_
  refine l_nil (aT (w_seq (wR ?_)))
  refine lY (yM rfl) rfl ?_
  refine lY (y_nilCheck rfl) rfl ?_
  refine lY (yF rfl (hE.t rfl) rfl) rfl ?_
  apply lY
  · (apply y_load rfl (hE.t rfl) rfl; (repeat (first | rfl | assumption | constructor)); done)
  · rfl
  apply lL (by kernel_rfl) rfl
  apply ld_call (ct_Store hE) rfl (hE.f (by kernel_rfl))
  · ((repeat constructor); done)
  rintro _ _ ⟨rfl, rfl⟩
  simp only [List.cons_append, List.nil_append]
  refine lY (yM rfl) rfl ?_
  refine lY (yM rfl) rfl ?_
  apply lL (by kernel_rfl) rfl
  apply ld_call (ct_pair hE hei hej hlt hroom) rfl (hE.f (by kernel_rfl))
  · ((repeat constructor); done)
  rintro _ _ ⟨M2, id, rfl, hM2, hid, hrl, rfl⟩
  obtain ⟨q, rfl⟩ : ∃ j, id = j + 1 := ⟨id - 1, by omega⟩
  rw [Nat.add_sub_cancel] at hrl
  have hql : q < (Es ++ M2).length := by have := (List.getElem?_eq_some_iff.1 hrl).1; rwa [rls_length] at this
  have hie : itsC (rls (Es ++ M2)) l = itsC (rls Es) l := by rw [rls_append]; exact itsC_ext _ hids
  simp only [List.cons_append, List.nil_append]
  refine l_heap (ent_head (p := tabP tb s (rls Es)) (p' := tabP tb s (rls (Es ++ M2))) (by ((repeat constructor); done)) (fun _ h => by rw [rls_append Es]; exact tabP_ext _ h)) ?_
  refine lY (yM rfl) rfl ?_
  refine lY (y_extract rfl rfl) rfl ?_
  refine lY (y_extract rfl rfl) rfl ?_
  refine lY (yA rfl) rfl ?_
  refine lY (yA rfl) rfl ?_
  refine l_nil (aT (w_seq (w_seq (wR ?_))))
  refine lY (yM rfl) rfl ?_
  apply lY
  · (first | exact y_ok_ne rfl (hE.t rfl) | exact y_err_ne rfl (hE.t rfl))
  · rfl
  refine l_nil (aT ?_)
  refine w_cond_f rfl ?_
  refine w_skip (aT (w_seq (wR ?_)))
  refine lY (yM rfl) rfl ?_
  refine lY (y_nilCheck rfl) rfl ?_
  refine lY (yF rfl (hE.t rfl) rfl) rfl ?_
  apply lY
  · (apply y_load rfl (hE.t rfl) rfl; (repeat (first | rfl | assumption | constructor)); done)
  · rfl
  apply lL (by kernel_rfl) rfl
  apply ld_call (ct_Keys hE) rfl (hE.f (by kernel_rfl))
  · ((repeat constructor); done)
  rintro _ _ ⟨rfl, rfl⟩
  simp only [List.cons_append, List.nil_append]
  refine lY (yM rfl) rfl ?_
  apply lL (by kernel_rfl) rfl
  apply ld_call (ct_key hE hB hql) rfl (hE.f (by kernel_rfl))
  · ((repeat constructor); done)
  rintro _ _ ⟨rfl, rfl⟩
  simp only [List.cons_append, List.nil_append]
  refine lY (yM rfl) rfl ?_
  refine lY (y_extract rfl rfl) rfl ?_
  refine lY (y_extract rfl rfl) rfl ?_
  refine lY (yA rfl) rfl ?_
  refine lY (yA rfl) rfl ?_
  refine l_nil (aT (w_seq (w_seq (wR ?_))))
  refine lY (yM rfl) rfl ?_
  apply lY
  · (first | exact y_ok_ne rfl (hE.t rfl) | exact y_err_ne rfl (hE.t rfl))
  · rfl
  refine l_nil (aT ?_)
  refine w_cond_f rfl ?_
  refine w_skip (aT (w_seq (wR ?_)))
  refine lY (yM rfl) rfl ?_
  refine lY (yM rfl) rfl ?_
  refine lY (yM rfl) rfl ?_
  refine lY (yM rfl) rfl ?_
  apply lY
  · (first | exact y_build (hE.t rfl) rfl rfl | exact y_buildA (hE.t rfl) rfl rfl)
  · rfl
  rw [← hie]
  apply lL (by kernel_rfl) rfl
  apply ld_call (ct_pushI (x := ⟨q + 1, 0, t⟩) (l := l) (p := p) (c := c) (L := rls (Es ++ M2)) hE hl ht) rfl (hE.f (by kernel_rfl))
  · ((repeat constructor); done)
  rintro _ _ ⟨p', c', rfl, rfl⟩
  simp only [List.cons_append, List.nil_append]
  refine lY (yA rfl) rfl ?_
  refine lY (yA rfl) rfl ?_
  refine l_nil (aT (w_ret ?_))
  apply a_ret
  · rfl
  · (apply Rs.tmp rfl; apply Rs.tmp rfl; exact Rs.nil)
  · exact ⟨M2, q, p', c', rfl, hM2, hrl, rfl⟩
  · (apply ent; (repeat constructor); done)
end Go.Proofs.YtekhbjlplfbdkaaGreatDoor
