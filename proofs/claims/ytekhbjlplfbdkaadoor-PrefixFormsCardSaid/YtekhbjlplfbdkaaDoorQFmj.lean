/- evergreenlaw26.PrefixForms. -/
import Derived.Test.YtekhbjlplfbdkaaDoorQ13
import Derived.Test.YtekhbjlplfbdkaaDoorQ39
import Derived.Test.YtekhbjlplfbdkaaDoorQ53
set_option linter.unusedVariables false
set_option linter.unusedSimpArgs false
namespace Go.Proofs.YtekhbjlplfbdkaaDoor
open Go Go.RowKit Sl Eg
set_option maxRecDepth 10000
variable {E : Env} {Es : List Ent} {pp tb s most : Nat}
theorem ct_rKnownT (hE : Seat E) {L : List Rl} {pr pl : Option Addr} {cr cl : Nat} {id : Int} (h : 0 ≤ id ∧ id ≤ (L.length : Nat)) : Ct E 13 [.agg #[.slice pr L.length cr, .slice pl L.length cl], .int .i64 id] [] (fun v Q => v = .bool true ∧ Q = []) := (ct_rKnown hE).mono fun v Q ⟨h1, h2⟩ => ⟨by rw [h1, decide_eq_true h], h2⟩
theorem ct_rKnownF (hE : Seat E) {L : List Rl} {pr pl : Option Addr} {cr cl : Nat} {id : Int} (h : ¬ (0 ≤ id ∧ id ≤ (L.length : Nat))) : Ct E 13 [.agg #[.slice pr L.length cr, .slice pl L.length cl], .int .i64 id] [] (fun v Q => v = .bool false ∧ Q = []) := (ct_rKnown hE).mono fun v Q ⟨h1, h2⟩ => ⟨by rw [h1, decide_eq_false h], h2⟩
theorem ct_PrefixFormsQ (hE : Seat E) (hB : Base E.w0) {ms : List Mk} {A : Option Addr} {C : Nat} {q : HP} (hq : Rdb E.w0 A (mkC ms) q) (ht : ∀ m ∈ ms, m.times ≤ 9223372036854775807) {x y : Int} :
    Ct E 3 [.slice A ms.length C, .int .i64 x, .int .i64 y] [q] (fun v Q => v = .bool true ∧ Q = [q]) := by
  refine fn_enter (hE.fn Tryd.func3) rfl rfl rfl (fun R => ?_)
  simp only [argsL, List.cons_append, List.nil_append]
  refine w_seq (wR ?_)
  refine lY (yA rfl) rfl ?_
  refine l_nil (aT (w_seq (w_seq (wR ?_))))
  apply lL (by kernel_rfl) rfl
  apply ld_call (ct_Parser hE hB) rfl (hE.f (by kernel_rfl))
  · ((repeat constructor); done)
  rintro _ _ ⟨pp0, s0, tb0, M0, rfl, hM, rfl⟩
  simp only [List.cons_append, List.nil_append]
  refine lY (yM rfl) rfl ?_
  refine lY (y_extract rfl rfl) rfl ?_
  refine lY (y_extract rfl rfl) rfl ?_
  refine lY (yA rfl) rfl ?_
  refine lY (yA rfl) rfl ?_
  refine l_nil (aT (w_seq (wR ?_)))
  refine lY (yM rfl) rfl ?_
  refine lY (y_not rfl) rfl ?_
  refine lY (yM rfl) rfl ?_
  skip
  refine l_on rfl rfl ?_
  refine lY (yM rfl) rfl ?_
  refine l_on rfl rfl ?_
  refine lY (y_len_slice rfl (hE.t rfl)) rfl ?_
  refine l_on rfl rfl ?_
  refine lY (y_gt rfl rfl) rfl ?_
  apply lY
  · (first | exact y_pick_t rfl rfl | exact y_pick_f rfl rfl)
  · rfl
  refine l_nil (aT ?_)
  refine w_cond_d rfl (fun h0 => ?_) (fun h0 => ?_)
  · skip
    refine w_seq (wR ?_)
    refine lY (yM rfl) rfl ?_
    refine lY (yA rfl) rfl ?_
    refine l_nil (aT (w_ret (a_then_ret ?_)))
    apply a_ret
    · rfl
    · (apply Rs.tmp rfl; exact Rs.nil)
    · exact ⟨rfl, rfl⟩
    · (apply ent; (repeat constructor); done)
  skip
  have hm : ms.length ≤ 30 := by omega
  refine w_skip (aT (w_seq (wR ?_)))
  apply lL (by kernel_rfl) rfl
  apply ld_call (ct_intNew (most := 1048576) hE (Nat.le_refl _)) rfl (hE.f (by kernel_rfl))
  · ((repeat constructor); done)
  rintro _ _ ⟨s, rfl, rfl⟩
  simp only [List.cons_append, List.nil_append]
  refine lY (yA rfl) rfl ?_
  refine l_nil (aT (w_seq (wR ?_)))
  refine lY (yM rfl) rfl ?_
  apply lL (by kernel_rfl) rfl
  apply ld_call (ct_sigNew hE) rfl (hE.f (by kernel_rfl))
  · ((repeat constructor); done)
  rintro _ _ ⟨pp, tb, rfl, rfl⟩
  simp only [List.cons_append, List.nil_append]
  refine lY (yA rfl) rfl ?_
  refine l_nil (aT (w_seq (wR ?_)))
  refine lY (yM rfl) rfl ?_
  refine lY (yM rfl) rfl ?_
  apply lL (by kernel_rfl) rfl
  apply ld_call (ct_Build (s := s) (most := 1048576) hE hq (by omega) ht (by decide)) rfl (hE.f (by kernel_rfl))
  · ((repeat constructor); done)
  rintro _ _ ⟨gI, cI, Es, rfl, hEs, rfl⟩
  simp only [List.cons_append, List.nil_append]
  refine lY (yM rfl) rfl ?_
  refine lY (y_extract rfl rfl) rfl ?_
  refine lY (y_extract rfl rfl) rfl ?_
  refine lY (yA rfl) rfl ?_
  refine lY (yA rfl) rfl ?_
  refine l_nil (aT (w_seq (wR ?_)))
  refine lY (yM rfl) rfl ?_
  apply lL (by kernel_rfl) rfl
  apply ld_call (ct_rBuild hE hq (by omega) ht) rfl (hE.f (by kernel_rfl))
  · ((repeat constructor); done)
  rintro _ _ ⟨pR, cR, pL, cL, gW, cW, rfl, rfl⟩
  simp only [List.cons_append, List.nil_append]
  have hw := bld_wf (ms := ms) (by omega) ms.length (Nat.le_refl _)
  have hle := (bld_le (ms := ms) ms.length (Nat.le_refl _)).2
  generalize (bld ms ms.length).1 = L0 at *
  subst hEs
  generalize (bld ms ms.length).2 = res0
  have hlen := rls_length Es
  refine lY (yM rfl) rfl ?_
  refine lY (y_extract rfl rfl) rfl ?_
  refine lY (y_extract rfl rfl) rfl ?_
  apply lL (by kernel_rfl) rfl
  refine ld_alloc (hE.t rfl) (fun b13 => ?_)
  apply lL (by kernel_rfl) rfl
  (first | (apply ld_store rfl rfl (hE.t rfl) rfl; (focus ((repeat constructor); done)); (focus rfl); (focus (exact Nat.le_of_ble_eq_true rfl))) | (apply ld_store_sl rfl rfl (hE.t rfl) rfl; (focus ((repeat constructor); done)); (focus rfl); (focus (first | omega | (simp only [cellsL, length_setMany, List.length_cons, List.length_nil]; omega)))))
  refine lY (yA rfl) rfl ?_
  refine l_nil (aT (w_seq (w_seq (wR ?_))))
  refine lY (yM rfl) rfl ?_
  refine lY (y_not rfl) rfl ?_
  refine l_nil (aT ?_)
  refine w_cond_f rfl ?_
  refine w_skip (aT (w_seq (wR ?_)))
  refine lY (yM rfl) rfl ?_
  refine lY (yM rfl) rfl ?_
  refine lY (yA rfl) rfl ?_
  refine lY (yA rfl) rfl ?_
  refine l_nil (aT (w_seq (wR ?_)))
  apply lY
  · (first | exact y_build (hE.t rfl) rfl rfl | exact y_buildA (hE.t rfl) rfl rfl)
  · rfl
  apply lL (by kernel_rfl) rfl
  refine ld_buildSlice (hE.t rfl) (hE.t rfl) rfl rfl rfl (fun b66 => ?_)
  refine lY (yF rfl (hE.t rfl) rfl) rfl ?_
  apply lY
  · (first | (apply y_load rfl (hE.t rfl) rfl; (repeat (first | rfl | assumption | constructor)); done) | exact y_load_old rfl (hE.t rfl) rfl (by assumption) | (apply y_load_ro rfl (hE.t rfl) rfl; (focus ((repeat constructor); done)); (focus assumption)) | (apply y_load_q rfl (hE.t rfl) rfl (by assumption); (focus ((repeat constructor); done)); (first | ((focus exact f0); (focus omega)) | ((focus exact f1); (focus omega)) | ((focus assumption); (focus omega)))))
  · rfl
  refine l_heap (ent_head (p := tabP tb s (rls [])) (p' := tabP tb s (rls Es)) (by ((repeat constructor); done)) (fun _ h => tabP_ext (rls Es) h)) ?_
  refine l_heap (ent_head (p := cells b66 [.int .i64 0, .int .u8 0, .int .i64 0, .int .i64 0, .int .i64 0] 42) (p' := sl (some ⟨b66, 0, none⟩) 1 42 5 1 [.int .i64 0, .int .u8 0, .int .i64 0, .int .i64 0, .int .i64 0]) (by ((repeat constructor); done)) (sl_of_cells rfl (by unfold maxLen; omega))) ?_
  apply lL (by kernel_rfl) rfl
  apply ld_append_slz (hE.t rfl) (hE.t rfl) rfl rfl rfl
  · ((repeat constructor); done)
  · ((repeat constructor); done)
  · exact rusC_one _
  · omega
  · unfold maxLen; omega
  intro pK cK mK xK hmK hxK
  obtain rfl : mK = (rls Es).length + 1 := by omega
  obtain rfl : xK = ruC (rls Es) := by rw [hxK]; rfl
  skip
  apply lL (by kernel_rfl) rfl
  apply ld_call (ct_rKeys (L := rls Es) hE hw (by omega)) rfl (hE.f (by kernel_rfl))
  · ((repeat constructor); done)
  rintro _ _ ⟨pQ, cQ, rfl, rfl⟩
  simp only [List.cons_append, List.nil_append]
  refine lY (yA rfl) rfl ?_
  refine l_nil (aT (w_seq (wR ?_)))
  refine lY (yA rfl) rfl ?_
  refine l_nil (aT ?_)
  refine w_cut (fun w : Nat => [(9, .pointer (some ⟨s, 0, none⟩)), (10, .pointer (some ⟨pp, 0, none⟩)), (15, .int .i64 x), (16, .int .i64 y), (18, .int .i64 (w : Nat))]) (fun w => [cells pp [.pointer (some ⟨s, 0, none⟩), .pointer (some ⟨tb, 0, none⟩)] 78, tabP tb s (rls Es), storeP s 1048576 Es, q, R]) (fun w => (w = 1 ∧ ¬ ((0 ≤ x ∧ x ≤ (Es.length : Nat)) ∧ (0 ≤ y ∧ y ≤ (Es.length : Nat)))) ∨ (∃ i j : Nat, x = i ∧ y = j ∧ i ≤ Es.length ∧ j ≤ Es.length ∧ ((w = 4 ∧ ¬ (good (rls Es) i ∧ good (rls Es) j)) ∨ (w = 0 ∧ good (rls Es) i ∧ good (rls Es) j)))) ?_ ?_
  · skip
    refine w_say (p := sl pQ cQ 47 2 ((rls Es).length + 1) (keC (rls Es) ((rls Es).length + 1))) (by ((repeat constructor); done)) (fun _ h => sl_form h (by omega)) ?_
    rintro ⟨gQ, rfl⟩
    refine w_seq (wR ?_)
    apply lY
    · (first | (apply y_load_agg rfl (hE.t rfl) rfl; (repeat (first | rfl | assumption | constructor)); done) | (apply y_load_agg_old rfl (hE.t rfl) rfl; assumption))
    · rfl
    refine lY (yM rfl) rfl ?_
    by_cases k1 : 0 ≤ x ∧ x ≤ ((rls Es).length : Nat)
    · skip
      apply lL (by kernel_rfl) rfl
      apply ld_call (ct_rKnownT (L := rls Es) hE k1) rfl (hE.f (by kernel_rfl))
      · ((repeat constructor); done)
      rintro _ _ ⟨rfl, rfl⟩
      simp only [List.cons_append, List.nil_append]
      refine lY (y_not rfl) rfl ?_
      refine lY (yM rfl) rfl ?_
      skip
      refine l_on rfl rfl ?_
      apply lY
      · (first | (apply y_load_agg rfl (hE.t rfl) rfl; (repeat (first | rfl | assumption | constructor)); done) | (apply y_load_agg_old rfl (hE.t rfl) rfl; assumption))
      · rfl
      refine l_on rfl rfl ?_
      refine lY (yM rfl) rfl ?_
      refine l_on rfl rfl ?_
      by_cases k2 : 0 ≤ y ∧ y ≤ ((rls Es).length : Nat)
      · skip
        obtain ⟨i, rfl⟩ : ∃ i : Nat, x = i := ⟨x.toNat, by omega⟩
        obtain ⟨j, rfl⟩ : ∃ j : Nat, y = j := ⟨y.toNat, by omega⟩
        apply lL (by kernel_rfl) rfl
        apply ld_call (ct_rKnownT (L := rls Es) hE k2) rfl (hE.f (by kernel_rfl))
        · ((repeat constructor); done)
        rintro _ _ ⟨rfl, rfl⟩
        simp only [List.cons_append, List.nil_append]
        refine l_on rfl rfl ?_
        refine lY (y_not rfl) rfl ?_
        apply lY
        · (first | exact y_pick_t rfl rfl | exact y_pick_f rfl rfl)
        · rfl
        refine l_nil (aT ?_)
        refine w_cond_f rfl ?_
        have f0 := (keC_at (rls Es) (i := i) (n := (rls Es).length + 1) (by omega) (0 + ((i : Nat) : Int).toNat * 2) (by omega)).2
        have f1 := (keC_at (rls Es) (i := j) (n := (rls Es).length + 1) (by omega) (0 + ((j : Nat) : Int).toNat * 2) (by omega)).2
        refine w_seq (wR ?_)
        refine lY (yM rfl) rfl ?_
        refine lY (y_ne rfl rfl) rfl ?_
        refine lY (yM rfl) rfl ?_
        refine l_split 83 rfl (fun zx => ?_) (fun zx => ?_)
        · skip
          refine l_on rfl rfl ?_
          refine lY (yM rfl) rfl ?_
          refine l_on rfl rfl ?_
          refine lY (yM rfl) rfl ?_
          refine l_on rfl rfl ?_
          refine lY (y_indexAddr rfl rfl (hE.t rfl) (by omega) (by omega)) rfl ?_
          refine l_on rfl rfl ?_
          refine lY (yF rfl (hE.t rfl) rfl) rfl ?_
          refine l_on rfl rfl ?_
          apply lY
          · (first | (apply y_load rfl (hE.t rfl) rfl; (repeat (first | rfl | assumption | constructor)); done) | exact y_load_old rfl (hE.t rfl) rfl (by assumption) | (apply y_load_ro rfl (hE.t rfl) rfl; (focus ((repeat constructor); done)); (focus assumption)) | (apply y_load_q rfl (hE.t rfl) rfl (by assumption); (focus ((repeat constructor); done)); (first | ((focus exact f0); (focus omega)) | ((focus exact f1); (focus omega)) | ((focus assumption); (focus omega)))))
          · rfl
          refine l_on rfl rfl ?_
          refine lY (y_lt rfl rfl) rfl ?_
          apply lY
          · (first | exact y_pick_t rfl rfl | exact y_pick_f rfl rfl)
          · rfl
          refine lY (yM rfl) rfl ?_
          refine l_split 91 rfl (fun lx => ?_) (fun lx => ?_)
          · skip
            refine l_off rfl rfl rfl rfl (l_off rfl rfl rfl rfl (l_off rfl rfl rfl rfl (l_off_u rfl rfl rfl (l_off_u rfl rfl rfl (l_off_u rfl rfl rfl (l_off_u rfl rfl rfl (l_off_u rfl rfl rfl ?_)))))))
            refine l_off_u rfl rfl rfl (l_off rfl rfl rfl rfl ?_)
            apply lY
            · (first | exact y_pick_t rfl rfl | exact y_pick_f rfl rfl)
            · rfl
            refine l_nil (aT ?_)
            refine w_cond_t rfl ?_
            refine wR ?_
            refine lY (yA rfl) rfl ?_
            refine l_nil ?_
            refine a_cut (ι := Nat) 4 ?_ ⟨rfl, rfl, rfl, rfl, rfl, trivial⟩ (by (apply ent; (repeat constructor); done))
            exact .inr ⟨i, j, rfl, rfl, by omega, by omega, .inl ⟨rfl, fun h => by have := h.1.2; omega⟩⟩
          · skip
            refine l_on rfl rfl ?_
            refine lY (yM rfl) rfl ?_
            refine l_on rfl rfl ?_
            refine lY (y_ne rfl rfl) rfl ?_
            refine l_on rfl rfl ?_
            refine lY (yM rfl) rfl ?_
            refine l_split 94 rfl (fun zy => ?_) (fun zy => ?_)
            · skip
              refine l_on rfl rfl ?_
              refine lY (yM rfl) rfl ?_
              refine l_on rfl rfl ?_
              refine lY (yM rfl) rfl ?_
              refine l_on rfl rfl ?_
              refine lY (y_indexAddr rfl rfl (hE.t rfl) (by omega) (by omega)) rfl ?_
              refine l_on rfl rfl ?_
              refine lY (yF rfl (hE.t rfl) rfl) rfl ?_
              refine l_on rfl rfl ?_
              apply lY
              · (first | (apply y_load rfl (hE.t rfl) rfl; (repeat (first | rfl | assumption | constructor)); done) | exact y_load_old rfl (hE.t rfl) rfl (by assumption) | (apply y_load_ro rfl (hE.t rfl) rfl; (focus ((repeat constructor); done)); (focus assumption)) | (apply y_load_q rfl (hE.t rfl) rfl (by assumption); (focus ((repeat constructor); done)); (first | ((focus exact f0); (focus omega)) | ((focus exact f1); (focus omega)) | ((focus assumption); (focus omega)))))
              · rfl
              refine l_on rfl rfl ?_
              refine lY (y_lt rfl rfl) rfl ?_
              refine l_on rfl rfl ?_
              apply lY
              · (first | exact y_pick_t rfl rfl | exact y_pick_f rfl rfl)
              · rfl
              apply lY
              · (first | exact y_pick_t rfl rfl | exact y_pick_f rfl rfl)
              · rfl
              refine l_nil (aT ?_)
              refine w_cond_d rfl (fun ly => ?_) (fun ly => ?_)
              · skip
                refine wR ?_
                refine lY (yA rfl) rfl ?_
                refine l_nil ?_
                refine a_cut (ι := Nat) 4 ?_ ⟨rfl, rfl, rfl, rfl, rfl, trivial⟩ (by (apply ent; (repeat constructor); done))
                exact .inr ⟨i, j, rfl, rfl, by omega, by omega, .inl ⟨rfl, fun h => by have := h.2.2; omega⟩⟩
              · skip
                refine w_skip ?_
                refine a_cut (ι := Nat) 0 ?_ ⟨rfl, rfl, rfl, rfl, rfl, trivial⟩ (by (apply ent; (repeat constructor); done))
                exact .inr ⟨i, j, rfl, rfl, by omega, by omega, .inr ⟨rfl, ⟨by omega, by omega⟩, ⟨by omega, by omega⟩⟩⟩
            · skip
              obtain rfl : j = 0 := by omega
              refine l_off rfl rfl rfl rfl (l_off rfl rfl rfl rfl (l_off rfl rfl rfl rfl (l_off rfl rfl rfl rfl (l_off rfl rfl rfl rfl (l_off rfl rfl rfl rfl (l_on rfl rfl ?_))))))
              apply lY
              · (first | exact y_pick_t rfl rfl | exact y_pick_f rfl rfl)
              · rfl
              apply lY
              · (first | exact y_pick_t rfl rfl | exact y_pick_f rfl rfl)
              · rfl
              refine l_nil (aT ?_)
              refine w_cond_f rfl ?_
              refine w_skip ?_
              refine a_cut (ι := Nat) 0 ?_ ⟨rfl, rfl, rfl, rfl, rfl, trivial⟩ (by (apply ent; (repeat constructor); done))
              exact .inr ⟨i, 0, rfl, rfl, by omega, by omega, .inr ⟨rfl, ⟨by omega, by omega⟩, ⟨by omega, Int.le_refl 0⟩⟩⟩
        · skip
          obtain rfl : i = 0 := by omega
          refine l_off rfl rfl rfl rfl (l_off rfl rfl rfl rfl (l_off rfl rfl rfl rfl (l_off rfl rfl rfl rfl (l_off rfl rfl rfl rfl (l_off rfl rfl rfl rfl ?_)))))
          apply lY
          · (first | exact y_pick_t rfl rfl | exact y_pick_f rfl rfl)
          · rfl
          refine lY (yM rfl) rfl ?_
          skip
          refine l_on rfl rfl ?_
          refine lY (yM rfl) rfl ?_
          refine l_on rfl rfl ?_
          refine lY (y_ne rfl rfl) rfl ?_
          refine l_on rfl rfl ?_
          refine lY (yM rfl) rfl ?_
          refine l_split 94 rfl (fun zy => ?_) (fun zy => ?_)
          · skip
            refine l_on rfl rfl ?_
            refine lY (yM rfl) rfl ?_
            refine l_on rfl rfl ?_
            refine lY (yM rfl) rfl ?_
            refine l_on rfl rfl ?_
            refine lY (y_indexAddr rfl rfl (hE.t rfl) (by omega) (by omega)) rfl ?_
            refine l_on rfl rfl ?_
            refine lY (yF rfl (hE.t rfl) rfl) rfl ?_
            refine l_on rfl rfl ?_
            apply lY
            · (first | (apply y_load rfl (hE.t rfl) rfl; (repeat (first | rfl | assumption | constructor)); done) | exact y_load_old rfl (hE.t rfl) rfl (by assumption) | (apply y_load_ro rfl (hE.t rfl) rfl; (focus ((repeat constructor); done)); (focus assumption)) | (apply y_load_q rfl (hE.t rfl) rfl (by assumption); (focus ((repeat constructor); done)); (first | ((focus exact f0); (focus omega)) | ((focus exact f1); (focus omega)) | ((focus assumption); (focus omega)))))
            · rfl
            refine l_on rfl rfl ?_
            refine lY (y_lt rfl rfl) rfl ?_
            refine l_on rfl rfl ?_
            apply lY
            · (first | exact y_pick_t rfl rfl | exact y_pick_f rfl rfl)
            · rfl
            apply lY
            · (first | exact y_pick_t rfl rfl | exact y_pick_f rfl rfl)
            · rfl
            refine l_nil (aT ?_)
            refine w_cond_d rfl (fun ly => ?_) (fun ly => ?_)
            · skip
              refine wR ?_
              refine lY (yA rfl) rfl ?_
              refine l_nil ?_
              refine a_cut (ι := Nat) 4 ?_ ⟨rfl, rfl, rfl, rfl, rfl, trivial⟩ (by (apply ent; (repeat constructor); done))
              exact .inr ⟨0, j, rfl, rfl, by omega, by omega, .inl ⟨rfl, fun h => by have := h.2.2; omega⟩⟩
            · skip
              refine w_skip ?_
              refine a_cut (ι := Nat) 0 ?_ ⟨rfl, rfl, rfl, rfl, rfl, trivial⟩ (by (apply ent; (repeat constructor); done))
              exact .inr ⟨0, j, rfl, rfl, by omega, by omega, .inr ⟨rfl, ⟨by omega, Int.le_refl 0⟩, ⟨by omega, by omega⟩⟩⟩
          · skip
            obtain rfl : j = 0 := by omega
            refine l_off rfl rfl rfl rfl (l_off rfl rfl rfl rfl (l_off rfl rfl rfl rfl (l_off rfl rfl rfl rfl (l_off rfl rfl rfl rfl (l_off rfl rfl rfl rfl (l_on rfl rfl ?_))))))
            apply lY
            · (first | exact y_pick_t rfl rfl | exact y_pick_f rfl rfl)
            · rfl
            apply lY
            · (first | exact y_pick_t rfl rfl | exact y_pick_f rfl rfl)
            · rfl
            refine l_nil (aT ?_)
            refine w_cond_f rfl ?_
            refine w_skip ?_
            refine a_cut (ι := Nat) 0 ?_ ⟨rfl, rfl, rfl, rfl, rfl, trivial⟩ (by (apply ent; (repeat constructor); done))
            exact .inr ⟨0, 0, rfl, rfl, by omega, by omega, .inr ⟨rfl, ⟨by omega, Int.le_refl 0⟩, ⟨by omega, Int.le_refl 0⟩⟩⟩
      · skip
        apply lL (by kernel_rfl) rfl
        apply ld_call (ct_rKnownF (L := rls Es) hE k2) rfl (hE.f (by kernel_rfl))
        · ((repeat constructor); done)
        rintro _ _ ⟨rfl, rfl⟩
        simp only [List.cons_append, List.nil_append]
        refine l_on rfl rfl ?_
        refine lY (y_not rfl) rfl ?_
        apply lY
        · (first | exact y_pick_t rfl rfl | exact y_pick_f rfl rfl)
        · rfl
        refine l_nil (aT ?_)
        refine w_cond_t rfl ?_
        refine wR ?_
        refine lY (yA rfl) rfl ?_
        refine l_nil ?_
        refine a_cut (ι := Nat) 1 ?_ ⟨rfl, rfl, rfl, rfl, rfl, trivial⟩ (by (apply ent; (repeat constructor); done))
        exact .inl ⟨rfl, by omega⟩
    · skip
      apply lL (by kernel_rfl) rfl
      apply ld_call (ct_rKnownF (L := rls Es) hE k1) rfl (hE.f (by kernel_rfl))
      · ((repeat constructor); done)
      rintro _ _ ⟨rfl, rfl⟩
      simp only [List.cons_append, List.nil_append]
      refine lY (y_not rfl) rfl ?_
      refine lY (yM rfl) rfl ?_
      skip
      refine l_off rfl rfl rfl rfl (l_off rfl rfl rfl rfl (l_off rfl rfl rfl rfl (l_off rfl rfl rfl rfl ?_)))
      apply lY
      · (first | exact y_pick_t rfl rfl | exact y_pick_f rfl rfl)
      · rfl
      refine l_nil (aT ?_)
      refine w_cond_t rfl ?_
      refine wR ?_
      refine lY (yA rfl) rfl ?_
      refine l_nil ?_
      refine a_cut (ι := Nat) 1 ?_ ⟨rfl, rfl, rfl, rfl, rfl, trivial⟩ (by (apply ent; (repeat constructor); done))
      exact .inl ⟨rfl, by omega⟩
  · rintro w hwc
    skip
    refine w_seq (wR ?_)
    refine lY (yM rfl) rfl ?_
    skip
    rcases hwc with ⟨rfl, hu⟩ | ⟨i, j, rfl, rfl, hi, hj, ⟨rfl, hg⟩ | ⟨rfl, gi, gj⟩⟩
    · have hc : Chk E (.pointer (some ⟨pp, 0, none⟩)) x y 1 (stars [cells pp [.pointer (some ⟨s, 0, none⟩), .pointer (some ⟨tb, 0, none⟩)] 78, tabP tb s (rls Es), storeP s 1048576 Es]) := ct_pack (ct_pcheck_one hE hu)
      apply lL (by kernel_rfl) rfl
      apply ld_call (ct_len hE) rfl (hE.f (by kernel_rfl))
      · ((repeat constructor); done)
      rintro _ _ ⟨rfl, rfl⟩
      simp only [List.cons_append, List.nil_append]
      refine lY (yA rfl) rfl ?_
      refine l_nil (aT (w_seq (wR ?_)))
      refine lY (yM rfl) rfl ?_
      refine lY (yM rfl) rfl ?_
      refine lY (yM rfl) rfl ?_
      apply lL (by kernel_rfl) rfl
      apply ld_call (ct_spread (ct_Common_err hE hc)) rfl (hE.f (by kernel_rfl))
      · ((repeat constructor); done)
      rintro _ _ ⟨rfl, rfl⟩
      simp only [List.cons_append, List.nil_append]
      refine lY (yM rfl) rfl ?_
      refine lY (y_extract rfl rfl) rfl ?_
      refine lY (y_extract rfl rfl) rfl ?_
      refine lY (yA rfl) rfl ?_
      refine lY (yA rfl) rfl ?_
      refine l_nil (aT (w_seq (wR ?_)))
      refine lY (yM rfl) rfl ?_
      refine lY (yM rfl) rfl ?_
      refine lY (yM rfl) rfl ?_
      apply lL (by kernel_rfl) rfl
      apply ld_call (ct_spread (ct_CommonEnd_err hE hc)) rfl (hE.f (by kernel_rfl))
      · ((repeat constructor); done)
      rintro _ _ ⟨rfl, rfl⟩
      simp only [List.cons_append, List.nil_append]
      refine lY (yM rfl) rfl ?_
      refine lY (y_extract rfl rfl) rfl ?_
      refine lY (y_extract rfl rfl) rfl ?_
      refine lY (yA rfl) rfl ?_
      refine lY (yA rfl) rfl ?_
      refine l_nil (aT (w_seq (wR ?_)))
      refine lY (yM rfl) rfl ?_
      refine lY (yM rfl) rfl ?_
      refine lY (yM rfl) rfl ?_
      apply lL (by kernel_rfl) rfl
      apply ld_call (ct_spread (ct_CommonAt_err hE hc)) rfl (hE.f (by kernel_rfl))
      · ((repeat constructor); done)
      rintro _ _ ⟨rfl, rfl⟩
      simp only [List.cons_append, List.nil_append]
      refine lY (yM rfl) rfl ?_
      refine lY (y_extract rfl rfl) rfl ?_
      refine lY (y_extract rfl rfl) rfl ?_
      refine lY (yA rfl) rfl ?_
      refine lY (yA rfl) rfl ?_
      refine l_nil (aT (w_seq (wR ?_)))
      refine lY (yM rfl) rfl ?_
      refine lY (yM rfl) rfl ?_
      refine lY (yM rfl) rfl ?_
      apply lL (by kernel_rfl) rfl
      apply ld_call (ct_spread (ct_CommonBefore_err hE hc)) rfl (hE.f (by kernel_rfl))
      · ((repeat constructor); done)
      rintro _ _ ⟨rfl, rfl⟩
      simp only [List.cons_append, List.nil_append]
      refine lY (yM rfl) rfl ?_
      refine lY (y_extract rfl rfl) rfl ?_
      refine lY (y_extract rfl rfl) rfl ?_
      refine lY (yA rfl) rfl ?_
      refine lY (yA rfl) rfl ?_
      refine l_nil (aT (w_seq (wR ?_)))
      refine lY (yM rfl) rfl ?_
      refine lY (yM rfl) rfl ?_
      refine lY (yM rfl) rfl ?_
      apply lL (by kernel_rfl) rfl
      apply ld_call (ct_spread (ct_Mismatch_err hE hc)) rfl (hE.f (by kernel_rfl))
      · ((repeat constructor); done)
      rintro _ _ ⟨rfl, rfl⟩
      simp only [List.cons_append, List.nil_append]
      refine lY (yM rfl) rfl ?_
      refine lY (y_extract rfl rfl) rfl ?_
      refine lY (y_extract rfl rfl) rfl ?_
      refine lY (y_extract rfl rfl) rfl ?_
      refine lY (yA rfl) rfl ?_
      refine lY (yA rfl) rfl ?_
      refine lY (yA rfl) rfl ?_
      refine l_nil (aT (w_seq (wR ?_)))
      refine lY (yM rfl) rfl ?_
      refine lY (yM rfl) rfl ?_
      have hn : Chk E (.pointer none) x y 5 (stars []) := ct_pack (ct_pcheck_nil hE)
      apply lL (by kernel_rfl) rfl
      apply ld_call (ct_spread (l := []) (ct_Common_err hE hn)) rfl (hE.f (by kernel_rfl))
      · ((repeat constructor); done)
      rintro _ _ ⟨rfl, rfl⟩
      simp only [List.cons_append, List.nil_append]
      refine lY (yM rfl) rfl ?_
      refine lY (y_extract rfl rfl) rfl ?_
      refine lY (y_extract rfl rfl) rfl ?_
      refine lY (yA rfl) rfl ?_
      refine lY (yA rfl) rfl ?_
      refine l_nil (aT (w_seq (wR ?_)))
      refine lY (yM rfl) rfl ?_
      refine lY (yM rfl) rfl ?_
      apply lL (by kernel_rfl) rfl
      apply ld_call (ct_spread (l := []) (ct_CommonAt_err hE hn)) rfl (hE.f (by kernel_rfl))
      · ((repeat constructor); done)
      rintro _ _ ⟨rfl, rfl⟩
      simp only [List.cons_append, List.nil_append]
      refine lY (yM rfl) rfl ?_
      refine lY (y_extract rfl rfl) rfl ?_
      refine lY (y_extract rfl rfl) rfl ?_
      refine lY (yA rfl) rfl ?_
      refine lY (yA rfl) rfl ?_
      refine l_nil (aT (w_seq (w_seq (wR ?_))))
      refine lY (yM rfl) rfl ?_
      apply lL (by kernel_rfl) rfl
      apply ld_call (ct_len hE) rfl (hE.f (by kernel_rfl))
      · ((repeat constructor); done)
      rintro _ _ ⟨rfl, rfl⟩
      simp only [List.cons_append, List.nil_append]
      refine lY (yM rfl) rfl ?_
      refine lY (y_ne rfl rfl) rfl ?_
      refine lY (yM rfl) rfl ?_
      refine l_split 157 rfl (fun hz => ?_) (fun hz => ?_)
      · exact absurd rfl hz
      skip
      refine l_on rfl rfl ?_
      refine lY (yM rfl) rfl ?_
      refine l_on rfl rfl ?_
      apply lL (by kernel_rfl) rfl
      apply ld_call (ct_Is hE (by decide)) rfl (hE.f (by kernel_rfl))
      · ((repeat constructor); done)
      rintro _ _ ⟨rfl, rfl⟩
      simp only [List.cons_append, List.nil_append]
      refine l_on rfl rfl ?_
      refine lY (y_not rfl) rfl ?_
      apply lY
      · (first | exact y_pick_t rfl rfl | exact y_pick_f rfl rfl)
      · rfl
      refine lY (yM rfl) rfl ?_
      skip
      refine l_on rfl rfl ?_
      refine lY (yM rfl) rfl ?_
      refine l_on rfl rfl ?_
      apply lL (by kernel_rfl) rfl
      apply ld_call (ct_Is hE (by decide)) rfl (hE.f (by kernel_rfl))
      · ((repeat constructor); done)
      rintro _ _ ⟨rfl, rfl⟩
      simp only [List.cons_append, List.nil_append]
      refine l_on rfl rfl ?_
      refine lY (y_not rfl) rfl ?_
      apply lY
      · (first | exact y_pick_t rfl rfl | exact y_pick_f rfl rfl)
      · rfl
      refine l_nil (aT ?_)
      refine w_cond_f rfl ?_
      refine w_skip (aT (w_seq (wR ?_)))
      refine lY (yM rfl) rfl ?_
      refine lY (y_eq rfl rfl) rfl ?_
      refine lY (yM rfl) rfl ?_
      skip
      refine l_on rfl rfl ?_
      refine lY (yM rfl) rfl ?_
      refine l_on rfl rfl ?_
      refine lY (yM rfl) rfl ?_
      refine l_on rfl rfl ?_
      apply lL (by kernel_rfl) rfl
      apply ld_call (ct_Is hE (by decide)) rfl (hE.f (by kernel_rfl))
      · ((repeat constructor); done)
      rintro _ _ ⟨rfl, rfl⟩
      simp only [List.cons_append, List.nil_append]
      refine l_on rfl rfl ?_
      refine lY (yM rfl) rfl ?_
      skip
      refine l_on rfl rfl ?_
      refine lY (yM rfl) rfl ?_
      refine l_on rfl rfl ?_
      refine lY (yM rfl) rfl ?_
      refine l_on rfl rfl ?_
      apply lL (by kernel_rfl) rfl
      apply ld_call (ct_Is hE (by decide)) rfl (hE.f (by kernel_rfl))
      · ((repeat constructor); done)
      rintro _ _ ⟨rfl, rfl⟩
      simp only [List.cons_append, List.nil_append]
      refine l_on rfl rfl ?_
      apply lY
      · (first | exact y_pick_t rfl rfl | exact y_pick_f rfl rfl)
      · rfl
      refine l_on rfl rfl ?_
      refine lY (yM rfl) rfl ?_
      skip
      refine l_on rfl rfl ?_
      refine lY (yM rfl) rfl ?_
      refine l_on rfl rfl ?_
      refine lY (yM rfl) rfl ?_
      refine l_on rfl rfl ?_
      apply lL (by kernel_rfl) rfl
      apply ld_call (ct_Is hE (by decide)) rfl (hE.f (by kernel_rfl))
      · ((repeat constructor); done)
      rintro _ _ ⟨rfl, rfl⟩
      simp only [List.cons_append, List.nil_append]
      refine l_on rfl rfl ?_
      apply lY
      · (first | exact y_pick_t rfl rfl | exact y_pick_f rfl rfl)
      · rfl
      refine l_on rfl rfl ?_
      refine lY (yM rfl) rfl ?_
      skip
      refine l_on rfl rfl ?_
      refine lY (yM rfl) rfl ?_
      refine l_on rfl rfl ?_
      refine lY (yM rfl) rfl ?_
      refine l_on rfl rfl ?_
      apply lL (by kernel_rfl) rfl
      apply ld_call (ct_Is hE (by decide)) rfl (hE.f (by kernel_rfl))
      · ((repeat constructor); done)
      rintro _ _ ⟨rfl, rfl⟩
      simp only [List.cons_append, List.nil_append]
      refine l_on rfl rfl ?_
      apply lY
      · (first | exact y_pick_t rfl rfl | exact y_pick_f rfl rfl)
      · rfl
      refine l_on rfl rfl ?_
      refine lY (yM rfl) rfl ?_
      skip
      refine l_on rfl rfl ?_
      refine lY (yM rfl) rfl ?_
      refine l_on rfl rfl ?_
      refine lY (yM rfl) rfl ?_
      refine l_on rfl rfl ?_
      apply lL (by kernel_rfl) rfl
      apply ld_call (ct_Is hE (by decide)) rfl (hE.f (by kernel_rfl))
      · ((repeat constructor); done)
      rintro _ _ ⟨rfl, rfl⟩
      simp only [List.cons_append, List.nil_append]
      refine l_on rfl rfl ?_
      apply lY
      · (first | exact y_pick_t rfl rfl | exact y_pick_f rfl rfl)
      · rfl
      apply lY
      · (first | exact y_pick_t rfl rfl | exact y_pick_f rfl rfl)
      · rfl
      refine lY (yA rfl) rfl ?_
      refine l_nil (aT (w_ret ?_))
      apply a_ret
      · rfl
      · (apply Rs.tmp rfl; exact Rs.nil)
      · exact ⟨rfl, rfl⟩
      · (apply ent; (repeat constructor); done)
    · skip
      have hc : Chk E (.pointer (some ⟨pp, 0, none⟩)) i j 4 (stars [cells pp [.pointer (some ⟨s, 0, none⟩), .pointer (some ⟨tb, 0, none⟩)] 78, tabP tb s (rls Es), storeP s 1048576 Es]) := ct_pack (ct_pcheck_four hE hB hi hj hg)
      apply lL (by kernel_rfl) rfl
      apply ld_call (ct_len hE) rfl (hE.f (by kernel_rfl))
      · ((repeat constructor); done)
      rintro _ _ ⟨rfl, rfl⟩
      simp only [List.cons_append, List.nil_append]
      refine lY (yA rfl) rfl ?_
      refine l_nil (aT (w_seq (wR ?_)))
      refine lY (yM rfl) rfl ?_
      refine lY (yM rfl) rfl ?_
      refine lY (yM rfl) rfl ?_
      apply lL (by kernel_rfl) rfl
      apply ld_call (ct_spread (ct_Common_err hE hc)) rfl (hE.f (by kernel_rfl))
      · ((repeat constructor); done)
      rintro _ _ ⟨rfl, rfl⟩
      simp only [List.cons_append, List.nil_append]
      refine lY (yM rfl) rfl ?_
      refine lY (y_extract rfl rfl) rfl ?_
      refine lY (y_extract rfl rfl) rfl ?_
      refine lY (yA rfl) rfl ?_
      refine lY (yA rfl) rfl ?_
      refine l_nil (aT (w_seq (wR ?_)))
      refine lY (yM rfl) rfl ?_
      refine lY (yM rfl) rfl ?_
      refine lY (yM rfl) rfl ?_
      apply lL (by kernel_rfl) rfl
      apply ld_call (ct_spread (ct_CommonEnd_err hE hc)) rfl (hE.f (by kernel_rfl))
      · ((repeat constructor); done)
      rintro _ _ ⟨rfl, rfl⟩
      simp only [List.cons_append, List.nil_append]
      refine lY (yM rfl) rfl ?_
      refine lY (y_extract rfl rfl) rfl ?_
      refine lY (y_extract rfl rfl) rfl ?_
      refine lY (yA rfl) rfl ?_
      refine lY (yA rfl) rfl ?_
      refine l_nil (aT (w_seq (wR ?_)))
      refine lY (yM rfl) rfl ?_
      refine lY (yM rfl) rfl ?_
      refine lY (yM rfl) rfl ?_
      apply lL (by kernel_rfl) rfl
      apply ld_call (ct_spread (ct_CommonAt_err hE hc)) rfl (hE.f (by kernel_rfl))
      · ((repeat constructor); done)
      rintro _ _ ⟨rfl, rfl⟩
      simp only [List.cons_append, List.nil_append]
      refine lY (yM rfl) rfl ?_
      refine lY (y_extract rfl rfl) rfl ?_
      refine lY (y_extract rfl rfl) rfl ?_
      refine lY (yA rfl) rfl ?_
      refine lY (yA rfl) rfl ?_
      refine l_nil (aT (w_seq (wR ?_)))
      refine lY (yM rfl) rfl ?_
      refine lY (yM rfl) rfl ?_
      refine lY (yM rfl) rfl ?_
      apply lL (by kernel_rfl) rfl
      apply ld_call (ct_spread (ct_CommonBefore_err hE hc)) rfl (hE.f (by kernel_rfl))
      · ((repeat constructor); done)
      rintro _ _ ⟨rfl, rfl⟩
      simp only [List.cons_append, List.nil_append]
      refine lY (yM rfl) rfl ?_
      refine lY (y_extract rfl rfl) rfl ?_
      refine lY (y_extract rfl rfl) rfl ?_
      refine lY (yA rfl) rfl ?_
      refine lY (yA rfl) rfl ?_
      refine l_nil (aT (w_seq (wR ?_)))
      refine lY (yM rfl) rfl ?_
      refine lY (yM rfl) rfl ?_
      refine lY (yM rfl) rfl ?_
      apply lL (by kernel_rfl) rfl
      apply ld_call (ct_spread (ct_Mismatch_err hE hc)) rfl (hE.f (by kernel_rfl))
      · ((repeat constructor); done)
      rintro _ _ ⟨rfl, rfl⟩
      simp only [List.cons_append, List.nil_append]
      refine lY (yM rfl) rfl ?_
      refine lY (y_extract rfl rfl) rfl ?_
      refine lY (y_extract rfl rfl) rfl ?_
      refine lY (y_extract rfl rfl) rfl ?_
      refine lY (yA rfl) rfl ?_
      refine lY (yA rfl) rfl ?_
      refine lY (yA rfl) rfl ?_
      refine l_nil (aT (w_seq (wR ?_)))
      refine lY (yM rfl) rfl ?_
      refine lY (yM rfl) rfl ?_
      have hn : Chk E (.pointer none) i j 5 (stars []) := ct_pack (ct_pcheck_nil hE)
      apply lL (by kernel_rfl) rfl
      apply ld_call (ct_spread (l := []) (ct_Common_err hE hn)) rfl (hE.f (by kernel_rfl))
      · ((repeat constructor); done)
      rintro _ _ ⟨rfl, rfl⟩
      simp only [List.cons_append, List.nil_append]
      refine lY (yM rfl) rfl ?_
      refine lY (y_extract rfl rfl) rfl ?_
      refine lY (y_extract rfl rfl) rfl ?_
      refine lY (yA rfl) rfl ?_
      refine lY (yA rfl) rfl ?_
      refine l_nil (aT (w_seq (wR ?_)))
      refine lY (yM rfl) rfl ?_
      refine lY (yM rfl) rfl ?_
      apply lL (by kernel_rfl) rfl
      apply ld_call (ct_spread (l := []) (ct_CommonAt_err hE hn)) rfl (hE.f (by kernel_rfl))
      · ((repeat constructor); done)
      rintro _ _ ⟨rfl, rfl⟩
      simp only [List.cons_append, List.nil_append]
      refine lY (yM rfl) rfl ?_
      refine lY (y_extract rfl rfl) rfl ?_
      refine lY (y_extract rfl rfl) rfl ?_
      refine lY (yA rfl) rfl ?_
      refine lY (yA rfl) rfl ?_
      refine l_nil (aT (w_seq (w_seq (wR ?_))))
      refine lY (yM rfl) rfl ?_
      apply lL (by kernel_rfl) rfl
      apply ld_call (ct_len hE) rfl (hE.f (by kernel_rfl))
      · ((repeat constructor); done)
      rintro _ _ ⟨rfl, rfl⟩
      simp only [List.cons_append, List.nil_append]
      refine lY (yM rfl) rfl ?_
      refine lY (y_ne rfl rfl) rfl ?_
      refine lY (yM rfl) rfl ?_
      refine l_split 157 rfl (fun hz => ?_) (fun hz => ?_)
      · exact absurd rfl hz
      skip
      refine l_on rfl rfl ?_
      refine lY (yM rfl) rfl ?_
      refine l_on rfl rfl ?_
      apply lL (by kernel_rfl) rfl
      apply ld_call (ct_Is hE (by decide)) rfl (hE.f (by kernel_rfl))
      · ((repeat constructor); done)
      rintro _ _ ⟨rfl, rfl⟩
      simp only [List.cons_append, List.nil_append]
      refine l_on rfl rfl ?_
      refine lY (y_not rfl) rfl ?_
      apply lY
      · (first | exact y_pick_t rfl rfl | exact y_pick_f rfl rfl)
      · rfl
      refine lY (yM rfl) rfl ?_
      skip
      refine l_on rfl rfl ?_
      refine lY (yM rfl) rfl ?_
      refine l_on rfl rfl ?_
      apply lL (by kernel_rfl) rfl
      apply ld_call (ct_Is hE (by decide)) rfl (hE.f (by kernel_rfl))
      · ((repeat constructor); done)
      rintro _ _ ⟨rfl, rfl⟩
      simp only [List.cons_append, List.nil_append]
      refine l_on rfl rfl ?_
      refine lY (y_not rfl) rfl ?_
      apply lY
      · (first | exact y_pick_t rfl rfl | exact y_pick_f rfl rfl)
      · rfl
      refine l_nil (aT ?_)
      refine w_cond_f rfl ?_
      refine w_skip (aT (w_seq (wR ?_)))
      refine lY (yM rfl) rfl ?_
      refine lY (y_eq rfl rfl) rfl ?_
      refine lY (yM rfl) rfl ?_
      skip
      refine l_on rfl rfl ?_
      refine lY (yM rfl) rfl ?_
      refine l_on rfl rfl ?_
      refine lY (yM rfl) rfl ?_
      refine l_on rfl rfl ?_
      apply lL (by kernel_rfl) rfl
      apply ld_call (ct_Is hE (by decide)) rfl (hE.f (by kernel_rfl))
      · ((repeat constructor); done)
      rintro _ _ ⟨rfl, rfl⟩
      simp only [List.cons_append, List.nil_append]
      refine l_on rfl rfl ?_
      refine lY (yM rfl) rfl ?_
      skip
      refine l_on rfl rfl ?_
      refine lY (yM rfl) rfl ?_
      refine l_on rfl rfl ?_
      refine lY (yM rfl) rfl ?_
      refine l_on rfl rfl ?_
      apply lL (by kernel_rfl) rfl
      apply ld_call (ct_Is hE (by decide)) rfl (hE.f (by kernel_rfl))
      · ((repeat constructor); done)
      rintro _ _ ⟨rfl, rfl⟩
      simp only [List.cons_append, List.nil_append]
      refine l_on rfl rfl ?_
      apply lY
      · (first | exact y_pick_t rfl rfl | exact y_pick_f rfl rfl)
      · rfl
      refine l_on rfl rfl ?_
      refine lY (yM rfl) rfl ?_
      skip
      refine l_on rfl rfl ?_
      refine lY (yM rfl) rfl ?_
      refine l_on rfl rfl ?_
      refine lY (yM rfl) rfl ?_
      refine l_on rfl rfl ?_
      apply lL (by kernel_rfl) rfl
      apply ld_call (ct_Is hE (by decide)) rfl (hE.f (by kernel_rfl))
      · ((repeat constructor); done)
      rintro _ _ ⟨rfl, rfl⟩
      simp only [List.cons_append, List.nil_append]
      refine l_on rfl rfl ?_
      apply lY
      · (first | exact y_pick_t rfl rfl | exact y_pick_f rfl rfl)
      · rfl
      refine l_on rfl rfl ?_
      refine lY (yM rfl) rfl ?_
      skip
      refine l_on rfl rfl ?_
      refine lY (yM rfl) rfl ?_
      refine l_on rfl rfl ?_
      refine lY (yM rfl) rfl ?_
      refine l_on rfl rfl ?_
      apply lL (by kernel_rfl) rfl
      apply ld_call (ct_Is hE (by decide)) rfl (hE.f (by kernel_rfl))
      · ((repeat constructor); done)
      rintro _ _ ⟨rfl, rfl⟩
      simp only [List.cons_append, List.nil_append]
      refine l_on rfl rfl ?_
      apply lY
      · (first | exact y_pick_t rfl rfl | exact y_pick_f rfl rfl)
      · rfl
      refine l_on rfl rfl ?_
      refine lY (yM rfl) rfl ?_
      skip
      refine l_on rfl rfl ?_
      refine lY (yM rfl) rfl ?_
      refine l_on rfl rfl ?_
      refine lY (yM rfl) rfl ?_
      refine l_on rfl rfl ?_
      apply lL (by kernel_rfl) rfl
      apply ld_call (ct_Is hE (by decide)) rfl (hE.f (by kernel_rfl))
      · ((repeat constructor); done)
      rintro _ _ ⟨rfl, rfl⟩
      simp only [List.cons_append, List.nil_append]
      refine l_on rfl rfl ?_
      apply lY
      · (first | exact y_pick_t rfl rfl | exact y_pick_f rfl rfl)
      · rfl
      apply lY
      · (first | exact y_pick_t rfl rfl | exact y_pick_f rfl rfl)
      · rfl
      refine lY (yA rfl) rfl ?_
      refine l_nil (aT (w_ret ?_))
      apply a_ret
      · rfl
      · (apply Rs.tmp rfl; exact Rs.nil)
      · exact ⟨rfl, rfl⟩
      · (apply ent; (repeat constructor); done)
    · skip
      apply lL (by kernel_rfl) rfl
      apply ld_call (ct_len hE) rfl (hE.f (by kernel_rfl))
      · ((repeat constructor); done)
      rintro _ _ ⟨rfl, rfl⟩
      simp only [List.cons_append, List.nil_append]
      refine lY (yA rfl) rfl ?_
      refine l_nil (aT (w_seq (wR ?_)))
      refine lY (yM rfl) rfl ?_
      refine lY (yM rfl) rfl ?_
      refine lY (yM rfl) rfl ?_
      apply lL (by kernel_rfl) rfl
      apply ld_call (ct_Common hE hB gi gj) rfl (hE.f (by kernel_rfl))
      · ((repeat constructor); done)
      rintro _ _ ⟨n1, rfl, -, -, rfl⟩
      simp only [List.cons_append, List.nil_append]
      refine lY (yM rfl) rfl ?_
      refine lY (y_extract rfl rfl) rfl ?_
      refine lY (y_extract rfl rfl) rfl ?_
      refine lY (yA rfl) rfl ?_
      refine lY (yA rfl) rfl ?_
      refine l_nil (aT (w_seq (wR ?_)))
      refine lY (yM rfl) rfl ?_
      refine lY (yM rfl) rfl ?_
      refine lY (yM rfl) rfl ?_
      apply lL (by kernel_rfl) rfl
      apply ld_call (ct_CommonEnd hE hB gi gj) rfl (hE.f (by kernel_rfl))
      · ((repeat constructor); done)
      rintro _ _ ⟨n2, rfl, -, -, rfl⟩
      simp only [List.cons_append, List.nil_append]
      refine lY (yM rfl) rfl ?_
      refine lY (y_extract rfl rfl) rfl ?_
      refine lY (y_extract rfl rfl) rfl ?_
      refine lY (yA rfl) rfl ?_
      refine lY (yA rfl) rfl ?_
      refine l_nil (aT (w_seq (wR ?_)))
      refine lY (yM rfl) rfl ?_
      refine lY (yM rfl) rfl ?_
      refine lY (yM rfl) rfl ?_
      apply lL (by kernel_rfl) rfl
      apply ld_call (ct_CommonAt (x := 0) (y := 0) hE hB gi gj (Nat.zero_le _) (Nat.zero_le _)) rfl (hE.f (by kernel_rfl))
      · ((repeat constructor); done)
      rintro _ _ ⟨n3, rfl, -, -, rfl⟩
      simp only [List.cons_append, List.nil_append]
      refine lY (yM rfl) rfl ?_
      refine lY (y_extract rfl rfl) rfl ?_
      refine lY (y_extract rfl rfl) rfl ?_
      refine lY (yA rfl) rfl ?_
      refine lY (yA rfl) rfl ?_
      refine l_nil (aT (w_seq (wR ?_)))
      refine lY (yM rfl) rfl ?_
      refine lY (yM rfl) rfl ?_
      refine lY (yM rfl) rfl ?_
      apply lL (by kernel_rfl) rfl
      apply ld_call (ct_CommonBefore (x := 0) (y := 0) hE hB gi gj (Nat.zero_le _) (Nat.zero_le _)) rfl (hE.f (by kernel_rfl))
      · ((repeat constructor); done)
      rintro _ _ ⟨n4, rfl, -, -, rfl⟩
      simp only [List.cons_append, List.nil_append]
      refine lY (yM rfl) rfl ?_
      refine lY (y_extract rfl rfl) rfl ?_
      refine lY (y_extract rfl rfl) rfl ?_
      refine lY (yA rfl) rfl ?_
      refine lY (yA rfl) rfl ?_
      refine l_nil (aT (w_seq (wR ?_)))
      refine lY (yM rfl) rfl ?_
      refine lY (yM rfl) rfl ?_
      refine lY (yM rfl) rfl ?_
      apply lL (by kernel_rfl) rfl
      apply ld_call (ct_Mismatch_any hE hB gi gj) rfl (hE.f (by kernel_rfl))
      · ((repeat constructor); done)
      rintro _ _ ⟨⟨a, b, rfl⟩, rfl⟩
      simp only [List.cons_append, List.nil_append]
      refine lY (yM rfl) rfl ?_
      refine lY (y_extract rfl rfl) rfl ?_
      refine lY (y_extract rfl rfl) rfl ?_
      refine lY (y_extract rfl rfl) rfl ?_
      refine lY (yA rfl) rfl ?_
      refine lY (yA rfl) rfl ?_
      refine lY (yA rfl) rfl ?_
      refine l_nil (aT (w_seq (wR ?_)))
      refine lY (yM rfl) rfl ?_
      refine lY (yM rfl) rfl ?_
      have hn : Chk E (.pointer none) i j 5 (stars []) := ct_pack (ct_pcheck_nil hE)
      apply lL (by kernel_rfl) rfl
      apply ld_call (ct_spread (l := []) (ct_Common_err hE hn)) rfl (hE.f (by kernel_rfl))
      · ((repeat constructor); done)
      rintro _ _ ⟨rfl, rfl⟩
      simp only [List.cons_append, List.nil_append]
      refine lY (yM rfl) rfl ?_
      refine lY (y_extract rfl rfl) rfl ?_
      refine lY (y_extract rfl rfl) rfl ?_
      refine lY (yA rfl) rfl ?_
      refine lY (yA rfl) rfl ?_
      refine l_nil (aT (w_seq (wR ?_)))
      refine lY (yM rfl) rfl ?_
      refine lY (yM rfl) rfl ?_
      apply lL (by kernel_rfl) rfl
      apply ld_call (ct_spread (l := []) (ct_CommonAt_err hE hn)) rfl (hE.f (by kernel_rfl))
      · ((repeat constructor); done)
      rintro _ _ ⟨rfl, rfl⟩
      simp only [List.cons_append, List.nil_append]
      refine lY (yM rfl) rfl ?_
      refine lY (y_extract rfl rfl) rfl ?_
      refine lY (y_extract rfl rfl) rfl ?_
      refine lY (yA rfl) rfl ?_
      refine lY (yA rfl) rfl ?_
      refine l_nil (aT (w_seq (w_seq (wR ?_))))
      refine lY (yM rfl) rfl ?_
      apply lL (by kernel_rfl) rfl
      apply ld_call (ct_len hE) rfl (hE.f (by kernel_rfl))
      · ((repeat constructor); done)
      rintro _ _ ⟨rfl, rfl⟩
      simp only [List.cons_append, List.nil_append]
      refine lY (yM rfl) rfl ?_
      refine lY (y_ne rfl rfl) rfl ?_
      refine lY (yM rfl) rfl ?_
      refine l_split 157 rfl (fun hz => ?_) (fun hz => ?_)
      · exact absurd rfl hz
      skip
      refine l_on rfl rfl ?_
      refine lY (yM rfl) rfl ?_
      refine l_on rfl rfl ?_
      apply lL (by kernel_rfl) rfl
      apply ld_call (ct_Is hE (by decide)) rfl (hE.f (by kernel_rfl))
      · ((repeat constructor); done)
      rintro _ _ ⟨rfl, rfl⟩
      simp only [List.cons_append, List.nil_append]
      refine l_on rfl rfl ?_
      refine lY (y_not rfl) rfl ?_
      apply lY
      · (first | exact y_pick_t rfl rfl | exact y_pick_f rfl rfl)
      · rfl
      refine lY (yM rfl) rfl ?_
      skip
      refine l_on rfl rfl ?_
      refine lY (yM rfl) rfl ?_
      refine l_on rfl rfl ?_
      apply lL (by kernel_rfl) rfl
      apply ld_call (ct_Is hE (by decide)) rfl (hE.f (by kernel_rfl))
      · ((repeat constructor); done)
      rintro _ _ ⟨rfl, rfl⟩
      simp only [List.cons_append, List.nil_append]
      refine l_on rfl rfl ?_
      refine lY (y_not rfl) rfl ?_
      apply lY
      · (first | exact y_pick_t rfl rfl | exact y_pick_f rfl rfl)
      · rfl
      refine l_nil (aT ?_)
      refine w_cond_f rfl ?_
      refine w_skip (aT (w_seq (wR ?_)))
      refine lY (yM rfl) rfl ?_
      refine lY (y_eq rfl rfl) rfl ?_
      refine lY (yM rfl) rfl ?_
      skip
      refine l_off rfl rfl rfl rfl (l_off rfl rfl rfl rfl (l_off rfl rfl rfl rfl (l_off rfl rfl rfl rfl (l_off_u rfl rfl rfl (l_off_u rfl rfl rfl (l_off_u rfl rfl rfl (l_off rfl rfl rfl rfl ?_)))))))
      refine l_off rfl rfl rfl rfl (l_off_u rfl rfl rfl (l_off_u rfl rfl rfl (l_off_u rfl rfl rfl (l_off rfl rfl rfl rfl (l_off rfl rfl rfl rfl (l_off_u rfl rfl rfl (l_off_u rfl rfl rfl ?_)))))))
      refine l_off_u rfl rfl rfl (l_off rfl rfl rfl rfl (l_off rfl rfl rfl rfl (l_off_u rfl rfl rfl (l_off_u rfl rfl rfl (l_off_u rfl rfl rfl (l_off rfl rfl rfl rfl ?_))))))
      apply lY
      · (first | exact y_pick_t rfl rfl | exact y_pick_f rfl rfl)
      · rfl
      refine lY (yA rfl) rfl ?_
      refine l_nil (aT (w_ret ?_))
      apply a_ret
      · rfl
      · (apply Rs.tmp rfl; exact Rs.nil)
      · exact ⟨rfl, rfl⟩
      · (apply ent; (repeat constructor); done)
end Go.Proofs.YtekhbjlplfbdkaaDoor
