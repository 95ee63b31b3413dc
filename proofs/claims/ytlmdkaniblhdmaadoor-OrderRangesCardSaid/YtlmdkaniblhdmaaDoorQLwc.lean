/- evergreenlaw26.PrefixTexts. -/
import Derived.Test.YtlmdkaniblhdmaaDoorQ13
set_option linter.unusedVariables false
set_option linter.unusedSimpArgs false
namespace Go.Proofs.YtlmdkaniblhdmaaDoor
open Go Go.RowKit Sl Eg
set_option maxRecDepth 10000
variable {E : Env} {Es : List Ent} {pp tb s most : Nat}
theorem lcp_self (a : List UInt8) : lcp a a = a.length := by
  have := lcp_append a [] []
  simpa [lcp_nil_left] using this
theorem lcp_all {a b : List UInt8} (h1 : lcp a b = a.length) (h2 : lcp a b = b.length) : a = b := by
  induction a generalizing b with
  | nil => cases b with
    | nil => rfl
    | cons y b => simp [lcp] at h2
  | cons x a ih => cases b with
    | nil => simp [lcp] at h1
    | cons y b =>
      by_cases e : x = y
      · subst e
        simp [lcp] at h1 h2
        rw [ih h1 h2]
      · simp [lcp, e] at h1
theorem good_ext {L : List Rl} (M : List Rl) {i : Nat} (h : good L i) : good (L ++ M) i := ⟨by have := h.1; rw [List.length_append]; omega, by rw [lvl_ext _ h.1]; exact h.2⟩
theorem ct_PrefixTexts (hE : Seat E) (hB : Base E.w0) {a b : List UInt8} : Ct E 4 [.string ⟨⟨a⟩⟩, .string ⟨⟨b⟩⟩] [] (fun v Q => v = .bool true ∧ Q = []) := by
  refine fn_enter (hE.fn Tryd.func4) rfl rfl rfl (fun R => ?_)
  simp only [argsL, List.cons_append, List.nil_append]
  refine w_seq (w_region ?_)
  refine l_yield (y_assign rfl) rfl ?_
  refine l_nil (a_then (w_seq (w_region ?_)))
  apply l_loud (by kernel_rfl) rfl
  apply ld_call (ct_Parser hE hB) rfl (hE.f (by kernel_rfl))
  · ((repeat constructor); done)
  rintro _ _ ⟨pp, s, tb, M, rfl, hM, rfl⟩
  simp only [List.cons_append, List.nil_append]
  refine l_yield (y_move rfl) rfl ?_
  refine l_yield (y_extract rfl rfl) rfl ?_
  refine l_yield (y_extract rfl rfl) rfl ?_
  refine l_yield (y_assign rfl) rfl ?_
  refine l_yield (y_assign rfl) rfl ?_
  refine l_nil (a_then (w_seq (w_seq (w_region ?_))))
  refine l_yield (y_move rfl) rfl ?_
  refine l_yield (y_not rfl) rfl ?_
  refine l_nil (a_then ?_)
  refine w_cond_f rfl ?_
  refine w_skip (a_then (w_seq (w_region ?_)))
  refine l_yield (y_move rfl) rfl ?_
  apply l_loud (by kernel_rfl) rfl
  apply ld_call (ct_cut (m := 500) hE) rfl (hE.f (by kernel_rfl))
  · ((repeat constructor); done)
  rintro _ _ ⟨rfl, rfl⟩
  simp only [List.cons_append, List.nil_append]
  refine l_yield (y_move rfl) rfl ?_
  apply l_loud (by kernel_rfl) rfl
  apply ld_call (ct_cut (m := 500) hE) rfl (hE.f (by kernel_rfl))
  · ((repeat constructor); done)
  rintro _ _ ⟨rfl, rfl⟩
  simp only [List.cons_append, List.nil_append]
  have ha : (a.take 500).length ≤ 500 := by rw [List.length_take]; omega
  have hb : (b.take 500).length ≤ 500 := by rw [List.length_take]; omega
  generalize a.take 500 = A at ha ⊢
  generalize b.take 500 = B at hb ⊢
  refine l_yield (y_assign rfl) rfl ?_
  refine l_yield (y_assign rfl) rfl ?_
  refine l_nil (a_then (w_seq (w_region ?_)))
  refine l_yield (y_move rfl) rfl ?_
  refine l_yield (y_move rfl) rfl ?_
  apply l_loud (by kernel_rfl) rfl
  refine ld_bytes rfl (hE.t rfl) (hE.t rfl) (hE.t rfl) (fun g1 c1 => ?_)
  skip
  apply l_loud (by kernel_rfl) rfl
  apply ld_call (ct_Of (Es := M) (most := 1048576) (bs := A) hE hB (by omega) (by omega)) rfl (hE.f (by kernel_rfl))
  · ((repeat constructor); done)
  rintro _ _ ⟨M1, x, rfl, hM1, tx1, gx, -, rfl⟩
  simp only [List.cons_append, List.nil_append]
  refine l_yield (y_move rfl) rfl ?_
  refine l_yield (y_extract rfl rfl) rfl ?_
  refine l_yield (y_extract rfl rfl) rfl ?_
  refine l_yield (y_assign rfl) rfl ?_
  refine l_yield (y_assign rfl) rfl ?_
  refine l_nil (a_then (w_seq (w_region ?_)))
  refine l_yield (y_move rfl) rfl ?_
  refine l_yield (y_move rfl) rfl ?_
  apply l_loud (by kernel_rfl) rfl
  refine ld_bytes rfl (hE.t rfl) (hE.t rfl) (hE.t rfl) (fun g2 c2 => ?_)
  skip
  have r2 : (M ++ M1).length + 2 * B.length ≤ 1048576 := by rw [List.length_append]; omega
  apply l_loud (by kernel_rfl) rfl
  apply ld_call (ct_Of (Es := M ++ M1) (most := 1048576) (bs := B) hE hB (by omega) r2) rfl (hE.f (by kernel_rfl))
  · ((repeat constructor); done)
  rintro _ _ ⟨M2, y, rfl, hM2, ty1, gy, -, rfl⟩
  simp only [List.cons_append, List.nil_append]
  have gx' : good (rls (M ++ M1 ++ M2)) x := by rw [rls_append (M ++ M1)]; exact good_ext _ gx
  have tx2 : txt (rls (M ++ M1 ++ M2)) x = A := by rw [rls_append (M ++ M1), txt_ext _ gx.1]; exact tx1
  have lx : len (rls (M ++ M1 ++ M2)) x = A.length := by unfold len; rw [tx2]
  have ly : len (rls (M ++ M1 ++ M2)) y = B.length := by unfold len; rw [ty1]
  refine l_yield (y_move rfl) rfl ?_
  refine l_yield (y_extract rfl rfl) rfl ?_
  refine l_yield (y_extract rfl rfl) rfl ?_
  refine l_yield (y_assign rfl) rfl ?_
  refine l_yield (y_assign rfl) rfl ?_
  refine l_nil (a_then (w_seq (w_region ?_)))
  refine l_yield (y_move rfl) rfl ?_
  apply l_loud (by kernel_rfl) rfl
  apply ld_call (ct_Store hE) rfl (hE.f (by kernel_rfl))
  · ((repeat constructor); done)
  rintro _ _ ⟨rfl, rfl⟩
  simp only [List.cons_append, List.nil_append]
  skip
  apply l_loud (by kernel_rfl) rfl
  apply ld_call (ct_len hE) rfl (hE.f (by kernel_rfl))
  · ((repeat constructor); done)
  rintro _ _ ⟨rfl, rfl⟩
  simp only [List.cons_append, List.nil_append]
  refine l_yield (y_assign rfl) rfl ?_
  refine l_nil (a_then (w_seq (w_region ?_)))
  refine l_yield (y_move rfl) rfl ?_
  refine l_yield (y_move rfl) rfl ?_
  refine l_yield (y_move rfl) rfl ?_
  apply l_loud (by kernel_rfl) rfl
  apply ld_call (ct_Common hE hB gx' gy) rfl (hE.f (by kernel_rfl))
  · ((repeat constructor); done)
  rintro _ _ ⟨c1, rfl, -, e1, rfl⟩
  obtain rfl : c1 = lcp A B := by rw [e1 (by rw [tx_length, tx_length]; omega), tx_f, tx_f, tx2, ty1]
  simp only [List.cons_append, List.nil_append]
  refine l_yield (y_move rfl) rfl ?_
  refine l_yield (y_extract rfl rfl) rfl ?_
  refine l_yield (y_extract rfl rfl) rfl ?_
  refine l_yield (y_assign rfl) rfl ?_
  refine l_yield (y_assign rfl) rfl ?_
  refine l_nil (a_then (w_seq (w_region ?_)))
  refine l_yield (y_move rfl) rfl ?_
  refine l_yield (y_move rfl) rfl ?_
  refine l_yield (y_move rfl) rfl ?_
  apply l_loud (by kernel_rfl) rfl
  apply ld_call (ct_CommonEnd hE hB gx' gy) rfl (hE.f (by kernel_rfl))
  · ((repeat constructor); done)
  rintro _ _ ⟨c2, rfl, -, e2, rfl⟩
  obtain rfl : c2 = lcp A.reverse B.reverse := by rw [e2 (by rw [tx_length, tx_length]; omega), tx_t, tx_t, tx2, ty1]
  simp only [List.cons_append, List.nil_append]
  refine l_yield (y_move rfl) rfl ?_
  refine l_yield (y_extract rfl rfl) rfl ?_
  refine l_yield (y_extract rfl rfl) rfl ?_
  refine l_yield (y_assign rfl) rfl ?_
  refine l_yield (y_assign rfl) rfl ?_
  refine l_nil (a_then (w_seq (w_region ?_)))
  refine l_yield (y_move rfl) rfl ?_
  refine l_yield (y_move rfl) rfl ?_
  refine l_yield (y_move rfl) rfl ?_
  apply l_loud (by kernel_rfl) rfl
  apply ld_call (ct_Mismatch hE hB gx' gy (by omega)) rfl (hE.f (by kernel_rfl))
  · ((repeat constructor); done)
  rintro _ _ ⟨e3, rfl⟩
  rw [tx_f, tx_f, tx2, ty1] at e3
  simp only [List.cons_append, List.nil_append]
  skip
  by_cases hab : A = B
  · subst hab
    rw [lcp_self, if_pos ⟨rfl, rfl⟩] at e3
    subst e3
    refine l_yield (y_move rfl) rfl ?_
    refine l_yield (y_extract rfl rfl) rfl ?_
    refine l_yield (y_extract rfl rfl) rfl ?_
    refine l_yield (y_extract rfl rfl) rfl ?_
    refine l_yield (y_assign rfl) rfl ?_
    refine l_yield (y_assign rfl) rfl ?_
    refine l_yield (y_assign rfl) rfl ?_
    refine l_nil (a_then (w_seq (w_seq (w_region ?_))))
    refine l_yield (y_move rfl) rfl ?_
    apply l_yield
    · (first | exact y_ok_ne rfl (hE.t rfl) | exact y_err_ne rfl (hE.t rfl))
    · rfl
    refine l_yield (y_move rfl) rfl ?_
    skip
    refine l_on rfl rfl ?_
    refine l_yield (y_move rfl) rfl ?_
    refine l_on rfl rfl ?_
    apply l_yield
    · (first | exact y_ok_ne rfl (hE.t rfl) | exact y_err_ne rfl (hE.t rfl))
    · rfl
    apply l_yield
    · (first | exact y_pick_t rfl rfl | exact y_pick_f rfl rfl)
    · rfl
    refine l_yield (y_move rfl) rfl ?_
    skip
    refine l_on rfl rfl ?_
    refine l_yield (y_move rfl) rfl ?_
    refine l_on rfl rfl ?_
    apply l_yield
    · (first | exact y_ok_ne rfl (hE.t rfl) | exact y_err_ne rfl (hE.t rfl))
    · rfl
    apply l_yield
    · (first | exact y_pick_t rfl rfl | exact y_pick_f rfl rfl)
    · rfl
    refine l_yield (y_move rfl) rfl ?_
    skip
    refine l_on rfl rfl ?_
    refine l_yield (y_move rfl) rfl ?_
    refine l_on rfl rfl ?_
    apply l_yield
    · (first | exact y_ok_ne rfl (hE.t rfl) | exact y_err_ne rfl (hE.t rfl))
    · rfl
    apply l_yield
    · (first | exact y_pick_t rfl rfl | exact y_pick_f rfl rfl)
    · rfl
    refine l_yield (y_move rfl) rfl ?_
    skip
    refine l_on rfl rfl ?_
    refine l_yield (y_move rfl) rfl ?_
    refine l_on rfl rfl ?_
    apply l_yield
    · (first | exact y_ok_ne rfl (hE.t rfl) | exact y_err_ne rfl (hE.t rfl))
    · rfl
    apply l_yield
    · (first | exact y_pick_t rfl rfl | exact y_pick_f rfl rfl)
    · rfl
    refine l_yield (y_move rfl) rfl ?_
    skip
    refine l_on rfl rfl ?_
    refine l_yield (y_move rfl) rfl ?_
    refine l_on rfl rfl ?_
    apply l_loud (by kernel_rfl) rfl
    apply ld_call (ct_Store hE) rfl (hE.f (by kernel_rfl))
    · ((repeat constructor); done)
    rintro _ _ ⟨rfl, rfl⟩
    simp only [List.cons_append, List.nil_append]
    refine l_on rfl rfl ?_
    apply l_loud (by kernel_rfl) rfl
    apply ld_call (ct_len hE) rfl (hE.f (by kernel_rfl))
    · ((repeat constructor); done)
    rintro _ _ ⟨rfl, rfl⟩
    simp only [List.cons_append, List.nil_append]
    refine l_on rfl rfl ?_
    refine l_yield (y_move rfl) rfl ?_
    refine l_on rfl rfl ?_
    refine l_yield (y_ne rfl rfl) rfl ?_
    apply l_yield
    · (first | exact y_pick_t rfl rfl | exact y_pick_f rfl rfl)
    · rfl
    refine l_nil (a_then ?_)
    refine w_cond_d rfl (fun h1 => ?_) (fun h1 => ?_)
    · exact absurd rfl h1
    skip
    refine w_skip (a_then (w_seq (w_region ?_)))
    refine l_yield (y_move rfl) rfl ?_
    refine l_yield (y_move rfl) rfl ?_
    apply l_loud (by kernel_rfl) rfl
    apply ld_call (ct_refCommon hE (by omega) (by omega)) rfl (hE.f (by kernel_rfl))
    · ((repeat constructor); done)
    rintro _ _ ⟨rfl, rfl⟩
    simp only [List.cons_append, List.nil_append]
    refine l_yield (y_assign rfl) rfl ?_
    refine l_nil (a_then (w_seq (w_seq (w_region ?_))))
    refine l_yield (y_move rfl) rfl ?_
    refine l_yield (y_move rfl) rfl ?_
    refine l_yield (y_eq_str rfl rfl) rfl ?_
    refine l_nil (a_then ?_)
    refine w_cond_d rfl (fun h2 => ?_) (fun h2 => ?_)
    · skip
      refine w_seq (w_region ?_)
      refine l_yield (y_move rfl) rfl ?_
      refine l_yield (y_move rfl) rfl ?_
      refine l_yield (y_len_str rfl (hE.t rfl)) rfl ?_
      refine l_yield (y_eq rfl rfl) rfl ?_
      refine l_yield (y_move rfl) rfl ?_
      refine l_split 104 rfl (fun h3 => ?_) (fun h3 => ?_)
      · skip
        refine l_on rfl rfl ?_
        refine l_yield (y_move rfl) rfl ?_
        refine l_on rfl rfl ?_
        refine l_yield (y_move rfl) rfl ?_
        refine l_on rfl rfl ?_
        refine l_yield (y_len_str rfl (hE.t rfl)) rfl ?_
        refine l_on rfl rfl ?_
        refine l_yield (y_eq rfl rfl) rfl ?_
        apply l_yield
        · (first | exact y_pick_t rfl rfl | exact y_pick_f rfl rfl)
        · rfl
        refine l_yield (y_move rfl) rfl ?_
        refine l_split 110 rfl (fun h4 => ?_) (fun h4 => ?_)
        · skip
          refine l_on rfl rfl ?_
          refine l_yield (y_move rfl) rfl ?_
          refine l_on rfl rfl ?_
          refine l_yield (y_not rfl) rfl ?_
          apply l_yield
          · (first | exact y_pick_t rfl rfl | exact y_pick_f rfl rfl)
          · rfl
          refine l_yield (y_move rfl) rfl ?_
          skip
          refine l_on rfl rfl ?_
          refine l_yield (y_move rfl) rfl ?_
          refine l_on rfl rfl ?_
          refine l_yield (y_eq rfl rfl) rfl ?_
          apply l_yield
          · (first | exact y_pick_t rfl rfl | exact y_pick_f rfl rfl)
          · rfl
          refine l_yield (y_assign rfl) rfl ?_
          refine l_nil (a_then (w_ret (a_then_ret ?_)))
          apply a_ret
          · rfl
          · (apply Rs.tmp rfl; exact Rs.nil)
          · exact ⟨rfl, rfl⟩
          · (apply ent; (repeat constructor); done)
        · exact absurd (by rw [lcp_self, List.length_reverse]; rfl) h4
      · exact absurd (by rw [lcp_self]; rfl) h3
    · exact absurd rfl h2
  · have hne : ¬ (lcp A B = A.length ∧ lcp A B = B.length) := fun ⟨h1, h2⟩ => hab (lcp_all h1 h2)
    rw [if_neg hne] at e3
    subst e3
    skip
    refine l_yield (y_move rfl) rfl ?_
    refine l_yield (y_extract rfl rfl) rfl ?_
    refine l_yield (y_extract rfl rfl) rfl ?_
    refine l_yield (y_extract rfl rfl) rfl ?_
    refine l_yield (y_assign rfl) rfl ?_
    refine l_yield (y_assign rfl) rfl ?_
    refine l_yield (y_assign rfl) rfl ?_
    refine l_nil (a_then (w_seq (w_seq (w_region ?_))))
    refine l_yield (y_move rfl) rfl ?_
    apply l_yield
    · (first | exact y_ok_ne rfl (hE.t rfl) | exact y_err_ne rfl (hE.t rfl))
    · rfl
    refine l_yield (y_move rfl) rfl ?_
    skip
    refine l_on rfl rfl ?_
    refine l_yield (y_move rfl) rfl ?_
    refine l_on rfl rfl ?_
    apply l_yield
    · (first | exact y_ok_ne rfl (hE.t rfl) | exact y_err_ne rfl (hE.t rfl))
    · rfl
    apply l_yield
    · (first | exact y_pick_t rfl rfl | exact y_pick_f rfl rfl)
    · rfl
    refine l_yield (y_move rfl) rfl ?_
    skip
    refine l_on rfl rfl ?_
    refine l_yield (y_move rfl) rfl ?_
    refine l_on rfl rfl ?_
    apply l_yield
    · (first | exact y_ok_ne rfl (hE.t rfl) | exact y_err_ne rfl (hE.t rfl))
    · rfl
    apply l_yield
    · (first | exact y_pick_t rfl rfl | exact y_pick_f rfl rfl)
    · rfl
    refine l_yield (y_move rfl) rfl ?_
    skip
    refine l_on rfl rfl ?_
    refine l_yield (y_move rfl) rfl ?_
    refine l_on rfl rfl ?_
    apply l_yield
    · (first | exact y_ok_ne rfl (hE.t rfl) | exact y_err_ne rfl (hE.t rfl))
    · rfl
    apply l_yield
    · (first | exact y_pick_t rfl rfl | exact y_pick_f rfl rfl)
    · rfl
    refine l_yield (y_move rfl) rfl ?_
    skip
    refine l_on rfl rfl ?_
    refine l_yield (y_move rfl) rfl ?_
    refine l_on rfl rfl ?_
    apply l_yield
    · (first | exact y_ok_ne rfl (hE.t rfl) | exact y_err_ne rfl (hE.t rfl))
    · rfl
    apply l_yield
    · (first | exact y_pick_t rfl rfl | exact y_pick_f rfl rfl)
    · rfl
    refine l_yield (y_move rfl) rfl ?_
    skip
    refine l_on rfl rfl ?_
    refine l_yield (y_move rfl) rfl ?_
    refine l_on rfl rfl ?_
    apply l_loud (by kernel_rfl) rfl
    apply ld_call (ct_Store hE) rfl (hE.f (by kernel_rfl))
    · ((repeat constructor); done)
    rintro _ _ ⟨rfl, rfl⟩
    simp only [List.cons_append, List.nil_append]
    refine l_on rfl rfl ?_
    apply l_loud (by kernel_rfl) rfl
    apply ld_call (ct_len hE) rfl (hE.f (by kernel_rfl))
    · ((repeat constructor); done)
    rintro _ _ ⟨rfl, rfl⟩
    simp only [List.cons_append, List.nil_append]
    refine l_on rfl rfl ?_
    refine l_yield (y_move rfl) rfl ?_
    refine l_on rfl rfl ?_
    refine l_yield (y_ne rfl rfl) rfl ?_
    apply l_yield
    · (first | exact y_pick_t rfl rfl | exact y_pick_f rfl rfl)
    · rfl
    refine l_nil (a_then ?_)
    refine w_cond_d rfl (fun h1 => ?_) (fun h1 => ?_)
    · exact absurd rfl h1
    skip
    refine w_skip (a_then (w_seq (w_region ?_)))
    refine l_yield (y_move rfl) rfl ?_
    refine l_yield (y_move rfl) rfl ?_
    apply l_loud (by kernel_rfl) rfl
    apply ld_call (ct_refCommon hE (by omega) (by omega)) rfl (hE.f (by kernel_rfl))
    · ((repeat constructor); done)
    rintro _ _ ⟨rfl, rfl⟩
    simp only [List.cons_append, List.nil_append]
    refine l_yield (y_assign rfl) rfl ?_
    refine l_nil (a_then (w_seq (w_seq (w_region ?_))))
    refine l_yield (y_move rfl) rfl ?_
    refine l_yield (y_move rfl) rfl ?_
    refine l_yield (y_eq_str rfl rfl) rfl ?_
    refine l_nil (a_then ?_)
    refine w_cond_d rfl (fun h2 => ?_) (fun h2 => ?_)
    · exact absurd h2 hab
    skip
    refine w_skip (a_then (w_seq (w_region ?_)))
    refine l_yield (y_move rfl) rfl ?_
    refine l_yield (y_move rfl) rfl ?_
    refine l_yield (y_eq rfl rfl) rfl ?_
    refine l_yield (y_move rfl) rfl ?_
    refine l_split 121 rfl (fun h3 => ?_) (fun h3 => ?_)
    · skip
      refine l_on rfl rfl ?_
      refine l_yield (y_move rfl) rfl ?_
      refine l_on rfl rfl ?_
      refine l_yield (y_move rfl) rfl ?_
      refine l_on rfl rfl ?_
      refine l_yield (y_move rfl) rfl ?_
      refine l_on rfl rfl ?_
      apply l_loud (by kernel_rfl) rfl
      apply ld_call (ct_refCommonEnd hE (by omega) (by omega)) rfl (hE.f (by kernel_rfl))
      · ((repeat constructor); done)
      rintro _ _ ⟨rfl, rfl⟩
      simp only [List.cons_append, List.nil_append]
      refine l_on rfl rfl ?_
      refine l_yield (y_eq rfl rfl) rfl ?_
      apply l_yield
      · (first | exact y_pick_t rfl rfl | exact y_pick_f rfl rfl)
      · rfl
      refine l_yield (y_move rfl) rfl ?_
      refine l_split 128 rfl (fun h4 => ?_) (fun h4 => ?_)
      · skip
        refine l_on rfl rfl ?_
        refine l_yield (y_move rfl) rfl ?_
        apply l_yield
        · (first | exact y_pick_t rfl rfl | exact y_pick_f rfl rfl)
        · rfl
        refine l_yield (y_move rfl) rfl ?_
        skip
        refine l_on rfl rfl ?_
        refine l_yield (y_move rfl) rfl ?_
        refine l_on rfl rfl ?_
        refine l_yield (y_move rfl) rfl ?_
        refine l_on rfl rfl ?_
        refine l_yield (y_eq rfl rfl) rfl ?_
        apply l_yield
        · (first | exact y_pick_t rfl rfl | exact y_pick_f rfl rfl)
        · rfl
        refine l_yield (y_assign rfl) rfl ?_
        refine l_nil (a_then (w_ret ?_))
        apply a_ret
        · rfl
        · (apply Rs.tmp rfl; exact Rs.nil)
        · exact ⟨by simp [one], rfl⟩
        · (apply ent; (repeat constructor); done)
      · exact absurd rfl h4
    · exact absurd rfl h3
end Go.Proofs.YtlmdkaniblhdmaaDoor
