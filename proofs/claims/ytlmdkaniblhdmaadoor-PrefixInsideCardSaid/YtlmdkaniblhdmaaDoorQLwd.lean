/- evergreenlaw26.PrefixInside. -/
import Derived.Test.YtlmdkaniblhdmaaDoorQLwc
set_option linter.unusedVariables false
set_option linter.unusedSimpArgs false
namespace Go.Proofs.YtlmdkaniblhdmaaDoor
open Go Go.RowKit Sl Eg
set_option maxRecDepth 10000
variable {E : Env} {Es : List Ent} {pp tb s most : Nat}
theorem ct_PrefixInside_in (hE : Seat E) (hB : Base E.w0) {a b : List UInt8} {i j : Nat} (hij : i ≤ (a.take 400).length ∧ j ≤ (b.take 400).length) : Ct E 3 [.string ⟨⟨a⟩⟩, .string ⟨⟨b⟩⟩, .int .i64 (i : Nat), .int .i64 (j : Nat)] [] (fun v Q => v = .bool true ∧ Q = []) := by
  refine fn_enter (hE.fn Tryd.func3) rfl rfl rfl (fun R => ?_)
  simp only [argsL, List.cons_append, List.nil_append]
  refine w_seq ?_
  refine w_region ?_
  apply l_yield
  · exact y_assign rfl
  · rfl
  refine l_nil ?_
  refine a_then ?_
  refine w_seq ?_
  refine w_region ?_
  apply l_loud (by kernel_rfl) rfl
  apply ld_call (ct_Parser hE hB) rfl (hE.f (by kernel_rfl))
  · ((repeat (first | exact Sub.nil | exact Take.here | apply Take.there | apply Sub.cons)); done)
  rintro _ _ ⟨pp, s, tb, M, rfl, hM, rfl⟩
  simp only [List.cons_append, List.nil_append]
  apply l_yield
  · exact y_move rfl
  · rfl
  apply l_yield
  · exact y_extract rfl rfl
  · rfl
  apply l_yield
  · exact y_extract rfl rfl
  · rfl
  apply l_yield
  · exact y_assign rfl
  · rfl
  apply l_yield
  · exact y_assign rfl
  · rfl
  refine l_nil ?_
  refine a_then ?_
  refine w_seq ?_
  refine w_seq ?_
  refine w_region ?_
  apply l_yield
  · exact y_move rfl
  · rfl
  apply l_yield
  · exact y_not rfl
  · rfl
  refine l_nil ?_
  refine a_then ?_
  refine w_cond_f rfl ?_
  refine w_skip ?_
  refine a_then ?_
  refine w_seq ?_
  refine w_region ?_
  apply l_yield
  · exact y_move rfl
  · rfl
  apply l_loud (by kernel_rfl) rfl
  apply ld_call (ct_cut (m := 400) hE) rfl (hE.f (by kernel_rfl))
  · ((repeat (first | exact Sub.nil | exact Take.here | apply Take.there | apply Sub.cons)); done)
  rintro _ _ ⟨rfl, rfl⟩
  simp only [List.cons_append, List.nil_append]
  apply l_yield
  · exact y_move rfl
  · rfl
  apply l_loud (by kernel_rfl) rfl
  apply ld_call (ct_cut (m := 400) hE) rfl (hE.f (by kernel_rfl))
  · ((repeat (first | exact Sub.nil | exact Take.here | apply Take.there | apply Sub.cons)); done)
  rintro _ _ ⟨rfl, rfl⟩
  simp only [List.cons_append, List.nil_append]
  have ha : (a.take 400).length ≤ 400 := by rw [List.length_take]; omega
  have hb : (b.take 400).length ≤ 400 := by rw [List.length_take]; omega
  generalize a.take 400 = A at ha hij ⊢
  generalize b.take 400 = B at hb hij ⊢
  apply l_yield
  · exact y_assign rfl
  · rfl
  apply l_yield
  · exact y_assign rfl
  · rfl
  refine l_nil ?_
  refine a_then ?_
  refine w_seq ?_
  refine w_region ?_
  apply l_yield
  · exact y_move rfl
  · rfl
  apply l_yield
  · exact y_move rfl
  · rfl
  apply l_loud (by kernel_rfl) rfl
  refine ld_bytes rfl (hE.t rfl) (hE.t rfl) (hE.t rfl) (fun g1 c1 => ?_)
  skip
  apply l_loud (by kernel_rfl) rfl
  apply ld_call (ct_Of (Es := M) (most := 1048576) (bs := A) hE hB (by omega) (by omega)) rfl (hE.f (by kernel_rfl))
  · ((repeat (first | exact Sub.nil | exact Take.here | apply Take.there | apply Sub.cons)); done)
  rintro _ _ ⟨M1, x, rfl, hM1, tx1, gx, -, rfl⟩
  simp only [List.cons_append, List.nil_append]
  apply l_yield
  · exact y_move rfl
  · rfl
  apply l_yield
  · exact y_extract rfl rfl
  · rfl
  apply l_yield
  · exact y_extract rfl rfl
  · rfl
  apply l_yield
  · exact y_assign rfl
  · rfl
  apply l_yield
  · exact y_assign rfl
  · rfl
  refine l_nil ?_
  refine a_then ?_
  refine w_seq ?_
  refine w_region ?_
  apply l_yield
  · exact y_move rfl
  · rfl
  apply l_yield
  · exact y_move rfl
  · rfl
  apply l_loud (by kernel_rfl) rfl
  refine ld_bytes rfl (hE.t rfl) (hE.t rfl) (hE.t rfl) (fun g2 c2 => ?_)
  skip
  have r2 : (M ++ M1).length + 2 * B.length ≤ 1048576 := by rw [List.length_append]; omega
  apply l_loud (by kernel_rfl) rfl
  apply ld_call (ct_Of (Es := M ++ M1) (most := 1048576) (bs := B) hE hB (by omega) r2) rfl (hE.f (by kernel_rfl))
  · ((repeat (first | exact Sub.nil | exact Take.here | apply Take.there | apply Sub.cons)); done)
  rintro _ _ ⟨M2, y, rfl, hM2, ty1, gy, -, rfl⟩
  simp only [List.cons_append, List.nil_append]
  have gx' : good (rls (M ++ M1 ++ M2)) x := by rw [rls_append (M ++ M1)]; exact good_ext _ gx
  have tx2 : txt (rls (M ++ M1 ++ M2)) x = A := by rw [rls_append (M ++ M1), txt_ext _ gx.1]; exact tx1
  have lx : len (rls (M ++ M1 ++ M2)) x = A.length := by unfold len; rw [tx2]
  have ly : len (rls (M ++ M1 ++ M2)) y = B.length := by unfold len; rw [ty1]
  apply l_yield
  · exact y_move rfl
  · rfl
  apply l_yield
  · exact y_extract rfl rfl
  · rfl
  apply l_yield
  · exact y_extract rfl rfl
  · rfl
  apply l_yield
  · exact y_assign rfl
  · rfl
  apply l_yield
  · exact y_assign rfl
  · rfl
  refine l_nil ?_
  refine a_then ?_
  refine w_seq ?_
  refine w_region ?_
  apply l_yield
  · exact y_move rfl
  · rfl
  apply l_loud (by kernel_rfl) rfl
  apply ld_call (ct_Store hE) rfl (hE.f (by kernel_rfl))
  · ((repeat (first | exact Sub.nil | exact Take.here | apply Take.there | apply Sub.cons)); done)
  rintro _ _ ⟨rfl, rfl⟩
  simp only [List.cons_append, List.nil_append]
  skip
  apply l_loud (by kernel_rfl) rfl
  apply ld_call (ct_len hE) rfl (hE.f (by kernel_rfl))
  · ((repeat (first | exact Sub.nil | exact Take.here | apply Take.there | apply Sub.cons)); done)
  rintro _ _ ⟨rfl, rfl⟩
  simp only [List.cons_append, List.nil_append]
  apply l_yield
  · exact y_assign rfl
  · rfl
  refine l_nil ?_
  refine a_then ?_
  refine w_seq ?_
  refine w_region ?_
  apply l_yield
  · exact y_move rfl
  · rfl
  apply l_yield
  · exact y_move rfl
  · rfl
  apply l_yield
  · exact y_move rfl
  · rfl
  apply l_yield
  · exact y_move rfl
  · rfl
  apply l_yield
  · exact y_move rfl
  · rfl
  apply l_loud (by kernel_rfl) rfl
  apply ld_call (ct_CommonAt hE hB gx' gy (by omega) (by omega)) rfl (hE.f (by kernel_rfl))
  · ((repeat (first | exact Sub.nil | exact Take.here | apply Take.there | apply Sub.cons)); done)
  rintro _ _ ⟨c1, rfl, -, e1, rfl⟩
  obtain rfl : c1 = lcp (A.drop i) (B.drop j) := by rw [e1 (by simp only [List.length_drop, tx_length]; omega), tx_f, tx_f, tx2, ty1]
  simp only [List.cons_append, List.nil_append]
  apply l_yield
  · exact y_move rfl
  · rfl
  apply l_yield
  · exact y_extract rfl rfl
  · rfl
  apply l_yield
  · exact y_extract rfl rfl
  · rfl
  apply l_yield
  · exact y_assign rfl
  · rfl
  apply l_yield
  · exact y_assign rfl
  · rfl
  refine l_nil ?_
  refine a_then ?_
  refine w_seq ?_
  refine w_region ?_
  apply l_yield
  · exact y_move rfl
  · rfl
  apply l_yield
  · exact y_move rfl
  · rfl
  apply l_yield
  · exact y_move rfl
  · rfl
  apply l_yield
  · exact y_move rfl
  · rfl
  apply l_yield
  · exact y_move rfl
  · rfl
  apply l_loud (by kernel_rfl) rfl
  apply ld_call (ct_CommonBefore hE hB gx' gy (by omega) (by omega)) rfl (hE.f (by kernel_rfl))
  · ((repeat (first | exact Sub.nil | exact Take.here | apply Take.there | apply Sub.cons)); done)
  rintro _ _ ⟨c2, rfl, -, e2, rfl⟩
  obtain rfl : c2 = lcp (A.take i).reverse (B.take j).reverse := by rw [e2 (by simp only [List.length_drop, tx_length]; omega), tx_t, tx_t, tx2, ty1, lx, ly, ← List.reverse_take, ← List.reverse_take]
  simp only [List.cons_append, List.nil_append]
  apply l_yield
  · exact y_move rfl
  · rfl
  apply l_yield
  · exact y_extract rfl rfl
  · rfl
  apply l_yield
  · exact y_extract rfl rfl
  · rfl
  apply l_yield
  · exact y_assign rfl
  · rfl
  apply l_yield
  · exact y_assign rfl
  · rfl
  refine l_nil ?_
  refine a_then ?_
  refine w_seq ?_
  refine w_seq ?_
  refine w_region ?_
  apply l_yield
  · exact y_move rfl
  · rfl
  apply l_yield
  · (first | exact y_ok_ne rfl (hE.t rfl) | exact y_err_ne rfl (hE.t rfl))
  · rfl
  apply l_yield
  · exact y_move rfl
  · rfl
  skip
  refine l_on rfl rfl ?_
  apply l_yield
  · exact y_move rfl
  · rfl
  refine l_on rfl rfl ?_
  apply l_yield
  · (first | exact y_ok_ne rfl (hE.t rfl) | exact y_err_ne rfl (hE.t rfl))
  · rfl
  apply l_yield
  · (first | exact y_pick_t rfl rfl | exact y_pick_f rfl rfl)
  · rfl
  apply l_yield
  · exact y_move rfl
  · rfl
  skip
  refine l_on rfl rfl ?_
  apply l_yield
  · exact y_move rfl
  · rfl
  refine l_on rfl rfl ?_
  apply l_loud (by kernel_rfl) rfl
  apply ld_call (ct_Store hE) rfl (hE.f (by kernel_rfl))
  · ((repeat (first | exact Sub.nil | exact Take.here | apply Take.there | apply Sub.cons)); done)
  rintro _ _ ⟨rfl, rfl⟩
  simp only [List.cons_append, List.nil_append]
  refine l_on rfl rfl ?_
  apply l_loud (by kernel_rfl) rfl
  apply ld_call (ct_len hE) rfl (hE.f (by kernel_rfl))
  · ((repeat (first | exact Sub.nil | exact Take.here | apply Take.there | apply Sub.cons)); done)
  rintro _ _ ⟨rfl, rfl⟩
  simp only [List.cons_append, List.nil_append]
  refine l_on rfl rfl ?_
  apply l_yield
  · exact y_move rfl
  · rfl
  refine l_on rfl rfl ?_
  apply l_yield
  · exact y_ne rfl rfl
  · rfl
  apply l_yield
  · (first | exact y_pick_t rfl rfl | exact y_pick_f rfl rfl)
  · rfl
  refine l_nil ?_
  refine a_then ?_
  refine w_cond_d rfl (fun h1 => ?_) (fun h1 => ?_)
  · exact absurd rfl h1
  skip
  have sA := size_mk A
  have sB := size_mk B
  refine w_skip ?_
  refine a_then ?_
  refine w_seq ?_
  refine w_seq ?_
  refine w_region ?_
  apply l_yield
  · exact y_move rfl
  · rfl
  apply l_yield
  · exact y_lt rfl rfl
  · rfl
  apply l_yield
  · exact y_move rfl
  · rfl
  refine l_split 80 rfl (fun h2 => ?_) (fun h2 => ?_)
  · exact absurd h2 (by omega)
  skip
  refine l_on rfl rfl ?_
  apply l_yield
  · exact y_move rfl
  · rfl
  refine l_on rfl rfl ?_
  apply l_yield
  · exact y_move rfl
  · rfl
  refine l_on rfl rfl ?_
  apply l_yield
  · exact y_len_str rfl (hE.t rfl)
  · rfl
  refine l_on rfl rfl ?_
  apply l_yield
  · exact y_gt rfl rfl
  · rfl
  apply l_yield
  · (first | exact y_pick_t rfl rfl | exact y_pick_f rfl rfl)
  · rfl
  apply l_yield
  · exact y_move rfl
  · rfl
  refine l_split 86 rfl (fun h3 => ?_) (fun h3 => ?_)
  · exact absurd h3 (by omega)
  skip
  refine l_on rfl rfl ?_
  apply l_yield
  · exact y_move rfl
  · rfl
  refine l_on rfl rfl ?_
  apply l_yield
  · exact y_lt rfl rfl
  · rfl
  apply l_yield
  · (first | exact y_pick_t rfl rfl | exact y_pick_f rfl rfl)
  · rfl
  apply l_yield
  · exact y_move rfl
  · rfl
  refine l_split 90 rfl (fun h4 => ?_) (fun h4 => ?_)
  · exact absurd h4 (by omega)
  skip
  refine l_on rfl rfl ?_
  apply l_yield
  · exact y_move rfl
  · rfl
  refine l_on rfl rfl ?_
  apply l_yield
  · exact y_move rfl
  · rfl
  refine l_on rfl rfl ?_
  apply l_yield
  · exact y_len_str rfl (hE.t rfl)
  · rfl
  refine l_on rfl rfl ?_
  apply l_yield
  · exact y_gt rfl rfl
  · rfl
  apply l_yield
  · (first | exact y_pick_t rfl rfl | exact y_pick_f rfl rfl)
  · rfl
  refine l_nil ?_
  refine a_then ?_
  refine w_cond_d rfl (fun h5 => ?_) (fun h5 => ?_)
  · exact absurd h5 (by omega)
  skip
  have eA : (⟨⟨A⟩⟩ : ByteArray).extract i (⟨⟨A⟩⟩ : ByteArray).size = ⟨⟨A.drop i⟩⟩ := by rw [extract_mk A _ _ (Nat.le_of_eq sA), size_mk, List.take_length]
  have eB : (⟨⟨B⟩⟩ : ByteArray).extract j (⟨⟨B⟩⟩ : ByteArray).size = ⟨⟨B.drop j⟩⟩ := by rw [extract_mk B _ _ (Nat.le_of_eq sB), size_mk, List.take_length]
  have fA : (⟨⟨A⟩⟩ : ByteArray).extract 0 i = ⟨⟨A.take i⟩⟩ := by rw [extract_mk A _ _ (by omega), List.drop_zero]
  have fB : (⟨⟨B⟩⟩ : ByteArray).extract 0 j = ⟨⟨B.take j⟩⟩ := by rw [extract_mk B _ _ (by omega), List.drop_zero]
  have lA : (A.drop i).length ≤ 1152921504606846976 := by rw [List.length_drop]; omega
  have lB : (B.drop j).length ≤ 1152921504606846976 := by rw [List.length_drop]; omega
  have mA : (A.take i).length ≤ 1152921504606846976 := by rw [List.length_take]; omega
  have mB : (B.take j).length ≤ 1152921504606846976 := by rw [List.length_take]; omega
  refine w_skip ?_
  refine a_then ?_
  refine w_seq ?_
  refine w_held ([]) ?_ ?_
  · (apply ent; (repeat (first | exact Sub.nil | exact Take.here | apply Take.there | apply Sub.cons)); done)
  apply d_take 0 rfl
  · exact y_move rfl
  · with_reducible (repeat (first | exact calm_body | apply calm_then | apply calm_block))
  · kernel_rfl
  · rfl
  apply d_take 1 rfl
  · (first | exact y_ok_eq rfl (hE.t rfl) | exact y_err_eq rfl (hE.t rfl))
  · with_reducible (repeat (first | exact calm_body | apply calm_then | apply calm_block))
  · kernel_rfl
  · rfl
  apply d_take 2 rfl
  · exact y_move rfl
  · with_reducible (repeat (first | exact calm_body | apply calm_then | apply calm_block))
  · kernel_rfl
  · rfl
  skip
  apply d_on 3 rfl rfl rfl
  · exact y_move rfl
  · with_reducible (repeat (first | exact calm_body | apply calm_then | apply calm_block))
  · kernel_rfl
  · rfl
  apply d_on 4 rfl rfl rfl
  · (first | exact y_ok_eq rfl (hE.t rfl) | exact y_err_eq rfl (hE.t rfl))
  · with_reducible (repeat (first | exact calm_body | apply calm_then | apply calm_block))
  · kernel_rfl
  · rfl
  apply d_take 5 rfl
  · (first | exact y_pick_t rfl rfl | exact y_pick_f rfl rfl)
  · with_reducible (repeat (first | exact calm_body | apply calm_then | apply calm_block))
  · kernel_rfl
  · rfl
  apply d_take 6 rfl
  · exact y_move rfl
  · with_reducible (repeat (first | exact calm_body | apply calm_then | apply calm_block))
  · kernel_rfl
  · rfl
  skip
  apply d_on 7 rfl rfl rfl
  · exact y_move rfl
  · with_reducible (repeat (first | exact calm_body | apply calm_then | apply calm_block))
  · kernel_rfl
  · rfl
  apply d_on 8 rfl rfl rfl
  · exact y_move rfl
  · with_reducible (repeat (first | exact calm_body | apply calm_then | apply calm_block))
  · kernel_rfl
  · rfl
  apply d_on 9 rfl rfl rfl
  · exact y_move rfl
  · with_reducible (repeat (first | exact calm_body | apply calm_then | apply calm_block))
  · kernel_rfl
  · rfl
  apply d_on 10 rfl rfl rfl
  · exact y_slice_str rfl (hE.t rfl) ⟨_, rfl⟩ rfl (by omega) (by omega)
  · with_reducible (repeat (first | exact calm_body | apply calm_then | apply calm_block))
  · kernel_rfl
  · rfl
  apply d_on 11 rfl rfl rfl
  · exact y_move rfl
  · with_reducible (repeat (first | exact calm_body | apply calm_then | apply calm_block))
  · kernel_rfl
  · rfl
  apply d_on 12 rfl rfl rfl
  · exact y_move rfl
  · with_reducible (repeat (first | exact calm_body | apply calm_then | apply calm_block))
  · kernel_rfl
  · rfl
  apply d_on 13 rfl rfl rfl
  · exact y_slice_str rfl (hE.t rfl) ⟨_, rfl⟩ rfl (by omega) (by omega)
  · with_reducible (repeat (first | exact calm_body | apply calm_then | apply calm_block))
  · kernel_rfl
  · rfl
  apply d_loud_on 14 rfl rfl rfl (by kernel_rfl) rfl
  rw [eA, eB]
  apply ld_call (ct_refCommon hE lA lB) rfl (hE.f (by kernel_rfl))
  · ((repeat (first | exact Sub.nil | exact Take.here | apply Take.there | apply Sub.cons)); done)
  rintro _ _ ⟨rfl, rfl⟩
  simp only [List.cons_append, List.nil_append]
  refine ⟨by (apply ent; (repeat (first | exact Sub.nil | exact Take.here | apply Take.there | apply Sub.cons)); done), ?_⟩
  apply d_on 15 rfl rfl rfl
  · exact y_eq rfl rfl
  · with_reducible (repeat (first | exact calm_body | apply calm_then | apply calm_block))
  · kernel_rfl
  · rfl
  apply d_take 16 rfl
  · (first | exact y_pick_t rfl rfl | exact y_pick_f rfl rfl)
  · with_reducible (repeat (first | exact calm_body | apply calm_then | apply calm_block))
  · kernel_rfl
  · rfl
  apply d_take 17 rfl
  · exact y_move rfl
  · with_reducible (repeat (first | exact calm_body | apply calm_then | apply calm_block))
  · kernel_rfl
  · rfl
  refine d_split 127 rfl (fun h6 => ?_) (fun h6 => ?_)
  · skip
    apply d_on 18 rfl rfl rfl
    · exact y_move rfl
    · with_reducible (repeat (first | exact calm_body | apply calm_then | apply calm_block))
    · kernel_rfl
    · rfl
    apply d_on 19 rfl rfl rfl
    · exact y_move rfl
    · with_reducible (repeat (first | exact calm_body | apply calm_then | apply calm_block))
    · kernel_rfl
    · rfl
    apply d_on 20 rfl rfl rfl
    · exact y_move rfl
    · with_reducible (repeat (first | exact calm_body | apply calm_then | apply calm_block))
    · kernel_rfl
    · rfl
    apply d_on 21 rfl rfl rfl
    · exact y_slice_str rfl (hE.t rfl) rfl ⟨_, rfl⟩ (by omega) (by omega)
    · with_reducible (repeat (first | exact calm_body | apply calm_then | apply calm_block))
    · kernel_rfl
    · rfl
    apply d_on 22 rfl rfl rfl
    · exact y_move rfl
    · with_reducible (repeat (first | exact calm_body | apply calm_then | apply calm_block))
    · kernel_rfl
    · rfl
    apply d_on 23 rfl rfl rfl
    · exact y_move rfl
    · with_reducible (repeat (first | exact calm_body | apply calm_then | apply calm_block))
    · kernel_rfl
    · rfl
    apply d_on 24 rfl rfl rfl
    · exact y_slice_str rfl (hE.t rfl) rfl ⟨_, rfl⟩ (by omega) (by omega)
    · with_reducible (repeat (first | exact calm_body | apply calm_then | apply calm_block))
    · kernel_rfl
    · rfl
    apply d_loud_on 25 rfl rfl rfl (by kernel_rfl) rfl
    rw [fA, fB]
    apply ld_call (ct_refCommonEnd hE mA mB) rfl (hE.f (by kernel_rfl))
    · ((repeat (first | exact Sub.nil | exact Take.here | apply Take.there | apply Sub.cons)); done)
    rintro _ _ ⟨rfl, rfl⟩
    simp only [List.cons_append, List.nil_append]
    refine ⟨by (apply ent; (repeat (first | exact Sub.nil | exact Take.here | apply Take.there | apply Sub.cons)); done), ?_⟩
    apply d_on 26 rfl rfl rfl
    · exact y_eq rfl rfl
    · with_reducible (repeat (first | exact calm_body | apply calm_then | apply calm_block))
    · kernel_rfl
    · rfl
    apply d_take 27 rfl
    · (first | exact y_pick_t rfl rfl | exact y_pick_f rfl rfl)
    · with_reducible (repeat (first | exact calm_body | apply calm_then | apply calm_block))
    · kernel_rfl
    · rfl
    apply d_take 28 rfl
    · exact y_assign rfl
    · with_reducible (repeat (first | exact calm_body | apply calm_then | apply calm_block))
    · kernel_rfl
    · rfl
    refine d_nil (by kernel_rfl) ?_
    refine a_then ?_
    refine w_ret ?_
    apply a_ret
    · rfl
    · (repeat (first | exact Rs.nil | apply Rs.tmp rfl | (apply Rs.cell rfl (hE.t rfl) rfl; (focus ((repeat (first | exact HasCs.nil | (apply HasCs.cons; (focus ((repeat (first | exact HasC.here rfl | exact HasC.slice rfl | (apply HasC.here; assumption) | (apply HasC.slice; assumption) | apply HasC.there)); done))))); done))) | (apply Rs.cell1 rfl (hE.t rfl) rfl; (focus ((repeat (first | exact HasC.here rfl | exact HasC.slice rfl | (apply HasC.here; assumption) | (apply HasC.slice; assumption) | apply HasC.there)); done)))))
    · exact ⟨by simp [one], rfl⟩
    · (apply ent; (repeat (first | exact Sub.nil | exact Take.here | apply Take.there | apply Sub.cons)); done)
  · exact absurd rfl h6
theorem ct_PrefixInside_out (hE : Seat E) (hB : Base E.w0) {a b : List UInt8} {i j : Int} (hij : ¬ ((0 ≤ i ∧ i ≤ ((a.take 400).length : Nat)) ∧ (0 ≤ j ∧ j ≤ ((b.take 400).length : Nat)))) : Ct E 3 [.string ⟨⟨a⟩⟩, .string ⟨⟨b⟩⟩, .int .i64 i, .int .i64 j] [] (fun v Q => v = .bool true ∧ Q = []) := by
  refine fn_enter (hE.fn Tryd.func3) rfl rfl rfl (fun R => ?_)
  simp only [argsL, List.cons_append, List.nil_append]
  refine w_seq ?_
  refine w_region ?_
  apply l_yield
  · exact y_assign rfl
  · rfl
  refine l_nil ?_
  refine a_then ?_
  refine w_seq ?_
  refine w_region ?_
  apply l_loud (by kernel_rfl) rfl
  apply ld_call (ct_Parser hE hB) rfl (hE.f (by kernel_rfl))
  · ((repeat (first | exact Sub.nil | exact Take.here | apply Take.there | apply Sub.cons)); done)
  rintro _ _ ⟨pp, s, tb, M, rfl, hM, rfl⟩
  simp only [List.cons_append, List.nil_append]
  apply l_yield
  · exact y_move rfl
  · rfl
  apply l_yield
  · exact y_extract rfl rfl
  · rfl
  apply l_yield
  · exact y_extract rfl rfl
  · rfl
  apply l_yield
  · exact y_assign rfl
  · rfl
  apply l_yield
  · exact y_assign rfl
  · rfl
  refine l_nil ?_
  refine a_then ?_
  refine w_seq ?_
  refine w_seq ?_
  refine w_region ?_
  apply l_yield
  · exact y_move rfl
  · rfl
  apply l_yield
  · exact y_not rfl
  · rfl
  refine l_nil ?_
  refine a_then ?_
  refine w_cond_f rfl ?_
  refine w_skip ?_
  refine a_then ?_
  refine w_seq ?_
  refine w_region ?_
  apply l_yield
  · exact y_move rfl
  · rfl
  apply l_loud (by kernel_rfl) rfl
  apply ld_call (ct_cut (m := 400) hE) rfl (hE.f (by kernel_rfl))
  · ((repeat (first | exact Sub.nil | exact Take.here | apply Take.there | apply Sub.cons)); done)
  rintro _ _ ⟨rfl, rfl⟩
  simp only [List.cons_append, List.nil_append]
  apply l_yield
  · exact y_move rfl
  · rfl
  apply l_loud (by kernel_rfl) rfl
  apply ld_call (ct_cut (m := 400) hE) rfl (hE.f (by kernel_rfl))
  · ((repeat (first | exact Sub.nil | exact Take.here | apply Take.there | apply Sub.cons)); done)
  rintro _ _ ⟨rfl, rfl⟩
  simp only [List.cons_append, List.nil_append]
  have ha : (a.take 400).length ≤ 400 := by rw [List.length_take]; omega
  have hb : (b.take 400).length ≤ 400 := by rw [List.length_take]; omega
  generalize a.take 400 = A at ha hij ⊢
  generalize b.take 400 = B at hb hij ⊢
  apply l_yield
  · exact y_assign rfl
  · rfl
  apply l_yield
  · exact y_assign rfl
  · rfl
  refine l_nil ?_
  refine a_then ?_
  refine w_seq ?_
  refine w_region ?_
  apply l_yield
  · exact y_move rfl
  · rfl
  apply l_yield
  · exact y_move rfl
  · rfl
  apply l_loud (by kernel_rfl) rfl
  refine ld_bytes rfl (hE.t rfl) (hE.t rfl) (hE.t rfl) (fun g1 c1 => ?_)
  skip
  apply l_loud (by kernel_rfl) rfl
  apply ld_call (ct_Of (Es := M) (most := 1048576) (bs := A) hE hB (by omega) (by omega)) rfl (hE.f (by kernel_rfl))
  · ((repeat (first | exact Sub.nil | exact Take.here | apply Take.there | apply Sub.cons)); done)
  rintro _ _ ⟨M1, x, rfl, hM1, tx1, gx, -, rfl⟩
  simp only [List.cons_append, List.nil_append]
  apply l_yield
  · exact y_move rfl
  · rfl
  apply l_yield
  · exact y_extract rfl rfl
  · rfl
  apply l_yield
  · exact y_extract rfl rfl
  · rfl
  apply l_yield
  · exact y_assign rfl
  · rfl
  apply l_yield
  · exact y_assign rfl
  · rfl
  refine l_nil ?_
  refine a_then ?_
  refine w_seq ?_
  refine w_region ?_
  apply l_yield
  · exact y_move rfl
  · rfl
  apply l_yield
  · exact y_move rfl
  · rfl
  apply l_loud (by kernel_rfl) rfl
  refine ld_bytes rfl (hE.t rfl) (hE.t rfl) (hE.t rfl) (fun g2 c2 => ?_)
  skip
  have r2 : (M ++ M1).length + 2 * B.length ≤ 1048576 := by rw [List.length_append]; omega
  apply l_loud (by kernel_rfl) rfl
  apply ld_call (ct_Of (Es := M ++ M1) (most := 1048576) (bs := B) hE hB (by omega) r2) rfl (hE.f (by kernel_rfl))
  · ((repeat (first | exact Sub.nil | exact Take.here | apply Take.there | apply Sub.cons)); done)
  rintro _ _ ⟨M2, y, rfl, hM2, ty1, gy, -, rfl⟩
  simp only [List.cons_append, List.nil_append]
  have gx' : good (rls (M ++ M1 ++ M2)) x := by rw [rls_append (M ++ M1)]; exact good_ext _ gx
  have tx2 : txt (rls (M ++ M1 ++ M2)) x = A := by rw [rls_append (M ++ M1), txt_ext _ gx.1]; exact tx1
  have lx : len (rls (M ++ M1 ++ M2)) x = A.length := by unfold len; rw [tx2]
  have ly : len (rls (M ++ M1 ++ M2)) y = B.length := by unfold len; rw [ty1]
  apply l_yield
  · exact y_move rfl
  · rfl
  apply l_yield
  · exact y_extract rfl rfl
  · rfl
  apply l_yield
  · exact y_extract rfl rfl
  · rfl
  apply l_yield
  · exact y_assign rfl
  · rfl
  apply l_yield
  · exact y_assign rfl
  · rfl
  refine l_nil ?_
  refine a_then ?_
  refine w_seq ?_
  refine w_region ?_
  apply l_yield
  · exact y_move rfl
  · rfl
  apply l_loud (by kernel_rfl) rfl
  apply ld_call (ct_Store hE) rfl (hE.f (by kernel_rfl))
  · ((repeat (first | exact Sub.nil | exact Take.here | apply Take.there | apply Sub.cons)); done)
  rintro _ _ ⟨rfl, rfl⟩
  simp only [List.cons_append, List.nil_append]
  skip
  apply l_loud (by kernel_rfl) rfl
  apply ld_call (ct_len hE) rfl (hE.f (by kernel_rfl))
  · ((repeat (first | exact Sub.nil | exact Take.here | apply Take.there | apply Sub.cons)); done)
  rintro _ _ ⟨rfl, rfl⟩
  simp only [List.cons_append, List.nil_append]
  apply l_yield
  · exact y_assign rfl
  · rfl
  refine l_nil ?_
  refine a_then ?_
  refine w_seq ?_
  refine w_region ?_
  apply l_yield
  · exact y_move rfl
  · rfl
  apply l_yield
  · exact y_move rfl
  · rfl
  apply l_yield
  · exact y_move rfl
  · rfl
  apply l_yield
  · exact y_move rfl
  · rfl
  apply l_yield
  · exact y_move rfl
  · rfl
  rw [← lx, ← ly] at hij
  apply l_loud (by kernel_rfl) rfl
  apply ld_call (ct_CommonAt_no hE hB gx' gy hij) rfl (hE.f (by kernel_rfl))
  · ((repeat (first | exact Sub.nil | exact Take.here | apply Take.there | apply Sub.cons)); done)
  rintro _ _ ⟨rfl, rfl⟩
  simp only [List.cons_append, List.nil_append]
  apply l_yield
  · exact y_move rfl
  · rfl
  apply l_yield
  · exact y_extract rfl rfl
  · rfl
  apply l_yield
  · exact y_extract rfl rfl
  · rfl
  apply l_yield
  · exact y_assign rfl
  · rfl
  apply l_yield
  · exact y_assign rfl
  · rfl
  refine l_nil ?_
  refine a_then ?_
  refine w_seq ?_
  refine w_region ?_
  apply l_yield
  · exact y_move rfl
  · rfl
  apply l_yield
  · exact y_move rfl
  · rfl
  apply l_yield
  · exact y_move rfl
  · rfl
  apply l_yield
  · exact y_move rfl
  · rfl
  apply l_yield
  · exact y_move rfl
  · rfl
  apply l_loud (by kernel_rfl) rfl
  apply ld_call (ct_CommonBefore_no hE hB gx' gy hij) rfl (hE.f (by kernel_rfl))
  · ((repeat (first | exact Sub.nil | exact Take.here | apply Take.there | apply Sub.cons)); done)
  rintro _ _ ⟨rfl, rfl⟩
  simp only [List.cons_append, List.nil_append]
  rw [lx, ly] at hij
  apply l_yield
  · exact y_move rfl
  · rfl
  apply l_yield
  · exact y_extract rfl rfl
  · rfl
  apply l_yield
  · exact y_extract rfl rfl
  · rfl
  apply l_yield
  · exact y_assign rfl
  · rfl
  apply l_yield
  · exact y_assign rfl
  · rfl
  refine l_nil ?_
  refine a_then ?_
  refine w_seq ?_
  refine w_seq ?_
  refine w_region ?_
  apply l_yield
  · exact y_move rfl
  · rfl
  apply l_yield
  · (first | exact y_ok_ne rfl (hE.t rfl) | exact y_err_ne rfl (hE.t rfl))
  · rfl
  apply l_yield
  · exact y_move rfl
  · rfl
  skip
  refine l_on rfl rfl ?_
  apply l_yield
  · exact y_move rfl
  · rfl
  refine l_on rfl rfl ?_
  apply l_yield
  · (first | exact y_ok_ne rfl (hE.t rfl) | exact y_err_ne rfl (hE.t rfl))
  · rfl
  apply l_yield
  · (first | exact y_pick_t rfl rfl | exact y_pick_f rfl rfl)
  · rfl
  apply l_yield
  · exact y_move rfl
  · rfl
  skip
  refine l_on rfl rfl ?_
  apply l_yield
  · exact y_move rfl
  · rfl
  refine l_on rfl rfl ?_
  apply l_loud (by kernel_rfl) rfl
  apply ld_call (ct_Store hE) rfl (hE.f (by kernel_rfl))
  · ((repeat (first | exact Sub.nil | exact Take.here | apply Take.there | apply Sub.cons)); done)
  rintro _ _ ⟨rfl, rfl⟩
  simp only [List.cons_append, List.nil_append]
  refine l_on rfl rfl ?_
  apply l_loud (by kernel_rfl) rfl
  apply ld_call (ct_len hE) rfl (hE.f (by kernel_rfl))
  · ((repeat (first | exact Sub.nil | exact Take.here | apply Take.there | apply Sub.cons)); done)
  rintro _ _ ⟨rfl, rfl⟩
  simp only [List.cons_append, List.nil_append]
  refine l_on rfl rfl ?_
  apply l_yield
  · exact y_move rfl
  · rfl
  refine l_on rfl rfl ?_
  apply l_yield
  · exact y_ne rfl rfl
  · rfl
  apply l_yield
  · (first | exact y_pick_t rfl rfl | exact y_pick_f rfl rfl)
  · rfl
  refine l_nil ?_
  refine a_then ?_
  refine w_cond_d rfl (fun h1 => ?_) (fun h1 => ?_)
  · exact absurd rfl h1
  skip
  have sA := size_mk A
  have sB := size_mk B
  refine w_skip ?_
  refine a_then ?_
  refine w_seq ?_
  refine w_seq ?_
  refine w_region ?_
  apply l_yield
  · exact y_move rfl
  · rfl
  apply l_yield
  · exact y_lt rfl rfl
  · rfl
  apply l_yield
  · exact y_move rfl
  · rfl
  refine l_split 80 rfl (fun h2 => ?_) (fun h2 => ?_)
  · skip
    refine l_off rfl rfl rfl rfl ?_
    refine l_off rfl rfl rfl rfl ?_
    refine l_off rfl rfl rfl rfl ?_
    refine l_off rfl rfl rfl rfl ?_
    apply l_yield
    · (first | exact y_pick_t rfl rfl | exact y_pick_f rfl rfl)
    · rfl
    apply l_yield
    · exact y_move rfl
    · rfl
    skip
    refine l_off rfl rfl rfl rfl ?_
    refine l_off rfl rfl rfl rfl ?_
    apply l_yield
    · (first | exact y_pick_t rfl rfl | exact y_pick_f rfl rfl)
    · rfl
    apply l_yield
    · exact y_move rfl
    · rfl
    skip
    refine l_off rfl rfl rfl rfl ?_
    refine l_off rfl rfl rfl rfl ?_
    refine l_off rfl rfl rfl rfl ?_
    refine l_off rfl rfl rfl rfl ?_
    apply l_yield
    · (first | exact y_pick_t rfl rfl | exact y_pick_f rfl rfl)
    · rfl
    refine l_nil ?_
    refine a_then ?_
    refine w_cond_t rfl ?_
    refine w_seq ?_
    refine w_region ?_
    apply l_yield
    · exact y_move rfl
    · rfl
    apply l_loud (by kernel_rfl) rfl
    apply ld_call (ct_Is hE (by decide)) rfl (hE.f (by kernel_rfl))
    · ((repeat (first | exact Sub.nil | exact Take.here | apply Take.there | apply Sub.cons)); done)
    rintro _ _ ⟨rfl, rfl⟩
    simp only [List.cons_append, List.nil_append]
    apply l_yield
    · exact y_move rfl
    · rfl
    skip
    refine l_on rfl rfl ?_
    apply l_yield
    · exact y_move rfl
    · rfl
    refine l_on rfl rfl ?_
    apply l_loud (by kernel_rfl) rfl
    apply ld_call (ct_Is hE (by decide)) rfl (hE.f (by kernel_rfl))
    · ((repeat (first | exact Sub.nil | exact Take.here | apply Take.there | apply Sub.cons)); done)
    rintro _ _ ⟨rfl, rfl⟩
    simp only [List.cons_append, List.nil_append]
    apply l_yield
    · (first | exact y_pick_t rfl rfl | exact y_pick_f rfl rfl)
    · rfl
    apply l_yield
    · exact y_move rfl
    · rfl
    skip
    refine l_on rfl rfl ?_
    apply l_yield
    · exact y_move rfl
    · rfl
    refine l_on rfl rfl ?_
    apply l_yield
    · exact y_eq rfl rfl
    · rfl
    apply l_yield
    · (first | exact y_pick_t rfl rfl | exact y_pick_f rfl rfl)
    · rfl
    apply l_yield
    · exact y_move rfl
    · rfl
    skip
    refine l_on rfl rfl ?_
    apply l_yield
    · exact y_move rfl
    · rfl
    refine l_on rfl rfl ?_
    apply l_yield
    · exact y_eq rfl rfl
    · rfl
    apply l_yield
    · (first | exact y_pick_t rfl rfl | exact y_pick_f rfl rfl)
    · rfl
    apply l_yield
    · exact y_assign rfl
    · rfl
    refine l_nil ?_
    refine a_then ?_
    refine w_ret ?_
    refine a_then_ret ?_
    apply a_ret
    · rfl
    · (repeat (first | exact Rs.nil | apply Rs.tmp rfl | (apply Rs.cell rfl (hE.t rfl) rfl; (focus ((repeat (first | exact HasCs.nil | (apply HasCs.cons; (focus ((repeat (first | exact HasC.here rfl | exact HasC.slice rfl | (apply HasC.here; assumption) | (apply HasC.slice; assumption) | apply HasC.there)); done))))); done))) | (apply Rs.cell1 rfl (hE.t rfl) rfl; (focus ((repeat (first | exact HasC.here rfl | exact HasC.slice rfl | (apply HasC.here; assumption) | (apply HasC.slice; assumption) | apply HasC.there)); done)))))
    · exact ⟨rfl, rfl⟩
    · (apply ent; (repeat (first | exact Sub.nil | exact Take.here | apply Take.there | apply Sub.cons)); done)
  skip
  refine l_on rfl rfl ?_
  apply l_yield
  · exact y_move rfl
  · rfl
  refine l_on rfl rfl ?_
  apply l_yield
  · exact y_move rfl
  · rfl
  refine l_on rfl rfl ?_
  apply l_yield
  · exact y_len_str rfl (hE.t rfl)
  · rfl
  refine l_on rfl rfl ?_
  apply l_yield
  · exact y_gt rfl rfl
  · rfl
  apply l_yield
  · (first | exact y_pick_t rfl rfl | exact y_pick_f rfl rfl)
  · rfl
  apply l_yield
  · exact y_move rfl
  · rfl
  refine l_split 86 rfl (fun h3 => ?_) (fun h3 => ?_)
  · skip
    refine l_off rfl rfl rfl rfl ?_
    refine l_off rfl rfl rfl rfl ?_
    apply l_yield
    · (first | exact y_pick_t rfl rfl | exact y_pick_f rfl rfl)
    · rfl
    apply l_yield
    · exact y_move rfl
    · rfl
    skip
    refine l_off rfl rfl rfl rfl ?_
    refine l_off rfl rfl rfl rfl ?_
    refine l_off rfl rfl rfl rfl ?_
    refine l_off rfl rfl rfl rfl ?_
    apply l_yield
    · (first | exact y_pick_t rfl rfl | exact y_pick_f rfl rfl)
    · rfl
    refine l_nil ?_
    refine a_then ?_
    refine w_cond_t rfl ?_
    refine w_seq ?_
    refine w_region ?_
    apply l_yield
    · exact y_move rfl
    · rfl
    apply l_loud (by kernel_rfl) rfl
    apply ld_call (ct_Is hE (by decide)) rfl (hE.f (by kernel_rfl))
    · ((repeat (first | exact Sub.nil | exact Take.here | apply Take.there | apply Sub.cons)); done)
    rintro _ _ ⟨rfl, rfl⟩
    simp only [List.cons_append, List.nil_append]
    apply l_yield
    · exact y_move rfl
    · rfl
    skip
    refine l_on rfl rfl ?_
    apply l_yield
    · exact y_move rfl
    · rfl
    refine l_on rfl rfl ?_
    apply l_loud (by kernel_rfl) rfl
    apply ld_call (ct_Is hE (by decide)) rfl (hE.f (by kernel_rfl))
    · ((repeat (first | exact Sub.nil | exact Take.here | apply Take.there | apply Sub.cons)); done)
    rintro _ _ ⟨rfl, rfl⟩
    simp only [List.cons_append, List.nil_append]
    apply l_yield
    · (first | exact y_pick_t rfl rfl | exact y_pick_f rfl rfl)
    · rfl
    apply l_yield
    · exact y_move rfl
    · rfl
    skip
    refine l_on rfl rfl ?_
    apply l_yield
    · exact y_move rfl
    · rfl
    refine l_on rfl rfl ?_
    apply l_yield
    · exact y_eq rfl rfl
    · rfl
    apply l_yield
    · (first | exact y_pick_t rfl rfl | exact y_pick_f rfl rfl)
    · rfl
    apply l_yield
    · exact y_move rfl
    · rfl
    skip
    refine l_on rfl rfl ?_
    apply l_yield
    · exact y_move rfl
    · rfl
    refine l_on rfl rfl ?_
    apply l_yield
    · exact y_eq rfl rfl
    · rfl
    apply l_yield
    · (first | exact y_pick_t rfl rfl | exact y_pick_f rfl rfl)
    · rfl
    apply l_yield
    · exact y_assign rfl
    · rfl
    refine l_nil ?_
    refine a_then ?_
    refine w_ret ?_
    refine a_then_ret ?_
    apply a_ret
    · rfl
    · (repeat (first | exact Rs.nil | apply Rs.tmp rfl | (apply Rs.cell rfl (hE.t rfl) rfl; (focus ((repeat (first | exact HasCs.nil | (apply HasCs.cons; (focus ((repeat (first | exact HasC.here rfl | exact HasC.slice rfl | (apply HasC.here; assumption) | (apply HasC.slice; assumption) | apply HasC.there)); done))))); done))) | (apply Rs.cell1 rfl (hE.t rfl) rfl; (focus ((repeat (first | exact HasC.here rfl | exact HasC.slice rfl | (apply HasC.here; assumption) | (apply HasC.slice; assumption) | apply HasC.there)); done)))))
    · exact ⟨rfl, rfl⟩
    · (apply ent; (repeat (first | exact Sub.nil | exact Take.here | apply Take.there | apply Sub.cons)); done)
  skip
  refine l_on rfl rfl ?_
  apply l_yield
  · exact y_move rfl
  · rfl
  refine l_on rfl rfl ?_
  apply l_yield
  · exact y_lt rfl rfl
  · rfl
  apply l_yield
  · (first | exact y_pick_t rfl rfl | exact y_pick_f rfl rfl)
  · rfl
  apply l_yield
  · exact y_move rfl
  · rfl
  refine l_split 90 rfl (fun h4 => ?_) (fun h4 => ?_)
  · skip
    refine l_off rfl rfl rfl rfl ?_
    refine l_off rfl rfl rfl rfl ?_
    refine l_off rfl rfl rfl rfl ?_
    refine l_off rfl rfl rfl rfl ?_
    apply l_yield
    · (first | exact y_pick_t rfl rfl | exact y_pick_f rfl rfl)
    · rfl
    refine l_nil ?_
    refine a_then ?_
    refine w_cond_t rfl ?_
    refine w_seq ?_
    refine w_region ?_
    apply l_yield
    · exact y_move rfl
    · rfl
    apply l_loud (by kernel_rfl) rfl
    apply ld_call (ct_Is hE (by decide)) rfl (hE.f (by kernel_rfl))
    · ((repeat (first | exact Sub.nil | exact Take.here | apply Take.there | apply Sub.cons)); done)
    rintro _ _ ⟨rfl, rfl⟩
    simp only [List.cons_append, List.nil_append]
    apply l_yield
    · exact y_move rfl
    · rfl
    skip
    refine l_on rfl rfl ?_
    apply l_yield
    · exact y_move rfl
    · rfl
    refine l_on rfl rfl ?_
    apply l_loud (by kernel_rfl) rfl
    apply ld_call (ct_Is hE (by decide)) rfl (hE.f (by kernel_rfl))
    · ((repeat (first | exact Sub.nil | exact Take.here | apply Take.there | apply Sub.cons)); done)
    rintro _ _ ⟨rfl, rfl⟩
    simp only [List.cons_append, List.nil_append]
    apply l_yield
    · (first | exact y_pick_t rfl rfl | exact y_pick_f rfl rfl)
    · rfl
    apply l_yield
    · exact y_move rfl
    · rfl
    skip
    refine l_on rfl rfl ?_
    apply l_yield
    · exact y_move rfl
    · rfl
    refine l_on rfl rfl ?_
    apply l_yield
    · exact y_eq rfl rfl
    · rfl
    apply l_yield
    · (first | exact y_pick_t rfl rfl | exact y_pick_f rfl rfl)
    · rfl
    apply l_yield
    · exact y_move rfl
    · rfl
    skip
    refine l_on rfl rfl ?_
    apply l_yield
    · exact y_move rfl
    · rfl
    refine l_on rfl rfl ?_
    apply l_yield
    · exact y_eq rfl rfl
    · rfl
    apply l_yield
    · (first | exact y_pick_t rfl rfl | exact y_pick_f rfl rfl)
    · rfl
    apply l_yield
    · exact y_assign rfl
    · rfl
    refine l_nil ?_
    refine a_then ?_
    refine w_ret ?_
    refine a_then_ret ?_
    apply a_ret
    · rfl
    · (repeat (first | exact Rs.nil | apply Rs.tmp rfl | (apply Rs.cell rfl (hE.t rfl) rfl; (focus ((repeat (first | exact HasCs.nil | (apply HasCs.cons; (focus ((repeat (first | exact HasC.here rfl | exact HasC.slice rfl | (apply HasC.here; assumption) | (apply HasC.slice; assumption) | apply HasC.there)); done))))); done))) | (apply Rs.cell1 rfl (hE.t rfl) rfl; (focus ((repeat (first | exact HasC.here rfl | exact HasC.slice rfl | (apply HasC.here; assumption) | (apply HasC.slice; assumption) | apply HasC.there)); done)))))
    · exact ⟨rfl, rfl⟩
    · (apply ent; (repeat (first | exact Sub.nil | exact Take.here | apply Take.there | apply Sub.cons)); done)
  skip
  refine l_on rfl rfl ?_
  apply l_yield
  · exact y_move rfl
  · rfl
  refine l_on rfl rfl ?_
  apply l_yield
  · exact y_move rfl
  · rfl
  refine l_on rfl rfl ?_
  apply l_yield
  · exact y_len_str rfl (hE.t rfl)
  · rfl
  refine l_on rfl rfl ?_
  apply l_yield
  · exact y_gt rfl rfl
  · rfl
  apply l_yield
  · (first | exact y_pick_t rfl rfl | exact y_pick_f rfl rfl)
  · rfl
  refine l_nil ?_
  refine a_then ?_
  refine w_cond_d rfl (fun h5 => ?_) (fun h5 => ?_)
  · skip
    refine w_seq ?_
    refine w_region ?_
    apply l_yield
    · exact y_move rfl
    · rfl
    apply l_loud (by kernel_rfl) rfl
    apply ld_call (ct_Is hE (by decide)) rfl (hE.f (by kernel_rfl))
    · ((repeat (first | exact Sub.nil | exact Take.here | apply Take.there | apply Sub.cons)); done)
    rintro _ _ ⟨rfl, rfl⟩
    simp only [List.cons_append, List.nil_append]
    apply l_yield
    · exact y_move rfl
    · rfl
    skip
    refine l_on rfl rfl ?_
    apply l_yield
    · exact y_move rfl
    · rfl
    refine l_on rfl rfl ?_
    apply l_loud (by kernel_rfl) rfl
    apply ld_call (ct_Is hE (by decide)) rfl (hE.f (by kernel_rfl))
    · ((repeat (first | exact Sub.nil | exact Take.here | apply Take.there | apply Sub.cons)); done)
    rintro _ _ ⟨rfl, rfl⟩
    simp only [List.cons_append, List.nil_append]
    apply l_yield
    · (first | exact y_pick_t rfl rfl | exact y_pick_f rfl rfl)
    · rfl
    apply l_yield
    · exact y_move rfl
    · rfl
    skip
    refine l_on rfl rfl ?_
    apply l_yield
    · exact y_move rfl
    · rfl
    refine l_on rfl rfl ?_
    apply l_yield
    · exact y_eq rfl rfl
    · rfl
    apply l_yield
    · (first | exact y_pick_t rfl rfl | exact y_pick_f rfl rfl)
    · rfl
    apply l_yield
    · exact y_move rfl
    · rfl
    skip
    refine l_on rfl rfl ?_
    apply l_yield
    · exact y_move rfl
    · rfl
    refine l_on rfl rfl ?_
    apply l_yield
    · exact y_eq rfl rfl
    · rfl
    apply l_yield
    · (first | exact y_pick_t rfl rfl | exact y_pick_f rfl rfl)
    · rfl
    apply l_yield
    · exact y_assign rfl
    · rfl
    refine l_nil ?_
    refine a_then ?_
    refine w_ret ?_
    refine a_then_ret ?_
    apply a_ret
    · rfl
    · (repeat (first | exact Rs.nil | apply Rs.tmp rfl | (apply Rs.cell rfl (hE.t rfl) rfl; (focus ((repeat (first | exact HasCs.nil | (apply HasCs.cons; (focus ((repeat (first | exact HasC.here rfl | exact HasC.slice rfl | (apply HasC.here; assumption) | (apply HasC.slice; assumption) | apply HasC.there)); done))))); done))) | (apply Rs.cell1 rfl (hE.t rfl) rfl; (focus ((repeat (first | exact HasC.here rfl | exact HasC.slice rfl | (apply HasC.here; assumption) | (apply HasC.slice; assumption) | apply HasC.there)); done)))))
    · exact ⟨rfl, rfl⟩
    · (apply ent; (repeat (first | exact Sub.nil | exact Take.here | apply Take.there | apply Sub.cons)); done)
  skip
  exact absurd hij (by omega)
theorem ct_PrefixInside (hE : Seat E) (hB : Base E.w0) {a b : List UInt8} {i j : Int} : Ct E 3 [.string ⟨⟨a⟩⟩, .string ⟨⟨b⟩⟩, .int .i64 i, .int .i64 j] [] (fun v Q => v = .bool true ∧ Q = []) := by
  by_cases hij : ((0 ≤ i ∧ i ≤ ((a.take 400).length : Nat)) ∧ (0 ≤ j ∧ j ≤ ((b.take 400).length : Nat)))
  · obtain ⟨⟨h1, h2⟩, h3, h4⟩ := hij
    obtain ⟨i', rfl⟩ := Int.eq_ofNat_of_zero_le h1
    obtain ⟨j', rfl⟩ := Int.eq_ofNat_of_zero_le h3
    exact ct_PrefixInside_in hE hB ⟨by omega, by omega⟩
  · exact ct_PrefixInside_out hE hB hij
end Go.Proofs.YtlmdkaniblhdmaaDoor
