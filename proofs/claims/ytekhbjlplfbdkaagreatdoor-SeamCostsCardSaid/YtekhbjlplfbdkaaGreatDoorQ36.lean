/- evergreenlaw23.cut, Parser. -/
import Derived.Test.YtekhbjlplfbdkaaGreatDoorQ13
import Derived.Test.YtekhbjlplfbdkaaGreatDoorQ35
set_option linter.unusedVariables false
set_option linter.unusedSimpArgs false
namespace Go.Proofs.YtekhbjlplfbdkaaGreatDoor
open Go Go.RowKit Sl Eg
set_option maxRecDepth 10000
variable {E : Env}
theorem ct_cut23 (hE : Seat E) {a : List UInt8} {m : Nat} :
    Ct E 8 [.string ⟨⟨a⟩⟩, .int .i64 (m : Nat)] [] (fun v Q => v = .string ⟨⟨a.take m⟩⟩ ∧ Q = []) := by
  have sa := size_mk a
  have hmin : (if ((m : Nat) : Int) < (((⟨⟨a⟩⟩ : ByteArray).size : Nat) : Int) then ((m : Nat) : Int) else (((⟨⟨a⟩⟩ : ByteArray).size : Nat) : Int)) = ((min m a.length : Nat) : Int) := by rw [sa]; split <;> omega
  have hmm : min m a.length ≤ (⟨⟨a⟩⟩ : ByteArray).size := by rw [sa]; omega
  refine fn_enter (hE.fn Tryz.func8) rfl rfl rfl (fun R => ?_)
  simp only [argsL, List.cons_append, List.nil_append]
  skip
  refine w_seq (wR ?_)
  refine lY (yA rfl) rfl ?_
  refine l_nil (aT (w_seq (wR ?_)))
  refine lY (yM rfl) rfl ?_
  refine lY (yM rfl) rfl ?_
  refine lY (y_len_str rfl (hE.t rfl)) rfl ?_
  refine lY (yM rfl) rfl ?_
  refine lY (y_min rfl rfl) rfl ?_
  apply lY
  · exact y_slice_str (h := min m a.length) rfl (hE.t rfl) rfl ⟨.i64, congrArg (fun v => some (Value.int IntKind.i64 v)) hmin⟩ (Nat.zero_le _) hmm
  · rfl
  refine lY (yA rfl) rfl ?_
  refine l_nil (aT (w_ret ?_))
  rw [extract_mk a 0 _ (Nat.min_le_right _ _), List.drop_zero, List.take_eq_take_min.symm]
  apply a_ret
  · rfl
  · (apply Rs.tmp rfl; exact Rs.nil)
  · exact ⟨rfl, rfl⟩
  · (apply ent; (repeat constructor); done)
theorem Sn.up {Es M : List Ent} {bs : List UInt8} {x : Nat} (h : Sn (rls Es) bs x) : Sn (rls (Es ++ M)) bs x := by rw [rls_append]; exact h.ext _
theorem Sn.fn {L : List Rl} (hw : Wf L) {bs : List UInt8} {x y : Nat} (h : Sn L bs x) (h' : Sn L bs y) : x = y := h.sg.fn hw h'.sg
theorem Sn.empty (L : List Rl) : Sn L [] 0 := ⟨.inl ⟨rfl, rfl⟩, rfl, Nat.zero_le _, by show (0 : Int) ≤ 0; omega⟩
theorem ct_Parser23 (hE : Seat E) (hB : Base E.w0) : Ct E 5 [] [] (fun v Q => ∃ pp s tb M, v = .tuple #[.pointer (some ⟨pp, 0, none⟩), .bool true] ∧ M.length ≤ 26 ∧ Q = [cells pp [.pointer (some ⟨s, 0, none⟩), .pointer (some ⟨tb, 0, none⟩)] 59, tabP tb s (rls M), storeP s 1048576 M]) := by
  refine fn_enter (hE.fn Tryz.func5) rfl rfl rfl (fun R => ?_)
  simp only [argsL, List.cons_append, List.nil_append]
  refine w_seq (wR ?_)
  refine lY (yA rfl) rfl ?_
  refine lY (yA rfl) rfl ?_
  refine l_nil (aT (w_seq (wR ?_)))
  apply lL (by kernel_rfl) rfl
  apply ld_call (ct_intNew (most := 1048576) hE (Nat.le_refl _)) rfl (hE.f (by kernel_rfl))
  · ((repeat constructor); done)
  rintro _ _ ⟨s, rfl, rfl⟩
  simp only [List.cons_append, List.nil_append]
  skip
  apply lL (by kernel_rfl) rfl
  apply ld_call (ct_sigNew hE) rfl (hE.f (by kernel_rfl))
  · ((repeat constructor); done)
  rintro _ _ ⟨pp, tb, rfl, rfl⟩
  simp only [List.cons_append, List.nil_append]
  refine lY (yA rfl) rfl ?_
  refine l_nil (aT (w_seq (w_seq (wR ?_))))
  refine lY (yM rfl) rfl ?_
  apply lY
  · (first | exact y_eq_ptr rfl (hE.t rfl) | exact y_eq_nil rfl (hE.t rfl))
  · rfl
  refine l_nil (aT ?_)
  refine w_cond_f rfl ?_
  refine w_skip (aT (w_seq (wR ?_)))
  refine lY (yM rfl) rfl ?_
  apply lL (by kernel_rfl) rfl
  refine ld_buildSlice (hE.t rfl) (hE.t rfl) rfl rfl rfl (fun b17 => ?_)
  apply lL (by kernel_rfl) rfl
  refine ld_mark rfl (hE.t rfl) (hE.t rfl) (by ((repeat constructor); done)) ?_
  skip
  have n1 : ([97, 98] : List UInt8).length ≤ 65536 := by decide
  have r1 : ([] : List Ent).length + 2 * ([97, 98] : List UInt8).length ≤ 1048576 := by decide
  apply lL (by kernel_rfl) rfl
  apply ld_call (ct_Of (bs := [97, 98]) hE hB n1 r1) rfl (hE.f (by kernel_rfl))
  · ((repeat constructor); done)
  rintro _ _ ⟨M1, x, rfl, hM1, tx1, gx, sx, rfl⟩
  simp only [List.cons_append, List.nil_append]
  have hx : Sn (rls ([] ++ M1)) [97, 98] x := ⟨sx, tx1, gx⟩
  refine lY (yM rfl) rfl ?_
  refine lY (y_extract rfl rfl) rfl ?_
  refine lY (y_extract rfl rfl) rfl ?_
  refine lY (yA rfl) rfl ?_
  refine lY (yA rfl) rfl ?_
  refine l_nil (aT (w_seq (wR ?_)))
  refine lY (yM rfl) rfl ?_
  apply lL (by kernel_rfl) rfl
  refine ld_buildSlice (hE.t rfl) (hE.t rfl) rfl rfl rfl (fun b24 => ?_)
  apply lL (by kernel_rfl) rfl
  refine ld_mark rfl (hE.t rfl) (hE.t rfl) (by ((repeat constructor); done)) ?_
  skip
  have n2 : ([97, 98, 97, 98] : List UInt8).length ≤ 65536 := by decide
  have r2 : ([] ++ M1 : List Ent).length + 2 * ([97, 98, 97, 98] : List UInt8).length ≤ 1048576 := by simp at hM1 ⊢; omega
  apply lL (by kernel_rfl) rfl
  apply ld_call (ct_Of (bs := [97, 98, 97, 98]) hE hB n2 r2) rfl (hE.f (by kernel_rfl))
  · ((repeat constructor); done)
  rintro _ _ ⟨M2, y, rfl, hM2, ty1, gy, sy, rfl⟩
  simp only [List.cons_append, List.nil_append]
  have hy : Sn (rls ([] ++ M1 ++ M2)) [97, 98, 97, 98] y := ⟨sy, ty1, gy⟩
  refine lY (yM rfl) rfl ?_
  refine lY (y_extract rfl rfl) rfl ?_
  refine lY (y_extract rfl rfl) rfl ?_
  refine lY (yA rfl) rfl ?_
  refine lY (yA rfl) rfl ?_
  refine l_nil (aT (w_seq (wR ?_)))
  refine lY (yM rfl) rfl ?_
  refine lY (yM rfl) rfl ?_
  refine lY (yM rfl) rfl ?_
  have n3 : ([97, 98] : List UInt8).length + ([97, 98] : List UInt8).length ≤ 1000000000 := by decide
  have r3 : ([] ++ M1 ++ M2 : List Ent).length + (([97, 98] : List UInt8).length + ([97, 98] : List UInt8).length) ≤ 1048576 := by simp at hM1 hM2 ⊢; omega
  apply lL (by kernel_rfl) rfl
  apply ld_call (ct_Join hE hB (hx.up (M := M2)) (hx.up (M := M2)) n3 r3) rfl (hE.f (by kernel_rfl))
  · ((repeat constructor); done)
  rintro _ _ ⟨M3, z, rfl, hM3, hz, -, rfl⟩
  simp only [List.cons_append, List.nil_append]
  refine lY (yM rfl) rfl ?_
  refine lY (y_extract rfl rfl) rfl ?_
  refine lY (y_extract rfl rfl) rfl ?_
  refine lY (yA rfl) rfl ?_
  refine lY (yA rfl) rfl ?_
  refine l_nil (aT (w_seq (wR ?_)))
  refine lY (yM rfl) rfl ?_
  refine lY (yM rfl) rfl ?_
  have n4 : ([] : List UInt8).length + ([97, 98] : List UInt8).length ≤ 1000000000 := by decide
  have r4 : ([] ++ M1 ++ M2 ++ M3 : List Ent).length + (([] : List UInt8).length + ([97, 98] : List UInt8).length) ≤ 1048576 := by simp at hM1 hM2 hM3 ⊢; omega
  apply lL (by kernel_rfl) rfl
  apply ld_call (ct_Join (a := 0) hE hB (Sn.empty _) ((hx.up (M := M2)).up (M := M3)) n4 r4) rfl (hE.f (by kernel_rfl))
  · ((repeat constructor); done)
  rintro _ _ ⟨M4, w, rfl, hM4, hw4, -, rfl⟩
  simp only [List.cons_append, List.nil_append]
  refine l_say (p := storeP s 1048576 ([] ++ M1 ++ M2 ++ M3 ++ M4)) (by ((repeat constructor); done)) (fun _ h => storeP_says h) ?_
  rintro ⟨hwf, -, -, -⟩
  obtain rfl : y = z := hy.up.up.fn hwf hz.up
  obtain rfl : w = x := hw4.fn hwf (((hx.up (M := M2)).up (M := M3)).up (M := M4))
  refine lY (yM rfl) rfl ?_
  refine lY (y_extract rfl rfl) rfl ?_
  refine lY (y_extract rfl rfl) rfl ?_
  refine lY (yA rfl) rfl ?_
  refine lY (yA rfl) rfl ?_
  refine l_nil (aT (w_seq (wR ?_)))
  refine lY (yM rfl) rfl ?_
  refine lY (yM rfl) rfl ?_
  apply lY
  · (first | exact y_ok_eq rfl (hE.t rfl) | exact y_err_eq rfl (hE.t rfl))
  · rfl
  refine lY (yM rfl) rfl ?_
  skip
  refine l_on rfl rfl ?_
  refine lY (yM rfl) rfl ?_
  refine l_on rfl rfl ?_
  apply lY
  · (first | exact y_ok_eq rfl (hE.t rfl) | exact y_err_eq rfl (hE.t rfl))
  · rfl
  apply lY
  · (first | exact y_pick_t rfl rfl | exact y_pick_f rfl rfl)
  · rfl
  refine lY (yM rfl) rfl ?_
  skip
  refine l_on rfl rfl ?_
  refine lY (yM rfl) rfl ?_
  refine l_on rfl rfl ?_
  apply lY
  · (first | exact y_ok_eq rfl (hE.t rfl) | exact y_err_eq rfl (hE.t rfl))
  · rfl
  apply lY
  · (first | exact y_pick_t rfl rfl | exact y_pick_f rfl rfl)
  · rfl
  refine lY (yM rfl) rfl ?_
  skip
  refine l_on rfl rfl ?_
  refine lY (yM rfl) rfl ?_
  refine l_on rfl rfl ?_
  apply lY
  · (first | exact y_ok_eq rfl (hE.t rfl) | exact y_err_eq rfl (hE.t rfl))
  · rfl
  apply lY
  · (first | exact y_pick_t rfl rfl | exact y_pick_f rfl rfl)
  · rfl
  refine lY (yM rfl) rfl ?_
  skip
  refine l_on rfl rfl ?_
  refine lY (yM rfl) rfl ?_
  refine l_on rfl rfl ?_
  refine lY (yM rfl) rfl ?_
  refine l_on rfl rfl ?_
  refine lY (y_eq rfl rfl) rfl ?_
  apply lY
  · (first | exact y_pick_t rfl rfl | exact y_pick_f rfl rfl)
  · rfl
  refine lY (yM rfl) rfl ?_
  refine l_split 62 rfl (fun h1 => ?_) (fun h1 => ?_)
  · skip
    refine l_on rfl rfl ?_
    refine lY (yM rfl) rfl ?_
    refine l_on rfl rfl ?_
    refine lY (yM rfl) rfl ?_
    refine l_on rfl rfl ?_
    refine lY (y_eq rfl rfl) rfl ?_
    apply lY
    · (first | exact y_pick_t rfl rfl | exact y_pick_f rfl rfl)
    · rfl
    refine lY (yA rfl) rfl ?_
    refine lY (yA rfl) rfl ?_
    refine l_nil (aT (w_ret ?_))
    apply a_ret
    · rfl
    · (apply Rs.tmp rfl; apply Rs.tmp rfl; exact Rs.nil)
    · exact ⟨pp, s, tb, [] ++ M1 ++ M2 ++ M3 ++ M4, by simp [one], by simp at hM1 hM2 hM3 hM4 ⊢; omega, rfl⟩
    · (apply ent; (repeat constructor); done)
  · exact absurd rfl h1
end Go.Proofs.YtekhbjlplfbdkaaGreatDoor
