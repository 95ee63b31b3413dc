/- evergreenlaw23.cut, Parser. -/
import Derived.Test.YtekhbjlplfbdkaaDoorQ13
import Derived.Test.YtekhbjlplfbdkaaDoorQ35
set_option linter.unusedVariables false
set_option linter.unusedSimpArgs false
namespace Go.Proofs.YtekhbjlplfbdkaaDoor
open Go Go.RowKit Sl Eg
set_option maxRecDepth 10000
variable {E : Env}
theorem ct_cut23 (hE : Seat E) {a : List UInt8} {m : Nat} :
    Ct E 22 [.string ⟨⟨a⟩⟩, .int .i64 (m : Nat)] [] (fun v Q => v = .string ⟨⟨a.take m⟩⟩ ∧ Q = []) := by
  have sa := size_mk a
  have hmin : (if ((m : Nat) : Int) < (((⟨⟨a⟩⟩ : ByteArray).size : Nat) : Int) then ((m : Nat) : Int) else (((⟨⟨a⟩⟩ : ByteArray).size : Nat) : Int)) = ((min m a.length : Nat) : Int) := by rw [sa]; split <;> omega
  have hmm : min m a.length ≤ (⟨⟨a⟩⟩ : ByteArray).size := by rw [sa]; omega
  refine fn_enter (hE.fn Tryd.func22) rfl rfl rfl (fun R => ?_)
  simp only [argsL, List.cons_append, List.nil_append]
  skip
  refine w_seq (w_region ?_)
  refine l_yield (y_assign rfl) rfl ?_
  refine l_nil (a_then (w_seq (w_region ?_)))
  refine l_yield (y_move rfl) rfl ?_
  refine l_yield (y_move rfl) rfl ?_
  refine l_yield (y_len_str rfl (hE.t rfl)) rfl ?_
  refine l_yield (y_move rfl) rfl ?_
  refine l_yield (y_min rfl rfl) rfl ?_
  apply l_yield
  · exact y_slice_str (h := min m a.length) rfl (hE.t rfl) rfl ⟨.i64, congrArg (fun v => some (Value.int IntKind.i64 v)) hmin⟩ (Nat.zero_le _) hmm
  · rfl
  refine l_yield (y_assign rfl) rfl ?_
  refine l_nil (a_then (w_ret ?_))
  rw [extract_mk a 0 _ (Nat.min_le_right _ _), List.drop_zero, List.take_eq_take_min.symm]
  apply a_ret
  · rfl
  · (apply Rs.tmp rfl; exact Rs.nil)
  · exact ⟨rfl, rfl⟩
  · (apply ent; (repeat constructor); done)
theorem Sn.up {Es M : List Ent} {bs : List UInt8} {x : Nat} (h : Sn (rls Es) bs x) : Sn (rls (Es ++ M)) bs x := by rw [rls_append]; exact h.ext _
theorem Sn.fn {L : List Rl} (hw : Wf L) {bs : List UInt8} {x y : Nat} (h : Sn L bs x) (h' : Sn L bs y) : x = y := h.sg.fn hw h'.sg
theorem Sn.empty (L : List Rl) : Sn L [] 0 := ⟨.inl ⟨rfl, rfl⟩, rfl, Nat.zero_le _, by show (0 : Int) ≤ 0; omega⟩
theorem ct_Parser23 (hE : Seat E) (hB : Base E.w0) : Ct E 21 [] [] (fun v Q => ∃ pp s tb M, v = .tuple #[.pointer (some ⟨pp, 0, none⟩), .bool true] ∧ M.length ≤ 26 ∧ Q = [cells pp [.pointer (some ⟨s, 0, none⟩), .pointer (some ⟨tb, 0, none⟩)] 78, tabP tb s (rls M), storeP s 1048576 M]) := by
  refine fn_enter (hE.fn Tryd.func21) rfl rfl rfl (fun R => ?_)
  simp only [argsL, List.cons_append, List.nil_append]
  refine w_seq (w_region ?_)
  refine l_yield (y_assign rfl) rfl ?_
  refine l_yield (y_assign rfl) rfl ?_
  refine l_nil (a_then (w_seq (w_region ?_)))
  apply l_loud (by kernel_rfl) rfl
  apply ld_call (ct_intNew (most := 1048576) hE (Nat.le_refl _)) rfl (hE.f (by kernel_rfl))
  · ((repeat constructor); done)
  rintro _ _ ⟨s, rfl, rfl⟩
  simp only [List.cons_append, List.nil_append]
  skip
  apply l_loud (by kernel_rfl) rfl
  apply ld_call (ct_sigNew hE) rfl (hE.f (by kernel_rfl))
  · ((repeat constructor); done)
  rintro _ _ ⟨pp, tb, rfl, rfl⟩
  simp only [List.cons_append, List.nil_append]
  refine l_yield (y_assign rfl) rfl ?_
  refine l_nil (a_then (w_seq (w_seq (w_region ?_))))
  refine l_yield (y_move rfl) rfl ?_
  apply l_yield
  · (first | exact y_eq_ptr rfl (hE.t rfl) | exact y_eq_nil rfl (hE.t rfl))
  · rfl
  refine l_nil (a_then ?_)
  refine w_cond_f rfl ?_
  refine w_skip (a_then (w_seq (w_region ?_)))
  refine l_yield (y_move rfl) rfl ?_
  apply l_loud (by kernel_rfl) rfl
  refine ld_buildSlice (hE.t rfl) (hE.t rfl) rfl rfl rfl (fun b17 => ?_)
  apply l_loud (by kernel_rfl) rfl
  refine ld_mark rfl (hE.t rfl) (hE.t rfl) (by ((repeat constructor); done)) ?_
  skip
  have n1 : ([97, 98] : List UInt8).length ≤ 65536 := by decide
  have r1 : ([] : List Ent).length + 2 * ([97, 98] : List UInt8).length ≤ 1048576 := by decide
  apply l_loud (by kernel_rfl) rfl
  apply ld_call (ct_Of (bs := [97, 98]) hE hB n1 r1) rfl (hE.f (by kernel_rfl))
  · ((repeat constructor); done)
  rintro _ _ ⟨M1, x, rfl, hM1, tx1, gx, sx, rfl⟩
  simp only [List.cons_append, List.nil_append]
  have hx : Sn (rls ([] ++ M1)) [97, 98] x := ⟨sx, tx1, gx⟩
  refine l_yield (y_move rfl) rfl ?_
  refine l_yield (y_extract rfl rfl) rfl ?_
  refine l_yield (y_extract rfl rfl) rfl ?_
  refine l_yield (y_assign rfl) rfl ?_
  refine l_yield (y_assign rfl) rfl ?_
  refine l_nil (a_then (w_seq (w_region ?_)))
  refine l_yield (y_move rfl) rfl ?_
  apply l_loud (by kernel_rfl) rfl
  refine ld_buildSlice (hE.t rfl) (hE.t rfl) rfl rfl rfl (fun b24 => ?_)
  apply l_loud (by kernel_rfl) rfl
  refine ld_mark rfl (hE.t rfl) (hE.t rfl) (by ((repeat constructor); done)) ?_
  skip
  have n2 : ([97, 98, 97, 98] : List UInt8).length ≤ 65536 := by decide
  have r2 : ([] ++ M1 : List Ent).length + 2 * ([97, 98, 97, 98] : List UInt8).length ≤ 1048576 := by simp at hM1 ⊢; omega
  apply l_loud (by kernel_rfl) rfl
  apply ld_call (ct_Of (bs := [97, 98, 97, 98]) hE hB n2 r2) rfl (hE.f (by kernel_rfl))
  · ((repeat constructor); done)
  rintro _ _ ⟨M2, y, rfl, hM2, ty1, gy, sy, rfl⟩
  simp only [List.cons_append, List.nil_append]
  have hy : Sn (rls ([] ++ M1 ++ M2)) [97, 98, 97, 98] y := ⟨sy, ty1, gy⟩
  refine l_yield (y_move rfl) rfl ?_
  refine l_yield (y_extract rfl rfl) rfl ?_
  refine l_yield (y_extract rfl rfl) rfl ?_
  refine l_yield (y_assign rfl) rfl ?_
  refine l_yield (y_assign rfl) rfl ?_
  refine l_nil (a_then (w_seq (w_region ?_)))
  refine l_yield (y_move rfl) rfl ?_
  refine l_yield (y_move rfl) rfl ?_
  refine l_yield (y_move rfl) rfl ?_
  have n3 : ([97, 98] : List UInt8).length + ([97, 98] : List UInt8).length ≤ 1000000000 := by decide
  have r3 : ([] ++ M1 ++ M2 : List Ent).length + (([97, 98] : List UInt8).length + ([97, 98] : List UInt8).length) ≤ 1048576 := by simp at hM1 hM2 ⊢; omega
  apply l_loud (by kernel_rfl) rfl
  apply ld_call (ct_Join hE hB (hx.up (M := M2)) (hx.up (M := M2)) n3 r3) rfl (hE.f (by kernel_rfl))
  · ((repeat constructor); done)
  rintro _ _ ⟨M3, z, rfl, hM3, hz, rfl⟩
  simp only [List.cons_append, List.nil_append]
  refine l_yield (y_move rfl) rfl ?_
  refine l_yield (y_extract rfl rfl) rfl ?_
  refine l_yield (y_extract rfl rfl) rfl ?_
  refine l_yield (y_assign rfl) rfl ?_
  refine l_yield (y_assign rfl) rfl ?_
  refine l_nil (a_then (w_seq (w_region ?_)))
  refine l_yield (y_move rfl) rfl ?_
  refine l_yield (y_move rfl) rfl ?_
  have n4 : ([] : List UInt8).length + ([97, 98] : List UInt8).length ≤ 1000000000 := by decide
  have r4 : ([] ++ M1 ++ M2 ++ M3 : List Ent).length + (([] : List UInt8).length + ([97, 98] : List UInt8).length) ≤ 1048576 := by simp at hM1 hM2 hM3 ⊢; omega
  apply l_loud (by kernel_rfl) rfl
  apply ld_call (ct_Join (a := 0) hE hB (Sn.empty _) ((hx.up (M := M2)).up (M := M3)) n4 r4) rfl (hE.f (by kernel_rfl))
  · ((repeat constructor); done)
  rintro _ _ ⟨M4, w, rfl, hM4, hw4, rfl⟩
  simp only [List.cons_append, List.nil_append]
  refine l_say (p := storeP s 1048576 ([] ++ M1 ++ M2 ++ M3 ++ M4)) (by ((repeat constructor); done)) (fun _ h => storeP_says h) ?_
  rintro ⟨hwf, -, -, -⟩
  obtain rfl : y = z := hy.up.up.fn hwf hz.up
  obtain rfl : w = x := hw4.fn hwf (((hx.up (M := M2)).up (M := M3)).up (M := M4))
  refine l_yield (y_move rfl) rfl ?_
  refine l_yield (y_extract rfl rfl) rfl ?_
  refine l_yield (y_extract rfl rfl) rfl ?_
  refine l_yield (y_assign rfl) rfl ?_
  refine l_yield (y_assign rfl) rfl ?_
  refine l_nil (a_then (w_seq (w_region ?_)))
  refine l_yield (y_move rfl) rfl ?_
  refine l_yield (y_move rfl) rfl ?_
  apply l_yield
  · (first | exact y_ok_eq rfl (hE.t rfl) | exact y_err_eq rfl (hE.t rfl))
  · rfl
  refine l_yield (y_move rfl) rfl ?_
  skip
  refine l_on rfl rfl ?_
  refine l_yield (y_move rfl) rfl ?_
  refine l_on rfl rfl ?_
  apply l_yield
  · (first | exact y_ok_eq rfl (hE.t rfl) | exact y_err_eq rfl (hE.t rfl))
  · rfl
  apply l_yield
  · (first | exact y_pick_t rfl rfl | exact y_pick_f rfl rfl)
  · rfl
  refine l_yield (y_move rfl) rfl ?_
  skip
  refine l_on rfl rfl ?_
  refine l_yield (y_move rfl) rfl ?_
  refine l_on rfl rfl ?_
  apply l_yield
  · (first | exact y_ok_eq rfl (hE.t rfl) | exact y_err_eq rfl (hE.t rfl))
  · rfl
  apply l_yield
  · (first | exact y_pick_t rfl rfl | exact y_pick_f rfl rfl)
  · rfl
  refine l_yield (y_move rfl) rfl ?_
  skip
  refine l_on rfl rfl ?_
  refine l_yield (y_move rfl) rfl ?_
  refine l_on rfl rfl ?_
  apply l_yield
  · (first | exact y_ok_eq rfl (hE.t rfl) | exact y_err_eq rfl (hE.t rfl))
  · rfl
  apply l_yield
  · (first | exact y_pick_t rfl rfl | exact y_pick_f rfl rfl)
  · rfl
  refine l_yield (y_move rfl) rfl ?_
  skip
  refine l_on rfl rfl ?_
  refine l_yield (y_move rfl) rfl ?_
  refine l_on rfl rfl ?_
  refine l_yield (y_move rfl) rfl ?_
  refine l_on rfl rfl ?_
  refine l_yield (y_eq rfl rfl) rfl ?_
  apply l_yield
  · (first | exact y_pick_t rfl rfl | exact y_pick_f rfl rfl)
  · rfl
  refine l_yield (y_move rfl) rfl ?_
  refine l_split 62 rfl (fun h1 => ?_) (fun h1 => ?_)
  · skip
    refine l_on rfl rfl ?_
    refine l_yield (y_move rfl) rfl ?_
    refine l_on rfl rfl ?_
    refine l_yield (y_move rfl) rfl ?_
    refine l_on rfl rfl ?_
    refine l_yield (y_eq rfl rfl) rfl ?_
    apply l_yield
    · (first | exact y_pick_t rfl rfl | exact y_pick_f rfl rfl)
    · rfl
    refine l_yield (y_assign rfl) rfl ?_
    refine l_yield (y_assign rfl) rfl ?_
    refine l_nil (a_then (w_ret ?_))
    apply a_ret
    · rfl
    · (apply Rs.tmp rfl; apply Rs.tmp rfl; exact Rs.nil)
    · exact ⟨pp, s, tb, [] ++ M1 ++ M2 ++ M3 ++ M4, by simp [one], by simp at hM1 hM2 hM3 hM4 ⊢; omega, rfl⟩
    · (apply ent; (repeat constructor); done)
  · exact absurd rfl h1
end Go.Proofs.YtekhbjlplfbdkaaDoor
/- evergreenlaw23.SeamJoins, SeamNone. -/
namespace Sl
open Go Go.RowKit
variable {E : Env} {n : Nat} {L : Fr} {S : List HP} {ty : TypeId} {pos : String} {af : Array Edge} {d : Option Nat} {gd : Option (Nat × Bool)}
theorem append_mk (a b : List UInt8) : (⟨⟨a⟩⟩ : ByteArray) ++ ⟨⟨b⟩⟩ = ⟨⟨a ++ b⟩⟩ := by
  apply ByteArray.ext
  rw [ByteArray.data_append]
  simp
theorem y_add_str {x y : Operand} {xt yt : TypeId} {a b : List UInt8} (hx : ev L x = some (.string ⟨⟨a⟩⟩)) (hy : ev L y = some (.string ⟨⟨b⟩⟩)) (h : a.length + b.length ≤ 1000000000) :
    Yl E n L S ⟨d, .binOp .add xt x y yt, ty, pos, af, gd⟩ (.string ⟨⟨a ++ b⟩⟩) := fun o w g _ => by
  have h2 : ¬ ((((⟨⟨a⟩⟩ : ByteArray).size + (⟨⟨b⟩⟩ : ByteArray).size : Nat) : Int) > IntKind.i64.max) := by
    rw [show (⟨⟨a⟩⟩ : ByteArray).size = a.length from rfl, show (⟨⟨b⟩⟩ : ByteArray).size = b.length from rfl, show IntKind.i64.max = 9223372036854775807 from rfl]
    omega
  have e : (Op.stringOp .add ⟨⟨a⟩⟩ ⟨⟨b⟩⟩ : Sem Value) = pure (.string ⟨⟨a ++ b⟩⟩) := by
    simp only [Op.stringOp]
    rw [if_neg h2, append_mk]
  simp [execOp, eqGuard, binOp_string_add, e, g.ev hx, g.ev hy, pure]
end Sl
namespace Go.Proofs.YtekhbjlplfbdkaaDoor
open Go Go.RowKit Sl Eg
set_option maxRecDepth 10000
variable {E : Env}
theorem ct_SeamJoins (hE : Seat E) (hB : Base E.w0) {a b : List UInt8} : Ct E 4 [.string ⟨⟨a⟩⟩, .string ⟨⟨b⟩⟩] [] (fun v Q => v = .bool true ∧ Q = []) := by
  refine fn_enter (hE.fn Tryd.func4) rfl rfl rfl (fun R => ?_)
  simp only [argsL, List.cons_append, List.nil_append]
  refine w_seq (w_region ?_)
  refine l_yield (y_assign rfl) rfl ?_
  refine l_nil (a_then (w_seq (w_region ?_)))
  apply l_loud (by kernel_rfl) rfl
  apply ld_call (ct_Parser23 hE hB) rfl (hE.f (by kernel_rfl))
  · ((repeat constructor); done)
  rintro _ _ ⟨pp, s, tb, M, rfl, hM, rfl⟩
  simp only [List.cons_append, List.nil_append]
  refine l_yield (y_move rfl) rfl ?_
  refine l_yield (y_extract rfl rfl) rfl ?_
  refine l_yield (y_extract rfl rfl) rfl ?_
  refine l_yield (y_assign rfl) rfl ?_
  refine l_yield (y_assign rfl) rfl ?_
  refine l_nil (a_then (w_seq (w_seq (w_region ?_))))
  refine l_yield (y_move rfl) rfl ?_
  refine l_yield (y_not rfl) rfl ?_
  refine l_nil (a_then ?_)
  refine w_cond_f rfl ?_
  refine w_skip (a_then (w_seq (w_region ?_)))
  refine l_yield (y_move rfl) rfl ?_
  apply l_loud (by kernel_rfl) rfl
  apply ld_call (ct_cut23 (m := 400) hE) rfl (hE.f (by kernel_rfl))
  · ((repeat constructor); done)
  rintro _ _ ⟨rfl, rfl⟩
  simp only [List.cons_append, List.nil_append]
  refine l_yield (y_move rfl) rfl ?_
  apply l_loud (by kernel_rfl) rfl
  apply ld_call (ct_cut23 (m := 400) hE) rfl (hE.f (by kernel_rfl))
  · ((repeat constructor); done)
  rintro _ _ ⟨rfl, rfl⟩
  simp only [List.cons_append, List.nil_append]
  have ha : (a.take 400).length ≤ 400 := by rw [List.length_take]; omega
  have hb : (b.take 400).length ≤ 400 := by rw [List.length_take]; omega
  generalize a.take 400 = A at ha ⊢
  generalize b.take 400 = B at hb ⊢
  refine l_yield (y_assign rfl) rfl ?_
  refine l_yield (y_assign rfl) rfl ?_
  refine l_nil (a_then (w_seq (w_region ?_)))
  refine l_yield (y_move rfl) rfl ?_
  refine l_yield (y_move rfl) rfl ?_
  apply l_loud (by kernel_rfl) rfl
  refine ld_bytes rfl (hE.t rfl) (hE.t rfl) (hE.t rfl) (fun g1 c1 => ?_)
  skip
  apply l_loud (by kernel_rfl) rfl
  apply ld_call (ct_Of (Es := M) (most := 1048576) (bs := A) hE hB (by omega) (by omega)) rfl (hE.f (by kernel_rfl))
  · ((repeat constructor); done)
  rintro _ _ ⟨M1, x, rfl, hM1, tx1, gx, sx, rfl⟩
  simp only [List.cons_append, List.nil_append]
  have hx : Sn (rls (M ++ M1)) A x := ⟨sx, tx1, gx⟩
  refine l_yield (y_move rfl) rfl ?_
  refine l_yield (y_extract rfl rfl) rfl ?_
  refine l_yield (y_extract rfl rfl) rfl ?_
  refine l_yield (y_assign rfl) rfl ?_
  refine l_yield (y_assign rfl) rfl ?_
  refine l_nil (a_then (w_seq (w_region ?_)))
  refine l_yield (y_move rfl) rfl ?_
  refine l_yield (y_move rfl) rfl ?_
  apply l_loud (by kernel_rfl) rfl
  refine ld_bytes rfl (hE.t rfl) (hE.t rfl) (hE.t rfl) (fun g2 c2 => ?_)
  skip
  have r2 : (M ++ M1).length + 2 * B.length ≤ 1048576 := by rw [List.length_append]; omega
  apply l_loud (by kernel_rfl) rfl
  apply ld_call (ct_Of (Es := M ++ M1) (most := 1048576) (bs := B) hE hB (by omega) r2) rfl (hE.f (by kernel_rfl))
  · ((repeat constructor); done)
  rintro _ _ ⟨M2, y, rfl, hM2, ty1, gy, sy, rfl⟩
  simp only [List.cons_append, List.nil_append]
  have hy : Sn (rls (M ++ M1 ++ M2)) B y := ⟨sy, ty1, gy⟩
  refine l_yield (y_move rfl) rfl ?_
  refine l_yield (y_extract rfl rfl) rfl ?_
  refine l_yield (y_extract rfl rfl) rfl ?_
  refine l_yield (y_assign rfl) rfl ?_
  refine l_yield (y_assign rfl) rfl ?_
  refine l_nil (a_then (w_seq (w_region ?_)))
  refine l_yield (y_move rfl) rfl ?_
  refine l_yield (y_move rfl) rfl ?_
  refine l_yield (y_move rfl) rfl ?_
  apply l_yield
  · exact y_add_str rfl rfl (by omega)
  · rfl
  skip
  apply l_loud (by kernel_rfl) rfl
  refine ld_bytes rfl (hE.t rfl) (hE.t rfl) (hE.t rfl) (fun g3 c3 => ?_)
  skip
  have n3 : (A ++ B).length ≤ 65536 := by rw [List.length_append]; omega
  have r3 : (M ++ M1 ++ M2).length + 2 * (A ++ B).length ≤ 1048576 := by simp only [List.length_append]; omega
  apply l_loud (by kernel_rfl) rfl
  apply ld_call (ct_Of (Es := M ++ M1 ++ M2) (most := 1048576) (bs := A ++ B) hE hB n3 r3) rfl (hE.f (by kernel_rfl))
  · ((repeat constructor); done)
  rintro _ _ ⟨M3, z, rfl, hM3, tz1, gz, sz, rfl⟩
  simp only [List.cons_append, List.nil_append]
  have hz : Sn (rls (M ++ M1 ++ M2 ++ M3)) (A ++ B) z := ⟨sz, tz1, gz⟩
  refine l_yield (y_move rfl) rfl ?_
  refine l_yield (y_extract rfl rfl) rfl ?_
  refine l_yield (y_extract rfl rfl) rfl ?_
  refine l_yield (y_assign rfl) rfl ?_
  refine l_yield (y_assign rfl) rfl ?_
  refine l_nil (a_then (w_seq (w_region ?_)))
  refine l_yield (y_move rfl) rfl ?_
  refine l_yield (y_move rfl) rfl ?_
  refine l_yield (y_move rfl) rfl ?_
  have n4 : A.length + B.length ≤ 1000000000 := by omega
  have r4 : (M ++ M1 ++ M2 ++ M3).length + (A.length + B.length) ≤ 1048576 := by simp only [List.length_append] at hM1 hM2 hM3 ⊢; omega
  apply l_loud (by kernel_rfl) rfl
  apply ld_call (ct_Join hE hB ((hx.up (M := M2)).up (M := M3)) (hy.up (M := M3)) n4 r4) rfl (hE.f (by kernel_rfl))
  · ((repeat constructor); done)
  rintro _ _ ⟨M4, w, rfl, hM4, hw4, rfl⟩
  simp only [List.cons_append, List.nil_append]
  refine l_say (p := storeP s 1048576 (M ++ M1 ++ M2 ++ M3 ++ M4)) (by ((repeat constructor); done)) (fun _ h => storeP_says h) ?_
  rintro ⟨hwf, -, -, -⟩
  obtain rfl : w = z := hw4.fn hwf hz.up
  refine l_yield (y_move rfl) rfl ?_
  refine l_yield (y_extract rfl rfl) rfl ?_
  refine l_yield (y_extract rfl rfl) rfl ?_
  refine l_yield (y_assign rfl) rfl ?_
  refine l_yield (y_assign rfl) rfl ?_
  refine l_nil (a_then (w_seq (w_region ?_)))
  refine l_yield (y_move rfl) rfl ?_
  apply l_yield
  · (first | exact y_ok_eq rfl (hE.t rfl) | exact y_err_eq rfl (hE.t rfl))
  · rfl
  refine l_yield (y_move rfl) rfl ?_
  skip
  refine l_on rfl rfl ?_
  refine l_yield (y_move rfl) rfl ?_
  refine l_on rfl rfl ?_
  apply l_yield
  · (first | exact y_ok_eq rfl (hE.t rfl) | exact y_err_eq rfl (hE.t rfl))
  · rfl
  apply l_yield
  · (first | exact y_pick_t rfl rfl | exact y_pick_f rfl rfl)
  · rfl
  refine l_yield (y_move rfl) rfl ?_
  skip
  refine l_on rfl rfl ?_
  refine l_yield (y_move rfl) rfl ?_
  refine l_on rfl rfl ?_
  apply l_yield
  · (first | exact y_ok_eq rfl (hE.t rfl) | exact y_err_eq rfl (hE.t rfl))
  · rfl
  apply l_yield
  · (first | exact y_pick_t rfl rfl | exact y_pick_f rfl rfl)
  · rfl
  refine l_yield (y_move rfl) rfl ?_
  skip
  refine l_on rfl rfl ?_
  refine l_yield (y_move rfl) rfl ?_
  refine l_on rfl rfl ?_
  apply l_yield
  · (first | exact y_ok_eq rfl (hE.t rfl) | exact y_err_eq rfl (hE.t rfl))
  · rfl
  apply l_yield
  · (first | exact y_pick_t rfl rfl | exact y_pick_f rfl rfl)
  · rfl
  refine l_yield (y_move rfl) rfl ?_
  skip
  refine l_on rfl rfl ?_
  refine l_yield (y_move rfl) rfl ?_
  refine l_on rfl rfl ?_
  refine l_yield (y_move rfl) rfl ?_
  refine l_on rfl rfl ?_
  refine l_yield (y_eq rfl rfl) rfl ?_
  apply l_yield
  · (first | exact y_pick_t rfl rfl | exact y_pick_f rfl rfl)
  · rfl
  refine l_yield (y_assign rfl) rfl ?_
  refine l_nil (a_then (w_ret ?_))
  apply a_ret
  · rfl
  · (apply Rs.tmp rfl; exact Rs.nil)
  · exact ⟨by simp [one], rfl⟩
  · (apply ent; (repeat constructor); done)
theorem ct_SeamNone (hE : Seat E) (hB : Base E.w0) {a b k : Int} : Ct E 6 [.int .i64 a, .int .i64 b, .int .i64 k] [] (fun v Q => v = .bool true ∧ Q = []) := by
  refine fn_enter (hE.fn Tryd.func6) rfl rfl rfl (fun R => ?_)
  simp only [argsL, List.cons_append, List.nil_append]
  refine w_seq (w_region ?_)
  refine l_yield (y_assign rfl) rfl ?_
  refine l_nil (a_then (w_seq (w_seq (w_region ?_))))
  apply l_loud (by kernel_rfl) rfl
  apply ld_call (ct_Parser23 hE hB) rfl (hE.f (by kernel_rfl))
  · ((repeat constructor); done)
  rintro _ _ ⟨pp, s, tb, M, rfl, hM, rfl⟩
  simp only [List.cons_append, List.nil_append]
  refine l_yield (y_move rfl) rfl ?_
  refine l_yield (y_extract rfl rfl) rfl ?_
  refine l_yield (y_extract rfl rfl) rfl ?_
  refine l_yield (y_assign rfl) rfl ?_
  refine l_yield (y_assign rfl) rfl ?_
  refine l_nil (a_then (w_seq (w_region ?_)))
  refine l_yield (y_move rfl) rfl ?_
  refine l_yield (y_not rfl) rfl ?_
  refine l_nil (a_then ?_)
  refine w_cond_f rfl ?_
  refine w_skip (a_then (w_seq (w_region ?_)))
  refine l_yield (y_move rfl) rfl ?_
  refine l_yield (y_move rfl) rfl ?_
  apply l_loud (by kernel_rfl) rfl
  apply ld_call (ct_Join_none hE) rfl (hE.f (by kernel_rfl))
  · ((repeat constructor); done)
  rintro _ _ ⟨rfl, rfl⟩
  simp only [List.cons_append, List.nil_append]
  refine l_yield (y_move rfl) rfl ?_
  refine l_yield (y_extract rfl rfl) rfl ?_
  refine l_yield (y_extract rfl rfl) rfl ?_
  refine l_yield (y_assign rfl) rfl ?_
  refine l_yield (y_assign rfl) rfl ?_
  refine l_nil (a_then (w_seq (w_region ?_)))
  refine l_yield (y_move rfl) rfl ?_
  refine l_yield (y_move rfl) rfl ?_
  apply l_loud (by kernel_rfl) rfl
  apply ld_call (ct_Repeat_none hE) rfl (hE.f (by kernel_rfl))
  · ((repeat constructor); done)
  rintro _ _ ⟨rfl, rfl⟩
  simp only [List.cons_append, List.nil_append]
  refine l_yield (y_move rfl) rfl ?_
  refine l_yield (y_extract rfl rfl) rfl ?_
  refine l_yield (y_extract rfl rfl) rfl ?_
  refine l_yield (y_assign rfl) rfl ?_
  refine l_yield (y_assign rfl) rfl ?_
  refine l_nil (a_then (w_seq (w_region ?_)))
  refine l_yield (y_move rfl) rfl ?_
  apply l_loud (by kernel_rfl) rfl
  refine ld_buildSlice (hE.t rfl) (hE.t rfl) rfl rfl rfl (fun b35 => ?_)
  apply l_loud (by kernel_rfl) rfl
  apply ld_call (ct_Concat_none hE) rfl (hE.f (by kernel_rfl))
  · ((repeat constructor); done)
  rintro _ _ ⟨rfl, rfl⟩
  simp only [List.cons_append, List.nil_append]
  refine l_yield (y_move rfl) rfl ?_
  refine l_yield (y_extract rfl rfl) rfl ?_
  refine l_yield (y_extract rfl rfl) rfl ?_
  refine l_yield (y_assign rfl) rfl ?_
  refine l_yield (y_assign rfl) rfl ?_
  refine l_nil (a_then (w_seq (w_region ?_)))
  refine l_yield (y_move rfl) rfl ?_
  apply l_loud (by kernel_rfl) rfl
  apply ld_call (ct_Is hE (by decide)) rfl (hE.f (by kernel_rfl))
  · ((repeat constructor); done)
  rintro _ _ ⟨rfl, rfl⟩
  simp only [List.cons_append, List.nil_append]
  refine l_yield (y_move rfl) rfl ?_
  skip
  refine l_on rfl rfl ?_
  refine l_yield (y_move rfl) rfl ?_
  refine l_on rfl rfl ?_
  apply l_loud (by kernel_rfl) rfl
  apply ld_call (ct_Is hE (by decide)) rfl (hE.f (by kernel_rfl))
  · ((repeat constructor); done)
  rintro _ _ ⟨rfl, rfl⟩
  simp only [List.cons_append, List.nil_append]
  apply l_yield
  · (first | exact y_pick_t rfl rfl | exact y_pick_f rfl rfl)
  · rfl
  refine l_yield (y_move rfl) rfl ?_
  skip
  refine l_on rfl rfl ?_
  refine l_yield (y_move rfl) rfl ?_
  refine l_on rfl rfl ?_
  apply l_loud (by kernel_rfl) rfl
  apply ld_call (ct_Is hE (by decide)) rfl (hE.f (by kernel_rfl))
  · ((repeat constructor); done)
  rintro _ _ ⟨rfl, rfl⟩
  simp only [List.cons_append, List.nil_append]
  apply l_yield
  · (first | exact y_pick_t rfl rfl | exact y_pick_f rfl rfl)
  · rfl
  refine l_yield (y_assign rfl) rfl ?_
  refine l_nil (a_then (w_ret ?_))
  apply a_ret
  · rfl
  · (apply Rs.tmp rfl; exact Rs.nil)
  · exact ⟨by simp [one], rfl⟩
  · (apply ent; (repeat constructor); done)
end Go.Proofs.YtekhbjlplfbdkaaDoor
