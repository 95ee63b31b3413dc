/- evergreenlaw27: OrderErrors. -/
import Derived.Test.YtoenonlkdmdlcaaGreatDoorQOrk
set_option linter.unusedVariables false
set_option linter.unusedSimpArgs false
namespace Sl
open Go Go.RowKit
variable {E : Env}
theorem rd_sl1 {w0 : World} {g c m : Nat} {vs xs : List Value} {t : TypeId} (h : ∀ (i : Nat) (v : Value), vs[i]? = some v → xs[i]? = some v) : ∀ k, sl (some ⟨g, 0, none⟩) c t 1 m xs k → RdAt w0 g 0 vs k := fun k hk i v hv => by
  obtain ⟨_, h1 | ⟨g', cur, h1, h2, h3, h4, h5, h6⟩⟩ := hk
  · cases h1.1
  · cases h1
    refine .inr ⟨cur, t, (0, 0), h2, ?_⟩
    have hx := h i v hv
    rw [← h6, List.getElem?_take] at hx
    split at hx
    · rw [Nat.zero_add]; simpa using hx
    · cases hx
theorem ct_pack2 {f : FuncId} {args : List Value} {l : List HP} {q : HP} {u : Value} (h : Ct E f args (l ++ [q]) (fun v Q => v = u ∧ Q = l ++ [q])) : Ct E f args [stars l, q] (fun v Q => v = u ∧ Q = [stars l, q]) := fun R w s =>
  (h R w (s.imp fun _ x => by rw [List.append_assoc]; exact stars_unpack (ps := l) (r := [q] ++ [R]) (p := stars l) (fun _ x => x) x)).mono fun e w' ⟨v, Qs, h1, ⟨h2, h3⟩, h4⟩ => ⟨v, [stars l, q], h1, ⟨h2, rfl⟩, by subst h3; rw [List.append_assoc] at h4; exact h4.imp fun _ => stars_pack (r := [q] ++ [R]) (fun _ x => x)⟩
end Sl
namespace Go.Proofs.YtoenonlkdmdlcaaGreatDoor
open Go Go.RowKit Sl Eg
set_option maxRecDepth 10000
variable {E : Env} {Es : List Ent} {pp tb s most : Nat}
theorem ct_Sort_err (hE : Seat E) {p0 a : Option Addr} {n c : Nat} {e : Int} {P : HP} (hc : Ct E 22 [.pointer p0, .slice a n c] [P] (fun v Q => v = .iface 34 (.int .i64 e) ∧ Q = [P])) : Ct E 11 [.pointer p0, .slice a n c] [P] (fun v Q => v = .tuple #[.slice none 0 0, .iface 34 (.int .i64 e)] ∧ Q = [P]) := by
  refine fn_enter (hE.fn Tryz.func11) rfl rfl rfl (fun R => ?_)
  simp only [argsL, List.cons_append, List.nil_append]
  refine w_seq (w_region ?_)
  apply l_loud (by kernel_rfl) rfl
  refine ld_box rfl (fun b2 => ?_)
  refine l_yield (y_assign rfl) rfl ?_
  refine l_yield (y_assign rfl) rfl ?_
  refine l_nil (a_then (w_seq (w_seq (w_region ?_))))
  apply l_yield
  · (first | (apply y_load rfl (hE.t rfl) rfl; (repeat (first | rfl | assumption | constructor)); done) | exact y_load_old rfl (hE.t rfl) rfl (by assumption) | (apply y_load_ro rfl (hE.t rfl) rfl; (focus ((repeat constructor); done)); (focus assumption)) | (apply y_load_q rfl (hE.t rfl) rfl (by assumption); (focus ((repeat constructor); done)); (first | ((focus exact f0); (focus omega)) | ((focus exact f1); (focus omega)) | ((focus assumption); (focus omega)))))
  · rfl
  refine l_yield (y_move rfl) rfl ?_
  apply l_loud (by kernel_rfl) rfl
  apply ld_call (hc) rfl (hE.f (by kernel_rfl))
  · ((repeat constructor); done)
  rintro _ _ ⟨rfl, rfl⟩
  simp only [List.cons_append, List.nil_append]
  refine l_yield (y_assign rfl) rfl ?_
  refine l_nil (a_then (w_seq (w_region ?_)))
  refine l_yield (y_move rfl) rfl ?_
  apply l_yield
  · (first | exact y_ok_ne rfl (hE.t rfl) | exact y_err_ne rfl (hE.t rfl))
  · rfl
  refine l_nil (a_then ?_)
  refine w_cond_t rfl ?_
  refine w_seq (w_region ?_)
  refine l_yield (y_move rfl) rfl ?_
  refine l_yield (y_assign rfl) rfl ?_
  refine l_yield (y_assign rfl) rfl ?_
  refine l_nil (a_then (w_ret (a_then_ret ?_)))
  apply a_ret
  · rfl
  · (apply Rs.tmp rfl; apply Rs.tmp rfl; exact Rs.nil)
  · exact ⟨rfl, rfl⟩
  · (apply ent; (repeat constructor); done)
theorem ct_Search_nil (hE : Seat E) {a : Option Addr} {n c : Nat} {x : Int} : Ct E 6 [.pointer none, .slice a n c, .int .i64 x] [] (fun v Q => v = .tuple #[.int .i64 0, .bool false, .iface 34 (.int .i64 5)] ∧ Q = []) := ct_spread (l := []) (ct_Search_err hE (ct_checkSorted_err hE (ct_pack (ct_ocheck_nil hE))))
theorem ct_Range_nil (hE : Seat E) {a : Option Addr} {n c : Nat} {x : Int} : Ct E 14 [.pointer none, .slice a n c, .int .i64 x] [] (fun v Q => v = .tuple #[.int .i64 0, .int .i64 0, .iface 34 (.int .i64 5)] ∧ Q = []) := ct_spread (l := []) (ct_Range_err hE (ct_checkSorted_err hE (ct_pack (ct_ocheck_nil hE))))
theorem ct_Sort_nil (hE : Seat E) {a : Option Addr} {n c : Nat} : Ct E 11 [.pointer none, .slice a n c] [] (fun v Q => v = .tuple #[.slice none 0 0, .iface 34 (.int .i64 5)] ∧ Q = []) := ct_spread (l := []) (ct_Sort_err hE (ct_pack (ct_ocheck_nil hE)))
theorem chk_nil (hE : Seat E) {i j : Int} : Chk2 E (.pointer none) i j 5 (stars []) := fun b => by
  refine fn_enter (hE.fn Tryz.func22) rfl rfl rfl (fun R => ?_)
  simp only [argsL, List.cons_append, List.nil_append]
  refine w_seq (w_region ?_)
  refine l_yield (y_assign rfl) rfl ?_
  refine l_nil (a_then (w_seq (w_seq (w_region ?_))))
  refine l_yield (y_move rfl) rfl ?_
  apply l_loud (by kernel_rfl) rfl
  apply ld_call (ct_Store_nil hE) rfl (hE.f (by kernel_rfl))
  · ((repeat constructor); done)
  rintro _ _ ⟨rfl, rfl⟩
  simp only [List.cons_append, List.nil_append]
  apply l_yield
  · (first | exact y_eq_ptr rfl (hE.t rfl) | exact y_eq_nil rfl (hE.t rfl))
  · rfl
  refine l_nil (a_then ?_)
  refine w_cond_t rfl ?_
  refine w_seq (w_region ?_)
  refine l_yield (y_iface rfl (hE.t rfl) rfl) rfl ?_
  refine l_yield (y_assign rfl) rfl ?_
  refine l_nil (a_then (w_ret (a_then_ret ?_)))
  apply a_ret
  · rfl
  · (apply Rs.tmp rfl; exact Rs.nil)
  · exact ⟨rfl, rfl⟩
  · (apply ent; (repeat constructor); done)
theorem bad_snd {L : List Rl} {x : Nat} {d : Int} (hx : good L x) (hd : ¬ (0 ≤ d ∧ d ≤ (L.length : Nat))) : BadAt L [(x : Int), d] 1 := ⟨by simp, fun y hy => by simp at hy; subst hy; exact hd, fun i y hi hy => by
  obtain rfl : i = 0 := by omega
  simp at hy
  exact ⟨x, hy.symm, hx⟩⟩
theorem bad_fst {L : List Rl} {x : Nat} {d : Int} (hd : ¬ (0 ≤ d ∧ d ≤ (L.length : Nat))) : BadAt L [d, (x : Int)] 0 := ⟨by simp, fun y hy => by simp at hy; subst hy; exact hd, fun i y hi => by omega⟩
theorem chk_bad (hE : Seat E) (hB : Base E.w0) {i j : Int} {b : Nat} (hb : BadAt (rls Es) [i, j] b) : Chk2 E (.pointer (some ⟨pp, 0, none⟩)) i j 1 (stars [cells pp [.pointer (some ⟨s, 0, none⟩), .pointer (some ⟨tb, 0, none⟩)] 59, tabP tb s (rls Es), storeP s most Es]) := fun g => ct_pack2 (ct_ocheck_bad hE hB hb (rd_cells (fun _ _ h => h)) (by simp))
theorem ct_Compare_bad (hE : Seat E) (hB : Base E.w0) (pp s tb most : Nat) (Es : List Ent) {i j : Int} {b : Nat} (hb : BadAt (rls Es) [i, j] b) : Ct E 10 [.pointer (some ⟨pp, 0, none⟩), .int .i64 i, .int .i64 j] [cells pp [.pointer (some ⟨s, 0, none⟩), .pointer (some ⟨tb, 0, none⟩)] 59, tabP tb s (rls Es), storeP s most Es] (fun v Q => v = .tuple #[.int .i64 0, .iface 34 (.int .i64 1)] ∧ Q = [cells pp [.pointer (some ⟨s, 0, none⟩), .pointer (some ⟨tb, 0, none⟩)] 59, tabP tb s (rls Es), storeP s most Es]) := ct_spread (ct_Compare_err hE (chk_bad hE hB hb))
theorem ct_HasPrefix_bad (hE : Seat E) (hB : Base E.w0) (pp s tb most : Nat) (Es : List Ent) {i j : Int} {b : Nat} (hb : BadAt (rls Es) [i, j] b) : Ct E 12 [.pointer (some ⟨pp, 0, none⟩), .int .i64 i, .int .i64 j] [cells pp [.pointer (some ⟨s, 0, none⟩), .pointer (some ⟨tb, 0, none⟩)] 59, tabP tb s (rls Es), storeP s most Es] (fun v Q => v = .tuple #[.bool false, .iface 34 (.int .i64 1)] ∧ Q = [cells pp [.pointer (some ⟨s, 0, none⟩), .pointer (some ⟨tb, 0, none⟩)] 59, tabP tb s (rls Es), storeP s most Es]) := ct_spread (ct_HasPrefix_err hE (chk_bad hE hB hb))
theorem ct_HasSuffix_bad (hE : Seat E) (hB : Base E.w0) (pp s tb most : Nat) (Es : List Ent) {i j : Int} {b : Nat} (hb : BadAt (rls Es) [i, j] b) : Ct E 13 [.pointer (some ⟨pp, 0, none⟩), .int .i64 i, .int .i64 j] [cells pp [.pointer (some ⟨s, 0, none⟩), .pointer (some ⟨tb, 0, none⟩)] 59, tabP tb s (rls Es), storeP s most Es] (fun v Q => v = .tuple #[.bool false, .iface 34 (.int .i64 1)] ∧ Q = [cells pp [.pointer (some ⟨s, 0, none⟩), .pointer (some ⟨tb, 0, none⟩)] 59, tabP tb s (rls Es), storeP s most Es]) := ct_spread (ct_HasSuffix_err hE (chk_bad hE hB hb))
theorem ct_Compare_nil (hE : Seat E) {i j : Int} : Ct E 10 [.pointer none, .int .i64 i, .int .i64 j] [] (fun v Q => v = .tuple #[.int .i64 0, .iface 34 (.int .i64 5)] ∧ Q = []) := ct_spread (l := []) (ct_Compare_err hE (chk_nil hE))
theorem ct_HasPrefix_nil (hE : Seat E) {i j : Int} : Ct E 12 [.pointer none, .int .i64 i, .int .i64 j] [] (fun v Q => v = .tuple #[.bool false, .iface 34 (.int .i64 5)] ∧ Q = []) := ct_spread (l := []) (ct_HasPrefix_err hE (chk_nil hE))
theorem ct_HasSuffix_nil (hE : Seat E) {i j : Int} : Ct E 13 [.pointer none, .int .i64 i, .int .i64 j] [] (fun v Q => v = .tuple #[.bool false, .iface 34 (.int .i64 5)] ∧ Q = []) := ct_spread (l := []) (ct_HasSuffix_err hE (chk_nil hE))
/-- A list of two IDs, one of them unknown. -/
theorem ct_check_two (hE : Seat E) (hB : Base E.w0) (pp s tb most : Nat) (Es : List Ent) {i j : Int} {b g : Nat} (hb : BadAt (rls Es) [i, j] b) : Ct E 22 [.pointer (some ⟨pp, 0, none⟩), .slice (some ⟨g, 0, none⟩) 2 2] [stars [cells pp [.pointer (some ⟨s, 0, none⟩), .pointer (some ⟨tb, 0, none⟩)] 59, tabP tb s (rls Es), storeP s most Es, cells g [.int .i64 i, .int .i64 j] 23]] (fun v Q => v = .iface 34 (.int .i64 1) ∧ Q = [stars [cells pp [.pointer (some ⟨s, 0, none⟩), .pointer (some ⟨tb, 0, none⟩)] 59, tabP tb s (rls Es), storeP s most Es, cells g [.int .i64 i, .int .i64 j] 23]]) :=
  ct_pack (ct_ocheck_bad hE hB hb (rd_cells (fun _ _ h => h)) (by simp))
theorem ct_Sort_bad (hE : Seat E) (hB : Base E.w0) (pp s tb most : Nat) (Es : List Ent) {i j : Int} {b g : Nat} (hb : BadAt (rls Es) [i, j] b) : Ct E 11 [.pointer (some ⟨pp, 0, none⟩), .slice (some ⟨g, 0, none⟩) 2 2] [cells pp [.pointer (some ⟨s, 0, none⟩), .pointer (some ⟨tb, 0, none⟩)] 59, tabP tb s (rls Es), storeP s most Es, cells g [.int .i64 i, .int .i64 j] 23] (fun v Q => v = .tuple #[.slice none 0 0, .iface 34 (.int .i64 1)] ∧ Q = [cells pp [.pointer (some ⟨s, 0, none⟩), .pointer (some ⟨tb, 0, none⟩)] 59, tabP tb s (rls Es), storeP s most Es, cells g [.int .i64 i, .int .i64 j] 23]) := ct_spread (ct_Sort_err hE (ct_check_two hE hB pp s tb most Es hb))
theorem ct_Search_bad (hE : Seat E) (hB : Base E.w0) (pp s tb most : Nat) (Es : List Ent) {i j x : Int} {b g : Nat} (hb : BadAt (rls Es) [i, j] b) : Ct E 6 [.pointer (some ⟨pp, 0, none⟩), .slice (some ⟨g, 0, none⟩) 2 2, .int .i64 x] [cells pp [.pointer (some ⟨s, 0, none⟩), .pointer (some ⟨tb, 0, none⟩)] 59, tabP tb s (rls Es), storeP s most Es, cells g [.int .i64 i, .int .i64 j] 23] (fun v Q => v = .tuple #[.int .i64 0, .bool false, .iface 34 (.int .i64 1)] ∧ Q = [cells pp [.pointer (some ⟨s, 0, none⟩), .pointer (some ⟨tb, 0, none⟩)] 59, tabP tb s (rls Es), storeP s most Es, cells g [.int .i64 i, .int .i64 j] 23]) := ct_spread (ct_Search_err hE (ct_checkSorted_err hE (ct_check_two hE hB pp s tb most Es hb)))
theorem ct_Range_bad (hE : Seat E) (hB : Base E.w0) (pp s tb most : Nat) (Es : List Ent) {x g c : Nat} {d : Int} (hx : good (rls Es) x) (hd : ¬ (0 ≤ d ∧ d ≤ (Es.length : Nat))) :
    Ct E 14 [.pointer (some ⟨pp, 0, none⟩), .slice (some ⟨g, 0, none⟩) [x].length c, .int .i64 d] [cells pp [.pointer (some ⟨s, 0, none⟩), .pointer (some ⟨tb, 0, none⟩)] 59, tabP tb s (rls Es), storeP s most Es, sl (some ⟨g, 0, none⟩) c 23 1 [x].length (idC [x])] (fun v Q => v = .tuple #[.int .i64 0, .int .i64 0, .iface 34 (.int .i64 1)] ∧ Q = [cells pp [.pointer (some ⟨s, 0, none⟩), .pointer (some ⟨tb, 0, none⟩)] 59, tabP tb s (rls Es), storeP s most Es, sl (some ⟨g, 0, none⟩) c 23 1 [x].length (idC [x])]) :=
  ct_spread (ct_Range_err hE (ct_pack (ct_checkSorted_one hE hB (by intro y hy; simp at hy; subst hy; exact hx) hd (by simp) (fun _ => ⟨g, 0, rfl, rd_sl1 (fun _ _ h => h)⟩))))
theorem lens_one (a : Tx) : lens [a] = a.bs.length := by simp [lens]
theorem ids_one {L : List Rl} {a : Tx} {ids : List Nat} (h : Sgs L [a] ids) : ∃ x, ids = [x] ∧ good L x := by
  have hl := h.len
  match ids, hl, h with
  | [x], _, h => exact ⟨x, rfl, (h.at_ 0 a x rfl rfl).2.1⟩
theorem rep_get6 {n k : Nat} {e : Value} (h : k < n) (j : Nat) (hj : j = k) : (List.replicate n e)[j]? = some e := by subst hj; simp [h]
theorem ct_OrderErrors (hE : Seat E) (hB : Base E.w0) {a : Tx} {d : Int} (ha : OkT E.w0 a) : Ct E 3 [.slice a.a a.bs.length a.c, .int .i64 d] [] (fun v Q => v = .bool true ∧ Q = []) := by
  have hok : ∀ t ∈ [a], OkT E.w0 t := by intro t ht; simp at ht; subst ht; exact ha
  have l1 : (1 : Nat) ≤ 140737488355328 := by decide
  refine fn_enter (hE.fn Tryz.func3) rfl rfl rfl (fun R => ?_)
  simp only [argsL, List.cons_append, List.nil_append]
  refine w_seq (w_region ?_)
  refine l_yield (y_assign rfl) rfl ?_
  refine l_nil (a_then (w_seq (w_seq (w_region ?_))))
  refine l_yield (y_move rfl) rfl ?_
  apply l_loud (by kernel_rfl) rfl
  refine ld_buildSlice (hE.t rfl) (hE.t rfl) rfl rfl rfl (fun b30 => ?_)
  apply l_loud (by kernel_rfl) rfl
  apply ld_call (ct_long (ts := [a]) hE (fun _ => ⟨b30, 0, rfl, rd_cells (fun _ _ h => h)⟩) hok l1) rfl (hE.f (by kernel_rfl))
  · ((repeat constructor); done)
  rintro _ _ ⟨rfl, rfl⟩
  simp only [List.cons_append, List.nil_append]
  rw [lens_one]
  refine l_nil (a_then ?_)
  refine w_cond_d rfl (fun h1 => ?_) (fun h1 => ?_)
  · skip
    refine w_seq (w_region ?_)
    refine l_yield (y_assign rfl) rfl ?_
    refine l_nil (a_then (w_ret (a_then_ret ?_)))
    apply a_ret
    · rfl
    · (apply Rs.tmp rfl; exact Rs.nil)
    · exact ⟨rfl, rfl⟩
    · (apply ent; (repeat constructor); done)
  skip
  have h1' : 1 + a.bs.length ≤ 2000 := by have : [a].length = 1 := rfl; omega
  have h2 : [a].length + lens [a] ≤ 2000 := by rw [lens_one]; exact h1'
  refine w_skip (a_then (w_seq (w_region ?_)))
  refine l_yield (y_move rfl) rfl ?_
  apply l_loud (by kernel_rfl) rfl
  refine ld_buildSlice (hE.t rfl) (hE.t rfl) rfl rfl rfl (fun b34 => ?_)
  apply l_loud (by kernel_rfl) rfl
  apply ld_call (ct_begun (ts := [a]) hE hB (fun _ => ⟨b34, 0, rfl, rd_cells (fun _ _ h => h)⟩) hok h2) rfl (hE.f (by kernel_rfl))
  · ((repeat constructor); done)
  rintro _ _ ⟨pp, s, tb, M, ids, p, c, rfl, hM, hsg, rfl⟩
  obtain ⟨x, rfl, gx⟩ := ids_one hsg
  rw [lens_one] at hM
  simp only [List.cons_append, List.nil_append]
  refine l_say (p := sl p c 23 1 [x].length (idC [x])) (by ((repeat constructor); done)) (fun _ h => sl_form h (by simp)) ?_
  rintro ⟨g, rfl⟩
  have i0 : (idC [x])[0]? = some (.int .i64 (x : Nat)) := rfl
  have x2 : ((0 : Nat) : Int) < (([x] : List Nat).length : Nat) := by simp
  refine l_yield (y_move rfl) rfl ?_
  refine l_yield (y_extract rfl rfl) rfl ?_
  refine l_yield (y_extract rfl rfl) rfl ?_
  refine l_yield (y_extract rfl rfl) rfl ?_
  refine l_yield (y_assign rfl) rfl ?_
  refine l_yield (y_assign rfl) rfl ?_
  refine l_yield (y_assign rfl) rfl ?_
  refine l_nil (a_then (w_seq (w_seq (w_region ?_))))
  refine l_yield (y_move rfl) rfl ?_
  refine l_yield (y_not rfl) rfl ?_
  refine l_nil (a_then ?_)
  refine w_cond_f rfl ?_
  refine w_skip (a_then (w_seq (w_seq (w_region ?_))))
  refine l_yield (y_move rfl) rfl ?_
  refine l_yield (y_move rfl) rfl ?_
  apply l_loud (by kernel_rfl) rfl
  apply ld_call (ct_Search_nil hE) rfl (hE.f (by kernel_rfl))
  · ((repeat constructor); done)
  rintro _ _ ⟨rfl, rfl⟩
  simp only [List.cons_append, List.nil_append]
  refine l_yield (y_move rfl) rfl ?_
  refine l_yield (y_extract rfl rfl) rfl ?_
  refine l_yield (y_extract rfl rfl) rfl ?_
  refine l_yield (y_extract rfl rfl) rfl ?_
  refine l_yield (y_assign rfl) rfl ?_
  refine l_yield (y_assign rfl) rfl ?_
  refine l_yield (y_assign rfl) rfl ?_
  refine l_nil (a_then (w_seq (w_region ?_)))
  refine l_yield (y_move rfl) rfl ?_
  apply l_loud (by kernel_rfl) rfl
  apply ld_call (ct_Is hE (by decide)) rfl (hE.f (by kernel_rfl))
  · ((repeat constructor); done)
  rintro _ _ ⟨rfl, rfl⟩
  simp only [List.cons_append, List.nil_append]
  refine l_yield (y_not rfl) rfl ?_
  refine l_nil (a_then ?_)
  refine w_cond_f rfl ?_
  refine w_skip (a_then (w_seq (w_seq (w_region ?_))))
  refine l_yield (y_move rfl) rfl ?_
  refine l_yield (y_ge rfl rfl) rfl ?_
  refine l_yield (y_move rfl) rfl ?_
  refine l_split 53 rfl (fun h3 => ?_) (fun h3 => ?_)
  · skip
    refine l_on rfl rfl ?_
    refine l_yield (y_move rfl) rfl ?_
    refine l_on rfl rfl ?_
    refine l_yield (y_move rfl) rfl ?_
    refine l_on rfl rfl ?_
    apply l_loud (by kernel_rfl) rfl
    apply ld_call (ct_Store hE) rfl (hE.f (by kernel_rfl))
    · ((repeat constructor); done)
    rintro _ _ ⟨rfl, rfl⟩
    simp only [List.cons_append, List.nil_append]
    refine l_on rfl rfl ?_
    apply l_loud (by kernel_rfl) rfl
    apply ld_call (ct_len hE) rfl (hE.f (by kernel_rfl))
    · ((repeat constructor); done)
    rintro _ _ ⟨rfl, rfl⟩
    simp only [List.cons_append, List.nil_append]
    refine l_on rfl rfl ?_
    refine l_yield (y_le rfl rfl) rfl ?_
    apply l_yield
    · (first | exact y_pick_t rfl rfl | exact y_pick_f rfl rfl)
    · rfl
    refine l_nil (a_then ?_)
    refine w_cond_d rfl (fun h4 => ?_) (fun h4 => ?_)
    · skip
      obtain ⟨d', hd'⟩ : ∃ d' : Int, d' = ((M.length : Nat) : Int) + 1 := ⟨_, rfl⟩
      have hd3 : ¬ (0 ≤ d' ∧ d' ≤ (M.length : Nat)) := by omega
      have hd2 : ¬ (0 ≤ d' ∧ d' ≤ ((rls M).length : Nat)) := by rw [rls_length]; exact hd3
      refine w_region ?_
      refine l_yield (y_move rfl) rfl ?_
      apply l_loud (by kernel_rfl) rfl
      apply ld_call (ct_Store hE) rfl (hE.f (by kernel_rfl))
      · ((repeat constructor); done)
      rintro _ _ ⟨rfl, rfl⟩
      simp only [List.cons_append, List.nil_append]
      skip
      apply l_loud (by kernel_rfl) rfl
      apply ld_call (ct_len hE) rfl (hE.f (by kernel_rfl))
      · ((repeat constructor); done)
      rintro _ _ ⟨rfl, rfl⟩
      simp only [List.cons_append, List.nil_append]
      refine l_yield (y_add rfl rfl (by omega) (by omega)) rfl ?_
      refine l_yield (y_assign rfl) rfl ?_
      refine l_nil (a_then ?_)
      refine w_eq 1 (.int .i64 d') rfl (int_eq (by omega)) ?_
      refine w_seq (w_region ?_)
      refine l_yield (y_move rfl) rfl ?_
      refine l_yield (y_move rfl) rfl ?_
      apply l_yield
      · (first | exact y_indexAddr1 rfl rfl (hE.t rfl) (by omega) (by omega) | exact y_indexAddr rfl rfl (hE.t rfl) (by omega) (by omega))
      · rfl
      apply l_yield
      · (first | (apply y_load rfl (hE.t rfl) rfl; (repeat (first | rfl | assumption | constructor)); done) | exact y_load_old rfl (hE.t rfl) rfl (by assumption) | (apply y_load_ro rfl (hE.t rfl) rfl; (focus ((repeat constructor); done)); (focus assumption)) | (apply y_load_q rfl (hE.t rfl) rfl (by assumption); (focus ((repeat constructor); done)); (first | ((focus exact f0); (focus omega)) | ((focus exact f1); (focus omega)) | ((focus assumption); (focus omega)))))
      · rfl
      refine l_yield (y_move rfl) rfl ?_
      apply l_loud (by kernel_rfl) rfl
      apply ld_call (ct_Compare_bad hE hB pp s tb 1048576 M (bad_snd gx hd2)) rfl (hE.f (by kernel_rfl))
      · ((repeat constructor); done)
      rintro _ _ ⟨rfl, rfl⟩
      simp only [List.cons_append, List.nil_append]
      refine l_yield (y_move rfl) rfl ?_
      refine l_yield (y_extract rfl rfl) rfl ?_
      refine l_yield (y_extract rfl rfl) rfl ?_
      refine l_yield (y_assign rfl) rfl ?_
      refine l_yield (y_assign rfl) rfl ?_
      refine l_nil (a_then (w_seq (w_region ?_)))
      refine l_yield (y_move rfl) rfl ?_
      refine l_yield (y_move rfl) rfl ?_
      apply l_yield
      · (first | exact y_indexAddr1 rfl rfl (hE.t rfl) (by omega) (by omega) | exact y_indexAddr rfl rfl (hE.t rfl) (by omega) (by omega))
      · rfl
      apply l_yield
      · (first | (apply y_load rfl (hE.t rfl) rfl; (repeat (first | rfl | assumption | constructor)); done) | exact y_load_old rfl (hE.t rfl) rfl (by assumption) | (apply y_load_ro rfl (hE.t rfl) rfl; (focus ((repeat constructor); done)); (focus assumption)) | (apply y_load_q rfl (hE.t rfl) rfl (by assumption); (focus ((repeat constructor); done)); (first | ((focus exact f0); (focus omega)) | ((focus exact f1); (focus omega)) | ((focus assumption); (focus omega)))))
      · rfl
      refine l_yield (y_move rfl) rfl ?_
      apply l_loud (by kernel_rfl) rfl
      refine ld_buildSlice (hE.t rfl) (hE.t rfl) rfl rfl rfl (fun b79 => ?_)
      apply l_loud (by kernel_rfl) rfl
      apply ld_call (ct_Sort_bad hE hB pp s tb 1048576 M (bad_snd gx hd2)) rfl (hE.f (by kernel_rfl))
      · ((repeat constructor); done)
      rintro _ _ ⟨rfl, rfl⟩
      simp only [List.cons_append, List.nil_append]
      refine l_yield (y_move rfl) rfl ?_
      refine l_yield (y_extract rfl rfl) rfl ?_
      refine l_yield (y_extract rfl rfl) rfl ?_
      refine l_yield (y_assign rfl) rfl ?_
      refine l_yield (y_assign rfl) rfl ?_
      refine l_nil (a_then ?_)
      refine w_seq ?_
      refine w_held ([sl (some ⟨g, 0, none⟩) c 23 1 [x].length (idC [x])]) ?_ ?_
      · (apply ent; (repeat constructor); done)
      apply d_take 0 rfl
      · exact y_move rfl
      · with_reducible (repeat (first | exact calm_body | apply calm_then | apply calm_block))
      · kernel_rfl
      · rfl
      apply d_take 1 rfl
      · exact y_move rfl
      · with_reducible (repeat (first | exact calm_body | apply calm_then | apply calm_block))
      · kernel_rfl
      · rfl
      apply d_take 2 rfl
      · (first | exact y_indexAddr1 rfl rfl (hE.t rfl) (by omega) (by omega) | exact y_indexAddr rfl rfl (hE.t rfl) (by omega) (by omega))
      · with_reducible (repeat (first | exact calm_body | apply calm_then | apply calm_block))
      · kernel_rfl
      · rfl
      apply d_take 3 rfl
      · (first | (apply y_load rfl (hE.t rfl) rfl; (repeat (first | rfl | assumption | constructor)); done) | exact y_load_old rfl (hE.t rfl) rfl (by assumption) | (apply y_load_ro rfl (hE.t rfl) rfl; (focus ((repeat constructor); done)); (focus assumption)) | (apply y_load_q rfl (hE.t rfl) rfl (by assumption); (focus ((repeat constructor); done)); (first | ((focus exact f0); (focus omega)) | ((focus exact f1); (focus omega)) | ((focus assumption); (focus omega)))))
      · with_reducible (repeat (first | exact calm_body | apply calm_then | apply calm_block))
      · kernel_rfl
      · rfl
      apply d_take 4 rfl
      · exact y_move rfl
      · with_reducible (repeat (first | exact calm_body | apply calm_then | apply calm_block))
      · kernel_rfl
      · rfl
      apply d_take 6 rfl
      · exact y_move rfl
      · with_reducible (repeat (first | exact calm_body | apply calm_then | apply calm_block))
      · kernel_rfl
      · rfl
      apply d_take 7 rfl
      · (first | exact y_indexAddr1 rfl rfl (hE.t rfl) (by omega) (by omega) | exact y_indexAddr rfl rfl (hE.t rfl) (by omega) (by omega))
      · with_reducible (repeat (first | exact calm_body | apply calm_then | apply calm_block))
      · kernel_rfl
      · rfl
      apply d_take 8 rfl
      · (first | (apply y_load rfl (hE.t rfl) rfl; (repeat (first | rfl | assumption | constructor)); done) | exact y_load_old rfl (hE.t rfl) rfl (by assumption) | (apply y_load_ro rfl (hE.t rfl) rfl; (focus ((repeat constructor); done)); (focus assumption)) | (apply y_load_q rfl (hE.t rfl) rfl (by assumption); (focus ((repeat constructor); done)); (first | ((focus exact f0); (focus omega)) | ((focus exact f1); (focus omega)) | ((focus assumption); (focus omega)))))
      · with_reducible (repeat (first | exact calm_body | apply calm_then | apply calm_block))
      · kernel_rfl
      · rfl
      apply d_loud 5 rfl (by kernel_rfl) rfl
      refine ld_buildSlice (hE.t rfl) (hE.t rfl) rfl rfl rfl (fun b89 => ?_)
      refine ⟨by (apply ent; (repeat constructor); done), ?_⟩
      apply d_loud 9 rfl (by kernel_rfl) rfl
      apply ld_call (ct_Search_bad hE hB pp s tb 1048576 M (bad_snd gx hd2)) rfl (hE.f (by kernel_rfl))
      · ((repeat constructor); done)
      rintro _ _ ⟨rfl, rfl⟩
      simp only [List.cons_append, List.nil_append]
      refine ⟨by (apply ent; (repeat constructor); done), ?_⟩
      apply d_take 10 rfl
      · exact y_move rfl
      · with_reducible (repeat (first | exact calm_body | apply calm_then | apply calm_block))
      · kernel_rfl
      · rfl
      apply d_take 11 rfl
      · exact y_extract rfl rfl
      · with_reducible (repeat (first | exact calm_body | apply calm_then | apply calm_block))
      · kernel_rfl
      · rfl
      apply d_take 12 rfl
      · exact y_extract rfl rfl
      · with_reducible (repeat (first | exact calm_body | apply calm_then | apply calm_block))
      · kernel_rfl
      · rfl
      apply d_take 13 rfl
      · exact y_extract rfl rfl
      · with_reducible (repeat (first | exact calm_body | apply calm_then | apply calm_block))
      · kernel_rfl
      · rfl
      apply d_take 14 rfl
      · exact y_assign rfl
      · with_reducible (repeat (first | exact calm_body | apply calm_then | apply calm_block))
      · kernel_rfl
      · rfl
      apply d_take 15 rfl
      · exact y_assign rfl
      · with_reducible (repeat (first | exact calm_body | apply calm_then | apply calm_block))
      · kernel_rfl
      · rfl
      apply d_take 16 rfl
      · exact y_assign rfl
      · with_reducible (repeat (first | exact calm_body | apply calm_then | apply calm_block))
      · kernel_rfl
      · rfl
      refine d_nil (by kernel_rfl) ?_
      refine a_then (w_seq (w_region ?_))
      refine l_yield (y_move rfl) rfl ?_
      refine l_yield (y_move rfl) rfl ?_
      refine l_yield (y_move rfl) rfl ?_
      apply l_yield
      · (first | exact y_indexAddr1 rfl rfl (hE.t rfl) (by omega) (by omega) | exact y_indexAddr rfl rfl (hE.t rfl) (by omega) (by omega))
      · rfl
      apply l_yield
      · (first | (apply y_load rfl (hE.t rfl) rfl; (repeat (first | rfl | assumption | constructor)); done) | exact y_load_old rfl (hE.t rfl) rfl (by assumption) | (apply y_load_ro rfl (hE.t rfl) rfl; (focus ((repeat constructor); done)); (focus assumption)) | (apply y_load_q rfl (hE.t rfl) rfl (by assumption); (focus ((repeat constructor); done)); (first | ((focus exact f0); (focus omega)) | ((focus exact f1); (focus omega)) | ((focus assumption); (focus omega)))))
      · rfl
      apply l_loud (by kernel_rfl) rfl
      apply ld_call (ct_HasPrefix_bad hE hB pp s tb 1048576 M (bad_fst (x := x) hd2)) rfl (hE.f (by kernel_rfl))
      · ((repeat constructor); done)
      rintro _ _ ⟨rfl, rfl⟩
      simp only [List.cons_append, List.nil_append]
      refine l_yield (y_move rfl) rfl ?_
      refine l_yield (y_extract rfl rfl) rfl ?_
      refine l_yield (y_extract rfl rfl) rfl ?_
      refine l_yield (y_assign rfl) rfl ?_
      refine l_yield (y_assign rfl) rfl ?_
      refine l_nil (a_then (w_seq (w_region ?_)))
      refine l_yield (y_move rfl) rfl ?_
      refine l_yield (y_move rfl) rfl ?_
      apply l_yield
      · (first | exact y_indexAddr1 rfl rfl (hE.t rfl) (by omega) (by omega) | exact y_indexAddr rfl rfl (hE.t rfl) (by omega) (by omega))
      · rfl
      apply l_yield
      · (first | (apply y_load rfl (hE.t rfl) rfl; (repeat (first | rfl | assumption | constructor)); done) | exact y_load_old rfl (hE.t rfl) rfl (by assumption) | (apply y_load_ro rfl (hE.t rfl) rfl; (focus ((repeat constructor); done)); (focus assumption)) | (apply y_load_q rfl (hE.t rfl) rfl (by assumption); (focus ((repeat constructor); done)); (first | ((focus exact f0); (focus omega)) | ((focus exact f1); (focus omega)) | ((focus assumption); (focus omega)))))
      · rfl
      refine l_yield (y_move rfl) rfl ?_
      apply l_loud (by kernel_rfl) rfl
      apply ld_call (ct_HasSuffix_bad hE hB pp s tb 1048576 M (bad_snd gx hd2)) rfl (hE.f (by kernel_rfl))
      · ((repeat constructor); done)
      rintro _ _ ⟨rfl, rfl⟩
      simp only [List.cons_append, List.nil_append]
      refine l_yield (y_move rfl) rfl ?_
      refine l_yield (y_extract rfl rfl) rfl ?_
      refine l_yield (y_extract rfl rfl) rfl ?_
      refine l_yield (y_assign rfl) rfl ?_
      refine l_yield (y_assign rfl) rfl ?_
      refine l_nil (a_then (w_seq (w_region ?_)))
      refine l_yield (y_move rfl) rfl ?_
      refine l_yield (y_move rfl) rfl ?_
      refine l_yield (y_move rfl) rfl ?_
      apply l_loud (by kernel_rfl) rfl
      apply ld_call (ct_Range_bad hE hB pp s tb 1048576 M gx hd3) rfl (hE.f (by kernel_rfl))
      · ((repeat constructor); done)
      rintro _ _ ⟨rfl, rfl⟩
      simp only [List.cons_append, List.nil_append]
      refine l_yield (y_move rfl) rfl ?_
      refine l_yield (y_extract rfl rfl) rfl ?_
      refine l_yield (y_extract rfl rfl) rfl ?_
      refine l_yield (y_extract rfl rfl) rfl ?_
      refine l_yield (y_assign rfl) rfl ?_
      refine l_yield (y_assign rfl) rfl ?_
      refine l_yield (y_assign rfl) rfl ?_
      refine l_nil (a_then (w_seq (w_seq (w_region ?_))))
      refine l_yield (y_move rfl) rfl ?_
      refine l_yield (y_ne rfl rfl) rfl ?_
      refine l_yield (y_move rfl) rfl ?_
      skip
      refine l_on rfl rfl ?_
      refine l_yield (y_move rfl) rfl ?_
      refine l_on rfl rfl ?_
      refine l_yield (y_len_slice rfl (hE.t rfl)) rfl ?_
      refine l_on rfl rfl ?_
      refine l_yield (y_ne rfl rfl) rfl ?_
      apply l_yield
      · (first | exact y_pick_t rfl rfl | exact y_pick_f rfl rfl)
      · rfl
      refine l_yield (y_move rfl) rfl ?_
      skip
      refine l_on rfl rfl ?_
      refine l_yield (y_move rfl) rfl ?_
      refine l_on rfl rfl ?_
      refine l_yield (y_ne rfl rfl) rfl ?_
      apply l_yield
      · (first | exact y_pick_t rfl rfl | exact y_pick_f rfl rfl)
      · rfl
      refine l_yield (y_move rfl) rfl ?_
      skip
      refine l_on rfl rfl ?_
      refine l_yield (y_move rfl) rfl ?_
      apply l_yield
      · (first | exact y_pick_t rfl rfl | exact y_pick_f rfl rfl)
      · rfl
      refine l_yield (y_move rfl) rfl ?_
      skip
      refine l_on rfl rfl ?_
      refine l_yield (y_move rfl) rfl ?_
      apply l_yield
      · (first | exact y_pick_t rfl rfl | exact y_pick_f rfl rfl)
      · rfl
      refine l_yield (y_move rfl) rfl ?_
      skip
      refine l_on rfl rfl ?_
      refine l_yield (y_move rfl) rfl ?_
      apply l_yield
      · (first | exact y_pick_t rfl rfl | exact y_pick_f rfl rfl)
      · rfl
      refine l_yield (y_move rfl) rfl ?_
      skip
      refine l_on rfl rfl ?_
      refine l_yield (y_move rfl) rfl ?_
      refine l_on rfl rfl ?_
      refine l_yield (y_ne rfl rfl) rfl ?_
      apply l_yield
      · (first | exact y_pick_t rfl rfl | exact y_pick_f rfl rfl)
      · rfl
      refine l_yield (y_move rfl) rfl ?_
      skip
      refine l_on rfl rfl ?_
      refine l_yield (y_move rfl) rfl ?_
      refine l_on rfl rfl ?_
      refine l_yield (y_ne rfl rfl) rfl ?_
      apply l_yield
      · (first | exact y_pick_t rfl rfl | exact y_pick_f rfl rfl)
      · rfl
      refine l_nil (a_then ?_)
      refine w_cond_f rfl ?_
      refine w_skip (a_then (w_seq (w_seq (w_region ?_))))
      refine l_yield (y_move rfl) rfl ?_
      refine l_yield (y_move rfl) rfl ?_
      refine l_yield (y_move rfl) rfl ?_
      refine l_yield (y_move rfl) rfl ?_
      refine l_yield (y_move rfl) rfl ?_
      refine l_yield (y_move rfl) rfl ?_
      apply l_loud (by kernel_rfl) rfl
      refine ld_buildSlice (hE.t rfl) (hE.t rfl) rfl rfl rfl (fun b157 => ?_)
      refine l_yield (y_len_slice rfl (hE.t rfl)) rfl ?_
      refine l_yield (y_move rfl) rfl ?_
      refine l_nil (a_then (w_block ?_))
      skip
      refine w_loop (fun k : Nat => [(157, .slice (some ⟨b157, 0, none⟩) 6 6), (158, .int .i64 6), (159, .int .i64 (k : Nat))]) (fun k => [cells b157 (List.replicate 6 (.iface 34 (.int .i64 1))) 30, R]) (fun k => 6 - k) (fun k => k ≤ 6) 0 ?_ ?_ ?_ ?_
      · exact Nat.zero_le _
      · exact ⟨rfl, rfl, rfl, trivial⟩
      · (apply ent; (repeat constructor); done)
      intro k hk
      skip
      refine w_seq (w_region ?_)
      refine l_yield (y_lt rfl rfl) rfl ?_
      refine l_nil (a_then (w_seq ?_))
      refine w_cond_d rfl (fun hlp => ?_) (fun hlp => ?_)
      · skip
        have f0 : (List.replicate 6 (.iface 34 (.int .i64 1) : Value))[((k : Nat) : Int).toNat]? = some (.iface 34 (.int .i64 1) : Value) := rep_get6 (k := k) (by omega) _ (by omega)
        refine w_skip (a_then (w_seq (w_block (w_seq (w_region ?_)))))
        apply l_yield
        · (first | exact y_indexAddr1 rfl rfl (hE.t rfl) (by omega) (by omega) | exact y_indexAddr rfl rfl (hE.t rfl) (by omega) (by omega))
        · rfl
        apply l_yield
        · (first | (apply y_load rfl (hE.t rfl) rfl; (repeat (first | rfl | assumption | constructor)); done) | exact y_load_old rfl (hE.t rfl) rfl (by assumption) | (apply y_load_ro rfl (hE.t rfl) rfl; (focus ((repeat constructor); done)); (focus assumption)) | (apply y_load_q rfl (hE.t rfl) rfl (by assumption); (focus ((repeat constructor); done)); (first | ((focus exact f0); (focus omega)) | ((focus exact f1); (focus omega)) | ((focus assumption); (focus omega)))))
        · rfl
        refine l_yield (y_assign rfl) rfl ?_
        refine l_nil (a_then (w_seq (w_region ?_)))
        refine l_yield (y_move rfl) rfl ?_
        apply l_loud (by kernel_rfl) rfl
        apply ld_call (ct_Is hE (by decide)) rfl (hE.f (by kernel_rfl))
        · ((repeat constructor); done)
        rintro _ _ ⟨rfl, rfl⟩
        simp only [List.cons_append, List.nil_append]
        refine l_yield (y_not rfl) rfl ?_
        refine l_nil (a_then ?_)
        refine w_cond_f rfl ?_
        refine w_skip (a_block (a_then (w_region ?_)))
        refine l_yield (y_add rfl rfl (by omega) (by omega)) rfl ?_
        refine l_yield (y_move rfl) rfl ?_
        refine l_nil ?_
        refine wa_eq 159 (.int .i64 ((k + 1 : Nat) : Int)) rfl (int_eq (by omega)) ?_
        refine a_round (k + 1) (by omega) (by omega) ⟨rfl, rfl, rfl, trivial⟩ (by (apply ent; (repeat constructor); done))
      skip
      refine w_exit (a_then_exit (a_then_exit (a_block_exit (a_then (w_seq (w_region ?_))))))
      apply l_loud (by kernel_rfl) rfl
      apply ld_call (ct_Compare_nil hE) rfl (hE.f (by kernel_rfl))
      · ((repeat constructor); done)
      rintro _ _ ⟨rfl, rfl⟩
      simp only [List.cons_append, List.nil_append]
      refine l_yield (y_move rfl) rfl ?_
      refine l_yield (y_extract rfl rfl) rfl ?_
      refine l_yield (y_extract rfl rfl) rfl ?_
      refine l_yield (y_assign rfl) rfl ?_
      refine l_nil (a_then (w_seq (w_region ?_)))
      apply l_loud (by kernel_rfl) rfl
      apply ld_call (ct_Sort_nil hE) rfl (hE.f (by kernel_rfl))
      · ((repeat constructor); done)
      rintro _ _ ⟨rfl, rfl⟩
      simp only [List.cons_append, List.nil_append]
      refine l_yield (y_move rfl) rfl ?_
      refine l_yield (y_extract rfl rfl) rfl ?_
      refine l_yield (y_extract rfl rfl) rfl ?_
      refine l_yield (y_assign rfl) rfl ?_
      refine l_nil (a_then (w_seq (w_region ?_)))
      apply l_loud (by kernel_rfl) rfl
      apply ld_call (ct_HasPrefix_nil hE) rfl (hE.f (by kernel_rfl))
      · ((repeat constructor); done)
      rintro _ _ ⟨rfl, rfl⟩
      simp only [List.cons_append, List.nil_append]
      refine l_yield (y_move rfl) rfl ?_
      refine l_yield (y_extract rfl rfl) rfl ?_
      refine l_yield (y_extract rfl rfl) rfl ?_
      refine l_yield (y_assign rfl) rfl ?_
      refine l_nil (a_then (w_seq (w_region ?_)))
      apply l_loud (by kernel_rfl) rfl
      apply ld_call (ct_HasSuffix_nil hE) rfl (hE.f (by kernel_rfl))
      · ((repeat constructor); done)
      rintro _ _ ⟨rfl, rfl⟩
      simp only [List.cons_append, List.nil_append]
      refine l_yield (y_move rfl) rfl ?_
      refine l_yield (y_extract rfl rfl) rfl ?_
      refine l_yield (y_extract rfl rfl) rfl ?_
      refine l_yield (y_assign rfl) rfl ?_
      refine l_nil (a_then (w_seq (w_region ?_)))
      apply l_loud (by kernel_rfl) rfl
      apply ld_call (ct_Range_nil hE) rfl (hE.f (by kernel_rfl))
      · ((repeat constructor); done)
      rintro _ _ ⟨rfl, rfl⟩
      simp only [List.cons_append, List.nil_append]
      refine l_yield (y_move rfl) rfl ?_
      refine l_yield (y_extract rfl rfl) rfl ?_
      refine l_yield (y_extract rfl rfl) rfl ?_
      refine l_yield (y_extract rfl rfl) rfl ?_
      refine l_yield (y_assign rfl) rfl ?_
      refine l_nil (a_then (w_seq (w_seq (w_region ?_))))
      refine l_yield (y_move rfl) rfl ?_
      refine l_yield (y_move rfl) rfl ?_
      refine l_yield (y_move rfl) rfl ?_
      refine l_yield (y_move rfl) rfl ?_
      refine l_yield (y_move rfl) rfl ?_
      apply l_loud (by kernel_rfl) rfl
      refine ld_buildSlice (hE.t rfl) (hE.t rfl) rfl rfl rfl (fun b193 => ?_)
      refine l_yield (y_len_slice rfl (hE.t rfl)) rfl ?_
      refine l_yield (y_move rfl) rfl ?_
      refine l_nil (a_then (w_block ?_))
      skip
      refine w_loop (fun k : Nat => [(193, .slice (some ⟨b193, 0, none⟩) 5 5), (194, .int .i64 5), (195, .int .i64 (k : Nat))]) (fun k => [cells b193 (List.replicate 5 (.iface 34 (.int .i64 5))) 30, R]) (fun k => 5 - k) (fun k => k ≤ 5) 0 ?_ ?_ ?_ ?_
      · exact Nat.zero_le _
      · exact ⟨rfl, rfl, rfl, trivial⟩
      · (apply ent; (repeat constructor); done)
      intro k hk
      skip
      refine w_seq (w_region ?_)
      refine l_yield (y_lt rfl rfl) rfl ?_
      refine l_nil (a_then (w_seq ?_))
      refine w_cond_d rfl (fun hlq => ?_) (fun hlq => ?_)
      · skip
        have f0 : (List.replicate 5 (.iface 34 (.int .i64 5) : Value))[((k : Nat) : Int).toNat]? = some (.iface 34 (.int .i64 5) : Value) := rep_get6 (k := k) (by omega) _ (by omega)
        refine w_skip (a_then (w_seq (w_block (w_seq (w_region ?_)))))
        apply l_yield
        · (first | exact y_indexAddr1 rfl rfl (hE.t rfl) (by omega) (by omega) | exact y_indexAddr rfl rfl (hE.t rfl) (by omega) (by omega))
        · rfl
        apply l_yield
        · (first | (apply y_load rfl (hE.t rfl) rfl; (repeat (first | rfl | assumption | constructor)); done) | exact y_load_old rfl (hE.t rfl) rfl (by assumption) | (apply y_load_ro rfl (hE.t rfl) rfl; (focus ((repeat constructor); done)); (focus assumption)) | (apply y_load_q rfl (hE.t rfl) rfl (by assumption); (focus ((repeat constructor); done)); (first | ((focus exact f0); (focus omega)) | ((focus exact f1); (focus omega)) | ((focus assumption); (focus omega)))))
        · rfl
        refine l_yield (y_assign rfl) rfl ?_
        refine l_nil (a_then (w_seq (w_region ?_)))
        refine l_yield (y_move rfl) rfl ?_
        apply l_loud (by kernel_rfl) rfl
        apply ld_call (ct_Is hE (by decide)) rfl (hE.f (by kernel_rfl))
        · ((repeat constructor); done)
        rintro _ _ ⟨rfl, rfl⟩
        simp only [List.cons_append, List.nil_append]
        refine l_yield (y_not rfl) rfl ?_
        refine l_nil (a_then ?_)
        refine w_cond_f rfl ?_
        refine w_skip (a_block (a_then (w_region ?_)))
        refine l_yield (y_add rfl rfl (by omega) (by omega)) rfl ?_
        refine l_yield (y_move rfl) rfl ?_
        refine l_nil ?_
        refine wa_eq 195 (.int .i64 ((k + 1 : Nat) : Int)) rfl (int_eq (by omega)) ?_
        refine a_round (k + 1) (by omega) (by omega) ⟨rfl, rfl, rfl, trivial⟩ (by (apply ent; (repeat constructor); done))
      skip
      refine w_exit (a_then_exit (a_then_exit (a_block_exit (a_then (w_seq (w_region ?_))))))
      refine l_yield (y_assign rfl) rfl ?_
      refine l_nil (a_then (w_ret ?_))
      apply a_ret
      · rfl
      · (apply Rs.tmp rfl; exact Rs.nil)
      · exact ⟨rfl, rfl⟩
      · (apply ent; (repeat constructor); done)
    · skip
      obtain ⟨d', hd'⟩ : ∃ d' : Int, d' = d := ⟨_, rfl⟩
      have hd3 : ¬ (0 ≤ d' ∧ d' ≤ (M.length : Nat)) := by omega
      have hd2 : ¬ (0 ≤ d' ∧ d' ≤ ((rls M).length : Nat)) := by rw [rls_length]; exact hd3
      refine w_skip (a_then ?_)
      refine w_eq 1 (.int .i64 d') rfl (int_eq (by omega)) ?_
      refine w_seq (w_region ?_)
      refine l_yield (y_move rfl) rfl ?_
      refine l_yield (y_move rfl) rfl ?_
      apply l_yield
      · (first | exact y_indexAddr1 rfl rfl (hE.t rfl) (by omega) (by omega) | exact y_indexAddr rfl rfl (hE.t rfl) (by omega) (by omega))
      · rfl
      apply l_yield
      · (first | (apply y_load rfl (hE.t rfl) rfl; (repeat (first | rfl | assumption | constructor)); done) | exact y_load_old rfl (hE.t rfl) rfl (by assumption) | (apply y_load_ro rfl (hE.t rfl) rfl; (focus ((repeat constructor); done)); (focus assumption)) | (apply y_load_q rfl (hE.t rfl) rfl (by assumption); (focus ((repeat constructor); done)); (first | ((focus exact f0); (focus omega)) | ((focus exact f1); (focus omega)) | ((focus assumption); (focus omega)))))
      · rfl
      refine l_yield (y_move rfl) rfl ?_
      apply l_loud (by kernel_rfl) rfl
      apply ld_call (ct_Compare_bad hE hB pp s tb 1048576 M (bad_snd gx hd2)) rfl (hE.f (by kernel_rfl))
      · ((repeat constructor); done)
      rintro _ _ ⟨rfl, rfl⟩
      simp only [List.cons_append, List.nil_append]
      refine l_yield (y_move rfl) rfl ?_
      refine l_yield (y_extract rfl rfl) rfl ?_
      refine l_yield (y_extract rfl rfl) rfl ?_
      refine l_yield (y_assign rfl) rfl ?_
      refine l_yield (y_assign rfl) rfl ?_
      refine l_nil (a_then (w_seq (w_region ?_)))
      refine l_yield (y_move rfl) rfl ?_
      refine l_yield (y_move rfl) rfl ?_
      apply l_yield
      · (first | exact y_indexAddr1 rfl rfl (hE.t rfl) (by omega) (by omega) | exact y_indexAddr rfl rfl (hE.t rfl) (by omega) (by omega))
      · rfl
      apply l_yield
      · (first | (apply y_load rfl (hE.t rfl) rfl; (repeat (first | rfl | assumption | constructor)); done) | exact y_load_old rfl (hE.t rfl) rfl (by assumption) | (apply y_load_ro rfl (hE.t rfl) rfl; (focus ((repeat constructor); done)); (focus assumption)) | (apply y_load_q rfl (hE.t rfl) rfl (by assumption); (focus ((repeat constructor); done)); (first | ((focus exact f0); (focus omega)) | ((focus exact f1); (focus omega)) | ((focus assumption); (focus omega)))))
      · rfl
      refine l_yield (y_move rfl) rfl ?_
      apply l_loud (by kernel_rfl) rfl
      refine ld_buildSlice (hE.t rfl) (hE.t rfl) rfl rfl rfl (fun b79 => ?_)
      apply l_loud (by kernel_rfl) rfl
      apply ld_call (ct_Sort_bad hE hB pp s tb 1048576 M (bad_snd gx hd2)) rfl (hE.f (by kernel_rfl))
      · ((repeat constructor); done)
      rintro _ _ ⟨rfl, rfl⟩
      simp only [List.cons_append, List.nil_append]
      refine l_yield (y_move rfl) rfl ?_
      refine l_yield (y_extract rfl rfl) rfl ?_
      refine l_yield (y_extract rfl rfl) rfl ?_
      refine l_yield (y_assign rfl) rfl ?_
      refine l_yield (y_assign rfl) rfl ?_
      refine l_nil (a_then ?_)
      refine w_seq ?_
      refine w_held ([sl (some ⟨g, 0, none⟩) c 23 1 [x].length (idC [x])]) ?_ ?_
      · (apply ent; (repeat constructor); done)
      apply d_take 0 rfl
      · exact y_move rfl
      · with_reducible (repeat (first | exact calm_body | apply calm_then | apply calm_block))
      · kernel_rfl
      · rfl
      apply d_take 1 rfl
      · exact y_move rfl
      · with_reducible (repeat (first | exact calm_body | apply calm_then | apply calm_block))
      · kernel_rfl
      · rfl
      apply d_take 2 rfl
      · (first | exact y_indexAddr1 rfl rfl (hE.t rfl) (by omega) (by omega) | exact y_indexAddr rfl rfl (hE.t rfl) (by omega) (by omega))
      · with_reducible (repeat (first | exact calm_body | apply calm_then | apply calm_block))
      · kernel_rfl
      · rfl
      apply d_take 3 rfl
      · (first | (apply y_load rfl (hE.t rfl) rfl; (repeat (first | rfl | assumption | constructor)); done) | exact y_load_old rfl (hE.t rfl) rfl (by assumption) | (apply y_load_ro rfl (hE.t rfl) rfl; (focus ((repeat constructor); done)); (focus assumption)) | (apply y_load_q rfl (hE.t rfl) rfl (by assumption); (focus ((repeat constructor); done)); (first | ((focus exact f0); (focus omega)) | ((focus exact f1); (focus omega)) | ((focus assumption); (focus omega)))))
      · with_reducible (repeat (first | exact calm_body | apply calm_then | apply calm_block))
      · kernel_rfl
      · rfl
      apply d_take 4 rfl
      · exact y_move rfl
      · with_reducible (repeat (first | exact calm_body | apply calm_then | apply calm_block))
      · kernel_rfl
      · rfl
      apply d_take 6 rfl
      · exact y_move rfl
      · with_reducible (repeat (first | exact calm_body | apply calm_then | apply calm_block))
      · kernel_rfl
      · rfl
      apply d_take 7 rfl
      · (first | exact y_indexAddr1 rfl rfl (hE.t rfl) (by omega) (by omega) | exact y_indexAddr rfl rfl (hE.t rfl) (by omega) (by omega))
      · with_reducible (repeat (first | exact calm_body | apply calm_then | apply calm_block))
      · kernel_rfl
      · rfl
      apply d_take 8 rfl
      · (first | (apply y_load rfl (hE.t rfl) rfl; (repeat (first | rfl | assumption | constructor)); done) | exact y_load_old rfl (hE.t rfl) rfl (by assumption) | (apply y_load_ro rfl (hE.t rfl) rfl; (focus ((repeat constructor); done)); (focus assumption)) | (apply y_load_q rfl (hE.t rfl) rfl (by assumption); (focus ((repeat constructor); done)); (first | ((focus exact f0); (focus omega)) | ((focus exact f1); (focus omega)) | ((focus assumption); (focus omega)))))
      · with_reducible (repeat (first | exact calm_body | apply calm_then | apply calm_block))
      · kernel_rfl
      · rfl
      apply d_loud 5 rfl (by kernel_rfl) rfl
      refine ld_buildSlice (hE.t rfl) (hE.t rfl) rfl rfl rfl (fun b89 => ?_)
      refine ⟨by (apply ent; (repeat constructor); done), ?_⟩
      apply d_loud 9 rfl (by kernel_rfl) rfl
      apply ld_call (ct_Search_bad hE hB pp s tb 1048576 M (bad_snd gx hd2)) rfl (hE.f (by kernel_rfl))
      · ((repeat constructor); done)
      rintro _ _ ⟨rfl, rfl⟩
      simp only [List.cons_append, List.nil_append]
      refine ⟨by (apply ent; (repeat constructor); done), ?_⟩
      apply d_take 10 rfl
      · exact y_move rfl
      · with_reducible (repeat (first | exact calm_body | apply calm_then | apply calm_block))
      · kernel_rfl
      · rfl
      apply d_take 11 rfl
      · exact y_extract rfl rfl
      · with_reducible (repeat (first | exact calm_body | apply calm_then | apply calm_block))
      · kernel_rfl
      · rfl
      apply d_take 12 rfl
      · exact y_extract rfl rfl
      · with_reducible (repeat (first | exact calm_body | apply calm_then | apply calm_block))
      · kernel_rfl
      · rfl
      apply d_take 13 rfl
      · exact y_extract rfl rfl
      · with_reducible (repeat (first | exact calm_body | apply calm_then | apply calm_block))
      · kernel_rfl
      · rfl
      apply d_take 14 rfl
      · exact y_assign rfl
      · with_reducible (repeat (first | exact calm_body | apply calm_then | apply calm_block))
      · kernel_rfl
      · rfl
      apply d_take 15 rfl
      · exact y_assign rfl
      · with_reducible (repeat (first | exact calm_body | apply calm_then | apply calm_block))
      · kernel_rfl
      · rfl
      apply d_take 16 rfl
      · exact y_assign rfl
      · with_reducible (repeat (first | exact calm_body | apply calm_then | apply calm_block))
      · kernel_rfl
      · rfl
      refine d_nil (by kernel_rfl) ?_
      refine a_then (w_seq (w_region ?_))
      refine l_yield (y_move rfl) rfl ?_
      refine l_yield (y_move rfl) rfl ?_
      refine l_yield (y_move rfl) rfl ?_
      apply l_yield
      · (first | exact y_indexAddr1 rfl rfl (hE.t rfl) (by omega) (by omega) | exact y_indexAddr rfl rfl (hE.t rfl) (by omega) (by omega))
      · rfl
      apply l_yield
      · (first | (apply y_load rfl (hE.t rfl) rfl; (repeat (first | rfl | assumption | constructor)); done) | exact y_load_old rfl (hE.t rfl) rfl (by assumption) | (apply y_load_ro rfl (hE.t rfl) rfl; (focus ((repeat constructor); done)); (focus assumption)) | (apply y_load_q rfl (hE.t rfl) rfl (by assumption); (focus ((repeat constructor); done)); (first | ((focus exact f0); (focus omega)) | ((focus exact f1); (focus omega)) | ((focus assumption); (focus omega)))))
      · rfl
      apply l_loud (by kernel_rfl) rfl
      apply ld_call (ct_HasPrefix_bad hE hB pp s tb 1048576 M (bad_fst (x := x) hd2)) rfl (hE.f (by kernel_rfl))
      · ((repeat constructor); done)
      rintro _ _ ⟨rfl, rfl⟩
      simp only [List.cons_append, List.nil_append]
      refine l_yield (y_move rfl) rfl ?_
      refine l_yield (y_extract rfl rfl) rfl ?_
      refine l_yield (y_extract rfl rfl) rfl ?_
      refine l_yield (y_assign rfl) rfl ?_
      refine l_yield (y_assign rfl) rfl ?_
      refine l_nil (a_then (w_seq (w_region ?_)))
      refine l_yield (y_move rfl) rfl ?_
      refine l_yield (y_move rfl) rfl ?_
      apply l_yield
      · (first | exact y_indexAddr1 rfl rfl (hE.t rfl) (by omega) (by omega) | exact y_indexAddr rfl rfl (hE.t rfl) (by omega) (by omega))
      · rfl
      apply l_yield
      · (first | (apply y_load rfl (hE.t rfl) rfl; (repeat (first | rfl | assumption | constructor)); done) | exact y_load_old rfl (hE.t rfl) rfl (by assumption) | (apply y_load_ro rfl (hE.t rfl) rfl; (focus ((repeat constructor); done)); (focus assumption)) | (apply y_load_q rfl (hE.t rfl) rfl (by assumption); (focus ((repeat constructor); done)); (first | ((focus exact f0); (focus omega)) | ((focus exact f1); (focus omega)) | ((focus assumption); (focus omega)))))
      · rfl
      refine l_yield (y_move rfl) rfl ?_
      apply l_loud (by kernel_rfl) rfl
      apply ld_call (ct_HasSuffix_bad hE hB pp s tb 1048576 M (bad_snd gx hd2)) rfl (hE.f (by kernel_rfl))
      · ((repeat constructor); done)
      rintro _ _ ⟨rfl, rfl⟩
      simp only [List.cons_append, List.nil_append]
      refine l_yield (y_move rfl) rfl ?_
      refine l_yield (y_extract rfl rfl) rfl ?_
      refine l_yield (y_extract rfl rfl) rfl ?_
      refine l_yield (y_assign rfl) rfl ?_
      refine l_yield (y_assign rfl) rfl ?_
      refine l_nil (a_then (w_seq (w_region ?_)))
      refine l_yield (y_move rfl) rfl ?_
      refine l_yield (y_move rfl) rfl ?_
      refine l_yield (y_move rfl) rfl ?_
      apply l_loud (by kernel_rfl) rfl
      apply ld_call (ct_Range_bad hE hB pp s tb 1048576 M gx hd3) rfl (hE.f (by kernel_rfl))
      · ((repeat constructor); done)
      rintro _ _ ⟨rfl, rfl⟩
      simp only [List.cons_append, List.nil_append]
      refine l_yield (y_move rfl) rfl ?_
      refine l_yield (y_extract rfl rfl) rfl ?_
      refine l_yield (y_extract rfl rfl) rfl ?_
      refine l_yield (y_extract rfl rfl) rfl ?_
      refine l_yield (y_assign rfl) rfl ?_
      refine l_yield (y_assign rfl) rfl ?_
      refine l_yield (y_assign rfl) rfl ?_
      refine l_nil (a_then (w_seq (w_seq (w_region ?_))))
      refine l_yield (y_move rfl) rfl ?_
      refine l_yield (y_ne rfl rfl) rfl ?_
      refine l_yield (y_move rfl) rfl ?_
      skip
      refine l_on rfl rfl ?_
      refine l_yield (y_move rfl) rfl ?_
      refine l_on rfl rfl ?_
      refine l_yield (y_len_slice rfl (hE.t rfl)) rfl ?_
      refine l_on rfl rfl ?_
      refine l_yield (y_ne rfl rfl) rfl ?_
      apply l_yield
      · (first | exact y_pick_t rfl rfl | exact y_pick_f rfl rfl)
      · rfl
      refine l_yield (y_move rfl) rfl ?_
      skip
      refine l_on rfl rfl ?_
      refine l_yield (y_move rfl) rfl ?_
      refine l_on rfl rfl ?_
      refine l_yield (y_ne rfl rfl) rfl ?_
      apply l_yield
      · (first | exact y_pick_t rfl rfl | exact y_pick_f rfl rfl)
      · rfl
      refine l_yield (y_move rfl) rfl ?_
      skip
      refine l_on rfl rfl ?_
      refine l_yield (y_move rfl) rfl ?_
      apply l_yield
      · (first | exact y_pick_t rfl rfl | exact y_pick_f rfl rfl)
      · rfl
      refine l_yield (y_move rfl) rfl ?_
      skip
      refine l_on rfl rfl ?_
      refine l_yield (y_move rfl) rfl ?_
      apply l_yield
      · (first | exact y_pick_t rfl rfl | exact y_pick_f rfl rfl)
      · rfl
      refine l_yield (y_move rfl) rfl ?_
      skip
      refine l_on rfl rfl ?_
      refine l_yield (y_move rfl) rfl ?_
      apply l_yield
      · (first | exact y_pick_t rfl rfl | exact y_pick_f rfl rfl)
      · rfl
      refine l_yield (y_move rfl) rfl ?_
      skip
      refine l_on rfl rfl ?_
      refine l_yield (y_move rfl) rfl ?_
      refine l_on rfl rfl ?_
      refine l_yield (y_ne rfl rfl) rfl ?_
      apply l_yield
      · (first | exact y_pick_t rfl rfl | exact y_pick_f rfl rfl)
      · rfl
      refine l_yield (y_move rfl) rfl ?_
      skip
      refine l_on rfl rfl ?_
      refine l_yield (y_move rfl) rfl ?_
      refine l_on rfl rfl ?_
      refine l_yield (y_ne rfl rfl) rfl ?_
      apply l_yield
      · (first | exact y_pick_t rfl rfl | exact y_pick_f rfl rfl)
      · rfl
      refine l_nil (a_then ?_)
      refine w_cond_f rfl ?_
      refine w_skip (a_then (w_seq (w_seq (w_region ?_))))
      refine l_yield (y_move rfl) rfl ?_
      refine l_yield (y_move rfl) rfl ?_
      refine l_yield (y_move rfl) rfl ?_
      refine l_yield (y_move rfl) rfl ?_
      refine l_yield (y_move rfl) rfl ?_
      refine l_yield (y_move rfl) rfl ?_
      apply l_loud (by kernel_rfl) rfl
      refine ld_buildSlice (hE.t rfl) (hE.t rfl) rfl rfl rfl (fun b157 => ?_)
      refine l_yield (y_len_slice rfl (hE.t rfl)) rfl ?_
      refine l_yield (y_move rfl) rfl ?_
      refine l_nil (a_then (w_block ?_))
      skip
      refine w_loop (fun k : Nat => [(157, .slice (some ⟨b157, 0, none⟩) 6 6), (158, .int .i64 6), (159, .int .i64 (k : Nat))]) (fun k => [cells b157 (List.replicate 6 (.iface 34 (.int .i64 1))) 30, R]) (fun k => 6 - k) (fun k => k ≤ 6) 0 ?_ ?_ ?_ ?_
      · exact Nat.zero_le _
      · exact ⟨rfl, rfl, rfl, trivial⟩
      · (apply ent; (repeat constructor); done)
      intro k hk
      skip
      refine w_seq (w_region ?_)
      refine l_yield (y_lt rfl rfl) rfl ?_
      refine l_nil (a_then (w_seq ?_))
      refine w_cond_d rfl (fun hlp => ?_) (fun hlp => ?_)
      · skip
        have f0 : (List.replicate 6 (.iface 34 (.int .i64 1) : Value))[((k : Nat) : Int).toNat]? = some (.iface 34 (.int .i64 1) : Value) := rep_get6 (k := k) (by omega) _ (by omega)
        refine w_skip (a_then (w_seq (w_block (w_seq (w_region ?_)))))
        apply l_yield
        · (first | exact y_indexAddr1 rfl rfl (hE.t rfl) (by omega) (by omega) | exact y_indexAddr rfl rfl (hE.t rfl) (by omega) (by omega))
        · rfl
        apply l_yield
        · (first | (apply y_load rfl (hE.t rfl) rfl; (repeat (first | rfl | assumption | constructor)); done) | exact y_load_old rfl (hE.t rfl) rfl (by assumption) | (apply y_load_ro rfl (hE.t rfl) rfl; (focus ((repeat constructor); done)); (focus assumption)) | (apply y_load_q rfl (hE.t rfl) rfl (by assumption); (focus ((repeat constructor); done)); (first | ((focus exact f0); (focus omega)) | ((focus exact f1); (focus omega)) | ((focus assumption); (focus omega)))))
        · rfl
        refine l_yield (y_assign rfl) rfl ?_
        refine l_nil (a_then (w_seq (w_region ?_)))
        refine l_yield (y_move rfl) rfl ?_
        apply l_loud (by kernel_rfl) rfl
        apply ld_call (ct_Is hE (by decide)) rfl (hE.f (by kernel_rfl))
        · ((repeat constructor); done)
        rintro _ _ ⟨rfl, rfl⟩
        simp only [List.cons_append, List.nil_append]
        refine l_yield (y_not rfl) rfl ?_
        refine l_nil (a_then ?_)
        refine w_cond_f rfl ?_
        refine w_skip (a_block (a_then (w_region ?_)))
        refine l_yield (y_add rfl rfl (by omega) (by omega)) rfl ?_
        refine l_yield (y_move rfl) rfl ?_
        refine l_nil ?_
        refine wa_eq 159 (.int .i64 ((k + 1 : Nat) : Int)) rfl (int_eq (by omega)) ?_
        refine a_round (k + 1) (by omega) (by omega) ⟨rfl, rfl, rfl, trivial⟩ (by (apply ent; (repeat constructor); done))
      skip
      refine w_exit (a_then_exit (a_then_exit (a_block_exit (a_then (w_seq (w_region ?_))))))
      apply l_loud (by kernel_rfl) rfl
      apply ld_call (ct_Compare_nil hE) rfl (hE.f (by kernel_rfl))
      · ((repeat constructor); done)
      rintro _ _ ⟨rfl, rfl⟩
      simp only [List.cons_append, List.nil_append]
      refine l_yield (y_move rfl) rfl ?_
      refine l_yield (y_extract rfl rfl) rfl ?_
      refine l_yield (y_extract rfl rfl) rfl ?_
      refine l_yield (y_assign rfl) rfl ?_
      refine l_nil (a_then (w_seq (w_region ?_)))
      apply l_loud (by kernel_rfl) rfl
      apply ld_call (ct_Sort_nil hE) rfl (hE.f (by kernel_rfl))
      · ((repeat constructor); done)
      rintro _ _ ⟨rfl, rfl⟩
      simp only [List.cons_append, List.nil_append]
      refine l_yield (y_move rfl) rfl ?_
      refine l_yield (y_extract rfl rfl) rfl ?_
      refine l_yield (y_extract rfl rfl) rfl ?_
      refine l_yield (y_assign rfl) rfl ?_
      refine l_nil (a_then (w_seq (w_region ?_)))
      apply l_loud (by kernel_rfl) rfl
      apply ld_call (ct_HasPrefix_nil hE) rfl (hE.f (by kernel_rfl))
      · ((repeat constructor); done)
      rintro _ _ ⟨rfl, rfl⟩
      simp only [List.cons_append, List.nil_append]
      refine l_yield (y_move rfl) rfl ?_
      refine l_yield (y_extract rfl rfl) rfl ?_
      refine l_yield (y_extract rfl rfl) rfl ?_
      refine l_yield (y_assign rfl) rfl ?_
      refine l_nil (a_then (w_seq (w_region ?_)))
      apply l_loud (by kernel_rfl) rfl
      apply ld_call (ct_HasSuffix_nil hE) rfl (hE.f (by kernel_rfl))
      · ((repeat constructor); done)
      rintro _ _ ⟨rfl, rfl⟩
      simp only [List.cons_append, List.nil_append]
      refine l_yield (y_move rfl) rfl ?_
      refine l_yield (y_extract rfl rfl) rfl ?_
      refine l_yield (y_extract rfl rfl) rfl ?_
      refine l_yield (y_assign rfl) rfl ?_
      refine l_nil (a_then (w_seq (w_region ?_)))
      apply l_loud (by kernel_rfl) rfl
      apply ld_call (ct_Range_nil hE) rfl (hE.f (by kernel_rfl))
      · ((repeat constructor); done)
      rintro _ _ ⟨rfl, rfl⟩
      simp only [List.cons_append, List.nil_append]
      refine l_yield (y_move rfl) rfl ?_
      refine l_yield (y_extract rfl rfl) rfl ?_
      refine l_yield (y_extract rfl rfl) rfl ?_
      refine l_yield (y_extract rfl rfl) rfl ?_
      refine l_yield (y_assign rfl) rfl ?_
      refine l_nil (a_then (w_seq (w_seq (w_region ?_))))
      refine l_yield (y_move rfl) rfl ?_
      refine l_yield (y_move rfl) rfl ?_
      refine l_yield (y_move rfl) rfl ?_
      refine l_yield (y_move rfl) rfl ?_
      refine l_yield (y_move rfl) rfl ?_
      apply l_loud (by kernel_rfl) rfl
      refine ld_buildSlice (hE.t rfl) (hE.t rfl) rfl rfl rfl (fun b193 => ?_)
      refine l_yield (y_len_slice rfl (hE.t rfl)) rfl ?_
      refine l_yield (y_move rfl) rfl ?_
      refine l_nil (a_then (w_block ?_))
      skip
      refine w_loop (fun k : Nat => [(193, .slice (some ⟨b193, 0, none⟩) 5 5), (194, .int .i64 5), (195, .int .i64 (k : Nat))]) (fun k => [cells b193 (List.replicate 5 (.iface 34 (.int .i64 5))) 30, R]) (fun k => 5 - k) (fun k => k ≤ 5) 0 ?_ ?_ ?_ ?_
      · exact Nat.zero_le _
      · exact ⟨rfl, rfl, rfl, trivial⟩
      · (apply ent; (repeat constructor); done)
      intro k hk
      skip
      refine w_seq (w_region ?_)
      refine l_yield (y_lt rfl rfl) rfl ?_
      refine l_nil (a_then (w_seq ?_))
      refine w_cond_d rfl (fun hlq => ?_) (fun hlq => ?_)
      · skip
        have f0 : (List.replicate 5 (.iface 34 (.int .i64 5) : Value))[((k : Nat) : Int).toNat]? = some (.iface 34 (.int .i64 5) : Value) := rep_get6 (k := k) (by omega) _ (by omega)
        refine w_skip (a_then (w_seq (w_block (w_seq (w_region ?_)))))
        apply l_yield
        · (first | exact y_indexAddr1 rfl rfl (hE.t rfl) (by omega) (by omega) | exact y_indexAddr rfl rfl (hE.t rfl) (by omega) (by omega))
        · rfl
        apply l_yield
        · (first | (apply y_load rfl (hE.t rfl) rfl; (repeat (first | rfl | assumption | constructor)); done) | exact y_load_old rfl (hE.t rfl) rfl (by assumption) | (apply y_load_ro rfl (hE.t rfl) rfl; (focus ((repeat constructor); done)); (focus assumption)) | (apply y_load_q rfl (hE.t rfl) rfl (by assumption); (focus ((repeat constructor); done)); (first | ((focus exact f0); (focus omega)) | ((focus exact f1); (focus omega)) | ((focus assumption); (focus omega)))))
        · rfl
        refine l_yield (y_assign rfl) rfl ?_
        refine l_nil (a_then (w_seq (w_region ?_)))
        refine l_yield (y_move rfl) rfl ?_
        apply l_loud (by kernel_rfl) rfl
        apply ld_call (ct_Is hE (by decide)) rfl (hE.f (by kernel_rfl))
        · ((repeat constructor); done)
        rintro _ _ ⟨rfl, rfl⟩
        simp only [List.cons_append, List.nil_append]
        refine l_yield (y_not rfl) rfl ?_
        refine l_nil (a_then ?_)
        refine w_cond_f rfl ?_
        refine w_skip (a_block (a_then (w_region ?_)))
        refine l_yield (y_add rfl rfl (by omega) (by omega)) rfl ?_
        refine l_yield (y_move rfl) rfl ?_
        refine l_nil ?_
        refine wa_eq 195 (.int .i64 ((k + 1 : Nat) : Int)) rfl (int_eq (by omega)) ?_
        refine a_round (k + 1) (by omega) (by omega) ⟨rfl, rfl, rfl, trivial⟩ (by (apply ent; (repeat constructor); done))
      skip
      refine w_exit (a_then_exit (a_then_exit (a_block_exit (a_then (w_seq (w_region ?_))))))
      refine l_yield (y_assign rfl) rfl ?_
      refine l_nil (a_then (w_ret ?_))
      apply a_ret
      · rfl
      · (apply Rs.tmp rfl; exact Rs.nil)
      · exact ⟨rfl, rfl⟩
      · (apply ent; (repeat constructor); done)
  · skip
    obtain ⟨d', hd'⟩ : ∃ d' : Int, d' = d := ⟨_, rfl⟩
    have hd3 : ¬ (0 ≤ d' ∧ d' ≤ (M.length : Nat)) := by omega
    have hd2 : ¬ (0 ≤ d' ∧ d' ≤ ((rls M).length : Nat)) := by rw [rls_length]; exact hd3
    refine l_off rfl rfl rfl rfl (l_off rfl rfl rfl rfl (l_off rfl rfl rfl rfl (l_off rfl rfl rfl rfl (l_off rfl rfl rfl rfl ?_))))
    apply l_yield
    · (first | exact y_pick_t rfl rfl | exact y_pick_f rfl rfl)
    · rfl
    refine l_nil (a_then ?_)
    refine w_cond_f rfl ?_
    refine w_skip (a_then ?_)
    refine w_eq 1 (.int .i64 d') rfl (int_eq (by omega)) ?_
    refine w_seq (w_region ?_)
    refine l_yield (y_move rfl) rfl ?_
    refine l_yield (y_move rfl) rfl ?_
    apply l_yield
    · (first | exact y_indexAddr1 rfl rfl (hE.t rfl) (by omega) (by omega) | exact y_indexAddr rfl rfl (hE.t rfl) (by omega) (by omega))
    · rfl
    apply l_yield
    · (first | (apply y_load rfl (hE.t rfl) rfl; (repeat (first | rfl | assumption | constructor)); done) | exact y_load_old rfl (hE.t rfl) rfl (by assumption) | (apply y_load_ro rfl (hE.t rfl) rfl; (focus ((repeat constructor); done)); (focus assumption)) | (apply y_load_q rfl (hE.t rfl) rfl (by assumption); (focus ((repeat constructor); done)); (first | ((focus exact f0); (focus omega)) | ((focus exact f1); (focus omega)) | ((focus assumption); (focus omega)))))
    · rfl
    refine l_yield (y_move rfl) rfl ?_
    apply l_loud (by kernel_rfl) rfl
    apply ld_call (ct_Compare_bad hE hB pp s tb 1048576 M (bad_snd gx hd2)) rfl (hE.f (by kernel_rfl))
    · ((repeat constructor); done)
    rintro _ _ ⟨rfl, rfl⟩
    simp only [List.cons_append, List.nil_append]
    refine l_yield (y_move rfl) rfl ?_
    refine l_yield (y_extract rfl rfl) rfl ?_
    refine l_yield (y_extract rfl rfl) rfl ?_
    refine l_yield (y_assign rfl) rfl ?_
    refine l_yield (y_assign rfl) rfl ?_
    refine l_nil (a_then (w_seq (w_region ?_)))
    refine l_yield (y_move rfl) rfl ?_
    refine l_yield (y_move rfl) rfl ?_
    apply l_yield
    · (first | exact y_indexAddr1 rfl rfl (hE.t rfl) (by omega) (by omega) | exact y_indexAddr rfl rfl (hE.t rfl) (by omega) (by omega))
    · rfl
    apply l_yield
    · (first | (apply y_load rfl (hE.t rfl) rfl; (repeat (first | rfl | assumption | constructor)); done) | exact y_load_old rfl (hE.t rfl) rfl (by assumption) | (apply y_load_ro rfl (hE.t rfl) rfl; (focus ((repeat constructor); done)); (focus assumption)) | (apply y_load_q rfl (hE.t rfl) rfl (by assumption); (focus ((repeat constructor); done)); (first | ((focus exact f0); (focus omega)) | ((focus exact f1); (focus omega)) | ((focus assumption); (focus omega)))))
    · rfl
    refine l_yield (y_move rfl) rfl ?_
    apply l_loud (by kernel_rfl) rfl
    refine ld_buildSlice (hE.t rfl) (hE.t rfl) rfl rfl rfl (fun b79 => ?_)
    apply l_loud (by kernel_rfl) rfl
    apply ld_call (ct_Sort_bad hE hB pp s tb 1048576 M (bad_snd gx hd2)) rfl (hE.f (by kernel_rfl))
    · ((repeat constructor); done)
    rintro _ _ ⟨rfl, rfl⟩
    simp only [List.cons_append, List.nil_append]
    refine l_yield (y_move rfl) rfl ?_
    refine l_yield (y_extract rfl rfl) rfl ?_
    refine l_yield (y_extract rfl rfl) rfl ?_
    refine l_yield (y_assign rfl) rfl ?_
    refine l_yield (y_assign rfl) rfl ?_
    refine l_nil (a_then ?_)
    refine w_seq ?_
    refine w_held ([sl (some ⟨g, 0, none⟩) c 23 1 [x].length (idC [x])]) ?_ ?_
    · (apply ent; (repeat constructor); done)
    apply d_take 0 rfl
    · exact y_move rfl
    · with_reducible (repeat (first | exact calm_body | apply calm_then | apply calm_block))
    · kernel_rfl
    · rfl
    apply d_take 1 rfl
    · exact y_move rfl
    · with_reducible (repeat (first | exact calm_body | apply calm_then | apply calm_block))
    · kernel_rfl
    · rfl
    apply d_take 2 rfl
    · (first | exact y_indexAddr1 rfl rfl (hE.t rfl) (by omega) (by omega) | exact y_indexAddr rfl rfl (hE.t rfl) (by omega) (by omega))
    · with_reducible (repeat (first | exact calm_body | apply calm_then | apply calm_block))
    · kernel_rfl
    · rfl
    apply d_take 3 rfl
    · (first | (apply y_load rfl (hE.t rfl) rfl; (repeat (first | rfl | assumption | constructor)); done) | exact y_load_old rfl (hE.t rfl) rfl (by assumption) | (apply y_load_ro rfl (hE.t rfl) rfl; (focus ((repeat constructor); done)); (focus assumption)) | (apply y_load_q rfl (hE.t rfl) rfl (by assumption); (focus ((repeat constructor); done)); (first | ((focus exact f0); (focus omega)) | ((focus exact f1); (focus omega)) | ((focus assumption); (focus omega)))))
    · with_reducible (repeat (first | exact calm_body | apply calm_then | apply calm_block))
    · kernel_rfl
    · rfl
    apply d_take 4 rfl
    · exact y_move rfl
    · with_reducible (repeat (first | exact calm_body | apply calm_then | apply calm_block))
    · kernel_rfl
    · rfl
    apply d_take 6 rfl
    · exact y_move rfl
    · with_reducible (repeat (first | exact calm_body | apply calm_then | apply calm_block))
    · kernel_rfl
    · rfl
    apply d_take 7 rfl
    · (first | exact y_indexAddr1 rfl rfl (hE.t rfl) (by omega) (by omega) | exact y_indexAddr rfl rfl (hE.t rfl) (by omega) (by omega))
    · with_reducible (repeat (first | exact calm_body | apply calm_then | apply calm_block))
    · kernel_rfl
    · rfl
    apply d_take 8 rfl
    · (first | (apply y_load rfl (hE.t rfl) rfl; (repeat (first | rfl | assumption | constructor)); done) | exact y_load_old rfl (hE.t rfl) rfl (by assumption) | (apply y_load_ro rfl (hE.t rfl) rfl; (focus ((repeat constructor); done)); (focus assumption)) | (apply y_load_q rfl (hE.t rfl) rfl (by assumption); (focus ((repeat constructor); done)); (first | ((focus exact f0); (focus omega)) | ((focus exact f1); (focus omega)) | ((focus assumption); (focus omega)))))
    · with_reducible (repeat (first | exact calm_body | apply calm_then | apply calm_block))
    · kernel_rfl
    · rfl
    apply d_loud 5 rfl (by kernel_rfl) rfl
    refine ld_buildSlice (hE.t rfl) (hE.t rfl) rfl rfl rfl (fun b89 => ?_)
    refine ⟨by (apply ent; (repeat constructor); done), ?_⟩
    apply d_loud 9 rfl (by kernel_rfl) rfl
    apply ld_call (ct_Search_bad hE hB pp s tb 1048576 M (bad_snd gx hd2)) rfl (hE.f (by kernel_rfl))
    · ((repeat constructor); done)
    rintro _ _ ⟨rfl, rfl⟩
    simp only [List.cons_append, List.nil_append]
    refine ⟨by (apply ent; (repeat constructor); done), ?_⟩
    apply d_take 10 rfl
    · exact y_move rfl
    · with_reducible (repeat (first | exact calm_body | apply calm_then | apply calm_block))
    · kernel_rfl
    · rfl
    apply d_take 11 rfl
    · exact y_extract rfl rfl
    · with_reducible (repeat (first | exact calm_body | apply calm_then | apply calm_block))
    · kernel_rfl
    · rfl
    apply d_take 12 rfl
    · exact y_extract rfl rfl
    · with_reducible (repeat (first | exact calm_body | apply calm_then | apply calm_block))
    · kernel_rfl
    · rfl
    apply d_take 13 rfl
    · exact y_extract rfl rfl
    · with_reducible (repeat (first | exact calm_body | apply calm_then | apply calm_block))
    · kernel_rfl
    · rfl
    apply d_take 14 rfl
    · exact y_assign rfl
    · with_reducible (repeat (first | exact calm_body | apply calm_then | apply calm_block))
    · kernel_rfl
    · rfl
    apply d_take 15 rfl
    · exact y_assign rfl
    · with_reducible (repeat (first | exact calm_body | apply calm_then | apply calm_block))
    · kernel_rfl
    · rfl
    apply d_take 16 rfl
    · exact y_assign rfl
    · with_reducible (repeat (first | exact calm_body | apply calm_then | apply calm_block))
    · kernel_rfl
    · rfl
    refine d_nil (by kernel_rfl) ?_
    refine a_then (w_seq (w_region ?_))
    refine l_yield (y_move rfl) rfl ?_
    refine l_yield (y_move rfl) rfl ?_
    refine l_yield (y_move rfl) rfl ?_
    apply l_yield
    · (first | exact y_indexAddr1 rfl rfl (hE.t rfl) (by omega) (by omega) | exact y_indexAddr rfl rfl (hE.t rfl) (by omega) (by omega))
    · rfl
    apply l_yield
    · (first | (apply y_load rfl (hE.t rfl) rfl; (repeat (first | rfl | assumption | constructor)); done) | exact y_load_old rfl (hE.t rfl) rfl (by assumption) | (apply y_load_ro rfl (hE.t rfl) rfl; (focus ((repeat constructor); done)); (focus assumption)) | (apply y_load_q rfl (hE.t rfl) rfl (by assumption); (focus ((repeat constructor); done)); (first | ((focus exact f0); (focus omega)) | ((focus exact f1); (focus omega)) | ((focus assumption); (focus omega)))))
    · rfl
    apply l_loud (by kernel_rfl) rfl
    apply ld_call (ct_HasPrefix_bad hE hB pp s tb 1048576 M (bad_fst (x := x) hd2)) rfl (hE.f (by kernel_rfl))
    · ((repeat constructor); done)
    rintro _ _ ⟨rfl, rfl⟩
    simp only [List.cons_append, List.nil_append]
    refine l_yield (y_move rfl) rfl ?_
    refine l_yield (y_extract rfl rfl) rfl ?_
    refine l_yield (y_extract rfl rfl) rfl ?_
    refine l_yield (y_assign rfl) rfl ?_
    refine l_yield (y_assign rfl) rfl ?_
    refine l_nil (a_then (w_seq (w_region ?_)))
    refine l_yield (y_move rfl) rfl ?_
    refine l_yield (y_move rfl) rfl ?_
    apply l_yield
    · (first | exact y_indexAddr1 rfl rfl (hE.t rfl) (by omega) (by omega) | exact y_indexAddr rfl rfl (hE.t rfl) (by omega) (by omega))
    · rfl
    apply l_yield
    · (first | (apply y_load rfl (hE.t rfl) rfl; (repeat (first | rfl | assumption | constructor)); done) | exact y_load_old rfl (hE.t rfl) rfl (by assumption) | (apply y_load_ro rfl (hE.t rfl) rfl; (focus ((repeat constructor); done)); (focus assumption)) | (apply y_load_q rfl (hE.t rfl) rfl (by assumption); (focus ((repeat constructor); done)); (first | ((focus exact f0); (focus omega)) | ((focus exact f1); (focus omega)) | ((focus assumption); (focus omega)))))
    · rfl
    refine l_yield (y_move rfl) rfl ?_
    apply l_loud (by kernel_rfl) rfl
    apply ld_call (ct_HasSuffix_bad hE hB pp s tb 1048576 M (bad_snd gx hd2)) rfl (hE.f (by kernel_rfl))
    · ((repeat constructor); done)
    rintro _ _ ⟨rfl, rfl⟩
    simp only [List.cons_append, List.nil_append]
    refine l_yield (y_move rfl) rfl ?_
    refine l_yield (y_extract rfl rfl) rfl ?_
    refine l_yield (y_extract rfl rfl) rfl ?_
    refine l_yield (y_assign rfl) rfl ?_
    refine l_yield (y_assign rfl) rfl ?_
    refine l_nil (a_then (w_seq (w_region ?_)))
    refine l_yield (y_move rfl) rfl ?_
    refine l_yield (y_move rfl) rfl ?_
    refine l_yield (y_move rfl) rfl ?_
    apply l_loud (by kernel_rfl) rfl
    apply ld_call (ct_Range_bad hE hB pp s tb 1048576 M gx hd3) rfl (hE.f (by kernel_rfl))
    · ((repeat constructor); done)
    rintro _ _ ⟨rfl, rfl⟩
    simp only [List.cons_append, List.nil_append]
    refine l_yield (y_move rfl) rfl ?_
    refine l_yield (y_extract rfl rfl) rfl ?_
    refine l_yield (y_extract rfl rfl) rfl ?_
    refine l_yield (y_extract rfl rfl) rfl ?_
    refine l_yield (y_assign rfl) rfl ?_
    refine l_yield (y_assign rfl) rfl ?_
    refine l_yield (y_assign rfl) rfl ?_
    refine l_nil (a_then (w_seq (w_seq (w_region ?_))))
    refine l_yield (y_move rfl) rfl ?_
    refine l_yield (y_ne rfl rfl) rfl ?_
    refine l_yield (y_move rfl) rfl ?_
    skip
    refine l_on rfl rfl ?_
    refine l_yield (y_move rfl) rfl ?_
    refine l_on rfl rfl ?_
    refine l_yield (y_len_slice rfl (hE.t rfl)) rfl ?_
    refine l_on rfl rfl ?_
    refine l_yield (y_ne rfl rfl) rfl ?_
    apply l_yield
    · (first | exact y_pick_t rfl rfl | exact y_pick_f rfl rfl)
    · rfl
    refine l_yield (y_move rfl) rfl ?_
    skip
    refine l_on rfl rfl ?_
    refine l_yield (y_move rfl) rfl ?_
    refine l_on rfl rfl ?_
    refine l_yield (y_ne rfl rfl) rfl ?_
    apply l_yield
    · (first | exact y_pick_t rfl rfl | exact y_pick_f rfl rfl)
    · rfl
    refine l_yield (y_move rfl) rfl ?_
    skip
    refine l_on rfl rfl ?_
    refine l_yield (y_move rfl) rfl ?_
    apply l_yield
    · (first | exact y_pick_t rfl rfl | exact y_pick_f rfl rfl)
    · rfl
    refine l_yield (y_move rfl) rfl ?_
    skip
    refine l_on rfl rfl ?_
    refine l_yield (y_move rfl) rfl ?_
    apply l_yield
    · (first | exact y_pick_t rfl rfl | exact y_pick_f rfl rfl)
    · rfl
    refine l_yield (y_move rfl) rfl ?_
    skip
    refine l_on rfl rfl ?_
    refine l_yield (y_move rfl) rfl ?_
    apply l_yield
    · (first | exact y_pick_t rfl rfl | exact y_pick_f rfl rfl)
    · rfl
    refine l_yield (y_move rfl) rfl ?_
    skip
    refine l_on rfl rfl ?_
    refine l_yield (y_move rfl) rfl ?_
    refine l_on rfl rfl ?_
    refine l_yield (y_ne rfl rfl) rfl ?_
    apply l_yield
    · (first | exact y_pick_t rfl rfl | exact y_pick_f rfl rfl)
    · rfl
    refine l_yield (y_move rfl) rfl ?_
    skip
    refine l_on rfl rfl ?_
    refine l_yield (y_move rfl) rfl ?_
    refine l_on rfl rfl ?_
    refine l_yield (y_ne rfl rfl) rfl ?_
    apply l_yield
    · (first | exact y_pick_t rfl rfl | exact y_pick_f rfl rfl)
    · rfl
    refine l_nil (a_then ?_)
    refine w_cond_f rfl ?_
    refine w_skip (a_then (w_seq (w_seq (w_region ?_))))
    refine l_yield (y_move rfl) rfl ?_
    refine l_yield (y_move rfl) rfl ?_
    refine l_yield (y_move rfl) rfl ?_
    refine l_yield (y_move rfl) rfl ?_
    refine l_yield (y_move rfl) rfl ?_
    refine l_yield (y_move rfl) rfl ?_
    apply l_loud (by kernel_rfl) rfl
    refine ld_buildSlice (hE.t rfl) (hE.t rfl) rfl rfl rfl (fun b157 => ?_)
    refine l_yield (y_len_slice rfl (hE.t rfl)) rfl ?_
    refine l_yield (y_move rfl) rfl ?_
    refine l_nil (a_then (w_block ?_))
    skip
    refine w_loop (fun k : Nat => [(157, .slice (some ⟨b157, 0, none⟩) 6 6), (158, .int .i64 6), (159, .int .i64 (k : Nat))]) (fun k => [cells b157 (List.replicate 6 (.iface 34 (.int .i64 1))) 30, R]) (fun k => 6 - k) (fun k => k ≤ 6) 0 ?_ ?_ ?_ ?_
    · exact Nat.zero_le _
    · exact ⟨rfl, rfl, rfl, trivial⟩
    · (apply ent; (repeat constructor); done)
    intro k hk
    skip
    refine w_seq (w_region ?_)
    refine l_yield (y_lt rfl rfl) rfl ?_
    refine l_nil (a_then (w_seq ?_))
    refine w_cond_d rfl (fun hlp => ?_) (fun hlp => ?_)
    · skip
      have f0 : (List.replicate 6 (.iface 34 (.int .i64 1) : Value))[((k : Nat) : Int).toNat]? = some (.iface 34 (.int .i64 1) : Value) := rep_get6 (k := k) (by omega) _ (by omega)
      refine w_skip (a_then (w_seq (w_block (w_seq (w_region ?_)))))
      apply l_yield
      · (first | exact y_indexAddr1 rfl rfl (hE.t rfl) (by omega) (by omega) | exact y_indexAddr rfl rfl (hE.t rfl) (by omega) (by omega))
      · rfl
      apply l_yield
      · (first | (apply y_load rfl (hE.t rfl) rfl; (repeat (first | rfl | assumption | constructor)); done) | exact y_load_old rfl (hE.t rfl) rfl (by assumption) | (apply y_load_ro rfl (hE.t rfl) rfl; (focus ((repeat constructor); done)); (focus assumption)) | (apply y_load_q rfl (hE.t rfl) rfl (by assumption); (focus ((repeat constructor); done)); (first | ((focus exact f0); (focus omega)) | ((focus exact f1); (focus omega)) | ((focus assumption); (focus omega)))))
      · rfl
      refine l_yield (y_assign rfl) rfl ?_
      refine l_nil (a_then (w_seq (w_region ?_)))
      refine l_yield (y_move rfl) rfl ?_
      apply l_loud (by kernel_rfl) rfl
      apply ld_call (ct_Is hE (by decide)) rfl (hE.f (by kernel_rfl))
      · ((repeat constructor); done)
      rintro _ _ ⟨rfl, rfl⟩
      simp only [List.cons_append, List.nil_append]
      refine l_yield (y_not rfl) rfl ?_
      refine l_nil (a_then ?_)
      refine w_cond_f rfl ?_
      refine w_skip (a_block (a_then (w_region ?_)))
      refine l_yield (y_add rfl rfl (by omega) (by omega)) rfl ?_
      refine l_yield (y_move rfl) rfl ?_
      refine l_nil ?_
      refine wa_eq 159 (.int .i64 ((k + 1 : Nat) : Int)) rfl (int_eq (by omega)) ?_
      refine a_round (k + 1) (by omega) (by omega) ⟨rfl, rfl, rfl, trivial⟩ (by (apply ent; (repeat constructor); done))
    skip
    refine w_exit (a_then_exit (a_then_exit (a_block_exit (a_then (w_seq (w_region ?_))))))
    apply l_loud (by kernel_rfl) rfl
    apply ld_call (ct_Compare_nil hE) rfl (hE.f (by kernel_rfl))
    · ((repeat constructor); done)
    rintro _ _ ⟨rfl, rfl⟩
    simp only [List.cons_append, List.nil_append]
    refine l_yield (y_move rfl) rfl ?_
    refine l_yield (y_extract rfl rfl) rfl ?_
    refine l_yield (y_extract rfl rfl) rfl ?_
    refine l_yield (y_assign rfl) rfl ?_
    refine l_nil (a_then (w_seq (w_region ?_)))
    apply l_loud (by kernel_rfl) rfl
    apply ld_call (ct_Sort_nil hE) rfl (hE.f (by kernel_rfl))
    · ((repeat constructor); done)
    rintro _ _ ⟨rfl, rfl⟩
    simp only [List.cons_append, List.nil_append]
    refine l_yield (y_move rfl) rfl ?_
    refine l_yield (y_extract rfl rfl) rfl ?_
    refine l_yield (y_extract rfl rfl) rfl ?_
    refine l_yield (y_assign rfl) rfl ?_
    refine l_nil (a_then (w_seq (w_region ?_)))
    apply l_loud (by kernel_rfl) rfl
    apply ld_call (ct_HasPrefix_nil hE) rfl (hE.f (by kernel_rfl))
    · ((repeat constructor); done)
    rintro _ _ ⟨rfl, rfl⟩
    simp only [List.cons_append, List.nil_append]
    refine l_yield (y_move rfl) rfl ?_
    refine l_yield (y_extract rfl rfl) rfl ?_
    refine l_yield (y_extract rfl rfl) rfl ?_
    refine l_yield (y_assign rfl) rfl ?_
    refine l_nil (a_then (w_seq (w_region ?_)))
    apply l_loud (by kernel_rfl) rfl
    apply ld_call (ct_HasSuffix_nil hE) rfl (hE.f (by kernel_rfl))
    · ((repeat constructor); done)
    rintro _ _ ⟨rfl, rfl⟩
    simp only [List.cons_append, List.nil_append]
    refine l_yield (y_move rfl) rfl ?_
    refine l_yield (y_extract rfl rfl) rfl ?_
    refine l_yield (y_extract rfl rfl) rfl ?_
    refine l_yield (y_assign rfl) rfl ?_
    refine l_nil (a_then (w_seq (w_region ?_)))
    apply l_loud (by kernel_rfl) rfl
    apply ld_call (ct_Range_nil hE) rfl (hE.f (by kernel_rfl))
    · ((repeat constructor); done)
    rintro _ _ ⟨rfl, rfl⟩
    simp only [List.cons_append, List.nil_append]
    refine l_yield (y_move rfl) rfl ?_
    refine l_yield (y_extract rfl rfl) rfl ?_
    refine l_yield (y_extract rfl rfl) rfl ?_
    refine l_yield (y_extract rfl rfl) rfl ?_
    refine l_yield (y_assign rfl) rfl ?_
    refine l_nil (a_then (w_seq (w_seq (w_region ?_))))
    refine l_yield (y_move rfl) rfl ?_
    refine l_yield (y_move rfl) rfl ?_
    refine l_yield (y_move rfl) rfl ?_
    refine l_yield (y_move rfl) rfl ?_
    refine l_yield (y_move rfl) rfl ?_
    apply l_loud (by kernel_rfl) rfl
    refine ld_buildSlice (hE.t rfl) (hE.t rfl) rfl rfl rfl (fun b193 => ?_)
    refine l_yield (y_len_slice rfl (hE.t rfl)) rfl ?_
    refine l_yield (y_move rfl) rfl ?_
    refine l_nil (a_then (w_block ?_))
    skip
    refine w_loop (fun k : Nat => [(193, .slice (some ⟨b193, 0, none⟩) 5 5), (194, .int .i64 5), (195, .int .i64 (k : Nat))]) (fun k => [cells b193 (List.replicate 5 (.iface 34 (.int .i64 5))) 30, R]) (fun k => 5 - k) (fun k => k ≤ 5) 0 ?_ ?_ ?_ ?_
    · exact Nat.zero_le _
    · exact ⟨rfl, rfl, rfl, trivial⟩
    · (apply ent; (repeat constructor); done)
    intro k hk
    skip
    refine w_seq (w_region ?_)
    refine l_yield (y_lt rfl rfl) rfl ?_
    refine l_nil (a_then (w_seq ?_))
    refine w_cond_d rfl (fun hlq => ?_) (fun hlq => ?_)
    · skip
      have f0 : (List.replicate 5 (.iface 34 (.int .i64 5) : Value))[((k : Nat) : Int).toNat]? = some (.iface 34 (.int .i64 5) : Value) := rep_get6 (k := k) (by omega) _ (by omega)
      refine w_skip (a_then (w_seq (w_block (w_seq (w_region ?_)))))
      apply l_yield
      · (first | exact y_indexAddr1 rfl rfl (hE.t rfl) (by omega) (by omega) | exact y_indexAddr rfl rfl (hE.t rfl) (by omega) (by omega))
      · rfl
      apply l_yield
      · (first | (apply y_load rfl (hE.t rfl) rfl; (repeat (first | rfl | assumption | constructor)); done) | exact y_load_old rfl (hE.t rfl) rfl (by assumption) | (apply y_load_ro rfl (hE.t rfl) rfl; (focus ((repeat constructor); done)); (focus assumption)) | (apply y_load_q rfl (hE.t rfl) rfl (by assumption); (focus ((repeat constructor); done)); (first | ((focus exact f0); (focus omega)) | ((focus exact f1); (focus omega)) | ((focus assumption); (focus omega)))))
      · rfl
      refine l_yield (y_assign rfl) rfl ?_
      refine l_nil (a_then (w_seq (w_region ?_)))
      refine l_yield (y_move rfl) rfl ?_
      apply l_loud (by kernel_rfl) rfl
      apply ld_call (ct_Is hE (by decide)) rfl (hE.f (by kernel_rfl))
      · ((repeat constructor); done)
      rintro _ _ ⟨rfl, rfl⟩
      simp only [List.cons_append, List.nil_append]
      refine l_yield (y_not rfl) rfl ?_
      refine l_nil (a_then ?_)
      refine w_cond_f rfl ?_
      refine w_skip (a_block (a_then (w_region ?_)))
      refine l_yield (y_add rfl rfl (by omega) (by omega)) rfl ?_
      refine l_yield (y_move rfl) rfl ?_
      refine l_nil ?_
      refine wa_eq 195 (.int .i64 ((k + 1 : Nat) : Int)) rfl (int_eq (by omega)) ?_
      refine a_round (k + 1) (by omega) (by omega) ⟨rfl, rfl, rfl, trivial⟩ (by (apply ent; (repeat constructor); done))
    skip
    refine w_exit (a_then_exit (a_then_exit (a_block_exit (a_then (w_seq (w_region ?_))))))
    refine l_yield (y_assign rfl) rfl ?_
    refine l_nil (a_then (w_ret ?_))
    apply a_ret
    · rfl
    · (apply Rs.tmp rfl; exact Rs.nil)
    · exact ⟨rfl, rfl⟩
    · (apply ent; (repeat constructor); done)
end Go.Proofs.YtoenonlkdmdlcaaGreatDoor
