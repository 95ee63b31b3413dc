/- Sorting by a function: partition, partitionEqual. (Written by mksort.py.) -/
import Derived.Test.YtekhbjlplfbdkaaGreatDoorQ05
import Derived.Test.YtekhbjlplfbdkaaGreatDoorQ40
import Derived.Laws.Bits64
import Derived.Laws.Bits64b
import Derived.Laws.Shifts
import Derived.Sort.LotD5
set_option linter.unusedVariables false
set_option linter.unusedSimpArgs false
namespace Go.Proofs.YtekhbjlplfbdkaaGreatDoor
open Go Go.RowKit Sl Eg
set_option maxRecDepth 10000
variable {E : Env}
variable {fc : FuncId} {caps : List Value} {q : HP} {ok : Nat → Prop} {cf : Nat → Nat → Int} {g c n : Nat}
open Go.Sort in
theorem ct_partitionEqual (hE : Seat E) (hf : goFn E.P fc = true) (hc : Cmp E fc caps q ok cf) {d : Array Nat} (hd : OkD ok n d) {a b pv : Nat} (hap : a ≤ pv) (hpb : pv < b) (hb : b ≤ n) (hn : n < 1099511627776) :
    Ct E 103 [.slice (some ⟨g, 0, none⟩) n c, .int .i64 (a : Nat), .int .i64 (b : Nat), .int .i64 (pv : Nat), .func (.func fc) #[] ⟨caps⟩] [sl (some ⟨g, 0, none⟩) c 27 1 n (dC d), q]
      (fun v Q => v = .int .i64 ((partitionEqual (ltF cf) d a b pv).1 : Nat) ∧ Q = [sl (some ⟨g, 0, none⟩) c 27 1 n (dC (partitionEqual (ltF cf) d a b pv).2), q] ∧ OkD ok n (partitionEqual (ltF cf) d a b pv).2) := by
  have hs := hd.1
  have f2 := dC_get d (i := pv) (by omega) ((pv : Int)).toNat (by omega)
  have f3 := dC_get d (i := a) (by omega) ((a : Int)).toNat (by omega)
  obtain ⟨r, hr⟩ : ∃ r, r = partitionEqual (ltF cf) d a b pv := ⟨_, rfl⟩
  have hr' := hr
  unfold partitionEqual at hr'
  rw [← hr]
  refine fn_enter (hE.fn Tryz.func103) rfl rfl rfl (fun R => ?_)
  simp only [argsL, List.cons_append, List.nil_append]
  refine w_seq (wR ?_)
  refine lY (yA rfl) rfl ?_
  refine l_nil (aT ?_)
  refine w_seq ?_
  refine w_stages 13 ([sl (some ⟨g, 0, none⟩) c 27 1 n (dC d), q]) [(15, [])] ?_ ?_
  · (apply ent; (repeat constructor); done)
  apply s_calm 0 rfl
  · exact yM rfl
  · with_reducible (repeat (first | exact cB | apply cT | apply cK))
  · kernel_rfl
  · kernel_rfl
  · rfl
  apply s_calm 1 rfl
  · exact yM rfl
  · with_reducible (repeat (first | exact cB | apply cT | apply cK))
  · kernel_rfl
  · kernel_rfl
  · rfl
  apply s_calm 2 rfl
  · exact yM rfl
  · with_reducible (repeat (first | exact cB | apply cT | apply cK))
  · kernel_rfl
  · kernel_rfl
  · rfl
  apply s_calm 3 rfl
  · exact yM rfl
  · with_reducible (repeat (first | exact cB | apply cT | apply cK))
  · kernel_rfl
  · kernel_rfl
  · rfl
  apply s_calm 4 rfl
  · exact yM rfl
  · with_reducible (repeat (first | exact cB | apply cT | apply cK))
  · kernel_rfl
  · kernel_rfl
  · rfl
  apply s_calm 5 rfl
  · exact yM rfl
  · with_reducible (repeat (first | exact cB | apply cT | apply cK))
  · kernel_rfl
  · kernel_rfl
  · rfl
  apply s_calm 6 rfl
  · (first | exact y_indexAddr1 rfl rfl (hE.t rfl) (by omega) (by omega) | exact y_indexAddr rfl rfl (hE.t rfl) (by omega) (by omega))
  · with_reducible (repeat (first | exact cB | apply cT | apply cK))
  · kernel_rfl
  · kernel_rfl
  · rfl
  apply s_take 7 rfl
  · (apply y_load rfl (hE.t rfl) rfl; (repeat (first | rfl | assumption | constructor)); done)
  · with_reducible (repeat (first | exact cB | apply cT | apply cK))
  · kernel_rfl
  · rfl
  apply s_calm 8 rfl
  · exact yM rfl
  · with_reducible (repeat (first | exact cB | apply cT | apply cK))
  · kernel_rfl
  · kernel_rfl
  · rfl
  apply s_calm 9 rfl
  · exact yM rfl
  · with_reducible (repeat (first | exact cB | apply cT | apply cK))
  · kernel_rfl
  · kernel_rfl
  · rfl
  apply s_calm 10 rfl
  · (first | exact y_indexAddr1 rfl rfl (hE.t rfl) (by omega) (by omega) | exact y_indexAddr rfl rfl (hE.t rfl) (by omega) (by omega))
  · with_reducible (repeat (first | exact cB | apply cT | apply cK))
  · kernel_rfl
  · kernel_rfl
  · rfl
  apply s_take 11 rfl
  · (apply y_load rfl (hE.t rfl) rfl; (repeat (first | rfl | assumption | constructor)); done)
  · with_reducible (repeat (first | exact cB | apply cT | apply cK))
  · kernel_rfl
  · rfl
  apply s_calm 12 rfl
  · (first | exact y_indexAddr1 rfl rfl (hE.t rfl) (by omega) (by omega) | exact y_indexAddr rfl rfl (hE.t rfl) (by omega) (by omega))
  · with_reducible (repeat (first | exact cB | apply cT | apply cK))
  · kernel_rfl
  · kernel_rfl
  · rfl
  apply s_next rfl (by kernel_rfl) rfl
  (first | (apply ld_store rfl rfl (hE.t rfl) rfl; (focus ((repeat constructor); done)); (focus rfl); (focus (exact Nat.le_of_ble_eq_true rfl))) | (apply ld_store_sl rfl rfl (hE.t rfl) rfl; (focus ((repeat constructor); done)); (focus rfl); (focus (first | omega | (simp only [cellsL, length_setMany, List.length_cons, List.length_nil]; omega)))))
  refine ⟨by (apply ent; (repeat constructor); done), ?_⟩
  apply s_calm 14 rfl
  · (first | exact y_indexAddr1 rfl rfl (hE.t rfl) (by omega) (by omega) | exact y_indexAddr rfl rfl (hE.t rfl) (by omega) (by omega))
  · with_reducible (repeat (first | exact cB | apply cT | apply cK))
  · kernel_rfl
  · kernel_rfl
  · rfl
  apply s_last rfl (by kernel_rfl) (by kernel_rfl) rfl
  (first | (apply ld_store rfl rfl (hE.t rfl) rfl; (focus ((repeat constructor); done)); (focus rfl); (focus (exact Nat.le_of_ble_eq_true rfl))) | (apply ld_store_sl rfl rfl (hE.t rfl) rfl; (focus ((repeat constructor); done)); (focus rfl); (focus (first | omega | (simp only [cellsL, length_setMany, List.length_cons, List.length_nil]; omega)))))
  refine aT (w_seq (wR ?_))
  refine lY (yM rfl) rfl ?_
  refine lY (y_add rfl rfl (by omega) (by omega)) rfl ?_
  refine lY (yM rfl) rfl ?_
  refine lY (y_sub rfl rfl (by omega) (by omega)) rfl ?_
  refine lY (yA rfl) rfl ?_
  refine lY (yA rfl) rfl ?_
  refine l_nil (aT ?_)
  simp only [cellsL]
  rw [dC_swp d (i := a) (j := pv) (by omega) (by omega)]
  case ho => omega
  case ho' => omega
  refine w_eq 11 (.int .i64 ((a + 1 : Nat) : Int)) rfl (int_eq (by omega)) ?_
  refine w_eq 12 (.int .i64 ((b - 1 : Nat) : Int)) rfl (int_eq (by omega)) ?_
  have hd1 := hd.swp (show a < n by omega) (show pv < n by omega)
  generalize swp d a pv = d1 at *
  refine w_seq (w_block ?_)
  skip
  refine w_loop (fun x : Nat × Nat × Array Nat => [(0, .slice (some ⟨g, 0, none⟩) n c), (1, .int .i64 (a : Nat)), (4, .func (.func fc) #[] ⟨caps⟩), (11, .int .i64 (x.1 : Nat)), (12, .int .i64 (x.2.1 : Nat))]) (fun x => [sl (some ⟨g, 0, none⟩) c 27 1 n (dC x.2.2), q, R]) (fun x => x.2.1 + 1 - x.1) (fun x => partEqLoop (ltF cf) a x.1 x.2.1 x.2.2 = r ∧ OkD ok n x.2.2 ∧ a < x.1 ∧ a ≤ x.2.1 ∧ x.1 ≤ x.2.1 + 2 ∧ x.2.1 < b) (a + 1, b - 1, d1) ?_ ?_ ?_ ?_
  · exact ⟨hr'.symm, hd1, by show a < a + 1; omega, by show a ≤ b - 1; omega, by show a + 1 ≤ b - 1 + 2; omega, by show b - 1 < b; omega⟩
  · exact ⟨rfl, rfl, rfl, rfl, rfl, trivial⟩
  · (apply ent; (repeat constructor); done)
  rintro ⟨i, j, e⟩ ⟨he, hde, hi, haj, hij, hj⟩
  simp only at he hde hi haj hij hj ⊢
  have hse := hde.1
  rw [partEqLoop_eq] at he
  obtain ⟨i2, hi2⟩ : ∃ i2, scanUp (fun x => !ltF cf e[a]! x) e j i = i2 := ⟨_, rfl⟩
  rw [hi2] at he
  obtain ⟨j2, hj2⟩ : ∃ j2, scanDown (fun x => ltF cf e[a]! x) e i2 j = j2 := ⟨_, rfl⟩
  rw [hj2] at he
  skip
  skip
  refine w_block ?_
  refine w_cut (fun _ : Unit => [(0, .slice (some ⟨g, 0, none⟩) n c), (1, .int .i64 (a : Nat)), (4, .func (.func fc) #[] ⟨caps⟩), (11, .int .i64 ((i2 : Nat) : Int)), (12, .int .i64 ((j : Nat) : Int))]) (fun _ => [sl (some ⟨g, 0, none⟩) c 27 1 n (dC (e)), q, R]) (fun _ => i ≤ i2 ∧ i2 ≤ j + 2) ?_ ?_
  · skip
    refine w_block ?_
    skip
    refine w_loop (fun x : Nat => [(0, .slice (some ⟨g, 0, none⟩) n c), (1, .int .i64 (a : Nat)), (4, .func (.func fc) #[] ⟨caps⟩), (11, .int .i64 ((x : Nat) : Int)), (12, .int .i64 ((j : Nat) : Int))]) (fun _ => [sl (some ⟨g, 0, none⟩) c 27 1 n (dC (e)), q, R]) (fun x => j + 1 - x) (fun x => scanUp (fun x => !ltF cf (e)[a]! x) (e) (j) x = i2 ∧ i ≤ x ∧ x ≤ j + 2) (i) ?_ ?_ ?_ ?_
    · exact ⟨hi2, by omega, by omega⟩
    · exact ⟨rfl, rfl, rfl, rfl, rfl, trivial⟩
    · (apply ent; (repeat constructor); done)
    rintro x ⟨hx, hx1, hx2⟩
    skip
    refine w_seq (w_seq (w_draws (by kernel_rfl) ?_))
    refine lY (yM rfl) rfl ?_
    refine lY (yM rfl) rfl ?_
    refine lY (y_le rfl rfl) rfl ?_
    refine lY (yM rfl) rfl ?_
    refine l_split 34 rfl (fun su => ?_) (fun su => ?_)
    · skip
      have f0 := dC_get (e) (i := x) (by omega) ((x : Nat) : Int).toNat (by omega)
      have f1 := dC_get (e) (i := a) (by omega) ((a : Nat) : Int).toNat (by omega)
      have hcc := hc _ _ (hde.2 (a) (by omega)) (hde.2 (x) (by omega))
      refine l_on rfl rfl ?_
      refine lY (yM rfl) rfl ?_
      refine l_on rfl rfl ?_
      refine lY (yM rfl) rfl ?_
      refine l_on rfl rfl ?_
      refine lY (yM rfl) rfl ?_
      refine l_on rfl rfl ?_
      apply lY
      · (first | exact y_indexAddr1 rfl rfl (hE.t rfl) (by omega) (by omega) | exact y_indexAddr rfl rfl (hE.t rfl) (by omega) (by omega))
      · rfl
      refine l_on rfl rfl ?_
      apply lY
      · (apply y_load rfl (hE.t rfl) rfl; (repeat (first | rfl | assumption | constructor)); done)
      · rfl
      refine l_on rfl rfl ?_
      refine lY (yM rfl) rfl ?_
      refine l_on rfl rfl ?_
      refine lY (yM rfl) rfl ?_
      refine l_on rfl rfl ?_
      apply lY
      · (first | exact y_indexAddr1 rfl rfl (hE.t rfl) (by omega) (by omega) | exact y_indexAddr rfl rfl (hE.t rfl) (by omega) (by omega))
      · rfl
      refine l_on rfl rfl ?_
      apply lY
      · (apply y_load rfl (hE.t rfl) rfl; (repeat (first | rfl | assumption | constructor)); done)
      · rfl
      refine l_on rfl rfl ?_
      apply lL (by kernel_rfl) rfl
      apply ld_callv (hx := rfl) (ha := rfl) (hf := hf)
      · exact hcc
      · ((repeat constructor); done)
      rintro _ _ ⟨rfl, rfl⟩
      simp only [List.cons_append, List.nil_append]
      refine l_on rfl rfl ?_
      refine lY (y_lt rfl rfl) rfl ?_
      refine l_on rfl rfl ?_
      refine lY (y_not rfl) rfl ?_
      apply lY
      · (first | exact y_pick_t rfl rfl | exact y_pick_f rfl rfl)
      · rfl
      refine l_nil (aT ?_)
      refine w_cond_nd rfl (fun gu => ?_) (fun gu => ?_)
      · skip
        refine w_skip (aT (w_block (wR ?_)))
        refine lY (yM rfl) rfl ?_
        refine lY (y_add rfl rfl (by omega) (by omega)) rfl ?_
        refine lY (yA rfl) rfl ?_
        refine l_nil (a_block ?_)
        refine a_round (x + 1) ⟨?_, by omega, by omega⟩ (by omega) ⟨rfl, rfl, rfl, congrArg some (int_eq (by omega)), rfl, trivial⟩ (by (apply ent; (repeat constructor); done))
        rw [← hx]
        conv => rhs; rw [scanUp, if_pos (by simp [ltF, gu]; omega)]
      · skip
        rw [scanUp, if_neg (by simp [ltF, gu])] at hx
        rw [← hx]
        refine w_exit (a_then_exit (a_then_exit (a_block_exit ?_)))
        refine a_cut () (by omega) ⟨rfl, rfl, rfl, rfl, rfl, trivial⟩ (by (apply ent; (repeat constructor); done))
    · skip
      rw [scanUp, if_neg (by simp; omega)] at hx
      rw [← hx]
      refine l_off rfl rfl rfl rfl (l_off rfl rfl rfl rfl (l_off rfl rfl rfl rfl (l_off rfl rfl rfl rfl (l_off rfl rfl rfl rfl (l_off rfl rfl rfl rfl (l_off rfl rfl rfl rfl (l_off rfl rfl rfl rfl ?_)))))))
      refine l_off rfl rfl rfl rfl (l_off rfl rfl rfl rfl (l_off rfl rfl rfl rfl (l_off rfl rfl rfl rfl ?_)))
      apply lY
      · (first | exact y_pick_t rfl rfl | exact y_pick_f rfl rfl)
      · rfl
      refine l_nil (aT ?_)
      refine w_cond_f rfl ?_
      refine w_exit (a_then_exit (a_then_exit (a_block_exit ?_)))
      refine a_cut () (by omega) ⟨rfl, rfl, rfl, rfl, rfl, trivial⟩ (by (apply ent; (repeat constructor); done))
  rintro _ ⟨hi2a, hi2b⟩
  skip
  skip
  refine w_cut (fun _ : Unit => [(0, .slice (some ⟨g, 0, none⟩) n c), (1, .int .i64 (a : Nat)), (4, .func (.func fc) #[] ⟨caps⟩), (11, .int .i64 ((i2 : Nat) : Int)), (12, .int .i64 ((j2 : Nat) : Int))]) (fun _ => [sl (some ⟨g, 0, none⟩) c 27 1 n (dC (e)), q, R]) (fun _ => a ≤ j2 ∧ j2 ≤ j) ?_ ?_
  · skip
    refine w_block ?_
    skip
    refine w_loop (fun x : Nat => [(0, .slice (some ⟨g, 0, none⟩) n c), (1, .int .i64 (a : Nat)), (4, .func (.func fc) #[] ⟨caps⟩), (11, .int .i64 ((i2 : Nat) : Int)), (12, .int .i64 ((x : Nat) : Int))]) (fun _ => [sl (some ⟨g, 0, none⟩) c 27 1 n (dC (e)), q, R]) (fun x => x) (fun x => scanDown (fun x => ltF cf (e)[a]! x) (e) (i2) x = j2 ∧ a ≤ x ∧ x ≤ j) (j) ?_ ?_ ?_ ?_
    · exact ⟨hj2, by omega, by omega⟩
    · exact ⟨rfl, rfl, rfl, rfl, rfl, trivial⟩
    · (apply ent; (repeat constructor); done)
    rintro x ⟨hx, hx1, hx2⟩
    skip
    refine w_seq (w_seq (w_draws (by kernel_rfl) ?_))
    refine lY (yM rfl) rfl ?_
    refine lY (yM rfl) rfl ?_
    refine lY (y_le rfl rfl) rfl ?_
    refine lY (yM rfl) rfl ?_
    refine l_split 53 rfl (fun sw => ?_) (fun sw => ?_)
    · skip
      obtain ⟨x, rfl⟩ : ∃ k, x = k + 1 := ⟨x - 1, by omega⟩
      have f0 := dC_get (e) (i := x + 1) (by omega) ((x + 1 : Nat) : Int).toNat (by omega)
      have f1 := dC_get (e) (i := a) (by omega) ((a : Nat) : Int).toNat (by omega)
      have hcc := hc _ _ (hde.2 (a) (by omega)) (hde.2 (x + 1) (by omega))
      refine l_on rfl rfl ?_
      refine lY (yM rfl) rfl ?_
      refine l_on rfl rfl ?_
      refine lY (yM rfl) rfl ?_
      refine l_on rfl rfl ?_
      refine lY (yM rfl) rfl ?_
      refine l_on rfl rfl ?_
      apply lY
      · (first | exact y_indexAddr1 rfl rfl (hE.t rfl) (by omega) (by omega) | exact y_indexAddr rfl rfl (hE.t rfl) (by omega) (by omega))
      · rfl
      refine l_on rfl rfl ?_
      apply lY
      · (apply y_load rfl (hE.t rfl) rfl; (repeat (first | rfl | assumption | constructor)); done)
      · rfl
      refine l_on rfl rfl ?_
      refine lY (yM rfl) rfl ?_
      refine l_on rfl rfl ?_
      refine lY (yM rfl) rfl ?_
      refine l_on rfl rfl ?_
      apply lY
      · (first | exact y_indexAddr1 rfl rfl (hE.t rfl) (by omega) (by omega) | exact y_indexAddr rfl rfl (hE.t rfl) (by omega) (by omega))
      · rfl
      refine l_on rfl rfl ?_
      apply lY
      · (apply y_load rfl (hE.t rfl) rfl; (repeat (first | rfl | assumption | constructor)); done)
      · rfl
      refine l_on rfl rfl ?_
      apply lL (by kernel_rfl) rfl
      apply ld_callv (hx := rfl) (ha := rfl) (hf := hf)
      · exact hcc
      · ((repeat constructor); done)
      rintro _ _ ⟨rfl, rfl⟩
      simp only [List.cons_append, List.nil_append]
      refine l_on rfl rfl ?_
      refine lY (y_lt rfl rfl) rfl ?_
      apply lY
      · (first | exact y_pick_t rfl rfl | exact y_pick_f rfl rfl)
      · rfl
      refine l_nil (aT ?_)
      refine w_cond_d rfl (fun gw => ?_) (fun gw => ?_)
      · skip
        refine w_skip (aT (w_block (wR ?_)))
        refine lY (yM rfl) rfl ?_
        refine lY (y_sub rfl rfl (by omega) (by omega)) rfl ?_
        refine lY (yA rfl) rfl ?_
        refine l_nil (a_block ?_)
        refine a_round (x) ⟨?_, by omega, by omega⟩ (by omega) ⟨rfl, rfl, rfl, rfl, congrArg some (int_eq (by omega)), trivial⟩ (by (apply ent; (repeat constructor); done))
        rw [← hx]
        conv => rhs; rw [scanDown, if_pos (by simp [ltF, gw]; omega)]
      · skip
        rw [scanDown, if_neg (by simp [ltF, gw])] at hx
        rw [← hx]
        refine w_exit (a_then_exit (a_then_exit (a_block_exit ?_)))
        refine a_cut () (by omega) ⟨rfl, rfl, rfl, rfl, rfl, trivial⟩ (by (apply ent; (repeat constructor); done))
    · skip
      have hx' : x = j2 := by
        rw [← hx]
        cases x with
        | zero => rfl
        | succ x => rw [scanDown, if_neg (by simp; omega)]
      rw [← hx']
      refine l_off rfl rfl rfl rfl (l_off rfl rfl rfl rfl (l_off rfl rfl rfl rfl (l_off rfl rfl rfl rfl (l_off rfl rfl rfl rfl (l_off rfl rfl rfl rfl (l_off rfl rfl rfl rfl (l_off rfl rfl rfl rfl ?_)))))))
      refine l_off rfl rfl rfl rfl (l_off rfl rfl rfl rfl (l_off rfl rfl rfl rfl ?_))
      apply lY
      · (first | exact y_pick_t rfl rfl | exact y_pick_f rfl rfl)
      · rfl
      refine l_nil (aT ?_)
      refine w_cond_f rfl ?_
      refine w_exit (a_then_exit (a_then_exit (a_block_exit ?_)))
      refine a_cut () (by omega) ⟨rfl, rfl, rfl, rfl, rfl, trivial⟩ (by (apply ent; (repeat constructor); done))
  rintro _ ⟨hj2a, hj2b⟩
  skip
  refine w_seq (w_seq (wR ?_))
  refine lY (yM rfl) rfl ?_
  refine lY (yM rfl) rfl ?_
  refine lY (y_gt rfl rfl) rfl ?_
  refine l_nil (aT ?_)
  refine w_cond_d rfl (fun h7 => ?_) (fun h7 => ?_)
  · skip
    rw [if_pos (by omega)] at he
    subst he
    refine w_exit (a_then_exit (a_block_far rfl (a_then_exit (a_block_exit (aT (w_seq (wR ?_)))))))
    refine lY (yM rfl) rfl ?_
    refine lY (yA rfl) rfl ?_
    refine l_nil (aT (w_ret ?_))
    apply a_ret
    · rfl
    · (apply Rs.tmp rfl; exact Rs.nil)
    · exact ⟨rfl, rfl, hde⟩
    · (apply ent; (repeat constructor); done)
  · skip
    rw [if_neg (by omega)] at he
    have f4 := dC_get e (i := i2) (by omega) ((i2 : Int)).toNat (by omega)
    have f5 := dC_get e (i := j2) (by omega) ((j2 : Int)).toNat (by omega)
    refine w_skip (aT ?_)
    refine w_seq ?_
    refine w_stages 13 ([sl (some ⟨g, 0, none⟩) c 27 1 n (dC e), q]) [(15, [])] ?_ ?_
    · (apply ent; (repeat constructor); done)
    apply s_calm 0 rfl
    · exact yM rfl
    · with_reducible (repeat (first | exact cB | apply cT | apply cK))
    · kernel_rfl
    · kernel_rfl
    · rfl
    apply s_calm 1 rfl
    · exact yM rfl
    · with_reducible (repeat (first | exact cB | apply cT | apply cK))
    · kernel_rfl
    · kernel_rfl
    · rfl
    apply s_calm 2 rfl
    · exact yM rfl
    · with_reducible (repeat (first | exact cB | apply cT | apply cK))
    · kernel_rfl
    · kernel_rfl
    · rfl
    apply s_calm 3 rfl
    · exact yM rfl
    · with_reducible (repeat (first | exact cB | apply cT | apply cK))
    · kernel_rfl
    · kernel_rfl
    · rfl
    apply s_calm 4 rfl
    · exact yM rfl
    · with_reducible (repeat (first | exact cB | apply cT | apply cK))
    · kernel_rfl
    · kernel_rfl
    · rfl
    apply s_calm 5 rfl
    · exact yM rfl
    · with_reducible (repeat (first | exact cB | apply cT | apply cK))
    · kernel_rfl
    · kernel_rfl
    · rfl
    apply s_calm 6 rfl
    · (first | exact y_indexAddr1 rfl rfl (hE.t rfl) (by omega) (by omega) | exact y_indexAddr rfl rfl (hE.t rfl) (by omega) (by omega))
    · with_reducible (repeat (first | exact cB | apply cT | apply cK))
    · kernel_rfl
    · kernel_rfl
    · rfl
    apply s_take 7 rfl
    · (apply y_load rfl (hE.t rfl) rfl; (repeat (first | rfl | assumption | constructor)); done)
    · with_reducible (repeat (first | exact cB | apply cT | apply cK))
    · kernel_rfl
    · rfl
    apply s_calm 8 rfl
    · exact yM rfl
    · with_reducible (repeat (first | exact cB | apply cT | apply cK))
    · kernel_rfl
    · kernel_rfl
    · rfl
    apply s_calm 9 rfl
    · exact yM rfl
    · with_reducible (repeat (first | exact cB | apply cT | apply cK))
    · kernel_rfl
    · kernel_rfl
    · rfl
    apply s_calm 10 rfl
    · (first | exact y_indexAddr1 rfl rfl (hE.t rfl) (by omega) (by omega) | exact y_indexAddr rfl rfl (hE.t rfl) (by omega) (by omega))
    · with_reducible (repeat (first | exact cB | apply cT | apply cK))
    · kernel_rfl
    · kernel_rfl
    · rfl
    apply s_take 11 rfl
    · (apply y_load rfl (hE.t rfl) rfl; (repeat (first | rfl | assumption | constructor)); done)
    · with_reducible (repeat (first | exact cB | apply cT | apply cK))
    · kernel_rfl
    · rfl
    apply s_calm 12 rfl
    · (first | exact y_indexAddr1 rfl rfl (hE.t rfl) (by omega) (by omega) | exact y_indexAddr rfl rfl (hE.t rfl) (by omega) (by omega))
    · with_reducible (repeat (first | exact cB | apply cT | apply cK))
    · kernel_rfl
    · kernel_rfl
    · rfl
    apply s_next rfl (by kernel_rfl) rfl
    (first | (apply ld_store rfl rfl (hE.t rfl) rfl; (focus ((repeat constructor); done)); (focus rfl); (focus (exact Nat.le_of_ble_eq_true rfl))) | (apply ld_store_sl rfl rfl (hE.t rfl) rfl; (focus ((repeat constructor); done)); (focus rfl); (focus (first | omega | (simp only [cellsL, length_setMany, List.length_cons, List.length_nil]; omega)))))
    refine ⟨by (apply ent; (repeat constructor); done), ?_⟩
    apply s_calm 14 rfl
    · (first | exact y_indexAddr1 rfl rfl (hE.t rfl) (by omega) (by omega) | exact y_indexAddr rfl rfl (hE.t rfl) (by omega) (by omega))
    · with_reducible (repeat (first | exact cB | apply cT | apply cK))
    · kernel_rfl
    · kernel_rfl
    · rfl
    apply s_last rfl (by kernel_rfl) (by kernel_rfl) rfl
    (first | (apply ld_store rfl rfl (hE.t rfl) rfl; (focus ((repeat constructor); done)); (focus rfl); (focus (exact Nat.le_of_ble_eq_true rfl))) | (apply ld_store_sl rfl rfl (hE.t rfl) rfl; (focus ((repeat constructor); done)); (focus rfl); (focus (first | omega | (simp only [cellsL, length_setMany, List.length_cons, List.length_nil]; omega)))))
    refine aT (w_seq (wR ?_))
    refine lY (yM rfl) rfl ?_
    refine lY (y_add rfl rfl (by omega) (by omega)) rfl ?_
    refine lY (yA rfl) rfl ?_
    refine l_nil (aT (wR ?_))
    refine lY (yM rfl) rfl ?_
    refine lY (y_sub rfl rfl (by omega) (by omega)) rfl ?_
    refine lY (yA rfl) rfl ?_
    refine l_nil (a_block ?_)
    simp only [cellsL]
    rw [dC_swp e (i := i2) (j := j2) (by omega) (by omega)]
    case ho => omega
    case ho' => omega
    refine a_round (ι := Nat × Nat × Array Nat) (j := (i2 + 1, j2 - 1, swp e i2 j2)) ⟨he, hde.swp (by omega) (by omega), by show a < i2 + 1; omega, by show a ≤ j2 - 1; omega, by show i2 + 1 ≤ j2 - 1 + 2; omega, by show j2 - 1 < b; omega⟩ (by show j2 - 1 + 1 - (i2 + 1) < j + 1 - i; omega) ⟨rfl, rfl, rfl, congrArg some (int_eq (by simp only; omega)), congrArg some (int_eq (by simp only; omega)), trivial⟩ (by (apply ent; (repeat constructor); done))
open Go.Sort in
theorem ct_partition (hE : Seat E) (hf : goFn E.P fc = true) (hc : Cmp E fc caps q ok cf) {d : Array Nat} (hd : OkD ok n d) {a b pv : Nat} (hap : a ≤ pv) (hpb : pv < b) (hb : b ≤ n) (hn : n < 1099511627776) :
    Ct E 104 [.slice (some ⟨g, 0, none⟩) n c, .int .i64 (a : Nat), .int .i64 (b : Nat), .int .i64 (pv : Nat), .func (.func fc) #[] ⟨caps⟩] [sl (some ⟨g, 0, none⟩) c 27 1 n (dC d), q]
      (fun v Q => v = .tuple #[.int .i64 ((partition (ltF cf) d a b pv).1 : Nat), .bool (partition (ltF cf) d a b pv).2.1] ∧ Q = [sl (some ⟨g, 0, none⟩) c 27 1 n (dC (partition (ltF cf) d a b pv).2.2), q] ∧ OkD ok n (partition (ltF cf) d a b pv).2.2) := by
  have hs := hd.1
  have f2 := dC_get d (i := pv) (by omega) ((pv : Int)).toNat (by omega)
  have f3 := dC_get d (i := a) (by omega) ((a : Int)).toNat (by omega)
  obtain ⟨r, hr⟩ : ∃ r, r = partition (ltF cf) d a b pv := ⟨_, rfl⟩
  have hr' := hr
  unfold partition at hr'
  simp only at hr'
  rw [← hr]
  refine fn_enter (hE.fn Tryz.func104) rfl rfl rfl (fun R => ?_)
  simp only [argsL, List.cons_append, List.nil_append]
  refine w_seq (wR ?_)
  refine lY (yA rfl) rfl ?_
  refine lY (yA rfl) rfl ?_
  refine l_nil (aT ?_)
  refine w_seq ?_
  refine w_stages 13 ([sl (some ⟨g, 0, none⟩) c 27 1 n (dC d), q]) [(15, [])] ?_ ?_
  · (apply ent; (repeat constructor); done)
  apply s_calm 0 rfl
  · exact yM rfl
  · with_reducible (repeat (first | exact cB | apply cT | apply cK))
  · kernel_rfl
  · kernel_rfl
  · rfl
  apply s_calm 1 rfl
  · exact yM rfl
  · with_reducible (repeat (first | exact cB | apply cT | apply cK))
  · kernel_rfl
  · kernel_rfl
  · rfl
  apply s_calm 2 rfl
  · exact yM rfl
  · with_reducible (repeat (first | exact cB | apply cT | apply cK))
  · kernel_rfl
  · kernel_rfl
  · rfl
  apply s_calm 3 rfl
  · exact yM rfl
  · with_reducible (repeat (first | exact cB | apply cT | apply cK))
  · kernel_rfl
  · kernel_rfl
  · rfl
  apply s_calm 4 rfl
  · exact yM rfl
  · with_reducible (repeat (first | exact cB | apply cT | apply cK))
  · kernel_rfl
  · kernel_rfl
  · rfl
  apply s_calm 5 rfl
  · exact yM rfl
  · with_reducible (repeat (first | exact cB | apply cT | apply cK))
  · kernel_rfl
  · kernel_rfl
  · rfl
  apply s_calm 6 rfl
  · (first | exact y_indexAddr1 rfl rfl (hE.t rfl) (by omega) (by omega) | exact y_indexAddr rfl rfl (hE.t rfl) (by omega) (by omega))
  · with_reducible (repeat (first | exact cB | apply cT | apply cK))
  · kernel_rfl
  · kernel_rfl
  · rfl
  apply s_take 7 rfl
  · (apply y_load rfl (hE.t rfl) rfl; (repeat (first | rfl | assumption | constructor)); done)
  · with_reducible (repeat (first | exact cB | apply cT | apply cK))
  · kernel_rfl
  · rfl
  apply s_calm 8 rfl
  · exact yM rfl
  · with_reducible (repeat (first | exact cB | apply cT | apply cK))
  · kernel_rfl
  · kernel_rfl
  · rfl
  apply s_calm 9 rfl
  · exact yM rfl
  · with_reducible (repeat (first | exact cB | apply cT | apply cK))
  · kernel_rfl
  · kernel_rfl
  · rfl
  apply s_calm 10 rfl
  · (first | exact y_indexAddr1 rfl rfl (hE.t rfl) (by omega) (by omega) | exact y_indexAddr rfl rfl (hE.t rfl) (by omega) (by omega))
  · with_reducible (repeat (first | exact cB | apply cT | apply cK))
  · kernel_rfl
  · kernel_rfl
  · rfl
  apply s_take 11 rfl
  · (apply y_load rfl (hE.t rfl) rfl; (repeat (first | rfl | assumption | constructor)); done)
  · with_reducible (repeat (first | exact cB | apply cT | apply cK))
  · kernel_rfl
  · rfl
  apply s_calm 12 rfl
  · (first | exact y_indexAddr1 rfl rfl (hE.t rfl) (by omega) (by omega) | exact y_indexAddr rfl rfl (hE.t rfl) (by omega) (by omega))
  · with_reducible (repeat (first | exact cB | apply cT | apply cK))
  · kernel_rfl
  · kernel_rfl
  · rfl
  apply s_next rfl (by kernel_rfl) rfl
  (first | (apply ld_store rfl rfl (hE.t rfl) rfl; (focus ((repeat constructor); done)); (focus rfl); (focus (exact Nat.le_of_ble_eq_true rfl))) | (apply ld_store_sl rfl rfl (hE.t rfl) rfl; (focus ((repeat constructor); done)); (focus rfl); (focus (first | omega | (simp only [cellsL, length_setMany, List.length_cons, List.length_nil]; omega)))))
  refine ⟨by (apply ent; (repeat constructor); done), ?_⟩
  apply s_calm 14 rfl
  · (first | exact y_indexAddr1 rfl rfl (hE.t rfl) (by omega) (by omega) | exact y_indexAddr rfl rfl (hE.t rfl) (by omega) (by omega))
  · with_reducible (repeat (first | exact cB | apply cT | apply cK))
  · kernel_rfl
  · kernel_rfl
  · rfl
  apply s_last rfl (by kernel_rfl) (by kernel_rfl) rfl
  (first | (apply ld_store rfl rfl (hE.t rfl) rfl; (focus ((repeat constructor); done)); (focus rfl); (focus (exact Nat.le_of_ble_eq_true rfl))) | (apply ld_store_sl rfl rfl (hE.t rfl) rfl; (focus ((repeat constructor); done)); (focus rfl); (focus (first | omega | (simp only [cellsL, length_setMany, List.length_cons, List.length_nil]; omega)))))
  refine aT (w_seq (wR ?_))
  refine lY (yM rfl) rfl ?_
  refine lY (y_add rfl rfl (by omega) (by omega)) rfl ?_
  refine lY (yM rfl) rfl ?_
  refine lY (y_sub rfl rfl (by omega) (by omega)) rfl ?_
  refine lY (yA rfl) rfl ?_
  refine lY (yA rfl) rfl ?_
  refine l_nil (aT ?_)
  simp only [cellsL]
  rw [dC_swp d (i := a) (j := pv) (by omega) (by omega)]
  case ho => omega
  case ho' => omega
  refine w_eq 12 (.int .i64 ((a + 1 : Nat) : Int)) rfl (int_eq (by omega)) ?_
  refine w_eq 13 (.int .i64 ((b - 1 : Nat) : Int)) rfl (int_eq (by omega)) ?_
  have hd1 := hd.swp (show a < n by omega) (show pv < n by omega)
  generalize swp d a pv = d1 at *
  have hs1 := hd1.1
  obtain ⟨i1, hi1⟩ : ∃ i1, scanUp (fun x => ltF cf x d1[a]!) d1 (b - 1) (a + 1) = i1 := ⟨_, rfl⟩
  rw [hi1] at hr'
  obtain ⟨j1, hj1⟩ : ∃ j1, scanDown (fun x => !ltF cf x d1[a]!) d1 i1 (b - 1) = j1 := ⟨_, rfl⟩
  rw [hj1] at hr'
  refine w_cut (fun _ : Unit => [(0, .slice (some ⟨g, 0, none⟩) n c), (1, .int .i64 (a : Nat)), (4, .func (.func fc) #[] ⟨caps⟩), (12, .int .i64 ((i1 : Nat) : Int)), (13, .int .i64 (((b - 1) : Nat) : Int))]) (fun _ => [sl (some ⟨g, 0, none⟩) c 27 1 n (dC (d1)), q, R]) (fun _ => (a + 1) ≤ i1 ∧ i1 ≤ (b - 1) + 2) ?_ ?_
  · skip
    refine w_block ?_
    skip
    refine w_loop (fun x : Nat => [(0, .slice (some ⟨g, 0, none⟩) n c), (1, .int .i64 (a : Nat)), (4, .func (.func fc) #[] ⟨caps⟩), (12, .int .i64 ((x : Nat) : Int)), (13, .int .i64 (((b - 1) : Nat) : Int))]) (fun _ => [sl (some ⟨g, 0, none⟩) c 27 1 n (dC (d1)), q, R]) (fun x => (b - 1) + 1 - x) (fun x => scanUp (fun x => ltF cf x (d1)[a]!) (d1) ((b - 1)) x = i1 ∧ (a + 1) ≤ x ∧ x ≤ (b - 1) + 2) ((a + 1)) ?_ ?_ ?_ ?_
    · exact ⟨hi1, by omega, by omega⟩
    · exact ⟨rfl, rfl, rfl, rfl, rfl, trivial⟩
    · (apply ent; (repeat constructor); done)
    rintro x ⟨hx, hx1, hx2⟩
    skip
    refine w_seq (w_seq (w_draws (by kernel_rfl) ?_))
    refine lY (yM rfl) rfl ?_
    refine lY (yM rfl) rfl ?_
    refine lY (y_le rfl rfl) rfl ?_
    refine lY (yM rfl) rfl ?_
    refine l_split 35 rfl (fun sp => ?_) (fun sp => ?_)
    · skip
      have f0 := dC_get (d1) (i := x) (by omega) ((x : Nat) : Int).toNat (by omega)
      have f1 := dC_get (d1) (i := a) (by omega) ((a : Nat) : Int).toNat (by omega)
      have hcc := hc _ _ (hd1.2 (x) (by omega)) (hd1.2 (a) (by omega))
      refine l_on rfl rfl ?_
      refine lY (yM rfl) rfl ?_
      refine l_on rfl rfl ?_
      refine lY (yM rfl) rfl ?_
      refine l_on rfl rfl ?_
      refine lY (yM rfl) rfl ?_
      refine l_on rfl rfl ?_
      apply lY
      · (first | exact y_indexAddr1 rfl rfl (hE.t rfl) (by omega) (by omega) | exact y_indexAddr rfl rfl (hE.t rfl) (by omega) (by omega))
      · rfl
      refine l_on rfl rfl ?_
      apply lY
      · (apply y_load rfl (hE.t rfl) rfl; (repeat (first | rfl | assumption | constructor)); done)
      · rfl
      refine l_on rfl rfl ?_
      refine lY (yM rfl) rfl ?_
      refine l_on rfl rfl ?_
      refine lY (yM rfl) rfl ?_
      refine l_on rfl rfl ?_
      apply lY
      · (first | exact y_indexAddr1 rfl rfl (hE.t rfl) (by omega) (by omega) | exact y_indexAddr rfl rfl (hE.t rfl) (by omega) (by omega))
      · rfl
      refine l_on rfl rfl ?_
      apply lY
      · (apply y_load rfl (hE.t rfl) rfl; (repeat (first | rfl | assumption | constructor)); done)
      · rfl
      refine l_on rfl rfl ?_
      apply lL (by kernel_rfl) rfl
      apply ld_callv (hx := rfl) (ha := rfl) (hf := hf)
      · exact hcc
      · ((repeat constructor); done)
      rintro _ _ ⟨rfl, rfl⟩
      simp only [List.cons_append, List.nil_append]
      refine l_on rfl rfl ?_
      refine lY (y_lt rfl rfl) rfl ?_
      apply lY
      · (first | exact y_pick_t rfl rfl | exact y_pick_f rfl rfl)
      · rfl
      refine l_nil (aT ?_)
      refine w_cond_d rfl (fun gp => ?_) (fun gp => ?_)
      · skip
        refine w_skip (aT (w_block (wR ?_)))
        refine lY (yM rfl) rfl ?_
        refine lY (y_add rfl rfl (by omega) (by omega)) rfl ?_
        refine lY (yA rfl) rfl ?_
        refine l_nil (a_block ?_)
        refine a_round (x + 1) ⟨?_, by omega, by omega⟩ (by omega) ⟨rfl, rfl, rfl, congrArg some (int_eq (by omega)), rfl, trivial⟩ (by (apply ent; (repeat constructor); done))
        rw [← hx]
        conv => rhs; rw [scanUp, if_pos (by simp [ltF, gp]; omega)]
      · skip
        rw [scanUp, if_neg (by simp [ltF, gp])] at hx
        rw [← hx]
        refine w_exit (a_then_exit (a_then_exit (a_block_exit ?_)))
        refine a_cut () (by omega) ⟨rfl, rfl, rfl, rfl, rfl, trivial⟩ (by (apply ent; (repeat constructor); done))
    · skip
      rw [scanUp, if_neg (by simp; omega)] at hx
      rw [← hx]
      refine l_off rfl rfl rfl rfl (l_off rfl rfl rfl rfl (l_off rfl rfl rfl rfl (l_off rfl rfl rfl rfl (l_off rfl rfl rfl rfl (l_off rfl rfl rfl rfl (l_off rfl rfl rfl rfl (l_off rfl rfl rfl rfl ?_)))))))
      refine l_off rfl rfl rfl rfl (l_off rfl rfl rfl rfl (l_off rfl rfl rfl rfl ?_))
      apply lY
      · (first | exact y_pick_t rfl rfl | exact y_pick_f rfl rfl)
      · rfl
      refine l_nil (aT ?_)
      refine w_cond_f rfl ?_
      refine w_exit (a_then_exit (a_then_exit (a_block_exit ?_)))
      refine a_cut () (by omega) ⟨rfl, rfl, rfl, rfl, rfl, trivial⟩ (by (apply ent; (repeat constructor); done))
  rintro _ ⟨hi1a, hi1b⟩
  skip
  skip
  refine w_cut (fun _ : Unit => [(0, .slice (some ⟨g, 0, none⟩) n c), (1, .int .i64 (a : Nat)), (4, .func (.func fc) #[] ⟨caps⟩), (12, .int .i64 ((i1 : Nat) : Int)), (13, .int .i64 ((j1 : Nat) : Int))]) (fun _ => [sl (some ⟨g, 0, none⟩) c 27 1 n (dC (d1)), q, R]) (fun _ => a ≤ j1 ∧ j1 ≤ (b - 1)) ?_ ?_
  · skip
    refine w_block ?_
    skip
    refine w_loop (fun x : Nat => [(0, .slice (some ⟨g, 0, none⟩) n c), (1, .int .i64 (a : Nat)), (4, .func (.func fc) #[] ⟨caps⟩), (12, .int .i64 ((i1 : Nat) : Int)), (13, .int .i64 ((x : Nat) : Int))]) (fun _ => [sl (some ⟨g, 0, none⟩) c 27 1 n (dC (d1)), q, R]) (fun x => x) (fun x => scanDown (fun x => !ltF cf x (d1)[a]!) (d1) (i1) x = j1 ∧ a ≤ x ∧ x ≤ (b - 1)) ((b - 1)) ?_ ?_ ?_ ?_
    · exact ⟨hj1, by omega, by omega⟩
    · exact ⟨rfl, rfl, rfl, rfl, rfl, trivial⟩
    · (apply ent; (repeat constructor); done)
    rintro x ⟨hx, hx1, hx2⟩
    skip
    refine w_seq (w_seq (w_draws (by kernel_rfl) ?_))
    refine lY (yM rfl) rfl ?_
    refine lY (yM rfl) rfl ?_
    refine lY (y_le rfl rfl) rfl ?_
    refine lY (yM rfl) rfl ?_
    refine l_split 53 rfl (fun sq => ?_) (fun sq => ?_)
    · skip
      obtain ⟨x, rfl⟩ : ∃ k, x = k + 1 := ⟨x - 1, by omega⟩
      have f0 := dC_get (d1) (i := x + 1) (by omega) ((x + 1 : Nat) : Int).toNat (by omega)
      have f1 := dC_get (d1) (i := a) (by omega) ((a : Nat) : Int).toNat (by omega)
      have hcc := hc _ _ (hd1.2 (x + 1) (by omega)) (hd1.2 (a) (by omega))
      refine l_on rfl rfl ?_
      refine lY (yM rfl) rfl ?_
      refine l_on rfl rfl ?_
      refine lY (yM rfl) rfl ?_
      refine l_on rfl rfl ?_
      refine lY (yM rfl) rfl ?_
      refine l_on rfl rfl ?_
      apply lY
      · (first | exact y_indexAddr1 rfl rfl (hE.t rfl) (by omega) (by omega) | exact y_indexAddr rfl rfl (hE.t rfl) (by omega) (by omega))
      · rfl
      refine l_on rfl rfl ?_
      apply lY
      · (apply y_load rfl (hE.t rfl) rfl; (repeat (first | rfl | assumption | constructor)); done)
      · rfl
      refine l_on rfl rfl ?_
      refine lY (yM rfl) rfl ?_
      refine l_on rfl rfl ?_
      refine lY (yM rfl) rfl ?_
      refine l_on rfl rfl ?_
      apply lY
      · (first | exact y_indexAddr1 rfl rfl (hE.t rfl) (by omega) (by omega) | exact y_indexAddr rfl rfl (hE.t rfl) (by omega) (by omega))
      · rfl
      refine l_on rfl rfl ?_
      apply lY
      · (apply y_load rfl (hE.t rfl) rfl; (repeat (first | rfl | assumption | constructor)); done)
      · rfl
      refine l_on rfl rfl ?_
      apply lL (by kernel_rfl) rfl
      apply ld_callv (hx := rfl) (ha := rfl) (hf := hf)
      · exact hcc
      · ((repeat constructor); done)
      rintro _ _ ⟨rfl, rfl⟩
      simp only [List.cons_append, List.nil_append]
      refine l_on rfl rfl ?_
      refine lY (y_lt rfl rfl) rfl ?_
      refine l_on rfl rfl ?_
      refine lY (y_not rfl) rfl ?_
      apply lY
      · (first | exact y_pick_t rfl rfl | exact y_pick_f rfl rfl)
      · rfl
      refine l_nil (aT ?_)
      refine w_cond_nd rfl (fun gq => ?_) (fun gq => ?_)
      · skip
        refine w_skip (aT (w_block (wR ?_)))
        refine lY (yM rfl) rfl ?_
        refine lY (y_sub rfl rfl (by omega) (by omega)) rfl ?_
        refine lY (yA rfl) rfl ?_
        refine l_nil (a_block ?_)
        refine a_round (x) ⟨?_, by omega, by omega⟩ (by omega) ⟨rfl, rfl, rfl, rfl, congrArg some (int_eq (by omega)), trivial⟩ (by (apply ent; (repeat constructor); done))
        rw [← hx]
        conv => rhs; rw [scanDown, if_pos (by simp [ltF, gq]; omega)]
      · skip
        rw [scanDown, if_neg (by simp [ltF, gq])] at hx
        rw [← hx]
        refine w_exit (a_then_exit (a_then_exit (a_block_exit ?_)))
        refine a_cut () (by omega) ⟨rfl, rfl, rfl, rfl, rfl, trivial⟩ (by (apply ent; (repeat constructor); done))
    · skip
      have hx' : x = j1 := by
        rw [← hx]
        cases x with
        | zero => rfl
        | succ x => rw [scanDown, if_neg (by simp; omega)]
      rw [← hx']
      refine l_off rfl rfl rfl rfl (l_off rfl rfl rfl rfl (l_off rfl rfl rfl rfl (l_off rfl rfl rfl rfl (l_off rfl rfl rfl rfl (l_off rfl rfl rfl rfl (l_off rfl rfl rfl rfl (l_off rfl rfl rfl rfl ?_)))))))
      refine l_off rfl rfl rfl rfl (l_off rfl rfl rfl rfl (l_off rfl rfl rfl rfl (l_off rfl rfl rfl rfl ?_)))
      apply lY
      · (first | exact y_pick_t rfl rfl | exact y_pick_f rfl rfl)
      · rfl
      refine l_nil (aT ?_)
      refine w_cond_f rfl ?_
      refine w_exit (a_then_exit (a_then_exit (a_block_exit ?_)))
      refine a_cut () (by omega) ⟨rfl, rfl, rfl, rfl, rfl, trivial⟩ (by (apply ent; (repeat constructor); done))
  rintro _ ⟨hj1a, hj1b⟩
  skip
  refine w_seq (w_seq (wR ?_))
  refine lY (yM rfl) rfl ?_
  refine lY (yM rfl) rfl ?_
  refine lY (y_gt rfl rfl) rfl ?_
  refine l_nil (aT ?_)
  refine w_cond_d rfl (fun h6 => ?_) (fun h6 => ?_)
  · skip
    rw [if_pos (by omega)] at hr'
    subst hr'
    have f4 := dC_get d1 (i := a) (by omega) ((a : Int)).toNat (by omega)
    have f5 := dC_get d1 (i := j1) (by omega) ((j1 : Int)).toNat (by omega)
    skip
    refine w_seq ?_
    refine w_stages 13 ([sl (some ⟨g, 0, none⟩) c 27 1 n (dC d1), q]) [(15, [])] ?_ ?_
    · (apply ent; (repeat constructor); done)
    apply s_calm 0 rfl
    · exact yM rfl
    · with_reducible (repeat (first | exact cB | apply cT | apply cK))
    · kernel_rfl
    · kernel_rfl
    · rfl
    apply s_calm 1 rfl
    · exact yM rfl
    · with_reducible (repeat (first | exact cB | apply cT | apply cK))
    · kernel_rfl
    · kernel_rfl
    · rfl
    apply s_calm 2 rfl
    · exact yM rfl
    · with_reducible (repeat (first | exact cB | apply cT | apply cK))
    · kernel_rfl
    · kernel_rfl
    · rfl
    apply s_calm 3 rfl
    · exact yM rfl
    · with_reducible (repeat (first | exact cB | apply cT | apply cK))
    · kernel_rfl
    · kernel_rfl
    · rfl
    apply s_calm 4 rfl
    · exact yM rfl
    · with_reducible (repeat (first | exact cB | apply cT | apply cK))
    · kernel_rfl
    · kernel_rfl
    · rfl
    apply s_calm 5 rfl
    · exact yM rfl
    · with_reducible (repeat (first | exact cB | apply cT | apply cK))
    · kernel_rfl
    · kernel_rfl
    · rfl
    apply s_calm 6 rfl
    · (first | exact y_indexAddr1 rfl rfl (hE.t rfl) (by omega) (by omega) | exact y_indexAddr rfl rfl (hE.t rfl) (by omega) (by omega))
    · with_reducible (repeat (first | exact cB | apply cT | apply cK))
    · kernel_rfl
    · kernel_rfl
    · rfl
    apply s_take 7 rfl
    · (apply y_load rfl (hE.t rfl) rfl; (repeat (first | rfl | assumption | constructor)); done)
    · with_reducible (repeat (first | exact cB | apply cT | apply cK))
    · kernel_rfl
    · rfl
    apply s_calm 8 rfl
    · exact yM rfl
    · with_reducible (repeat (first | exact cB | apply cT | apply cK))
    · kernel_rfl
    · kernel_rfl
    · rfl
    apply s_calm 9 rfl
    · exact yM rfl
    · with_reducible (repeat (first | exact cB | apply cT | apply cK))
    · kernel_rfl
    · kernel_rfl
    · rfl
    apply s_calm 10 rfl
    · (first | exact y_indexAddr1 rfl rfl (hE.t rfl) (by omega) (by omega) | exact y_indexAddr rfl rfl (hE.t rfl) (by omega) (by omega))
    · with_reducible (repeat (first | exact cB | apply cT | apply cK))
    · kernel_rfl
    · kernel_rfl
    · rfl
    apply s_take 11 rfl
    · (apply y_load rfl (hE.t rfl) rfl; (repeat (first | rfl | assumption | constructor)); done)
    · with_reducible (repeat (first | exact cB | apply cT | apply cK))
    · kernel_rfl
    · rfl
    apply s_calm 12 rfl
    · (first | exact y_indexAddr1 rfl rfl (hE.t rfl) (by omega) (by omega) | exact y_indexAddr rfl rfl (hE.t rfl) (by omega) (by omega))
    · with_reducible (repeat (first | exact cB | apply cT | apply cK))
    · kernel_rfl
    · kernel_rfl
    · rfl
    apply s_next rfl (by kernel_rfl) rfl
    (first | (apply ld_store rfl rfl (hE.t rfl) rfl; (focus ((repeat constructor); done)); (focus rfl); (focus (exact Nat.le_of_ble_eq_true rfl))) | (apply ld_store_sl rfl rfl (hE.t rfl) rfl; (focus ((repeat constructor); done)); (focus rfl); (focus (first | omega | (simp only [cellsL, length_setMany, List.length_cons, List.length_nil]; omega)))))
    refine ⟨by (apply ent; (repeat constructor); done), ?_⟩
    apply s_calm 14 rfl
    · (first | exact y_indexAddr1 rfl rfl (hE.t rfl) (by omega) (by omega) | exact y_indexAddr rfl rfl (hE.t rfl) (by omega) (by omega))
    · with_reducible (repeat (first | exact cB | apply cT | apply cK))
    · kernel_rfl
    · kernel_rfl
    · rfl
    apply s_last rfl (by kernel_rfl) (by kernel_rfl) rfl
    (first | (apply ld_store rfl rfl (hE.t rfl) rfl; (focus ((repeat constructor); done)); (focus rfl); (focus (exact Nat.le_of_ble_eq_true rfl))) | (apply ld_store_sl rfl rfl (hE.t rfl) rfl; (focus ((repeat constructor); done)); (focus rfl); (focus (first | omega | (simp only [cellsL, length_setMany, List.length_cons, List.length_nil]; omega)))))
    refine aT (w_seq (wR ?_))
    refine lY (yM rfl) rfl ?_
    refine lY (yA rfl) rfl ?_
    refine lY (yA rfl) rfl ?_
    refine l_nil (aT (w_ret (a_then_ret ?_)))
    simp only [cellsL]
    rw [dC_swp d1 (i := j1) (j := a) (by omega) (by omega)]
    case ho => omega
    case ho' => omega
    apply a_ret
    · rfl
    · (apply Rs.tmp rfl; apply Rs.tmp rfl; exact Rs.nil)
    · exact ⟨rfl, rfl, hd1.swp (by omega) (by omega)⟩
    · (apply ent; (repeat constructor); done)
  · skip
    rw [if_neg (by omega)] at hr'
    have f4 := dC_get d1 (i := i1) (by omega) ((i1 : Int)).toNat (by omega)
    have f5 := dC_get d1 (i := j1) (by omega) ((j1 : Int)).toNat (by omega)
    obtain ⟨u, hu⟩ : ∃ u, partLoop (ltF cf) a (i1 + 1) (j1 - 1) (swp d1 i1 j1) = u := ⟨_, rfl⟩
    rw [hu] at hr'
    refine w_skip (aT ?_)
    refine w_seq ?_
    refine w_stages 13 ([sl (some ⟨g, 0, none⟩) c 27 1 n (dC d1), q]) [(15, [])] ?_ ?_
    · (apply ent; (repeat constructor); done)
    apply s_calm 0 rfl
    · exact yM rfl
    · with_reducible (repeat (first | exact cB | apply cT | apply cK))
    · kernel_rfl
    · kernel_rfl
    · rfl
    apply s_calm 1 rfl
    · exact yM rfl
    · with_reducible (repeat (first | exact cB | apply cT | apply cK))
    · kernel_rfl
    · kernel_rfl
    · rfl
    apply s_calm 2 rfl
    · exact yM rfl
    · with_reducible (repeat (first | exact cB | apply cT | apply cK))
    · kernel_rfl
    · kernel_rfl
    · rfl
    apply s_calm 3 rfl
    · exact yM rfl
    · with_reducible (repeat (first | exact cB | apply cT | apply cK))
    · kernel_rfl
    · kernel_rfl
    · rfl
    apply s_calm 4 rfl
    · exact yM rfl
    · with_reducible (repeat (first | exact cB | apply cT | apply cK))
    · kernel_rfl
    · kernel_rfl
    · rfl
    apply s_calm 5 rfl
    · exact yM rfl
    · with_reducible (repeat (first | exact cB | apply cT | apply cK))
    · kernel_rfl
    · kernel_rfl
    · rfl
    apply s_calm 6 rfl
    · (first | exact y_indexAddr1 rfl rfl (hE.t rfl) (by omega) (by omega) | exact y_indexAddr rfl rfl (hE.t rfl) (by omega) (by omega))
    · with_reducible (repeat (first | exact cB | apply cT | apply cK))
    · kernel_rfl
    · kernel_rfl
    · rfl
    apply s_take 7 rfl
    · (apply y_load rfl (hE.t rfl) rfl; (repeat (first | rfl | assumption | constructor)); done)
    · with_reducible (repeat (first | exact cB | apply cT | apply cK))
    · kernel_rfl
    · rfl
    apply s_calm 8 rfl
    · exact yM rfl
    · with_reducible (repeat (first | exact cB | apply cT | apply cK))
    · kernel_rfl
    · kernel_rfl
    · rfl
    apply s_calm 9 rfl
    · exact yM rfl
    · with_reducible (repeat (first | exact cB | apply cT | apply cK))
    · kernel_rfl
    · kernel_rfl
    · rfl
    apply s_calm 10 rfl
    · (first | exact y_indexAddr1 rfl rfl (hE.t rfl) (by omega) (by omega) | exact y_indexAddr rfl rfl (hE.t rfl) (by omega) (by omega))
    · with_reducible (repeat (first | exact cB | apply cT | apply cK))
    · kernel_rfl
    · kernel_rfl
    · rfl
    apply s_take 11 rfl
    · (apply y_load rfl (hE.t rfl) rfl; (repeat (first | rfl | assumption | constructor)); done)
    · with_reducible (repeat (first | exact cB | apply cT | apply cK))
    · kernel_rfl
    · rfl
    apply s_calm 12 rfl
    · (first | exact y_indexAddr1 rfl rfl (hE.t rfl) (by omega) (by omega) | exact y_indexAddr rfl rfl (hE.t rfl) (by omega) (by omega))
    · with_reducible (repeat (first | exact cB | apply cT | apply cK))
    · kernel_rfl
    · kernel_rfl
    · rfl
    apply s_next rfl (by kernel_rfl) rfl
    (first | (apply ld_store rfl rfl (hE.t rfl) rfl; (focus ((repeat constructor); done)); (focus rfl); (focus (exact Nat.le_of_ble_eq_true rfl))) | (apply ld_store_sl rfl rfl (hE.t rfl) rfl; (focus ((repeat constructor); done)); (focus rfl); (focus (first | omega | (simp only [cellsL, length_setMany, List.length_cons, List.length_nil]; omega)))))
    refine ⟨by (apply ent; (repeat constructor); done), ?_⟩
    apply s_calm 14 rfl
    · (first | exact y_indexAddr1 rfl rfl (hE.t rfl) (by omega) (by omega) | exact y_indexAddr rfl rfl (hE.t rfl) (by omega) (by omega))
    · with_reducible (repeat (first | exact cB | apply cT | apply cK))
    · kernel_rfl
    · kernel_rfl
    · rfl
    apply s_last rfl (by kernel_rfl) (by kernel_rfl) rfl
    (first | (apply ld_store rfl rfl (hE.t rfl) rfl; (focus ((repeat constructor); done)); (focus rfl); (focus (exact Nat.le_of_ble_eq_true rfl))) | (apply ld_store_sl rfl rfl (hE.t rfl) rfl; (focus ((repeat constructor); done)); (focus rfl); (focus (first | omega | (simp only [cellsL, length_setMany, List.length_cons, List.length_nil]; omega)))))
    refine aT (w_seq (wR ?_))
    refine lY (yM rfl) rfl ?_
    refine lY (y_add rfl rfl (by omega) (by omega)) rfl ?_
    refine lY (yA rfl) rfl ?_
    refine l_nil (aT (w_seq (wR ?_)))
    refine lY (yM rfl) rfl ?_
    refine lY (y_sub rfl rfl (by omega) (by omega)) rfl ?_
    refine lY (yA rfl) rfl ?_
    refine l_nil (aT (w_seq (w_block ?_)))
    simp only [cellsL]
    rw [dC_swp d1 (i := i1) (j := j1) (by omega) (by omega)]
    case ho => omega
    case ho' => omega
    skip
    refine w_loop (fun x : Nat × Nat × Array Nat => [(0, .slice (some ⟨g, 0, none⟩) n c), (1, .int .i64 (a : Nat)), (4, .func (.func fc) #[] ⟨caps⟩), (12, .int .i64 (x.1 : Nat)), (13, .int .i64 (x.2.1 : Nat))]) (fun x => [sl (some ⟨g, 0, none⟩) c 27 1 n (dC x.2.2), q, R]) (fun x => x.2.1 + 1 - x.1) (fun x => partLoop (ltF cf) a x.1 x.2.1 x.2.2 = u ∧ OkD ok n x.2.2 ∧ a < x.1 ∧ a ≤ x.2.1 ∧ x.1 ≤ x.2.1 + 2 ∧ x.2.1 < b) (i1 + 1, j1 - 1, swp d1 i1 j1) ?_ ?_ ?_ ?_
    · exact ⟨hu, hd1.swp (by omega) (by omega), by show a < i1 + 1; omega, by show a ≤ j1 - 1; omega, by show i1 + 1 ≤ j1 - 1 + 2; omega, by show j1 - 1 < b; omega⟩
    · exact ⟨rfl, rfl, rfl, congrArg some (int_eq (by simp only; omega)), congrArg some (int_eq (by simp only; omega)), trivial⟩
    · (apply ent; (repeat constructor); done)
    rintro ⟨i, j, e⟩ ⟨he, hde, hi, haj, hij, hj⟩
    simp only at he hde hi haj hij hj ⊢
    have hse := hde.1
    rw [partLoop_eq] at he
    obtain ⟨i2, hi2⟩ : ∃ i2, scanUp (fun x => ltF cf x e[a]!) e j i = i2 := ⟨_, rfl⟩
    rw [hi2] at he
    obtain ⟨j2, hj2⟩ : ∃ j2, scanDown (fun x => !ltF cf x e[a]!) e i2 j = j2 := ⟨_, rfl⟩
    rw [hj2] at he
    skip
    skip
    refine w_block ?_
    refine w_cut (fun _ : Unit => [(0, .slice (some ⟨g, 0, none⟩) n c), (1, .int .i64 (a : Nat)), (4, .func (.func fc) #[] ⟨caps⟩), (12, .int .i64 ((i2 : Nat) : Int)), (13, .int .i64 ((j : Nat) : Int))]) (fun _ => [sl (some ⟨g, 0, none⟩) c 27 1 n (dC (e)), q, R]) (fun _ => i ≤ i2 ∧ i2 ≤ j + 2) ?_ ?_
    · skip
      refine w_block ?_
      skip
      refine w_loop (fun x : Nat => [(0, .slice (some ⟨g, 0, none⟩) n c), (1, .int .i64 (a : Nat)), (4, .func (.func fc) #[] ⟨caps⟩), (12, .int .i64 ((x : Nat) : Int)), (13, .int .i64 ((j : Nat) : Int))]) (fun _ => [sl (some ⟨g, 0, none⟩) c 27 1 n (dC (e)), q, R]) (fun x => j + 1 - x) (fun x => scanUp (fun x => ltF cf x (e)[a]!) (e) (j) x = i2 ∧ i ≤ x ∧ x ≤ j + 2) (i) ?_ ?_ ?_ ?_
      · exact ⟨hi2, by omega, by omega⟩
      · exact ⟨rfl, rfl, rfl, rfl, rfl, trivial⟩
      · (apply ent; (repeat constructor); done)
      rintro x ⟨hx, hx1, hx2⟩
      skip
      refine w_seq (w_seq (w_draws (by kernel_rfl) ?_))
      refine lY (yM rfl) rfl ?_
      refine lY (yM rfl) rfl ?_
      refine lY (y_le rfl rfl) rfl ?_
      refine lY (yM rfl) rfl ?_
      refine l_split 108 rfl (fun su => ?_) (fun su => ?_)
      · skip
        have f0 := dC_get (e) (i := x) (by omega) ((x : Nat) : Int).toNat (by omega)
        have f1 := dC_get (e) (i := a) (by omega) ((a : Nat) : Int).toNat (by omega)
        have hcc := hc _ _ (hde.2 (x) (by omega)) (hde.2 (a) (by omega))
        refine l_on rfl rfl ?_
        refine lY (yM rfl) rfl ?_
        refine l_on rfl rfl ?_
        refine lY (yM rfl) rfl ?_
        refine l_on rfl rfl ?_
        refine lY (yM rfl) rfl ?_
        refine l_on rfl rfl ?_
        apply lY
        · (first | exact y_indexAddr1 rfl rfl (hE.t rfl) (by omega) (by omega) | exact y_indexAddr rfl rfl (hE.t rfl) (by omega) (by omega))
        · rfl
        refine l_on rfl rfl ?_
        apply lY
        · (apply y_load rfl (hE.t rfl) rfl; (repeat (first | rfl | assumption | constructor)); done)
        · rfl
        refine l_on rfl rfl ?_
        refine lY (yM rfl) rfl ?_
        refine l_on rfl rfl ?_
        refine lY (yM rfl) rfl ?_
        refine l_on rfl rfl ?_
        apply lY
        · (first | exact y_indexAddr1 rfl rfl (hE.t rfl) (by omega) (by omega) | exact y_indexAddr rfl rfl (hE.t rfl) (by omega) (by omega))
        · rfl
        refine l_on rfl rfl ?_
        apply lY
        · (apply y_load rfl (hE.t rfl) rfl; (repeat (first | rfl | assumption | constructor)); done)
        · rfl
        refine l_on rfl rfl ?_
        apply lL (by kernel_rfl) rfl
        apply ld_callv (hx := rfl) (ha := rfl) (hf := hf)
        · exact hcc
        · ((repeat constructor); done)
        rintro _ _ ⟨rfl, rfl⟩
        simp only [List.cons_append, List.nil_append]
        refine l_on rfl rfl ?_
        refine lY (y_lt rfl rfl) rfl ?_
        apply lY
        · (first | exact y_pick_t rfl rfl | exact y_pick_f rfl rfl)
        · rfl
        refine l_nil (aT ?_)
        refine w_cond_d rfl (fun gu => ?_) (fun gu => ?_)
        · skip
          refine w_skip (aT (w_block (wR ?_)))
          refine lY (yM rfl) rfl ?_
          refine lY (y_add rfl rfl (by omega) (by omega)) rfl ?_
          refine lY (yA rfl) rfl ?_
          refine l_nil (a_block ?_)
          refine a_round (x + 1) ⟨?_, by omega, by omega⟩ (by omega) ⟨rfl, rfl, rfl, congrArg some (int_eq (by omega)), rfl, trivial⟩ (by (apply ent; (repeat constructor); done))
          rw [← hx]
          conv => rhs; rw [scanUp, if_pos (by simp [ltF, gu]; omega)]
        · skip
          rw [scanUp, if_neg (by simp [ltF, gu])] at hx
          rw [← hx]
          refine w_exit (a_then_exit (a_then_exit (a_block_exit ?_)))
          refine a_cut () (by omega) ⟨rfl, rfl, rfl, rfl, rfl, trivial⟩ (by (apply ent; (repeat constructor); done))
      · skip
        rw [scanUp, if_neg (by simp; omega)] at hx
        rw [← hx]
        refine l_off rfl rfl rfl rfl (l_off rfl rfl rfl rfl (l_off rfl rfl rfl rfl (l_off rfl rfl rfl rfl (l_off rfl rfl rfl rfl (l_off rfl rfl rfl rfl (l_off rfl rfl rfl rfl (l_off rfl rfl rfl rfl ?_)))))))
        refine l_off rfl rfl rfl rfl (l_off rfl rfl rfl rfl (l_off rfl rfl rfl rfl ?_))
        apply lY
        · (first | exact y_pick_t rfl rfl | exact y_pick_f rfl rfl)
        · rfl
        refine l_nil (aT ?_)
        refine w_cond_f rfl ?_
        refine w_exit (a_then_exit (a_then_exit (a_block_exit ?_)))
        refine a_cut () (by omega) ⟨rfl, rfl, rfl, rfl, rfl, trivial⟩ (by (apply ent; (repeat constructor); done))
    rintro _ ⟨hi2a, hi2b⟩
    skip
    skip
    refine w_cut (fun _ : Unit => [(0, .slice (some ⟨g, 0, none⟩) n c), (1, .int .i64 (a : Nat)), (4, .func (.func fc) #[] ⟨caps⟩), (12, .int .i64 ((i2 : Nat) : Int)), (13, .int .i64 ((j2 : Nat) : Int))]) (fun _ => [sl (some ⟨g, 0, none⟩) c 27 1 n (dC (e)), q, R]) (fun _ => a ≤ j2 ∧ j2 ≤ j) ?_ ?_
    · skip
      refine w_block ?_
      skip
      refine w_loop (fun x : Nat => [(0, .slice (some ⟨g, 0, none⟩) n c), (1, .int .i64 (a : Nat)), (4, .func (.func fc) #[] ⟨caps⟩), (12, .int .i64 ((i2 : Nat) : Int)), (13, .int .i64 ((x : Nat) : Int))]) (fun _ => [sl (some ⟨g, 0, none⟩) c 27 1 n (dC (e)), q, R]) (fun x => x) (fun x => scanDown (fun x => !ltF cf x (e)[a]!) (e) (i2) x = j2 ∧ a ≤ x ∧ x ≤ j) (j) ?_ ?_ ?_ ?_
      · exact ⟨hj2, by omega, by omega⟩
      · exact ⟨rfl, rfl, rfl, rfl, rfl, trivial⟩
      · (apply ent; (repeat constructor); done)
      rintro x ⟨hx, hx1, hx2⟩
      skip
      refine w_seq (w_seq (w_draws (by kernel_rfl) ?_))
      refine lY (yM rfl) rfl ?_
      refine lY (yM rfl) rfl ?_
      refine lY (y_le rfl rfl) rfl ?_
      refine lY (yM rfl) rfl ?_
      refine l_split 126 rfl (fun sw => ?_) (fun sw => ?_)
      · skip
        obtain ⟨x, rfl⟩ : ∃ k, x = k + 1 := ⟨x - 1, by omega⟩
        have f0 := dC_get (e) (i := x + 1) (by omega) ((x + 1 : Nat) : Int).toNat (by omega)
        have f1 := dC_get (e) (i := a) (by omega) ((a : Nat) : Int).toNat (by omega)
        have hcc := hc _ _ (hde.2 (x + 1) (by omega)) (hde.2 (a) (by omega))
        refine l_on rfl rfl ?_
        refine lY (yM rfl) rfl ?_
        refine l_on rfl rfl ?_
        refine lY (yM rfl) rfl ?_
        refine l_on rfl rfl ?_
        refine lY (yM rfl) rfl ?_
        refine l_on rfl rfl ?_
        apply lY
        · (first | exact y_indexAddr1 rfl rfl (hE.t rfl) (by omega) (by omega) | exact y_indexAddr rfl rfl (hE.t rfl) (by omega) (by omega))
        · rfl
        refine l_on rfl rfl ?_
        apply lY
        · (apply y_load rfl (hE.t rfl) rfl; (repeat (first | rfl | assumption | constructor)); done)
        · rfl
        refine l_on rfl rfl ?_
        refine lY (yM rfl) rfl ?_
        refine l_on rfl rfl ?_
        refine lY (yM rfl) rfl ?_
        refine l_on rfl rfl ?_
        apply lY
        · (first | exact y_indexAddr1 rfl rfl (hE.t rfl) (by omega) (by omega) | exact y_indexAddr rfl rfl (hE.t rfl) (by omega) (by omega))
        · rfl
        refine l_on rfl rfl ?_
        apply lY
        · (apply y_load rfl (hE.t rfl) rfl; (repeat (first | rfl | assumption | constructor)); done)
        · rfl
        refine l_on rfl rfl ?_
        apply lL (by kernel_rfl) rfl
        apply ld_callv (hx := rfl) (ha := rfl) (hf := hf)
        · exact hcc
        · ((repeat constructor); done)
        rintro _ _ ⟨rfl, rfl⟩
        simp only [List.cons_append, List.nil_append]
        refine l_on rfl rfl ?_
        refine lY (y_lt rfl rfl) rfl ?_
        refine l_on rfl rfl ?_
        refine lY (y_not rfl) rfl ?_
        apply lY
        · (first | exact y_pick_t rfl rfl | exact y_pick_f rfl rfl)
        · rfl
        refine l_nil (aT ?_)
        refine w_cond_nd rfl (fun gw => ?_) (fun gw => ?_)
        · skip
          refine w_skip (aT (w_block (wR ?_)))
          refine lY (yM rfl) rfl ?_
          refine lY (y_sub rfl rfl (by omega) (by omega)) rfl ?_
          refine lY (yA rfl) rfl ?_
          refine l_nil (a_block ?_)
          refine a_round (x) ⟨?_, by omega, by omega⟩ (by omega) ⟨rfl, rfl, rfl, rfl, congrArg some (int_eq (by omega)), trivial⟩ (by (apply ent; (repeat constructor); done))
          rw [← hx]
          conv => rhs; rw [scanDown, if_pos (by simp [ltF, gw]; omega)]
        · skip
          rw [scanDown, if_neg (by simp [ltF, gw])] at hx
          rw [← hx]
          refine w_exit (a_then_exit (a_then_exit (a_block_exit ?_)))
          refine a_cut () (by omega) ⟨rfl, rfl, rfl, rfl, rfl, trivial⟩ (by (apply ent; (repeat constructor); done))
      · skip
        have hx' : x = j2 := by
          rw [← hx]
          cases x with
          | zero => rfl
          | succ x => rw [scanDown, if_neg (by simp; omega)]
        rw [← hx']
        refine l_off rfl rfl rfl rfl (l_off rfl rfl rfl rfl (l_off rfl rfl rfl rfl (l_off rfl rfl rfl rfl (l_off rfl rfl rfl rfl (l_off rfl rfl rfl rfl (l_off rfl rfl rfl rfl (l_off rfl rfl rfl rfl ?_)))))))
        refine l_off rfl rfl rfl rfl (l_off rfl rfl rfl rfl (l_off rfl rfl rfl rfl (l_off rfl rfl rfl rfl ?_)))
        apply lY
        · (first | exact y_pick_t rfl rfl | exact y_pick_f rfl rfl)
        · rfl
        refine l_nil (aT ?_)
        refine w_cond_f rfl ?_
        refine w_exit (a_then_exit (a_then_exit (a_block_exit ?_)))
        refine a_cut () (by omega) ⟨rfl, rfl, rfl, rfl, rfl, trivial⟩ (by (apply ent; (repeat constructor); done))
    rintro _ ⟨hj2a, hj2b⟩
    skip
    refine w_seq (w_seq (wR ?_))
    refine lY (yM rfl) rfl ?_
    refine lY (yM rfl) rfl ?_
    refine lY (y_gt rfl rfl) rfl ?_
    refine l_nil (aT ?_)
    refine w_cond_d rfl (fun h7 => ?_) (fun h7 => ?_)
    · skip
      rw [if_pos (by omega)] at he
      subst he
      subst hr'
      have f6 := dC_get e (i := a) (by omega) ((a : Int)).toNat (by omega)
      have f7 := dC_get e (i := j2) (by omega) ((j2 : Int)).toNat (by omega)
      refine w_exit (a_then_exit (a_block_far rfl (a_then_exit (a_block_exit (aT ?_)))))
      refine w_seq ?_
      refine w_stages 13 ([sl (some ⟨g, 0, none⟩) c 27 1 n (dC e), q]) [(15, [])] ?_ ?_
      · (apply ent; (repeat constructor); done)
      apply s_calm 0 rfl
      · exact yM rfl
      · with_reducible (repeat (first | exact cB | apply cT | apply cK))
      · kernel_rfl
      · kernel_rfl
      · rfl
      apply s_calm 1 rfl
      · exact yM rfl
      · with_reducible (repeat (first | exact cB | apply cT | apply cK))
      · kernel_rfl
      · kernel_rfl
      · rfl
      apply s_calm 2 rfl
      · exact yM rfl
      · with_reducible (repeat (first | exact cB | apply cT | apply cK))
      · kernel_rfl
      · kernel_rfl
      · rfl
      apply s_calm 3 rfl
      · exact yM rfl
      · with_reducible (repeat (first | exact cB | apply cT | apply cK))
      · kernel_rfl
      · kernel_rfl
      · rfl
      apply s_calm 4 rfl
      · exact yM rfl
      · with_reducible (repeat (first | exact cB | apply cT | apply cK))
      · kernel_rfl
      · kernel_rfl
      · rfl
      apply s_calm 5 rfl
      · exact yM rfl
      · with_reducible (repeat (first | exact cB | apply cT | apply cK))
      · kernel_rfl
      · kernel_rfl
      · rfl
      apply s_calm 6 rfl
      · (first | exact y_indexAddr1 rfl rfl (hE.t rfl) (by omega) (by omega) | exact y_indexAddr rfl rfl (hE.t rfl) (by omega) (by omega))
      · with_reducible (repeat (first | exact cB | apply cT | apply cK))
      · kernel_rfl
      · kernel_rfl
      · rfl
      apply s_take 7 rfl
      · (apply y_load rfl (hE.t rfl) rfl; (repeat (first | rfl | assumption | constructor)); done)
      · with_reducible (repeat (first | exact cB | apply cT | apply cK))
      · kernel_rfl
      · rfl
      apply s_calm 8 rfl
      · exact yM rfl
      · with_reducible (repeat (first | exact cB | apply cT | apply cK))
      · kernel_rfl
      · kernel_rfl
      · rfl
      apply s_calm 9 rfl
      · exact yM rfl
      · with_reducible (repeat (first | exact cB | apply cT | apply cK))
      · kernel_rfl
      · kernel_rfl
      · rfl
      apply s_calm 10 rfl
      · (first | exact y_indexAddr1 rfl rfl (hE.t rfl) (by omega) (by omega) | exact y_indexAddr rfl rfl (hE.t rfl) (by omega) (by omega))
      · with_reducible (repeat (first | exact cB | apply cT | apply cK))
      · kernel_rfl
      · kernel_rfl
      · rfl
      apply s_take 11 rfl
      · (apply y_load rfl (hE.t rfl) rfl; (repeat (first | rfl | assumption | constructor)); done)
      · with_reducible (repeat (first | exact cB | apply cT | apply cK))
      · kernel_rfl
      · rfl
      apply s_calm 12 rfl
      · (first | exact y_indexAddr1 rfl rfl (hE.t rfl) (by omega) (by omega) | exact y_indexAddr rfl rfl (hE.t rfl) (by omega) (by omega))
      · with_reducible (repeat (first | exact cB | apply cT | apply cK))
      · kernel_rfl
      · kernel_rfl
      · rfl
      apply s_next rfl (by kernel_rfl) rfl
      (first | (apply ld_store rfl rfl (hE.t rfl) rfl; (focus ((repeat constructor); done)); (focus rfl); (focus (exact Nat.le_of_ble_eq_true rfl))) | (apply ld_store_sl rfl rfl (hE.t rfl) rfl; (focus ((repeat constructor); done)); (focus rfl); (focus (first | omega | (simp only [cellsL, length_setMany, List.length_cons, List.length_nil]; omega)))))
      refine ⟨by (apply ent; (repeat constructor); done), ?_⟩
      apply s_calm 14 rfl
      · (first | exact y_indexAddr1 rfl rfl (hE.t rfl) (by omega) (by omega) | exact y_indexAddr rfl rfl (hE.t rfl) (by omega) (by omega))
      · with_reducible (repeat (first | exact cB | apply cT | apply cK))
      · kernel_rfl
      · kernel_rfl
      · rfl
      apply s_last rfl (by kernel_rfl) (by kernel_rfl) rfl
      (first | (apply ld_store rfl rfl (hE.t rfl) rfl; (focus ((repeat constructor); done)); (focus rfl); (focus (exact Nat.le_of_ble_eq_true rfl))) | (apply ld_store_sl rfl rfl (hE.t rfl) rfl; (focus ((repeat constructor); done)); (focus rfl); (focus (first | omega | (simp only [cellsL, length_setMany, List.length_cons, List.length_nil]; omega)))))
      refine aT (w_seq (wR ?_))
      refine lY (yM rfl) rfl ?_
      refine lY (yA rfl) rfl ?_
      refine lY (yA rfl) rfl ?_
      refine l_nil (aT (w_ret ?_))
      simp only [cellsL]
      rw [dC_swp e (i := j2) (j := a) (by omega) (by omega)]
      case ho => omega
      case ho' => omega
      apply a_ret
      · rfl
      · (apply Rs.tmp rfl; apply Rs.tmp rfl; exact Rs.nil)
      · exact ⟨rfl, rfl, hde.swp (by omega) (by omega)⟩
      · (apply ent; (repeat constructor); done)
    · skip
      rw [if_neg (by omega)] at he
      have f6 := dC_get e (i := i2) (by omega) ((i2 : Int)).toNat (by omega)
      have f7 := dC_get e (i := j2) (by omega) ((j2 : Int)).toNat (by omega)
      refine w_skip (aT ?_)
      refine w_seq ?_
      refine w_stages 13 ([sl (some ⟨g, 0, none⟩) c 27 1 n (dC e), q]) [(15, [])] ?_ ?_
      · (apply ent; (repeat constructor); done)
      apply s_calm 0 rfl
      · exact yM rfl
      · with_reducible (repeat (first | exact cB | apply cT | apply cK))
      · kernel_rfl
      · kernel_rfl
      · rfl
      apply s_calm 1 rfl
      · exact yM rfl
      · with_reducible (repeat (first | exact cB | apply cT | apply cK))
      · kernel_rfl
      · kernel_rfl
      · rfl
      apply s_calm 2 rfl
      · exact yM rfl
      · with_reducible (repeat (first | exact cB | apply cT | apply cK))
      · kernel_rfl
      · kernel_rfl
      · rfl
      apply s_calm 3 rfl
      · exact yM rfl
      · with_reducible (repeat (first | exact cB | apply cT | apply cK))
      · kernel_rfl
      · kernel_rfl
      · rfl
      apply s_calm 4 rfl
      · exact yM rfl
      · with_reducible (repeat (first | exact cB | apply cT | apply cK))
      · kernel_rfl
      · kernel_rfl
      · rfl
      apply s_calm 5 rfl
      · exact yM rfl
      · with_reducible (repeat (first | exact cB | apply cT | apply cK))
      · kernel_rfl
      · kernel_rfl
      · rfl
      apply s_calm 6 rfl
      · (first | exact y_indexAddr1 rfl rfl (hE.t rfl) (by omega) (by omega) | exact y_indexAddr rfl rfl (hE.t rfl) (by omega) (by omega))
      · with_reducible (repeat (first | exact cB | apply cT | apply cK))
      · kernel_rfl
      · kernel_rfl
      · rfl
      apply s_take 7 rfl
      · (apply y_load rfl (hE.t rfl) rfl; (repeat (first | rfl | assumption | constructor)); done)
      · with_reducible (repeat (first | exact cB | apply cT | apply cK))
      · kernel_rfl
      · rfl
      apply s_calm 8 rfl
      · exact yM rfl
      · with_reducible (repeat (first | exact cB | apply cT | apply cK))
      · kernel_rfl
      · kernel_rfl
      · rfl
      apply s_calm 9 rfl
      · exact yM rfl
      · with_reducible (repeat (first | exact cB | apply cT | apply cK))
      · kernel_rfl
      · kernel_rfl
      · rfl
      apply s_calm 10 rfl
      · (first | exact y_indexAddr1 rfl rfl (hE.t rfl) (by omega) (by omega) | exact y_indexAddr rfl rfl (hE.t rfl) (by omega) (by omega))
      · with_reducible (repeat (first | exact cB | apply cT | apply cK))
      · kernel_rfl
      · kernel_rfl
      · rfl
      apply s_take 11 rfl
      · (apply y_load rfl (hE.t rfl) rfl; (repeat (first | rfl | assumption | constructor)); done)
      · with_reducible (repeat (first | exact cB | apply cT | apply cK))
      · kernel_rfl
      · rfl
      apply s_calm 12 rfl
      · (first | exact y_indexAddr1 rfl rfl (hE.t rfl) (by omega) (by omega) | exact y_indexAddr rfl rfl (hE.t rfl) (by omega) (by omega))
      · with_reducible (repeat (first | exact cB | apply cT | apply cK))
      · kernel_rfl
      · kernel_rfl
      · rfl
      apply s_next rfl (by kernel_rfl) rfl
      (first | (apply ld_store rfl rfl (hE.t rfl) rfl; (focus ((repeat constructor); done)); (focus rfl); (focus (exact Nat.le_of_ble_eq_true rfl))) | (apply ld_store_sl rfl rfl (hE.t rfl) rfl; (focus ((repeat constructor); done)); (focus rfl); (focus (first | omega | (simp only [cellsL, length_setMany, List.length_cons, List.length_nil]; omega)))))
      refine ⟨by (apply ent; (repeat constructor); done), ?_⟩
      apply s_calm 14 rfl
      · (first | exact y_indexAddr1 rfl rfl (hE.t rfl) (by omega) (by omega) | exact y_indexAddr rfl rfl (hE.t rfl) (by omega) (by omega))
      · with_reducible (repeat (first | exact cB | apply cT | apply cK))
      · kernel_rfl
      · kernel_rfl
      · rfl
      apply s_last rfl (by kernel_rfl) (by kernel_rfl) rfl
      (first | (apply ld_store rfl rfl (hE.t rfl) rfl; (focus ((repeat constructor); done)); (focus rfl); (focus (exact Nat.le_of_ble_eq_true rfl))) | (apply ld_store_sl rfl rfl (hE.t rfl) rfl; (focus ((repeat constructor); done)); (focus rfl); (focus (first | omega | (simp only [cellsL, length_setMany, List.length_cons, List.length_nil]; omega)))))
      refine aT (w_seq (wR ?_))
      refine lY (yM rfl) rfl ?_
      refine lY (y_add rfl rfl (by omega) (by omega)) rfl ?_
      refine lY (yA rfl) rfl ?_
      refine l_nil (aT (wR ?_))
      refine lY (yM rfl) rfl ?_
      refine lY (y_sub rfl rfl (by omega) (by omega)) rfl ?_
      refine lY (yA rfl) rfl ?_
      refine l_nil (a_block ?_)
      simp only [cellsL]
      rw [dC_swp e (i := i2) (j := j2) (by omega) (by omega)]
      case ho => omega
      case ho' => omega
      refine a_round (ι := Nat × Nat × Array Nat) (j := (i2 + 1, j2 - 1, swp e i2 j2)) ⟨he, hde.swp (by omega) (by omega), by show a < i2 + 1; omega, by show a ≤ j2 - 1; omega, by show i2 + 1 ≤ j2 - 1 + 2; omega, by show j2 - 1 < b; omega⟩ (by show j2 - 1 + 1 - (i2 + 1) < j + 1 - i; omega) ⟨rfl, rfl, rfl, congrArg some (int_eq (by simp only; omega)), congrArg some (int_eq (by simp only; omega)), trivial⟩ (by (apply ent; (repeat constructor); done))
end Go.Proofs.YtekhbjlplfbdkaaGreatDoor
namespace Sl
open Go Go.RowKit
variable {E : Env} {n : Nat} {L : Fr} {S : List HP} {ty : TypeId} {pos : String} {af : Array Edge} {d : Option Nat} {gd : Option (Nat × Bool)}
theorem y_shl64 {x y : Operand} {xt yt : TypeId} {i j : Nat} {ky : IntKind} (hx : ev L x = some (.int .u64 (i : Nat))) (hy : ev L y = some (.int ky (j : Nat))) (hj : j ≤ 64) :
    Yl E n L S ⟨d, .binOp .shl xt x y yt, ty, pos, af, gd⟩ (.int .u64 ((i * 2 ^ j % 18446744073709551616 : Nat) : Int)) := fun a w g _ => by
  have h := shift_shl_any .u64 ky (i : Int) ((j : Nat) : Int) (Int.natCast_nonneg j)
  have e : IntKind.u64.wrap ((i : Int) * 2 ^ min ((j : Nat) : Int).toNat IntKind.u64.bits) = ((i * 2 ^ j % 18446744073709551616 : Nat) : Int) := by
    rw [Int.toNat_natCast, show min j IntKind.u64.bits = j from Nat.min_eq_left hj, IntKind.wrap_u64, Int.natCast_emod, Int.natCast_mul, Int.natCast_pow]; rfl
  rw [e] at h
  simp [execOp, eqGuard, binOp, g.ev hx, g.ev hy, h]
  exact IntKind.wrap_u64 _
theorem y_xor64 {x y : Operand} {xt yt : TypeId} {i j : Nat} (hx : ev L x = some (.int .u64 (i : Nat))) (hy : ev L y = some (.int .u64 (j : Nat))) (hi : i < 18446744073709551616) (hj : j < 18446744073709551616) :
    Yl E n L S ⟨d, .binOp .xor xt x y yt, ty, pos, af, gd⟩ (.int .u64 ((i ^^^ j : Nat) : Int)) := fun a w g _ => by
  have h := bits_xor_u64_nat i j hi hj
  simp [execOp, eqGuard, binOp, Op.intBits, g.ev hx, g.ev hy]
  exact h
theorem y_and64 {x y : Operand} {xt yt : TypeId} {i j : Nat} (hx : ev L x = some (.int .u64 (i : Nat))) (hy : ev L y = some (.int .u64 (j : Nat))) (hi : i < 18446744073709551616) (hj : j < 18446744073709551616) :
    Yl E n L S ⟨d, .binOp .and xt x y yt, ty, pos, af, gd⟩ (.int .u64 ((i &&& j : Nat) : Int)) := fun a w g _ => by
  have h := bits_and_u64_nat i j hi hj
  simp [execOp, eqGuard, binOp, Op.intBits, g.ev hx, g.ev hy]
  exact h
theorem y_sub64 {x y : Operand} {xt yt : TypeId} {i j : Nat} (hx : ev L x = some (.int .u64 (i : Nat))) (hy : ev L y = some (.int .u64 (j : Nat))) (hi : i < 18446744073709551616) (hj : j ≤ i) :
    Yl E n L S ⟨d, .binOp .sub xt x y yt, ty, pos, af, gd⟩ (.int .u64 ((i - j : Nat) : Int)) := fun a w g _ => by
  have h : IntKind.u64.wrap ((i : Int) - j) = ((i - j : Nat) : Int) := by rw [IntKind.wrap_u64]; omega
  simp [execOp, eqGuard, binOp, Op.intArith, g.ev hx, g.ev hy]
  exact h
end Sl
namespace Go.Proofs.YtekhbjlplfbdkaaGreatDoor
open Go Go.RowKit Sl Eg
set_option maxRecDepth 10000
variable {E : Env}
variable {fc : FuncId} {caps : List Value} {q : HP} {ok : Nat → Prop} {cf : Nat → Nat → Int} {g c n : Nat}
def tab8 : ByteArray := ⟨([0, 1] ++ (List.replicate 2 2 ++ (List.replicate 4 3 ++ (List.replicate 8 4 ++ (List.replicate 16 5 ++ (List.replicate 32 6 ++ (List.replicate 64 7 ++ List.replicate 128 8)))))) : List UInt8).toArray⟩
theorem tab8_all : (List.range 256).all (fun k => match tab8[k]? with | some c => Nat.beq c.toNat (Go.Sort.bitsLen k) | none => false) = true := by decide +kernel
theorem tab8_at {k : Nat} (h : k < 256) : ∃ c, tab8[k]? = some c ∧ c.toNat = Go.Sort.bitsLen k := by
  have h := List.all_eq_true.1 tab8_all k (List.mem_range.2 h)
  cases e : tab8[k]? with
  | none => rw [e] at h; simp at h
  | some c => rw [e] at h; exact ⟨c, rfl, Nat.eq_of_beq_eq_true h⟩
theorem wrap_u8 {i : Nat} (h : i < 256) : IntKind.u8.wrap ((i : Nat) : Int) = (i : Nat) := by
  simp [IntKind.wrap, IntKind.bits, IntKind.signed]
  omega
theorem bitsLen_div (k : Nat) (h : 256 ≤ k) : Go.Sort.bitsLen k = 8 + Go.Sort.bitsLen (k / 2 ^ 8) := by
  apply Nat.le_antisymm
  · rw [Go.Sort.bitsLen_le_iff]
    have := Go.Sort.lt_two_pow_bitsLen (k / 2 ^ 8)
    rw [Nat.pow_add]
    have h2 : k = 2 ^ 8 * (k / 2 ^ 8) + k % 2 ^ 8 := (Nat.div_add_mod k (2 ^ 8)).symm
    have h3 := Nat.mod_lt k (show 2 ^ 8 > 0 by decide)
    have h4 : 2 ^ 8 * (k / 2 ^ 8 + 1) ≤ 2 ^ 8 * 2 ^ Go.Sort.bitsLen (k / 2 ^ 8) := Nat.mul_le_mul_left _ this
    rw [Nat.mul_add] at h4
    omega
  · have h9 : 8 ≤ Go.Sort.bitsLen k := by
      apply Classical.byContradiction
      intro hh
      have := (Go.Sort.bitsLen_le_iff k 7).1 (by omega)
      omega
    have : Go.Sort.bitsLen (k / 2 ^ 8) ≤ Go.Sort.bitsLen k - 8 := by
      rw [Go.Sort.bitsLen_le_iff]
      have := Go.Sort.lt_two_pow_bitsLen k
      apply Nat.div_lt_of_lt_mul
      rw [← Nat.pow_add, show 8 + (Go.Sort.bitsLen k - 8) = Go.Sort.bitsLen k by omega]
      exact this
    omega
theorem ct_Len64s (hE : Seat E) {k : Nat} (h2 : k < 65536) : Ct E 94 [.int .u64 (k : Nat)] [] (fun v Q => v = .int .i64 (Go.Sort.bitsLen k : Nat) ∧ Q = []) := by
  refine fn_enter (hE.fn Tryz.func94) rfl rfl rfl (fun R => ?_)
  simp only [argsL, List.cons_append, List.nil_append]
  refine w_seq (wR ?_)
  refine lY (yA rfl) rfl ?_
  refine l_nil (aT (w_seq (w_seq (wR ?_))))
  refine lY (yM rfl) rfl ?_
  refine lY (y_ge rfl rfl) rfl ?_
  refine l_nil (aT ?_)
  refine w_cond_d rfl (fun g1 => ?_) (fun g1 => ?_)
  · exfalso; omega
  skip
  refine w_skip (aT (w_seq (w_seq (wR ?_))))
  refine lY (yM rfl) rfl ?_
  refine lY (y_ge rfl rfl) rfl ?_
  refine l_nil (aT ?_)
  refine w_cond_d rfl (fun g2 => ?_) (fun g2 => ?_)
  · exfalso; omega
  skip
  refine w_skip (aT (w_seq (w_seq (wR ?_))))
  refine lY (yM rfl) rfl ?_
  refine lY (y_ge rfl rfl) rfl ?_
  refine l_nil (aT ?_)
  refine w_cond_d rfl (fun g3 => ?_) (fun g3 => ?_)
  · skip
    refine w_seq (wR ?_)
    refine lY (yM rfl) rfl ?_
    apply lY
    · exact y_shr_any (j := 8) rfl rfl (by decide)
    · rfl
    have hk : k / 2 ^ 8 < 256 := by omega
    obtain ⟨ch, f0, hcn⟩ := tab8_at hk
    have hcb := ch.toNat_lt
    refine lY (yA rfl) rfl ?_
    refine l_nil (aT (wR ?_))
    refine lY (yM rfl) rfl ?_
    refine lY (y_add rfl rfl (by omega) (by omega)) rfl ?_
    refine lY (yA rfl) rfl ?_
    refine l_nil (aT ?_)
    refine w_seq (wR ?_)
    refine lY (yM rfl) rfl ?_
    refine lY (yM rfl) rfl ?_
    apply lY
    · exact y_conv rfl (hE.t rfl) (hE.t rfl) (wrap_u8 hk)
    · rfl
    apply lY
    · exact y_indexStr (bs := tab8) rfl rfl (hE.t rfl) (by omega) f0
    · rfl
    apply lY
    · exact y_conv (i := (ch.toNat : Int)) rfl (hE.t rfl) (hE.t rfl) (wrap_in (by omega) (by omega))
    · rfl
    apply lY
    · exact y_add (j := (ch.toNat : Int)) rfl rfl (by omega) (by omega)
    · rfl
    refine lY (yA rfl) rfl ?_
    refine l_nil (aT (w_ret ?_))
    apply a_ret
    · rfl
    · (apply Rs.tmp rfl; exact Rs.nil)
    · exact ⟨by rw [hcn, bitsLen_div k (by omega)]; exact int_eq (by omega), rfl⟩
    · (apply ent; (repeat constructor); done)
  · skip
    obtain ⟨ch, f0, hcn⟩ := tab8_at (k := k) (by omega)
    have hcb := ch.toNat_lt
    refine w_skip (aT (w_seq (wR ?_)))
    refine lY (yM rfl) rfl ?_
    refine lY (yM rfl) rfl ?_
    apply lY
    · exact y_conv rfl (hE.t rfl) (hE.t rfl) (wrap_u8 (by omega))
    · rfl
    apply lY
    · exact y_indexStr (bs := tab8) rfl rfl (hE.t rfl) (by omega) f0
    · rfl
    apply lY
    · exact y_conv (i := (ch.toNat : Int)) rfl (hE.t rfl) (hE.t rfl) (wrap_in (by omega) (by omega))
    · rfl
    apply lY
    · exact y_add (j := (ch.toNat : Int)) rfl rfl (by omega) (by omega)
    · rfl
    refine lY (yA rfl) rfl ?_
    refine l_nil (aT (w_ret ?_))
    apply a_ret
    · rfl
    · (apply Rs.tmp rfl; exact Rs.nil)
    · exact ⟨by rw [hcn]; exact int_eq (by omega), rfl⟩
    · (apply ent; (repeat constructor); done)
theorem ct_bitsLen (hE : Seat E) {k : Nat} (h2 : k < 65536) : Ct E 68 [.int .u64 (k : Nat)] [] (fun v Q => v = .int .i64 (Go.Sort.bitsLen k : Nat) ∧ Q = []) := by
  refine fn_enter (hE.fn Tryz.func68) rfl rfl rfl (fun R => ?_)
  simp only [argsL, List.cons_append, List.nil_append]
  refine w_seq (wR ?_)
  refine lY (yA rfl) rfl ?_
  refine l_nil (aT (w_seq ?_))
  refine w_cond_f rfl ?_
  refine w_skip (aT (w_seq (wR ?_)))
  refine lY (yM rfl) rfl ?_
  apply lL (by kernel_rfl) rfl
  apply ld_call (ct_Len64s hE h2) rfl (hE.f (by kernel_rfl))
  · ((repeat constructor); done)
  rintro _ _ ⟨rfl, rfl⟩
  simp only [List.cons_append, List.nil_append]
  refine lY (yA rfl) rfl ?_
  refine l_nil (aT (w_ret ?_))
  apply a_ret
  · rfl
  · (apply Rs.tmp rfl; exact Rs.nil)
  · exact ⟨rfl, rfl⟩
  · (apply ent; (repeat constructor); done)
theorem bitsLen_16 {k : Nat} (h : k < 65536) : Go.Sort.bitsLen k ≤ 16 := (Go.Sort.bitsLen_le_iff k 16).2 h
theorem ct_nextPow (hE : Seat E) {k : Nat} (h2 : k < 65536) : Ct E 129 [.int .i64 (k : Nat)] [] (fun v Q => v = .int .u64 ((1 <<< Go.Sort.bitsLen k : Nat) : Int) ∧ Q = []) := by
  have hb := bitsLen_16 h2
  have hp : 2 ^ Go.Sort.bitsLen k ≤ 2 ^ 16 := Nat.pow_le_pow_right (by decide) hb
  refine fn_enter (hE.fn Tryz.func129) rfl rfl rfl (fun R => ?_)
  simp only [argsL, List.cons_append, List.nil_append]
  refine w_seq (wR ?_)
  refine lY (yA rfl) rfl ?_
  refine l_nil (aT (w_seq (wR ?_)))
  refine lY (yM rfl) rfl ?_
  refine lY (y_conv rfl (hE.t rfl) (hE.t rfl) (by first | exact wrap_in (by omega) (by omega) | exact wrap_uu (by omega) (by omega))) rfl ?_
  apply lL (by kernel_rfl) rfl
  apply ld_call (ct_bitsLen hE h2) rfl (hE.f (by kernel_rfl))
  · ((repeat constructor); done)
  rintro _ _ ⟨rfl, rfl⟩
  simp only [List.cons_append, List.nil_append]
  apply lY
  · exact y_shl64 (i := 1) rfl rfl (by omega)
  · rfl
  refine lY (yA rfl) rfl ?_
  refine l_nil (aT (w_ret ?_))
  apply a_ret
  · rfl
  · (apply Rs.tmp rfl; exact Rs.nil)
  · exact ⟨int_eq (by rw [Nat.shiftLeft_eq, Nat.mod_eq_of_lt (by omega)]), rfl⟩
  · (apply ent; (repeat constructor); done)
theorem ct_xorNext (hE : Seat E) {r X : Nat} (hX : X < 18446744073709551616) : Ct E 130 [.pointer (some ⟨r, 0, none⟩)] [cells r [.int .u64 (X : Nat)] 203] (fun v Q => v = .int .u64 ((Go.Sort.xorNextN X : Nat) : Int) ∧ Q = [cells r [.int .u64 ((Go.Sort.xorNextN X : Nat) : Int)] 203]) := by
  obtain ⟨A, hA⟩ : ∃ A : Nat, A = X ^^^ (X * 8192 % 18446744073709551616) := ⟨_, rfl⟩
  obtain ⟨B, hB⟩ : ∃ B : Nat, B = A ^^^ (A / 128) := ⟨_, rfl⟩
  obtain ⟨C, hC⟩ : ∃ C : Nat, C = B ^^^ (B * 131072 % 18446744073709551616) := ⟨_, rfl⟩
  have lA : A < 18446744073709551616 := by rw [hA]; exact Nat.xor_lt_two_pow (n := 64) (by omega) (by omega)
  have lB : B < 18446744073709551616 := by rw [hB]; exact Nat.xor_lt_two_pow (n := 64) (by omega) (by omega)
  have hv : Go.Sort.xorNextN X = C := by unfold Go.Sort.xorNextN; simp only []; rw [← hA, ← hB, ← hC]
  rw [hv]
  refine fn_enter (hE.fn Tryz.func130) rfl rfl rfl (fun R => ?_)
  simp only [argsL, List.cons_append, List.nil_append]
  refine w_seq (wR ?_)
  refine lY (yA rfl) rfl ?_
  refine l_nil (aT (w_seq (w_draws (by kernel_rfl) ?_)))
  refine lY (yM rfl) rfl ?_
  refine lY (y_nilCheck rfl) rfl ?_
  apply lY
  · (apply y_load rfl (hE.t rfl) rfl; (repeat (first | rfl | assumption | constructor)); done)
  · rfl
  refine lY (yM rfl) rfl ?_
  refine lY (y_nilCheck rfl) rfl ?_
  apply lY
  · (apply y_load rfl (hE.t rfl) rfl; (repeat (first | rfl | assumption | constructor)); done)
  · rfl
  apply lY
  · exact y_shl64 (i := X) (j := 13) rfl rfl (by decide)
  · rfl
  apply lY
  · exact y_xor64 (i := X) (j := X * 2 ^ 13 % 18446744073709551616) rfl rfl hX (by omega)
  · rfl
  refine l_eq 10 (.int .u64 ((A : Nat) : Int)) rfl (int_eq (by rw [hA])) ?_
  refine lY (y_nilCheck rfl) rfl ?_
  apply lL (by kernel_rfl) rfl
  (first | (apply ld_store rfl rfl (hE.t rfl) rfl; (focus ((repeat constructor); done)); (focus rfl); (focus (exact Nat.le_of_ble_eq_true rfl))) | (apply ld_store_sl rfl rfl (hE.t rfl) rfl; (focus ((repeat constructor); done)); (focus rfl); (focus (first | omega | (simp only [cellsL, length_setMany, List.length_cons, List.length_nil]; omega)))))
  refine l_nil (aT (w_seq (w_draws (by kernel_rfl) ?_)))
  refine lY (yM rfl) rfl ?_
  refine lY (y_nilCheck rfl) rfl ?_
  apply lY
  · (apply y_load rfl (hE.t rfl) rfl; (repeat (first | rfl | assumption | constructor)); done)
  · rfl
  refine lY (yM rfl) rfl ?_
  refine lY (y_nilCheck rfl) rfl ?_
  apply lY
  · (apply y_load rfl (hE.t rfl) rfl; (repeat (first | rfl | assumption | constructor)); done)
  · rfl
  apply lY
  · exact y_shr_any (i := A) (j := 7) rfl rfl (by decide)
  · rfl
  apply lY
  · exact y_xor64 (i := A) (j := A / 2 ^ 7) rfl rfl lA (by omega)
  · rfl
  refine l_eq 19 (.int .u64 ((B : Nat) : Int)) rfl (int_eq (by rw [hB])) ?_
  refine lY (y_nilCheck rfl) rfl ?_
  apply lL (by kernel_rfl) rfl
  (first | (apply ld_store rfl rfl (hE.t rfl) rfl; (focus ((repeat constructor); done)); (focus rfl); (focus (exact Nat.le_of_ble_eq_true rfl))) | (apply ld_store_sl rfl rfl (hE.t rfl) rfl; (focus ((repeat constructor); done)); (focus rfl); (focus (first | omega | (simp only [cellsL, length_setMany, List.length_cons, List.length_nil]; omega)))))
  refine l_nil (aT (w_seq (w_draws (by kernel_rfl) ?_)))
  refine lY (yM rfl) rfl ?_
  refine lY (y_nilCheck rfl) rfl ?_
  apply lY
  · (apply y_load rfl (hE.t rfl) rfl; (repeat (first | rfl | assumption | constructor)); done)
  · rfl
  refine lY (yM rfl) rfl ?_
  refine lY (y_nilCheck rfl) rfl ?_
  apply lY
  · (apply y_load rfl (hE.t rfl) rfl; (repeat (first | rfl | assumption | constructor)); done)
  · rfl
  apply lY
  · exact y_shl64 (i := B) (j := 17) rfl rfl (by decide)
  · rfl
  apply lY
  · exact y_xor64 (i := B) (j := B * 2 ^ 17 % 18446744073709551616) rfl rfl lB (by omega)
  · rfl
  refine l_eq 28 (.int .u64 ((C : Nat) : Int)) rfl (int_eq (by rw [hC])) ?_
  refine lY (y_nilCheck rfl) rfl ?_
  apply lL (by kernel_rfl) rfl
  (first | (apply ld_store rfl rfl (hE.t rfl) rfl; (focus ((repeat constructor); done)); (focus rfl); (focus (exact Nat.le_of_ble_eq_true rfl))) | (apply ld_store_sl rfl rfl (hE.t rfl) rfl; (focus ((repeat constructor); done)); (focus rfl); (focus (first | omega | (simp only [cellsL, length_setMany, List.length_cons, List.length_nil]; omega)))))
  refine l_nil (aT (w_seq (wR ?_)))
  refine lY (yM rfl) rfl ?_
  refine lY (y_nilCheck rfl) rfl ?_
  apply lY
  · (apply y_load rfl (hE.t rfl) rfl; (repeat (first | rfl | assumption | constructor)); done)
  · rfl
  refine lY (yA rfl) rfl ?_
  refine l_nil (aT (w_ret ?_))
  apply a_ret
  · rfl
  · (apply Rs.tmp rfl; exact Rs.nil)
  · exact ⟨rfl, rfl⟩
  · (apply ent; (repeat constructor); done)
def brk (a l m i0 : Nat) (d : Array Nat) : Nat → UInt64 × Array Nat
  | 0 => (UInt64.ofNat l, d)
  | t + 1 => Go.Sort.breakStep a l m (brk a l m i0 d t) (i0 + t)
theorem brk_eq {d : Array Nat} {a b : Nat} (h : b - a ≥ 8) : Go.Sort.breakPatterns d a b = (brk a (b - a) (1 <<< Go.Sort.bitsLen (b - a)) (a + (b - a) / 4 * 2 - 1) d 3).2 := by
  unfold Go.Sort.breakPatterns
  simp only [if_pos h]
  rfl
open Go.Sort in
theorem ct_breakPatterns (hE : Seat E) {d : Array Nat} (hd : OkD ok n d) {a b : Nat} (hab : a + 12 < b) (hb : b ≤ n) (hn : n < 65536) :
    Ct E 99 [.slice (some ⟨g, 0, none⟩) n c, .int .i64 (a : Nat), .int .i64 (b : Nat), .func (.func fc) #[] ⟨caps⟩] [sl (some ⟨g, 0, none⟩) c 27 1 n (dC d), q]
      (fun v Q => v = .tuple #[] ∧ Q = [sl (some ⟨g, 0, none⟩) c 27 1 n (dC (breakPatterns d a b)), q] ∧ OkD ok n (breakPatterns d a b)) := by
  have e0 := brk_eq (d := d) (a := a) (b := b) (by omega)
  obtain ⟨l, hl⟩ : ∃ l, l = b - a := ⟨_, rfl⟩
  obtain ⟨i0, hi0⟩ : ∃ i0, i0 = a + l / 4 * 2 - 1 := ⟨_, rfl⟩
  rw [← hl, ← hi0] at e0
  have hl16 := bitsLen_16 (k := l) (by omega)
  have hlp := lt_two_pow_bitsLen l
  have hlq := two_pow_bitsLen_le (n := l) (by omega)
  have hm0 : 1 <<< bitsLen l = 2 ^ bitsLen l := by rw [Nat.shiftLeft_eq, Nat.one_mul]
  obtain ⟨m, hm⟩ : ∃ m, m = 1 <<< bitsLen l := ⟨_, rfl⟩
  have hml : l < m ∧ m ≤ 2 * l := by rw [hm, hm0]; exact ⟨hlp, hlq⟩
  rw [← hm] at e0
  rw [e0]
  have h64 : (UInt64.ofNat l).toNat = l := by simp; omega
  refine fn_enter (hE.fn Tryz.func99) rfl rfl rfl (fun R => ?_)
  simp only [argsL, List.cons_append, List.nil_append]
  refine w_seq (wR ?_)
  refine lY (yM rfl) rfl ?_
  refine lY (yM rfl) rfl ?_
  refine lY (y_sub rfl rfl (by omega) (by omega)) rfl ?_
  refine lY (yA rfl) rfl ?_
  refine l_nil (aT ?_)
  refine w_eq 8 (.int .i64 ((l : Nat) : Int)) rfl (int_eq (by omega)) ?_
  refine w_seq (wR ?_)
  refine lY (yM rfl) rfl ?_
  refine lY (y_ge rfl rfl) rfl ?_
  refine l_nil (aT ?_)
  refine w_cond_d rfl (fun h0 => ?_) (fun h0 => ?_)
  · skip
    refine w_seq (wR ?_)
    refine lY (yM rfl) rfl ?_
    refine lY (y_conv rfl (hE.t rfl) (hE.t rfl) (by first | exact wrap_in (by omega) (by omega) | exact wrap_uu (by omega) (by omega))) rfl ?_
    apply lL (by kernel_rfl) rfl
    refine ld_alloc (hE.t rfl) (fun b9 => ?_)
    apply lL (by kernel_rfl) rfl
    (first | (apply ld_store rfl rfl (hE.t rfl) rfl; (focus ((repeat constructor); done)); (focus rfl); (focus (exact Nat.le_of_ble_eq_true rfl))) | (apply ld_store_sl rfl rfl (hE.t rfl) rfl; (focus ((repeat constructor); done)); (focus rfl); (focus (first | omega | (simp only [cellsL, length_setMany, List.length_cons, List.length_nil]; omega)))))
    refine l_nil (aT (w_seq (wR ?_)))
    refine lY (yM rfl) rfl ?_
    apply lL (by kernel_rfl) rfl
    apply ld_call (ct_nextPow (k := l) hE (by omega)) rfl (hE.f (by kernel_rfl))
    · ((repeat constructor); done)
    rintro _ _ ⟨rfl, rfl⟩
    simp only [List.cons_append, List.nil_append]
    refine lY (yA rfl) rfl ?_
    refine l_nil (aT (w_seq (wR ?_)))
    refine lY (yM rfl) rfl ?_
    refine lY (yM rfl) rfl ?_
    refine lY (y_quo rfl rfl (by omega) (by omega) (by omega)) rfl ?_
    refine lY (y_mul rfl rfl (by omega) (by omega)) rfl ?_
    refine lY (y_add rfl rfl (by omega) (by omega)) rfl ?_
    refine lY (y_sub rfl rfl (by omega) (by omega)) rfl ?_
    refine lY (yA rfl) rfl ?_
    refine l_nil (aT ?_)
    refine w_eq 11 (.int .i64 ((i0 : Nat) : Int)) rfl (int_eq (by omega)) ?_
    refine w_eq 10 (.int .u64 ((m : Nat) : Int)) rfl (int_eq (by rw [hm])) ?_
    refine w_block ?_
    skip
    refine w_loop (fun t : Nat => [(0, .slice (some ⟨g, 0, none⟩) n c), (1, .int .i64 (a : Nat)), (8, .int .i64 (l : Nat)), (9, .pointer (some ⟨b9, 0, none⟩)), (10, .int .u64 (m : Nat)), (11, .int .i64 ((i0 + t : Nat) : Int))]) (fun t => [cells b9 [.int .u64 (((brk a l m i0 d t).1.toNat : Nat) : Int)] 203, sl (some ⟨g, 0, none⟩) c 27 1 n (dC (brk a l m i0 d t).2), q, R]) (fun t => 3 - t) (fun t => t ≤ 3 ∧ OkD ok n (brk a l m i0 d t).2) 0 ?_ ?_ ?_ ?_
    · exact ⟨by omega, hd⟩
    · exact ⟨rfl, rfl, rfl, rfl, rfl, rfl, trivial⟩
    · show ∀ k, _ → stars [cells b9 [.int .u64 (((UInt64.ofNat l).toNat : Nat) : Int)] 203, sl (some ⟨g, 0, none⟩) c 27 1 n (dC d), q, R] k
      rw [h64]
      (apply ent; (repeat constructor); done)
    rintro t ⟨ht, hdt⟩
    skip
    refine w_seq (w_seq (wR ?_))
    refine lY (yM rfl) rfl ?_
    refine lY (yM rfl) rfl ?_
    refine lY (yM rfl) rfl ?_
    refine lY (y_quo rfl rfl (by omega) (by omega) (by omega)) rfl ?_
    refine lY (y_mul rfl rfl (by omega) (by omega)) rfl ?_
    refine lY (y_add rfl rfl (by omega) (by omega)) rfl ?_
    refine lY (y_add rfl rfl (by omega) (by omega)) rfl ?_
    refine lY (y_le rfl rfl) rfl ?_
    refine l_nil (aT ?_)
    refine w_cond_d rfl (fun h1 => ?_) (fun h1 => ?_)
    · skip
      have hx := (brk a l m i0 d t).1.toNat_lt
      have hxn := xorNextN_lt _ hx
      have hts := hdt.1
      obtain ⟨o, ho⟩ : ∃ o, o = xorNextN (brk a l m i0 d t).1.toNat &&& (m - 1) := ⟨_, rfl⟩
      have hom : o ≤ m - 1 := by rw [ho]; exact Nat.and_le_right
      have hst : ∀ o', o' = (if o ≥ l then o - l else o) → brk a l m i0 d (t + 1) = (xorNext (brk a l m i0 d t).1, swp (brk a l m i0 d t).2 (i0 + t) (a + o')) := by
        intro o' h'
        subst h'
        show breakStep a l m (brk a l m i0 d t) (i0 + t) = _
        unfold breakStep
        simp only
        rw [xorNext_toNat, ← ho]
      refine w_skip (aT (w_seq (w_block (w_seq (wR ?_)))))
      apply lL (by kernel_rfl) rfl
      apply ld_call (ct_xorNext hE hx) rfl (hE.f (by kernel_rfl))
      · ((repeat constructor); done)
      rintro _ _ ⟨rfl, rfl⟩
      simp only [List.cons_append, List.nil_append]
      refine lY (yM rfl) rfl ?_
      apply lY
      · exact y_sub64 (i := m) (j := 1) rfl rfl (by omega) (by omega)
      · rfl
      apply lY
      · exact y_and64 (i := xorNextN (brk a l m i0 d t).1.toNat) (j := m - 1) rfl rfl hxn (by omega)
      · rfl
      refine l_eq 41 (.int .u64 ((o : Nat) : Int)) rfl (int_eq (by rw [ho])) ?_
      apply lY
      · exact y_conv rfl (hE.t rfl) (hE.t rfl) (wrap_in (by omega) (by omega))
      · rfl
      refine lY (yA rfl) rfl ?_
      refine l_nil (aT (w_seq (w_seq (wR ?_))))
      refine lY (yM rfl) rfl ?_
      refine lY (yM rfl) rfl ?_
      refine lY (y_ge rfl rfl) rfl ?_
      refine l_nil (aT ?_)
      refine w_cond_d rfl (fun h2 => ?_) (fun h2 => ?_)
      · skip
        refine wR ?_
        refine lY (yM rfl) rfl ?_
        refine lY (yM rfl) rfl ?_
        refine lY (y_sub rfl rfl (by omega) (by omega)) rfl ?_
        refine lY (yA rfl) rfl ?_
        refine l_nil (aT ?_)
        refine w_eq 12 (.int .i64 (((o - l) : Nat) : Int)) rfl (int_eq (by omega)) ?_
        have hs := hst ((o - l)) (by rw [if_pos (show o ≥ l by omega)])
        have f0 := dC_get (brk a l m i0 d t).2 (i := i0 + t) (by omega) (((i0 + t : Nat) : Int)).toNat (by omega)
        have f1 := dC_get (brk a l m i0 d t).2 (i := a + ((o - l))) (by omega) ((a : Int) + (((o - l) : Nat) : Int)).toNat (by omega)
        refine w_stages 17 ([sl (some ⟨g, 0, none⟩) c 27 1 n (dC ((brk a l m i0 d t).2)), q]) [(19, [])] ?_ ?_
        · (apply ent; (repeat constructor); done)
        apply s_calm 0 rfl
        · exact yM rfl
        · with_reducible (repeat (first | exact cB | apply cT | apply cK))
        · kernel_rfl
        · kernel_rfl
        · rfl
        apply s_calm 1 rfl
        · exact yM rfl
        · with_reducible (repeat (first | exact cB | apply cT | apply cK))
        · kernel_rfl
        · kernel_rfl
        · rfl
        apply s_calm 2 rfl
        · exact yM rfl
        · with_reducible (repeat (first | exact cB | apply cT | apply cK))
        · kernel_rfl
        · kernel_rfl
        · rfl
        apply s_calm 3 rfl
        · exact yM rfl
        · with_reducible (repeat (first | exact cB | apply cT | apply cK))
        · kernel_rfl
        · kernel_rfl
        · rfl
        apply s_calm 4 rfl
        · exact yM rfl
        · with_reducible (repeat (first | exact cB | apply cT | apply cK))
        · kernel_rfl
        · kernel_rfl
        · rfl
        apply s_calm 5 rfl
        · exact y_add rfl rfl (by omega) (by omega)
        · with_reducible (repeat (first | exact cB | apply cT | apply cK))
        · kernel_rfl
        · kernel_rfl
        · rfl
        apply s_calm 6 rfl
        · exact yM rfl
        · with_reducible (repeat (first | exact cB | apply cT | apply cK))
        · kernel_rfl
        · kernel_rfl
        · rfl
        apply s_calm 7 rfl
        · exact yM rfl
        · with_reducible (repeat (first | exact cB | apply cT | apply cK))
        · kernel_rfl
        · kernel_rfl
        · rfl
        apply s_calm 8 rfl
        · exact yM rfl
        · with_reducible (repeat (first | exact cB | apply cT | apply cK))
        · kernel_rfl
        · kernel_rfl
        · rfl
        apply s_calm 9 rfl
        · exact y_add rfl rfl (by omega) (by omega)
        · with_reducible (repeat (first | exact cB | apply cT | apply cK))
        · kernel_rfl
        · kernel_rfl
        · rfl
        apply s_calm 10 rfl
        · (first | exact y_indexAddr1 rfl rfl (hE.t rfl) (by omega) (by omega) | exact y_indexAddr rfl rfl (hE.t rfl) (by omega) (by omega))
        · with_reducible (repeat (first | exact cB | apply cT | apply cK))
        · kernel_rfl
        · kernel_rfl
        · rfl
        apply s_take 11 rfl
        · (apply y_load rfl (hE.t rfl) rfl; (repeat (first | rfl | assumption | constructor)); done)
        · with_reducible (repeat (first | exact cB | apply cT | apply cK))
        · kernel_rfl
        · rfl
        apply s_calm 12 rfl
        · exact yM rfl
        · with_reducible (repeat (first | exact cB | apply cT | apply cK))
        · kernel_rfl
        · kernel_rfl
        · rfl
        apply s_calm 13 rfl
        · exact yM rfl
        · with_reducible (repeat (first | exact cB | apply cT | apply cK))
        · kernel_rfl
        · kernel_rfl
        · rfl
        apply s_calm 14 rfl
        · (first | exact y_indexAddr1 rfl rfl (hE.t rfl) (by omega) (by omega) | exact y_indexAddr rfl rfl (hE.t rfl) (by omega) (by omega))
        · with_reducible (repeat (first | exact cB | apply cT | apply cK))
        · kernel_rfl
        · kernel_rfl
        · rfl
        apply s_take 15 rfl
        · (apply y_load rfl (hE.t rfl) rfl; (repeat (first | rfl | assumption | constructor)); done)
        · with_reducible (repeat (first | exact cB | apply cT | apply cK))
        · kernel_rfl
        · rfl
        apply s_calm 16 rfl
        · (first | exact y_indexAddr1 rfl rfl (hE.t rfl) (by omega) (by omega) | exact y_indexAddr rfl rfl (hE.t rfl) (by omega) (by omega))
        · with_reducible (repeat (first | exact cB | apply cT | apply cK))
        · kernel_rfl
        · kernel_rfl
        · rfl
        apply s_next rfl (by kernel_rfl) rfl
        (first | (apply ld_store rfl rfl (hE.t rfl) rfl; (focus ((repeat constructor); done)); (focus rfl); (focus (exact Nat.le_of_ble_eq_true rfl))) | (apply ld_store_sl rfl rfl (hE.t rfl) rfl; (focus ((repeat constructor); done)); (focus rfl); (focus (first | omega | (simp only [cellsL, length_setMany, List.length_cons, List.length_nil]; omega)))))
        refine ⟨by (apply ent; (repeat constructor); done), ?_⟩
        apply s_calm 18 rfl
        · (first | exact y_indexAddr1 rfl rfl (hE.t rfl) (by omega) (by omega) | exact y_indexAddr rfl rfl (hE.t rfl) (by omega) (by omega))
        · with_reducible (repeat (first | exact cB | apply cT | apply cK))
        · kernel_rfl
        · kernel_rfl
        · rfl
        apply s_last rfl (by kernel_rfl) (by kernel_rfl) rfl
        (first | (apply ld_store rfl rfl (hE.t rfl) rfl; (focus ((repeat constructor); done)); (focus rfl); (focus (exact Nat.le_of_ble_eq_true rfl))) | (apply ld_store_sl rfl rfl (hE.t rfl) rfl; (focus ((repeat constructor); done)); (focus rfl); (focus (first | omega | (simp only [cellsL, length_setMany, List.length_cons, List.length_nil]; omega)))))
        refine a_block (aT (wR ?_))
        refine lY (yM rfl) rfl ?_
        refine lY (y_add rfl rfl (by omega) (by omega)) rfl ?_
        refine lY (yA rfl) rfl ?_
        refine l_nil ?_
        simp only [cellsL]
        rw [dC_swp (brk a l m i0 d t).2 (i := (i0 + t)) (j := (a + ((o - l)))) (by omega) (by omega)]
        case ho => omega
        case ho' => omega
        refine a_round (t + 1) ⟨by omega, ?_⟩ (by omega) ⟨rfl, rfl, rfl, rfl, rfl, congrArg some (int_eq (by omega)), trivial⟩ ?_
        · rw [hs]
          exact hdt.swp (by omega) (by omega)
        · rw [hs, xorNext_toNat]
          (apply ent; (repeat constructor); done)
      · skip
        refine w_skip (aT ?_)
        refine w_eq 12 (.int .i64 ((o : Nat) : Int)) rfl (int_eq (by omega)) ?_
        have hs := hst (o) (by rw [if_neg (show ¬ o ≥ l by omega)])
        have f0 := dC_get (brk a l m i0 d t).2 (i := i0 + t) (by omega) (((i0 + t : Nat) : Int)).toNat (by omega)
        have f1 := dC_get (brk a l m i0 d t).2 (i := a + (o)) (by omega) ((a : Int) + ((o : Nat) : Int)).toNat (by omega)
        refine w_stages 17 ([sl (some ⟨g, 0, none⟩) c 27 1 n (dC ((brk a l m i0 d t).2)), q]) [(19, [])] ?_ ?_
        · (apply ent; (repeat constructor); done)
        apply s_calm 0 rfl
        · exact yM rfl
        · with_reducible (repeat (first | exact cB | apply cT | apply cK))
        · kernel_rfl
        · kernel_rfl
        · rfl
        apply s_calm 1 rfl
        · exact yM rfl
        · with_reducible (repeat (first | exact cB | apply cT | apply cK))
        · kernel_rfl
        · kernel_rfl
        · rfl
        apply s_calm 2 rfl
        · exact yM rfl
        · with_reducible (repeat (first | exact cB | apply cT | apply cK))
        · kernel_rfl
        · kernel_rfl
        · rfl
        apply s_calm 3 rfl
        · exact yM rfl
        · with_reducible (repeat (first | exact cB | apply cT | apply cK))
        · kernel_rfl
        · kernel_rfl
        · rfl
        apply s_calm 4 rfl
        · exact yM rfl
        · with_reducible (repeat (first | exact cB | apply cT | apply cK))
        · kernel_rfl
        · kernel_rfl
        · rfl
        apply s_calm 5 rfl
        · exact y_add rfl rfl (by omega) (by omega)
        · with_reducible (repeat (first | exact cB | apply cT | apply cK))
        · kernel_rfl
        · kernel_rfl
        · rfl
        apply s_calm 6 rfl
        · exact yM rfl
        · with_reducible (repeat (first | exact cB | apply cT | apply cK))
        · kernel_rfl
        · kernel_rfl
        · rfl
        apply s_calm 7 rfl
        · exact yM rfl
        · with_reducible (repeat (first | exact cB | apply cT | apply cK))
        · kernel_rfl
        · kernel_rfl
        · rfl
        apply s_calm 8 rfl
        · exact yM rfl
        · with_reducible (repeat (first | exact cB | apply cT | apply cK))
        · kernel_rfl
        · kernel_rfl
        · rfl
        apply s_calm 9 rfl
        · exact y_add rfl rfl (by omega) (by omega)
        · with_reducible (repeat (first | exact cB | apply cT | apply cK))
        · kernel_rfl
        · kernel_rfl
        · rfl
        apply s_calm 10 rfl
        · (first | exact y_indexAddr1 rfl rfl (hE.t rfl) (by omega) (by omega) | exact y_indexAddr rfl rfl (hE.t rfl) (by omega) (by omega))
        · with_reducible (repeat (first | exact cB | apply cT | apply cK))
        · kernel_rfl
        · kernel_rfl
        · rfl
        apply s_take 11 rfl
        · (apply y_load rfl (hE.t rfl) rfl; (repeat (first | rfl | assumption | constructor)); done)
        · with_reducible (repeat (first | exact cB | apply cT | apply cK))
        · kernel_rfl
        · rfl
        apply s_calm 12 rfl
        · exact yM rfl
        · with_reducible (repeat (first | exact cB | apply cT | apply cK))
        · kernel_rfl
        · kernel_rfl
        · rfl
        apply s_calm 13 rfl
        · exact yM rfl
        · with_reducible (repeat (first | exact cB | apply cT | apply cK))
        · kernel_rfl
        · kernel_rfl
        · rfl
        apply s_calm 14 rfl
        · (first | exact y_indexAddr1 rfl rfl (hE.t rfl) (by omega) (by omega) | exact y_indexAddr rfl rfl (hE.t rfl) (by omega) (by omega))
        · with_reducible (repeat (first | exact cB | apply cT | apply cK))
        · kernel_rfl
        · kernel_rfl
        · rfl
        apply s_take 15 rfl
        · (apply y_load rfl (hE.t rfl) rfl; (repeat (first | rfl | assumption | constructor)); done)
        · with_reducible (repeat (first | exact cB | apply cT | apply cK))
        · kernel_rfl
        · rfl
        apply s_calm 16 rfl
        · (first | exact y_indexAddr1 rfl rfl (hE.t rfl) (by omega) (by omega) | exact y_indexAddr rfl rfl (hE.t rfl) (by omega) (by omega))
        · with_reducible (repeat (first | exact cB | apply cT | apply cK))
        · kernel_rfl
        · kernel_rfl
        · rfl
        apply s_next rfl (by kernel_rfl) rfl
        (first | (apply ld_store rfl rfl (hE.t rfl) rfl; (focus ((repeat constructor); done)); (focus rfl); (focus (exact Nat.le_of_ble_eq_true rfl))) | (apply ld_store_sl rfl rfl (hE.t rfl) rfl; (focus ((repeat constructor); done)); (focus rfl); (focus (first | omega | (simp only [cellsL, length_setMany, List.length_cons, List.length_nil]; omega)))))
        refine ⟨by (apply ent; (repeat constructor); done), ?_⟩
        apply s_calm 18 rfl
        · (first | exact y_indexAddr1 rfl rfl (hE.t rfl) (by omega) (by omega) | exact y_indexAddr rfl rfl (hE.t rfl) (by omega) (by omega))
        · with_reducible (repeat (first | exact cB | apply cT | apply cK))
        · kernel_rfl
        · kernel_rfl
        · rfl
        apply s_last rfl (by kernel_rfl) (by kernel_rfl) rfl
        (first | (apply ld_store rfl rfl (hE.t rfl) rfl; (focus ((repeat constructor); done)); (focus rfl); (focus (exact Nat.le_of_ble_eq_true rfl))) | (apply ld_store_sl rfl rfl (hE.t rfl) rfl; (focus ((repeat constructor); done)); (focus rfl); (focus (first | omega | (simp only [cellsL, length_setMany, List.length_cons, List.length_nil]; omega)))))
        refine a_block (aT (wR ?_))
        refine lY (yM rfl) rfl ?_
        refine lY (y_add rfl rfl (by omega) (by omega)) rfl ?_
        refine lY (yA rfl) rfl ?_
        refine l_nil ?_
        simp only [cellsL]
        rw [dC_swp (brk a l m i0 d t).2 (i := (i0 + t)) (j := (a + (o))) (by omega) (by omega)]
        case ho => omega
        case ho' => omega
        refine a_round (t + 1) ⟨by omega, ?_⟩ (by omega) ⟨rfl, rfl, rfl, rfl, rfl, congrArg some (int_eq (by omega)), trivial⟩ ?_
        · rw [hs]
          exact hdt.swp (by omega) (by omega)
        · rw [hs, xorNext_toNat]
          (apply ent; (repeat constructor); done)
    · skip
      obtain rfl : t = 3 := by omega
      refine w_exit (a_then_exit (a_then_exit (a_block_exit ?_)))
      apply a_end
      · rfl
      · (exact Rs.nil)
      · exact ⟨rfl, rfl, hdt⟩
      · (apply ent; (repeat constructor); done)
  · exfalso; omega
end Go.Proofs.YtekhbjlplfbdkaaGreatDoor
namespace Go.Proofs.YtekhbjlplfbdkaaGreatDoor
open Go Go.RowKit Sl Eg
set_option maxRecDepth 10000
variable {E : Env}
variable {fc : FuncId} {caps : List Value} {q : HP} {ok : Nat → Prop} {cf : Nat → Nat → Int} {g c n : Nat}
open Go.Sort in
theorem ct_partialInsertion (hE : Seat E) (hf : goFn E.P fc = true) (hc : Cmp E fc caps q ok cf) {d : Array Nat} (hd : OkD ok n d) {a b : Nat} (hab : a < b) (hb : b ≤ n) (hn : n < 1099511627776) :
    Ct E 102 [.slice (some ⟨g, 0, none⟩) n c, .int .i64 (a : Nat), .int .i64 (b : Nat), .func (.func fc) #[] ⟨caps⟩] [sl (some ⟨g, 0, none⟩) c 27 1 n (dC d), q]
      (fun v Q => v = .bool (partialInsertionSort (ltF cf) d a b).2 ∧ Q = [sl (some ⟨g, 0, none⟩) c 27 1 n (dC (partialInsertionSort (ltF cf) d a b).1), q] ∧ OkD ok n (partialInsertionSort (ltF cf) d a b).1) := by
  obtain ⟨r, hr⟩ : ∃ r, r = partialInsertionSort (ltF cf) d a b := ⟨_, rfl⟩
  have hr' := hr.symm
  unfold partialInsertionSort at hr'
  rw [← hr]
  refine fn_enter (hE.fn Tryz.func102) rfl rfl rfl (fun R => ?_)
  simp only [argsL, List.cons_append, List.nil_append]
  refine w_seq (wR ?_)
  refine lY (yA rfl) rfl ?_
  refine l_nil (aT (w_seq (wR ?_)))
  refine lY (yM rfl) rfl ?_
  refine lY (y_add rfl rfl (by omega) (by omega)) rfl ?_
  refine lY (yA rfl) rfl ?_
  refine l_nil (aT (w_seq (w_seq (wR ?_))))
  refine lY (yA rfl) rfl ?_
  refine l_nil (aT (w_block ?_))
  skip
  refine w_loop (fun x : Nat × Nat × Array Nat => [(0, .slice (some ⟨g, 0, none⟩) n c), (1, .int .i64 (a : Nat)), (2, .int .i64 (b : Nat)), (3, .func (.func fc) #[] ⟨caps⟩), (9, .int .i64 (x.2.1 : Nat)), (10, .int .i64 (5 - (x.1 : Int)))]) (fun x => [sl (some ⟨g, 0, none⟩) c 27 1 n (dC x.2.2), q, R]) (fun x => x.1) (fun x => partialIns (ltF cf) a b x.1 x.2.1 x.2.2 = r ∧ OkD ok n x.2.2 ∧ x.1 ≤ 5 ∧ a + 1 ≤ x.2.1 ∧ x.2.1 ≤ b) (5, a + 1, d) ?_ ?_ ?_ ?_
  · exact ⟨hr', hd, Nat.le_refl 5, by show a + 1 ≤ a + 1; omega, by show a + 1 ≤ b; omega⟩
  · exact ⟨rfl, rfl, rfl, rfl, congrArg some (int_eq (by simp only; omega)), rfl, trivial⟩
  · (apply ent; (repeat constructor); done)
  rintro ⟨s, i, e⟩ ⟨he, hde, hs5, hi, hib⟩
  simp only at he hde hs5 hi hib ⊢
  have hse := hde.1
  skip
  refine w_seq (w_seq (wR ?_))
  refine lY (yM rfl) rfl ?_
  refine lY (y_lt rfl rfl) rfl ?_
  refine l_nil (aT ?_)
  refine w_cond_d rfl (fun h0 => ?_) (fun h0 => ?_)
  · skip
    obtain ⟨s, rfl⟩ : ∃ k, s = k + 1 := ⟨s - 1, by omega⟩
    rw [partialIns_succ] at he
    obtain ⟨i2, hi2⟩ : ∃ i2, scanSorted (ltF cf) e b i = i2 := ⟨_, rfl⟩
    rw [hi2] at he
    refine w_skip (aT ?_)
    refine w_seq (w_block ?_)
    refine w_cut (fun _ : Unit => [(0, .slice (some ⟨g, 0, none⟩) n c), (1, .int .i64 (a : Nat)), (2, .int .i64 (b : Nat)), (3, .func (.func fc) #[] ⟨caps⟩), (9, .int .i64 ((i2 : Nat) : Int)), (10, .int .i64 (5 - ((s + 1 : Nat) : Int)))]) (fun _ => [sl (some ⟨g, 0, none⟩) c 27 1 n (dC e), q, R]) (fun _ => i ≤ i2 ∧ i2 ≤ b) ?_ ?_
    · skip
      refine w_block ?_
      skip
      refine w_loop (fun x : Nat => [(0, .slice (some ⟨g, 0, none⟩) n c), (1, .int .i64 (a : Nat)), (2, .int .i64 (b : Nat)), (3, .func (.func fc) #[] ⟨caps⟩), (9, .int .i64 ((x : Nat) : Int)), (10, .int .i64 (5 - ((s + 1 : Nat) : Int)))]) (fun _ => [sl (some ⟨g, 0, none⟩) c 27 1 n (dC e), q, R]) (fun x => b - x) (fun x => scanSorted (ltF cf) e b x = i2 ∧ i ≤ x ∧ x ≤ b) i ?_ ?_ ?_ ?_
      · exact ⟨hi2, Nat.le_refl _, hib⟩
      · exact ⟨rfl, rfl, rfl, rfl, rfl, rfl, trivial⟩
      · (apply ent; (repeat constructor); done)
      rintro x ⟨hx, hx1, hx2⟩
      skip
      refine w_seq (w_seq (w_draws (by kernel_rfl) ?_))
      refine lY (yM rfl) rfl ?_
      refine lY (yM rfl) rfl ?_
      refine lY (y_lt rfl rfl) rfl ?_
      refine lY (yM rfl) rfl ?_
      refine l_split 22 rfl (fun g1 => ?_) (fun g1 => ?_)
      · skip
        have f0 := dC_get e (i := x) (by omega) ((x : Int)).toNat (by omega)
        have f1 := dC_get e (i := x - 1) (by omega) ((x : Int) - 1).toNat (by omega)
        have hcc := hc _ _ (hde.2 x (by omega)) (hde.2 (x - 1) (by omega))
        refine l_on rfl rfl ?_
        refine lY (yM rfl) rfl ?_
        refine l_on rfl rfl ?_
        refine lY (yM rfl) rfl ?_
        refine l_on rfl rfl ?_
        refine lY (yM rfl) rfl ?_
        refine l_on rfl rfl ?_
        apply lY
        · (first | exact y_indexAddr1 rfl rfl (hE.t rfl) (by omega) (by omega) | exact y_indexAddr rfl rfl (hE.t rfl) (by omega) (by omega))
        · rfl
        refine l_on rfl rfl ?_
        apply lY
        · (apply y_load rfl (hE.t rfl) rfl; (repeat (first | rfl | assumption | constructor)); done)
        · rfl
        refine l_on rfl rfl ?_
        refine lY (yM rfl) rfl ?_
        refine l_on rfl rfl ?_
        refine lY (yM rfl) rfl ?_
        refine l_on rfl rfl ?_
        refine lY (y_sub rfl rfl (by omega) (by omega)) rfl ?_
        refine l_on rfl rfl ?_
        apply lY
        · (first | exact y_indexAddr1 rfl rfl (hE.t rfl) (by omega) (by omega) | exact y_indexAddr rfl rfl (hE.t rfl) (by omega) (by omega))
        · rfl
        refine l_on rfl rfl ?_
        apply lY
        · (apply y_load rfl (hE.t rfl) rfl; (repeat (first | rfl | assumption | constructor)); done)
        · rfl
        refine l_on rfl rfl ?_
        apply lL (by kernel_rfl) rfl
        apply ld_callv (hx := rfl) (ha := rfl) (hf := hf)
        · exact hcc
        · ((repeat constructor); done)
        rintro _ _ ⟨rfl, rfl⟩
        simp only [List.cons_append, List.nil_append]
        refine l_on rfl rfl ?_
        refine lY (y_lt rfl rfl) rfl ?_
        refine l_on rfl rfl ?_
        refine lY (y_not rfl) rfl ?_
        apply lY
        · (first | exact y_pick_t rfl rfl | exact y_pick_f rfl rfl)
        · rfl
        refine l_nil (aT ?_)
        refine w_cond_nd rfl (fun g2 => ?_) (fun g2 => ?_)
        · skip
          refine w_skip (aT (w_block (wR ?_)))
          refine lY (yM rfl) rfl ?_
          refine lY (y_add rfl rfl (by omega) (by omega)) rfl ?_
          refine lY (yA rfl) rfl ?_
          refine l_nil (a_block ?_)
          refine a_round (x + 1) ⟨?_, by omega, by omega⟩ (by omega) ⟨rfl, rfl, rfl, rfl, congrArg some (int_eq (by omega)), rfl, trivial⟩ (by (apply ent; (repeat constructor); done))
          rw [← hx]
          conv => rhs; rw [scanSorted, if_pos (by simp [ltF, g2]; omega)]
        · skip
          rw [scanSorted, if_neg (by simp [ltF, g2])] at hx
          rw [← hx]
          refine w_exit (a_then_exit (a_then_exit (a_block_exit ?_)))
          refine a_cut () (by omega) ⟨rfl, rfl, rfl, rfl, rfl, rfl, trivial⟩ (by (apply ent; (repeat constructor); done))
      · skip
        rw [scanSorted, if_neg (by simp; omega)] at hx
        rw [← hx]
        refine l_off rfl rfl rfl rfl (l_off rfl rfl rfl rfl (l_off rfl rfl rfl rfl (l_off rfl rfl rfl rfl (l_off rfl rfl rfl rfl (l_off rfl rfl rfl rfl (l_off rfl rfl rfl rfl (l_off rfl rfl rfl rfl ?_)))))))
        refine l_off rfl rfl rfl rfl (l_off rfl rfl rfl rfl (l_off rfl rfl rfl rfl (l_off rfl rfl rfl rfl (l_off rfl rfl rfl rfl ?_))))
        apply lY
        · (first | exact y_pick_t rfl rfl | exact y_pick_f rfl rfl)
        · rfl
        refine l_nil (aT ?_)
        refine w_cond_f rfl ?_
        refine w_exit (a_then_exit (a_then_exit (a_block_exit ?_)))
        refine a_cut () (by omega) ⟨rfl, rfl, rfl, rfl, rfl, rfl, trivial⟩ (by (apply ent; (repeat constructor); done))
    rintro _ ⟨k1, k2⟩
    skip
    refine w_seq (w_seq (wR ?_))
    refine lY (yM rfl) rfl ?_
    refine lY (yM rfl) rfl ?_
    refine lY (y_eq rfl rfl) rfl ?_
    refine l_nil (aT ?_)
    refine w_cond_d rfl (fun h1 => ?_) (fun h1 => ?_)
    · skip
      rw [if_pos (by omega)] at he
      subst he
      refine w_seq (wR ?_)
      refine lY (yA rfl) rfl ?_
      refine l_nil (aT (w_ret (a_then_ret (a_block_ret (a_then_ret (a_then_ret (a_block_ret ?_)))))))
      refine a_then_ret ?_
      apply a_ret
      · rfl
      · (apply Rs.tmp rfl; exact Rs.nil)
      · exact ⟨rfl, rfl, hde⟩
      · (apply ent; (repeat constructor); done)
    · skip
      rw [if_neg (by omega)] at he
      refine w_skip (aT (w_seq (w_seq (wR ?_))))
      refine lY (yM rfl) rfl ?_
      refine lY (yM rfl) rfl ?_
      refine lY (y_sub rfl rfl (by omega) (by omega)) rfl ?_
      refine lY (y_lt rfl rfl) rfl ?_
      refine l_nil (aT ?_)
      refine w_cond_d rfl (fun h2 => ?_) (fun h2 => ?_)
      · skip
        rw [if_pos (by omega)] at he
        subst he
        refine w_seq (wR ?_)
        refine lY (yA rfl) rfl ?_
        refine l_nil (aT (w_ret (a_then_ret (a_block_ret (a_then_ret (a_then_ret (a_block_ret ?_)))))))
        refine a_then_ret ?_
        apply a_ret
        · rfl
        · (apply Rs.tmp rfl; exact Rs.nil)
        · exact ⟨rfl, rfl, hde⟩
        · (apply ent; (repeat constructor); done)
      · skip
        rw [if_neg (by omega)] at he
        have f2 := dC_get e (i := i2) (by omega) ((i2 : Int)).toNat (by omega)
        have f3 := dC_get e (i := i2 - 1) (by omega) ((i2 : Int) - 1).toNat (by omega)
        refine w_skip (aT ?_)
        refine w_seq ?_
        refine w_stages 15 ([sl (some ⟨g, 0, none⟩) c 27 1 n (dC e), q]) [(17, [])] ?_ ?_
        · (apply ent; (repeat constructor); done)
        apply s_calm 0 rfl
        · exact yM rfl
        · with_reducible (repeat (first | exact cB | apply cT | apply cK))
        · kernel_rfl
        · kernel_rfl
        · rfl
        apply s_calm 1 rfl
        · exact yM rfl
        · with_reducible (repeat (first | exact cB | apply cT | apply cK))
        · kernel_rfl
        · kernel_rfl
        · rfl
        apply s_calm 2 rfl
        · exact yM rfl
        · with_reducible (repeat (first | exact cB | apply cT | apply cK))
        · kernel_rfl
        · kernel_rfl
        · rfl
        apply s_calm 3 rfl
        · exact yM rfl
        · with_reducible (repeat (first | exact cB | apply cT | apply cK))
        · kernel_rfl
        · kernel_rfl
        · rfl
        apply s_calm 4 rfl
        · exact y_sub rfl rfl (by omega) (by omega)
        · with_reducible (repeat (first | exact cB | apply cT | apply cK))
        · kernel_rfl
        · kernel_rfl
        · rfl
        apply s_calm 5 rfl
        · exact yM rfl
        · with_reducible (repeat (first | exact cB | apply cT | apply cK))
        · kernel_rfl
        · kernel_rfl
        · rfl
        apply s_calm 6 rfl
        · exact yM rfl
        · with_reducible (repeat (first | exact cB | apply cT | apply cK))
        · kernel_rfl
        · kernel_rfl
        · rfl
        apply s_calm 7 rfl
        · exact y_sub rfl rfl (by omega) (by omega)
        · with_reducible (repeat (first | exact cB | apply cT | apply cK))
        · kernel_rfl
        · kernel_rfl
        · rfl
        apply s_calm 8 rfl
        · (first | exact y_indexAddr1 rfl rfl (hE.t rfl) (by omega) (by omega) | exact y_indexAddr rfl rfl (hE.t rfl) (by omega) (by omega))
        · with_reducible (repeat (first | exact cB | apply cT | apply cK))
        · kernel_rfl
        · kernel_rfl
        · rfl
        apply s_take 9 rfl
        · (apply y_load rfl (hE.t rfl) rfl; (repeat (first | rfl | assumption | constructor)); done)
        · with_reducible (repeat (first | exact cB | apply cT | apply cK))
        · kernel_rfl
        · rfl
        apply s_calm 10 rfl
        · exact yM rfl
        · with_reducible (repeat (first | exact cB | apply cT | apply cK))
        · kernel_rfl
        · kernel_rfl
        · rfl
        apply s_calm 11 rfl
        · exact yM rfl
        · with_reducible (repeat (first | exact cB | apply cT | apply cK))
        · kernel_rfl
        · kernel_rfl
        · rfl
        apply s_calm 12 rfl
        · (first | exact y_indexAddr1 rfl rfl (hE.t rfl) (by omega) (by omega) | exact y_indexAddr rfl rfl (hE.t rfl) (by omega) (by omega))
        · with_reducible (repeat (first | exact cB | apply cT | apply cK))
        · kernel_rfl
        · kernel_rfl
        · rfl
        apply s_take 13 rfl
        · (apply y_load rfl (hE.t rfl) rfl; (repeat (first | rfl | assumption | constructor)); done)
        · with_reducible (repeat (first | exact cB | apply cT | apply cK))
        · kernel_rfl
        · rfl
        apply s_calm 14 rfl
        · (first | exact y_indexAddr1 rfl rfl (hE.t rfl) (by omega) (by omega) | exact y_indexAddr rfl rfl (hE.t rfl) (by omega) (by omega))
        · with_reducible (repeat (first | exact cB | apply cT | apply cK))
        · kernel_rfl
        · kernel_rfl
        · rfl
        apply s_next rfl (by kernel_rfl) rfl
        (first | (apply ld_store rfl rfl (hE.t rfl) rfl; (focus ((repeat constructor); done)); (focus rfl); (focus (exact Nat.le_of_ble_eq_true rfl))) | (apply ld_store_sl rfl rfl (hE.t rfl) rfl; (focus ((repeat constructor); done)); (focus rfl); (focus (first | omega | (simp only [cellsL, length_setMany, List.length_cons, List.length_nil]; omega)))))
        refine ⟨by (apply ent; (repeat constructor); done), ?_⟩
        apply s_calm 16 rfl
        · (first | exact y_indexAddr1 rfl rfl (hE.t rfl) (by omega) (by omega) | exact y_indexAddr rfl rfl (hE.t rfl) (by omega) (by omega))
        · with_reducible (repeat (first | exact cB | apply cT | apply cK))
        · kernel_rfl
        · kernel_rfl
        · rfl
        apply s_last rfl (by kernel_rfl) (by kernel_rfl) rfl
        (first | (apply ld_store rfl rfl (hE.t rfl) rfl; (focus ((repeat constructor); done)); (focus rfl); (focus (exact Nat.le_of_ble_eq_true rfl))) | (apply ld_store_sl rfl rfl (hE.t rfl) rfl; (focus ((repeat constructor); done)); (focus rfl); (focus (first | omega | (simp only [cellsL, length_setMany, List.length_cons, List.length_nil]; omega)))))
        refine aT ?_
        simp only [cellsL]
        rw [dC_swp e (i := i2) (j := (i2 - 1)) (by omega) (by omega)]
        case ho => omega
        case ho' => omega
        have hd1 := hde.swp (show i2 < n by omega) (show i2 - 1 < n by omega)
        generalize swp e i2 (i2 - 1) = e1 at *
        obtain ⟨e2, he2⟩ : ∃ e2, fixDown (ltF cf) a i2 e1 = e2 := ⟨_, rfl⟩
        rw [he2] at he
        unfold fixDown at he2
        refine w_cut (fun _ : Unit => [(0, .slice (some ⟨g, 0, none⟩) n c), (1, .int .i64 (a : Nat)), (2, .int .i64 (b : Nat)), (3, .func (.func fc) #[] ⟨caps⟩), (9, .int .i64 ((i2 : Nat) : Int)), (10, .int .i64 (5 - ((s + 1 : Nat) : Int)))]) (fun _ => [sl (some ⟨g, 0, none⟩) c 27 1 n (dC e2), q, R]) (fun _ => OkD ok n e2) ?_ ?_
        · skip
          refine w_seq (wR ?_)
          refine lY (yM rfl) rfl ?_
          refine lY (yM rfl) rfl ?_
          refine lY (y_sub rfl rfl (by omega) (by omega)) rfl ?_
          refine lY (y_ge rfl rfl) rfl ?_
          refine l_nil (aT ?_)
          refine w_cond_d rfl (fun h3 => ?_) (fun h3 => ?_)
          · skip
            rw [if_pos (by omega)] at he2
            refine w_seq (wR ?_)
            refine lY (yM rfl) rfl ?_
            refine lY (y_sub rfl rfl (by omega) (by omega)) rfl ?_
            refine lY (yA rfl) rfl ?_
            refine l_nil (aT (w_block ?_))
            skip
            refine w_loop (fun x : Nat × Array Nat => [(0, .slice (some ⟨g, 0, none⟩) n c), (1, .int .i64 (a : Nat)), (2, .int .i64 (b : Nat)), (3, .func (.func fc) #[] ⟨caps⟩), (9, .int .i64 ((i2 : Nat) : Int)), (10, .int .i64 (5 - ((s + 1 : Nat) : Int))), (11, .int .i64 ((x.1 : Nat) : Int))]) (fun x => [sl (some ⟨g, 0, none⟩) c 27 1 n (dC x.2), q, R]) (fun x => x.1) (fun x => shiftDown (ltF cf) x.1 x.2 = e2 ∧ OkD ok n x.2 ∧ x.1 < n) (i2 - 1, e1) ?_ ?_ ?_ ?_
            · exact ⟨he2, hd1, by show i2 - 1 < n; omega⟩
            · exact ⟨rfl, rfl, rfl, rfl, rfl, rfl, congrArg some (int_eq (by simp only; omega)), trivial⟩
            · (apply ent; (repeat constructor); done)
            rintro ⟨j, u⟩ ⟨hu, hdu, hj⟩
            simp only at hu hdu hj ⊢
            have hsu := hdu.1
            skip
            refine w_seq (w_seq (wR ?_))
            refine lY (yM rfl) rfl ?_
            refine lY (y_ge rfl rfl) rfl ?_
            refine l_nil (aT ?_)
            refine w_cond_d rfl (fun g3 => ?_) (fun g3 => ?_)
            · skip
              obtain ⟨j, rfl⟩ : ∃ k, j = k + 1 := ⟨j - 1, by omega⟩
              have f4 := dC_get u (i := j + 1) (by omega) (((j + 1 : Nat) : Int)).toNat (by omega)
              have f5 := dC_get u (i := j) (by omega) (((j + 1 : Nat) : Int) - 1).toNat (by omega)
              have hcc := hc _ _ (hdu.2 (j + 1) (by omega)) (hdu.2 j (by omega))
              rw [shiftDown] at hu
              refine w_skip (aT (w_seq (w_block (w_seq (w_seq (w_draws (by kernel_rfl) ?_))))))
              refine lY (yM rfl) rfl ?_
              refine lY (yM rfl) rfl ?_
              refine lY (yM rfl) rfl ?_
              apply lY
              · (first | exact y_indexAddr1 rfl rfl (hE.t rfl) (by omega) (by omega) | exact y_indexAddr rfl rfl (hE.t rfl) (by omega) (by omega))
              · rfl
              apply lY
              · (apply y_load rfl (hE.t rfl) rfl; (repeat (first | rfl | assumption | constructor)); done)
              · rfl
              refine lY (yM rfl) rfl ?_
              refine lY (yM rfl) rfl ?_
              refine lY (y_sub rfl rfl (by omega) (by omega)) rfl ?_
              apply lY
              · (first | exact y_indexAddr1 rfl rfl (hE.t rfl) (by omega) (by omega) | exact y_indexAddr rfl rfl (hE.t rfl) (by omega) (by omega))
              · rfl
              apply lY
              · (apply y_load rfl (hE.t rfl) rfl; (repeat (first | rfl | assumption | constructor)); done)
              · rfl
              apply lL (by kernel_rfl) rfl
              apply ld_callv (hx := rfl) (ha := rfl) (hf := hf)
              · exact hcc
              · ((repeat constructor); done)
              rintro _ _ ⟨rfl, rfl⟩
              simp only [List.cons_append, List.nil_append]
              refine lY (y_lt rfl rfl) rfl ?_
              refine lY (y_not rfl) rfl ?_
              refine l_nil (aT ?_)
              refine w_cond_nd rfl (fun g4 => ?_) (fun g4 => ?_)
              · skip
                rw [if_pos (by simp [ltF, g4])] at hu
                subst hu
                refine w_exit (a_then_exit (a_block_far rfl (a_then_exit (a_then_exit (a_block_exit ?_)))))
                refine a_cut () hdu ⟨rfl, rfl, rfl, rfl, rfl, rfl, trivial⟩ (by (apply ent; (repeat constructor); done))
              · skip
                rw [if_neg (by simp [ltF, g4])] at hu
                refine w_skip (aT ?_)
                refine w_stages 15 ([sl (some ⟨g, 0, none⟩) c 27 1 n (dC u), q]) [(17, [])] ?_ ?_
                · (apply ent; (repeat constructor); done)
                apply s_calm 0 rfl
                · exact yM rfl
                · with_reducible (repeat (first | exact cB | apply cT | apply cK))
                · kernel_rfl
                · kernel_rfl
                · rfl
                apply s_calm 1 rfl
                · exact yM rfl
                · with_reducible (repeat (first | exact cB | apply cT | apply cK))
                · kernel_rfl
                · kernel_rfl
                · rfl
                apply s_calm 2 rfl
                · exact yM rfl
                · with_reducible (repeat (first | exact cB | apply cT | apply cK))
                · kernel_rfl
                · kernel_rfl
                · rfl
                apply s_calm 3 rfl
                · exact yM rfl
                · with_reducible (repeat (first | exact cB | apply cT | apply cK))
                · kernel_rfl
                · kernel_rfl
                · rfl
                apply s_calm 4 rfl
                · exact y_sub rfl rfl (by omega) (by omega)
                · with_reducible (repeat (first | exact cB | apply cT | apply cK))
                · kernel_rfl
                · kernel_rfl
                · rfl
                apply s_calm 5 rfl
                · exact yM rfl
                · with_reducible (repeat (first | exact cB | apply cT | apply cK))
                · kernel_rfl
                · kernel_rfl
                · rfl
                apply s_calm 6 rfl
                · exact yM rfl
                · with_reducible (repeat (first | exact cB | apply cT | apply cK))
                · kernel_rfl
                · kernel_rfl
                · rfl
                apply s_calm 7 rfl
                · exact y_sub rfl rfl (by omega) (by omega)
                · with_reducible (repeat (first | exact cB | apply cT | apply cK))
                · kernel_rfl
                · kernel_rfl
                · rfl
                apply s_calm 8 rfl
                · (first | exact y_indexAddr1 rfl rfl (hE.t rfl) (by omega) (by omega) | exact y_indexAddr rfl rfl (hE.t rfl) (by omega) (by omega))
                · with_reducible (repeat (first | exact cB | apply cT | apply cK))
                · kernel_rfl
                · kernel_rfl
                · rfl
                apply s_take 9 rfl
                · (apply y_load rfl (hE.t rfl) rfl; (repeat (first | rfl | assumption | constructor)); done)
                · with_reducible (repeat (first | exact cB | apply cT | apply cK))
                · kernel_rfl
                · rfl
                apply s_calm 10 rfl
                · exact yM rfl
                · with_reducible (repeat (first | exact cB | apply cT | apply cK))
                · kernel_rfl
                · kernel_rfl
                · rfl
                apply s_calm 11 rfl
                · exact yM rfl
                · with_reducible (repeat (first | exact cB | apply cT | apply cK))
                · kernel_rfl
                · kernel_rfl
                · rfl
                apply s_calm 12 rfl
                · (first | exact y_indexAddr1 rfl rfl (hE.t rfl) (by omega) (by omega) | exact y_indexAddr rfl rfl (hE.t rfl) (by omega) (by omega))
                · with_reducible (repeat (first | exact cB | apply cT | apply cK))
                · kernel_rfl
                · kernel_rfl
                · rfl
                apply s_take 13 rfl
                · (apply y_load rfl (hE.t rfl) rfl; (repeat (first | rfl | assumption | constructor)); done)
                · with_reducible (repeat (first | exact cB | apply cT | apply cK))
                · kernel_rfl
                · rfl
                apply s_calm 14 rfl
                · (first | exact y_indexAddr1 rfl rfl (hE.t rfl) (by omega) (by omega) | exact y_indexAddr rfl rfl (hE.t rfl) (by omega) (by omega))
                · with_reducible (repeat (first | exact cB | apply cT | apply cK))
                · kernel_rfl
                · kernel_rfl
                · rfl
                apply s_next rfl (by kernel_rfl) rfl
                (first | (apply ld_store rfl rfl (hE.t rfl) rfl; (focus ((repeat constructor); done)); (focus rfl); (focus (exact Nat.le_of_ble_eq_true rfl))) | (apply ld_store_sl rfl rfl (hE.t rfl) rfl; (focus ((repeat constructor); done)); (focus rfl); (focus (first | omega | (simp only [cellsL, length_setMany, List.length_cons, List.length_nil]; omega)))))
                refine ⟨by (apply ent; (repeat constructor); done), ?_⟩
                apply s_calm 16 rfl
                · (first | exact y_indexAddr1 rfl rfl (hE.t rfl) (by omega) (by omega) | exact y_indexAddr rfl rfl (hE.t rfl) (by omega) (by omega))
                · with_reducible (repeat (first | exact cB | apply cT | apply cK))
                · kernel_rfl
                · kernel_rfl
                · rfl
                apply s_last rfl (by kernel_rfl) (by kernel_rfl) rfl
                (first | (apply ld_store rfl rfl (hE.t rfl) rfl; (focus ((repeat constructor); done)); (focus rfl); (focus (exact Nat.le_of_ble_eq_true rfl))) | (apply ld_store_sl rfl rfl (hE.t rfl) rfl; (focus ((repeat constructor); done)); (focus rfl); (focus (first | omega | (simp only [cellsL, length_setMany, List.length_cons, List.length_nil]; omega)))))
                refine a_block (aT (wR ?_))
                refine lY (yM rfl) rfl ?_
                refine lY (y_sub rfl rfl (by omega) (by omega)) rfl ?_
                refine lY (yA rfl) rfl ?_
                refine l_nil ?_
                simp only [cellsL]
                rw [dC_swp u (i := (j + 1)) (j := j) (by omega) (by omega)]
                case ho => omega
                case ho' => omega
                refine a_round (ι := Nat × Array Nat) (j := (j, swp u (j + 1) j)) ⟨hu, hdu.swp (by omega) (by omega), by show j < n; omega⟩ (by show j < j + 1; omega) ⟨rfl, rfl, rfl, rfl, rfl, rfl, congrArg some (int_eq (by simp only; omega)), trivial⟩ (by (apply ent; (repeat constructor); done))
            · skip
              obtain rfl : j = 0 := by omega
              rw [shiftDown] at hu
              subst hu
              refine w_exit (a_then_exit (a_then_exit (a_block_exit ?_)))
              refine a_cut () hdu ⟨rfl, rfl, rfl, rfl, rfl, rfl, trivial⟩ (by (apply ent; (repeat constructor); done))
          · skip
            rw [if_neg (by omega)] at he2
            subst he2
            refine w_skip ?_
            refine a_cut () hd1 ⟨rfl, rfl, rfl, rfl, rfl, rfl, trivial⟩ (by (apply ent; (repeat constructor); done))
        intro _ hd2
        skip
        skip
        obtain ⟨e3, he3⟩ : ∃ e3, fixUp (ltF cf) b i2 e2 = e3 := ⟨_, rfl⟩
        rw [he3] at he
        unfold fixUp at he3
        refine w_seq (wR ?_)
        refine lY (yM rfl) rfl ?_
        refine lY (yM rfl) rfl ?_
        refine lY (y_sub rfl rfl (by omega) (by omega)) rfl ?_
        refine lY (y_ge rfl rfl) rfl ?_
        refine l_nil (aT ?_)
        refine w_cond_d rfl (fun h4 => ?_) (fun h4 => ?_)
        · skip
          rw [if_pos (by omega)] at he3
          refine w_seq (wR ?_)
          refine lY (yM rfl) rfl ?_
          refine lY (y_add rfl rfl (by omega) (by omega)) rfl ?_
          refine lY (yA rfl) rfl ?_
          refine l_nil (aT (w_block ?_))
          skip
          refine w_loop (fun x : Nat × Array Nat => [(0, .slice (some ⟨g, 0, none⟩) n c), (1, .int .i64 (a : Nat)), (2, .int .i64 (b : Nat)), (3, .func (.func fc) #[] ⟨caps⟩), (9, .int .i64 ((i2 : Nat) : Int)), (10, .int .i64 (5 - ((s + 1 : Nat) : Int))), (12, .int .i64 ((x.1 : Nat) : Int))]) (fun x => [sl (some ⟨g, 0, none⟩) c 27 1 n (dC x.2), q, R]) (fun x => b - x.1) (fun x => shiftUp (ltF cf) b x.1 x.2 = e3 ∧ OkD ok n x.2 ∧ 1 ≤ x.1 ∧ x.1 ≤ b) (i2 + 1, e2) ?_ ?_ ?_ ?_
          · exact ⟨he3, hd2, by show 1 ≤ i2 + 1; omega, by show i2 + 1 ≤ b; omega⟩
          · exact ⟨rfl, rfl, rfl, rfl, rfl, rfl, congrArg some (int_eq (by simp only; omega)), trivial⟩
          · (apply ent; (repeat constructor); done)
          rintro ⟨j, u⟩ ⟨hu, hdu, hj1, hj⟩
          simp only at hu hdu hj1 hj ⊢
          have hsu := hdu.1
          skip
          refine w_seq (w_seq (wR ?_))
          refine lY (yM rfl) rfl ?_
          refine lY (yM rfl) rfl ?_
          refine lY (y_lt rfl rfl) rfl ?_
          refine l_nil (aT ?_)
          rw [shiftUp] at hu
          refine w_cond_d rfl (fun g5 => ?_) (fun g5 => ?_)
          · skip
            rw [if_pos (show j < b by omega)] at hu
            have f6 := dC_get u (i := j) (by omega) ((j : Int)).toNat (by omega)
            have f7 := dC_get u (i := j - 1) (by omega) ((j : Int) - 1).toNat (by omega)
            have hcc := hc _ _ (hdu.2 j (by omega)) (hdu.2 (j - 1) (by omega))
            refine w_skip (aT (w_seq (w_block (w_seq (w_seq (w_draws (by kernel_rfl) ?_))))))
            refine lY (yM rfl) rfl ?_
            refine lY (yM rfl) rfl ?_
            refine lY (yM rfl) rfl ?_
            apply lY
            · (first | exact y_indexAddr1 rfl rfl (hE.t rfl) (by omega) (by omega) | exact y_indexAddr rfl rfl (hE.t rfl) (by omega) (by omega))
            · rfl
            apply lY
            · (apply y_load rfl (hE.t rfl) rfl; (repeat (first | rfl | assumption | constructor)); done)
            · rfl
            refine lY (yM rfl) rfl ?_
            refine lY (yM rfl) rfl ?_
            refine lY (y_sub rfl rfl (by omega) (by omega)) rfl ?_
            apply lY
            · (first | exact y_indexAddr1 rfl rfl (hE.t rfl) (by omega) (by omega) | exact y_indexAddr rfl rfl (hE.t rfl) (by omega) (by omega))
            · rfl
            apply lY
            · (apply y_load rfl (hE.t rfl) rfl; (repeat (first | rfl | assumption | constructor)); done)
            · rfl
            apply lL (by kernel_rfl) rfl
            apply ld_callv (hx := rfl) (ha := rfl) (hf := hf)
            · exact hcc
            · ((repeat constructor); done)
            rintro _ _ ⟨rfl, rfl⟩
            simp only [List.cons_append, List.nil_append]
            refine lY (y_lt rfl rfl) rfl ?_
            refine lY (y_not rfl) rfl ?_
            refine l_nil (aT ?_)
            refine w_cond_nd rfl (fun g6 => ?_) (fun g6 => ?_)
            · skip
              rw [if_pos (by simp [ltF, g6])] at hu
              subst hu
              refine w_exit (a_then_exit (a_block_far rfl (a_then_exit (a_then_exit (a_block_exit (a_block (aT ?_)))))))
              refine wR ?_
              refine lY (yM rfl) rfl ?_
              refine lY (y_add rfl rfl (by omega) (by omega)) rfl ?_
              refine lY (yA rfl) rfl ?_
              refine l_nil ?_
              refine a_round (ι := Nat × Nat × Array Nat) (j := (s, i2, u)) ⟨he, hdu, by show s ≤ 5; omega, by show a + 1 ≤ i2; omega, by show i2 ≤ b; omega⟩ (by show s < s + 1; omega) ⟨rfl, rfl, rfl, rfl, rfl, congrArg some (int_eq (by simp only; omega)), trivial⟩ (by (apply ent; (repeat constructor); done))
            · skip
              rw [if_neg (by simp [ltF, g6])] at hu
              refine w_skip (aT ?_)
              refine w_stages 15 ([sl (some ⟨g, 0, none⟩) c 27 1 n (dC u), q]) [(17, [])] ?_ ?_
              · (apply ent; (repeat constructor); done)
              apply s_calm 0 rfl
              · exact yM rfl
              · with_reducible (repeat (first | exact cB | apply cT | apply cK))
              · kernel_rfl
              · kernel_rfl
              · rfl
              apply s_calm 1 rfl
              · exact yM rfl
              · with_reducible (repeat (first | exact cB | apply cT | apply cK))
              · kernel_rfl
              · kernel_rfl
              · rfl
              apply s_calm 2 rfl
              · exact yM rfl
              · with_reducible (repeat (first | exact cB | apply cT | apply cK))
              · kernel_rfl
              · kernel_rfl
              · rfl
              apply s_calm 3 rfl
              · exact yM rfl
              · with_reducible (repeat (first | exact cB | apply cT | apply cK))
              · kernel_rfl
              · kernel_rfl
              · rfl
              apply s_calm 4 rfl
              · exact y_sub rfl rfl (by omega) (by omega)
              · with_reducible (repeat (first | exact cB | apply cT | apply cK))
              · kernel_rfl
              · kernel_rfl
              · rfl
              apply s_calm 5 rfl
              · exact yM rfl
              · with_reducible (repeat (first | exact cB | apply cT | apply cK))
              · kernel_rfl
              · kernel_rfl
              · rfl
              apply s_calm 6 rfl
              · exact yM rfl
              · with_reducible (repeat (first | exact cB | apply cT | apply cK))
              · kernel_rfl
              · kernel_rfl
              · rfl
              apply s_calm 7 rfl
              · exact y_sub rfl rfl (by omega) (by omega)
              · with_reducible (repeat (first | exact cB | apply cT | apply cK))
              · kernel_rfl
              · kernel_rfl
              · rfl
              apply s_calm 8 rfl
              · (first | exact y_indexAddr1 rfl rfl (hE.t rfl) (by omega) (by omega) | exact y_indexAddr rfl rfl (hE.t rfl) (by omega) (by omega))
              · with_reducible (repeat (first | exact cB | apply cT | apply cK))
              · kernel_rfl
              · kernel_rfl
              · rfl
              apply s_take 9 rfl
              · (apply y_load rfl (hE.t rfl) rfl; (repeat (first | rfl | assumption | constructor)); done)
              · with_reducible (repeat (first | exact cB | apply cT | apply cK))
              · kernel_rfl
              · rfl
              apply s_calm 10 rfl
              · exact yM rfl
              · with_reducible (repeat (first | exact cB | apply cT | apply cK))
              · kernel_rfl
              · kernel_rfl
              · rfl
              apply s_calm 11 rfl
              · exact yM rfl
              · with_reducible (repeat (first | exact cB | apply cT | apply cK))
              · kernel_rfl
              · kernel_rfl
              · rfl
              apply s_calm 12 rfl
              · (first | exact y_indexAddr1 rfl rfl (hE.t rfl) (by omega) (by omega) | exact y_indexAddr rfl rfl (hE.t rfl) (by omega) (by omega))
              · with_reducible (repeat (first | exact cB | apply cT | apply cK))
              · kernel_rfl
              · kernel_rfl
              · rfl
              apply s_take 13 rfl
              · (apply y_load rfl (hE.t rfl) rfl; (repeat (first | rfl | assumption | constructor)); done)
              · with_reducible (repeat (first | exact cB | apply cT | apply cK))
              · kernel_rfl
              · rfl
              apply s_calm 14 rfl
              · (first | exact y_indexAddr1 rfl rfl (hE.t rfl) (by omega) (by omega) | exact y_indexAddr rfl rfl (hE.t rfl) (by omega) (by omega))
              · with_reducible (repeat (first | exact cB | apply cT | apply cK))
              · kernel_rfl
              · kernel_rfl
              · rfl
              apply s_next rfl (by kernel_rfl) rfl
              (first | (apply ld_store rfl rfl (hE.t rfl) rfl; (focus ((repeat constructor); done)); (focus rfl); (focus (exact Nat.le_of_ble_eq_true rfl))) | (apply ld_store_sl rfl rfl (hE.t rfl) rfl; (focus ((repeat constructor); done)); (focus rfl); (focus (first | omega | (simp only [cellsL, length_setMany, List.length_cons, List.length_nil]; omega)))))
              refine ⟨by (apply ent; (repeat constructor); done), ?_⟩
              apply s_calm 16 rfl
              · (first | exact y_indexAddr1 rfl rfl (hE.t rfl) (by omega) (by omega) | exact y_indexAddr rfl rfl (hE.t rfl) (by omega) (by omega))
              · with_reducible (repeat (first | exact cB | apply cT | apply cK))
              · kernel_rfl
              · kernel_rfl
              · rfl
              apply s_last rfl (by kernel_rfl) (by kernel_rfl) rfl
              (first | (apply ld_store rfl rfl (hE.t rfl) rfl; (focus ((repeat constructor); done)); (focus rfl); (focus (exact Nat.le_of_ble_eq_true rfl))) | (apply ld_store_sl rfl rfl (hE.t rfl) rfl; (focus ((repeat constructor); done)); (focus rfl); (focus (first | omega | (simp only [cellsL, length_setMany, List.length_cons, List.length_nil]; omega)))))
              refine a_block (aT (wR ?_))
              refine lY (yM rfl) rfl ?_
              refine lY (y_add rfl rfl (by omega) (by omega)) rfl ?_
              refine lY (yA rfl) rfl ?_
              refine l_nil ?_
              simp only [cellsL]
              rw [dC_swp u (i := j) (j := (j - 1)) (by omega) (by omega)]
              case ho => omega
              case ho' => omega
              refine a_round (ι := Nat × Array Nat) (j := (j + 1, swp u j (j - 1))) ⟨hu, hdu.swp (by omega) (by omega), by show 1 ≤ j + 1; omega, by show j + 1 ≤ b; omega⟩ (by show b - (j + 1) < b - j; omega) ⟨rfl, rfl, rfl, rfl, rfl, rfl, congrArg some (int_eq (by simp only; omega)), trivial⟩ (by (apply ent; (repeat constructor); done))
          · skip
            rw [if_neg (show ¬ j < b by omega)] at hu
            subst hu
            refine w_exit (a_then_exit (a_then_exit (a_block_exit (a_block (aT (wR ?_))))))
            refine lY (yM rfl) rfl ?_
            refine lY (y_add rfl rfl (by omega) (by omega)) rfl ?_
            refine lY (yA rfl) rfl ?_
            refine l_nil ?_
            refine a_round (ι := Nat × Nat × Array Nat) (j := (s, i2, u)) ⟨he, hdu, by show s ≤ 5; omega, by show a + 1 ≤ i2; omega, by show i2 ≤ b; omega⟩ (by show s < s + 1; omega) ⟨rfl, rfl, rfl, rfl, rfl, congrArg some (int_eq (by simp only; omega)), trivial⟩ (by (apply ent; (repeat constructor); done))
        · skip
          rw [if_neg (by omega)] at he3
          subst he3
          refine w_skip (a_block (aT (wR ?_)))
          refine lY (yM rfl) rfl ?_
          refine lY (y_add rfl rfl (by omega) (by omega)) rfl ?_
          refine lY (yA rfl) rfl ?_
          refine l_nil ?_
          refine a_round (ι := Nat × Nat × Array Nat) (j := (s, i2, e2)) ⟨he, hd2, by show s ≤ 5; omega, by show a + 1 ≤ i2; omega, by show i2 ≤ b; omega⟩ (by show s < s + 1; omega) ⟨rfl, rfl, rfl, rfl, rfl, congrArg some (int_eq (by simp only; omega)), trivial⟩ (by (apply ent; (repeat constructor); done))
  · skip
    obtain rfl : s = 0 := by omega
    rw [partialIns] at he
    subst he
    refine w_exit (a_then_exit (a_then_exit (a_block_exit (aT (w_seq (wR ?_))))))
    refine lY (yA rfl) rfl ?_
    refine l_nil (aT (w_ret ?_))
    apply a_ret
    · rfl
    · (apply Rs.tmp rfl; exact Rs.nil)
    · exact ⟨rfl, rfl, hde⟩
    · (apply ent; (repeat constructor); done)
end Go.Proofs.YtekhbjlplfbdkaaGreatDoor
