/- Plain laws on sorted lists of texts. -/
import Derived.Test.YtoenonlkdmdlcaaGreatDoorQ17
import Derived.Test.YtoenonlkdmdlcaaGreatDoorQ20
set_option linter.unusedVariables false
set_option linter.unusedSimpArgs false
namespace Eg
/-- No text is less than the one before. -/
def Srt (ts : List (List UInt8)) : Prop := ∀ k A B, ts[k]? = some A → ts[k + 1]? = some B → cmpT A B ≤ 0
theorem Srt.le {ts : List (List UInt8)} (h : Srt ts) {i j : Nat} {A B : List UInt8} (hij : i ≤ j) (hA : ts[i]? = some A) (hB : ts[j]? = some B) : cmpT A B ≤ 0 := by
  induction j generalizing B with
  | zero =>
    obtain rfl : i = 0 := by omega
    rw [hA] at hB
    cases hB
    rw [cmpT_self]; exact Int.le_refl 0
  | succ j ih =>
    by_cases e : i = j + 1
    · subst e
      rw [hA] at hB
      cases hB
      rw [cmpT_self]; exact Int.le_refl 0
    · have hl := (List.getElem?_eq_some_iff.1 hB).1
      obtain ⟨C, hC⟩ : ∃ C, ts[j]? = some C := ⟨_, List.getElem?_eq_getElem (by omega)⟩
      exact cmpT_trans (ih (by omega) hC) (h j C B hC hB)
/-- How many elements in front meet a test. -/
def cnt (p : List UInt8 → Bool) : List (List UInt8) → Nat
  | [] => 0
  | A :: l => if p A then cnt p l + 1 else 0
theorem cnt_le (p : List UInt8 → Bool) (ts : List (List UInt8)) : cnt p ts ≤ ts.length := by
  induction ts with
  | nil => simp [cnt]
  | cons A l ih => simp only [cnt, List.length_cons]; split <;> omega
theorem cnt_lt {p : List UInt8 → Bool} {ts : List (List UInt8)} {i : Nat} {A : List UInt8} (h : i < cnt p ts) (hA : ts[i]? = some A) : p A = true := by
  induction ts generalizing i with
  | nil => simp at hA
  | cons B l ih =>
    simp only [cnt] at h
    split at h
    · rename_i hp
      cases i with
      | zero => simp at hA; subst hA; exact hp
      | succ i => exact ih (i := i) (by omega) (by simpa using hA)
    · omega
theorem cnt_at {p : List UInt8 → Bool} {ts : List (List UInt8)} {A : List UInt8} (hA : ts[cnt p ts]? = some A) : p A = false := by
  induction ts with
  | nil => simp [cnt] at hA
  | cons B l ih =>
    simp only [cnt] at hA
    by_cases hp : p B = true
    · rw [if_pos hp] at hA
      exact ih (by simpa using hA)
    · rw [if_neg hp] at hA
      simp at hA
      subst hA
      simpa using hp
/-- The place of the first text that is not less. -/
def srch (ts : List (List UInt8)) (x : List UInt8) : Nat := cnt (fun A => decide (cmpT A x < 0)) ts
theorem srch_lt {ts : List (List UInt8)} {x : List UInt8} {i : Nat} {A : List UInt8} (h : i < srch ts x) (hA : ts[i]? = some A) : cmpT A x < 0 := by simpa using cnt_lt h hA
theorem srch_ge {ts : List (List UInt8)} {x : List UInt8} (hs : Srt ts) {i : Nat} {A : List UInt8} (h : srch ts x ≤ i) (hA : ts[i]? = some A) : 0 ≤ cmpT A x := by
  have hl := (List.getElem?_eq_some_iff.1 hA).1
  obtain ⟨B, hB⟩ : ∃ B, ts[srch ts x]? = some B := ⟨_, List.getElem?_eq_getElem (by omega)⟩
  have h1 : ¬ cmpT B x < 0 := by simpa using cnt_at hB
  have h2 := hs.le h hB hA
  have h3 : cmpT x B ≤ 0 := by rw [cmpT_swap B x]; omega
  have h4 := cmpT_trans h3 h2
  rw [cmpT_swap A x] at h4
  omega
/-- How many texts from a place on begin with a text. -/
def bgns (ts : List (List UInt8)) (x : List UInt8) : Nat := cnt (fun A => decide (Bgn A x)) (ts.drop (srch ts x))
theorem bgns_lt {ts : List (List UInt8)} {x : List UInt8} {i : Nat} {A : List UInt8} (h : i < bgns ts x) (hA : ts[srch ts x + i]? = some A) : Bgn A x := by
  simpa using cnt_lt h (show (ts.drop (srch ts x))[i]? = some A by rw [List.getElem?_drop]; exact hA)
theorem bgns_ge {ts : List (List UInt8)} {x : List UInt8} (hs : Srt ts) {i : Nat} {A : List UInt8} (h : bgns ts x ≤ i) (hA : ts[srch ts x + i]? = some A) : ¬ Bgn A x := by
  intro hb
  have hl := (List.getElem?_eq_some_iff.1 hA).1
  obtain ⟨B, hB⟩ : ∃ B, ts[srch ts x + bgns ts x]? = some B := ⟨_, List.getElem?_eq_getElem (by omega)⟩
  have h1 : ¬ Bgn B x := by simpa using cnt_at (show (ts.drop (srch ts x))[bgns ts x]? = some B by rw [List.getElem?_drop]; exact hB)
  exact h1 (bgn_between (srch_ge hs (Nat.le_add_right _ _) hB) (hs.le (by omega) hB hA) hb)
theorem bgns_le (ts : List (List UInt8)) (x : List UInt8) : srch ts x + bgns ts x ≤ ts.length := by
  have h1 := cnt_le (fun A => decide (Bgn A x)) (ts.drop (srch ts x))
  rw [List.length_drop] at h1
  have h2 : srch ts x ≤ ts.length := cnt_le _ _
  unfold bgns
  omega
end Eg
/- Package order: checkSorted, search, Search; sort.Search; evergreenref27.Sorted, Search. -/
namespace Go.Proofs.YtoenonlkdmdlcaaGreatDoor
open Go Go.RowKit Sl Eg
set_option maxRecDepth 10000
variable {E : Env} {Es : List Ent} {pp tb s most : Nat}
theorem rdb_id {w0 : World} {a : Option Addr} {q : HP} {ids : List Nat} (h : Rdb w0 a (idC ids) q) : ids ≠ [] → ∃ g o, a = some ⟨g, o, none⟩ ∧ ∀ k, q k → RdAt w0 g o (idC ids) k := fun hn => h (by simpa [idC] using hn)
theorem ct_checkSorted (hE : Seat E) (hB : Base E.w0) {ids : List Nat} {x : Nat} (hg : ∀ x ∈ ids, good (rls Es) x) (hx : good (rls Es) x) (hl : ∀ x ∈ ids, len (rls Es) x ≤ 4000000) (hn : ids.length ≤ 1099511627776) {a : Option Addr} {c : Nat} {q : HP} (hq : Rdb E.w0 a (idC ids) q) {b : Bool} (hb : b = true ↔ Srt (ids.map (txt (rls Es)))) :
    Ct E 18 [.pointer (some ⟨pp, 0, none⟩), .slice a ids.length c, .int .i64 (x : Nat)] [cells pp [.pointer (some ⟨s, 0, none⟩), .pointer (some ⟨tb, 0, none⟩)] 59, tabP tb s (rls Es), storeP s most Es, q] (fun v Q => v = (if b then .nilIface else .iface 34 (.int .i64 4)) ∧ Q = [cells pp [.pointer (some ⟨s, 0, none⟩), .pointer (some ⟨tb, 0, none⟩)] 59, tabP tb s (rls Es), storeP s most Es, q]) := by
  have hg1 : ∀ y ∈ [x], good (rls Es) y := by intro y hy; simp at hy; subst hy; exact hx
  refine fn_enter (hE.fn Tryz.func18) rfl rfl rfl (fun R => ?_)
  simp only [argsL, List.cons_append, List.nil_append]
  refine w_seq (w_region ?_)
  refine l_yield (y_assign rfl) rfl ?_
  refine l_nil (a_then (w_seq (w_seq (w_region ?_))))
  refine l_yield (y_move rfl) rfl ?_
  refine l_yield (y_move rfl) rfl ?_
  apply l_loud (by kernel_rfl) rfl
  apply ld_call (ct_ocheck hE hB hg (rdb_id hq) (by omega)) rfl (hE.f (by kernel_rfl))
  · ((repeat constructor); done)
  rintro _ _ ⟨rfl, rfl⟩
  simp only [List.cons_append, List.nil_append]
  refine l_yield (y_assign rfl) rfl ?_
  refine l_nil (a_then (w_seq (w_region ?_)))
  refine l_yield (y_move rfl) rfl ?_
  apply l_yield
  · (first | exact y_ok_ne rfl (hE.t rfl) | exact y_err_ne rfl (hE.t rfl))
  · rfl
  refine l_nil (a_then ?_)
  refine w_cond_f rfl ?_
  refine w_skip (a_then (w_seq (w_seq (w_region ?_))))
  refine l_yield (y_move rfl) rfl ?_
  refine l_yield (y_move rfl) rfl ?_
  apply l_loud (by kernel_rfl) rfl
  refine ld_buildSlice (hE.t rfl) (hE.t rfl) rfl rfl rfl (fun b18 => ?_)
  apply l_loud (by kernel_rfl) rfl
  apply ld_call (ct_ocheck (ids := [x]) hE hB hg1 (fun _ => ⟨b18, 0, rfl, rd_cells (fun _ _ h => h)⟩) (by simp)) rfl (hE.f (by kernel_rfl))
  · ((repeat constructor); done)
  rintro _ _ ⟨rfl, rfl⟩
  simp only [List.cons_append, List.nil_append]
  refine l_yield (y_assign rfl) rfl ?_
  refine l_nil (a_then (w_seq (w_region ?_)))
  refine l_yield (y_move rfl) rfl ?_
  apply l_yield
  · (first | exact y_ok_ne rfl (hE.t rfl) | exact y_err_ne rfl (hE.t rfl))
  · rfl
  refine l_nil (a_then ?_)
  refine w_cond_f rfl ?_
  refine w_skip (a_then (w_seq (w_seq (w_region ?_))))
  refine l_yield (y_assign rfl) rfl ?_
  refine l_nil (a_then (w_block ?_))
  skip
  refine w_loop (fun k : Nat => [(0, .pointer (some ⟨pp, 0, none⟩)), (1, .slice a ids.length c), (9, .int .i64 (k : Nat))]) (fun k => [cells pp [.pointer (some ⟨s, 0, none⟩), .pointer (some ⟨tb, 0, none⟩)] 59, tabP tb s (rls Es), storeP s most Es, q, R]) (fun k => ids.length - k) (fun k => 1 ≤ k ∧ (k ≤ ids.length ∨ k = 1) ∧ ∀ j A B, j + 1 < k → (ids.map (txt (rls Es)))[j]? = some A → (ids.map (txt (rls Es)))[j + 1]? = some B → cmpT A B ≤ 0) 1 ?_ ?_ ?_ ?_
  · exact ⟨Nat.le_refl _, .inr rfl, fun j A B h => by omega⟩
  · exact ⟨rfl, rfl, rfl, trivial⟩
  · (apply ent; (repeat constructor); done)
  rintro k ⟨hk1, hk2, hso⟩
  skip
  refine w_seq (w_seq (w_region ?_))
  refine l_yield (y_move rfl) rfl ?_
  refine l_yield (y_move rfl) rfl ?_
  refine l_yield (y_len_slice rfl (hE.t rfl)) rfl ?_
  refine l_yield (y_lt rfl rfl) rfl ?_
  refine l_nil (a_then ?_)
  refine w_cond_d rfl (fun h1 => ?_) (fun h1 => ?_)
  · skip
    have hkl : k < ids.length := by omega
    obtain ⟨g, o, rfl, hqq⟩ := rdb_id hq (by intro e; rw [e] at hkl; simp at hkl)
    obtain ⟨k, rfl⟩ : ∃ j, k = j + 1 := ⟨k - 1, by omega⟩
    obtain ⟨u, hu⟩ : ∃ u, ids[k]? = some u := ⟨_, List.getElem?_eq_getElem (by omega)⟩
    obtain ⟨v, hv⟩ : ∃ v, ids[k + 1]? = some v := ⟨_, List.getElem?_eq_getElem hkl⟩
    have hum := List.mem_of_getElem? hu
    have hvm := List.mem_of_getElem? hv
    have f0 := idC_get hu k rfl
    have f1 := idC_get hv (k + 1) rfl
    have e0 : (ids.map (txt (rls Es)))[k]? = some (txt (rls Es) u) := by simp [hu]
    have e1 : (ids.map (txt (rls Es)))[k + 1]? = some (txt (rls Es) v) := by simp [hv]
    have l0 := hl u hum
    have l1 := hl v hvm
    refine w_skip (a_then ?_)
    refine w_seq (w_block (w_seq ?_))
    refine w_held ([q]) ?_ ?_
    · (apply ent; (repeat constructor); done)
    apply d_take 0 rfl
    · exact y_move rfl
    · with_reducible (repeat (first | exact calm_body | apply calm_then | apply calm_block))
    · kernel_rfl
    · rfl
    apply d_take 1 rfl
    · exact y_move rfl
    · with_reducible (repeat (first | exact calm_body | apply calm_then | apply calm_block))
    · kernel_rfl
    · rfl
    apply d_take 2 rfl
    · exact y_sub rfl rfl (by omega) (by omega)
    · with_reducible (repeat (first | exact calm_body | apply calm_then | apply calm_block))
    · kernel_rfl
    · rfl
    apply d_take 3 rfl
    · (first | exact y_indexAddr1 rfl rfl (hE.t rfl) (by omega) (by omega) | exact y_indexAddr rfl rfl (hE.t rfl) (by omega) (by omega))
    · with_reducible (repeat (first | exact calm_body | apply calm_then | apply calm_block))
    · kernel_rfl
    · rfl
    apply d_take 4 rfl
    · (first | (apply y_load rfl (hE.t rfl) rfl; (repeat (first | rfl | assumption | constructor)); done) | exact y_load_old rfl (hE.t rfl) rfl (by assumption) | (apply y_load_ro rfl (hE.t rfl) rfl; (focus ((repeat constructor); done)); (focus assumption)) | (apply y_load_q rfl (hE.t rfl) rfl (by assumption); (focus ((repeat constructor); done)); (first | ((focus exact f0); (focus omega)) | ((focus exact f1); (focus omega)) | ((focus assumption); (focus omega)))))
    · with_reducible (repeat (first | exact calm_body | apply calm_then | apply calm_block))
    · kernel_rfl
    · rfl
    apply d_take 5 rfl
    · exact y_move rfl
    · with_reducible (repeat (first | exact calm_body | apply calm_then | apply calm_block))
    · kernel_rfl
    · rfl
    apply d_take 6 rfl
    · exact y_move rfl
    · with_reducible (repeat (first | exact calm_body | apply calm_then | apply calm_block))
    · kernel_rfl
    · rfl
    apply d_take 7 rfl
    · (first | exact y_indexAddr1 rfl rfl (hE.t rfl) (by omega) (by omega) | exact y_indexAddr rfl rfl (hE.t rfl) (by omega) (by omega))
    · with_reducible (repeat (first | exact calm_body | apply calm_then | apply calm_block))
    · kernel_rfl
    · rfl
    apply d_take 8 rfl
    · (first | (apply y_load rfl (hE.t rfl) rfl; (repeat (first | rfl | assumption | constructor)); done) | exact y_load_old rfl (hE.t rfl) rfl (by assumption) | (apply y_load_ro rfl (hE.t rfl) rfl; (focus ((repeat constructor); done)); (focus assumption)) | (apply y_load_q rfl (hE.t rfl) rfl (by assumption); (focus ((repeat constructor); done)); (first | ((focus exact f0); (focus omega)) | ((focus exact f1); (focus omega)) | ((focus assumption); (focus omega)))))
    · with_reducible (repeat (first | exact calm_body | apply calm_then | apply calm_block))
    · kernel_rfl
    · rfl
    apply d_take 9 rfl
    · exact y_ne rfl rfl
    · with_reducible (repeat (first | exact calm_body | apply calm_then | apply calm_block))
    · kernel_rfl
    · rfl
    apply d_take 10 rfl
    · exact y_move rfl
    · with_reducible (repeat (first | exact calm_body | apply calm_then | apply calm_block))
    · kernel_rfl
    · rfl
    refine d_split 39 rfl (fun h2 => ?_) (fun h2 => ?_)
    · skip
      apply d_on 11 rfl rfl rfl
      · exact y_move rfl
      · with_reducible (repeat (first | exact calm_body | apply calm_then | apply calm_block))
      · kernel_rfl
      · rfl
      apply d_on 12 rfl rfl rfl
      · exact y_move rfl
      · with_reducible (repeat (first | exact calm_body | apply calm_then | apply calm_block))
      · kernel_rfl
      · rfl
      apply d_on 13 rfl rfl rfl
      · exact y_move rfl
      · with_reducible (repeat (first | exact calm_body | apply calm_then | apply calm_block))
      · kernel_rfl
      · rfl
      apply d_on 14 rfl rfl rfl
      · exact y_sub rfl rfl (by omega) (by omega)
      · with_reducible (repeat (first | exact calm_body | apply calm_then | apply calm_block))
      · kernel_rfl
      · rfl
      apply d_on 15 rfl rfl rfl
      · (first | exact y_indexAddr1 rfl rfl (hE.t rfl) (by omega) (by omega) | exact y_indexAddr rfl rfl (hE.t rfl) (by omega) (by omega))
      · with_reducible (repeat (first | exact calm_body | apply calm_then | apply calm_block))
      · kernel_rfl
      · rfl
      apply d_on 16 rfl rfl rfl
      · (first | (apply y_load rfl (hE.t rfl) rfl; (repeat (first | rfl | assumption | constructor)); done) | exact y_load_old rfl (hE.t rfl) rfl (by assumption) | (apply y_load_ro rfl (hE.t rfl) rfl; (focus ((repeat constructor); done)); (focus assumption)) | (apply y_load_q rfl (hE.t rfl) rfl (by assumption); (focus ((repeat constructor); done)); (first | ((focus exact f0); (focus omega)) | ((focus exact f1); (focus omega)) | ((focus assumption); (focus omega)))))
      · with_reducible (repeat (first | exact calm_body | apply calm_then | apply calm_block))
      · kernel_rfl
      · rfl
      apply d_on 17 rfl rfl rfl
      · exact y_move rfl
      · with_reducible (repeat (first | exact calm_body | apply calm_then | apply calm_block))
      · kernel_rfl
      · rfl
      apply d_on 18 rfl rfl rfl
      · exact y_move rfl
      · with_reducible (repeat (first | exact calm_body | apply calm_then | apply calm_block))
      · kernel_rfl
      · rfl
      apply d_on 19 rfl rfl rfl
      · (first | exact y_indexAddr1 rfl rfl (hE.t rfl) (by omega) (by omega) | exact y_indexAddr rfl rfl (hE.t rfl) (by omega) (by omega))
      · with_reducible (repeat (first | exact calm_body | apply calm_then | apply calm_block))
      · kernel_rfl
      · rfl
      apply d_on 20 rfl rfl rfl
      · (first | (apply y_load rfl (hE.t rfl) rfl; (repeat (first | rfl | assumption | constructor)); done) | exact y_load_old rfl (hE.t rfl) rfl (by assumption) | (apply y_load_ro rfl (hE.t rfl) rfl; (focus ((repeat constructor); done)); (focus assumption)) | (apply y_load_q rfl (hE.t rfl) rfl (by assumption); (focus ((repeat constructor); done)); (first | ((focus exact f0); (focus omega)) | ((focus exact f1); (focus omega)) | ((focus assumption); (focus omega)))))
      · with_reducible (repeat (first | exact calm_body | apply calm_then | apply calm_block))
      · kernel_rfl
      · rfl
      apply d_loud_on 21 rfl rfl rfl (by kernel_rfl) rfl
      apply ld_call (ct_compare hE hB (hg u hum) (hg v hvm) (by omega)) rfl (hE.f (by kernel_rfl))
      · ((repeat constructor); done)
      rintro _ _ ⟨rfl, rfl⟩
      simp only [List.cons_append, List.nil_append]
      refine ⟨by (apply ent; (repeat constructor); done), ?_⟩
      apply d_on 22 rfl rfl rfl
      · exact y_gt rfl rfl
      · with_reducible (repeat (first | exact calm_body | apply calm_then | apply calm_block))
      · kernel_rfl
      · rfl
      apply d_take 23 rfl
      · (first | exact y_pick_t rfl rfl | exact y_pick_f rfl rfl)
      · with_reducible (repeat (first | exact calm_body | apply calm_then | apply calm_block))
      · kernel_rfl
      · rfl
      refine d_nil (by kernel_rfl) ?_
      refine a_then ?_
      refine w_cond_d rfl (fun h3 => ?_) (fun h3 => ?_)
      · skip
        have hbf : b = false := by
          cases b with
          | false => rfl
          | true => have := (hb.1 rfl) k _ _ e0 e1; omega
        refine w_seq (w_region ?_)
        refine l_yield (y_iface rfl (hE.t rfl) rfl) rfl ?_
        refine l_yield (y_assign rfl) rfl ?_
        refine l_nil (a_then (w_ret (a_block_ret (a_then_ret (a_then_ret (a_block_ret (a_then_ret ?_)))))))
        apply a_ret
        · rfl
        · (apply Rs.tmp rfl; exact Rs.nil)
        · exact ⟨by rw [hbf]; rfl, rfl⟩
        · (apply ent; (repeat constructor); done)
      skip
      refine w_skip (a_block (a_then (w_region ?_)))
      refine l_yield (y_move rfl) rfl ?_
      refine l_yield (y_add rfl rfl (by omega) (by omega)) rfl ?_
      refine l_yield (y_assign rfl) rfl ?_
      refine l_nil ?_
      refine wa_eq 9 (.int .i64 ((k + 2 : Nat) : Int)) rfl (int_eq (by omega)) ?_
      refine a_round (k + 2) ⟨by omega, .inl (by omega), fun j A B hj hA hB => ?_⟩ (by omega) ⟨rfl, rfl, rfl, trivial⟩ (by (apply ent; (repeat constructor); done))
      by_cases e : j = k
      · subst e
        rw [e0] at hA
        rw [e1] at hB
        cases hA
        cases hB
        omega
      · exact hso j A B (by omega) hA hB
    · skip
      have huv : u = v := by omega
      refine d_off 11 rfl rfl rfl rfl (by with_reducible (repeat (first | exact calm_body | apply calm_then | apply calm_block))) (by kernel_rfl) rfl ?_
      refine d_off 12 rfl rfl rfl rfl (by with_reducible (repeat (first | exact calm_body | apply calm_then | apply calm_block))) (by kernel_rfl) rfl ?_
      refine d_off 13 rfl rfl rfl rfl (by with_reducible (repeat (first | exact calm_body | apply calm_then | apply calm_block))) (by kernel_rfl) rfl ?_
      refine d_off 14 rfl rfl rfl rfl (by with_reducible (repeat (first | exact calm_body | apply calm_then | apply calm_block))) (by kernel_rfl) rfl ?_
      refine d_off 15 rfl rfl rfl rfl (by with_reducible (repeat (first | exact calm_body | apply calm_then | apply calm_block))) (by kernel_rfl) rfl ?_
      refine d_off 16 rfl rfl rfl rfl (by with_reducible (repeat (first | exact calm_body | apply calm_then | apply calm_block))) (by kernel_rfl) rfl ?_
      refine d_off 17 rfl rfl rfl rfl (by with_reducible (repeat (first | exact calm_body | apply calm_then | apply calm_block))) (by kernel_rfl) rfl ?_
      refine d_off 18 rfl rfl rfl rfl (by with_reducible (repeat (first | exact calm_body | apply calm_then | apply calm_block))) (by kernel_rfl) rfl ?_
      refine d_off 19 rfl rfl rfl rfl (by with_reducible (repeat (first | exact calm_body | apply calm_then | apply calm_block))) (by kernel_rfl) rfl ?_
      refine d_off 20 rfl rfl rfl rfl (by with_reducible (repeat (first | exact calm_body | apply calm_then | apply calm_block))) (by kernel_rfl) rfl ?_
      refine d_off 21 rfl rfl rfl rfl (by with_reducible (repeat (first | exact calm_body | apply calm_then | apply calm_block))) (by kernel_rfl) rfl ?_
      refine d_off 22 rfl rfl rfl rfl (by with_reducible (repeat (first | exact calm_body | apply calm_then | apply calm_block))) (by kernel_rfl) rfl ?_
      apply d_take 23 rfl
      · (first | exact y_pick_t rfl rfl | exact y_pick_f rfl rfl)
      · with_reducible (repeat (first | exact calm_body | apply calm_then | apply calm_block))
      · kernel_rfl
      · rfl
      refine d_nil (by kernel_rfl) ?_
      refine a_then ?_
      refine w_cond_f rfl ?_
      refine w_skip (a_block (a_then (w_region ?_)))
      refine l_yield (y_move rfl) rfl ?_
      refine l_yield (y_add rfl rfl (by omega) (by omega)) rfl ?_
      refine l_yield (y_assign rfl) rfl ?_
      refine l_nil ?_
      refine wa_eq 9 (.int .i64 ((k + 2 : Nat) : Int)) rfl (int_eq (by omega)) ?_
      refine a_round (k + 2) ⟨by omega, .inl (by omega), fun j A B hj hA hB => ?_⟩ (by omega) ⟨rfl, rfl, rfl, trivial⟩ (by (apply ent; (repeat constructor); done))
      by_cases e : j = k
      · subst e
        rw [e0] at hA
        rw [e1] at hB
        cases hA
        cases hB
        rw [huv, cmpT_self]
        exact Int.le_refl 0
      · exact hso j A B (by omega) hA hB
  · skip
    have hbt : b = true := hb.2 fun j A B hA hB => hso j A B (by have := (List.getElem?_eq_some_iff.1 hB).1; simp at this; omega) hA hB
    refine w_exit (a_then_exit (a_then_exit (a_block_exit (a_then (w_seq (w_region ?_))))))
    refine l_yield (y_assign rfl) rfl ?_
    refine l_nil (a_then (w_ret ?_))
    apply a_ret
    · rfl
    · (apply Rs.tmp rfl; exact Rs.nil)
    · exact ⟨by rw [hbt]; rfl, rfl⟩
    · (apply ent; (repeat constructor); done)
end Go.Proofs.YtoenonlkdmdlcaaGreatDoor
/- sort.Search; package order: search, Search. -/
namespace Go.Proofs.YtoenonlkdmdlcaaGreatDoor
open Go Go.RowKit Sl Eg
set_option maxRecDepth 10000
variable {E : Env} {Es : List Ent} {pp tb s most : Nat}
theorem wrU (a : Nat) (ha : a < 18446744073709551616) : IntKind.u64.wrap (a : Int) = (a : Int) := by rw [IntKind.wrap_u64]; omega
theorem y_shr1 {n : Nat} {L : Fr} {S : List HP} {ty : TypeId} {pos : String} {af : Array Edge} {d : Option Nat} {gd : Option (Nat × Bool)} {x y : Operand} {xt yt : TypeId} {i : Nat} (hx : ev L x = some (.int .u64 (i : Nat))) (hy : ev L y = some (.int .u64 1)) :
    Yl E n L S ⟨d, .binOp .shr xt x y yt, ty, pos, af, gd⟩ (.int .u64 ((i / 2 : Nat) : Int)) := fun a w g _ => by
  have h := shift_shr_any .u64 .u64 (i : Int) 1 (by decide)
  have e : (i : Int) / 2 ^ min (1 : Int).toNat IntKind.u64.bits = ((i / 2 : Nat) : Int) := by
    show (i : Int) / 2 ^ 1 = _
    omega
  rw [e] at h
  simp [execOp, eqGuard, binOp, g.ev hx, g.ev hy, h]
theorem ct_sortSearch (hE : Seat E) {fc : FuncId} {caps : List Value} {n m : Nat} {P : Nat → Bool} {pre : HP} (hf : goFn E.P fc = true) (hn : n ≤ 1099511627776) (hc : ∀ i, i < n → Ct E fc (.int .i64 (i : Nat) :: caps) [pre] (fun v Q => v = .bool (P i) ∧ Q = [pre]))
    (hm : m ≤ n) (h0 : ∀ i, i < m → P i = false) (h1 : ∀ i, m ≤ i → i < n → P i = true) : Ct E 29 [.int .i64 (n : Nat), .func (.func fc) #[] ⟨caps⟩] [pre] (fun v Q => v = .int .i64 (m : Nat) ∧ Q = [pre]) := by
  refine fn_enter (hE.fn Tryz.func29) rfl rfl rfl (fun R => ?_)
  simp only [argsL, List.cons_append, List.nil_append]
  refine w_seq (w_region ?_)
  refine l_yield (y_assign rfl) rfl ?_
  refine l_nil (a_then (w_seq (w_region ?_)))
  refine l_yield (y_move rfl) rfl ?_
  refine l_yield (y_assign rfl) rfl ?_
  refine l_yield (y_assign rfl) rfl ?_
  refine l_nil (a_then (w_seq (w_block ?_)))
  skip
  refine w_loop (fun x : Nat × Nat => [(1, .func (.func fc) #[] ⟨caps⟩), (5, .int .i64 (x.1 : Nat)), (6, .int .i64 (x.2 : Nat))]) (fun x => [pre, R]) (fun x => x.2 - x.1) (fun x => x.1 ≤ m ∧ m ≤ x.2 ∧ x.2 ≤ n) (0, n) ?_ ?_ ?_ ?_
  · exact ⟨Nat.zero_le _, hm, Nat.le_refl _⟩
  · exact ⟨rfl, rfl, rfl, trivial⟩
  · (apply ent; (repeat constructor); done)
  rintro ⟨i, j⟩ ⟨hi, hj, hjn⟩
  simp only at hi hj hjn ⊢
  skip
  refine w_seq (w_seq (w_region ?_))
  refine l_yield (y_move rfl) rfl ?_
  refine l_yield (y_move rfl) rfl ?_
  refine l_yield (y_lt rfl rfl) rfl ?_
  refine l_nil (a_then ?_)
  refine w_cond_d rfl (fun h2 => ?_) (fun h2 => ?_)
  · skip
    refine w_skip (a_then (w_block (w_seq (w_region ?_))))
    refine l_yield (y_move rfl) rfl ?_
    refine l_yield (y_move rfl) rfl ?_
    refine l_yield (y_add rfl rfl (by omega) (by omega)) rfl ?_
    refine l_eq 14 (.int .i64 ((i + j : Nat) : Int)) rfl (int_eq (by omega)) ?_
    apply l_yield
    · exact y_conv rfl (hE.t rfl) (hE.t rfl) (wrU _ (by omega))
    · rfl
    apply l_yield
    · exact y_shr1 rfl rfl
    · rfl
    apply l_yield
    · exact y_conv rfl (hE.t rfl) (hE.t rfl) (wrap_in (by omega) (by omega))
    · rfl
    refine l_yield (y_assign rfl) rfl ?_
    refine l_nil (a_then (w_seq (w_region ?_)))
    refine l_yield (y_move rfl) rfl ?_
    refine l_yield (y_move rfl) rfl ?_
    obtain ⟨h, eh⟩ : ∃ h : Nat, h = (i + j) / 2 := ⟨_, rfl⟩
    refine l_eq 19 (.int .i64 (h : Nat)) rfl (int_eq (by omega)) ?_
    have hcc := hc h (by omega)
    apply l_loud (by kernel_rfl) rfl
    apply ld_callv (hx := rfl) (ha := rfl) (hf := hf)
    · exact hcc
    · ((repeat constructor); done)
    rintro _ _ ⟨rfl, rfl⟩
    simp only [List.cons_append, List.nil_append]
    skip
    cases hp : P h with
    | false =>
      have hlt : h < m := by
        rcases Nat.lt_or_ge h m with hh | hh
        · exact hh
        · have := h1 h hh (by omega); rw [hp] at this; cases this
      refine l_yield (y_not rfl) rfl ?_
      refine l_nil (a_then ?_)
      refine w_cond_t rfl ?_
      refine w_region ?_
      refine l_yield (y_move rfl) rfl ?_
      refine l_yield (y_add rfl rfl (by omega) (by omega)) rfl ?_
      refine l_yield (y_assign rfl) rfl ?_
      refine l_nil (a_block ?_)
      refine a_round (ι := Nat × Nat) (j := (h + 1, j)) ⟨by show h + 1 ≤ m; omega, hj, hjn⟩ (by show j - (h + 1) < j - i; omega) ⟨rfl, ?_, rfl, trivial⟩ (by (apply ent; (repeat constructor); done))
      exact congrArg some (int_eq (by omega))
    | true =>
      have hge : m ≤ h := by
        rcases Nat.lt_or_ge h m with hh | hh
        · have := h0 h hh; rw [hp] at this; cases this
        · exact hh
      skip
      refine l_yield (y_not rfl) rfl ?_
      refine l_nil (a_then ?_)
      refine w_cond_f rfl ?_
      refine w_region ?_
      refine l_yield (y_move rfl) rfl ?_
      refine l_yield (y_assign rfl) rfl ?_
      refine l_nil (a_block ?_)
      refine a_round (ι := Nat × Nat) (j := (i, h)) ⟨hi, hge, by show h ≤ n; omega⟩ (by show h - i < j - i; omega) ⟨rfl, rfl, ?_, trivial⟩ (by (apply ent; (repeat constructor); done))
      exact congrArg some (int_eq (by omega))
  · skip
    obtain rfl : i = m := by omega
    refine w_exit (a_then_exit (a_then_exit (a_block_exit (a_then (w_seq (w_region ?_))))))
    refine l_yield (y_move rfl) rfl ?_
    refine l_yield (y_assign rfl) rfl ?_
    refine l_nil (a_then (w_ret ?_))
    apply a_ret
    · rfl
    · (apply Rs.tmp rfl; exact Rs.nil)
    · exact ⟨rfl, rfl⟩
    · (apply ent; (repeat constructor); done)
theorem ct_search1 (hE : Seat E) (hB : Base E.w0) {ids : List Nat} {x i u : Nat} (hu : ids[i]? = some u) (gu : good (rls Es) u) (hx : good (rls Es) x) (hl : len (rls Es) u + len (rls Es) x < 8388608) {g o c b3 b4 b5 : Nat} {q : HP} (hqq : ∀ k, q k → RdAt E.w0 g o (idC ids) k) :
    Ct E 36 [.int .i64 (i : Nat), .pointer (some ⟨b3, 0, none⟩), .pointer (some ⟨b4, 0, none⟩), .pointer (some ⟨b5, 0, none⟩)] [cells b3 [.pointer (some ⟨pp, 0, none⟩)] 25, cells b4 [.slice (some ⟨g, o, none⟩) ids.length c] 26, cells b5 [.int .i64 (x : Nat)] 23, cells pp [.pointer (some ⟨s, 0, none⟩), .pointer (some ⟨tb, 0, none⟩)] 59, tabP tb s (rls Es), storeP s most Es, q]
      (fun v Q => v = .bool (decide (0 ≤ cmpT (txt (rls Es) u) (txt (rls Es) x))) ∧ Q = [cells b3 [.pointer (some ⟨pp, 0, none⟩)] 25, cells b4 [.slice (some ⟨g, o, none⟩) ids.length c] 26, cells b5 [.int .i64 (x : Nat)] 23, cells pp [.pointer (some ⟨s, 0, none⟩), .pointer (some ⟨tb, 0, none⟩)] 59, tabP tb s (rls Es), storeP s most Es, q]) := by
  have hil := (List.getElem?_eq_some_iff.1 hu).1
  have f0 := idC_get hu i rfl
  refine fn_enter (hE.fn Tryz.func36) rfl rfl rfl (fun R => ?_)
  simp only [argsL, List.cons_append, List.nil_append]
  refine w_seq (w_region ?_)
  refine l_yield (y_assign rfl) rfl ?_
  refine l_nil (a_then ?_)
  refine w_seq ?_
  refine w_held ([cells b3 [.pointer (some ⟨pp, 0, none⟩)] 25, cells b4 [.slice (some ⟨g, o, none⟩) ids.length c] 26, cells b5 [.int .i64 (x : Nat)] 23, q]) ?_ ?_
  · (apply ent; (repeat constructor); done)
  apply d_take 0 rfl
  · (first | (apply y_load rfl (hE.t rfl) rfl; (repeat (first | rfl | assumption | constructor)); done) | exact y_load_old rfl (hE.t rfl) rfl (by assumption) | (apply y_load_ro rfl (hE.t rfl) rfl; (focus ((repeat constructor); done)); (focus assumption)) | (apply y_load_q rfl (hE.t rfl) rfl (by assumption); (focus ((repeat constructor); done)); (first | ((focus exact f0); (focus omega)) | ((focus exact f1); (focus omega)) | ((focus assumption); (focus omega)))))
  · with_reducible (repeat (first | exact calm_body | apply calm_then | apply calm_block))
  · kernel_rfl
  · rfl
  apply d_take 1 rfl
  · (first | (apply y_load rfl (hE.t rfl) rfl; (repeat (first | rfl | assumption | constructor)); done) | exact y_load_old rfl (hE.t rfl) rfl (by assumption) | (apply y_load_ro rfl (hE.t rfl) rfl; (focus ((repeat constructor); done)); (focus assumption)) | (apply y_load_q rfl (hE.t rfl) rfl (by assumption); (focus ((repeat constructor); done)); (first | ((focus exact f0); (focus omega)) | ((focus exact f1); (focus omega)) | ((focus assumption); (focus omega)))))
  · with_reducible (repeat (first | exact calm_body | apply calm_then | apply calm_block))
  · kernel_rfl
  · rfl
  apply d_take 2 rfl
  · exact y_move rfl
  · with_reducible (repeat (first | exact calm_body | apply calm_then | apply calm_block))
  · kernel_rfl
  · rfl
  apply d_take 3 rfl
  · (first | exact y_indexAddr1 rfl rfl (hE.t rfl) (by omega) (by omega) | exact y_indexAddr rfl rfl (hE.t rfl) (by omega) (by omega))
  · with_reducible (repeat (first | exact calm_body | apply calm_then | apply calm_block))
  · kernel_rfl
  · rfl
  apply d_take 4 rfl
  · (first | (apply y_load rfl (hE.t rfl) rfl; (repeat (first | rfl | assumption | constructor)); done) | exact y_load_old rfl (hE.t rfl) rfl (by assumption) | (apply y_load_ro rfl (hE.t rfl) rfl; (focus ((repeat constructor); done)); (focus assumption)) | (apply y_load_q rfl (hE.t rfl) rfl (by assumption); (focus ((repeat constructor); done)); (first | ((focus exact f0); (focus omega)) | ((focus exact f1); (focus omega)) | ((focus assumption); (focus omega)))))
  · with_reducible (repeat (first | exact calm_body | apply calm_then | apply calm_block))
  · kernel_rfl
  · rfl
  apply d_take 5 rfl
  · (first | (apply y_load rfl (hE.t rfl) rfl; (repeat (first | rfl | assumption | constructor)); done) | exact y_load_old rfl (hE.t rfl) rfl (by assumption) | (apply y_load_ro rfl (hE.t rfl) rfl; (focus ((repeat constructor); done)); (focus assumption)) | (apply y_load_q rfl (hE.t rfl) rfl (by assumption); (focus ((repeat constructor); done)); (first | ((focus exact f0); (focus omega)) | ((focus exact f1); (focus omega)) | ((focus assumption); (focus omega)))))
  · with_reducible (repeat (first | exact calm_body | apply calm_then | apply calm_block))
  · kernel_rfl
  · rfl
  apply d_loud 6 rfl (by kernel_rfl) rfl
  apply ld_call (ct_compare hE hB gu hx hl) rfl (hE.f (by kernel_rfl))
  · ((repeat constructor); done)
  rintro _ _ ⟨rfl, rfl⟩
  simp only [List.cons_append, List.nil_append]
  refine ⟨by (apply ent; (repeat constructor); done), ?_⟩
  apply d_take 7 rfl
  · exact y_ge rfl rfl
  · with_reducible (repeat (first | exact calm_body | apply calm_then | apply calm_block))
  · kernel_rfl
  · rfl
  apply d_take 8 rfl
  · exact y_assign rfl
  · with_reducible (repeat (first | exact calm_body | apply calm_then | apply calm_block))
  · kernel_rfl
  · rfl
  refine d_nil (by kernel_rfl) ?_
  refine a_then (w_ret ?_)
  apply a_ret
  · rfl
  · (apply Rs.tmp rfl; exact Rs.nil)
  · exact ⟨rfl, rfl⟩
  · (apply ent; (repeat constructor); done)
end Go.Proofs.YtoenonlkdmdlcaaGreatDoor
/- Package order: search, Search; evergreenref27.Sorted, Search. -/
namespace Go.Proofs.YtoenonlkdmdlcaaGreatDoor
open Go Go.RowKit Sl Eg
set_option maxRecDepth 10000
variable {E : Env} {Es : List Ent} {pp tb s most : Nat}
theorem getD_of {l : List Nat} {i u : Nat} (h : l[i]? = some u) : l.getD i 0 = u := by rw [List.getD_eq_getElem?_getD, h]; rfl
theorem ct_osearch (hE : Seat E) (hB : Base E.w0) {ids : List Nat} {x : Nat} (hg : ∀ x ∈ ids, good (rls Es) x) (hx : good (rls Es) x) (hl : ∀ y ∈ ids, len (rls Es) y + len (rls Es) x < 8388608) (hn : ids.length ≤ 1099511627776) {a : Option Addr} {c : Nat} {q : HP} (hq : Rdb E.w0 a (idC ids) q) (hs : Srt (ids.map (txt (rls Es)))) :
    Ct E 19 [.pointer (some ⟨pp, 0, none⟩), .slice a ids.length c, .int .i64 (x : Nat)] [cells pp [.pointer (some ⟨s, 0, none⟩), .pointer (some ⟨tb, 0, none⟩)] 59, tabP tb s (rls Es), storeP s most Es, q] (fun v Q => v = .int .i64 (srch (ids.map (txt (rls Es))) (txt (rls Es) x) : Nat) ∧ Q = [cells pp [.pointer (some ⟨s, 0, none⟩), .pointer (some ⟨tb, 0, none⟩)] 59, tabP tb s (rls Es), storeP s most Es, q]) := by
  have hgo : goFn E.P 36 = true := hE.f (by kernel_rfl)
  have hml : srch (ids.map (txt (rls Es))) (txt (rls Es) x) ≤ ids.length := by have := cnt_le (fun A => decide (cmpT A (txt (rls Es) x) < 0)) (ids.map (txt (rls Es))); rw [List.length_map] at this; exact this
  refine fn_enter (hE.fn Tryz.func19) rfl rfl rfl (fun R => ?_)
  simp only [argsL, List.cons_append, List.nil_append]
  refine w_seq (w_region ?_)
  apply l_loud (by kernel_rfl) rfl
  refine ld_box rfl (fun b3 => ?_)
  apply l_loud (by kernel_rfl) rfl
  refine ld_box rfl (fun b4 => ?_)
  apply l_loud (by kernel_rfl) rfl
  refine ld_box rfl (fun b5 => ?_)
  refine l_yield (y_assign rfl) rfl ?_
  refine l_nil (a_then (w_seq (w_region ?_)))
  apply l_yield
  · (first | (apply y_load rfl (hE.t rfl) rfl; (repeat (first | rfl | assumption | constructor)); done) | exact y_load_old rfl (hE.t rfl) rfl (by assumption) | (apply y_load_ro rfl (hE.t rfl) rfl; (focus ((repeat constructor); done)); (focus assumption)) | (apply y_load_q rfl (hE.t rfl) rfl (by assumption); (focus ((repeat constructor); done)); (first | ((focus exact f0); (focus omega)) | ((focus exact f1); (focus omega)) | ((focus assumption); (focus omega)))))
  · rfl
  refine l_yield (y_len_slice rfl (hE.t rfl)) rfl ?_
  refine l_yield (y_makeFunc rfl) rfl ?_
  have hcl : ∀ i, i < ids.length → Ct E 36 (.int .i64 (i : Nat) :: [.pointer (some ⟨b3, 0, none⟩), .pointer (some ⟨b4, 0, none⟩), .pointer (some ⟨b5, 0, none⟩)]) [stars [cells b3 [.pointer (some ⟨pp, 0, none⟩)] 25, cells b4 [.slice a ids.length c] 26, cells b5 [.int .i64 (x : Nat)] 23, cells pp [.pointer (some ⟨s, 0, none⟩), .pointer (some ⟨tb, 0, none⟩)] 59, tabP tb s (rls Es), storeP s most Es, q]] (fun v Q => v = .bool (decide (0 ≤ cmpT (txt (rls Es) (ids.getD i 0)) (txt (rls Es) x))) ∧ Q = [stars [cells b3 [.pointer (some ⟨pp, 0, none⟩)] 25, cells b4 [.slice a ids.length c] 26, cells b5 [.int .i64 (x : Nat)] 23, cells pp [.pointer (some ⟨s, 0, none⟩), .pointer (some ⟨tb, 0, none⟩)] 59, tabP tb s (rls Es), storeP s most Es, q]]) := by
    intro i hi
    obtain ⟨g, o, rfl, hqq⟩ := rdb_id hq (by intro e; rw [e] at hi; simp at hi)
    obtain ⟨u, hu⟩ : ∃ u, ids[i]? = some u := ⟨_, List.getElem?_eq_getElem hi⟩
    rw [getD_of hu]
    have hum := List.mem_of_getElem? hu
    exact ct_pack (ct_search1 hE hB hu (hg u hum) hx (hl u hum) hqq)
  have h0 : ∀ i, i < srch (ids.map (txt (rls Es))) (txt (rls Es) x) → decide (0 ≤ cmpT (txt (rls Es) (ids.getD i 0)) (txt (rls Es) x)) = false := by
    intro i hi
    obtain ⟨u, hu⟩ : ∃ u, ids[i]? = some u := ⟨_, List.getElem?_eq_getElem (by omega)⟩
    rw [getD_of hu]
    have := srch_lt hi (show (ids.map (txt (rls Es)))[i]? = some (txt (rls Es) u) by simp [hu])
    exact decide_eq_false (by omega)
  have h1 : ∀ i, srch (ids.map (txt (rls Es))) (txt (rls Es) x) ≤ i → i < ids.length → decide (0 ≤ cmpT (txt (rls Es) (ids.getD i 0)) (txt (rls Es) x)) = true := by
    intro i hi hil
    obtain ⟨u, hu⟩ : ∃ u, ids[i]? = some u := ⟨_, List.getElem?_eq_getElem hil⟩
    rw [getD_of hu]
    exact decide_eq_true (srch_ge hs hi (show (ids.map (txt (rls Es)))[i]? = some (txt (rls Es) u) by simp [hu]))
  apply l_loud (by kernel_rfl) rfl
  apply ld_call (ct_spread (ct_sortSearch hE hgo hn hcl hml h0 h1)) rfl (hE.f (by kernel_rfl))
  · ((repeat constructor); done)
  rintro _ _ ⟨rfl, rfl⟩
  simp only [List.cons_append, List.nil_append]
  refine l_yield (y_assign rfl) rfl ?_
  refine l_nil (a_then (w_ret ?_))
  apply a_ret
  · rfl
  · (apply Rs.tmp rfl; exact Rs.nil)
  · exact ⟨rfl, rfl⟩
  · (apply ent; (repeat constructor); done)
theorem ct_Search (hE : Seat E) (hB : Base E.w0) {ids : List Nat} {x : Nat} (hg : ∀ x ∈ ids, good (rls Es) x) (hx : good (rls Es) x) (hl : ∀ x ∈ ids, len (rls Es) x ≤ 4000000) (hlx : len (rls Es) x ≤ 4000000) (hn : ids.length ≤ 1099511627776) {a : Option Addr} {c : Nat} {q : HP} (hq : Rdb E.w0 a (idC ids) q) (hs : Srt (ids.map (txt (rls Es)))) :
    Ct E 6 [.pointer (some ⟨pp, 0, none⟩), .slice a ids.length c, .int .i64 (x : Nat)] [cells pp [.pointer (some ⟨s, 0, none⟩), .pointer (some ⟨tb, 0, none⟩)] 59, tabP tb s (rls Es), storeP s most Es, q] (fun v Q => ∃ r : Bool, v = .tuple #[.int .i64 (srch (ids.map (txt (rls Es))) (txt (rls Es) x) : Nat), .bool r, .nilIface] ∧ (r = true ↔ ∃ u, ids[srch (ids.map (txt (rls Es))) (txt (rls Es) x)]? = some u ∧ txt (rls Es) u = txt (rls Es) x) ∧ Q = [cells pp [.pointer (some ⟨s, 0, none⟩), .pointer (some ⟨tb, 0, none⟩)] 59, tabP tb s (rls Es), storeP s most Es, q]) := by
  have hl2 : ∀ y ∈ ids, len (rls Es) y + len (rls Es) x < 8388608 := fun y hy => by have := hl y hy; omega
  have hbb : true = true ↔ Srt (ids.map (txt (rls Es))) := ⟨fun _ => hs, fun _ => rfl⟩
  refine fn_enter (hE.fn Tryz.func6) rfl rfl rfl (fun R => ?_)
  simp only [argsL, List.cons_append, List.nil_append]
  refine w_seq (w_region ?_)
  refine l_yield (y_assign rfl) rfl ?_
  refine l_yield (y_assign rfl) rfl ?_
  refine l_yield (y_assign rfl) rfl ?_
  refine l_nil (a_then (w_seq (w_seq (w_region ?_))))
  refine l_yield (y_move rfl) rfl ?_
  refine l_yield (y_move rfl) rfl ?_
  refine l_yield (y_move rfl) rfl ?_
  apply l_loud (by kernel_rfl) rfl
  apply ld_call (ct_checkSorted hE hB hg hx hl hn hq hbb) rfl (hE.f (by kernel_rfl))
  · ((repeat constructor); done)
  rintro _ _ ⟨rfl, rfl⟩
  simp only [List.cons_append, List.nil_append]
  refine l_yield (y_assign rfl) rfl ?_
  refine l_nil (a_then (w_seq (w_region ?_)))
  refine l_yield (y_move rfl) rfl ?_
  apply l_yield
  · (first | exact y_ok_ne rfl (hE.t rfl) | exact y_err_ne rfl (hE.t rfl))
  · rfl
  refine l_nil (a_then ?_)
  refine w_cond_f rfl ?_
  refine w_skip (a_then (w_seq (w_region ?_)))
  refine l_yield (y_move rfl) rfl ?_
  refine l_yield (y_move rfl) rfl ?_
  refine l_yield (y_move rfl) rfl ?_
  apply l_loud (by kernel_rfl) rfl
  apply ld_call (ct_osearch hE hB hg hx hl2 hn hq hs) rfl (hE.f (by kernel_rfl))
  · ((repeat constructor); done)
  rintro _ _ ⟨rfl, rfl⟩
  simp only [List.cons_append, List.nil_append]
  generalize srch (ids.map (txt (rls Es))) (txt (rls Es) x) = m
  refine l_yield (y_assign rfl) rfl ?_
  refine l_nil (a_then (w_seq (w_region ?_)))
  refine l_yield (y_move rfl) rfl ?_
  refine l_yield (y_move rfl) rfl ?_
  refine l_yield (y_move rfl) rfl ?_
  refine l_yield (y_len_slice rfl (hE.t rfl)) rfl ?_
  refine l_yield (y_lt rfl rfl) rfl ?_
  refine l_yield (y_move rfl) rfl ?_
  refine l_split 27 rfl (fun h2 => ?_) (fun h2 => ?_)
  · skip
    have hm : m < ids.length := by omega
    obtain ⟨g, o, rfl, hqq⟩ := rdb_id hq (by intro e; rw [e] at hm; simp at hm)
    obtain ⟨u, hu⟩ : ∃ u, ids[m]? = some u := ⟨_, List.getElem?_eq_getElem hm⟩
    have hum := List.mem_of_getElem? hu
    have f0 := idC_get hu m rfl
    refine l_on rfl rfl ?_
    refine l_yield (y_move rfl) rfl ?_
    refine l_on rfl rfl ?_
    refine l_yield (y_move rfl) rfl ?_
    refine l_on rfl rfl ?_
    refine l_yield (y_move rfl) rfl ?_
    refine l_on rfl rfl ?_
    apply l_yield
    · (first | exact y_indexAddr1 rfl rfl (hE.t rfl) (by omega) (by omega) | exact y_indexAddr rfl rfl (hE.t rfl) (by omega) (by omega))
    · rfl
    refine l_on rfl rfl ?_
    apply l_yield
    · (first | (apply y_load rfl (hE.t rfl) rfl; (repeat (first | rfl | assumption | constructor)); done) | exact y_load_old rfl (hE.t rfl) rfl (by assumption) | (apply y_load_ro rfl (hE.t rfl) rfl; (focus ((repeat constructor); done)); (focus assumption)) | (apply y_load_q rfl (hE.t rfl) rfl (by assumption); (focus ((repeat constructor); done)); (first | ((focus exact f0); (focus omega)) | ((focus exact f1); (focus omega)) | ((focus assumption); (focus omega)))))
    · rfl
    refine l_on rfl rfl ?_
    refine l_yield (y_move rfl) rfl ?_
    refine l_on rfl rfl ?_
    apply l_loud (by kernel_rfl) rfl
    apply ld_call (ct_compare hE hB (hg u hum) hx (hl2 u hum)) rfl (hE.f (by kernel_rfl))
    · ((repeat constructor); done)
    rintro _ _ ⟨rfl, rfl⟩
    simp only [List.cons_append, List.nil_append]
    refine l_on rfl rfl ?_
    refine l_yield (y_eq rfl rfl) rfl ?_
    apply l_yield
    · (first | exact y_pick_t rfl rfl | exact y_pick_f rfl rfl)
    · rfl
    refine l_yield (y_assign rfl) rfl ?_
    refine l_yield (y_assign rfl) rfl ?_
    refine l_yield (y_assign rfl) rfl ?_
    refine l_nil (a_then (w_ret ?_))
    apply a_ret
    · rfl
    · (apply Rs.tmp rfl; apply Rs.tmp rfl; apply Rs.tmp rfl; exact Rs.nil)
    · refine ⟨decide (cmpT (txt (rls Es) u) (txt (rls Es) x) = 0), rfl, ?_, rfl⟩
      rw [decide_eq_true_iff, cmpT_zero]
      exact ⟨fun e => ⟨u, hu, e⟩, fun ⟨v, hv, e⟩ => by rw [hu] at hv; cases hv; exact e⟩
    · (apply ent; (repeat constructor); done)
  · skip
    refine l_off rfl rfl rfl rfl (l_off rfl rfl rfl rfl (l_off rfl rfl rfl rfl (l_off rfl rfl rfl rfl (l_off rfl rfl rfl rfl (l_off rfl rfl rfl rfl (l_off rfl rfl rfl rfl (l_off rfl rfl rfl rfl ?_)))))))
    apply l_yield
    · (first | exact y_pick_t rfl rfl | exact y_pick_f rfl rfl)
    · rfl
    refine l_yield (y_assign rfl) rfl ?_
    refine l_yield (y_assign rfl) rfl ?_
    refine l_yield (y_assign rfl) rfl ?_
    refine l_nil (a_then (w_ret ?_))
    apply a_ret
    · rfl
    · (apply Rs.tmp rfl; apply Rs.tmp rfl; apply Rs.tmp rfl; exact Rs.nil)
    · refine ⟨false, rfl, ⟨fun h => (by cases h), fun ⟨v, hv, _⟩ => ?_⟩, rfl⟩
      have := (List.getElem?_eq_some_iff.1 hv).1
      omega
    · (apply ent; (repeat constructor); done)
theorem ct_Search_no (hE : Seat E) (hB : Base E.w0) {ids : List Nat} {x : Nat} (hg : ∀ x ∈ ids, good (rls Es) x) (hx : good (rls Es) x) (hl : ∀ x ∈ ids, len (rls Es) x ≤ 4000000) (hn : ids.length ≤ 1099511627776) {a : Option Addr} {c : Nat} {q : HP} (hq : Rdb E.w0 a (idC ids) q) (hs : ¬ Srt (ids.map (txt (rls Es)))) :
    Ct E 6 [.pointer (some ⟨pp, 0, none⟩), .slice a ids.length c, .int .i64 (x : Nat)] [cells pp [.pointer (some ⟨s, 0, none⟩), .pointer (some ⟨tb, 0, none⟩)] 59, tabP tb s (rls Es), storeP s most Es, q] (fun v Q => v = .tuple #[.int .i64 0, .bool false, .iface 34 (.int .i64 4)] ∧ Q = [cells pp [.pointer (some ⟨s, 0, none⟩), .pointer (some ⟨tb, 0, none⟩)] 59, tabP tb s (rls Es), storeP s most Es, q]) := by
  have hbb : false = true ↔ Srt (ids.map (txt (rls Es))) := ⟨fun h => (by cases h), fun h => absurd h hs⟩
  refine fn_enter (hE.fn Tryz.func6) rfl rfl rfl (fun R => ?_)
  simp only [argsL, List.cons_append, List.nil_append]
  refine w_seq (w_region ?_)
  refine l_yield (y_assign rfl) rfl ?_
  refine l_yield (y_assign rfl) rfl ?_
  refine l_yield (y_assign rfl) rfl ?_
  refine l_nil (a_then (w_seq (w_seq (w_region ?_))))
  refine l_yield (y_move rfl) rfl ?_
  refine l_yield (y_move rfl) rfl ?_
  refine l_yield (y_move rfl) rfl ?_
  apply l_loud (by kernel_rfl) rfl
  apply ld_call (ct_checkSorted hE hB hg hx hl hn hq hbb) rfl (hE.f (by kernel_rfl))
  · ((repeat constructor); done)
  rintro _ _ ⟨rfl, rfl⟩
  simp only [List.cons_append, List.nil_append]
  refine l_yield (y_assign rfl) rfl ?_
  refine l_nil (a_then (w_seq (w_region ?_)))
  refine l_yield (y_move rfl) rfl ?_
  apply l_yield
  · (first | exact y_ok_ne rfl (hE.t rfl) | exact y_err_ne rfl (hE.t rfl))
  · rfl
  refine l_nil (a_then ?_)
  refine w_cond_t rfl ?_
  refine w_seq (w_region ?_)
  refine l_yield (y_move rfl) rfl ?_
  refine l_yield (y_assign rfl) rfl ?_
  refine l_yield (y_assign rfl) rfl ?_
  refine l_yield (y_assign rfl) rfl ?_
  refine l_nil (a_then (w_ret (a_then_ret ?_)))
  apply a_ret
  · rfl
  · (apply Rs.tmp rfl; apply Rs.tmp rfl; apply Rs.tmp rfl; exact Rs.nil)
  · exact ⟨rfl, rfl⟩
  · (apply ent; (repeat constructor); done)
theorem rdb_tx {w0 : World} {a : Option Addr} {q : HP} {ts : List Tx} (h : Rdb w0 a (ts.map txV) q) : ts ≠ [] → ∃ g o, a = some ⟨g, o, none⟩ ∧ ∀ k, q k → RdAt w0 g o (ts.map txV) k := fun hn => h (by simpa using hn)
def bss (ts : List Tx) : List (List UInt8) := ts.map Tx.bs
theorem bss_get {ts : List Tx} {k : Nat} {t : Tx} (h : ts[k]? = some t) : (bss ts)[k]? = some t.bs := by simp [bss, h]
end Go.Proofs.YtoenonlkdmdlcaaGreatDoor
